/- The law GeomReads, as the row. No condition. -/
import Derived.Test.YtopbejdhfndfbaaGeoG
import Derived.Test.YtopbejdhfndfbaaArgs
namespace Go.Proofs.Ytopbejdhfndfbaa
open Go.ChangeShapes Go.WideShapes Go.ChangeAt Go.RowKit
set_option maxRecDepth 20000

theorem reads_true : LawTrue 4 Try.f4 := by
  intro H enc W base args ds p hval hA _ hsz
  obtain ⟨v, v', d, d', p1, p2, rfl, rfl, rfl, h1, h2⟩ := trodAll_two (t := 28) (t' := 3) hA
  obtain ⟨l, hl, hs, hn⟩ := open_strs (j := 0) (hval 0 28 v rfl rfl) h1 rfl rfl hsz
  obtain ⟨i, rfl, i0, i1⟩ := open_i64 (hval 1 3 v' rfl rfl)
  exact reads_walk v l i W hl (Lib.hid hs) (Lib.hid hn)

set_option maxRecDepth 100000 in
theorem reads_holds : Rows.GeomReadsSaid :=
  OpenClaim.holds_of_wide 4 Try.f4 rfl rfl rfl rfl rfl rfl rfl ⟨rfl, rfl, rfl, rfl, rfl⟩ rfl rfl rfl rfl rfl (by kernel_rfl) Try.func4 (by kernel_rfl)
    (of_decide_eq_true (by kernel_rfl)) (by unfold Func.isWrapper; rw [if_neg (of_decide_eq_false (by kernel_rfl))]; exact ⟨rfl, rfl⟩)
    (fun os started H enc _ => law_lifted os started H enc 4 Try.f4 Rows.geomReadsSpec Try.func4 (by kernel_rfl) (by kernel_rfl) (by kernel_rfl) rfl
      (fun ds h => by match ds, h with | [_, _], _ => rfl)
      (ChangeSpec.witness6 (enc := enc) (C := Try.checked) false ⟨#[], #[.slice none 0 0, .int .i64 0], []⟩ 8 (by kernel_rfl) (by kernel_rfl) (by kernel_rfl) (by kernel_rfl))
      reads_true)
end Go.Proofs.Ytopbejdhfndfbaa
