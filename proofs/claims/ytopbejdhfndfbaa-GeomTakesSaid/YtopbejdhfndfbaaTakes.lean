/- The law GeomTakes, as the row. No condition. -/
import Derived.Test.YtopbejdhfndfbaaGeoI
import Derived.Test.YtopbejdhfndfbaaArg2
namespace Go.Proofs.Ytopbejdhfndfbaa
open Go.ChangeShapes Go.WideShapes Go.ChangeAt Go.RowKit
set_option maxRecDepth 20000

theorem takes_true : LawTrue 5 Try.f5 := by
  intro H enc W base args ds p hval hA _ _
  obtain ⟨v, v', d, d', p1, p2, rfl, rfl, rfl, h1, h2⟩ := trodAll_two (t := 39) (t' := 40) hA
  obtain ⟨a, b, rfl, a0, a1, b0, b1⟩ := open_two (hval 0 39 v rfl rfl)
  obtain ⟨l, hl⟩ := open_i16s (hval 1 40 v' rfl rfl) h2
  exact takes_walk a b v' l W a0 a1 b0 b1 hl

set_option maxRecDepth 100000 in
theorem takes_holds : Rows.GeomTakesSaid :=
  OpenClaim.holds_of_wide 5 Try.f5 rfl rfl rfl rfl rfl rfl rfl ⟨rfl, rfl, rfl, rfl, rfl⟩ rfl rfl rfl rfl rfl (by kernel_rfl) Try.func5 (by kernel_rfl)
    (of_decide_eq_true (by kernel_rfl)) (by unfold Func.isWrapper; rw [if_neg (of_decide_eq_false (by kernel_rfl))]; exact ⟨rfl, rfl⟩)
    (fun os started H enc _ => law_lifted os started H enc 5 Try.f5 Rows.geomTakesSpec Try.func5 (by kernel_rfl) (by kernel_rfl) (by kernel_rfl) rfl
      (fun ds h => by match ds, h with | [_, _], _ => rfl)
      (ChangeSpec.witness6 (enc := enc) (C := Try.checked) false ⟨#[], #[.agg #[.int .u8 0, .int .u8 0], .slice none 0 0], []⟩ 8 (by kernel_rfl) (by kernel_rfl) (by kernel_rfl) (by kernel_rfl))
      takes_true)
end Go.Proofs.Ytopbejdhfndfbaa
