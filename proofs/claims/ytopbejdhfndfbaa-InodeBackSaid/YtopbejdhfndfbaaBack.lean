/- The law InodeBack, as the row. No condition. -/
import Derived.Test.YtopbejdhfndfbaaInoB
import Derived.Test.YtopbejdhfndfbaaArg3
namespace Go.Proofs.Ytopbejdhfndfbaa
open Go.ChangeShapes Go.WideShapes Go.ChangeAt Go.RowKit
set_option maxRecDepth 20000

theorem back_true : LawTrue 9 Try.f9 := by
  intro H enc W base args ds p hval hA _ hsz
  obtain ⟨v0, v1, v2, v3, d0, d1, d2, d3, p0, p1, p2, p3, rfl, rfl, rfl, h0, h1, h2, h3⟩ := trodAll_four hA
  obtain ⟨l, hl, hs, hn⟩ := open_strs (j := 0) (hval 0 28 v0 rfl rfl) h0 rfl rfl hsz
  obtain ⟨n, rfl, -, -⟩ := open_i64 (hval 1 3 v1 rfl rfl)
  obtain ⟨o, rfl, -, -⟩ := open_i64 (hval 2 3 v2 rfl rfl)
  obtain ⟨c, rfl, hc⟩ := open_ino (hval 3 48 v3 rfl rfl)
  exact back_walk v0 l n o c hc W hl (Lib.hid hs) (Lib.hid hn)

set_option maxRecDepth 100000 in
theorem back_holds : Rows.InodeBackSaid :=
  OpenClaim.holds_of_wide 9 Try.f9 rfl rfl rfl rfl rfl rfl rfl ⟨rfl, rfl, rfl, rfl, rfl⟩ rfl rfl rfl rfl rfl (by kernel_rfl) Try.func9 (by kernel_rfl)
    (of_decide_eq_true (by kernel_rfl)) (by unfold Func.isWrapper; rw [if_neg (of_decide_eq_false (by kernel_rfl))]; exact ⟨rfl, rfl⟩)
    (fun os started H enc _ => law_lifted os started H enc 9 Try.f9 Rows.inodeBackSpec Try.func9 (by kernel_rfl) (by kernel_rfl) (by kernel_rfl) rfl
      (fun ds h => by match ds, h with | [_, _, _, _], _ => rfl)
      (ChangeSpec.witness6 (enc := enc) (C := Try.checked) false ⟨#[], #[.slice none 0 0, .int .i64 0, .int .i64 0, .agg #[.int .i64 0, .int .i64 0, .int .i64 0, .int .i64 0, .int .i64 0, .int .i64 0, .int .i64 0, .int .i64 0, .int .i64 0, .int .i64 0, .int .i64 0, .int .i64 0]], []⟩ 8 (by kernel_rfl) (by kernel_rfl) (by kernel_rfl) (by kernel_rfl))
      back_true)
end Go.Proofs.Ytopbejdhfndfbaa
