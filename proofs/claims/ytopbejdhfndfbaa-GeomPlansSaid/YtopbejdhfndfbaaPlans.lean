/- The law GeomPlans, as the row. No condition. -/
import Derived.Test.YtopbejdhfndfbaaGeoF
import Derived.Test.YtopbejdhfndfbaaArgs
namespace Go.Proofs.Ytopbejdhfndfbaa
open Go.ChangeShapes Go.WideShapes Go.ChangeAt Go.RowKit
set_option maxRecDepth 20000

theorem plans_true : LawTrue 3 Try.f3 := by
  intro H enc W base args ds p hval hA _ _
  obtain ⟨v, v', d, d', p1, p2, rfl, rfl, rfl, h1, h2⟩ := trodAll_two (t := 3) (t' := 3) hA
  obtain ⟨b, rfl, b0, b1⟩ := open_i64 (hval 0 3 v rfl rfl)
  obtain ⟨i, rfl, i0, i1⟩ := open_i64 (hval 1 3 v' rfl rfl)
  exact plans_walk b i W b0 b1 i1

set_option maxRecDepth 100000 in
theorem plans_holds : Rows.GeomPlansSaid :=
  OpenClaim.holds_of_wide 3 Try.f3 rfl rfl rfl rfl rfl rfl rfl ⟨rfl, rfl, rfl, rfl, rfl⟩ rfl rfl rfl rfl rfl (by kernel_rfl) Try.func3 (by kernel_rfl)
    (of_decide_eq_true (by kernel_rfl)) (by unfold Func.isWrapper; rw [if_neg (of_decide_eq_false (by kernel_rfl))]; exact ⟨rfl, rfl⟩)
    (fun os started H enc _ => law_lifted os started H enc 3 Try.f3 Rows.geomPlansSpec Try.func3 (by kernel_rfl) (by kernel_rfl) (by kernel_rfl) rfl
      (fun ds h => by match ds, h with | [_, _], _ => rfl)
      (ChangeSpec.witness6 (enc := enc) (C := Try.checked) false ⟨#[], #[.int .i64 0, .int .i64 0], []⟩ 8 (by kernel_rfl) (by kernel_rfl) (by kernel_rfl) (by kernel_rfl))
      plans_true)
end Go.Proofs.Ytopbejdhfndfbaa
