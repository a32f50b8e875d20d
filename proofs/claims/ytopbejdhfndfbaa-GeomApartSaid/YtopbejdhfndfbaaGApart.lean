/- The law GeomApart, as the row. No condition. -/
import Derived.Test.YtopbejdhfndfbaaGeoJ
import Derived.Test.YtopbejdhfndfbaaArg2
namespace Go.Proofs.Ytopbejdhfndfbaa
open Go.ChangeShapes Go.WideShapes Go.ChangeAt Go.RowKit
set_option maxRecDepth 20000

theorem apart_true : LawTrue 6 Try.f6 := by
  intro H enc W base args ds p hval hA _ _
  obtain ⟨v, v', v'', d, d', d'', p1, p2, p3, rfl, rfl, rfl, h1, h2, h3⟩ := trodAll_three (t := 39) (t' := 40) (t'' := 9) hA
  obtain ⟨a, b, rfl, a0, a1, b0, b1⟩ := open_two (hval 0 39 v rfl rfl)
  obtain ⟨l, hl⟩ := open_i16s (hval 1 40 v' rfl rfl) h2
  obtain ⟨x, rfl⟩ := open_str (hval 2 9 v'' rfl rfl)
  exact apart_walk a b v' l x W a0 a1 b0 b1 hl

set_option maxRecDepth 100000 in
theorem apart_holds : Rows.GeomApartSaid :=
  OpenClaim.holds_of_wide 6 Try.f6 rfl rfl rfl rfl rfl rfl rfl ⟨rfl, rfl, rfl, rfl, rfl⟩ rfl rfl rfl rfl rfl (by kernel_rfl) Try.func6 (by kernel_rfl)
    (of_decide_eq_true (by kernel_rfl)) (by unfold Func.isWrapper; rw [if_neg (of_decide_eq_false (by kernel_rfl))]; exact ⟨rfl, rfl⟩)
    (fun os started H enc _ => law_lifted os started H enc 6 Try.f6 Rows.geomApartSpec Try.func6 (by kernel_rfl) (by kernel_rfl) (by kernel_rfl) rfl
      (fun ds h => by match ds, h with | [_, _, _], _ => rfl)
      (ChangeSpec.witness6 (enc := enc) (C := Try.checked) false ⟨#[], #[.agg #[.int .u8 0, .int .u8 0], .slice none 0 0, .string ⟨#[]⟩], []⟩ 8 (by kernel_rfl) (by kernel_rfl) (by kernel_rfl) (by kernel_rfl))
      apart_true)
end Go.Proofs.Ytopbejdhfndfbaa
