/- The law CpuBranches, as the row. No condition. -/
import Derived.Test.YtlhcggaeecjbcaaLawi
import Derived.Test.YtlhcggaeecjbcaaLawf
namespace Go.Proofs.Ytlhcggaeecjbcaa
open Go.ChangeShapes Go.WideShapes Go.ChangeAt Go.RowKit
set_option maxRecDepth 20000

theorem branches_true : LawTrue 15 Try.f15 := by
  intro H enc W base args ds p hval hA _ hsz
  obtain ⟨v, v', v'', d, d', d'', p1, p2, p3, rfl, rfl, rfl, h1, h2, h3⟩ := trodAll_three (t := 27) (t' := 27) (t'' := 81) hA
  obtain ⟨a, rfl, a0, a1⟩ := open_intk Try.underlying27 (hval 0 27 v rfl rfl)
  obtain ⟨b, rfl, b0, b1⟩ := open_intk Try.underlying27 (hval 1 27 v' rfl rfl)
  obtain ⟨f, rfl, f0, f1⟩ := open_intk Try.underlying81 (hval 2 81 v'' rfl rfl)
  exact br_walk a b f W ⟨a0, a1⟩ ⟨b0, b1⟩ f0 f1

set_option maxRecDepth 100000 in
theorem branches_holds : Rows.CpuBranchesSaid :=
  OpenClaim.holds_of_wide 15 Try.f15 rfl rfl rfl rfl rfl rfl rfl ⟨rfl, rfl, rfl, rfl, rfl⟩ rfl rfl rfl rfl rfl (by kernel_rfl) Try.func15 (by kernel_rfl)
    (of_decide_eq_true (by kernel_rfl)) (by unfold Func.isWrapper; rw [if_neg (of_decide_eq_false (by kernel_rfl))]; exact ⟨rfl, rfl⟩)
    (fun os started H enc _ => law_lifted os started H enc 15 Try.f15 Rows.cpuBranchesSpec Try.func15 (by kernel_rfl) (by kernel_rfl) (by kernel_rfl) rfl
      (fun ds h => by match ds, h with | [_, _, _], _ => rfl)
      (ChangeSpec.witness6 (enc := enc) (C := Try.checked) false ⟨#[], #[.int .u32 0, .int .u32 0, .int .i16 0], []⟩ 8 (by kernel_rfl) (by kernel_rfl) (by kernel_rfl) (by kernel_rfl))
      branches_true)
end Go.Proofs.Ytlhcggaeecjbcaa
