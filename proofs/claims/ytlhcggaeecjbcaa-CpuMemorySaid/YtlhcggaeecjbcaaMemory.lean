/- The law CpuMemory, as the row. No condition. -/
import Derived.Test.YtlhcggaeecjbcaaLawm
import Derived.Test.YtlhcggaeecjbcaaLawf
namespace Go.Proofs.Ytlhcggaeecjbcaa
open Go.ChangeShapes Go.WideShapes Go.ChangeAt Go.RowKit
set_option maxRecDepth 20000

theorem memory_true : LawTrue 14 Try.f14 := by
  intro H enc W base args ds p hval hA _ hsz
  obtain ⟨v, v', v'', d, d', d'', p1, p2, p3, rfl, rfl, rfl, h1, h2, h3⟩ := trodAll_three (t := 27) (t' := 5) (t'' := 5) hA
  obtain ⟨a, rfl, a0, a1⟩ := open_intk Try.underlying27 (hval 0 27 v rfl rfl)
  obtain ⟨b, rfl, b0, b1⟩ := open_u8 (hval 1 5 v' rfl rfl)
  obtain ⟨c, rfl, c0, c1⟩ := open_u8 (hval 2 5 v'' rfl rfl)
  exact mem_all a b c W a0 a1 b0 b1 c0 c1

set_option maxRecDepth 100000 in
theorem memory_holds : Rows.CpuMemorySaid :=
  OpenClaim.holds_of_wide 14 Try.f14 rfl rfl rfl rfl rfl rfl rfl ⟨rfl, rfl, rfl, rfl, rfl⟩ rfl rfl rfl rfl rfl (by kernel_rfl) Try.func14 (by kernel_rfl)
    (of_decide_eq_true (by kernel_rfl)) (by unfold Func.isWrapper; rw [if_neg (of_decide_eq_false (by kernel_rfl))]; exact ⟨rfl, rfl⟩)
    (fun os started H enc _ => law_lifted os started H enc 14 Try.f14 Rows.cpuMemorySpec Try.func14 (by kernel_rfl) (by kernel_rfl) (by kernel_rfl) rfl
      (fun ds h => by match ds, h with | [_, _, _], _ => rfl)
      (ChangeSpec.witness6 (enc := enc) (C := Try.checked) false ⟨#[], #[.int .u32 0, .int .u8 0, .int .u8 0], []⟩ 8 (by kernel_rfl) (by kernel_rfl) (by kernel_rfl) (by kernel_rfl))
      memory_true)
end Go.Proofs.Ytlhcggaeecjbcaa
