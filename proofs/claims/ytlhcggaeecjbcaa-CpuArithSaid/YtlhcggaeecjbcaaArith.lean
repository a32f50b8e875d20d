/- The law CpuArith, as the row. No condition. -/
import Derived.Test.YtlhcggaeecjbcaaLawn
namespace Go.Proofs.Ytlhcggaeecjbcaa
open Go.ChangeShapes Go.WideShapes Go.ChangeAt Go.RowKit
set_option maxRecDepth 20000

theorem arith_true : LawTrue 11 Try.f11 := by
  intro H enc W base args ds p hval hA _ hsz
  obtain ⟨v, v', d, d', p1, p2, rfl, rfl, rfl, h1, h2⟩ := trodAll_two (t := 68) (t' := 58) hA
  obtain ⟨op, A, B, C, imm, rfl, ho⟩ := open_ins (hval 0 68 v rfl rfl)
  obtain ⟨r, pc, rfl, hr, h0, hp1⟩ := open_cpu (hval 1 58 v' rfl rfl)
  exact ar_all op A B C imm r pc W ho hr

set_option maxRecDepth 100000 in
theorem arith_holds : Rows.CpuArithSaid :=
  OpenClaim.holds_of_wide 11 Try.f11 rfl rfl rfl rfl rfl rfl rfl ⟨rfl, rfl, rfl, rfl, rfl⟩ rfl rfl rfl rfl rfl (by kernel_rfl) Try.func11 (by kernel_rfl)
    (of_decide_eq_true (by kernel_rfl)) (by unfold Func.isWrapper; rw [if_neg (of_decide_eq_false (by kernel_rfl))]; exact ⟨rfl, rfl⟩)
    (fun os started H enc _ => law_lifted os started H enc 11 Try.f11 Rows.cpuArithSpec Try.func11 (by kernel_rfl) (by kernel_rfl) (by kernel_rfl) rfl
      (fun ds h => by match ds, h with | [_, _], _ => rfl)
      (ChangeSpec.witness6 (enc := enc) (C := Try.checked) false ⟨#[], #[.agg #[.int .u8 0, .int .u8 0, .int .u8 0, .int .u8 0, .int .i32 0], .agg (List.replicate 17 (Value.int .u32 0)).toArray], []⟩ 8 (by kernel_rfl) (by kernel_rfl) (by kernel_rfl) (by kernel_rfl))
      arith_true)
end Go.Proofs.Ytlhcggaeecjbcaa
