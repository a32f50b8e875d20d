/- The law CpuLittle, as the row. No condition. -/
import Derived.Test.YtlhcggaeecjbcaaLawp
namespace Go.Proofs.Ytlhcggaeecjbcaa
open Go.ChangeShapes Go.WideShapes Go.ChangeAt Go.RowKit
set_option maxRecDepth 20000

theorem little_true : LawTrue 12 Try.f12 := by
  intro H enc W base args ds p hval hA _ hsz
  obtain ⟨v, v', v'', d, d', d'', p1, p2, p3, rfl, rfl, rfl, h1, h2, h3⟩ := trodAll_three (t := 58) (t' := 26) (t'' := 22) hA
  obtain ⟨r, pc, rfl, hr, h0, hp1⟩ := open_cpu (hval 0 58 v rfl rfl)
  obtain ⟨s, rfl⟩ := open_space (hval 1 26 v' rfl rfl)
  obtain ⟨l, hl, hs, hn⟩ := open_strs (j := 2) (hval 2 22 v'' rfl rfl) h3 rfl rfl hsz
  exact little_walk v'' l s r pc W hl (Lib.hid hs) (Lib.hid hn) hr h0 hp1

set_option maxRecDepth 100000 in
theorem little_holds : Rows.CpuLittleSaid :=
  OpenClaim.holds_of_wide 12 Try.f12 rfl rfl rfl rfl rfl rfl rfl ⟨rfl, rfl, rfl, rfl, rfl⟩ rfl rfl rfl rfl rfl (by kernel_rfl) Try.func12 (by kernel_rfl)
    (of_decide_eq_true (by kernel_rfl)) (by unfold Func.isWrapper; rw [if_neg (of_decide_eq_false (by kernel_rfl))]; exact ⟨rfl, rfl⟩)
    (fun os started H enc _ => law_lifted os started H enc 12 Try.f12 Rows.cpuLittleSpec Try.func12 (by kernel_rfl) (by kernel_rfl) (by kernel_rfl) rfl
      (fun ds h => by match ds, h with | [_, _, _], _ => rfl)
      (ChangeSpec.witness6 (enc := enc) (C := Try.checked) false ⟨#[], #[.agg (List.replicate 17 (Value.int .u32 0)).toArray, .agg ((List.replicate 16 [Value.bool false, Value.bool false, Value.int .i64 0]).flatten).toArray, .slice none 0 0], []⟩ 8 (by kernel_rfl) (by kernel_rfl) (by kernel_rfl) (by kernel_rfl))
      little_true)
end Go.Proofs.Ytlhcggaeecjbcaa
