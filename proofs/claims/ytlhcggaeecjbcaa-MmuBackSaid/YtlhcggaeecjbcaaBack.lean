/- The law MmuBack, as the row. No condition. -/
import Derived.Test.YtlhcggaeecjbcaaMmu23
namespace Go.Proofs.Ytlhcggaeecjbcaa
open Go.ChangeShapes Go.WideShapes Go.ChangeAt Go.RowKit
set_option maxRecDepth 20000

theorem back_true : LawTrue 4 Try.f4 := by
  intro H enc W base args ds p hval hA _ hsz
  obtain ⟨v, v', v'', d, d', d'', p1, p2, p3, rfl, rfl, rfl, h1, h2, h3⟩ := trodAll_three (t := 22) (t' := 26) (t'' := 29) hA
  obtain ⟨l, hl, hs, hn⟩ := open_strs (j := 0) (hval 0 22 v rfl rfl) h1 rfl rfl hsz
  obtain ⟨s, rfl, hb⟩ := open_space2 (hval 1 26 v' rfl rfl)
  obtain ⟨a, n, x, rfl, ha0, ha1, _, _, _⟩ := open_span (hval 2 29 v'' rfl rfl)
  exact back_walk v l s a n x W hl (Lib.hid hs) (Lib.hid hn) ha0 ha1 hb

set_option maxRecDepth 100000 in
theorem back_holds : Rows.MmuBackSaid :=
  OpenClaim.holds_of_wide 4 Try.f4 rfl rfl rfl rfl rfl rfl rfl ⟨rfl, rfl, rfl, rfl, rfl⟩ rfl rfl rfl rfl rfl (by kernel_rfl) Try.func4 (by kernel_rfl)
    (of_decide_eq_true (by kernel_rfl)) (by unfold Func.isWrapper; rw [if_neg (of_decide_eq_false (by kernel_rfl))]; exact ⟨rfl, rfl⟩)
    (fun os started H enc _ => law_lifted os started H enc 4 Try.f4 Rows.mmuBackSpec Try.func4 (by kernel_rfl) (by kernel_rfl) (by kernel_rfl) rfl
      (fun ds h => by match ds, h with | [_, _, _], _ => rfl)
      (ChangeSpec.witness6 (enc := enc) (C := Try.checked) false ⟨#[], #[.slice none 0 0, .agg ((List.replicate 16 [Value.bool false, Value.bool false, Value.int .i64 0]).flatten.toArray), .agg #[.int .u32 0, .int .i64 0, .string ⟨#[]⟩]], []⟩ 8 (by kernel_rfl) (by kernel_rfl) (by kernel_rfl) (by kernel_rfl))
      back_true)
end Go.Proofs.Ytlhcggaeecjbcaa
