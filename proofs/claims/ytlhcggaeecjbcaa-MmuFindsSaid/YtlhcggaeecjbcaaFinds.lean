/- The law MmuFinds, as the row. No condition. -/
import Derived.Test.YtlhcggaeecjbcaaMmu15
namespace Go.Proofs.Ytlhcggaeecjbcaa
open Go.ChangeShapes Go.WideShapes Go.ChangeAt Go.RowKit
set_option maxRecDepth 20000

theorem finds_true : LawTrue 7 Try.f7 := by
  intro H enc W base args ds p hval hA _ hsz
  obtain ⟨v, v', v'', d, d', d'', p1, p2, p3, rfl, rfl, rfl, h1, h2, h3⟩ := trodAll_three (t := 22) (t' := 26) (t'' := 48) hA
  obtain ⟨l, hl, hs, hn⟩ := open_strs (j := 0) (hval 0 22 v rfl rfl) h1 rfl rfl hsz
  obtain ⟨s, rfl⟩ := open_space (hval 1 26 v' rfl rfl)
  obtain ⟨a, n, b, x, rfl, ha0, ha1, _, _, hx0, hx1⟩ := open_by (hval 2 48 v'' rfl rfl)
  obtain ⟨x, rfl⟩ := Int.eq_ofNat_of_zero_le hx0
  exact finds_walk v l s a n b x W hl (Lib.hid hs) (Lib.hid hn) ha0 ha1 (by omega)

set_option maxRecDepth 100000 in
theorem finds_holds : Rows.MmuFindsSaid :=
  OpenClaim.holds_of_wide 7 Try.f7 rfl rfl rfl rfl rfl rfl rfl ⟨rfl, rfl, rfl, rfl, rfl⟩ rfl rfl rfl rfl rfl (by kernel_rfl) Try.func7 (by kernel_rfl)
    (of_decide_eq_true (by kernel_rfl)) (by unfold Func.isWrapper; rw [if_neg (of_decide_eq_false (by kernel_rfl))]; exact ⟨rfl, rfl⟩)
    (fun os started H enc _ => law_lifted os started H enc 7 Try.f7 Rows.mmuFindsSpec Try.func7 (by kernel_rfl) (by kernel_rfl) (by kernel_rfl) rfl
      (fun ds h => by match ds, h with | [_, _, _], _ => rfl)
      (ChangeSpec.witness6 (enc := enc) (C := Try.checked) false ⟨#[], #[.slice none 0 0, .agg ((List.replicate 16 [Value.bool false, Value.bool false, Value.int .i64 0]).flatten.toArray), .agg #[.int .u32 0, .int .i64 0, .bool false, .int .u32 0]], []⟩ 8 (by kernel_rfl) (by kernel_rfl) (by kernel_rfl) (by kernel_rfl))
      finds_true)
end Go.Proofs.Ytlhcggaeecjbcaa
