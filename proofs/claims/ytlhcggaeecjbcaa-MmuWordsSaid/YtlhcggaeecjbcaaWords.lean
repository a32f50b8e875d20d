/- The law MmuWords, as the row. No condition. -/
import Derived.Test.YtlhcggaeecjbcaaMmu20
namespace Go.Proofs.Ytlhcggaeecjbcaa
open Go.ChangeShapes Go.WideShapes Go.ChangeAt Go.RowKit
set_option maxRecDepth 20000

theorem words_true : LawTrue 8 Try.f8 := by
  intro H enc W base args ds p hval hA _ hsz
  obtain ⟨v, v', d, d', p1, p2, rfl, rfl, rfl, h1, h2⟩ := trodAll_two (t := 22) (t' := 54) hA
  obtain ⟨l, hl, hs, hn⟩ := open_strs (j := 0) (hval 0 22 v rfl rfl) h1 rfl rfl hsz
  obtain ⟨s, a, n, rfl, ha0, ha1, hn1⟩ := open_word (hval 1 54 v' rfl rfl)
  exact words_walk v l s a n W hl (Lib.hid hs) (Lib.hid hn) ha0 ha1 hn1

set_option maxRecDepth 100000 in
theorem words_holds : Rows.MmuWordsSaid :=
  OpenClaim.holds_of_wide 8 Try.f8 rfl rfl rfl rfl rfl rfl rfl ⟨rfl, rfl, rfl, rfl, rfl⟩ rfl rfl rfl rfl rfl (by kernel_rfl) Try.func8 (by kernel_rfl)
    (of_decide_eq_true (by kernel_rfl)) (by unfold Func.isWrapper; rw [if_neg (of_decide_eq_false (by kernel_rfl))]; exact ⟨rfl, rfl⟩)
    (fun os started H enc _ => law_lifted os started H enc 8 Try.f8 Rows.mmuWordsSpec Try.func8 (by kernel_rfl) (by kernel_rfl) (by kernel_rfl) rfl
      (fun ds h => by match ds, h with | [_, _], _ => rfl)
      (ChangeSpec.witness6 (enc := enc) (C := Try.checked) false ⟨#[], #[.slice none 0 0, .agg ((List.replicate 16 [Value.bool false, Value.bool false, Value.int .i64 0]).flatten ++ [Value.int .u32 0, Value.int .u32 0]).toArray], []⟩ 8 (by kernel_rfl) (by kernel_rfl) (by kernel_rfl) (by kernel_rfl))
      words_true)
end Go.Proofs.Ytlhcggaeecjbcaa
