/- The law MmuApart, as the row. No condition. -/
import Derived.Test.YtlhcggaeecjbcaaMmu24
namespace Go.Proofs.Ytlhcggaeecjbcaa
open Go.ChangeShapes Go.WideShapes Go.ChangeAt Go.RowKit
set_option maxRecDepth 20000

theorem open_two {W : World} {base : Nat} {v : Value} (h : Value.okWide Try.prog W .any base 41 v) : ∃ s t, v = .agg (twoCells s t) ∧ Bounded s ∧ Bounded t := by
  obtain ⟨vs, rfl, hc⟩ := open_agg (spTypes 16 (spTypes 16 [])) Try.underlying41 rfl (by kernel_rfl) (by kernel_rfl) h
  obtain ⟨ps, rs, hl, rfl, hr, hb⟩ := open_pages2 16 (spTypes 16 []) vs hc
  obtain ⟨ps2, rs2, hl2, rfl, hr2, hb2⟩ := open_pages2 16 [] rs hr
  cases rs2 with
  | cons _ _ => cases hr2
  | nil =>
    refine ⟨fun i => ps.getD i ⟨false, false, 0⟩, fun i => ps2.getD i ⟨false, false, 0⟩, ?_, bounded_of hb, bounded_of hb2⟩
    rw [List.append_nil, pages_fn ps, pages_fn ps2, hl, hl2]
    simp [twoCells, spCells]
theorem apartL_true : LawTrue 5 Try.f5 := by
  intro H enc W base args ds p hval hA _ hsz
  obtain ⟨v, v', v'', d, d', d'', p1, p2, p3, rfl, rfl, rfl, h1, h2, h3⟩ := trodAll_three (t := 22) (t' := 41) (t'' := 29) hA
  obtain ⟨l, hl, hs, hn⟩ := open_strs (j := 0) (hval 0 22 v rfl rfl) h1 rfl rfl hsz
  obtain ⟨s, t, rfl, hbs, hbt⟩ := open_two (hval 1 41 v' rfl rfl)
  obtain ⟨a, n, x, rfl, ha0, ha1, _, _, _⟩ := open_span (hval 2 29 v'' rfl rfl)
  exact apartL_walk v l s t a n x W hl (Lib.hid hs) (Lib.hid hn) ha0 ha1 hbs hbt

set_option maxRecDepth 100000 in
theorem apartL_holds : Rows.MmuApartSaid :=
  OpenClaim.holds_of_wide 5 Try.f5 rfl rfl rfl rfl rfl rfl rfl ⟨rfl, rfl, rfl, rfl, rfl⟩ rfl rfl rfl rfl rfl (by kernel_rfl) Try.func5 (by kernel_rfl)
    (of_decide_eq_true (by kernel_rfl)) (by unfold Func.isWrapper; rw [if_neg (of_decide_eq_false (by kernel_rfl))]; exact ⟨rfl, rfl⟩)
    (fun os started H enc _ => law_lifted os started H enc 5 Try.f5 Rows.mmuApartSpec Try.func5 (by kernel_rfl) (by kernel_rfl) (by kernel_rfl) rfl
      (fun ds h => by match ds, h with | [_, _, _], _ => rfl)
      (ChangeSpec.witness6 (enc := enc) (C := Try.checked) false ⟨#[], #[.slice none 0 0, .agg ((List.replicate 32 [Value.bool false, Value.bool false, Value.int .i64 0]).flatten.toArray), .agg #[.int .u32 0, .int .i64 0, .string ⟨#[]⟩]], []⟩ 8 (by kernel_rfl) (by kernel_rfl) (by kernel_rfl) (by kernel_rfl))
      apartL_true)
end Go.Proofs.Ytlhcggaeecjbcaa
