/- The law MmuPieces, as the row. No condition. -/
import Derived.Test.YtlhcggaeecjbcaaMmu18
namespace Go.Proofs.Ytlhcggaeecjbcaa
open Go.ChangeShapes Go.WideShapes Go.ChangeAt Go.RowKit
set_option maxRecDepth 20000

theorem pieces_true : LawTrue 6 Try.f6 := by
  intro H enc W base args ds p hval hA _ hsz
  obtain ⟨v, v', v'', d, d', d'', p1, p2, p3, rfl, rfl, rfl, h1, h2, h3⟩ := trodAll_three (t := 22) (t' := 26) (t'' := 45) hA
  obtain ⟨l, hl, hs, hn⟩ := open_strs (j := 0) (hval 0 22 v rfl rfl) h1 rfl rfl hsz
  obtain ⟨s, rfl⟩ := open_space (hval 1 26 v' rfl rfl)
  obtain ⟨a, x, y, rfl, ha0, ha1, hx, hy⟩ := open_pieces (j := 2) (hval 2 45 v'' rfl rfl) h3 rfl rfl hsz
  exact pieces_walk v l s a x y W hl (Lib.hid hs) (Lib.hid hn) ha0 ha1 hx hy

set_option maxRecDepth 100000 in
theorem pieces_holds : Rows.MmuPiecesSaid :=
  OpenClaim.holds_of_wide 6 Try.f6 rfl rfl rfl rfl rfl rfl rfl ⟨rfl, rfl, rfl, rfl, rfl⟩ rfl rfl rfl rfl rfl (by kernel_rfl) Try.func6 (by kernel_rfl)
    (of_decide_eq_true (by kernel_rfl)) (by unfold Func.isWrapper; rw [if_neg (of_decide_eq_false (by kernel_rfl))]; exact ⟨rfl, rfl⟩)
    (fun os started H enc _ => law_lifted os started H enc 6 Try.f6 Rows.mmuPiecesSpec Try.func6 (by kernel_rfl) (by kernel_rfl) (by kernel_rfl) rfl
      (fun ds h => by match ds, h with | [_, _, _], _ => rfl)
      (ChangeSpec.witness6 (enc := enc) (C := Try.checked) false ⟨#[], #[.slice none 0 0, .agg ((List.replicate 16 [Value.bool false, Value.bool false, Value.int .i64 0]).flatten.toArray), .agg #[.int .u32 0, .string ⟨#[]⟩, .string ⟨#[]⟩]], []⟩ 8 (by kernel_rfl) (by kernel_rfl) (by kernel_rfl) (by kernel_rfl))
      pieces_true)
end Go.Proofs.Ytlhcggaeecjbcaa
