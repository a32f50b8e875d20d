/- The law InodeTwice, as the row. No condition. -/
import Derived.Test.YtopbejdhfndfbaaInoC
import Derived.Test.YtopbejdhfndfbaaArg3
namespace Go.Proofs.Ytopbejdhfndfbaa
open Go.ChangeShapes Go.WideShapes Go.ChangeAt Go.RowKit
set_option maxRecDepth 20000

theorem twice_true : LawTrue 10 Try.f10 := by
  intro H enc W base args ds p hval hA _ hsz
  obtain ⟨v0, vs0, d0, ds0, p0, q0, hargs, rfl, rfl, h0, hr0⟩ := trodAll_cons hA
  obtain ⟨v1, vs1, d1, ds1, p1, q1, rfl, rfl, rfl, h1, hr1⟩ := trodAll_cons hr0
  obtain ⟨v2, vs2, d2, ds2, p2, q2, rfl, rfl, rfl, h2, hr2⟩ := trodAll_cons hr1
  obtain ⟨v3, vs3, d3, ds3, p3, q3, rfl, rfl, rfl, h3, hr3⟩ := trodAll_cons hr2
  obtain ⟨v4, vs4, d4, ds4, p4, q4, rfl, rfl, rfl, h4, hr4⟩ := trodAll_cons hr3
  obtain ⟨rfl, rfl, rfl⟩ := trodAll_nil hr4
  obtain rfl : args = #[v0, v1, v2, v3, v4] := by cases args; simp_all
  obtain ⟨l, hl, hs, hn⟩ := open_strs (j := 0) (hval 0 28 v0 rfl rfl) h0 rfl rfl hsz
  obtain ⟨n, rfl, -, -⟩ := open_i64 (hval 1 3 v1 rfl rfl)
  obtain ⟨o, rfl, -, -⟩ := open_i64 (hval 2 3 v2 rfl rfl)
  obtain ⟨c, rfl, hc⟩ := open_ino (hval 3 48 v3 rfl rfl)
  obtain ⟨d, rfl, hd⟩ := open_ino (hval 4 48 v4 rfl rfl)
  exact twice_walk v0 l n o c d hc hd W hl (Lib.hid hs) (Lib.hid hn)

set_option maxRecDepth 100000 in
theorem twice_holds : Rows.InodeTwiceSaid :=
  OpenClaim.holds_of_wide 10 Try.f10 rfl rfl rfl rfl rfl rfl rfl ⟨rfl, rfl, rfl, rfl, rfl⟩ rfl rfl rfl rfl rfl (by kernel_rfl) Try.func10 (by kernel_rfl)
    (of_decide_eq_true (by kernel_rfl)) (by unfold Func.isWrapper; rw [if_neg (of_decide_eq_false (by kernel_rfl))]; exact ⟨rfl, rfl⟩)
    (fun os started H enc _ => law_lifted os started H enc 10 Try.f10 Rows.inodeTwiceSpec Try.func10 (by kernel_rfl) (by kernel_rfl) (by kernel_rfl) rfl
      (fun ds h => by match ds, h with | [_, _, _, _, _], _ => rfl)
      (ChangeSpec.witness6 (enc := enc) (C := Try.checked) false ⟨#[], #[.slice none 0 0, .int .i64 0, .int .i64 0, .agg #[.int .i64 0, .int .i64 0, .int .i64 0, .int .i64 0, .int .i64 0, .int .i64 0, .int .i64 0, .int .i64 0, .int .i64 0, .int .i64 0, .int .i64 0, .int .i64 0], .agg #[.int .i64 0, .int .i64 0, .int .i64 0, .int .i64 0, .int .i64 0, .int .i64 0, .int .i64 0, .int .i64 0, .int .i64 0, .int .i64 0, .int .i64 0, .int .i64 0]], []⟩ 8 (by kernel_rfl) (by kernel_rfl) (by kernel_rfl) (by kernel_rfl))
      twice_true)
end Go.Proofs.Ytopbejdhfndfbaa
