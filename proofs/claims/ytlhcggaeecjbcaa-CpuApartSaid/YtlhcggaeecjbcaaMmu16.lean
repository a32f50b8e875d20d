/- The law MmuCopies, walked. No condition. -/
import Derived.Test.YtlhcggaeecjbcaaMmu15
namespace Go.Proofs.Ytlhcggaeecjbcaa
open Go.RowKit
attribute [local go_sem ↓] loadVar_26
attribute [local go_sem] run_load26 aggAt_new aggAt_past aggAt_drew rowAt_new rowAt_past rowAt_drew spCells_size

def spanCells (a n : Int) (d : ByteArray) : Array Value := #[.int .u32 a, .int .i64 n, .string d]
theorem have2_allSpan {w0 w : World} {s : Nat → Pte} {a n : Int} {d : ByteArray} (h : Have2 w0 (spCells s) (spanCells a n d) 29 w) :
    aggAt w w0.heap.size = .agg (spCells s) ∧ rowAt w w0.heap.size 48 = true ∧ w.cell? ⟨w0.heap.size + 1, 0, none⟩ = some (.int .u32 a) ∧ w.cell? ⟨w0.heap.size + 1, 1, none⟩ = some (.int .i64 n) ∧ w.cell? ⟨w0.heap.size + 1, 2, none⟩ = some (.string d) :=
  ⟨(have2_space h).1, (have2_space h).2, have2_cell h 0 rfl, have2_cell h 1 rfl, have2_cell h 2 rfl⟩
theorem copyOut_is (r : Option (List UInt8)) : ∃ (x : ByteArray) (ok : Bool), copyOut r = .tuple #[.string x, .bool ok] := by
  cases r with
  | none => exact ⟨⟨#[]⟩, false, rfl⟩
  | some p => exact ⟨⟨p.toArray⟩, true, rfl⟩

set_option maxRecDepth 20000 in
set_option maxHeartbeats 1000000 in
theorem copies_walk (v : Value) (l : List ByteArray) (s : Nat → Pte) (a n : Int) (d : ByteArray) (w : World) (hv : Strs w v l) (hs : Hid (∀ i, (bAt l i).size ≤ 140737488351232)) (hl : Hid (l.length ≤ 140737488351232)) (h0 : 0 ≤ a) (h1 : a ≤ 4294967295) :
    Calls Try.prog 3 #[v, .agg (spCells s), .agg (spanCells a n d)] w fun e w' => e = .returned (.bool true) ∧ Below w.heap.size w w' := by
  have HV := Lib.hid hv
  clear hv
  by_cases hg : tot l ≤ 5000
  · have hg0 := great_no hg
    by_cases hd : d.size ≤ 3000
    · have e0 : decide ((3000 : Int) < d.size) = false := by simp; omega
      have HD := Lib.hid (show d.size ≤ 100000 by omega)
      have HL := Lib.hid (Nat.le_trans (tot_length l) (Nat.le_trans hg (by decide : 5000 ≤ 100000)))
      obtain ⟨y, ok, hy⟩ := copyOut_is (mcopy l s a n)
      have Hy := Lib.hid hy
      clear hg hy hd
      go_enter Try.func3, Try.ntmps3
      go_wp2_with (first
        | (go_at_call 17; refine (mmuAlive_any _).mono ?_; rintro e w1 ⟨rfl, hb⟩; have HA := Lib.hid (have2_start hb); clear hb; obtain ⟨q1, q2, q3, q4, q5⟩ := have2_allSpan HA.out)
        | (go_at_call 18; refine (great_any _ l _ (HV.out.mono HA.out.1) hs hl).mono ?_; rintro e w2 ⟨rfl, rfl⟩; rw [hg0])
        | (go_at_call 19; refine (copy_any _ l s a n _ (HV.out.mono HA.out.1) h0 h1).mono ?_; rw [Hy.out]; rintro e w3 ⟨rfl, hb⟩; have HB := Lib.hid (have2_step HA.out hb); clear q1 q2 q3 q4 q5 hb; obtain ⟨q1, q2, q3, q4, q5⟩ := have2_allSpan HB.out)
        | (go_at_call 20; refine (rcopy_any _ l s a n _ (HV.out.mono HB.out.1) h0 h1).mono ?_; rw [Hy.out]; rintro e w4 ⟨rfl, hb⟩; have HC := Lib.hid (have2_step HB.out hb); clear q1 q2 q3 q4 q5 hb; obtain ⟨q1, q2, q3, q4, q5⟩ := have2_allSpan HC.out)
        | (go_at_call 21; refine (mlay_any _ l s a d _ (HV.out.mono HC.out.1) HL.out h0 h1).mono ?_; rintro e w7 ⟨hb, v1, rfl, hs1⟩; have HS1 := Lib.hid hs1; clear hs1; have HF := Lib.hid (have2_step HC.out hb); clear q1 q2 q3 q4 q5 hb; obtain ⟨q1, q2, q3, q4, q5⟩ := have2_allSpan HF.out)
        | (go_at_call 22; refine (rlay_any _ l s a d _ (HV.out.mono HF.out.1) HL.out h0 h1 HD.out).mono ?_; rintro e w8 ⟨hb, v2, rfl, hs2⟩; have HS2 := Lib.hid hs2; have HS3 := Lib.hid (HS1.out.mono hb); clear hs2; have HG := Lib.hid (have2_step HF.out hb); clear q1 q2 q3 q4 q5 hb; obtain ⟨q1, q2, q3, q4, q5⟩ := have2_allSpan HG.out)
        | (go_at_call 23; refine (same_yes _ _ _ _ HS3.out HS2.out (lay_len HL.out)).mono ?_; rintro e w9 ⟨rfl, hb⟩; have HI := Lib.hid (have2_step HG.out hb); clear q1 q2 q3 q4 q5 hb; obtain ⟨q1, q2, q3, q4, q5⟩ := have2_allSpan HI.out))
      go_ret
      exact ⟨rfl, HI.out.1⟩
    · have e0 : decide ((3000 : Int) < d.size) = true := by simp; omega
      clear hg hd
      go_enter Try.func3, Try.ntmps3
      go_wp2_with (first
        | (go_at_call 17; refine (mmuAlive_any _).mono ?_; rintro e w1 ⟨rfl, hb⟩; have HA := Lib.hid (have2_start hb); clear hb; obtain ⟨q1, q2, q3, q4, q5⟩ := have2_allSpan HA.out)
        | (go_at_call 18; refine (great_any _ l _ (HV.out.mono HA.out.1) hs hl).mono ?_; rintro e w2 ⟨rfl, rfl⟩; rw [hg0]))
      go_ret
      exact ⟨rfl, HA.out.1⟩
  · have hg1 := great_is hg
    clear hg
    go_enter Try.func3, Try.ntmps3
    go_wp2_with (first
      | (go_at_call 17; refine (mmuAlive_any _).mono ?_; rintro e w1 ⟨rfl, hb⟩; have HA := Lib.hid (have2_start hb); clear hb; obtain ⟨q1, q2, q3, q4, q5⟩ := have2_allSpan HA.out)
      | (go_at_call 18; refine (great_any _ l _ (HV.out.mono HA.out.1) hs hl).mono ?_; rintro e w2 ⟨rfl, rfl⟩; rw [hg1]))
    go_ret
    exact ⟨rfl, HA.out.1⟩
end Go.Proofs.Ytlhcggaeecjbcaa
