/- The law GeomReads, walked. Condition: texts no greater than the platform's room. -/
import Derived.Test.YtopbejdhfndfbaaGeoE
namespace Go.Proofs.Ytopbejdhfndfbaa
open Go.RowKit
set_option maxRecDepth 20000
attribute [local go_sem ↓] loadVar_24 storeVar_24
attribute [local go_sem] run_load24 run_store24 aggAt_new aggAt_past aggAt_drew rowAt_new rowAt_past rowAt_drew rowOpen_new rowOpen_past rowOpen_drew setRow_made' alloc_setRow
theorem mtake_len (l : List ByteArray) : (mtake l).1.length ≤ l.length := by
  unfold mtake
  split
  · exact Nat.zero_le _
  · split
    · exact Nat.zero_le _
    · simp
theorem mgive_len (l : List ByteArray) (k : Int) : (mgive l k).1.length ≤ l.length := by
  unfold mgive
  split
  · exact Nat.zero_le _
  · split
    · exact Nat.zero_le _
    · split
      · simp
      · exact Nat.zero_le _
theorem ofC_ints (l : List ByteArray) : ∃ c0 c1 c2 c3 c4 c5 : Int, ofC l = #[.int .i64 c0, .int .i64 c1, .int .i64 c2, .int .i64 c3, .int .i64 c4, .int .i64 c5] := by
  unfold ofC
  split
  · exact ⟨_, _, _, _, _, _, rfl⟩
  · exact ⟨_, _, _, _, _, _, rfl⟩
theorem great_no {l : List ByteArray} (h : ¬ greatB l = 1) : greatB l = 0 ∧ l.length ≤ 30000 := by
  unfold greatB at *
  split
  · rename_i h2
    exact ⟨rfl, Nat.le_trans (tot_length l) h2⟩
  · rename_i h2
    rw [if_neg h2] at h
    exact absurd rfl h
set_option maxHeartbeats 2000000 in
theorem reads_walk (v : Value) (l : List ByteArray) (i : Int) (w : World) (hv : Strs w v l) (hs : Hid (∀ i, (bAt l i).size ≤ 140737488351232)) (hl : Hid (l.length ≤ 140737488351232)) :
    Calls Try.prog 4 #[v, .int .i64 i] w fun e w' => e = .returned (.bool true) ∧ Below w.heap.size w w' := by
  have HV := Lib.hid hv
  have PG : Hid (∀ w, Strs w v l → Calls Try.prog 22 #[v] w fun e w' => e = .returned (.int .i64 (greatB l)) ∧ w = w') := fun w hv => great_any v l w hv hs hl
  by_cases hg : greatB l = 1
  · rw [hg] at PG
    clear hv hg
    go_enter Try.func4, Try.ntmps4
    go_wp2_with (first
      | (go_at_call 22; refine (PG.out _ (HV.out.mono K1.out)).mono ?_; rintro e W2 ⟨rfl, rfl⟩)
      | (go_at_call 14; refine (geomAlive_any _).mono ?_; rintro e W1 ⟨rfl, hb⟩; have K1 := Lib.hid hb; clear hb))
    go_ret
    exact ⟨rfl, K1.out⟩
  · obtain ⟨hg0, hL⟩ := great_no hg
    rw [hg0] at PG
    obtain ⟨c0, c1, c2, c3, c4, c5, hC⟩ := ofC_ints l
    have PO : Hid (∀ w, Strs w v l → Calls Try.prog 20 #[v] w fun e w' => e = .returned (.tuple #[.agg #[.int .i64 c0, .int .i64 c1, .int .i64 c2, .int .i64 c3, .int .i64 c4, .int .i64 c5], .int .i64 (ofE l)]) ∧ Below w.heap.size w w') := fun w hv => by
      rw [← hC]; exact of_any v l w hv (by omega)
    have PQ : Hid (∀ w, Strs w v l → Calls Try.prog 23 #[v] w fun e w' => e = .returned (.tuple #[.agg #[.int .i64 c0, .int .i64 c1, .int .i64 c2, .int .i64 c3, .int .i64 c4, .int .i64 c5], .int .i64 (ofE l)]) ∧ Below w.heap.size w w') := fun w hv => by
      rw [← hC]; exact rof_any v l w hv (by omega)
    have PU : Hid (∀ w, Strs w v l → Calls Try.prog 24 #[v, .int .i64 i] w fun e w' => e = .returned (.bool (mused l i)) ∧ Below w.heap.size w w') := fun w hv => used_any v l i w hv (by omega)
    have PV : Hid (∀ w, Strs w v l → Calls Try.prog 25 #[v, .int .i64 i] w fun e w' => e = .returned (.bool (mused l i)) ∧ Below w.heap.size w w') := fun w hv => rused_any v l i w hv (by omega)
    have PM : Hid (∀ w, Strs w v l → Calls Try.prog 21 #[v] w fun e w' => e = .returned (.int .i64 (mroom l)) ∧ Below w.heap.size w w') := fun w hv => room_any v l w hv (by omega)
    have PN : Hid (∀ w, Strs w v l → Calls Try.prog 26 #[v] w fun e w' => e = .returned (.int .i64 (mroom l)) ∧ Below w.heap.size w w') := fun w hv => rroom_any v l w hv (by omega)
    have PT : Hid (∀ w, Strs w v l → Calls Try.prog 27 #[v] w fun e w' => ∃ v, e = .returned (.tuple #[v, .int .i64 (mtake l).2.1, .int .i64 (mtake l).2.2]) ∧ Own w.heap.size w' v (mtake l).1 ∧ Below w.heap.size w w') := fun w hv => take_any v l w hv (by omega)
    have PX : Hid (∀ w, Strs w v l → Calls Try.prog 28 #[v] w fun e w' => ∃ v, e = .returned (.tuple #[v, .int .i64 (mtake l).2.1, .int .i64 (mtake l).2.2]) ∧ Own w.heap.size w' v (mtake l).1 ∧ Below w.heap.size w w') := fun w hv => rtake_any v l w hv (by omega)
    have PY : Hid (∀ w, Strs w v l → Calls Try.prog 29 #[v, .int .i64 i] w fun e w' => ∃ v, e = .returned (.tuple #[v, .int .i64 (mgive l i).2]) ∧ Own w.heap.size w' v (mgive l i).1 ∧ Below w.heap.size w w') := fun w hv => give_any v l i w hv (by omega)
    have PZ : Hid (∀ w, Strs w v l → Calls Try.prog 30 #[v, .int .i64 i] w fun e w' => ∃ v, e = .returned (.tuple #[v, .int .i64 (mgive l i).2]) ∧ Own w.heap.size w' v (mgive l i).1 ∧ Below w.heap.size w w') := fun w hv => rgive_any v l i w hv (by omega)
    have PS : Hid (∀ w u v L, Strs w u L → Strs w v L → L.length ≤ 100000 → Calls Try.prog 19 #[u, v] w fun e w' => e = .returned (.bool true) ∧ Below w.heap.size w w') := fun w u v L hu hv hl => same_yes u v L w hu hv hl
    have L1 : Hid ((mtake l).1.length ≤ 100000) := Nat.le_trans (mtake_len l) (by omega)
    have L2 : Hid ((mgive l i).1.length ≤ 100000) := Nat.le_trans (mgive_len l i) (by omega)
    generalize (mtake l).1 = X at PT PX L1
    generalize (mtake l).2.1 = tk at PT PX
    generalize (mtake l).2.2 = te at PT PX
    generalize (mgive l i).1 = Y at PY PZ L2
    generalize (mgive l i).2 = ge at PY PZ
    generalize mroom l = mr at PM PN
    generalize mused l i = mu at PU PV
    generalize ofE l = er at PO PQ
    obtain ⟨a, cap, rfl, -⟩ := hv.ex
    clear hv hg hg0 hL hC hs hl
    go_enter Try.func4, Try.ntmps4
    go_wp2_with (first
      | (go_at_call 19; have q0 := K12; clear q0; refine (PS.out _ _ _ Y C12.out D12.out L2.out).mono ?_; rintro e W13 ⟨rfl, hb⟩; have K13 := Lib.hid (below_step K12.out hb); clear hb)
      | (go_at_call 19; refine (PS.out _ _ _ X A11.out B11.out L1.out).mono ?_; rintro e W12 ⟨rfl, hb⟩; have K12 := Lib.hid (below_step K11.out hb); have C12 := Lib.hid (C11.out.mono hb); have D12 := Lib.hid (D11.out.mono hb); clear hb)
      | (go_at_call 30; refine (PZ.out _ (HV.out.mono K10.out)).mono ?_; rintro e W11 ⟨v11, rfl, ho, hb⟩; have K11 := Lib.hid (below_step K10.out hb); have A11 := Lib.hid (A10.out.mono hb); have B11 := Lib.hid (B10.out.mono hb); have C11 := Lib.hid (C10.out.mono hb); have D11 := Lib.hid ho.strs; clear ho hb)
      | (go_at_call 29; refine (PY.out _ (HV.out.mono K9.out)).mono ?_; rintro e W10 ⟨v10, rfl, ho, hb⟩; have K10 := Lib.hid (below_step K9.out hb); have A10 := Lib.hid (A9.out.mono hb); have B10 := Lib.hid (B9.out.mono hb); have C10 := Lib.hid ho.strs; clear ho hb)
      | (go_at_call 28; refine (PX.out _ (HV.out.mono K8.out)).mono ?_; rintro e W9 ⟨v9, rfl, ho, hb⟩; have K9 := Lib.hid (below_step K8.out hb); have A9 := Lib.hid (A8.out.mono hb); have B9 := Lib.hid ho.strs; clear ho hb)
      | (go_at_call 27; refine (PT.out _ (HV.out.mono K7.out)).mono ?_; rintro e W8 ⟨v8, rfl, ho, hb⟩; have K8 := Lib.hid (below_step K7.out hb); have A8 := Lib.hid ho.strs; clear ho hb)
      | (go_at_call 26; refine (PN.out _ (HV.out.mono K6.out)).mono ?_; rintro e W7 ⟨rfl, hb⟩; have K7 := Lib.hid (below_step K6.out hb); clear hb)
      | (go_at_call 21; refine (PM.out _ (HV.out.mono K5.out)).mono ?_; rintro e W6 ⟨rfl, hb⟩; have K6 := Lib.hid (below_step K5.out hb); clear hb)
      | (go_at_call 25; refine (PV.out _ (HV.out.mono K4.out)).mono ?_; rintro e W5 ⟨rfl, hb⟩; have K5 := Lib.hid (below_step K4.out hb); clear hb)
      | (go_at_call 24; refine (PU.out _ (HV.out.mono (K3.out.alloc K3.out.size _))).mono ?_; rintro e W4 ⟨rfl, hb⟩; have K4 := Lib.hid (below_step (K3.out.alloc K3.out.size _) hb); clear hb)
      | (go_at_call 23; refine (PQ.out _ (HV.out.mono (K2.out.alloc K2.out.size _))).mono ?_; rintro e W3 ⟨rfl, hb⟩; have K3 := Lib.hid (below_step K2.out (keep1 hb).2); obtain ⟨a1, a2⟩ := agg_facts (keep1 hb).1 6 rfl; have l3 := heap_lt (keep1 hb).1; clear hb)
      | (go_at_call 20; refine (PO.out _ (HV.out.mono K1.out)).mono ?_; rintro e W2 ⟨rfl, hb⟩; have K2 := Lib.hid (below_step K1.out hb); clear hb)
      | (go_at_call 22; refine (PG.out _ (HV.out.mono K1.out)).mono ?_; rintro e W2 ⟨rfl, rfl⟩)
      | (go_at_call 14; refine (geomAlive_any _).mono ?_; rintro e W1 ⟨rfl, hb⟩; have K1 := Lib.hid hb; clear hb))
    go_ret
    exact ⟨rfl, K13.out⟩
end Go.Proofs.Ytopbejdhfndfbaa
