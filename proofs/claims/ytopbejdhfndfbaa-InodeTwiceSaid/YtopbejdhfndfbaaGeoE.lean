/- Contracts of Same, of Great and of the statements' example (geomAlive). Condition: at most 100,000 blocks; no text greater than the platform's room. -/
import Derived.Test.YtopbejdhfndfbaaGeoD
import Derived.Test.YtopbejdhfndfbaaGeoA
import Derived.Test.YtopbejdhfndfbaaGeoV
namespace Go.Proofs.Ytopbejdhfndfbaa
open Go.RowKit
set_option maxRecDepth 20000
set_option maxHeartbeats 400000 in
theorem same_yes (u v : Value) (l : List ByteArray) (w : World) (hu : Strs w u l) (hv : Strs w v l) (hl : l.length ≤ 100000) :
    Calls Try.prog 19 #[u, v] w fun e w' => e = .returned (.bool true) ∧ Below w.heap.size w w' := by
  rcases hu.shape with ⟨rfl, a, cap, rfl, -⟩ | ⟨h0, b, o, cap, rfl, -, hb, hc⟩
  · obtain ⟨a2, cap2, rfl, -⟩ := hv.ex
    go_enter Try.func19, Try.ntmps19
    go_wp2_with fail
    go_loop [13] (fun i => i = .int .i64 0) (fun _ => 0)
    case atStart => rfl
    case round =>
      subst hrel
      go_wp2_with fail
      go_ret
      exact ⟨rfl, Below.refl _ _⟩
  · rcases hv.shape with ⟨rfl, -⟩ | ⟨-, b2, o2, cap2, rfl, -, hb2, hc2⟩
    · simp at h0
    · have HC := Lib.hid hc
      have HC2 := Lib.hid hc2
      clear hc hc2 hu hv
      go_enter Try.func19, Try.ntmps19
      go_wp2_with fail
      go_loopw [13] (fun i W => ∃ k : Nat, k ≤ l.length ∧ i = .int .i64 k ∧ Hid (Below w.heap.size w W)) (fun i _ => l.length - (intOf i).toNat)
      case atStart => exact ⟨0, by omega, rfl, Below.refl _ _⟩
      case round =>
        obtain ⟨k, hk, rfl, HB⟩ := hrel
        by_cases hlt : k < l.length
        · have c1 := (HB.out.cell (p := ⟨b, o + k, none⟩) hb).trans (HC.out k hlt)
          have c2 := (HB.out.cell (p := ⟨b2, o2 + k, none⟩) hb2).trans (HC2.out k hlt)
          have i0 : (0 : Int) ≤ k := by omega
          have i1 : (k : Int) < l.length := by omega
          go_wp2_with fail
          go_quiet (fail)
          go_wp2_with fail
          go_roundw
          case rel => exact ⟨k + 1, by omega, by go_num, below_drewN HB.out _⟩
          case measure => simp [intOf]; omega
        · go_wp2_with fail
          go_ret
          exact ⟨rfl, HB.out⟩
/-- How many bytes, and one more for each. -/
def tot : List ByteArray → Nat
  | [] => 0
  | x :: l => x.size + 1 + tot l
theorem tot_append (x y : List ByteArray) : tot (x ++ y) = tot x + tot y := by
  induction x with
  | nil => simp [tot]
  | cons a x ih => simp only [List.cons_append, tot, ih]; omega
theorem tot_take_succ (l : List ByteArray) (k : Nat) (h : k < l.length) : tot (l.take (k + 1)) = tot (l.take k) + ((bAt l k).size + 1) := by
  rw [List.take_succ_eq_append_getElem h, tot_append]
  simp [tot, bAt, List.getD, h]
theorem tot_take_le (l : List ByteArray) (k : Nat) : tot (l.take k) ≤ tot l := by
  have h := tot_append (l.take k) (l.drop k)
  rw [List.take_append_drop] at h
  omega
theorem tot_length (l : List ByteArray) : l.length ≤ tot l := by
  induction l with
  | nil => simp [tot]
  | cons x l ih => simp only [List.length_cons, tot]; omega
theorem tot_size (l : List ByteArray) (k : Nat) (h : k < l.length) : (bAt l k).size < tot l := by
  have h1 := tot_take_succ l k h
  have h2 := tot_take_le l (k + 1)
  omega
def greatB (l : List ByteArray) : Int := if tot l ≤ 30000 then 0 else 1
set_option maxHeartbeats 400000 in
theorem great_any (v : Value) (l : List ByteArray) (w : World) (hv : Strs w v l) (hs : Hid (∀ i, (bAt l i).size ≤ 140737488351232)) (hl : Hid (l.length ≤ 140737488351232)) :
    Calls Try.prog 22 #[v] w fun e w' => e = .returned (.int .i64 (greatB l)) ∧ w = w' := by
  have hl' : l.length ≤ 9223372036854775807 := by have := hl.out; omega
  rcases hv.shape with ⟨rfl, a, cap, rfl, -⟩ | ⟨h0, b, o, cap, rfl, -, hb, hc⟩
  · go_enter Try.func22, Try.ntmps22
    go_wp2_with fail
    go_loop [3, 8] (fun n i => n = .int .i64 0 ∧ i = .int .i64 0) (fun _ _ => 0)
    case atStart => exact ⟨rfl, rfl⟩
    case round =>
      obtain ⟨rfl, rfl⟩ := hrel
      go_wp2_with fail
      go_ret
      exact ⟨rfl, rfl⟩
  · have HC := Lib.hid hc
    clear hc hv
    go_enter Try.func22, Try.ntmps22
    go_wp2_with fail
    go_loop [3, 8] (fun n i => ∃ k : Nat, k ≤ l.length ∧ i = .int .i64 k ∧ n = .int .i64 (tot (l.take k)) ∧ tot (l.take k) ≤ 30000) (fun _ i => l.length - (intOf i).toNat)
    case atStart => exact ⟨0, by omega, rfl, rfl, by simp [tot]⟩
    case round =>
      obtain ⟨k, hk, rfl, rfl, ht⟩ := hrel
      by_cases hlt : k < l.length
      · have c1 := HC.out k hlt
        have i0 : (0 : Int) ≤ k := by omega
        have i1 : (k : Int) < l.length := by omega
        have hsz : (bAt l k).size ≤ 140737488351232 := hs.out k
        have HT := Lib.hid (tot_take_succ l k hlt)
        by_cases hg : 30000 < tot (l.take k) + ((bAt l k).size + 1)
        · have Hout := Lib.hid (show greatB l = 1 by unfold greatB; rw [if_neg]; have := tot_take_le l (k + 1); have := HT.out; omega)
          have hg' : (30000 : Int) < (tot (l.take k) : Int) + (((bAt l k).size : Int) + 1) := by omega
          go_wp2_with fail
          go_ret
          exact ⟨by rw [Hout.out]; rfl, rfl⟩
        · have hg' : ¬ ((30000 : Int) < (tot (l.take k) : Int) + (((bAt l k).size : Int) + 1)) := by omega
          go_wp2_with fail
          go_round
          case rel => exact ⟨k + 1, by omega, by go_num, congrArg (Value.int .i64) (by rw [HT.out]; omega), by rw [HT.out]; omega⟩
          case measure => simp [intOf]; omega
      · have Hout := Lib.hid (show greatB l = 0 by unfold greatB; rw [if_pos]; rw [List.take_of_length_le (by omega)] at ht; exact ht)
        go_wp2_with fail
        go_ret
        exact ⟨by rw [Hout.out]; rfl, rfl⟩

attribute [local go_sem ↓] loadVar_24 storeVar_24
attribute [local go_sem] run_load24 run_store24 aggAt_new aggAt_past aggAt_drew rowAt_new rowAt_past rowAt_drew rowOpen_new rowOpen_past rowOpen_drew setRow_made' alloc_setRow
theorem alive_plan : planErr 24 8 = 0 := by decide
theorem alive_planC : planC 24 8 = geoC 24 8 7 := by unfold planC; rw [if_pos alive_plan]; rfl
theorem alive_vol : Vol (mfmt 24 8) 8 := vol_fmt alive_plan
theorem alive_map : bAt (mfmt 24 8) 2 = mapTo 7 := by rw [bAt_fmt 24 8 2 (by decide) (by decide), if_pos rfl]; rfl
theorem alive_free : freeOf (bAt (mfmt 24 8) 2) (mfmt 24 8).length (mfmt 24 8).length (dof 8) = some 7 := by
  rw [alive_map, mfmt_length]
  exact freeOf_is (by decide) (by decide) (by rw [has_mapTo 7 7 (by decide)]; rfl) (fun j h1 h2 => by simp only [dof] at h1; omega) (by decide)
def aliveL : List ByteArray := ((mfmt 24 8).set 2 (turnB (bAt (mfmt 24 8) 2) 7)).set 7 zb
theorem alive_take : mtake (mfmt 24 8) = (aliveL, 7, 0) ∧ Took (mfmt 24 8) aliveL 8 7 := take_some alive_vol alive_free
theorem alive_room : mroom (mfmt 24 8) = 17 := by rw [room_fmt alive_plan]; rfl
theorem alive_used0 : mused (mfmt 24 8) 7 = false := by
  show mused (mfmt 24 8) ((7 : Nat) : Int) = false
  rw [alive_vol.used_lt (k := 7) (by rw [mfmt_length]; decide), alive_map, has_mapTo 7 7 (by decide)]
  rfl
theorem alive_used1 : mused aliveL 7 = true := by
  have h := alive_take.2
  show mused aliveL ((7 : Nat) : Int) = true
  rw [h.vol.used_lt (k := 7) (by rw [h.len, mfmt_length]; decide), h.map, has_turn _ _ _ (by rw [alive_map, size_mapTo]; decide), if_pos rfl, alive_map, has_mapTo 7 7 (by decide)]
  rfl
theorem alive_len : aliveL.length ≤ 100000 := by rw [alive_take.2.len, mfmt_length]; decide
set_option maxHeartbeats 1000000 in
theorem geomAlive_any (w : World) : Calls Try.prog 14 #[] w fun e w' => e = .returned (.bool true) ∧ Below w.heap.size w w' := by
  have PP : Hid (∀ w, Calls Try.prog 15 #[.int .i64 24, .int .i64 8] w fun e w' => e = .returned (.tuple #[.agg (geoC 24 8 7), .int .i64 0]) ∧ Below w.heap.size w w') := fun w => by
    rw [← alive_planC]
    have := plan_any 24 8 w (by decide)
    unfold PlanPost at this
    rw [alive_plan] at this
    exact this
  have PF : Hid (∀ w, Calls Try.prog 17 #[.int .i64 24, .int .i64 8] w fun e w' => ∃ v, e = .returned (.tuple #[v, .int .i64 0]) ∧ Own w.heap.size w' v (mfmt 24 8) ∧ Below w.heap.size w w') := fun w => by
    have := fmt_any 24 8 w (by decide)
    unfold FmtPost at this
    rw [alive_plan, show fmtL 24 8 = mfmt 24 8 from fmtL_yes (b := 24) (i := 8) alive_plan] at this
    exact this
  have PT : Hid (∀ w v, Strs w v (mfmt 24 8) → Calls Try.prog 27 #[v] w fun e w' => ∃ v, e = .returned (.tuple #[v, .int .i64 7, .int .i64 0]) ∧ Own w.heap.size w' v aliveL ∧ Below w.heap.size w w') := fun w v hv => by
    have := take_any v (mfmt 24 8) w hv (by rw [mfmt_length]; decide)
    unfold TakePost at this
    rw [alive_take.1] at this
    exact this
  have PR : Hid (∀ w v, Strs w v (mfmt 24 8) → Calls Try.prog 21 #[v] w fun e w' => e = .returned (.int .i64 17) ∧ Below w.heap.size w w') := fun w v hv => by
    have := room_any v (mfmt 24 8) w hv (by rw [mfmt_length]; decide)
    rw [alive_room] at this
    exact this
  have PU0 : Hid (∀ w v, Strs w v (mfmt 24 8) → Calls Try.prog 24 #[v, .int .i64 7] w fun e w' => e = .returned (.bool false) ∧ Below w.heap.size w w') := fun w v hv => by
    rw [← alive_used0]
    exact used_any v _ 7 w hv (by rw [mfmt_length]; decide)
  have PU1 : Hid (∀ w v, Strs w v aliveL → Calls Try.prog 24 #[v, .int .i64 7] w fun e w' => e = .returned (.bool true) ∧ Below w.heap.size w w') := fun w v hv => by
    rw [← alive_used1]
    exact used_any v _ 7 w hv alive_len
  unfold geoC at PP
  generalize mfmt 24 8 = L0 at PF PT PR PU0
  generalize aliveL = L1 at PT PU1
  go_enter Try.func14, Try.ntmps14
  go_wp2_with (first
    | (go_at_call 24; have q0 := K5; clear q0; refine (PU0.out _ _ V5.out).mono ?_; rintro e W6 ⟨rfl, hb⟩; have K6 := Lib.hid (below_step K5.out hb); clear hb)
    | (go_at_call 24; refine (PU1.out _ _ X4.out).mono ?_; rintro e W5 ⟨rfl, hb⟩; have K5 := Lib.hid (below_step K4.out hb); have V5 := Lib.hid (V4.out.mono hb); clear hb)
    | (go_at_call 21; refine (PR.out _ _ V3.out).mono ?_; rintro e W4 ⟨rfl, hb⟩; have K4 := Lib.hid (below_step K3.out hb); have V4 := Lib.hid (V3.out.mono hb); have X4 := Lib.hid (X3.out.mono hb); clear hb)
    | (go_at_call 27; refine (PT.out _ _ V2.out).mono ?_; rintro e W3 ⟨v3, rfl, ho, hb⟩; have K3 := Lib.hid (below_step K2.out hb); have V3 := Lib.hid (V2.out.mono hb); have X3 := Lib.hid ho.strs; have c5 := cell_of_heap (keep C2.out hb) (i := 5) rfl; clear hb ho)
    | (go_at_call 17; refine (PF.out _).mono ?_; rintro e W2 ⟨v2, rfl, ho, hb⟩; have C2 := Lib.hid (keep1 hb).1; have K2 := Lib.hid (below_step K1.out (keep1 hb).2); have V2 := Lib.hid ho.strs; clear hb ho)
    | (go_at_call 15; refine (PP.out _).mono ?_; rintro e W1 ⟨rfl, hb⟩; have K1 := Lib.hid hb; clear hb))
  go_ret
  exact ⟨rfl, K6.out⟩
end Go.Proofs.Ytopbejdhfndfbaa
