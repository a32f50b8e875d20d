/- The law MmuBack, walked. No condition. -/
import Derived.Test.YtlhcggaeecjbcaaMmu22
import Derived.Test.YtlhcggaeecjbcaaMmu18
namespace Go.Proofs.Ytlhcggaeecjbcaa
open Go.RowKit
attribute [local go_sem ↓] loadVar_26
attribute [local go_sem] run_load26 aggAt_new aggAt_past aggAt_drew rowAt_new rowAt_past rowAt_drew spCells_size

theorem below_fresh {w w' : World} {o : Obj} (hg : (w.alloc o).grownBy w' (some w.heap.size)) : Below w.heap.size w w' :=
  ((Below.refl _ _).alloc (Nat.le_refl _) o).grown hg (by rw [alloc_size]; omega) (fun k hk => by cases hk; exact Nat.le_refl _)
theorem nil_shape' {w : World} {v : Value} (h : Strs w v []) : ∃ a cap, v = .slice a 0 cap := by
  obtain ⟨a, cap, rfl, _⟩ := h.ex
  exact ⟨a, cap, rfl⟩
theorem loadOut_some (r : Option Nat) : ∃ v : Nat, loadOut r = .tuple #[.int .u32 v, .bool r.isSome] := by
  cases r with
  | none => exact ⟨0, rfl⟩
  | some p => exact ⟨p, rfl⟩

set_option maxRecDepth 20000 in
set_option maxHeartbeats 1000000 in
theorem back_great (v : Value) (l : List ByteArray) (s : Nat → Pte) (a n : Int) (d : ByteArray) (w : World) (HV : Hid (Strs w v l)) (hs : Hid (∀ i, (bAt l i).size ≤ 140737488351232)) (hl : Hid (l.length ≤ 140737488351232)) (hg1 : greatB l = 1) :
    Calls Try.prog 4 #[v, .agg (spCells s), .agg (spanCells a n d)] w fun e w' => e = .returned (.bool true) ∧ Below w.heap.size w w' := by
  go_enter Try.func4, Try.ntmps4
  go_wp2_with (first
    | (go_at_call 17; refine (mmuAlive_any _).mono ?_; rintro e w1 ⟨rfl, hb⟩; have HA := Lib.hid (have2_start hb); clear hb; obtain ⟨q1, q2, q3, q4, q5⟩ := have2_allSpan HA.out)
    | (go_at_call 18; refine (great_any _ l _ (HV.out.mono HA.out.1) hs hl).mono ?_; rintro e w2 ⟨rfl, rfl⟩; rw [hg1]))
  go_ret
  exact ⟨rfl, HA.out.1⟩

set_option maxRecDepth 20000 in
set_option maxHeartbeats 1000000 in
theorem back_long (v : Value) (l : List ByteArray) (s : Nat → Pte) (a n : Int) (d : ByteArray) (w : World) (HV : Hid (Strs w v l)) (hs : Hid (∀ i, (bAt l i).size ≤ 140737488351232)) (hl : Hid (l.length ≤ 140737488351232)) (hg0 : greatB l = 0) (e0 : decide ((3000 : Int) < d.size) = true) :
    Calls Try.prog 4 #[v, .agg (spCells s), .agg (spanCells a n d)] w fun e w' => e = .returned (.bool true) ∧ Below w.heap.size w w' := by
  go_enter Try.func4, Try.ntmps4
  go_wp2_with (first
    | (go_at_call 17; refine (mmuAlive_any _).mono ?_; rintro e w1 ⟨rfl, hb⟩; have HA := Lib.hid (have2_start hb); clear hb; obtain ⟨q1, q2, q3, q4, q5⟩ := have2_allSpan HA.out)
    | (go_at_call 18; refine (great_any _ l _ (HV.out.mono HA.out.1) hs hl).mono ?_; rintro e w2 ⟨rfl, rfl⟩; rw [hg0]))
  go_ret
  exact ⟨rfl, HA.out.1⟩

set_option maxRecDepth 20000 in
set_option maxHeartbeats 1000000 in
theorem back_not (v : Value) (l : List ByteArray) (s : Nat → Pte) (a n : Int) (d : ByteArray) (w : World) (HV : Hid (Strs w v l)) (hs : Hid (∀ i, (bAt l i).size ≤ 140737488351232)) (hl : Hid (l.length ≤ 140737488351232)) (hg0 : greatB l = 0) (e0 : decide ((3000 : Int) < d.size) = false) (HBd : Hid (Bounded s)) (hap : ¬ Apart s) :
    Calls Try.prog 4 #[v, .agg (spCells s), .agg (spanCells a n d)] w fun e w' => e = .returned (.bool true) ∧ Below w.heap.size w w' := by
  go_enter Try.func4, Try.ntmps4
  go_wp2_with (first
    | (go_at_call 17; refine (mmuAlive_any _).mono ?_; rintro e w1 ⟨rfl, hb⟩; have HA := Lib.hid (have2_start hb); clear hb; obtain ⟨q1, q2, q3, q4, q5⟩ := have2_allSpan HA.out)
    | (go_at_call 18; refine (great_any _ l _ (HV.out.mono HA.out.1) hs hl).mono ?_; rintro e w2 ⟨rfl, rfl⟩; rw [hg0])
    | (go_at_call 24; refine (apart_no s _ HBd hap).mono ?_; rintro e w3 ⟨rfl, hb⟩; have HB := Lib.hid (have2_step HA.out hb); clear q1 q2 q3 q4 q5 hb; obtain ⟨q1, q2, q3, q4, q5⟩ := have2_allSpan HB.out))
  go_ret
  exact ⟨rfl, HB.out.1⟩

set_option maxRecDepth 20000 in
set_option maxHeartbeats 1000000 in
theorem back_none (v : Value) (l : List ByteArray) (s : Nat → Pte) (a n : Int) (d : ByteArray) (w : World) (HV : Hid (Strs w v l)) (hs : Hid (∀ i, (bAt l i).size ≤ 140737488351232)) (hl : Hid (l.length ≤ 140737488351232)) (h0 : 0 ≤ a) (h1 : a ≤ 4294967295) (hg0 : greatB l = 0) (e0 : decide ((3000 : Int) < d.size) = false) (HBd : Hid (Bounded s)) (hap : Apart s) (HL : Hid (l.length ≤ 100000)) (Hm : Hid (mlay l s a (bl d) = none)) :
    Calls Try.prog 4 #[v, .agg (spCells s), .agg (spanCells a n d)] w fun e w' => e = .returned (.bool true) ∧ Below w.heap.size w w' := by
  go_enter Try.func4, Try.ntmps4
  go_wp2_with (first
    | (go_at_call 17; refine (mmuAlive_any _).mono ?_; rintro e w1 ⟨rfl, hb⟩; have HA := Lib.hid (have2_start hb); clear hb; obtain ⟨q1, q2, q3, q4, q5⟩ := have2_allSpan HA.out)
    | (go_at_call 18; refine (great_any _ l _ (HV.out.mono HA.out.1) hs hl).mono ?_; rintro e w2 ⟨rfl, rfl⟩; rw [hg0])
    | (go_at_call 24; refine (apart_yes s _ HBd hap).mono ?_; rintro e w3 ⟨rfl, hb⟩; have HB := Lib.hid (have2_step HA.out hb); clear q1 q2 q3 q4 q5 hb; obtain ⟨q1, q2, q3, q4, q5⟩ := have2_allSpan HB.out)
    | ((with_reducible refine wpList_append_strs w3.heap.size w3.heap.size v l ?_ ?_ ?_ ?_ ?_ ?_ ?_ ?_ ?_); rfl; rfl; rfl; exact heap_alloc_new _ _; exact Nat.le_refl _; simp; exact ((HV.out.mono HB.out.1).alloc _); exact HL.out; intro va w4 ho hg; have hb := below_fresh hg; have HO := Lib.hid ho.strs; clear ho hg; have HC := Lib.hid (have2_step HB.out hb); clear q1 q2 q3 q4 q5 hb; obtain ⟨q1, q2, q3, q4, q5⟩ := have2_allSpan HC.out)
    | (go_at_call 21; refine (mlay_none _ l s a d _ (HV.out.mono HC.out.1) HL.out h0 h1 Hm.out).mono ?_; rintro e w5 ⟨hb, v5, rfl, hs5⟩; obtain ⟨a5, cap5, rfl⟩ := nil_shape' hs5; have HO2 := Lib.hid (HO.out.mono hb); clear hs5; have HD := Lib.hid (have2_step HC.out hb); clear q1 q2 q3 q4 q5 hb; obtain ⟨q1, q2, q3, q4, q5⟩ := have2_allSpan HD.out)
    | (go_at_call 23; refine (same_yes _ _ l _ (HV.out.mono HD.out.1) HO2.out HL.out).mono ?_; rintro e w6 ⟨rfl, hb⟩; have HE := Lib.hid (have2_step HD.out hb); clear q1 q2 q3 q4 q5 hb; obtain ⟨q1, q2, q3, q4, q5⟩ := have2_allSpan HE.out))
  go_ret
  exact ⟨rfl, HE.out.1⟩
set_option maxRecDepth 20000 in
set_option maxHeartbeats 1000000 in
theorem back_some (a0 : Option Addr) (cap0 : Nat) (l : List ByteArray) (s : Nat → Pte) (a n : Int) (d : ByteArray) (w : World) (HV : Hid (Strs w (.slice a0 l.length cap0) l)) (hs : Hid (∀ i, (bAt l i).size ≤ 140737488351232)) (hl : Hid (l.length ≤ 140737488351232)) (h0 : 0 ≤ a) (h1 : a ≤ 4294967295) (hg0 : greatB l = 0) (e0 : decide ((3000 : Int) < d.size) = false) (HBd : Hid (Bounded s)) (hap : Apart s) (HL : Hid (l.length ≤ 100000)) (ha : a + d.size ≤ 2048) (l' : List ByteArray) (hlen : l'.length = l.length) (hz : (⟨(bl d).toArray⟩ : ByteArray) = d) (Hm : Hid (mlay l s a (bl d) = some l')) (Hc : Hid (mcopy l' s a d.size = some (bl d)))
    (Hld : Hid (∀ c : Int, 0 ≤ c → (mload l s c 1).isSome = (mload l' s c 1).isSome ∧ (¬ (a ≤ c ∧ c < a + d.size) → mload l s c 1 = mload l' s c 1))) :
    Calls Try.prog 4 #[.slice a0 l.length cap0, .agg (spCells s), .agg (spanCells a n d)] w fun e w' => e = .returned (.bool true) ∧ Below w.heap.size w w' := by
  go_enter Try.func4, Try.ntmps4
  go_wp2_with (first
    | (go_at_call 17; refine (mmuAlive_any _).mono ?_; rintro e w1 ⟨rfl, hb⟩; have HA := Lib.hid (have2_start hb); clear hb; obtain ⟨q1, q2, q3, q4, q5⟩ := have2_allSpan HA.out)
    | (go_at_call 18; refine (great_any _ l _ (HV.out.mono HA.out.1) hs hl).mono ?_; rintro e w2 ⟨rfl, rfl⟩; rw [hg0])
    | (go_at_call 24; refine (apart_yes s _ HBd hap).mono ?_; rintro e w3 ⟨rfl, hb⟩; have HB := Lib.hid (have2_step HA.out hb); clear q1 q2 q3 q4 q5 hb; obtain ⟨q1, q2, q3, q4, q5⟩ := have2_allSpan HB.out)
    | ((with_reducible refine wpList_append_strs w3.heap.size w3.heap.size (.slice a0 l.length cap0) l ?_ ?_ ?_ ?_ ?_ ?_ ?_ ?_ ?_); rfl; rfl; rfl; exact heap_alloc_new _ _; exact Nat.le_refl _; simp; exact ((HV.out.mono HB.out.1).alloc _); exact HL.out; intro va w4 ho hg; have hb := below_fresh hg; have HO := Lib.hid ho.strs; clear ho hg; have HC := Lib.hid (have2_step HB.out hb); clear q1 q2 q3 q4 q5 hb; obtain ⟨q1, q2, q3, q4, q5⟩ := have2_allSpan HC.out)
    | (go_at_call 21; refine (mlay_some _ l l' s a d _ (HV.out.mono HC.out.1) HL.out h0 h1 Hm.out).mono ?_; rintro e w5 ⟨hb, v5, rfl, hs5⟩; have HO2 := Lib.hid (HO.out.mono hb); obtain ⟨a5, cap5, e5, -⟩ := hs5.ex; rw [hlen] at e5; subst e5; have HV5 := Lib.hid hs5; clear hs5; have HD := Lib.hid (have2_step HC.out hb); clear q1 q2 q3 q4 q5 hb; obtain ⟨q1, q2, q3, q4, q5⟩ := have2_allSpan HD.out)
    | (go_at_call 23; refine (same_yes _ _ l _ (HV.out.mono HD.out.1) HO2.out HL.out).mono ?_; rintro e w6 ⟨rfl, hb⟩; have HV6 := Lib.hid (HV5.out.mono hb); have HE := Lib.hid (have2_step HD.out hb); clear q1 q2 q3 q4 q5 hb; obtain ⟨q1, q2, q3, q4, q5⟩ := have2_allSpan HE.out)
    | (go_at_call 19; refine (copy_some _ l' s a d.size _ (bl d) HV6.out h0 h1 Hc.out).mono ?_; rw [hz]; rintro e w7 ⟨rfl, hb⟩; have HV7 := Lib.hid (HV6.out.mono hb); have HF := Lib.hid (have2_step HE.out hb); clear q1 q2 q3 q4 q5 hb; obtain ⟨q1, q2, q3, q4, q5⟩ := have2_allSpan HF.out))
  go_loopw [12] (fun i W => ∃ j : Nat, j ≤ 2048 ∧ i = .int .u32 j ∧ Hid (Below w7.heap.size w7 W)) (fun i _ => 2048 - (intOf i).toNat)
  case atStart => exact ⟨0, by omega, rfl, Below.refl _ _⟩
  case round =>
    obtain ⟨j, hj, rfl, HH⟩ := hrel
    have HX := Lib.hid (have2_step HF.out HH.out)
    have HV8 := Lib.hid (HV7.out.mono HH.out)
    clear q1 q2 q3 q4 q5
    obtain ⟨q1, q2, q3, q4, q5⟩ := have2_allSpan HX.out
    by_cases hlt : j < 2048
    · obtain ⟨hi, hn⟩ := Hld.out j (by omega)
      obtain ⟨x, hx⟩ := loadOut_some (mload l s j 1)
      obtain ⟨y, hy⟩ := loadOut_some (mload l' s j 1)
      rw [← hi] at hy
      generalize (mload l s j 1).isSome = ok at hx hy
      by_cases hin : a ≤ j ∧ (j : Int) < a + d.size
      · have i1 : decide (a ≤ (j : Int)) = true := by simpa using hin.1
        have i2 : decide ((j : Int) < a + d.size) = true := by simpa using hin.2
        have HX1 := Lib.hid hx
        have HY1 := Lib.hid hy
        clear hx hy hn hi hin
        go_wp2_with (first
          | (go_at_call 25; refine (load_any _ l' s (j : Nat) 1 _ HV9.out (by omega) (by omega)).mono ?_; rw [HY1.out]; rintro e w9 ⟨rfl, hb⟩; have HW := Lib.hid (below_step HB8.out hb); have HZ := Lib.hid (have2_step HY.out hb); clear q1 q2 q3 q4 q5 hb; obtain ⟨q1, q2, q3, q4, q5⟩ := have2_allSpan HZ.out)
          | (go_at_call 25; refine (load_any _ l s (j : Nat) 1 _ (HV.out.mono HX.out.1) (by omega) (by omega)).mono ?_; rw [HX1.out]; rintro e w8 ⟨rfl, hb⟩; have HB8 := Lib.hid (below_step HH.out hb); have HV9 := Lib.hid (HV8.out.mono hb); have HY := Lib.hid (have2_step HX.out hb); clear q1 q2 q3 q4 q5 hb; obtain ⟨q1, q2, q3, q4, q5⟩ := have2_allSpan HY.out))
        go_roundw
        case rel => exact ⟨j + 1, by omega, by go_num, HW⟩
        case measure => simp [intOf]; omega
      · have he := hn hin
        by_cases hlow : a ≤ (j : Int)
        · have i1 : decide (a ≤ (j : Int)) = true := by simpa using hlow
          have i2 : decide ((j : Int) < a + d.size) = false := by simp only [decide_eq_false_iff_not]; omega
          have HX1 := Lib.hid hx
          have HX2 := Lib.hid (he ▸ hx)
          clear hx hy hn hi hin he
          go_wp2_with (first
            | (go_at_call 25; refine (load_any _ l' s (j : Nat) 1 _ HV9.out (by omega) (by omega)).mono ?_; rw [HX2.out]; rintro e w9 ⟨rfl, hb⟩; have HW := Lib.hid (below_step HB8.out hb); have HZ := Lib.hid (have2_step HY.out hb); clear q1 q2 q3 q4 q5 hb; obtain ⟨q1, q2, q3, q4, q5⟩ := have2_allSpan HZ.out)
            | (go_at_call 25; refine (load_any _ l s (j : Nat) 1 _ (HV.out.mono HX.out.1) (by omega) (by omega)).mono ?_; rw [HX1.out]; rintro e w8 ⟨rfl, hb⟩; have HB8 := Lib.hid (below_step HH.out hb); have HV9 := Lib.hid (HV8.out.mono hb); have HY := Lib.hid (have2_step HX.out hb); clear q1 q2 q3 q4 q5 hb; obtain ⟨q1, q2, q3, q4, q5⟩ := have2_allSpan HY.out))
          go_roundw
          case rel => exact ⟨j + 1, by omega, by go_num, HW⟩
          case measure => simp [intOf]; omega
        · have i1 : decide (a ≤ (j : Int)) = false := by simpa using hlow
          have HX1 := Lib.hid hx
          have HX2 := Lib.hid (he ▸ hx)
          clear hx hy hn hi hin he
          go_wp2_with (first
            | (go_at_call 25; refine (load_any _ l' s (j : Nat) 1 _ HV9.out (by omega) (by omega)).mono ?_; rw [HX2.out]; rintro e w9 ⟨rfl, hb⟩; have HW := Lib.hid (below_step HB8.out hb); have HZ := Lib.hid (have2_step HY.out hb); clear q1 q2 q3 q4 q5 hb; obtain ⟨q1, q2, q3, q4, q5⟩ := have2_allSpan HZ.out)
            | (go_at_call 25; refine (load_any _ l s (j : Nat) 1 _ (HV.out.mono HX.out.1) (by omega) (by omega)).mono ?_; rw [HX1.out]; rintro e w8 ⟨rfl, hb⟩; have HB8 := Lib.hid (below_step HH.out hb); have HV9 := Lib.hid (HV8.out.mono hb); have HY := Lib.hid (have2_step HX.out hb); clear q1 q2 q3 q4 q5 hb; obtain ⟨q1, q2, q3, q4, q5⟩ := have2_allSpan HY.out))
          go_roundw
          case rel => exact ⟨j + 1, by omega, by go_num, HW⟩
          case measure => simp [intOf]; omega
    · go_wp2_with fail
      go_ret
      exact ⟨rfl, HX.out.1⟩

theorem back_walk (v : Value) (l : List ByteArray) (s : Nat → Pte) (a n : Int) (d : ByteArray) (w : World) (hv : Strs w v l) (hs : Hid (∀ i, (bAt l i).size ≤ 140737488351232)) (hl : Hid (l.length ≤ 140737488351232)) (h0 : 0 ≤ a) (h1 : a ≤ 4294967295) (hb : Bounded s) :
    Calls Try.prog 4 #[v, .agg (spCells s), .agg (spanCells a n d)] w fun e w' => e = .returned (.bool true) ∧ Below w.heap.size w w' := by
  by_cases hg : tot l ≤ 5000
  · have hg0 := great_no hg
    have HL : l.length ≤ 100000 := Nat.le_trans (tot_length l) (Nat.le_trans hg (by decide : 5000 ≤ 100000))
    by_cases hd : d.size ≤ 3000
    · have e0 : decide ((3000 : Int) < d.size) = false := by simp; omega
      by_cases hap : Apart s
      · cases hm : mlay l s a (bl d) with
        | none => exact back_none v l s a n d w hv hs hl h0 h1 hg0 e0 hb hap HL hm
        | some l' =>
          obtain ⟨ha, _⟩ := mlay_le hm
          have hc := back_copy hap h0 hm
          rw [bl_length] at ha hc
          obtain ⟨a0, cap0, rfl, _⟩ := hv.ex
          exact back_some a0 cap0 l s a n d w hv hs hl h0 h1 hg0 e0 hb hap HL ha l' (mlay_len hm) (bl_ext (bl_mk _)) hm hc (fun c hc => by have := back_load hap h0 hm c hc; rw [bl_length] at this; exact this)
      · exact back_not v l s a n d w hv hs hl hg0 e0 hb hap
    · exact back_long v l s a n d w hv hs hl hg0 (by simp; omega)
  · exact back_great v l s a n d w hv hs hl (great_is hg)
end Go.Proofs.Ytlhcggaeecjbcaa
