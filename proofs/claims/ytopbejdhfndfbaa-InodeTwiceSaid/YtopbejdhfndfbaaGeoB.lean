/- Contracts of Used and Room, of both sides. Condition: at most 100,000 blocks. -/
import Derived.Test.YtopbejdhfndfbaaGeo7
import Derived.Test.YtopbejdhfndfbaaGeo8
import Derived.Lib.BitFns
namespace Go.Proofs.Ytopbejdhfndfbaa
open Go.RowKit
set_option maxRecDepth 20000
attribute [local go_sem ↓] loadVar_24 storeVar_24
attribute [local go_sem] run_load24 run_store24 aggAt_new aggAt_past aggAt_drew rowAt_new rowAt_past rowAt_drew rowOpen_new rowOpen_past rowOpen_drew setRow_made' alloc_setRow
theorem of_yes {v : Value} {l : List ByteArray} {i : Nat} (h : mof l = some i) (hl : l.length ≤ 100000) (w : World) (hv : Strs w v l) : Calls Try.prog 20 #[v] w fun e w' => e = .returned (.tuple #[.agg (geoC l.length i (dof i)), .int .i64 0]) ∧ Below w.heap.size w w' := by
  refine (of_any v l w hv hl).mono ?_
  rintro e w' ⟨h1, h2⟩
  unfold ofC ofE at h1
  rw [h] at h1
  exact ⟨h1, h2⟩
theorem of_nope {v : Value} {l : List ByteArray} (h : mof l = none) (hl : l.length ≤ 100000) (w : World) (hv : Strs w v l) : Calls Try.prog 20 #[v] w fun e w' => e = .returned (.tuple #[.agg geo0, .int .i64 3]) ∧ Below w.heap.size w w' := by
  refine (of_any v l w hv hl).mono ?_
  rintro e w' ⟨h1, h2⟩
  unfold ofC ofE at h1
  rw [h] at h1
  exact ⟨h1, h2⟩
theorem rof_yes {v : Value} {l : List ByteArray} {i : Nat} (h : mof l = some i) (hl : l.length ≤ 100000) (w : World) (hv : Strs w v l) : Calls Try.prog 23 #[v] w fun e w' => e = .returned (.tuple #[.agg (geoC l.length i (dof i)), .int .i64 0]) ∧ Below w.heap.size w w' := by
  refine (rof_any v l w hv hl).mono ?_
  rintro e w' ⟨h1, h2⟩
  unfold ofC ofE at h1
  rw [h] at h1
  exact ⟨h1, h2⟩
theorem rof_nope {v : Value} {l : List ByteArray} (h : mof l = none) (hl : l.length ≤ 100000) (w : World) (hv : Strs w v l) : Calls Try.prog 23 #[v] w fun e w' => e = .returned (.tuple #[.agg geo0, .int .i64 3]) ∧ Below w.heap.size w w' := by
  refine (rof_any v l w hv hl).mono ?_
  rintro e w' ⟨h1, h2⟩
  unfold ofC ofE at h1
  rw [h] at h1
  exact ⟨h1, h2⟩
/-- What stands behind a call of Of: the volume's blocks, and the plan's cells at p. -/
structure Vw (w W : World) (b o p cap : Nat) (l : List ByteArray) (cs : Array Value) : Prop where
  strs : Strs W (.slice (some ⟨b, o, none⟩) l.length cap) l
  hp : W.heap[p]? = some (.cells cs 24)
  below : Below w.heap.size w W
theorem Vw.start {w W1 : World} {b o cap : Nat} {l : List ByteArray} {cs : Array Value} (hv : Strs w (.slice (some ⟨b, o, none⟩) l.length cap) l) (hb : Below w.heap.size w W1) : Vw w (W1.alloc (.cells cs 24)) b o W1.heap.size cap l cs :=
  ⟨(hv.mono hb).alloc _, heap_alloc_new _ _, hb.alloc hb.size _⟩
theorem Vw.step {w W W' : World} {b o p cap : Nat} {l : List ByteArray} {cs : Array Value} (h : Vw w W b o p cap l cs) (hb : Below W.heap.size W W') : Vw w W' b o p cap l cs :=
  ⟨h.strs.mono hb, keep h.hp hb, below_step h.below hb⟩
theorem Strs.drew {w : World} {v : Value} {l : List ByteArray} (h : Strs w v l) : Strs w.drew v l := h.mono (Below.refl _ _).drew
theorem Vw.drew {w W : World} {b o p cap : Nat} {l : List ByteArray} {cs : Array Value} (h : Vw w W b o p cap l cs) : Vw w W.drew b o p cap l cs := ⟨h.strs.drew, h.hp, h.below.drew⟩
theorem used_no {l : List ByteArray} {k : Int} (h : mof l = none) : mused l k = false := by unfold mused; rw [h]; rfl
theorem used_neg {l : List ByteArray} {k : Int} (h : k < 0) : mused l k = false := by unfold mused; rw [decide_eq_false (by omega : ¬ 0 ≤ k)]; simp
theorem used_big {l : List ByteArray} {k : Int} (h : (l.length : Int) ≤ k) : mused l k = false := by unfold mused; rw [decide_eq_false (by omega : ¬ k < (l.length : Int))]; simp
theorem ones_pop : ∀ x : Fin 256, Lib.onesCount x.val = (List.range 8).countP fun i => x.val.testBit i := by decide +kernel
theorem ones_popB (x : UInt8) : Lib.onesCount x.toNat = popB x := ones_pop ⟨x.toNat, x.toNat_lt⟩
theorem room_no {l : List ByteArray} (h : mof l = none) : mroom l = 0 := by unfold mroom; rw [h]
set_option maxHeartbeats 400000 in
theorem used_any (v : Value) (l : List ByteArray) (k : Int) (w : World) (hv : Strs w v l) (hl : l.length ≤ 100000) :
    Calls Try.prog 24 #[v, .int .i64 k] w fun e w' => e = .returned (.bool (mused l k)) ∧ Below w.heap.size w w' := by
  cases h : mof l with
  | none =>
    have HU := Lib.hid (used_no (k := k) h)
    have PO := Lib.hid (of_nope h hl w hv)
    unfold geo0 at PO
    clear h hv hl
    go_enter Try.func24, Try.ntmps24
    go_wp2_with (go_at_call 20; refine PO.out.mono ?_; rintro e W1 ⟨rfl, hb1⟩; have HK := Lib.hid hb1; clear hb1)
    go_ret
    exact ⟨ret_bool HU.out.symm, HK.out.alloc HK.out.size _⟩
  | some i =>
    have HV := mof_some h
    have b0 := HV.b0
    have b1 := HV.b1
    have hm := HV.map_size
    rcases hv.shape with ⟨rfl, -⟩ | ⟨-, b, o, cap, rfl, -, -, -⟩
    · simp at b0
    have HVs := Lib.hid hv
    have PO := Lib.hid (of_yes h hl w hv)
    unfold geoC at PO
    have n2 : (2 : Int) < l.length := by omega
    by_cases hneg : k < 0
    · have HU := Lib.hid (used_neg (l := l) hneg)
      have t1 : ¬ (0 : Int) ≤ k := by omega
      clear h hv hl HV b0 b1 hm
      go_enter Try.func24, Try.ntmps24
      go_wp2_with (go_at_call 20; refine PO.out.mono ?_; rintro e W1 ⟨rfl, hb1⟩; have HK := Lib.hid hb1; clear hb1)
      go_ret
      exact ⟨ret_bool HU.out.symm, HK.out.alloc HK.out.size _⟩
    · have t1 : (0 : Int) ≤ k := by omega
      by_cases hbig : (l.length : Int) ≤ k
      · have HU := Lib.hid (used_big (l := l) hbig)
        have t2 : ¬ k < (l.length : Int) := by omega
        clear h hv hl HV b0 b1 hm hneg hbig
        go_enter Try.func24, Try.ntmps24
        go_wp2_with (go_at_call 20; refine PO.out.mono ?_; rintro e W1 ⟨rfl, hb1⟩; have HK := Lib.hid hb1; clear hb1)
        go_ret
        exact ⟨ret_bool HU.out.symm, HK.out.alloc HK.out.size _⟩
      · obtain ⟨k, rfl⟩ := Int.eq_ofNat_of_zero_le t1
        have t2 : (k : Int) < (l.length : Int) := by omega
        have HU := Lib.hid (HV.used_lt (k := k) (by omega))
        have PB : Hid (∀ w, Calls Try.prog 55 #[.string (bAt l 2), .int .i64 k] w fun e w' => e = .returned (.bool (hasB (bAt l 2) k)) ∧ w = w') := fun w => has_any _ _ w (by omega) (by omega)
        have hk2 := Lib.hid (show 2 < l.length by omega)
        clear h hv hl HV b0 b1 hm hneg hbig
        go_enter Try.func24, Try.ntmps24
        go_wp2_with (first
          | (go_at_call 20; refine PO.out.mono ?_; rintro e W1 ⟨rfl, hb1⟩; have HK := Lib.hid hb1; have HW := Lib.hid (Vw.start (cs := #[.int .i64 l.length, .int .i64 i, .int .i64 1, .int .i64 2, .int .i64 3, .int .i64 (dof i)]) HVs.out hb1); have c2 := HW.out.strs.cell_at hk2.out; clear hb1)
          | (go_at_call 55; refine (PB.out _).mono ?_; rintro e W2 ⟨rfl, rfl⟩))
        go_ret
        exact ⟨ret_bool HU.out.symm, HK.out.alloc HK.out.size _⟩
set_option maxHeartbeats 400000 in
theorem rused_any (v : Value) (l : List ByteArray) (k : Int) (w : World) (hv : Strs w v l) (hl : l.length ≤ 100000) :
    Calls Try.prog 25 #[v, .int .i64 k] w fun e w' => e = .returned (.bool (mused l k)) ∧ Below w.heap.size w w' := by
  cases h : mof l with
  | none =>
    have HU := Lib.hid (used_no (k := k) h)
    have PO := Lib.hid (rof_nope h hl w hv)
    unfold geo0 at PO
    clear h hv hl
    go_enter Try.func25, Try.ntmps25
    go_wp2_with (go_at_call 23; refine PO.out.mono ?_; rintro e W1 ⟨rfl, hb1⟩; have HK := Lib.hid hb1; clear hb1)
    go_ret
    exact ⟨ret_bool HU.out.symm, HK.out.alloc HK.out.size _⟩
  | some i =>
    have HV := mof_some h
    have b0 := HV.b0
    have b1 := HV.b1
    have hm := HV.map_size
    rcases hv.shape with ⟨rfl, -⟩ | ⟨-, b, o, cap, rfl, -, -, -⟩
    · simp at b0
    have HVs := Lib.hid hv
    have PO := Lib.hid (rof_yes h hl w hv)
    unfold geoC at PO
    have n2 : (2 : Int) < l.length := by omega
    by_cases hneg : k < 0
    · have HU := Lib.hid (used_neg (l := l) hneg)
      have t1 : ¬ (0 : Int) ≤ k := by omega
      clear h hv hl HV b0 b1 hm
      go_enter Try.func25, Try.ntmps25
      go_wp2_with (go_at_call 23; refine PO.out.mono ?_; rintro e W1 ⟨rfl, hb1⟩; have HK := Lib.hid hb1; clear hb1)
      go_ret
      exact ⟨ret_bool HU.out.symm, HK.out.alloc HK.out.size _⟩
    · have t1 : (0 : Int) ≤ k := by omega
      by_cases hbig : (l.length : Int) ≤ k
      · have HU := Lib.hid (used_big (l := l) hbig)
        have t2 : ¬ k < (l.length : Int) := by omega
        clear h hv hl HV b0 b1 hm hneg hbig
        go_enter Try.func25, Try.ntmps25
        go_wp2_with (go_at_call 23; refine PO.out.mono ?_; rintro e W1 ⟨rfl, hb1⟩; have HK := Lib.hid hb1; clear hb1)
        go_ret
        exact ⟨ret_bool HU.out.symm, HK.out.alloc HK.out.size _⟩
      · obtain ⟨k, rfl⟩ := Int.eq_ofNat_of_zero_le t1
        have t2 : (k : Int) < (l.length : Int) := by omega
        have HU := Lib.hid (HV.used_lt (k := k) (by omega))
        have PB : Hid (∀ w, Calls Try.prog 54 #[.string (bAt l 2), .int .i64 k] w fun e w' => e = .returned (.bool (hasB (bAt l 2) k)) ∧ w = w') := fun w => bit_any _ _ w (by omega) (by omega)
        have hk2 := Lib.hid (show 2 < l.length by omega)
        clear h hv hl HV b0 b1 hm hneg hbig
        go_enter Try.func25, Try.ntmps25
        go_wp2_with (first
          | (go_at_call 23; refine PO.out.mono ?_; rintro e W1 ⟨rfl, hb1⟩; have HK := Lib.hid hb1; have HW := Lib.hid (Vw.start (cs := #[.int .i64 l.length, .int .i64 i, .int .i64 1, .int .i64 2, .int .i64 3, .int .i64 (dof i)]) HVs.out hb1); have c2 := HW.out.strs.cell_at hk2.out; clear hb1)
          | (go_at_call 54; refine (PB.out _).mono ?_; rintro e W2 ⟨rfl, rfl⟩))
        go_ret
        exact ⟨ret_bool HU.out.symm, HK.out.alloc HK.out.size _⟩
set_option maxHeartbeats 400000 in
theorem room_any (v : Value) (l : List ByteArray) (w : World) (hv : Strs w v l) (hl : l.length ≤ 100000) :
    Calls Try.prog 21 #[v] w fun e w' => e = .returned (.int .i64 (mroom l)) ∧ Below w.heap.size w w' := by
  cases h : mof l with
  | none =>
    have HU := Lib.hid (room_no h)
    have PO := Lib.hid (of_nope h hl w hv)
    unfold geo0 at PO
    clear h hv hl
    go_enter Try.func21, Try.ntmps21
    go_wp2_with (go_at_call 20; refine PO.out.mono ?_; rintro e W1 ⟨rfl, hb1⟩; have HK := Lib.hid hb1; clear hb1)
    go_ret
    exact ⟨ret_int (by rw [HU.out]; rfl), HK.out.alloc HK.out.size _⟩
  | some i =>
    have HV := mof_some h
    have b0 := HV.b0
    have b1 := HV.b1
    have hm := HV.map_size
    rcases hv.shape with ⟨rfl, -⟩ | ⟨-, b, o, cap, rfl, -, -, -⟩
    · simp at b0
    have HVs := Lib.hid hv
    have PO := Lib.hid (of_yes h hl w hv)
    unfold geoC at PO
    have n2 : (2 : Int) < l.length := by omega
    have HA := Lib.hid HV.room_add
    have hk2 := Lib.hid (show 2 < l.length by omega)
    clear h hv hl HV
    go_enter Try.func21, Try.ntmps21
    go_wp2_with (go_at_call 20; refine PO.out.mono ?_; rintro e W1 ⟨rfl, hb1⟩; have HK := Lib.hid hb1; have HW := Lib.hid (Vw.start (cs := #[.int .i64 l.length, .int .i64 i, .int .i64 1, .int .i64 2, .int .i64 3, .int .i64 (dof i)]) HVs.out hb1); have c2 := HW.out.strs.cell_at hk2.out; clear hb1)
    go_loop [5, 22] (fun n x => ∃ k : Nat, k ≤ 128 ∧ x = .int .i64 k ∧ n = .int .i64 ((l.length : Int) - cntB (bAt l 2) (8 * k))) (fun _ x => 128 - (intOf x).toNat)
    case atStart => exact ⟨0, by omega, rfl, by simp [cntB]⟩
    case round =>
      obtain ⟨k, hk, rfl, rfl⟩ := hrel
      have hc0 := cntB_le (bAt l 2) (8 * k)
      by_cases hlt : k < 128
      · have PC : Hid (∀ w, Calls Try.prog 52 #[.int .u8 ((byteOf (bAt l 2) k).toNat : Int)] w fun e w' => e = .returned (.int .i64 (popB (byteOf (bAt l 2) k))) ∧ w' = w) := fun w => by
          rw [← ones_popB]
          exact Try.bits_OnesCount8 _ w (by omega) (by have := (byteOf (bAt l 2) k).toNat_lt; omega)
        have HC := Lib.hid (cnt_byte (bAt l 2) k)
        have hix := run_index_str (bAt l 2) k (by omega)
        have hc1 := cntB_le (bAt l 2) (8 * (k + 1))
        have hi1 : (k : Int) < 128 := by omega
        generalize hq : popB (byteOf (bAt l 2) k) = q at PC
        have HQ := Lib.hid hq
        have hqq : q ≤ 2000 := by have := HC.out; omega
        clear hq
        go_wp2_with (go_at_call 52; refine (PC.out _).mono ?_; rintro e W2 ⟨rfl, rfl⟩)
        go_round
        case rel => exact ⟨k + 1, by omega, by go_num, congrArg (Value.int .i64) (by rw [HC.out, HQ.out]; omega)⟩
        case measure => simp [intOf]; omega
      · obtain rfl : k = 128 := by omega
        go_wp2_with fail
        go_ret
        exact ⟨ret_int (by have := HA.out; omega), HK.out.alloc HK.out.size _⟩
set_option maxHeartbeats 400000 in
theorem rroom_any (v : Value) (l : List ByteArray) (w : World) (hv : Strs w v l) (hl : l.length ≤ 100000) :
    Calls Try.prog 26 #[v] w fun e w' => e = .returned (.int .i64 (mroom l)) ∧ Below w.heap.size w w' := by
  cases h : mof l with
  | none =>
    have HU := Lib.hid (room_no h)
    have HV := Lib.hid hv
    have PO : Hid (∀ w, Strs w v l → Calls Try.prog 23 #[v] w fun e w' => e = .returned (.tuple #[.agg geo0, .int .i64 3]) ∧ Below w.heap.size w w') := fun w hv => rof_nope h hl w hv
    obtain ⟨a, cap, rfl, -⟩ := hv.ex
    unfold geo0 at PO
    clear h hv
    go_enter Try.func26, Try.ntmps26
    go_wp2_with fail
    go_loopw [3, 9] (fun n x W => ∃ k : Nat, k ≤ l.length ∧ x = .int .i64 k ∧ n = .int .i64 0 ∧ Hid (Below w.heap.size w W)) (fun _ x _ => l.length - (intOf x).toNat)
    case atStart => exact ⟨0, by omega, rfl, rfl, Below.refl _ _⟩
    case round =>
      obtain ⟨k, hk, rfl, rfl, HB⟩ := hrel
      by_cases hlt : k < l.length
      · have hi1 : (k : Int) < l.length := by omega
        go_wp2_with (go_at_call 23; refine (PO.out _ (HV.out.mono HB.out)).mono ?_; rintro e W1 ⟨rfl, hb1⟩; have HK := Lib.hid (below_step HB.out hb1); clear hb1)
        go_roundw
        case rel => exact ⟨k + 1, by omega, by go_num, rfl, HK.out.alloc HK.out.size _⟩
        case measure => simp [intOf]; omega
      · obtain rfl : k = l.length := by omega
        go_wp2_with fail
        go_ret
        exact ⟨ret_int (by rw [HU.out]; rfl), HB.out⟩
  | some i =>
    have HV := mof_some h
    have b0 := HV.b0
    have b1 := HV.b1
    rcases hv.shape with ⟨rfl, -⟩ | ⟨-, b, o, cap, rfl, -, -, -⟩
    · simp at b0
    have HVs := Lib.hid hv
    have PO : Hid (∀ w, Strs w (.slice (some ⟨b, o, none⟩) l.length cap) l → Calls Try.prog 23 #[.slice (some ⟨b, o, none⟩) l.length cap] w fun e w' => e = .returned (.tuple #[.agg (geoC l.length i (dof i)), .int .i64 0]) ∧ Below w.heap.size w w') := fun w hv => rof_yes h hl w hv
    have PU : Hid (∀ w k, k < l.length → Strs w (.slice (some ⟨b, o, none⟩) l.length cap) l → Calls Try.prog 25 #[.slice (some ⟨b, o, none⟩) l.length cap, .int .i64 (k : Nat)] w fun e w' => e = .returned (.bool (hasB (bAt l 2) k)) ∧ Below w.heap.size w w') := fun w k hk hv => by
      rw [← HV.used_lt hk]
      exact rused_any _ _ _ w hv hl
    unfold geoC at PO
    have HA := Lib.hid HV.room_add
    have HA2 := Lib.hid HV.cnt
    clear h hv hl HV
    go_enter Try.func26, Try.ntmps26
    go_wp2_with fail
    go_loopw [3, 9] (fun n x W => ∃ k : Nat, k ≤ l.length ∧ x = .int .i64 k ∧ n = .int .i64 ((k : Int) - cntB (bAt l 2) k) ∧ Hid (Below w.heap.size w W)) (fun _ x _ => l.length - (intOf x).toNat)
    case atStart => exact ⟨0, by omega, rfl, rfl, Below.refl _ _⟩
    case round =>
      obtain ⟨k, hk, rfl, rfl, HB⟩ := hrel
      have hc0 := cntB_le (bAt l 2) k
      by_cases hlt : k < l.length
      · have hi1 : (k : Int) < l.length := by omega
        cases hh : hasB (bAt l 2) k with
        | true =>
          have HC : Hid (cntB (bAt l 2) (k + 1) = cntB (bAt l 2) k + 1) := by show cntB (bAt l 2) (k + 1) = _; simp only [cntB, hh, if_true]
          have HH := Lib.hid hh
          clear hh
          go_wp2_with (first
          | (go_at_call 23; refine (PO.out _ (HVs.out.mono HB.out)).mono ?_; rintro e W1 ⟨rfl, hb1⟩; have HK := Lib.hid (below_step HB.out hb1); clear hb1)
            | (go_at_call 25; refine (PU.out _ k hlt ((HVs.out.mono HK.out).alloc _)).mono ?_; rw [HH.out]; rintro e W2 ⟨rfl, hb2⟩; have HK2 := Lib.hid (below_step (HK.out.alloc HK.out.size _) hb2); clear hb2))
          go_roundw
          case rel => exact ⟨k + 1, by omega, by go_num, congrArg (Value.int .i64) (by rw [HC.out]; omega), HK2⟩
          case measure => simp [intOf]; omega
        | false =>
          have HC : Hid (cntB (bAt l 2) (k + 1) = cntB (bAt l 2) k) := by show cntB (bAt l 2) (k + 1) = _; simp only [cntB, hh]; rfl
          have HH := Lib.hid hh
          clear hh
          go_wp2_with (first
          | (go_at_call 23; refine (PO.out _ (HVs.out.mono HB.out)).mono ?_; rintro e W1 ⟨rfl, hb1⟩; have HK := Lib.hid (below_step HB.out hb1); clear hb1)
            | (go_at_call 25; refine (PU.out _ k hlt ((HVs.out.mono HK.out).alloc _)).mono ?_; rw [HH.out]; rintro e W2 ⟨rfl, hb2⟩; have HK2 := Lib.hid (below_step (HK.out.alloc HK.out.size _) hb2); clear hb2))
          go_roundw
          case rel => exact ⟨k + 1, by omega, by go_num, congrArg (Value.int .i64) (by rw [HC.out]; omega), HK2⟩
          case measure => simp [intOf]; omega
      · obtain rfl : k = l.length := by omega
        go_wp2_with fail
        go_ret
        exact ⟨ret_int (by have := HA.out; rw [HA2.out] at this; omega), HB.out⟩
end Go.Proofs.Ytopbejdhfndfbaa
