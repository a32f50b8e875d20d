/- The law CpuMemory: plain, and walked. No condition. -/
import Derived.Test.YtlhcggaeecjbcaaLawj
namespace Go.Proofs.Ytlhcggaeecjbcaa
open Go.RowKit

theorem zeroB_size : zeroB.size = 128 := by kernel_rfl
def byteN (v n : Nat) : Nat := v / 2 ^ (8 * n) % 256
theorem two_list {l : List ByteArray} {x : ByteArray} (h : l.length = 2) (h0 : bAt l 0 = x) : ∃ y, l = [x, y] := by
  match l, h with
  | [a, b], _ => exact ⟨b, by rw [← h0]; rfl⟩
theorem setR_other (r : Nat → Int) (a b : Nat) (v : Int) (h : b ≠ a) (h0 : b ≠ 0) : setR r a v b = r b := by
  unfold setR upd
  rw [if_neg h0, if_neg h]
theorem setR_ok' {r : Nat → Int} (h : ROk r) (a : Nat) {v : Int} (h0 : 0 ≤ v) (h1 : v ≤ 4294967295) : ROk (setR r a v) := rok0 (h.upd a h0 h1)
/-- Four steps: what was stored is loaded. -/
theorem mem_plain (v p n : Nat) (hv : v ≤ 4294967295) (hp : p < 32) (hn : n < 4) (n0 n1 n2 n3 : Nat) (e0 : menc ⟨23, 1, 2, 0, 0⟩ = (n0, 0)) (e1 : menc ⟨20, 3, 2, 0, 0⟩ = (n1, 0)) (e2 : menc ⟨21, 4, 2, 0, (n : Int)⟩ = (n2, 0)) (e3 : menc ⟨22, 5, 2, 0, (n : Int)⟩ = (n3, 0)) :
    ∃ (R : Nat → Nat → Int) (L : Nat → List ByteArray), R 0 = brR v (128 + 4 * p) ∧ L 0 = [pageB [n0, n1, n2, n3], zeroB] ∧ (∀ j : Nat, j < 4 → mstep (R j) (4 * (j : Int)) oneS (L j) = ⟨R (j + 1), 4 * ((j : Int) + 1), L (j + 1), 0, 0⟩) ∧
      (∀ j, ROk (R j)) ∧ (∀ j, (L j).length ≤ 100000) ∧ R 4 3 = v ∧ R 4 4 = sextB (byteN v n) ∧ R 4 5 = byteN v n ∧ mload (L 4) oneS (128 + 4 * (p : Int)) 4 = some v := by
  have hb : byteN v n ≤ 255 := by unfold byteN; omega
  have hmf : mfind oneS (128 + 4 * (p : Int)) 4 true = some (1, 4 * (p : Int)) := by
    unfold mfind
    have hp1 : pg oneS (128 + 4 * (p : Int)) = ⟨true, true, 1⟩ := by
      unfold pg
      rw [show ((128 + 4 * (p : Int)) / 128).toNat = 1 from by omega]
      rfl
    rw [if_pos ⟨.inr rfl, by omega, by omega⟩, hp1, if_pos ⟨rfl, fun _ => rfl⟩, show (128 + 4 * (p : Int)) % 128 = 4 * p from by omega]
  have ht : thereB [pageB [n0, n1, n2, n3], zeroB] 1 = true := by
    unfold thereB
    have e : bAt [pageB [n0, n1, n2, n3], zeroB] (1 : Int).toNat = zeroB := rfl
    rw [e, zeroB_size]
    simp
  have hst := mstore_eq (n := v) (by omega) hmf ht
  obtain ⟨_, hld, _, hlen, hO⟩ := words_store hst (by omega) hv
  generalize List.set _ _ _ = l1 at hst hld hlen hO
  have hpg : (pg oneS (128 + 4 * (p : Int))).frame = 1 := by
    unfold pg
    rw [show ((128 + 4 * (p : Int)) / 128).toNat = 1 from by omega]
    rfl
  obtain ⟨y, rfl⟩ := two_list (x := pageB [n0, n1, n2, n3]) hlen (hO 0 (by rw [hpg]; decide))
  obtain ⟨_, _, _, hbytes⟩ := words_bytes hld (by omega)
  have hby := hbytes n hn
  have r0 : brR v (128 + 4 * p) 0 = 0 := rfl
  have hr1 : brR v (128 + 4 * p) 1 = v := rfl
  have hr2 : brR v (128 + 4 * p) 2 = 128 + 4 * p := rfl
  have ok0 : ROk (brR v (128 + 4 * p)) := by
    refine ⟨fun i => ?_, fun i => ?_⟩
    · unfold brR
      split
      · omega
      · split <;> omega
    · unfold brR
      split
      · omega
      · split <;> omega
  have ok2 := setR_ok' ok0 3 (v := (v : Int)) (by omega) (by omega)
  have ok3 := setR_ok' ok2 4 (v := sextB (byteN v n)) (by unfold sextB; split <;> omega) (by unfold sextB; split <;> omega)
  have ok4 := setR_ok' ok3 5 (v := (byteN v n : Int)) (by omega) (by omega)
  refine ⟨fun j => if j = 0 then brR v (128 + 4 * p) else if j = 1 then brR v (128 + 4 * p) else if j = 2 then setR (brR v (128 + 4 * p)) 3 v else if j = 3 then setR (setR (brR v (128 + 4 * p)) 3 v) 4 (sextB (byteN v n)) else setR (setR (setR (brR v (128 + 4 * p)) 3 v) 4 (sextB (byteN v n))) 5 (byteN v n),
    fun j => if j = 0 then [pageB [n0, n1, n2, n3], zeroB] else [pageB [n0, n1, n2, n3], y], rfl, rfl, ?_, ?_, ?_, ?_, ?_, ?_, hld⟩
  · intro j hj
    have : j = 0 ∨ j = 1 ∨ j = 2 ∨ j = 3 := by omega
    rcases this with rfl | rfl | rfl | rfl
    · show mstep (brR v (128 + 4 * p)) (4 * ((0 : Nat) : Int)) oneS [pageB [n0, n1, n2, n3], zeroB] = ⟨brR v (128 + 4 * p), 4 * (((0 : Nat) : Int) + 1), [pageB [n0, n1, n2, n3], y], 0, 0⟩
      rw [step_page [n0, n1, n2, n3] [zeroB] _ 0 ⟨23, 1, 2, 0, 0⟩ (by simp) (by simp) e0, mexec_st (by decide) (by decide), upd_zero r0, hr1, hr2, show memSize 23 = 4 from rfl, show ((128 : Int) + 4 * p + 0) % 4294967296 = 128 + 4 * p from by omega, Int.toNat_natCast, hst]
      rfl
    · show mstep (brR v (128 + 4 * p)) (4 * ((1 : Nat) : Int)) oneS [pageB [n0, n1, n2, n3], y] = ⟨setR (brR v (128 + 4 * p)) 3 v, 4 * (((1 : Nat) : Int) + 1), [pageB [n0, n1, n2, n3], y], 0, 0⟩
      rw [step_page [n0, n1, n2, n3] [y] _ 1 ⟨20, 3, 2, 0, 0⟩ (by simp) (by simp) e1, mexec_ld (by decide) (by decide), upd_zero r0, hr2, show memSize 20 = 4 from rfl, show ((128 : Int) + 4 * p + 0) % 4294967296 = 128 + 4 * p from by omega, hld]
      rfl
    · show mstep (setR (brR v (128 + 4 * p)) 3 v) (4 * ((2 : Nat) : Int)) oneS [pageB [n0, n1, n2, n3], y] = ⟨setR (setR (brR v (128 + 4 * p)) 3 v) 4 (sextB (byteN v n)), 4 * (((2 : Nat) : Int) + 1), [pageB [n0, n1, n2, n3], y], 0, 0⟩
      rw [step_page [n0, n1, n2, n3] [y] _ 2 ⟨21, 4, 2, 0, n⟩ (by simp) (by simp) e2, mexec_ld (by decide) (by decide), upd_zero (setR_head _ _ _), setR_other _ _ _ _ (by decide) (by decide), hr2, show memSize 21 = 1 from rfl, show ((128 : Int) + 4 * p + n) % 4294967296 = 128 + 4 * p + n from by omega, hby]
      rfl
    · show mstep (setR (setR (brR v (128 + 4 * p)) 3 v) 4 (sextB (byteN v n))) (4 * ((3 : Nat) : Int)) oneS [pageB [n0, n1, n2, n3], y] = ⟨setR (setR (setR (brR v (128 + 4 * p)) 3 v) 4 (sextB (byteN v n))) 5 (byteN v n), 4 * (((3 : Nat) : Int) + 1), [pageB [n0, n1, n2, n3], y], 0, 0⟩
      rw [step_page [n0, n1, n2, n3] [y] _ 3 ⟨22, 5, 2, 0, n⟩ (by simp) (by simp) e3, mexec_ld (by decide) (by decide), upd_zero (setR_head _ _ _), setR_other _ _ _ _ (by decide) (by decide), setR_other _ _ _ _ (by decide) (by decide), hr2, show memSize 22 = 1 from rfl, show ((128 : Int) + 4 * p + n) % 4294967296 = 128 + 4 * p + n from by omega, hby]
      rfl
  · intro j
    simp only
    repeat' split
    all_goals assumption
  · intro j
    simp only
    split <;> simp
  · rfl
  · rfl
  · rfl
end Go.Proofs.Ytlhcggaeecjbcaa
namespace Go.Proofs.Ytlhcggaeecjbcaa
open Go.RowKit
set_option maxRecDepth 20000 in
theorem run_store58_mr (w : World) (b : Nat) (x y : Int) (h : rowOpen w b 17 = true) : (store58 ⟨b, 0, none⟩ (.agg #[.int .u32 0, .int .u32 x, .int .u32 y, .int .u32 0, .int .u32 0, .int .u32 0, .int .u32 0, .int .u32 0, .int .u32 0, .int .u32 0, .int .u32 0, .int .u32 0, .int .u32 0, .int .u32 0, .int .u32 0, .int .u32 0, .int .u32 0])).run Try.prog w = .ok () (w.setRow b (cpuCells (brR x y) 0)) := run_store58 w b (brR x y) 0 h
theorem cpu_ints' (r : Nat → Int) (pc : Int) : (cpuCells r pc).toList.all isIntV = true := by simp [cpuCells, isIntV]
attribute [local go_sem ↓] loadVar_26 loadVar_58 loadVar_61 storeVar_26 storeVar_58 storeVar_61
attribute [local go_sem] run_load26 run_load58 run_load61 run_store26_any run_store58_mr run_store58 run_store61 aggAt_new aggAt_past aggAt_drew rowAt_new rowAt_past rowAt_drew rowOpen_new rowOpen_past rowOpen_drew rowFree_new rowFree_past rowFree_drew setRow_made setRow_made' spCells_size cpuCells_size cpuCells_at cpuCells_at16 alloc_setRow aggAt_setRow_other rowAt_setRow_other size_setRow i8_low i8_high

set_option maxRecDepth 20000 in
set_option maxHeartbeats 1000000 in
theorem memw_lo (v : Nat) (wd kd : Int) (p n bb : Nat) (w : World) (_hv : v ≤ 4294967295) (wd0 : 0 ≤ wd) (wd1 : wd ≤ 255) (kd0 : 0 ≤ kd) (kd1 : kd ≤ 255) (hp : wd % 32 = p) (hk : kd % 4 = n) (_p32 : (p : Int) < 32) (_n4 : (n : Int) < 4) (hbb : (bb : Int) ≤ 255) (hlo : (bb : Int) ≤ 127)
    (n0 n1 n2 n3 : Nat) (le0 : n0 ≤ 4294967295) (E0 : Hid (∀ w, Calls Try.prog 36 #[.agg #[.int .u8 (23 : Nat), .int .u8 (1 : Nat), .int .u8 (2 : Nat), .int .u8 (0 : Nat), .int .i32 0]] w fun e w' => e = .returned (.tuple #[.int .u32 n0, .int .i64 (0 : Nat)]) ∧ Below w.heap.size w w'))
    (E1 : Hid (∀ w, Calls Try.prog 38 #[.agg #[.int .u8 20, .int .u8 3, .int .u8 2, .int .u8 0, .int .i32 0]] w fun e w' => e = .returned (.tuple #[.int .u32 n1, .int .i64 0]) ∧ Below w.heap.size w w'))
    (E2 : Hid (∀ w, Calls Try.prog 38 #[.agg #[.int .u8 21, .int .u8 4, .int .u8 2, .int .u8 0, .int .i32 n]] w fun e w' => e = .returned (.tuple #[.int .u32 n2, .int .i64 0]) ∧ Below w.heap.size w w'))
    (E3 : Hid (∀ w, Calls Try.prog 38 #[.agg #[.int .u8 22, .int .u8 5, .int .u8 2, .int .u8 0, .int .i32 n]] w fun e w' => e = .returned (.tuple #[.int .u32 n3, .int .i64 0]) ∧ Below w.heap.size w w'))
    (E4 : Hid (∀ w, Calls Try.prog 38 #[.agg #[.int .u8 23, .int .u8 1, .int .u8 2, .int .u8 0, .int .i32 0]] w fun e w' => e = .returned (.tuple #[.int .u32 n0, .int .i64 0]) ∧ Below w.heap.size w w'))
    (pg : ByteArray) (PG : Hid (∀ (b : Nat) (w : World), w.heap[b]? = some (.cells #[.int .u32 n0, .int .u32 n1, .int .u32 n2, .int .u32 n3] 27) → Calls Try.prog 39 #[.slice (some ⟨b, 0, none⟩) 4 4] w fun e w' => e = .returned (.string pg) ∧ Below w.heap.size w w'))
    (R : Nat → Nat → Int) (L : Nat → List ByteArray) (hR0 : R 0 = brR v (128 + 4 * p)) (hL0 : L 0 = [pg, zeroB]) (h3 : R 4 3 = v) (h4 : R 4 4 = bb) (h5 : R 4 5 = bb)
    (HS : Hid (∀ j : Nat, j < 4 → ∀ (x : Value) (w : World), Strs w x (L j) → Calls Try.prog 33 #[.agg (cpuCells (R j) (4 * (j : Int))), .agg (spCells oneS), x] w (StepPost ⟨R (j + 1), 4 * ((j : Int) + 1), L (j + 1), 0, 0⟩ w)))
    (HLD : Hid (loadOut (mload (L 4) oneS (128 + 4 * (p : Int)) 4) = .tuple #[.int .u32 v, .bool true])) (hbit : bits .and .u32 ((v : Int) / 2 ^ (8 * n)) 255 = bb) :
    Calls Try.prog 14 #[.int .u32 v, .int .u8 wd, .int .u8 kd] w fun e w' => e = .returned (.bool true) ∧ Below w.heap.size w w' := by
  go_enter Try.func14, Try.ntmps14
  go_wp2_with (first
    | (go_at_call 39; have q0 := B6.out; clear q0; refine (PG.out _ _ (heap_alloc_new _ _)).mono ?_; rintro e w7 ⟨rfl, hb⟩; obtain ⟨s1, hb'⟩ := keep1 hb; have h5' := keep R6.out hb'; have P7 := Lib.hid (keep P6.out hb'); have B7 := Lib.hid (below_step B6.out hb'); have R7 := Lib.hid h5'; have hset := setCell_row h5'; have hfr := frozen_row h5'; have c0 := cell_of_heap h5' (show (#[Value.string (pageB [n0]), Value.string zeroB] : Array Value)[0]? = some (.string (pageB [n0])) from rfl); clear hb hb' s1 h5')
    | (go_at_call 38; have q0 := B5.out; clear q0; refine (E4.out _).mono ?_; rintro e w6 ⟨rfl, hb⟩; have P6 := Lib.hid (keep P5.out hb); have R6 := Lib.hid (keep R5.out hb); have B6 := Lib.hid (below_step B5.out hb); clear hb)
    | (go_at_call 38; have q0 := B4.out; clear q0; refine (E3.out _).mono ?_; rintro e w5 ⟨rfl, hb⟩; have P5 := Lib.hid (keep P4.out hb); have R5 := Lib.hid (keep R4.out hb); have B5 := Lib.hid (below_step B4.out hb); clear hb)
    | (go_at_call 38; have q0 := B3.out; clear q0; refine (E2.out _).mono ?_; rintro e w4 ⟨rfl, hb⟩; have P4 := Lib.hid (keep P3.out hb); have R4 := Lib.hid (keep R3.out hb); have B4 := Lib.hid (below_step B3.out hb); clear hb)
    | (go_at_call 38; have q0 := B2.out; clear q0; refine (E1.out _).mono ?_; rintro e w3 ⟨rfl, hb⟩; obtain ⟨s1, hb'⟩ := keep1 hb; have P3 := Lib.hid s1; have R3 := Lib.hid (keep R2.out hb'); have B3 := Lib.hid (below_step B2.out hb'); clear hb hb' s1)
    | (go_at_call 37; refine (one37s 23 1 2 0 0 _ n0 0 le0 E0).mono ?_; rintro e w2 ⟨hb, b, hge, rfl, hrow⟩; have R2 := Lib.hid hrow; have B2 := Lib.hid (below_step B1.out hb); have hge' : w.heap.size ≤ b := (Nat.le_trans B1.out.size hge); have hne := heap_lt hrow; clear hb hrow hge)
    | (go_at_call 31; refine (alive31 _).mono ?_; rintro e w1 ⟨rfl, hb⟩; have B1 := Lib.hid hb; clear hb))
  have hn1 := heap_lt P7.out
  have HSP := Lib.hid ((heap_setRow_other w7 b w2.heap.size #[.string pg, .string zeroB] (by omega)).trans P7.out)
  have HBX := Lib.hid (below_setRow B7.out hge' #[.string pg, .string zeroB])
  have HST := Lib.hid (strs_row2 (row_set2 (cs' := #[.string pg, .string zeroB]) R7.out))
  have hkc : w.heap.size ≤ w7.heap.size := B7.out.size
  go_loopw [9, 20] (fun x i W => ∃ (lv : Value) (j : Nat), lv = x ∧ i = .int .i64 j ∧ j ≤ 4 ∧ Hid (Below w.heap.size w W) ∧ Hid (W.heap[w2.heap.size]? = some (.cells (spCells oneS) 26)) ∧ Hid (W.heap[w7.heap.size]? = some (.cells (cpuCells (R j) (4 * (j : Int))) 58)) ∧ Hid (Strs W lv (L j))) (fun _ i _ => 4 - (intOf i).toNat)
  case atStart =>
    refine ⟨_, 0, rfl, rfl, by omega, HBX.out.alloc HBX.out.size _, (heap_alloc_at _ _ _ (by rw [size_setRow]; exact hn1)).trans HSP.out, ?_, ?_⟩
    · rw [hR0, ← size_setRow w7 b #[.string pg, .string zeroB]]
      exact heap_alloc_new _ _
    · rw [hL0]
      exact HST.out.alloc _
  case round =>
    obtain ⟨lv, j, rfl, rfl, hj, HB, HP, HC, HV⟩ := hrel
    clear hset hfr c0
    obtain ⟨q1, q2⟩ := agg_facts HC.out 17 (cpuCells_size _ _)
    obtain ⟨q3, q4⟩ := agg_facts HP.out 48 (spCells_size _)
    by_cases hlt : j < 4
    · go_wp2_with (go_at_call 33; refine (HS.out j hlt _ _ HV.out).mono ?_; rintro e W1 ⟨hb, lv2, rfl, hs⟩; have HB1 := Lib.hid (below_step HB.out hb); have HP1 := Lib.hid (keep HP.out hb); have HC1 := Lib.hid (keep HC.out hb); have HV1 := Lib.hid hs; clear hb hs q1 q2 q3 q4; have o1 := rowOpen_of HC1.out 17 (cpuCells_size _ _); have o2 := heap_lt HC1.out; have o3 := Nat.lt_add_one_of_lt o2)
      go_roundw
      case rel =>
        refine ⟨lv2, j + 1, rfl, by go_num, by omega, below_step (below_setRow HB1.out hkc _) (below_two _ _ _), keep ((heap_setRow_other _ _ _ _ (by omega)).trans HP1.out) (below_two _ _ _), ?_, (HV1.out.setRow HC1.out (cpu_ints' _ _)).mono (below_two _ _ _)⟩
        exact keep (row_set2 HC1.out) (below_two _ _ _)
      case measure => simp [intOf]; omega
    · obtain rfl : j = 4 := by omega
      go_wp2_with (go_at_call 25; refine (load_any _ (L 4) oneS (128 + 4 * (p : Int)) 4 _ HV.out (by omega) (by omega)).mono ?_; rw [HLD.out]; rintro e W2 ⟨rfl, hb⟩; have HB2 := Lib.hid (below_step HB.out hb); have hc := keep HC.out hb; have x3 := cell_of_heap hc (cpuCells_get (R 4) _ 3 (by decide)); have x4 := cell_of_heap hc (cpuCells_get (R 4) _ 4 (by decide)); have x5 := cell_of_heap hc (cpuCells_get (R 4) _ 5 (by decide)); rw [h3] at x3; rw [h4] at x4; rw [h5] at x5; clear hc hb q1 q2 q3 q4)
      go_ret
      exact ⟨rfl, HB2.out⟩

set_option maxRecDepth 20000 in
set_option maxHeartbeats 1000000 in
theorem memw_hi (v : Nat) (wd kd : Int) (p n bb : Nat) (w : World) (_hv : v ≤ 4294967295) (wd0 : 0 ≤ wd) (wd1 : wd ≤ 255) (kd0 : 0 ≤ kd) (kd1 : kd ≤ 255) (hp : wd % 32 = p) (hk : kd % 4 = n) (_p32 : (p : Int) < 32) (_n4 : (n : Int) < 4) (hbb : (bb : Int) ≤ 255) (hhi : 128 ≤ (bb : Int)) (hqq : ((bb : Int) + 4294967040 == ((bb : Int) - 256) % 4294967296) = true)
    (n0 n1 n2 n3 : Nat) (le0 : n0 ≤ 4294967295) (E0 : Hid (∀ w, Calls Try.prog 36 #[.agg #[.int .u8 (23 : Nat), .int .u8 (1 : Nat), .int .u8 (2 : Nat), .int .u8 (0 : Nat), .int .i32 0]] w fun e w' => e = .returned (.tuple #[.int .u32 n0, .int .i64 (0 : Nat)]) ∧ Below w.heap.size w w'))
    (E1 : Hid (∀ w, Calls Try.prog 38 #[.agg #[.int .u8 20, .int .u8 3, .int .u8 2, .int .u8 0, .int .i32 0]] w fun e w' => e = .returned (.tuple #[.int .u32 n1, .int .i64 0]) ∧ Below w.heap.size w w'))
    (E2 : Hid (∀ w, Calls Try.prog 38 #[.agg #[.int .u8 21, .int .u8 4, .int .u8 2, .int .u8 0, .int .i32 n]] w fun e w' => e = .returned (.tuple #[.int .u32 n2, .int .i64 0]) ∧ Below w.heap.size w w'))
    (E3 : Hid (∀ w, Calls Try.prog 38 #[.agg #[.int .u8 22, .int .u8 5, .int .u8 2, .int .u8 0, .int .i32 n]] w fun e w' => e = .returned (.tuple #[.int .u32 n3, .int .i64 0]) ∧ Below w.heap.size w w'))
    (E4 : Hid (∀ w, Calls Try.prog 38 #[.agg #[.int .u8 23, .int .u8 1, .int .u8 2, .int .u8 0, .int .i32 0]] w fun e w' => e = .returned (.tuple #[.int .u32 n0, .int .i64 0]) ∧ Below w.heap.size w w'))
    (pg : ByteArray) (PG : Hid (∀ (b : Nat) (w : World), w.heap[b]? = some (.cells #[.int .u32 n0, .int .u32 n1, .int .u32 n2, .int .u32 n3] 27) → Calls Try.prog 39 #[.slice (some ⟨b, 0, none⟩) 4 4] w fun e w' => e = .returned (.string pg) ∧ Below w.heap.size w w'))
    (R : Nat → Nat → Int) (L : Nat → List ByteArray) (hR0 : R 0 = brR v (128 + 4 * p)) (hL0 : L 0 = [pg, zeroB]) (h3 : R 4 3 = v) (h4 : R 4 4 = (bb : Int) + 4294967040) (h5 : R 4 5 = bb)
    (HS : Hid (∀ j : Nat, j < 4 → ∀ (x : Value) (w : World), Strs w x (L j) → Calls Try.prog 33 #[.agg (cpuCells (R j) (4 * (j : Int))), .agg (spCells oneS), x] w (StepPost ⟨R (j + 1), 4 * ((j : Int) + 1), L (j + 1), 0, 0⟩ w)))
    (HLD : Hid (loadOut (mload (L 4) oneS (128 + 4 * (p : Int)) 4) = .tuple #[.int .u32 v, .bool true])) (hbit : bits .and .u32 ((v : Int) / 2 ^ (8 * n)) 255 = bb) :
    Calls Try.prog 14 #[.int .u32 v, .int .u8 wd, .int .u8 kd] w fun e w' => e = .returned (.bool true) ∧ Below w.heap.size w w' := by
  go_enter Try.func14, Try.ntmps14
  go_wp2_with (first
    | (go_at_call 39; have q0 := B6.out; clear q0; refine (PG.out _ _ (heap_alloc_new _ _)).mono ?_; rintro e w7 ⟨rfl, hb⟩; obtain ⟨s1, hb'⟩ := keep1 hb; have h5' := keep R6.out hb'; have P7 := Lib.hid (keep P6.out hb'); have B7 := Lib.hid (below_step B6.out hb'); have R7 := Lib.hid h5'; have hset := setCell_row h5'; have hfr := frozen_row h5'; have c0 := cell_of_heap h5' (show (#[Value.string (pageB [n0]), Value.string zeroB] : Array Value)[0]? = some (.string (pageB [n0])) from rfl); clear hb hb' s1 h5')
    | (go_at_call 38; have q0 := B5.out; clear q0; refine (E4.out _).mono ?_; rintro e w6 ⟨rfl, hb⟩; have P6 := Lib.hid (keep P5.out hb); have R6 := Lib.hid (keep R5.out hb); have B6 := Lib.hid (below_step B5.out hb); clear hb)
    | (go_at_call 38; have q0 := B4.out; clear q0; refine (E3.out _).mono ?_; rintro e w5 ⟨rfl, hb⟩; have P5 := Lib.hid (keep P4.out hb); have R5 := Lib.hid (keep R4.out hb); have B5 := Lib.hid (below_step B4.out hb); clear hb)
    | (go_at_call 38; have q0 := B3.out; clear q0; refine (E2.out _).mono ?_; rintro e w4 ⟨rfl, hb⟩; have P4 := Lib.hid (keep P3.out hb); have R4 := Lib.hid (keep R3.out hb); have B4 := Lib.hid (below_step B3.out hb); clear hb)
    | (go_at_call 38; have q0 := B2.out; clear q0; refine (E1.out _).mono ?_; rintro e w3 ⟨rfl, hb⟩; obtain ⟨s1, hb'⟩ := keep1 hb; have P3 := Lib.hid s1; have R3 := Lib.hid (keep R2.out hb'); have B3 := Lib.hid (below_step B2.out hb'); clear hb hb' s1)
    | (go_at_call 37; refine (one37s 23 1 2 0 0 _ n0 0 le0 E0).mono ?_; rintro e w2 ⟨hb, b, hge, rfl, hrow⟩; have R2 := Lib.hid hrow; have B2 := Lib.hid (below_step B1.out hb); have hge' : w.heap.size ≤ b := (Nat.le_trans B1.out.size hge); have hne := heap_lt hrow; clear hb hrow hge)
    | (go_at_call 31; refine (alive31 _).mono ?_; rintro e w1 ⟨rfl, hb⟩; have B1 := Lib.hid hb; clear hb))
  have hn1 := heap_lt P7.out
  have HSP := Lib.hid ((heap_setRow_other w7 b w2.heap.size #[.string pg, .string zeroB] (by omega)).trans P7.out)
  have HBX := Lib.hid (below_setRow B7.out hge' #[.string pg, .string zeroB])
  have HST := Lib.hid (strs_row2 (row_set2 (cs' := #[.string pg, .string zeroB]) R7.out))
  have hkc : w.heap.size ≤ w7.heap.size := B7.out.size
  go_loopw [9, 20] (fun x i W => ∃ (lv : Value) (j : Nat), lv = x ∧ i = .int .i64 j ∧ j ≤ 4 ∧ Hid (Below w.heap.size w W) ∧ Hid (W.heap[w2.heap.size]? = some (.cells (spCells oneS) 26)) ∧ Hid (W.heap[w7.heap.size]? = some (.cells (cpuCells (R j) (4 * (j : Int))) 58)) ∧ Hid (Strs W lv (L j))) (fun _ i _ => 4 - (intOf i).toNat)
  case atStart =>
    refine ⟨_, 0, rfl, rfl, by omega, HBX.out.alloc HBX.out.size _, (heap_alloc_at _ _ _ (by rw [size_setRow]; exact hn1)).trans HSP.out, ?_, ?_⟩
    · rw [hR0, ← size_setRow w7 b #[.string pg, .string zeroB]]
      exact heap_alloc_new _ _
    · rw [hL0]
      exact HST.out.alloc _
  case round =>
    obtain ⟨lv, j, rfl, rfl, hj, HB, HP, HC, HV⟩ := hrel
    clear hset hfr c0
    obtain ⟨q1, q2⟩ := agg_facts HC.out 17 (cpuCells_size _ _)
    obtain ⟨q3, q4⟩ := agg_facts HP.out 48 (spCells_size _)
    by_cases hlt : j < 4
    · go_wp2_with (go_at_call 33; refine (HS.out j hlt _ _ HV.out).mono ?_; rintro e W1 ⟨hb, lv2, rfl, hs⟩; have HB1 := Lib.hid (below_step HB.out hb); have HP1 := Lib.hid (keep HP.out hb); have HC1 := Lib.hid (keep HC.out hb); have HV1 := Lib.hid hs; clear hb hs q1 q2 q3 q4; have o1 := rowOpen_of HC1.out 17 (cpuCells_size _ _); have o2 := heap_lt HC1.out; have o3 := Nat.lt_add_one_of_lt o2)
      go_roundw
      case rel =>
        refine ⟨lv2, j + 1, rfl, by go_num, by omega, below_step (below_setRow HB1.out hkc _) (below_two _ _ _), keep ((heap_setRow_other _ _ _ _ (by omega)).trans HP1.out) (below_two _ _ _), ?_, (HV1.out.setRow HC1.out (cpu_ints' _ _)).mono (below_two _ _ _)⟩
        exact keep (row_set2 HC1.out) (below_two _ _ _)
      case measure => simp [intOf]; omega
    · obtain rfl : j = 4 := by omega
      go_wp2_with (go_at_call 25; refine (load_any _ (L 4) oneS (128 + 4 * (p : Int)) 4 _ HV.out (by omega) (by omega)).mono ?_; rw [HLD.out]; rintro e W2 ⟨rfl, hb⟩; have HB2 := Lib.hid (below_step HB.out hb); have hc := keep HC.out hb; have x3 := cell_of_heap hc (cpuCells_get (R 4) _ 3 (by decide)); have x4 := cell_of_heap hc (cpuCells_get (R 4) _ 4 (by decide)); have x5 := cell_of_heap hc (cpuCells_get (R 4) _ 5 (by decide)); rw [h3] at x3; rw [h4] at x4; rw [h5] at x5; clear hc hb q1 q2 q3 q4)
      go_ret
      exact ⟨rfl, HB2.out⟩

theorem mem_enc (op A : Nat) (imm : Int) (h : op = 20 ∨ op = 21 ∨ op = 22 ∨ op = 23) (hA : A ≤ 15) (h0 : 0 ≤ imm) (h1 : imm ≤ 3) : ∃ n, menc ⟨op, A, 2, 0, imm⟩ = (n, 0) := by
  have hf : opF op = 109 := by rcases h with rfl | rfl | rfl | rfl <;> rfl
  have hp : plainB op = false := by rcases h with rfl | rfl | rfl | rfl <;> rfl
  refine ⟨encW 109 ⟨op, A, 2, 0, imm⟩, (menc_false (x := ⟨op, A, 2, 0, imm⟩) hf (by decide) (by decide) hp).trans ?_⟩
  rw [if_neg (by rw [argBad_mk]; omega), if_neg (by simp only; omega)]
theorem mem_call (op A : Nat) (imm : Int) (n : Nat) (h : menc ⟨op, A, 2, 0, imm⟩ = (n, 0)) (ho : op ≤ 255) (hA : A ≤ 255) (h0 : 0 ≤ imm) (h1 : imm ≤ 3) (w : World) : Calls Try.prog 38 #[.agg #[.int .u8 op, .int .u8 A, .int .u8 2, .int .u8 0, .int .i32 imm]] w fun e w' => e = .returned (.tuple #[.int .u32 n, .int .i64 0]) ∧ Below w.heap.size w w' := by
  have := ienc_any ⟨op, A, 2, 0, imm⟩ w ⟨by simp only; omega, by simp only; omega, by simp only; omega, by simp only; omega, by simp only; omega, by simp only; omega⟩
  rw [h] at this
  exact this
theorem mem_all (v0 wd kd : Int) (w : World) (v00 : 0 ≤ v0) (v01 : v0 ≤ 4294967295) (wd0 : 0 ≤ wd) (wd1 : wd ≤ 255) (kd0 : 0 ≤ kd) (kd1 : kd ≤ 255) :
    Calls Try.prog 14 #[.int .u32 v0, .int .u8 wd, .int .u8 kd] w fun e w' => e = .returned (.bool true) ∧ Below w.heap.size w w' := by
  obtain ⟨v, rfl⟩ := Int.eq_ofNat_of_zero_le v00
  obtain ⟨p, hp⟩ := Int.eq_ofNat_of_zero_le (show 0 ≤ wd % 32 by omega)
  obtain ⟨n, hn⟩ := Int.eq_ofNat_of_zero_le (show 0 ≤ kd % 4 by omega)
  have p32 : p < 32 := by omega
  have n4 : n < 4 := by omega
  have hv : v ≤ 4294967295 := by omega
  obtain ⟨n0, e0⟩ := mem_enc 23 1 0 (by decide) (by decide) (by decide) (by decide)
  obtain ⟨n1, e1⟩ := mem_enc 20 3 0 (by decide) (by decide) (by decide) (by decide)
  obtain ⟨n2, e2⟩ := mem_enc 21 4 n (by decide) (by decide) (by omega) (by omega)
  obtain ⟨n3, e3⟩ := mem_enc 22 5 n (by decide) (by decide) (by omega) (by omega)
  obtain ⟨R, L, hR0, hL0, hstep, hok, hlen, h3, h4, h5, hld⟩ := mem_plain v p n hv p32 n4 n0 n1 n2 n3 e0 e1 e2 e3
  have l0 := (dec_enc e0).2
  have l1 := (dec_enc e1).2
  have l2 := (dec_enc e2).2
  have l3 := (dec_enc e3).2
  have E0 : Hid (∀ w, Calls Try.prog 36 #[.agg #[.int .u8 (23 : Nat), .int .u8 (1 : Nat), .int .u8 (2 : Nat), .int .u8 (0 : Nat), .int .i32 0]] w fun e w' => e = .returned (.tuple #[.int .u32 n0, .int .i64 (0 : Nat)]) ∧ Below w.heap.size w w') := fun w => by
    have := renc_any ⟨23, 1, 2, 0, 0⟩ w ⟨by decide, by decide, by decide, by decide, by decide, by decide⟩
    rw [e0] at this
    exact this
  have PG : Hid (∀ (b : Nat) (w : World), w.heap[b]? = some (.cells #[.int .u32 n0, .int .u32 n1, .int .u32 n2, .int .u32 n3] 27) → Calls Try.prog 39 #[.slice (some ⟨b, 0, none⟩) 4 4] w fun e w' => e = .returned (.string (pageB [n0, n1, n2, n3])) ∧ Below w.heap.size w w') := fun b w hb =>
    page39 [n0, n1, n2, n3] b 27 w (by simp) (fun i hi => by
      have : i = 0 ∨ i = 1 ∨ i = 2 ∨ i = 3 := by simp at hi; omega
      rcases this with rfl | rfl | rfl | rfl
      · exact l0
      · exact l1
      · exact l2
      · exact l3) hb
  have HS : Hid (∀ j : Nat, j < 4 → ∀ (x : Value) (w : World), Strs w x (L j) → Calls Try.prog 33 #[.agg (cpuCells (R j) (4 * (j : Int))), .agg (spCells oneS), x] w (StepPost ⟨R (j + 1), 4 * ((j : Int) + 1), L (j + 1), 0, 0⟩ w)) := fun j hj x w hx => by
    rw [← hstep j hj]
    exact step_any x _ oneS (R j) (4 * j) w hx (hlen j) (by omega) (by omega) (hok j)
  have HLD : Hid (loadOut (mload (L 4) oneS (128 + 4 * (p : Int)) 4) = .tuple #[.int .u32 v, .bool true]) := by rw [Hid, hld]; rfl
  have hbit := bits_low v n (by omega)
  have hbb : byteN v n ≤ 255 := by unfold byteN; omega
  have hbe : (v : Int) / 2 ^ (8 * n) % 256 = (byteN v n : Nat) := by
    unfold byteN
    rw [Int.natCast_emod, Int.natCast_ediv, Int.natCast_pow]
    rfl
  rw [hbe] at hbit
  have c1 := mem_call 20 3 0 n1 e1 (by decide) (by decide) (by decide) (by decide)
  have c2 := mem_call 21 4 n n2 e2 (by decide) (by decide) (by omega) (by omega)
  have c3 := mem_call 22 5 n n3 e3 (by decide) (by decide) (by omega) (by omega)
  have c4 := mem_call 23 1 0 n0 e0 (by decide) (by decide) (by decide) (by decide)
  by_cases hb : 128 ≤ byteN v n
  · have h4' : R 4 4 = (byteN v n : Int) + 4294967040 := by rw [h4]; exact if_pos hb
    generalize byteN v n = bb at hbb hbit h5 h4' hb
    exact memw_hi v wd kd p n bb w hv wd0 wd1 kd0 kd1 hp hn (by omega) (by omega) (by omega) (by omega) (by simp only [beq_iff_eq]; omega) n0 n1 n2 n3 l0 E0 c1 c2 c3 c4 _ PG R L hR0 hL0 h3 h4' h5 HS HLD hbit
  · have h4' : R 4 4 = (byteN v n : Int) := by rw [h4]; exact if_neg hb
    generalize byteN v n = bb at hbb hbit h5 h4' hb
    exact memw_lo v wd kd p n bb w hv wd0 wd1 kd0 kd1 hp hn (by omega) (by omega) (by omega) (by omega) n0 n1 n2 n3 l0 E0 c1 c2 c3 c4 _ PG R L hR0 hL0 h3 h4' h5 HS HLD hbit
end Go.Proofs.Ytlhcggaeecjbcaa
