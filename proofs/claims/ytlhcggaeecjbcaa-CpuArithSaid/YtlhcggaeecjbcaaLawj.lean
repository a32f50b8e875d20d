/- The law CpuReturns, walked. No condition. -/
import Derived.Test.YtlhcggaeecjbcaaLawh
namespace Go.Proofs.Ytlhcggaeecjbcaa
open Go.RowKit

def zws : List Nat := List.replicate 32 0
theorem info27' : (Try.prog.info? 27).map (fun i => (i.zero, i.size, i.bytes)) = some (some (.int .u32 0), 1, 4) := by kernel_rfl
theorem madeCells32 : madeCells (Value.int .u32 0).cells (Int.toNat 32 * 1) = wordsCells zws := by kernel_rfl
theorem run_make32 (w : World) : (Instr.makeSlice 78 (.int .i64 32) (.int .i64 32)).run Try.prog w = .ok (.slice (some ⟨w.heap.size, 0, none⟩) 32 32) (w.alloc (.cells (wordsCells zws) 27)) := by
  obtain ⟨i0, hi, hz0, hz1, hz2⟩ := info_parts info27'
  have h := run_make (P := Try.prog) w 78 27 i0 (.int .u32 0) Try.underlying78 hi hz0 .i64 .i64 32 32 (by omega) (by omega) (by rw [hz2]; omega) (by omega)
  rw [h, hz1, madeCells32]
  rfl
theorem subAt_new (w : World) (cs : Array Value) (t : TypeId) (b n : Nat) (hb : b = w.heap.size) : subAt (w.alloc (.cells cs t)) b n = .agg (cs.extract 0 n) := by
  subst hb; simp only [subAt, heap_alloc_new]
theorem wideAt_new (w : World) (cs : Array Value) (t : TypeId) (b n : Nat) (hb : b = w.heap.size) : wideAt (w.alloc (.cells cs t)) b n = decide (n ≤ cs.size) := by
  subst hb; simp only [wideAt, heap_alloc_new]
theorem pop_regs (r : Nat → Int) (p : Int) : (cpuCells r p).pop = regCells r := by kernel_rfl
theorem wordsCells_set (ws : List Nat) (i n : Nat) : (wordsCells ws).setIfInBounds i (.int .u32 n) = wordsCells (ws.set i n) := by simp [wordsCells, List.map_set]
theorem wordsCells_size (ws : List Nat) : (wordsCells ws).size = ws.length := by simp [wordsCells]
theorem zws_len : zws.length = 32 := rfl
theorem row_set2 {w : World} {b : Nat} {cs cs' : Array Value} {t : TypeId} (h : w.heap[b]? = some (.cells cs t)) : (w.setRow b cs').heap[b]? = some (.cells cs' t) := by
  rw [heap_setRow_same, h]
  rfl
theorem frozen_row {w : World} {b : Nat} {cs : Array Value} {t : TypeId} (h : w.heap[b]? = some (.cells cs t)) (i : Nat) : w.frozen? ⟨b, i, none⟩ = false := by simp [World.frozen?, h]
attribute [local go_sem ↓] loadVar_26 loadVar_58 loadVar_61 loadVar_56 storeVar_26 storeVar_58 storeVar_61
attribute [local go_sem] run_load26 run_load58 run_load61 run_load56 run_store26_any run_store58 run_store61 aggAt_new aggAt_past aggAt_drew rowAt_new rowAt_past rowAt_drew rowOpen_new rowOpen_past rowOpen_drew rowFree_new rowFree_past rowFree_drew setRow_made setRow_made' spCells_size cpuCells_size cpuCells_at cpuCells_at16 alloc_setRow subAt_past subAt_drew wideAt_past wideAt_drew wordsCells_set wordsCells_size zws_len aggAt_setRow_other rowAt_setRow_other subAt_new wideAt_new regCells_of eq_reg56 pop_regs

set_option maxRecDepth 20000 in
set_option maxHeartbeats 1000000 in
theorem ret_same (x0 y0 z0 : Int) (w : World) (x00 : 0 ≤ x0) (x01 : x0 ≤ 255) (y00 : 0 ≤ y0) (y01 : y0 ≤ 255) (z00 : 0 ≤ z0) (z01 : z0 ≤ 255) (hik : (x0 % 32 == y0 % 32) = true) :
    Calls Try.prog 16 #[.int .u8 x0, .int .u8 y0, .int .u8 z0] w fun e w' => e = .returned (.bool true) ∧ Below w.heap.size w w' := by
  go_enter Try.func16, Try.ntmps16
  go_wp2_with (go_at_call 31; refine (alive31 _).mono ?_; rintro e w1 ⟨rfl, hb⟩; have HB1 := Lib.hid hb; clear hb)
  go_ret
  exact ⟨rfl, HB1.out⟩

set_option maxRecDepth 20000 in
set_option maxHeartbeats 1000000 in
theorem ret_walk (x0 y0 z0 : Int) (i k q : Nat) (w : World) (x00 : 0 ≤ x0) (x01 : x0 ≤ 255) (y00 : 0 ≤ y0) (y01 : y0 ≤ 255) (z00 : 0 ≤ z0) (z01 : z0 ≤ 255) (hx : x0 % 32 = i) (hy : y0 % 32 = k) (hz : z0 % 14 = q) (hi : i < 32) (hk : k < 32) (_hq : q < 14) (hik : ((i : Int) == k) = false)
    (n1 n2 n3 : Nat) (le3 : n3 ≤ 4294967295)
    (E1 : Hid (∀ w, Calls Try.prog 38 #[.agg #[.int .u8 29, .int .u8 (1 + q), .int .u8 0, .int .u8 0, .int .i32 ((k : Int) - i - 1)]] w fun e w' => e = .returned (.tuple #[.int .u32 n1, .int .i64 0]) ∧ Below w.heap.size w w'))
    (E2 : Hid (∀ w, Calls Try.prog 38 #[.agg #[.int .u8 30, .int .u8 0, .int .u8 (1 + q), .int .u8 0, .int .i32 0]] w fun e w' => e = .returned (.tuple #[.int .u32 n2, .int .i64 0]) ∧ Below w.heap.size w w'))
    (E3 : Hid (∀ w, Calls Try.prog 36 #[.agg #[.int .u8 (1 : Nat), .int .u8 (0 : Nat), .int .u8 (0 : Nat), .int .u8 (0 : Nat), .int .i32 0]] w fun e w' => e = .returned (.tuple #[.int .u32 n3, .int .i64 (0 : Nat)]) ∧ Below w.heap.size w w'))
    (pg : ByteArray) (PG : Hid (∀ (b : Nat) (w : World), w.heap[b]? = some (.cells (wordsCells ((zws.set i n1).set k n2)) 27) → Calls Try.prog 39 #[.slice (some ⟨b, 0, none⟩) 32 32] w fun e w' => e = .returned (.string pg) ∧ Below w.heap.size w w'))
    (r1 : Nat → Int) (hr1 : r1 (1 + q) = 4 * i + 4)
    (S1 : Hid (∀ (v : Value) (w : World), Strs w v [pg, zeroB] → Calls Try.prog 33 #[.agg #[.int .u32 0, .int .u32 0, .int .u32 0, .int .u32 0, .int .u32 0, .int .u32 0, .int .u32 0, .int .u32 0, .int .u32 0, .int .u32 0, .int .u32 0, .int .u32 0, .int .u32 0, .int .u32 0, .int .u32 0, .int .u32 0, .int .u32 (4 * i)], .agg (spCells oneS), v] w (StepPost ⟨r1, 4 * k, [pg, zeroB], 0, 0⟩ w)))
    (S2 : Hid (∀ (v : Value) (w : World), Strs w v [pg, zeroB] → Calls Try.prog 33 #[.agg (cpuCells r1 (4 * k)), .agg (spCells oneS), v] w (StepPost ⟨r1, 4 * i + 4, [pg, zeroB], 0, 0⟩ w))) :
    Calls Try.prog 16 #[.int .u8 x0, .int .u8 y0, .int .u8 z0] w fun e w' => e = .returned (.bool true) ∧ Below w.heap.size w w' := by
  have hmk := run_make32
  have i1 : (i : Int) < 32 := by omega
  have k1 : (k : Int) < 32 := by omega
  have q1 : (q : Int) < 14 := by omega
  have q2 : 1 + (q : Int) < 16 := by omega
  go_enter Try.func16, Try.ntmps16
  go_wp2_with (first
    | (go_at_call 35; refine (same35 _ _ _ _ ((V7.out.alloc _).alloc _) ((L7.out.alloc _).alloc _) (by simp)).mono ?_; rintro e w8 ⟨rfl, hb⟩; have B8 := Lib.hid (below_step (below_step B7.out (below_two _ _ _)) hb); clear hb)
    | (go_at_call 33; have q0 := V6.out; clear q0; refine (S2.out _ _ ((V6.out.alloc _).alloc _)).mono ?_; rintro e w7 ⟨hb, v7, rfl, hs⟩; obtain ⟨s1, s2, hb'⟩ := keep2 hb; have V7 := Lib.hid hs; have L7 := Lib.hid (L6.out.mono hb'); have B7 := Lib.hid (below_step B6.out hb'); obtain ⟨y1, y2⟩ := agg_facts s2 2 rfl; obtain ⟨y3, y4⟩ := reg_facts s1; have y5 := cell_of_heap s1 (cpuCells_pc r1 (4 * k)); have y6 := cell_of_heap s1 (cpuCells_get r1 (4 * k) (1 + q) (by omega)); rw [hr1] at y6; have y7 := heap_lt s1; have y8 := heap_lt s2; have y9 := Nat.lt_add_one_of_lt y7; clear hb hb' hs s1 s2 g1 g2 g3 g4)
    | (go_at_call 33; refine (S1.out _ _ (strs_row2 (row_set2 H5.out))).mono ?_; rintro e w6 ⟨hb, v6, rfl, hs⟩; have P6 := keep ((heap_setRow_other _ _ _ _ hne).trans P5.out) hb; have B6 := Lib.hid (below_step (below_setRow B5.out hge' _) hb); have L6 := Lib.hid ((strs_row2 (row_set2 H5.out)).mono hb); have V6 := Lib.hid hs; clear hb hs g1 g2 hset hfr c0; obtain ⟨g1, g2⟩ := agg_facts P6 48 (spCells_size _); have g3 := heap_lt P6; have g4 := Nat.lt_add_one_of_lt g3; clear P6)
    | (go_at_call 39; have q0 := B4.out; clear q0; refine (PG.out _ _ ((heap_alloc_at _ _ _ (heap_lt W4.out)).trans W4.out)).mono ?_; rintro e w5 ⟨rfl, hb⟩; obtain ⟨s1, hb'⟩ := keep1 hb; have h5 := keep R4.out hb'; have P5 := Lib.hid s1; have B5 := Lib.hid (below_step B4.out hb'); have H5 := Lib.hid h5; have hset := setCell_row h5; have hfr := frozen_row h5; have c0 := cell_of_heap h5 (show (#[Value.string (pageB [n3]), Value.string zeroB] : Array Value)[0]? = some (.string (pageB [n3])) from rfl); have hne : w4.heap.size ≠ b := (by have := heap_lt R4.out; omega); obtain ⟨g1, g2⟩ := agg_facts s1 48 (spCells_size _); clear hb hb' s1 h5)
    | (go_at_call 37; have q0 := B3.out; clear q0; refine (one37s 1 0 0 0 0 _ n3 0 le3 E3).mono ?_; rintro e w4 ⟨hb, b, hge, rfl, hrow⟩; obtain ⟨s1, hb'⟩ := keep1 hb; have W4 := Lib.hid s1; have R4 := Lib.hid hrow; have B4 := Lib.hid (below_step B3.out hb'); have hge' : w.heap.size ≤ b := Nat.le_trans B3.out.size (Nat.le_trans (by rw [alloc_size]; omega) hge); clear hb hb' hrow s1 hge)
    | (go_at_call 38; have q0 := B2.out; clear q0; refine (E2.out _).mono ?_; rintro e w3 ⟨rfl, hb⟩; have B3 := Lib.hid (below_step B2.out hb); clear hb)
    | (go_at_call 38; refine (E1.out _).mono ?_; rintro e w2 ⟨rfl, hb⟩; have B2 := Lib.hid (below_step B1.out hb); clear hb)
    | (go_at_call 31; refine (alive31 _).mono ?_; rintro e w1 ⟨rfl, hb⟩; have B1 := Lib.hid hb; clear hb))
  go_ret
  exact ⟨rfl, B8.out⟩

def retW (i k n1 n2 : Nat) : List Nat := (zws.set i n1).set k n2
theorem retW_len (i k n1 n2 : Nat) : (retW i k n1 n2).length = 32 := by simp [retW, zws_len]
theorem retW_get (i k n1 n2 j : Nat) (hj : j < 32) : (retW i k n1 n2).getD j 0 = if k = j then n2 else if i = j then n1 else 0 := by
  unfold retW
  rw [List.getD, List.getElem?_set]
  by_cases hk : k = j
  · subst hk
    rw [if_pos rfl, if_pos (by rw [List.length_set, zws_len]; exact hj), if_pos rfl]
    rfl
  · rw [if_neg hk, if_neg hk, List.getElem?_set]
    by_cases hi : i = j
    · subst hi
      rw [if_pos rfl, if_pos (by rw [zws_len]; exact hj), if_pos rfl]
      rfl
    · rw [if_neg hi, if_neg hi, zws, List.getElem?_replicate, if_pos hj]
      rfl
theorem upd_zero {r : Nat → Int} (h : r 0 = 0) : upd r 0 0 = r := by
  funext k
  unfold upd
  split
  · rename_i hk
    rw [hk, h]
  · rfl
theorem setR_zero {r : Nat → Int} (h : r 0 = 0) (v : Int) : setR r 0 v = r := by
  funext k
  unfold setR upd
  by_cases hk : k = 0
  · rw [if_pos hk, hk, h]
  · rw [if_neg hk, if_neg hk]
theorem setR_head (r : Nat → Int) (a : Nat) (v : Int) : setR r a v 0 = 0 := rfl
theorem setR_at (r : Nat → Int) (a : Nat) (v : Int) (h : a ≠ 0) : setR r a v a = v := by
  unfold setR upd
  rw [if_neg h, if_pos rfl]

theorem ret_all (x0 y0 z0 : Int) (w : World) (x00 : 0 ≤ x0) (x01 : x0 ≤ 255) (y00 : 0 ≤ y0) (y01 : y0 ≤ 255) (z00 : 0 ≤ z0) (z01 : z0 ≤ 255) :
    Calls Try.prog 16 #[.int .u8 x0, .int .u8 y0, .int .u8 z0] w fun e w' => e = .returned (.bool true) ∧ Below w.heap.size w w' := by
  by_cases hxy : x0 % 32 = y0 % 32
  · exact ret_same x0 y0 z0 w x00 x01 y00 y01 z00 z01 (by simpa using hxy)
  · obtain ⟨i, hi⟩ := Int.eq_ofNat_of_zero_le (show 0 ≤ x0 % 32 by omega)
    obtain ⟨k, hk⟩ := Int.eq_ofNat_of_zero_le (show 0 ≤ y0 % 32 by omega)
    obtain ⟨q, hq⟩ := Int.eq_ofNat_of_zero_le (show 0 ≤ z0 % 14 by omega)
    have i32 : i < 32 := by omega
    have k32 : k < 32 := by omega
    have q14 : q < 14 := by omega
    have hne : i ≠ k := by omega
    clear hxy
    have m1 : menc ⟨29, 1 + q, 0, 0, (k : Int) - i - 1⟩ = (encW 108 ⟨29, 1 + q, 0, 0, (k : Int) - i - 1⟩, 0) := by
      refine (menc_false (f := 108) (x := ⟨29, 1 + q, 0, 0, (k : Int) - i - 1⟩) rfl (by decide) (by decide) rfl).trans ?_
      rw [if_neg (by rw [argBad_mk]; omega), if_neg (by simp only; omega)]
    have m2 : menc ⟨30, 0, 1 + q, 0, 0⟩ = (encW 109 ⟨30, 0, 1 + q, 0, 0⟩, 0) := by
      refine (menc_false (f := 109) (x := ⟨30, 0, 1 + q, 0, 0⟩) rfl (by decide) (by decide) rfl).trans ?_
      rw [if_neg (by rw [argBad_mk]; omega), if_neg (by simp only; omega)]
    have m3 : menc ⟨1, 0, 0, 0, 0⟩ = (67108864, 0) := by kernel_rfl
    have l1 := (dec_enc m1).2
    have l2 := (dec_enc m2).2
    generalize encW 108 ⟨29, 1 + q, 0, 0, (k : Int) - i - 1⟩ = n1 at m1 l1
    generalize encW 109 ⟨30, 0, 1 + q, 0, 0⟩ = n2 at m2 l2
    have hlen := retW_len i k n1 n2
    have gi : (retW i k n1 n2).getD i 0 = n1 := by rw [retW_get i k n1 n2 i i32, if_neg (fun h => hne h.symm), if_pos rfl]
    have gk : (retW i k n1 n2).getD k 0 = n2 := by rw [retW_get i k n1 n2 k k32, if_pos rfl]
    have r0 : upd (fun _ => (0 : Int)) 0 0 = fun _ => 0 := upd_zero rfl
    have st1 : mstep (fun _ => 0) (4 * (i : Int)) oneS [pageB (retW i k n1 n2), zeroB] = ⟨setR (fun _ => 0) (1 + q) (4 * i + 4), 4 * k, [pageB (retW i k n1 n2), zeroB], 0, 0⟩ := by
      rw [step_page (retW i k n1 n2) [zeroB] (fun _ => 0) i ⟨29, 1 + q, 0, 0, (k : Int) - i - 1⟩ (by omega) (by omega) (by rw [gi]; exact m1), mexec_jal, r0]
      have e1 : jumpTo (4 * (i : Int)) ((k : Int) - i - 1) = 4 * k := by unfold jumpTo; omega
      have e2 : (4 * (i : Int) + 4) % 4294967296 = 4 * i + 4 := by omega
      rw [e1, e2]
    have hr1 : setR (fun _ => 0) (1 + q) (4 * (i : Int) + 4) (1 + q) = 4 * i + 4 := setR_at _ _ _ (by omega)
    have hr0 : setR (fun _ => 0) (1 + q) (4 * (i : Int) + 4) 0 = 0 := setR_head _ _ _
    have hrok : ROk (setR (fun _ => 0) (1 + q) (4 * (i : Int) + 4)) := rok0 (ROk.upd ⟨fun _ => by decide, fun _ => by decide⟩ _ (by omega) (by omega))
    generalize setR (fun _ => 0) (1 + q) (4 * (i : Int) + 4) = r1 at st1 hr1 hr0 hrok
    have st2 : mstep r1 (4 * (k : Int)) oneS [pageB (retW i k n1 n2), zeroB] = ⟨r1, 4 * i + 4, [pageB (retW i k n1 n2), zeroB], 0, 0⟩ := by
      rw [step_page (retW i k n1 n2) [zeroB] r1 k ⟨30, 0, 1 + q, 0, 0⟩ (by omega) (by omega) (by rw [gk]; exact m2), mexec_jalr, upd_zero hr0, setR_zero hr0, hr1]
      have e2 : (4 * (i : Int) + 4 + 0) % 4294967296 = 4 * i + 4 := by omega
      rw [e2]
    refine ret_walk x0 y0 z0 i k q w x00 x01 y00 y01 z00 z01 hi hk hq i32 k32 q14 (by simpa using (by omega : ¬ (i : Int) = k)) n1 n2 67108864 (by decide) ?_ ?_ ?_ (pageB (retW i k n1 n2)) ?_ r1 hr1 ?_ ?_
    · intro w
      have := ienc_any ⟨29, 1 + q, 0, 0, (k : Int) - i - 1⟩ w ⟨by simp only; omega, by simp only; omega, by simp only; omega, by simp only; omega, by simp only; omega, by simp only; omega⟩
      rw [m1] at this
      exact this
    · intro w
      have := ienc_any ⟨30, 0, 1 + q, 0, 0⟩ w ⟨by simp only; omega, by simp only; omega, by simp only; omega, by simp only; omega, by simp only; omega, by simp only; omega⟩
      rw [m2] at this
      exact this
    · intro w
      have := renc_any ⟨1, 0, 0, 0, 0⟩ w ⟨by decide, by decide, by decide, by decide, by decide, by decide⟩
      rw [m3] at this
      exact this
    · intro b w hb
      have := page39 (retW i k n1 n2) b 27 w (by omega) (fun j hj => by
        rw [retW_get i k n1 n2 j (by omega)]
        split
        · exact l2
        · split
          · exact l1
          · omega) hb
      rw [hlen] at this
      exact this
    · intro v w hv
      rw [← st1]
      exact step_any v _ oneS (fun _ => 0) (4 * i) w hv (by simp) (by omega) (by omega) ⟨fun _ => by decide, fun _ => by decide⟩
    · intro v w hv
      rw [← st2]
      exact step_any v _ oneS r1 (4 * k) w hv (by simp) (by omega) (by omega) hrok
end Go.Proofs.Ytlhcggaeecjbcaa
