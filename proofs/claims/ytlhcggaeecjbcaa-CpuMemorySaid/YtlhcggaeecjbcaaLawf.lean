/- A plain step keeps a cpu's numbers within 32 bits; the law CpuRuns, walked. No condition. -/
import Derived.Test.YtlhcggaeecjbcaaLawe
import Derived.Carry
namespace Go.Proofs.Ytlhcggaeecjbcaa
open Go.RowKit

def In32 (n : Int) : Prop := 0 ≤ n ∧ n ≤ 4294967295
theorem in32_mod (x : Int) : In32 (x % 4294967296) := mod32 x
theorem in32_wrap (x : Int) : In32 (IntKind.u32.wrap x) := by rw [IntKind.wrap_u32]; exact mod32 x
theorem alu_in (op : Nat) (b c : Int) (hb : In32 b) (hc : In32 c) : In32 (alu op b c) := by
  have h01 : In32 1 := ⟨by decide, by decide⟩
  have h00 : In32 0 := ⟨by decide, by decide⟩
  unfold alu
  split
  · exact in32_wrap _
  · exact in32_wrap _
  · exact in32_wrap _
  · split
    · exact ⟨by decide, by decide⟩
    · exact ⟨Int.ediv_nonneg hb.1 hc.1, Int.le_trans (Int.ediv_le_self _ hb.1) hb.2⟩
  · split
    · exact hb
    · rename_i h0
      have h1 := Int.emod_nonneg b h0
      have h2 := Int.emod_lt_of_pos b (show 0 < c by have := hc.1; omega)
      exact ⟨h1, by have := hc.2; omega⟩
  · exact in32_wrap _
  · exact in32_wrap _
  · exact in32_wrap _
  · exact in32_wrap _
  · have h1 : 1 ≤ (2 : Int) ^ (c % 32).toNat := (pow_lt (k := (c % 32).toNat) (by omega)).1
    exact ⟨Int.ediv_nonneg hb.1 (by omega), Int.le_trans (Int.ediv_le_self _ hb.1) hb.2⟩
  · exact in32_wrap _
  · split
    · exact h01
    · exact h00
  · split
    · exact h01
    · exact h00
theorem setR_ok {r : Nat → Int} (h : ROk r) (a : Nat) {v : Int} (hv : In32 v) : ROk (setR r a v) := rok0 (h.upd a hv.1 hv.2)
/-- A plain step's cpu is one. -/
theorem mexec_ok (r : Nat → Int) (pc : Int) (s : Nat → Pte) (l : List ByteArray) (x : Ins) (hr : ROk r) (hp : In32 pc) : ROk (mexec r pc s l x).r ∧ In32 (mexec r pc s l x).pc := by
  have h0 := rok0 hr
  have hi : ∀ i, In32 (upd r 0 0 i) := fun i => ⟨h0.lo i, h0.hi i⟩
  unfold mexec
  dsimp only
  split
  · exact ⟨setR_ok h0 _ (alu_in _ _ _ (hi _) (hi _)), in32_mod _⟩
  split
  · exact ⟨setR_ok h0 _ (alu_in _ _ _ (hi _) (in32_mod _)), in32_mod _⟩
  split
  · exact ⟨setR_ok h0 _ (in32_mod _), in32_mod _⟩
  split
  · split
    · exact ⟨hr, hp⟩
    · rename_i n hn
      have hn2 := mload_lt hn
      refine ⟨setR_ok h0 _ ?_, in32_mod _⟩
      split
      · rename_i h21
        have hs : memSize x.op = 1 := by rw [h21]; rfl
        have : n ≤ 255 := by rcases hn2 with h | h
                             · exact h.2
                             · rw [hs] at h; exact absurd h.1 (by decide)
        unfold sextB
        split
        · exact ⟨by omega, by omega⟩
        · exact ⟨by omega, by omega⟩
      · exact ⟨by omega, by omega⟩
  split
  · split
    · exact ⟨hr, hp⟩
    · exact ⟨h0, in32_mod _⟩
  split
  · refine ⟨h0, ?_⟩
    split
    · exact in32_mod _
    · exact in32_mod _
  split
  · exact ⟨setR_ok h0 _ (in32_mod _), in32_mod _⟩
  split
  · exact ⟨setR_ok h0 _ (in32_mod _), in32_mod _⟩
  · exact ⟨h0, in32_mod _⟩
theorem mstep_ok (r : Nat → Int) (pc : Int) (s : Nat → Pte) (l : List ByteArray) (hr : ROk r) (hp : In32 pc) : ROk (mstep r pc s l).r ∧ In32 (mstep r pc s l).pc := by
  unfold mstep
  split
  · exact ⟨hr, hp⟩
  · split
    · exact ⟨hr, hp⟩
    · exact mexec_ok _ _ _ _ _ hr hp
theorem aggS2 (w : World) (b : Nat) (cs : Array Value) (h : rowOpen w b 2 = true) : aggAt (w.setRow b cs) b = .agg cs := aggAt_setRow_same w b 2 cs h
theorem rowS2 (w : World) (b m : Nat) (cs : Array Value) (h : rowOpen w b 2 = true) : rowAt (w.setRow b cs) b m = (cs.size == m) := rowAt_setRow_same w b m 2 cs h
attribute [local go_sem ↓] loadVar_26 loadVar_58 loadVar_61 storeVar_58 storeVar_61
attribute [local go_sem] run_load26 run_load58 run_load61 run_store58 run_store61 aggAt_new aggAt_past aggAt_drew rowAt_new rowAt_past rowAt_drew rowOpen_new rowOpen_past rowOpen_drew setRow_made' spCells_size cpuCells_size cpuCells_at cpuCells_at16 alloc_setRow eq_self56 aggAt_setRow_other rowAt_setRow_other rowOpen_setRow_other aggS17 rowS17 openS17 cellS_other size_setRow aggS2 rowS2

/-- The two cpus (at the head, and at 'b') and the space. -/
structure Rq (w0 : World) (r : Nat → Int) (pc : Int) (rd : Nat → Int) (pd : Int) (s : Nat → Pte) (b : Nat) (w : World) : Prop where
  below : Below w0.heap.size w0 w
  c : w.heap[w0.heap.size]? = some (.cells (cpuCells r pc) 58)
  s : w.heap[w0.heap.size + 1]? = some (.cells (spCells s) 26)
  d : w.heap[b]? = some (.cells (cpuCells rd pd) 58)
  lt : w0.heap.size + 1 < b
theorem Rq.step {w0 w w' : World} {r rd : Nat → Int} {pc pd : Int} {s : Nat → Pte} {b : Nat} (h : Rq w0 r pc rd pd s b w) (hb : Below w.heap.size w w') : Rq w0 r pc rd pd s b w' :=
  ⟨below_step h.below hb, keep h.c hb, keep h.s hb, keep h.d hb, h.lt⟩
theorem Rq.facts {w0 w : World} {r rd : Nat → Int} {pc pd : Int} {s : Nat → Pte} {b : Nat} (h : Rq w0 r pc rd pd s b w) :
    aggAt w w0.heap.size = .agg (cpuCells r pc) ∧ rowAt w w0.heap.size 17 = true ∧ rowOpen w w0.heap.size 17 = true ∧ aggAt w (w0.heap.size + 1) = .agg (spCells s) ∧ rowAt w (w0.heap.size + 1) 48 = true ∧ aggAt w b = .agg (cpuCells rd pd) ∧ rowAt w b 17 = true ∧ rowOpen w b 17 = true ∧
    w0.heap.size < w.heap.size ∧ w0.heap.size + 1 < w.heap.size ∧ b < w.heap.size ∧ w0.heap.size < w.heap.size + 1 ∧ b < w.heap.size + 1 := by
  have h1 := agg_facts h.c 17 (cpuCells_size r pc)
  have h2 := agg_facts h.s 48 (spCells_size s)
  have h3 := agg_facts h.d 17 (cpuCells_size rd pd)
  have l1 := heap_lt h.c
  have l2 := heap_lt h.s
  have l3 := heap_lt h.d
  exact ⟨h1.1, h1.2, rowOpen_of h.c _ (cpuCells_size _ _), h2.1, h2.2, h3.1, h3.2, rowOpen_of h.d _ (cpuCells_size _ _), l1, l2, l3, Nat.lt_add_one_of_lt l1, Nat.lt_add_one_of_lt l3⟩
theorem row_set {w : World} {b : Nat} {cs cs' : Array Value} {t : TypeId} (h : w.heap[b]? = some (.cells cs t)) : (w.setRow b cs').heap[b]? = some (.cells cs' t) := by
  rw [heap_setRow_same, h]
  rfl
theorem cpu_ints (r : Nat → Int) (pc : Int) : (cpuCells r pc).toList.all isIntV = true := by simp [cpuCells, isIntV]
theorem Rq.setC {w0 w : World} {r rd r' : Nat → Int} {pc pd p' : Int} {s : Nat → Pte} {b : Nat} (h : Rq w0 r pc rd pd s b w) : Rq w0 r' p' rd pd s b (w.setRow w0.heap.size (cpuCells r' p')) := by
  have := h.lt
  exact ⟨below_setRow h.below (Nat.le_refl _) _, row_set h.c, (heap_setRow_other _ _ _ _ (by omega)).trans h.s, (heap_setRow_other _ _ _ _ (by omega)).trans h.d, h.lt⟩
theorem Rq.setD {w0 w : World} {r rd r' : Nat → Int} {pc pd p' : Int} {s : Nat → Pte} {b : Nat} (h : Rq w0 r pc rd pd s b w) : Rq w0 r pc r' p' s b (w.setRow b (cpuCells r' p')) := by
  have := h.lt
  exact ⟨below_setRow h.below (by omega) _, (heap_setRow_other _ _ _ _ (by omega)).trans h.c, (heap_setRow_other _ _ _ _ (by omega)).trans h.s, row_set h.d, h.lt⟩
theorem Rq.setE {w0 w : World} {r rd : Nat → Int} {pc pd : Int} {s : Nat → Pte} {b e : Nat} {cs : Array Value} (h : Rq w0 r pc rd pd s b w) (he : b < e) : Rq w0 r pc rd pd s b (w.setRow e cs) := by
  have := h.lt
  exact ⟨below_setRow h.below (by omega) _, (heap_setRow_other _ _ _ _ (by omega)).trans h.c, (heap_setRow_other _ _ _ _ (by omega)).trans h.s, (heap_setRow_other _ _ _ _ (by omega)).trans h.d, h.lt⟩
theorem runs_ne {n b e : Nat} (h1 : n + 1 < b) (h2 : b < e) : e ≠ n ∧ e ≠ n + 1 ∧ e ≠ b ∧ b ≠ n ∧ b ≠ n + 1 ∧ n ≠ b ∧ n ≠ e ∧ n + 1 ≠ b ∧ n + 1 ≠ e ∧ b ≠ e ∧ e + 1 ≠ n ∧ e + 1 ≠ b ∧ b ≠ e + 1 ∧ n ≠ e + 1 ∧ n + 1 ≠ n ∧ n ≠ n + 1 ∧ e + 1 ≠ e ∧ e ≠ e + 1 := by omega
theorem other2 {w : World} {a b k : Nat} {c d : Array Value} {o : Obj} (h : w.heap[k]? = some o) (ha : k ≠ a) (hb : k ≠ b) : ((w.setRow a c).setRow b d).heap[k]? = some o :=
  (heap_setRow_other _ _ _ _ hb).trans ((heap_setRow_other _ _ _ _ ha).trans h)

set_option maxRecDepth 20000 in
set_option maxHeartbeats 1000000 in
theorem runs_great (v : Value) (l : List ByteArray) (s : Nat → Pte) (r : Nat → Int) (pc n : Int) (w : World) (HV : Hid (Strs w v l)) (hs : Hid (∀ i, (bAt l i).size ≤ 140737488351232)) (hl : Hid (l.length ≤ 140737488351232)) (hg : bigB l = true) :
    Calls Try.prog 10 #[.agg (cpuCells r pc), .agg (spCells s), v, .int .u8 n] w fun e w' => e = .returned (.bool true) ∧ Below w.heap.size w w' := by
  go_enter Try.func10, Try.ntmps10
  go_wp2_with (first
    | (go_at_call 32; refine (great32 v l _ (HV.out.mono HA.out.below) hs hl).mono ?_; rw [hg]; rintro e w2 ⟨rfl, rfl⟩)
    | (go_at_call 31; refine (alive31 _).mono ?_; rintro e w1 ⟨rfl, hb⟩; have HA := Lib.hid (Cs.start hb); clear hb))
  go_ret
  exact ⟨rfl, HA.out.below⟩

set_option maxRecDepth 20000 in
set_option maxHeartbeats 1000000 in
theorem runs_small (v : Value) (l : List ByteArray) (s : Nat → Pte) (r : Nat → Int) (pc n : Int) (w : World) (HV : Hid (Strs w v l)) (hs : Hid (∀ i, (bAt l i).size ≤ 140737488351232)) (hl : Hid (l.length ≤ 140737488351232)) (hg : bigB l = false) (HL : Hid (l.length ≤ 100000)) (hr : ROk r) (hp : In32 pc) (n0 : 0 ≤ n) (n1 : n ≤ 255) :
    Calls Try.prog 10 #[.agg (cpuCells r pc), .agg (spCells s), v, .int .u8 n] w fun e w' => e = .returned (.bool true) ∧ Below w.heap.size w w' := by
  go_enter Try.func10, Try.ntmps10
  go_wp2_with (first
    | (go_at_call 32; refine (great32 v l _ (HV.out.mono HA.out.below) hs hl).mono ?_; rw [hg]; rintro e w2 ⟨rfl, rfl⟩)
    | (go_at_call 31; refine (alive31 _).mono ?_; rintro e w1 ⟨rfl, hb⟩; have HA := Lib.hid (Cs.start hb); clear hb; obtain ⟨q1, q2, q3, q4, q5, q6, q7⟩ := HA.out.facts))
  go_loopw [2, 10, 11] (fun x y i W => ∃ (v2 m2 : Value) (r2 : Nat → Int) (p2 : Int) (l2 : List ByteArray) (j : Nat), v2 = x ∧ m2 = y ∧ i = .int .i64 j ∧ j ≤ 40 ∧ Hid (ROk r2) ∧ Hid (In32 p2) ∧ Hid (l2.length ≤ 100000) ∧ Hid (Rq w r2 p2 r2 p2 s w1.heap.size W) ∧ Hid (Strs W v2 l2) ∧ Hid (Strs W m2 l2)) (fun _ _ i _ => 40 - (intOf i).toNat)
  case atStart => exact ⟨v, v, r, pc, l, 0, rfl, rfl, rfl, by omega, hr, hp, HL, ⟨HA.out.below.alloc HA.out.below.size _, (heap_alloc_at _ _ _ q5).trans HA.out.c, (heap_alloc_at _ _ _ q6).trans HA.out.s, heap_alloc_new _ _, q6⟩, (HV.out.mono HA.out.below).alloc _, (HV.out.mono HA.out.below).alloc _⟩
  case round =>
    obtain ⟨v2, m2, r2, p2, l2, j, rfl, rfl, rfl, hj, HRO, HP, HL2, HR, HV2, HM2⟩ := hrel
    by_cases hlt : (j : Int) < n % 40
    · have hS : ∀ w, Strs w v2 l2 → Calls Try.prog 33 #[.agg (cpuCells r2 p2), .agg (spCells s), v2] w (StepPost (mstep r2 p2 s l2) w) := fun w hv => step_any v2 l2 s r2 p2 w hv HL2.out HP.out.1 HP.out.2 HRO.out
      have hT : ∀ w, Strs w m2 l2 → Calls Try.prog 34 #[.agg (cpuCells r2 p2), .agg (spCells s), m2] w (StepPost (mstep r2 p2 s l2) w) := fun w hv => rstep_any m2 l2 s r2 p2 w hv HL2.out HP.out.1 HP.out.2 HRO.out
      have hok := mstep_ok r2 p2 s l2 HRO.out HP.out
      have hlen := mstep_len r2 p2 s l2
      generalize mstep r2 p2 s l2 = o at hS hT hok hlen
      obtain ⟨r3, p3, l3, kk, nn⟩ := o
      have HS := Lib.hid hS
      have HT := Lib.hid hT
      have HRO3 := Lib.hid hok.1
      have HP3 := Lib.hid hok.2
      have HL3 : Hid (l3.length ≤ 100000) := by have := HL2.out; simp only at hlen; exact (by omega : l3.length ≤ 100000)
      clear hS hT hok hlen q1 q2 q3 q4 q5 q6 q7
      obtain ⟨q1, q2, q3, q4, q5, q6, q7, q8, q9, q10, q11, q12, q13⟩ := HR.out.facts
      obtain ⟨k1, k2, k3, k4, k5, k6, k7, k8, k9, k10, k11, k12, k13, k14, k15, k16, k17, k18⟩ := runs_ne HR.out.lt q11
      have hbe := q11
      by_cases hk : kk = 0
      · subst hk
        go_wp2_with (first
          | (go_at_call 35; have a1 := (heap_setRow_other W2 w1.heap.size _ (cpuCells r3 p3) k12).trans F2.out; refine (same35 v3 v4 l3 _ ((S2.out.setRow HR2.out.d (cpu_ints _ _)).setRow a1 rfl) ((S4.out.setRow HR2.out.d (cpu_ints _ _)).setRow a1 rfl) HL3.out).mono ?_; rintro e W3 ⟨rfl, hb⟩; have HR3 := Lib.hid (((HR2.out.setD (r' := r3) (p' := p3)).setE (cs := #[.int .i64 0, .int .u32 nn]) (Nat.lt_add_one_of_lt hbe)).step hb); have G1 := keep (other2 (c := cpuCells r3 p3) (d := #[.int .i64 0, .int .u32 nn]) F1.out k3 k18) hb; have cc := cell_of_heap G1 (show (#[Value.int .i64 0, .int .u32 nn] : Array Value)[0]? = some (.int .i64 0) from rfl); have S5 := Lib.hid (((S2.out.setRow HR2.out.d (cpu_ints _ _)).setRow a1 rfl).mono hb); have S6 := Lib.hid (((S4.out.setRow HR2.out.d (cpu_ints _ _)).setRow a1 rfl).mono hb); clear hb a1)
          | (go_at_call 34; have a1 := (heap_setRow_other W1 w.heap.size _ (cpuCells r3 p3) k1).trans E1.out; refine (HT.out _ ((M1.out.setRow HR1.out.c (cpu_ints _ _)).setRow a1 rfl)).mono ?_; rintro e W2 ⟨hb, v4, rfl, hs2⟩; have HR2 := Lib.hid (((HR1.out.setC (r' := r3) (p' := p3)).setE (cs := #[.int .i64 0, .int .u32 nn]) hbe).step hb); have F1 := Lib.hid (keep (row_set (cs' := #[.int .i64 0, .int .u32 nn]) a1) hb); have F2 := Lib.hid (keep (other2 (c := cpuCells r3 p3) (d := #[.int .i64 0, .int .u32 nn]) E2.out k11 k17) hb); have S2 := Lib.hid (((S1.out.setRow HR1.out.c (cpu_ints _ _)).setRow a1 rfl).mono hb); have S4 := Lib.hid hs2; clear hb hs2 a1 o1 o2 q1 q2 q3 q4 q5 q6 q7 q8 q9 q10 q11 q12 q13; obtain ⟨q1, q2, q3, q4, q5, q6, q7, q8, q9, q10, q11, q12, q13⟩ := HR2.out.facts; have o2 := rowOpen_of F2.out 2 rfl; have o3 : ∀ c, rowOpen (W2.setRow w1.heap.size c) (wr.heap.size + 1) 2 = true := fun c => (rowOpen_setRow_other _ _ _ _ _ k12).trans o2; obtain ⟨y1, y2⟩ := agg_facts F1.out 2 rfl)
          | (go_at_call 33; refine (HS.out _ (HV2.out.mono (below_two _ _ _))).mono ?_; rintro e W1 ⟨hb, v3, rfl, hs1⟩; obtain ⟨s1, s2, hb'⟩ := keep2 hb; have HR1 := Lib.hid (HR.out.step hb'); have E1 := Lib.hid s1; have E2 := Lib.hid s2; have S1 := Lib.hid hs1; have M1 := Lib.hid (HM2.out.mono hb'); clear hb hs1 hb' s1 s2 q1 q2 q3 q4 q5 q6 q7 q8 q9 q10 q11 q12 q13; obtain ⟨q1, q2, q3, q4, q5, q6, q7, q8, q9, q10, q11, q12, q13⟩ := HR1.out.facts; have o1 := rowOpen_of E1.out 2 rfl; have o2 := rowOpen_of E2.out 2 rfl))
        go_roundw
        case rel => exact ⟨v3, v4, r3, p3, l3, j + 1, rfl, rfl, by go_num, by omega, HRO3, HP3, HL3, HR3, S5, S6⟩
        case measure => simp [intOf]; omega
      · have hk2 : (kk != 0) = true := by simpa using hk
        clear hk
        go_wp2_with (first
          | (go_at_call 35; have a1 := (heap_setRow_other W2 w1.heap.size _ (cpuCells r3 p3) k12).trans F2.out; refine (same35 v3 v4 l3 _ ((S2.out.setRow HR2.out.d (cpu_ints _ _)).setRow a1 rfl) ((S4.out.setRow HR2.out.d (cpu_ints _ _)).setRow a1 rfl) HL3.out).mono ?_; rintro e W3 ⟨rfl, hb⟩; have HR3 := Lib.hid (((HR2.out.setD (r' := r3) (p' := p3)).setE (cs := #[.int .i64 kk, .int .u32 nn]) (Nat.lt_add_one_of_lt hbe)).step hb); have G1 := keep (other2 (c := cpuCells r3 p3) (d := #[.int .i64 kk, .int .u32 nn]) F1.out k3 k18) hb; have cc := cell_of_heap G1 (show (#[Value.int .i64 kk, .int .u32 nn] : Array Value)[0]? = some (.int .i64 kk) from rfl); have S5 := Lib.hid (((S2.out.setRow HR2.out.d (cpu_ints _ _)).setRow a1 rfl).mono hb); have S6 := Lib.hid (((S4.out.setRow HR2.out.d (cpu_ints _ _)).setRow a1 rfl).mono hb); clear hb a1)
          | (go_at_call 34; have a1 := (heap_setRow_other W1 w.heap.size _ (cpuCells r3 p3) k1).trans E1.out; refine (HT.out _ ((M1.out.setRow HR1.out.c (cpu_ints _ _)).setRow a1 rfl)).mono ?_; rintro e W2 ⟨hb, v4, rfl, hs2⟩; have HR2 := Lib.hid (((HR1.out.setC (r' := r3) (p' := p3)).setE (cs := #[.int .i64 kk, .int .u32 nn]) hbe).step hb); have F1 := Lib.hid (keep (row_set (cs' := #[.int .i64 kk, .int .u32 nn]) a1) hb); have F2 := Lib.hid (keep (other2 (c := cpuCells r3 p3) (d := #[.int .i64 kk, .int .u32 nn]) E2.out k11 k17) hb); have S2 := Lib.hid (((S1.out.setRow HR1.out.c (cpu_ints _ _)).setRow a1 rfl).mono hb); have S4 := Lib.hid hs2; clear hb hs2 a1 o1 o2 q1 q2 q3 q4 q5 q6 q7 q8 q9 q10 q11 q12 q13; obtain ⟨q1, q2, q3, q4, q5, q6, q7, q8, q9, q10, q11, q12, q13⟩ := HR2.out.facts; have o2 := rowOpen_of F2.out 2 rfl; have o3 : ∀ c, rowOpen (W2.setRow w1.heap.size c) (wr.heap.size + 1) 2 = true := fun c => (rowOpen_setRow_other _ _ _ _ _ k12).trans o2; obtain ⟨y1, y2⟩ := agg_facts F1.out 2 rfl)
          | (go_at_call 33; refine (HS.out _ (HV2.out.mono (below_two _ _ _))).mono ?_; rintro e W1 ⟨hb, v3, rfl, hs1⟩; obtain ⟨s1, s2, hb'⟩ := keep2 hb; have HR1 := Lib.hid (HR.out.step hb'); have E1 := Lib.hid s1; have E2 := Lib.hid s2; have S1 := Lib.hid hs1; have M1 := Lib.hid (HM2.out.mono hb'); clear hb hs1 hb' s1 s2 q1 q2 q3 q4 q5 q6 q7 q8 q9 q10 q11 q12 q13; obtain ⟨q1, q2, q3, q4, q5, q6, q7, q8, q9, q10, q11, q12, q13⟩ := HR1.out.facts; have o1 := rowOpen_of E1.out 2 rfl; have o2 := rowOpen_of E2.out 2 rfl))
        go_ret
        exact ⟨rfl, HR3.out.below⟩
    · go_wp2_with fail
      go_ret
      exact ⟨rfl, HR.out.below⟩
set_option maxRecDepth 20000 in
theorem open_intk {W : World} {base : Nat} {t : TypeId} {k : IntKind} {v : Value} (ht : Try.prog.underlying t = some (.int k)) (h : Value.okWide Try.prog W .any base t v) : ∃ n : Int, v = .int k n ∧ k.min ≤ n ∧ n ≤ k.max := by
  simp only [Value.okWide, ht] at h
  exact cell_int ht h
set_option maxRecDepth 20000 in
theorem open_u8 {W : World} {base : Nat} {v : Value} (h : Value.okWide Try.prog W .any base 5 v) : ∃ n : Int, v = .int .u8 n ∧ 0 ≤ n ∧ n ≤ 255 := open_intk Try.underlying5 h
theorem runs_walk (v : Value) (l : List ByteArray) (s : Nat → Pte) (r : Nat → Int) (pc n : Int) (w : World) (hv : Strs w v l) (hs : Hid (∀ i, (bAt l i).size ≤ 140737488351232)) (hl : Hid (l.length ≤ 140737488351232)) (hr : ROk r) (hp : In32 pc) (n0 : 0 ≤ n) (n1 : n ≤ 255) :
    Calls Try.prog 10 #[.agg (cpuCells r pc), .agg (spCells s), v, .int .u8 n] w fun e w' => e = .returned (.bool true) ∧ Below w.heap.size w w' := by
  cases hg : bigB l with
  | true => exact runs_great v l s r pc n w hv hs hl hg
  | false =>
    have hL : l.length ≤ 100000 := by have := (bigB_no hg).1; omega
    exact runs_small v l s r pc n w hv hs hl hg hL hr hp n0 n1
end Go.Proofs.Ytlhcggaeecjbcaa
