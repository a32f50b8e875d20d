/- The law CpuArith, walked. No condition. -/
import Derived.Test.YtlhcggaeecjbcaaLawj
namespace Go.Proofs.Ytlhcggaeecjbcaa
open Go.RowKit
attribute [local go_sem ↓] loadVar_26 loadVar_58 loadVar_61 loadVar_68 storeVar_26 storeVar_58 storeVar_61
attribute [local go_sem] run_load26 run_load58 run_load61 run_load68 run_store26_any run_store58 run_store61 aggAt_new aggAt_past aggAt_drew rowAt_new rowAt_past rowAt_drew rowOpen_new rowOpen_past rowOpen_drew rowFree_new rowFree_past rowFree_drew setRow_made setRow_made' spCells_size cpuCells_size cpuCells_at cpuCells_at16 cpuCells_get cpuCells_pc cpuCells_set cpuCells_setpc alloc_setRow eq_self56 size_setRow cellS_other cellS17 aggS17 rowS17 aggAt_setRow_other rowAt_setRow_other
theorem cpu_ints2 (r : Nat → Int) (pc : Int) : (cpuCells r pc).toList.all isIntV = true := by simp [cpuCells, isIntV]

set_option maxRecDepth 20000 in
set_option maxHeartbeats 1000000 in
theorem ar_err (op A B C : Nat) (imm : Int) (r : Nat → Int) (pc : Int) (w : World) (n : Nat) (k : Int) (HE : Hid (∀ w, Calls Try.prog 36 #[.agg #[.int .u8 op, .int .u8 A, .int .u8 B, .int .u8 C, .int .i32 imm]] w fun e w' => e = .returned (.tuple #[.int .u32 n, .int .i64 k]) ∧ Below w.heap.size w w')) (hk : (k != 0) = true) :
    Calls Try.prog 11 #[.agg #[.int .u8 op, .int .u8 A, .int .u8 B, .int .u8 C, .int .i32 imm], .agg (cpuCells r pc)] w fun e w' => e = .returned (.bool true) ∧ Below w.heap.size w w' := by
  go_enter Try.func11, Try.ntmps11
  go_wp2_with (first
    | (go_at_call 36; have q0 := B1.out; clear q0; refine (HE.out _).mono ?_; rintro e w2 ⟨rfl, hb⟩; have X2 := Lib.hid (keep X1.out hb); have C2 := Lib.hid (keep C1.out hb); have B2 := Lib.hid (below_step B1.out hb); clear hb q1 q2 q3; obtain ⟨q1, q2⟩ := agg_facts X2.out 5 rfl; have q3 := cell_of_heap X2.out (show (#[Value.int .u8 op, .int .u8 A, .int .u8 B, .int .u8 C, .int .i32 imm] : Array Value)[0]? = some (.int .u8 op) from rfl))
    | (go_at_call 31; refine (alive31 _).mono ?_; rintro e w1 ⟨rfl, hb⟩; obtain ⟨s1, s2, hb'⟩ := keep2 hb; have X1 := Lib.hid s1; have C1 := Lib.hid s2; have B1 := Lib.hid hb'; clear hb hb' s1 s2; obtain ⟨q1, q2⟩ := agg_facts X1.out 5 rfl; have q3 := cell_of_heap X1.out (show (#[Value.int .u8 op, .int .u8 A, .int .u8 B, .int .u8 C, .int .i32 imm] : Array Value)[0]? = some (.int .u8 op) from rfl)))
  go_ret
  exact ⟨rfl, B2.out⟩

set_option maxRecDepth 20000 in
set_option maxHeartbeats 1000000 in
theorem ar_big (op A B C : Nat) (imm : Int) (r : Nat → Int) (pc : Int) (w : World) (n : Nat) (k : Int) (HE : Hid (∀ w, Calls Try.prog 36 #[.agg #[.int .u8 op, .int .u8 A, .int .u8 B, .int .u8 C, .int .i32 imm]] w fun e w' => e = .returned (.tuple #[.int .u32 n, .int .i64 k]) ∧ Below w.heap.size w w')) (hk : k = 0) (hop : (19 : Int) < op) :
    Calls Try.prog 11 #[.agg #[.int .u8 op, .int .u8 A, .int .u8 B, .int .u8 C, .int .i32 imm], .agg (cpuCells r pc)] w fun e w' => e = .returned (.bool true) ∧ Below w.heap.size w w' := by
  subst hk
  go_enter Try.func11, Try.ntmps11
  go_wp2_with (first
    | (go_at_call 36; have q0 := B1.out; clear q0; refine (HE.out _).mono ?_; rintro e w2 ⟨rfl, hb⟩; have X2 := Lib.hid (keep X1.out hb); have C2 := Lib.hid (keep C1.out hb); have B2 := Lib.hid (below_step B1.out hb); clear hb q1 q2 q3; obtain ⟨q1, q2⟩ := agg_facts X2.out 5 rfl; have q3 := cell_of_heap X2.out (show (#[Value.int .u8 op, .int .u8 A, .int .u8 B, .int .u8 C, .int .i32 imm] : Array Value)[0]? = some (.int .u8 op) from rfl))
    | (go_at_call 31; refine (alive31 _).mono ?_; rintro e w1 ⟨rfl, hb⟩; obtain ⟨s1, s2, hb'⟩ := keep2 hb; have X1 := Lib.hid s1; have C1 := Lib.hid s2; have B1 := Lib.hid hb'; clear hb hb' s1 s2; obtain ⟨q1, q2⟩ := agg_facts X1.out 5 rfl; have q3 := cell_of_heap X1.out (show (#[Value.int .u8 op, .int .u8 A, .int .u8 B, .int .u8 C, .int .i32 imm] : Array Value)[0]? = some (.int .u8 op) from rfl)))
  go_ret
  exact ⟨rfl, B2.out⟩

set_option maxRecDepth 20000 in
set_option maxHeartbeats 1000000 in
theorem ar_A0 (op A B C : Nat) (imm : Int) (r r2 : Nat → Int) (pc : Int) (w : World) (n : Nat) (hn : n ≤ 4294967295) (HE0 : Hid (∀ w, Calls Try.prog 36 #[.agg #[.int .u8 op, .int .u8 A, .int .u8 B, .int .u8 C, .int .i32 imm]] w fun e w' => e = .returned (.tuple #[.int .u32 n, .int .i64 (0 : Nat)]) ∧ Below w.heap.size w w'))
    (hop : (op : Int) ≤ 19) (hA : A < 16) (hB : B < 16) (hC : C < 16) (_iA : (A : Int) < 16) (iB : (B : Int) < 16) (iC : (C : Int) < 16) (hr0 : r2 0 = 0)
    (HS : Hid (∀ (v : Value) (w : World), Strs w v [pageB [n], zeroB] → Calls Try.prog 33 #[.agg (cpuCells r 0), .agg (spCells oneS), v] w (StepPost ⟨r2, 4, [pageB [n], zeroB], 0, 0⟩ w)))
    (HT : Hid (∀ (v : Value) (w : World), Strs w v [pageB [n], zeroB] → Calls Try.prog 34 #[.agg (cpuCells r 0), .agg (spCells oneS), v] w (StepPost ⟨r2, 4, [pageB [n], zeroB], 0, 0⟩ w)))
    (hA0 : ((A : Int) == 0) = true) :
    Calls Try.prog 11 #[.agg #[.int .u8 op, .int .u8 A, .int .u8 B, .int .u8 C, .int .i32 imm], .agg (cpuCells r pc)] w fun e w' => e = .returned (.bool true) ∧ Below w.heap.size w w' := by
  have HE := HE0
  go_enter Try.func11, Try.ntmps11
  go_wp2_with (first
    | (go_at_call 35; refine (same35 _ _ _ _ ((V5.out.alloc _).alloc _) ((L5.out.alloc _).alloc _) (by simp)).mono ?_; rintro e w6 ⟨rfl, hb⟩; obtain ⟨s1, s2, hb'⟩ := keep2 hb; have D6 := keep D5.out hb'; have C6 := keep C5.out hb'; have X6 := keep X5.out hb'; have B6 := Lib.hid (below_step B5.out hb'); clear hb hb' s1 s2 q1 q2 q3 q4 q5 q6 l1 l2 l3 l4; have q5 := cell_of_heap D6 (cpuCells_pc r2 4); have q6 := cell_of_heap D6 (cpuCells_get r2 4 0 (by decide)); rw [hr0] at q6; have q7 := cell_of_heap D6 (cpuCells_get r2 4 A hA); have hset := setCell_row C6; have hfr := frozen_row C6; have hc0 := cell_of_heap C6 (cpuCells_get r 0 0 (by decide)); have ho := rowOpen_of C6 17 (cpuCells_size _ _); have x0 := cell_of_heap X6 (show (#[Value.int .u8 op, .int .u8 A, .int .u8 B, .int .u8 C, .int .i32 imm] : Array Value)[0]? = some (.int .u8 op) from rfl); have x1 := cell_of_heap X6 (show (#[Value.int .u8 op, .int .u8 A, .int .u8 B, .int .u8 C, .int .i32 imm] : Array Value)[1]? = some (.int .u8 A) from rfl); have x2 := cell_of_heap X6 (show (#[Value.int .u8 op, .int .u8 A, .int .u8 B, .int .u8 C, .int .i32 imm] : Array Value)[2]? = some (.int .u8 B) from rfl); have x3 := cell_of_heap X6 (show (#[Value.int .u8 op, .int .u8 A, .int .u8 B, .int .u8 C, .int .i32 imm] : Array Value)[3]? = some (.int .u8 C) from rfl); have m1 := heap_lt C4.out; have m2 : w4.heap.size ≠ w.heap.size + 1 := (by omega); have m3 : w.heap.size ≠ w.heap.size + 1 := (by omega); have B7 := Lib.hid (below_setRow B6.out (show w.heap.size ≤ w.heap.size + 1 by omega) (cpuCells (upd r 0 0) 0)); clear m1 C6 D6 X6)
    | (go_at_call 34; refine (HT.out _ _ (((L4.out.alloc _).alloc _))).mono ?_; rintro e w5 ⟨hb, v5, rfl, hs⟩; obtain ⟨s1, s2, hb'⟩ := keep2 hb; have D5 := Lib.hid s1; have E5 := Lib.hid s2; have C5 := Lib.hid (keep C4.out hb'); have X5 := Lib.hid (keep X4.out hb'); have B5 := Lib.hid (below_step B4.out hb'); have V5 := Lib.hid (V4.out.mono hb'); have L5 := Lib.hid (L4.out.mono hb'); clear hb hb' hs q1 q2 q3 q4 l1 l2 l3 l4; obtain ⟨q1, q2⟩ := agg_facts s1 17 (cpuCells_size _ _); obtain ⟨q3, q4⟩ := agg_facts s2 2 rfl; have q5 := cell_of_heap s1 (cpuCells_pc r2 4); have q6 := cell_of_heap s1 (cpuCells_get r2 4 0 (by decide)); rw [hr0] at q6; have l1 := heap_lt s1; have l2 := heap_lt s2; have l3 := Nat.lt_add_one_of_lt l1; have l4 := Nat.lt_add_one_of_lt l2; clear s1 s2)
    | (go_at_call 33; have q0 := B3.out; clear q0; have hs' := (S3.out.setRow (cs' := cpuCells r 0) C3.out (cpu_ints2 _ _)).alloc (.cells (spCells oneS) 26); refine (HS.out _ _ hs').mono ?_; rintro e w4 ⟨hb, v4, rfl, hs⟩; obtain ⟨s1, hb'⟩ := keep1 hb; rw [size_setRow] at s1; have P4 := Lib.hid s1; have C4 := Lib.hid (keep (row_set2 (cs' := cpuCells r 0) C3.out) hb'); have X4 := Lib.hid (keep ((heap_setRow_other w3 (w.heap.size + 1) w.heap.size (cpuCells r 0) (by omega)).trans X3.out) hb'); have B4 := Lib.hid (below_step (below_setRow B3.out (by omega) (cpuCells r 0)) hb'); have V4 := Lib.hid hs; have L4 := Lib.hid ((S3.out.setRow (cs' := cpuCells r 0) C3.out (cpu_ints2 _ _)).mono hb'); clear hb hb' hs hs' s1 hset hfr hc16 ho hl hl2; obtain ⟨q1, q2⟩ := agg_facts C4.out 17 (cpuCells_size _ _); obtain ⟨q3, q4⟩ := agg_facts P4.out 48 (spCells_size _); have l1 := heap_lt C4.out; have l2 := heap_lt P4.out; have l3 := Nat.lt_add_one_of_lt l1; have l4 := Nat.lt_add_one_of_lt l2)
    | (go_at_call 37; refine (one37 op A B C imm _ n 0 hn HE0).mono ?_; rintro e w3 ⟨hb, v3, rfl, hs⟩; have X3 := Lib.hid (keep X2.out hb); have C3 := Lib.hid (keep C2.out hb); have B3 := Lib.hid (below_step B2.out hb); have S3 := Lib.hid hs; have hset := setCell_row (keep C2.out hb); have hfr := frozen_row (keep C2.out hb); have hc16 := cell_of_heap (keep C2.out hb) (cpuCells_pc r pc); have ho := rowOpen_of (keep C2.out hb) 17 (cpuCells_size _ _); have hl := heap_lt (keep C2.out hb); have hl2 := Nat.lt_add_one_of_lt hl; clear hb hs q1 q2 q3)
    | (go_at_call 36; have q0 := B1.out; clear q0; refine (HE.out _).mono ?_; rintro e w2 ⟨rfl, hb⟩; have X2 := Lib.hid (keep X1.out hb); have C2 := Lib.hid (keep C1.out hb); have B2 := Lib.hid (below_step B1.out hb); clear hb q1 q2 q3; obtain ⟨q1, q2⟩ := agg_facts X2.out 5 rfl; have q3 := cell_of_heap X2.out (show (#[Value.int .u8 op, .int .u8 A, .int .u8 B, .int .u8 C, .int .i32 imm] : Array Value)[0]? = some (.int .u8 op) from rfl))
    | (go_at_call 31; refine (alive31 _).mono ?_; rintro e w1 ⟨rfl, hb⟩; obtain ⟨s1, s2, hb'⟩ := keep2 hb; have X1 := Lib.hid s1; have C1 := Lib.hid s2; have B1 := Lib.hid hb'; clear hb hb' s1 s2; obtain ⟨q1, q2⟩ := agg_facts X1.out 5 rfl; have q3 := cell_of_heap X1.out (show (#[Value.int .u8 op, .int .u8 A, .int .u8 B, .int .u8 C, .int .i32 imm] : Array Value)[0]? = some (.int .u8 op) from rfl)))
  go_quiet (fail)
  go_wp2_with fail
  go_ret
  exact ⟨rfl, below_drewN B7.out _⟩

set_option maxRecDepth 20000 in
set_option maxHeartbeats 1000000 in
theorem ar_1 (op A B C : Nat) (imm : Int) (r r2 : Nat → Int) (pc : Int) (w : World) (n : Nat) (hn : n ≤ 4294967295) (HE0 : Hid (∀ w, Calls Try.prog 36 #[.agg #[.int .u8 op, .int .u8 A, .int .u8 B, .int .u8 C, .int .i32 imm]] w fun e w' => e = .returned (.tuple #[.int .u32 n, .int .i64 (0 : Nat)]) ∧ Below w.heap.size w w'))
    (hop : (op : Int) ≤ 19) (hA : A < 16) (hB : B < 16) (hC : C < 16) (iA : (A : Int) < 16) (iB : (B : Int) < 16) (iC : (C : Int) < 16) (hr0 : r2 0 = 0)
    (HS : Hid (∀ (v : Value) (w : World), Strs w v [pageB [n], zeroB] → Calls Try.prog 33 #[.agg (cpuCells r 0), .agg (spCells oneS), v] w (StepPost ⟨r2, 4, [pageB [n], zeroB], 0, 0⟩ w)))
    (HT : Hid (∀ (v : Value) (w : World), Strs w v [pageB [n], zeroB] → Calls Try.prog 34 #[.agg (cpuCells r 0), .agg (spCells oneS), v] w (StepPost ⟨r2, 4, [pageB [n], zeroB], 0, 0⟩ w)))
    (hA0 : ((A : Int) == 0) = false) (_b0 : 0 ≤ upd r 0 0 B) (_b1 : upd r 0 0 B ≤ 4294967295) (_c0 : 0 ≤ upd r 0 0 C) (_c1 : upd r 0 0 C ≤ 4294967295) (_d0 : 0 ≤ r2 A) (_d1 : r2 A ≤ 4294967295) (h1 : ((op : Int) == 1) = true) (HF : Hid (((r2 A - upd r 0 0 C) % 4294967296 == upd r 0 0 B) = true)) :
    Calls Try.prog 11 #[.agg #[.int .u8 op, .int .u8 A, .int .u8 B, .int .u8 C, .int .i32 imm], .agg (cpuCells r pc)] w fun e w' => e = .returned (.bool true) ∧ Below w.heap.size w w' := by
  have HE := HE0
  go_enter Try.func11, Try.ntmps11
  go_wp2_with (first
    | (go_at_call 35; refine (same35 _ _ _ _ ((V5.out.alloc _).alloc _) ((L5.out.alloc _).alloc _) (by simp)).mono ?_; rintro e w6 ⟨rfl, hb⟩; obtain ⟨s1, s2, hb'⟩ := keep2 hb; have D6 := keep D5.out hb'; have C6 := keep C5.out hb'; have X6 := keep X5.out hb'; have B6 := Lib.hid (below_step B5.out hb'); clear hb hb' s1 s2 q1 q2 q3 q4 q5 q6 l1 l2 l3 l4; have q5 := cell_of_heap D6 (cpuCells_pc r2 4); have q6 := cell_of_heap D6 (cpuCells_get r2 4 0 (by decide)); rw [hr0] at q6; have q7 := cell_of_heap D6 (cpuCells_get r2 4 A hA); have hset := setCell_row C6; have hfr := frozen_row C6; have hc0 := cell_of_heap C6 (cpuCells_get r 0 0 (by decide)); have ho := rowOpen_of C6 17 (cpuCells_size _ _); have x0 := cell_of_heap X6 (show (#[Value.int .u8 op, .int .u8 A, .int .u8 B, .int .u8 C, .int .i32 imm] : Array Value)[0]? = some (.int .u8 op) from rfl); have x1 := cell_of_heap X6 (show (#[Value.int .u8 op, .int .u8 A, .int .u8 B, .int .u8 C, .int .i32 imm] : Array Value)[1]? = some (.int .u8 A) from rfl); have x2 := cell_of_heap X6 (show (#[Value.int .u8 op, .int .u8 A, .int .u8 B, .int .u8 C, .int .i32 imm] : Array Value)[2]? = some (.int .u8 B) from rfl); have x3 := cell_of_heap X6 (show (#[Value.int .u8 op, .int .u8 A, .int .u8 B, .int .u8 C, .int .i32 imm] : Array Value)[3]? = some (.int .u8 C) from rfl); have m1 := heap_lt C4.out; have m2 : w4.heap.size ≠ w.heap.size + 1 := (by omega); have m3 : w.heap.size ≠ w.heap.size + 1 := (by omega); have B7 := Lib.hid (below_setRow B6.out (show w.heap.size ≤ w.heap.size + 1 by omega) (cpuCells (upd r 0 0) 0)); clear m1 C6 D6 X6)
    | (go_at_call 34; refine (HT.out _ _ (((L4.out.alloc _).alloc _))).mono ?_; rintro e w5 ⟨hb, v5, rfl, hs⟩; obtain ⟨s1, s2, hb'⟩ := keep2 hb; have D5 := Lib.hid s1; have E5 := Lib.hid s2; have C5 := Lib.hid (keep C4.out hb'); have X5 := Lib.hid (keep X4.out hb'); have B5 := Lib.hid (below_step B4.out hb'); have V5 := Lib.hid (V4.out.mono hb'); have L5 := Lib.hid (L4.out.mono hb'); clear hb hb' hs q1 q2 q3 q4 l1 l2 l3 l4; obtain ⟨q1, q2⟩ := agg_facts s1 17 (cpuCells_size _ _); obtain ⟨q3, q4⟩ := agg_facts s2 2 rfl; have q5 := cell_of_heap s1 (cpuCells_pc r2 4); have q6 := cell_of_heap s1 (cpuCells_get r2 4 0 (by decide)); rw [hr0] at q6; have l1 := heap_lt s1; have l2 := heap_lt s2; have l3 := Nat.lt_add_one_of_lt l1; have l4 := Nat.lt_add_one_of_lt l2; clear s1 s2)
    | (go_at_call 33; have q0 := B3.out; clear q0; have hs' := (S3.out.setRow (cs' := cpuCells r 0) C3.out (cpu_ints2 _ _)).alloc (.cells (spCells oneS) 26); refine (HS.out _ _ hs').mono ?_; rintro e w4 ⟨hb, v4, rfl, hs⟩; obtain ⟨s1, hb'⟩ := keep1 hb; rw [size_setRow] at s1; have P4 := Lib.hid s1; have C4 := Lib.hid (keep (row_set2 (cs' := cpuCells r 0) C3.out) hb'); have X4 := Lib.hid (keep ((heap_setRow_other w3 (w.heap.size + 1) w.heap.size (cpuCells r 0) (by omega)).trans X3.out) hb'); have B4 := Lib.hid (below_step (below_setRow B3.out (by omega) (cpuCells r 0)) hb'); have V4 := Lib.hid hs; have L4 := Lib.hid ((S3.out.setRow (cs' := cpuCells r 0) C3.out (cpu_ints2 _ _)).mono hb'); clear hb hb' hs hs' s1 hset hfr hc16 ho hl hl2; obtain ⟨q1, q2⟩ := agg_facts C4.out 17 (cpuCells_size _ _); obtain ⟨q3, q4⟩ := agg_facts P4.out 48 (spCells_size _); have l1 := heap_lt C4.out; have l2 := heap_lt P4.out; have l3 := Nat.lt_add_one_of_lt l1; have l4 := Nat.lt_add_one_of_lt l2)
    | (go_at_call 37; refine (one37 op A B C imm _ n 0 hn HE0).mono ?_; rintro e w3 ⟨hb, v3, rfl, hs⟩; have X3 := Lib.hid (keep X2.out hb); have C3 := Lib.hid (keep C2.out hb); have B3 := Lib.hid (below_step B2.out hb); have S3 := Lib.hid hs; have hset := setCell_row (keep C2.out hb); have hfr := frozen_row (keep C2.out hb); have hc16 := cell_of_heap (keep C2.out hb) (cpuCells_pc r pc); have ho := rowOpen_of (keep C2.out hb) 17 (cpuCells_size _ _); have hl := heap_lt (keep C2.out hb); have hl2 := Nat.lt_add_one_of_lt hl; clear hb hs q1 q2 q3)
    | (go_at_call 36; have q0 := B1.out; clear q0; refine (HE.out _).mono ?_; rintro e w2 ⟨rfl, hb⟩; have X2 := Lib.hid (keep X1.out hb); have C2 := Lib.hid (keep C1.out hb); have B2 := Lib.hid (below_step B1.out hb); clear hb q1 q2 q3; obtain ⟨q1, q2⟩ := agg_facts X2.out 5 rfl; have q3 := cell_of_heap X2.out (show (#[Value.int .u8 op, .int .u8 A, .int .u8 B, .int .u8 C, .int .i32 imm] : Array Value)[0]? = some (.int .u8 op) from rfl))
    | (go_at_call 31; refine (alive31 _).mono ?_; rintro e w1 ⟨rfl, hb⟩; obtain ⟨s1, s2, hb'⟩ := keep2 hb; have X1 := Lib.hid s1; have C1 := Lib.hid s2; have B1 := Lib.hid hb'; clear hb hb' s1 s2; obtain ⟨q1, q2⟩ := agg_facts X1.out 5 rfl; have q3 := cell_of_heap X1.out (show (#[Value.int .u8 op, .int .u8 A, .int .u8 B, .int .u8 C, .int .i32 imm] : Array Value)[0]? = some (.int .u8 op) from rfl)))
  go_quiet (fail)
  go_wp2_with fail
  go_ret
  exact ⟨ret_bool HF.out, below_drewN B7.out _⟩

set_option maxRecDepth 20000 in
set_option maxHeartbeats 1000000 in
theorem ar_4z (op A B C : Nat) (imm : Int) (r r2 : Nat → Int) (pc : Int) (w : World) (n : Nat) (hn : n ≤ 4294967295) (HE0 : Hid (∀ w, Calls Try.prog 36 #[.agg #[.int .u8 op, .int .u8 A, .int .u8 B, .int .u8 C, .int .i32 imm]] w fun e w' => e = .returned (.tuple #[.int .u32 n, .int .i64 (0 : Nat)]) ∧ Below w.heap.size w w'))
    (hop : (op : Int) ≤ 19) (hA : A < 16) (hB : B < 16) (hC : C < 16) (_iA : (A : Int) < 16) (iB : (B : Int) < 16) (iC : (C : Int) < 16) (hr0 : r2 0 = 0)
    (HS : Hid (∀ (v : Value) (w : World), Strs w v [pageB [n], zeroB] → Calls Try.prog 33 #[.agg (cpuCells r 0), .agg (spCells oneS), v] w (StepPost ⟨r2, 4, [pageB [n], zeroB], 0, 0⟩ w)))
    (HT : Hid (∀ (v : Value) (w : World), Strs w v [pageB [n], zeroB] → Calls Try.prog 34 #[.agg (cpuCells r 0), .agg (spCells oneS), v] w (StepPost ⟨r2, 4, [pageB [n], zeroB], 0, 0⟩ w)))
    (hA0 : ((A : Int) == 0) = false) (_b0 : 0 ≤ upd r 0 0 B) (_b1 : upd r 0 0 B ≤ 4294967295) (_c0 : 0 ≤ upd r 0 0 C) (_c1 : upd r 0 0 C ≤ 4294967295) (_d0 : 0 ≤ r2 A) (_d1 : r2 A ≤ 4294967295) (h1 : ((op : Int) == 1) = false) (h4 : ((op : Int) == 4) = true) (hz : (upd r 0 0 C == 0) = true) :
    Calls Try.prog 11 #[.agg #[.int .u8 op, .int .u8 A, .int .u8 B, .int .u8 C, .int .i32 imm], .agg (cpuCells r pc)] w fun e w' => e = .returned (.bool true) ∧ Below w.heap.size w w' := by
  have HE := HE0
  go_enter Try.func11, Try.ntmps11
  go_wp2_with (first
    | (go_at_call 35; refine (same35 _ _ _ _ ((V5.out.alloc _).alloc _) ((L5.out.alloc _).alloc _) (by simp)).mono ?_; rintro e w6 ⟨rfl, hb⟩; obtain ⟨s1, s2, hb'⟩ := keep2 hb; have D6 := keep D5.out hb'; have C6 := keep C5.out hb'; have X6 := keep X5.out hb'; have B6 := Lib.hid (below_step B5.out hb'); clear hb hb' s1 s2 q1 q2 q3 q4 q5 q6 l1 l2 l3 l4; have q5 := cell_of_heap D6 (cpuCells_pc r2 4); have q6 := cell_of_heap D6 (cpuCells_get r2 4 0 (by decide)); rw [hr0] at q6; have q7 := cell_of_heap D6 (cpuCells_get r2 4 A hA); have hset := setCell_row C6; have hfr := frozen_row C6; have hc0 := cell_of_heap C6 (cpuCells_get r 0 0 (by decide)); have ho := rowOpen_of C6 17 (cpuCells_size _ _); have x0 := cell_of_heap X6 (show (#[Value.int .u8 op, .int .u8 A, .int .u8 B, .int .u8 C, .int .i32 imm] : Array Value)[0]? = some (.int .u8 op) from rfl); have x1 := cell_of_heap X6 (show (#[Value.int .u8 op, .int .u8 A, .int .u8 B, .int .u8 C, .int .i32 imm] : Array Value)[1]? = some (.int .u8 A) from rfl); have x2 := cell_of_heap X6 (show (#[Value.int .u8 op, .int .u8 A, .int .u8 B, .int .u8 C, .int .i32 imm] : Array Value)[2]? = some (.int .u8 B) from rfl); have x3 := cell_of_heap X6 (show (#[Value.int .u8 op, .int .u8 A, .int .u8 B, .int .u8 C, .int .i32 imm] : Array Value)[3]? = some (.int .u8 C) from rfl); have m1 := heap_lt C4.out; have m2 : w4.heap.size ≠ w.heap.size + 1 := (by omega); have m3 : w.heap.size ≠ w.heap.size + 1 := (by omega); have B7 := Lib.hid (below_setRow B6.out (show w.heap.size ≤ w.heap.size + 1 by omega) (cpuCells (upd r 0 0) 0)); clear m1 C6 D6 X6)
    | (go_at_call 34; refine (HT.out _ _ (((L4.out.alloc _).alloc _))).mono ?_; rintro e w5 ⟨hb, v5, rfl, hs⟩; obtain ⟨s1, s2, hb'⟩ := keep2 hb; have D5 := Lib.hid s1; have E5 := Lib.hid s2; have C5 := Lib.hid (keep C4.out hb'); have X5 := Lib.hid (keep X4.out hb'); have B5 := Lib.hid (below_step B4.out hb'); have V5 := Lib.hid (V4.out.mono hb'); have L5 := Lib.hid (L4.out.mono hb'); clear hb hb' hs q1 q2 q3 q4 l1 l2 l3 l4; obtain ⟨q1, q2⟩ := agg_facts s1 17 (cpuCells_size _ _); obtain ⟨q3, q4⟩ := agg_facts s2 2 rfl; have q5 := cell_of_heap s1 (cpuCells_pc r2 4); have q6 := cell_of_heap s1 (cpuCells_get r2 4 0 (by decide)); rw [hr0] at q6; have l1 := heap_lt s1; have l2 := heap_lt s2; have l3 := Nat.lt_add_one_of_lt l1; have l4 := Nat.lt_add_one_of_lt l2; clear s1 s2)
    | (go_at_call 33; have q0 := B3.out; clear q0; have hs' := (S3.out.setRow (cs' := cpuCells r 0) C3.out (cpu_ints2 _ _)).alloc (.cells (spCells oneS) 26); refine (HS.out _ _ hs').mono ?_; rintro e w4 ⟨hb, v4, rfl, hs⟩; obtain ⟨s1, hb'⟩ := keep1 hb; rw [size_setRow] at s1; have P4 := Lib.hid s1; have C4 := Lib.hid (keep (row_set2 (cs' := cpuCells r 0) C3.out) hb'); have X4 := Lib.hid (keep ((heap_setRow_other w3 (w.heap.size + 1) w.heap.size (cpuCells r 0) (by omega)).trans X3.out) hb'); have B4 := Lib.hid (below_step (below_setRow B3.out (by omega) (cpuCells r 0)) hb'); have V4 := Lib.hid hs; have L4 := Lib.hid ((S3.out.setRow (cs' := cpuCells r 0) C3.out (cpu_ints2 _ _)).mono hb'); clear hb hb' hs hs' s1 hset hfr hc16 ho hl hl2; obtain ⟨q1, q2⟩ := agg_facts C4.out 17 (cpuCells_size _ _); obtain ⟨q3, q4⟩ := agg_facts P4.out 48 (spCells_size _); have l1 := heap_lt C4.out; have l2 := heap_lt P4.out; have l3 := Nat.lt_add_one_of_lt l1; have l4 := Nat.lt_add_one_of_lt l2)
    | (go_at_call 37; refine (one37 op A B C imm _ n 0 hn HE0).mono ?_; rintro e w3 ⟨hb, v3, rfl, hs⟩; have X3 := Lib.hid (keep X2.out hb); have C3 := Lib.hid (keep C2.out hb); have B3 := Lib.hid (below_step B2.out hb); have S3 := Lib.hid hs; have hset := setCell_row (keep C2.out hb); have hfr := frozen_row (keep C2.out hb); have hc16 := cell_of_heap (keep C2.out hb) (cpuCells_pc r pc); have ho := rowOpen_of (keep C2.out hb) 17 (cpuCells_size _ _); have hl := heap_lt (keep C2.out hb); have hl2 := Nat.lt_add_one_of_lt hl; clear hb hs q1 q2 q3)
    | (go_at_call 36; have q0 := B1.out; clear q0; refine (HE.out _).mono ?_; rintro e w2 ⟨rfl, hb⟩; have X2 := Lib.hid (keep X1.out hb); have C2 := Lib.hid (keep C1.out hb); have B2 := Lib.hid (below_step B1.out hb); clear hb q1 q2 q3; obtain ⟨q1, q2⟩ := agg_facts X2.out 5 rfl; have q3 := cell_of_heap X2.out (show (#[Value.int .u8 op, .int .u8 A, .int .u8 B, .int .u8 C, .int .i32 imm] : Array Value)[0]? = some (.int .u8 op) from rfl))
    | (go_at_call 31; refine (alive31 _).mono ?_; rintro e w1 ⟨rfl, hb⟩; obtain ⟨s1, s2, hb'⟩ := keep2 hb; have X1 := Lib.hid s1; have C1 := Lib.hid s2; have B1 := Lib.hid hb'; clear hb hb' s1 s2; obtain ⟨q1, q2⟩ := agg_facts X1.out 5 rfl; have q3 := cell_of_heap X1.out (show (#[Value.int .u8 op, .int .u8 A, .int .u8 B, .int .u8 C, .int .i32 imm] : Array Value)[0]? = some (.int .u8 op) from rfl)))
  go_quiet (fail)
  go_wp2_with fail
  go_ret
  exact ⟨rfl, below_drewN B7.out _⟩

set_option maxRecDepth 20000 in
set_option maxHeartbeats 1000000 in
theorem ar_4 (op A B C : Nat) (imm : Int) (r r2 : Nat → Int) (pc : Int) (w : World) (n : Nat) (hn : n ≤ 4294967295) (HE0 : Hid (∀ w, Calls Try.prog 36 #[.agg #[.int .u8 op, .int .u8 A, .int .u8 B, .int .u8 C, .int .i32 imm]] w fun e w' => e = .returned (.tuple #[.int .u32 n, .int .i64 (0 : Nat)]) ∧ Below w.heap.size w w'))
    (hop : (op : Int) ≤ 19) (hA : A < 16) (hB : B < 16) (hC : C < 16) (iA : (A : Int) < 16) (iB : (B : Int) < 16) (iC : (C : Int) < 16) (hr0 : r2 0 = 0)
    (HS : Hid (∀ (v : Value) (w : World), Strs w v [pageB [n], zeroB] → Calls Try.prog 33 #[.agg (cpuCells r 0), .agg (spCells oneS), v] w (StepPost ⟨r2, 4, [pageB [n], zeroB], 0, 0⟩ w)))
    (HT : Hid (∀ (v : Value) (w : World), Strs w v [pageB [n], zeroB] → Calls Try.prog 34 #[.agg (cpuCells r 0), .agg (spCells oneS), v] w (StepPost ⟨r2, 4, [pageB [n], zeroB], 0, 0⟩ w)))
    (hA0 : ((A : Int) == 0) = false) (b0 : 0 ≤ upd r 0 0 B) (b1 : upd r 0 0 B ≤ 4294967295) (c0 : 0 ≤ upd r 0 0 C) (c1 : upd r 0 0 C ≤ 4294967295) (d0 : 0 ≤ r2 A) (d1 : r2 A ≤ 4294967295) (h1 : ((op : Int) == 1) = false) (h4 : ((op : Int) == 4) = true) (hz : (upd r 0 0 C == 0) = false) (q : Int) (hq : r2 A * upd r 0 0 C = q) (q0 : 0 ≤ q) (q1 : q ≤ 4294967295) (hq1 : q ≤ upd r 0 0 B) (hq2 : upd r 0 0 B < q + upd r 0 0 C) :
    Calls Try.prog 11 #[.agg #[.int .u8 op, .int .u8 A, .int .u8 B, .int .u8 C, .int .i32 imm], .agg (cpuCells r pc)] w fun e w' => e = .returned (.bool true) ∧ Below w.heap.size w w' := by
  have HE := HE0
  go_enter Try.func11, Try.ntmps11
  go_wp2_with (first
    | (go_at_call 35; refine (same35 _ _ _ _ ((V5.out.alloc _).alloc _) ((L5.out.alloc _).alloc _) (by simp)).mono ?_; rintro e w6 ⟨rfl, hb⟩; obtain ⟨s1, s2, hb'⟩ := keep2 hb; have D6 := keep D5.out hb'; have C6 := keep C5.out hb'; have X6 := keep X5.out hb'; have B6 := Lib.hid (below_step B5.out hb'); clear hb hb' s1 s2 q1 q2 q3 q4 q5 q6 l1 l2 l3 l4; have q5 := cell_of_heap D6 (cpuCells_pc r2 4); have q6 := cell_of_heap D6 (cpuCells_get r2 4 0 (by decide)); rw [hr0] at q6; have q7 := cell_of_heap D6 (cpuCells_get r2 4 A hA); have hset := setCell_row C6; have hfr := frozen_row C6; have hc0 := cell_of_heap C6 (cpuCells_get r 0 0 (by decide)); have ho := rowOpen_of C6 17 (cpuCells_size _ _); have x0 := cell_of_heap X6 (show (#[Value.int .u8 op, .int .u8 A, .int .u8 B, .int .u8 C, .int .i32 imm] : Array Value)[0]? = some (.int .u8 op) from rfl); have x1 := cell_of_heap X6 (show (#[Value.int .u8 op, .int .u8 A, .int .u8 B, .int .u8 C, .int .i32 imm] : Array Value)[1]? = some (.int .u8 A) from rfl); have x2 := cell_of_heap X6 (show (#[Value.int .u8 op, .int .u8 A, .int .u8 B, .int .u8 C, .int .i32 imm] : Array Value)[2]? = some (.int .u8 B) from rfl); have x3 := cell_of_heap X6 (show (#[Value.int .u8 op, .int .u8 A, .int .u8 B, .int .u8 C, .int .i32 imm] : Array Value)[3]? = some (.int .u8 C) from rfl); have m1 := heap_lt C4.out; have m2 : w4.heap.size ≠ w.heap.size + 1 := (by omega); have m3 : w.heap.size ≠ w.heap.size + 1 := (by omega); have B7 := Lib.hid (below_setRow B6.out (show w.heap.size ≤ w.heap.size + 1 by omega) (cpuCells (upd r 0 0) 0)); clear m1 C6 D6 X6)
    | (go_at_call 34; refine (HT.out _ _ (((L4.out.alloc _).alloc _))).mono ?_; rintro e w5 ⟨hb, v5, rfl, hs⟩; obtain ⟨s1, s2, hb'⟩ := keep2 hb; have D5 := Lib.hid s1; have E5 := Lib.hid s2; have C5 := Lib.hid (keep C4.out hb'); have X5 := Lib.hid (keep X4.out hb'); have B5 := Lib.hid (below_step B4.out hb'); have V5 := Lib.hid (V4.out.mono hb'); have L5 := Lib.hid (L4.out.mono hb'); clear hb hb' hs q1 q2 q3 q4 l1 l2 l3 l4; obtain ⟨q1, q2⟩ := agg_facts s1 17 (cpuCells_size _ _); obtain ⟨q3, q4⟩ := agg_facts s2 2 rfl; have q5 := cell_of_heap s1 (cpuCells_pc r2 4); have q6 := cell_of_heap s1 (cpuCells_get r2 4 0 (by decide)); rw [hr0] at q6; have l1 := heap_lt s1; have l2 := heap_lt s2; have l3 := Nat.lt_add_one_of_lt l1; have l4 := Nat.lt_add_one_of_lt l2; clear s1 s2)
    | (go_at_call 33; have q0 := B3.out; clear q0; have hs' := (S3.out.setRow (cs' := cpuCells r 0) C3.out (cpu_ints2 _ _)).alloc (.cells (spCells oneS) 26); refine (HS.out _ _ hs').mono ?_; rintro e w4 ⟨hb, v4, rfl, hs⟩; obtain ⟨s1, hb'⟩ := keep1 hb; rw [size_setRow] at s1; have P4 := Lib.hid s1; have C4 := Lib.hid (keep (row_set2 (cs' := cpuCells r 0) C3.out) hb'); have X4 := Lib.hid (keep ((heap_setRow_other w3 (w.heap.size + 1) w.heap.size (cpuCells r 0) (by omega)).trans X3.out) hb'); have B4 := Lib.hid (below_step (below_setRow B3.out (by omega) (cpuCells r 0)) hb'); have V4 := Lib.hid hs; have L4 := Lib.hid ((S3.out.setRow (cs' := cpuCells r 0) C3.out (cpu_ints2 _ _)).mono hb'); clear hb hb' hs hs' s1 hset hfr hc16 ho hl hl2; obtain ⟨q1, q2⟩ := agg_facts C4.out 17 (cpuCells_size _ _); obtain ⟨q3, q4⟩ := agg_facts P4.out 48 (spCells_size _); have l1 := heap_lt C4.out; have l2 := heap_lt P4.out; have l3 := Nat.lt_add_one_of_lt l1; have l4 := Nat.lt_add_one_of_lt l2)
    | (go_at_call 37; refine (one37 op A B C imm _ n 0 hn HE0).mono ?_; rintro e w3 ⟨hb, v3, rfl, hs⟩; have X3 := Lib.hid (keep X2.out hb); have C3 := Lib.hid (keep C2.out hb); have B3 := Lib.hid (below_step B2.out hb); have S3 := Lib.hid hs; have hset := setCell_row (keep C2.out hb); have hfr := frozen_row (keep C2.out hb); have hc16 := cell_of_heap (keep C2.out hb) (cpuCells_pc r pc); have ho := rowOpen_of (keep C2.out hb) 17 (cpuCells_size _ _); have hl := heap_lt (keep C2.out hb); have hl2 := Nat.lt_add_one_of_lt hl; clear hb hs q1 q2 q3)
    | (go_at_call 36; have q0 := B1.out; clear q0; refine (HE.out _).mono ?_; rintro e w2 ⟨rfl, hb⟩; have X2 := Lib.hid (keep X1.out hb); have C2 := Lib.hid (keep C1.out hb); have B2 := Lib.hid (below_step B1.out hb); clear hb q1 q2 q3; obtain ⟨q1, q2⟩ := agg_facts X2.out 5 rfl; have q3 := cell_of_heap X2.out (show (#[Value.int .u8 op, .int .u8 A, .int .u8 B, .int .u8 C, .int .i32 imm] : Array Value)[0]? = some (.int .u8 op) from rfl))
    | (go_at_call 31; refine (alive31 _).mono ?_; rintro e w1 ⟨rfl, hb⟩; obtain ⟨s1, s2, hb'⟩ := keep2 hb; have X1 := Lib.hid s1; have C1 := Lib.hid s2; have B1 := Lib.hid hb'; clear hb hb' s1 s2; obtain ⟨q1, q2⟩ := agg_facts X1.out 5 rfl; have q3 := cell_of_heap X1.out (show (#[Value.int .u8 op, .int .u8 A, .int .u8 B, .int .u8 C, .int .i32 imm] : Array Value)[0]? = some (.int .u8 op) from rfl)))
  go_quiet (fail)
  go_wp2_with fail
  go_ret
  exact ⟨rfl, below_drewN B7.out _⟩

set_option maxRecDepth 20000 in
set_option maxHeartbeats 1000000 in
theorem ar_9 (op A B C : Nat) (imm : Int) (r r2 : Nat → Int) (pc : Int) (w : World) (n : Nat) (hn : n ≤ 4294967295) (HE0 : Hid (∀ w, Calls Try.prog 36 #[.agg #[.int .u8 op, .int .u8 A, .int .u8 B, .int .u8 C, .int .i32 imm]] w fun e w' => e = .returned (.tuple #[.int .u32 n, .int .i64 (0 : Nat)]) ∧ Below w.heap.size w w'))
    (hop : (op : Int) ≤ 19) (hA : A < 16) (hB : B < 16) (hC : C < 16) (iA : (A : Int) < 16) (iB : (B : Int) < 16) (iC : (C : Int) < 16) (hr0 : r2 0 = 0)
    (HS : Hid (∀ (v : Value) (w : World), Strs w v [pageB [n], zeroB] → Calls Try.prog 33 #[.agg (cpuCells r 0), .agg (spCells oneS), v] w (StepPost ⟨r2, 4, [pageB [n], zeroB], 0, 0⟩ w)))
    (HT : Hid (∀ (v : Value) (w : World), Strs w v [pageB [n], zeroB] → Calls Try.prog 34 #[.agg (cpuCells r 0), .agg (spCells oneS), v] w (StepPost ⟨r2, 4, [pageB [n], zeroB], 0, 0⟩ w)))
    (hA0 : ((A : Int) == 0) = false) (_b0 : 0 ≤ upd r 0 0 B) (_b1 : upd r 0 0 B ≤ 4294967295) (c0 : 0 ≤ upd r 0 0 C) (c1 : upd r 0 0 C ≤ 4294967295) (_d0 : 0 ≤ r2 A) (_d1 : r2 A ≤ 4294967295) (h1 : ((op : Int) == 1) = false) (h4 : ((op : Int) == 4) = false) (h9 : ((op : Int) == 9) = true) (HF : Hid ((r2 A == upd r 0 0 B * 2 ^ (upd r 0 0 C % 32).toNat % 4294967296) = true)) :
    Calls Try.prog 11 #[.agg #[.int .u8 op, .int .u8 A, .int .u8 B, .int .u8 C, .int .i32 imm], .agg (cpuCells r pc)] w fun e w' => e = .returned (.bool true) ∧ Below w.heap.size w w' := by
  have HE := HE0
  go_enter Try.func11, Try.ntmps11
  go_wp2_with (first
    | (go_at_call 35; refine (same35 _ _ _ _ ((V5.out.alloc _).alloc _) ((L5.out.alloc _).alloc _) (by simp)).mono ?_; rintro e w6 ⟨rfl, hb⟩; obtain ⟨s1, s2, hb'⟩ := keep2 hb; have D6 := keep D5.out hb'; have C6 := keep C5.out hb'; have X6 := keep X5.out hb'; have B6 := Lib.hid (below_step B5.out hb'); clear hb hb' s1 s2 q1 q2 q3 q4 q5 q6 l1 l2 l3 l4; have q5 := cell_of_heap D6 (cpuCells_pc r2 4); have q6 := cell_of_heap D6 (cpuCells_get r2 4 0 (by decide)); rw [hr0] at q6; have q7 := cell_of_heap D6 (cpuCells_get r2 4 A hA); have hset := setCell_row C6; have hfr := frozen_row C6; have hc0 := cell_of_heap C6 (cpuCells_get r 0 0 (by decide)); have ho := rowOpen_of C6 17 (cpuCells_size _ _); have x0 := cell_of_heap X6 (show (#[Value.int .u8 op, .int .u8 A, .int .u8 B, .int .u8 C, .int .i32 imm] : Array Value)[0]? = some (.int .u8 op) from rfl); have x1 := cell_of_heap X6 (show (#[Value.int .u8 op, .int .u8 A, .int .u8 B, .int .u8 C, .int .i32 imm] : Array Value)[1]? = some (.int .u8 A) from rfl); have x2 := cell_of_heap X6 (show (#[Value.int .u8 op, .int .u8 A, .int .u8 B, .int .u8 C, .int .i32 imm] : Array Value)[2]? = some (.int .u8 B) from rfl); have x3 := cell_of_heap X6 (show (#[Value.int .u8 op, .int .u8 A, .int .u8 B, .int .u8 C, .int .i32 imm] : Array Value)[3]? = some (.int .u8 C) from rfl); have m1 := heap_lt C4.out; have m2 : w4.heap.size ≠ w.heap.size + 1 := (by omega); have m3 : w.heap.size ≠ w.heap.size + 1 := (by omega); have B7 := Lib.hid (below_setRow B6.out (show w.heap.size ≤ w.heap.size + 1 by omega) (cpuCells (upd r 0 0) 0)); clear m1 C6 D6 X6)
    | (go_at_call 34; refine (HT.out _ _ (((L4.out.alloc _).alloc _))).mono ?_; rintro e w5 ⟨hb, v5, rfl, hs⟩; obtain ⟨s1, s2, hb'⟩ := keep2 hb; have D5 := Lib.hid s1; have E5 := Lib.hid s2; have C5 := Lib.hid (keep C4.out hb'); have X5 := Lib.hid (keep X4.out hb'); have B5 := Lib.hid (below_step B4.out hb'); have V5 := Lib.hid (V4.out.mono hb'); have L5 := Lib.hid (L4.out.mono hb'); clear hb hb' hs q1 q2 q3 q4 l1 l2 l3 l4; obtain ⟨q1, q2⟩ := agg_facts s1 17 (cpuCells_size _ _); obtain ⟨q3, q4⟩ := agg_facts s2 2 rfl; have q5 := cell_of_heap s1 (cpuCells_pc r2 4); have q6 := cell_of_heap s1 (cpuCells_get r2 4 0 (by decide)); rw [hr0] at q6; have l1 := heap_lt s1; have l2 := heap_lt s2; have l3 := Nat.lt_add_one_of_lt l1; have l4 := Nat.lt_add_one_of_lt l2; clear s1 s2)
    | (go_at_call 33; have q0 := B3.out; clear q0; have hs' := (S3.out.setRow (cs' := cpuCells r 0) C3.out (cpu_ints2 _ _)).alloc (.cells (spCells oneS) 26); refine (HS.out _ _ hs').mono ?_; rintro e w4 ⟨hb, v4, rfl, hs⟩; obtain ⟨s1, hb'⟩ := keep1 hb; rw [size_setRow] at s1; have P4 := Lib.hid s1; have C4 := Lib.hid (keep (row_set2 (cs' := cpuCells r 0) C3.out) hb'); have X4 := Lib.hid (keep ((heap_setRow_other w3 (w.heap.size + 1) w.heap.size (cpuCells r 0) (by omega)).trans X3.out) hb'); have B4 := Lib.hid (below_step (below_setRow B3.out (by omega) (cpuCells r 0)) hb'); have V4 := Lib.hid hs; have L4 := Lib.hid ((S3.out.setRow (cs' := cpuCells r 0) C3.out (cpu_ints2 _ _)).mono hb'); clear hb hb' hs hs' s1 hset hfr hc16 ho hl hl2; obtain ⟨q1, q2⟩ := agg_facts C4.out 17 (cpuCells_size _ _); obtain ⟨q3, q4⟩ := agg_facts P4.out 48 (spCells_size _); have l1 := heap_lt C4.out; have l2 := heap_lt P4.out; have l3 := Nat.lt_add_one_of_lt l1; have l4 := Nat.lt_add_one_of_lt l2)
    | (go_at_call 37; refine (one37 op A B C imm _ n 0 hn HE0).mono ?_; rintro e w3 ⟨hb, v3, rfl, hs⟩; have X3 := Lib.hid (keep X2.out hb); have C3 := Lib.hid (keep C2.out hb); have B3 := Lib.hid (below_step B2.out hb); have S3 := Lib.hid hs; have hset := setCell_row (keep C2.out hb); have hfr := frozen_row (keep C2.out hb); have hc16 := cell_of_heap (keep C2.out hb) (cpuCells_pc r pc); have ho := rowOpen_of (keep C2.out hb) 17 (cpuCells_size _ _); have hl := heap_lt (keep C2.out hb); have hl2 := Nat.lt_add_one_of_lt hl; clear hb hs q1 q2 q3)
    | (go_at_call 36; have q0 := B1.out; clear q0; refine (HE.out _).mono ?_; rintro e w2 ⟨rfl, hb⟩; have X2 := Lib.hid (keep X1.out hb); have C2 := Lib.hid (keep C1.out hb); have B2 := Lib.hid (below_step B1.out hb); clear hb q1 q2 q3; obtain ⟨q1, q2⟩ := agg_facts X2.out 5 rfl; have q3 := cell_of_heap X2.out (show (#[Value.int .u8 op, .int .u8 A, .int .u8 B, .int .u8 C, .int .i32 imm] : Array Value)[0]? = some (.int .u8 op) from rfl))
    | (go_at_call 31; refine (alive31 _).mono ?_; rintro e w1 ⟨rfl, hb⟩; obtain ⟨s1, s2, hb'⟩ := keep2 hb; have X1 := Lib.hid s1; have C1 := Lib.hid s2; have B1 := Lib.hid hb'; clear hb hb' s1 s2; obtain ⟨q1, q2⟩ := agg_facts X1.out 5 rfl; have q3 := cell_of_heap X1.out (show (#[Value.int .u8 op, .int .u8 A, .int .u8 B, .int .u8 C, .int .i32 imm] : Array Value)[0]? = some (.int .u8 op) from rfl)))
  go_quiet (fail)
  go_wp2_with fail
  go_ret
  exact ⟨ret_bool HF.out, below_drewN B7.out _⟩

set_option maxRecDepth 20000 in
set_option maxHeartbeats 1000000 in
theorem ar_11 (op A B C : Nat) (imm : Int) (r r2 : Nat → Int) (pc : Int) (w : World) (n : Nat) (hn : n ≤ 4294967295) (HE0 : Hid (∀ w, Calls Try.prog 36 #[.agg #[.int .u8 op, .int .u8 A, .int .u8 B, .int .u8 C, .int .i32 imm]] w fun e w' => e = .returned (.tuple #[.int .u32 n, .int .i64 (0 : Nat)]) ∧ Below w.heap.size w w'))
    (hop : (op : Int) ≤ 19) (hA : A < 16) (hB : B < 16) (hC : C < 16) (iA : (A : Int) < 16) (iB : (B : Int) < 16) (iC : (C : Int) < 16) (hr0 : r2 0 = 0)
    (HS : Hid (∀ (v : Value) (w : World), Strs w v [pageB [n], zeroB] → Calls Try.prog 33 #[.agg (cpuCells r 0), .agg (spCells oneS), v] w (StepPost ⟨r2, 4, [pageB [n], zeroB], 0, 0⟩ w)))
    (HT : Hid (∀ (v : Value) (w : World), Strs w v [pageB [n], zeroB] → Calls Try.prog 34 #[.agg (cpuCells r 0), .agg (spCells oneS), v] w (StepPost ⟨r2, 4, [pageB [n], zeroB], 0, 0⟩ w)))
    (hA0 : ((A : Int) == 0) = false) (_b0 : 0 ≤ upd r 0 0 B) (_b1 : upd r 0 0 B ≤ 4294967295) (c0 : 0 ≤ upd r 0 0 C) (c1 : upd r 0 0 C ≤ 4294967295) (_d0 : 0 ≤ r2 A) (_d1 : r2 A ≤ 4294967295) (h1 : ((op : Int) == 1) = false) (h4 : ((op : Int) == 4) = false) (h9 : ((op : Int) == 9) = false) (h11 : ((op : Int) == 11) = true) (HF : Hid ((r2 A == wrap32 (upd r 0 0 B) / 2 ^ (upd r 0 0 C % 32).toNat % 4294967296) = true)) :
    Calls Try.prog 11 #[.agg #[.int .u8 op, .int .u8 A, .int .u8 B, .int .u8 C, .int .i32 imm], .agg (cpuCells r pc)] w fun e w' => e = .returned (.bool true) ∧ Below w.heap.size w w' := by
  have HE := HE0
  go_enter Try.func11, Try.ntmps11
  go_wp2_with (first
    | (go_at_call 35; refine (same35 _ _ _ _ ((V5.out.alloc _).alloc _) ((L5.out.alloc _).alloc _) (by simp)).mono ?_; rintro e w6 ⟨rfl, hb⟩; obtain ⟨s1, s2, hb'⟩ := keep2 hb; have D6 := keep D5.out hb'; have C6 := keep C5.out hb'; have X6 := keep X5.out hb'; have B6 := Lib.hid (below_step B5.out hb'); clear hb hb' s1 s2 q1 q2 q3 q4 q5 q6 l1 l2 l3 l4; have q5 := cell_of_heap D6 (cpuCells_pc r2 4); have q6 := cell_of_heap D6 (cpuCells_get r2 4 0 (by decide)); rw [hr0] at q6; have q7 := cell_of_heap D6 (cpuCells_get r2 4 A hA); have hset := setCell_row C6; have hfr := frozen_row C6; have hc0 := cell_of_heap C6 (cpuCells_get r 0 0 (by decide)); have ho := rowOpen_of C6 17 (cpuCells_size _ _); have x0 := cell_of_heap X6 (show (#[Value.int .u8 op, .int .u8 A, .int .u8 B, .int .u8 C, .int .i32 imm] : Array Value)[0]? = some (.int .u8 op) from rfl); have x1 := cell_of_heap X6 (show (#[Value.int .u8 op, .int .u8 A, .int .u8 B, .int .u8 C, .int .i32 imm] : Array Value)[1]? = some (.int .u8 A) from rfl); have x2 := cell_of_heap X6 (show (#[Value.int .u8 op, .int .u8 A, .int .u8 B, .int .u8 C, .int .i32 imm] : Array Value)[2]? = some (.int .u8 B) from rfl); have x3 := cell_of_heap X6 (show (#[Value.int .u8 op, .int .u8 A, .int .u8 B, .int .u8 C, .int .i32 imm] : Array Value)[3]? = some (.int .u8 C) from rfl); have m1 := heap_lt C4.out; have m2 : w4.heap.size ≠ w.heap.size + 1 := (by omega); have m3 : w.heap.size ≠ w.heap.size + 1 := (by omega); have B7 := Lib.hid (below_setRow B6.out (show w.heap.size ≤ w.heap.size + 1 by omega) (cpuCells (upd r 0 0) 0)); clear m1 C6 D6 X6)
    | (go_at_call 34; refine (HT.out _ _ (((L4.out.alloc _).alloc _))).mono ?_; rintro e w5 ⟨hb, v5, rfl, hs⟩; obtain ⟨s1, s2, hb'⟩ := keep2 hb; have D5 := Lib.hid s1; have E5 := Lib.hid s2; have C5 := Lib.hid (keep C4.out hb'); have X5 := Lib.hid (keep X4.out hb'); have B5 := Lib.hid (below_step B4.out hb'); have V5 := Lib.hid (V4.out.mono hb'); have L5 := Lib.hid (L4.out.mono hb'); clear hb hb' hs q1 q2 q3 q4 l1 l2 l3 l4; obtain ⟨q1, q2⟩ := agg_facts s1 17 (cpuCells_size _ _); obtain ⟨q3, q4⟩ := agg_facts s2 2 rfl; have q5 := cell_of_heap s1 (cpuCells_pc r2 4); have q6 := cell_of_heap s1 (cpuCells_get r2 4 0 (by decide)); rw [hr0] at q6; have l1 := heap_lt s1; have l2 := heap_lt s2; have l3 := Nat.lt_add_one_of_lt l1; have l4 := Nat.lt_add_one_of_lt l2; clear s1 s2)
    | (go_at_call 33; have q0 := B3.out; clear q0; have hs' := (S3.out.setRow (cs' := cpuCells r 0) C3.out (cpu_ints2 _ _)).alloc (.cells (spCells oneS) 26); refine (HS.out _ _ hs').mono ?_; rintro e w4 ⟨hb, v4, rfl, hs⟩; obtain ⟨s1, hb'⟩ := keep1 hb; rw [size_setRow] at s1; have P4 := Lib.hid s1; have C4 := Lib.hid (keep (row_set2 (cs' := cpuCells r 0) C3.out) hb'); have X4 := Lib.hid (keep ((heap_setRow_other w3 (w.heap.size + 1) w.heap.size (cpuCells r 0) (by omega)).trans X3.out) hb'); have B4 := Lib.hid (below_step (below_setRow B3.out (by omega) (cpuCells r 0)) hb'); have V4 := Lib.hid hs; have L4 := Lib.hid ((S3.out.setRow (cs' := cpuCells r 0) C3.out (cpu_ints2 _ _)).mono hb'); clear hb hb' hs hs' s1 hset hfr hc16 ho hl hl2; obtain ⟨q1, q2⟩ := agg_facts C4.out 17 (cpuCells_size _ _); obtain ⟨q3, q4⟩ := agg_facts P4.out 48 (spCells_size _); have l1 := heap_lt C4.out; have l2 := heap_lt P4.out; have l3 := Nat.lt_add_one_of_lt l1; have l4 := Nat.lt_add_one_of_lt l2)
    | (go_at_call 37; refine (one37 op A B C imm _ n 0 hn HE0).mono ?_; rintro e w3 ⟨hb, v3, rfl, hs⟩; have X3 := Lib.hid (keep X2.out hb); have C3 := Lib.hid (keep C2.out hb); have B3 := Lib.hid (below_step B2.out hb); have S3 := Lib.hid hs; have hset := setCell_row (keep C2.out hb); have hfr := frozen_row (keep C2.out hb); have hc16 := cell_of_heap (keep C2.out hb) (cpuCells_pc r pc); have ho := rowOpen_of (keep C2.out hb) 17 (cpuCells_size _ _); have hl := heap_lt (keep C2.out hb); have hl2 := Nat.lt_add_one_of_lt hl; clear hb hs q1 q2 q3)
    | (go_at_call 36; have q0 := B1.out; clear q0; refine (HE.out _).mono ?_; rintro e w2 ⟨rfl, hb⟩; have X2 := Lib.hid (keep X1.out hb); have C2 := Lib.hid (keep C1.out hb); have B2 := Lib.hid (below_step B1.out hb); clear hb q1 q2 q3; obtain ⟨q1, q2⟩ := agg_facts X2.out 5 rfl; have q3 := cell_of_heap X2.out (show (#[Value.int .u8 op, .int .u8 A, .int .u8 B, .int .u8 C, .int .i32 imm] : Array Value)[0]? = some (.int .u8 op) from rfl))
    | (go_at_call 31; refine (alive31 _).mono ?_; rintro e w1 ⟨rfl, hb⟩; obtain ⟨s1, s2, hb'⟩ := keep2 hb; have X1 := Lib.hid s1; have C1 := Lib.hid s2; have B1 := Lib.hid hb'; clear hb hb' s1 s2; obtain ⟨q1, q2⟩ := agg_facts X1.out 5 rfl; have q3 := cell_of_heap X1.out (show (#[Value.int .u8 op, .int .u8 A, .int .u8 B, .int .u8 C, .int .i32 imm] : Array Value)[0]? = some (.int .u8 op) from rfl)))
  go_quiet (fail)
  go_wp2_with fail
  go_ret
  exact ⟨ret_bool HF.out, below_drewN B7.out _⟩

set_option maxRecDepth 20000 in
set_option maxHeartbeats 1000000 in
theorem ar_12 (op A B C : Nat) (imm : Int) (r r2 : Nat → Int) (pc : Int) (w : World) (n : Nat) (hn : n ≤ 4294967295) (HE0 : Hid (∀ w, Calls Try.prog 36 #[.agg #[.int .u8 op, .int .u8 A, .int .u8 B, .int .u8 C, .int .i32 imm]] w fun e w' => e = .returned (.tuple #[.int .u32 n, .int .i64 (0 : Nat)]) ∧ Below w.heap.size w w'))
    (hop : (op : Int) ≤ 19) (hA : A < 16) (hB : B < 16) (hC : C < 16) (iA : (A : Int) < 16) (iB : (B : Int) < 16) (iC : (C : Int) < 16) (hr0 : r2 0 = 0)
    (HS : Hid (∀ (v : Value) (w : World), Strs w v [pageB [n], zeroB] → Calls Try.prog 33 #[.agg (cpuCells r 0), .agg (spCells oneS), v] w (StepPost ⟨r2, 4, [pageB [n], zeroB], 0, 0⟩ w)))
    (HT : Hid (∀ (v : Value) (w : World), Strs w v [pageB [n], zeroB] → Calls Try.prog 34 #[.agg (cpuCells r 0), .agg (spCells oneS), v] w (StepPost ⟨r2, 4, [pageB [n], zeroB], 0, 0⟩ w)))
    (hA0 : ((A : Int) == 0) = false) (_b0 : 0 ≤ upd r 0 0 B) (_b1 : upd r 0 0 B ≤ 4294967295) (_c0 : 0 ≤ upd r 0 0 C) (_c1 : upd r 0 0 C ≤ 4294967295) (_d0 : 0 ≤ r2 A) (_d1 : r2 A ≤ 4294967295) (h1 : ((op : Int) == 1) = false) (h4 : ((op : Int) == 4) = false) (h9 : ((op : Int) == 9) = false) (h11 : ((op : Int) == 11) = false) (h12 : ((op : Int) == 12) = true) (HF : Hid (((r2 A == 1) == decide (wrap32 (upd r 0 0 B) < wrap32 (upd r 0 0 C))) = true)) :
    Calls Try.prog 11 #[.agg #[.int .u8 op, .int .u8 A, .int .u8 B, .int .u8 C, .int .i32 imm], .agg (cpuCells r pc)] w fun e w' => e = .returned (.bool true) ∧ Below w.heap.size w w' := by
  have HE := HE0
  go_enter Try.func11, Try.ntmps11
  go_wp2_with (first
    | (go_at_call 35; refine (same35 _ _ _ _ ((V5.out.alloc _).alloc _) ((L5.out.alloc _).alloc _) (by simp)).mono ?_; rintro e w6 ⟨rfl, hb⟩; obtain ⟨s1, s2, hb'⟩ := keep2 hb; have D6 := keep D5.out hb'; have C6 := keep C5.out hb'; have X6 := keep X5.out hb'; have B6 := Lib.hid (below_step B5.out hb'); clear hb hb' s1 s2 q1 q2 q3 q4 q5 q6 l1 l2 l3 l4; have q5 := cell_of_heap D6 (cpuCells_pc r2 4); have q6 := cell_of_heap D6 (cpuCells_get r2 4 0 (by decide)); rw [hr0] at q6; have q7 := cell_of_heap D6 (cpuCells_get r2 4 A hA); have hset := setCell_row C6; have hfr := frozen_row C6; have hc0 := cell_of_heap C6 (cpuCells_get r 0 0 (by decide)); have ho := rowOpen_of C6 17 (cpuCells_size _ _); have x0 := cell_of_heap X6 (show (#[Value.int .u8 op, .int .u8 A, .int .u8 B, .int .u8 C, .int .i32 imm] : Array Value)[0]? = some (.int .u8 op) from rfl); have x1 := cell_of_heap X6 (show (#[Value.int .u8 op, .int .u8 A, .int .u8 B, .int .u8 C, .int .i32 imm] : Array Value)[1]? = some (.int .u8 A) from rfl); have x2 := cell_of_heap X6 (show (#[Value.int .u8 op, .int .u8 A, .int .u8 B, .int .u8 C, .int .i32 imm] : Array Value)[2]? = some (.int .u8 B) from rfl); have x3 := cell_of_heap X6 (show (#[Value.int .u8 op, .int .u8 A, .int .u8 B, .int .u8 C, .int .i32 imm] : Array Value)[3]? = some (.int .u8 C) from rfl); have m1 := heap_lt C4.out; have m2 : w4.heap.size ≠ w.heap.size + 1 := (by omega); have m3 : w.heap.size ≠ w.heap.size + 1 := (by omega); have B7 := Lib.hid (below_setRow B6.out (show w.heap.size ≤ w.heap.size + 1 by omega) (cpuCells (upd r 0 0) 0)); clear m1 C6 D6 X6)
    | (go_at_call 34; refine (HT.out _ _ (((L4.out.alloc _).alloc _))).mono ?_; rintro e w5 ⟨hb, v5, rfl, hs⟩; obtain ⟨s1, s2, hb'⟩ := keep2 hb; have D5 := Lib.hid s1; have E5 := Lib.hid s2; have C5 := Lib.hid (keep C4.out hb'); have X5 := Lib.hid (keep X4.out hb'); have B5 := Lib.hid (below_step B4.out hb'); have V5 := Lib.hid (V4.out.mono hb'); have L5 := Lib.hid (L4.out.mono hb'); clear hb hb' hs q1 q2 q3 q4 l1 l2 l3 l4; obtain ⟨q1, q2⟩ := agg_facts s1 17 (cpuCells_size _ _); obtain ⟨q3, q4⟩ := agg_facts s2 2 rfl; have q5 := cell_of_heap s1 (cpuCells_pc r2 4); have q6 := cell_of_heap s1 (cpuCells_get r2 4 0 (by decide)); rw [hr0] at q6; have l1 := heap_lt s1; have l2 := heap_lt s2; have l3 := Nat.lt_add_one_of_lt l1; have l4 := Nat.lt_add_one_of_lt l2; clear s1 s2)
    | (go_at_call 33; have q0 := B3.out; clear q0; have hs' := (S3.out.setRow (cs' := cpuCells r 0) C3.out (cpu_ints2 _ _)).alloc (.cells (spCells oneS) 26); refine (HS.out _ _ hs').mono ?_; rintro e w4 ⟨hb, v4, rfl, hs⟩; obtain ⟨s1, hb'⟩ := keep1 hb; rw [size_setRow] at s1; have P4 := Lib.hid s1; have C4 := Lib.hid (keep (row_set2 (cs' := cpuCells r 0) C3.out) hb'); have X4 := Lib.hid (keep ((heap_setRow_other w3 (w.heap.size + 1) w.heap.size (cpuCells r 0) (by omega)).trans X3.out) hb'); have B4 := Lib.hid (below_step (below_setRow B3.out (by omega) (cpuCells r 0)) hb'); have V4 := Lib.hid hs; have L4 := Lib.hid ((S3.out.setRow (cs' := cpuCells r 0) C3.out (cpu_ints2 _ _)).mono hb'); clear hb hb' hs hs' s1 hset hfr hc16 ho hl hl2; obtain ⟨q1, q2⟩ := agg_facts C4.out 17 (cpuCells_size _ _); obtain ⟨q3, q4⟩ := agg_facts P4.out 48 (spCells_size _); have l1 := heap_lt C4.out; have l2 := heap_lt P4.out; have l3 := Nat.lt_add_one_of_lt l1; have l4 := Nat.lt_add_one_of_lt l2)
    | (go_at_call 37; refine (one37 op A B C imm _ n 0 hn HE0).mono ?_; rintro e w3 ⟨hb, v3, rfl, hs⟩; have X3 := Lib.hid (keep X2.out hb); have C3 := Lib.hid (keep C2.out hb); have B3 := Lib.hid (below_step B2.out hb); have S3 := Lib.hid hs; have hset := setCell_row (keep C2.out hb); have hfr := frozen_row (keep C2.out hb); have hc16 := cell_of_heap (keep C2.out hb) (cpuCells_pc r pc); have ho := rowOpen_of (keep C2.out hb) 17 (cpuCells_size _ _); have hl := heap_lt (keep C2.out hb); have hl2 := Nat.lt_add_one_of_lt hl; clear hb hs q1 q2 q3)
    | (go_at_call 36; have q0 := B1.out; clear q0; refine (HE.out _).mono ?_; rintro e w2 ⟨rfl, hb⟩; have X2 := Lib.hid (keep X1.out hb); have C2 := Lib.hid (keep C1.out hb); have B2 := Lib.hid (below_step B1.out hb); clear hb q1 q2 q3; obtain ⟨q1, q2⟩ := agg_facts X2.out 5 rfl; have q3 := cell_of_heap X2.out (show (#[Value.int .u8 op, .int .u8 A, .int .u8 B, .int .u8 C, .int .i32 imm] : Array Value)[0]? = some (.int .u8 op) from rfl))
    | (go_at_call 31; refine (alive31 _).mono ?_; rintro e w1 ⟨rfl, hb⟩; obtain ⟨s1, s2, hb'⟩ := keep2 hb; have X1 := Lib.hid s1; have C1 := Lib.hid s2; have B1 := Lib.hid hb'; clear hb hb' s1 s2; obtain ⟨q1, q2⟩ := agg_facts X1.out 5 rfl; have q3 := cell_of_heap X1.out (show (#[Value.int .u8 op, .int .u8 A, .int .u8 B, .int .u8 C, .int .i32 imm] : Array Value)[0]? = some (.int .u8 op) from rfl)))
  go_quiet (fail)
  go_wp2_with fail
  go_ret
  exact ⟨ret_bool HF.out, below_drewN B7.out _⟩

set_option maxRecDepth 20000 in
set_option maxHeartbeats 1000000 in
theorem ar_o (op A B C : Nat) (imm : Int) (r r2 : Nat → Int) (pc : Int) (w : World) (n : Nat) (hn : n ≤ 4294967295) (HE0 : Hid (∀ w, Calls Try.prog 36 #[.agg #[.int .u8 op, .int .u8 A, .int .u8 B, .int .u8 C, .int .i32 imm]] w fun e w' => e = .returned (.tuple #[.int .u32 n, .int .i64 (0 : Nat)]) ∧ Below w.heap.size w w'))
    (hop : (op : Int) ≤ 19) (hA : A < 16) (hB : B < 16) (hC : C < 16) (_iA : (A : Int) < 16) (iB : (B : Int) < 16) (iC : (C : Int) < 16) (hr0 : r2 0 = 0)
    (HS : Hid (∀ (v : Value) (w : World), Strs w v [pageB [n], zeroB] → Calls Try.prog 33 #[.agg (cpuCells r 0), .agg (spCells oneS), v] w (StepPost ⟨r2, 4, [pageB [n], zeroB], 0, 0⟩ w)))
    (HT : Hid (∀ (v : Value) (w : World), Strs w v [pageB [n], zeroB] → Calls Try.prog 34 #[.agg (cpuCells r 0), .agg (spCells oneS), v] w (StepPost ⟨r2, 4, [pageB [n], zeroB], 0, 0⟩ w)))
    (hA0 : ((A : Int) == 0) = false) (h1 : ((op : Int) == 1) = false) (h4 : ((op : Int) == 4) = false) (h9 : ((op : Int) == 9) = false) (h11 : ((op : Int) == 11) = false) (h12 : ((op : Int) == 12) = false) :
    Calls Try.prog 11 #[.agg #[.int .u8 op, .int .u8 A, .int .u8 B, .int .u8 C, .int .i32 imm], .agg (cpuCells r pc)] w fun e w' => e = .returned (.bool true) ∧ Below w.heap.size w w' := by
  have HE := HE0
  go_enter Try.func11, Try.ntmps11
  go_wp2_with (first
    | (go_at_call 35; refine (same35 _ _ _ _ ((V5.out.alloc _).alloc _) ((L5.out.alloc _).alloc _) (by simp)).mono ?_; rintro e w6 ⟨rfl, hb⟩; obtain ⟨s1, s2, hb'⟩ := keep2 hb; have D6 := keep D5.out hb'; have C6 := keep C5.out hb'; have X6 := keep X5.out hb'; have B6 := Lib.hid (below_step B5.out hb'); clear hb hb' s1 s2 q1 q2 q3 q4 q5 q6 l1 l2 l3 l4; have q5 := cell_of_heap D6 (cpuCells_pc r2 4); have q6 := cell_of_heap D6 (cpuCells_get r2 4 0 (by decide)); rw [hr0] at q6; have q7 := cell_of_heap D6 (cpuCells_get r2 4 A hA); have hset := setCell_row C6; have hfr := frozen_row C6; have hc0 := cell_of_heap C6 (cpuCells_get r 0 0 (by decide)); have ho := rowOpen_of C6 17 (cpuCells_size _ _); have x0 := cell_of_heap X6 (show (#[Value.int .u8 op, .int .u8 A, .int .u8 B, .int .u8 C, .int .i32 imm] : Array Value)[0]? = some (.int .u8 op) from rfl); have x1 := cell_of_heap X6 (show (#[Value.int .u8 op, .int .u8 A, .int .u8 B, .int .u8 C, .int .i32 imm] : Array Value)[1]? = some (.int .u8 A) from rfl); have x2 := cell_of_heap X6 (show (#[Value.int .u8 op, .int .u8 A, .int .u8 B, .int .u8 C, .int .i32 imm] : Array Value)[2]? = some (.int .u8 B) from rfl); have x3 := cell_of_heap X6 (show (#[Value.int .u8 op, .int .u8 A, .int .u8 B, .int .u8 C, .int .i32 imm] : Array Value)[3]? = some (.int .u8 C) from rfl); have m1 := heap_lt C4.out; have m2 : w4.heap.size ≠ w.heap.size + 1 := (by omega); have m3 : w.heap.size ≠ w.heap.size + 1 := (by omega); have B7 := Lib.hid (below_setRow B6.out (show w.heap.size ≤ w.heap.size + 1 by omega) (cpuCells (upd r 0 0) 0)); clear m1 C6 D6 X6)
    | (go_at_call 34; refine (HT.out _ _ (((L4.out.alloc _).alloc _))).mono ?_; rintro e w5 ⟨hb, v5, rfl, hs⟩; obtain ⟨s1, s2, hb'⟩ := keep2 hb; have D5 := Lib.hid s1; have E5 := Lib.hid s2; have C5 := Lib.hid (keep C4.out hb'); have X5 := Lib.hid (keep X4.out hb'); have B5 := Lib.hid (below_step B4.out hb'); have V5 := Lib.hid (V4.out.mono hb'); have L5 := Lib.hid (L4.out.mono hb'); clear hb hb' hs q1 q2 q3 q4 l1 l2 l3 l4; obtain ⟨q1, q2⟩ := agg_facts s1 17 (cpuCells_size _ _); obtain ⟨q3, q4⟩ := agg_facts s2 2 rfl; have q5 := cell_of_heap s1 (cpuCells_pc r2 4); have q6 := cell_of_heap s1 (cpuCells_get r2 4 0 (by decide)); rw [hr0] at q6; have l1 := heap_lt s1; have l2 := heap_lt s2; have l3 := Nat.lt_add_one_of_lt l1; have l4 := Nat.lt_add_one_of_lt l2; clear s1 s2)
    | (go_at_call 33; have q0 := B3.out; clear q0; have hs' := (S3.out.setRow (cs' := cpuCells r 0) C3.out (cpu_ints2 _ _)).alloc (.cells (spCells oneS) 26); refine (HS.out _ _ hs').mono ?_; rintro e w4 ⟨hb, v4, rfl, hs⟩; obtain ⟨s1, hb'⟩ := keep1 hb; rw [size_setRow] at s1; have P4 := Lib.hid s1; have C4 := Lib.hid (keep (row_set2 (cs' := cpuCells r 0) C3.out) hb'); have X4 := Lib.hid (keep ((heap_setRow_other w3 (w.heap.size + 1) w.heap.size (cpuCells r 0) (by omega)).trans X3.out) hb'); have B4 := Lib.hid (below_step (below_setRow B3.out (by omega) (cpuCells r 0)) hb'); have V4 := Lib.hid hs; have L4 := Lib.hid ((S3.out.setRow (cs' := cpuCells r 0) C3.out (cpu_ints2 _ _)).mono hb'); clear hb hb' hs hs' s1 hset hfr hc16 ho hl hl2; obtain ⟨q1, q2⟩ := agg_facts C4.out 17 (cpuCells_size _ _); obtain ⟨q3, q4⟩ := agg_facts P4.out 48 (spCells_size _); have l1 := heap_lt C4.out; have l2 := heap_lt P4.out; have l3 := Nat.lt_add_one_of_lt l1; have l4 := Nat.lt_add_one_of_lt l2)
    | (go_at_call 37; refine (one37 op A B C imm _ n 0 hn HE0).mono ?_; rintro e w3 ⟨hb, v3, rfl, hs⟩; have X3 := Lib.hid (keep X2.out hb); have C3 := Lib.hid (keep C2.out hb); have B3 := Lib.hid (below_step B2.out hb); have S3 := Lib.hid hs; have hset := setCell_row (keep C2.out hb); have hfr := frozen_row (keep C2.out hb); have hc16 := cell_of_heap (keep C2.out hb) (cpuCells_pc r pc); have ho := rowOpen_of (keep C2.out hb) 17 (cpuCells_size _ _); have hl := heap_lt (keep C2.out hb); have hl2 := Nat.lt_add_one_of_lt hl; clear hb hs q1 q2 q3)
    | (go_at_call 36; have q0 := B1.out; clear q0; refine (HE.out _).mono ?_; rintro e w2 ⟨rfl, hb⟩; have X2 := Lib.hid (keep X1.out hb); have C2 := Lib.hid (keep C1.out hb); have B2 := Lib.hid (below_step B1.out hb); clear hb q1 q2 q3; obtain ⟨q1, q2⟩ := agg_facts X2.out 5 rfl; have q3 := cell_of_heap X2.out (show (#[Value.int .u8 op, .int .u8 A, .int .u8 B, .int .u8 C, .int .i32 imm] : Array Value)[0]? = some (.int .u8 op) from rfl))
    | (go_at_call 31; refine (alive31 _).mono ?_; rintro e w1 ⟨rfl, hb⟩; obtain ⟨s1, s2, hb'⟩ := keep2 hb; have X1 := Lib.hid s1; have C1 := Lib.hid s2; have B1 := Lib.hid hb'; clear hb hb' s1 s2; obtain ⟨q1, q2⟩ := agg_facts X1.out 5 rfl; have q3 := cell_of_heap X1.out (show (#[Value.int .u8 op, .int .u8 A, .int .u8 B, .int .u8 C, .int .i32 imm] : Array Value)[0]? = some (.int .u8 op) from rfl)))
  go_quiet (fail)
  go_wp2_with fail
  go_ret
  exact ⟨rfl, below_drewN B7.out _⟩
def In32V (n : Int) : Prop := 0 ≤ n ∧ n ≤ 4294967295
theorem in32V_wrap (x : Int) : In32V (IntKind.u32.wrap x) := by rw [IntKind.wrap_u32]; exact mod32 x
theorem alu_inV (op : Nat) (b c : Int) (hb : In32V b) (hc : In32V c) : In32V (alu op b c) := by
  have h01 : In32V 1 := ⟨by decide, by decide⟩
  have h00 : In32V 0 := ⟨by decide, by decide⟩
  unfold alu
  split
  · exact in32V_wrap _
  · exact in32V_wrap _
  · exact in32V_wrap _
  · split
    · exact ⟨by decide, by decide⟩
    · exact ⟨Int.ediv_nonneg hb.1 hc.1, Int.le_trans (Int.ediv_le_self _ hb.1) hb.2⟩
  · split
    · exact hb
    · rename_i h0
      have h1 := Int.emod_nonneg b h0
      have h2 := Int.emod_lt_of_pos b (show 0 < c by have := hc.1; omega)
      exact ⟨h1, by have := hc.2; omega⟩
  · exact in32V_wrap _
  · exact in32V_wrap _
  · exact in32V_wrap _
  · exact in32V_wrap _
  · have h1 : 1 ≤ (2 : Int) ^ (c % 32).toNat := (pow_lt (k := (c % 32).toNat) (by omega)).1
    exact ⟨Int.ediv_nonneg hb.1 (by omega), Int.le_trans (Int.ediv_le_self _ hb.1) hb.2⟩
  · exact in32V_wrap _
  · split
    · exact h01
    · exact h00
  · split
    · exact h01
    · exact h00

set_option maxRecDepth 20000 in
theorem open_ins {W : World} {base : Nat} {v : Value} (h : Value.okWide Try.prog W .any base 68 v) : ∃ (op A B C : Nat) (imm : Int), v = .agg #[.int .u8 op, .int .u8 A, .int .u8 B, .int .u8 C, .int .i32 imm] ∧ (Ins.mk op A B C imm).Ok := by
  obtain ⟨vs, rfl, hc⟩ := open_agg [5, 5, 5, 5, 21] Try.underlying68 rfl (by kernel_rfl) (by kernel_rfl) h
  match vs, hc with
  | [a, b, c, d, e], hc =>
    obtain ⟨a, rfl, a0, a1⟩ := cell_int Try.underlying5 hc.1
    obtain ⟨b, rfl, b0, b1⟩ := cell_int Try.underlying5 hc.2.1
    obtain ⟨c, rfl, c0, c1⟩ := cell_int Try.underlying5 hc.2.2.1
    obtain ⟨d, rfl, d0, d1⟩ := cell_int Try.underlying5 hc.2.2.2.1
    obtain ⟨e, rfl, e0, e1⟩ := cell_int Try.underlying21 hc.2.2.2.2.1
    obtain ⟨a, rfl⟩ := Int.eq_ofNat_of_zero_le a0
    obtain ⟨b, rfl⟩ := Int.eq_ofNat_of_zero_le b0
    obtain ⟨c, rfl⟩ := Int.eq_ofNat_of_zero_le c0
    obtain ⟨d, rfl⟩ := Int.eq_ofNat_of_zero_le d0
    have k1 : IntKind.u8.max = 255 := rfl
    have k2 : IntKind.i32.max = 2147483647 := rfl
    have k3 : IntKind.i32.min = -2147483648 := rfl
    rw [k1] at a1 b1 c1 d1
    rw [k2] at e1
    rw [k3] at e0
    exact ⟨a, b, c, d, e, rfl, by simp only; omega, by simp only; omega, by simp only; omega, by simp only; omega, by simp only; omega, by simp only; omega⟩

theorem ar_all (op A B C : Nat) (imm : Int) (r : Nat → Int) (pc : Int) (w : World) (ho : (Ins.mk op A B C imm).Ok) (hr : ROk r) :
    Calls Try.prog 11 #[.agg #[.int .u8 op, .int .u8 A, .int .u8 B, .int .u8 C, .int .i32 imm], .agg (cpuCells r pc)] w fun e w' => e = .returned (.bool true) ∧ Below w.heap.size w w' := by
  have hE := fun w => renc_any ⟨op, A, B, C, imm⟩ w ho
  rcases hm : menc ⟨op, A, B, C, imm⟩ with ⟨n, e⟩
  rw [hm] at hE
  by_cases he : e = 0
  · subst he
    by_cases hop : op ≤ 19
    · obtain ⟨hd, hn⟩ := dec_enc hm
      obtain ⟨⟨o1, _⟩, a1, b1, c1⟩ := mdec_facts hd
      simp only at o1 a1 b1 c1
      have h0 := rok0 hr
      have hstep := step_page [n] [zeroB] r 0 ⟨op, A, B, C, imm⟩ (by simp) (by simp) hm
      rw [show (4 * ((0 : Nat) : Int)) = 0 from rfl] at hstep
      obtain ⟨val, hval, hmx, hv1⟩ : ∃ val, In32V val ∧ mexec r 0 oneS [pageB [n], zeroB] ⟨op, A, B, C, imm⟩ = ⟨setR (upd r 0 0) A val, 4, [pageB [n], zeroB], 0, 0⟩ ∧ (op ≤ 13 → val = alu op (upd r 0 0 B) (upd r 0 0 C)) := by
        by_cases h13 : op ≤ 13
        · exact ⟨_, alu_inV op _ _ ⟨h0.lo B, h0.hi B⟩ ⟨h0.lo C, h0.hi C⟩, mexec_r h13, fun _ => rfl⟩
        · by_cases h18 : op ≤ 18
          · exact ⟨_, alu_inV _ _ _ ⟨h0.lo B, h0.hi B⟩ (mod32 imm), mexec_i (by omega) h18, fun h => absurd h h13⟩
          · obtain rfl : op = 19 := by omega
            exact ⟨_, mod32 _, mexec_lui, fun h => absurd h h13⟩
      rw [hmx] at hstep
      have hr2 : ROk (setR (upd r 0 0) A val) := rok0 (h0.upd A hval.1 hval.2)
      have hr20 : setR (upd r 0 0) A val 0 = 0 := setR_head _ _ _
      have hr2A : A ≠ 0 → setR (upd r 0 0) A val A = val := setR_at _ _ _
      generalize setR (upd r 0 0) A val = r2 at hstep hr2 hr20 hr2A
      have HS : ∀ (v : Value) (w : World), Strs w v [pageB [n], zeroB] → Calls Try.prog 33 #[.agg (cpuCells r 0), .agg (spCells oneS), v] w (StepPost ⟨r2, 4, [pageB [n], zeroB], 0, 0⟩ w) := fun v w hv => by
        rw [← hstep]
        exact step_any v _ oneS r 0 w hv (by simp) (by decide) (by decide) hr
      have HT : ∀ (v : Value) (w : World), Strs w v [pageB [n], zeroB] → Calls Try.prog 34 #[.agg (cpuCells r 0), .agg (spCells oneS), v] w (StepPost ⟨r2, 4, [pageB [n], zeroB], 0, 0⟩ w) := fun v w hv => by
        rw [← hstep]
        exact rstep_any v _ oneS r 0 w hv (by simp) (by decide) (by decide) hr
      have hA : A < 16 := by omega
      have hB : B < 16 := by omega
      have hC : C < 16 := by omega
      have iop : (op : Int) ≤ 19 := by omega
      by_cases hA0 : A = 0
      · exact ar_A0 op A B C imm r r2 pc w n hn hE iop hA hB hC (by omega) (by omega) (by omega) hr20 HS HT (by simpa using hA0)
      · have hA0' : ((A : Int) == 0) = false := by simpa using hA0
        have hv := hr2A hA0
        have b0 := h0.lo B
        have b1' := h0.hi B
        have c0 := h0.lo C
        have c1' := h0.hi C
        have d0 := hr2.lo A
        have d1 := hr2.hi A
        by_cases e1 : op = 1
        · subst e1
          refine ar_1 1 A B C imm r r2 pc w n hn hE iop hA hB hC (by omega) (by omega) (by omega) hr20 HS HT hA0' b0 b1' c0 c1' d0 d1 rfl ?_
          have := hv1 (by decide)
          rw [show alu 1 (upd r 0 0 B) (upd r 0 0 C) = IntKind.u32.wrap (upd r 0 0 B + upd r 0 0 C) from rfl, IntKind.wrap_u32] at this
          rw [Hid, beq_iff_eq, hv, this]
          omega
        · have n1 : ((op : Int) == 1) = false := by simp only [beq_eq_false_iff_ne, ne_eq]; omega
          by_cases e4 : op = 4
          · subst e4
            by_cases hz : upd r 0 0 C = 0
            · exact ar_4z 4 A B C imm r r2 pc w n hn hE iop hA hB hC (by omega) (by omega) (by omega) hr20 HS HT hA0' b0 b1' c0 c1' d0 d1 n1 rfl (by simpa using hz)
            · have := hv1 (by decide)
              rw [show alu 4 (upd r 0 0 B) (upd r 0 0 C) = if upd r 0 0 C = 0 then 4294967295 else upd r 0 0 B / upd r 0 0 C from rfl, if_neg hz] at this
              have hq1 : upd r 0 0 B / upd r 0 0 C * upd r 0 0 C ≤ upd r 0 0 B := Int.ediv_mul_le _ hz
              have hq2 : upd r 0 0 B < upd r 0 0 B / upd r 0 0 C * upd r 0 0 C + upd r 0 0 C := by
                have := Int.lt_ediv_add_one_mul_self (upd r 0 0 B) (show 0 < upd r 0 0 C by omega)
                rw [Int.add_mul, Int.one_mul] at this
                exact this
              have hq0 : 0 ≤ upd r 0 0 B / upd r 0 0 C * upd r 0 0 C := Int.mul_nonneg (Int.ediv_nonneg b0 c0) c0
              exact ar_4 4 A B C imm r r2 pc w n hn hE iop hA hB hC (by omega) (by omega) (by omega) hr20 HS HT hA0' b0 b1' c0 c1' d0 d1 n1 rfl (by simpa using hz) (upd r 0 0 B / upd r 0 0 C * upd r 0 0 C) (by rw [hv, this]) hq0 (by omega) hq1 hq2
          · have n4 : ((op : Int) == 4) = false := by simp only [beq_eq_false_iff_ne, ne_eq]; omega
            by_cases e9 : op = 9
            · subst e9
              refine ar_9 9 A B C imm r r2 pc w n hn hE iop hA hB hC (by omega) (by omega) (by omega) hr20 HS HT hA0' b0 b1' c0 c1' d0 d1 n1 n4 rfl ?_
              have := hv1 (by decide)
              rw [show alu 9 (upd r 0 0 B) (upd r 0 0 C) = IntKind.u32.wrap (upd r 0 0 B * 2 ^ (upd r 0 0 C % 32).toNat) from rfl, IntKind.wrap_u32] at this
              rw [Hid, beq_iff_eq, hv, this]
            · have n9 : ((op : Int) == 9) = false := by simp only [beq_eq_false_iff_ne, ne_eq]; omega
              by_cases e11 : op = 11
              · subst e11
                refine ar_11 11 A B C imm r r2 pc w n hn hE iop hA hB hC (by omega) (by omega) (by omega) hr20 HS HT hA0' b0 b1' c0 c1' d0 d1 n1 n4 n9 rfl ?_
                have := hv1 (by decide)
                rw [show alu 11 (upd r 0 0 B) (upd r 0 0 C) = IntKind.u32.wrap (wrap32 (upd r 0 0 B) / 2 ^ (upd r 0 0 C % 32).toNat) from rfl, IntKind.wrap_u32] at this
                rw [Hid, beq_iff_eq, hv, this]
              · have n11 : ((op : Int) == 11) = false := by simp only [beq_eq_false_iff_ne, ne_eq]; omega
                by_cases e12 : op = 12
                · subst e12
                  refine ar_12 12 A B C imm r r2 pc w n hn hE iop hA hB hC (by omega) (by omega) (by omega) hr20 HS HT hA0' b0 b1' c0 c1' d0 d1 n1 n4 n9 n11 rfl ?_
                  have := hv1 (by decide)
                  rw [show alu 12 (upd r 0 0 B) (upd r 0 0 C) = if wrap32 (upd r 0 0 B) < wrap32 (upd r 0 0 C) then 1 else 0 from rfl] at this
                  rw [Hid, hv, this]
                  split
                  · rename_i hlt
                    simp [hlt]
                  · rename_i hlt
                    simp [hlt]
                · have n12 : ((op : Int) == 12) = false := by simp only [beq_eq_false_iff_ne, ne_eq]; omega
                  exact ar_o op A B C imm r r2 pc w n hn hE iop hA hB hC (by omega) (by omega) (by omega) hr20 HS HT hA0' n1 n4 n9 n11 n12
    · exact ar_big op A B C imm r pc w n 0 hE rfl (by omega)
  · exact ar_err op A B C imm r pc w n e hE (by simp only [bne_iff_ne, ne_eq]; omega)
end Go.Proofs.Ytlhcggaeecjbcaa
