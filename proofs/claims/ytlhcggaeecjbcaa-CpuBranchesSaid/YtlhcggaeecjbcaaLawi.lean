/- The law CpuBranches, walked: the six calls. No condition. -/
import Derived.Test.YtlhcggaeecjbcaaLawh
namespace Go.Proofs.Ytlhcggaeecjbcaa
open Go.RowKit

def In32B (n : Int) : Prop := 0 ≤ n ∧ n ≤ 4294967295
theorem br_enc (op A B : Nat) (far : Int) (h1 : 25 ≤ op) (h2 : op ≤ 28) (hA : A ≤ 15) (hB : B ≤ 15) (f0 : -32768 ≤ far) (f1 : far ≤ 32767) : ∃ n, menc ⟨op, A, B, 0, far⟩ = (n, 0) := by
  have hf : opF op = 105 := opF_b ⟨h1, h2⟩
  have hp : plainB op = false := by
    have : op = 25 ∨ op = 26 ∨ op = 27 ∨ op = 28 := by omega
    rcases this with rfl | rfl | rfl | rfl <;> rfl
  have hb : ¬ argBad 105 ⟨op, A, B, 0, far⟩ := by rw [argBad_mk]; omega
  refine ⟨encW 105 ⟨op, A, B, 0, far⟩, (menc_false (x := ⟨op, A, B, 0, far⟩) hf (by decide) (by decide) hp).trans ?_⟩
  rw [if_neg hb, if_neg (by simp only; omega)]
theorem brR_ok {a b : Int} (ha : In32B a) (hb : In32B b) : ROk (brR a b) := by
  refine ⟨fun i => ?_, fun i => ?_⟩
  · unfold brR
    split
    · exact ha.1
    · split
      · exact hb.1
      · decide
  · unfold brR
    split
    · exact ha.2
    · split
      · exact hb.2
      · decide
/-- What the closure answers. -/
theorem br_call (op A B : Nat) (far a b : Int) (goes : Bool) (h1 : 25 ≤ op) (h2 : op ≤ 28) (hA : A ≤ 15) (hB : B ≤ 15) (f0 : -32768 ≤ far) (f1 : far ≤ 32767) (hf : far ≠ 0) (ha : In32B a) (hb : In32B b) (hg : goesB op (brR a b A) (brR a b B) = goes)
    (k5 k7 : Nat) (W : World) (H5 : W.heap[k5]? = some (.cells #[.int .i16 far] 81)) (H7 : W.heap[k7]? = some (.cells (cpuCells (brR a b) 0) 58)) :
    Calls Try.prog 40 #[.int .u8 op, .int .u8 A, .int .u8 B, .pointer (some ⟨k5, 0, none⟩), .pointer (some ⟨k7, 0, none⟩)] W fun e w' => e = .returned (.int .i64 (if goes then 1 else 0)) ∧ Below W.heap.size W w' := by
  obtain ⟨n, hn⟩ := br_enc op A B far h1 h2 hA hB f0 f1
  have hle := (dec_enc hn).2
  have HE : Hid (∀ w, Calls Try.prog 36 #[.agg #[.int .u8 op, .int .u8 A, .int .u8 B, .int .u8 (0 : Nat), .int .i32 far]] w fun e w' => e = .returned (.tuple #[.int .u32 n, .int .i64 (0 : Nat)]) ∧ Below w.heap.size w w') := fun w => by
    have := renc_any ⟨op, A, B, 0, far⟩ w ⟨by simp only; omega, by simp only; omega, by simp only; omega, by simp only; omega, by simp only; omega, by simp only; omega⟩
    rw [hn] at this
    exact this
  have hstep : mstep (brR a b) 0 oneS [pageB [n], zeroB] = ⟨brR a b, if goes then farTo far else 4, [pageB [n], zeroB], 0, 0⟩ := by
    have h := step_page [n] [zeroB] (brR a b) 0 ⟨op, A, B, 0, far⟩ (by simp) (by simp) hn
    rw [show (4 * ((0 : Nat) : Int)) = 0 from rfl] at h
    rw [h, mexec_b h1 h2, brR_zero, hg]
    rfl
  have hS : ∀ (v : Value) (w : World), Strs w v [pageB [n], zeroB] → Calls Try.prog 33 #[.agg (cpuCells (brR a b) 0), .agg (spCells oneS), v] w (StepPost ⟨brR a b, if goes then farTo far else 4, [pageB [n], zeroB], 0, 0⟩ w) := fun v w hv => by
    rw [← hstep]
    exact step_any v _ oneS (brR a b) 0 w hv (by simp) (by decide) (by decide) (brR_ok ha hb)
  cases goes with
  | false => exact br40_0 op A B far (brR a b) k5 k7 W n hle f0 f1 HE hS H5 H7
  | true =>
    have hne := farTo_ne hf f0 f1
    exact br40_1 op A B far (brR a b) (farTo far) k5 k7 W n (by simpa using hne) (by unfold farTo; simp) hle f0 f1 HE hS H5 H7
attribute [local go_sem ↓] storeVar_58
attribute [local go_sem] rowOpen_new rowOpen_past setRow_made' cpuCells_size
set_option maxRecDepth 20000 in
theorem run_store58_br (w : World) (b : Nat) (x y : Int) (h : rowOpen w b 17 = true) : (store58 ⟨b, 0, none⟩ (.agg #[.int .u32 0, .int .u32 x, .int .u32 y, .int .u32 0, .int .u32 0, .int .u32 0, .int .u32 0, .int .u32 0, .int .u32 0, .int .u32 0, .int .u32 0, .int .u32 0, .int .u32 0, .int .u32 0, .int .u32 0, .int .u32 0, .int .u32 0])).run Try.prog w = .ok () (w.setRow b (cpuCells (brR x y) 0)) := run_store58 w b (brR x y) 0 h
attribute [local go_sem] run_store58_br
/-- The closure's contract, at any two places. -/
def BrC (op A B : Nat) (far a b t : Int) : Prop := ∀ (k5 k7 : Nat) (W : World), W.heap[k5]? = some (.cells #[.int .i16 far] 81) → W.heap[k7]? = some (.cells (cpuCells (brR a b) 0) 58) →
    Calls Try.prog 40 #[.int .u8 op, .int .u8 A, .int .u8 B, .pointer (some ⟨k5, 0, none⟩), .pointer (some ⟨k7, 0, none⟩)] W fun e w' => e = .returned (.int .i64 t) ∧ Below W.heap.size W w'
def BrK (w0 : World) (far a b : Int) (k : Nat) (W : World) : Prop := W.heap[w0.heap.size]? = some (.cells #[.int .i16 far] 81) ∧ W.heap[k]? = some (.cells (cpuCells (brR a b) 0) 58) ∧ Below w0.heap.size w0 W
theorem BrK.step {w0 W W' : World} {far a b : Int} {k : Nat} (h : BrK w0 far a b k W) (hb : Below W.heap.size W W') : BrK w0 far a b k W' := ⟨keep h.1 hb, keep h.2.1 hb, below_step h.2.2 hb⟩

set_option maxRecDepth 20000 in
set_option maxHeartbeats 1000000 in
theorem br_zero (a b : Int) (w : World) : Calls Try.prog 15 #[.int .u32 a, .int .u32 b, .int .i16 0] w fun e w' => e = .returned (.bool true) ∧ Below w.heap.size w w' := by
  go_enter Try.func15, Try.ntmps15
  go_wp2_with (go_at_call 31; refine (alive31 _).mono ?_; rintro e w1 ⟨rfl, hb⟩; obtain ⟨s1, hb'⟩ := keep1 hb; have c5 := cell_of_heap s1 (show (#[Value.int .i16 0] : Array Value)[0]? = some (.int .i16 0) from rfl))
  go_ret
  exact ⟨rfl, hb'⟩

set_option maxRecDepth 20000 in
set_option maxHeartbeats 1000000 in
theorem br_same (a b far : Int) (w : World) (hf : (far == 0) = false) (hab : (a == b) = true) (T1 : Hid (BrC 25 1 2 far a b 1)) (T2 : Hid (BrC 26 1 2 far a b 0)) (T3 : Hid (BrC 27 1 2 far a b 0)) (T4 : Hid (BrC 27 2 1 far a b 0)) (T5 : Hid (BrC 28 1 2 far a b 0)) (T6 : Hid (BrC 28 2 1 far a b 0)) :
    Calls Try.prog 15 #[.int .u32 a, .int .u32 b, .int .i16 far] w fun e w' => e = .returned (.bool true) ∧ Below w.heap.size w w' := by
  go_enter Try.func15, Try.ntmps15
  go_wp2_with (first
    | (go_at_call 40; have q0 := HK5.out; refine (T6.out _ _ _ q0.1 q0.2.1).mono ?_; clear q0; rintro e W6 ⟨rfl, hb⟩; have HK6 := Lib.hid (BrK.step HK5.out hb); clear hb)
    | (go_at_call 40; have q0 := HK4.out; refine (T5.out _ _ _ q0.1 q0.2.1).mono ?_; clear q0; rintro e W5 ⟨rfl, hb⟩; have HK5 := Lib.hid (BrK.step HK4.out hb); clear hb)
    | (go_at_call 40; have q0 := HK3.out; refine (T4.out _ _ _ q0.1 q0.2.1).mono ?_; clear q0; rintro e W4 ⟨rfl, hb⟩; have HK4 := Lib.hid (BrK.step HK3.out hb); clear hb)
    | (go_at_call 40; have q0 := HK2.out; refine (T3.out _ _ _ q0.1 q0.2.1).mono ?_; clear q0; rintro e W3 ⟨rfl, hb⟩; have HK3 := Lib.hid (BrK.step HK2.out hb); clear hb)
    | (go_at_call 40; have q0 := HK1.out; refine (T2.out _ _ _ q0.1 q0.2.1).mono ?_; clear q0; rintro e W2 ⟨rfl, hb⟩; have HK2 := Lib.hid (BrK.step HK1.out hb); clear hb)
    | (go_at_call 40; refine (T1.out _ _ _ ((heap_alloc_at _ _ _ g1).trans G1.out) (heap_alloc_new _ _)).mono ?_; rintro e W2 ⟨rfl, hb⟩; have HK1 := Lib.hid (BrK.step (w0 := w) ⟨(heap_alloc_at _ _ _ g1).trans G1.out, heap_alloc_new _ _, HB1.out.alloc HB1.out.size _⟩ hb); clear hb)
    | (go_at_call 31; refine (alive31 _).mono ?_; rintro e w1 ⟨rfl, hb⟩; obtain ⟨s1, hb'⟩ := keep1 hb; have HB1 := Lib.hid hb'; have G1 := Lib.hid s1; have g1 := heap_lt s1; have c5 := cell_of_heap s1 (show (#[Value.int .i16 far] : Array Value)[0]? = some (.int .i16 far) from rfl); clear hb hb' s1))
  go_ret
  exact ⟨rfl, HK6.out.2.2⟩

set_option maxRecDepth 20000 in
set_option maxHeartbeats 1000000 in
theorem br_ll (a b far : Int) (w : World) (hf : (far == 0) = false) (hab : (a == b) = false) (T1 : Hid (BrC 25 1 2 far a b 0)) (T2 : Hid (BrC 26 1 2 far a b 1)) (T3 : Hid (BrC 27 1 2 far a b 1)) (T4 : Hid (BrC 27 2 1 far a b 0)) (T5 : Hid (BrC 28 1 2 far a b 1)) (T6 : Hid (BrC 28 2 1 far a b 0)) :
    Calls Try.prog 15 #[.int .u32 a, .int .u32 b, .int .i16 far] w fun e w' => e = .returned (.bool true) ∧ Below w.heap.size w w' := by
  go_enter Try.func15, Try.ntmps15
  go_wp2_with (first
    | (go_at_call 40; have q0 := HK5.out; refine (T6.out _ _ _ q0.1 q0.2.1).mono ?_; clear q0; rintro e W6 ⟨rfl, hb⟩; have HK6 := Lib.hid (BrK.step HK5.out hb); clear hb)
    | (go_at_call 40; have q0 := HK4.out; refine (T5.out _ _ _ q0.1 q0.2.1).mono ?_; clear q0; rintro e W5 ⟨rfl, hb⟩; have HK5 := Lib.hid (BrK.step HK4.out hb); clear hb)
    | (go_at_call 40; have q0 := HK3.out; refine (T4.out _ _ _ q0.1 q0.2.1).mono ?_; clear q0; rintro e W4 ⟨rfl, hb⟩; have HK4 := Lib.hid (BrK.step HK3.out hb); clear hb)
    | (go_at_call 40; have q0 := HK2.out; refine (T3.out _ _ _ q0.1 q0.2.1).mono ?_; clear q0; rintro e W3 ⟨rfl, hb⟩; have HK3 := Lib.hid (BrK.step HK2.out hb); clear hb)
    | (go_at_call 40; have q0 := HK1.out; refine (T2.out _ _ _ q0.1 q0.2.1).mono ?_; clear q0; rintro e W2 ⟨rfl, hb⟩; have HK2 := Lib.hid (BrK.step HK1.out hb); clear hb)
    | (go_at_call 40; refine (T1.out _ _ _ ((heap_alloc_at _ _ _ g1).trans G1.out) (heap_alloc_new _ _)).mono ?_; rintro e W2 ⟨rfl, hb⟩; have HK1 := Lib.hid (BrK.step (w0 := w) ⟨(heap_alloc_at _ _ _ g1).trans G1.out, heap_alloc_new _ _, HB1.out.alloc HB1.out.size _⟩ hb); clear hb)
    | (go_at_call 31; refine (alive31 _).mono ?_; rintro e w1 ⟨rfl, hb⟩; obtain ⟨s1, hb'⟩ := keep1 hb; have HB1 := Lib.hid hb'; have G1 := Lib.hid s1; have g1 := heap_lt s1; have c5 := cell_of_heap s1 (show (#[Value.int .i16 far] : Array Value)[0]? = some (.int .i16 far) from rfl); clear hb hb' s1))
  go_ret
  exact ⟨rfl, HK6.out.2.2⟩

set_option maxRecDepth 20000 in
set_option maxHeartbeats 1000000 in
theorem br_lg (a b far : Int) (w : World) (hf : (far == 0) = false) (hab : (a == b) = false) (T1 : Hid (BrC 25 1 2 far a b 0)) (T2 : Hid (BrC 26 1 2 far a b 1)) (T3 : Hid (BrC 27 1 2 far a b 1)) (T4 : Hid (BrC 27 2 1 far a b 0)) (T5 : Hid (BrC 28 1 2 far a b 0)) (T6 : Hid (BrC 28 2 1 far a b 1)) :
    Calls Try.prog 15 #[.int .u32 a, .int .u32 b, .int .i16 far] w fun e w' => e = .returned (.bool true) ∧ Below w.heap.size w w' := by
  go_enter Try.func15, Try.ntmps15
  go_wp2_with (first
    | (go_at_call 40; have q0 := HK5.out; refine (T6.out _ _ _ q0.1 q0.2.1).mono ?_; clear q0; rintro e W6 ⟨rfl, hb⟩; have HK6 := Lib.hid (BrK.step HK5.out hb); clear hb)
    | (go_at_call 40; have q0 := HK4.out; refine (T5.out _ _ _ q0.1 q0.2.1).mono ?_; clear q0; rintro e W5 ⟨rfl, hb⟩; have HK5 := Lib.hid (BrK.step HK4.out hb); clear hb)
    | (go_at_call 40; have q0 := HK3.out; refine (T4.out _ _ _ q0.1 q0.2.1).mono ?_; clear q0; rintro e W4 ⟨rfl, hb⟩; have HK4 := Lib.hid (BrK.step HK3.out hb); clear hb)
    | (go_at_call 40; have q0 := HK2.out; refine (T3.out _ _ _ q0.1 q0.2.1).mono ?_; clear q0; rintro e W3 ⟨rfl, hb⟩; have HK3 := Lib.hid (BrK.step HK2.out hb); clear hb)
    | (go_at_call 40; have q0 := HK1.out; refine (T2.out _ _ _ q0.1 q0.2.1).mono ?_; clear q0; rintro e W2 ⟨rfl, hb⟩; have HK2 := Lib.hid (BrK.step HK1.out hb); clear hb)
    | (go_at_call 40; refine (T1.out _ _ _ ((heap_alloc_at _ _ _ g1).trans G1.out) (heap_alloc_new _ _)).mono ?_; rintro e W2 ⟨rfl, hb⟩; have HK1 := Lib.hid (BrK.step (w0 := w) ⟨(heap_alloc_at _ _ _ g1).trans G1.out, heap_alloc_new _ _, HB1.out.alloc HB1.out.size _⟩ hb); clear hb)
    | (go_at_call 31; refine (alive31 _).mono ?_; rintro e w1 ⟨rfl, hb⟩; obtain ⟨s1, hb'⟩ := keep1 hb; have HB1 := Lib.hid hb'; have G1 := Lib.hid s1; have g1 := heap_lt s1; have c5 := cell_of_heap s1 (show (#[Value.int .i16 far] : Array Value)[0]? = some (.int .i16 far) from rfl); clear hb hb' s1))
  go_ret
  exact ⟨rfl, HK6.out.2.2⟩

set_option maxRecDepth 20000 in
set_option maxHeartbeats 1000000 in
theorem br_gl (a b far : Int) (w : World) (hf : (far == 0) = false) (hab : (a == b) = false) (T1 : Hid (BrC 25 1 2 far a b 0)) (T2 : Hid (BrC 26 1 2 far a b 1)) (T3 : Hid (BrC 27 1 2 far a b 0)) (T4 : Hid (BrC 27 2 1 far a b 1)) (T5 : Hid (BrC 28 1 2 far a b 1)) (T6 : Hid (BrC 28 2 1 far a b 0)) :
    Calls Try.prog 15 #[.int .u32 a, .int .u32 b, .int .i16 far] w fun e w' => e = .returned (.bool true) ∧ Below w.heap.size w w' := by
  go_enter Try.func15, Try.ntmps15
  go_wp2_with (first
    | (go_at_call 40; have q0 := HK5.out; refine (T6.out _ _ _ q0.1 q0.2.1).mono ?_; clear q0; rintro e W6 ⟨rfl, hb⟩; have HK6 := Lib.hid (BrK.step HK5.out hb); clear hb)
    | (go_at_call 40; have q0 := HK4.out; refine (T5.out _ _ _ q0.1 q0.2.1).mono ?_; clear q0; rintro e W5 ⟨rfl, hb⟩; have HK5 := Lib.hid (BrK.step HK4.out hb); clear hb)
    | (go_at_call 40; have q0 := HK3.out; refine (T4.out _ _ _ q0.1 q0.2.1).mono ?_; clear q0; rintro e W4 ⟨rfl, hb⟩; have HK4 := Lib.hid (BrK.step HK3.out hb); clear hb)
    | (go_at_call 40; have q0 := HK2.out; refine (T3.out _ _ _ q0.1 q0.2.1).mono ?_; clear q0; rintro e W3 ⟨rfl, hb⟩; have HK3 := Lib.hid (BrK.step HK2.out hb); clear hb)
    | (go_at_call 40; have q0 := HK1.out; refine (T2.out _ _ _ q0.1 q0.2.1).mono ?_; clear q0; rintro e W2 ⟨rfl, hb⟩; have HK2 := Lib.hid (BrK.step HK1.out hb); clear hb)
    | (go_at_call 40; refine (T1.out _ _ _ ((heap_alloc_at _ _ _ g1).trans G1.out) (heap_alloc_new _ _)).mono ?_; rintro e W2 ⟨rfl, hb⟩; have HK1 := Lib.hid (BrK.step (w0 := w) ⟨(heap_alloc_at _ _ _ g1).trans G1.out, heap_alloc_new _ _, HB1.out.alloc HB1.out.size _⟩ hb); clear hb)
    | (go_at_call 31; refine (alive31 _).mono ?_; rintro e w1 ⟨rfl, hb⟩; obtain ⟨s1, hb'⟩ := keep1 hb; have HB1 := Lib.hid hb'; have G1 := Lib.hid s1; have g1 := heap_lt s1; have c5 := cell_of_heap s1 (show (#[Value.int .i16 far] : Array Value)[0]? = some (.int .i16 far) from rfl); clear hb hb' s1))
  go_ret
  exact ⟨rfl, HK6.out.2.2⟩

set_option maxRecDepth 20000 in
set_option maxHeartbeats 1000000 in
theorem br_gg (a b far : Int) (w : World) (hf : (far == 0) = false) (hab : (a == b) = false) (T1 : Hid (BrC 25 1 2 far a b 0)) (T2 : Hid (BrC 26 1 2 far a b 1)) (T3 : Hid (BrC 27 1 2 far a b 0)) (T4 : Hid (BrC 27 2 1 far a b 1)) (T5 : Hid (BrC 28 1 2 far a b 0)) (T6 : Hid (BrC 28 2 1 far a b 1)) :
    Calls Try.prog 15 #[.int .u32 a, .int .u32 b, .int .i16 far] w fun e w' => e = .returned (.bool true) ∧ Below w.heap.size w w' := by
  go_enter Try.func15, Try.ntmps15
  go_wp2_with (first
    | (go_at_call 40; have q0 := HK5.out; refine (T6.out _ _ _ q0.1 q0.2.1).mono ?_; clear q0; rintro e W6 ⟨rfl, hb⟩; have HK6 := Lib.hid (BrK.step HK5.out hb); clear hb)
    | (go_at_call 40; have q0 := HK4.out; refine (T5.out _ _ _ q0.1 q0.2.1).mono ?_; clear q0; rintro e W5 ⟨rfl, hb⟩; have HK5 := Lib.hid (BrK.step HK4.out hb); clear hb)
    | (go_at_call 40; have q0 := HK3.out; refine (T4.out _ _ _ q0.1 q0.2.1).mono ?_; clear q0; rintro e W4 ⟨rfl, hb⟩; have HK4 := Lib.hid (BrK.step HK3.out hb); clear hb)
    | (go_at_call 40; have q0 := HK2.out; refine (T3.out _ _ _ q0.1 q0.2.1).mono ?_; clear q0; rintro e W3 ⟨rfl, hb⟩; have HK3 := Lib.hid (BrK.step HK2.out hb); clear hb)
    | (go_at_call 40; have q0 := HK1.out; refine (T2.out _ _ _ q0.1 q0.2.1).mono ?_; clear q0; rintro e W2 ⟨rfl, hb⟩; have HK2 := Lib.hid (BrK.step HK1.out hb); clear hb)
    | (go_at_call 40; refine (T1.out _ _ _ ((heap_alloc_at _ _ _ g1).trans G1.out) (heap_alloc_new _ _)).mono ?_; rintro e W2 ⟨rfl, hb⟩; have HK1 := Lib.hid (BrK.step (w0 := w) ⟨(heap_alloc_at _ _ _ g1).trans G1.out, heap_alloc_new _ _, HB1.out.alloc HB1.out.size _⟩ hb); clear hb)
    | (go_at_call 31; refine (alive31 _).mono ?_; rintro e w1 ⟨rfl, hb⟩; obtain ⟨s1, hb'⟩ := keep1 hb; have HB1 := Lib.hid hb'; have G1 := Lib.hid s1; have g1 := heap_lt s1; have c5 := cell_of_heap s1 (show (#[Value.int .i16 far] : Array Value)[0]? = some (.int .i16 far) from rfl); clear hb hb' s1))
  go_ret
  exact ⟨rfl, HK6.out.2.2⟩

theorem wrap32_inj {a b : Int} (ha : In32B a) (hb : In32B b) (h : wrap32 a = wrap32 b) : a = b := by
  unfold wrap32 at h
  obtain ⟨a0, a1⟩ := ha
  obtain ⟨b0, b1⟩ := hb
  omega
theorem br_T (op A B : Nat) (far a b t : Int) (goes : Bool) (h1 : 25 ≤ op) (h2 : op ≤ 28) (hA : A ≤ 15) (hB : B ≤ 15) (f0 : -32768 ≤ far) (f1 : far ≤ 32767) (hf : far ≠ 0) (ha : In32B a) (hb : In32B b) (hg : goesB op (brR a b A) (brR a b B) = goes) (ht : t = if goes then 1 else 0) : Hid (BrC op A B far a b t) := by
  subst ht
  exact fun k5 k7 W H5 H7 => br_call op A B far a b goes h1 h2 hA hB f0 f1 hf ha hb hg k5 k7 W H5 H7
theorem br_walk (a b far : Int) (w : World) (ha : In32B a) (hb : In32B b) (f0 : -32768 ≤ far) (f1 : far ≤ 32767) :
    Calls Try.prog 15 #[.int .u32 a, .int .u32 b, .int .i16 far] w fun e w' => e = .returned (.bool true) ∧ Below w.heap.size w w' := by
  by_cases hf : far = 0
  · subst hf
    exact br_zero a b w
  · have hf' : (far == 0) = false := by simpa using hf
    have T := fun op A B t goes h1 h2 hA hB hg ht => br_T op A B far a b t goes h1 h2 hA hB f0 f1 hf ha hb hg ht
    by_cases hab : a = b
    · subst hab
      exact br_same a a far w hf' (by simp) (T 25 1 2 1 true (by decide) (by decide) (by decide) (by decide) (by simp [goesB, brR]) rfl) (T 26 1 2 0 false (by decide) (by decide) (by decide) (by decide) (by simp [goesB, brR]) rfl)
        (T 27 1 2 0 false (by decide) (by decide) (by decide) (by decide) (by simp [goesB, brR]) rfl) (T 27 2 1 0 false (by decide) (by decide) (by decide) (by decide) (by simp [goesB, brR]) rfl)
        (T 28 1 2 0 false (by decide) (by decide) (by decide) (by decide) (by simp [goesB, brR]) rfl) (T 28 2 1 0 false (by decide) (by decide) (by decide) (by decide) (by simp [goesB, brR]) rfl)
    · have hab' : (a == b) = false := by simpa using hab
      have hw : wrap32 a ≠ wrap32 b := fun h => hab (wrap32_inj ha hb h)
      have t25 := T 25 1 2 0 false (by decide) (by decide) (by decide) (by decide) (by simp [goesB, brR, hab]) rfl
      have t26 := T 26 1 2 1 true (by decide) (by decide) (by decide) (by decide) (by simp [goesB, brR, hab]) rfl
      by_cases h1 : wrap32 a < wrap32 b
      · have n1 : ¬ wrap32 b < wrap32 a := by omega
        have t27 := T 27 1 2 1 true (by decide) (by decide) (by decide) (by decide) (by simp [goesB, brR, h1]) rfl
        have t27' := T 27 2 1 0 false (by decide) (by decide) (by decide) (by decide) (by simp [goesB, brR]; omega) rfl
        by_cases h2 : a < b
        · exact br_ll a b far w hf' hab' t25 t26 t27 t27' (T 28 1 2 1 true (by decide) (by decide) (by decide) (by decide) (by simp [goesB, brR, h2]) rfl) (T 28 2 1 0 false (by decide) (by decide) (by decide) (by decide) (by simp [goesB, brR]; omega) rfl)
        · have h3 : b < a := by omega
          exact br_lg a b far w hf' hab' t25 t26 t27 t27' (T 28 1 2 0 false (by decide) (by decide) (by decide) (by decide) (by simp [goesB, brR]; omega) rfl) (T 28 2 1 1 true (by decide) (by decide) (by decide) (by decide) (by simp [goesB, brR, h3]) rfl)
      · have n1 : wrap32 b < wrap32 a := by omega
        have t27 := T 27 1 2 0 false (by decide) (by decide) (by decide) (by decide) (by simp [goesB, brR]; omega) rfl
        have t27' := T 27 2 1 1 true (by decide) (by decide) (by decide) (by decide) (by simp [goesB, brR, n1]) rfl
        by_cases h2 : a < b
        · exact br_gl a b far w hf' hab' t25 t26 t27 t27' (T 28 1 2 1 true (by decide) (by decide) (by decide) (by decide) (by simp [goesB, brR, h2]) rfl) (T 28 2 1 0 false (by decide) (by decide) (by decide) (by decide) (by simp [goesB, brR]; omega) rfl)
        · have h3 : b < a := by omega
          exact br_gg a b far w hf' hab' t25 t26 t27 t27' (T 28 1 2 0 false (by decide) (by decide) (by decide) (by decide) (by simp [goesB, brR]; omega) rfl) (T 28 2 1 1 true (by decide) (by decide) (by decide) (by decide) (by simp [goesB, brR, h3]) rfl)
end Go.Proofs.Ytlhcggaeecjbcaa
