/- The contract of the statements' alive (law 14): true. No condition. -/
import Derived.Test.YtlhcggaeecjbcaaLawc
namespace Go.Proofs.Ytlhcggaeecjbcaa
open Go.RowKit
attribute [local go_sem ↓] loadVar_26 loadVar_58 loadVar_61 loadVar_68 storeVar_26 storeVar_58 storeVar_61 storeVar_68
attribute [local go_sem] run_load26 run_load58 run_load61 run_load68 run_store26_any run_store58 run_store61 run_store68 aggAt_new aggAt_past aggAt_drew rowAt_new rowAt_past rowAt_drew rowOpen_new rowOpen_past rowOpen_drew rowFree_new rowFree_past rowFree_drew setRow_made setRow_made' setRow_drew spCells_size cpuCells_size cpuCells_at cpuCells_at16 alloc_setRow

theorem keep {w w' : World} {b : Nat} {o : Obj} (h : w.heap[b]? = some o) (hb : Below w.heap.size w w') : w'.heap[b]? = some o := (hb.block _ (heap_lt h)).trans h
theorem setRow_self' {w : World} {g : Nat} {cur : Array Value} {t : TypeId} (hg : w.heap[g]? = some (.cells cur t)) : w.setRow g cur = w := setRow_self w g cur t (0, 0) hg
def al1 : Out := mstep (fun _ => 0) 0 oneS [pageB [939524096 + 4194304 * 1 + 65535], zeroB]
def al2 : Out := mstep (fun _ => 0) 0 oneS [pageB [268435456 + 4194304 * 1 + 262144 * 2], zeroB]
def al3 : Out := mstep (fun _ => 0) 2 oneS [pageB [268435456 + 4194304 * 1 + 262144 * 2], zeroB]
theorem al1_facts : al1.r 1 = 4294967295 ∧ al1.pc = 4 ∧ al1.kind = 0 ∧ al1.n = 0 ∧ al1.l.length = 2 := by refine ⟨?_, ?_, ?_, ?_, ?_⟩ <;> kernel_rfl
theorem al2_facts : al2.r 1 = 4294967295 ∧ al2.kind = 0 ∧ al2.n = 0 := by refine ⟨?_, ?_, ?_⟩ <;> kernel_rfl
theorem al3_facts : al3.kind = 2 ∧ al3.n = 2 := by refine ⟨?_, ?_⟩ <;> kernel_rfl
theorem men1 : menc ⟨14, 1, 0, 0, -1⟩ = (939524096 + 4194304 * 1 + 65535, 0) := by kernel_rfl
theorem men2 : menc ⟨4, 1, 2, 0, 0⟩ = (268435456 + 4194304 * 1 + 262144 * 2, 0) := by kernel_rfl
theorem al1_step : ∃ (r : Nat → Int) (pc : Int) (l : List ByteArray), (r 1 = 4294967295 ∧ pc = 4 ∧ l.length = 2) ∧ ∀ (v : Value) (w : World), Strs w v [pageB [939524096 + 4194304 * 1 + 65535], zeroB] →
    Calls Try.prog 33 #[.agg #[.int .u32 0, .int .u32 0, .int .u32 0, .int .u32 0, .int .u32 0, .int .u32 0, .int .u32 0, .int .u32 0, .int .u32 0, .int .u32 0, .int .u32 0, .int .u32 0, .int .u32 0, .int .u32 0, .int .u32 0, .int .u32 0, .int .u32 0], .agg (spCells oneS), v] w fun e w' => Below w.heap.size w w' ∧ ∃ v', e = .returned (.tuple #[.agg (cpuCells r pc), v', .agg #[.int .i64 0, .int .u32 0]]) ∧ Strs w' v' l := by
  refine ⟨al1.r, al1.pc, al1.l, ⟨al1_facts.1, al1_facts.2.1, al1_facts.2.2.2.2⟩, fun v w hv => ?_⟩
  have h := step_any v _ oneS (fun _ => 0) 0 w hv (by simp) (by decide) (by decide) ⟨fun _ => by decide, fun _ => by decide⟩
  refine h.mono ?_
  rintro e w' ⟨hb, v', rfl, hs⟩
  refine ⟨hb, v', ?_, hs⟩
  rw [show (mstep (fun _ => 0) 0 oneS [pageB [939524096 + 4194304 * 1 + 65535], zeroB]) = al1 from rfl, al1_facts.2.2.1, al1_facts.2.2.2.1]
theorem al2_step : ∃ (r : Nat → Int) (pc : Int) (l : List ByteArray), r 1 = 4294967295 ∧ ∀ (v : Value) (w : World), Strs w v [pageB [268435456 + 4194304 * 1 + 262144 * 2], zeroB] →
    Calls Try.prog 33 #[.agg #[.int .u32 0, .int .u32 0, .int .u32 0, .int .u32 0, .int .u32 0, .int .u32 0, .int .u32 0, .int .u32 0, .int .u32 0, .int .u32 0, .int .u32 0, .int .u32 0, .int .u32 0, .int .u32 0, .int .u32 0, .int .u32 0, .int .u32 0], .agg (spCells oneS), v] w fun e w' => Below w.heap.size w w' ∧ ∃ v', e = .returned (.tuple #[.agg (cpuCells r pc), v', .agg #[.int .i64 0, .int .u32 0]]) ∧ Strs w' v' l := by
  refine ⟨al2.r, al2.pc, al2.l, al2_facts.1, fun v w hv => ?_⟩
  have h := step_any v _ oneS (fun _ => 0) 0 w hv (by simp) (by decide) (by decide) ⟨fun _ => by decide, fun _ => by decide⟩
  refine h.mono ?_
  rintro e w' ⟨hb, v', rfl, hs⟩
  refine ⟨hb, v', ?_, hs⟩
  rw [show (mstep (fun _ => 0) 0 oneS [pageB [268435456 + 4194304 * 1 + 262144 * 2], zeroB]) = al2 from rfl, al2_facts.2.1, al2_facts.2.2]
theorem al3_step : ∃ (r : Nat → Int) (pc : Int) (l : List ByteArray), True ∧ ∀ (v : Value) (w : World), Strs w v [pageB [268435456 + 4194304 * 1 + 262144 * 2], zeroB] →
    Calls Try.prog 33 #[.agg #[.int .u32 0, .int .u32 0, .int .u32 0, .int .u32 0, .int .u32 0, .int .u32 0, .int .u32 0, .int .u32 0, .int .u32 0, .int .u32 0, .int .u32 0, .int .u32 0, .int .u32 0, .int .u32 0, .int .u32 0, .int .u32 0, .int .u32 2], .agg (spCells oneS), v] w fun e w' => Below w.heap.size w w' ∧ ∃ v', e = .returned (.tuple #[.agg (cpuCells r pc), v', .agg #[.int .i64 2, .int .u32 2]]) ∧ Strs w' v' l := by
  refine ⟨al3.r, al3.pc, al3.l, trivial, fun v w hv => ?_⟩
  have h := step_any v _ oneS (fun _ => 0) 2 w hv (by simp) (by decide) (by decide) ⟨fun _ => by decide, fun _ => by decide⟩
  refine h.mono ?_
  rintro e w' ⟨hb, v', rfl, hs⟩
  refine ⟨hb, v', ?_, hs⟩
  rw [show (mstep (fun _ => 0) 2 oneS [pageB [268435456 + 4194304 * 1 + 262144 * 2], zeroB]) = al3 from rfl, al3_facts.1, al3_facts.2]

theorem keep2 {w w' : World} {a b : Obj} (hb : Below ((w.alloc a).alloc b).heap.size ((w.alloc a).alloc b) w') : w'.heap[w.heap.size]? = some a ∧ w'.heap[w.heap.size + 1]? = some b ∧ Below w.heap.size w w' := by
  have z1 := alloc_size w a
  have z2 := alloc_size (w.alloc a) b
  refine ⟨?_, ?_, (((Below.refl _ _).alloc (Nat.le_refl _) a).alloc (by omega) b).trans (hb.mono (by omega))⟩
  · rw [hb.block _ (by omega), heap_alloc_at _ _ _ (by omega)]
    exact heap_alloc_new _ _
  · rw [hb.block _ (by omega), ← z1]
    exact heap_alloc_new _ _
theorem keep1 {w w' : World} {a : Obj} (hb : Below (w.alloc a).heap.size (w.alloc a) w') : w'.heap[w.heap.size]? = some a ∧ Below w.heap.size w w' := by
  have z1 := alloc_size w a
  refine ⟨?_, ((Below.refl _ _).alloc (Nat.le_refl _) a).trans (hb.mono (by omega))⟩
  rw [hb.block _ (by omega)]
  exact heap_alloc_new _ _
theorem below_two (w : World) (a b : Obj) : Below w.heap.size w ((w.alloc a).alloc b) := ((Below.refl _ _).alloc (Nat.le_refl _) a).alloc (by rw [alloc_size]; omega) b
theorem freeOf {w : World} {b : Nat} {cs : Array Value} {t : TypeId} (h : w.heap[b]? = some (.cells cs t)) (n : Nat) (hn : cs.size = n) : rowFree w b n = true := rowOpen_of h n hn

set_option maxRecDepth 20000 in
set_option maxHeartbeats 1000000 in
theorem alive31 (w : World) : Calls Try.prog 31 #[] w fun e w' => e = .returned (.bool true) ∧ Below w.heap.size w w' := by
  obtain ⟨r1, p1, l1, ⟨a1, a2, a3⟩, S1⟩ := al1_step
  obtain ⟨r2, p2, l2, b1, S2⟩ := al2_step
  obtain ⟨r3, p3, l3, -, S3⟩ := al3_step
  subst a2
  have T1 := Lib.hid S1
  have T2 := Lib.hid S2
  have T3 := Lib.hid S3
  clear S1 S2 S3
  have E1 : Hid (∀ w, Calls Try.prog 36 #[.agg #[.int .u8 (14 : Nat), .int .u8 (1 : Nat), .int .u8 (0 : Nat), .int .u8 (0 : Nat), .int .i32 (-1)]] w fun e w' => e = .returned (.tuple #[.int .u32 (939524096 + 4194304 * 1 + 65535 : Nat), .int .i64 (0 : Nat)]) ∧ Below w.heap.size w w') := fun w => by
    have := renc_any ⟨14, 1, 0, 0, -1⟩ w ⟨by decide, by decide, by decide, by decide, by decide, by decide⟩
    rw [men1] at this
    exact this
  have E2 : Hid (∀ w, Calls Try.prog 36 #[.agg #[.int .u8 (4 : Nat), .int .u8 (1 : Nat), .int .u8 (2 : Nat), .int .u8 (0 : Nat), .int .i32 0]] w fun e w' => e = .returned (.tuple #[.int .u32 (268435456 + 4194304 * 1 + 262144 * 2 : Nat), .int .i64 (0 : Nat)]) ∧ Below w.heap.size w w') := fun w => by
    have := renc_any ⟨4, 1, 2, 0, 0⟩ w ⟨by decide, by decide, by decide, by decide, by decide, by decide⟩
    rw [men2] at this
    exact this
  have z1 : 939524096 + 4194304 * 1 + 65535 ≤ 4294967295 := by decide
  have z2 : 268435456 + 4194304 * 1 + 262144 * 2 ≤ 4294967295 := by decide
  generalize 939524096 + 4194304 * 1 + 65535 = N1 at T1 E1 z1
  generalize 268435456 + 4194304 * 1 + 262144 * 2 = N2 at T2 T3 E2 z2
  go_enter Try.func31, Try.ntmps31
  go_wp2_with (first
    | (go_at_call 33; refine (T3.out v3 _ ((HS4.out.alloc _).alloc _)).mono ?_; rintro e w5 ⟨hb, v5, rfl, hs⟩; obtain ⟨s1, s2, hb'⟩ := keep2 hb; have s3 := keep C4.out hb'; have s4 := keep F4.out hb'; have HB5 := Lib.hid (below_step HB4.out hb'); have x1 := cell_of_heap s3 (cpuCells_get r1 4 1 (by decide)); have x2 := cell_of_heap s3 (cpuCells_pc r1 4); have x3 := cell_of_heap s1 (cpuCells_get r2 p2 1 (by decide)); rw [a1] at x1; rw [b1] at x3; obtain ⟨y1, y2⟩ := agg_facts s2 2 rfl; obtain ⟨y3, y4⟩ := agg_facts s4 2 rfl; have l1' := heap_lt s1; have l2' := heap_lt s2; have l3' := heap_lt s3; have l4' := heap_lt s4; have l5' := Nat.lt_add_one_of_lt l1'; have l6' := Nat.lt_add_one_of_lt l3'; clear g1 g2 g3 g4 hs hb hb' s1 s2 s3 s4)
    | (go_at_call 33; refine (T2.out v3 _ HS3.out).mono ?_; rintro e w4 ⟨hb, v4, rfl, hs⟩; have C4 := Lib.hid (keep C3.out hb); have F4 := Lib.hid (keep F3.out hb); have G4 := Lib.hid (keep G3.out hb); have HS4 := Lib.hid (HS3.out.mono hb); have HB4 := Lib.hid (below_step HB3.out hb); clear hs hb g1 g2 g3 hself hfr; obtain ⟨g1, g2⟩ := agg_facts G4.out 48 (spCells_size _); have g3 := heap_lt G4.out; have g4 := Nat.lt_add_one_of_lt g3)
    | (go_at_call 37; have q0 := HB2.out; clear q0; refine (one37 4 1 2 0 0 _ N2 0 z2 E2).mono ?_; rintro e w3 ⟨hb, v3, rfl, hs⟩; obtain ⟨s1, s2, hb'⟩ := keep2 hb; have s3 := keep G2.out hb'; have HS3 := Lib.hid hs; have C3 := Lib.hid s1; have F3 := Lib.hid s2; have G3 := Lib.hid s3; have HB3 := Lib.hid (below_step HB2.out hb'); have hself := setRow_self' s3; have hfr := freeOf s3 48 (spCells_size _); clear hs hb hb' s1 s2 s3 g1 g2 g3; obtain ⟨g1, g2⟩ := agg_facts G3.out 48 (spCells_size _); have g3 := heap_lt G3.out)
    | (go_at_call 33; refine (T1.out v1 _ (HS1.out.alloc _)).mono ?_; rintro e w2 ⟨hb, v2, rfl, hs⟩; obtain ⟨s1, hb'⟩ := keep1 hb; obtain ⟨c2, k2, he, -⟩ := hs.ex; rw [a3] at he; subst he; have G2 := Lib.hid s1; have HB2 := Lib.hid (below_step HB1.out hb'); obtain ⟨g1, g2⟩ := agg_facts s1 48 (spCells_size _); have g3 := heap_lt s1; clear hs hb hb' s1)
    | (go_at_call 37; refine (one37 14 1 0 0 (-1) w N1 0 z1 E1).mono ?_; rintro e w1 ⟨hb, v1, rfl, hs⟩; have HS1 := Lib.hid hs; have HB1 := Lib.hid hb; clear hs hb))
  go_ret
  exact ⟨rfl, below_step HB5.out (below_two _ _ _)⟩
end Go.Proofs.Ytlhcggaeecjbcaa
