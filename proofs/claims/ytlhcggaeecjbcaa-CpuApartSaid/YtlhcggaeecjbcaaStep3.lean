/- The contracts of cpu.load and ref14's set. Condition: at most 100,000 frames. -/
import Derived.Test.YtlhcggaeecjbcaaStep2
import Derived.Deep.QuietTactic
import Derived.BigQuiet
namespace Go.Proofs.Ytlhcggaeecjbcaa
open Go.RowKit
section
attribute [local go_sem ↓] loadVar_26
attribute [local go_sem] run_load26 aggAt_new aggAt_past aggAt_drew rowAt_new rowAt_past rowAt_drew spCells_size

theorem i8_low (z : Int) (h0 : 0 ≤ z) (h1 : z ≤ 127) : IntKind.i8.wrap z = z := by simp only [IntKind.wrap, IntKind.bits, IntKind.signed]; simp; omega
theorem i8_high (z : Int) (h0 : 128 ≤ z) (h1 : z ≤ 255) : IntKind.i8.wrap z = z - 256 := by simp only [IntKind.wrap, IntKind.bits, IntKind.signed]; simp; omega
attribute [local go_sem] i8_low i8_high

set_option maxRecDepth 20000 in
set_option maxHeartbeats 1000000 in
theorem load55_20 (v : Value) (l : List ByteArray) (s : Nat → Pte) (a z : Int) (b : Bool) (w : World) (HV : Hid (Strs w v l)) (h0 : 0 ≤ a) (h1 : a ≤ 4294967295) (HM : Hid (loadOut (mload l s a 4) = .tuple #[.int .u32 z, .bool b])) :
    Calls Try.prog 55 #[.int .u8 20, .agg (spCells s), v, .int .u32 a] w fun e w' => e = .returned (.tuple #[.int .u32 z, .bool b]) ∧ Below w.heap.size w w' := by
  go_enter Try.func55, Try.ntmps55
  go_wp2_with (first
    | (go_at_call 25; refine (load_any _ l s a 4 _ (HV.out.alloc _) h0 h1).mono ?_; rw [HM.out]; rintro e w1 ⟨rfl, hb⟩; have HB := Lib.hid hb; clear hb))
  go_ret2
  exact ⟨rfl, ((Below.refl _ _).alloc (Nat.le_refl _) _).trans (HB.out.mono (by rw [alloc_size]; omega))⟩
set_option maxRecDepth 20000 in
set_option maxHeartbeats 1000000 in
theorem load55_22 (v : Value) (l : List ByteArray) (s : Nat → Pte) (a z : Int) (b : Bool) (w : World) (HV : Hid (Strs w v l)) (h0 : 0 ≤ a) (h1 : a ≤ 4294967295) (HM : Hid (loadOut (mload l s a 1) = .tuple #[.int .u32 z, .bool b])) :
    Calls Try.prog 55 #[.int .u8 22, .agg (spCells s), v, .int .u32 a] w fun e w' => e = .returned (.tuple #[.int .u32 z, .bool b]) ∧ Below w.heap.size w w' := by
  go_enter Try.func55, Try.ntmps55
  go_wp2_with (first
    | (go_at_call 25; refine (load_any _ l s a 1 _ (HV.out.alloc _) h0 h1).mono ?_; rw [HM.out]; rintro e w1 ⟨rfl, hb⟩; have HB := Lib.hid hb; clear hb))
  go_ret2
  exact ⟨rfl, ((Below.refl _ _).alloc (Nat.le_refl _) _).trans (HB.out.mono (by rw [alloc_size]; omega))⟩
set_option maxRecDepth 20000 in
set_option maxHeartbeats 1000000 in
theorem load55_21 (v : Value) (l : List ByteArray) (s : Nat → Pte) (a z : Int) (b : Bool) (w : World) (HV : Hid (Strs w v l)) (h0 : 0 ≤ a) (h1 : a ≤ 4294967295) (z0 : 0 ≤ z) (z1 : z ≤ 255) (HM : Hid (loadOut (mload l s a 1) = .tuple #[.int .u32 z, .bool b])) :
    Calls Try.prog 55 #[.int .u8 21, .agg (spCells s), v, .int .u32 a] w fun e w' => e = .returned (.tuple #[.int .u32 (if 128 ≤ z then z + 4294967040 else z), .bool b]) ∧ Below w.heap.size w w' := by
  by_cases hz : 128 ≤ z
  · rw [if_pos hz]
    go_enter Try.func55, Try.ntmps55
    go_wp2_with (first
      | (go_at_call 25; refine (load_any _ l s a 1 _ (HV.out.alloc _) h0 h1).mono ?_; rw [HM.out]; rintro e w1 ⟨rfl, hb⟩; have HB := Lib.hid hb; clear hb))
    go_ret2
    refine ⟨?_, ((Below.refl _ _).alloc (Nat.le_refl _) _).trans (HB.out.mono (by rw [alloc_size]; omega))⟩
    show Ending.returned (.tuple #[.int .u32 ((z - 256) % 4294967296), .bool b]) = _
    rw [show (z - 256) % 4294967296 = z + 4294967040 from by omega]
  · rw [if_neg hz]
    have hz' : z ≤ 127 := by omega
    go_enter Try.func55, Try.ntmps55
    go_wp2_with (first
      | (go_at_call 25; refine (load_any _ l s a 1 _ (HV.out.alloc _) h0 h1).mono ?_; rw [HM.out]; rintro e w1 ⟨rfl, hb⟩; have HB := Lib.hid hb; clear hb))
    go_ret2
    exact ⟨rfl, ((Below.refl _ _).alloc (Nat.le_refl _) _).trans (HB.out.mono (by rw [alloc_size]; omega))⟩
end
section
attribute [local go_sem ↓] loadVar_26 loadVar_58 loadVar_61 loadVar_68 storeVar_58 storeVar_61 storeVar_68
attribute [local go_sem] run_load26 run_load58 run_load61 run_load68 run_store58 run_store61 run_store68 aggAt_new aggAt_past aggAt_drew rowAt_new rowAt_past rowAt_drew rowOpen_new rowOpen_past rowOpen_drew aggAt_setRow_same aggAt_setRow_other rowAt_setRow_same rowAt_setRow_other rowOpen_setRow_same rowOpen_setRow_other setRow_made' setRow_drew' aggSet_agg aggAt_setCell_other aggAt_setCell_same rowAt_setCell_other rowAt_setCell_same rowOpen_setCell_other rowOpen_setCell_same spCells_size cpuCells_size cellS_other frozS_other cellS_same frozS_same cpuCells_get cpuCells_pc alloc_drewN setCell_drewN aggAt_drewN rowAt_drewN rowOpen_drewN setRow_drewN cpuCells_set cpuCells_setpc cpuCells_at cpuCells_at16 size_setRow
theorem results_cell1 {fn : Func} {t : Tmp} {ty : TypeId} {a : Addr} {v : Value} (h : fn.results = #[.cell t ty]) (tmps : Array Value) (w : World) (ht : tmps[t]? = some (.pointer (some a))) (hl : (loadVar ty a).run Try.prog w = .ok v w) :
    (results fn tmps).run Try.prog w = .ok v w := by
  simp [results, h, ht, hl, run_asAddr, Result.andThen]
theorem load58_two (w : World) (c : Array Value) (t : TypeId) (r : Nat → Int) (pc : Int) : (loadVar 58 ⟨w.heap.size + 1, 0, none⟩).run Try.prog ((w.alloc (.cells c t)).alloc (.cells (cpuCells r pc) 58)) = .ok (.agg (cpuCells r pc)) ((w.alloc (.cells c t)).alloc (.cells (cpuCells r pc) 58)) := by
  have h : ((w.alloc (.cells c t)).alloc (.cells (cpuCells r pc) 58)).heap[w.heap.size + 1]? = some (.cells (cpuCells r pc) 58) := by
    rw [← alloc_size w (.cells c t)]
    exact heap_alloc_new _ _
  have h2 := agg_facts h 17 (cpuCells_size r pc)
  have := run_load58 _ (w.heap.size + 1) h2.2
  rw [h2.1] at this
  exact this
def setC (r : Nat → Int) (a : Nat) (v : Int) : Nat → Int := if 0 < a then upd r a v else r
set_option maxRecDepth 20000 in
set_option maxHeartbeats 1000000 in
theorem set59_any (r : Nat → Int) (pc v : Int) (a : Nat) (w : World) (ha : a < 16) : Calls Try.prog 59 #[.agg (cpuCells r pc), .int .u8 a, .int .u32 v] w fun e w' => e = .returned (.agg (cpuCells (setC r a v) pc)) ∧ Below w.heap.size w w' := by
  have ia : (a : Int) < 16 := by omega
  by_cases h : 0 < a
  · have hs : setC r a v = upd r a v := if_pos h
    rw [hs]
    clear hs
    have hp : (0 : Int) < a := by omega
    go_enter Try.func59, Try.ntmps59
    go_wp2_with fail
    exact bodyPost_ret (results_cell1 rfl _ _ rfl (load58_two _ _ _ _ _)) rfl ⟨rfl, ((Below.refl _ _).alloc (Nat.le_refl _) _).alloc (by rw [alloc_size]; omega) _⟩
  · have hs : setC r a v = r := if_neg h
    obtain rfl : a = 0 := by omega
    rw [hs]
    clear hs h
    go_enter Try.func59, Try.ntmps59
    go_wp2_with fail
    exact bodyPost_ret (results_cell1 rfl _ _ rfl (load58_two _ _ _ _ _)) rfl ⟨rfl, ((Below.refl _ _).alloc (Nat.le_refl _) _).alloc (by rw [alloc_size]; omega) _⟩
end

/-- Behind a call that comes after the instruction is known: its four variables besides. -/
structure St4 (w0 : World) (r : Nat → Int) (pc : Int) (s : Nat → Pte) (m : Nat) (x : Array Value) (r1 : Nat → Int) (p1 : Int) (w : World) : Prop where
  st : St w0 r pc s w
  lt : w0.heap.size + 3 < m
  x : w.heap[m]? = some (.cells x 68)
  nx : w.heap[m + 1]? = some (.cells (cpuCells r1 p1) 58)
  ws : w.heap[m + 1 + 1]? = some (.cells (cpuCells r1 p1) 58)
  ev : w.heap[m + 1 + 1 + 1]? = some (.cells #[.int .i64 0, .int .u32 0] 61)
theorem St4.start {w0 w3 w4 : World} {r : Nat → Int} {pc : Int} {s : Nat → Pte} {x : Array Value} {r1 : Nat → Int} {p1 : Int} {k : Nat} (h : St w0 r pc s w3) (hlt : w0.heap.size + 3 < w3.heap.size)
    (hb : Below (((((w3.alloc (.cells x 68)).alloc (.cells (cpuCells r1 p1) 58)).alloc (.cells (cpuCells r1 p1) 58)).alloc (.cells #[.int .i64 0, .int .u32 0] 61)).drewN k).heap.size (((((w3.alloc (.cells x 68)).alloc (.cells (cpuCells r1 p1) 58)).alloc (.cells (cpuCells r1 p1) 58)).alloc (.cells #[.int .i64 0, .int .u32 0] 61)).drewN k) w4) : St4 w0 r pc s w3.heap.size x r1 p1 w4 := by
  have z1 := alloc_size w3 (.cells x 68)
  have z2 := alloc_size (w3.alloc (.cells x 68)) (.cells (cpuCells r1 p1) 58)
  have z3 := alloc_size ((w3.alloc (.cells x 68)).alloc (.cells (cpuCells r1 p1) 58)) (.cells (cpuCells r1 p1) 58)
  have z4 := alloc_size (((w3.alloc (.cells x 68)).alloc (.cells (cpuCells r1 p1) 58)).alloc (.cells (cpuCells r1 p1) 58)) (.cells #[.int .i64 0, .int .u32 0] 61)
  rw [World.heap_drewN] at hb
  refine ⟨h.step ((below_drewN (below_allocs _ _ _ _ _) k).trans (hb.mono (by omega))), hlt, ?_, ?_, ?_, ?_⟩
  · rw [hb.block _ (by omega), World.heap_drewN, heap_alloc_at _ _ _ (by omega), heap_alloc_at _ _ _ (by omega), heap_alloc_at _ _ _ (by omega)]
    exact heap_alloc_new _ _
  · rw [hb.block _ (by omega), World.heap_drewN, heap_alloc_at _ _ _ (by omega), heap_alloc_at _ _ _ (by omega), ← z1]
    exact heap_alloc_new _ _
  · rw [hb.block _ (by omega), World.heap_drewN, heap_alloc_at _ _ _ (by omega), show w3.heap.size + 1 + 1 = ((w3.alloc (.cells x 68)).alloc (.cells (cpuCells r1 p1) 58)).heap.size from by omega]
    exact heap_alloc_new _ _
  · rw [hb.block _ (by omega), World.heap_drewN, show w3.heap.size + 1 + 1 + 1 = (((w3.alloc (.cells x 68)).alloc (.cells (cpuCells r1 p1) 58)).alloc (.cells (cpuCells r1 p1) 58)).heap.size from by omega]
    exact heap_alloc_new _ _
theorem below_callN {w3 w4 : World} {a b c d : Obj} {k : Nat} (hb : Below (((((w3.alloc a).alloc b).alloc c).alloc d).drewN k).heap.size (((((w3.alloc a).alloc b).alloc c).alloc d).drewN k) w4) : Below w3.heap.size w3 w4 := by
  have z1 := alloc_size w3 a
  have z2 := alloc_size (w3.alloc a) b
  have z3 := alloc_size ((w3.alloc a).alloc b) c
  have z4 := alloc_size (((w3.alloc a).alloc b).alloc c) d
  rw [World.heap_drewN] at hb
  exact (below_drewN (below_allocs _ _ _ _ _) k).trans (hb.mono (by omega))
theorem setCell_row {w : World} {b : Nat} {cs : Array Value} {t : TypeId} (h : w.heap[b]? = some (.cells cs t)) (i : Nat) (x : Value) : w.setCell ⟨b, i, none⟩ x = w.setRow b (cs.setIfInBounds i x) := setCell_eq_setRow w b i cs t (0, 0) x h
theorem setRow_setCell (w : World) (b i n : Nat) (cs : Array Value) (x : Value) (h : rowOpen w b n = true) : (w.setRow b cs).setCell ⟨b, i, none⟩ x = w.setRow b (cs.setIfInBounds i x) := by
  obtain ⟨c0, t, hb, _⟩ := rowOpen_is h
  have h2 : (w.setRow b cs).heap[b]? = some (.cells cs t (0, 0)) := by rw [heap_setRow_same, hb]; rfl
  rw [setCell_row h2, setRow_setRow]
theorem setRow_two (w : World) (b : Nat) (c d : Array Value) : (w.setRow b c).setRow b d = w.setRow b d := setRow_setRow w b c d
theorem St4.facts {w0 w : World} {r : Nat → Int} {pc : Int} {s : Nat → Pte} {m : Nat} {x : Array Value} {r1 : Nat → Int} {p1 : Int} (h : St4 w0 r pc s m x r1 p1 w) :
    rowOpen w (m + 1) 17 = true ∧ aggAt w (m + 1) = .agg (cpuCells r1 p1) ∧ rowAt w (m + 1) 17 = true ∧ aggAt w (m + 1 + 1 + 1) = .agg #[.int .i64 0, .int .u32 0] ∧ rowAt w (m + 1 + 1 + 1) 2 = true ∧
    (∀ i x, w.setCell ⟨m + 1, i, none⟩ x = w.setRow (m + 1) ((cpuCells r1 p1).setIfInBounds i x)) ∧ (∀ i, i < 16 → w.cell? ⟨m + 1, i, none⟩ = some (.int .u32 (r1 i))) ∧ (∀ i, w.frozen? ⟨m + 1, i, none⟩ = false) ∧ (∀ i, w.cell? ⟨m, i, none⟩ = x[i]?) := by
  have h1 := agg_facts h.nx 17 (cpuCells_size r1 p1)
  have h2 := agg_facts h.ev 2 rfl
  refine ⟨rowOpen_of h.nx _ (cpuCells_size _ _), h1.1, h1.2, h2.1, h2.2, fun i x => setCell_row h.nx i x, fun i hi => cell_of_heap h.nx (cpuCells_get _ _ _ hi), fun i => ?_, fun i => ?_⟩
  · have := h.nx
    simp [World.frozen?, this]
  · have := h.x
    simp [World.cell?, this]
theorem St.setRow {w0 w : World} {r : Nat → Int} {pc : Int} {s : Nat → Pte} {m : Nat} {cs : Array Value} (h : St w0 r pc s w) (hm : w0.heap.size + 3 < m) : St w0 r pc s (w.setRow m cs) :=
  ⟨below_setRow h.below (by omega) _, (heap_setRow_other _ _ _ _ (by omega)).trans h.c, (heap_setRow_other _ _ _ _ (by omega)).trans h.s, (heap_setRow_other _ _ _ _ (by omega)).trans h.o, (heap_setRow_other _ _ _ _ (by omega)).trans h.e⟩
theorem St4.setNext {w0 w : World} {r : Nat → Int} {pc : Int} {s : Nat → Pte} {m : Nat} {x : Array Value} {r1 : Nat → Int} {p1 : Int} {cs : Array Value} (h : St4 w0 r pc s m x r1 p1 w) : St w0 r pc s (w.setRow (m + 1) cs) := h.st.setRow (by have := h.lt; omega)
theorem St4.strs {w0 w : World} {r : Nat → Int} {pc : Int} {s : Nat → Pte} {m : Nat} {x : Array Value} {r1 : Nat → Int} {p1 : Int} {cs : Array Value} {v : Value} {l : List ByteArray} (h : St4 w0 r pc s m x r1 p1 w) (hs : Strs w v l) : Strs (w.setRow (m + 1) cs) v l :=
  hs.setRow h.nx (by simp [cpuCells, isIntV])
theorem frozS17 (w : World) (b i : Nat) (cs : Array Value) (h : rowOpen w b 17 = true) : (w.setRow b cs).frozen? ⟨b, i, none⟩ = false := frozS_same w b i 17 cs h
theorem cellS17 (w : World) (b i : Nat) (cs : Array Value) (h : rowOpen w b 17 = true) : (w.setRow b cs).cell? ⟨b, i, none⟩ = cs[i]? := cellS_same w b i 17 cs h
theorem setRow_setCell17 (w : World) (b i : Nat) (cs : Array Value) (x : Value) (h : rowOpen w b 17 = true) : (w.setRow b cs).setCell ⟨b, i, none⟩ x = w.setRow b (cs.setIfInBounds i x) := setRow_setCell w b i 17 cs x h
theorem aggS17 (w : World) (b : Nat) (cs : Array Value) (h : rowOpen w b 17 = true) : aggAt (w.setRow b cs) b = .agg cs := aggAt_setRow_same w b 17 cs h
theorem rowS17 (w : World) (b m : Nat) (cs : Array Value) (h : rowOpen w b 17 = true) : rowAt (w.setRow b cs) b m = (cs.size == m) := rowAt_setRow_same w b m 17 cs h
theorem openS17 (w : World) (b m : Nat) (cs : Array Value) (h : rowOpen w b 17 = true) : rowOpen (w.setRow b cs) b m = (cs.size == m) := rowOpen_setRow_same w b m 17 cs h
theorem cpu00 (r : Nat → Int) (pc : Int) : cpuCells (upd (upd r 0 0) 0 0) pc = cpuCells (upd r 0 0) pc := by
  have : upd (upd r 0 0) 0 0 = upd r 0 0 := by funext k; unfold upd; split <;> rfl
  rw [this]
end Go.Proofs.Ytlhcggaeecjbcaa
