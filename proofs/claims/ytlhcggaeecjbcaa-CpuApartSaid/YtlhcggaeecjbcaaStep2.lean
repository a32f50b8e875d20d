/- The worlds of a step of a cpu: what lies in its four variables. No condition. -/
import Derived.Test.YtlhcggaeecjbcaaStep1
import Derived.StillTailTactics
namespace Go.Proofs.Ytlhcggaeecjbcaa
open Go.RowKit

/-- Behind the calls of a step: its own cpu and space as they came, the results' variables open. -/
structure St (w0 : World) (r : Nat → Int) (pc : Int) (s : Nat → Pte) (w : World) : Prop where
  below : Below w0.heap.size w0 w
  c : w.heap[w0.heap.size]? = some (.cells (cpuCells r pc) 58)
  s : w.heap[w0.heap.size + 1]? = some (.cells (spCells s) 26)
  o : w.heap[w0.heap.size + 2]? = some (.cells (cpuCells (fun _ => 0) 0) 58)
  e : w.heap[w0.heap.size + 3]? = some (.cells #[.int .i64 0, .int .u32 0] 61)
theorem St.step {w0 w w' : World} {r : Nat → Int} {pc : Int} {s : Nat → Pte} (h : St w0 r pc s w) (hb : Below w.heap.size w w') : St w0 r pc s w' := by
  exact ⟨below_step h.below hb, (hb.block _ (heap_lt h.c)).trans h.c, (hb.block _ (heap_lt h.s)).trans h.s, (hb.block _ (heap_lt h.o)).trans h.o, (hb.block _ (heap_lt h.e)).trans h.e⟩
theorem St.facts {w0 w : World} {r : Nat → Int} {pc : Int} {s : Nat → Pte} (h : St w0 r pc s w) :
    aggAt w w0.heap.size = .agg (cpuCells r pc) ∧ rowAt w w0.heap.size 17 = true ∧ aggAt w (w0.heap.size + 1) = .agg (spCells s) ∧ rowAt w (w0.heap.size + 1) 48 = true ∧
    rowOpen w (w0.heap.size + 1 + 1) 17 = true ∧ rowOpen w (w0.heap.size + 1 + 1 + 1) 2 = true ∧ w.cell? ⟨w0.heap.size, 16, none⟩ = some (.int .u32 pc) ∧ w0.heap.size + 3 < w.heap.size := by
  have h1 := agg_facts h.c 17 (cpuCells_size r pc)
  have h2 := agg_facts h.s 48 (spCells_size s)
  exact ⟨h1.1, h1.2, h2.1, h2.2, rowOpen_of h.o _ (cpuCells_size _ _), rowOpen_of h.e _ rfl, cell_of_heap h.c (cpuCells_pc r pc), heap_lt h.e⟩
theorem heap_alloc_at (w : World) (o : Obj) (k : Nat) (h : k < w.heap.size) : (w.alloc o).heap[k]? = w.heap[k]? := Below.heap_alloc w o k h
theorem St.start {w0 w : World} {r : Nat → Int} {pc : Int} {s : Nat → Pte} {co ce : Array Value} (ho : co = cpuCells (fun _ => 0) 0) (he : ce = #[.int .i64 0, .int .u32 0])
    (hb : Below ((((w0.alloc (.cells (cpuCells r pc) 58)).alloc (.cells (spCells s) 26)).alloc (.cells co 58)).alloc (.cells ce 61)).heap.size ((((w0.alloc (.cells (cpuCells r pc) 58)).alloc (.cells (spCells s) 26)).alloc (.cells co 58)).alloc (.cells ce 61)) w) : St w0 r pc s w := by
  subst ho he
  have z1 := alloc_size w0 (.cells (cpuCells r pc) 58)
  have z2 := alloc_size (w0.alloc (.cells (cpuCells r pc) 58)) (.cells (spCells s) 26)
  have z3 := alloc_size ((w0.alloc (.cells (cpuCells r pc) 58)).alloc (.cells (spCells s) 26)) (.cells (cpuCells (fun _ => 0) 0) 58)
  have z4 := alloc_size (((w0.alloc (.cells (cpuCells r pc) 58)).alloc (.cells (spCells s) 26)).alloc (.cells (cpuCells (fun _ => 0) 0) 58)) (.cells #[.int .i64 0, .int .u32 0] 61)
  refine ⟨((((((Below.refl _ _).alloc (Nat.le_refl _) _).alloc (by omega) _).alloc (by omega) _).alloc (by omega) _)).trans (hb.mono (by omega)), ?_, ?_, ?_, ?_⟩
  · rw [hb.block _ (by omega), heap_alloc_at _ _ _ (by omega), heap_alloc_at _ _ _ (by omega), heap_alloc_at _ _ _ (by omega)]
    exact heap_alloc_new _ _
  · rw [hb.block _ (by omega), heap_alloc_at _ _ _ (by omega), heap_alloc_at _ _ _ (by omega), ← z1]
    exact heap_alloc_new _ _
  · rw [hb.block _ (by omega), heap_alloc_at _ _ _ (by omega), show w0.heap.size + 2 = ((w0.alloc (.cells (cpuCells r pc) 58)).alloc (.cells (spCells s) 26)).heap.size from by omega]
    exact heap_alloc_new _ _
  · rw [hb.block _ (by omega), show w0.heap.size + 3 = (((w0.alloc (.cells (cpuCells r pc) 58)).alloc (.cells (spCells s) 26)).alloc (.cells (cpuCells (fun _ => 0) 0) 58)).heap.size from by omega]
    exact heap_alloc_new _ _
theorem cellS_other (w : World) (b c i : Nat) (cs : Array Value) (h : c ≠ b) : (w.setRow b cs).cell? ⟨c, i, none⟩ = w.cell? ⟨c, i, none⟩ := by
  simp only [World.cell?, heap_setRow_other w b c cs h]
theorem frozS_other (w : World) (b c i : Nat) (cs : Array Value) (h : c ≠ b) : (w.setRow b cs).frozen? ⟨c, i, none⟩ = w.frozen? ⟨c, i, none⟩ := by
  simp only [World.frozen?, heap_setRow_other w b c cs h]
theorem cellS_same (w : World) (b i n : Nat) (cs : Array Value) (h : rowOpen w b n = true) : (w.setRow b cs).cell? ⟨b, i, none⟩ = cs[i]? := by
  obtain ⟨c0, t, hb, _⟩ := rowOpen_is h
  simp [World.cell?, heap_setRow_same, hb]
theorem frozS_same (w : World) (b i n : Nat) (cs : Array Value) (h : rowOpen w b n = true) : (w.setRow b cs).frozen? ⟨b, i, none⟩ = false := by
  obtain ⟨c0, t, hb, _⟩ := rowOpen_is h
  simp [World.frozen?, heap_setRow_same, hb]
theorem four_ne (n : Nat) : n ≠ n + 1 ∧ n ≠ n + 1 + 1 ∧ n ≠ n + 1 + 1 + 1 ∧ n + 1 ≠ n ∧ n + 1 ≠ n + 1 + 1 ∧ n + 1 ≠ n + 1 + 1 + 1 ∧ n + 1 + 1 ≠ n ∧ n + 1 + 1 ≠ n + 1 ∧ n + 1 + 1 ≠ n + 1 + 1 + 1 ∧ n + 1 + 1 + 1 ≠ n ∧ n + 1 + 1 + 1 ≠ n + 1 ∧ n + 1 + 1 + 1 ≠ n + 1 + 1 := by omega
theorem four_lt {n m : Nat} (h : n + 3 < m) : n < m ∧ n + 1 < m ∧ n + 1 + 1 < m ∧ n + 1 + 1 + 1 < m ∧ n < m + 1 ∧ n + 1 < m + 1 ∧ n + 1 + 1 < m + 1 ∧ n + 1 + 1 + 1 < m + 1 ∧ n < m + 1 + 1 ∧ n + 1 < m + 1 + 1 ∧ n + 1 + 1 < m + 1 + 1 ∧ n + 1 + 1 + 1 < m + 1 + 1 := by omega
theorem far_ne {n m : Nat} (h : n + 3 < m) : m ≠ n ∧ m ≠ n + 1 ∧ m ≠ n + 1 + 1 ∧ m ≠ n + 1 + 1 + 1 ∧ m + 1 ≠ n ∧ m + 1 + 1 ≠ n ∧ m + 1 + 1 + 1 ≠ n ∧ n ≠ m ∧ n + 1 ≠ m ∧ n + 1 + 1 ≠ m ∧ n + 1 + 1 + 1 ≠ m := by omega
theorem below_allocs (w : World) (a b c d : Obj) : Below w.heap.size w ((((w.alloc a).alloc b).alloc c).alloc d) := by
  have z1 := alloc_size w a
  have z2 := alloc_size (w.alloc a) b
  have z3 := alloc_size ((w.alloc a).alloc b) c
  exact ((((Below.refl _ _).alloc (Nat.le_refl _) _).alloc (by omega) _).alloc (by omega) _).alloc (by omega) _
def StepPost (o : Out) (w : World) (e : Ending) (w' : World) : Prop :=
  Below w.heap.size w w' ∧ ∃ v, e = .returned (.tuple #[.agg (cpuCells o.r o.pc), v, .agg #[.int .i64 o.kind, .int .u32 o.n]]) ∧ Strs w' v o.l
theorem aggAt_drewN (w : World) (k n : Nat) : aggAt (w.drewN k) n = aggAt w n := rfl
theorem rowAt_drewN (w : World) (k n m : Nat) : rowAt (w.drewN k) n m = rowAt w n m := rfl
theorem rowOpen_drewN (w : World) (k n m : Nat) : rowOpen (w.drewN k) n m = rowOpen w n m := rfl
theorem setRow_drewN (w : World) (k b : Nat) (cs : Array Value) : (w.drewN k).setRow b cs = (w.setRow b cs).drewN k := rfl
theorem alloc_drewN (w : World) (k : Nat) (o : Obj) : (w.drewN k).alloc o = (w.alloc o).drewN k := rfl
theorem setCell_drewN (w : World) (k : Nat) (a : Addr) (v : Value) : (w.drewN k).setCell a v = (w.setCell a v).drewN k := rfl
theorem out_load58 (k : Nat) (w : World) (b c : Nat) (cs ev : Array Value) (h : rowOpen w b 17 = true) (hc : cs.size = 17) (hne : b ≠ c) :
    (loadVar 58 ⟨b, 0, none⟩).run Try.prog (((w.setRow b cs).setRow c ev).drewN k) = .ok (.agg cs) (((w.setRow b cs).setRow c ev).drewN k) := by
  have := run_load58 (((w.setRow b cs).setRow c ev).drewN k) b (by rw [rowAt_drewN, rowAt_setRow_other _ _ _ _ _ hne, rowAt_setRow_same w b 17 17 cs h]; simp [hc])
  rw [aggAt_drewN, aggAt_setRow_other _ _ _ _ hne, aggAt_setRow_same w b 17 cs h] at this
  exact this
theorem out_load61 (k : Nat) (w : World) (b c : Nat) (cs ev : Array Value) (h : rowOpen w c 2 = true) (hc : ev.size = 2) (hne : c ≠ b) :
    (loadVar 61 ⟨c, 0, none⟩).run Try.prog (((w.setRow b cs).setRow c ev).drewN k) = .ok (.agg ev) (((w.setRow b cs).setRow c ev).drewN k) := by
  have h2 : rowOpen (w.setRow b cs) c 2 = true := by rw [rowOpen_setRow_other _ _ _ _ _ hne]; exact h
  have := run_load61 (((w.setRow b cs).setRow c ev).drewN k) c (by rw [rowAt_drewN, rowAt_setRow_same _ c 2 2 ev h2]; simp [hc])
  rw [aggAt_drewN, aggAt_setRow_same _ c 2 ev h2] at this
  exact this
theorem cpuCells_at (r : Nat → Int) (pc : Int) (i : Nat) (h : i < (cpuCells r pc).size) (h2 : i < 16) : (cpuCells r pc)[i] = .int .u32 (r i) := by
  have := cpuCells_get r pc i h2
  rw [Array.getElem?_eq_getElem h] at this
  exact Option.some.inj this
theorem cpuCells_at16 (r : Nat → Int) (pc : Int) (h : 16 < (cpuCells r pc).size) : (cpuCells r pc)[16] = .int .u32 pc := rfl
def isIntV : Value → Bool
  | .int _ _ => true
  | _ => false
theorem Strs.setRow {w : World} {v : Value} {l : List ByteArray} (h : Strs w v l) {k : Nat} {cs cs' : Array Value} {t : TypeId} {fr : Nat × Nat} (hk : w.heap[k]? = some (.cells cs t fr)) (hi : cs.toList.all isIntV = true) : Strs (w.setRow k cs') v l := by
  obtain ⟨a, cap, rfl, hc, hn, hp⟩ := h.ex
  refine ⟨a, cap, rfl, hc, hn, fun h0 => ?_⟩
  obtain ⟨b, off, rfl, hlt, hcell⟩ := hp h0
  have hb : b ≠ k := by
    intro e
    subst e
    have := hcell 0 h0
    simp only [World.cell?, hk, Option.isSome_none, Bool.false_eq_true, if_false] at this
    have h2 := List.all_eq_true.1 hi _ (List.mem_of_getElem? (by rw [Array.getElem?_toList]; exact this))
    cases h2
  exact ⟨b, off, rfl, by rw [size_setRow]; exact hlt, fun i hi => by rw [cellS_other _ _ _ _ _ hb]; exact hcell i hi⟩
theorem St.out {k : Nat} {w0 w : World} {r : Nat → Int} {pc : Int} {s : Nat → Pte} {v : Value} {o : Out} {cs ev : Array Value} (h : St w0 r pc s w) (hcs : cs = cpuCells o.r o.pc) (hev : ev = #[.int .i64 o.kind, .int .u32 o.n]) (hs : Strs w v o.l) {e : Ending} (he : e = .returned (.tuple #[.agg cs, v, .agg ev])) :
    StepPost o w0 e (((w.setRow (w0.heap.size + 1 + 1) cs).setRow (w0.heap.size + 1 + 1 + 1) ev).drewN k) := by
  subst hcs hev he
  have b0 : Below w0.heap.size w0 (((w.setRow (w0.heap.size + 1 + 1) (cpuCells o.r o.pc)).setRow (w0.heap.size + 1 + 1 + 1) #[.int .i64 o.kind, .int .u32 o.n]).drewN k) := below_drewN (below_setRow (below_setRow h.below (by omega) _) (by omega) _) k
  have e3 : (w.setRow (w0.heap.size + 1 + 1) (cpuCells o.r o.pc)).heap[w0.heap.size + 1 + 1 + 1]? = some (.cells #[.int .i64 0, .int .u32 0] 61) := by
    rw [heap_setRow_other _ _ _ _ (by omega)]
    exact h.e
  exact ⟨b0, v, rfl, ((hs.setRow h.o (by kernel_rfl)).setRow e3 rfl).mono (below_drewN (Below.refl _ _) k)⟩
theorem St.out0 {w0 w : World} {r : Nat → Int} {pc : Int} {s : Nat → Pte} {v : Value} {o : Out} {cs ev : Array Value} (h : St w0 r pc s w) (hcs : cs = cpuCells o.r o.pc) (hev : ev = #[.int .i64 o.kind, .int .u32 o.n]) (hs : Strs w v o.l) {e : Ending} (he : e = .returned (.tuple #[.agg cs, v, .agg ev])) :
    StepPost o w0 e ((w.setRow (w0.heap.size + 1 + 1) cs).setRow (w0.heap.size + 1 + 1 + 1) ev) := by
  subst hcs hev he
  have e3 : (w.setRow (w0.heap.size + 1 + 1) (cpuCells o.r o.pc)).heap[w0.heap.size + 1 + 1 + 1]? = some (.cells #[.int .i64 0, .int .u32 0] 61) := by
    rw [heap_setRow_other _ _ _ _ (by omega)]
    exact h.e
  exact ⟨below_setRow (below_setRow h.below (by omega) _) (by omega) _, v, rfl, (hs.setRow h.o (by kernel_rfl)).setRow e3 rfl⟩
/-- The end of a step. -/
theorem St.fin {fn : Func} {a : Act} {w0 w : World} {r : Nat → Int} {pc : Int} {s : Nat → Pte} {v : Value} {o : Out} {cs ev : Array Value} (h : St w0 r pc s w) (hs : Strs w v o.l) (hf : fn.results = #[.cell 6 58, .tmp 7, .cell 8 61]) (hd : a.defers = [])
    (t6 : a.tmps[6]? = some (.pointer (some ⟨w0.heap.size + 1 + 1, 0, none⟩))) (t7 : a.tmps.getD 7 undef = v) (t8 : a.tmps[8]? = some (.pointer (some ⟨w0.heap.size + 1 + 1 + 1, 0, none⟩))) (hcs : cs = cpuCells o.r o.pc) (hev : ev = #[.int .i64 o.kind, .int .u32 o.n]) :
    bodyPost Try.prog fn (StepPost o w0) .ret a ((w.setRow (w0.heap.size + 1 + 1) cs).setRow (w0.heap.size + 1 + 1 + 1) ev) := by
  obtain ⟨_, _, _, _, q5, q6, _, _⟩ := h.facts
  have h1 : (loadVar 58 ⟨w0.heap.size + 1 + 1, 0, none⟩).run Try.prog ((w.setRow (w0.heap.size + 1 + 1) cs).setRow (w0.heap.size + 1 + 1 + 1) ev) = .ok (.agg cs) ((w.setRow (w0.heap.size + 1 + 1) cs).setRow (w0.heap.size + 1 + 1 + 1) ev) := by
    have hz : cs.size = 17 := by rw [hcs]; exact cpuCells_size _ _
    have := run_load58 ((w.setRow (w0.heap.size + 1 + 1) cs).setRow (w0.heap.size + 1 + 1 + 1) ev) (w0.heap.size + 1 + 1) (by rw [rowAt_setRow_other _ _ _ _ _ (by omega), rowAt_setRow_same w _ 17 17 cs q5]; simp [hz])
    rw [aggAt_setRow_other _ _ _ _ (by omega), aggAt_setRow_same w _ 17 cs q5] at this
    exact this
  have q7 : rowOpen (w.setRow (w0.heap.size + 1 + 1) cs) (w0.heap.size + 1 + 1 + 1) 2 = true := by rw [rowOpen_setRow_other _ _ _ _ _ (by omega)]; exact q6
  have h2 := load61_row (w.setRow (w0.heap.size + 1 + 1) cs) (w0.heap.size + 1 + 1 + 1) ev q7 (by rw [hev]; rfl)
  exact bodyPost_ret (results_cell_tmp_cell hf _ _ t6 t8 h1 h2) hd (h.out0 hcs hev hs (by rw [t7]))
theorem St.finD {k : Nat} {fn : Func} {a : Act} {w0 w : World} {r : Nat → Int} {pc : Int} {s : Nat → Pte} {v : Value} {o : Out} {cs ev : Array Value} (h : St w0 r pc s w) (hs : Strs w v o.l) (hf : fn.results = #[.cell 6 58, .tmp 7, .cell 8 61]) (hd : a.defers = [])
    (t6 : a.tmps[6]? = some (.pointer (some ⟨w0.heap.size + 1 + 1, 0, none⟩))) (t7 : a.tmps.getD 7 undef = v) (t8 : a.tmps[8]? = some (.pointer (some ⟨w0.heap.size + 1 + 1 + 1, 0, none⟩))) (hcs : cs = cpuCells o.r o.pc) (hev : ev = #[.int .i64 o.kind, .int .u32 o.n]) :
    bodyPost Try.prog fn (StepPost o w0) .ret a (((w.setRow (w0.heap.size + 1 + 1) cs).setRow (w0.heap.size + 1 + 1 + 1) ev).drewN k) := by
  obtain ⟨_, _, _, _, q5, q6, _, _⟩ := h.facts
  exact bodyPost_ret (results_cell_tmp_cell hf _ _ t6 t8 (out_load58 _ _ _ _ _ _ q5 (by rw [hcs]; exact cpuCells_size _ _) (by omega)) (out_load61 _ _ _ _ _ _ q6 (by rw [hev]; rfl) (by omega))) hd (h.out hcs hev hs (by rw [t7]))
theorem region_tail {id : Nat} {Q : Exit → Act → World → Prop} {a : Act} {w : World} {l : List Oper} (n : Nat) (hm : Try.prog.follows .mixedOrders = true) (hB : Region.lexTailB .any l.toArray n = true)
    (h : wpStill Try.prog l.toArray w.drew (fun a' => wpList Try.prog l.toArray Q (l.drop n) a' w.drew) (l.take n) a) : (Code.region id l.toArray true).wp Try.prog Q a w := wp_region_still_tail n hm hB h
end Go.Proofs.Ytlhcggaeecjbcaa
