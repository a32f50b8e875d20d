/- Variables of several cells that are loaded and stored whole (types 58, 61, 68), in worlds with new blocks, draws, stores into cells and whole rows. No condition. -/
import Derived.Test.YtlhcggaeecjbcaaArgs
namespace Go.Proofs.Ytlhcggaeecjbcaa
open Go.RowKit

/-! ### a row that is stored whole -/
def rowOpen (w : World) (b n : Nat) : Bool := match w.heap[b]? with | some (.cells cs _ (0, 0)) => cs.size == n | _ => false
theorem rowOpen_new (w : World) (cs : Array Value) (t : TypeId) (b n : Nat) (hn : b = w.heap.size) : rowOpen (w.alloc (.cells cs t)) b n = (cs.size == n) := by
  subst hn; simp only [rowOpen, heap_alloc_new]
theorem rowOpen_past (w : World) (o : Obj) (b n : Nat) (hn : b < w.heap.size) : rowOpen (w.alloc o) b n = rowOpen w b n := by simp only [rowOpen, Below.heap_alloc w o b hn]
theorem rowOpen_drew (w : World) (b n : Nat) : rowOpen w.drew b n = rowOpen w b n := rfl
theorem rowOpen_is {w : World} {b n : Nat} (h : rowOpen w b n = true) : ∃ cs t, w.heap[b]? = some (.cells cs t (0, 0)) ∧ cs.size = n := by
  unfold rowOpen at h
  split at h
  · rename_i cs t hb
    exact ⟨cs, t, hb, by simpa using h⟩
  · cases h
theorem rowOpen_of {w : World} {b : Nat} {cs : Array Value} {t : TypeId} (h : w.heap[b]? = some (.cells cs t)) (n : Nat) (hn : cs.size = n) : rowOpen w b n = true := by
  simp [rowOpen, h, hn]

theorem heap_setRow_same (w : World) (b : Nat) (cs : Array Value) : (w.setRow b cs).heap[b]? = (w.heap[b]?).map fun o => match o with | .cells _ e f => .cells cs e f | o => o := by
  unfold World.setRow
  simp [Array.getElem?_modify]
  rfl
theorem heap_setRow_other (w : World) (b c : Nat) (cs : Array Value) (h : c ≠ b) : (w.setRow b cs).heap[c]? = w.heap[c]? := by
  have h' : ¬ b = c := fun e => h e.symm
  unfold World.setRow
  simp [Array.getElem?_modify, h']
theorem size_setRow (w : World) (b : Nat) (cs : Array Value) : (w.setRow b cs).heap.size = w.heap.size := by
  unfold World.setRow
  simp

theorem aggAt_setRow_same (w : World) (b n : Nat) (cs : Array Value) (h : rowOpen w b n = true) : aggAt (w.setRow b cs) b = .agg cs := by
  obtain ⟨c0, t, hb, _⟩ := rowOpen_is h
  simp [aggAt, heap_setRow_same, hb]
theorem aggAt_setRow_other (w : World) (b c : Nat) (cs : Array Value) (h : c ≠ b) : aggAt (w.setRow b cs) c = aggAt w c := by simp only [aggAt, heap_setRow_other w b c cs h]
theorem rowAt_setRow_other (w : World) (b c n : Nat) (cs : Array Value) (h : c ≠ b) : rowAt (w.setRow b cs) c n = rowAt w c n := by simp only [rowAt, heap_setRow_other w b c cs h]
theorem rowOpen_setRow_other (w : World) (b c n : Nat) (cs : Array Value) (h : c ≠ b) : rowOpen (w.setRow b cs) c n = rowOpen w c n := by simp only [rowOpen, heap_setRow_other w b c cs h]
theorem rowAt_setRow_same (w : World) (b n m : Nat) (cs : Array Value) (h : rowOpen w b m = true) : rowAt (w.setRow b cs) b n = (cs.size == n) := by
  obtain ⟨c0, t, hb, _⟩ := rowOpen_is h
  simp [rowAt, heap_setRow_same, hb]
theorem rowOpen_setRow_same (w : World) (b n m : Nat) (cs : Array Value) (h : rowOpen w b m = true) : rowOpen (w.setRow b cs) b n = (cs.size == n) := by
  obtain ⟨c0, t, hb, _⟩ := rowOpen_is h
  simp [rowOpen, heap_setRow_same, hb]
theorem setRow_drew' (w : World) (b : Nat) (cs : Array Value) : w.drew.setRow b cs = (w.setRow b cs).drew := rfl
theorem setRow_made' (w : World) (t : TypeId) (cs0 cs : Array Value) (b : Nat) (hb : b = w.heap.size) : (w.alloc (.cells cs0 t)).setRow b cs = w.alloc (.cells cs t) := by
  subst hb; exact setRow_new w t cs0 cs

/-! ### a cell that is stored -/
def aggSet (v : Value) (i : Nat) (x : Value) : Value := match v with | .agg cs => .agg (cs.setIfInBounds i x) | v => v
theorem aggSet_agg (cs : Array Value) (i : Nat) (x : Value) : aggSet (.agg cs) i x = .agg (cs.setIfInBounds i x) := rfl
theorem aggAt_setCell_other (w : World) (a : Addr) (x : Value) (b : Nat) (h : b ≠ a.block) : aggAt (w.setCell a x) b = aggAt w b := by simp only [aggAt, Below.heap_setCell w a x b h]
theorem rowAt_setCell_other (w : World) (a : Addr) (x : Value) (b n : Nat) (h : b ≠ a.block) : rowAt (w.setCell a x) b n = rowAt w b n := by simp only [rowAt, Below.heap_setCell w a x b h]
theorem rowOpen_setCell_other (w : World) (a : Addr) (x : Value) (b n : Nat) (h : b ≠ a.block) : rowOpen (w.setCell a x) b n = rowOpen w b n := by simp only [rowOpen, Below.heap_setCell w a x b h]
theorem heap_setCell_at {w : World} {b n : Nat} (h : rowOpen w b n = true) (i : Nat) (x : Value) : ∃ cs t, w.heap[b]? = some (.cells cs t (0, 0)) ∧ cs.size = n ∧ (w.setCell ⟨b, i, none⟩ x).heap[b]? = some (.cells (cs.setIfInBounds i x) t (0, 0)) := by
  obtain ⟨cs, t, hb, hs⟩ := rowOpen_is h
  exact ⟨cs, t, hb, hs, heap_setCell_same w b i cs t x hb⟩
theorem aggAt_setCell_same (w : World) (b i n : Nat) (x : Value) (h : rowOpen w b n = true) : aggAt (w.setCell ⟨b, i, none⟩ x) b = aggSet (aggAt w b) i x := by
  obtain ⟨cs, t, hb, _, hb2⟩ := heap_setCell_at h i x
  simp [aggAt, hb, hb2, aggSet]
theorem rowAt_setCell_same (w : World) (b i n m : Nat) (x : Value) (h : rowOpen w b m = true) : rowAt (w.setCell ⟨b, i, none⟩ x) b n = (m == n) := by
  obtain ⟨cs, t, hb, hs, hb2⟩ := heap_setCell_at h i x
  simp [rowAt, hb2, hs]
theorem rowOpen_setCell_same (w : World) (b i n m : Nat) (x : Value) (h : rowOpen w b m = true) : rowOpen (w.setCell ⟨b, i, none⟩ x) b n = (m == n) := by
  obtain ⟨cs, t, hb, hs, hb2⟩ := heap_setCell_at h i x
  simp [rowOpen, hb2, hs]

/-! ### the three types -/
theorem info58 : (Try.prog.info? 58).map (·.size) = some 17 := by kernel_rfl
theorem info61 : (Try.prog.info? 61).map (·.size) = some 2 := by kernel_rfl
theorem info68 : (Try.prog.info? 68).map (·.size) = some 5 := by kernel_rfl
def load58 (a : Addr) : Sem Value := loadVar 58 a
def load61 (a : Addr) : Sem Value := loadVar 61 a
def load68 (a : Addr) : Sem Value := loadVar 68 a
theorem loadVar_58 (a : Addr) : loadVar 58 a = load58 a := rfl
theorem loadVar_61 (a : Addr) : loadVar 61 a = load61 a := rfl
theorem loadVar_68 (a : Addr) : loadVar 68 a = load68 a := rfl
theorem run_load58 (w : World) (b : Nat) (h : rowAt w b 17 = true) : (load58 ⟨b, 0, none⟩).run Try.prog w = .ok (aggAt w b) w := run_loadVar_agg h Try.underlying58 rfl info58
theorem run_load61 (w : World) (b : Nat) (h : rowAt w b 2 = true) : (load61 ⟨b, 0, none⟩).run Try.prog w = .ok (aggAt w b) w := run_loadVar_agg h Try.underlying61 rfl info61
theorem run_load68 (w : World) (b : Nat) (h : rowAt w b 5 = true) : (load68 ⟨b, 0, none⟩).run Try.prog w = .ok (aggAt w b) w := run_loadVar_agg h Try.underlying68 rfl info68
def store58 (a : Addr) (v : Value) : Sem Unit := storeVar 58 a v
def store61 (a : Addr) (v : Value) : Sem Unit := storeVar 61 a v
def store68 (a : Addr) (v : Value) : Sem Unit := storeVar 68 a v
theorem storeVar_58 (a : Addr) (v : Value) : storeVar 58 a v = store58 a v := rfl
theorem storeVar_61 (a : Addr) (v : Value) : storeVar 61 a v = store61 a v := rfl
theorem storeVar_68 (a : Addr) (v : Value) : storeVar 68 a v = store68 a v := rfl

/-- A cpu: sixteen registers and the place. -/
def cpuCells (r : Nat → Int) (pc : Int) : Array Value := ((List.range 16).map (fun i => Value.int .u32 (r i)) ++ [Value.int .u32 pc]).toArray
def upd (r : Nat → Int) (i : Nat) (v : Int) : Nat → Int := fun k => if k = i then v else r k
theorem cpuCells_size (r : Nat → Int) (pc : Int) : (cpuCells r pc).size = 17 := by simp [cpuCells]
theorem cpuCells_get (r : Nat → Int) (pc : Int) (i : Nat) (h : i < 16) : (cpuCells r pc)[i]? = some (.int .u32 (r i)) := by
  rw [cpuCells, List.getElem?_toArray, List.getElem?_append_left (by simpa using h)]
  simp [List.getElem?_range h]
theorem cpuCells_pc (r : Nat → Int) (pc : Int) : (cpuCells r pc)[16]? = some (.int .u32 pc) := rfl
theorem cpuCells_set (r : Nat → Int) (pc : Int) (i : Nat) (h : i < 16) (v : Int) : (cpuCells r pc).setIfInBounds i (.int .u32 v) = cpuCells (upd r i v) pc := by
  apply Array.ext_getElem?
  intro k
  rw [Array.getElem?_setIfInBounds]
  by_cases hk : i = k
  · subst hk
    rw [if_pos rfl, if_pos (by rw [cpuCells_size]; omega), cpuCells_get _ _ _ h]
    simp [upd]
  · rw [if_neg hk]
    by_cases h1 : k < 16
    · rw [cpuCells_get _ _ _ h1, cpuCells_get _ _ _ h1]
      have hk' : ¬ k = i := fun e => hk e.symm
      simp [upd, hk']
    · by_cases h2 : k = 16
      · subst h2; rw [cpuCells_pc, cpuCells_pc]
      · rw [Array.getElem?_eq_none (by rw [cpuCells_size]; omega), Array.getElem?_eq_none (by rw [cpuCells_size]; omega)]
theorem cpuCells_setpc (r : Nat → Int) (pc v : Int) : (cpuCells r pc).setIfInBounds 16 (.int .u32 v) = cpuCells r v := rfl
theorem oneCell_cpu (r : Nat → Int) (pc : Int) : (cpuCells r pc).all (·.oneCell') = true := by rw [← Array.all_toList]; rfl

theorem run_store58 (w : World) (b : Nat) (r : Nat → Int) (pc : Int) (h : rowOpen w b 17 = true) : (store58 ⟨b, 0, none⟩ (.agg (cpuCells r pc))).run Try.prog w = .ok () (w.setRow b (cpuCells r pc)) := by
  obtain ⟨cs, t, hb, hz⟩ := rowOpen_is h
  exact run_storeVar_row w b t 58 cs (cpuCells r pc) hb (by rw [cpuCells_size]; exact info58) (by rw [hz, cpuCells_size]) (oneCell_cpu r pc)
theorem run_store61 (w : World) (b : Nat) (k n : Int) (h : rowOpen w b 2 = true) : (store61 ⟨b, 0, none⟩ (.agg #[.int .i64 k, .int .u32 n])).run Try.prog w = .ok () (w.setRow b #[.int .i64 k, .int .u32 n]) := by
  obtain ⟨cs, t, hb, hz⟩ := rowOpen_is h
  exact run_storeVar_row w b t 61 cs _ hb info61 hz (by rw [← Array.all_toList]; rfl)
theorem run_store68 (w : World) (b : Nat) (x y z u v : Int) (h : rowOpen w b 5 = true) :
    (store68 ⟨b, 0, none⟩ (.agg #[.int .u8 x, .int .u8 y, .int .u8 z, .int .u8 u, .int .i32 v])).run Try.prog w = .ok () (w.setRow b #[.int .u8 x, .int .u8 y, .int .u8 z, .int .u8 u, .int .i32 v]) := by
  obtain ⟨cs, t, hb, hz⟩ := rowOpen_is h
  exact run_storeVar_row w b t 68 cs _ hb info68 hz (by rw [← Array.all_toList]; rfl)
theorem below_setRow {W w : World} (h : Below W.heap.size W w) {b : Nat} (hb : W.heap.size ≤ b) (cs : Array Value) : Below W.heap.size W (w.setRow b cs) :=
  ⟨h.os, h.tape, h.output, by rw [size_setRow]; exact h.size, fun k hk => (heap_setRow_other w b k cs (by omega)).trans (h.block k hk)⟩
theorem run_asAddr (a : Addr) (w : World) : (asAddr (.pointer (some a))).run Try.prog w = .ok a w := rfl
theorem results_cell_tmp {fn : Func} {t u : Tmp} {ty : TypeId} {a : Addr} {v : Value} (h : fn.results = #[.cell t ty, .tmp u]) (tmps : Array Value) (w : World) (ht : tmps[t]? = some (.pointer (some a))) (hl : (loadVar ty a).run Try.prog w = .ok v w) :
    (results fn tmps).run Try.prog w = .ok (.tuple #[v, tmps.getD u undef]) w := by
  simp [results, h, ht, hl, run_asAddr, Result.andThen]
theorem results_cell_tmp_cell {fn : Func} {t u x : Tmp} {ty tx : TypeId} {a b : Addr} {v y : Value} (h : fn.results = #[.cell t ty, .tmp u, .cell x tx]) (tmps : Array Value) (w : World) (ht : tmps[t]? = some (.pointer (some a))) (hx : tmps[x]? = some (.pointer (some b))) (hl : (loadVar ty a).run Try.prog w = .ok v w) (hl2 : (loadVar tx b).run Try.prog w = .ok y w) :
    (results fn tmps).run Try.prog w = .ok (.tuple #[v, tmps.getD u undef, y]) w := by
  simp [results, h, ht, hx, hl, hl2, run_asAddr, Result.andThen]
theorem load58_row (w : World) (b : Nat) (cs : Array Value) (h : rowOpen w b 17 = true) (hc : cs.size = 17) : (loadVar 58 ⟨b, 0, none⟩).run Try.prog (w.setRow b cs) = .ok (.agg cs) (w.setRow b cs) := by
  have := run_load58 (w.setRow b cs) b (by rw [rowAt_setRow_same w b 17 17 cs h]; simp [hc])
  rw [aggAt_setRow_same w b 17 cs h] at this
  exact this
theorem load61_row (w : World) (b : Nat) (cs : Array Value) (h : rowOpen w b 2 = true) (hc : cs.size = 2) : (loadVar 61 ⟨b, 0, none⟩).run Try.prog (w.setRow b cs) = .ok (.agg cs) (w.setRow b cs) := by
  have := run_load61 (w.setRow b cs) b (by rw [rowAt_setRow_same w b 2 2 cs h]; simp [hc])
  rw [aggAt_setRow_same w b 2 cs h] at this
  exact this
theorem load68_row (w : World) (b : Nat) (cs : Array Value) (h : rowOpen w b 5 = true) (hc : cs.size = 5) : (loadVar 68 ⟨b, 0, none⟩).run Try.prog (w.setRow b cs) = .ok (.agg cs) (w.setRow b cs) := by
  have := run_load68 (w.setRow b cs) b (by rw [rowAt_setRow_same w b 5 5 cs h]; simp [hc])
  rw [aggAt_setRow_same w b 5 cs h] at this
  exact this
end Go.Proofs.Ytlhcggaeecjbcaa
