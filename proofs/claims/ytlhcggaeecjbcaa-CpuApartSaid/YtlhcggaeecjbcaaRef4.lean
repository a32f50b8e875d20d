/- The worlds of ref14's Step. No condition. -/
import Derived.Test.YtlhcggaeecjbcaaRef1
namespace Go.Proofs.Ytlhcggaeecjbcaa
open Go.RowKit

/-- Behind a call of ref14's Step, before the instruction is known: its cpu, space, the results' variables open; the cpu as it was. -/
structure Rs (w0 : World) (rc : Nat → Int) (pcc : Int) (s : Nat → Pte) (r : Nat → Int) (pc : Int) (w : World) : Prop where
  st : St w0 rc pcc s w
  was : w.heap[w0.heap.size + 1 + 1 + 1 + 1]? = some (.cells (cpuCells r pc) 58)
theorem Rs.step {w0 w w' : World} {rc r : Nat → Int} {pcc pc : Int} {s : Nat → Pte} (h : Rs w0 rc pcc s r pc w) (hb : Below w.heap.size w w') : Rs w0 rc pcc s r pc w' :=
  ⟨h.st.step hb, (hb.block _ (heap_lt h.was)).trans h.was⟩
theorem Rs.start {w0 w : World} {r : Nat → Int} {pc : Int} {s : Nat → Pte} {co ce : Array Value} (ho : co = cpuCells (fun _ => 0) 0) (he : ce = #[.int .i64 0, .int .u32 0])
    (hb : Below (((((w0.alloc (.cells (cpuCells r pc) 58)).alloc (.cells (spCells s) 26)).alloc (.cells co 58)).alloc (.cells ce 61)).alloc (.cells (cpuCells r pc) 58)).heap.size (((((w0.alloc (.cells (cpuCells r pc) 58)).alloc (.cells (spCells s) 26)).alloc (.cells co 58)).alloc (.cells ce 61)).alloc (.cells (cpuCells r pc) 58)) w) : Rs w0 r pc s r pc w := by
  have z5 := alloc_size ((((w0.alloc (.cells (cpuCells r pc) 58)).alloc (.cells (spCells s) 26)).alloc (.cells co 58)).alloc (.cells ce 61)) (.cells (cpuCells r pc) 58)
  have z4 := alloc_size (((w0.alloc (.cells (cpuCells r pc) 58)).alloc (.cells (spCells s) 26)).alloc (.cells co 58)) (.cells ce 61)
  have z3 := alloc_size ((w0.alloc (.cells (cpuCells r pc) 58)).alloc (.cells (spCells s) 26)) (.cells co 58)
  have z2 := alloc_size (w0.alloc (.cells (cpuCells r pc) 58)) (.cells (spCells s) 26)
  have z1 := alloc_size w0 (.cells (cpuCells r pc) 58)
  refine ⟨St.start ho he (((Below.refl _ _).alloc (Nat.le_refl _) _).trans (hb.mono (by omega))), ?_⟩
  rw [hb.block _ (by omega), show w0.heap.size + 1 + 1 + 1 + 1 = ((((w0.alloc (.cells (cpuCells r pc) 58)).alloc (.cells (spCells s) 26)).alloc (.cells co 58)).alloc (.cells ce 61)).heap.size from by omega]
  exact heap_alloc_new _ _
theorem Rs.facts {w0 w : World} {rc r : Nat → Int} {pcc pc : Int} {s : Nat → Pte} (h : Rs w0 rc pcc s r pc w) :
    aggAt w (w0.heap.size + 1 + 1 + 1 + 1) = .agg (cpuCells r pc) ∧ rowAt w (w0.heap.size + 1 + 1 + 1 + 1) 17 = true ∧ rowOpen w w0.heap.size 17 = true ∧ w0.heap.size + 4 < w.heap.size ∧
    (∀ i x, w.setCell ⟨w0.heap.size, i, none⟩ x = w.setRow w0.heap.size ((cpuCells rc pcc).setIfInBounds i x)) ∧ w.cell? ⟨w0.heap.size, 0, none⟩ = some (.int .u32 (rc 0)) ∧ (∀ i, w.frozen? ⟨w0.heap.size, i, none⟩ = false) := by
  have h1 := agg_facts h.was 17 (cpuCells_size r pc)
  refine ⟨h1.1, h1.2, rowOpen_of h.st.c _ (cpuCells_size _ _), heap_lt h.was, fun i x => setCell_row h.st.c i x, cell_of_heap h.st.c (cpuCells_get _ _ _ (by decide)), fun i => ?_⟩
  have := h.st.c
  simp [World.frozen?, this]
/-- .. and the instruction known, at 'm'. -/
structure Rt (w0 : World) (rc : Nat → Int) (pcc : Int) (s : Nat → Pte) (r : Nat → Int) (pc : Int) (m : Nat) (x : Array Value) (w : World) : Prop where
  rs : Rs w0 rc pcc s r pc w
  lt : w0.heap.size + 4 < m
  x : w.heap[m]? = some (.cells x 68)
theorem Rt.step {w0 w w' : World} {rc r : Nat → Int} {pcc pc : Int} {s : Nat → Pte} {m : Nat} {x : Array Value} (h : Rt w0 rc pcc s r pc m x w) (hb : Below w.heap.size w w') : Rt w0 rc pcc s r pc m x w' :=
  ⟨h.rs.step hb, h.lt, (hb.block _ (heap_lt h.x)).trans h.x⟩
theorem Rs.setC {w0 w : World} {rc r rd : Nat → Int} {pcc pc pd : Int} {s : Nat → Pte} (h : Rs w0 rc pcc s r pc w) : Rs w0 rd pd s r pc (w.setRow w0.heap.size (cpuCells rd pd)) := by
  refine ⟨⟨below_setRow h.st.below (by omega) _, ?_, (heap_setRow_other _ _ _ _ (by omega)).trans h.st.s, (heap_setRow_other _ _ _ _ (by omega)).trans h.st.o, (heap_setRow_other _ _ _ _ (by omega)).trans h.st.e⟩, (heap_setRow_other _ _ _ _ (by omega)).trans h.was⟩
  rw [heap_setRow_same, h.st.c]
  rfl
theorem Rt.setC {w0 w : World} {rc r rd : Nat → Int} {pcc pc pd : Int} {s : Nat → Pte} {m : Nat} {x : Array Value} (h : Rt w0 rc pcc s r pc m x w) : Rt w0 rd pd s r pc m x (w.setRow w0.heap.size (cpuCells rd pd)) :=
  ⟨h.rs.setC, h.lt, (heap_setRow_other _ _ _ _ (by have := h.lt; omega)).trans h.x⟩
theorem Rs.ins {w0 w : World} {rc r : Nat → Int} {pcc pc : Int} {s : Nat → Pte} {x : Array Value} (h : Rs w0 rc pcc s r pc w) : Rt w0 rc pcc s r pc w.heap.size x (w.alloc (.cells x 68)) :=
  ⟨h.step ((Below.refl _ _).alloc (Nat.le_refl _) _), heap_lt h.was, heap_alloc_new _ _⟩
theorem Rt.facts {w0 w : World} {rc r : Nat → Int} {pcc pc : Int} {s : Nat → Pte} {m : Nat} {x : Array Value} (h : Rt w0 rc pcc s r pc m x w) :
    (∀ i, w.cell? ⟨m, i, none⟩ = x[i]?) ∧ (x.size = 5 → aggAt w m = .agg x ∧ rowAt w m 5 = true) ∧ (∀ i, i < 16 → w.cell? ⟨w0.heap.size, i, none⟩ = some (.int .u32 (rc i))) := by
  refine ⟨fun i => ?_, fun hx => agg_facts h.x 5 hx, fun i hi => cell_of_heap h.rs.st.c (cpuCells_get _ _ _ hi)⟩
  have := h.x
  simp [World.cell?, this]
theorem five_ne (n m : Nat) (h : n + 4 < m) : n ≠ m ∧ n + 1 ≠ m ∧ n + 1 + 1 ≠ m ∧ n + 1 + 1 + 1 ≠ m ∧ n + 1 + 1 + 1 + 1 ≠ m ∧ m ≠ n ∧ m ≠ n + 1 ∧ m ≠ n + 1 + 1 ∧ m ≠ n + 1 + 1 + 1 ∧ m ≠ n + 1 + 1 + 1 + 1 ∧ n < m ∧ n + 1 < m ∧ n + 1 + 1 < m ∧ n + 1 + 1 + 1 < m ∧ n + 1 + 1 + 1 + 1 < m ∧ n ≠ n + 1 + 1 + 1 + 1 ∧ n + 1 + 1 + 1 + 1 ≠ n ∧ n < m + 1 ∧ n < m + 1 + 1 := by omega
theorem Rt.call {w0 w w4 : World} {rc r : Nat → Int} {pcc pc : Int} {s : Nat → Pte} {m : Nat} {x : Array Value} {k : Nat} (h : Rt w0 rc pcc s r pc m x w) (hb : Below (w.drewN k).heap.size (w.drewN k) w4) : Rt w0 rc pcc s r pc m x w4 :=
  h.step ((below_drewN (Below.refl _ _) k).trans (hb.mono (by rw [World.heap_drewN]; exact Nat.le_refl _)))
theorem setC_eq (r : Nat → Int) (A : Nat) (v : Int) : setC (upd r 0 0) A v = setR (upd r 0 0) A v := by
  funext k
  by_cases hA : 0 < A
  · have hA2 : ¬ 0 = A := by omega
    by_cases hk : k = 0
    · subst hk
      simp [setC, setR, upd, hA, hA2]
    · simp [setC, setR, upd, hA, hk]
  · obtain rfl : A = 0 := by omega
    by_cases hk : k = 0
    · simp [setC, setR, upd, hk]
    · simp [setC, setR, upd, hk]
theorem alloc_two (w : World) (o : Obj) (a b : Nat) (c d : Array Value) (ha : a < w.heap.size) (hb : b < w.heap.size) : ((w.setRow a c).setRow b d).alloc o = ((w.alloc o).setRow a c).setRow b d := by
  rw [alloc_setRow w o a c ha, alloc_setRow _ o b d (by rw [size_setRow]; exact hb)]
theorem own_lt (n : Nat) : n < n + 1 ∧ n < n + 1 + 1 ∧ n < n + 1 + 1 + 1 ∧ n < n + 1 + 1 + 1 + 1 := by omega
end Go.Proofs.Ytlhcggaeecjbcaa
