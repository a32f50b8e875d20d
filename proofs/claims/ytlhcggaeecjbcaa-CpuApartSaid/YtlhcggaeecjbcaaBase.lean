/- Words and small lemmas for the walks of this seat: slices of strings that read as a list, worlds that have only grown, a space's sixteen pages. No condition. -/
import Derived.Test.YtlhcggaeecjbcaaProg
import Derived.Test.YtlhcggaeecjbcaaMem
import Derived.WalkKit
import Derived.Lib.Hide
namespace Go.Proofs.Ytlhcggaeecjbcaa
open Go.RowKit

/-! ### worlds -/
theorem bcell {W w1 : World} (hb : Below W.heap.size W w1) :
    (∀ b o, b < W.heap.size → w1.cell? ⟨b, o, none⟩ = W.cell? ⟨b, o, none⟩) ∧ (∀ b o, b < W.heap.size → w1.frozen? ⟨b, o, none⟩ = W.frozen? ⟨b, o, none⟩) :=
  ⟨fun b o h => hb.cell (p := ⟨b, o, none⟩) h, fun b o h => hb.frozen (p := ⟨b, o, none⟩) h⟩

theorem below_step {W w1 w2 : World} (h1 : Below W.heap.size W w1) (h2 : Below w1.heap.size w1 w2) : Below W.heap.size W w2 :=
  h1.trans (h2.mono h1.size)

theorem ret_int {k : IntKind} {a b : Int} (h : a = b) : Ending.returned (.int k a) = .returned (.int k b) := by rw [h]
theorem ret_bool {a b : Bool} (h : a = b) : Ending.returned (.bool a) = .returned (.bool b) := by rw [h]

/-! ### a slice of strings that reads as a list -/
structure Strs (w : World) (v : Value) (l : List ByteArray) : Prop where
  ex : ∃ a cap, v = .slice a l.length cap ∧ l.length ≤ cap ∧ (a = none → cap = 0) ∧ (0 < l.length → ∃ b o, a = some ⟨b, o, none⟩ ∧ b < w.heap.size ∧ ∀ i, i < l.length → w.cell? ⟨b, o + i, none⟩ = some (.string (bAt l i)))

theorem Strs.shape {w : World} {v : Value} {l : List ByteArray} (h : Strs w v l) :
    (l = [] ∧ ∃ a cap, v = .slice a 0 cap ∧ (a = none → cap = 0)) ∨ (0 < l.length ∧ ∃ b o cap, v = .slice (some ⟨b, o, none⟩) l.length cap ∧ l.length ≤ cap ∧ b < w.heap.size ∧ ∀ i, i < l.length → w.cell? ⟨b, o + i, none⟩ = some (.string (bAt l i))) := by
  obtain ⟨a, cap, rfl, hc, hn, hp⟩ := h.ex
  rcases Nat.eq_zero_or_pos l.length with h0 | h0
  · obtain rfl := List.eq_nil_of_length_eq_zero h0
    exact .inl ⟨rfl, a, cap, rfl, hn⟩
  · obtain ⟨b, o, rfl, hb, hcell⟩ := hp h0
    exact .inr ⟨h0, b, o, cap, rfl, hc, hb, hcell⟩

theorem Strs.mono {w w' : World} {v : Value} {l : List ByteArray} (h : Strs w v l) (hb : Below w.heap.size w w') : Strs w' v l := by
  obtain ⟨a, cap, rfl, hc, hn, hp⟩ := h.ex
  refine ⟨a, cap, rfl, hc, hn, fun h0 => ?_⟩
  obtain ⟨b, o, rfl, hlt, hcell⟩ := hp h0
  exact ⟨b, o, rfl, Nat.lt_of_lt_of_le hlt hb.size, fun i hi => (hb.cell (p := ⟨b, o + i, none⟩) hlt).trans (hcell i hi)⟩

theorem Strs.alloc {w : World} {v : Value} {l : List ByteArray} (h : Strs w v l) (o : Obj) : Strs (w.alloc o) v l :=
  h.mono ((Below.refl _ _).alloc (Nat.le_refl _) _)

theorem Strs.nil (w : World) : Strs w (.slice none 0 0) [] := ⟨none, 0, rfl, Nat.zero_le _, fun _ => rfl, fun h => absurd h (by simp)⟩

/-! ### a space -/
def pteCells (p : Pte) : List Value := [.bool p.is, .bool p.write, .int .i64 p.frame]
def spCells (s : Nat → Pte) : Array Value := ((List.range 16).flatMap fun i => pteCells (s i)).toArray

theorem spCells_get (s : Nat → Pte) (i : Nat) (h : i < 16) :
    (spCells s)[i * 3]? = some (.bool (s i).is) ∧ (spCells s)[i * 3 + 1]? = some (.bool (s i).write) ∧ (spCells s)[i * 3 + 2]? = some (.int .i64 (s i).frame) := by
  have : i = 0 ∨ i = 1 ∨ i = 2 ∨ i = 3 ∨ i = 4 ∨ i = 5 ∨ i = 6 ∨ i = 7 ∨ i = 8 ∨ i = 9 ∨ i = 10 ∨ i = 11 ∨ i = 12 ∨ i = 13 ∨ i = 14 ∨ i = 15 := by omega
  rcases this with rfl | rfl | rfl | rfl | rfl | rfl | rfl | rfl | rfl | rfl | rfl | rfl | rfl | rfl | rfl | rfl <;> exact ⟨rfl, rfl, rfl⟩

theorem spCells_size (s : Nat → Pte) : (spCells s).size = 48 := by simp [spCells, pteCells]; rfl

/-! ### a variable of several cells that is read whole: 'attribute [local go_sem ↓] loadVar_26', 'attribute [local go_sem] run_load26 aggAt_new aggAt_past aggAt_drew rowAt_new rowAt_past rowAt_drew' -/
def aggAt (w : World) (b : Nat) : Value := match w.heap[b]? with | some (.cells cs _ _) => .agg cs | _ => undef
def rowAt (w : World) (b n : Nat) : Bool := match w.heap[b]? with | some (.cells cs _ _) => cs.size == n | _ => false

theorem agg_facts {w : World} {b : Nat} {cs : Array Value} {t : TypeId} {fr : Nat × Nat} (h : w.heap[b]? = some (.cells cs t fr)) (n : Nat) (hn : cs.size = n) : aggAt w b = .agg cs ∧ rowAt w b n = true := by
  subst hn
  simp [aggAt, rowAt, h]
theorem agg_of {w : World} {b n : Nat} (h : rowAt w b n = true) : ∃ cs t fr, w.heap[b]? = some (.cells cs t fr) ∧ cs.size = n := by
  unfold rowAt at h
  split at h
  · rename_i cs t fr hb
    exact ⟨cs, t, fr, hb, by simpa using h⟩
  · cases h

theorem aggAt_new (w : World) (cs : Array Value) (t : TypeId) (n : Nat) (hn : n = w.heap.size) : aggAt (w.alloc (.cells cs t)) n = .agg cs := by
  subst hn; exact (agg_facts (heap_alloc_new _ _) _ rfl).1
theorem rowAt_new (w : World) (cs : Array Value) (t : TypeId) (n k : Nat) (hn : n = w.heap.size) : rowAt (w.alloc (.cells cs t)) n k = (cs.size == k) := by
  subst hn; simp only [rowAt, heap_alloc_new]
theorem aggAt_past (w : World) (o : Obj) (n : Nat) (hn : n < w.heap.size) : aggAt (w.alloc o) n = aggAt w n := by
  simp only [aggAt, Below.heap_alloc w o n hn]
theorem rowAt_past (w : World) (o : Obj) (n k : Nat) (hn : n < w.heap.size) : rowAt (w.alloc o) n k = rowAt w n k := by
  simp only [rowAt, Below.heap_alloc w o n hn]
theorem aggAt_drew (w : World) (n : Nat) : aggAt w.drew n = aggAt w n := rfl
theorem rowAt_drew (w : World) (n k : Nat) : rowAt w.drew n k = rowAt w n k := rfl

def isRowD : TypeDesc → Bool
  | .struct _ | .array _ _ => true
  | _ => false
theorem run_loadVar_agg {w : World} {b n : Nat} {ty : TypeId} {d : TypeDesc} (h : rowAt w b n = true) (hu : Try.prog.underlying ty = some d) (hd : isRowD d = true) (hi : (Try.prog.info? ty).map (·.size) = some n) :
    (loadVar ty ⟨b, 0, none⟩).run Try.prog w = .ok (aggAt w b) w := by
  obtain ⟨cs, t, fr, hb, hs⟩ := agg_of h
  rw [run_loadVar_row w b t ty cs fr d hb hu (by cases d <;> first | rfl | cases hd) (by rw [hs]; exact hi), (agg_facts hb _ rfl).1]

theorem spInfo : (Try.prog.info? 26).map (·.size) = some 48 := by kernel_rfl
def load26 (a : Addr) : Sem Value := loadVar 26 a
theorem loadVar_26 (a : Addr) : loadVar 26 a = load26 a := rfl
theorem run_load26 (w : World) (b : Nat) (h : rowAt w b 48 = true) : (load26 ⟨b, 0, none⟩).run Try.prog w = .ok (aggAt w b) w := run_loadVar_agg h Try.underlying26 rfl spInfo

/-! ### a new variable of several cells that is filled at once: 'attribute [local go_sem ↓] storeVar_26', 'attribute [local go_sem] run_store26' -/
theorem row_all (cs0 cs : Array Value) (h : cs.size = cs0.size) : (cs0.toList.take (0 + 0) ++ cs.toList ++ cs0.toList.drop (0 + 0 + cs.toList.length)).toArray = cs := by
  have h2 : cs0.toList.drop (0 + 0 + cs.toList.length) = [] := List.drop_of_length_le (by simp [h])
  rw [h2]
  simp
theorem setRow_new (w : World) (t : TypeId) (cs0 cs : Array Value) : (w.alloc (.cells cs0 t)).setRow w.heap.size cs = w.alloc (.cells cs t) := by
  unfold World.setRow World.alloc
  congr 1
  apply Array.ext_getElem?
  intro k
  simp only [Array.getElem?_modify, Array.getElem?_push]
  by_cases hk : k = w.heap.size
  · subst hk; simp
  · have hk2 : ¬ w.heap.size = k := fun h => hk h.symm
    simp [hk, hk2]
theorem run_storeVar_new {ty : TypeId} {n : Nat} {cs0 cs : Array Value} (w : World) (hi : (Try.prog.info? ty).map (·.size) = some n) (h0 : cs0.size = n) (h1 : cs.size = n) (hone : cs.all (·.oneCell') = true) :
    (storeVar ty ⟨w.heap.size, 0, none⟩ (.agg cs)).run Try.prog (w.alloc (.cells cs0 ty)) = .ok () (w.alloc (.cells cs ty)) := by
  rw [run_storeVar_row (w.alloc (.cells cs0 ty)) w.heap.size ty ty cs0 cs (heap_alloc_new _ _) (by rw [h1]; exact hi) (by omega) hone, setRow_new]

theorem oneCell_spCells (s : Nat → Pte) : (spCells s).all (·.oneCell') = true := by rw [← Array.all_toList]; rfl

def store26 (a : Addr) (v : Value) : Sem Unit := storeVar 26 a v
theorem storeVar_26 (a : Addr) (v : Value) : storeVar 26 a v = store26 a v := rfl
theorem run_store26 (w : World) (b : Nat) (cs0 : Array Value) (s : Nat → Pte) (hb : b = w.heap.size) (h0 : cs0.size = 48) : (store26 ⟨b, 0, none⟩ (.agg (spCells s))).run Try.prog (w.alloc (.cells cs0 26)) = .ok () (w.alloc (.cells (spCells s) 26)) := by
  subst hb
  exact run_storeVar_new w spInfo h0 (spCells_size s) (oneCell_spCells s)

end Go.Proofs.Ytlhcggaeecjbcaa
