/- Words and small lemmas for the walks of this seat. No condition. -/
import Derived.Test.YtopbejdhfndfbaaProg
import Derived.Test.YtopbejdhfndfbaaMem
import Derived.Test.YtopbejdhfndfbaaShelf
import Derived.WalkKit
import Derived.Lib.Hide
import Derived.Laws.MakeOwn
import Derived.Laws.IdiomStrings
import Derived.BigQuiet
import Derived.Deep.QuietTactic
namespace Go.Proofs.Ytopbejdhfndfbaa
open Go.RowKit
theorem bcell {W w1 : World} (hb : Below W.heap.size W w1) :
    (∀ b o, b < W.heap.size → w1.cell? ⟨b, o, none⟩ = W.cell? ⟨b, o, none⟩) ∧ (∀ b o, b < W.heap.size → w1.frozen? ⟨b, o, none⟩ = W.frozen? ⟨b, o, none⟩) :=
  ⟨fun b o h => hb.cell (p := ⟨b, o, none⟩) h, fun b o h => hb.frozen (p := ⟨b, o, none⟩) h⟩
theorem below_step {W w1 w2 : World} (h1 : Below W.heap.size W w1) (h2 : Below w1.heap.size w1 w2) : Below W.heap.size W w2 :=
  h1.trans (h2.mono h1.size)
theorem ret_int {k : IntKind} {a b : Int} (h : a = b) : Ending.returned (.int k a) = .returned (.int k b) := by rw [h]
theorem ret_bool {a b : Bool} (h : a = b) : Ending.returned (.bool a) = .returned (.bool b) := by rw [h]
structure Strs (w : World) (v : Value) (l : List ByteArray) : Prop where
  ex : ∃ a cap, v = .slice a l.length cap ∧ l.length ≤ cap ∧ (a = none → cap = 0) ∧ (0 < l.length → ∃ b o, a = some ⟨b, o, none⟩ ∧ b < w.heap.size ∧ ∀ i, i < l.length → w.cell? ⟨b, o + i, none⟩ = some (.string (bAt l i)))
theorem Strs.shape {w : World} {v : Value} {l : List ByteArray} (h : Strs w v l) :
    (l = [] ∧ ∃ a cap, v = .slice a 0 cap ∧ (a = none → cap = 0)) ∨ (0 < l.length ∧ ∃ b o cap, v = .slice (some ⟨b, o, none⟩) l.length cap ∧ l.length ≤ cap ∧ b < w.heap.size ∧ ∀ i, i < l.length → w.cell? ⟨b, o + i, none⟩ = some (.string (bAt l i))) := by
  obtain ⟨a, cap, rfl, hc, hn, hp⟩ := h.ex
  rcases Nat.eq_zero_or_pos l.length with h0 | h0
  · obtain rfl := List.eq_nil_of_length_eq_zero h0
    exact .inl ⟨rfl, a, cap, rfl, hn⟩
  · obtain ⟨b, o, rfl, hb, hcell⟩ := hp h0
    exact .inr ⟨h0, b, o, cap, rfl, hc, hb, hcell⟩
theorem Strs.mono {w w' : World} {v : Value} {l : List ByteArray} (h : Strs w v l) (hb : Below w.heap.size w w') : Strs w' v l := by
  obtain ⟨a, cap, rfl, hc, hn, hp⟩ := h.ex
  refine ⟨a, cap, rfl, hc, hn, fun h0 => ?_⟩
  obtain ⟨b, o, rfl, hlt, hcell⟩ := hp h0
  exact ⟨b, o, rfl, Nat.lt_of_lt_of_le hlt hb.size, fun i hi => (hb.cell (p := ⟨b, o + i, none⟩) hlt).trans (hcell i hi)⟩
theorem Strs.alloc {w : World} {v : Value} {l : List ByteArray} (h : Strs w v l) (o : Obj) : Strs (w.alloc o) v l :=
  h.mono ((Below.refl _ _).alloc (Nat.le_refl _) _)
theorem Strs.nil (w : World) : Strs w (.slice none 0 0) [] := ⟨none, 0, rfl, Nat.zero_le _, fun _ => rfl, fun h => absurd h (by simp)⟩
def aggAt (w : World) (b : Nat) : Value := match w.heap[b]? with | some (.cells cs _ _) => .agg cs | _ => undef
def rowAt (w : World) (b n : Nat) : Bool := match w.heap[b]? with | some (.cells cs _ _) => cs.size == n | _ => false
theorem agg_facts {w : World} {b : Nat} {cs : Array Value} {t : TypeId} {fr : Nat × Nat} (h : w.heap[b]? = some (.cells cs t fr)) (n : Nat) (hn : cs.size = n) : aggAt w b = .agg cs ∧ rowAt w b n = true := by
  subst hn
  simp [aggAt, rowAt, h]
theorem agg_of {w : World} {b n : Nat} (h : rowAt w b n = true) : ∃ cs t fr, w.heap[b]? = some (.cells cs t fr) ∧ cs.size = n := by
  unfold rowAt at h
  split at h
  · rename_i cs t fr hb
    exact ⟨cs, t, fr, hb, by simpa using h⟩
  · cases h
theorem aggAt_new (w : World) (cs : Array Value) (t : TypeId) (n : Nat) (hn : n = w.heap.size) : aggAt (w.alloc (.cells cs t)) n = .agg cs := by
  subst hn; exact (agg_facts (heap_alloc_new _ _) _ rfl).1
theorem rowAt_new (w : World) (cs : Array Value) (t : TypeId) (n k : Nat) (hn : n = w.heap.size) : rowAt (w.alloc (.cells cs t)) n k = (cs.size == k) := by
  subst hn; simp only [rowAt, heap_alloc_new]
theorem aggAt_past (w : World) (o : Obj) (n : Nat) (hn : n < w.heap.size) : aggAt (w.alloc o) n = aggAt w n := by
  simp only [aggAt, Below.heap_alloc w o n hn]
theorem rowAt_past (w : World) (o : Obj) (n k : Nat) (hn : n < w.heap.size) : rowAt (w.alloc o) n k = rowAt w n k := by
  simp only [rowAt, Below.heap_alloc w o n hn]
theorem aggAt_drew (w : World) (n : Nat) : aggAt w.drew n = aggAt w n := rfl
theorem rowAt_drew (w : World) (n k : Nat) : rowAt w.drew n k = rowAt w n k := rfl
def isRowD : TypeDesc → Bool
  | .struct _ | .array _ _ => true
  | _ => false
theorem run_loadVar_agg {w : World} {b n : Nat} {ty : TypeId} {d : TypeDesc} (h : rowAt w b n = true) (hu : Try.prog.underlying ty = some d) (hd : isRowD d = true) (hi : (Try.prog.info? ty).map (·.size) = some n) :
    (loadVar ty ⟨b, 0, none⟩).run Try.prog w = .ok (aggAt w b) w := by
  obtain ⟨cs, t, fr, hb, hs⟩ := agg_of h
  rw [run_loadVar_row w b t ty cs fr d hb hu (by cases d <;> first | rfl | cases hd) (by rw [hs]; exact hi), (agg_facts hb _ rfl).1]
theorem row_all (cs0 cs : Array Value) (h : cs.size = cs0.size) : (cs0.toList.take (0 + 0) ++ cs.toList ++ cs0.toList.drop (0 + 0 + cs.toList.length)).toArray = cs := by
  have h2 : cs0.toList.drop (0 + 0 + cs.toList.length) = [] := List.drop_of_length_le (by simp [h])
  rw [h2]
  simp
theorem setRow_new (w : World) (t : TypeId) (cs0 cs : Array Value) : (w.alloc (.cells cs0 t)).setRow w.heap.size cs = w.alloc (.cells cs t) := by
  unfold World.setRow World.alloc
  congr 1
  apply Array.ext_getElem?
  intro k
  simp only [Array.getElem?_modify, Array.getElem?_push]
  by_cases hk : k = w.heap.size
  · subst hk; simp
  · have hk2 : ¬ w.heap.size = k := fun h => hk h.symm
    simp [hk, hk2]
theorem run_storeVar_new {ty : TypeId} {n : Nat} {cs0 cs : Array Value} (w : World) (hi : (Try.prog.info? ty).map (·.size) = some n) (h0 : cs0.size = n) (h1 : cs.size = n) (hone : cs.all (·.oneCell') = true) :
    (storeVar ty ⟨w.heap.size, 0, none⟩ (.agg cs)).run Try.prog (w.alloc (.cells cs0 ty)) = .ok () (w.alloc (.cells cs ty)) := by
  rw [run_storeVar_row (w.alloc (.cells cs0 ty)) w.heap.size ty ty cs0 cs (heap_alloc_new _ _) (by rw [h1]; exact hi) (by omega) hone, setRow_new]
theorem cell_of_heap {w : World} {b i : Nat} {cs : Array Value} {t : TypeId} {fr : Nat × Nat} {x : Value} (h : w.heap[b]? = some (.cells cs t fr)) (hx : cs[i]? = some x) : w.cell? ⟨b, i, none⟩ = some x := by
  simp [World.cell?, h, hx]
theorem frozen_of_heap {w : World} {b i : Nat} {cs : Array Value} {t : TypeId} (h : w.heap[b]? = some (.cells cs t (0, 0))) : w.frozen? ⟨b, i, none⟩ = false := by
  simp [World.frozen?, h]
theorem grownBy_setCell (w : World) (b i : Nat) (x : Value) : w.grownBy (w.setCell ⟨b, i, none⟩ x) (some b) :=
  ⟨rfl, rfl, rfl, by simp, fun k _ hn => Below.heap_setCell w ⟨b, i, none⟩ x k (fun e => hn (by simp only at e; rw [e]))⟩
theorem grownBy_drew {w w1 : World} {row : Option Nat} (h : w.grownBy w1 row) : w.grownBy w1.drew row := ⟨h.os, h.tape, h.output, h.size, h.block⟩
theorem heap_lt {w : World} {b : Nat} {o : Obj} (h : w.heap[b]? = some o) : b < w.heap.size := (Array.getElem?_eq_some_iff.1 h).1
def rowOpen (w : World) (b n : Nat) : Bool := match w.heap[b]? with | some (.cells cs _ (0, 0)) => cs.size == n | _ => false
theorem rowOpen_new (w : World) (cs : Array Value) (t : TypeId) (b n : Nat) (hn : b = w.heap.size) : rowOpen (w.alloc (.cells cs t)) b n = (cs.size == n) := by
  subst hn; simp only [rowOpen, heap_alloc_new]
theorem rowOpen_past (w : World) (o : Obj) (b n : Nat) (hn : b < w.heap.size) : rowOpen (w.alloc o) b n = rowOpen w b n := by simp only [rowOpen, Below.heap_alloc w o b hn]
theorem rowOpen_drew (w : World) (b n : Nat) : rowOpen w.drew b n = rowOpen w b n := rfl
theorem rowOpen_is {w : World} {b n : Nat} (h : rowOpen w b n = true) : ∃ cs t, w.heap[b]? = some (.cells cs t (0, 0)) ∧ cs.size = n := by
  unfold rowOpen at h
  split at h
  · rename_i cs t hb
    exact ⟨cs, t, hb, by simpa using h⟩
  · cases h
theorem rowOpen_of {w : World} {b : Nat} {cs : Array Value} {t : TypeId} (h : w.heap[b]? = some (.cells cs t)) (n : Nat) (hn : cs.size = n) : rowOpen w b n = true := by
  simp [rowOpen, h, hn]
theorem heap_setRow_same (w : World) (b : Nat) (cs : Array Value) : (w.setRow b cs).heap[b]? = (w.heap[b]?).map fun o => match o with | .cells _ e f => .cells cs e f | o => o := by
  unfold World.setRow
  simp [Array.getElem?_modify]
  rfl
theorem heap_setRow_other (w : World) (b c : Nat) (cs : Array Value) (h : c ≠ b) : (w.setRow b cs).heap[c]? = w.heap[c]? := by
  have h' : ¬ b = c := fun e => h e.symm
  unfold World.setRow
  simp [Array.getElem?_modify, h']
theorem size_setRow (w : World) (b : Nat) (cs : Array Value) : (w.setRow b cs).heap.size = w.heap.size := by
  unfold World.setRow
  simp
theorem aggAt_setRow_same (w : World) (b n : Nat) (cs : Array Value) (h : rowOpen w b n = true) : aggAt (w.setRow b cs) b = .agg cs := by
  obtain ⟨c0, t, hb, _⟩ := rowOpen_is h
  simp [aggAt, heap_setRow_same, hb]
theorem aggAt_setRow_other (w : World) (b c : Nat) (cs : Array Value) (h : c ≠ b) : aggAt (w.setRow b cs) c = aggAt w c := by simp only [aggAt, heap_setRow_other w b c cs h]
theorem rowAt_setRow_other (w : World) (b c n : Nat) (cs : Array Value) (h : c ≠ b) : rowAt (w.setRow b cs) c n = rowAt w c n := by simp only [rowAt, heap_setRow_other w b c cs h]
theorem rowOpen_setRow_other (w : World) (b c n : Nat) (cs : Array Value) (h : c ≠ b) : rowOpen (w.setRow b cs) c n = rowOpen w c n := by simp only [rowOpen, heap_setRow_other w b c cs h]
theorem rowAt_setRow_same (w : World) (b n m : Nat) (cs : Array Value) (h : rowOpen w b m = true) : rowAt (w.setRow b cs) b n = (cs.size == n) := by
  obtain ⟨c0, t, hb, _⟩ := rowOpen_is h
  simp [rowAt, heap_setRow_same, hb]
theorem rowOpen_setRow_same (w : World) (b n m : Nat) (cs : Array Value) (h : rowOpen w b m = true) : rowOpen (w.setRow b cs) b n = (cs.size == n) := by
  obtain ⟨c0, t, hb, _⟩ := rowOpen_is h
  simp [rowOpen, heap_setRow_same, hb]
theorem setRow_drew' (w : World) (b : Nat) (cs : Array Value) : w.drew.setRow b cs = (w.setRow b cs).drew := rfl
theorem setRow_made' (w : World) (t : TypeId) (cs0 cs : Array Value) (b : Nat) (hb : b = w.heap.size) : (w.alloc (.cells cs0 t)).setRow b cs = w.alloc (.cells cs t) := by
  subst hb; exact setRow_new w t cs0 cs
theorem below_setRow {W w : World} (h : Below W.heap.size W w) {b : Nat} (hb : W.heap.size ≤ b) (cs : Array Value) : Below W.heap.size W (w.setRow b cs) :=
  ⟨h.os, h.tape, h.output, by rw [size_setRow]; exact h.size, fun k hk => (heap_setRow_other w b k cs (by omega)).trans (h.block k hk)⟩
theorem run_asAddr (a : Addr) (w : World) : (asAddr (.pointer (some a))).run Try.prog w = .ok a w := rfl
theorem results_cell_tmp {fn : Func} {t u : Tmp} {ty : TypeId} {a : Addr} {v : Value} (h : fn.results = #[.cell t ty, .tmp u]) (tmps : Array Value) (w : World) (ht : tmps[t]? = some (.pointer (some a))) (hl : (loadVar ty a).run Try.prog w = .ok v w) :
    (results fn tmps).run Try.prog w = .ok (.tuple #[v, tmps.getD u undef]) w := by
  simp [results, h, ht, hl, run_asAddr, Result.andThen]
theorem results_cell_tmp_cell {fn : Func} {t u x : Tmp} {ty tx : TypeId} {a b : Addr} {v y : Value} (h : fn.results = #[.cell t ty, .tmp u, .cell x tx]) (tmps : Array Value) (w : World) (ht : tmps[t]? = some (.pointer (some a))) (hx : tmps[x]? = some (.pointer (some b))) (hl : (loadVar ty a).run Try.prog w = .ok v w) (hl2 : (loadVar tx b).run Try.prog w = .ok y w) :
    (results fn tmps).run Try.prog w = .ok (.tuple #[v, tmps.getD u undef, y]) w := by
  simp [results, h, ht, hx, hl, hl2, run_asAddr, Result.andThen]
theorem Strs.grown {w w' : World} {a : Option Addr} {n cap : Nat} {l : List ByteArray} {row : Nat} (h : Strs w (.slice a n cap) l) (hg : w.grownBy w' (some row)) (hr : ∀ b o, a = some ⟨b, o, none⟩ → b ≠ row) : Strs w' (.slice a n cap) l := by
  obtain ⟨a', cap', e, hc, hn, hp⟩ := h.ex
  refine ⟨a', cap', e, hc, hn, fun h0 => ?_⟩
  obtain ⟨b, o, rfl, hlt, hcell⟩ := hp h0
  simp only [Value.slice.injEq] at e
  have hne := hr b o e.1
  refine ⟨b, o, rfl, Nat.lt_of_lt_of_le hlt hg.size, fun i hi => hg.cell (hcell i hi) (by simpa using hne)⟩
/-- A slice of strings in memory of the call's own. -/
def Own (B : Nat) (w : World) (v : Value) (l : List ByteArray) : Prop := w.ownsRow B 9 1 v l.length (l.map Value.string)
theorem Own.form {B : Nat} {w : World} {v : Value} {l : List ByteArray} (h : Own B w v l) : (l = [] ∧ v = .slice none 0 0) ∨
    ∃ g cap cur, v = .slice (some ⟨g, 0, none⟩) l.length cap ∧ B ≤ g ∧ w.heap[g]? = some (.cells cur 9 (0, 0)) ∧ l.length ≤ cap ∧ cap ≤ maxLen ∧ cur.size = cap ∧ cur.toList.take l.length = l.map Value.string := by
  obtain ⟨_, h | ⟨g, cap, cur, h1, h2, h3, h4, h5, h6, h7⟩⟩ := h
  · exact .inl ⟨List.eq_nil_of_length_eq_zero h.2, h.1⟩
  · exact .inr ⟨g, cap, cur, h1, h2, h3, h4, h5, by simpa using h6, by simpa using h7⟩
theorem Own.mk {B : Nat} {w : World} {l : List ByteArray} {g cap : Nat} {cur : Array Value} (h2 : B ≤ g) (h3 : w.heap[g]? = some (.cells cur 9 (0, 0))) (h4 : l.length ≤ cap) (h5 : cap ≤ maxLen) (h6 : cur.size = cap) (h7 : cur.toList.take l.length = l.map Value.string) :
    Own B w (.slice (some ⟨g, 0, none⟩) l.length cap) l :=
  ⟨by simp, .inr ⟨g, cap, cur, rfl, h2, h3, h4, h5, by simpa using h6, by simpa using h7⟩⟩
theorem own_cell {l : List ByteArray} {cur : Array Value} (h7 : cur.toList.take l.length = l.map Value.string) (i : Nat) (hi : i < l.length) : cur[i]? = some (.string (bAt l i)) := by
  have h : (cur.toList.take l.length)[i]? = (l.map Value.string)[i]? := by rw [h7]
  rw [List.getElem?_take, if_pos hi] at h
  simp only [Array.getElem?_toList] at h
  rw [h]
  simp [bAt, List.getD, hi]
theorem Own.strs {B : Nat} {w : World} {v : Value} {l : List ByteArray} (h : Own B w v l) : Strs w v l := by
  rcases h.form with ⟨rfl, rfl⟩ | ⟨g, cap, cur, rfl, _, h3, h4, _, _, h7⟩
  · exact Strs.nil _
  · exact ⟨_, _, rfl, h4, fun h => (by cases h), fun _ => ⟨g, 0, rfl, heap_lt h3, fun i hi => cell_of_heap h3 (by rw [Nat.zero_add]; exact own_cell h7 i hi)⟩⟩
theorem Own.below {B : Nat} {w w' : World} {v : Value} {l : List ByteArray} (h : Own B w v l) (hb : Below w.heap.size w w') : Own B w' v l := by
  rcases h.form with ⟨rfl, rfl⟩ | ⟨g, cap, cur, rfl, h2, h3, h4, h5, h6, h7⟩
  · exact ⟨rfl, .inl ⟨rfl, rfl⟩⟩
  · exact Own.mk h2 ((hb.block _ (heap_lt h3)).trans h3) h4 h5 h6 h7
/-- What slices.Clone leaves: the same strings, in memory of its own. -/
def ClonePost (l : List ByteArray) (w : World) (e : Ending) (w' : World) : Prop := ∃ v, e = .returned v ∧ Own w.heap.size w' v l ∧ Below w.heap.size w w'
theorem clone_any (v : Value) (l : List ByteArray) (w : World) (hv : Strs w v l) (hl : l.length ≤ 100000) : Calls Try.prog 60 #[v] w (ClonePost l w) := by
  rcases hv.shape with ⟨rfl, a, cap, rfl, _⟩ | ⟨h0, b, o, cap, rfl, hcap, hb, hc⟩
  · cases a with
    | none => exact (Try.slices_Clone_string_nil 0 cap w).mono fun e w' ⟨he, hw⟩ => by subst hw; exact ⟨_, he, ⟨rfl, .inl ⟨rfl, rfl⟩⟩, Below.refl _ _⟩
    | some a => exact (Try.slices_Clone_string_zero a cap w).mono fun e w' ⟨v', he, ho, _, hb⟩ => ⟨v', he, ho, hb⟩
  · exact (Try.slices_Clone_string b o l.length cap l w (Nat.le_refl _) (by omega) hc).mono fun e w' ⟨v', he, ho, _, hb⟩ => ⟨v', he, by rw [List.take_length] at ho; exact ho, hb⟩
theorem below_drewN {B : Nat} {a w : World} (h : Below B a w) (n : Nat) : Below B a (w.drewN n) := ⟨h.os, h.tape, h.output, h.size, h.block⟩
theorem alloc_size (w : World) (o : Obj) : (w.alloc o).heap.size = w.heap.size + 1 := by show (w.heap.push o).size = _; simp
theorem heap_alloc_at (w : World) (o : Obj) (k : Nat) (h : k < w.heap.size) : (w.alloc o).heap[k]? = w.heap[k]? := Below.heap_alloc w o k h
theorem keep {w w' : World} {b : Nat} {o : Obj} (h : w.heap[b]? = some o) (hb : Below w.heap.size w w') : w'.heap[b]? = some o := (hb.block _ (heap_lt h)).trans h
theorem setRow_self' {w : World} {g : Nat} {cur : Array Value} {t : TypeId} (hg : w.heap[g]? = some (.cells cur t)) : w.setRow g cur = w := setRow_self w g cur t (0, 0) hg
theorem keep2 {w w' : World} {a b : Obj} (hb : Below ((w.alloc a).alloc b).heap.size ((w.alloc a).alloc b) w') : w'.heap[w.heap.size]? = some a ∧ w'.heap[w.heap.size + 1]? = some b ∧ Below w.heap.size w w' := by
  have z1 := alloc_size w a
  have z2 := alloc_size (w.alloc a) b
  refine ⟨?_, ?_, (((Below.refl _ _).alloc (Nat.le_refl _) a).alloc (by omega) b).trans (hb.mono (by omega))⟩
  · rw [hb.block _ (by omega), heap_alloc_at _ _ _ (by omega)]
    exact heap_alloc_new _ _
  · rw [hb.block _ (by omega), ← z1]
    exact heap_alloc_new _ _
theorem keep1 {w w' : World} {a : Obj} (hb : Below (w.alloc a).heap.size (w.alloc a) w') : w'.heap[w.heap.size]? = some a ∧ Below w.heap.size w w' := by
  have z1 := alloc_size w a
  refine ⟨?_, ((Below.refl _ _).alloc (Nat.le_refl _) a).trans (hb.mono (by omega))⟩
  rw [hb.block _ (by omega)]
  exact heap_alloc_new _ _
theorem below_two (w : World) (a b : Obj) : Below w.heap.size w ((w.alloc a).alloc b) := ((Below.refl _ _).alloc (Nat.le_refl _) a).alloc (by rw [alloc_size]; omega) b
theorem Strs.at1 {w : World} {a : Option Addr} {n cap : Nat} {l : List ByteArray} (h : Strs w (.slice a n cap) l) {i : Nat} (hi : i < l.length) : ∃ b o, a = some ⟨b, o, none⟩ ∧ w.cell? ⟨b, o + i, none⟩ = some (.string (bAt l i)) := by
  rcases h.shape with ⟨rfl, _⟩ | ⟨_, b', o', cap', he, _, _, hc⟩
  · simp at hi
  · simp only [Value.slice.injEq] at he
    exact ⟨b', o', he.1, hc i hi⟩
theorem str_ne {x y : ByteArray} (h : x ≠ y) : (x.toList == y.toList) = false := by
  rw [beq_eq_false_iff_ne]
  intro he
  rw [ByteArray.toList_eq, ByteArray.toList_eq] at he
  exact h (ByteArray.ext (Array.toList_inj.1 he))
theorem Strs.pos {w : World} {v : Value} {l : List ByteArray} (h : Strs w v l) (h0 : 0 < l.length) : ∃ b o cap, v = .slice (some ⟨b, o, none⟩) l.length cap ∧ l.length ≤ cap := by
  rcases h.shape with ⟨rfl, _⟩ | ⟨_, b, o, cap, rfl, hc, _⟩
  · simp at h0
  · exact ⟨b, o, cap, rfl, hc⟩
theorem Strs.cell_at {w : World} {b o n cap : Nat} {l : List ByteArray} (h : Strs w (.slice (some ⟨b, o, none⟩) n cap) l) {i : Nat} (hi : i < l.length) : w.cell? ⟨b, o + i, none⟩ = some (.string (bAt l i)) := by
  rcases h.shape with ⟨rfl, _⟩ | ⟨_, b', o', cap', he, _, _, hc⟩
  · simp at hi
  · simp only [Value.slice.injEq, Option.some.injEq, Addr.mk.injEq] at he
    obtain ⟨⟨rfl, rfl, _⟩, _, _⟩ := he
    exact hc i hi
theorem run_index_str (x : ByteArray) (k : Nat) (hk : k < x.size) (w : World) : (Instr.index 9 (.string x) (.int .i64 (k : Int))).run Try.prog w = .ok (.int .u8 ((byteOf x k).toNat : Int)) w := by
  rw [← byteOf_get x k hk]
  have h0 : 0 ≤ (k : Int) ∧ (k : Int) < x.size := by omega
  simp only [go_sem, Try.underlying9, h0, and_self, dif_pos, Int.toNat_natCast]
end Go.Proofs.Ytopbejdhfndfbaa
