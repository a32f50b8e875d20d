/- The contracts of slices.Clone at strings and of mmu.Lay. Condition: fewer than 100,000 frames, at most 100,000 bytes. -/
import Derived.Test.YtlhcggaeecjbcaaMmu5
namespace Go.Proofs.Ytlhcggaeecjbcaa
open Go.RowKit

/-- A slice of strings in memory of the call's own. -/
def Own (B : Nat) (w : World) (v : Value) (l : List ByteArray) : Prop := w.ownsRow B 9 1 v l.length (l.map Value.string)

theorem Own.form {B : Nat} {w : World} {v : Value} {l : List ByteArray} (h : Own B w v l) : (l = [] ∧ v = .slice none 0 0) ∨
    ∃ g cap cur, v = .slice (some ⟨g, 0, none⟩) l.length cap ∧ B ≤ g ∧ w.heap[g]? = some (.cells cur 9 (0, 0)) ∧ l.length ≤ cap ∧ cap ≤ maxLen ∧ cur.size = cap ∧ cur.toList.take l.length = l.map Value.string := by
  obtain ⟨_, h | ⟨g, cap, cur, h1, h2, h3, h4, h5, h6, h7⟩⟩ := h
  · exact .inl ⟨List.eq_nil_of_length_eq_zero h.2, h.1⟩
  · exact .inr ⟨g, cap, cur, h1, h2, h3, h4, h5, by simpa using h6, by simpa using h7⟩

theorem Own.mk {B : Nat} {w : World} {l : List ByteArray} {g cap : Nat} {cur : Array Value} (h2 : B ≤ g) (h3 : w.heap[g]? = some (.cells cur 9 (0, 0))) (h4 : l.length ≤ cap) (h5 : cap ≤ maxLen) (h6 : cur.size = cap) (h7 : cur.toList.take l.length = l.map Value.string) :
    Own B w (.slice (some ⟨g, 0, none⟩) l.length cap) l :=
  ⟨by simp, .inr ⟨g, cap, cur, rfl, h2, h3, h4, h5, by simpa using h6, by simpa using h7⟩⟩

theorem own_cell {l : List ByteArray} {cur : Array Value} (h7 : cur.toList.take l.length = l.map Value.string) (i : Nat) (hi : i < l.length) : cur[i]? = some (.string (bAt l i)) := by
  have h : (cur.toList.take l.length)[i]? = (l.map Value.string)[i]? := by rw [h7]
  rw [List.getElem?_take, if_pos hi] at h
  simp only [Array.getElem?_toList] at h
  rw [h]
  simp [bAt, List.getD, hi]

theorem Own.strs {B : Nat} {w : World} {v : Value} {l : List ByteArray} (h : Own B w v l) : Strs w v l := by
  rcases h.form with ⟨rfl, rfl⟩ | ⟨g, cap, cur, rfl, _, h3, h4, _, _, h7⟩
  · exact Strs.nil _
  · exact ⟨_, _, rfl, h4, fun h => (by cases h), fun _ => ⟨g, 0, rfl, heap_lt h3, fun i hi => cell_of_heap h3 (by rw [Nat.zero_add]; exact own_cell h7 i hi)⟩⟩

theorem Own.below {B : Nat} {w w' : World} {v : Value} {l : List ByteArray} (h : Own B w v l) (hb : Below w.heap.size w w') : Own B w' v l := by
  rcases h.form with ⟨rfl, rfl⟩ | ⟨g, cap, cur, rfl, h2, h3, h4, h5, h6, h7⟩
  · exact ⟨rfl, .inl ⟨rfl, rfl⟩⟩
  · exact Own.mk h2 ((hb.block _ (heap_lt h3)).trans h3) h4 h5 h6 h7

/-- What slices.Clone leaves: the same strings, in memory of its own. -/
def ClonePost (l : List ByteArray) (w : World) (e : Ending) (w' : World) : Prop := ∃ v, e = .returned v ∧ Own w.heap.size w' v l ∧ Below w.heap.size w w'

theorem clone_any (v : Value) (l : List ByteArray) (w : World) (hv : Strs w v l) (hl : l.length ≤ 100000) : Calls Try.prog 45 #[v] w (ClonePost l w) := by
  rcases hv.shape with ⟨rfl, a, cap, rfl, _⟩ | ⟨h0, b, o, cap, rfl, hcap, hb, hc⟩
  · cases a with
    | none => exact (Try.slices_Clone_string_nil 0 cap w).mono fun e w' ⟨he, hw⟩ => by subst hw; exact ⟨_, he, ⟨rfl, .inl ⟨rfl, rfl⟩⟩, Below.refl _ _⟩
    | some a => exact (Try.slices_Clone_string_zero a cap w).mono fun e w' ⟨v', he, ho, _, hb⟩ => ⟨v', he, ho, hb⟩
  · exact (Try.slices_Clone_string b o l.length cap l w (Nat.le_refl _) (by omega) hc).mono fun e w' ⟨v', he, ho, _, hb⟩ => ⟨v', he, by rw [List.take_length] at ho; exact ho, hb⟩

theorem layFrom_length {s : Nat → Pte} (d : List UInt8) : ∀ {l l' : List ByteArray} {a : Int}, layFrom s l a d = some l' → l'.length = l.length := by
  induction d with
  | nil => intro l l' a h; simp only [layFrom, Option.some.injEq] at h; rw [h]
  | cons b d ih =>
    intro l l' a h
    simp only [layFrom] at h
    cases hs : setAt l s a b with
    | none => simp [hs] at h
    | some l2 =>
      rw [hs, Option.bind_some] at h
      rw [ih h]
      unfold setAt at hs
      cases hh : hit l s true a with
      | none => simp [hh] at hs
      | some p => rw [hh, Option.map_some, Option.some.injEq] at hs; rw [← hs, List.length_set]

/-- What is there when so many bytes are laid. -/
def layL (s : Nat → Pte) (l : List ByteArray) (a : Int) (d : ByteArray) (j : Nat) : List ByteArray := (layFrom s l a ((bl d).take j)).getD l

def LayInv (s : Nat → Pte) (l : List ByteArray) (a : Int) (d : ByteArray) (v : Value) (B po pd : Nat) (j : Nat) (W : World) : Prop :=
  Own B W v (layL s l a d j) ∧ W.heap[po]? = some (.cells #[v] 22 (0, 0)) ∧ W.heap[pd]? = some (.cells #[.string d] 9 (0, 0)) ∧ layFrom s l a ((bl d).take j) = some (layL s l a d j)

theorem layInv_below {s : Nat → Pte} {l : List ByteArray} {a : Int} {d : ByteArray} {v : Value} {B po pd : Nat} (j : Nat) (w1 w2 : World) (h : LayInv s l a d v B po pd j w1) (hb : Below w1.heap.size w1 w2) : LayInv s l a d v B po pd j w2 := by
  obtain ⟨h1, h2, h3, h4⟩ := h
  exact ⟨h1.below hb, (hb.block _ (heap_lt h2)).trans h2, (hb.block _ (heap_lt h3)).trans h3, h4⟩

theorem layInv_step {s : Nat → Pte} {l : List ByteArray} {a : Int} {d : ByteArray} {B po pd g cap : Nat} (h0 : 0 ≤ a) (hpo : po ≠ g) (hpd : pd ≠ g) (j f k m : Nat) (w1 : World)
    (hI : LayInv s l a d (.slice (some ⟨g, 0, none⟩) l.length cap) B po pd j w1) (hh : hit (layL s l a d j) s true (a + j) = some (f, k)) (hm : (m : Int) = min (128 - (k : Int)) ((d.size : Int) - (j : Int))) (hlt : (j : Int) < d.size) :
    Calls Try.prog 46 #[.int .i64 f, .int .i64 k, .int .i64 j, .int .i64 (j + m : Nat), .pointer (some ⟨po, 0, none⟩), .pointer (some ⟨pd, 0, none⟩)] w1 fun e w' =>
      e = .returned (.tuple #[]) ∧ w1.grownBy w' (some g) ∧ LayInv s l a d (.slice (some ⟨g, 0, none⟩) l.length cap) B po pd (j + m) w' := by
  obtain ⟨h1, h2, h3, h4⟩ := hI
  obtain ⟨hf, hk, hsz, _, ha, _⟩ := hit_lt hh
  have hlen : (layL s l a d j).length = l.length := layFrom_length _ h4
  rcases h1.form with ⟨e, _⟩ | ⟨g', cap', cur, e, hB, hg, hcap, hmax, hcs, hcur⟩
  · rw [e] at hf; simp at hf
  simp only [Value.slice.injEq, Option.some.injEq, Addr.mk.injEq] at e
  obtain ⟨⟨rfl, -⟩, -, rfl⟩ := e
  have hjm : j + m ≤ d.size := by omega
  have hdl : ((bl d).drop j).take m = bl (d.extract j (j + m)) := by rw [bl_extract]; congr 1; omega
  have hds : (d.extract j (j + m)).size = m := by rw [ByteArray.size_extract]; omega
  refine (lay1_any po pd g 0 l.length cap f k j (j + m : Nat) (bAt (layL s l a d j) f) d w1 (cell_of_heap h2 rfl) (cell_of_heap h3 rfl) (cell_of_heap hg (by simpa using own_cell hcur f hf)) (frozen_of_heap hg)
    (by omega) (by omega) (by omega) (by omega) (by omega) (by omega) (by omega) (by omega)).mono fun e w' ⟨he, hw⟩ => ?_
  subst hw
  have hx : (bAt (layL s l a d j) f).extract 0 (k : Int).toNat ++ d.extract (j : Int).toNat ((j + m : Nat) : Int).toNat ++ (bAt (layL s l a d j) f).extract ((k : Int) + (d.extract (j : Int).toNat ((j + m : Nat) : Int).toNat).size).toNat (bAt (layL s l a d j) f).size
      = splice (bAt (layL s l a d j) f) k (((bl d).drop j).take m) := by
    simp only [Int.toNat_natCast]
    rw [hds, splice, hdl, bl_length, hds]
    rfl
  rw [hx]
  have hnew : layFrom s l a ((bl d).take (j + m)) = some ((layL s l a d j).set f (splice (bAt (layL s l a d j) f) k (((bl d).drop j).take m))) := by
    have hjl : ((bl d).take j).length = j := by rw [List.length_take, bl_length]; omega
    rw [List.take_add, layFrom_append, h4, Option.bind_some, hjl, layFrom_page _ hh (by omega) (by rw [hdl, bl_length, hds]; omega)]
  have hL : layL s l a d (j + m) = (layL s l a d j).set f (splice (bAt (layL s l a d j) f) k (((bl d).drop j).take m)) := by unfold layL; rw [hnew]; rfl
  have hgr : w1.grownBy (w1.drew.setCell ⟨g, 0 + (f : Int).toNat, none⟩ (.string (splice (bAt (layL s l a d j) f) k (((bl d).drop j).take m)))).drew (some g) :=
    grownBy_drew (grownBy_trans (grownBy_drew (grownBy_refl _ _)) (grownBy_setCell _ _ _ _))
  refine ⟨he, hgr, ?_, (hgr.block po (heap_lt h2) (by simpa using hpo)).trans h2, (hgr.block pd (heap_lt h3) (by simpa using hpd)).trans h3, by rw [hL, hnew]⟩
  rw [hL]
  have hset := heap_setCell_same w1.drew g (0 + (f : Int).toNat) cur 9 (.string (splice (bAt (layL s l a d j) f) k (((bl d).drop j).take m))) hg
  have hown := Own.mk (B := B) (w := (w1.drew.setCell ⟨g, 0 + (f : Int).toNat, none⟩ (.string (splice (bAt (layL s l a d j) f) k (((bl d).drop j).take m)))).drew)
    (l := (layL s l a d j).set f (splice (bAt (layL s l a d j) f) k (((bl d).drop j).take m))) (cap := cap) hB hset (by rw [List.length_set]; omega) hmax (by simpa using hcs) (by
      rw [List.length_set, List.map_set, ← hcur]
      simp [List.take_set])
  rw [List.length_set, hlen] at hown
  exact hown

end Go.Proofs.Ytlhcggaeecjbcaa
