/- Memory as frames and pages, in plain Lean: what is found, loaded, stored, copied and laid, byte by byte; page by page is the same. No program. No condition. -/
import Derived.Test.YtlhcggaeecjbcaaPlain
import Derived.Lib.Strings
namespace Go.Proofs.Ytlhcggaeecjbcaa

structure Pte where
  is : Bool
  write : Bool
  frame : Int

def bAt (l : List ByteArray) (i : Nat) : ByteArray := l.getD i ByteArray.empty
/-- Its bytes. -/
def bl (x : ByteArray) : List UInt8 := x.data.toList
theorem bl_ext {x y : ByteArray} (h : bl x = bl y) : x = y := ByteArray.ext (by
  have : x.data.toList = y.data.toList := h
  exact Array.toList_inj.1 this)
theorem bl_length (x : ByteArray) : (bl x).length = x.size := by simp [bl]
theorem bl_append (x y : ByteArray) : bl (x ++ y) = bl x ++ bl y := by simp [bl, ByteArray.data_append]
theorem bl_extract (x : ByteArray) (a b : Nat) : bl (x.extract a b) = ((bl x).drop a).take (b - a) := Lib.extract_data x a b
theorem bl_mk (l : List UInt8) : bl ⟨l.toArray⟩ = l := by simp [bl]

def thereB (l : List ByteArray) (i : Int) : Bool := decide (0 ≤ i) && decide (i < l.length) && (((bAt l i.toNat).size : Int) == 128)

def pg (s : Nat → Pte) (a : Int) : Pte := s (a / 128).toNat
def mfind (s : Nat → Pte) (a : Int) (size : Int) (wr : Bool) : Option (Int × Int) :=
  if (size = 1 ∨ size = 4) ∧ a < 2048 ∧ a % size = 0 then
    if (pg s a).is = true ∧ (wr = true → (pg s a).write = true) then some ((pg s a).frame, a % 128) else none
  else none

/-- The frame and the place of one byte that is there. -/
def hit (l : List ByteArray) (s : Nat → Pte) (wr : Bool) (a : Int) : Option (Nat × Nat) :=
  if a < 2048 ∧ (pg s a).is = true ∧ (wr = true → (pg s a).write = true) ∧ thereB l (pg s a).frame = true then some ((pg s a).frame.toNat, (a % 128).toNat) else none

def byteOf (x : ByteArray) (k : Nat) : UInt8 := (bl x).getD k 0
def setB (x : ByteArray) (k : Nat) (b : UInt8) : ByteArray := ⟨((bl x).set k b).toArray⟩
theorem bl_setB (x : ByteArray) (k : Nat) (b : UInt8) : bl (setB x k b) = (bl x).set k b := bl_mk _
theorem size_setB (x : ByteArray) (k : Nat) (b : UInt8) : (setB x k b).size = x.size := by
  rw [← bl_length, bl_setB, List.length_set, bl_length]

def byteAt (l : List ByteArray) (s : Nat → Pte) (a : Int) : Option UInt8 := (hit l s false a).map fun p => byteOf (bAt l p.1) p.2
def setAt (l : List ByteArray) (s : Nat → Pte) (a : Int) (b : UInt8) : Option (List ByteArray) := (hit l s true a).map fun p => l.set p.1 (setB (bAt l p.1) p.2 b)

def copyFrom (l : List ByteArray) (s : Nat → Pte) (a : Int) : Nat → Option (List UInt8)
  | 0 => some []
  | n + 1 => (byteAt l s a).bind fun b => (copyFrom l s (a + 1) n).map (b :: ·)
def layFrom (s : Nat → Pte) : (l : List ByteArray) → (a : Int) → List UInt8 → Option (List ByteArray)
  | l, _, [] => some l
  | l, a, b :: bs => (setAt l s a b).bind fun l' => layFrom s l' (a + 1) bs

def mcopy (l : List ByteArray) (s : Nat → Pte) (a n : Int) : Option (List UInt8) := if n < 0 ∨ 2048 < a + n then none else copyFrom l s a n.toNat
def mlay (l : List ByteArray) (s : Nat → Pte) (a : Int) (d : List UInt8) : Option (List ByteArray) := if 2048 < a + d.length then none else layFrom s l a d
def mload (l : List ByteArray) (s : Nat → Pte) (a size : Int) : Option Nat := if (size = 1 ∨ size = 4) ∧ a % size = 0 then (copyFrom l s a size.toNat).map leVal else none
def mstore (l : List ByteArray) (s : Nat → Pte) (a size : Int) (v : Nat) : Option (List ByteArray) := if (size = 1 ∨ size = 4) ∧ a % size = 0 then layFrom s l a (leBytes size.toNat v) else none

/-! ### within one page -/
theorem pg_step (s : Nat → Pte) (a j : Int) (hj : 0 ≤ j) (h : a % 128 + j < 128) : pg s (a + j) = pg s a := by
  unfold pg
  rw [show (a + j) / 128 = a / 128 from by omega]

theorem hit_step {l : List ByteArray} {s : Nat → Pte} {wr : Bool} {a : Int} {f k : Nat} (h : hit l s wr a = some (f, k)) (h0 : 0 ≤ a) (j : Nat) (hj : k + j < 128) :
    hit l s wr (a + j) = some (f, k + j) := by
  unfold hit at h ⊢
  split at h
  · rename_i hc
    simp only [Option.some.injEq, Prod.mk.injEq] at h
    obtain ⟨rfl, rfl⟩ := h
    rw [pg_step s a j (by omega) (by omega), if_pos ⟨by omega, hc.2⟩]
    simp only [Option.some.injEq, Prod.mk.injEq, true_and]
    omega
  · cases h

theorem hit_lt {l : List ByteArray} {s : Nat → Pte} {wr : Bool} {a : Int} {f k : Nat} (h : hit l s wr a = some (f, k)) :
    f < l.length ∧ k < 128 ∧ (bAt l f).size = 128 ∧ (k : Int) = a % 128 ∧ a < 2048 ∧ (f : Int) = (pg s a).frame ∧ (pg s a).is = true ∧ (wr = true → (pg s a).write = true) := by
  unfold hit at h
  split at h
  · rename_i hc
    simp only [Option.some.injEq, Prod.mk.injEq] at h
    obtain ⟨rfl, rfl⟩ := h
    obtain ⟨h1, h2, h3, h4⟩ := hc
    simp only [thereB, Bool.and_eq_true, decide_eq_true_eq, beq_iff_eq] at h4
    exact ⟨by omega, by omega, by omega, by omega, h1, by omega, h2, h3⟩
  · cases h

theorem hit_find (l : List ByteArray) (s : Nat → Pte) (wr : Bool) (a : Int) :
    hit l s wr a = match mfind s a 1 wr with
      | some (f, k) => if thereB l f = true then some (f.toNat, k.toNat) else none
      | none => none := by
  unfold hit mfind
  by_cases h1 : a < 2048
  · rw [if_pos (show (1 = (1 : Int) ∨ (1 : Int) = 4) ∧ a < 2048 ∧ a % 1 = 0 from ⟨.inl rfl, h1, by omega⟩)]
    by_cases h2 : (pg s a).is = true ∧ (wr = true → (pg s a).write = true)
    · rw [if_pos h2]
      by_cases h3 : thereB l (pg s a).frame = true
      · simp [h1, h2.1, h3]; exact h2.2
      · simp [h3]
    · rw [if_neg h2, if_neg (fun h => h2 ⟨h.2.1, h.2.2.1⟩)]
  · rw [if_neg (fun h => h1 h.1), if_neg (fun h => h1 h.2.1)]

/-! ### bytes that are copied -/
theorem copyFrom_add (l : List ByteArray) (s : Nat → Pte) (m n : Nat) : ∀ a : Int, copyFrom l s a (m + n) = (copyFrom l s a m).bind fun x => (copyFrom l s (a + m) n).map (x ++ ·) := by
  induction m with
  | zero =>
    intro a
    simp only [Nat.zero_add, copyFrom, Option.bind_some, List.nil_append, Int.natCast_zero, Int.add_zero]
    cases copyFrom l s a n <;> rfl
  | succ m ih =>
    intro a
    rw [show m + 1 + n = (m + n) + 1 from by omega]
    simp only [copyFrom]
    cases byteAt l s a with
    | none => rfl
    | some b =>
      simp only [Option.bind_some]
      rw [ih (a + 1), show a + 1 + (m : Int) = a + ((m + 1 : Nat) : Int) from by omega]
      cases copyFrom l s (a + 1) m with
      | none => rfl
      | some x =>
        simp only [Option.bind_some, Option.map_some]
        cases copyFrom l s (a + ((m + 1 : Nat) : Int)) n <;> rfl

theorem copyFrom_page {l : List ByteArray} {s : Nat → Pte} (m : Nat) : ∀ {a : Int} {f k : Nat}, hit l s false a = some (f, k) → 0 ≤ a → k + m ≤ 128 →
    copyFrom l s a m = some (((bl (bAt l f)).drop k).take m) := by
  induction m with
  | zero => intros; simp [copyFrom]
  | succ m ih =>
    intro a f k h h0 hm
    obtain ⟨_, hk, hs, _⟩ := hit_lt h
    have hb : byteAt l s a = some (byteOf (bAt l f) k) := by simp [byteAt, h]
    simp only [copyFrom, hb, Option.bind_some]
    have hlen : k < (bl (bAt l f)).length := by rw [bl_length, hs]; exact hk
    have hd : ((bl (bAt l f)).drop k).take (m + 1) = byteOf (bAt l f) k :: ((bl (bAt l f)).drop (k + 1)).take m := by
      rw [List.drop_eq_getElem_cons hlen, List.take_succ_cons, byteOf, List.getD_eq_getElem?_getD, List.getElem?_eq_getElem hlen, Option.getD_some]
    rw [hd]
    cases m with
    | zero => simp [copyFrom]
    | succ m =>
      have h1 := hit_step h h0 1 (by omega)
      rw [ih (a := a + 1) (f := f) (k := k + 1) (by exact_mod_cast h1) (by omega) (by omega)]
      rfl

theorem copyFrom_none {l : List ByteArray} {s : Nat → Pte} {a : Int} (h : hit l s false a = none) (n : Nat) (hn : 0 < n) : copyFrom l s a n = none := by
  obtain ⟨m, rfl⟩ : ∃ m, n = m + 1 := ⟨n - 1, by omega⟩
  simp [copyFrom, byteAt, h]

theorem copyFrom_length {l : List ByteArray} {s : Nat → Pte} (n : Nat) : ∀ {a : Int} {x : List UInt8}, copyFrom l s a n = some x → x.length = n := by
  induction n with
  | zero => intro a x h; simp only [copyFrom, Option.some.injEq] at h; subst h; rfl
  | succ n ih =>
    intro a x h
    simp only [copyFrom] at h
    cases hb : byteAt l s a with
    | none => simp [hb] at h
    | some b =>
      rw [hb, Option.bind_some] at h
      cases hc : copyFrom l s (a + 1) n with
      | none => simp [hc] at h
      | some y =>
        rw [hc, Option.map_some, Option.some.injEq] at h
        subst h
        simp [ih hc]

/-! ### bytes that are laid -/
def splice (x : ByteArray) (k : Nat) (d : List UInt8) : ByteArray := (x.extract 0 k ++ ⟨d.toArray⟩) ++ x.extract (k + d.length) x.size
theorem bl_splice (x : ByteArray) (k : Nat) (d : List UInt8) (_h : k + d.length ≤ x.size) : bl (splice x k d) = (bl x).take k ++ d ++ (bl x).drop (k + d.length) := by
  rw [splice, bl_append, bl_append, bl_extract, bl_extract, bl_mk d, Nat.sub_zero, List.drop_zero]
  rw [List.take_of_length_le (l := (bl x).drop (k + d.length)) (by rw [List.length_drop, bl_length]; omega)]
theorem size_splice (x : ByteArray) (k : Nat) (d : List UInt8) (h : k + d.length ≤ x.size) : (splice x k d).size = x.size := by
  rw [← bl_length, bl_splice x k d h]
  simp only [List.length_append, List.length_take, List.length_drop, bl_length]
  omega

theorem splice_cons (x : ByteArray) (k : Nat) (b : UInt8) (d : List UInt8) (h : k + (d.length + 1) ≤ x.size) : splice x k (b :: d) = splice (setB x k b) (k + 1) d := by
  have hx : k < (bl x).length := by rw [bl_length]; omega
  apply bl_ext
  rw [bl_splice _ _ _ (by simpa using h), bl_splice _ _ _ (by rw [size_setB]; omega), bl_setB, List.take_set, List.drop_set_of_lt (by omega)]
  rw [List.take_succ_eq_append_getElem hx, List.set_append_right _ _ (by rw [List.length_take]; omega)]
  simp only [List.length_take, List.length_cons]
  rw [show k - min k (bl x).length = 0 from by omega, show k + (d.length + 1) = k + 1 + d.length from by omega]
  simp

theorem splice_nil (x : ByteArray) (k : Nat) (h : k ≤ x.size) : splice x k [] = x := by
  apply bl_ext
  rw [bl_splice _ _ _ (by simpa using h)]
  simp

theorem bAt_set_same (l : List ByteArray) (f : Nat) (x : ByteArray) (h : f < l.length) : bAt (l.set f x) f = x := by simp [bAt, List.getD, h]
theorem bAt_set_other (l : List ByteArray) (f g : Nat) (x : ByteArray) (h : f ≠ g) : bAt (l.set f x) g = bAt l g := by simp [bAt, List.getD, h]

theorem thereB_set (l : List ByteArray) (f : Nat) (x : ByteArray) (hx : x.size = (bAt l f).size) (i : Int) : thereB (l.set f x) i = thereB l i := by
  unfold thereB
  rw [List.length_set]
  by_cases h : f = i.toNat
  · by_cases hf : f < l.length
    · rw [← h, bAt_set_same l f x hf, hx]
    · rw [List.set_eq_of_length_le (by omega)]
  · rw [bAt_set_other l f _ x h]

theorem hit_set (l : List ByteArray) (s : Nat → Pte) (wr : Bool) (a : Int) (f : Nat) (x : ByteArray) (hx : x.size = (bAt l f).size) : hit (l.set f x) s wr a = hit l s wr a := by
  unfold hit
  rw [thereB_set l f x hx]

theorem layFrom_append (s : Nat → Pte) (x y : List UInt8) : ∀ (l : List ByteArray) (a : Int), layFrom s l a (x ++ y) = (layFrom s l a x).bind fun l' => layFrom s l' (a + x.length) y := by
  induction x with
  | nil => intro l a; simp [layFrom]
  | cons b x ih =>
    intro l a
    simp only [List.cons_append, layFrom]
    cases setAt l s a b with
    | none => rfl
    | some l' =>
      simp only [Option.bind_some]
      rw [ih, List.length_cons, show a + 1 + (x.length : Int) = a + ((x.length + 1 : Nat) : Int) from by omega]

theorem layFrom_page {s : Nat → Pte} (d : List UInt8) : ∀ {l : List ByteArray} {a : Int} {f k : Nat}, hit l s true a = some (f, k) → 0 ≤ a → k + d.length ≤ 128 →
    layFrom s l a d = some (l.set f (splice (bAt l f) k d)) := by
  induction d with
  | nil =>
    intro l a f k h h0 hm
    obtain ⟨hf, hk, hs, _⟩ := hit_lt h
    rw [layFrom, splice_nil _ _ (by omega)]
    congr 1
    apply List.ext_getElem?
    intro i
    rw [List.getElem?_set]
    split
    · rename_i e; subst e; simp [hf, bAt, List.getD]
    · rfl
  | cons b d ih =>
    intro l a f k h h0 hm
    obtain ⟨hf, hk, hs, _⟩ := hit_lt h
    have hb : setAt l s a b = some (l.set f (setB (bAt l f) k b)) := by simp [setAt, h]
    simp only [List.length_cons] at hm
    simp only [layFrom, hb, Option.bind_some]
    rw [splice_cons _ _ _ _ (by omega)]
    cases d with
    | nil => rw [layFrom, splice_nil _ _ (by rw [size_setB]; omega)]
    | cons c d =>
      have h1 := hit_step h h0 1 (by simp only [List.length_cons] at hm; omega)
      have h2 : hit (l.set f (setB (bAt l f) k b)) s true (a + 1) = some (f, k + 1) := by
        rw [hit_set _ _ _ _ _ _ (size_setB _ _ _)]; exact_mod_cast h1
      rw [ih h2 (by omega) (by simp only [List.length_cons] at hm ⊢; omega), bAt_set_same _ _ _ hf, List.set_set]

theorem layFrom_none {l : List ByteArray} {s : Nat → Pte} {a : Int} (h : hit l s true a = none) (d : List UInt8) (hd : 0 < d.length) : layFrom s l a d = none := by
  cases d with
  | nil => simp at hd
  | cons b d => simp [layFrom, setAt, h]

end Go.Proofs.Ytlhcggaeecjbcaa
