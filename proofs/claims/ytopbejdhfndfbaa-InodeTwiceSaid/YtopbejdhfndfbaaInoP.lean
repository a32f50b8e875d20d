/- Inodes of a volume: what is put is got. No program. No condition. -/
import Derived.Test.YtopbejdhfndfbaaIno7
namespace Go.Proofs.Ytopbejdhfndfbaa
open Go.RowKit
set_option maxRecDepth 20000
def posF (k : Nat) : Nat := if k < 2 then k else if k < 4 then 2 * k - 2 else 2 * k
theorem inoD_at (s : ByteArray) (k : Fin 12) : inoD s (offF k.val) = (leVal (((bl s).drop (posF k.val)).take (widF k.val)) : Nat) := by
  match k with
  | 0 | 1 | 2 | 3 | 4 | 5 | 6 | 7 | 8 | 9 | 10 | 11 => rfl
theorem off_off {k : Nat} : offF (offF k) = k := by
  unfold offF
  by_cases h1 : k = 1
  · subst h1; rfl
  · by_cases h2 : k = 2
    · subst h2; rfl
    · rw [if_neg h1, if_neg h2, if_neg h1, if_neg h2]
theorem inoC_ext {c d : Nat → Int} (h : ∀ k, k < 12 → c (offF k) = d (offF k)) : inoC c = inoC d := by
  have e : ∀ k, k < 12 → c k = d k := fun k hk => by
    have := h (offF k) (offF_lt hk)
    rwa [off_off] at this
  unfold inoC
  rw [e 0 (by decide), e 1 (by decide), e 2 (by decide), e 3 (by decide), e 4 (by decide), e 5 (by decide), e 6 (by decide), e 7 (by decide), e 8 (by decide), e 9 (by decide), e 10 (by decide), e 11 (by decide)]
theorem inoC_inj {c d : Nat → Int} (h : inoC c = inoC d) : ∀ k, k < 12 → c k = d k := by
  intro k hk
  have h1 := inoC_get c hk
  rw [h, inoC_get d hk] at h1
  simpa using h1.symm
theorem flat_at {α : Type} : ∀ (ls : List (List α)) (k : Nat), k < ls.length → ((ls.flatten.drop (ls.take k).flatten.length).take (ls.getD k []).length) = ls.getD k []
  | [], _, h => by simp at h
  | x :: ls, 0, _ => by simp
  | x :: ls, k + 1, h => by
    have := flat_at ls k (by simpa using h)
    rw [List.take_succ_cons, List.flatten_cons, List.flatten_cons, List.length_append, List.drop_length_add_append]
    exact this
theorem inoB_at (c : Nat → Int) (k : Fin 12) : ((inoB c).drop (posF k.val)).take (widF k.val) = leBytes (widF k.val) (fld c k.val) := by
  have h := flat_at ((List.range 12).map fun k => leBytes (widF k) (fld c k)) k.val (by simp)
  have e : inoB c = ((List.range 12).map fun k => leBytes (widF k) (fld c k)).flatten := rfl
  have e2 : ((List.range 12).map fun k => leBytes (widF k) (fld c k)).getD k.val [] = leBytes (widF k.val) (fld c k.val) := by
    rw [List.getD_eq_getElem?_getD, List.getElem?_map, List.getElem?_range k.isLt]
    rfl
  rw [← e, e2, leBytes_length] at h
  have e3 : (((List.range 12).map fun k => leBytes (widF k) (fld c k)).take k.val).flatten.length = posF k.val := by
    rw [← List.map_take, List.length_flatten, List.map_map]
    have : (List.length ∘ fun k => leBytes (widF k) (fld c k)) = widF := funext fun j => leBytes_length _ _
    rw [this]
    match k with
    | 0 | 1 | 2 | 3 | 4 | 5 | 6 | 7 | 8 | 9 | 10 | 11 => rfl
  rw [e3] at h
  exact h
theorem pos_wid (k : Fin 12) : posF k.val + widF k.val ≤ 24 := by
  match k with
  | 0 | 1 | 2 | 3 | 4 | 5 | 6 | 7 | 8 | 9 | 10 | 11 => decide
/-- A text that begins with an inode's bytes. -/
theorem inoD_of {s : ByteArray} {c : Nat → Int} (hf : FitsC c) (hs : (bl s).take 24 = inoB c) : inoC (inoD s) = inoC c := by
  refine inoC_ext fun k hk => ?_
  obtain ⟨h0, h1⟩ := hf k hk
  have hp := pos_wid ⟨k, hk⟩
  have e : ((bl s).drop (posF k)).take (widF k) = leBytes (widF k) (fld c k) := by
    have := inoB_at c ⟨k, hk⟩
    rw [← hs, List.drop_take, List.take_take] at this
    rw [← this, Nat.min_eq_left]
    simp only at hp ⊢
    omega
  have := inoD_at s ⟨k, hk⟩
  simp only at this
  rw [this, e, leVal_leBytes]
  unfold fld
  have h2 : (c (offF k)).toNat < 256 ^ widF k := by
    have : ((c (offF k)).toNat : Int) < ((256 ^ widF k : Nat) : Int) := by
      rw [Int.toNat_of_nonneg h0]
      exact_mod_cast h1
    exact_mod_cast this
  rw [Nat.mod_eq_of_lt h2, Int.toNat_of_nonneg h0]
theorem putB_same {x : ByteArray} {at_ : Nat} {c : Nat → Int} (h : at_ + 64 ≤ x.size) : (bl ((putB x at_ c).extract at_ (at_ + 64))).take 24 = inoB c := by
  have e3 : bl (putB x at_ c) = (bl x).take at_ ++ inoB c ++ (bl x).drop (at_ + 24) := by unfold putB; exact bl_mk _
  have e4 : ((bl x).take at_).length = at_ := by rw [List.length_take, bl_length]; omega
  rw [bl_extract, e3, List.take_take, List.append_assoc, List.drop_left' e4, Nat.add_sub_cancel_left, show min 24 64 = 24 from rfl, List.take_left' (inoB_length c)]
theorem putB_other {x : ByteArray} {at_ a2 : Nat} {c : Nat → Int} (hx : x.size = 128) (h : (at_ = 0 ∧ a2 = 64) ∨ (at_ = 64 ∧ a2 = 0)) : (putB x at_ c).extract a2 (a2 + 64) = x.extract a2 (a2 + 64) := by
  apply bl_ext
  have e3 : bl (putB x at_ c) = (bl x).take at_ ++ inoB c ++ (bl x).drop (at_ + 24) := by unfold putB; exact bl_mk _
  have hl : (bl x).length = 128 := by rw [bl_length, hx]
  rw [bl_extract, bl_extract, e3]
  rcases h with ⟨rfl, rfl⟩ | ⟨rfl, rfl⟩
  · rw [List.take_zero, List.nil_append, List.drop_append, List.drop_of_length_le (by rw [inoB_length]; decide), inoB_length, List.nil_append, List.drop_drop]
  · rw [List.drop_zero, List.drop_zero, List.append_assoc, List.take_append, show 0 + 64 - 0 = 64 from rfl, List.take_take, List.length_take, hl]
    simp
/-- A volume with an inode put. -/
structure Put (l : List ByteArray) (i : Nat) (n : Int) (c : Nat → Int) (L : List ByteArray) (bq at_ : Nat) : Prop where
  n1 : ¬ n < 1
  n2 : ¬ (i : Int) < n
  fits : fitsB c = true
  pl : Pl l n bq at_
  is : L = l.set bq (putB (bAt l bq) at_ c)
theorem Pl.at_le {l : List ByteArray} {n : Int} {bq at_ : Nat} (h : Pl l n bq at_) : at_ + 64 ≤ 128 := by rcases h.two with h | h <;> omega
theorem put_is {l : List ByteArray} {i : Nat} (h : Vol l i) {n : Int} {c : Nat → Int} (he : (mput l n c).2 = 0) : ∃ bq at_, Put l i n c (mput l n c).1 bq at_ := by
  by_cases h1 : n < 1
  · unfold mput at he
    rw [mof_of h] at he
    simp only at he
    rw [if_pos (.inl h1)] at he
    cases he
  · by_cases h2 : (i : Int) < n
    · unfold mput at he
      rw [mof_of h] at he
      simp only at he
      rw [if_pos (.inr h2)] at he
      cases he
    · cases hf : fitsB c with
      | false => rw [mput_unfit h h1 h2 hf] at he; cases he
      | true =>
        obtain ⟨bq, at_, hP, -⟩ := place_ok h h1 h2
        exact ⟨bq, at_, h1, h2, hf, hP, by rw [mput_ok h h1 h2 hP hf]⟩
theorem put_fine {l : List ByteArray} {n : Int} {c : Nat → Int} (he : (mput l n c).2 = 0) : ∃ i, Vol l i := by
  cases h : mof l with
  | none => unfold mput at he; rw [h] at he; cases he
  | some i => exact ⟨i, mof_some h⟩
theorem put_bad {l : List ByteArray} {n : Int} {c : Nat → Int} (he : (mput l n c).2 ≠ 0) : (mput l n c).1 = [] := by
  by_cases h : ∃ i, mof l = some i ∧ ¬ n < 1 ∧ ¬ (i : Int) < n
  · obtain ⟨i, hm, h1, h2⟩ := h
    cases hf : fitsB c with
    | false => rw [mput_unfit (mof_some hm) h1 h2 hf]
    | true =>
      obtain ⟨bq, at_, hP, -⟩ := place_ok (mof_some hm) h1 h2
      rw [mput_ok (mof_some hm) h1 h2 hP hf] at he
      exact absurd rfl he
  · obtain ⟨er, -, -, hU⟩ := mput_err (c := c) h
    rw [hU]
variable {l L : List ByteArray} {i bq at_ : Nat} {n : Int} {c : Nat → Int}
theorem Put.size (hP : Put l i n c L bq at_) : (putB (bAt l bq) at_ c).size = 128 := by
  rw [size_putB _ _ _ (by rw [hP.pl.size]; have := hP.pl.at_le; omega), hP.pl.size]
theorem Put.vol (hP : Put l i n c L bq at_) (h : Vol l i) : Vol L i := by rw [hP.is]; exact vol_put h hP.pl.ge hP.size
theorem Put.len (hP : Put l i n c L bq at_) : L.length = l.length := by rw [hP.is, List.length_set]
theorem Put.block (hP : Put l i n c L bq at_) (k : Nat) : bAt L k = if k = bq then putB (bAt l bq) at_ c else bAt l k := by rw [hP.is, bAt_set _ _ _ _ hP.pl.lt]
theorem Put.back (hP : Put l i n c L bq at_) : inoC (inoD (slotB L (n - 1).toNat)) = inoC c := by
  refine inoD_of ((fitsB_iff c).1 hP.fits) ?_
  unfold slotB
  rw [hP.block, if_pos hP.pl.blk.symm, ← hP.pl.pos]
  exact putB_same (by rw [hP.pl.size]; exact hP.pl.at_le)
theorem Put.other (hP : Put l i n c L bq at_) {k : Nat} (hk : k ≠ (n - 1).toNat) : slotB L k = slotB l k := by
  unfold slotB
  rw [hP.block]
  split
  · next e =>
    have h1 := hP.pl.blk
    have h2 := hP.pl.pos
    rw [e]
    exact putB_other hP.pl.size (by omega)
  · rfl
theorem Put.get (hP : Put l i n c L bq at_) (h : Vol l i) : mget L n = (inoD (slotB L (n - 1).toNat), 0) := get_ok (hP.vol h) hP.n1 hP.n2
theorem Put.gets (hP : Put l i n c L bq at_) (h : Vol l i) {o : Int} (ho : o ≠ n) : mget L o = mget l o := by
  unfold mget
  rw [mof_of (hP.vol h), mof_of h]
  simp only
  split
  · rfl
  · have := hP.n1
    have := hP.n2
    rw [hP.other (by omega)]
end Go.Proofs.Ytopbejdhfndfbaa
