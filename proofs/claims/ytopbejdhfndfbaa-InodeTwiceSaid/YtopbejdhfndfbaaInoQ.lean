/- Inodes of a volume: two that are put, and one that is put as it was. No program. No condition. -/
import Derived.Test.YtopbejdhfndfbaaInoP
namespace Go.Proofs.Ytopbejdhfndfbaa
open Go.RowKit
set_option maxRecDepth 20000
theorem list_ext_bAt {l m : List ByteArray} (hl : l.length = m.length) (h : ∀ k, bAt l k = bAt m k) : l = m := by
  apply List.ext_getElem hl
  intro k h1 h2
  have := h k
  simpa [bAt, List.getD, h1, h2] using this
theorem leBytes_leVal : ∀ x : List UInt8, leBytes x.length (leVal x) = x
  | [] => rfl
  | b :: x => by
    have ih := leBytes_leVal x
    have e : leVal (b :: x) = b.toNat + 256 * leVal x := rfl
    have hb : b.toNat < 256 := b.toNat_lt
    rw [List.length_cons, e]
    unfold leBytes
    rw [show (b.toNat + 256 * leVal x) / 256 = leVal x by omega, ih]
    congr 1
    apply UInt8.toNat.inj
    simp
/-- A text of an inode's bytes, written again. -/
theorem inoB_inoD {s : ByteArray} (hs : 24 ≤ s.size) : inoB (inoD s) = (bl s).take 24 := by
  have hl : (bl s).length = s.size := bl_length s
  have key : ∀ k : Fin 12, ((inoB (inoD s)).drop (posF k.val)).take (widF k.val) = ((bl s).drop (posF k.val)).take (widF k.val) := by
    intro k
    have hp := pos_wid k
    rw [inoB_at]
    unfold fld
    rw [inoD_at, Int.toNat_natCast]
    have := leBytes_leVal (((bl s).drop (posF k.val)).take (widF k.val))
    rwa [List.length_take, List.length_drop, Nat.min_eq_left (by omega)] at this
  have st : ∀ p w, (inoB (inoD s)).take p = (bl s).take p → ((inoB (inoD s)).drop p).take w = ((bl s).drop p).take w → (inoB (inoD s)).take (p + w) = (bl s).take (p + w) := by
    intro p w h1 h2
    rw [List.take_add, List.take_add, h1, h2]
  have h0 : (inoB (inoD s)).take 0 = (bl s).take 0 := rfl
  have h1 := st 0 1 h0 (key 0)
  have h2 := st 1 1 h1 (key 1)
  have h3 := st 2 2 h2 (key 2)
  have h4 := st 4 4 h3 (key 3)
  have h5 := st 8 2 h4 (key 4)
  have h6 := st 10 2 h5 (key 5)
  have h7 := st 12 2 h6 (key 6)
  have h8 := st 14 2 h7 (key 7)
  have h9 := st 16 2 h8 (key 8)
  have h10 := st 18 2 h9 (key 9)
  have h11 := st 20 2 h10 (key 10)
  have h12 := st 22 2 h11 (key 11)
  rw [← h12]
  exact (List.take_of_length_le (by rw [inoB_length]; exact Nat.le_refl _)).symm
theorem fits_inoD (s : ByteArray) : fitsB (inoD s) = true := by
  rw [fitsB_iff]
  intro k hk
  have e := inoD_at s ⟨k, hk⟩
  simp only at e
  rw [e]
  refine ⟨Int.natCast_nonneg _, ?_⟩
  have h := leVal_lt (((bl s).drop (posF k)).take (widF k))
  have h2 : (((bl s).drop (posF k)).take (widF k)).length ≤ widF k := by rw [List.length_take]; omega
  have h3 : 2 ^ (8 * (((bl s).drop (posF k)).take (widF k)).length) ≤ 2 ^ (8 * widF k) := Nat.pow_le_pow_right (by decide) (by omega)
  have h4 : (2 : Nat) ^ (8 * widF k) = 256 ^ widF k := by rw [Nat.pow_mul]
  have h5 : leVal (((bl s).drop (posF k)).take (widF k)) < 256 ^ widF k := by omega
  exact_mod_cast h5
theorem widF_pow {k : Nat} : (256 : Int) ^ widF k ≤ 4294967296 := by
  have h2 : (256 : Int) ^ widF k ≤ 256 ^ 4 := by
    exact_mod_cast Nat.pow_le_pow_right (by decide : 0 < 256) (widF_le k)
  exact h2
theorem inR_fits {c : Nat → Int} (h : fitsB c = true) : InR c := by
  intro k hk
  have h1 := (fitsB_iff c).1 h (offF k) (offF_lt hk)
  rw [off_off] at h1
  have := @widF_pow (offF k)
  omega
theorem inR_inoD (s : ByteArray) : InR (inoD s) := inR_fits (fits_inoD s)
theorem putB_as {x : ByteArray} {at_ : Nat} (h : at_ + 64 ≤ x.size) : putB x at_ (inoD (x.extract at_ (at_ + 64))) = x := by
  apply bl_ext
  have e3 : bl (putB x at_ (inoD (x.extract at_ (at_ + 64)))) = (bl x).take at_ ++ inoB (inoD (x.extract at_ (at_ + 64))) ++ (bl x).drop (at_ + 24) := by unfold putB; exact bl_mk _
  rw [e3, inoB_inoD (by rw [ByteArray.size_extract]; omega), bl_extract, List.take_take, ← List.take_add, show min 24 (at_ + 64 - at_) = 24 by omega, List.take_append_drop]
theorem bl_putB (x : ByteArray) (at_ : Nat) (c : Nat → Int) : bl (putB x at_ c) = (bl x).take at_ ++ inoB c ++ (bl x).drop (at_ + 24) := by unfold putB; exact bl_mk _
theorem putB_both {x : ByteArray} {c d : Nat → Int} (hx : x.size = 128) : putB (putB x 0 c) 64 d = putB (putB x 64 d) 0 c := by
  apply bl_ext
  have hl : (bl x).length = 128 := by rw [bl_length, hx]
  have hc := inoB_length c
  have hd := inoB_length d
  rw [bl_putB, bl_putB, bl_putB, bl_putB]
  generalize inoB c = C at hc
  generalize inoB d = D at hd
  generalize bl x = X at hl
  apply List.ext_getElem?
  intro k
  simp only [List.getElem?_append, List.getElem?_take, List.getElem?_drop, List.length_append, List.length_take, List.length_drop, hc, hd, hl, List.take_zero, List.nil_append]
  grind
variable {l : List ByteArray} {i bq at_ bm am : Nat} {n m : Int} {c d : Nat → Int} {A B : List ByteArray}
theorem mput_put (h : Vol l i) (hP : Put l i n c A bq at_) : mput l n c = (A, 0) := by rw [mput_ok h hP.n1 hP.n2 hP.pl hP.fits, hP.is]
/-- A place of a volume is the same place when another inode is put. -/
theorem Pl.put (hP : Put l i n c A bq at_) (h : Vol l i) (hm : Pl l m bm am) (_h1 : ¬ m < 1) (_h2 : ¬ (i : Int) < m) : Pl A m bm am := by
  have hk := h.size
  refine ⟨by rw [hP.len]; exact hm.lt, hm.ge, hm.two, ?_, ?_, hm.blk, hm.pos⟩
  · exact (hP.vol h).size bm (by rw [hP.len]; exact hm.lt)
  · unfold slotB
    rw [← hm.blk, ← hm.pos]
theorem Put.then (hP : Put l i n c A bq at_) (h : Vol l i) (hQ : Put l i m d B bm am) : Put A i m d (A.set bm (putB (bAt A bm) am d)) bm am :=
  ⟨hQ.n1, hQ.n2, hQ.fits, hQ.pl.put hP h hQ.n1 hQ.n2, rfl⟩
/-- Two that are put are put in either order. -/
theorem Put.swap (hP : Put l i n c A bq at_) (_h : Vol l i) (hQ : Put l i m d B bm am) (hnm : n ≠ m) : A.set bm (putB (bAt A bm) am d) = B.set bq (putB (bAt B bq) at_ c) := by
  apply list_ext_bAt
  · rw [List.length_set, List.length_set, hP.len, hQ.len]
  · intro k
    have p1 := hP.pl.lt
    have q1 := hQ.pl.lt
    rw [bAt_set _ _ _ _ (by rw [hP.len]; exact q1), bAt_set _ _ _ _ (by rw [hQ.len]; exact p1), hP.block, hP.block, hQ.block, hQ.block]
    by_cases e : bq = bm
    · subst e
      rw [if_pos rfl, if_pos rfl]
      by_cases ek : k = bq
      · rw [if_pos ek, if_pos ek]
        have a1 := hP.pl.pos
        have a2 := hQ.pl.pos
        have a3 := hP.pl.blk
        have a4 := hQ.pl.blk
        have n1 := hP.n1
        have m1 := hQ.n1
        have hx := hP.pl.size
        rcases hP.pl.two with rfl | rfl <;> rcases hQ.pl.two with rfl | rfl
        · omega
        · exact putB_both hx
        · exact (putB_both hx).symm
        · omega
      · rw [if_neg ek, if_neg ek, if_neg ek, if_neg ek]
    · rw [if_neg (Ne.symm e), if_neg e]
      by_cases ek : k = bm
      · rw [if_pos ek, if_neg (by omega), if_pos ek]
      · rw [if_neg ek, if_neg ek]
/-- One that is put as it was changes nothing. -/
theorem put_as (h : Vol l i) (h1 : ¬ n < 1) (h2 : ¬ (i : Int) < n) : mput l n (inoD (slotB l (n - 1).toNat)) = (l, 0) := by
  obtain ⟨bq, at_, hP, -⟩ := place_ok h h1 h2
  rw [mput_ok h h1 h2 hP (fits_inoD _)]
  refine Prod.ext ?_ rfl
  apply list_ext_bAt (by rw [List.length_set])
  intro k
  rw [bAt_set _ _ _ _ hP.lt]
  split
  · next e =>
    rw [e, hP.slot]
    exact putB_as (by rw [hP.size]; exact hP.at_le)
  · rfl
end Go.Proofs.Ytopbejdhfndfbaa
