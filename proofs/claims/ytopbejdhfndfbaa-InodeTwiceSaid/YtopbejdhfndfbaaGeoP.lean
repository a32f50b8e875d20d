/- Volumes in plain Lean: the plan, the map's bits, what is taken and given back. No program. No condition. -/
import Derived.Test.YtopbejdhfndfbaaMem
namespace Go.Proofs.Ytopbejdhfndfbaa

/-! ### bits of a text -/
def hasB (m : ByteArray) (i : Nat) : Bool := (byteOf m (i / 8)).toNat.testBit (i % 8)
def turnB (m : ByteArray) (i : Nat) : ByteArray := setB m (i / 8) (UInt8.ofNat ((byteOf m (i / 8)).toNat ^^^ 2 ^ (i % 8)))
theorem byteOf_setB_other (x : ByteArray) (k j : Nat) (b : UInt8) (h : j ≠ k) : byteOf (setB x k b) j = byteOf x j := by
  unfold byteOf
  rw [bl_setB, List.getD_eq_getElem?_getD, List.getD_eq_getElem?_getD, List.getElem?_set_ne (Ne.symm h)]
theorem byteOf_setB_same (x : ByteArray) (k : Nat) (b : UInt8) (h : k < x.size) : byteOf (setB x k b) k = b := by
  unfold byteOf
  rw [bl_setB, List.getD_eq_getElem?_getD, List.getElem?_set_self (by rw [bl_length]; exact h)]
  rfl
theorem byteOf_ext {x y : ByteArray} (hs : x.size = y.size) (h : ∀ k, k < x.size → byteOf x k = byteOf y k) : x = y := by
  apply bl_ext
  apply List.ext_getElem
  · rw [bl_length, bl_length, hs]
  · intro k h1 h2
    have := h k (by rw [bl_length] at h1; exact h1)
    unfold byteOf at this
    rw [List.getD_eq_getElem?_getD, List.getD_eq_getElem?_getD, List.getElem?_eq_getElem h1, List.getElem?_eq_getElem h2] at this
    exact this
theorem size_turnB (m : ByteArray) (i : Nat) : (turnB m i).size = m.size := size_setB _ _ _
theorem xor_lt (b : UInt8) (k : Nat) (h : k < 8) : b.toNat ^^^ 2 ^ k < 256 := by
  have h1 : b.toNat < 2 ^ 8 := b.toNat_lt
  have h2 : 2 ^ k < 2 ^ 8 := Nat.pow_lt_pow_right (by decide) h
  exact Nat.xor_lt_two_pow h1 h2
theorem toNat_xor (b : UInt8) (k : Nat) (h : k < 8) : (UInt8.ofNat (b.toNat ^^^ 2 ^ k)).toNat = b.toNat ^^^ 2 ^ k := by
  rw [UInt8.toNat_ofNat']
  exact Nat.mod_eq_of_lt (xor_lt b k h)
theorem has_turn (m : ByteArray) (i j : Nat) (h : i / 8 < m.size) : hasB (turnB m i) j = if j = i then !hasB m i else hasB m j := by
  unfold hasB turnB
  by_cases hq : j / 8 = i / 8
  · rw [hq, byteOf_setB_same _ _ _ h, toNat_xor _ _ (Nat.mod_lt _ (by decide)), Nat.testBit_xor, Nat.testBit_two_pow]
    by_cases hj : j = i
    · subst hj
      simp
    · rw [if_neg hj]
      have : ¬ i % 8 = j % 8 := by omega
      simp [this]
  · rw [byteOf_setB_other _ _ _ _ hq, if_neg (fun e => hq (by rw [e]))]
theorem turn_turn (m : ByteArray) (i : Nat) (h : i / 8 < m.size) : turnB (turnB m i) i = m := by
  refine byteOf_ext (by rw [size_turnB, size_turnB]) fun k hk => ?_
  rw [size_turnB, size_turnB] at hk
  unfold turnB
  by_cases e : k = i / 8
  · subst e
    rw [byteOf_setB_same _ _ _ (by rw [size_setB]; exact h), byteOf_setB_same _ _ _ h, toNat_xor _ _ (Nat.mod_lt _ (by decide)), Nat.xor_assoc, Nat.xor_self, Nat.xor_zero]
    exact UInt8.ofNat_toNat
  · rw [byteOf_setB_other _ _ _ _ e, byteOf_setB_other _ _ _ _ e]
theorem has_ext {x y : ByteArray} (hs : x.size = y.size) (h : ∀ i, hasB x i = hasB y i) : x = y := by
  refine byteOf_ext hs fun k _ => ?_
  apply UInt8.toNat_inj.1
  apply Nat.eq_of_testBit_eq
  intro j
  by_cases hj : j < 8
  · have := h (8 * k + j)
    unfold hasB at this
    rw [show (8 * k + j) / 8 = k from by omega, show (8 * k + j) % 8 = j from by omega] at this
    exact this
  · rw [Nat.testBit_lt_two_pow (Nat.lt_of_lt_of_le (byteOf x k).toNat_lt (Nat.pow_le_pow_right (by decide) (by omega : 8 ≤ j))), Nat.testBit_lt_two_pow (Nat.lt_of_lt_of_le (byteOf y k).toNat_lt (Nat.pow_le_pow_right (by decide) (by omega : 8 ≤ j)))]
/-- How many of the first 'n' bits are set. -/
def cntB (m : ByteArray) : Nat → Nat
  | 0 => 0
  | n + 1 => cntB m n + if hasB m n then 1 else 0
theorem cntB_le (m : ByteArray) (n : Nat) : cntB m n ≤ n := by
  induction n with
  | zero => exact Nat.le_refl _
  | succ n ih => simp only [cntB]; split <;> omega
theorem cnt_turn (m : ByteArray) (i n : Nat) (h : i / 8 < m.size) : (cntB (turnB m i) n : Int) = cntB m n + (if i < n then (if hasB m i then -1 else 1) else 0) := by
  induction n with
  | zero => simp [cntB]
  | succ n ih =>
    simp only [cntB]
    rw [has_turn m i n h]
    by_cases e : n = i
    · subst e
      rw [if_pos rfl]
      rw [if_neg (Nat.lt_irrefl _)] at ih
      rw [if_pos (Nat.lt_succ_self _)]
      cases hasB m n <;> simp <;> omega
    · rw [if_neg e]
      by_cases hl : i < n
      · rw [if_pos hl] at ih
        rw [if_pos (by omega : i < n + 1)]
        omega
      · rw [if_neg hl] at ih
        rw [if_neg (by omega : ¬ i < n + 1)]
        omega
/-- How many bits of a byte are set. -/
def popB (b : UInt8) : Nat := (List.range 8).countP fun i => b.toNat.testBit i
theorem cnt_byte (m : ByteArray) (k : Nat) : cntB m (8 * (k + 1)) = cntB m (8 * k) + popB (byteOf m k) := by
  rw [show 8 * (k + 1) = 8 * k + 1 + 1 + 1 + 1 + 1 + 1 + 1 + 1 from by omega]
  have e : ∀ j, j < 8 → hasB m (8 * k + j) = (byteOf m k).toNat.testBit j := fun j hj => by
    unfold hasB
    rw [show (8 * k + j) / 8 = k from by omega, show (8 * k + j) % 8 = j from by omega]
  simp only [cntB]
  rw [show hasB m (8 * k) = _ from e 0 (by decide), show hasB m (8 * k + 1) = _ from e 1 (by decide), show hasB m (8 * k + 1 + 1) = _ from e 2 (by decide), show hasB m (8 * k + 1 + 1 + 1) = _ from e 3 (by decide), show hasB m (8 * k + 1 + 1 + 1 + 1) = _ from e 4 (by decide),
    show hasB m (8 * k + 1 + 1 + 1 + 1 + 1) = _ from e 5 (by decide), show hasB m (8 * k + 1 + 1 + 1 + 1 + 1 + 1) = _ from e 6 (by decide), show hasB m (8 * k + 1 + 1 + 1 + 1 + 1 + 1 + 1) = _ from e 7 (by decide)]
  unfold popB
  simp only [show List.range 8 = [0, 1, 2, 3, 4, 5, 6, 7] from rfl, List.countP_cons, List.countP_nil]
  omega

/-! ### the plan and the head -/
def zeros (n : Nat) : ByteArray := ⟨(List.replicate n (0 : UInt8)).toArray⟩
def zb : ByteArray := zeros 128
theorem bl_zeros (n : Nat) : bl (zeros n) = List.replicate n 0 := bl_mk _
theorem size_zeros (n : Nat) : (zeros n).size = n := by rw [← bl_length, bl_zeros, List.length_replicate]
theorem byteOf_zeros (n k : Nat) : byteOf (zeros n) k = 0 := by
  unfold byteOf
  rw [bl_zeros, List.getD_eq_getElem?_getD, List.getElem?_replicate]
  split <;> rfl
theorem has_zeros (n i : Nat) : hasB (zeros n) i = false := by
  unfold hasB
  rw [byteOf_zeros]
  exact Nat.zero_testBit _
def dataOf (i : Int) : Int := 3 + (i + 1) / 2
/-- Why there is no plan. -/
def planErr (b i : Int) : Int := if b < 16 ∨ 223 < b ∨ i < 4 ∨ 64 < i then 2 else if b ≤ dataOf i then 10 else 0
def mark : List UInt8 := [104, 105, 98, 49]
def headL (b i : Nat) : List UInt8 := mark ++ leBytes 2 b ++ leBytes 2 i
def headB (b i : Nat) : ByteArray := ⟨(headL b i ++ List.replicate 120 0).toArray⟩
theorem bl_head (b i : Nat) : bl (headB b i) = headL b i ++ List.replicate 120 0 := bl_mk _
theorem headL_length (b i : Nat) : (headL b i).length = 8 := by simp [headL, mark, leBytes_length]
theorem size_head (b i : Nat) : (headB b i).size = 128 := by rw [← bl_length, bl_head, List.length_append, headL_length, List.length_replicate]
/-- The number of inodes that block 0 tells. -/
def inoOf (x : ByteArray) : Nat := leVal ((bl x).drop 6 |>.take 2)
theorem inoOf_head (b i : Nat) (hi : i < 65536) : inoOf (headB b i) = i := by
  unfold inoOf
  rw [bl_head]
  have h1 : (headL b i ++ List.replicate 120 0).drop 6 = leBytes 2 i ++ List.replicate 120 0 := by
    unfold headL
    rw [List.append_assoc, List.drop_append_of_le_length (by simp [mark, leBytes_length])]
    rw [List.drop_eq_nil_of_le (by simp [mark, leBytes_length])]
    rfl
  rw [h1, List.take_append_of_le_length (by simp [leBytes_length]), List.take_of_length_le (by simp [leBytes_length]), leVal_leBytes]
  exact Nat.mod_eq_of_lt hi
theorem inoOf_lt (x : ByteArray) : inoOf x < 65536 := by
  have := leVal_lt ((bl x).drop 6 |>.take 2)
  unfold inoOf
  refine Nat.lt_of_lt_of_le this ?_
  have h : ((bl x).drop 6 |>.take 2).length ≤ 2 := by simp [List.length_take]; omega
  calc 2 ^ (8 * ((bl x).drop 6 |>.take 2).length) ≤ 2 ^ 16 := Nat.pow_le_pow_right (by decide) (by omega)
    _ = 65536 := rfl
def rightTo (m : ByteArray) (d : Nat) : Bool := (List.range d).all fun i => hasB m i
def restTo (m : ByteArray) (b n : Nat) : Bool := (List.range n).all fun i => !(decide (b ≤ i) && hasB m i)
/-- Is a map one of a plan? -/
def rightB (m : ByteArray) (b d : Nat) : Bool := rightTo m d && restTo m b 1024
def sizesB (v : List ByteArray) : Bool := v.all fun x => x.size == 128
def okV (v : List ByteArray) : Bool :=
  sizesB v && decide (planErr v.length (inoOf (bAt v 0)) = 0) && decide (bAt v 0 = headB v.length (inoOf (bAt v 0))) && rightB (bAt v 2) v.length (dataOf (inoOf (bAt v 0))).toNat
/-- The number of inodes of a volume. -/
def mof (v : List ByteArray) : Option Nat := if okV v then some (inoOf (bAt v 0)) else none
def dof (i : Nat) : Nat := 3 + (i + 1) / 2
theorem dataOf_nat (i : Nat) : dataOf i = (dof i : Int) := by unfold dataOf dof; omega
structure Vol (v : List ByteArray) (i : Nat) : Prop where
  b0 : 16 ≤ v.length
  b1 : v.length ≤ 223
  i0 : 4 ≤ i
  i1 : i ≤ 64
  d : dof i < v.length
  size : ∀ k, k < v.length → (bAt v k).size = 128
  head : bAt v 0 = headB v.length i
  low : ∀ k, k < dof i → hasB (bAt v 2) k = true
  high : ∀ k, v.length ≤ k → k < 1024 → hasB (bAt v 2) k = false
theorem planErr_ok {b i : Int} (h : planErr b i = 0) : 16 ≤ b ∧ b ≤ 223 ∧ 4 ≤ i ∧ i ≤ 64 ∧ dataOf i < b := by
  unfold planErr at h
  split at h
  · cases h
  · split at h
    · cases h
    · omega
theorem planErr_of {b i : Int} (h1 : 16 ≤ b) (h2 : b ≤ 223) (h3 : 4 ≤ i) (h4 : i ≤ 64) (h5 : dataOf i < b) : planErr b i = 0 := by
  unfold planErr
  rw [if_neg (by omega), if_neg (by omega)]
theorem sizes_iff (v : List ByteArray) : sizesB v = true ↔ ∀ k, k < v.length → (bAt v k).size = 128 := by
  unfold sizesB
  rw [List.all_eq_true]
  constructor
  · intro h k hk
    have := h _ (List.getElem_mem hk)
    simpa [bAt, List.getD, hk] using this
  · intro h x hx
    obtain ⟨k, hk, rfl⟩ := List.getElem_of_mem hx
    have := h k hk
    simpa [bAt, List.getD, hk] using this
theorem right_iff (m : ByteArray) (d : Nat) : rightTo m d = true ↔ ∀ k, k < d → hasB m k = true := by
  simp [rightTo, List.all_eq_true]
theorem rest_iff (m : ByteArray) (b n : Nat) : restTo m b n = true ↔ ∀ k, b ≤ k → k < n → hasB m k = false := by
  unfold restTo
  simp only [List.all_eq_true, List.mem_range, Bool.not_eq_true', Bool.and_eq_false_iff, decide_eq_false_iff_not]
  constructor
  · intro h k h1 h2
    rcases h k h2 with h | h
    · exact absurd h1 h
    · exact h
  · intro h k h2
    by_cases h1 : b ≤ k
    · exact .inr (h k h1 h2)
    · exact .inl h1
theorem mof_some {v : List ByteArray} {i : Nat} (h : mof v = some i) : Vol v i := by
  unfold mof at h
  split at h
  · rename_i hok
    obtain rfl := Option.some.inj h
    simp only [okV, Bool.and_eq_true, decide_eq_true_eq] at hok
    obtain ⟨⟨⟨h1, h2⟩, h3⟩, h4⟩ := hok
    obtain ⟨p1, p2, p3, p4, p5⟩ := planErr_ok h2
    rw [dataOf_nat] at p5 h4
    unfold rightB at h4
    rw [Bool.and_eq_true, right_iff, rest_iff] at h4
    exact ⟨by omega, by omega, by omega, by omega, by omega, (sizes_iff v).1 h1, h3, h4.1, h4.2⟩
  · cases h
theorem mof_of {v : List ByteArray} {i : Nat} (h : Vol v i) : mof v = some i := by
  have hi : inoOf (bAt v 0) = i := by rw [h.head]; exact inoOf_head _ _ (by have := h.i1; omega)
  unfold mof
  have hd := h.d
  rw [if_pos, hi]
  simp only [okV, Bool.and_eq_true, decide_eq_true_eq, hi]
  refine ⟨⟨⟨(sizes_iff v).2 h.size, planErr_of (by have := h.b0; omega) (by have := h.b1; omega) (by have := h.i0; omega) (by have := h.i1; omega) (by rw [dataOf_nat]; omega)⟩, h.head⟩, ?_⟩
  unfold rightB
  rw [dataOf_nat, Bool.and_eq_true, right_iff, rest_iff]
  exact ⟨h.low, h.high⟩

/-! ### what is taken and given back -/
/-- The first that is free, of the blocks from 'd' on. -/
def freeOf (m : ByteArray) (b : Nat) : (n d : Nat) → Option Nat
  | 0, _ => none
  | n + 1, d => if d < b then if hasB m d then freeOf m b n (d + 1) else some d else none
def mtake (v : List ByteArray) : List ByteArray × Nat × Int :=
  match mof v with
  | none => ([], 0, 3)
  | some i => match freeOf (bAt v 2) v.length v.length (dof i) with
    | none => ([], 0, 10)
    | some k => ((v.set 2 (turnB (bAt v 2) k)).set k zb, k, 0)
def mgive (v : List ByteArray) (k : Int) : List ByteArray × Int :=
  match mof v with
  | none => ([], 3)
  | some i => if k < dof i ∨ (v.length : Int) ≤ k then ([], 2) else if hasB (bAt v 2) k.toNat then (v.set 2 (turnB (bAt v 2) k.toNat), 0) else ([], 9)
def mused (v : List ByteArray) (k : Int) : Bool := (mof v).isSome && decide (0 ≤ k) && decide (k < v.length) && hasB (bAt v 2) k.toNat
def mroom (v : List ByteArray) : Nat := match mof v with | none => 0 | some _ => v.length - cntB (bAt v 2) 1024
/-- A map with the first 'n' bits. -/
def mapTo : Nat → ByteArray
  | 0 => zb
  | n + 1 => turnB (mapTo n) n
def mfmt (b i : Nat) : List ByteArray := ((List.replicate b zb).set 0 (headB b i)).set 2 (mapTo (dof i))
end Go.Proofs.Ytopbejdhfndfbaa
