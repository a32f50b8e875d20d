/- The law CpuLittle, plain: what a step changes. No condition. -/
import Derived.Test.YtlhcggaeecjbcaaLawo
namespace Go.Proofs.Ytlhcggaeecjbcaa
open Go.RowKit

theorem diffB_self (x : ByteArray) (k : Nat) : diffB x x k = 0 := by
  induction k with
  | zero => rfl
  | succ k ih => simp only [diffB, ih, ne_eq, not_true_eq_false, if_false]
theorem diffB_tri (x y z : ByteArray) (k : Nat) : diffB x z k ≤ diffB x y k + diffB y z k := by
  induction k with
  | zero => exact Nat.le_refl _
  | succ k ih =>
    simp only [diffB]
    by_cases h1 : byteOf x k = byteOf y k
    · rw [h1]; simp only [ne_eq, not_true_eq_false, if_false]; omega
    · rw [if_pos (show byteOf x k ≠ byteOf y k from h1)]
      split <;> split <;> omega
theorem diffN_self (l : List ByteArray) (n : Nat) : diffN l l n = 0 := by
  induction n with
  | zero => rfl
  | succ n ih => simp only [diffN, ih, diffB_self]
theorem diffN_tri (a b c : List ByteArray) (n : Nat) : diffN a c n ≤ diffN a b n + diffN b c n := by
  induction n with
  | zero => exact Nat.le_refl _
  | succ n ih => have := diffB_tri (bAt a n) (bAt b n) (bAt c n) 128; simp only [diffN]; omega
theorem byteOf_setB (x : ByteArray) (k j : Nat) (b : UInt8) (h : j ≠ k) : byteOf (setB x k b) j = byteOf x j := by
  unfold byteOf
  rw [bl_setB, List.getD_eq_getElem?_getD, List.getD_eq_getElem?_getD, List.getElem?_set_ne (Ne.symm h)]
theorem diffB_setB (x : ByteArray) (k : Nat) (b : UInt8) (n : Nat) : diffB (setB x k b) x n ≤ if k < n then 1 else 0 := by
  induction n with
  | zero => exact Nat.zero_le _
  | succ n ih =>
    simp only [diffB]
    by_cases h : n = k
    · subst h
      rw [if_neg (Nat.lt_irrefl _)] at ih
      rw [if_pos (Nat.lt_succ_self _)]
      split <;> omega
    · rw [byteOf_setB x k n b h, if_neg (fun hh => hh rfl)]
      split at ih <;> split <;> omega
theorem diffN_set (l : List ByteArray) (f k : Nat) (b : UInt8) (n : Nat) (hf : f < l.length) : diffN (l.set f (setB (bAt l f) k b)) l n ≤ if f < n then 1 else 0 := by
  induction n with
  | zero => exact Nat.zero_le _
  | succ n ih =>
    simp only [diffN]
    by_cases h : f = n
    · subst h
      rw [if_neg (Nat.lt_irrefl _)] at ih
      rw [if_pos (Nat.lt_succ_self _), bAt_set_same _ _ _ hf]
      have := diffB_setB (bAt l f) k b 128
      split at this <;> omega
    · rw [bAt_set_other _ _ _ _ h, diffB_self]
      split at ih <;> split <;> omega
theorem mayN_of {s : Nat → Pte} {i k : Nat} (n : Nat) (hk : k < n) (h1 : (s k).is = true) (h2 : (s k).write = true) (h3 : (s k).frame = (i : Int)) : mayN s i n = true := by
  induction n with
  | zero => omega
  | succ n ih =>
    simp only [mayN]
    by_cases h : k = n
    · subst h; simp [h1, h2, h3]
    · simp [ih (by omega)]
/-- One list is another but for at most 'm' bytes of frames that may be written. -/
structure Near (s : Nat → Pte) (x y : List ByteArray) (m : Nat) : Prop where
  len : x.length = y.length
  few : ∀ n, diffN x y n ≤ m
  may : ∀ i k, byteOf (bAt x i) k ≠ byteOf (bAt y i) k → mayN s i 16 = true
  size : ∀ i, (bAt x i).size = (bAt y i).size
theorem Near.refl (s : Nat → Pte) (x : List ByteArray) : Near s x x 0 := ⟨rfl, fun n => by rw [diffN_self]; exact Nat.le_refl _, fun _ _ h => absurd rfl h, fun _ => rfl⟩
theorem Near.trans {s : Nat → Pte} {x y z : List ByteArray} {m n : Nat} (h1 : Near s x y m) (h2 : Near s y z n) : Near s x z (m + n) := by
  refine ⟨h1.len.trans h2.len, fun k => ?_, fun i k h => ?_, fun i => (h1.size i).trans (h2.size i)⟩
  · have := diffN_tri x y z k
    have := h1.few k
    have := h2.few k
    omega
  · by_cases e : byteOf (bAt x i) k = byteOf (bAt y i) k
    · exact h2.may i k (e ▸ h)
    · exact h1.may i k e
theorem near_set {s : Nat → Pte} {l l' : List ByteArray} {a : Int} {b : UInt8} (h : setAt l s a b = some l') : Near s l' l 1 := by
  unfold setAt at h
  cases hh : hit l s true a with
  | none => rw [hh] at h; cases h
  | some p =>
    obtain ⟨f, k⟩ := p
    rw [hh] at h
    obtain rfl := Option.some.inj h
    obtain ⟨f1, k1, f2, k2, a1, f3, i1, w1⟩ := hit_lt hh
    refine ⟨List.length_set, fun n => ?_, fun i j hne => ?_, fun i => ?_⟩
    · have := diffN_set l f k b n f1
      simp only
      split at this <;> omega
    · simp only at hne
      by_cases e : f = i
      · subst e
        refine mayN_of (k := (a / 128).toNat) 16 (by omega) i1 (w1 rfl) f3.symm
      · rw [bAt_set_other _ _ _ _ e] at hne
        exact absurd rfl hne
    · simp only
      by_cases e : f = i
      · subst e
        rw [bAt_set_same _ _ _ f1, size_setB]
      · rw [bAt_set_other _ _ _ _ e]
theorem near_lay {s : Nat → Pte} : ∀ (d : List UInt8) {l l' : List ByteArray} {a : Int}, layFrom s l a d = some l' → Near s l' l d.length
  | [], l, l', a, h => by
    obtain rfl := Option.some.inj h
    exact Near.refl _ _
  | b :: d, l, l', a, h => by
    simp only [layFrom] at h
    cases h1 : setAt l s a b with
    | none => rw [h1] at h; cases h
    | some l1 =>
      rw [h1] at h
      exact (near_lay d h).trans (near_set h1)
theorem near_store {s : Nat → Pte} {l l' : List ByteArray} {a size : Int} {v : Nat} (h : mstore l s a size v = some l') : Near s l' l 4 := by
  unfold mstore at h
  split at h
  · rename_i hc
    have hn := near_lay _ h
    refine ⟨hn.len, fun n => ?_, hn.may, hn.size⟩
    have h1 := hn.few n
    rw [leBytes_length] at h1
    omega
  · cases h
theorem turnN_few {r r2 : Nat → Int} {a : Nat} (h : ∀ i, i ≠ 0 → i ≠ a → r2 i = r i) (n : Nat) : turnN r r2 n ≤ if a < n then 1 else 0 := by
  induction n with
  | zero => exact Nat.zero_le _
  | succ n ih =>
    simp only [turnN]
    by_cases e : n = a
    · subst e
      rw [if_neg (Nat.lt_irrefl _)] at ih
      rw [if_pos (Nat.lt_succ_self _)]
      split <;> omega
    · rw [if_neg (show ¬ (n ≠ 0 ∧ r2 n ≠ r n) from fun hh => hh.2 (h n hh.1 e))]
      split at ih <;> split <;> omega
theorem turnN_none {r r2 : Nat → Int} (h : ∀ i, i ≠ 0 → r2 i = r i) (n : Nat) : turnN r r2 n = 0 := by
  induction n with
  | zero => rfl
  | succ n ih => rw [turnN, ih, if_neg (fun hh => hh.2 (h n hh.1))]
theorem upd_else (r : Nat → Int) (a i : Nat) (v : Int) (h : i ≠ a) : upd r a v i = r i := by unfold upd; rw [if_neg h]
/-- What a step does: nothing, but a word; or one register; or memory. -/
structure Small (r : Nat → Int) (pc : Int) (s : Nat → Pte) (l : List ByteArray) (o : Out) : Prop where
  law : ((o.kind = 2 ∨ o.kind = 3) ∧ o.r = r ∧ o.pc = pc ∧ o.l = l) ∨
    (o.kind ≠ 2 ∧ o.kind ≠ 3 ∧ o.r 0 = 0 ∧ o.l = l ∧ turnN r o.r 16 ≤ 1) ∨ (o.kind ≠ 2 ∧ o.kind ≠ 3 ∧ o.r 0 = 0 ∧ turnN r o.r 16 = 0 ∧ Near s o.l l 4)
theorem small_r (r : Nat → Int) (a : Nat) (v : Int) : setR (upd r 0 0) a v 0 = 0 ∧ turnN r (setR (upd r 0 0) a v) 16 ≤ 1 := by
  refine ⟨rfl, ?_⟩
  have := turnN_few (r := r) (r2 := setR (upd r 0 0) a v) (a := a) (fun i h0 ha => by
    unfold setR
    rw [upd_else _ _ _ _ h0, upd_else _ _ _ _ ha, upd_else _ _ _ _ h0]) 16
  split at this <;> omega
theorem small_0 (r : Nat → Int) : upd r 0 0 0 = 0 ∧ turnN r (upd r 0 0) 16 = 0 := ⟨rfl, turnN_none (fun _ h0 => upd_else _ _ _ _ h0) 16⟩
theorem smallR (r : Nat → Int) (pc : Int) (s : Nat → Pte) (l : List ByteArray) (a : Nat) (v p n : Int) : Small r pc s l ⟨setR (upd r 0 0) a v, p, l, 0, n⟩ :=
  ⟨.inr (.inl ⟨show ¬ (0 : Int) = 2 by decide, show ¬ (0 : Int) = 3 by decide, (small_r r a v).1, rfl, (small_r r a v).2⟩)⟩
theorem small0 (r : Nat → Int) (pc : Int) (s : Nat → Pte) (l : List ByteArray) (p k n : Int) (h2 : k ≠ 2) (h3 : k ≠ 3) : Small r pc s l ⟨upd r 0 0, p, l, k, n⟩ :=
  ⟨.inr (.inl ⟨h2, h3, (small_0 r).1, rfl, by show turnN r (upd r 0 0) 16 ≤ 1; rw [(small_0 r).2]; decide⟩)⟩
theorem mexec_small (r : Nat → Int) (pc : Int) (s : Nat → Pte) (l : List ByteArray) (x : Ins) : Small r pc s l (mexec r pc s l x) := by
  unfold mexec
  simp only
  split
  · exact smallR r pc s l _ _ _ _
  split
  · exact smallR r pc s l _ _ _ _
  split
  · exact smallR r pc s l _ _ _ _
  split
  · split
    · exact ⟨.inl ⟨.inl rfl, rfl, rfl, rfl⟩⟩
    · exact smallR r pc s l _ _ _ _
  split
  · split
    · exact ⟨.inl ⟨.inl rfl, rfl, rfl, rfl⟩⟩
    · rename_i l' hst
      exact ⟨.inr (.inr ⟨show ¬ (0 : Int) = 2 by decide, show ¬ (0 : Int) = 3 by decide, (small_0 r).1, (small_0 r).2, near_store hst⟩)⟩
  split
  · exact small0 r pc s l _ _ _ (by decide) (by decide)
  split
  · exact smallR r pc s l _ _ _ _
  split
  · exact smallR r pc s l _ _ _ _
  · exact small0 r pc s l _ _ _ (by decide) (by decide)
theorem mstep_small (r : Nat → Int) (pc : Int) (s : Nat → Pte) (l : List ByteArray) : Small r pc s l (mstep r pc s l) := by
  unfold mstep
  split
  · exact ⟨.inl ⟨.inl rfl, rfl, rfl, rfl⟩⟩
  · split
    · exact ⟨.inl ⟨.inr rfl, rfl, rfl, rfl⟩⟩
    · exact mexec_small _ _ _ _ _

theorem little_walk (v : Value) (l : List ByteArray) (s : Nat → Pte) (r : Nat → Int) (pc : Int) (w : World) (hv : Strs w v l) (hs : Hid (∀ i, (bAt l i).size ≤ 140737488351232)) (hl : Hid (l.length ≤ 140737488351232)) (hr : ROk r) (p0 : 0 ≤ pc) (p1 : pc ≤ 4294967295) :
    Calls Try.prog 12 #[.agg (cpuCells r pc), .agg (spCells s), v] w fun e w' => e = .returned (.bool true) ∧ Below w.heap.size w w' := by
  obtain ⟨a0, cap0, rfl, -⟩ := hv.ex
  cases hg : bigB l with
  | true => exact little_great a0 cap0 l s r pc w hv hs hl hg
  | false =>
    obtain ⟨h16, h128⟩ := bigB_no hg
    have hS : ∀ w, Strs w (.slice a0 l.length cap0) l → Calls Try.prog 33 #[.agg (cpuCells r pc), .agg (spCells s), .slice a0 l.length cap0] w (StepPost (mstep r pc s l) w) := fun w hv => step_any _ l s r pc w hv (by omega) p0 p1 hr
    have hlen := mstep_len r pc s l
    have hsm := mstep_small r pc s l
    generalize mstep r pc s l = o at hS hlen hsm
    obtain ⟨r2, p2, l2, kk, nn⟩ := o
    obtain ⟨h⟩ := hsm
    simp only at h hlen
    rcases h with ⟨hk, rfl, rfl, rfl⟩ | ⟨k2, k3, z0, rfl, ht⟩ | ⟨k2, k3, z0, ht, hn⟩
    · exact little_stop a0 cap0 _ s _ _ w hv hs hl hg kk nn h16 hS hk
    · exact little_run a0 cap0 _ s r pc w hv hs hl hg r2 p2 _ kk nn rfl h16 hS (by simpa using k2) (by simpa using k3) z0 ht (show diffN _ _ _ ≤ 4 by rw [diffN_self]; omega) (.inr (diffN_self _ _)) (fun i _ k _ hne => absurd rfl hne) h128 h128
    · exact little_run a0 cap0 _ s r pc w hv hs hl hg r2 p2 _ kk nn hlen h16 hS (by simpa using k2) (by simpa using k3) z0 (show turnN r r2 16 ≤ 1 by omega) (hn.few _) (.inl ht) (fun i _ k _ hne => hn.may i k hne) h128 (fun i hi => (hn.size i).trans (h128 i hi))
end Go.Proofs.Ytlhcggaeecjbcaa
