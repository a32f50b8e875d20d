/- What the laws of memory say, in plain Lean: bytes that were laid are there and no others are turned; a number stored is loaded again; another space sees what it saw. No program. No condition. -/
import Derived.Test.YtlhcggaeecjbcaaMmu15
namespace Go.Proofs.Ytlhcggaeecjbcaa

/-! ### byte by byte -/
theorem mload_one (l : List ByteArray) (s : Nat → Pte) (a : Int) : mload l s a 1 = (byteAt l s a).map UInt8.toNat := by
  unfold mload
  rw [if_pos ⟨.inl rfl, by omega⟩]
  simp only [show (1 : Int).toNat = 1 from rfl, copyFrom]
  cases byteAt l s a with
  | none => rfl
  | some b => simp [leVal]

theorem copyFrom_get {l : List ByteArray} {s : Nat → Pte} : ∀ (n : Nat) {a : Int} {x : List UInt8}, copyFrom l s a n = some x → ∀ j, j < n → byteAt l s (a + (j : Nat)) = x[j]?
  | 0, _, _, _, j, hj => by omega
  | n + 1, a, x, h, j, hj => by
    simp only [copyFrom] at h
    obtain ⟨b, hb, h⟩ := Option.bind_eq_some_iff.1 h
    obtain ⟨y, hy, rfl⟩ := Option.map_eq_some_iff.1 h
    cases j with
    | zero => simpa using hb
    | succ j =>
      have := copyFrom_get n hy j (by omega)
      rw [show a + 1 + ((j : Nat) : Int) = a + ((j + 1 : Nat) : Int) from by omega] at this
      simpa using this

theorem copyFrom_of {l : List ByteArray} {s : Nat → Pte} : ∀ (x : List UInt8) {a : Int}, (∀ j, j < x.length → byteAt l s (a + (j : Nat)) = x[j]?) → copyFrom l s a x.length = some x
  | [], _, _ => rfl
  | b :: x, a, h => by
    have h0 := h 0 (by simp)
    rw [Int.natCast_zero, Int.add_zero] at h0
    have h1 := copyFrom_of x (a := a + 1) (fun j hj => by
      have := h (j + 1) (by simp; omega)
      rw [show a + ((j + 1 : Nat) : Int) = a + 1 + (j : Nat) from by omega] at this
      simpa using this)
    simp only [List.length_cons, copyFrom, h0, List.getElem?_cons_zero, Option.bind_some, h1, Option.map_some]

theorem copyFrom_ext {l m : List ByteArray} {s : Nat → Pte} (h : ∀ a : Int, byteAt l s a = byteAt m s a) : ∀ (n : Nat) (a : Int), copyFrom l s a n = copyFrom m s a n
  | 0, _ => rfl
  | n + 1, a => by simp only [copyFrom, h a, copyFrom_ext h n]

/-! ### no two pages with one frame -/
def Apart (s : Nat → Pte) : Prop := ∀ i j, i < 16 → j < 16 → (s i).is = true → (s j).is = true → (s i).frame = (s j).frame → i = j

theorem byteAt_setAt {l l' : List ByteArray} {s : Nat → Pte} {a a' : Int} {b : UInt8} (hs : Apart s) (h0 : 0 ≤ a) (h0' : 0 ≤ a') (h : setAt l s a b = some l') : byteAt l' s a' = if a' = a then some b else byteAt l s a' := by
  unfold setAt at h
  obtain ⟨⟨f, k⟩, hh, rfl⟩ := Option.map_eq_some_iff.1 h
  obtain ⟨hf, hk, hz, hka, ha, hfr, hi, _⟩ := hit_lt hh
  unfold byteAt
  rw [hit_set _ _ _ _ _ _ (size_setB _ _ _)]
  cases hh' : hit l s false a' with
  | none =>
    rw [if_neg]
    · rfl
    · rintro rfl
      unfold hit at hh hh'
      split at hh
      · rename_i hc
        rw [if_pos ⟨hc.1, hc.2.1, fun h => (by cases h), hc.2.2.2⟩] at hh'
        cases hh'
      · cases hh
  | some p =>
    obtain ⟨f', k'⟩ := p
    obtain ⟨hf', hk', hz', hka', ha', hfr', hi', _⟩ := hit_lt hh'
    simp only [Option.map_some]
    by_cases he : a' = a
    · subst he
      rw [if_pos rfl]
      have e1 : f' = f := by omega
      have e2 : k' = k := by omega
      subst e1 e2
      rw [bAt_set_same _ _ _ hf, byteOf, bl_setB, List.getD_eq_getElem?_getD, List.getElem?_set_self (by rw [bl_length]; omega)]
      rfl
    · rw [if_neg he]
      by_cases e1 : f = f'
      · subst e1
        rw [bAt_set_same _ _ _ hf]
        have e2 : k ≠ k' := by
          rintro rfl
          have := hs (a / 128).toNat (a' / 128).toNat (by omega) (by omega) hi hi' (by unfold pg at hfr hfr'; omega)
          omega
        congr 1
        rw [byteOf, byteOf, bl_setB, List.getD_eq_getElem?_getD, List.getD_eq_getElem?_getD, List.getElem?_set_ne e2]
      · rw [bAt_set_other _ _ _ _ e1]

theorem byteAt_layFrom {s : Nat → Pte} (hs : Apart s) : ∀ {d : List UInt8} {l l' : List ByteArray} {a a' : Int}, 0 ≤ a → 0 ≤ a' → layFrom s l a d = some l' →
    byteAt l' s a' = if a ≤ a' ∧ a' < a + d.length then d[(a' - a).toNat]? else byteAt l s a'
  | [], l, l', a, a', _, _, h => by
    simp only [layFrom, Option.some.injEq] at h
    subst h
    rw [if_neg (by simp only [List.length_nil]; omega)]
  | b :: d, l, l', a, a', h0, h0', h => by
    unfold layFrom at h
    obtain ⟨m, hm, h2⟩ := Option.bind_eq_some_iff.1 h
    rw [byteAt_layFrom hs (by omega) h0' h2, byteAt_setAt hs h0 h0' hm]
    by_cases h1 : a' = a
    · subst h1
      rw [if_neg (by omega), if_pos rfl, if_pos (by simp only [List.length_cons]; omega)]
      simp
    · rw [if_neg h1]
      by_cases h3 : a + 1 ≤ a' ∧ a' < a + 1 + d.length
      · rw [if_pos h3, if_pos (by simp; omega), show (a' - a).toNat = (a' - (a + 1)).toNat + 1 from by omega]
        simp
      · rw [if_neg h3, if_neg (by simp; omega)]

theorem hit_setAt {l l' : List ByteArray} {s t : Nat → Pte} {a : Int} {b : UInt8} {wr : Bool} {c : Int} (h : setAt l s a b = some l') : hit l' t wr c = hit l t wr c := by
  unfold setAt at h
  obtain ⟨p, _, rfl⟩ := Option.map_eq_some_iff.1 h
  exact hit_set _ _ _ _ _ _ (size_setB _ _ _)
theorem hit_layFrom {s t : Nat → Pte} {wr : Bool} {c : Int} : ∀ {d : List UInt8} {l l' : List ByteArray} {a : Int}, layFrom s l a d = some l' → hit l' t wr c = hit l t wr c
  | [], l, l', a, h => by simp only [layFrom, Option.some.injEq] at h; rw [h]
  | b :: d, l, l', a, h => by
    unfold layFrom at h
    obtain ⟨m, hm, h2⟩ := Option.bind_eq_some_iff.1 h
    rw [hit_layFrom h2, hit_setAt hm]

/-- WHAT WAS LAID IS THERE. -/
theorem back_copy {l l' : List ByteArray} {s : Nat → Pte} {a : Int} {d : List UInt8} (hs : Apart s) (h0 : 0 ≤ a) (h : mlay l s a d = some l') : mcopy l' s a d.length = some d := by
  unfold mlay at h
  split at h
  · cases h
  unfold mcopy
  rw [if_neg (by omega), Int.toNat_natCast]
  refine copyFrom_of d fun j hj => ?_
  rw [byteAt_layFrom hs h0 (by omega) h, if_pos (by omega)]
  congr 1
  omega
/-- WHAT WAS NOT LAID IS AS IT WAS. -/
theorem back_load {l l' : List ByteArray} {s : Nat → Pte} {a : Int} {d : List UInt8} (hs : Apart s) (h0 : 0 ≤ a) (h : mlay l s a d = some l') (c : Int) (hc : 0 ≤ c) :
    (mload l s c 1).isSome = (mload l' s c 1).isSome ∧ (¬ (a ≤ c ∧ c < a + d.length) → mload l s c 1 = mload l' s c 1) := by
  unfold mlay at h
  split at h
  · cases h
  rw [mload_one, mload_one]
  refine ⟨?_, fun hn => by rw [byteAt_layFrom hs h0 hc h, if_neg hn]⟩
  simp only [byteAt, Option.isSome_map, hit_layFrom h]

/-! ### another space -/
def Foreign (s t : Nat → Pte) : Prop := ∀ i j, i < 16 → j < 16 → (s i).is = true → (t j).is = true → (s i).frame ≠ (t j).frame

theorem foreign_setAt {l l' : List ByteArray} {s t : Nat → Pte} {a : Int} {b : UInt8} (hs : Foreign s t) (h0 : 0 ≤ a) (h : setAt l s a b = some l') (c : Int) (hc : 0 ≤ c) : byteAt l' t c = byteAt l t c := by
  unfold byteAt
  rw [hit_setAt h]
  unfold setAt at h
  obtain ⟨⟨f, k⟩, hh, rfl⟩ := Option.map_eq_some_iff.1 h
  obtain ⟨hf, hk, hz, hka, ha, hfr, hi, _⟩ := hit_lt hh
  cases hh' : hit l t false c with
  | none => rfl
  | some p =>
    obtain ⟨f', k'⟩ := p
    obtain ⟨hf', hk', hz', hka', ha', hfr', hi', _⟩ := hit_lt hh'
    simp only [Option.map_some]
    have : f ≠ f' := by
      rintro rfl
      exact hs (a / 128).toNat (c / 128).toNat (by omega) (by omega) hi hi' (by unfold pg at hfr hfr'; omega)
    rw [bAt_set_other _ _ _ _ this]
theorem foreign_layFrom {s t : Nat → Pte} (hs : Foreign s t) : ∀ {d : List UInt8} {l l' : List ByteArray} {a : Int}, 0 ≤ a → layFrom s l a d = some l' → ∀ c : Int, 0 ≤ c → byteAt l' t c = byteAt l t c
  | [], l, l', a, _, h, c, hc => by simp only [layFrom, Option.some.injEq] at h; rw [h]
  | b :: d, l, l', a, h0, h, c, hc => by
    unfold layFrom at h
    obtain ⟨m, hm, h2⟩ := Option.bind_eq_some_iff.1 h
    rw [foreign_layFrom hs (by omega) h2 c hc, foreign_setAt hs h0 hm c hc]
theorem copyFrom_ext' {l m : List ByteArray} {s : Nat → Pte} (h : ∀ a : Int, 0 ≤ a → byteAt l s a = byteAt m s a) : ∀ (n : Nat) (a : Int), 0 ≤ a → copyFrom l s a n = copyFrom m s a n
  | 0, _, _ => rfl
  | n + 1, a, h0 => by simp only [copyFrom, h a h0, copyFrom_ext' h n (a + 1) (by omega)]
/-- NOBODY ELSE'S MEMORY. -/
theorem apart_copy {l l' : List ByteArray} {s t : Nat → Pte} {a : Int} {d : List UInt8} (hs : Foreign s t) (h0 : 0 ≤ a) (h : mlay l s a d = some l') (c n : Int) (hc : 0 ≤ c) : mcopy l' t c n = mcopy l t c n := by
  unfold mlay at h
  split at h
  · cases h
  unfold mcopy
  rw [copyFrom_ext' (fun x hx => foreign_layFrom hs h0 h x hx) _ c hc]

/-! ### numbers of four bytes -/
/-- The lowest byte first. -/
theorem words_bytes {l : List ByteArray} {s : Nat → Pte} {a : Int} {n : Nat} (h : mload l s a 4 = some n) (h0 : 0 ≤ a) : a < 2048 ∧ a % 4 = 0 ∧ n < 4294967296 ∧ ∀ i, i < 4 → mload l s (a + (i : Nat)) 1 = some (n / 2 ^ (8 * i) % 256) := by
  unfold mload at h
  split at h
  · rename_i hc
    obtain ⟨x, hx, rfl⟩ := Option.map_eq_some_iff.1 h
    have hl := copyFrom_length _ hx
    have hg := copyFrom_get _ hx
    rw [show (4 : Int).toNat = 4 from rfl] at hl hg
    match x, hl with
    | [b0, b1, b2, b3], _ =>
      have hb0 := b0.toNat_lt
      have hb1 := b1.toNat_lt
      have hb2 := b2.toNat_lt
      have hb3 := b3.toNat_lt
      have ha : a < 2048 := by
        have := hg 0 (by omega)
        unfold byteAt at this
        cases hh : hit l s false (a + ((0 : Nat) : Int)) with
        | none => rw [hh] at this; simp at this
        | some p => have := (hit_lt (f := p.1) (k := p.2) hh).2.2.2.2.1; omega
      refine ⟨ha, hc.2, by simp only [leVal]; omega, fun i hi => ?_⟩
      rw [mload_one, hg i hi]
      have : i = 0 ∨ i = 1 ∨ i = 2 ∨ i = 3 := by omega
      rcases this with rfl | rfl | rfl | rfl <;> simp [leVal] <;> omega
  · cases h

theorem mstore_some {l l' : List ByteArray} {s : Nat → Pte} {a : Int} {n : Nat} (h : mstore l s a 4 n = some l') (h0 : 0 ≤ a) :
    ∃ f k : Int, mfind s a 4 true = some (f, k) ∧ thereB l f = true ∧ l' = l.set f.toNat (splice (bAt l f.toNat) k.toNat (leBytes 4 n)) := by
  cases hf : mfind s a 4 true with
  | none => rw [mstore_none hf] at h; cases h
  | some p =>
    obtain ⟨f, k⟩ := p
    cases ht : thereB l f with
    | false => rw [mstore_not hf ht] at h; cases h
    | true =>
      rw [mstore_eq h0 hf ht, Option.some.injEq] at h
      exact ⟨f, k, rfl, ht, h.symm⟩

theorem splice_back (x : ByteArray) (k : Nat) (d : List UInt8) (h : k + d.length ≤ x.size) : ((bl (splice x k d)).drop k).take d.length = d := by
  have hk : ((bl x).take k).length = k := by rw [List.length_take, bl_length]; omega
  rw [bl_splice x k d h, List.append_assoc]
  rw [List.drop_left' hk, List.take_left' rfl]

/-- A number that was stored is loaded again; the page may be written; no other frame is turned. -/
theorem words_store {l l' : List ByteArray} {s : Nat → Pte} {a : Int} {n : Nat} (h : mstore l s a 4 n = some l') (h0 : 0 ≤ a) (hn : n ≤ 4294967295) :
    a < 2048 ∧ mload l' s a 4 = some n ∧ (pg s a).write = true ∧ l'.length = l.length ∧ ∀ i : Nat, (i : Int) ≠ (pg s a).frame → bAt l' i = bAt l i := by
  obtain ⟨f, k, hf, ht, rfl⟩ := mstore_some h h0
  obtain ⟨h1, h2, h3, h4, h5, h6, h7⟩ := mfind_some hf
  have hh := hit_of hf ht
  obtain ⟨hfl, hk, hz, _⟩ := hit_lt hh
  have hfn : (f.toNat : Int) = f := by
    unfold thereB at ht
    simp only [Bool.and_eq_true, decide_eq_true_eq] at ht
    omega
  have hk4 : k.toNat + (leBytes 4 n).length ≤ (bAt l f.toNat).size := by rw [leBytes_length, hz]; omega
  refine ⟨h2, ?_, h5 rfl, by rw [List.length_set], fun i hi => bAt_set_other _ _ _ _ (by omega)⟩
  have hf' : mfind s a 4 false = some (f, k) := by
    unfold mfind
    rw [if_pos ⟨.inr rfl, h2, h3⟩, if_pos ⟨h4, fun h => by cases h⟩, h6, h7]
  rw [mload_eq h0 hf' (by rw [thereB_set _ _ _ (size_splice _ _ _ hk4)]; exact ht), bAt_set_same _ _ _ hfl, bl_extract]
  have hb := splice_back (bAt l f.toNat) k.toNat (leBytes 4 n) hk4
  rw [leBytes_length] at hb
  rw [show (k + 4).toNat - k.toNat = 4 from by omega, hb, leVal_leBytes, Nat.mod_eq_of_lt (by omega)]
end Go.Proofs.Ytlhcggaeecjbcaa
