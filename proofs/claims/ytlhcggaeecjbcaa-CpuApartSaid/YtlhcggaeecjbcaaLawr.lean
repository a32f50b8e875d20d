/- The law CpuApart, plain: a step hangs on the frames that its space names. No condition. -/
import Derived.Test.YtlhcggaeecjbcaaLawq
namespace Go.Proofs.Ytlhcggaeecjbcaa
open Go.RowKit

theorem seenN_of {s : Nat → Pte} {i k : Nat} (n : Nat) (hk : k < n) (h1 : (s k).is = true) (h3 : (s k).frame = (i : Int)) : seenN s i n = true := by
  induction n with
  | zero => omega
  | succ n ih =>
    simp only [seenN]
    by_cases h : k = n
    · subst h; simp [h1, h3]
    · simp [ih (by omega)]
/-- Two memories that hold the same in the frames that the space names. -/
structure Like (s : Nat → Pte) (x y : List ByteArray) : Prop where
  len : x.length = y.length
  same : ∀ i, seenN s i 16 = true → bAt x i = bAt y i
theorem like_there {s : Nat → Pte} {x y : List ByteArray} (h : Like s x y) {a : Int} (ha : a < 2048) (hi : (pg s a).is = true) : thereB x (pg s a).frame = thereB y (pg s a).frame := by
  unfold thereB
  rw [h.len]
  by_cases h0 : 0 ≤ (pg s a).frame
  · have : seenN s (pg s a).frame.toNat 16 = true := seenN_of (k := (a / 128).toNat) 16 (by omega) hi (by rw [Int.toNat_of_nonneg h0]; rfl)
    rw [h.same _ this]
  · simp [h0]
theorem like_hit {s : Nat → Pte} {x y : List ByteArray} (h : Like s x y) (wr : Bool) (a : Int) : hit x s wr a = hit y s wr a := by
  unfold hit
  by_cases ha : a < 2048
  · by_cases hi : (pg s a).is = true
    · rw [like_there h ha hi]
    · simp [hi]
  · simp [ha]
theorem hit_seen {s : Nat → Pte} {x : List ByteArray} {wr : Bool} {a : Int} {f k : Nat} (h : hit x s wr a = some (f, k)) : seenN s f 16 = true := by
  obtain ⟨f1, k1, f2, k2, a1, f3, i1, w1⟩ := hit_lt h
  exact seenN_of (k := (a / 128).toNat) 16 (by omega) i1 f3.symm
theorem like_byte {s : Nat → Pte} {x y : List ByteArray} (h : Like s x y) (a : Int) : byteAt x s a = byteAt y s a := by
  unfold byteAt
  rw [like_hit h]
  cases hh : hit y s false a with
  | none => rfl
  | some p =>
    obtain ⟨f, k⟩ := p
    simp only [Option.map_some]
    rw [h.same f (hit_seen hh)]
theorem like_copy {s : Nat → Pte} {x y : List ByteArray} (h : Like s x y) : ∀ (n : Nat) (a : Int), copyFrom x s a n = copyFrom y s a n
  | 0, _ => rfl
  | n + 1, a => by
    simp only [copyFrom]
    rw [like_byte h]
    congr 1
    funext b
    rw [like_copy h n]
theorem like_load {s : Nat → Pte} {x y : List ByteArray} (h : Like s x y) (a size : Int) : mload x s a size = mload y s a size := by
  unfold mload
  rw [like_copy h]
/-- Two that were alike have become two that are alike, and other frames are as they were. -/
structure Went (s : Nat → Pte) (x y x' y' : List ByteArray) : Prop where
  like : Like s x' y'
  fst : ∀ i, seenN s i 16 = false → bAt x' i = bAt x i
  snd : ∀ i, seenN s i 16 = false → bAt y' i = bAt y i
theorem went_set {s : Nat → Pte} {x y : List ByteArray} (h : Like s x y) (a : Int) (b : UInt8) :
    (setAt x s a b = none ∧ setAt y s a b = none) ∨ ∃ x' y', setAt x s a b = some x' ∧ setAt y s a b = some y' ∧ Went s x y x' y' := by
  unfold setAt
  rw [like_hit h]
  cases hh : hit y s true a with
  | none => exact .inl ⟨rfl, rfl⟩
  | some p =>
    obtain ⟨f, k⟩ := p
    have hs := hit_seen hh
    have e := h.same f hs
    refine .inr ⟨_, _, rfl, rfl, ⟨by simp only [List.length_set]; exact h.len, fun i hi => ?_⟩, fun i hi => ?_, fun i hi => ?_⟩
    · simp only
      rw [e]
      by_cases hf : f = i
      · subst hf
        by_cases hl : f < y.length
        · rw [bAt_set_same _ _ _ (by rw [h.len]; exact hl), bAt_set_same _ _ _ hl]
        · exact absurd (hit_lt hh).1 hl
      · rw [bAt_set_other _ _ _ _ hf, bAt_set_other _ _ _ _ hf]
        exact h.same i hi
    · refine bAt_set_other _ _ _ _ (fun hf => ?_)
      simp only at hf
      rw [hf, hi] at hs
      cases hs
    · refine bAt_set_other _ _ _ _ (fun hf => ?_)
      simp only at hf
      rw [hf, hi] at hs
      cases hs
theorem went_lay {s : Nat → Pte} : ∀ (d : List UInt8) {x y : List ByteArray} (_ : Like s x y) (a : Int),
    (layFrom s x a d = none ∧ layFrom s y a d = none) ∨ ∃ x' y', layFrom s x a d = some x' ∧ layFrom s y a d = some y' ∧ Went s x y x' y'
  | [], x, y, h, a => .inr ⟨x, y, rfl, rfl, h, fun _ _ => rfl, fun _ _ => rfl⟩
  | b :: d, x, y, h, a => by
    simp only [layFrom]
    rcases went_set h a b with ⟨h1, h2⟩ | ⟨x1, y1, h1, h2, hw⟩
    · rw [h1, h2]
      exact .inl ⟨rfl, rfl⟩
    · rw [h1, h2]
      simp only [Option.bind_some]
      rcases went_lay d hw.like (a + 1) with h3 | ⟨x2, y2, h3, h4, hw2⟩
      · exact .inl h3
      · exact .inr ⟨x2, y2, h3, h4, hw2.like, fun i hi => (hw2.fst i hi).trans (hw.fst i hi), fun i hi => (hw2.snd i hi).trans (hw.snd i hi)⟩
theorem went_store {s : Nat → Pte} {x y : List ByteArray} (h : Like s x y) (a size : Int) (v : Nat) :
    (mstore x s a size v = none ∧ mstore y s a size v = none) ∨ ∃ x' y', mstore x s a size v = some x' ∧ mstore y s a size v = some y' ∧ Went s x y x' y' := by
  unfold mstore
  split
  · exact went_lay _ h a
  · exact .inl ⟨rfl, rfl⟩
/-- Two outcomes that are one but for the frames that are not named. -/
structure Twin (s : Nat → Pte) (x y : List ByteArray) (o q : Out) : Prop where
  r : q.r = o.r
  pc : q.pc = o.pc
  kind : q.kind = o.kind
  n : q.n = o.n
  went : Went s x y o.l q.l
theorem Twin.still {s : Nat → Pte} {x y : List ByteArray} (h : Like s x y) (r : Nat → Int) (pc k n : Int) : Twin s x y ⟨r, pc, x, k, n⟩ ⟨r, pc, y, k, n⟩ :=
  ⟨rfl, rfl, rfl, rfl, h, fun _ _ => rfl, fun _ _ => rfl⟩
theorem twin_exec {s : Nat → Pte} {x y : List ByteArray} (h : Like s x y) (r : Nat → Int) (pc : Int) (i : Ins) : Twin s x y (mexec r pc s x i) (mexec r pc s y i) := by
  unfold mexec
  simp only
  rw [like_load h]
  split
  · exact Twin.still h _ _ _ _
  split
  · exact Twin.still h _ _ _ _
  split
  · exact Twin.still h _ _ _ _
  split
  · split
    · exact Twin.still h _ _ _ _
    · exact Twin.still h _ _ _ _
  split
  · rcases went_store h (atOf r i) (memSize i.op) (upd r 0 0 i.A).toNat with ⟨h1, h2⟩ | ⟨x', y', h1, h2, hw⟩
    · rw [h1, h2]
      exact Twin.still h _ _ _ _
    · rw [h1, h2]
      exact ⟨rfl, rfl, rfl, rfl, hw⟩
  split
  · exact Twin.still h _ _ _ _
  split
  · exact Twin.still h _ _ _ _
  split
  · exact Twin.still h _ _ _ _
  · exact Twin.still h _ _ _ _
theorem twin_step {s : Nat → Pte} {x y : List ByteArray} (h : Like s x y) (r : Nat → Int) (pc : Int) : Twin s x y (mstep r pc s x) (mstep r pc s y) := by
  unfold mstep
  rw [like_load h]
  split
  · exact Twin.still h _ _ _ _
  · split
    · exact Twin.still h _ _ _ _
    · exact twin_exec h r pc _
theorem mask_at (s : Nat → Pte) (l : List ByteArray) (x : ByteArray) (n i : Nat) (hi : i < n) : bAt (maskTo s l x n) i = if seenN s i 16 then bAt l i else x := by
  induction n with
  | zero => omega
  | succ n ih =>
    have hl := maskTo_length s l x n
    unfold bAt at ih ⊢
    simp only [maskTo, List.getD_eq_getElem?_getD] at ih ⊢
    by_cases h : i < n
    · rw [List.getElem?_append_left (by omega)]
      exact ih h
    · obtain rfl : i = n := by omega
      rw [List.getElem?_append_right (by omega), hl]
      simp [bAt]
theorem mask_like (s : Nat → Pte) (l : List ByteArray) (x : ByteArray) : Like s l (maskTo s l x l.length) := by
  refine ⟨(maskTo_length s l x l.length).symm, fun i hi => ?_⟩
  by_cases h : i < l.length
  · rw [mask_at s l x _ i h, hi, if_pos rfl]
  · have h2 := maskTo_length s l x l.length
    unfold bAt
    rw [List.getD_eq_getElem?_getD, List.getD_eq_getElem?_getD, List.getElem?_eq_none (by omega), List.getElem?_eq_none (by omega)]

theorem apartc_walk (v : Value) (l : List ByteArray) (s : Nat → Pte) (r : Nat → Int) (pc : Int) (z : ByteArray) (w : World) (hv : Strs w v l) (hs : Hid (∀ i, (bAt l i).size ≤ 140737488351232)) (hl : Hid (l.length ≤ 140737488351232)) (hr : ROk r) (p0 : 0 ≤ pc) (p1 : pc ≤ 4294967295) :
    Calls Try.prog 13 #[.agg (cpuCells r pc), .agg (spCells s), v, .string z] w fun e w' => e = .returned (.bool true) ∧ Below w.heap.size w w' := by
  obtain ⟨a0, cap0, rfl, -⟩ := hv.ex
  cases hg : bigB l with
  | true => exact apartc_great a0 cap0 l s r pc z w hv hs hl hg
  | false =>
    cases hz : ((z.size : Int) != 128) with
    | true => exact apartc_other a0 cap0 l s r pc z w hv hs hl hg hz
    | false =>
      have h16 := (bigB_no hg).1
      have hS : ∀ w, Strs w (.slice a0 l.length cap0) l → Calls Try.prog 33 #[.agg (cpuCells r pc), .agg (spCells s), .slice a0 l.length cap0] w (StepPost (mstep r pc s l) w) := fun w hv => step_any _ l s r pc w hv (by omega) p0 p1 hr
      have hT : ∀ v w, Strs w v (maskTo s l z l.length) → Calls Try.prog 33 #[.agg (cpuCells r pc), .agg (spCells s), v] w (StepPost (mstep r pc s (maskTo s l z l.length)) w) := fun v w hv => step_any v _ s r pc w hv (by rw [maskTo_length]; omega) p0 p1 hr
      have hlen := mstep_len r pc s l
      have hlen2 := mstep_len r pc s (maskTo s l z l.length)
      have ht := twin_step (mask_like s l z) r pc
      rw [maskTo_length] at hlen2
      generalize mstep r pc s l = o at hS hlen ht
      generalize mstep r pc s (maskTo s l z l.length) = q at hT hlen2 ht
      obtain ⟨r2, p2, l2, kk, nn⟩ := o
      obtain ⟨r3, p3, l3, k3, n3⟩ := q
      obtain ⟨t1, t2, t3, t4, hw⟩ := ht
      simp only at t1 t2 t3 t4 hw hlen hlen2
      subst t1 t2 t3 t4
      refine apartc_run a0 cap0 l s r pc z w hv hs hl hg hz h16 _ _ l2 l3 _ _ hlen hlen2 hS hT (Lib.hid fun n hn => ?_)
      cases hq : seenN s n 16 with
      | true =>
        refine .inl ⟨?_, hw.like.same n hq⟩
        rw [mask_at s l z _ n hn, hq, if_pos rfl]
      | false =>
        have e1 := hw.fst n hq
        have e2 := hw.snd n hq
        by_cases he : bAt (maskTo s l z l.length) n = bAt l n
        · exact .inl ⟨he, by rw [e1, e2, he]⟩
        · exact .inr ⟨he, e1, e2⟩
end Go.Proofs.Ytlhcggaeecjbcaa
