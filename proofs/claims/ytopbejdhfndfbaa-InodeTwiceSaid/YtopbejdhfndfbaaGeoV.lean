/- Volumes: a block is laid, taken, given back; how many are free. No program. No condition. -/
import Derived.Test.YtopbejdhfndfbaaGeoP
namespace Go.Proofs.Ytopbejdhfndfbaa
theorem bAt_set (v : List ByteArray) (k j : Nat) (x : ByteArray) (hk : k < v.length) : bAt (v.set k x) j = if j = k then x else bAt v j := by
  by_cases e : j = k
  · subst e; rw [if_pos rfl, bAt_set_same _ _ _ hk]
  · rw [if_neg e, bAt_set_other _ _ _ _ (Ne.symm e)]
theorem vol_put {v : List ByteArray} {i : Nat} (h : Vol v i) {k : Nat} {x : ByteArray} (h3 : 3 ≤ k) (hx : x.size = 128) : Vol (v.set k x) i := by
  by_cases hk : k < v.length
  · have e := fun j => bAt_set v k j x hk
    refine ⟨by rw [List.length_set]; exact h.b0, by rw [List.length_set]; exact h.b1, h.i0, h.i1, by rw [List.length_set]; exact h.d, ?_, ?_, ?_, ?_⟩
    · intro j hj
      rw [List.length_set] at hj
      rw [e j]
      split
      · exact hx
      · exact h.size j hj
    · rw [e 0, if_neg (by omega), List.length_set]; exact h.head
    · rw [e 2, if_neg (by omega)]; exact h.low
    · rw [e 2, if_neg (by omega), List.length_set]; exact h.high
  · rw [List.set_eq_of_length_le (by omega)]; exact h
theorem vol_turn {v : List ByteArray} {i : Nat} (h : Vol v i) {k : Nat} (hd : dof i ≤ k) (hk : k < v.length) : Vol (v.set 2 (turnB (bAt v 2) k)) i := by
  have b0 := h.b0
  have b1 := h.b1
  have hs := h.size 2 (by omega)
  have e := fun j => bAt_set v 2 j (turnB (bAt v 2) k) (by omega)
  have ht := fun j => has_turn (bAt v 2) k j (by rw [hs]; omega)
  refine ⟨by rw [List.length_set]; exact h.b0, by rw [List.length_set]; exact h.b1, h.i0, h.i1, by rw [List.length_set]; exact h.d, ?_, ?_, ?_, ?_⟩
  · intro j hj
    rw [List.length_set] at hj
    rw [e j]
    split
    · rw [size_turnB]; exact hs
    · exact h.size j hj
  · rw [e 0, if_neg (by decide), List.length_set]; exact h.head
  · intro j hj
    rw [e 2, if_pos rfl, ht j, if_neg (by omega)]
    exact h.low j hj
  · intro j hj hj2
    rw [List.length_set] at hj
    rw [e 2, if_pos rfl, ht j, if_neg (by omega)]
    exact h.high j hj hj2
theorem Vol.map_size {v : List ByteArray} {i : Nat} (h : Vol v i) : (bAt v 2).size = 128 := h.size 2 (by have := h.b0; omega)
theorem freeOf_some {m : ByteArray} {b n d k : Nat} (h : freeOf m b n d = some k) : d ≤ k ∧ k < b ∧ hasB m k = false ∧ ∀ j, d ≤ j → j < k → hasB m j = true := by
  induction n generalizing d with
  | zero => cases h
  | succ n ih =>
    unfold freeOf at h
    split at h
    · rename_i hd
      cases hh : hasB m d with
      | true =>
        rw [hh, if_pos rfl] at h
        obtain ⟨h1, h2, h3, h4⟩ := ih h
        refine ⟨by omega, h2, h3, fun j hj hj2 => ?_⟩
        by_cases e : j = d
        · rw [e]; exact hh
        · exact h4 j (by omega) hj2
      | false =>
        rw [hh, if_neg (by decide)] at h
        obtain rfl := Option.some.inj h
        exact ⟨Nat.le_refl _, hd, hh, fun j hj hj2 => by omega⟩
    · cases h
theorem freeOf_none {m : ByteArray} {b n d : Nat} (h : freeOf m b n d = none) (hn : b ≤ d + n) : ∀ j, d ≤ j → j < b → hasB m j = true := by
  induction n generalizing d with
  | zero => intro j h1 h2; omega
  | succ n ih =>
    unfold freeOf at h
    split at h
    · rename_i hd
      cases hh : hasB m d with
      | true =>
        rw [hh, if_pos rfl] at h
        intro j hj hj2
        by_cases e : j = d
        · rw [e]; exact hh
        · exact ih h (by omega) j (by omega) hj2
      | false => rw [hh, if_neg (by decide)] at h; cases h
    · intro j h1 h2; omega
theorem cnt_high {m : ByteArray} {b n : Nat} (hb : b ≤ n) (h : ∀ k, b ≤ k → k < n → hasB m k = false) : cntB m n = cntB m b := by
  induction n with
  | zero => obtain rfl : b = 0 := by omega
            rfl
  | succ n ih =>
    by_cases e : b = n + 1
    · rw [e]
    · simp only [cntB]
      rw [ih (by omega) (fun k h1 h2 => h k h1 (by omega)), h n (by omega) (by omega)]
      rfl
theorem cnt_all {m : ByteArray} {n : Nat} (h : ∀ k, k < n → hasB m k = true) : cntB m n = n := by
  induction n with
  | zero => rfl
  | succ n ih => simp only [cntB]; rw [ih (fun k hk => h k (by omega)), h n (by omega)]; rfl
theorem cnt_lt {m : ByteArray} {n k : Nat} (hk : k < n) (h : hasB m k = false) : cntB m n < n := by
  induction n with
  | zero => omega
  | succ n ih =>
    simp only [cntB]
    by_cases e : k = n
    · subst e
      rw [h]
      have := cntB_le m k
      simp only [Bool.false_eq_true, if_false]
      omega
    · have := ih (by omega)
      split <;> omega
theorem Vol.cnt {v : List ByteArray} {i : Nat} (h : Vol v i) : cntB (bAt v 2) 1024 = cntB (bAt v 2) v.length := cnt_high (by have := h.b1; omega) h.high
theorem Vol.room {v : List ByteArray} {i : Nat} (h : Vol v i) : mroom v = v.length - cntB (bAt v 2) 1024 := by
  unfold mroom
  rw [mof_of h]
theorem Vol.room_add {v : List ByteArray} {i : Nat} (h : Vol v i) : mroom v + cntB (bAt v 2) 1024 = v.length := by
  have := cntB_le (bAt v 2) v.length
  rw [h.room, h.cnt]
  omega
theorem Vol.used {v : List ByteArray} {i : Nat} (h : Vol v i) (k : Nat) : mused v k = (decide (k < v.length) && hasB (bAt v 2) k) := by
  unfold mused
  rw [mof_of h]
  simp
theorem Vol.used_lt {v : List ByteArray} {i : Nat} (h : Vol v i) {k : Nat} (hk : k < v.length) : mused v k = hasB (bAt v 2) k := by
  rw [h.used]
  simp [hk]
theorem Vol.room_le {v : List ByteArray} {i : Nat} (h : Vol v i) : mroom v ≤ v.length := by
  have := h.room_add
  omega

/-- A step of taking. -/
structure Took (v w : List ByteArray) (i k : Nat) : Prop where
  vol : Vol w i
  len : w.length = v.length
  lo : dof i ≤ k
  hi : k < v.length
  free : hasB (bAt v 2) k = false
  below : ∀ j, dof i ≤ j → j < k → hasB (bAt v 2) j = true
  map : bAt w 2 = turnB (bAt v 2) k
  zero : bAt w k = zb
  rest : ∀ j, j ≠ 2 → j ≠ k → bAt w j = bAt v j
  room : mroom w + 1 = mroom v
theorem dof_ge (i : Nat) : 3 ≤ dof i := by unfold dof; omega
theorem room_turn {v w : List ByteArray} {i k : Nat} (h : Vol v i) (hw : Vol w i) (hl : w.length = v.length) (hk : k < v.length) (hm : bAt w 2 = turnB (bAt v 2) k) : (mroom w : Int) = mroom v + (if hasB (bAt v 2) k then 1 else -1) := by
  have r1 := h.room_add
  have r2 := hw.room_add
  have hs := h.map_size
  have b1 := h.b1
  have ct := cnt_turn (bAt v 2) k 1024 (by rw [hs]; omega)
  rw [if_pos (by omega)] at ct
  rw [hm] at r2
  cases hh : hasB (bAt v 2) k with
  | true => rw [hh] at ct; simp only [if_true] at ct ⊢; omega
  | false => rw [hh] at ct; simp only [Bool.false_eq_true, if_false] at ct ⊢; omega
theorem take_some {v : List ByteArray} {i k : Nat} (h : Vol v i) (hf : freeOf (bAt v 2) v.length v.length (dof i) = some k) : mtake v = ((v.set 2 (turnB (bAt v 2) k)).set k zb, k, 0) ∧ Took v ((v.set 2 (turnB (bAt v 2) k)).set k zb) i k := by
  obtain ⟨h1, h2, h3, h4⟩ := freeOf_some hf
  have g3 := dof_ge i
  have b0 := h.b0
  have hv1 := vol_turn h h1 h2
  have hv : Vol ((v.set 2 (turnB (bAt v 2) k)).set k zb) i := vol_put hv1 (by omega) (size_zeros 128)
  have e1 := fun j => bAt_set v 2 j (turnB (bAt v 2) k) (by omega)
  have e2 := fun j => bAt_set (v.set 2 (turnB (bAt v 2) k)) k j zb (by rw [List.length_set]; exact h2)
  have hm : bAt ((v.set 2 (turnB (bAt v 2) k)).set k zb) 2 = turnB (bAt v 2) k := by rw [e2 2, if_neg (by omega), e1 2, if_pos rfl]
  refine ⟨?_, hv, by rw [List.length_set, List.length_set], h1, h2, h3, h4, hm, by rw [e2 k, if_pos rfl], ?_, ?_⟩
  · unfold mtake
    rw [mof_of h]
    simp only
    rw [hf]
  · intro j hj hj2
    rw [e2 j, if_neg hj2, e1 j, if_neg hj]
  · have := room_turn h hv (by rw [List.length_set, List.length_set]) h2 hm
    rw [h3] at this
    simp only [Bool.false_eq_true, if_false] at this
    omega
theorem take_none {v : List ByteArray} {i : Nat} (h : Vol v i) (hf : freeOf (bAt v 2) v.length v.length (dof i) = none) : mtake v = ([], 0, 10) ∧ mroom v = 0 := by
  constructor
  · unfold mtake
    rw [mof_of h]
    simp only
    rw [hf]
  · have ha := freeOf_none hf (by omega)
    have hc : cntB (bAt v 2) v.length = v.length := cnt_all fun k hk => by
      by_cases e : k < dof i
      · exact h.low k e
      · exact ha k (by omega) hk
    have := h.room_add
    rw [h.cnt, hc] at this
    omega
theorem take_cases {v : List ByteArray} {i : Nat} (h : Vol v i) : (mtake v = ([], 0, 10) ∧ mroom v = 0) ∨ ∃ w k, mtake v = (w, k, 0) ∧ Took v w i k := by
  cases hf : freeOf (bAt v 2) v.length v.length (dof i) with
  | none => exact .inl (take_none h hf)
  | some k => exact .inr ⟨_, k, take_some h hf⟩
structure Gave (v w : List ByteArray) (i k : Nat) : Prop where
  vol : Vol w i
  len : w.length = v.length
  map : bAt w 2 = turnB (bAt v 2) k
  rest : ∀ j, j ≠ 2 → bAt w j = bAt v j
  room : mroom w = mroom v + 1
theorem give_ok {v : List ByteArray} {i k : Nat} (h : Vol v i) (hd : dof i ≤ k) (hk : k < v.length) (hh : hasB (bAt v 2) k = true) : mgive v k = (v.set 2 (turnB (bAt v 2) k), 0) ∧ Gave v (v.set 2 (turnB (bAt v 2) k)) i k := by
  have b0 := h.b0
  have hv := vol_turn h hd hk
  have e1 := fun j => bAt_set v 2 j (turnB (bAt v 2) k) (by omega)
  have hm : bAt (v.set 2 (turnB (bAt v 2) k)) 2 = turnB (bAt v 2) k := by rw [e1 2, if_pos rfl]
  refine ⟨?_, hv, List.length_set, hm, fun j hj => by rw [e1 j, if_neg hj], ?_⟩
  · unfold mgive
    rw [mof_of h]
    simp only
    rw [if_neg (by omega), Int.toNat_natCast, if_pos hh]
  · have := room_turn h hv List.length_set hk hm
    rw [hh] at this
    simp only [if_true] at this
    omega
theorem give_cases {v : List ByteArray} {i : Nat} (h : Vol v i) (k : Int) : (∃ e, e ≠ 0 ∧ mgive v k = ([], e)) ∨ ∃ w, mgive v k = (w, 0) ∧ Vol w i ∧ w.length = v.length := by
  by_cases hr : k < dof i ∨ (v.length : Int) ≤ k
  · refine .inl ⟨2, by decide, ?_⟩
    unfold mgive
    rw [mof_of h]
    simp only
    rw [if_pos hr]
  · cases hh : hasB (bAt v 2) k.toNat with
    | false =>
      refine .inl ⟨9, by decide, ?_⟩
      unfold mgive
      rw [mof_of h]
      simp only
      rw [if_neg hr, hh]
      rfl
    | true =>
      have hg := give_ok h (k := k.toNat) (by omega) (by omega) hh
      rw [show ((k.toNat : Nat) : Int) = k from by omega] at hg
      exact .inr ⟨_, hg.1, hg.2.vol, hg.2.len⟩

/-! ### a fresh volume -/
theorem size_mapTo (n : Nat) : (mapTo n).size = 128 := by
  induction n with
  | zero => exact size_zeros 128
  | succ n ih => unfold mapTo; rw [size_turnB, ih]
theorem has_mapTo (n k : Nat) (hn : n ≤ 1024) : hasB (mapTo n) k = decide (k < n) := by
  induction n generalizing k with
  | zero => unfold mapTo zb; rw [has_zeros]; simp
  | succ n ih =>
    unfold mapTo
    rw [has_turn _ _ _ (by rw [size_mapTo]; omega), ih n (by omega), ih k (by omega)]
    by_cases e : k = n
    · subst e
      simp
    · rw [if_neg e]
      by_cases hl : k < n
      · have : k < n + 1 := by omega
        simp [hl, this]
      · have : ¬ k < n + 1 := by omega
        simp [hl, this]
theorem cnt_mapTo (n : Nat) (hn : n ≤ 1024) : cntB (mapTo n) 1024 = n := by
  rw [cnt_high hn (fun k h1 _ => by rw [has_mapTo n k hn]; simp; omega)]
  exact cnt_all fun k hk => by rw [has_mapTo n k hn]; simp [hk]
theorem mfmt_length (b i : Nat) : (mfmt b i).length = b := by simp [mfmt]
theorem bAt_fmt (b i j : Nat) (hb : 16 ≤ b) (hj : j < b) : bAt (mfmt b i) j = if j = 2 then mapTo (dof i) else if j = 0 then headB b i else zb := by
  unfold mfmt
  rw [bAt_set _ _ _ _ (by simp; omega)]
  split
  · rfl
  · rw [bAt_set _ _ _ _ (by simp; omega)]
    split
    · rfl
    · simp [bAt, List.getD, hj]
theorem vol_fmt {b i : Nat} (h : planErr b i = 0) : Vol (mfmt b i) i := by
  obtain ⟨h1, h2, h3, h4, h5⟩ := planErr_ok h
  rw [dataOf_nat] at h5
  have e := fun j hj => bAt_fmt b i j (by omega) hj
  have hl := mfmt_length b i
  refine ⟨by omega, by omega, by omega, by omega, by omega, ?_, ?_, ?_, ?_⟩
  · intro j hj
    rw [e j (by omega)]
    split
    · exact size_mapTo _
    · split
      · exact size_head _ _
      · exact size_zeros _
  · rw [e 0 (by omega), hl]; rfl
  · intro j hj
    rw [e 2 (by omega), if_pos rfl, has_mapTo _ _ (by omega)]
    simp [hj]
  · intro j hj hj2
    rw [e 2 (by omega), if_pos rfl, has_mapTo _ _ (by omega)]
    simp; omega
theorem room_fmt {b i : Nat} (h : planErr b i = 0) : mroom (mfmt b i) = b - dof i := by
  have hv := vol_fmt h
  obtain ⟨h1, h2, h3, h4, h5⟩ := planErr_ok h
  rw [hv.room, mfmt_length, bAt_fmt b i 2 (by omega) (by omega), if_pos rfl, cnt_mapTo]
  unfold dof; omega
end Go.Proofs.Ytopbejdhfndfbaa
