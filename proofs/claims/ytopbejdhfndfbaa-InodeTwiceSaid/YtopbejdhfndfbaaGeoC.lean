/- Contracts of Take and Give, of both sides. Condition: at most 100,000 blocks. -/
import Derived.Test.YtopbejdhfndfbaaGeoB
import Derived.Test.YtopbejdhfndfbaaGeo9
namespace Go.Proofs.Ytopbejdhfndfbaa
open Go.RowKit
set_option maxRecDepth 20000
attribute [local go_sem ↓] loadVar_24 storeVar_24
attribute [local go_sem] run_load24 run_store24 aggAt_new aggAt_past aggAt_drew rowAt_new rowAt_past rowAt_drew rowOpen_new rowOpen_past rowOpen_drew setRow_made' alloc_setRow
theorem Own.lower {B B' : Nat} {w : World} {v : Value} {l : List ByteArray} (h : Own B w v l) (hB : B' ≤ B) : Own B' w v l := by
  rcases h.form with ⟨rfl, rfl⟩ | ⟨g, cap, cur, rfl, h2, h3, h4, h5, h6, h7⟩
  · exact Own.none _ _
  · exact Own.mk (Nat.le_trans hB h2) h3 h4 h5 h6 h7
def TakePost (l : List ByteArray) (w : World) (e : Ending) (w' : World) : Prop := ∃ v, e = .returned (.tuple #[v, .int .i64 (mtake l).2.1, .int .i64 (mtake l).2.2]) ∧ Own w.heap.size w' v (mtake l).1 ∧ Below w.heap.size w w'
theorem take_post {l x : List ByteArray} {k : Nat} {er : Int} {v : Value} {w w' : World} (h : mtake l = (x, k, er)) (ho : Own w.heap.size w' v x) (hb : Below w.heap.size w w') : TakePost l w (.returned (.tuple #[v, .int .i64 k, .int .i64 er])) w' := by
  refine ⟨v, ?_, ?_, hb⟩
  · rw [h]
  · rw [h]; exact ho
def GivePost (l : List ByteArray) (k : Int) (w : World) (e : Ending) (w' : World) : Prop := ∃ v, e = .returned (.tuple #[v, .int .i64 (mgive l k).2]) ∧ Own w.heap.size w' v (mgive l k).1 ∧ Below w.heap.size w w'
theorem give_post {l x : List ByteArray} {k er : Int} {v : Value} {w w' : World} (h : mgive l k = (x, er)) (ho : Own w.heap.size w' v x) (hb : Below w.heap.size w w') : GivePost l k w (.returned (.tuple #[v, .int .i64 er])) w' := by
  refine ⟨v, ?_, ?_, hb⟩
  · rw [h]
  · rw [h]; exact ho
theorem mtake_no {l : List ByteArray} (h : mof l = none) : mtake l = ([], 0, 3) := by unfold mtake; rw [h]
theorem mgive_no {l : List ByteArray} {k : Int} (h : mof l = none) : mgive l k = ([], 3) := by unfold mgive; rw [h]
theorem mgive_out {l : List ByteArray} {i : Nat} {k : Int} (h : mof l = some i) (hk : k < dof i ∨ (l.length : Int) ≤ k) : mgive l k = ([], 2) := by unfold mgive; rw [h]; simp only; rw [if_pos hk]
theorem mgive_free {l : List ByteArray} {i k : Nat} (h : mof l = some i) (hd : dof i ≤ k) (hk : k < l.length) (hh : hasB (bAt l 2) k = false) : mgive l k = ([], 9) := by
  unfold mgive
  rw [h]
  simp only
  rw [if_neg (by omega), Int.toNat_natCast, hh]
  rfl
theorem freeOf_is {m : ByteArray} {b n d k : Nat} (h1 : d ≤ k) (h2 : k < b) (h3 : hasB m k = false) (h4 : ∀ j, d ≤ j → j < k → hasB m j = true) (h5 : k < d + n) : freeOf m b n d = some k := by
  induction n generalizing d with
  | zero => omega
  | succ n ih =>
    unfold freeOf
    rw [if_pos (by omega)]
    by_cases e : d = k
    · subst e
      rw [h3]
      rfl
    · rw [h4 d (Nat.le_refl _) (by omega), if_pos rfl]
      exact ih (by omega) (fun j h6 h7 => h4 j (by omega) h7) (by omega)
theorem freeOf_full {m : ByteArray} {b n d : Nat} (h4 : ∀ j, d ≤ j → j < b → hasB m j = true) : freeOf m b n d = none := by
  induction n generalizing d with
  | zero => rfl
  | succ n ih =>
    unfold freeOf
    by_cases e : d < b
    · rw [if_pos e, h4 d (Nat.le_refl _) e, if_pos rfl]
      exact ih (fun j h6 h7 => h4 j (by omega) h7)
    · rw [if_neg e]
set_option maxHeartbeats 1000000 in
theorem take_any (v : Value) (l : List ByteArray) (w : World) (hv : Strs w v l) (hl : l.length ≤ 100000) : Calls Try.prog 27 #[v] w (TakePost l w) := by
  cases h : mof l with
  | none =>
    have HU := Lib.hid (mtake_no h)
    have PO := Lib.hid (of_nope h hl w hv)
    unfold geo0 at PO
    clear h hv hl
    go_enter Try.func27, Try.ntmps27
    go_wp2_with (go_at_call 20; refine PO.out.mono ?_; rintro e W1 ⟨rfl, hb1⟩; have HK := Lib.hid hb1; clear hb1)
    go_ret3
    exact take_post HU.out (Own.none _ _) (HK.out.alloc HK.out.size _)
  | some i =>
    have HV := mof_some h
    have b0 := HV.b0
    have b1 := HV.b1
    have hm := HV.map_size
    rcases hv.shape with ⟨rfl, -⟩ | ⟨-, b, o, cap, rfl, -, -, -⟩
    · simp at b0
    have HVs := Lib.hid hv
    have PO := Lib.hid (of_yes h hl w hv)
    unfold geoC at PO
    have n2 : (2 : Int) < l.length := by omega
    have hk2 := Lib.hid (show 2 < l.length by omega)
    have HD := Lib.hid HV.d
    have HN := Lib.hid (fun hf => (take_none HV hf).1)
    have HS := Lib.hid (fun k hf => (take_some (k := k) HV hf).1)
    have PB : Hid (∀ w k, k < l.length → Calls Try.prog 55 #[.string (bAt l 2), .int .i64 (k : Nat)] w fun e w' => e = .returned (.bool (hasB (bAt l 2) k)) ∧ w = w') := fun w k hk => has_any _ _ w (by omega) (by omega)
    have PT : Hid (∀ w k, k < l.length → Calls Try.prog 47 #[.string (bAt l 2), .int .i64 (k : Nat)] w fun e w' => e = .returned (.string (turnB (bAt l 2) k)) ∧ Below w.heap.size w w') := fun w k hk => turn_any _ _ w (by omega) (by omega)
    have HL := Lib.hid (show ((l.set 2 (zeros 0)).length ≤ 100000 ∧ l.length ≤ 100000) by rw [List.length_set]; exact ⟨hl, hl⟩)
    clear h hv HV hm hl
    go_enter Try.func27, Try.ntmps27
    go_wp2_with (go_at_call 20; refine PO.out.mono ?_; rintro e W1 ⟨rfl, hb1⟩; have HW := Lib.hid (Vw.start (cs := #[.int .i64 l.length, .int .i64 i, .int .i64 1, .int .i64 2, .int .i64 3, .int .i64 (dof i)]) HVs.out hb1); have d5 := cell_of_heap HW.out.hp (i := 5) rfl; clear hb1)
    clear d5
    generalize W1.alloc (.cells #[.int .i64 l.length, .int .i64 i, .int .i64 1, .int .i64 2, .int .i64 3, .int .i64 (dof i)] 24) = W2 at HW ⊢
    generalize W1.heap.size = p at HW ⊢
    have d0 := cell_of_heap HW.out.hp (i := 0) rfl
    have d3 := cell_of_heap HW.out.hp (i := 3) rfl
    have d5 := cell_of_heap HW.out.hp (i := 5) rfl
    have c2 := HW.out.strs.cell_at hk2.out
    clear PO
    go_loop [7] (fun x => ∃ n : Nat, dof i ≤ n ∧ n ≤ l.length ∧ x = .int .i64 n ∧ Hid (∀ j, dof i ≤ j → j < n → hasB (bAt l 2) j = true)) (fun x => l.length - (intOf x).toNat)
    case atStart => exact ⟨dof i, Nat.le_refl _, Nat.le_of_lt HD.out, rfl, fun j h1 h2 => by omega⟩
    case round =>
      obtain ⟨n, hn1, hn, rfl, HJ⟩ := hrel
      by_cases hlt : n < l.length
      · have i1 : (n : Int) < l.length := by omega
        cases hh : hasB (bAt l 2) n with
        | true =>
          have HH := Lib.hid hh
          have HJ2 : Hid (∀ j, dof i ≤ j → j < n + 1 → hasB (bAt l 2) j = true) := fun j h1 h2 => by
            by_cases e : j = n
            · rw [e]; exact hh
            · exact HJ.out j h1 (by omega)
          clear hh
          go_wp2_with (go_at_call 55; refine (PB.out _ n hlt).mono ?_; rw [HH.out]; rintro e w1 ⟨rfl, rfl⟩)
          go_round
          case rel => exact ⟨n + 1, by omega, by omega, by go_num, HJ2⟩
          case measure => simp [intOf]; omega
        | false =>
          have HH := Lib.hid hh
          have HF := Lib.hid (HS.out n (freeOf_is hn1 hlt hh HJ.out (by omega)))
          clear hh
          go_wp2_with (go_at_call 55; refine (PB.out _ n hlt).mono ?_; rw [HH.out]; rintro e w1 ⟨rfl, rfl⟩)
          refine wp_region_held_drew (S := fun W' => W'.cell? ⟨p, 3, none⟩ = some (.int .i64 2) ∧ W'.cell? ⟨b, o + 2, none⟩ = some (.string (bAt l 2))) (by kernel_rfl) (⟨cell_of_heap HW.out.drew.hp (i := 3) rfl, HW.out.drew.strs.cell_at hk2.out⟩) (fun hHeld => ?_)
          refine held_take 0 32 (v := ?_) rfl rfl (by kernel_rfl) (by kernel_rfl) (by kernel_rfl) (fun _ _ _ h => h) (by rfl) ?_ (by assumption) ?_
          rotate_left 1
          · intro wq hSq
            try dsimp only at hSq
            go_simp
            try with_reducible rfl
          simp only [List.setIfInBounds_toArray, List.set_cons_zero, List.set_cons_succ]
          refine held_take 1 33 (v := ?_) rfl rfl (by kernel_rfl) (by kernel_rfl) (by kernel_rfl) (fun _ _ _ h => h) (by rfl) ?_ (by assumption) ?_
          rotate_left 1
          · intro wq hSq
            try dsimp only at hSq
            go_simp
            try with_reducible rfl
          simp only [List.setIfInBounds_toArray, List.set_cons_zero, List.set_cons_succ]
          refine held_take 2 34 (v := ?_) rfl rfl (by kernel_rfl) (by kernel_rfl) (by kernel_rfl) (fun _ _ _ h => h) (by rfl) ?_ (by assumption) ?_
          rotate_left 1
          · intro wq hSq
            try dsimp only at hSq
            go_simp
            try with_reducible rfl
          simp only [List.setIfInBounds_toArray, List.set_cons_zero, List.set_cons_succ]
          refine held_take 3 35 (v := ?_) rfl rfl (by kernel_rfl) (by kernel_rfl) (by kernel_rfl) (fun _ _ _ h => h) (by rfl) ?_ (by assumption) ?_
          rotate_left 1
          · intro wq hSq
            try dsimp only at hSq
            go_simp
            try with_reducible rfl
          simp only [List.setIfInBounds_toArray, List.set_cons_zero, List.set_cons_succ]
          refine held_take 4 36 (v := ?_) rfl rfl (by kernel_rfl) (by kernel_rfl) (by kernel_rfl) (fun _ _ _ h => h) (by rfl) ?_ (by assumption) ?_
          rotate_left 1
          · intro wq hSq
            try dsimp only at hSq
            go_simp
            try with_reducible rfl
          simp only [List.setIfInBounds_toArray, List.set_cons_zero, List.set_cons_succ]
          refine held_take 5 37 (v := ?_) rfl rfl (by kernel_rfl) (by kernel_rfl) (by kernel_rfl) (fun _ _ _ h => h) (by rfl) ?_ (by assumption) ?_
          rotate_left 1
          · intro wq hSq
            try dsimp only at hSq
            go_simp
            try with_reducible rfl
          simp only [List.setIfInBounds_toArray, List.set_cons_zero, List.set_cons_succ]
          refine held_take 6 38 (v := ?_) rfl rfl (by kernel_rfl) (by kernel_rfl) (by kernel_rfl) (fun _ _ _ h => h) (by rfl) ?_ (by assumption) ?_
          rotate_left 1
          · intro wq hSq
            try dsimp only at hSq
            go_simp
            try with_reducible rfl
          simp only [List.setIfInBounds_toArray, List.set_cons_zero, List.set_cons_succ]
          refine held_take 7 39 (v := ?_) rfl rfl (by kernel_rfl) (by kernel_rfl) (by kernel_rfl) (fun _ _ _ h => h) (by rfl) ?_ (by assumption) ?_
          rotate_left 1
          · intro wq hSq
            try dsimp only at hSq
            go_simp
            try with_reducible rfl
          simp only [List.setIfInBounds_toArray, List.set_cons_zero, List.set_cons_succ]
          refine held_take 8 40 (v := ?_) rfl rfl (by kernel_rfl) (by kernel_rfl) (by kernel_rfl) (fun _ _ _ h => h) (by rfl) ?_ (by assumption) ?_
          rotate_left 1
          · intro wq hSq
            try dsimp only at hSq
            go_simp
            try with_reducible rfl
          simp only [List.setIfInBounds_toArray, List.set_cons_zero, List.set_cons_succ]
          refine held_take 11 43 (v := ?_) rfl rfl (by kernel_rfl) (by kernel_rfl) (by kernel_rfl) (fun _ _ _ h => h) (by rfl) ?_ (by assumption) ?_
          rotate_left 1
          · intro wq hSq
            try dsimp only at hSq
            go_simp
            try with_reducible rfl
          simp only [List.setIfInBounds_toArray, List.set_cons_zero, List.set_cons_succ]
          refine held_take 14 46 (v := ?_) rfl rfl (by kernel_rfl) (by kernel_rfl) (by kernel_rfl) (fun _ _ _ h => h) (by rfl) ?_ (by assumption) ?_
          rotate_left 1
          · intro wq hSq
            try dsimp only at hSq
            go_simp
            try with_reducible rfl
          simp only [List.setIfInBounds_toArray, List.set_cons_zero, List.set_cons_succ]
          refine wpAnyH_ready (rs := [9]) (by kernel_rfl) (by simp) ?_
          refine AllReadyH.cons rfl (fun K hK => ?_) AllReadyH.nil
          go_simp
          refine (PT.out _ n hlt).mono ?_
          rintro e W3 ⟨rfl, hb3⟩
          have H3 := Lib.hid (HW.out.drew.step hb3)
          clear hb3
          go_wp2_with fail
          refine hK.out _ _ (⟨cell_of_heap H3.out.hp (i := 3) rfl, H3.out.strs.cell_at hk2.out⟩) (fun hHeld => ?_)
          clear hK K
          refine wpAnyH_ready (rs := [10]) (by kernel_rfl) (by simp) ?_
          refine AllReadyH.cons rfl (fun K hK => ?_) AllReadyH.nil
          go_simp
          refine (with_any _ l 2 (turnB (bAt l 2) n) _ H3.out.strs hk2.out HL.out.2).mono ?_
          rintro e W4 ⟨v4, rfl, ho4, hb4⟩
          have H4 := Lib.hid (H3.out.step hb4)
          have HO4 := Lib.hid ho4
          clear hb4 ho4
          go_wp2_with fail
          refine hK.out _ _ (⟨cell_of_heap H4.out.hp (i := 3) rfl, H4.out.strs.cell_at hk2.out⟩) (fun hHeld => ?_)
          clear hK K
          refine wpAnyH_ready (rs := [12]) (by kernel_rfl) (by simp) ?_
          refine AllReadyH.cons rfl (fun K hK => ?_) AllReadyH.nil
          go_simp
          refine (zeros_any _).mono ?_
          rintro e W5 ⟨rfl, hb5⟩
          have H5 := Lib.hid (H4.out.step hb5)
          have HO5 := Lib.hid (HO4.out.below hb5)
          clear hb5
          go_wp2_with fail
          refine hK.out _ _ (⟨cell_of_heap H5.out.hp (i := 3) rfl, H5.out.strs.cell_at hk2.out⟩) (fun hHeld => ?_)
          clear hK K
          refine wpAnyH_ready (rs := [13]) (by kernel_rfl) (by simp) ?_
          refine AllReadyH.cons rfl (fun K hK => ?_) AllReadyH.nil
          go_simp
          refine (with_any v4 (l.set 2 (turnB (bAt l 2) n)) n zb _ HO5.out.strs (by rw [List.length_set]; exact hlt) (by rw [List.length_set]; exact HL.out.2)).mono ?_
          rintro e W6 ⟨v6, rfl, ho6, hb6⟩
          have H6 := Lib.hid (H5.out.step hb6)
          clear hb6
          go_wp2_with fail
          refine hK.out _ _ (⟨cell_of_heap H6.out.hp (i := 3) rfl, H6.out.strs.cell_at hk2.out⟩) (fun hHeld => ?_)
          clear hK K
          refine held_take 15 2 (v := ?_) rfl rfl (by kernel_rfl) (by kernel_rfl) (by kernel_rfl) (fun _ _ _ h => h) (by rfl) ?_ (by assumption) ?_
          rotate_left 1
          · intro wq hSq
            try dsimp only at hSq
            go_simp
            try with_reducible rfl
          simp only [List.setIfInBounds_toArray, List.set_cons_zero, List.set_cons_succ]
          refine held_take 16 3 (v := ?_) rfl rfl (by kernel_rfl) (by kernel_rfl) (by kernel_rfl) (fun _ _ _ h => h) (by rfl) ?_ (by assumption) ?_
          rotate_left 1
          · intro wq hSq
            try dsimp only at hSq
            go_simp
            try with_reducible rfl
          simp only [List.setIfInBounds_toArray, List.set_cons_zero, List.set_cons_succ]
          refine held_take 17 4 (v := ?_) rfl rfl (by kernel_rfl) (by kernel_rfl) (by kernel_rfl) (fun _ _ _ h => h) (by rfl) ?_ (by assumption) ?_
          rotate_left 1
          · intro wq hSq
            try dsimp only at hSq
            go_simp
            try with_reducible rfl
          simp only [List.setIfInBounds_toArray, List.set_cons_zero, List.set_cons_succ]
          refine wpAnyH_done (by kernel_rfl) ?_ _
          go_wp2_with fail
          go_ret3
          exact take_post HF.out (ho6.lower H5.out.below.size) H6.out.below
      · obtain rfl : n = l.length := by omega
        have HF := Lib.hid (HN.out (freeOf_full HJ.out))
        go_wp2_with fail
        go_ret3
        exact take_post HF.out (Own.none _ _) HW.out.below
set_option maxHeartbeats 1000000 in
theorem rtake_any (v : Value) (l : List ByteArray) (w : World) (hv : Strs w v l) (hl : l.length ≤ 100000) : Calls Try.prog 28 #[v] w (TakePost l w) := by
  cases h : mof l with
  | none =>
    have HU := Lib.hid (mtake_no h)
    have PO := Lib.hid (rof_nope h hl w hv)
    unfold geo0 at PO
    clear h hv hl
    go_enter Try.func28, Try.ntmps28
    go_wp2_with (go_at_call 23; refine PO.out.mono ?_; rintro e W1 ⟨rfl, hb1⟩; have HK := Lib.hid hb1; clear hb1)
    go_ret3
    exact take_post HU.out (Own.none _ _) (HK.out.alloc HK.out.size _)
  | some i =>
    have HV := mof_some h
    have b0 := HV.b0
    have b1 := HV.b1
    have hm := HV.map_size
    rcases hv.shape with ⟨rfl, -⟩ | ⟨-, b, o, cap, rfl, -, -, -⟩
    · simp at b0
    have HVs := Lib.hid hv
    have PO := Lib.hid (rof_yes h hl w hv)
    unfold geoC at PO
    have n2 : (2 : Int) < l.length := by omega
    have hk2 := Lib.hid (show 2 < l.length by omega)
    have HD := Lib.hid HV.d
    have HN := Lib.hid (fun hf => (take_none HV hf).1)
    have HS := Lib.hid (fun k hf => (take_some (k := k) HV hf).1)
    have PB : Hid (∀ w k, k < l.length → Calls Try.prog 54 #[.string (bAt l 2), .int .i64 (k : Nat)] w fun e w' => e = .returned (.bool (hasB (bAt l 2) k)) ∧ w = w') := fun w k hk => bit_any _ _ w (by omega) (by omega)
    have PT : Hid (∀ w k, k < l.length → Calls Try.prog 49 #[.string (bAt l 2), .int .i64 (k : Nat)] w fun e w' => e = .returned (.string (turnB (bAt l 2) k)) ∧ Below w.heap.size w w') := fun w k hk => rturn_any _ _ w (by omega) (by omega)
    have HL := Lib.hid (show ((l.set 2 (zeros 0)).length ≤ 100000 ∧ l.length ≤ 100000) by rw [List.length_set]; exact ⟨hl, hl⟩)
    clear h hv HV hm hl
    go_enter Try.func28, Try.ntmps28
    go_wp2_with (go_at_call 23; refine PO.out.mono ?_; rintro e W1 ⟨rfl, hb1⟩; have HW := Lib.hid (Vw.start (cs := #[.int .i64 l.length, .int .i64 i, .int .i64 1, .int .i64 2, .int .i64 3, .int .i64 (dof i)]) HVs.out hb1); have d5 := cell_of_heap HW.out.hp (i := 5) rfl; clear hb1)
    clear d5
    generalize W1.alloc (.cells #[.int .i64 l.length, .int .i64 i, .int .i64 1, .int .i64 2, .int .i64 3, .int .i64 (dof i)] 24) = W2 at HW ⊢
    generalize W1.heap.size = p at HW ⊢
    have d0 := cell_of_heap HW.out.hp (i := 0) rfl
    have d3 := cell_of_heap HW.out.hp (i := 3) rfl
    have d5 := cell_of_heap HW.out.hp (i := 5) rfl
    have c2 := HW.out.strs.cell_at hk2.out
    clear PO
    go_loop [7] (fun x => ∃ n : Nat, dof i ≤ n ∧ n ≤ l.length ∧ x = .int .i64 n ∧ Hid (∀ j, dof i ≤ j → j < n → hasB (bAt l 2) j = true)) (fun x => l.length - (intOf x).toNat)
    case atStart => exact ⟨dof i, Nat.le_refl _, Nat.le_of_lt HD.out, rfl, fun j h1 h2 => by omega⟩
    case round =>
      obtain ⟨n, hn1, hn, rfl, HJ⟩ := hrel
      by_cases hlt : n < l.length
      · have i1 : (n : Int) < l.length := by omega
        cases hh : hasB (bAt l 2) n with
        | true =>
          have HH := Lib.hid hh
          have HJ2 : Hid (∀ j, dof i ≤ j → j < n + 1 → hasB (bAt l 2) j = true) := fun j h1 h2 => by
            by_cases e : j = n
            · rw [e]; exact hh
            · exact HJ.out j h1 (by omega)
          clear hh
          go_wp2_with (go_at_call 54; refine (PB.out _ n hlt).mono ?_; rw [HH.out]; rintro e w1 ⟨rfl, rfl⟩)
          go_round
          case rel => exact ⟨n + 1, by omega, by omega, by go_num, HJ2⟩
          case measure => simp [intOf]; omega
        | false =>
          have HH := Lib.hid hh
          have HF := Lib.hid (HS.out n (freeOf_is hn1 hlt hh HJ.out (by omega)))
          clear hh
          go_wp2_with (first
            | (go_at_call 57; have q0 := HO5; clear q0; refine (rwith_any v4 (l.set 2 (turnB (bAt l 2) n)) n zb _ HO5.out.strs (by rw [List.length_set]; exact hlt) (by rw [List.length_set]; exact HL.out.2)).mono ?_; rintro e W6 ⟨v6, rfl, ho6, hb6⟩; have H6 := Lib.hid (H5.out.step hb6); clear hb6)
            | (go_at_call 32; refine (zeros2_any 128 _ (by decide)).mono ?_; rintro e W5 ⟨rfl, rfl⟩; have H5 := H4; have HO5 := HO4)
            | (go_at_call 57; refine (rwith_any _ l 2 (turnB (bAt l 2) n) _ H3.out.strs hk2.out HL.out.2).mono ?_; rintro e W4 ⟨v4, rfl, ho4, hb4⟩; have H4 := Lib.hid (H3.out.step hb4); have HO4 := Lib.hid ho4; clear hb4 ho4)
            | (go_at_call 49; refine (PT.out _ n hlt).mono ?_; rintro e W3 ⟨rfl, hb3⟩; have H3 := Lib.hid (HW.out.step hb3); clear hb3)
            | (go_at_call 54; refine (PB.out _ n hlt).mono ?_; rw [HH.out]; rintro e w1 ⟨rfl, rfl⟩))
          go_ret3
          exact take_post HF.out (ho6.lower H5.out.below.size) H6.out.below
      · obtain rfl : n = l.length := by omega
        have HF := Lib.hid (HN.out (freeOf_full HJ.out))
        go_wp2_with fail
        go_ret3
        exact take_post HF.out (Own.none _ _) HW.out.below
end Go.Proofs.Ytopbejdhfndfbaa
