/- Contracts of Give, of both sides. Condition: at most 100,000 blocks. -/
import Derived.Test.YtopbejdhfndfbaaGeoC
namespace Go.Proofs.Ytopbejdhfndfbaa
open Go.RowKit
set_option maxRecDepth 20000
attribute [local go_sem ↓] loadVar_24 storeVar_24
attribute [local go_sem] run_load24 run_store24 aggAt_new aggAt_past aggAt_drew rowAt_new rowAt_past rowAt_drew rowOpen_new rowOpen_past rowOpen_drew setRow_made' alloc_setRow
set_option maxHeartbeats 1000000 in
theorem give_any (v : Value) (l : List ByteArray) (k : Int) (w : World) (hv : Strs w v l) (hl : l.length ≤ 100000) : Calls Try.prog 29 #[v, .int .i64 k] w (GivePost l k w) := by
  cases h : mof l with
  | none =>
    have HU := Lib.hid (mgive_no (k := k) h)
    have PO := Lib.hid (of_nope h hl w hv)
    unfold geo0 at PO
    clear h hv hl
    go_enter Try.func29, Try.ntmps29
    go_wp2_with (go_at_call 20; refine PO.out.mono ?_; rintro e W1 ⟨rfl, hb1⟩; have HK := Lib.hid hb1; clear hb1)
    go_ret2
    exact give_post HU.out (Own.none _ _) (HK.out.alloc HK.out.size _)
  | some i =>
    have HV := mof_some h
    have b0 := HV.b0
    have b1 := HV.b1
    have hm := HV.map_size
    rcases hv.shape with ⟨rfl, -⟩ | ⟨-, b, o, cap, rfl, -, -, -⟩
    · simp at b0
    have HVs := Lib.hid hv
    have PO := Lib.hid (of_yes h hl w hv)
    unfold geoC at PO
    have n2 : (2 : Int) < l.length := by omega
    have hk2 := Lib.hid (show 2 < l.length by omega)
    by_cases hlo : k < (dof i : Int)
    · have HU := Lib.hid (mgive_out h (.inl hlo))
      clear h hv HV hm hl
      go_enter Try.func29, Try.ntmps29
      go_wp2_with (go_at_call 20; refine PO.out.mono ?_; rintro e W1 ⟨rfl, hb1⟩; have HK := Lib.hid hb1; clear hb1)
      go_ret2
      exact give_post HU.out (Own.none _ _) (HK.out.alloc HK.out.size _)
    by_cases hhi : (l.length : Int) ≤ k
    · have HU := Lib.hid (mgive_out h (.inr hhi))
      clear h hv HV hm hl
      go_enter Try.func29, Try.ntmps29
      go_wp2_with (go_at_call 20; refine PO.out.mono ?_; rintro e W1 ⟨rfl, hb1⟩; have HK := Lib.hid hb1; clear hb1)
      go_ret2
      exact give_post HU.out (Own.none _ _) (HK.out.alloc HK.out.size _)
    obtain ⟨k, rfl⟩ := Int.eq_ofNat_of_zero_le (show 0 ≤ k by omega)
    have PB : Hid (∀ w, Calls Try.prog 55 #[.string (bAt l 2), .int .i64 (k : Nat)] w fun e w' => e = .returned (.bool (hasB (bAt l 2) k)) ∧ w = w') := fun w => has_any _ _ w (by omega) (by omega)
    have PT : Hid (∀ w, Calls Try.prog 47 #[.string (bAt l 2), .int .i64 (k : Nat)] w fun e w' => e = .returned (.string (turnB (bAt l 2) k)) ∧ Below w.heap.size w w') := fun w => turn_any _ _ w (by omega) (by omega)
    cases hh : hasB (bAt l 2) k with
    | false =>
      have HU := Lib.hid (mgive_free h (by omega) (by omega) hh)
      rw [hh] at PB
      clear h hv HV hm hl hh PT
      go_enter Try.func29, Try.ntmps29
      go_wp2_with (first
        | (go_at_call 20; refine PO.out.mono ?_; rintro e W1 ⟨rfl, hb1⟩; have HW := Lib.hid (Vw.start (cs := #[.int .i64 l.length, .int .i64 i, .int .i64 1, .int .i64 2, .int .i64 3, .int .i64 (dof i)]) HVs.out hb1); have c2 := HW.out.strs.cell_at hk2.out; clear hb1)
        | (go_at_call 55; refine (PB.out _).mono ?_; rintro e w1 ⟨rfl, rfl⟩))
      go_ret2
      exact give_post HU.out (Own.none _ _) HW.out.below
    | true =>
      have HU := Lib.hid (give_ok HV (by omega) (by omega) hh).1
      have HL := Lib.hid hl
      rw [hh] at PB
      clear h hv HV hm hl hh
      go_enter Try.func29, Try.ntmps29
      go_wp2_with (first
        | (go_at_call 20; refine PO.out.mono ?_; rintro e W1 ⟨rfl, hb1⟩; have HW := Lib.hid (Vw.start (cs := #[.int .i64 l.length, .int .i64 i, .int .i64 1, .int .i64 2, .int .i64 3, .int .i64 (dof i)]) HVs.out hb1); have c2 := HW.out.strs.cell_at hk2.out; clear hb1)
        | (go_at_call 55; refine (PB.out _).mono ?_; rintro e w1 ⟨rfl, rfl⟩))
      generalize W1.alloc (.cells #[.int .i64 l.length, .int .i64 i, .int .i64 1, .int .i64 2, .int .i64 3, .int .i64 (dof i)] 24) = W2 at HW c2 ⊢
      generalize W1.heap.size = p at HW ⊢
      refine wp_region_held_drew (S := fun W' => W'.cell? ⟨p, 3, none⟩ = some (.int .i64 2) ∧ W'.cell? ⟨b, o + 2, none⟩ = some (.string (bAt l 2))) (by kernel_rfl) (⟨cell_of_heap HW.out.drew.hp (i := 3) rfl, HW.out.drew.strs.cell_at hk2.out⟩) (fun hHeld => ?_)
      refine held_take 0 37 (v := ?_) rfl rfl (by kernel_rfl) (by kernel_rfl) (by kernel_rfl) (fun _ _ _ h => h) (by rfl) ?_ (by assumption) ?_
      rotate_left 1
      · intro wq hSq
        try dsimp only at hSq
        go_simp
        try with_reducible rfl
      simp only [List.setIfInBounds_toArray, List.set_cons_zero, List.set_cons_succ]
      refine held_take 1 38 (v := ?_) rfl rfl (by kernel_rfl) (by kernel_rfl) (by kernel_rfl) (fun _ _ _ h => h) (by rfl) ?_ (by assumption) ?_
      rotate_left 1
      · intro wq hSq
        try dsimp only at hSq
        go_simp
        try with_reducible rfl
      simp only [List.setIfInBounds_toArray, List.set_cons_zero, List.set_cons_succ]
      refine held_take 2 39 (v := ?_) rfl rfl (by kernel_rfl) (by kernel_rfl) (by kernel_rfl) (fun _ _ _ h => h) (by rfl) ?_ (by assumption) ?_
      rotate_left 1
      · intro wq hSq
        try dsimp only at hSq
        go_simp
        try with_reducible rfl
      simp only [List.setIfInBounds_toArray, List.set_cons_zero, List.set_cons_succ]
      refine held_take 3 40 (v := ?_) rfl rfl (by kernel_rfl) (by kernel_rfl) (by kernel_rfl) (fun _ _ _ h => h) (by rfl) ?_ (by assumption) ?_
      rotate_left 1
      · intro wq hSq
        try dsimp only at hSq
        go_simp
        try with_reducible rfl
      simp only [List.setIfInBounds_toArray, List.set_cons_zero, List.set_cons_succ]
      refine held_take 4 41 (v := ?_) rfl rfl (by kernel_rfl) (by kernel_rfl) (by kernel_rfl) (fun _ _ _ h => h) (by rfl) ?_ (by assumption) ?_
      rotate_left 1
      · intro wq hSq
        try dsimp only at hSq
        go_simp
        try with_reducible rfl
      simp only [List.setIfInBounds_toArray, List.set_cons_zero, List.set_cons_succ]
      refine held_take 5 42 (v := ?_) rfl rfl (by kernel_rfl) (by kernel_rfl) (by kernel_rfl) (fun _ _ _ h => h) (by rfl) ?_ (by assumption) ?_
      rotate_left 1
      · intro wq hSq
        try dsimp only at hSq
        go_simp
        try with_reducible rfl
      simp only [List.setIfInBounds_toArray, List.set_cons_zero, List.set_cons_succ]
      refine held_take 6 43 (v := ?_) rfl rfl (by kernel_rfl) (by kernel_rfl) (by kernel_rfl) (fun _ _ _ h => h) (by rfl) ?_ (by assumption) ?_
      rotate_left 1
      · intro wq hSq
        try dsimp only at hSq
        go_simp
        try with_reducible rfl
      simp only [List.setIfInBounds_toArray, List.set_cons_zero, List.set_cons_succ]
      refine held_take 7 44 (v := ?_) rfl rfl (by kernel_rfl) (by kernel_rfl) (by kernel_rfl) (fun _ _ _ h => h) (by rfl) ?_ (by assumption) ?_
      rotate_left 1
      · intro wq hSq
        try dsimp only at hSq
        go_simp
        try with_reducible rfl
      simp only [List.setIfInBounds_toArray, List.set_cons_zero, List.set_cons_succ]
      refine held_take 8 45 (v := ?_) rfl rfl (by kernel_rfl) (by kernel_rfl) (by kernel_rfl) (fun _ _ _ h => h) (by rfl) ?_ (by assumption) ?_
      rotate_left 1
      · intro wq hSq
        try dsimp only at hSq
        go_simp
        try with_reducible rfl
      simp only [List.setIfInBounds_toArray, List.set_cons_zero, List.set_cons_succ]
      refine wpAnyH_ready (rs := [9]) (by kernel_rfl) (by simp) ?_
      refine AllReadyH.cons rfl (fun K hK => ?_) AllReadyH.nil
      go_simp
      refine (PT.out _).mono ?_
      rintro e W3 ⟨rfl, hb3⟩
      have H3 := Lib.hid (HW.out.drew.step hb3)
      clear hb3
      go_wp2_with fail
      refine hK.out _ _ (⟨cell_of_heap H3.out.hp (i := 3) rfl, H3.out.strs.cell_at hk2.out⟩) (fun hHeld => ?_)
      clear hK K
      refine wpAnyH_ready (rs := [10]) (by kernel_rfl) (by simp) ?_
      refine AllReadyH.cons rfl (fun K hK => ?_) AllReadyH.nil
      go_simp
      refine (with_any _ l 2 (turnB (bAt l 2) k) _ H3.out.strs hk2.out HL.out).mono ?_
      rintro e W4 ⟨v4, rfl, ho4, hb4⟩
      have H4 := Lib.hid (H3.out.step hb4)
      clear hb4
      go_wp2_with fail
      refine hK.out _ _ (⟨cell_of_heap H4.out.hp (i := 3) rfl, H4.out.strs.cell_at hk2.out⟩) (fun hHeld => ?_)
      clear hK K
      refine held_take 11 4 (v := ?_) rfl rfl (by kernel_rfl) (by kernel_rfl) (by kernel_rfl) (fun _ _ _ h => h) (by rfl) ?_ (by assumption) ?_
      rotate_left 1
      · intro wq hSq
        try dsimp only at hSq
        go_simp
        try with_reducible rfl
      simp only [List.setIfInBounds_toArray, List.set_cons_zero, List.set_cons_succ]
      refine held_take 12 5 (v := ?_) rfl rfl (by kernel_rfl) (by kernel_rfl) (by kernel_rfl) (fun _ _ _ h => h) (by rfl) ?_ (by assumption) ?_
      rotate_left 1
      · intro wq hSq
        try dsimp only at hSq
        go_simp
        try with_reducible rfl
      simp only [List.setIfInBounds_toArray, List.set_cons_zero, List.set_cons_succ]
      refine wpAnyH_done (by kernel_rfl) ?_ _
      go_wp2_with fail
      go_ret2
      exact give_post HU.out (ho4.lower H3.out.below.size) H4.out.below
set_option maxHeartbeats 1000000 in
theorem rgive_any (v : Value) (l : List ByteArray) (k : Int) (w : World) (hv : Strs w v l) (hl : l.length ≤ 100000) : Calls Try.prog 30 #[v, .int .i64 k] w (GivePost l k w) := by
  cases h : mof l with
  | none =>
    have HU := Lib.hid (mgive_no (k := k) h)
    have PO := Lib.hid (rof_nope h hl w hv)
    unfold geo0 at PO
    clear h hv hl
    go_enter Try.func30, Try.ntmps30
    go_wp2_with (go_at_call 23; refine PO.out.mono ?_; rintro e W1 ⟨rfl, hb1⟩; have HK := Lib.hid hb1; clear hb1)
    go_ret2
    exact give_post HU.out (Own.none _ _) (HK.out.alloc HK.out.size _)
  | some i =>
    have HV := mof_some h
    have b0 := HV.b0
    have b1 := HV.b1
    have hm := HV.map_size
    rcases hv.shape with ⟨rfl, -⟩ | ⟨-, b, o, cap, rfl, -, -, -⟩
    · simp at b0
    have HVs := Lib.hid hv
    have PO := Lib.hid (rof_yes h hl w hv)
    unfold geoC at PO
    have n2 : (2 : Int) < l.length := by omega
    have hk2 := Lib.hid (show 2 < l.length by omega)
    by_cases hlo : k < (dof i : Int)
    · have HU := Lib.hid (mgive_out h (.inl hlo))
      clear h hv HV hm hl
      go_enter Try.func30, Try.ntmps30
      go_wp2_with (go_at_call 23; refine PO.out.mono ?_; rintro e W1 ⟨rfl, hb1⟩; have HK := Lib.hid hb1; clear hb1)
      go_ret2
      exact give_post HU.out (Own.none _ _) (HK.out.alloc HK.out.size _)
    by_cases hhi : (l.length : Int) ≤ k
    · have HU := Lib.hid (mgive_out h (.inr hhi))
      clear h hv HV hm hl
      go_enter Try.func30, Try.ntmps30
      go_wp2_with (go_at_call 23; refine PO.out.mono ?_; rintro e W1 ⟨rfl, hb1⟩; have HK := Lib.hid hb1; clear hb1)
      go_ret2
      exact give_post HU.out (Own.none _ _) (HK.out.alloc HK.out.size _)
    obtain ⟨k, rfl⟩ := Int.eq_ofNat_of_zero_le (show 0 ≤ k by omega)
    have PB : Hid (∀ w, Calls Try.prog 54 #[.string (bAt l 2), .int .i64 (k : Nat)] w fun e w' => e = .returned (.bool (hasB (bAt l 2) k)) ∧ w = w') := fun w => bit_any _ _ w (by omega) (by omega)
    have PT : Hid (∀ w, Calls Try.prog 49 #[.string (bAt l 2), .int .i64 (k : Nat)] w fun e w' => e = .returned (.string (turnB (bAt l 2) k)) ∧ Below w.heap.size w w') := fun w => rturn_any _ _ w (by omega) (by omega)
    cases hh : hasB (bAt l 2) k with
    | false =>
      have HU := Lib.hid (mgive_free h (by omega) (by omega) hh)
      rw [hh] at PB
      clear h hv HV hm hl hh PT
      go_enter Try.func30, Try.ntmps30
      go_wp2_with (first
        | (go_at_call 23; refine PO.out.mono ?_; rintro e W1 ⟨rfl, hb1⟩; have HW := Lib.hid (Vw.start (cs := #[.int .i64 l.length, .int .i64 i, .int .i64 1, .int .i64 2, .int .i64 3, .int .i64 (dof i)]) HVs.out hb1); have c2 := HW.out.strs.cell_at hk2.out; clear hb1)
        | (go_at_call 54; refine (PB.out _).mono ?_; rintro e w1 ⟨rfl, rfl⟩))
      go_ret2
      exact give_post HU.out (Own.none _ _) HW.out.below
    | true =>
      have HU := Lib.hid (give_ok HV (by omega) (by omega) hh).1
      have HL := Lib.hid hl
      rw [hh] at PB
      clear h hv HV hm hl hh
      go_enter Try.func30, Try.ntmps30
      go_wp2_with (first
        | (go_at_call 57; refine (rwith_any _ l 2 (turnB (bAt l 2) k) _ H3.out.strs hk2.out HL.out).mono ?_; rintro e W4 ⟨v4, rfl, ho4, hb4⟩; have H4 := Lib.hid (H3.out.step hb4); clear hb4)
        | (go_at_call 49; refine (PT.out _).mono ?_; rintro e W3 ⟨rfl, hb3⟩; have H3 := Lib.hid (HW.out.step hb3); clear hb3)
        | (go_at_call 23; refine PO.out.mono ?_; rintro e W1 ⟨rfl, hb1⟩; have HW := Lib.hid (Vw.start (cs := #[.int .i64 l.length, .int .i64 i, .int .i64 1, .int .i64 2, .int .i64 3, .int .i64 (dof i)]) HVs.out hb1); have c2 := HW.out.strs.cell_at hk2.out; clear hb1)
        | (go_at_call 54; refine (PB.out _).mono ?_; rintro e w1 ⟨rfl, rfl⟩))
      go_ret2
      exact give_post HU.out (ho4.lower H3.out.below.size) H4.out.below
end Go.Proofs.Ytopbejdhfndfbaa
