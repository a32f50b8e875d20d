/- The law GeomPlans, walked. No condition. -/
import Derived.Test.YtopbejdhfndfbaaGeoE
namespace Go.Proofs.Ytopbejdhfndfbaa
open Go.RowKit
set_option maxRecDepth 20000
attribute [local go_sem ↓] loadVar_24 storeVar_24
attribute [local go_sem] run_load24 run_store24 aggAt_new aggAt_past aggAt_drew rowAt_new rowAt_past rowAt_drew rowOpen_new rowOpen_past rowOpen_drew setRow_made' alloc_setRow
set_option maxHeartbeats 2000000 in
theorem plans_walk (b i : Int) (w : World) (hb0 : -9223372036854775808 ≤ b) (hb1 : b ≤ 9223372036854775807) (hi1 : i ≤ 9223372036854775807) :
    Calls Try.prog 3 #[.int .i64 b, .int .i64 i] w fun e w' => e = .returned (.bool true) ∧ Below w.heap.size w w' := by
  have PS : Hid (∀ w u v L, Strs w u L → Strs w v L → L.length ≤ 100000 → Calls Try.prog 19 #[u, v] w fun e w' => e = .returned (.bool true) ∧ Below w.heap.size w w') := fun w u v L hu hv hl => same_yes u v L w hu hv hl
  by_cases hp : planErr b i = 0
  · obtain ⟨p1, p2, p3, p4, p5⟩ := planErr_ok hp
    obtain ⟨b, rfl⟩ := Int.eq_ofNat_of_zero_le (show 0 ≤ b by omega)
    obtain ⟨i, rfl⟩ := Int.eq_ofNat_of_zero_le (show 0 ≤ i by omega)
    have PP : Hid (∀ w, Calls Try.prog 15 #[.int .i64 b, .int .i64 i] w fun e w' => e = .returned (.tuple #[.agg (geoC b i (dof i)), .int .i64 0]) ∧ Below w.heap.size w w') := fun w => by
      rw [← dataOf_nat, ← planC_yes hp, ← hp]
      exact plan_any _ _ w (by omega)
    have PR : Hid (∀ w, Calls Try.prog 16 #[.int .i64 b, .int .i64 i] w fun e w' => e = .returned (.tuple #[.agg (geoC b i (dof i)), .int .i64 0]) ∧ Below w.heap.size w w') := fun w => by
      rw [← dataOf_nat, ← planC_yes hp, ← hp]
      exact rplan_any _ _ w (by omega)
    have PF : Hid (∀ w, Calls Try.prog 17 #[.int .i64 b, .int .i64 i] w fun e w' => ∃ v, e = .returned (.tuple #[v, .int .i64 0]) ∧ Own w.heap.size w' v (mfmt b i) ∧ Below w.heap.size w w') := fun w => by
      have := fmt_any b i w (by omega)
      unfold FmtPost at this
      rw [hp, fmtL_yes hp] at this
      exact this
    have PQ : Hid (∀ w, Calls Try.prog 18 #[.int .i64 b, .int .i64 i] w fun e w' => ∃ v, e = .returned (.tuple #[v, .int .i64 0]) ∧ Own w.heap.size w' v (mfmt b i) ∧ Below w.heap.size w w') := fun w => by
      have := rfmt_any b i w (by omega)
      unfold FmtPost at this
      rw [hp, fmtL_yes hp] at this
      exact this
    have hl : Hid ((mfmt b i).length ≤ 100000) := by show (mfmt b i).length ≤ 100000; rw [mfmt_length]; omega
    have PO : Hid (∀ w v, Strs w v (mfmt b i) → Calls Try.prog 20 #[v] w fun e w' => e = .returned (.tuple #[.agg (geoC b i (dof i)), .int .i64 0]) ∧ Below w.heap.size w w') := fun w v hv => by
      have := of_yes (mof_of (vol_fmt hp)) hl.out w hv
      rw [mfmt_length] at this
      exact this
    have PM : Hid (∀ w v, Strs w v (mfmt b i) → Calls Try.prog 21 #[v] w fun e w' => e = .returned (.int .i64 ((b : Int) - dof i)) ∧ Below w.heap.size w w') := fun w v hv => by
      have := room_any v _ w hv hl.out
      rw [room_fmt hp, Int.ofNat_sub (by rw [dataOf_nat] at p5; omega)] at this
      exact this
    have hbb : b ≤ 223 := by omega
    have hdd : dof i ≤ 300 := by unfold dof; omega
    have hwr := Lib.hid (show IntKind.i64.wrap ((b : Int) - dof i) = (b : Int) - dof i by rw [IntKind.wrap_i64]; omega)
    unfold geoC at PP PR PO
    generalize mfmt b i = L at PF PQ PO PM hl
    clear hp p1 p2 p3 p4 p5 hb0 hb1 hi1
    go_enter Try.func3, Try.ntmps3
    go_wp2_with (first
      | (go_at_call 20; refine (PO.out _ _ V6.out).mono ?_; rintro e W7 ⟨rfl, hb⟩; have K7 := Lib.hid (below_step K6.out hb); have C7 := Lib.hid (keep C6.out hb); have V7 := Lib.hid (V6.out.mono hb); clear hb)
      | (go_at_call 19; refine (PS.out _ _ _ L V5.out X5.out hl.out).mono ?_; rintro e W6 ⟨rfl, hb⟩; have K6 := Lib.hid (below_step K5.out hb); have C6 := Lib.hid (keep C5.out hb); have V6 := Lib.hid (V5.out.mono hb); clear hb)
      | (go_at_call 18; refine (PQ.out _).mono ?_; rintro e W5 ⟨v5, rfl, ho, hb⟩; have K5 := Lib.hid (below_step K4.out hb); have C5 := Lib.hid (keep C4.out hb); have D5 := keep D4.out hb; have V5 := Lib.hid (V4.out.mono hb); have X5 := Lib.hid ho.strs; obtain ⟨a1, a2⟩ := agg_facts C5.out 6 rfl; obtain ⟨a3, a4⟩ := agg_facts D5 6 rfl; clear ho hb D5)
      | (go_at_call 17; refine (PF.out _).mono ?_; rintro e W4 ⟨v4, rfl, ho, hb⟩; have K4 := Lib.hid (below_step K3.out (keep1 hb).2); have C4 := Lib.hid (keep C3.out (keep1 hb).2); have D4 := Lib.hid (keep1 hb).1; have V4 := Lib.hid ho.strs; clear ho hb)
      | (go_at_call 16; refine (PR.out _).mono ?_; rintro e W3 ⟨rfl, hb⟩; have K3 := Lib.hid (below_step K2.out (keep1 hb).2); have C3 := Lib.hid (keep1 hb).1; clear hb)
      | (go_at_call 15; refine (PP.out _).mono ?_; rintro e W2 ⟨rfl, hb⟩; have K2 := Lib.hid (below_step K1.out hb); clear hb)
      | (go_at_call 14; refine (geomAlive_any _).mono ?_; rintro e W1 ⟨rfl, hb⟩; have K1 := Lib.hid hb; clear hb))
    have HE : Hid (∃ W8, W8 = W7.alloc (.cells #[.int .i64 b, .int .i64 i, .int .i64 1, .int .i64 2, .int .i64 3, .int .i64 (dof i)] 24) ∧ W8.heap[W2.heap.size]? = some (.cells #[.int .i64 b, .int .i64 i, .int .i64 1, .int .i64 2, .int .i64 3, .int .i64 (dof i)] 24) ∧ W8.heap[W7.heap.size]? = some (.cells #[.int .i64 b, .int .i64 i, .int .i64 1, .int .i64 2, .int .i64 3, .int .i64 (dof i)] 24) ∧ Strs W8 v4 L ∧ Below w.heap.size w W8) :=
      ⟨_, rfl, (heap_alloc_at _ _ _ (heap_lt C7.out)).trans C7.out, heap_alloc_new _ _, V7.out.alloc _, K7.out.alloc K7.out.size _⟩
    obtain ⟨W8, hW, C8, P8, V8, K8⟩ := HE.out
    replace C8 := Lib.hid C8
    replace P8 := Lib.hid P8
    replace V8 := Lib.hid V8
    replace K8 := Lib.hid K8
    rw [← hW]
    clear hW HE C7 V7 K7
    generalize W7.heap.size = p3 at P8 ⊢
    generalize W2.heap.size = p1 at C8 ⊢
    refine wp_region_held_drew (S := fun W' => aggAt W' p1 = .agg #[.int .i64 b, .int .i64 i, .int .i64 1, .int .i64 2, .int .i64 3, .int .i64 (dof i)] ∧ rowAt W' p1 6 = true ∧ aggAt W' p3 = .agg #[.int .i64 b, .int .i64 i, .int .i64 1, .int .i64 2, .int .i64 3, .int .i64 (dof i)] ∧ rowAt W' p3 6 = true ∧ W'.cell? ⟨p1, 5, none⟩ = some (.int .i64 (dof i))) (by kernel_rfl) (⟨(agg_facts (w := W8.drew) C8.out 6 rfl).1, (agg_facts (w := W8.drew) C8.out 6 rfl).2, (agg_facts (w := W8.drew) P8.out 6 rfl).1, (agg_facts (w := W8.drew) P8.out 6 rfl).2, cell_of_heap (w := W8.drew) C8.out (i := 5) rfl⟩) (fun hHeld => ?_)
    refine held_take 0 65 (v := ?_) rfl rfl (by kernel_rfl) (by kernel_rfl) (by kernel_rfl) (fun _ _ _ h => h) (by rfl) ?_ (by assumption) ?_
    rotate_left 1
    · intro wq hSq
      try dsimp only at hSq
      go_simp
      try with_reducible rfl
    simp only [List.setIfInBounds_toArray, List.set_cons_zero, List.set_cons_succ]
    refine held_take 1 66 (v := ?_) rfl rfl (by kernel_rfl) (by kernel_rfl) (by kernel_rfl) (fun _ _ _ h => h) (by rfl) ?_ (by assumption) ?_
    rotate_left 1
    · intro wq hSq
      try dsimp only at hSq
      go_simp
      try with_reducible rfl
    simp only [List.setIfInBounds_toArray, List.set_cons_zero, List.set_cons_succ]
    refine held_take 2 67 (v := ?_) rfl rfl (by kernel_rfl) (by kernel_rfl) (by kernel_rfl) (fun _ _ _ h => h) (by rfl) ?_ (by assumption) ?_
    rotate_left 1
    · intro wq hSq
      try dsimp only at hSq
      go_simp
      try with_reducible rfl
    simp only [List.setIfInBounds_toArray, List.set_cons_zero, List.set_cons_succ]
    refine held_skip 3 68 rfl rfl (by kernel_rfl) (by kernel_rfl) (by kernel_rfl) (fun _ _ _ h => h) (by rfl) (by assumption) ?_
    simp only [List.setIfInBounds_toArray, List.set_cons_zero, List.set_cons_succ]
    refine held_skip 4 69 rfl rfl (by kernel_rfl) (by kernel_rfl) (by kernel_rfl) (fun _ _ _ h => h) (by rfl) (by assumption) ?_
    simp only [List.setIfInBounds_toArray, List.set_cons_zero, List.set_cons_succ]
    refine held_take 5 70 (v := ?_) rfl rfl (by kernel_rfl) (by kernel_rfl) (by kernel_rfl) (fun _ _ _ h => h) (by rfl) ?_ (by assumption) ?_
    rotate_left 1
    · intro wq hSq
      try dsimp only at hSq
      go_simp
      try with_reducible rfl
    simp only [List.setIfInBounds_toArray, List.set_cons_zero, List.set_cons_succ]
    refine held_take 6 71 (v := ?_) rfl rfl (by kernel_rfl) (by kernel_rfl) (by kernel_rfl) (fun _ _ _ h => h) (by rfl) ?_ (by assumption) ?_
    rotate_left 1
    · intro wq hSq
      try dsimp only at hSq
      go_simp
      try with_reducible rfl
    simp only [List.setIfInBounds_toArray, List.set_cons_zero, List.set_cons_succ]
    refine held_take 7 72 (v := ?_) rfl rfl (by kernel_rfl) (by kernel_rfl) (by kernel_rfl) (fun _ _ _ h => h) (by rfl) ?_ (by assumption) ?_
    rotate_left 1
    · intro wq hSq
      try dsimp only at hSq
      go_simp
      try with_reducible rfl
    simp only [List.setIfInBounds_toArray, List.set_cons_zero, List.set_cons_succ]
    refine held_take 8 73 (v := ?_) rfl rfl (by kernel_rfl) (by kernel_rfl) (by kernel_rfl) (fun _ _ _ h => h) (by rfl) ?_ (by assumption) ?_
    rotate_left 1
    · intro wq hSq
      try dsimp only at hSq
      go_simp
      try with_reducible rfl
    simp only [List.setIfInBounds_toArray, List.set_cons_zero, List.set_cons_succ]
    refine held_take 9 74 (v := ?_) rfl rfl (by kernel_rfl) (by kernel_rfl) (by kernel_rfl) (fun _ _ _ h => h) (by rfl) ?_ (by assumption) ?_
    rotate_left 1
    · intro wq hSq
      try dsimp only at hSq
      go_simp
      try with_reducible rfl
    simp only [List.setIfInBounds_toArray, List.set_cons_zero, List.set_cons_succ]
    refine held_take 10 75 (v := ?_) rfl rfl (by kernel_rfl) (by kernel_rfl) (by kernel_rfl) (fun _ _ _ h => h) (by rfl) ?_ (by assumption) ?_
    rotate_left 1
    · intro wq hSq
      try dsimp only at hSq
      go_simp
      try with_reducible rfl
    simp only [List.setIfInBounds_toArray, List.set_cons_zero, List.set_cons_succ]
    refine held_take 11 76 (v := ?_) rfl rfl (by kernel_rfl) (by kernel_rfl) (by kernel_rfl) (fun _ _ _ h => h) (by rfl) ?_ (by assumption) ?_
    rotate_left 1
    · intro wq hSq
      try dsimp only at hSq
      go_simp
      try with_reducible rfl
    simp only [List.setIfInBounds_toArray, List.set_cons_zero, List.set_cons_succ]
    refine held_take 12 77 (v := ?_) rfl rfl (by kernel_rfl) (by kernel_rfl) (by kernel_rfl) (fun _ _ _ h => h) (by rfl) ?_ (by assumption) ?_
    rotate_left 1
    · intro wq hSq
      try dsimp only at hSq
      go_simp
      try with_reducible rfl
    simp only [List.setIfInBounds_toArray, List.set_cons_zero, List.set_cons_succ]
    refine held_take 13 78 (v := ?_) rfl rfl (by kernel_rfl) (by kernel_rfl) (by kernel_rfl) (fun _ _ _ h => h) (by rfl) ?_ (by assumption) ?_
    rotate_left 1
    · intro wq hSq
      try dsimp only at hSq
      go_simp
      try with_reducible rfl
    simp only [List.setIfInBounds_toArray, List.set_cons_zero, List.set_cons_succ]
    refine held_take 14 79 (v := ?_) rfl rfl (by kernel_rfl) (by kernel_rfl) (by kernel_rfl) (fun _ _ _ h => h) (by rfl) ?_ (by assumption) ?_
    rotate_left 1
    · intro wq hSq
      try dsimp only at hSq
      go_simp
      try with_reducible rfl
    simp only [List.setIfInBounds_toArray, List.set_cons_zero, List.set_cons_succ]
    refine held_take 15 80 (v := ?_) rfl rfl (by kernel_rfl) (by kernel_rfl) (by kernel_rfl) (fun _ _ _ h => h) (by rfl) ?_ (by assumption) ?_
    rotate_left 1
    · intro wq hSq
      try dsimp only at hSq
      go_simp
      try with_reducible rfl
    simp only [List.setIfInBounds_toArray, List.set_cons_zero, List.set_cons_succ]
    refine held_take 16 81 (v := ?_) rfl rfl (by kernel_rfl) (by kernel_rfl) (by kernel_rfl) (fun _ _ _ h => h) (by rfl) ?_ (by assumption) ?_
    rotate_left 1
    · intro wq hSq
      try dsimp only at hSq
      go_simp
      try with_reducible rfl
    simp only [List.setIfInBounds_toArray, List.set_cons_zero, List.set_cons_succ]
    refine held_take 17 82 (v := ?_) rfl rfl (by kernel_rfl) (by kernel_rfl) (by kernel_rfl) (fun _ _ _ h => h) (by rfl) ?_ (by assumption) ?_
    rotate_left 1
    · intro wq hSq
      try dsimp only at hSq
      go_simp
      try with_reducible rfl
    simp only [List.setIfInBounds_toArray, List.set_cons_zero, List.set_cons_succ]
    refine held_take 18 83 (v := ?_) rfl rfl (by kernel_rfl) (by kernel_rfl) (by kernel_rfl) (fun _ _ _ h => h) (by rfl) ?_ (by assumption) ?_
    rotate_left 1
    · intro wq hSq
      try dsimp only at hSq
      go_simp
      try with_reducible rfl
    simp only [List.setIfInBounds_toArray, List.set_cons_zero, List.set_cons_succ]
    refine held_take 19 84 (v := ?_) rfl rfl (by kernel_rfl) (by kernel_rfl) (by kernel_rfl) (fun _ _ _ h => h) (by rfl) ?_ (by assumption) ?_
    rotate_left 1
    · intro wq hSq
      try dsimp only at hSq
      go_simp
      try with_reducible rfl
    simp only [List.setIfInBounds_toArray, List.set_cons_zero, List.set_cons_succ]
    refine held_take 21 86 (v := ?_) rfl rfl (by kernel_rfl) (by kernel_rfl) (by kernel_rfl) (fun _ _ _ h => h) (by rfl) ?_ (by assumption) ?_
    rotate_left 1
    · intro wq hSq
      try dsimp only at hSq
      go_simp
      try with_reducible rfl
    simp only [List.setIfInBounds_toArray, List.set_cons_zero, List.set_cons_succ]
    refine held_take 22 87 (v := ?_) rfl rfl (by kernel_rfl) (by kernel_rfl) (by kernel_rfl) (fun _ _ _ h => h) (by rfl) ?_ (by assumption) ?_
    rotate_left 1
    · intro wq hSq
      try dsimp only at hSq
      go_simp
      try with_reducible rfl
    simp only [List.setIfInBounds_toArray, List.set_cons_zero, List.set_cons_succ]
    refine held_take 23 88 (v := ?_) rfl rfl (by kernel_rfl) (by kernel_rfl) (by kernel_rfl) (fun _ _ _ h => h) (by rfl) ?_ (by assumption) ?_
    rotate_left 1
    · intro wq hSq
      try dsimp only at hSq
      go_simp
      try with_reducible rfl
    simp only [List.setIfInBounds_toArray, List.set_cons_zero, List.set_cons_succ]
    refine held_take 24 89 (v := ?_) rfl rfl (by kernel_rfl) (by kernel_rfl) (by kernel_rfl) (fun _ _ _ h => h) (by rfl) ?_ (by assumption) ?_
    rotate_left 1
    · intro wq hSq
      try dsimp only at hSq
      go_simp
      try with_reducible rfl
    simp only [List.setIfInBounds_toArray, List.set_cons_zero, List.set_cons_succ]
    refine wpAnyH_ready (rs := [20]) (by kernel_rfl) (by simp) ?_
    refine AllReadyH.cons rfl (fun K hK => ?_) AllReadyH.nil
    go_simp
    refine (PM.out _ _ V8.out.drew).mono ?_
    rintro e W9 ⟨rfl, hb⟩
    have K9 := Lib.hid (below_step K8.out.drew hb)
    have C9 := Lib.hid (keep (w := W8.drew) C8.out hb)
    have P9 := Lib.hid (keep (w := W8.drew) P8.out hb)
    clear hb
    go_wp2_with fail
    refine hK.out _ _ (⟨(agg_facts C9.out 6 rfl).1, (agg_facts C9.out 6 rfl).2, (agg_facts P9.out 6 rfl).1, (agg_facts P9.out 6 rfl).2, cell_of_heap C9.out (i := 5) rfl⟩) (fun hHeld => ?_)
    clear hK K
    refine held_take 25 90 (v := ?_) rfl rfl (by kernel_rfl) (by kernel_rfl) (by kernel_rfl) (fun _ _ _ h => h) (by rfl) ?_ (by assumption) ?_
    rotate_left 1
    · intro wq hSq
      try dsimp only at hSq
      go_simp
      try with_reducible rfl
    simp only [List.setIfInBounds_toArray, List.set_cons_zero, List.set_cons_succ]
    refine held_take 26 91 (v := ?_) rfl rfl (by kernel_rfl) (by kernel_rfl) (by kernel_rfl) (fun _ _ _ h => h) (by rfl) ?_ (by assumption) ?_
    rotate_left 1
    · intro wq hSq
      try dsimp only at hSq
      go_simp
      try with_reducible rfl
    simp only [List.setIfInBounds_toArray, List.set_cons_zero, List.set_cons_succ]
    refine held_take 27 92 (v := ?_) rfl rfl (by kernel_rfl) (by kernel_rfl) (by kernel_rfl) (fun _ _ _ h => h) (by rfl) ?_ (by assumption) ?_
    rotate_left 1
    · intro wq hSq
      try dsimp only at hSq
      go_simp
      try with_reducible rfl
    simp only [List.setIfInBounds_toArray, List.set_cons_zero, List.set_cons_succ]
    refine held_take 28 4 (v := ?_) rfl rfl (by kernel_rfl) (by kernel_rfl) (by kernel_rfl) (fun _ _ _ h => h) (by rfl) ?_ (by assumption) ?_
    rotate_left 1
    · intro wq hSq
      try dsimp only at hSq
      go_simp
      try with_reducible rfl
    simp only [List.setIfInBounds_toArray, List.set_cons_zero, List.set_cons_succ]
    refine wpAnyH_done (by kernel_rfl) ?_ _
    go_wp2_with fail
    go_ret
    exact ⟨ret_bool (by rw [hwr.out]; exact beq_self_eq_true _), K9.out⟩
  · have he : ∃ er : Int, planErr b i = er ∧ (er = 2 ∨ er = 10) := by
      rcases planErr_three b i with h | h | h
      · exact absurd h hp
      · exact ⟨2, h, .inl rfl⟩
      · exact ⟨10, h, .inr rfl⟩
    obtain ⟨er, hE, h2⟩ := he
    rcases h2 with rfl | rfl
    all_goals
      have PP : Hid (∀ w, Calls Try.prog 15 #[.int .i64 b, .int .i64 i] w fun e w' => e = .returned (.tuple #[.agg geo0, .int .i64 (planErr b i)]) ∧ Below w.heap.size w w') := fun w => by
        rw [← planC_no hp]
        exact plan_any _ _ w (by omega)
      have PR : Hid (∀ w, Calls Try.prog 16 #[.int .i64 b, .int .i64 i] w fun e w' => e = .returned (.tuple #[.agg geo0, .int .i64 (planErr b i)]) ∧ Below w.heap.size w w') := fun w => by
        rw [← planC_no hp]
        exact rplan_any _ _ w (by omega)
      have PF : Hid (∀ w, Calls Try.prog 17 #[.int .i64 b, .int .i64 i] w fun e w' => ∃ v, e = .returned (.tuple #[v, .int .i64 (planErr b i)]) ∧ Own w.heap.size w' v [] ∧ Below w.heap.size w w') := fun w => by
        rw [← fmtL_no hp]
        exact fmt_any b i w (by omega)
      have PQ : Hid (∀ w, Calls Try.prog 18 #[.int .i64 b, .int .i64 i] w fun e w' => ∃ v, e = .returned (.tuple #[v, .int .i64 (planErr b i)]) ∧ Own w.heap.size w' v [] ∧ Below w.heap.size w w') := fun w => by
        rw [← fmtL_no hp]
        exact rfmt_any b i w (by omega)
      have PO : Hid (∀ w v, Strs w v [] → Calls Try.prog 20 #[v] w fun e w' => e = .returned (.tuple #[.agg geo0, .int .i64 3]) ∧ Below w.heap.size w w') := fun w v hv => of_nope mof_nil (by decide) w hv
      rw [hE] at PP PR PF PQ
      have hl : Hid (([] : List ByteArray).length ≤ 100000) := by show 0 ≤ 100000; decide
      unfold geo0 at PP PR PO
      generalize ([] : List ByteArray) = L at PF PQ PO hl
      clear hp hE hb0 hb1 hi1
      go_enter Try.func3, Try.ntmps3
      go_wp2_with (first
      | (go_at_call 20; refine (PO.out _ _ V6.out).mono ?_; rintro e W7 ⟨rfl, hb⟩; have K7 := Lib.hid (below_step K6.out hb); have C7 := Lib.hid (keep C6.out hb); have V7 := Lib.hid (V6.out.mono hb); clear hb)
      | (go_at_call 19; refine (PS.out _ _ _ L V5.out X5.out hl.out).mono ?_; rintro e W6 ⟨rfl, hb⟩; have K6 := Lib.hid (below_step K5.out hb); have C6 := Lib.hid (keep C5.out hb); have V6 := Lib.hid (V5.out.mono hb); clear hb)
      | (go_at_call 18; refine (PQ.out _).mono ?_; rintro e W5 ⟨v5, rfl, ho, hb⟩; have K5 := Lib.hid (below_step K4.out hb); have C5 := Lib.hid (keep C4.out hb); have D5 := keep D4.out hb; have V5 := Lib.hid (V4.out.mono hb); have X5 := Lib.hid ho.strs; obtain ⟨a1, a2⟩ := agg_facts C5.out 6 rfl; obtain ⟨a3, a4⟩ := agg_facts D5 6 rfl; clear ho hb D5)
      | (go_at_call 17; refine (PF.out _).mono ?_; rintro e W4 ⟨v4, rfl, ho, hb⟩; have K4 := Lib.hid (below_step K3.out (keep1 hb).2); have C4 := Lib.hid (keep C3.out (keep1 hb).2); have D4 := Lib.hid (keep1 hb).1; have V4 := Lib.hid ho.strs; clear ho hb)
      | (go_at_call 16; refine (PR.out _).mono ?_; rintro e W3 ⟨rfl, hb⟩; have K3 := Lib.hid (below_step K2.out (keep1 hb).2); have C3 := Lib.hid (keep1 hb).1; clear hb)
      | (go_at_call 15; refine (PP.out _).mono ?_; rintro e W2 ⟨rfl, hb⟩; have K2 := Lib.hid (below_step K1.out hb); clear hb)
      | (go_at_call 14; refine (geomAlive_any _).mono ?_; rintro e W1 ⟨rfl, hb⟩; have K1 := Lib.hid hb; clear hb))
      go_quiet (fail)
      go_wp2_with fail
      go_ret
      exact ⟨rfl, below_drewN (K7.out.alloc K7.out.size _) _⟩
end Go.Proofs.Ytopbejdhfndfbaa
