/- Contract of the reference's Of. Condition: at most 100,000 blocks. -/
import Derived.Test.YtopbejdhfndfbaaGeo6
namespace Go.Proofs.Ytopbejdhfndfbaa
open Go.RowKit
set_option maxRecDepth 20000
attribute [local go_sem ↓] loadVar_24 storeVar_24
attribute [local go_sem] run_load24 run_store24 aggAt_new aggAt_past aggAt_drew rowAt_new rowAt_past rowAt_drew rowOpen_new rowOpen_past rowOpen_drew setRow_made' alloc_setRow
theorem mof_short {l : List ByteArray} (h : l.length < 3) : mof l = none := mof_plan (by unfold planErr; rw [if_pos (by omega)]; decide)
theorem OfW.drewN {w W : World} {b o g : Nat} {l : List ByteArray} {cs : Array Value} (h : OfW w W b o g l cs) (n : Nat) : OfW w (W.drewN n) b o g l cs := ⟨h.c0, h.c2, h.hp, h.hz, h.lb, below_drewN h.below n⟩
def okTo (m : ByteArray) (b d k : Nat) : Prop := ∀ j, j < k → (j < d → hasB m j = true) ∧ (b ≤ j → hasB m j = false)
theorem okTo_all {m : ByteArray} {b d : Nat} (hd : d ≤ 1024) (h : okTo m b d 1024) : rightB m b d = true := right_yes (fun k hk => (h k (by omega)).1 hk) fun k h1 h2 => (h k h2).2 h1
theorem okTo_succ {m : ByteArray} {b d k : Nat} (h : okTo m b d k) (h1 : k < d → hasB m k = true) (h2 : b ≤ k → hasB m k = false) : okTo m b d (k + 1) := fun j hj => by
  by_cases e : j = k
  · rw [e]; exact ⟨h1, h2⟩
  · exact h j (by omega)
set_option maxHeartbeats 1000000 in
theorem rof_any (v : Value) (l : List ByteArray) (w : World) (hv : Strs w v l) (hl : l.length ≤ 100000) : Calls Try.prog 23 #[v] w (OfPost l w) := by
  by_cases h3 : l.length < 3
  · obtain ⟨a, cap, rfl, -⟩ := hv.ex
    have hz' : (l.length : Int) < 3 := by omega
    have HN := Lib.hid (mof_short h3)
    clear hv h3
    go_enter Try.func23, Try.ntmps23
    go_wp2_with fail
    refine bodyPost_ret (results_cell_tmp rfl _ _ rfl (load24_heap (heap_alloc_new _ _) rfl)) rfl ?_
    exact of_none HN.out (below_one _ _)
  · rcases hv.shape with ⟨rfl, _⟩ | ⟨h0, b, o, cap, rfl, -, hb, hc⟩
    · exact absurd (by decide) h3
    have h3' : ¬ (l.length : Int) < 3 := by omega
    have HC := Lib.hid hc
    clear hc hv h3
    have HB := Lib.hid hb
    have hbe : Below w.heap.size w (w.alloc (.cells geo0 24)) := below_one _ _
    have HC1 : Hid (∀ i, i < l.length → (w.alloc (.cells geo0 24)).cell? ⟨b, o + i, none⟩ = some (.string (bAt l i))) := fun i hi => (hbe.cell (p := ⟨b, o + i, none⟩) hb).trans (HC.out i hi)
    have c0 := HC1.out 0 h0
    rw [Nat.add_zero] at c0
    clear hb hbe
    unfold geo0 at c0 HC1
    go_enter Try.func23, Try.ntmps23
    go_wp2_with fail
    go_loop [15] (fun i => ∃ k : Nat, k ≤ l.length ∧ i = .int .i64 k ∧ Hid (∀ j, j < k → (bAt l j).size = 128)) (fun i => l.length - (intOf i).toNat)
    case atStart => exact ⟨0, by omega, rfl, fun j hj => by omega⟩
    case round =>
      obtain ⟨k, hk, rfl, HS⟩ := hrel
      by_cases hlt : k < l.length
      · have c1 := HC1.out k hlt
        have i0 : (0 : Int) ≤ k := by omega
        have i1 : (k : Int) < l.length := by omega
        by_cases hz : (bAt l k).size = 128
        · have HS2 : Hid (∀ j, j < k + 1 → (bAt l j).size = 128) := fun j hj => by
            by_cases e : j = k
            · rw [e]; exact hz
            · exact HS.out j (by omega)
          go_wp2_with fail
          go_round
          case rel => exact ⟨k + 1, by omega, by go_num, HS2⟩
          case measure => simp [intOf]; omega
        · have HZ := Lib.hid (mof_size hlt hz)
          have hz' : ¬ ((bAt l k).size : Int) = 128 := by omega
          clear hz
          go_wp2_with fail
          refine bodyPost_ret (results_cell_tmp rfl _ _ rfl (load24_heap (heap_alloc_new _ _) rfl)) rfl ?_
          exact of_none HZ.out (below_one _ _)
      · obtain rfl : k = l.length := by omega
        have hs0 := HS.out 0 h0
        obtain ⟨e1, e2⟩ := ino_slice _ hs0
        have PG : Hid (∀ w, Calls Try.prog 53 #[.string ((bAt l 0).extract 6 8)] w fun e w' => e = .returned (.int .u64 (inoOf (bAt l 0))) ∧ w = w') := by
          rw [← e2]
          exact fun w => rget_any _ w e1
        have hi := inoOf_lt (bAt l 0)
        have HX := Lib.hid e1
        clear e1 e2 hk hlt
        by_cases hp : planErr l.length (inoOf (bAt l 0)) = 0
        · obtain ⟨p1, p2, p3, p4, p5⟩ := planErr_ok hp
          rw [dataOf_nat] at p5
          have hD : dof (inoOf (bAt l 0)) ≤ 300 := by unfold dof; omega
          have c2 := HC1.out 2 (by omega)
          have PP : Hid (∀ w, Calls Try.prog 16 #[.int .i64 l.length, .int .i64 (inoOf (bAt l 0))] w fun e w' => e = .returned (.tuple #[.agg (geoC l.length (inoOf (bAt l 0)) (dof (inoOf (bAt l 0)))), .int .i64 0]) ∧ Below w.heap.size w w') := fun w => by
            rw [← dataOf_nat, ← planC_yes hp, ← hp]
            exact rplan_any _ _ w (by omega)
          have PF : Hid (∀ w, Calls Try.prog 48 #[.agg (geoC l.length (inoOf (bAt l 0)) (dof (inoOf (bAt l 0))))] w fun e w' => e = .returned (.string (headB l.length (inoOf (bAt l 0)))) ∧ Below w.heap.size w w') := fun w => head_any _ _ _ w (by omega) (by omega)
          have HY := Lib.hid (fun h3 h4 => mof_yes HS.out hp h3 h4)
          have HH := Lib.hid (mof_head (l := l))
          have HQ := Lib.hid (mof_right (l := l))
          have HM2 := Lib.hid (HS.out 2 (by omega))
          have n2 : (2 : Int) < l.length := by omega
          have HD2 : Hid (dof (inoOf (bAt l 0)) ≤ 300 ∧ l.length ≤ 223 ∧ dof (inoOf (bAt l 0)) < l.length) := ⟨hD, by omega, by omega⟩
          unfold geoC at PP
          clear p1 p2 p3 p4 p5 hD hp HS
          go_wp2_with (first | (go_at_call 16; refine (PP.out _).mono ?_; rintro e W1 ⟨rfl, hb1⟩; have HK := Lib.hid (keep1 hb1); have f0 := (hb1.cell (p := ⟨b, o, none⟩) (by rw [alloc_size]; exact Nat.lt_succ_of_lt HB.out)).trans c0; have f2 := (hb1.cell (p := ⟨b, o + 2, none⟩) (by rw [alloc_size]; exact Nat.lt_succ_of_lt HB.out)).trans c2; have l1 := hb1.size; clear hb1) | (go_at_call 53; refine (PG.out _).mono ?_; rintro e W1 ⟨rfl, rfl⟩))
          obtain ⟨W2, hW⟩ : ∃ W2, W2 = W1.alloc (.cells (geoC l.length (inoOf (bAt l 0)) (dof (inoOf (bAt l 0)))) 24) := ⟨_, rfl⟩
          have hlb : b < W1.heap.size := by have := HB.out; rw [alloc_size] at l1; omega
          have HW : Hid (OfW w W2 b o W1.heap.size l (geoC l.length (inoOf (bAt l 0)) (dof (inoOf (bAt l 0))))) := by
            have ha := below_one W1 (.cells (geoC l.length (inoOf (bAt l 0)) (dof (inoOf (bAt l 0)))) 24)
            rw [← hW] at ha
            exact ⟨(ha.cell (p := ⟨b, o, none⟩) hlb).trans f0, (ha.cell (p := ⟨b, o + 2, none⟩) hlb).trans f2, by rw [hW]; exact heap_alloc_new _ _, keep HK.out.1 ha, Nat.lt_of_lt_of_le hlb ha.size, below_step HK.out.2 ha⟩
          unfold geoC at hW PF HW
          rw [← hW]
          clear hW f0 f2 l1 hlb HK PP PG
          have hgl := Lib.hid (heap_lt HW.out.hp)
          generalize W1.heap.size = g at HW hgl
          have n0 : (0 : Int) < l.length := by omega
          clear h3' HC HC1 c0 c2 hl hs0 hi HX
          by_cases hh : bAt l 0 = headB l.length (inoOf (bAt l 0))
          · rw [← hh] at PF
            have HN0 := Lib.hid (fun h4 => HY.out hh h4)
            clear HH HY hh
            refine wp_region_held_drew (S := fun W' => W'.cell? ⟨b, o, none⟩ = some (.string (bAt l 0)) ∧ W'.cell? ⟨b, o + 2, none⟩ = some (.string (bAt l 2)) ∧ aggAt W' g = .agg #[.int .i64 l.length, .int .i64 (inoOf (bAt l 0)), .int .i64 1, .int .i64 2, .int .i64 3, .int .i64 (dof (inoOf (bAt l 0)))] ∧ rowAt W' g 6 = true ∧ W'.cell? ⟨g, 3, none⟩ = some (.int .i64 2)) (by kernel_rfl) (HW.out.drew.keep rfl rfl) (fun hHeld => ?_)
            refine held_take 0 36 (v := ?_) rfl rfl (by kernel_rfl) (by kernel_rfl) (by kernel_rfl) (fun _ _ _ h => h) (by rfl) ?_ (by assumption) ?_
            rotate_left 1
            · intro wq hSq
              try dsimp only at hSq
              go_simp
              try with_reducible rfl
            simp only [List.setIfInBounds_toArray, List.set_cons_zero, List.set_cons_succ]
            refine held_take 1 37 (v := ?_) rfl rfl (by kernel_rfl) (by kernel_rfl) (by kernel_rfl) (fun _ _ _ h => h) (by rfl) ?_ (by assumption) ?_
            rotate_left 1
            · intro wq hSq
              try dsimp only at hSq
              go_simp
              try with_reducible rfl
            simp only [List.setIfInBounds_toArray, List.set_cons_zero, List.set_cons_succ]
            refine held_take 2 38 (v := ?_) rfl rfl (by kernel_rfl) (by kernel_rfl) (by kernel_rfl) (fun _ _ _ h => h) (by rfl) ?_ (by assumption) ?_
            rotate_left 1
            · intro wq hSq
              try dsimp only at hSq
              go_simp
              try with_reducible rfl
            simp only [List.setIfInBounds_toArray, List.set_cons_zero, List.set_cons_succ]
            refine held_take 3 39 (v := ?_) rfl rfl (by kernel_rfl) (by kernel_rfl) (by kernel_rfl) (fun _ _ _ h => h) (by rfl) ?_ (by assumption) ?_
            rotate_left 1
            · intro wq hSq
              try dsimp only at hSq
              go_simp
              try with_reducible rfl
            simp only [List.setIfInBounds_toArray, List.set_cons_zero, List.set_cons_succ]
            refine held_take 4 40 (v := ?_) rfl rfl (by kernel_rfl) (by kernel_rfl) (by kernel_rfl) (fun _ _ _ h => h) (by rfl) ?_ (by assumption) ?_
            rotate_left 1
            · intro wq hSq
              try dsimp only at hSq
              go_simp
              try with_reducible rfl
            simp only [List.setIfInBounds_toArray, List.set_cons_zero, List.set_cons_succ]
            refine held_take 5 41 (v := ?_) rfl rfl (by kernel_rfl) (by kernel_rfl) (by kernel_rfl) (fun _ _ _ h => h) (by rfl) ?_ (by assumption) ?_
            rotate_left 1
            · intro wq hSq
              try dsimp only at hSq
              go_simp
              try with_reducible rfl
            simp only [List.setIfInBounds_toArray, List.set_cons_zero, List.set_cons_succ]
            refine held_take 6 42 (v := ?_) rfl rfl (by kernel_rfl) (by kernel_rfl) (by kernel_rfl) (fun _ _ _ h => h) (by rfl) ?_ (by assumption) ?_
            rotate_left 1
            · intro wq hSq
              try dsimp only at hSq
              go_simp
              try with_reducible rfl
            simp only [List.setIfInBounds_toArray, List.set_cons_zero, List.set_cons_succ]
            refine wpAnyH_ready (rs := [7]) (by kernel_rfl) (by simp) ?_
            refine AllReadyH.cons rfl (fun K hK => ?_) AllReadyH.nil
            go_simp
            refine (PF.out _).mono ?_
            rintro e W3 ⟨rfl, hb3⟩
            have HW3 := Lib.hid (HW.out.drew.step hb3)
            clear hb3
            go_wp2_with fail
            refine hK.out _ _ (HW3.out.keep rfl rfl) (fun hHeld => ?_)
            clear hK K
            refine held_take 8 44 (v := ?_) rfl rfl (by kernel_rfl) (by kernel_rfl) (by kernel_rfl) (fun _ _ _ h => h) (by rfl) ?_ (by assumption) ?_
            rotate_left 1
            · intro wq hSq
              try dsimp only at hSq
              go_simp
              try with_reducible rfl
            simp only [List.setIfInBounds_toArray, List.set_cons_zero, List.set_cons_succ]
            refine held_take 9 45 (v := ?_) rfl rfl (by kernel_rfl) (by kernel_rfl) (by kernel_rfl) (fun _ _ _ h => h) (by rfl) ?_ (by assumption) ?_
            rotate_left 1
            · intro wq hSq
              try dsimp only at hSq
              go_simp
              try with_reducible rfl
            simp only [List.setIfInBounds_toArray, List.set_cons_zero, List.set_cons_succ]
            refine wpAnyH_done (by kernel_rfl) ?_ _
            clear hHeld HW hgl PF
            go_wp2_with fail
            obtain ⟨-, v2, ug, ur, -, ro⟩ := HW3.out.facts rfl rfl
            have vd := cell_of_heap HW3.out.hp (i := 5) rfl
            have vb := cell_of_heap HW3.out.hp (i := 0) rfl
            go_loop [8] (fun x => ∃ k : Nat, k ≤ 1024 ∧ x = .int .i64 k ∧ Hid (okTo (bAt l 2) l.length (dof (inoOf (bAt l 0))) k)) (fun x => 1024 - (intOf x).toNat)
            case atStart => exact ⟨0, by omega, rfl, fun j hj => by omega⟩
            case round =>
              obtain ⟨k, hk, rfl, HO⟩ := hrel
              have hd := HD2.out
              have hm := HM2.out
              by_cases hlt : k < 1024
              · by_cases hkd : k < dof (inoOf (bAt l 0))
                · have t1 : (k : Int) < (dof (inoOf (bAt l 0)) : Int) := by omega
                  have t2 : ¬ (l.length : Int) ≤ (k : Int) := by omega
                  cases hh : hasB (bAt l 2) k with
                  | false =>
                    have HN := Lib.hid (HQ.out (right_no1 hkd hh))
                    have HH := Lib.hid hh
                    have HB2 : Hid (∀ w, Calls Try.prog 54 #[.string (bAt l 2), .int .i64 k] w fun e w' => e = .returned (.bool false) ∧ w = w') := fun w => by rw [← hh]; exact bit_any _ _ w (by omega) (by omega)
                    clear hh hd hm hkd
                    go_wp2_with (go_at_call 54; refine (HB2.out _).mono ?_; rintro e w1 ⟨rfl, rfl⟩)
                    refine bodyPost_ret (results_cell_tmp rfl _ _ rfl (end24 _ _ _ ro rfl)) rfl ?_
                    exact of_none HN.out (below_setRow HW3.out.below (Nat.le_refl _) _)
                  | true =>
                    have HO2 := Lib.hid (okTo_succ HO.out (fun _ => hh) (fun h => absurd h (by omega)))
                    have HB2 : Hid (∀ w, Calls Try.prog 54 #[.string (bAt l 2), .int .i64 k] w fun e w' => e = .returned (.bool true) ∧ w = w') := fun w => by rw [← hh]; exact bit_any _ _ w (by omega) (by omega)
                    clear hh hd hm hkd
                    go_wp2_with (go_at_call 54; refine (HB2.out _).mono ?_; rintro e w1 ⟨rfl, rfl⟩)
                    go_round
                    case rel => exact ⟨k + 1, by omega, by go_num, HO2⟩
                    case measure => simp [intOf]; omega
                · have t1 : ¬ (k : Int) < (dof (inoOf (bAt l 0)) : Int) := by omega
                  by_cases hkb : l.length ≤ k
                  · have t2 : (l.length : Int) ≤ (k : Int) := by omega
                    cases hh : hasB (bAt l 2) k with
                    | true =>
                      have HN := Lib.hid (HQ.out (right_no2 hkb hlt hh))
                      have HB2 : Hid (∀ w, Calls Try.prog 54 #[.string (bAt l 2), .int .i64 k] w fun e w' => e = .returned (.bool true) ∧ w = w') := fun w => by rw [← hh]; exact bit_any _ _ w (by omega) (by omega)
                      clear hh hd hm hkd hkb
                      go_wp2_with (go_at_call 54; refine (HB2.out _).mono ?_; rintro e w1 ⟨rfl, rfl⟩)
                      refine bodyPost_ret (results_cell_tmp rfl _ _ rfl (end24 _ _ _ ro rfl)) rfl ?_
                      exact of_none HN.out (below_setRow HW3.out.below (Nat.le_refl _) _)
                    | false =>
                      have HO2 := Lib.hid (okTo_succ HO.out (fun h => absurd h hkd) (fun _ => hh))
                      have HB2 : Hid (∀ w, Calls Try.prog 54 #[.string (bAt l 2), .int .i64 k] w fun e w' => e = .returned (.bool false) ∧ w = w') := fun w => by rw [← hh]; exact bit_any _ _ w (by omega) (by omega)
                      clear hh hd hm hkd hkb
                      go_wp2_with (go_at_call 54; refine (HB2.out _).mono ?_; rintro e w1 ⟨rfl, rfl⟩)
                      go_round
                      case rel => exact ⟨k + 1, by omega, by go_num, HO2⟩
                      case measure => simp [intOf]; omega
                  · have t2 : ¬ (l.length : Int) ≤ (k : Int) := by omega
                    have HO2 := Lib.hid (okTo_succ HO.out (fun h => absurd h hkd) (fun h => absurd h hkb))
                    clear hd hm hkd hkb
                    go_wp2_with fail
                    go_round
                    case rel => exact ⟨k + 1, by omega, by go_num, HO2⟩
                    case measure => simp [intOf]; omega
              · obtain rfl : k = 1024 := by omega
                have HN := Lib.hid (HN0.out (okTo_all (by omega) HO.out))
                go_wp2_with fail
                refine bodyPost_ret (results_cell_tmp rfl _ _ rfl (end24 _ _ _ ro rfl)) rfl ?_
                exact of_some HN.out (below_setRow HW3.out.below (Nat.le_refl _) _)
          · have hne2 : (((bAt l 0).toList == (headB l.length (inoOf (bAt l 0))).toList) = false) := str_ne hh
            have HN := Lib.hid (HH.out hh)
            clear HH HQ HY HD2 HM2 hh
            generalize headB l.length (inoOf (bAt l 0)) = F at PF hne2
            refine wp_region_held_drew (S := fun W' => W'.cell? ⟨b, o, none⟩ = some (.string (bAt l 0)) ∧ W'.cell? ⟨b, o + 2, none⟩ = some (.string (bAt l 2)) ∧ aggAt W' g = .agg #[.int .i64 l.length, .int .i64 (inoOf (bAt l 0)), .int .i64 1, .int .i64 2, .int .i64 3, .int .i64 (dof (inoOf (bAt l 0)))] ∧ rowAt W' g 6 = true ∧ W'.cell? ⟨g, 3, none⟩ = some (.int .i64 2)) (by kernel_rfl) (HW.out.drew.keep rfl rfl) (fun hHeld => ?_)
            refine held_take 0 36 (v := ?_) rfl rfl (by kernel_rfl) (by kernel_rfl) (by kernel_rfl) (fun _ _ _ h => h) (by rfl) ?_ (by assumption) ?_
            rotate_left 1
            · intro wq hSq
              try dsimp only at hSq
              go_simp
              try with_reducible rfl
            simp only [List.setIfInBounds_toArray, List.set_cons_zero, List.set_cons_succ]
            refine held_take 1 37 (v := ?_) rfl rfl (by kernel_rfl) (by kernel_rfl) (by kernel_rfl) (fun _ _ _ h => h) (by rfl) ?_ (by assumption) ?_
            rotate_left 1
            · intro wq hSq
              try dsimp only at hSq
              go_simp
              try with_reducible rfl
            simp only [List.setIfInBounds_toArray, List.set_cons_zero, List.set_cons_succ]
            refine held_take 2 38 (v := ?_) rfl rfl (by kernel_rfl) (by kernel_rfl) (by kernel_rfl) (fun _ _ _ h => h) (by rfl) ?_ (by assumption) ?_
            rotate_left 1
            · intro wq hSq
              try dsimp only at hSq
              go_simp
              try with_reducible rfl
            simp only [List.setIfInBounds_toArray, List.set_cons_zero, List.set_cons_succ]
            refine held_take 3 39 (v := ?_) rfl rfl (by kernel_rfl) (by kernel_rfl) (by kernel_rfl) (fun _ _ _ h => h) (by rfl) ?_ (by assumption) ?_
            rotate_left 1
            · intro wq hSq
              try dsimp only at hSq
              go_simp
              try with_reducible rfl
            simp only [List.setIfInBounds_toArray, List.set_cons_zero, List.set_cons_succ]
            refine held_take 4 40 (v := ?_) rfl rfl (by kernel_rfl) (by kernel_rfl) (by kernel_rfl) (fun _ _ _ h => h) (by rfl) ?_ (by assumption) ?_
            rotate_left 1
            · intro wq hSq
              try dsimp only at hSq
              go_simp
              try with_reducible rfl
            simp only [List.setIfInBounds_toArray, List.set_cons_zero, List.set_cons_succ]
            refine held_take 5 41 (v := ?_) rfl rfl (by kernel_rfl) (by kernel_rfl) (by kernel_rfl) (fun _ _ _ h => h) (by rfl) ?_ (by assumption) ?_
            rotate_left 1
            · intro wq hSq
              try dsimp only at hSq
              go_simp
              try with_reducible rfl
            simp only [List.setIfInBounds_toArray, List.set_cons_zero, List.set_cons_succ]
            refine held_take 6 42 (v := ?_) rfl rfl (by kernel_rfl) (by kernel_rfl) (by kernel_rfl) (fun _ _ _ h => h) (by rfl) ?_ (by assumption) ?_
            rotate_left 1
            · intro wq hSq
              try dsimp only at hSq
              go_simp
              try with_reducible rfl
            simp only [List.setIfInBounds_toArray, List.set_cons_zero, List.set_cons_succ]
            refine wpAnyH_ready (rs := [7]) (by kernel_rfl) (by simp) ?_
            refine AllReadyH.cons rfl (fun K hK => ?_) AllReadyH.nil
            go_simp
            refine (PF.out _).mono ?_
            rintro e W3 ⟨rfl, hb3⟩
            have HW3 := Lib.hid (HW.out.drew.step hb3)
            clear hb3
            go_wp2_with fail
            refine hK.out _ _ (HW3.out.keep rfl rfl) (fun hHeld => ?_)
            clear hK K
            refine held_take 8 44 (v := ?_) rfl rfl (by kernel_rfl) (by kernel_rfl) (by kernel_rfl) (fun _ _ _ h => h) (by rfl) ?_ (by assumption) ?_
            rotate_left 1
            · intro wq hSq
              try dsimp only at hSq
              go_simp
              try with_reducible rfl
            simp only [List.setIfInBounds_toArray, List.set_cons_zero, List.set_cons_succ]
            refine held_take 9 45 (v := ?_) rfl rfl (by kernel_rfl) (by kernel_rfl) (by kernel_rfl) (fun _ _ _ h => h) (by rfl) ?_ (by assumption) ?_
            rotate_left 1
            · intro wq hSq
              try dsimp only at hSq
              go_simp
              try with_reducible rfl
            simp only [List.setIfInBounds_toArray, List.set_cons_zero, List.set_cons_succ]
            refine wpAnyH_done (by kernel_rfl) ?_ _
            have ro := (HW3.out.facts rfl rfl).2.2.2.2.2
            go_wp2_with fail
            refine bodyPost_ret (results_cell_tmp rfl _ _ rfl (end24 _ _ _ ro rfl)) rfl ?_
            exact of_none HN.out (below_setRow HW3.out.below (Nat.le_refl _) _)
        · rcases planErr_three l.length (inoOf (bAt l 0)) with h | h | h
          · exact absurd h hp
          all_goals
           have PP : Hid (∀ w, Calls Try.prog 16 #[.int .i64 l.length, .int .i64 (inoOf (bAt l 0))] w fun e w' => e = .returned (.tuple #[.agg geo0, .int .i64 (planErr l.length (inoOf (bAt l 0)))]) ∧ Below w.heap.size w w') := fun w => by
            rw [← planC_no hp]
            exact rplan_any _ _ w (by omega)
           have HM := Lib.hid (mof_plan hp)
           rw [h] at PP
           clear h hp
           unfold geo0 at PP
           go_wp2_with (first | (go_at_call 16; refine (PP.out _).mono ?_; rintro e W1 ⟨rfl, hb1⟩; have HK := Lib.hid (keep1 hb1); have r1 := rowOpen_of HK.out.1 6 rfl; have r2 := heap_lt HK.out.1; clear hb1) | (go_at_call 53; refine (PG.out _).mono ?_; rintro e W1 ⟨rfl, rfl⟩))
           have ro : ∀ n, rowOpen ((W1.alloc (.cells #[.int .i64 0, .int .i64 0, .int .i64 0, .int .i64 0, .int .i64 0, .int .i64 0] 24)).drewN n) w.heap.size 6 = true := fun n => (rowOpen_past _ _ _ _ r2).trans r1
           go_quiet (fail)
           go_wp2_with fail
           refine bodyPost_ret (results_cell_tmp rfl _ _ rfl (end24 _ _ _ (ro _) rfl)) rfl ?_
           exact of_none HM.out (below_setRow (below_drewN (HK.out.2.alloc HK.out.2.size _) _) (Nat.le_refl _) _)
end Go.Proofs.Ytopbejdhfndfbaa
