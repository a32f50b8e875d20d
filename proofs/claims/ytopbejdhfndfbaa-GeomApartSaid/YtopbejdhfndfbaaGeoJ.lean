/- The law GeomApart, walked. No condition. -/
import Derived.Test.YtopbejdhfndfbaaGeoI
namespace Go.Proofs.Ytopbejdhfndfbaa
open Go.RowKit
set_option maxRecDepth 20000
attribute [local go_sem ↓] loadVar_24 storeVar_24 loadVar_39
attribute [local go_sem] run_load24 run_store24 run_load39 aggAt_new aggAt_past aggAt_drew rowAt_new rowAt_past rowAt_drew rowOpen_new rowOpen_past rowOpen_drew setRow_made' alloc_setRow
/-- What stands behind the taking and the giving back. -/
structure Ap (w W : World) (p g cap g4 cap4 g5 cap5 : Nat) (L1 L2 L3 : List ByteArray) (cs : Array Value) : Prop where
  v : Row w.heap.size W g cap L1
  t : Row w.heap.size W g4 cap4 L2
  x : Row w.heap.size W g5 cap5 L3
  hp : W.heap[p]? = some (.cells cs 24)
  below : Below w.heap.size w W
theorem Ap.step {w W W' : World} {p g cap g4 cap4 g5 cap5 : Nat} {L1 L2 L3 : List ByteArray} {cs : Array Value} (h : Ap w W p g cap g4 cap4 g5 cap5 L1 L2 L3 cs) (hb : Below W.heap.size W W') : Ap w W' p g cap g4 cap4 g5 cap5 L1 L2 L3 cs :=
  ⟨h.v.step hb, h.t.step hb, h.x.step hb, keep h.hp hb, below_step h.below hb⟩
theorem Ap.drew {w W : World} {p g cap g4 cap4 g5 cap5 : Nat} {L1 L2 L3 : List ByteArray} {cs : Array Value} (h : Ap w W p g cap g4 cap4 g5 cap5 L1 L2 L3 cs) : Ap w W.drew p g cap g4 cap4 g5 cap5 L1 L2 L3 cs :=
  ⟨h.v.drew, h.t.drew, h.x.drew, h.hp, h.below.drew⟩
theorem Row.lower {B B' : Nat} {w : World} {g cap : Nat} {l : List ByteArray} (h : Row B w g cap l) (hB : B' ≤ B) : Row B' w g cap l := ⟨h.ex, Nat.le_trans hB h.lo, h.len, h.cap⟩
theorem rown {B : Nat} {w : World} {v : Value} {l : List ByteArray} {n : Nat} (h : Own B w v l) (hn : l.length = n) (h0 : 0 < n) : ∃ g cap, v = .slice (some ⟨g, 0, none⟩) n cap ∧ Row B w g cap l := by
  subst hn
  exact h.row h0
theorem Row.cellIs {B : Nat} {w : World} {g cap : Nat} {l : List ByteArray} (h : Row B w g cap l) {i : Nat} {x : ByteArray} (hi : i < l.length) (hx : bAt l i = x) : w.cell? ⟨g, i, none⟩ = some (.string x) := by
  rw [← hx]
  exact h.cell hi
/-- The plain law. -/
structure Apart (L1 L2 L3 : List ByteArray) (b i k : Nat) : Prop where
  v1 : Vol L1 i
  v2 : Vol L2 i
  v3 : Vol L3 i
  l1 : L1.length = b
  l2 : L2.length = b
  l3 : L3.length = b
  k0 : dof i ≤ k
  k1 : k < b
  zero : bAt L2 k = zb
  back : bAt L3 k = zb
  map : bAt L3 2 = bAt L1 2
  rest2 : ∀ j, j ≠ 2 → j ≠ k → bAt L2 j = bAt L1 j
  rest3 : ∀ j, j ≠ 2 → j ≠ k → bAt L3 j = bAt L1 j
  free : hasB (bAt L1 2) k = false
  has : ∀ j, hasB (bAt L2 2) j = if j = k then true else hasB (bAt L1 2) j
theorem apart_of {L1 L2 : List ByteArray} {i k b : Nat} (hv : Vol L1 i) (hb : L1.length = b) (hT : Took L1 L2 i k) : ∃ L3, mgive L2 (k : Nat) = (L3, 0) ∧ Apart L1 L2 L3 b i k := by
  have hh := hT.has hv
  obtain ⟨h1, h2⟩ := give_ok hT.vol hT.lo (by rw [hT.len]; exact hT.hi) (by rw [hh k, if_pos rfl])
  have g3 := dof_ge i
  have hlo := hT.lo
  refine ⟨_, h1, hv, hT.vol, h2.vol, hb, hT.len.trans hb, h2.len.trans (hT.len.trans hb), hT.lo, by rw [← hb]; exact hT.hi, hT.zero, ?_, ?_, hT.rest, ?_, hT.free, hh⟩
  · rw [h2.rest k (by omega)]; exact hT.zero
  · rw [h2.map, hT.map, turn_turn _ _ (by rw [hv.map_size]; have := hT.hi; have := hv.b1; omega)]
  · intro j hj hj2
    rw [h2.rest j hj]
    exact hT.rest j hj hj2
theorem Apart.used2 {L1 L2 L3 : List ByteArray} {b i k : Nat} (h : Apart L1 L2 L3 b i k) {j : Nat} (hj : j < b) : mused L2 (j : Nat) = if j = k then true else hasB (bAt L1 2) j := by
  rw [h.v2.used_lt (by rw [h.l2]; exact hj), h.has j]
theorem Apart.used1 {L1 L2 L3 : List ByteArray} {b i k : Nat} (h : Apart L1 L2 L3 b i k) {j : Nat} (hj : j < b) : mused L1 (j : Nat) = hasB (bAt L1 2) j := h.v1.used_lt (by rw [h.l1]; exact hj)
theorem Apart.used3 {L1 L2 L3 : List ByteArray} {b i k : Nat} (h : Apart L1 L2 L3 b i k) : mused L3 (k : Nat) = false := by
  rw [h.v3.used_lt (by rw [h.l3]; exact h.k1), h.map]
  exact h.free
theorem Ap.k17 {w W : World} {p g cap g4 cap4 g5 cap5 b i k : Nat} {L1 L2 L3 : List ByteArray} {cs : Array Value} (h : Ap w W p g cap g4 cap4 g5 cap5 L1 L2 L3 cs) (a : Apart L1 L2 L3 b i k) (hc : cs[3]? = some (.int .i64 2)) :
    W.cell? ⟨g4, k, none⟩ = some (.string zb) ∧ W.cell? ⟨g5, k, none⟩ = some (.string zb) ∧ W.cell? ⟨g5, 2, none⟩ = some (.string (bAt L1 2)) ∧ W.cell? ⟨g, 2, none⟩ = some (.string (bAt L1 2)) ∧ W.cell? ⟨p, 3, none⟩ = some (.int .i64 2) := by
  have := a.v1.b0
  have := a.l1
  have := a.l2
  have := a.l3
  have := a.k1
  exact ⟨h.t.cellIs (by omega) a.zero, h.x.cellIs (by omega) a.back, h.x.cellIs (by omega) a.map, h.v.cellIs (by omega) rfl, cell_of_heap h.hp hc⟩
theorem Ap.k22 {w W : World} {p g cap g4 cap4 g5 cap5 b i k j : Nat} {L1 L2 L3 : List ByteArray} {cs : Array Value} (h : Ap w W p g cap g4 cap4 g5 cap5 L1 L2 L3 cs) (a : Apart L1 L2 L3 b i k) (hc : cs[3]? = some (.int .i64 2)) (hj : j < b) (h2 : j ≠ 2) (hk : j ≠ k) :
    W.cell? ⟨g4, j, none⟩ = some (.string (bAt L1 j)) ∧ W.cell? ⟨g5, j, none⟩ = some (.string (bAt L1 j)) ∧ W.cell? ⟨g, j, none⟩ = some (.string (bAt L1 j)) ∧ W.cell? ⟨p, 3, none⟩ = some (.int .i64 2) := by
  have := a.l1
  have := a.l2
  have := a.l3
  exact ⟨h.t.cellIs (by omega) (a.rest2 j h2 hk), h.x.cellIs (by omega) (a.rest3 j h2 hk), h.v.cellIs (by omega) rfl, cell_of_heap h.hp hc⟩
set_option maxHeartbeats 4000000 in
theorem apart_walk (s0 s1 : Int) (va : Value) (acts : List Int) (fill : ByteArray) (w : World) (h00 : 0 ≤ s0) (h01 : s0 ≤ 255) (h10 : 0 ≤ s1) (h11 : s1 ≤ 255) (ha : Ints w va acts) :
    Calls Try.prog 6 #[.agg #[.int .u8 s0, .int .u8 s1], va, .string fill] w fun e w' => e = .returned (.bool true) ∧ Below w.heap.size w w' := by
  have HA := Lib.hid ha
  obtain ⟨a, capa, rfl, -⟩ := ha.ex
  clear ha
  by_cases h60 : acts.length ≤ 60
  · have t60 : ¬ (60 : Int) < acts.length := by omega
    by_cases h128 : fill.size = 128
    · have PV : Hid (∀ w, Ints w (.slice a acts.length capa) acts → Calls Try.prog 31 #[.agg #[.int .u8 s0, .int .u8 s1], .slice a acts.length capa] w (VolPost w)) := fun w hw => volume_any s0 s1 _ acts w h00 h01 h10 h11 hw h60
      have PO : Hid (∀ w v L i b, Strs w v L → Vol L i → L.length = b → Calls Try.prog 20 #[v] w fun e w' => e = .returned (.tuple #[.agg #[.int .i64 b, .int .i64 i, .int .i64 1, .int .i64 2, .int .i64 3, .int .i64 (dof i)], .int .i64 0]) ∧ Below w.heap.size w w') := fun w v L i b hv hV hL => by
        subst hL
        exact of_yes (mof_of hV) (by have := hV.b1; omega) w hv
      have t128 : (fill.size : Int) = 128 := by omega
      have HF := Lib.hid h128
      clear h60 h00 h01 h10 h11 h128
      go_enter Try.func6, Try.ntmps6
      go_wp2_with (first
        | (go_at_call 20; refine (PO.out _ _ L i b (O2.out.own' HL.out.symm).strs HV.out HL.out).mono ?_; rintro e W3 ⟨rfl, hb⟩; have K3 := Lib.hid (below_step K2.out hb); have O3 := Lib.hid (O2.out.step hb); clear hb)
        | (go_at_call 31; refine (PV.out _ (HA.out.mono K1.out)).mono ?_; rintro e W2 ⟨v2, L, i, rfl, ho, hV, h55, hb⟩; obtain ⟨b, hL⟩ : ∃ b, L.length = b := ⟨_, rfl⟩; obtain ⟨g, cap, rfl, hR⟩ := rown ho hL (by have := hV.b0; omega); have K2 := Lib.hid (below_step K1.out hb); have O2 := Lib.hid (hR.lower K1.out.size); have HV := Lib.hid hV; have HL := Lib.hid hL; have b55 : b ≤ 55 := (by omega); have b16 : 16 ≤ b := (by have := hV.b0; omega); clear ho hb hV hR h55)
        | (go_at_call 14; refine (geomAlive_any _).mono ?_; rintro e W1 ⟨rfl, hb⟩; have K1 := Lib.hid (keep1 hb).2; obtain ⟨x1, x2⟩ := agg_facts (keep1 hb).1 2 rfl; clear hb))
      have HW0 : Hid (Fw w (W3.alloc (.cells #[.int .i64 b, .int .i64 i, .int .i64 1, .int .i64 2, .int .i64 3, .int .i64 (dof i)] 24)) W3.heap.size g cap L #[.int .i64 b, .int .i64 i, .int .i64 1, .int .i64 2, .int .i64 3, .int .i64 (dof i)]) :=
        ⟨O3.out.step (below_one _ _), heap_alloc_new _ _, K3.out.alloc K3.out.size _, Nat.ne_of_gt O3.out.lt⟩
      generalize W3.alloc (.cells #[.int .i64 b, .int .i64 i, .int .i64 1, .int .i64 2, .int .i64 3, .int .i64 (dof i)] 24) = W4 at HW0 ⊢
      generalize W3.heap.size = p at HW0 ⊢
      clear PV PO K1 K2 K3 O2 O3 x1 x2 HA t128 t60
      go_loopw [10] (fun x W => ∃ n : Nat, 3 ≤ n ∧ n ≤ b ∧ x = .int .i64 n ∧ ∃ L, Hid (Fw w W p g cap L #[.int .i64 b, .int .i64 i, .int .i64 1, .int .i64 2, .int .i64 3, .int .i64 (dof i)]) ∧ Hid (Vol L i) ∧ Hid (L.length = b)) (fun x _ => b - (intOf x).toNat)
      case atStart => exact ⟨3, by omega, by omega, rfl, L, HW0, HV, HL⟩
      case round =>
        clear HW0 HV HL
        obtain ⟨n, hn3, hn, rfl, L, HW, HV, HL⟩ := hrel
        have d0 := cell_of_heap HW.out.hp (i := 0) rfl
        by_cases hlt : n < b
        · have i1 : (n : Int) < b := by omega
          have i0 : (0 : Int) ≤ n := by omega
          have HLn := Lib.hid (show n < L.length by rw [HL.out]; exact hlt)
          have c1 := HW.out.row.cell HLn.out
          have c2 := HW.out.row.froz n
          go_wp2_with fail
          go_roundw
          case rel => exact ⟨n + 1, by omega, by omega, by go_num, L.set n fill, HW.out.set HLn.out fill, vol_put HV.out hn3 HF.out, by rw [List.length_set]; exact HL.out⟩
          case measure => simp [intOf]; omega
        · obtain rfl : n = b := by omega
          have PT : Hid (∀ w v, Strs w v L → Calls Try.prog 27 #[v] w fun e w' => ∃ v, e = .returned (.tuple #[v, .int .i64 (mtake L).2.1, .int .i64 (mtake L).2.2]) ∧ Own w.heap.size w' v (mtake L).1 ∧ Below w.heap.size w w') := fun w v hv => take_any v L w hv (by have := HL.out; omega)
          rcases take_cases HV.out with ⟨h1, h0⟩ | ⟨L2, k, h1, hT⟩
          · rw [h1] at PT
            have PM : Hid (∀ w v, Strs w v L → Calls Try.prog 21 #[v] w fun e w' => e = .returned (.int .i64 0) ∧ Below w.heap.size w w') := fun w v hv => by
              have := room_any v L w hv (by have := HL.out; omega)
              rw [h0] at this
              exact this
            clear h1 h0
            go_wp2_with (first
              | (go_at_call 21; refine (PM.out _ _ V5.out).mono ?_; rintro e W6 ⟨rfl, hb⟩; have K6 := Lib.hid (below_step K5.out hb); clear hb)
              | (go_at_call 27; refine (PT.out _ _ (HW.out.row.own' HL.out.symm).strs).mono ?_; rintro e W5 ⟨v5, rfl, ho, hb⟩; have K5 := Lib.hid (below_step HW.out.below hb); have V5 := Lib.hid ((HW.out.row.own' HL.out.symm).below hb).strs; clear ho hb))
            go_ret
            exact ⟨rfl, K6.out⟩
          · rw [h1] at PT
            obtain ⟨L3, hg, hA⟩ := apart_of HV.out HL.out hT
            have HAp := Lib.hid hA
            have PY : Hid (∀ w v, Strs w v L2 → Calls Try.prog 29 #[v, .int .i64 (k : Nat)] w fun e w' => ∃ v, e = .returned (.tuple #[v, .int .i64 0]) ∧ Own w.heap.size w' v L3 ∧ Below w.heap.size w w') := fun w v hv => by
              have := give_any v L2 k w hv (by have := hA.l2; omega)
              unfold GivePost at this
              rw [hg] at this
              exact this
            have PZ : Hid (∀ w, Calls Try.prog 32 #[.int .i64 128] w fun e w' => e = .returned (.string zb) ∧ w = w') := fun w => zeros2_any 128 w (by decide)
            have PU3 : Hid (∀ w v, Strs w v L3 → Calls Try.prog 24 #[v, .int .i64 (k : Nat)] w fun e w' => e = .returned (.bool false) ∧ Below w.heap.size w w') := fun w v hv => by
              rw [← hA.used3]
              exact used_any v L3 k w hv (by have := hA.l3; omega)
            have ki1 : (k : Int) < n := by have := hA.k1; omega
            have ki0 : (0 : Int) ≤ k := by omega
            have n2 : (2 : Int) < n := by omega
            clear h1 hg hA hT hlt hn
            rename_i L0
            clear HV
            obtain ⟨L1, hL1⟩ : ∃ L1, L1 = L := ⟨_, rfl⟩
            rw [← hL1] at HW HL PT HAp
            clear hL1
            go_wp2_with (first
              | (go_at_call 29; refine (PY.out _ _ (T5.out.own' HAp.out.l2.symm).strs).mono ?_; rintro e W6 ⟨v6, rfl, ho, hb⟩; obtain ⟨g5, cap5, rfl, hR⟩ := rown ho HAp.out.l3 (by omega); have HW6 : Hid (Ap w W6 p g cap g4 cap4 g5 cap5 L1 L2 L3 #[.int .i64 n, .int .i64 i, .int .i64 1, .int .i64 2, .int .i64 3, .int .i64 (dof i)]) := ⟨V5.out.step hb, T5.out.step hb, hR.lower K5.out.size, keep P5.out hb, below_step K5.out hb⟩; clear ho hb hR)
              | (go_at_call 27; refine (PT.out _ _ (HW.out.row.own' HL.out.symm).strs).mono ?_; rintro e W5 ⟨v5, rfl, ho, hb⟩; obtain ⟨g4, cap4, rfl, hR⟩ := rown ho HAp.out.l2 (by omega); have K5 := Lib.hid (below_step HW.out.below hb); have V5 := Lib.hid (HW.out.row.step hb); have P5 := Lib.hid (keep HW.out.hp hb); have T5 := Lib.hid (hR.lower HW.out.below.size); clear ho hb hR))
            clear HW
            have HW := HW6
            clear HW6 V5 P5 T5 K5 PT PY
            refine wp_region_held_drew (S := fun W' => W'.cell? ⟨g4, k, none⟩ = some (.string zb) ∧ W'.cell? ⟨g5, k, none⟩ = some (.string zb) ∧ W'.cell? ⟨g5, 2, none⟩ = some (.string (bAt L1 2)) ∧ W'.cell? ⟨g, 2, none⟩ = some (.string (bAt L1 2)) ∧ W'.cell? ⟨p, 3, none⟩ = some (.int .i64 2)) (by kernel_rfl) (HW.out.drew.k17 HAp.out rfl) (fun hHeld => ?_)
            refine held_take 0 73 (v := ?_) rfl rfl (by kernel_rfl) (by kernel_rfl) (by kernel_rfl) (fun _ _ _ h => h) (by rfl) ?_ (by assumption) ?_
            rotate_left 1
            · intro wq hSq
              try dsimp only at hSq
              go_simp
              try with_reducible rfl
            simp only [List.setIfInBounds_toArray, List.set_cons_zero, List.set_cons_succ]
            refine held_take 1 74 (v := ?_) rfl rfl (by kernel_rfl) (by kernel_rfl) (by kernel_rfl) (fun _ _ _ h => h) (by rfl) ?_ (by assumption) ?_
            rotate_left 1
            · intro wq hSq
              try dsimp only at hSq
              go_simp
              try with_reducible rfl
            simp only [List.setIfInBounds_toArray, List.set_cons_zero, List.set_cons_succ]
            refine held_take 2 75 (v := ?_) rfl rfl (by kernel_rfl) (by kernel_rfl) (by kernel_rfl) (fun _ _ _ h => h) (by rfl) ?_ (by assumption) ?_
            rotate_left 1
            · intro wq hSq
              try dsimp only at hSq
              go_simp
              try with_reducible rfl
            simp only [List.setIfInBounds_toArray, List.set_cons_zero, List.set_cons_succ]
            refine held_take 3 76 (v := ?_) rfl rfl (by kernel_rfl) (by kernel_rfl) (by kernel_rfl) (fun _ _ _ h => h) (by rfl) ?_ (by assumption) ?_
            rotate_left 1
            · intro wq hSq
              try dsimp only at hSq
              go_simp
              try with_reducible rfl
            simp only [List.setIfInBounds_toArray, List.set_cons_zero, List.set_cons_succ]
            refine held_take 4 77 (v := ?_) rfl rfl (by kernel_rfl) (by kernel_rfl) (by kernel_rfl) (fun _ _ _ h => h) (by rfl) ?_ (by assumption) ?_
            rotate_left 1
            · intro wq hSq
              try dsimp only at hSq
              go_simp
              try with_reducible rfl
            simp only [List.setIfInBounds_toArray, List.set_cons_zero, List.set_cons_succ]
            refine held_take 5 78 (v := ?_) rfl rfl (by kernel_rfl) (by kernel_rfl) (by kernel_rfl) (fun _ _ _ h => h) (by rfl) ?_ (by assumption) ?_
            rotate_left 1
            · intro wq hSq
              try dsimp only at hSq
              go_simp
              try with_reducible rfl
            simp only [List.setIfInBounds_toArray, List.set_cons_zero, List.set_cons_succ]
            refine held_take 6 79 (v := ?_) rfl rfl (by kernel_rfl) (by kernel_rfl) (by kernel_rfl) (fun _ _ _ h => h) (by rfl) ?_ (by assumption) ?_
            rotate_left 1
            · intro wq hSq
              try dsimp only at hSq
              go_simp
              try with_reducible rfl
            simp only [List.setIfInBounds_toArray, List.set_cons_zero, List.set_cons_succ]
            refine held_take 7 80 (v := ?_) rfl rfl (by kernel_rfl) (by kernel_rfl) (by kernel_rfl) (fun _ _ _ h => h) (by rfl) ?_ (by assumption) ?_
            rotate_left 1
            · intro wq hSq
              try dsimp only at hSq
              go_simp
              try with_reducible rfl
            simp only [List.setIfInBounds_toArray, List.set_cons_zero, List.set_cons_succ]
            refine held_take 8 81 (v := ?_) rfl rfl (by kernel_rfl) (by kernel_rfl) (by kernel_rfl) (fun _ _ _ h => h) (by rfl) ?_ (by assumption) ?_
            rotate_left 1
            · intro wq hSq
              try dsimp only at hSq
              go_simp
              try with_reducible rfl
            simp only [List.setIfInBounds_toArray, List.set_cons_zero, List.set_cons_succ]
            refine held_take 9 82 (v := ?_) rfl rfl (by kernel_rfl) (by kernel_rfl) (by kernel_rfl) (fun _ _ _ h => h) (by rfl) ?_ (by assumption) ?_
            rotate_left 1
            · intro wq hSq
              try dsimp only at hSq
              go_simp
              try with_reducible rfl
            simp only [List.setIfInBounds_toArray, List.set_cons_zero, List.set_cons_succ]
            refine held_take 10 83 (v := ?_) rfl rfl (by kernel_rfl) (by kernel_rfl) (by kernel_rfl) (fun _ _ _ h => h) (by rfl) ?_ (by assumption) ?_
            rotate_left 1
            · intro wq hSq
              try dsimp only at hSq
              go_simp
              try with_reducible rfl
            simp only [List.setIfInBounds_toArray, List.set_cons_zero, List.set_cons_succ]
            refine held_take 11 84 (v := ?_) rfl rfl (by kernel_rfl) (by kernel_rfl) (by kernel_rfl) (fun _ _ _ h => h) (by rfl) ?_ (by assumption) ?_
            rotate_left 1
            · intro wq hSq
              try dsimp only at hSq
              go_simp
              try with_reducible rfl
            simp only [List.setIfInBounds_toArray, List.set_cons_zero, List.set_cons_succ]
            refine held_take 12 85 (v := ?_) rfl rfl (by kernel_rfl) (by kernel_rfl) (by kernel_rfl) (fun _ _ _ h => h) (by rfl) ?_ (by assumption) ?_
            rotate_left 1
            · intro wq hSq
              try dsimp only at hSq
              go_simp
              try with_reducible rfl
            simp only [List.setIfInBounds_toArray, List.set_cons_zero, List.set_cons_succ]
            refine held_take 13 86 (v := ?_) rfl rfl (by kernel_rfl) (by kernel_rfl) (by kernel_rfl) (fun _ _ _ h => h) (by rfl) ?_ (by assumption) ?_
            rotate_left 1
            · intro wq hSq
              try dsimp only at hSq
              go_simp
              try with_reducible rfl
            simp only [List.setIfInBounds_toArray, List.set_cons_zero, List.set_cons_succ]
            refine held_take 14 87 (v := ?_) rfl rfl (by kernel_rfl) (by kernel_rfl) (by kernel_rfl) (fun _ _ _ h => h) (by rfl) ?_ (by assumption) ?_
            rotate_left 1
            · intro wq hSq
              try dsimp only at hSq
              go_simp
              try with_reducible rfl
            simp only [List.setIfInBounds_toArray, List.set_cons_zero, List.set_cons_succ]
            refine held_take 15 88 (v := ?_) rfl rfl (by kernel_rfl) (by kernel_rfl) (by kernel_rfl) (fun _ _ _ h => h) (by rfl) ?_ (by assumption) ?_
            rotate_left 1
            · intro wq hSq
              try dsimp only at hSq
              go_simp
              try with_reducible rfl
            simp only [List.setIfInBounds_toArray, List.set_cons_zero, List.set_cons_succ]
            refine held_take 16 89 (v := ?_) rfl rfl (by kernel_rfl) (by kernel_rfl) (by kernel_rfl) (fun _ _ _ h => h) (by rfl) ?_ (by assumption) ?_
            rotate_left 1
            · intro wq hSq
              try dsimp only at hSq
              go_simp
              try with_reducible rfl
            simp only [List.setIfInBounds_toArray, List.set_cons_zero, List.set_cons_succ]
            refine held_take 17 90 (v := ?_) rfl rfl (by kernel_rfl) (by kernel_rfl) (by kernel_rfl) (fun _ _ _ h => h) (by rfl) ?_ (by assumption) ?_
            rotate_left 1
            · intro wq hSq
              try dsimp only at hSq
              go_simp
              try with_reducible rfl
            simp only [List.setIfInBounds_toArray, List.set_cons_zero, List.set_cons_succ]
            refine held_take 18 91 (v := ?_) rfl rfl (by kernel_rfl) (by kernel_rfl) (by kernel_rfl) (fun _ _ _ h => h) (by rfl) ?_ (by assumption) ?_
            rotate_left 1
            · intro wq hSq
              try dsimp only at hSq
              go_simp
              try with_reducible rfl
            simp only [List.setIfInBounds_toArray, List.set_cons_zero, List.set_cons_succ]
            refine held_take 19 92 (v := ?_) rfl rfl (by kernel_rfl) (by kernel_rfl) (by kernel_rfl) (fun _ _ _ h => h) (by rfl) ?_ (by assumption) ?_
            rotate_left 1
            · intro wq hSq
              try dsimp only at hSq
              go_simp
              try with_reducible rfl
            simp only [List.setIfInBounds_toArray, List.set_cons_zero, List.set_cons_succ]
            refine held_take 20 93 (v := ?_) rfl rfl (by kernel_rfl) (by kernel_rfl) (by kernel_rfl) (fun _ _ _ h => h) (by rfl) ?_ (by assumption) ?_
            rotate_left 1
            · intro wq hSq
              try dsimp only at hSq
              go_simp
              try with_reducible rfl
            simp only [List.setIfInBounds_toArray, List.set_cons_zero, List.set_cons_succ]
            refine wpAnyH_ready (rs := [21]) (by kernel_rfl) (by simp) ?_
            refine AllReadyH.cons rfl (fun K hK => ?_) AllReadyH.nil
            go_simp
            refine (PZ.out _).mono ?_
            rintro e W7 ⟨rfl, rfl⟩
            go_wp2_with fail
            refine hK.out _ _ (HW.out.drew.k17 HAp.out rfl) (fun hHeld => ?_)
            clear hK K
            refine held_take 22 95 (v := ?_) rfl rfl (by kernel_rfl) (by kernel_rfl) (by kernel_rfl) (fun _ _ _ h => h) (by rfl) ?_ (by assumption) ?_
            rotate_left 1
            · intro wq hSq
              try dsimp only at hSq
              go_simp
              try with_reducible rfl
            simp only [List.setIfInBounds_toArray, List.set_cons_zero, List.set_cons_succ]
            refine held_take 23 96 (v := ?_) rfl rfl (by kernel_rfl) (by kernel_rfl) (by kernel_rfl) (fun _ _ _ h => h) (by rfl) ?_ (by assumption) ?_
            rotate_left 1
            · intro wq hSq
              try dsimp only at hSq
              go_simp
              try with_reducible rfl
            simp only [List.setIfInBounds_toArray, List.set_cons_zero, List.set_cons_succ]
            refine held_take 24 97 (v := ?_) rfl rfl (by kernel_rfl) (by kernel_rfl) (by kernel_rfl) (fun _ _ _ h => h) (by rfl) ?_ (by assumption) ?_
            rotate_left 1
            · intro wq hSq
              try dsimp only at hSq
              go_simp
              try with_reducible rfl
            simp only [List.setIfInBounds_toArray, List.set_cons_zero, List.set_cons_succ]
            refine held_take 25 98 (v := ?_) rfl rfl (by kernel_rfl) (by kernel_rfl) (by kernel_rfl) (fun _ _ _ h => h) (by rfl) ?_ (by assumption) ?_
            rotate_left 1
            · intro wq hSq
              try dsimp only at hSq
              go_simp
              try with_reducible rfl
            simp only [List.setIfInBounds_toArray, List.set_cons_zero, List.set_cons_succ]
            refine held_take 26 99 (v := ?_) rfl rfl (by kernel_rfl) (by kernel_rfl) (by kernel_rfl) (fun _ _ _ h => h) (by rfl) ?_ (by assumption) ?_
            rotate_left 1
            · intro wq hSq
              try dsimp only at hSq
              go_simp
              try with_reducible rfl
            simp only [List.setIfInBounds_toArray, List.set_cons_zero, List.set_cons_succ]
            refine held_take 27 100 (v := ?_) rfl rfl (by kernel_rfl) (by kernel_rfl) (by kernel_rfl) (fun _ _ _ h => h) (by rfl) ?_ (by assumption) ?_
            rotate_left 1
            · intro wq hSq
              try dsimp only at hSq
              go_simp
              try with_reducible rfl
            simp only [List.setIfInBounds_toArray, List.set_cons_zero, List.set_cons_succ]
            refine held_take 28 101 (v := ?_) rfl rfl (by kernel_rfl) (by kernel_rfl) (by kernel_rfl) (fun _ _ _ h => h) (by rfl) ?_ (by assumption) ?_
            rotate_left 1
            · intro wq hSq
              try dsimp only at hSq
              go_simp
              try with_reducible rfl
            simp only [List.setIfInBounds_toArray, List.set_cons_zero, List.set_cons_succ]
            refine held_take 29 102 (v := ?_) rfl rfl (by kernel_rfl) (by kernel_rfl) (by kernel_rfl) (fun _ _ _ h => h) (by rfl) ?_ (by assumption) ?_
            rotate_left 1
            · intro wq hSq
              try dsimp only at hSq
              go_simp
              try with_reducible rfl
            simp only [List.setIfInBounds_toArray, List.set_cons_zero, List.set_cons_succ]
            refine held_take 30 103 (v := ?_) rfl rfl (by kernel_rfl) (by kernel_rfl) (by kernel_rfl) (fun _ _ _ h => h) (by rfl) ?_ (by assumption) ?_
            rotate_left 1
            · intro wq hSq
              try dsimp only at hSq
              go_simp
              try with_reducible rfl
            simp only [List.setIfInBounds_toArray, List.set_cons_zero, List.set_cons_succ]
            refine held_take 31 104 (v := ?_) rfl rfl (by kernel_rfl) (by kernel_rfl) (by kernel_rfl) (fun _ _ _ h => h) (by rfl) ?_ (by assumption) ?_
            rotate_left 1
            · intro wq hSq
              try dsimp only at hSq
              go_simp
              try with_reducible rfl
            simp only [List.setIfInBounds_toArray, List.set_cons_zero, List.set_cons_succ]
            refine held_take 32 105 (v := ?_) rfl rfl (by kernel_rfl) (by kernel_rfl) (by kernel_rfl) (fun _ _ _ h => h) (by rfl) ?_ (by assumption) ?_
            rotate_left 1
            · intro wq hSq
              try dsimp only at hSq
              go_simp
              try with_reducible rfl
            simp only [List.setIfInBounds_toArray, List.set_cons_zero, List.set_cons_succ]
            refine held_take 33 106 (v := ?_) rfl rfl (by kernel_rfl) (by kernel_rfl) (by kernel_rfl) (fun _ _ _ h => h) (by rfl) ?_ (by assumption) ?_
            rotate_left 1
            · intro wq hSq
              try dsimp only at hSq
              go_simp
              try with_reducible rfl
            simp only [List.setIfInBounds_toArray, List.set_cons_zero, List.set_cons_succ]
            refine held_take 34 107 (v := ?_) rfl rfl (by kernel_rfl) (by kernel_rfl) (by kernel_rfl) (fun _ _ _ h => h) (by rfl) ?_ (by assumption) ?_
            rotate_left 1
            · intro wq hSq
              try dsimp only at hSq
              go_simp
              try with_reducible rfl
            simp only [List.setIfInBounds_toArray, List.set_cons_zero, List.set_cons_succ]
            refine held_take 35 108 (v := ?_) rfl rfl (by kernel_rfl) (by kernel_rfl) (by kernel_rfl) (fun _ _ _ h => h) (by rfl) ?_ (by assumption) ?_
            rotate_left 1
            · intro wq hSq
              try dsimp only at hSq
              go_simp
              try with_reducible rfl
            simp only [List.setIfInBounds_toArray, List.set_cons_zero, List.set_cons_succ]
            refine held_take 36 109 (v := ?_) rfl rfl (by kernel_rfl) (by kernel_rfl) (by kernel_rfl) (fun _ _ _ h => h) (by rfl) ?_ (by assumption) ?_
            rotate_left 1
            · intro wq hSq
              try dsimp only at hSq
              go_simp
              try with_reducible rfl
            simp only [List.setIfInBounds_toArray, List.set_cons_zero, List.set_cons_succ]
            refine held_take 37 110 (v := ?_) rfl rfl (by kernel_rfl) (by kernel_rfl) (by kernel_rfl) (fun _ _ _ h => h) (by rfl) ?_ (by assumption) ?_
            rotate_left 1
            · intro wq hSq
              try dsimp only at hSq
              go_simp
              try with_reducible rfl
            simp only [List.setIfInBounds_toArray, List.set_cons_zero, List.set_cons_succ]
            refine held_take 38 111 (v := ?_) rfl rfl (by kernel_rfl) (by kernel_rfl) (by kernel_rfl) (fun _ _ _ h => h) (by rfl) ?_ (by assumption) ?_
            rotate_left 1
            · intro wq hSq
              try dsimp only at hSq
              go_simp
              try with_reducible rfl
            simp only [List.setIfInBounds_toArray, List.set_cons_zero, List.set_cons_succ]
            refine held_take 39 112 (v := ?_) rfl rfl (by kernel_rfl) (by kernel_rfl) (by kernel_rfl) (fun _ _ _ h => h) (by rfl) ?_ (by assumption) ?_
            rotate_left 1
            · intro wq hSq
              try dsimp only at hSq
              go_simp
              try with_reducible rfl
            simp only [List.setIfInBounds_toArray, List.set_cons_zero, List.set_cons_succ]
            refine held_take 40 113 (v := ?_) rfl rfl (by kernel_rfl) (by kernel_rfl) (by kernel_rfl) (fun _ _ _ h => h) (by rfl) ?_ (by assumption) ?_
            rotate_left 1
            · intro wq hSq
              try dsimp only at hSq
              go_simp
              try with_reducible rfl
            simp only [List.setIfInBounds_toArray, List.set_cons_zero, List.set_cons_succ]
            refine held_take 41 114 (v := ?_) rfl rfl (by kernel_rfl) (by kernel_rfl) (by kernel_rfl) (fun _ _ _ h => h) (by rfl) ?_ (by assumption) ?_
            rotate_left 1
            · intro wq hSq
              try dsimp only at hSq
              go_simp
              try with_reducible rfl
            simp only [List.setIfInBounds_toArray, List.set_cons_zero, List.set_cons_succ]
            refine held_take 42 115 (v := ?_) rfl rfl (by kernel_rfl) (by kernel_rfl) (by kernel_rfl) (fun _ _ _ h => h) (by rfl) ?_ (by assumption) ?_
            rotate_left 1
            · intro wq hSq
              try dsimp only at hSq
              go_simp
              try with_reducible rfl
            simp only [List.setIfInBounds_toArray, List.set_cons_zero, List.set_cons_succ]
            refine held_take 43 116 (v := ?_) rfl rfl (by kernel_rfl) (by kernel_rfl) (by kernel_rfl) (fun _ _ _ h => h) (by rfl) ?_ (by assumption) ?_
            rotate_left 1
            · intro wq hSq
              try dsimp only at hSq
              go_simp
              try with_reducible rfl
            simp only [List.setIfInBounds_toArray, List.set_cons_zero, List.set_cons_succ]
            refine held_take 44 117 (v := ?_) rfl rfl (by kernel_rfl) (by kernel_rfl) (by kernel_rfl) (fun _ _ _ h => h) (by rfl) ?_ (by assumption) ?_
            rotate_left 1
            · intro wq hSq
              try dsimp only at hSq
              go_simp
              try with_reducible rfl
            simp only [List.setIfInBounds_toArray, List.set_cons_zero, List.set_cons_succ]
            refine held_take 45 118 (v := ?_) rfl rfl (by kernel_rfl) (by kernel_rfl) (by kernel_rfl) (fun _ _ _ h => h) (by rfl) ?_ (by assumption) ?_
            rotate_left 1
            · intro wq hSq
              try dsimp only at hSq
              go_simp
              try with_reducible rfl
            simp only [List.setIfInBounds_toArray, List.set_cons_zero, List.set_cons_succ]
            refine held_take 46 119 (v := ?_) rfl rfl (by kernel_rfl) (by kernel_rfl) (by kernel_rfl) (fun _ _ _ h => h) (by rfl) ?_ (by assumption) ?_
            rotate_left 1
            · intro wq hSq
              try dsimp only at hSq
              go_simp
              try with_reducible rfl
            simp only [List.setIfInBounds_toArray, List.set_cons_zero, List.set_cons_succ]
            refine held_take 47 120 (v := ?_) rfl rfl (by kernel_rfl) (by kernel_rfl) (by kernel_rfl) (fun _ _ _ h => h) (by rfl) ?_ (by assumption) ?_
            rotate_left 1
            · intro wq hSq
              try dsimp only at hSq
              go_simp
              try with_reducible rfl
            simp only [List.setIfInBounds_toArray, List.set_cons_zero, List.set_cons_succ]
            refine held_take 48 121 (v := ?_) rfl rfl (by kernel_rfl) (by kernel_rfl) (by kernel_rfl) (fun _ _ _ h => h) (by rfl) ?_ (by assumption) ?_
            rotate_left 1
            · intro wq hSq
              try dsimp only at hSq
              go_simp
              try with_reducible rfl
            simp only [List.setIfInBounds_toArray, List.set_cons_zero, List.set_cons_succ]
            refine held_take 49 122 (v := ?_) rfl rfl (by kernel_rfl) (by kernel_rfl) (by kernel_rfl) (fun _ _ _ h => h) (by rfl) ?_ (by assumption) ?_
            rotate_left 1
            · intro wq hSq
              try dsimp only at hSq
              go_simp
              try with_reducible rfl
            simp only [List.setIfInBounds_toArray, List.set_cons_zero, List.set_cons_succ]
            refine held_take 50 123 (v := ?_) rfl rfl (by kernel_rfl) (by kernel_rfl) (by kernel_rfl) (fun _ _ _ h => h) (by rfl) ?_ (by assumption) ?_
            rotate_left 1
            · intro wq hSq
              try dsimp only at hSq
              go_simp
              try with_reducible rfl
            simp only [List.setIfInBounds_toArray, List.set_cons_zero, List.set_cons_succ]
            refine wpAnyH_ready (rs := [51]) (by kernel_rfl) (by simp) ?_
            refine AllReadyH.cons rfl (fun K hK => ?_) AllReadyH.nil
            go_simp
            refine (PU3.out _ _ (HW.out.drew.x.own' HAp.out.l3.symm).strs).mono ?_
            rintro e W7 ⟨rfl, hb⟩
            have H7 := Lib.hid (HW.out.drew.step hb)
            clear hb
            go_wp2_with fail
            refine hK.out _ _ (H7.out.k17 HAp.out rfl) (fun hHeld => ?_)
            clear hK K
            refine held_take 52 125 (v := ?_) rfl rfl (by kernel_rfl) (by kernel_rfl) (by kernel_rfl) (fun _ _ _ h => h) (by rfl) ?_ (by assumption) ?_
            rotate_left 1
            · intro wq hSq
              try dsimp only at hSq
              go_simp
              try with_reducible rfl
            simp only [List.setIfInBounds_toArray, List.set_cons_zero, List.set_cons_succ]
            refine wpAnyH_done (by kernel_rfl) ?_ _
            clear HW PU3 PZ
            go_wp2_with fail
            go_loopw [128] (fun x W => ∃ j : Nat, j ≤ n ∧ x = .int .i64 j ∧ Hid (Ap w W p g cap g4 cap4 g5 cap5 L1 L2 L3 #[.int .i64 n, .int .i64 i, .int .i64 1, .int .i64 2, .int .i64 3, .int .i64 (dof i)])) (fun x _ => n - (intOf x).toNat)
            case atStart => exact ⟨0, Nat.zero_le _, rfl, H7⟩
            case round =>
              clear H7
              obtain ⟨j, hj, rfl, HW⟩ := hrel
              by_cases hlt : j < n
              · have j1 : (j : Int) < n := by omega
                have j0 : (0 : Int) ≤ j := by omega
                have hw2 := HAp.out.used2 hlt
                have hw1 := HAp.out.used1 hlt
                by_cases hj2 : j = 2
                · have hk2 : (2 : Nat) ≠ k := by have := HAp.out.k0; have := dof_ge i; omega
                  have hl2 := HAp.out.v1.low 2 (by have := dof_ge i; omega)
                  subst hj2
                  rw [if_neg hk2, hl2] at hw2
                  rw [hl2] at hw1
                  have PUw : Hid (∀ w v, Strs w v L2 → Calls Try.prog 24 #[v, .int .i64 2] w fun e w' => e = .returned (.bool true) ∧ Below w.heap.size w w') := fun w v hv => by
                    rw [← hw2]
                    exact used_any v L2 _ w hv (by have := HAp.out.l2; omega)
                  have PUv : Hid (∀ w v, Strs w v L1 → Calls Try.prog 24 #[v, .int .i64 2] w fun e w' => e = .returned (.bool true) ∧ Below w.heap.size w w') := fun w v hv => by
                    rw [← hw1]
                    exact used_any v L1 _ w hv (by have := HAp.out.l1; omega)
                  clear hw2 hw1 hl2 hk2 j1 j0
                  go_wp2_with fail
                  refine wp_region_held_drew (S := fun W' => W'.cell? ⟨p, 3, none⟩ = some (.int .i64 2)) (by kernel_rfl) (cell_of_heap HW.out.drew.hp (i := 3) rfl) (fun hHeld => ?_)
                  refine held_take 0 131 (v := ?_) rfl rfl (by kernel_rfl) (by kernel_rfl) (by kernel_rfl) (fun _ _ _ h => h) (by rfl) ?_ (by assumption) ?_
                  rotate_left 1
                  · intro wq hSq
                    try dsimp only at hSq
                    go_simp
                    try with_reducible rfl
                  simp only [List.setIfInBounds_toArray, List.set_cons_zero, List.set_cons_succ]
                  refine held_take 1 132 (v := ?_) rfl rfl (by kernel_rfl) (by kernel_rfl) (by kernel_rfl) (fun _ _ _ h => h) (by rfl) ?_ (by assumption) ?_
                  rotate_left 1
                  · intro wq hSq
                    try dsimp only at hSq
                    go_simp
                    try with_reducible rfl
                  simp only [List.setIfInBounds_toArray, List.set_cons_zero, List.set_cons_succ]
                  refine held_take 2 133 (v := ?_) rfl rfl (by kernel_rfl) (by kernel_rfl) (by kernel_rfl) (fun _ _ _ h => h) (by rfl) ?_ (by assumption) ?_
                  rotate_left 1
                  · intro wq hSq
                    try dsimp only at hSq
                    go_simp
                    try with_reducible rfl
                  simp only [List.setIfInBounds_toArray, List.set_cons_zero, List.set_cons_succ]
                  refine held_take 3 134 (v := ?_) rfl rfl (by kernel_rfl) (by kernel_rfl) (by kernel_rfl) (fun _ _ _ h => h) (by rfl) ?_ (by assumption) ?_
                  rotate_left 1
                  · intro wq hSq
                    try dsimp only at hSq
                    go_simp
                    try with_reducible rfl
                  simp only [List.setIfInBounds_toArray, List.set_cons_zero, List.set_cons_succ]
                  refine held_take 4 135 (v := ?_) rfl rfl (by kernel_rfl) (by kernel_rfl) (by kernel_rfl) (fun _ _ _ h => h) (by rfl) ?_ (by assumption) ?_
                  rotate_left 1
                  · intro wq hSq
                    try dsimp only at hSq
                    go_simp
                    try with_reducible rfl
                  simp only [List.setIfInBounds_toArray, List.set_cons_zero, List.set_cons_succ]
                  refine held_skip 5 136 rfl rfl (by kernel_rfl) (by kernel_rfl) (by kernel_rfl) (fun _ _ _ h => h) (by rfl) (by assumption) ?_
                  simp only [List.setIfInBounds_toArray, List.set_cons_zero, List.set_cons_succ]
                  refine held_skip 6 137 rfl rfl (by kernel_rfl) (by kernel_rfl) (by kernel_rfl) (fun _ _ _ h => h) (by rfl) (by assumption) ?_
                  simp only [List.setIfInBounds_toArray, List.set_cons_zero, List.set_cons_succ]
                  refine held_skip 7 138 rfl rfl (by kernel_rfl) (by kernel_rfl) (by kernel_rfl) (fun _ _ _ h => h) (by rfl) (by assumption) ?_
                  simp only [List.setIfInBounds_toArray, List.set_cons_zero, List.set_cons_succ]
                  refine held_take 8 139 (v := ?_) rfl rfl (by kernel_rfl) (by kernel_rfl) (by kernel_rfl) (fun _ _ _ h => h) (by rfl) ?_ (by assumption) ?_
                  rotate_left 1
                  · intro wq hSq
                    try dsimp only at hSq
                    go_simp
                    try with_reducible rfl
                  simp only [List.setIfInBounds_toArray, List.set_cons_zero, List.set_cons_succ]
                  refine held_take 9 140 (v := ?_) rfl rfl (by kernel_rfl) (by kernel_rfl) (by kernel_rfl) (fun _ _ _ h => h) (by rfl) ?_ (by assumption) ?_
                  rotate_left 1
                  · intro wq hSq
                    try dsimp only at hSq
                    go_simp
                    try with_reducible rfl
                  simp only [List.setIfInBounds_toArray, List.set_cons_zero, List.set_cons_succ]
                  refine held_skip 10 141 rfl rfl (by kernel_rfl) (by kernel_rfl) (by kernel_rfl) (fun _ _ _ h => h) (by rfl) (by assumption) ?_
                  simp only [List.setIfInBounds_toArray, List.set_cons_zero, List.set_cons_succ]
                  refine held_skip 11 142 rfl rfl (by kernel_rfl) (by kernel_rfl) (by kernel_rfl) (fun _ _ _ h => h) (by rfl) (by assumption) ?_
                  simp only [List.setIfInBounds_toArray, List.set_cons_zero, List.set_cons_succ]
                  refine held_skip 12 143 rfl rfl (by kernel_rfl) (by kernel_rfl) (by kernel_rfl) (fun _ _ _ h => h) (by rfl) (by assumption) ?_
                  simp only [List.setIfInBounds_toArray, List.set_cons_zero, List.set_cons_succ]
                  refine held_skip 13 144 rfl rfl (by kernel_rfl) (by kernel_rfl) (by kernel_rfl) (fun _ _ _ h => h) (by rfl) (by assumption) ?_
                  simp only [List.setIfInBounds_toArray, List.set_cons_zero, List.set_cons_succ]
                  refine held_skip 14 145 rfl rfl (by kernel_rfl) (by kernel_rfl) (by kernel_rfl) (fun _ _ _ h => h) (by rfl) (by assumption) ?_
                  simp only [List.setIfInBounds_toArray, List.set_cons_zero, List.set_cons_succ]
                  refine held_skip 15 146 rfl rfl (by kernel_rfl) (by kernel_rfl) (by kernel_rfl) (fun _ _ _ h => h) (by rfl) (by assumption) ?_
                  simp only [List.setIfInBounds_toArray, List.set_cons_zero, List.set_cons_succ]
                  refine held_skip 16 147 rfl rfl (by kernel_rfl) (by kernel_rfl) (by kernel_rfl) (fun _ _ _ h => h) (by rfl) (by assumption) ?_
                  simp only [List.setIfInBounds_toArray, List.set_cons_zero, List.set_cons_succ]
                  refine held_skip 17 148 rfl rfl (by kernel_rfl) (by kernel_rfl) (by kernel_rfl) (fun _ _ _ h => h) (by rfl) (by assumption) ?_
                  simp only [List.setIfInBounds_toArray, List.set_cons_zero, List.set_cons_succ]
                  refine held_skip 18 149 rfl rfl (by kernel_rfl) (by kernel_rfl) (by kernel_rfl) (fun _ _ _ h => h) (by rfl) (by assumption) ?_
                  simp only [List.setIfInBounds_toArray, List.set_cons_zero, List.set_cons_succ]
                  refine held_skip 19 150 rfl rfl (by kernel_rfl) (by kernel_rfl) (by kernel_rfl) (fun _ _ _ h => h) (by rfl) (by assumption) ?_
                  simp only [List.setIfInBounds_toArray, List.set_cons_zero, List.set_cons_succ]
                  refine held_skip 20 151 rfl rfl (by kernel_rfl) (by kernel_rfl) (by kernel_rfl) (fun _ _ _ h => h) (by rfl) (by assumption) ?_
                  simp only [List.setIfInBounds_toArray, List.set_cons_zero, List.set_cons_succ]
                  refine held_skip 21 152 rfl rfl (by kernel_rfl) (by kernel_rfl) (by kernel_rfl) (fun _ _ _ h => h) (by rfl) (by assumption) ?_
                  simp only [List.setIfInBounds_toArray, List.set_cons_zero, List.set_cons_succ]
                  refine held_skip 22 153 rfl rfl (by kernel_rfl) (by kernel_rfl) (by kernel_rfl) (fun _ _ _ h => h) (by rfl) (by assumption) ?_
                  simp only [List.setIfInBounds_toArray, List.set_cons_zero, List.set_cons_succ]
                  refine held_skip 23 154 rfl rfl (by kernel_rfl) (by kernel_rfl) (by kernel_rfl) (fun _ _ _ h => h) (by rfl) (by assumption) ?_
                  simp only [List.setIfInBounds_toArray, List.set_cons_zero, List.set_cons_succ]
                  refine held_skip 24 155 rfl rfl (by kernel_rfl) (by kernel_rfl) (by kernel_rfl) (fun _ _ _ h => h) (by rfl) (by assumption) ?_
                  simp only [List.setIfInBounds_toArray, List.set_cons_zero, List.set_cons_succ]
                  refine held_skip 25 156 rfl rfl (by kernel_rfl) (by kernel_rfl) (by kernel_rfl) (fun _ _ _ h => h) (by rfl) (by assumption) ?_
                  simp only [List.setIfInBounds_toArray, List.set_cons_zero, List.set_cons_succ]
                  refine held_skip 26 157 rfl rfl (by kernel_rfl) (by kernel_rfl) (by kernel_rfl) (fun _ _ _ h => h) (by rfl) (by assumption) ?_
                  simp only [List.setIfInBounds_toArray, List.set_cons_zero, List.set_cons_succ]
                  refine held_skip 27 158 rfl rfl (by kernel_rfl) (by kernel_rfl) (by kernel_rfl) (fun _ _ _ h => h) (by rfl) (by assumption) ?_
                  simp only [List.setIfInBounds_toArray, List.set_cons_zero, List.set_cons_succ]
                  refine held_skip 28 159 rfl rfl (by kernel_rfl) (by kernel_rfl) (by kernel_rfl) (fun _ _ _ h => h) (by rfl) (by assumption) ?_
                  simp only [List.setIfInBounds_toArray, List.set_cons_zero, List.set_cons_succ]
                  refine held_skip 29 160 rfl rfl (by kernel_rfl) (by kernel_rfl) (by kernel_rfl) (fun _ _ _ h => h) (by rfl) (by assumption) ?_
                  simp only [List.setIfInBounds_toArray, List.set_cons_zero, List.set_cons_succ]
                  refine held_take 30 161 (v := ?_) rfl rfl (by kernel_rfl) (by kernel_rfl) (by kernel_rfl) (fun _ _ _ h => h) (by rfl) ?_ (by assumption) ?_
                  rotate_left 1
                  · intro wq hSq
                    try dsimp only at hSq
                    go_simp
                    try with_reducible rfl
                  simp only [List.setIfInBounds_toArray, List.set_cons_zero, List.set_cons_succ]
                  refine held_take 31 162 (v := ?_) rfl rfl (by kernel_rfl) (by kernel_rfl) (by kernel_rfl) (fun _ _ _ h => h) (by rfl) ?_ (by assumption) ?_
                  rotate_left 1
                  · intro wq hSq
                    try dsimp only at hSq
                    go_simp
                    try with_reducible rfl
                  simp only [List.setIfInBounds_toArray, List.set_cons_zero, List.set_cons_succ]
                  refine held_take 32 163 (v := ?_) rfl rfl (by kernel_rfl) (by kernel_rfl) (by kernel_rfl) (fun _ _ _ h => h) (by rfl) ?_ (by assumption) ?_
                  rotate_left 1
                  · intro wq hSq
                    try dsimp only at hSq
                    go_simp
                    try with_reducible rfl
                  simp only [List.setIfInBounds_toArray, List.set_cons_zero, List.set_cons_succ]
                  refine held_take 33 164 (v := ?_) rfl rfl (by kernel_rfl) (by kernel_rfl) (by kernel_rfl) (fun _ _ _ h => h) (by rfl) ?_ (by assumption) ?_
                  rotate_left 1
                  · intro wq hSq
                    try dsimp only at hSq
                    go_simp
                    try with_reducible rfl
                  simp only [List.setIfInBounds_toArray, List.set_cons_zero, List.set_cons_succ]
                  refine held_take 35 166 (v := ?_) rfl rfl (by kernel_rfl) (by kernel_rfl) (by kernel_rfl) (fun _ _ _ h => h) (by rfl) ?_ (by assumption) ?_
                  rotate_left 1
                  · intro wq hSq
                    try dsimp only at hSq
                    go_simp
                    try with_reducible rfl
                  simp only [List.setIfInBounds_toArray, List.set_cons_zero, List.set_cons_succ]
                  refine held_take 36 167 (v := ?_) rfl rfl (by kernel_rfl) (by kernel_rfl) (by kernel_rfl) (fun _ _ _ h => h) (by rfl) ?_ (by assumption) ?_
                  rotate_left 1
                  · intro wq hSq
                    try dsimp only at hSq
                    go_simp
                    try with_reducible rfl
                  simp only [List.setIfInBounds_toArray, List.set_cons_zero, List.set_cons_succ]
                  refine wpAnyH_ready (rs := [34]) (by kernel_rfl) (by simp) ?_
                  refine AllReadyH.cons rfl (fun K hK => ?_) AllReadyH.nil
                  go_simp
                  refine (PUw.out _ _ (HW.out.drew.t.own' HAp.out.l2.symm).strs).mono ?_
                  rintro e W7 ⟨rfl, hb⟩
                  have H7 := Lib.hid (HW.out.drew.step hb)
                  clear hb
                  go_wp2_with fail
                  refine hK.out _ _ (cell_of_heap H7.out.hp (i := 3) rfl) (fun hHeld => ?_)
                  clear hK K
                  refine wpAnyH_ready (rs := [37]) (by kernel_rfl) (by simp) ?_
                  refine AllReadyH.cons rfl (fun K hK => ?_) AllReadyH.nil
                  go_simp
                  refine (PUv.out _ _ (H7.out.v.own' HAp.out.l1.symm).strs).mono ?_
                  rintro e W8 ⟨rfl, hb⟩
                  have H8 := Lib.hid (H7.out.step hb)
                  clear hb
                  go_wp2_with fail
                  refine hK.out _ _ (cell_of_heap H8.out.hp (i := 3) rfl) (fun hHeld => ?_)
                  clear hK K
                  refine held_take 38 169 (v := ?_) rfl rfl (by kernel_rfl) (by kernel_rfl) (by kernel_rfl) (fun _ _ _ h => h) (by rfl) ?_ (by assumption) ?_
                  rotate_left 1
                  · intro wq hSq
                    try dsimp only at hSq
                    go_simp
                    try with_reducible rfl
                  simp only [List.setIfInBounds_toArray, List.set_cons_zero, List.set_cons_succ]
                  refine held_skip 39 170 rfl rfl (by kernel_rfl) (by kernel_rfl) (by kernel_rfl) (fun _ _ _ h => h) (by rfl) (by assumption) ?_
                  simp only [List.setIfInBounds_toArray, List.set_cons_zero, List.set_cons_succ]
                  refine held_skip 40 171 rfl rfl (by kernel_rfl) (by kernel_rfl) (by kernel_rfl) (fun _ _ _ h => h) (by rfl) (by assumption) ?_
                  simp only [List.setIfInBounds_toArray, List.set_cons_zero, List.set_cons_succ]
                  refine held_skip 41 172 rfl rfl (by kernel_rfl) (by kernel_rfl) (by kernel_rfl) (fun _ _ _ h => h) (by rfl) (by assumption) ?_
                  simp only [List.setIfInBounds_toArray, List.set_cons_zero, List.set_cons_succ]
                  refine held_take 42 173 (v := ?_) rfl rfl (by kernel_rfl) (by kernel_rfl) (by kernel_rfl) (fun _ _ _ h => h) (by rfl) ?_ (by assumption) ?_
                  rotate_left 1
                  · intro wq hSq
                    try dsimp only at hSq
                    go_simp
                    try with_reducible rfl
                  simp only [List.setIfInBounds_toArray, List.set_cons_zero, List.set_cons_succ]
                  refine held_take 43 174 (v := ?_) rfl rfl (by kernel_rfl) (by kernel_rfl) (by kernel_rfl) (fun _ _ _ h => h) (by rfl) ?_ (by assumption) ?_
                  rotate_left 1
                  · intro wq hSq
                    try dsimp only at hSq
                    go_simp
                    try with_reducible rfl
                  simp only [List.setIfInBounds_toArray, List.set_cons_zero, List.set_cons_succ]
                  refine held_take 44 175 (v := ?_) rfl rfl (by kernel_rfl) (by kernel_rfl) (by kernel_rfl) (fun _ _ _ h => h) (by rfl) ?_ (by assumption) ?_
                  rotate_left 1
                  · intro wq hSq
                    try dsimp only at hSq
                    go_simp
                    try with_reducible rfl
                  simp only [List.setIfInBounds_toArray, List.set_cons_zero, List.set_cons_succ]
                  refine wpAnyH_done (by kernel_rfl) ?_ _
                  go_wp2_with fail
                  go_roundw
                  case rel => exact ⟨2 + 1, by omega, by go_num, H8⟩
                  case measure => simp [intOf]; omega
                · have nj2 : ((j : Int) != 2) = true := by rw [bne_iff_ne]; omega
                  by_cases hjk : j = k
                  · subst hjk
                    rw [if_pos rfl] at hw2
                    rw [HAp.out.free] at hw1
                    have PUw : Hid (∀ w v, Strs w v L2 → Calls Try.prog 24 #[v, .int .i64 (j : Nat)] w fun e w' => e = .returned (.bool true) ∧ Below w.heap.size w w') := fun w v hv => by
                      rw [← hw2]
                      exact used_any v L2 _ w hv (by have := HAp.out.l2; omega)
                    have PUv : Hid (∀ w v, Strs w v L1 → Calls Try.prog 24 #[v, .int .i64 (j : Nat)] w fun e w' => e = .returned (.bool false) ∧ Below w.heap.size w w') := fun w v hv => by
                      rw [← hw1]
                      exact used_any v L1 _ w hv (by have := HAp.out.l1; omega)
                    clear hw2 hw1 hj2
                    go_wp2_with fail
                    refine wp_region_held_drew (S := fun W' => W'.cell? ⟨p, 3, none⟩ = some (.int .i64 2)) (by kernel_rfl) (cell_of_heap HW.out.drew.hp (i := 3) rfl) (fun hHeld => ?_)
                    refine held_take 0 131 (v := ?_) rfl rfl (by kernel_rfl) (by kernel_rfl) (by kernel_rfl) (fun _ _ _ h => h) (by rfl) ?_ (by assumption) ?_
                    rotate_left 1
                    · intro wq hSq
                      try dsimp only at hSq
                      go_simp
                      try with_reducible rfl
                    simp only [List.setIfInBounds_toArray, List.set_cons_zero, List.set_cons_succ]
                    refine held_take 1 132 (v := ?_) rfl rfl (by kernel_rfl) (by kernel_rfl) (by kernel_rfl) (fun _ _ _ h => h) (by rfl) ?_ (by assumption) ?_
                    rotate_left 1
                    · intro wq hSq
                      try dsimp only at hSq
                      go_simp
                      try with_reducible rfl
                    simp only [List.setIfInBounds_toArray, List.set_cons_zero, List.set_cons_succ]
                    refine held_take 2 133 (v := ?_) rfl rfl (by kernel_rfl) (by kernel_rfl) (by kernel_rfl) (fun _ _ _ h => h) (by rfl) ?_ (by assumption) ?_
                    rotate_left 1
                    · intro wq hSq
                      try dsimp only at hSq
                      go_simp
                      try with_reducible rfl
                    simp only [List.setIfInBounds_toArray, List.set_cons_zero, List.set_cons_succ]
                    refine held_take 3 134 (v := ?_) rfl rfl (by kernel_rfl) (by kernel_rfl) (by kernel_rfl) (fun _ _ _ h => h) (by rfl) ?_ (by assumption) ?_
                    rotate_left 1
                    · intro wq hSq
                      try dsimp only at hSq
                      go_simp
                      try with_reducible rfl
                    simp only [List.setIfInBounds_toArray, List.set_cons_zero, List.set_cons_succ]
                    refine held_take 4 135 (v := ?_) rfl rfl (by kernel_rfl) (by kernel_rfl) (by kernel_rfl) (fun _ _ _ h => h) (by rfl) ?_ (by assumption) ?_
                    rotate_left 1
                    · intro wq hSq
                      try dsimp only at hSq
                      go_simp
                      try with_reducible rfl
                    simp only [List.setIfInBounds_toArray, List.set_cons_zero, List.set_cons_succ]
                    refine held_take 5 136 (v := ?_) rfl rfl (by kernel_rfl) (by kernel_rfl) (by kernel_rfl) (fun _ _ _ h => h) (by rfl) ?_ (by assumption) ?_
                    rotate_left 1
                    · intro wq hSq
                      try dsimp only at hSq
                      go_simp
                      try with_reducible rfl
                    simp only [List.setIfInBounds_toArray, List.set_cons_zero, List.set_cons_succ]
                    refine held_take 6 137 (v := ?_) rfl rfl (by kernel_rfl) (by kernel_rfl) (by kernel_rfl) (fun _ _ _ h => h) (by rfl) ?_ (by assumption) ?_
                    rotate_left 1
                    · intro wq hSq
                      try dsimp only at hSq
                      go_simp
                      try with_reducible rfl
                    simp only [List.setIfInBounds_toArray, List.set_cons_zero, List.set_cons_succ]
                    refine held_take 7 138 (v := ?_) rfl rfl (by kernel_rfl) (by kernel_rfl) (by kernel_rfl) (fun _ _ _ h => h) (by rfl) ?_ (by assumption) ?_
                    rotate_left 1
                    · intro wq hSq
                      try dsimp only at hSq
                      go_simp
                      try with_reducible rfl
                    simp only [List.setIfInBounds_toArray, List.set_cons_zero, List.set_cons_succ]
                    refine held_take 8 139 (v := ?_) rfl rfl (by kernel_rfl) (by kernel_rfl) (by kernel_rfl) (fun _ _ _ h => h) (by rfl) ?_ (by assumption) ?_
                    rotate_left 1
                    · intro wq hSq
                      try dsimp only at hSq
                      go_simp
                      try with_reducible rfl
                    simp only [List.setIfInBounds_toArray, List.set_cons_zero, List.set_cons_succ]
                    refine held_take 9 140 (v := ?_) rfl rfl (by kernel_rfl) (by kernel_rfl) (by kernel_rfl) (fun _ _ _ h => h) (by rfl) ?_ (by assumption) ?_
                    rotate_left 1
                    · intro wq hSq
                      try dsimp only at hSq
                      go_simp
                      try with_reducible rfl
                    simp only [List.setIfInBounds_toArray, List.set_cons_zero, List.set_cons_succ]
                    refine held_skip 10 141 rfl rfl (by kernel_rfl) (by kernel_rfl) (by kernel_rfl) (fun _ _ _ h => h) (by rfl) (by assumption) ?_
                    simp only [List.setIfInBounds_toArray, List.set_cons_zero, List.set_cons_succ]
                    refine held_skip 11 142 rfl rfl (by kernel_rfl) (by kernel_rfl) (by kernel_rfl) (fun _ _ _ h => h) (by rfl) (by assumption) ?_
                    simp only [List.setIfInBounds_toArray, List.set_cons_zero, List.set_cons_succ]
                    refine held_skip 12 143 rfl rfl (by kernel_rfl) (by kernel_rfl) (by kernel_rfl) (fun _ _ _ h => h) (by rfl) (by assumption) ?_
                    simp only [List.setIfInBounds_toArray, List.set_cons_zero, List.set_cons_succ]
                    refine held_skip 13 144 rfl rfl (by kernel_rfl) (by kernel_rfl) (by kernel_rfl) (fun _ _ _ h => h) (by rfl) (by assumption) ?_
                    simp only [List.setIfInBounds_toArray, List.set_cons_zero, List.set_cons_succ]
                    refine held_skip 14 145 rfl rfl (by kernel_rfl) (by kernel_rfl) (by kernel_rfl) (fun _ _ _ h => h) (by rfl) (by assumption) ?_
                    simp only [List.setIfInBounds_toArray, List.set_cons_zero, List.set_cons_succ]
                    refine held_skip 15 146 rfl rfl (by kernel_rfl) (by kernel_rfl) (by kernel_rfl) (fun _ _ _ h => h) (by rfl) (by assumption) ?_
                    simp only [List.setIfInBounds_toArray, List.set_cons_zero, List.set_cons_succ]
                    refine held_skip 16 147 rfl rfl (by kernel_rfl) (by kernel_rfl) (by kernel_rfl) (fun _ _ _ h => h) (by rfl) (by assumption) ?_
                    simp only [List.setIfInBounds_toArray, List.set_cons_zero, List.set_cons_succ]
                    refine held_skip 17 148 rfl rfl (by kernel_rfl) (by kernel_rfl) (by kernel_rfl) (fun _ _ _ h => h) (by rfl) (by assumption) ?_
                    simp only [List.setIfInBounds_toArray, List.set_cons_zero, List.set_cons_succ]
                    refine held_skip 18 149 rfl rfl (by kernel_rfl) (by kernel_rfl) (by kernel_rfl) (fun _ _ _ h => h) (by rfl) (by assumption) ?_
                    simp only [List.setIfInBounds_toArray, List.set_cons_zero, List.set_cons_succ]
                    refine held_skip 19 150 rfl rfl (by kernel_rfl) (by kernel_rfl) (by kernel_rfl) (fun _ _ _ h => h) (by rfl) (by assumption) ?_
                    simp only [List.setIfInBounds_toArray, List.set_cons_zero, List.set_cons_succ]
                    refine held_skip 20 151 rfl rfl (by kernel_rfl) (by kernel_rfl) (by kernel_rfl) (fun _ _ _ h => h) (by rfl) (by assumption) ?_
                    simp only [List.setIfInBounds_toArray, List.set_cons_zero, List.set_cons_succ]
                    refine held_skip 21 152 rfl rfl (by kernel_rfl) (by kernel_rfl) (by kernel_rfl) (fun _ _ _ h => h) (by rfl) (by assumption) ?_
                    simp only [List.setIfInBounds_toArray, List.set_cons_zero, List.set_cons_succ]
                    refine held_skip 22 153 rfl rfl (by kernel_rfl) (by kernel_rfl) (by kernel_rfl) (fun _ _ _ h => h) (by rfl) (by assumption) ?_
                    simp only [List.setIfInBounds_toArray, List.set_cons_zero, List.set_cons_succ]
                    refine held_skip 23 154 rfl rfl (by kernel_rfl) (by kernel_rfl) (by kernel_rfl) (fun _ _ _ h => h) (by rfl) (by assumption) ?_
                    simp only [List.setIfInBounds_toArray, List.set_cons_zero, List.set_cons_succ]
                    refine held_skip 24 155 rfl rfl (by kernel_rfl) (by kernel_rfl) (by kernel_rfl) (fun _ _ _ h => h) (by rfl) (by assumption) ?_
                    simp only [List.setIfInBounds_toArray, List.set_cons_zero, List.set_cons_succ]
                    refine held_skip 25 156 rfl rfl (by kernel_rfl) (by kernel_rfl) (by kernel_rfl) (fun _ _ _ h => h) (by rfl) (by assumption) ?_
                    simp only [List.setIfInBounds_toArray, List.set_cons_zero, List.set_cons_succ]
                    refine held_skip 26 157 rfl rfl (by kernel_rfl) (by kernel_rfl) (by kernel_rfl) (fun _ _ _ h => h) (by rfl) (by assumption) ?_
                    simp only [List.setIfInBounds_toArray, List.set_cons_zero, List.set_cons_succ]
                    refine held_skip 27 158 rfl rfl (by kernel_rfl) (by kernel_rfl) (by kernel_rfl) (fun _ _ _ h => h) (by rfl) (by assumption) ?_
                    simp only [List.setIfInBounds_toArray, List.set_cons_zero, List.set_cons_succ]
                    refine held_skip 28 159 rfl rfl (by kernel_rfl) (by kernel_rfl) (by kernel_rfl) (fun _ _ _ h => h) (by rfl) (by assumption) ?_
                    simp only [List.setIfInBounds_toArray, List.set_cons_zero, List.set_cons_succ]
                    refine held_skip 29 160 rfl rfl (by kernel_rfl) (by kernel_rfl) (by kernel_rfl) (fun _ _ _ h => h) (by rfl) (by assumption) ?_
                    simp only [List.setIfInBounds_toArray, List.set_cons_zero, List.set_cons_succ]
                    refine held_take 30 161 (v := ?_) rfl rfl (by kernel_rfl) (by kernel_rfl) (by kernel_rfl) (fun _ _ _ h => h) (by rfl) ?_ (by assumption) ?_
                    rotate_left 1
                    · intro wq hSq
                      try dsimp only at hSq
                      go_simp
                      try with_reducible rfl
                    simp only [List.setIfInBounds_toArray, List.set_cons_zero, List.set_cons_succ]
                    refine held_take 31 162 (v := ?_) rfl rfl (by kernel_rfl) (by kernel_rfl) (by kernel_rfl) (fun _ _ _ h => h) (by rfl) ?_ (by assumption) ?_
                    rotate_left 1
                    · intro wq hSq
                      try dsimp only at hSq
                      go_simp
                      try with_reducible rfl
                    simp only [List.setIfInBounds_toArray, List.set_cons_zero, List.set_cons_succ]
                    refine held_take 32 163 (v := ?_) rfl rfl (by kernel_rfl) (by kernel_rfl) (by kernel_rfl) (fun _ _ _ h => h) (by rfl) ?_ (by assumption) ?_
                    rotate_left 1
                    · intro wq hSq
                      try dsimp only at hSq
                      go_simp
                      try with_reducible rfl
                    simp only [List.setIfInBounds_toArray, List.set_cons_zero, List.set_cons_succ]
                    refine held_take 33 164 (v := ?_) rfl rfl (by kernel_rfl) (by kernel_rfl) (by kernel_rfl) (fun _ _ _ h => h) (by rfl) ?_ (by assumption) ?_
                    rotate_left 1
                    · intro wq hSq
                      try dsimp only at hSq
                      go_simp
                      try with_reducible rfl
                    simp only [List.setIfInBounds_toArray, List.set_cons_zero, List.set_cons_succ]
                    refine held_take 35 166 (v := ?_) rfl rfl (by kernel_rfl) (by kernel_rfl) (by kernel_rfl) (fun _ _ _ h => h) (by rfl) ?_ (by assumption) ?_
                    rotate_left 1
                    · intro wq hSq
                      try dsimp only at hSq
                      go_simp
                      try with_reducible rfl
                    simp only [List.setIfInBounds_toArray, List.set_cons_zero, List.set_cons_succ]
                    refine held_take 36 167 (v := ?_) rfl rfl (by kernel_rfl) (by kernel_rfl) (by kernel_rfl) (fun _ _ _ h => h) (by rfl) ?_ (by assumption) ?_
                    rotate_left 1
                    · intro wq hSq
                      try dsimp only at hSq
                      go_simp
                      try with_reducible rfl
                    simp only [List.setIfInBounds_toArray, List.set_cons_zero, List.set_cons_succ]
                    refine wpAnyH_ready (rs := [34]) (by kernel_rfl) (by simp) ?_
                    refine AllReadyH.cons rfl (fun K hK => ?_) AllReadyH.nil
                    go_simp
                    refine (PUw.out _ _ (HW.out.drew.t.own' HAp.out.l2.symm).strs).mono ?_
                    rintro e W7 ⟨rfl, hb⟩
                    have H7 := Lib.hid (HW.out.drew.step hb)
                    clear hb
                    go_wp2_with fail
                    refine hK.out _ _ (cell_of_heap H7.out.hp (i := 3) rfl) (fun hHeld => ?_)
                    clear hK K
                    refine wpAnyH_ready (rs := [37]) (by kernel_rfl) (by simp) ?_
                    refine AllReadyH.cons rfl (fun K hK => ?_) AllReadyH.nil
                    go_simp
                    refine (PUv.out _ _ (H7.out.v.own' HAp.out.l1.symm).strs).mono ?_
                    rintro e W8 ⟨rfl, hb⟩
                    have H8 := Lib.hid (H7.out.step hb)
                    clear hb
                    go_wp2_with fail
                    refine hK.out _ _ (cell_of_heap H8.out.hp (i := 3) rfl) (fun hHeld => ?_)
                    clear hK K
                    refine held_take 38 169 (v := ?_) rfl rfl (by kernel_rfl) (by kernel_rfl) (by kernel_rfl) (fun _ _ _ h => h) (by rfl) ?_ (by assumption) ?_
                    rotate_left 1
                    · intro wq hSq
                      try dsimp only at hSq
                      go_simp
                      try with_reducible rfl
                    simp only [List.setIfInBounds_toArray, List.set_cons_zero, List.set_cons_succ]
                    refine held_take 39 170 (v := ?_) rfl rfl (by kernel_rfl) (by kernel_rfl) (by kernel_rfl) (fun _ _ _ h => h) (by rfl) ?_ (by assumption) ?_
                    rotate_left 1
                    · intro wq hSq
                      try dsimp only at hSq
                      go_simp
                      try with_reducible rfl
                    simp only [List.setIfInBounds_toArray, List.set_cons_zero, List.set_cons_succ]
                    refine held_take 40 171 (v := ?_) rfl rfl (by kernel_rfl) (by kernel_rfl) (by kernel_rfl) (fun _ _ _ h => h) (by rfl) ?_ (by assumption) ?_
                    rotate_left 1
                    · intro wq hSq
                      try dsimp only at hSq
                      go_simp
                      try with_reducible rfl
                    simp only [List.setIfInBounds_toArray, List.set_cons_zero, List.set_cons_succ]
                    refine held_take 41 172 (v := ?_) rfl rfl (by kernel_rfl) (by kernel_rfl) (by kernel_rfl) (fun _ _ _ h => h) (by rfl) ?_ (by assumption) ?_
                    rotate_left 1
                    · intro wq hSq
                      try dsimp only at hSq
                      go_simp
                      try with_reducible rfl
                    simp only [List.setIfInBounds_toArray, List.set_cons_zero, List.set_cons_succ]
                    refine held_take 42 173 (v := ?_) rfl rfl (by kernel_rfl) (by kernel_rfl) (by kernel_rfl) (fun _ _ _ h => h) (by rfl) ?_ (by assumption) ?_
                    rotate_left 1
                    · intro wq hSq
                      try dsimp only at hSq
                      go_simp
                      try with_reducible rfl
                    simp only [List.setIfInBounds_toArray, List.set_cons_zero, List.set_cons_succ]
                    refine held_take 43 174 (v := ?_) rfl rfl (by kernel_rfl) (by kernel_rfl) (by kernel_rfl) (fun _ _ _ h => h) (by rfl) ?_ (by assumption) ?_
                    rotate_left 1
                    · intro wq hSq
                      try dsimp only at hSq
                      go_simp
                      try with_reducible rfl
                    simp only [List.setIfInBounds_toArray, List.set_cons_zero, List.set_cons_succ]
                    refine held_take 44 175 (v := ?_) rfl rfl (by kernel_rfl) (by kernel_rfl) (by kernel_rfl) (fun _ _ _ h => h) (by rfl) ?_ (by assumption) ?_
                    rotate_left 1
                    · intro wq hSq
                      try dsimp only at hSq
                      go_simp
                      try with_reducible rfl
                    simp only [List.setIfInBounds_toArray, List.set_cons_zero, List.set_cons_succ]
                    refine wpAnyH_done (by kernel_rfl) ?_ _
                    go_wp2_with fail
                    go_roundw
                    case rel => exact ⟨j + 1, by omega, by go_num, H8⟩
                    case measure => simp [intOf]; omega
                  · have njk : ((j : Int) != k) = true := by rw [bne_iff_ne]; omega
                    have njk2 : ((j : Int) == k) = false := by rw [beq_eq_false_iff_ne]; omega
                    rw [if_neg hjk] at hw2
                    cases hu : hasB (bAt L1 2) j with
                    | true =>
                      rw [hu] at hw1 hw2
                      have PUw : Hid (∀ w v, Strs w v L2 → Calls Try.prog 24 #[v, .int .i64 (j : Nat)] w fun e w' => e = .returned (.bool true) ∧ Below w.heap.size w w') := fun w v hv => by
                        rw [← hw2]
                        exact used_any v L2 _ w hv (by have := HAp.out.l2; omega)
                      have PUv : Hid (∀ w v, Strs w v L1 → Calls Try.prog 24 #[v, .int .i64 (j : Nat)] w fun e w' => e = .returned (.bool true) ∧ Below w.heap.size w w') := fun w v hv => by
                        rw [← hw1]
                        exact used_any v L1 _ w hv (by have := HAp.out.l1; omega)
                      clear hw2 hw1 hu
                      go_wp2_with fail
                      refine wp_region_held_drew (S := fun W' => W'.cell? ⟨g4, j, none⟩ = some (.string (bAt L1 j)) ∧ W'.cell? ⟨g5, j, none⟩ = some (.string (bAt L1 j)) ∧ W'.cell? ⟨g, j, none⟩ = some (.string (bAt L1 j)) ∧ W'.cell? ⟨p, 3, none⟩ = some (.int .i64 2)) (by kernel_rfl) (HW.out.drew.k22 HAp.out rfl hlt hj2 hjk) (fun hHeld => ?_)
                      refine held_take 0 131 (v := ?_) rfl rfl (by kernel_rfl) (by kernel_rfl) (by kernel_rfl) (fun _ _ _ h => h) (by rfl) ?_ (by assumption) ?_
                      rotate_left 1
                      · intro wq hSq
                        try dsimp only at hSq
                        go_simp
                        try with_reducible rfl
                      simp only [List.setIfInBounds_toArray, List.set_cons_zero, List.set_cons_succ]
                      refine held_take 1 132 (v := ?_) rfl rfl (by kernel_rfl) (by kernel_rfl) (by kernel_rfl) (fun _ _ _ h => h) (by rfl) ?_ (by assumption) ?_
                      rotate_left 1
                      · intro wq hSq
                        try dsimp only at hSq
                        go_simp
                        try with_reducible rfl
                      simp only [List.setIfInBounds_toArray, List.set_cons_zero, List.set_cons_succ]
                      refine held_take 2 133 (v := ?_) rfl rfl (by kernel_rfl) (by kernel_rfl) (by kernel_rfl) (fun _ _ _ h => h) (by rfl) ?_ (by assumption) ?_
                      rotate_left 1
                      · intro wq hSq
                        try dsimp only at hSq
                        go_simp
                        try with_reducible rfl
                      simp only [List.setIfInBounds_toArray, List.set_cons_zero, List.set_cons_succ]
                      refine held_take 3 134 (v := ?_) rfl rfl (by kernel_rfl) (by kernel_rfl) (by kernel_rfl) (fun _ _ _ h => h) (by rfl) ?_ (by assumption) ?_
                      rotate_left 1
                      · intro wq hSq
                        try dsimp only at hSq
                        go_simp
                        try with_reducible rfl
                      simp only [List.setIfInBounds_toArray, List.set_cons_zero, List.set_cons_succ]
                      refine held_take 4 135 (v := ?_) rfl rfl (by kernel_rfl) (by kernel_rfl) (by kernel_rfl) (fun _ _ _ h => h) (by rfl) ?_ (by assumption) ?_
                      rotate_left 1
                      · intro wq hSq
                        try dsimp only at hSq
                        go_simp
                        try with_reducible rfl
                      simp only [List.setIfInBounds_toArray, List.set_cons_zero, List.set_cons_succ]
                      refine held_take 5 136 (v := ?_) rfl rfl (by kernel_rfl) (by kernel_rfl) (by kernel_rfl) (fun _ _ _ h => h) (by rfl) ?_ (by assumption) ?_
                      rotate_left 1
                      · intro wq hSq
                        try dsimp only at hSq
                        go_simp
                        try with_reducible rfl
                      simp only [List.setIfInBounds_toArray, List.set_cons_zero, List.set_cons_succ]
                      refine held_take 6 137 (v := ?_) rfl rfl (by kernel_rfl) (by kernel_rfl) (by kernel_rfl) (fun _ _ _ h => h) (by rfl) ?_ (by assumption) ?_
                      rotate_left 1
                      · intro wq hSq
                        try dsimp only at hSq
                        go_simp
                        try with_reducible rfl
                      simp only [List.setIfInBounds_toArray, List.set_cons_zero, List.set_cons_succ]
                      refine held_take 7 138 (v := ?_) rfl rfl (by kernel_rfl) (by kernel_rfl) (by kernel_rfl) (fun _ _ _ h => h) (by rfl) ?_ (by assumption) ?_
                      rotate_left 1
                      · intro wq hSq
                        try dsimp only at hSq
                        go_simp
                        try with_reducible rfl
                      simp only [List.setIfInBounds_toArray, List.set_cons_zero, List.set_cons_succ]
                      refine held_take 8 139 (v := ?_) rfl rfl (by kernel_rfl) (by kernel_rfl) (by kernel_rfl) (fun _ _ _ h => h) (by rfl) ?_ (by assumption) ?_
                      rotate_left 1
                      · intro wq hSq
                        try dsimp only at hSq
                        go_simp
                        try with_reducible rfl
                      simp only [List.setIfInBounds_toArray, List.set_cons_zero, List.set_cons_succ]
                      refine held_take 9 140 (v := ?_) rfl rfl (by kernel_rfl) (by kernel_rfl) (by kernel_rfl) (fun _ _ _ h => h) (by rfl) ?_ (by assumption) ?_
                      rotate_left 1
                      · intro wq hSq
                        try dsimp only at hSq
                        go_simp
                        try with_reducible rfl
                      simp only [List.setIfInBounds_toArray, List.set_cons_zero, List.set_cons_succ]
                      refine held_take 10 141 (v := ?_) rfl rfl (by kernel_rfl) (by kernel_rfl) (by kernel_rfl) (fun _ _ _ h => h) (by rfl) ?_ (by assumption) ?_
                      rotate_left 1
                      · intro wq hSq
                        try dsimp only at hSq
                        go_simp
                        try with_reducible rfl
                      simp only [List.setIfInBounds_toArray, List.set_cons_zero, List.set_cons_succ]
                      refine held_take 11 142 (v := ?_) rfl rfl (by kernel_rfl) (by kernel_rfl) (by kernel_rfl) (fun _ _ _ h => h) (by rfl) ?_ (by assumption) ?_
                      rotate_left 1
                      · intro wq hSq
                        try dsimp only at hSq
                        go_simp
                        try with_reducible rfl
                      simp only [List.setIfInBounds_toArray, List.set_cons_zero, List.set_cons_succ]
                      refine held_take 12 143 (v := ?_) rfl rfl (by kernel_rfl) (by kernel_rfl) (by kernel_rfl) (fun _ _ _ h => h) (by rfl) ?_ (by assumption) ?_
                      rotate_left 1
                      · intro wq hSq
                        try dsimp only at hSq
                        go_simp
                        try with_reducible rfl
                      simp only [List.setIfInBounds_toArray, List.set_cons_zero, List.set_cons_succ]
                      refine held_take 13 144 (v := ?_) rfl rfl (by kernel_rfl) (by kernel_rfl) (by kernel_rfl) (fun _ _ _ h => h) (by rfl) ?_ (by assumption) ?_
                      rotate_left 1
                      · intro wq hSq
                        try dsimp only at hSq
                        go_simp
                        try with_reducible rfl
                      simp only [List.setIfInBounds_toArray, List.set_cons_zero, List.set_cons_succ]
                      refine held_take 14 145 (v := ?_) rfl rfl (by kernel_rfl) (by kernel_rfl) (by kernel_rfl) (fun _ _ _ h => h) (by rfl) ?_ (by assumption) ?_
                      rotate_left 1
                      · intro wq hSq
                        try dsimp only at hSq
                        go_simp
                        try with_reducible rfl
                      simp only [List.setIfInBounds_toArray, List.set_cons_zero, List.set_cons_succ]
                      refine held_take 15 146 (v := ?_) rfl rfl (by kernel_rfl) (by kernel_rfl) (by kernel_rfl) (fun _ _ _ h => h) (by rfl) ?_ (by assumption) ?_
                      rotate_left 1
                      · intro wq hSq
                        try dsimp only at hSq
                        go_simp
                        try with_reducible rfl
                      simp only [List.setIfInBounds_toArray, List.set_cons_zero, List.set_cons_succ]
                      refine held_take 16 147 (v := ?_) rfl rfl (by kernel_rfl) (by kernel_rfl) (by kernel_rfl) (fun _ _ _ h => h) (by rfl) ?_ (by assumption) ?_
                      rotate_left 1
                      · intro wq hSq
                        try dsimp only at hSq
                        go_simp
                        try with_reducible rfl
                      simp only [List.setIfInBounds_toArray, List.set_cons_zero, List.set_cons_succ]
                      refine held_take 17 148 (v := ?_) rfl rfl (by kernel_rfl) (by kernel_rfl) (by kernel_rfl) (fun _ _ _ h => h) (by rfl) ?_ (by assumption) ?_
                      rotate_left 1
                      · intro wq hSq
                        try dsimp only at hSq
                        go_simp
                        try with_reducible rfl
                      simp only [List.setIfInBounds_toArray, List.set_cons_zero, List.set_cons_succ]
                      refine held_take 18 149 (v := ?_) rfl rfl (by kernel_rfl) (by kernel_rfl) (by kernel_rfl) (fun _ _ _ h => h) (by rfl) ?_ (by assumption) ?_
                      rotate_left 1
                      · intro wq hSq
                        try dsimp only at hSq
                        go_simp
                        try with_reducible rfl
                      simp only [List.setIfInBounds_toArray, List.set_cons_zero, List.set_cons_succ]
                      refine held_take 19 150 (v := ?_) rfl rfl (by kernel_rfl) (by kernel_rfl) (by kernel_rfl) (fun _ _ _ h => h) (by rfl) ?_ (by assumption) ?_
                      rotate_left 1
                      · intro wq hSq
                        try dsimp only at hSq
                        go_simp
                        try with_reducible rfl
                      simp only [List.setIfInBounds_toArray, List.set_cons_zero, List.set_cons_succ]
                      refine held_take 20 151 (v := ?_) rfl rfl (by kernel_rfl) (by kernel_rfl) (by kernel_rfl) (fun _ _ _ h => h) (by rfl) ?_ (by assumption) ?_
                      rotate_left 1
                      · intro wq hSq
                        try dsimp only at hSq
                        go_simp
                        try with_reducible rfl
                      simp only [List.setIfInBounds_toArray, List.set_cons_zero, List.set_cons_succ]
                      refine held_take 21 152 (v := ?_) rfl rfl (by kernel_rfl) (by kernel_rfl) (by kernel_rfl) (fun _ _ _ h => h) (by rfl) ?_ (by assumption) ?_
                      rotate_left 1
                      · intro wq hSq
                        try dsimp only at hSq
                        go_simp
                        try with_reducible rfl
                      simp only [List.setIfInBounds_toArray, List.set_cons_zero, List.set_cons_succ]
                      refine held_take 22 153 (v := ?_) rfl rfl (by kernel_rfl) (by kernel_rfl) (by kernel_rfl) (fun _ _ _ h => h) (by rfl) ?_ (by assumption) ?_
                      rotate_left 1
                      · intro wq hSq
                        try dsimp only at hSq
                        go_simp
                        try with_reducible rfl
                      simp only [List.setIfInBounds_toArray, List.set_cons_zero, List.set_cons_succ]
                      refine held_take 23 154 (v := ?_) rfl rfl (by kernel_rfl) (by kernel_rfl) (by kernel_rfl) (fun _ _ _ h => h) (by rfl) ?_ (by assumption) ?_
                      rotate_left 1
                      · intro wq hSq
                        try dsimp only at hSq
                        go_simp
                        try with_reducible rfl
                      simp only [List.setIfInBounds_toArray, List.set_cons_zero, List.set_cons_succ]
                      refine held_take 24 155 (v := ?_) rfl rfl (by kernel_rfl) (by kernel_rfl) (by kernel_rfl) (fun _ _ _ h => h) (by rfl) ?_ (by assumption) ?_
                      rotate_left 1
                      · intro wq hSq
                        try dsimp only at hSq
                        go_simp
                        try with_reducible rfl
                      simp only [List.setIfInBounds_toArray, List.set_cons_zero, List.set_cons_succ]
                      refine held_take 25 156 (v := ?_) rfl rfl (by kernel_rfl) (by kernel_rfl) (by kernel_rfl) (fun _ _ _ h => h) (by rfl) ?_ (by assumption) ?_
                      rotate_left 1
                      · intro wq hSq
                        try dsimp only at hSq
                        go_simp
                        try with_reducible rfl
                      simp only [List.setIfInBounds_toArray, List.set_cons_zero, List.set_cons_succ]
                      refine held_take 26 157 (v := ?_) rfl rfl (by kernel_rfl) (by kernel_rfl) (by kernel_rfl) (fun _ _ _ h => h) (by rfl) ?_ (by assumption) ?_
                      rotate_left 1
                      · intro wq hSq
                        try dsimp only at hSq
                        go_simp
                        try with_reducible rfl
                      simp only [List.setIfInBounds_toArray, List.set_cons_zero, List.set_cons_succ]
                      refine held_take 27 158 (v := ?_) rfl rfl (by kernel_rfl) (by kernel_rfl) (by kernel_rfl) (fun _ _ _ h => h) (by rfl) ?_ (by assumption) ?_
                      rotate_left 1
                      · intro wq hSq
                        try dsimp only at hSq
                        go_simp
                        try with_reducible rfl
                      simp only [List.setIfInBounds_toArray, List.set_cons_zero, List.set_cons_succ]
                      refine held_take 28 159 (v := ?_) rfl rfl (by kernel_rfl) (by kernel_rfl) (by kernel_rfl) (fun _ _ _ h => h) (by rfl) ?_ (by assumption) ?_
                      rotate_left 1
                      · intro wq hSq
                        try dsimp only at hSq
                        go_simp
                        try with_reducible rfl
                      simp only [List.setIfInBounds_toArray, List.set_cons_zero, List.set_cons_succ]
                      refine held_take 29 160 (v := ?_) rfl rfl (by kernel_rfl) (by kernel_rfl) (by kernel_rfl) (fun _ _ _ h => h) (by rfl) ?_ (by assumption) ?_
                      rotate_left 1
                      · intro wq hSq
                        try dsimp only at hSq
                        go_simp
                        try with_reducible rfl
                      simp only [List.setIfInBounds_toArray, List.set_cons_zero, List.set_cons_succ]
                      refine held_take 30 161 (v := ?_) rfl rfl (by kernel_rfl) (by kernel_rfl) (by kernel_rfl) (fun _ _ _ h => h) (by rfl) ?_ (by assumption) ?_
                      rotate_left 1
                      · intro wq hSq
                        try dsimp only at hSq
                        go_simp
                        try with_reducible rfl
                      simp only [List.setIfInBounds_toArray, List.set_cons_zero, List.set_cons_succ]
                      refine held_take 31 162 (v := ?_) rfl rfl (by kernel_rfl) (by kernel_rfl) (by kernel_rfl) (fun _ _ _ h => h) (by rfl) ?_ (by assumption) ?_
                      rotate_left 1
                      · intro wq hSq
                        try dsimp only at hSq
                        go_simp
                        try with_reducible rfl
                      simp only [List.setIfInBounds_toArray, List.set_cons_zero, List.set_cons_succ]
                      refine held_take 32 163 (v := ?_) rfl rfl (by kernel_rfl) (by kernel_rfl) (by kernel_rfl) (fun _ _ _ h => h) (by rfl) ?_ (by assumption) ?_
                      rotate_left 1
                      · intro wq hSq
                        try dsimp only at hSq
                        go_simp
                        try with_reducible rfl
                      simp only [List.setIfInBounds_toArray, List.set_cons_zero, List.set_cons_succ]
                      refine held_take 33 164 (v := ?_) rfl rfl (by kernel_rfl) (by kernel_rfl) (by kernel_rfl) (fun _ _ _ h => h) (by rfl) ?_ (by assumption) ?_
                      rotate_left 1
                      · intro wq hSq
                        try dsimp only at hSq
                        go_simp
                        try with_reducible rfl
                      simp only [List.setIfInBounds_toArray, List.set_cons_zero, List.set_cons_succ]
                      refine held_take 35 166 (v := ?_) rfl rfl (by kernel_rfl) (by kernel_rfl) (by kernel_rfl) (fun _ _ _ h => h) (by rfl) ?_ (by assumption) ?_
                      rotate_left 1
                      · intro wq hSq
                        try dsimp only at hSq
                        go_simp
                        try with_reducible rfl
                      simp only [List.setIfInBounds_toArray, List.set_cons_zero, List.set_cons_succ]
                      refine held_take 36 167 (v := ?_) rfl rfl (by kernel_rfl) (by kernel_rfl) (by kernel_rfl) (fun _ _ _ h => h) (by rfl) ?_ (by assumption) ?_
                      rotate_left 1
                      · intro wq hSq
                        try dsimp only at hSq
                        go_simp
                        try with_reducible rfl
                      simp only [List.setIfInBounds_toArray, List.set_cons_zero, List.set_cons_succ]
                      refine wpAnyH_ready (rs := [34]) (by kernel_rfl) (by simp) ?_
                      refine AllReadyH.cons rfl (fun K hK => ?_) AllReadyH.nil
                      go_simp
                      refine (PUw.out _ _ (HW.out.drew.t.own' HAp.out.l2.symm).strs).mono ?_
                      rintro e W7 ⟨rfl, hb⟩
                      have H7 := Lib.hid (HW.out.drew.step hb)
                      clear hb
                      go_wp2_with fail
                      refine hK.out _ _ (H7.out.k22 HAp.out rfl hlt hj2 hjk) (fun hHeld => ?_)
                      clear hK K
                      refine wpAnyH_ready (rs := [37]) (by kernel_rfl) (by simp) ?_
                      refine AllReadyH.cons rfl (fun K hK => ?_) AllReadyH.nil
                      go_simp
                      refine (PUv.out _ _ (H7.out.v.own' HAp.out.l1.symm).strs).mono ?_
                      rintro e W8 ⟨rfl, hb⟩
                      have H8 := Lib.hid (H7.out.step hb)
                      clear hb
                      go_wp2_with fail
                      refine hK.out _ _ (H8.out.k22 HAp.out rfl hlt hj2 hjk) (fun hHeld => ?_)
                      clear hK K
                      refine held_take 38 169 (v := ?_) rfl rfl (by kernel_rfl) (by kernel_rfl) (by kernel_rfl) (fun _ _ _ h => h) (by rfl) ?_ (by assumption) ?_
                      rotate_left 1
                      · intro wq hSq
                        try dsimp only at hSq
                        go_simp
                        try with_reducible rfl
                      simp only [List.setIfInBounds_toArray, List.set_cons_zero, List.set_cons_succ]
                      refine held_skip 39 170 rfl rfl (by kernel_rfl) (by kernel_rfl) (by kernel_rfl) (fun _ _ _ h => h) (by rfl) (by assumption) ?_
                      simp only [List.setIfInBounds_toArray, List.set_cons_zero, List.set_cons_succ]
                      refine held_skip 40 171 rfl rfl (by kernel_rfl) (by kernel_rfl) (by kernel_rfl) (fun _ _ _ h => h) (by rfl) (by assumption) ?_
                      simp only [List.setIfInBounds_toArray, List.set_cons_zero, List.set_cons_succ]
                      refine held_skip 41 172 rfl rfl (by kernel_rfl) (by kernel_rfl) (by kernel_rfl) (fun _ _ _ h => h) (by rfl) (by assumption) ?_
                      simp only [List.setIfInBounds_toArray, List.set_cons_zero, List.set_cons_succ]
                      refine held_take 42 173 (v := ?_) rfl rfl (by kernel_rfl) (by kernel_rfl) (by kernel_rfl) (fun _ _ _ h => h) (by rfl) ?_ (by assumption) ?_
                      rotate_left 1
                      · intro wq hSq
                        try dsimp only at hSq
                        go_simp
                        try with_reducible rfl
                      simp only [List.setIfInBounds_toArray, List.set_cons_zero, List.set_cons_succ]
                      refine held_take 43 174 (v := ?_) rfl rfl (by kernel_rfl) (by kernel_rfl) (by kernel_rfl) (fun _ _ _ h => h) (by rfl) ?_ (by assumption) ?_
                      rotate_left 1
                      · intro wq hSq
                        try dsimp only at hSq
                        go_simp
                        try with_reducible rfl
                      simp only [List.setIfInBounds_toArray, List.set_cons_zero, List.set_cons_succ]
                      refine held_take 44 175 (v := ?_) rfl rfl (by kernel_rfl) (by kernel_rfl) (by kernel_rfl) (fun _ _ _ h => h) (by rfl) ?_ (by assumption) ?_
                      rotate_left 1
                      · intro wq hSq
                        try dsimp only at hSq
                        go_simp
                        try with_reducible rfl
                      simp only [List.setIfInBounds_toArray, List.set_cons_zero, List.set_cons_succ]
                      refine wpAnyH_done (by kernel_rfl) ?_ _
                      go_wp2_with fail
                      go_roundw
                      case rel => exact ⟨j + 1, by omega, by go_num, H8⟩
                      case measure => simp [intOf]; omega
                    | false =>
                      rw [hu] at hw1 hw2
                      have PUw : Hid (∀ w v, Strs w v L2 → Calls Try.prog 24 #[v, .int .i64 (j : Nat)] w fun e w' => e = .returned (.bool false) ∧ Below w.heap.size w w') := fun w v hv => by
                        rw [← hw2]
                        exact used_any v L2 _ w hv (by have := HAp.out.l2; omega)
                      have PUv : Hid (∀ w v, Strs w v L1 → Calls Try.prog 24 #[v, .int .i64 (j : Nat)] w fun e w' => e = .returned (.bool false) ∧ Below w.heap.size w w') := fun w v hv => by
                        rw [← hw1]
                        exact used_any v L1 _ w hv (by have := HAp.out.l1; omega)
                      clear hw2 hw1 hu
                      go_wp2_with fail
                      refine wp_region_held_drew (S := fun W' => W'.cell? ⟨g4, j, none⟩ = some (.string (bAt L1 j)) ∧ W'.cell? ⟨g5, j, none⟩ = some (.string (bAt L1 j)) ∧ W'.cell? ⟨g, j, none⟩ = some (.string (bAt L1 j)) ∧ W'.cell? ⟨p, 3, none⟩ = some (.int .i64 2)) (by kernel_rfl) (HW.out.drew.k22 HAp.out rfl hlt hj2 hjk) (fun hHeld => ?_)
                      refine held_take 0 131 (v := ?_) rfl rfl (by kernel_rfl) (by kernel_rfl) (by kernel_rfl) (fun _ _ _ h => h) (by rfl) ?_ (by assumption) ?_
                      rotate_left 1
                      · intro wq hSq
                        try dsimp only at hSq
                        go_simp
                        try with_reducible rfl
                      simp only [List.setIfInBounds_toArray, List.set_cons_zero, List.set_cons_succ]
                      refine held_take 1 132 (v := ?_) rfl rfl (by kernel_rfl) (by kernel_rfl) (by kernel_rfl) (fun _ _ _ h => h) (by rfl) ?_ (by assumption) ?_
                      rotate_left 1
                      · intro wq hSq
                        try dsimp only at hSq
                        go_simp
                        try with_reducible rfl
                      simp only [List.setIfInBounds_toArray, List.set_cons_zero, List.set_cons_succ]
                      refine held_take 2 133 (v := ?_) rfl rfl (by kernel_rfl) (by kernel_rfl) (by kernel_rfl) (fun _ _ _ h => h) (by rfl) ?_ (by assumption) ?_
                      rotate_left 1
                      · intro wq hSq
                        try dsimp only at hSq
                        go_simp
                        try with_reducible rfl
                      simp only [List.setIfInBounds_toArray, List.set_cons_zero, List.set_cons_succ]
                      refine held_take 3 134 (v := ?_) rfl rfl (by kernel_rfl) (by kernel_rfl) (by kernel_rfl) (fun _ _ _ h => h) (by rfl) ?_ (by assumption) ?_
                      rotate_left 1
                      · intro wq hSq
                        try dsimp only at hSq
                        go_simp
                        try with_reducible rfl
                      simp only [List.setIfInBounds_toArray, List.set_cons_zero, List.set_cons_succ]
                      refine held_take 4 135 (v := ?_) rfl rfl (by kernel_rfl) (by kernel_rfl) (by kernel_rfl) (fun _ _ _ h => h) (by rfl) ?_ (by assumption) ?_
                      rotate_left 1
                      · intro wq hSq
                        try dsimp only at hSq
                        go_simp
                        try with_reducible rfl
                      simp only [List.setIfInBounds_toArray, List.set_cons_zero, List.set_cons_succ]
                      refine held_take 5 136 (v := ?_) rfl rfl (by kernel_rfl) (by kernel_rfl) (by kernel_rfl) (fun _ _ _ h => h) (by rfl) ?_ (by assumption) ?_
                      rotate_left 1
                      · intro wq hSq
                        try dsimp only at hSq
                        go_simp
                        try with_reducible rfl
                      simp only [List.setIfInBounds_toArray, List.set_cons_zero, List.set_cons_succ]
                      refine held_take 6 137 (v := ?_) rfl rfl (by kernel_rfl) (by kernel_rfl) (by kernel_rfl) (fun _ _ _ h => h) (by rfl) ?_ (by assumption) ?_
                      rotate_left 1
                      · intro wq hSq
                        try dsimp only at hSq
                        go_simp
                        try with_reducible rfl
                      simp only [List.setIfInBounds_toArray, List.set_cons_zero, List.set_cons_succ]
                      refine held_take 7 138 (v := ?_) rfl rfl (by kernel_rfl) (by kernel_rfl) (by kernel_rfl) (fun _ _ _ h => h) (by rfl) ?_ (by assumption) ?_
                      rotate_left 1
                      · intro wq hSq
                        try dsimp only at hSq
                        go_simp
                        try with_reducible rfl
                      simp only [List.setIfInBounds_toArray, List.set_cons_zero, List.set_cons_succ]
                      refine held_take 8 139 (v := ?_) rfl rfl (by kernel_rfl) (by kernel_rfl) (by kernel_rfl) (fun _ _ _ h => h) (by rfl) ?_ (by assumption) ?_
                      rotate_left 1
                      · intro wq hSq
                        try dsimp only at hSq
                        go_simp
                        try with_reducible rfl
                      simp only [List.setIfInBounds_toArray, List.set_cons_zero, List.set_cons_succ]
                      refine held_take 9 140 (v := ?_) rfl rfl (by kernel_rfl) (by kernel_rfl) (by kernel_rfl) (fun _ _ _ h => h) (by rfl) ?_ (by assumption) ?_
                      rotate_left 1
                      · intro wq hSq
                        try dsimp only at hSq
                        go_simp
                        try with_reducible rfl
                      simp only [List.setIfInBounds_toArray, List.set_cons_zero, List.set_cons_succ]
                      refine held_take 10 141 (v := ?_) rfl rfl (by kernel_rfl) (by kernel_rfl) (by kernel_rfl) (fun _ _ _ h => h) (by rfl) ?_ (by assumption) ?_
                      rotate_left 1
                      · intro wq hSq
                        try dsimp only at hSq
                        go_simp
                        try with_reducible rfl
                      simp only [List.setIfInBounds_toArray, List.set_cons_zero, List.set_cons_succ]
                      refine held_take 11 142 (v := ?_) rfl rfl (by kernel_rfl) (by kernel_rfl) (by kernel_rfl) (fun _ _ _ h => h) (by rfl) ?_ (by assumption) ?_
                      rotate_left 1
                      · intro wq hSq
                        try dsimp only at hSq
                        go_simp
                        try with_reducible rfl
                      simp only [List.setIfInBounds_toArray, List.set_cons_zero, List.set_cons_succ]
                      refine held_take 12 143 (v := ?_) rfl rfl (by kernel_rfl) (by kernel_rfl) (by kernel_rfl) (fun _ _ _ h => h) (by rfl) ?_ (by assumption) ?_
                      rotate_left 1
                      · intro wq hSq
                        try dsimp only at hSq
                        go_simp
                        try with_reducible rfl
                      simp only [List.setIfInBounds_toArray, List.set_cons_zero, List.set_cons_succ]
                      refine held_take 13 144 (v := ?_) rfl rfl (by kernel_rfl) (by kernel_rfl) (by kernel_rfl) (fun _ _ _ h => h) (by rfl) ?_ (by assumption) ?_
                      rotate_left 1
                      · intro wq hSq
                        try dsimp only at hSq
                        go_simp
                        try with_reducible rfl
                      simp only [List.setIfInBounds_toArray, List.set_cons_zero, List.set_cons_succ]
                      refine held_take 14 145 (v := ?_) rfl rfl (by kernel_rfl) (by kernel_rfl) (by kernel_rfl) (fun _ _ _ h => h) (by rfl) ?_ (by assumption) ?_
                      rotate_left 1
                      · intro wq hSq
                        try dsimp only at hSq
                        go_simp
                        try with_reducible rfl
                      simp only [List.setIfInBounds_toArray, List.set_cons_zero, List.set_cons_succ]
                      refine held_take 15 146 (v := ?_) rfl rfl (by kernel_rfl) (by kernel_rfl) (by kernel_rfl) (fun _ _ _ h => h) (by rfl) ?_ (by assumption) ?_
                      rotate_left 1
                      · intro wq hSq
                        try dsimp only at hSq
                        go_simp
                        try with_reducible rfl
                      simp only [List.setIfInBounds_toArray, List.set_cons_zero, List.set_cons_succ]
                      refine held_take 16 147 (v := ?_) rfl rfl (by kernel_rfl) (by kernel_rfl) (by kernel_rfl) (fun _ _ _ h => h) (by rfl) ?_ (by assumption) ?_
                      rotate_left 1
                      · intro wq hSq
                        try dsimp only at hSq
                        go_simp
                        try with_reducible rfl
                      simp only [List.setIfInBounds_toArray, List.set_cons_zero, List.set_cons_succ]
                      refine held_take 17 148 (v := ?_) rfl rfl (by kernel_rfl) (by kernel_rfl) (by kernel_rfl) (fun _ _ _ h => h) (by rfl) ?_ (by assumption) ?_
                      rotate_left 1
                      · intro wq hSq
                        try dsimp only at hSq
                        go_simp
                        try with_reducible rfl
                      simp only [List.setIfInBounds_toArray, List.set_cons_zero, List.set_cons_succ]
                      refine held_take 18 149 (v := ?_) rfl rfl (by kernel_rfl) (by kernel_rfl) (by kernel_rfl) (fun _ _ _ h => h) (by rfl) ?_ (by assumption) ?_
                      rotate_left 1
                      · intro wq hSq
                        try dsimp only at hSq
                        go_simp
                        try with_reducible rfl
                      simp only [List.setIfInBounds_toArray, List.set_cons_zero, List.set_cons_succ]
                      refine held_take 19 150 (v := ?_) rfl rfl (by kernel_rfl) (by kernel_rfl) (by kernel_rfl) (fun _ _ _ h => h) (by rfl) ?_ (by assumption) ?_
                      rotate_left 1
                      · intro wq hSq
                        try dsimp only at hSq
                        go_simp
                        try with_reducible rfl
                      simp only [List.setIfInBounds_toArray, List.set_cons_zero, List.set_cons_succ]
                      refine held_take 20 151 (v := ?_) rfl rfl (by kernel_rfl) (by kernel_rfl) (by kernel_rfl) (fun _ _ _ h => h) (by rfl) ?_ (by assumption) ?_
                      rotate_left 1
                      · intro wq hSq
                        try dsimp only at hSq
                        go_simp
                        try with_reducible rfl
                      simp only [List.setIfInBounds_toArray, List.set_cons_zero, List.set_cons_succ]
                      refine held_take 21 152 (v := ?_) rfl rfl (by kernel_rfl) (by kernel_rfl) (by kernel_rfl) (fun _ _ _ h => h) (by rfl) ?_ (by assumption) ?_
                      rotate_left 1
                      · intro wq hSq
                        try dsimp only at hSq
                        go_simp
                        try with_reducible rfl
                      simp only [List.setIfInBounds_toArray, List.set_cons_zero, List.set_cons_succ]
                      refine held_take 22 153 (v := ?_) rfl rfl (by kernel_rfl) (by kernel_rfl) (by kernel_rfl) (fun _ _ _ h => h) (by rfl) ?_ (by assumption) ?_
                      rotate_left 1
                      · intro wq hSq
                        try dsimp only at hSq
                        go_simp
                        try with_reducible rfl
                      simp only [List.setIfInBounds_toArray, List.set_cons_zero, List.set_cons_succ]
                      refine held_take 23 154 (v := ?_) rfl rfl (by kernel_rfl) (by kernel_rfl) (by kernel_rfl) (fun _ _ _ h => h) (by rfl) ?_ (by assumption) ?_
                      rotate_left 1
                      · intro wq hSq
                        try dsimp only at hSq
                        go_simp
                        try with_reducible rfl
                      simp only [List.setIfInBounds_toArray, List.set_cons_zero, List.set_cons_succ]
                      refine held_take 24 155 (v := ?_) rfl rfl (by kernel_rfl) (by kernel_rfl) (by kernel_rfl) (fun _ _ _ h => h) (by rfl) ?_ (by assumption) ?_
                      rotate_left 1
                      · intro wq hSq
                        try dsimp only at hSq
                        go_simp
                        try with_reducible rfl
                      simp only [List.setIfInBounds_toArray, List.set_cons_zero, List.set_cons_succ]
                      refine held_take 25 156 (v := ?_) rfl rfl (by kernel_rfl) (by kernel_rfl) (by kernel_rfl) (fun _ _ _ h => h) (by rfl) ?_ (by assumption) ?_
                      rotate_left 1
                      · intro wq hSq
                        try dsimp only at hSq
                        go_simp
                        try with_reducible rfl
                      simp only [List.setIfInBounds_toArray, List.set_cons_zero, List.set_cons_succ]
                      refine held_take 26 157 (v := ?_) rfl rfl (by kernel_rfl) (by kernel_rfl) (by kernel_rfl) (fun _ _ _ h => h) (by rfl) ?_ (by assumption) ?_
                      rotate_left 1
                      · intro wq hSq
                        try dsimp only at hSq
                        go_simp
                        try with_reducible rfl
                      simp only [List.setIfInBounds_toArray, List.set_cons_zero, List.set_cons_succ]
                      refine held_take 27 158 (v := ?_) rfl rfl (by kernel_rfl) (by kernel_rfl) (by kernel_rfl) (fun _ _ _ h => h) (by rfl) ?_ (by assumption) ?_
                      rotate_left 1
                      · intro wq hSq
                        try dsimp only at hSq
                        go_simp
                        try with_reducible rfl
                      simp only [List.setIfInBounds_toArray, List.set_cons_zero, List.set_cons_succ]
                      refine held_take 28 159 (v := ?_) rfl rfl (by kernel_rfl) (by kernel_rfl) (by kernel_rfl) (fun _ _ _ h => h) (by rfl) ?_ (by assumption) ?_
                      rotate_left 1
                      · intro wq hSq
                        try dsimp only at hSq
                        go_simp
                        try with_reducible rfl
                      simp only [List.setIfInBounds_toArray, List.set_cons_zero, List.set_cons_succ]
                      refine held_take 29 160 (v := ?_) rfl rfl (by kernel_rfl) (by kernel_rfl) (by kernel_rfl) (fun _ _ _ h => h) (by rfl) ?_ (by assumption) ?_
                      rotate_left 1
                      · intro wq hSq
                        try dsimp only at hSq
                        go_simp
                        try with_reducible rfl
                      simp only [List.setIfInBounds_toArray, List.set_cons_zero, List.set_cons_succ]
                      refine held_take 30 161 (v := ?_) rfl rfl (by kernel_rfl) (by kernel_rfl) (by kernel_rfl) (fun _ _ _ h => h) (by rfl) ?_ (by assumption) ?_
                      rotate_left 1
                      · intro wq hSq
                        try dsimp only at hSq
                        go_simp
                        try with_reducible rfl
                      simp only [List.setIfInBounds_toArray, List.set_cons_zero, List.set_cons_succ]
                      refine held_take 31 162 (v := ?_) rfl rfl (by kernel_rfl) (by kernel_rfl) (by kernel_rfl) (fun _ _ _ h => h) (by rfl) ?_ (by assumption) ?_
                      rotate_left 1
                      · intro wq hSq
                        try dsimp only at hSq
                        go_simp
                        try with_reducible rfl
                      simp only [List.setIfInBounds_toArray, List.set_cons_zero, List.set_cons_succ]
                      refine held_take 32 163 (v := ?_) rfl rfl (by kernel_rfl) (by kernel_rfl) (by kernel_rfl) (fun _ _ _ h => h) (by rfl) ?_ (by assumption) ?_
                      rotate_left 1
                      · intro wq hSq
                        try dsimp only at hSq
                        go_simp
                        try with_reducible rfl
                      simp only [List.setIfInBounds_toArray, List.set_cons_zero, List.set_cons_succ]
                      refine held_take 33 164 (v := ?_) rfl rfl (by kernel_rfl) (by kernel_rfl) (by kernel_rfl) (fun _ _ _ h => h) (by rfl) ?_ (by assumption) ?_
                      rotate_left 1
                      · intro wq hSq
                        try dsimp only at hSq
                        go_simp
                        try with_reducible rfl
                      simp only [List.setIfInBounds_toArray, List.set_cons_zero, List.set_cons_succ]
                      refine held_take 35 166 (v := ?_) rfl rfl (by kernel_rfl) (by kernel_rfl) (by kernel_rfl) (fun _ _ _ h => h) (by rfl) ?_ (by assumption) ?_
                      rotate_left 1
                      · intro wq hSq
                        try dsimp only at hSq
                        go_simp
                        try with_reducible rfl
                      simp only [List.setIfInBounds_toArray, List.set_cons_zero, List.set_cons_succ]
                      refine held_take 36 167 (v := ?_) rfl rfl (by kernel_rfl) (by kernel_rfl) (by kernel_rfl) (fun _ _ _ h => h) (by rfl) ?_ (by assumption) ?_
                      rotate_left 1
                      · intro wq hSq
                        try dsimp only at hSq
                        go_simp
                        try with_reducible rfl
                      simp only [List.setIfInBounds_toArray, List.set_cons_zero, List.set_cons_succ]
                      refine wpAnyH_ready (rs := [34]) (by kernel_rfl) (by simp) ?_
                      refine AllReadyH.cons rfl (fun K hK => ?_) AllReadyH.nil
                      go_simp
                      refine (PUw.out _ _ (HW.out.drew.t.own' HAp.out.l2.symm).strs).mono ?_
                      rintro e W7 ⟨rfl, hb⟩
                      have H7 := Lib.hid (HW.out.drew.step hb)
                      clear hb
                      go_wp2_with fail
                      refine hK.out _ _ (H7.out.k22 HAp.out rfl hlt hj2 hjk) (fun hHeld => ?_)
                      clear hK K
                      refine wpAnyH_ready (rs := [37]) (by kernel_rfl) (by simp) ?_
                      refine AllReadyH.cons rfl (fun K hK => ?_) AllReadyH.nil
                      go_simp
                      refine (PUv.out _ _ (H7.out.v.own' HAp.out.l1.symm).strs).mono ?_
                      rintro e W8 ⟨rfl, hb⟩
                      have H8 := Lib.hid (H7.out.step hb)
                      clear hb
                      go_wp2_with fail
                      refine hK.out _ _ (H8.out.k22 HAp.out rfl hlt hj2 hjk) (fun hHeld => ?_)
                      clear hK K
                      refine held_take 38 169 (v := ?_) rfl rfl (by kernel_rfl) (by kernel_rfl) (by kernel_rfl) (fun _ _ _ h => h) (by rfl) ?_ (by assumption) ?_
                      rotate_left 1
                      · intro wq hSq
                        try dsimp only at hSq
                        go_simp
                        try with_reducible rfl
                      simp only [List.setIfInBounds_toArray, List.set_cons_zero, List.set_cons_succ]
                      refine held_take 39 170 (v := ?_) rfl rfl (by kernel_rfl) (by kernel_rfl) (by kernel_rfl) (fun _ _ _ h => h) (by rfl) ?_ (by assumption) ?_
                      rotate_left 1
                      · intro wq hSq
                        try dsimp only at hSq
                        go_simp
                        try with_reducible rfl
                      simp only [List.setIfInBounds_toArray, List.set_cons_zero, List.set_cons_succ]
                      refine held_take 40 171 (v := ?_) rfl rfl (by kernel_rfl) (by kernel_rfl) (by kernel_rfl) (fun _ _ _ h => h) (by rfl) ?_ (by assumption) ?_
                      rotate_left 1
                      · intro wq hSq
                        try dsimp only at hSq
                        go_simp
                        try with_reducible rfl
                      simp only [List.setIfInBounds_toArray, List.set_cons_zero, List.set_cons_succ]
                      refine held_take 41 172 (v := ?_) rfl rfl (by kernel_rfl) (by kernel_rfl) (by kernel_rfl) (fun _ _ _ h => h) (by rfl) ?_ (by assumption) ?_
                      rotate_left 1
                      · intro wq hSq
                        try dsimp only at hSq
                        go_simp
                        try with_reducible rfl
                      simp only [List.setIfInBounds_toArray, List.set_cons_zero, List.set_cons_succ]
                      refine held_take 42 173 (v := ?_) rfl rfl (by kernel_rfl) (by kernel_rfl) (by kernel_rfl) (fun _ _ _ h => h) (by rfl) ?_ (by assumption) ?_
                      rotate_left 1
                      · intro wq hSq
                        try dsimp only at hSq
                        go_simp
                        try with_reducible rfl
                      simp only [List.setIfInBounds_toArray, List.set_cons_zero, List.set_cons_succ]
                      refine held_take 43 174 (v := ?_) rfl rfl (by kernel_rfl) (by kernel_rfl) (by kernel_rfl) (fun _ _ _ h => h) (by rfl) ?_ (by assumption) ?_
                      rotate_left 1
                      · intro wq hSq
                        try dsimp only at hSq
                        go_simp
                        try with_reducible rfl
                      simp only [List.setIfInBounds_toArray, List.set_cons_zero, List.set_cons_succ]
                      refine held_take 44 175 (v := ?_) rfl rfl (by kernel_rfl) (by kernel_rfl) (by kernel_rfl) (fun _ _ _ h => h) (by rfl) ?_ (by assumption) ?_
                      rotate_left 1
                      · intro wq hSq
                        try dsimp only at hSq
                        go_simp
                        try with_reducible rfl
                      simp only [List.setIfInBounds_toArray, List.set_cons_zero, List.set_cons_succ]
                      refine wpAnyH_done (by kernel_rfl) ?_ _
                      go_wp2_with fail
                      go_roundw
                      case rel => exact ⟨j + 1, by omega, by go_num, H8⟩
                      case measure => simp [intOf]; omega
              · obtain rfl : j = n := by omega
                go_wp2_with fail
                go_ret
                exact ⟨rfl, HW.out.below⟩
    · have t128 : ((fill.size : Int) != 128) = true := by rw [bne_iff_ne]; omega
      clear h60 h00 h01 h10 h11 h128
      go_enter Try.func6, Try.ntmps6
      go_wp2_with (go_at_call 14; refine (geomAlive_any _).mono ?_; rintro e W1 ⟨rfl, hb⟩; have K1 := Lib.hid (keep1 hb).2; clear hb)
      go_ret
      exact ⟨rfl, K1.out⟩
  · have t60 : (60 : Int) < acts.length := by omega
    clear h60 h00 h01 h10 h11
    go_enter Try.func6, Try.ntmps6
    go_wp2_with (go_at_call 14; refine (geomAlive_any _).mono ?_; rintro e W1 ⟨rfl, hb⟩; have K1 := Lib.hid (keep1 hb).2; clear hb)
    go_ret
    exact ⟨rfl, K1.out⟩
end Go.Proofs.Ytopbejdhfndfbaa
