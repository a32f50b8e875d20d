/- Contract of geom.Of. Condition: at most 100,000 blocks. -/
import Derived.Test.YtopbejdhfndfbaaGeo4
import Derived.Test.YtopbejdhfndfbaaGeo5
import Derived.Test.YtopbejdhfndfbaaGeoV
namespace Go.Proofs.Ytopbejdhfndfbaa
open Go.RowKit
set_option maxRecDepth 20000
attribute [local go_sem ↓] loadVar_24 storeVar_24
attribute [local go_sem] run_load24 run_store24 aggAt_new aggAt_past aggAt_drew rowAt_new rowAt_past rowAt_drew rowOpen_new rowOpen_past rowOpen_drew setRow_made' alloc_setRow

section
variable {P : Program} {ops : Array Oper} {Q : Exit → Act → World → Prop} {md : Region.Mode} {S : World → Prop}
theorem held_take (i d : Nat) {oi : Oper} {v : Value} {fuel : Nat} {listed : Array Bool} {tmps : Array Value} {df : List Deferred} {w : World} (hi : ops[i]? = some oi) (hd : oi.dst = some d)
    (hs : Region.noSelect ops = true) (hf : Region.free md ops listed i = true) (hr : (Region.ready md ops listed).contains i = true)
    (hQ : ∀ c a w, Q (.panic c) (a.put oi.dst v) w → Q (.panic c) a w) (hw : Region.wanted oi (yielded ops tmps) = true) (hy : ∀ w, S w → (execOp (Act.mk tmps df).eval oi).run P w = .ok (.value v) w) (hS : S w)
    (h : wpAnyH P md ops Q S fuel (listed.setIfInBounds i true) (Act.mk (tmps.setIfInBounds d v) df) w) : wpAnyH P md ops Q S (fuel + 1) listed (Act.mk tmps df) w :=
  wpAnyH_take hi hs hf hr hQ (.inl ⟨hw, hy⟩) hS (by rw [hd]; exact h)
theorem held_skip (i d : Nat) {oi : Oper} {fuel : Nat} {listed : Array Bool} {tmps : Array Value} {df : List Deferred} {w : World} (hi : ops[i]? = some oi) (hd : oi.dst = some d)
    (hs : Region.noSelect ops = true) (hf : Region.free md ops listed i = true) (hr : (Region.ready md ops listed).contains i = true)
    (hQ : ∀ c a w, Q (.panic c) (a.put oi.dst undef) w → Q (.panic c) a w) (hw : Region.wanted oi (yielded ops tmps) = false) (hS : S w)
    (h : wpAnyH P md ops Q S fuel (listed.setIfInBounds i true) (Act.mk (tmps.setIfInBounds d undef) df) w) : wpAnyH P md ops Q S (fuel + 1) listed (Act.mk tmps df) w :=
  wpAnyH_take hi hs hf hr hQ (.inr ⟨hw, rfl⟩) hS (by rw [hd]; exact h)
end
def ofC (l : List ByteArray) : Array Value := match mof l with | none => geo0 | some i => geoC l.length i (dof i)
def ofE (l : List ByteArray) : Int := match mof l with | none => 3 | some _ => 0
def OfPost (l : List ByteArray) (w : World) (e : Ending) (w' : World) : Prop := e = .returned (.tuple #[.agg (ofC l), .int .i64 (ofE l)]) ∧ Below w.heap.size w w'
theorem of_none {l : List ByteArray} {w w' : World} (h : mof l = none) (hb : Below w.heap.size w w') : OfPost l w (.returned (.tuple #[.agg geo0, .int .i64 3])) w' := ⟨by unfold ofC ofE; rw [h], hb⟩
theorem of_some {l : List ByteArray} {i : Nat} {w w' : World} (h : mof l = some i) (hb : Below w.heap.size w w') : OfPost l w (.returned (.tuple #[.agg (geoC l.length i (dof i)), .int .i64 0])) w' := ⟨by unfold ofC ofE; rw [h], hb⟩
theorem mof_not {l : List ByteArray} (h : ¬ okV l = true) : mof l = none := by unfold mof; rw [if_neg h]
theorem mof_nil : mof [] = none := mof_not (by decide)
theorem mof_size {l : List ByteArray} {k : Nat} (hk : k < l.length) (h : (bAt l k).size ≠ 128) : mof l = none := mof_not fun e => by
  simp only [okV, Bool.and_eq_true] at e
  exact h ((sizes_iff l).1 e.1.1.1 k hk)
theorem mof_plan {l : List ByteArray} (h : planErr l.length (inoOf (bAt l 0)) ≠ 0) : mof l = none := mof_not fun e => by
  simp only [okV, Bool.and_eq_true, decide_eq_true_eq] at e
  exact h e.1.1.2
theorem mof_head {l : List ByteArray} (h : bAt l 0 ≠ headB l.length (inoOf (bAt l 0))) : mof l = none := mof_not fun e => by
  simp only [okV, Bool.and_eq_true, decide_eq_true_eq] at e
  exact h e.1.2
theorem mof_right {l : List ByteArray} (h : rightB (bAt l 2) l.length (dof (inoOf (bAt l 0))) = false) : mof l = none := mof_not fun e => by
  simp only [okV, Bool.and_eq_true, decide_eq_true_eq, dataOf_nat, Int.toNat_natCast] at e
  rw [e.2] at h
  cases h
theorem mof_yes {l : List ByteArray} (h1 : ∀ k, k < l.length → (bAt l k).size = 128) (h2 : planErr l.length (inoOf (bAt l 0)) = 0) (h3 : bAt l 0 = headB l.length (inoOf (bAt l 0))) (h4 : rightB (bAt l 2) l.length (dof (inoOf (bAt l 0))) = true) : mof l = some (inoOf (bAt l 0)) := by
  unfold mof
  rw [if_pos]
  simp only [okV, Bool.and_eq_true, decide_eq_true_eq, dataOf_nat, Int.toNat_natCast]
  exact ⟨⟨⟨(sizes_iff l).2 h1, h2⟩, h3⟩, h4⟩
theorem load24_row {w : World} {b : Nat} {cs : Array Value} (h : rowAt w b 6 = true) (h2 : aggAt w b = .agg cs) : (loadVar 24 ⟨b, 0, none⟩).run Try.prog w = .ok (.agg cs) w := by
  have := run_load24 w b h
  rw [h2] at this
  exact this
theorem rowOpen_drewN (w : World) (n b k : Nat) : rowOpen (w.drewN n) b k = rowOpen w b k := rfl
theorem rowAt_drewN (w : World) (n b k : Nat) : rowAt (w.drewN n) b k = rowAt w b k := rfl
theorem aggAt_drewN (w : World) (n b : Nat) : aggAt (w.drewN n) b = aggAt w b := rfl
theorem end24 (W : World) (g : Nat) (cs : Array Value) (h : rowOpen W g 6 = true) (hs : cs.size = 6) : (loadVar 24 ⟨g, 0, none⟩).run Try.prog (W.setRow g cs) = .ok (.agg cs) (W.setRow g cs) :=
  load24_row (by rw [rowAt_setRow_same _ _ _ 6 _ h, hs]; rfl) (aggAt_setRow_same _ _ 6 _ h)
/-- What stands when the plan of a volume is laid. -/
structure OfW (w W : World) (b o g : Nat) (l : List ByteArray) (cs : Array Value) : Prop where
  c0 : W.cell? ⟨b, o, none⟩ = some (.string (bAt l 0))
  c2 : W.cell? ⟨b, o + 2, none⟩ = some (.string (bAt l 2))
  hp : W.heap[g]? = some (.cells cs 24)
  hz : W.heap[w.heap.size]? = some (.cells geo0 24)
  lb : b < W.heap.size
  below : Below w.heap.size w W
theorem OfW.step {w W W' : World} {b o g : Nat} {l : List ByteArray} {cs : Array Value} (h : OfW w W b o g l cs) (hb : Below W.heap.size W W') : OfW w W' b o g l cs :=
  ⟨(hb.cell (p := ⟨b, o, none⟩) h.lb).trans h.c0, (hb.cell (p := ⟨b, o + 2, none⟩) h.lb).trans h.c2, keep h.hp hb, keep h.hz hb, Nat.lt_of_lt_of_le h.lb hb.size, below_step h.below hb⟩
theorem OfW.drew {w W : World} {b o g : Nat} {l : List ByteArray} {cs : Array Value} (h : OfW w W b o g l cs) : OfW w W.drew b o g l cs := ⟨h.c0, h.c2, h.hp, h.hz, h.lb, h.below.drew⟩
theorem OfW.facts {w W : World} {b o g : Nat} {l : List ByteArray} {cs : Array Value} (h : OfW w W b o g l cs) (hs : cs.size = 6) (h3 : cs[3]? = some (.int .i64 2)) : W.cell? ⟨b, o, none⟩ = some (.string (bAt l 0)) ∧ W.cell? ⟨b, o + 2, none⟩ = some (.string (bAt l 2)) ∧ aggAt W g = .agg cs ∧ rowAt W g 6 = true ∧ W.cell? ⟨g, 3, none⟩ = some (.int .i64 2) ∧ rowOpen W w.heap.size 6 = true :=
  ⟨h.c0, h.c2, (agg_facts h.hp 6 hs).1, (agg_facts h.hp 6 hs).2, cell_of_heap h.hp h3, rowOpen_of h.hz 6 rfl⟩
theorem OfW.keep {w W : World} {b o g : Nat} {l : List ByteArray} {cs : Array Value} (h : OfW w W b o g l cs) (hs : cs.size = 6) (h3 : cs[3]? = some (.int .i64 2)) : W.cell? ⟨b, o, none⟩ = some (.string (bAt l 0)) ∧ W.cell? ⟨b, o + 2, none⟩ = some (.string (bAt l 2)) ∧ aggAt W g = .agg cs ∧ rowAt W g 6 = true ∧ W.cell? ⟨g, 3, none⟩ = some (.int .i64 2) :=
  let f := h.facts hs h3
  ⟨f.1, f.2.1, f.2.2.1, f.2.2.2.1, f.2.2.2.2.1⟩
theorem planErr_three (b i : Int) : planErr b i = 0 ∨ planErr b i = 2 ∨ planErr b i = 10 := by
  unfold planErr
  split
  · exact .inr (.inl rfl)
  · split
    · exact .inr (.inr rfl)
    · exact .inl rfl
theorem planC_no {b i : Int} (h : planErr b i ≠ 0) : planC b i = geo0 := by unfold planC; rw [if_neg h]
theorem planC_yes {b i : Int} (h : planErr b i = 0) : planC b i = geoC b i (dataOf i) := by unfold planC; rw [if_pos h]
theorem geo0_heap (w : World) : (w.alloc (.cells geo0 24)).heap[w.heap.size]? = some (.cells geo0 24) := heap_alloc_new _ _
theorem ino_slice (x : ByteArray) (h : x.size = 128) : (x.extract 6 8).size = 2 ∧ leVal (bl (x.extract 6 8)) = inoOf x := by
  constructor
  · rw [ByteArray.size_extract, h]; rfl
  · rw [bl_extract]; rfl
set_option maxHeartbeats 1000000 in
theorem of_any (v : Value) (l : List ByteArray) (w : World) (hv : Strs w v l) (hl : l.length ≤ 100000) : Calls Try.prog 20 #[v] w (OfPost l w) := by
  rcases hv.shape with ⟨rfl, a, cap, rfl, -⟩ | ⟨h0, b, o, cap, rfl, -, hb, hc⟩
  · go_enter Try.func20, Try.ntmps20
    go_wp2_with fail
    go_loop [11] (fun i => i = .int .i64 0) (fun _ => 0)
    case atStart => rfl
    case round =>
      subst hrel
      go_wp2_with fail
      refine bodyPost_ret (results_cell_tmp rfl _ _ rfl (load24_heap (heap_alloc_new _ _) rfl)) rfl ?_
      exact of_none mof_nil (below_one _ _)
  · have HC := Lib.hid hc
    have HP := Lib.hid h0
    clear hc hv
    have HB := Lib.hid hb
    have hbe : Below w.heap.size w (w.alloc (.cells geo0 24)) := below_one _ _
    have HC1 : Hid (∀ i, i < l.length → (w.alloc (.cells geo0 24)).cell? ⟨b, o + i, none⟩ = some (.string (bAt l i))) := fun i hi => (hbe.cell (p := ⟨b, o + i, none⟩) hb).trans (HC.out i hi)
    have c0 := HC1.out 0 h0
    rw [Nat.add_zero] at c0
    clear hb hbe
    unfold geo0 at c0 HC1
    go_enter Try.func20, Try.ntmps20
    go_wp2_with fail
    go_loop [11] (fun i => ∃ k : Nat, k ≤ l.length ∧ i = .int .i64 k ∧ Hid (∀ j, j < k → (bAt l j).size = 128)) (fun i => l.length - (intOf i).toNat)
    case atStart => exact ⟨0, by omega, rfl, fun j hj => by omega⟩
    case round =>
      obtain ⟨k, hk, rfl, HS⟩ := hrel
      by_cases hlt : k < l.length
      · have c1 := HC1.out k hlt
        have i0 : (0 : Int) ≤ k := by omega
        have i1 : (k : Int) < l.length := by omega
        by_cases hz : (bAt l k).size = 128
        · have HS2 : Hid (∀ j, j < k + 1 → (bAt l j).size = 128) := fun j hj => by
            by_cases e : j = k
            · rw [e]; exact hz
            · exact HS.out j (by omega)
          go_wp2_with fail
          go_round
          case rel => exact ⟨k + 1, by omega, by go_num, HS2⟩
          case measure => simp [intOf]; omega
        · have HZ := Lib.hid (mof_size hlt hz)
          have hz' : ¬ ((bAt l k).size : Int) = 128 := by omega
          clear hz
          go_wp2_with fail
          refine bodyPost_ret (results_cell_tmp rfl _ _ rfl (load24_heap (heap_alloc_new _ _) rfl)) rfl ?_
          exact of_none HZ.out (below_one _ _)
      · obtain rfl : k = l.length := by omega
        have hs0 := HS.out 0 h0
        obtain ⟨e1, e2⟩ := ino_slice _ hs0
        have PG : Hid (∀ w, Calls Try.prog 50 #[.string ((bAt l 0).extract 6 8)] w fun e w' => e = .returned (.int .u64 (inoOf (bAt l 0))) ∧ w = w') := by
          rw [← e2]
          exact fun w => get_any _ w (by omega)
        have hi := inoOf_lt (bAt l 0)
        have HX := Lib.hid e1
        clear e1 e2 hk hlt
        have hne : ¬ (l.length : Int) = 0 := by omega
        by_cases hp : planErr l.length (inoOf (bAt l 0)) = 0
        · obtain ⟨p1, p2, p3, p4, p5⟩ := planErr_ok hp
          rw [dataOf_nat] at p5
          have hD : dof (inoOf (bAt l 0)) ≤ 300 := by unfold dof; omega
          have c2 := HC1.out 2 (by omega)
          have PP : Hid (∀ w, Calls Try.prog 15 #[.int .i64 l.length, .int .i64 (inoOf (bAt l 0))] w fun e w' => e = .returned (.tuple #[.agg (geoC l.length (inoOf (bAt l 0)) (dof (inoOf (bAt l 0)))), .int .i64 0]) ∧ Below w.heap.size w w') := fun w => by
            rw [← dataOf_nat, ← planC_yes hp, ← hp]
            exact plan_any _ _ w (by omega)
          have PF : Hid (∀ w, Calls Try.prog 46 #[.agg (geoC l.length (inoOf (bAt l 0)) (dof (inoOf (bAt l 0))))] w fun e w' => e = .returned (.string (headB l.length (inoOf (bAt l 0)))) ∧ Below w.heap.size w w') := fun w => first_any _ _ _ w (by omega) (by omega)
          have PR : Hid (∀ w, Calls Try.prog 51 #[.string (bAt l 2), .agg (geoC l.length (inoOf (bAt l 0)) (dof (inoOf (bAt l 0))))] w fun e w' => e = .returned (.bool (rightB (bAt l 2) l.length (dof (inoOf (bAt l 0))))) ∧ Below w.heap.size w w') := fun w => right_any _ _ _ _ w (HS.out 2 (by omega)) (by omega) hD
          have HY := Lib.hid (fun h3 h4 => mof_yes HS.out hp h3 h4)
          have HH := Lib.hid (mof_head (l := l))
          have HQ := Lib.hid (mof_right (l := l))
          have n2 : (2 : Int) < l.length := by omega
          unfold geoC at PP
          clear p1 p2 p3 p4 p5 hD hp HS
          go_wp2_with (first | (go_at_call 15; refine (PP.out _).mono ?_; rintro e W1 ⟨rfl, hb1⟩; have HK := Lib.hid (keep1 hb1); have f0 := (hb1.cell (p := ⟨b, o, none⟩) (by rw [alloc_size]; exact Nat.lt_succ_of_lt HB.out)).trans c0; have f2 := (hb1.cell (p := ⟨b, o + 2, none⟩) (by rw [alloc_size]; exact Nat.lt_succ_of_lt HB.out)).trans c2; have l1 := hb1.size; clear hb1) | (go_at_call 50; refine (PG.out _).mono ?_; rintro e W1 ⟨rfl, rfl⟩))
          obtain ⟨W2, hW⟩ : ∃ W2, W2 = W1.alloc (.cells (geoC l.length (inoOf (bAt l 0)) (dof (inoOf (bAt l 0)))) 24) := ⟨_, rfl⟩
          have hlb : b < W1.heap.size := by have := HB.out; rw [alloc_size] at l1; omega
          have HW : Hid (OfW w W2 b o W1.heap.size l (geoC l.length (inoOf (bAt l 0)) (dof (inoOf (bAt l 0))))) := by
            have ha := below_one W1 (.cells (geoC l.length (inoOf (bAt l 0)) (dof (inoOf (bAt l 0)))) 24)
            rw [← hW] at ha
            exact ⟨(ha.cell (p := ⟨b, o, none⟩) hlb).trans f0, (ha.cell (p := ⟨b, o + 2, none⟩) hlb).trans f2, by rw [hW]; exact heap_alloc_new _ _, keep HK.out.1 ha, Nat.lt_of_lt_of_le hlb ha.size, below_step HK.out.2 ha⟩
          unfold geoC at hW PF PR HW
          rw [← hW]
          clear hW f0 f2 l1 hlb HK PP PG
          have hgl := Lib.hid (heap_lt HW.out.hp)
          generalize W1.heap.size = g at HW hgl
          have n0 : (0 : Int) < l.length := by omega
          clear hne HC HC1 c0 c2 hl hs0 hi HX
          by_cases hh : bAt l 0 = headB l.length (inoOf (bAt l 0))
          · rw [← hh] at PF
            generalize F0 : rightB (bAt l 2) l.length (dof (inoOf (bAt l 0))) = r at PR
            cases r with
            | false =>
              have HN := Lib.hid (HQ.out F0)
              clear HQ HH HY hh F0
              refine wp_region_held_drew (S := fun W' => W'.cell? ⟨b, o, none⟩ = some (.string (bAt l 0)) ∧ W'.cell? ⟨b, o + 2, none⟩ = some (.string (bAt l 2)) ∧ aggAt W' g = .agg #[.int .i64 l.length, .int .i64 (inoOf (bAt l 0)), .int .i64 1, .int .i64 2, .int .i64 3, .int .i64 (dof (inoOf (bAt l 0)))] ∧ rowAt W' g 6 = true ∧ W'.cell? ⟨g, 3, none⟩ = some (.int .i64 2)) (by kernel_rfl) (HW.out.drew.keep rfl rfl) (fun hHeld => ?_)
              refine held_take 0 39 (v := ?_) rfl rfl (by kernel_rfl) (by kernel_rfl) (by kernel_rfl) (fun _ _ _ h => h) (by rfl) ?_ (by assumption) ?_
              rotate_left 1
              · intro wq hSq
                try dsimp only at hSq
                go_simp
                try with_reducible rfl
              simp only [List.setIfInBounds_toArray, List.set_cons_zero, List.set_cons_succ]
              refine held_take 1 40 (v := ?_) rfl rfl (by kernel_rfl) (by kernel_rfl) (by kernel_rfl) (fun _ _ _ h => h) (by rfl) ?_ (by assumption) ?_
              rotate_left 1
              · intro wq hSq
                try dsimp only at hSq
                go_simp
                try with_reducible rfl
              simp only [List.setIfInBounds_toArray, List.set_cons_zero, List.set_cons_succ]
              refine held_take 2 41 (v := ?_) rfl rfl (by kernel_rfl) (by kernel_rfl) (by kernel_rfl) (fun _ _ _ h => h) (by rfl) ?_ (by assumption) ?_
              rotate_left 1
              · intro wq hSq
                try dsimp only at hSq
                go_simp
                try with_reducible rfl
              simp only [List.setIfInBounds_toArray, List.set_cons_zero, List.set_cons_succ]
              refine held_take 3 42 (v := ?_) rfl rfl (by kernel_rfl) (by kernel_rfl) (by kernel_rfl) (fun _ _ _ h => h) (by rfl) ?_ (by assumption) ?_
              rotate_left 1
              · intro wq hSq
                try dsimp only at hSq
                go_simp
                try with_reducible rfl
              simp only [List.setIfInBounds_toArray, List.set_cons_zero, List.set_cons_succ]
              refine held_take 4 43 (v := ?_) rfl rfl (by kernel_rfl) (by kernel_rfl) (by kernel_rfl) (fun _ _ _ h => h) (by rfl) ?_ (by assumption) ?_
              rotate_left 1
              · intro wq hSq
                try dsimp only at hSq
                go_simp
                try with_reducible rfl
              simp only [List.setIfInBounds_toArray, List.set_cons_zero, List.set_cons_succ]
              refine held_take 5 44 (v := ?_) rfl rfl (by kernel_rfl) (by kernel_rfl) (by kernel_rfl) (fun _ _ _ h => h) (by rfl) ?_ (by assumption) ?_
              rotate_left 1
              · intro wq hSq
                try dsimp only at hSq
                go_simp
                try with_reducible rfl
              simp only [List.setIfInBounds_toArray, List.set_cons_zero, List.set_cons_succ]
              refine held_take 6 45 (v := ?_) rfl rfl (by kernel_rfl) (by kernel_rfl) (by kernel_rfl) (fun _ _ _ h => h) (by rfl) ?_ (by assumption) ?_
              rotate_left 1
              · intro wq hSq
                try dsimp only at hSq
                go_simp
                try with_reducible rfl
              simp only [List.setIfInBounds_toArray, List.set_cons_zero, List.set_cons_succ]
              refine wpAnyH_ready (rs := [7]) (by kernel_rfl) (by simp) ?_
              refine AllReadyH.cons rfl (fun K hK => ?_) AllReadyH.nil
              go_simp
              refine (PF.out _).mono ?_
              rintro e W3 ⟨rfl, hb3⟩
              have HW3 := Lib.hid (HW.out.drew.step hb3)
              clear hb3
              go_wp2_with fail
              refine hK.out _ _ (HW3.out.keep rfl rfl) (fun hHeld => ?_)
              clear hK K
              refine held_take 8 47 (v := ?_) rfl rfl (by kernel_rfl) (by kernel_rfl) (by kernel_rfl) (fun _ _ _ h => h) (by rfl) ?_ (by assumption) ?_
              rotate_left 1
              · intro wq hSq
                try dsimp only at hSq
                go_simp
                try with_reducible rfl
              simp only [List.setIfInBounds_toArray, List.set_cons_zero, List.set_cons_succ]
              refine held_take 9 48 (v := ?_) rfl rfl (by kernel_rfl) (by kernel_rfl) (by kernel_rfl) (fun _ _ _ h => h) (by rfl) ?_ (by assumption) ?_
              rotate_left 1
              · intro wq hSq
                try dsimp only at hSq
                go_simp
                try with_reducible rfl
              simp only [List.setIfInBounds_toArray, List.set_cons_zero, List.set_cons_succ]
              refine held_take 10 49 (v := ?_) rfl rfl (by kernel_rfl) (by kernel_rfl) (by kernel_rfl) (fun _ _ _ h => h) (by rfl) ?_ (by assumption) ?_
              rotate_left 1
              · intro wq hSq
                try dsimp only at hSq
                go_simp
                try with_reducible rfl
              simp only [List.setIfInBounds_toArray, List.set_cons_zero, List.set_cons_succ]
              refine held_take 11 50 (v := ?_) rfl rfl (by kernel_rfl) (by kernel_rfl) (by kernel_rfl) (fun _ _ _ h => h) (by rfl) ?_ (by assumption) ?_
              rotate_left 1
              · intro wq hSq
                try dsimp only at hSq
                go_simp
                try with_reducible rfl
              simp only [List.setIfInBounds_toArray, List.set_cons_zero, List.set_cons_succ]
              refine held_take 12 51 (v := ?_) rfl rfl (by kernel_rfl) (by kernel_rfl) (by kernel_rfl) (fun _ _ _ h => h) (by rfl) ?_ (by assumption) ?_
              rotate_left 1
              · intro wq hSq
                try dsimp only at hSq
                go_simp
                try with_reducible rfl
              simp only [List.setIfInBounds_toArray, List.set_cons_zero, List.set_cons_succ]
              refine held_take 13 52 (v := ?_) rfl rfl (by kernel_rfl) (by kernel_rfl) (by kernel_rfl) (fun _ _ _ h => h) (by rfl) ?_ (by assumption) ?_
              rotate_left 1
              · intro wq hSq
                try dsimp only at hSq
                go_simp
                try with_reducible rfl
              simp only [List.setIfInBounds_toArray, List.set_cons_zero, List.set_cons_succ]
              refine held_take 14 53 (v := ?_) rfl rfl (by kernel_rfl) (by kernel_rfl) (by kernel_rfl) (fun _ _ _ h => h) (by rfl) ?_ (by assumption) ?_
              rotate_left 1
              · intro wq hSq
                try dsimp only at hSq
                go_simp
                try with_reducible rfl
              simp only [List.setIfInBounds_toArray, List.set_cons_zero, List.set_cons_succ]
              refine held_take 15 54 (v := ?_) rfl rfl (by kernel_rfl) (by kernel_rfl) (by kernel_rfl) (fun _ _ _ h => h) (by rfl) ?_ (by assumption) ?_
              rotate_left 1
              · intro wq hSq
                try dsimp only at hSq
                go_simp
                try with_reducible rfl
              simp only [List.setIfInBounds_toArray, List.set_cons_zero, List.set_cons_succ]
              refine held_take 16 55 (v := ?_) rfl rfl (by kernel_rfl) (by kernel_rfl) (by kernel_rfl) (fun _ _ _ h => h) (by rfl) ?_ (by assumption) ?_
              rotate_left 1
              · intro wq hSq
                try dsimp only at hSq
                go_simp
                try with_reducible rfl
              simp only [List.setIfInBounds_toArray, List.set_cons_zero, List.set_cons_succ]
              refine wpAnyH_ready (rs := [17]) (by kernel_rfl) (by simp) ?_
              refine AllReadyH.cons rfl (fun K hK => ?_) AllReadyH.nil
              go_simp
              refine (PR.out _).mono ?_
              rintro e W4 ⟨rfl, hb4⟩
              have HW4 := Lib.hid (HW3.out.step hb4)
              clear hb4
              go_wp2_with fail
              refine hK.out _ _ (HW4.out.keep rfl rfl) (fun hHeld => ?_)
              clear hK K
              refine held_take 18 57 (v := ?_) rfl rfl (by kernel_rfl) (by kernel_rfl) (by kernel_rfl) (fun _ _ _ h => h) (by rfl) ?_ (by assumption) ?_
              rotate_left 1
              · intro wq hSq
                try dsimp only at hSq
                go_simp
                try with_reducible rfl
              simp only [List.setIfInBounds_toArray, List.set_cons_zero, List.set_cons_succ]
              refine held_take 19 58 (v := ?_) rfl rfl (by kernel_rfl) (by kernel_rfl) (by kernel_rfl) (fun _ _ _ h => h) (by rfl) ?_ (by assumption) ?_
              rotate_left 1
              · intro wq hSq
                try dsimp only at hSq
                go_simp
                try with_reducible rfl
              simp only [List.setIfInBounds_toArray, List.set_cons_zero, List.set_cons_succ]
              refine wpAnyH_done (by kernel_rfl) ?_ _
              have ro := (HW4.out.facts rfl rfl).2.2.2.2.2
              obtain ⟨-, -, ug, ur, -, -⟩ := HW4.out.facts rfl rfl
              go_wp2_with fail
              refine bodyPost_ret (results_cell_tmp rfl _ _ rfl (end24 _ _ _ ro rfl)) rfl ?_
              exact of_none HN.out (below_setRow HW4.out.below (Nat.le_refl _) _)
            | true =>
              have HN := Lib.hid (HY.out hh F0)
              clear HQ HH HY hh F0
              refine wp_region_held_drew (S := fun W' => W'.cell? ⟨b, o, none⟩ = some (.string (bAt l 0)) ∧ W'.cell? ⟨b, o + 2, none⟩ = some (.string (bAt l 2)) ∧ aggAt W' g = .agg #[.int .i64 l.length, .int .i64 (inoOf (bAt l 0)), .int .i64 1, .int .i64 2, .int .i64 3, .int .i64 (dof (inoOf (bAt l 0)))] ∧ rowAt W' g 6 = true ∧ W'.cell? ⟨g, 3, none⟩ = some (.int .i64 2)) (by kernel_rfl) (HW.out.drew.keep rfl rfl) (fun hHeld => ?_)
              refine held_take 0 39 (v := ?_) rfl rfl (by kernel_rfl) (by kernel_rfl) (by kernel_rfl) (fun _ _ _ h => h) (by rfl) ?_ (by assumption) ?_
              rotate_left 1
              · intro wq hSq
                try dsimp only at hSq
                go_simp
                try with_reducible rfl
              simp only [List.setIfInBounds_toArray, List.set_cons_zero, List.set_cons_succ]
              refine held_take 1 40 (v := ?_) rfl rfl (by kernel_rfl) (by kernel_rfl) (by kernel_rfl) (fun _ _ _ h => h) (by rfl) ?_ (by assumption) ?_
              rotate_left 1
              · intro wq hSq
                try dsimp only at hSq
                go_simp
                try with_reducible rfl
              simp only [List.setIfInBounds_toArray, List.set_cons_zero, List.set_cons_succ]
              refine held_take 2 41 (v := ?_) rfl rfl (by kernel_rfl) (by kernel_rfl) (by kernel_rfl) (fun _ _ _ h => h) (by rfl) ?_ (by assumption) ?_
              rotate_left 1
              · intro wq hSq
                try dsimp only at hSq
                go_simp
                try with_reducible rfl
              simp only [List.setIfInBounds_toArray, List.set_cons_zero, List.set_cons_succ]
              refine held_take 3 42 (v := ?_) rfl rfl (by kernel_rfl) (by kernel_rfl) (by kernel_rfl) (fun _ _ _ h => h) (by rfl) ?_ (by assumption) ?_
              rotate_left 1
              · intro wq hSq
                try dsimp only at hSq
                go_simp
                try with_reducible rfl
              simp only [List.setIfInBounds_toArray, List.set_cons_zero, List.set_cons_succ]
              refine held_take 4 43 (v := ?_) rfl rfl (by kernel_rfl) (by kernel_rfl) (by kernel_rfl) (fun _ _ _ h => h) (by rfl) ?_ (by assumption) ?_
              rotate_left 1
              · intro wq hSq
                try dsimp only at hSq
                go_simp
                try with_reducible rfl
              simp only [List.setIfInBounds_toArray, List.set_cons_zero, List.set_cons_succ]
              refine held_take 5 44 (v := ?_) rfl rfl (by kernel_rfl) (by kernel_rfl) (by kernel_rfl) (fun _ _ _ h => h) (by rfl) ?_ (by assumption) ?_
              rotate_left 1
              · intro wq hSq
                try dsimp only at hSq
                go_simp
                try with_reducible rfl
              simp only [List.setIfInBounds_toArray, List.set_cons_zero, List.set_cons_succ]
              refine held_take 6 45 (v := ?_) rfl rfl (by kernel_rfl) (by kernel_rfl) (by kernel_rfl) (fun _ _ _ h => h) (by rfl) ?_ (by assumption) ?_
              rotate_left 1
              · intro wq hSq
                try dsimp only at hSq
                go_simp
                try with_reducible rfl
              simp only [List.setIfInBounds_toArray, List.set_cons_zero, List.set_cons_succ]
              refine wpAnyH_ready (rs := [7]) (by kernel_rfl) (by simp) ?_
              refine AllReadyH.cons rfl (fun K hK => ?_) AllReadyH.nil
              go_simp
              refine (PF.out _).mono ?_
              rintro e W3 ⟨rfl, hb3⟩
              have HW3 := Lib.hid (HW.out.drew.step hb3)
              clear hb3
              go_wp2_with fail
              refine hK.out _ _ (HW3.out.keep rfl rfl) (fun hHeld => ?_)
              clear hK K
              refine held_take 8 47 (v := ?_) rfl rfl (by kernel_rfl) (by kernel_rfl) (by kernel_rfl) (fun _ _ _ h => h) (by rfl) ?_ (by assumption) ?_
              rotate_left 1
              · intro wq hSq
                try dsimp only at hSq
                go_simp
                try with_reducible rfl
              simp only [List.setIfInBounds_toArray, List.set_cons_zero, List.set_cons_succ]
              refine held_take 9 48 (v := ?_) rfl rfl (by kernel_rfl) (by kernel_rfl) (by kernel_rfl) (fun _ _ _ h => h) (by rfl) ?_ (by assumption) ?_
              rotate_left 1
              · intro wq hSq
                try dsimp only at hSq
                go_simp
                try with_reducible rfl
              simp only [List.setIfInBounds_toArray, List.set_cons_zero, List.set_cons_succ]
              refine held_take 10 49 (v := ?_) rfl rfl (by kernel_rfl) (by kernel_rfl) (by kernel_rfl) (fun _ _ _ h => h) (by rfl) ?_ (by assumption) ?_
              rotate_left 1
              · intro wq hSq
                try dsimp only at hSq
                go_simp
                try with_reducible rfl
              simp only [List.setIfInBounds_toArray, List.set_cons_zero, List.set_cons_succ]
              refine held_take 11 50 (v := ?_) rfl rfl (by kernel_rfl) (by kernel_rfl) (by kernel_rfl) (fun _ _ _ h => h) (by rfl) ?_ (by assumption) ?_
              rotate_left 1
              · intro wq hSq
                try dsimp only at hSq
                go_simp
                try with_reducible rfl
              simp only [List.setIfInBounds_toArray, List.set_cons_zero, List.set_cons_succ]
              refine held_take 12 51 (v := ?_) rfl rfl (by kernel_rfl) (by kernel_rfl) (by kernel_rfl) (fun _ _ _ h => h) (by rfl) ?_ (by assumption) ?_
              rotate_left 1
              · intro wq hSq
                try dsimp only at hSq
                go_simp
                try with_reducible rfl
              simp only [List.setIfInBounds_toArray, List.set_cons_zero, List.set_cons_succ]
              refine held_take 13 52 (v := ?_) rfl rfl (by kernel_rfl) (by kernel_rfl) (by kernel_rfl) (fun _ _ _ h => h) (by rfl) ?_ (by assumption) ?_
              rotate_left 1
              · intro wq hSq
                try dsimp only at hSq
                go_simp
                try with_reducible rfl
              simp only [List.setIfInBounds_toArray, List.set_cons_zero, List.set_cons_succ]
              refine held_take 14 53 (v := ?_) rfl rfl (by kernel_rfl) (by kernel_rfl) (by kernel_rfl) (fun _ _ _ h => h) (by rfl) ?_ (by assumption) ?_
              rotate_left 1
              · intro wq hSq
                try dsimp only at hSq
                go_simp
                try with_reducible rfl
              simp only [List.setIfInBounds_toArray, List.set_cons_zero, List.set_cons_succ]
              refine held_take 15 54 (v := ?_) rfl rfl (by kernel_rfl) (by kernel_rfl) (by kernel_rfl) (fun _ _ _ h => h) (by rfl) ?_ (by assumption) ?_
              rotate_left 1
              · intro wq hSq
                try dsimp only at hSq
                go_simp
                try with_reducible rfl
              simp only [List.setIfInBounds_toArray, List.set_cons_zero, List.set_cons_succ]
              refine held_take 16 55 (v := ?_) rfl rfl (by kernel_rfl) (by kernel_rfl) (by kernel_rfl) (fun _ _ _ h => h) (by rfl) ?_ (by assumption) ?_
              rotate_left 1
              · intro wq hSq
                try dsimp only at hSq
                go_simp
                try with_reducible rfl
              simp only [List.setIfInBounds_toArray, List.set_cons_zero, List.set_cons_succ]
              refine wpAnyH_ready (rs := [17]) (by kernel_rfl) (by simp) ?_
              refine AllReadyH.cons rfl (fun K hK => ?_) AllReadyH.nil
              go_simp
              refine (PR.out _).mono ?_
              rintro e W4 ⟨rfl, hb4⟩
              have HW4 := Lib.hid (HW3.out.step hb4)
              clear hb4
              go_wp2_with fail
              refine hK.out _ _ (HW4.out.keep rfl rfl) (fun hHeld => ?_)
              clear hK K
              refine held_take 18 57 (v := ?_) rfl rfl (by kernel_rfl) (by kernel_rfl) (by kernel_rfl) (fun _ _ _ h => h) (by rfl) ?_ (by assumption) ?_
              rotate_left 1
              · intro wq hSq
                try dsimp only at hSq
                go_simp
                try with_reducible rfl
              simp only [List.setIfInBounds_toArray, List.set_cons_zero, List.set_cons_succ]
              refine held_take 19 58 (v := ?_) rfl rfl (by kernel_rfl) (by kernel_rfl) (by kernel_rfl) (fun _ _ _ h => h) (by rfl) ?_ (by assumption) ?_
              rotate_left 1
              · intro wq hSq
                try dsimp only at hSq
                go_simp
                try with_reducible rfl
              simp only [List.setIfInBounds_toArray, List.set_cons_zero, List.set_cons_succ]
              refine wpAnyH_done (by kernel_rfl) ?_ _
              have ro := (HW4.out.facts rfl rfl).2.2.2.2.2
              obtain ⟨-, -, ug, ur, -, -⟩ := HW4.out.facts rfl rfl
              go_wp2_with fail
              refine bodyPost_ret (results_cell_tmp rfl _ _ rfl (end24 _ _ _ ro rfl)) rfl ?_
              exact of_some HN.out (below_setRow HW4.out.below (Nat.le_refl _) _)
          · have hne2 : (((bAt l 0).toList == (headB l.length (inoOf (bAt l 0))).toList) = false) := str_ne hh
            have HN := Lib.hid (HH.out hh)
            clear HH HQ HY PR hh
            generalize headB l.length (inoOf (bAt l 0)) = F at PF hne2
            refine wp_region_held_drew (S := fun W' => W'.cell? ⟨b, o, none⟩ = some (.string (bAt l 0)) ∧ W'.cell? ⟨b, o + 2, none⟩ = some (.string (bAt l 2)) ∧ aggAt W' g = .agg #[.int .i64 l.length, .int .i64 (inoOf (bAt l 0)), .int .i64 1, .int .i64 2, .int .i64 3, .int .i64 (dof (inoOf (bAt l 0)))] ∧ rowAt W' g 6 = true ∧ W'.cell? ⟨g, 3, none⟩ = some (.int .i64 2)) (by kernel_rfl) (HW.out.drew.keep rfl rfl) (fun hHeld => ?_)
            refine held_take 0 39 (v := ?_) rfl rfl (by kernel_rfl) (by kernel_rfl) (by kernel_rfl) (fun _ _ _ h => h) (by rfl) ?_ (by assumption) ?_
            rotate_left 1
            · intro wq hSq
              try dsimp only at hSq
              go_simp
              try with_reducible rfl
            simp only [List.setIfInBounds_toArray, List.set_cons_zero, List.set_cons_succ]
            refine held_take 1 40 (v := ?_) rfl rfl (by kernel_rfl) (by kernel_rfl) (by kernel_rfl) (fun _ _ _ h => h) (by rfl) ?_ (by assumption) ?_
            rotate_left 1
            · intro wq hSq
              try dsimp only at hSq
              go_simp
              try with_reducible rfl
            simp only [List.setIfInBounds_toArray, List.set_cons_zero, List.set_cons_succ]
            refine held_take 2 41 (v := ?_) rfl rfl (by kernel_rfl) (by kernel_rfl) (by kernel_rfl) (fun _ _ _ h => h) (by rfl) ?_ (by assumption) ?_
            rotate_left 1
            · intro wq hSq
              try dsimp only at hSq
              go_simp
              try with_reducible rfl
            simp only [List.setIfInBounds_toArray, List.set_cons_zero, List.set_cons_succ]
            refine held_take 3 42 (v := ?_) rfl rfl (by kernel_rfl) (by kernel_rfl) (by kernel_rfl) (fun _ _ _ h => h) (by rfl) ?_ (by assumption) ?_
            rotate_left 1
            · intro wq hSq
              try dsimp only at hSq
              go_simp
              try with_reducible rfl
            simp only [List.setIfInBounds_toArray, List.set_cons_zero, List.set_cons_succ]
            refine held_take 4 43 (v := ?_) rfl rfl (by kernel_rfl) (by kernel_rfl) (by kernel_rfl) (fun _ _ _ h => h) (by rfl) ?_ (by assumption) ?_
            rotate_left 1
            · intro wq hSq
              try dsimp only at hSq
              go_simp
              try with_reducible rfl
            simp only [List.setIfInBounds_toArray, List.set_cons_zero, List.set_cons_succ]
            refine held_take 5 44 (v := ?_) rfl rfl (by kernel_rfl) (by kernel_rfl) (by kernel_rfl) (fun _ _ _ h => h) (by rfl) ?_ (by assumption) ?_
            rotate_left 1
            · intro wq hSq
              try dsimp only at hSq
              go_simp
              try with_reducible rfl
            simp only [List.setIfInBounds_toArray, List.set_cons_zero, List.set_cons_succ]
            refine held_take 6 45 (v := ?_) rfl rfl (by kernel_rfl) (by kernel_rfl) (by kernel_rfl) (fun _ _ _ h => h) (by rfl) ?_ (by assumption) ?_
            rotate_left 1
            · intro wq hSq
              try dsimp only at hSq
              go_simp
              try with_reducible rfl
            simp only [List.setIfInBounds_toArray, List.set_cons_zero, List.set_cons_succ]
            refine wpAnyH_ready (rs := [7]) (by kernel_rfl) (by simp) ?_
            refine AllReadyH.cons rfl (fun K hK => ?_) AllReadyH.nil
            go_simp
            refine (PF.out _).mono ?_
            rintro e W3 ⟨rfl, hb3⟩
            have HW3 := Lib.hid (HW.out.drew.step hb3)
            clear hb3
            go_wp2_with fail
            refine hK.out _ _ (HW3.out.keep rfl rfl) (fun hHeld => ?_)
            clear hK K
            refine held_take 8 47 (v := ?_) rfl rfl (by kernel_rfl) (by kernel_rfl) (by kernel_rfl) (fun _ _ _ h => h) (by rfl) ?_ (by assumption) ?_
            rotate_left 1
            · intro wq hSq
              try dsimp only at hSq
              go_simp
              try with_reducible rfl
            simp only [List.setIfInBounds_toArray, List.set_cons_zero, List.set_cons_succ]
            refine held_take 9 48 (v := ?_) rfl rfl (by kernel_rfl) (by kernel_rfl) (by kernel_rfl) (fun _ _ _ h => h) (by rfl) ?_ (by assumption) ?_
            rotate_left 1
            · intro wq hSq
              try dsimp only at hSq
              go_simp
              try with_reducible rfl
            simp only [List.setIfInBounds_toArray, List.set_cons_zero, List.set_cons_succ]
            refine held_take 10 49 (v := ?_) rfl rfl (by kernel_rfl) (by kernel_rfl) (by kernel_rfl) (fun _ _ _ h => h) (by rfl) ?_ (by assumption) ?_
            rotate_left 1
            · intro wq hSq
              try dsimp only at hSq
              go_simp
              try with_reducible rfl
            simp only [List.setIfInBounds_toArray, List.set_cons_zero, List.set_cons_succ]
            refine held_skip 11 50 rfl rfl (by kernel_rfl) (by kernel_rfl) (by kernel_rfl) (fun _ _ _ h => h) (by rfl) (by assumption) ?_
            simp only [List.setIfInBounds_toArray, List.set_cons_zero, List.set_cons_succ]
            refine held_skip 12 51 rfl rfl (by kernel_rfl) (by kernel_rfl) (by kernel_rfl) (fun _ _ _ h => h) (by rfl) (by assumption) ?_
            simp only [List.setIfInBounds_toArray, List.set_cons_zero, List.set_cons_succ]
            refine held_skip 13 52 rfl rfl (by kernel_rfl) (by kernel_rfl) (by kernel_rfl) (fun _ _ _ h => h) (by rfl) (by assumption) ?_
            simp only [List.setIfInBounds_toArray, List.set_cons_zero, List.set_cons_succ]
            refine held_skip 14 53 rfl rfl (by kernel_rfl) (by kernel_rfl) (by kernel_rfl) (fun _ _ _ h => h) (by rfl) (by assumption) ?_
            simp only [List.setIfInBounds_toArray, List.set_cons_zero, List.set_cons_succ]
            refine held_skip 15 54 rfl rfl (by kernel_rfl) (by kernel_rfl) (by kernel_rfl) (fun _ _ _ h => h) (by rfl) (by assumption) ?_
            simp only [List.setIfInBounds_toArray, List.set_cons_zero, List.set_cons_succ]
            refine held_skip 16 55 rfl rfl (by kernel_rfl) (by kernel_rfl) (by kernel_rfl) (fun _ _ _ h => h) (by rfl) (by assumption) ?_
            simp only [List.setIfInBounds_toArray, List.set_cons_zero, List.set_cons_succ]
            refine held_skip 17 56 rfl rfl (by kernel_rfl) (by kernel_rfl) (by kernel_rfl) (fun _ _ _ h => h) (by rfl) (by assumption) ?_
            simp only [List.setIfInBounds_toArray, List.set_cons_zero, List.set_cons_succ]
            refine held_skip 18 57 rfl rfl (by kernel_rfl) (by kernel_rfl) (by kernel_rfl) (fun _ _ _ h => h) (by rfl) (by assumption) ?_
            simp only [List.setIfInBounds_toArray, List.set_cons_zero, List.set_cons_succ]
            refine held_take 19 58 (v := ?_) rfl rfl (by kernel_rfl) (by kernel_rfl) (by kernel_rfl) (fun _ _ _ h => h) (by rfl) ?_ (by assumption) ?_
            rotate_left 1
            · intro wq hSq
              try dsimp only at hSq
              go_simp
              try with_reducible rfl
            simp only [List.setIfInBounds_toArray, List.set_cons_zero, List.set_cons_succ]
            refine wpAnyH_done (by kernel_rfl) ?_ _
            have ro := (HW3.out.facts rfl rfl).2.2.2.2.2
            go_wp2_with fail
            refine bodyPost_ret (results_cell_tmp rfl _ _ rfl (end24 _ _ _ ro rfl)) rfl ?_
            exact of_none HN.out (below_setRow HW3.out.below (Nat.le_refl _) _)
        · have PP : Hid (∀ w, Calls Try.prog 15 #[.int .i64 l.length, .int .i64 (inoOf (bAt l 0))] w fun e w' => e = .returned (.tuple #[.agg geo0, .int .i64 (planErr l.length (inoOf (bAt l 0)))]) ∧ Below w.heap.size w w') := fun w => by
            rw [← planC_no hp]
            exact plan_any _ _ w (by omega)
          have HM := Lib.hid (mof_plan hp)
          rcases planErr_three l.length (inoOf (bAt l 0)) with h | h | h
          · exact absurd h hp
          all_goals
           rw [h] at PP
           clear h hp
           unfold geo0 at PP
           go_wp2_with (first | (go_at_call 15; refine (PP.out _).mono ?_; rintro e W1 ⟨rfl, hb1⟩; have HK := Lib.hid (keep1 hb1); have r1 := rowOpen_of HK.out.1 6 rfl; have r2 := heap_lt HK.out.1; clear hb1) | (go_at_call 50; refine (PG.out _).mono ?_; rintro e W1 ⟨rfl, rfl⟩))
           have ro : ∀ n, rowOpen ((W1.alloc (.cells #[.int .i64 0, .int .i64 0, .int .i64 0, .int .i64 0, .int .i64 0, .int .i64 0] 24)).drewN n) w.heap.size 6 = true := fun n => (rowOpen_past _ _ _ _ r2).trans r1
           go_quiet (fail)
           go_wp2_with fail
           refine bodyPost_ret (results_cell_tmp rfl _ _ rfl (end24 _ _ _ (ro _) rfl)) rfl ?_
           exact of_none HM.out (below_setRow (below_drewN (HK.out.2.alloc HK.out.2.size _) _) (Nat.le_refl _) _)
end Go.Proofs.Ytopbejdhfndfbaa
