/- The contract of inode.fits. No condition. -/
import Derived.Test.YtopbejdhfndfbaaIno2
namespace Go.Proofs.Ytopbejdhfndfbaa
open Go.RowKit Go.Shelf
set_option maxRecDepth 20000
attribute [local go_sem] Oper.semAt_some
/-! ### a drawn region in a round of a loop over a function, walked as anywhere -/
theorem upon_in {P : Program} {o : Oper} {a : Act} {K : Act → World → Prop} {Q : Exit → Act → World → Prop} (l n : Nat) {r : Result Next} (h : o.upon P a K Q r) : o.uponIn (Fence.wide.inRound l) n P a K Q r := by
  cases r with
  | ok v w =>
    cases v with
    | value v => exact h
    | skip => exact h
    | defer d => exact h
    | enter f args => exact ⟨fun e => (by cases e), callsIn_wide.2 h⟩
    | row row args => exact ⟨fun e => (by cases e), fun c cs _ => let ⟨v, w', r, s⟩ := h c cs; ⟨v, w', r, stepsIn_wide.2 s⟩⟩
    | round _ _ _ _ _ => exact (h : False).elim
    | _ => exact (h : False).elim
  | halt x w =>
    cases x <;> first | exact h | exact (h : False).elim
def noDefer (ops : Array Oper) : Bool := ops.all fun o => match o.op with | .defer _ => false | _ => true
theorem noDefer_at {ops : Array Oper} (h : noDefer ops = true) {i : Nat} {o : Oper} (ho : ops[i]? = some o) : ∀ c, o.op ≠ .defer c := by
  intro c hc
  unfold noDefer at h
  rw [Array.all_eq_true] at h
  obtain ⟨hi, rfl⟩ := Array.getElem?_eq_some_iff.1 ho
  have := h i hi
  rw [hc] at this
  cases this
theorem wpAny_in {P : Program} {md : Region.Mode} {ops : Array Oper} {Q : Exit → Act → World → Prop} (l n : Nat) (hd : noDefer ops = true) (hQ : ¬ LetsOut Q) : ∀ (fuel : Nat) (listed : Array Bool) (a : Act) (w : World), wpAny P md ops Q fuel listed a w → wpAnyIn (Fence.wide.inRound l) n P md ops Q fuel listed a w := by
  intro fuel
  induction fuel with
  | zero => intro listed a w h; exact h
  | succ fuel ih =>
    intro listed a w h
    refine ⟨h.1, fun i hi => ?_⟩
    have hi2 := h.2 i hi
    unfold wpOp at hi2
    unfold wpOpIn
    cases ho : ops[i]? with
    | none => rw [ho] at hi2; exact ih _ _ _ hi2
    | some o =>
      rw [ho] at hi2
      simp only at hi2 ⊢
      split
      · rename_i hw
        rw [if_pos hw] at hi2
        rcases hi2 with h2 | h2
        · refine Oper.wpIn_mono (fun a w h => ih _ a w h) ⟨fun _ _ => trivial, ?_⟩
          rw [Oper.semAt_eq _ _ _ (noDefer_at hd ho)]
          exact upon_in l n h2
        · exact absurd h2.2 hQ
      · rename_i hw
        rw [if_neg hw] at hi2
        exact ⟨fun _ _ => trivial, ih _ _ _ hi2⟩
theorem held_round {P : Program} {id : Nat} {ops : Array Oper} {Q : Exit → Act → World → Prop} {a : Act} {w : World} {l n : Nat} (S : World → Prop) (hm : P.follows .mixedOrders = true) (hd : noDefer ops = true) (hQ : ¬ LetsOut Q) (hS : S w.drew)
    (h : S w.drew → wpAnyH P .any ops Q S ops.size (Array.replicate ops.size false) a w.drew) : (Code.region id ops true).wpIn (Fence.wide.inRound l) n P Q a w :=
  wpIn_region_any hm (wpAny_in l n hd hQ _ _ _ _ (wpAny_of_held _ _ _ _ (h hS)))
def fit1 (c : Nat → Int) (k : Nat) : Bool := decide (0 ≤ c (offF k)) && decide (c (offF k) < 256 ^ widF k)
def fitsB (c : Nat → Int) : Bool := (List.range 12).all (fit1 c)
theorem fitsB_iff (c : Nat → Int) : fitsB c = true ↔ FitsC c := by
  unfold fitsB FitsC
  simp only [List.all_eq_true, List.mem_range, fit1, Bool.and_eq_true, decide_eq_true_eq]
theorem fitsB_no {c : Nat → Int} (x : Fin 12) (h : fit1 c x.val = false) : fitsB c = false := by
  cases hb : fitsB c with
  | false => rfl
  | true =>
    unfold fitsB at hb
    rw [List.all_eq_true] at hb
    rw [hb x.val (List.mem_range.2 x.isLt)] at h
    cases h
theorem fitsB_all {c : Nat → Int} {xs : List (Fin 12)} (hx : xs.map Fin.val = List.range 12) (h : ∀ k ∈ xs, fit1 c k.val = true) : fitsB c = true := by
  unfold fitsB
  rw [List.all_eq_true, ← hx]
  intro k hk
  obtain ⟨y, hy, rfl⟩ := List.mem_map.1 hk
  exact h y hy
def most (k : Nat) : Nat := 256 ^ widF k - 1
theorem shr_most (k : Nat) : (4294967295 : Int) / 2 ^ (32 - 8 * widF k) = most k := by
  unfold most widF
  split
  · rfl
  · split <;> rfl
theorem results_one {fn : Func} {t : Tmp} {ty : TypeId} {a : Addr} {v : Value} (h : fn.results = #[.cell t ty]) (tmps : Array Value) (w : World) (ht : tmps[t]? = some (.pointer (some a))) (hl : (loadVar ty a).run Try.prog w = .ok v w) :
    (results fn tmps).run Try.prog w = .ok v w := by
  simp [results, h, ht, hl, run_asAddr, Result.andThen]
theorem load_bool {W : World} {B : Nat} {v : Value} (h : W.cell? ⟨B, 0, none⟩ = some v) : (loadVar 4 ⟨B, 0, none⟩).run Try.prog W = .ok v W := by
  simp [go_sem, h]
theorem fits_on {w W : World} {c : Nat → Int} {pre : List (Fin 12)} {x : Fin 12} (h1 : W.heap[w.heap.size]? = some (.cells (inoC c) 48 (0, 0))) (h2 : W.heap[w.heap.size + 1]? = some (.cells #[.bool false] 4 (0, 0))) (h3 : ∀ k ∈ pre, fit1 c k.val = true)
    (hB : Below w.heap.size w W) (hy : fit1 c x.val = true) :
    KeepsOthers W W.drew ∧ Kc (w.heap.size + 3) W W.drew ∧
      (W.drew.heap[w.heap.size]? = some (.cells (inoC c) 48 (0, 0)) ∧ W.drew.heap[w.heap.size + 1]? = some (.cells #[.bool false] 4 (0, 0)) ∧ ∀ k ∈ pre ++ [x], fit1 c k.val = true) ∧ Below w.heap.size w W.drew :=
  ⟨KeepsOthers.drew _, Kc.drew _ _, ⟨h1, h2, fun k hk => by
    rcases List.mem_append.1 hk with hk | hk
    · exact h3 k hk
    · obtain rfl := List.mem_singleton.1 hk
      exact hy⟩, hB.drew⟩
theorem fits_end {w W : World} {c : Nat → Int} (_h1 : W.heap[w.heap.size]? = some (.cells (inoC c) 48 (0, 0))) (h2 : W.heap[w.heap.size + 1]? = some (.cells #[.bool false] 4 (0, 0))) (hB : Below w.heap.size w W) (hno : fitsB c = false) :
    KeepsOthers W (W.drew.setCell ⟨w.heap.size + 1, 0, none⟩ (.bool false)) ∧ (Code.ret = Code.ret ∧ fitsB c = false ∧ (W.drew.setCell ⟨w.heap.size + 1, 0, none⟩ (.bool false)).heap[w.heap.size + 1]? = some (.cells #[.bool false] 4 (0, 0))) ∧ Below w.heap.size w (W.drew.setCell ⟨w.heap.size + 1, 0, none⟩ (.bool false)) :=
  ⟨(KeepsOthers.drew _).trans (KeepsOthers.setCell _ _ _), ⟨rfl, hno, cell_same (W := W.drew) h2 _⟩, below_setCell hB.drew (by omega) _ _⟩
set_option maxHeartbeats 2000000 in
theorem fits_any (c : Nat → Int) (hc : ∀ k, k < 12 → -9223372036854775808 ≤ c k ∧ c k ≤ 9223372036854775807) (w : World) : Calls Try.prog 59 #[.agg (inoC c)] w fun e w' => e = .returned (.bool (fitsB c)) ∧ Below w.heap.size w w' := by
  refine (callsIn_wide (n := 9)).1 ?_
  refine callsIn_of_wp_marks Try.func59 rfl trivial ?_ rfl
  simp only [Try.ntmps59, List.size_toArray, List.length_cons, List.length_nil, Nat.reduceAdd, Nat.reduceSub, Array.replicate_succ, Array.replicate_zero, List.push_toArray, List.append_toArray, List.nil_append, List.cons_append]
  gi_wp2_with (refine ⟨trivial, ?_⟩; gi_at_call 69; refine (callsIn_wide.2 (fields_any _ _)).mono ?_; rintro e w1 ⟨rfl, rfl⟩)
  have z1 : ((w.alloc (.cells (inoC c) 48)).alloc (.cells #[.bool false] 4)).heap.size = w.heap.size + 2 := by rw [alloc_size, alloc_size]
  have hcell : (((w.alloc (.cells (inoC c) 48)).alloc (.cells #[.bool false] 4)).alloc (.cells #[.pointer (some ⟨w.heap.size, 0, none⟩)] 81)).cell? ⟨w.heap.size + 2, 0, none⟩ = some (.pointer (some ⟨w.heap.size, 0, none⟩)) := by
    rw [← z1]; exact cell_of_heap (heap_alloc_new _ _) rfl
  have hsize : (((w.alloc (.cells (inoC c) 48)).alloc (.cells #[.bool false] 4)).alloc (.cells #[.pointer (some ⟨w.heap.size, 0, none⟩)] 81)).heap.size = w.heap.size + 3 := by rw [alloc_size, z1]
  refine wpIn_rangeFunc_ownF rfl (by decide) (gf := 79) (lb := #[.pointer (some ⟨w.heap.size + 2, 0, none⟩)]) rfl trivial (enters_of Try.func79 (by kernel_rfl) rfl)
    (fields_stops 8 (by decide) (w.heap.size + 2) w.heap.size (w.heap.size + 3) _ (Nat.le_of_eq hsize.symm) hcell (by rw [hsize]; omega)) Kc.trans (fun W l o o' _ h hc _ => Kc.putObj W l o o' h hc) (Below.refl _ _) (fun _ => rfl)
    (fun pre W => (W.heap[w.heap.size]? = some (.cells (inoC c) 48 (0, 0)) ∧ W.heap[w.heap.size + 1]? = some (.cells #[.bool false] 4 (0, 0)) ∧ ∀ k ∈ pre, fit1 c k.val = true) ∧ Below w.heap.size w W)
    (fun j _ W => (j = .ret ∧ fitsB c = false ∧ W.heap[w.heap.size + 1]? = some (.cells #[.bool false] 4 (0, 0))) ∧ Below w.heap.size w W)
    (fun s A B row hs hg hr => ⟨⟨keepG hg hr (by rw [hsize]; omega) hs.1.1, keepG hg hr (by rw [hsize]; omega) hs.1.2.1, hs.1.2.2⟩, hs.2.grown hg hs.2.size (fun k e => by have := (hr k e).1; rw [hsize] at this; omega)⟩)
    (fun j s A B row hs hg hr => ⟨⟨hs.1.1, hs.1.2.1, keepG hg hr (by rw [hsize]; omega) hs.1.2.2⟩, hs.2.grown hg hs.2.size (fun k e => by have := (hr k e).1; rw [hsize] at this; omega)⟩)
    ⟨⟨by rw [heap_alloc_at _ _ _ (by rw [z1]; omega), heap_alloc_at _ _ _ (by rw [alloc_size]; omega)]; exact heap_alloc_new _ _, by rw [heap_alloc_at _ _ _ (by rw [z1]; omega)]; exact (by rw [← alloc_size w (.cells (inoC c) 48)]; exact heap_alloc_new _ _), fun k hk => by cases hk⟩, (below_two _ _ _).alloc (by rw [z1]; omega) _⟩
    (fun x => { tmps := #[.agg (inoC c), .pointer (some ⟨w.heap.size, 0, none⟩), .pointer (some ⟨w.heap.size + 1, 0, none⟩), ptrF w.heap.size x.val, .int .i64 (widF x.val), .func (.func 79) #[] #[.pointer (some ⟨w.heap.size + 2, 0, none⟩)], ptrF w.heap.size x.val, .int .i64 (widF x.val), undef, undef, undef, undef, undef, undef, undef, undef, undef, undef, undef, undef, undef, undef, undef], defers := [] }) ?assign ?body ?done ?stop
  case assign =>
    intro l x W K hK
    unfold encX encF
    gi_wp2
    exact hK
  case body =>
    rintro l pre x W ⟨⟨hx, hs, hp⟩, hB⟩ hlen
    have hmx : Try.prog.follows .mixedOrders = true := by kernel_rfl
    have c1 := cell_of_heap hx (inoC_get c (offF_lt x.isLt))
    have c2 := cell_of_heap hs (i := 0) rfl
    have c3 : W.frozen? ⟨w.heap.size + 1, 0, none⟩ = false := frozen_of_heap hs
    obtain ⟨b0, b1⟩ := hc _ (offF_lt x.isLt)
    have HI := Lib.hid (And.intro hx (And.intro hs hp))
    have HB := Lib.hid hB
    have hd : 1 ≤ 9 - 1 - 1 := by decide
    have hF := Lib.hid (fitsB_no (c := c) x)
    have hm1 : fit1 c x.val = (decide (0 ≤ c (offF x.val)) && decide (c (offF x.val) ≤ most x.val)) := by
      unfold fit1 most
      congr 1
      have : 1 ≤ 256 ^ widF x.val := Nat.pow_pos (by decide)
      have e : ((256 ^ widF x.val - 1 : Nat) : Int) = 256 ^ widF x.val - 1 := by rw [Int.ofNat_sub this]; simp
      rw [e]
      exact decide_eq_decide.2 (by omega)
    have hw4 : (widF x.val = 1 ∧ most x.val = 255) ∨ (widF x.val = 2 ∧ most x.val = 65535) ∨ (widF x.val = 4 ∧ most x.val = 4294967295) := by
      unfold most widF
      split
      · exact .inl ⟨rfl, rfl⟩
      · split
        · exact .inr (.inr ⟨rfl, rfl⟩)
        · exact .inr (.inl ⟨rfl, rfl⟩)
    clear hx hs hB hp hsize hcell z1
    unfold ptrF
    generalize c (offF x.val) = v at c1 b0 b1 hm1
    generalize most x.val = mo at hm1 hw4
    generalize widF x.val = wd at hw4
    have w8 : IntKind.i64.wrap 8 = 8 := by decide
    have w16 : IntKind.i64.wrap 16 = 16 := by decide
    have w32 : IntKind.i64.wrap 32 = 32 := by decide
    have w24 : IntKind.i64.wrap 24 = 24 := by decide
    have w0 : IntKind.i64.wrap 0 = 0 := by decide
    by_cases hneg : v < 0
    · have hno := Lib.hid (hF.out (by rw [hm1]; simp; omega))
      clear hw4 hm1 hF
      gi_wp2
      refine held_round (fun W' => W'.cell? ⟨w.heap.size, offF x.val, none⟩ = some (.int .i64 v)) (by kernel_rfl) (by kernel_rfl) (fun ⟨_, _, h⟩ => h) c1 (fun hHeld => ?_)
      refine held_take 0 8 (v := ?_) rfl rfl (by kernel_rfl) (by kernel_rfl) (by kernel_rfl) (fun _ _ _ h => h) (by rfl) ?_ (by assumption) ?_
      rotate_left 1
      · intro wq hSq
        try dsimp only at hSq
        go_simp
        try with_reducible rfl
      simp only [List.setIfInBounds_toArray, List.set_cons_zero, List.set_cons_succ]
      refine held_take 1 9 (v := ?_) rfl rfl (by kernel_rfl) (by kernel_rfl) (by kernel_rfl) (fun _ _ _ h => h) (by rfl) ?_ (by assumption) ?_
      rotate_left 1
      · intro wq hSq
        try dsimp only at hSq
        go_simp
        try with_reducible rfl
      simp only [List.setIfInBounds_toArray, List.set_cons_zero, List.set_cons_succ]
      refine held_take 2 10 (v := ?_) rfl rfl (by kernel_rfl) (by kernel_rfl) (by kernel_rfl) (fun _ _ _ h => h) (by rfl) ?_ (by assumption) ?_
      rotate_left 1
      · intro wq hSq
        try dsimp only at hSq
        go_simp
        try with_reducible rfl
      simp only [List.setIfInBounds_toArray, List.set_cons_zero, List.set_cons_succ]
      refine held_take 3 11 (v := ?_) rfl rfl (by kernel_rfl) (by kernel_rfl) (by kernel_rfl) (fun _ _ _ h => h) (by rfl) ?_ (by assumption) ?_
      rotate_left 1
      · intro wq hSq
        try dsimp only at hSq
        go_simp
        try with_reducible rfl
      simp only [List.setIfInBounds_toArray, List.set_cons_zero, List.set_cons_succ]
      refine held_take 4 12 (v := ?_) rfl rfl (by kernel_rfl) (by kernel_rfl) (by kernel_rfl) (fun _ _ _ h => h) (by rfl) ?_ (by assumption) ?_
      rotate_left 1
      · intro wq hSq
        try dsimp only at hSq
        go_simp
        try with_reducible rfl
      simp only [List.setIfInBounds_toArray, List.set_cons_zero, List.set_cons_succ]
      refine held_skip 5 13 rfl rfl (by kernel_rfl) (by kernel_rfl) (by kernel_rfl) (fun _ _ _ h => h) (by rfl) (by assumption) ?_
      simp only [List.setIfInBounds_toArray, List.set_cons_zero, List.set_cons_succ]
      refine held_skip 6 14 rfl rfl (by kernel_rfl) (by kernel_rfl) (by kernel_rfl) (fun _ _ _ h => h) (by rfl) (by assumption) ?_
      simp only [List.setIfInBounds_toArray, List.set_cons_zero, List.set_cons_succ]
      refine held_skip 7 15 rfl rfl (by kernel_rfl) (by kernel_rfl) (by kernel_rfl) (fun _ _ _ h => h) (by rfl) (by assumption) ?_
      simp only [List.setIfInBounds_toArray, List.set_cons_zero, List.set_cons_succ]
      refine held_skip 8 16 rfl rfl (by kernel_rfl) (by kernel_rfl) (by kernel_rfl) (fun _ _ _ h => h) (by rfl) (by assumption) ?_
      simp only [List.setIfInBounds_toArray, List.set_cons_zero, List.set_cons_succ]
      refine held_skip 9 17 rfl rfl (by kernel_rfl) (by kernel_rfl) (by kernel_rfl) (fun _ _ _ h => h) (by rfl) (by assumption) ?_
      simp only [List.setIfInBounds_toArray, List.set_cons_zero, List.set_cons_succ]
      refine held_skip 10 18 rfl rfl (by kernel_rfl) (by kernel_rfl) (by kernel_rfl) (fun _ _ _ h => h) (by rfl) (by assumption) ?_
      simp only [List.setIfInBounds_toArray, List.set_cons_zero, List.set_cons_succ]
      refine held_skip 11 19 rfl rfl (by kernel_rfl) (by kernel_rfl) (by kernel_rfl) (fun _ _ _ h => h) (by rfl) (by assumption) ?_
      simp only [List.setIfInBounds_toArray, List.set_cons_zero, List.set_cons_succ]
      refine held_skip 12 20 rfl rfl (by kernel_rfl) (by kernel_rfl) (by kernel_rfl) (fun _ _ _ h => h) (by rfl) (by assumption) ?_
      simp only [List.setIfInBounds_toArray, List.set_cons_zero, List.set_cons_succ]
      refine held_skip 13 21 rfl rfl (by kernel_rfl) (by kernel_rfl) (by kernel_rfl) (fun _ _ _ h => h) (by rfl) (by assumption) ?_
      simp only [List.setIfInBounds_toArray, List.set_cons_zero, List.set_cons_succ]
      refine held_take 14 22 (v := ?_) rfl rfl (by kernel_rfl) (by kernel_rfl) (by kernel_rfl) (fun _ _ _ h => h) (by rfl) ?_ (by assumption) ?_
      rotate_left 1
      · intro wq hSq
        try dsimp only at hSq
        go_simp
        try with_reducible rfl
      simp only [List.setIfInBounds_toArray, List.set_cons_zero, List.set_cons_succ]
      refine wpAnyH_done (by kernel_rfl) ?_ _
      gi_wp2
      exact fits_end HI.out.1 HI.out.2.1 HB.out hno.out
    · have hwr : IntKind.u64.wrap v = v := wrap_u64_of v (by omega) (by omega)
      have hng : decide (v < 0) = false := decide_eq_false hneg
      rcases hw4 with ⟨rfl, rfl⟩ | ⟨rfl, rfl⟩ | ⟨rfl, rfl⟩
      · by_cases hbig : (255 : Int) < v
        · have hno := Lib.hid (hF.out (by rw [hm1]; simp; omega))
          have hgt : decide ((255 : Int) < v) = true := decide_eq_true hbig
          clear hm1 hF hneg
          gi_wp2
          refine held_round (fun W' => W'.cell? ⟨w.heap.size, offF x.val, none⟩ = some (.int .i64 v)) (by kernel_rfl) (by kernel_rfl) (fun ⟨_, _, h⟩ => h) c1 (fun hHeld => ?_)
          refine held_take 0 8 (v := ?_) rfl rfl (by kernel_rfl) (by kernel_rfl) (by kernel_rfl) (fun _ _ _ h => h) (by rfl) ?_ (by assumption) ?_
          rotate_left 1
          · intro wq hSq
            try dsimp only at hSq
            go_simp
            try with_reducible rfl
          simp only [List.setIfInBounds_toArray, List.set_cons_zero, List.set_cons_succ]
          refine held_take 1 9 (v := ?_) rfl rfl (by kernel_rfl) (by kernel_rfl) (by kernel_rfl) (fun _ _ _ h => h) (by rfl) ?_ (by assumption) ?_
          rotate_left 1
          · intro wq hSq
            try dsimp only at hSq
            go_simp
            try with_reducible rfl
          simp only [List.setIfInBounds_toArray, List.set_cons_zero, List.set_cons_succ]
          refine held_take 2 10 (v := ?_) rfl rfl (by kernel_rfl) (by kernel_rfl) (by kernel_rfl) (fun _ _ _ h => h) (by rfl) ?_ (by assumption) ?_
          rotate_left 1
          · intro wq hSq
            try dsimp only at hSq
            go_simp
            try with_reducible rfl
          simp only [List.setIfInBounds_toArray, List.set_cons_zero, List.set_cons_succ]
          refine held_take 3 11 (v := ?_) rfl rfl (by kernel_rfl) (by kernel_rfl) (by kernel_rfl) (fun _ _ _ h => h) (by rfl) ?_ (by assumption) ?_
          rotate_left 1
          · intro wq hSq
            try dsimp only at hSq
            go_simp
            try with_reducible rfl
          simp only [List.setIfInBounds_toArray, List.set_cons_zero, List.set_cons_succ]
          refine held_take 4 12 (v := ?_) rfl rfl (by kernel_rfl) (by kernel_rfl) (by kernel_rfl) (fun _ _ _ h => h) (by rfl) ?_ (by assumption) ?_
          rotate_left 1
          · intro wq hSq
            try dsimp only at hSq
            go_simp
            try with_reducible rfl
          simp only [List.setIfInBounds_toArray, List.set_cons_zero, List.set_cons_succ]
          refine held_take 5 13 (v := ?_) rfl rfl (by kernel_rfl) (by kernel_rfl) (by kernel_rfl) (fun _ _ _ h => h) (by rfl) ?_ (by assumption) ?_
          rotate_left 1
          · intro wq hSq
            try dsimp only at hSq
            go_simp
            try with_reducible rfl
          simp only [List.setIfInBounds_toArray, List.set_cons_zero, List.set_cons_succ]
          refine held_take 6 14 (v := ?_) rfl rfl (by kernel_rfl) (by kernel_rfl) (by kernel_rfl) (fun _ _ _ h => h) (by rfl) ?_ (by assumption) ?_
          rotate_left 1
          · intro wq hSq
            try dsimp only at hSq
            go_simp
            try with_reducible rfl
          simp only [List.setIfInBounds_toArray, List.set_cons_zero, List.set_cons_succ]
          refine held_take 7 15 (v := ?_) rfl rfl (by kernel_rfl) (by kernel_rfl) (by kernel_rfl) (fun _ _ _ h => h) (by rfl) ?_ (by assumption) ?_
          rotate_left 1
          · intro wq hSq
            try dsimp only at hSq
            go_simp
            try with_reducible rfl
          simp only [List.setIfInBounds_toArray, List.set_cons_zero, List.set_cons_succ]
          refine held_take 8 16 (v := ?_) rfl rfl (by kernel_rfl) (by kernel_rfl) (by kernel_rfl) (fun _ _ _ h => h) (by rfl) ?_ (by assumption) ?_
          rotate_left 1
          · intro wq hSq
            try dsimp only at hSq
            go_simp
            try with_reducible rfl
          simp only [List.setIfInBounds_toArray, List.set_cons_zero, List.set_cons_succ]
          refine held_take 9 17 (v := ?_) rfl rfl (by kernel_rfl) (by kernel_rfl) (by kernel_rfl) (fun _ _ _ h => h) (by rfl) ?_ (by assumption) ?_
          rotate_left 1
          · intro wq hSq
            try dsimp only at hSq
            go_simp
            try with_reducible rfl
          simp only [List.setIfInBounds_toArray, List.set_cons_zero, List.set_cons_succ]
          refine held_take 10 18 (v := ?_) rfl rfl (by kernel_rfl) (by kernel_rfl) (by kernel_rfl) (fun _ _ _ h => h) (by rfl) ?_ (by assumption) ?_
          rotate_left 1
          · intro wq hSq
            try dsimp only at hSq
            go_simp
            try with_reducible rfl
          simp only [List.setIfInBounds_toArray, List.set_cons_zero, List.set_cons_succ]
          refine held_take 11 19 (v := ?_) rfl rfl (by kernel_rfl) (by kernel_rfl) (by kernel_rfl) (fun _ _ _ h => h) (by rfl) ?_ (by assumption) ?_
          rotate_left 1
          · intro wq hSq
            try dsimp only at hSq
            go_simp
            try with_reducible rfl
          simp only [List.setIfInBounds_toArray, List.set_cons_zero, List.set_cons_succ]
          refine held_take 12 20 (v := ?_) rfl rfl (by kernel_rfl) (by kernel_rfl) (by kernel_rfl) (fun _ _ _ h => h) (by rfl) ?_ (by assumption) ?_
          rotate_left 1
          · intro wq hSq
            try dsimp only at hSq
            go_simp
            try with_reducible rfl
          simp only [List.setIfInBounds_toArray, List.set_cons_zero, List.set_cons_succ]
          refine held_take 13 21 (v := ?_) rfl rfl (by kernel_rfl) (by kernel_rfl) (by kernel_rfl) (fun _ _ _ h => h) (by rfl) ?_ (by assumption) ?_
          rotate_left 1
          · intro wq hSq
            try dsimp only at hSq
            go_simp
            try with_reducible rfl
          simp only [List.setIfInBounds_toArray, List.set_cons_zero, List.set_cons_succ]
          refine held_take 14 22 (v := ?_) rfl rfl (by kernel_rfl) (by kernel_rfl) (by kernel_rfl) (fun _ _ _ h => h) (by rfl) ?_ (by assumption) ?_
          rotate_left 1
          · intro wq hSq
            try dsimp only at hSq
            go_simp
            try with_reducible rfl
          simp only [List.setIfInBounds_toArray, List.set_cons_zero, List.set_cons_succ]
          refine wpAnyH_done (by kernel_rfl) ?_ _
          gi_wp2
          exact fits_end HI.out.1 HI.out.2.1 HB.out hno.out
        · have hyes : Hid (fit1 c x.val = true) := by show fit1 c x.val = true; rw [hm1]; simp; omega
          have hgt : decide ((255 : Int) < v) = false := decide_eq_false hbig
          clear hm1 hF hneg
          gi_wp2
          refine held_round (fun W' => W'.cell? ⟨w.heap.size, offF x.val, none⟩ = some (.int .i64 v)) (by kernel_rfl) (by kernel_rfl) (fun ⟨_, _, h⟩ => h) c1 (fun hHeld => ?_)
          refine held_take 0 8 (v := ?_) rfl rfl (by kernel_rfl) (by kernel_rfl) (by kernel_rfl) (fun _ _ _ h => h) (by rfl) ?_ (by assumption) ?_
          rotate_left 1
          · intro wq hSq
            try dsimp only at hSq
            go_simp
            try with_reducible rfl
          simp only [List.setIfInBounds_toArray, List.set_cons_zero, List.set_cons_succ]
          refine held_take 1 9 (v := ?_) rfl rfl (by kernel_rfl) (by kernel_rfl) (by kernel_rfl) (fun _ _ _ h => h) (by rfl) ?_ (by assumption) ?_
          rotate_left 1
          · intro wq hSq
            try dsimp only at hSq
            go_simp
            try with_reducible rfl
          simp only [List.setIfInBounds_toArray, List.set_cons_zero, List.set_cons_succ]
          refine held_take 2 10 (v := ?_) rfl rfl (by kernel_rfl) (by kernel_rfl) (by kernel_rfl) (fun _ _ _ h => h) (by rfl) ?_ (by assumption) ?_
          rotate_left 1
          · intro wq hSq
            try dsimp only at hSq
            go_simp
            try with_reducible rfl
          simp only [List.setIfInBounds_toArray, List.set_cons_zero, List.set_cons_succ]
          refine held_take 3 11 (v := ?_) rfl rfl (by kernel_rfl) (by kernel_rfl) (by kernel_rfl) (fun _ _ _ h => h) (by rfl) ?_ (by assumption) ?_
          rotate_left 1
          · intro wq hSq
            try dsimp only at hSq
            go_simp
            try with_reducible rfl
          simp only [List.setIfInBounds_toArray, List.set_cons_zero, List.set_cons_succ]
          refine held_take 4 12 (v := ?_) rfl rfl (by kernel_rfl) (by kernel_rfl) (by kernel_rfl) (fun _ _ _ h => h) (by rfl) ?_ (by assumption) ?_
          rotate_left 1
          · intro wq hSq
            try dsimp only at hSq
            go_simp
            try with_reducible rfl
          simp only [List.setIfInBounds_toArray, List.set_cons_zero, List.set_cons_succ]
          refine held_take 5 13 (v := ?_) rfl rfl (by kernel_rfl) (by kernel_rfl) (by kernel_rfl) (fun _ _ _ h => h) (by rfl) ?_ (by assumption) ?_
          rotate_left 1
          · intro wq hSq
            try dsimp only at hSq
            go_simp
            try with_reducible rfl
          simp only [List.setIfInBounds_toArray, List.set_cons_zero, List.set_cons_succ]
          refine held_take 6 14 (v := ?_) rfl rfl (by kernel_rfl) (by kernel_rfl) (by kernel_rfl) (fun _ _ _ h => h) (by rfl) ?_ (by assumption) ?_
          rotate_left 1
          · intro wq hSq
            try dsimp only at hSq
            go_simp
            try with_reducible rfl
          simp only [List.setIfInBounds_toArray, List.set_cons_zero, List.set_cons_succ]
          refine held_take 7 15 (v := ?_) rfl rfl (by kernel_rfl) (by kernel_rfl) (by kernel_rfl) (fun _ _ _ h => h) (by rfl) ?_ (by assumption) ?_
          rotate_left 1
          · intro wq hSq
            try dsimp only at hSq
            go_simp
            try with_reducible rfl
          simp only [List.setIfInBounds_toArray, List.set_cons_zero, List.set_cons_succ]
          refine held_take 8 16 (v := ?_) rfl rfl (by kernel_rfl) (by kernel_rfl) (by kernel_rfl) (fun _ _ _ h => h) (by rfl) ?_ (by assumption) ?_
          rotate_left 1
          · intro wq hSq
            try dsimp only at hSq
            go_simp
            try with_reducible rfl
          simp only [List.setIfInBounds_toArray, List.set_cons_zero, List.set_cons_succ]
          refine held_take 9 17 (v := ?_) rfl rfl (by kernel_rfl) (by kernel_rfl) (by kernel_rfl) (fun _ _ _ h => h) (by rfl) ?_ (by assumption) ?_
          rotate_left 1
          · intro wq hSq
            try dsimp only at hSq
            go_simp
            try with_reducible rfl
          simp only [List.setIfInBounds_toArray, List.set_cons_zero, List.set_cons_succ]
          refine held_take 10 18 (v := ?_) rfl rfl (by kernel_rfl) (by kernel_rfl) (by kernel_rfl) (fun _ _ _ h => h) (by rfl) ?_ (by assumption) ?_
          rotate_left 1
          · intro wq hSq
            try dsimp only at hSq
            go_simp
            try with_reducible rfl
          simp only [List.setIfInBounds_toArray, List.set_cons_zero, List.set_cons_succ]
          refine held_take 11 19 (v := ?_) rfl rfl (by kernel_rfl) (by kernel_rfl) (by kernel_rfl) (fun _ _ _ h => h) (by rfl) ?_ (by assumption) ?_
          rotate_left 1
          · intro wq hSq
            try dsimp only at hSq
            go_simp
            try with_reducible rfl
          simp only [List.setIfInBounds_toArray, List.set_cons_zero, List.set_cons_succ]
          refine held_take 12 20 (v := ?_) rfl rfl (by kernel_rfl) (by kernel_rfl) (by kernel_rfl) (fun _ _ _ h => h) (by rfl) ?_ (by assumption) ?_
          rotate_left 1
          · intro wq hSq
            try dsimp only at hSq
            go_simp
            try with_reducible rfl
          simp only [List.setIfInBounds_toArray, List.set_cons_zero, List.set_cons_succ]
          refine held_take 13 21 (v := ?_) rfl rfl (by kernel_rfl) (by kernel_rfl) (by kernel_rfl) (fun _ _ _ h => h) (by rfl) ?_ (by assumption) ?_
          rotate_left 1
          · intro wq hSq
            try dsimp only at hSq
            go_simp
            try with_reducible rfl
          simp only [List.setIfInBounds_toArray, List.set_cons_zero, List.set_cons_succ]
          refine held_take 14 22 (v := ?_) rfl rfl (by kernel_rfl) (by kernel_rfl) (by kernel_rfl) (fun _ _ _ h => h) (by rfl) ?_ (by assumption) ?_
          rotate_left 1
          · intro wq hSq
            try dsimp only at hSq
            go_simp
            try with_reducible rfl
          simp only [List.setIfInBounds_toArray, List.set_cons_zero, List.set_cons_succ]
          refine wpAnyH_done (by kernel_rfl) ?_ _
          gi_wp2
          exact fits_on HI.out.1 HI.out.2.1 HI.out.2.2 HB.out hyes.out
      · by_cases hbig : (65535 : Int) < v
        · have hno := Lib.hid (hF.out (by rw [hm1]; simp; omega))
          have hgt : decide ((65535 : Int) < v) = true := decide_eq_true hbig
          clear hm1 hF hneg
          gi_wp2
          refine held_round (fun W' => W'.cell? ⟨w.heap.size, offF x.val, none⟩ = some (.int .i64 v)) (by kernel_rfl) (by kernel_rfl) (fun ⟨_, _, h⟩ => h) c1 (fun hHeld => ?_)
          refine held_take 0 8 (v := ?_) rfl rfl (by kernel_rfl) (by kernel_rfl) (by kernel_rfl) (fun _ _ _ h => h) (by rfl) ?_ (by assumption) ?_
          rotate_left 1
          · intro wq hSq
            try dsimp only at hSq
            go_simp
            try with_reducible rfl
          simp only [List.setIfInBounds_toArray, List.set_cons_zero, List.set_cons_succ]
          refine held_take 1 9 (v := ?_) rfl rfl (by kernel_rfl) (by kernel_rfl) (by kernel_rfl) (fun _ _ _ h => h) (by rfl) ?_ (by assumption) ?_
          rotate_left 1
          · intro wq hSq
            try dsimp only at hSq
            go_simp
            try with_reducible rfl
          simp only [List.setIfInBounds_toArray, List.set_cons_zero, List.set_cons_succ]
          refine held_take 2 10 (v := ?_) rfl rfl (by kernel_rfl) (by kernel_rfl) (by kernel_rfl) (fun _ _ _ h => h) (by rfl) ?_ (by assumption) ?_
          rotate_left 1
          · intro wq hSq
            try dsimp only at hSq
            go_simp
            try with_reducible rfl
          simp only [List.setIfInBounds_toArray, List.set_cons_zero, List.set_cons_succ]
          refine held_take 3 11 (v := ?_) rfl rfl (by kernel_rfl) (by kernel_rfl) (by kernel_rfl) (fun _ _ _ h => h) (by rfl) ?_ (by assumption) ?_
          rotate_left 1
          · intro wq hSq
            try dsimp only at hSq
            go_simp
            try with_reducible rfl
          simp only [List.setIfInBounds_toArray, List.set_cons_zero, List.set_cons_succ]
          refine held_take 4 12 (v := ?_) rfl rfl (by kernel_rfl) (by kernel_rfl) (by kernel_rfl) (fun _ _ _ h => h) (by rfl) ?_ (by assumption) ?_
          rotate_left 1
          · intro wq hSq
            try dsimp only at hSq
            go_simp
            try with_reducible rfl
          simp only [List.setIfInBounds_toArray, List.set_cons_zero, List.set_cons_succ]
          refine held_take 5 13 (v := ?_) rfl rfl (by kernel_rfl) (by kernel_rfl) (by kernel_rfl) (fun _ _ _ h => h) (by rfl) ?_ (by assumption) ?_
          rotate_left 1
          · intro wq hSq
            try dsimp only at hSq
            go_simp
            try with_reducible rfl
          simp only [List.setIfInBounds_toArray, List.set_cons_zero, List.set_cons_succ]
          refine held_take 6 14 (v := ?_) rfl rfl (by kernel_rfl) (by kernel_rfl) (by kernel_rfl) (fun _ _ _ h => h) (by rfl) ?_ (by assumption) ?_
          rotate_left 1
          · intro wq hSq
            try dsimp only at hSq
            go_simp
            try with_reducible rfl
          simp only [List.setIfInBounds_toArray, List.set_cons_zero, List.set_cons_succ]
          refine held_take 7 15 (v := ?_) rfl rfl (by kernel_rfl) (by kernel_rfl) (by kernel_rfl) (fun _ _ _ h => h) (by rfl) ?_ (by assumption) ?_
          rotate_left 1
          · intro wq hSq
            try dsimp only at hSq
            go_simp
            try with_reducible rfl
          simp only [List.setIfInBounds_toArray, List.set_cons_zero, List.set_cons_succ]
          refine held_take 8 16 (v := ?_) rfl rfl (by kernel_rfl) (by kernel_rfl) (by kernel_rfl) (fun _ _ _ h => h) (by rfl) ?_ (by assumption) ?_
          rotate_left 1
          · intro wq hSq
            try dsimp only at hSq
            go_simp
            try with_reducible rfl
          simp only [List.setIfInBounds_toArray, List.set_cons_zero, List.set_cons_succ]
          refine held_take 9 17 (v := ?_) rfl rfl (by kernel_rfl) (by kernel_rfl) (by kernel_rfl) (fun _ _ _ h => h) (by rfl) ?_ (by assumption) ?_
          rotate_left 1
          · intro wq hSq
            try dsimp only at hSq
            go_simp
            try with_reducible rfl
          simp only [List.setIfInBounds_toArray, List.set_cons_zero, List.set_cons_succ]
          refine held_take 10 18 (v := ?_) rfl rfl (by kernel_rfl) (by kernel_rfl) (by kernel_rfl) (fun _ _ _ h => h) (by rfl) ?_ (by assumption) ?_
          rotate_left 1
          · intro wq hSq
            try dsimp only at hSq
            go_simp
            try with_reducible rfl
          simp only [List.setIfInBounds_toArray, List.set_cons_zero, List.set_cons_succ]
          refine held_take 11 19 (v := ?_) rfl rfl (by kernel_rfl) (by kernel_rfl) (by kernel_rfl) (fun _ _ _ h => h) (by rfl) ?_ (by assumption) ?_
          rotate_left 1
          · intro wq hSq
            try dsimp only at hSq
            go_simp
            try with_reducible rfl
          simp only [List.setIfInBounds_toArray, List.set_cons_zero, List.set_cons_succ]
          refine held_take 12 20 (v := ?_) rfl rfl (by kernel_rfl) (by kernel_rfl) (by kernel_rfl) (fun _ _ _ h => h) (by rfl) ?_ (by assumption) ?_
          rotate_left 1
          · intro wq hSq
            try dsimp only at hSq
            go_simp
            try with_reducible rfl
          simp only [List.setIfInBounds_toArray, List.set_cons_zero, List.set_cons_succ]
          refine held_take 13 21 (v := ?_) rfl rfl (by kernel_rfl) (by kernel_rfl) (by kernel_rfl) (fun _ _ _ h => h) (by rfl) ?_ (by assumption) ?_
          rotate_left 1
          · intro wq hSq
            try dsimp only at hSq
            go_simp
            try with_reducible rfl
          simp only [List.setIfInBounds_toArray, List.set_cons_zero, List.set_cons_succ]
          refine held_take 14 22 (v := ?_) rfl rfl (by kernel_rfl) (by kernel_rfl) (by kernel_rfl) (fun _ _ _ h => h) (by rfl) ?_ (by assumption) ?_
          rotate_left 1
          · intro wq hSq
            try dsimp only at hSq
            go_simp
            try with_reducible rfl
          simp only [List.setIfInBounds_toArray, List.set_cons_zero, List.set_cons_succ]
          refine wpAnyH_done (by kernel_rfl) ?_ _
          gi_wp2
          exact fits_end HI.out.1 HI.out.2.1 HB.out hno.out
        · have hyes : Hid (fit1 c x.val = true) := by show fit1 c x.val = true; rw [hm1]; simp; omega
          have hgt : decide ((65535 : Int) < v) = false := decide_eq_false hbig
          clear hm1 hF hneg
          gi_wp2
          refine held_round (fun W' => W'.cell? ⟨w.heap.size, offF x.val, none⟩ = some (.int .i64 v)) (by kernel_rfl) (by kernel_rfl) (fun ⟨_, _, h⟩ => h) c1 (fun hHeld => ?_)
          refine held_take 0 8 (v := ?_) rfl rfl (by kernel_rfl) (by kernel_rfl) (by kernel_rfl) (fun _ _ _ h => h) (by rfl) ?_ (by assumption) ?_
          rotate_left 1
          · intro wq hSq
            try dsimp only at hSq
            go_simp
            try with_reducible rfl
          simp only [List.setIfInBounds_toArray, List.set_cons_zero, List.set_cons_succ]
          refine held_take 1 9 (v := ?_) rfl rfl (by kernel_rfl) (by kernel_rfl) (by kernel_rfl) (fun _ _ _ h => h) (by rfl) ?_ (by assumption) ?_
          rotate_left 1
          · intro wq hSq
            try dsimp only at hSq
            go_simp
            try with_reducible rfl
          simp only [List.setIfInBounds_toArray, List.set_cons_zero, List.set_cons_succ]
          refine held_take 2 10 (v := ?_) rfl rfl (by kernel_rfl) (by kernel_rfl) (by kernel_rfl) (fun _ _ _ h => h) (by rfl) ?_ (by assumption) ?_
          rotate_left 1
          · intro wq hSq
            try dsimp only at hSq
            go_simp
            try with_reducible rfl
          simp only [List.setIfInBounds_toArray, List.set_cons_zero, List.set_cons_succ]
          refine held_take 3 11 (v := ?_) rfl rfl (by kernel_rfl) (by kernel_rfl) (by kernel_rfl) (fun _ _ _ h => h) (by rfl) ?_ (by assumption) ?_
          rotate_left 1
          · intro wq hSq
            try dsimp only at hSq
            go_simp
            try with_reducible rfl
          simp only [List.setIfInBounds_toArray, List.set_cons_zero, List.set_cons_succ]
          refine held_take 4 12 (v := ?_) rfl rfl (by kernel_rfl) (by kernel_rfl) (by kernel_rfl) (fun _ _ _ h => h) (by rfl) ?_ (by assumption) ?_
          rotate_left 1
          · intro wq hSq
            try dsimp only at hSq
            go_simp
            try with_reducible rfl
          simp only [List.setIfInBounds_toArray, List.set_cons_zero, List.set_cons_succ]
          refine held_take 5 13 (v := ?_) rfl rfl (by kernel_rfl) (by kernel_rfl) (by kernel_rfl) (fun _ _ _ h => h) (by rfl) ?_ (by assumption) ?_
          rotate_left 1
          · intro wq hSq
            try dsimp only at hSq
            go_simp
            try with_reducible rfl
          simp only [List.setIfInBounds_toArray, List.set_cons_zero, List.set_cons_succ]
          refine held_take 6 14 (v := ?_) rfl rfl (by kernel_rfl) (by kernel_rfl) (by kernel_rfl) (fun _ _ _ h => h) (by rfl) ?_ (by assumption) ?_
          rotate_left 1
          · intro wq hSq
            try dsimp only at hSq
            go_simp
            try with_reducible rfl
          simp only [List.setIfInBounds_toArray, List.set_cons_zero, List.set_cons_succ]
          refine held_take 7 15 (v := ?_) rfl rfl (by kernel_rfl) (by kernel_rfl) (by kernel_rfl) (fun _ _ _ h => h) (by rfl) ?_ (by assumption) ?_
          rotate_left 1
          · intro wq hSq
            try dsimp only at hSq
            go_simp
            try with_reducible rfl
          simp only [List.setIfInBounds_toArray, List.set_cons_zero, List.set_cons_succ]
          refine held_take 8 16 (v := ?_) rfl rfl (by kernel_rfl) (by kernel_rfl) (by kernel_rfl) (fun _ _ _ h => h) (by rfl) ?_ (by assumption) ?_
          rotate_left 1
          · intro wq hSq
            try dsimp only at hSq
            go_simp
            try with_reducible rfl
          simp only [List.setIfInBounds_toArray, List.set_cons_zero, List.set_cons_succ]
          refine held_take 9 17 (v := ?_) rfl rfl (by kernel_rfl) (by kernel_rfl) (by kernel_rfl) (fun _ _ _ h => h) (by rfl) ?_ (by assumption) ?_
          rotate_left 1
          · intro wq hSq
            try dsimp only at hSq
            go_simp
            try with_reducible rfl
          simp only [List.setIfInBounds_toArray, List.set_cons_zero, List.set_cons_succ]
          refine held_take 10 18 (v := ?_) rfl rfl (by kernel_rfl) (by kernel_rfl) (by kernel_rfl) (fun _ _ _ h => h) (by rfl) ?_ (by assumption) ?_
          rotate_left 1
          · intro wq hSq
            try dsimp only at hSq
            go_simp
            try with_reducible rfl
          simp only [List.setIfInBounds_toArray, List.set_cons_zero, List.set_cons_succ]
          refine held_take 11 19 (v := ?_) rfl rfl (by kernel_rfl) (by kernel_rfl) (by kernel_rfl) (fun _ _ _ h => h) (by rfl) ?_ (by assumption) ?_
          rotate_left 1
          · intro wq hSq
            try dsimp only at hSq
            go_simp
            try with_reducible rfl
          simp only [List.setIfInBounds_toArray, List.set_cons_zero, List.set_cons_succ]
          refine held_take 12 20 (v := ?_) rfl rfl (by kernel_rfl) (by kernel_rfl) (by kernel_rfl) (fun _ _ _ h => h) (by rfl) ?_ (by assumption) ?_
          rotate_left 1
          · intro wq hSq
            try dsimp only at hSq
            go_simp
            try with_reducible rfl
          simp only [List.setIfInBounds_toArray, List.set_cons_zero, List.set_cons_succ]
          refine held_take 13 21 (v := ?_) rfl rfl (by kernel_rfl) (by kernel_rfl) (by kernel_rfl) (fun _ _ _ h => h) (by rfl) ?_ (by assumption) ?_
          rotate_left 1
          · intro wq hSq
            try dsimp only at hSq
            go_simp
            try with_reducible rfl
          simp only [List.setIfInBounds_toArray, List.set_cons_zero, List.set_cons_succ]
          refine held_take 14 22 (v := ?_) rfl rfl (by kernel_rfl) (by kernel_rfl) (by kernel_rfl) (fun _ _ _ h => h) (by rfl) ?_ (by assumption) ?_
          rotate_left 1
          · intro wq hSq
            try dsimp only at hSq
            go_simp
            try with_reducible rfl
          simp only [List.setIfInBounds_toArray, List.set_cons_zero, List.set_cons_succ]
          refine wpAnyH_done (by kernel_rfl) ?_ _
          gi_wp2
          exact fits_on HI.out.1 HI.out.2.1 HI.out.2.2 HB.out hyes.out
      · by_cases hbig : (4294967295 : Int) < v
        · have hno := Lib.hid (hF.out (by rw [hm1]; simp; omega))
          have hgt : decide ((4294967295 : Int) < v) = true := decide_eq_true hbig
          clear hm1 hF hneg
          gi_wp2
          refine held_round (fun W' => W'.cell? ⟨w.heap.size, offF x.val, none⟩ = some (.int .i64 v)) (by kernel_rfl) (by kernel_rfl) (fun ⟨_, _, h⟩ => h) c1 (fun hHeld => ?_)
          refine held_take 0 8 (v := ?_) rfl rfl (by kernel_rfl) (by kernel_rfl) (by kernel_rfl) (fun _ _ _ h => h) (by rfl) ?_ (by assumption) ?_
          rotate_left 1
          · intro wq hSq
            try dsimp only at hSq
            go_simp
            try with_reducible rfl
          simp only [List.setIfInBounds_toArray, List.set_cons_zero, List.set_cons_succ]
          refine held_take 1 9 (v := ?_) rfl rfl (by kernel_rfl) (by kernel_rfl) (by kernel_rfl) (fun _ _ _ h => h) (by rfl) ?_ (by assumption) ?_
          rotate_left 1
          · intro wq hSq
            try dsimp only at hSq
            go_simp
            try with_reducible rfl
          simp only [List.setIfInBounds_toArray, List.set_cons_zero, List.set_cons_succ]
          refine held_take 2 10 (v := ?_) rfl rfl (by kernel_rfl) (by kernel_rfl) (by kernel_rfl) (fun _ _ _ h => h) (by rfl) ?_ (by assumption) ?_
          rotate_left 1
          · intro wq hSq
            try dsimp only at hSq
            go_simp
            try with_reducible rfl
          simp only [List.setIfInBounds_toArray, List.set_cons_zero, List.set_cons_succ]
          refine held_take 3 11 (v := ?_) rfl rfl (by kernel_rfl) (by kernel_rfl) (by kernel_rfl) (fun _ _ _ h => h) (by rfl) ?_ (by assumption) ?_
          rotate_left 1
          · intro wq hSq
            try dsimp only at hSq
            go_simp
            try with_reducible rfl
          simp only [List.setIfInBounds_toArray, List.set_cons_zero, List.set_cons_succ]
          refine held_take 4 12 (v := ?_) rfl rfl (by kernel_rfl) (by kernel_rfl) (by kernel_rfl) (fun _ _ _ h => h) (by rfl) ?_ (by assumption) ?_
          rotate_left 1
          · intro wq hSq
            try dsimp only at hSq
            go_simp
            try with_reducible rfl
          simp only [List.setIfInBounds_toArray, List.set_cons_zero, List.set_cons_succ]
          refine held_take 5 13 (v := ?_) rfl rfl (by kernel_rfl) (by kernel_rfl) (by kernel_rfl) (fun _ _ _ h => h) (by rfl) ?_ (by assumption) ?_
          rotate_left 1
          · intro wq hSq
            try dsimp only at hSq
            go_simp
            try with_reducible rfl
          simp only [List.setIfInBounds_toArray, List.set_cons_zero, List.set_cons_succ]
          refine held_take 6 14 (v := ?_) rfl rfl (by kernel_rfl) (by kernel_rfl) (by kernel_rfl) (fun _ _ _ h => h) (by rfl) ?_ (by assumption) ?_
          rotate_left 1
          · intro wq hSq
            try dsimp only at hSq
            go_simp
            try with_reducible rfl
          simp only [List.setIfInBounds_toArray, List.set_cons_zero, List.set_cons_succ]
          refine held_take 7 15 (v := ?_) rfl rfl (by kernel_rfl) (by kernel_rfl) (by kernel_rfl) (fun _ _ _ h => h) (by rfl) ?_ (by assumption) ?_
          rotate_left 1
          · intro wq hSq
            try dsimp only at hSq
            go_simp
            try with_reducible rfl
          simp only [List.setIfInBounds_toArray, List.set_cons_zero, List.set_cons_succ]
          refine held_take 8 16 (v := ?_) rfl rfl (by kernel_rfl) (by kernel_rfl) (by kernel_rfl) (fun _ _ _ h => h) (by rfl) ?_ (by assumption) ?_
          rotate_left 1
          · intro wq hSq
            try dsimp only at hSq
            go_simp
            try with_reducible rfl
          simp only [List.setIfInBounds_toArray, List.set_cons_zero, List.set_cons_succ]
          refine held_take 9 17 (v := ?_) rfl rfl (by kernel_rfl) (by kernel_rfl) (by kernel_rfl) (fun _ _ _ h => h) (by rfl) ?_ (by assumption) ?_
          rotate_left 1
          · intro wq hSq
            try dsimp only at hSq
            go_simp
            try with_reducible rfl
          simp only [List.setIfInBounds_toArray, List.set_cons_zero, List.set_cons_succ]
          refine held_take 10 18 (v := ?_) rfl rfl (by kernel_rfl) (by kernel_rfl) (by kernel_rfl) (fun _ _ _ h => h) (by rfl) ?_ (by assumption) ?_
          rotate_left 1
          · intro wq hSq
            try dsimp only at hSq
            go_simp
            try with_reducible rfl
          simp only [List.setIfInBounds_toArray, List.set_cons_zero, List.set_cons_succ]
          refine held_take 11 19 (v := ?_) rfl rfl (by kernel_rfl) (by kernel_rfl) (by kernel_rfl) (fun _ _ _ h => h) (by rfl) ?_ (by assumption) ?_
          rotate_left 1
          · intro wq hSq
            try dsimp only at hSq
            go_simp
            try with_reducible rfl
          simp only [List.setIfInBounds_toArray, List.set_cons_zero, List.set_cons_succ]
          refine held_take 12 20 (v := ?_) rfl rfl (by kernel_rfl) (by kernel_rfl) (by kernel_rfl) (fun _ _ _ h => h) (by rfl) ?_ (by assumption) ?_
          rotate_left 1
          · intro wq hSq
            try dsimp only at hSq
            go_simp
            try with_reducible rfl
          simp only [List.setIfInBounds_toArray, List.set_cons_zero, List.set_cons_succ]
          refine held_take 13 21 (v := ?_) rfl rfl (by kernel_rfl) (by kernel_rfl) (by kernel_rfl) (fun _ _ _ h => h) (by rfl) ?_ (by assumption) ?_
          rotate_left 1
          · intro wq hSq
            try dsimp only at hSq
            go_simp
            try with_reducible rfl
          simp only [List.setIfInBounds_toArray, List.set_cons_zero, List.set_cons_succ]
          refine held_take 14 22 (v := ?_) rfl rfl (by kernel_rfl) (by kernel_rfl) (by kernel_rfl) (fun _ _ _ h => h) (by rfl) ?_ (by assumption) ?_
          rotate_left 1
          · intro wq hSq
            try dsimp only at hSq
            go_simp
            try with_reducible rfl
          simp only [List.setIfInBounds_toArray, List.set_cons_zero, List.set_cons_succ]
          refine wpAnyH_done (by kernel_rfl) ?_ _
          gi_wp2
          exact fits_end HI.out.1 HI.out.2.1 HB.out hno.out
        · have hyes : Hid (fit1 c x.val = true) := by show fit1 c x.val = true; rw [hm1]; simp; omega
          have hgt : decide ((4294967295 : Int) < v) = false := decide_eq_false hbig
          clear hm1 hF hneg
          gi_wp2
          refine held_round (fun W' => W'.cell? ⟨w.heap.size, offF x.val, none⟩ = some (.int .i64 v)) (by kernel_rfl) (by kernel_rfl) (fun ⟨_, _, h⟩ => h) c1 (fun hHeld => ?_)
          refine held_take 0 8 (v := ?_) rfl rfl (by kernel_rfl) (by kernel_rfl) (by kernel_rfl) (fun _ _ _ h => h) (by rfl) ?_ (by assumption) ?_
          rotate_left 1
          · intro wq hSq
            try dsimp only at hSq
            go_simp
            try with_reducible rfl
          simp only [List.setIfInBounds_toArray, List.set_cons_zero, List.set_cons_succ]
          refine held_take 1 9 (v := ?_) rfl rfl (by kernel_rfl) (by kernel_rfl) (by kernel_rfl) (fun _ _ _ h => h) (by rfl) ?_ (by assumption) ?_
          rotate_left 1
          · intro wq hSq
            try dsimp only at hSq
            go_simp
            try with_reducible rfl
          simp only [List.setIfInBounds_toArray, List.set_cons_zero, List.set_cons_succ]
          refine held_take 2 10 (v := ?_) rfl rfl (by kernel_rfl) (by kernel_rfl) (by kernel_rfl) (fun _ _ _ h => h) (by rfl) ?_ (by assumption) ?_
          rotate_left 1
          · intro wq hSq
            try dsimp only at hSq
            go_simp
            try with_reducible rfl
          simp only [List.setIfInBounds_toArray, List.set_cons_zero, List.set_cons_succ]
          refine held_take 3 11 (v := ?_) rfl rfl (by kernel_rfl) (by kernel_rfl) (by kernel_rfl) (fun _ _ _ h => h) (by rfl) ?_ (by assumption) ?_
          rotate_left 1
          · intro wq hSq
            try dsimp only at hSq
            go_simp
            try with_reducible rfl
          simp only [List.setIfInBounds_toArray, List.set_cons_zero, List.set_cons_succ]
          refine held_take 4 12 (v := ?_) rfl rfl (by kernel_rfl) (by kernel_rfl) (by kernel_rfl) (fun _ _ _ h => h) (by rfl) ?_ (by assumption) ?_
          rotate_left 1
          · intro wq hSq
            try dsimp only at hSq
            go_simp
            try with_reducible rfl
          simp only [List.setIfInBounds_toArray, List.set_cons_zero, List.set_cons_succ]
          refine held_take 5 13 (v := ?_) rfl rfl (by kernel_rfl) (by kernel_rfl) (by kernel_rfl) (fun _ _ _ h => h) (by rfl) ?_ (by assumption) ?_
          rotate_left 1
          · intro wq hSq
            try dsimp only at hSq
            go_simp
            try with_reducible rfl
          simp only [List.setIfInBounds_toArray, List.set_cons_zero, List.set_cons_succ]
          refine held_take 6 14 (v := ?_) rfl rfl (by kernel_rfl) (by kernel_rfl) (by kernel_rfl) (fun _ _ _ h => h) (by rfl) ?_ (by assumption) ?_
          rotate_left 1
          · intro wq hSq
            try dsimp only at hSq
            go_simp
            try with_reducible rfl
          simp only [List.setIfInBounds_toArray, List.set_cons_zero, List.set_cons_succ]
          refine held_take 7 15 (v := ?_) rfl rfl (by kernel_rfl) (by kernel_rfl) (by kernel_rfl) (fun _ _ _ h => h) (by rfl) ?_ (by assumption) ?_
          rotate_left 1
          · intro wq hSq
            try dsimp only at hSq
            go_simp
            try with_reducible rfl
          simp only [List.setIfInBounds_toArray, List.set_cons_zero, List.set_cons_succ]
          refine held_take 8 16 (v := ?_) rfl rfl (by kernel_rfl) (by kernel_rfl) (by kernel_rfl) (fun _ _ _ h => h) (by rfl) ?_ (by assumption) ?_
          rotate_left 1
          · intro wq hSq
            try dsimp only at hSq
            go_simp
            try with_reducible rfl
          simp only [List.setIfInBounds_toArray, List.set_cons_zero, List.set_cons_succ]
          refine held_take 9 17 (v := ?_) rfl rfl (by kernel_rfl) (by kernel_rfl) (by kernel_rfl) (fun _ _ _ h => h) (by rfl) ?_ (by assumption) ?_
          rotate_left 1
          · intro wq hSq
            try dsimp only at hSq
            go_simp
            try with_reducible rfl
          simp only [List.setIfInBounds_toArray, List.set_cons_zero, List.set_cons_succ]
          refine held_take 10 18 (v := ?_) rfl rfl (by kernel_rfl) (by kernel_rfl) (by kernel_rfl) (fun _ _ _ h => h) (by rfl) ?_ (by assumption) ?_
          rotate_left 1
          · intro wq hSq
            try dsimp only at hSq
            go_simp
            try with_reducible rfl
          simp only [List.setIfInBounds_toArray, List.set_cons_zero, List.set_cons_succ]
          refine held_take 11 19 (v := ?_) rfl rfl (by kernel_rfl) (by kernel_rfl) (by kernel_rfl) (fun _ _ _ h => h) (by rfl) ?_ (by assumption) ?_
          rotate_left 1
          · intro wq hSq
            try dsimp only at hSq
            go_simp
            try with_reducible rfl
          simp only [List.setIfInBounds_toArray, List.set_cons_zero, List.set_cons_succ]
          refine held_take 12 20 (v := ?_) rfl rfl (by kernel_rfl) (by kernel_rfl) (by kernel_rfl) (fun _ _ _ h => h) (by rfl) ?_ (by assumption) ?_
          rotate_left 1
          · intro wq hSq
            try dsimp only at hSq
            go_simp
            try with_reducible rfl
          simp only [List.setIfInBounds_toArray, List.set_cons_zero, List.set_cons_succ]
          refine held_take 13 21 (v := ?_) rfl rfl (by kernel_rfl) (by kernel_rfl) (by kernel_rfl) (fun _ _ _ h => h) (by rfl) ?_ (by assumption) ?_
          rotate_left 1
          · intro wq hSq
            try dsimp only at hSq
            go_simp
            try with_reducible rfl
          simp only [List.setIfInBounds_toArray, List.set_cons_zero, List.set_cons_succ]
          refine held_take 14 22 (v := ?_) rfl rfl (by kernel_rfl) (by kernel_rfl) (by kernel_rfl) (fun _ _ _ h => h) (by rfl) ?_ (by assumption) ?_
          rotate_left 1
          · intro wq hSq
            try dsimp only at hSq
            go_simp
            try with_reducible rfl
          simp only [List.setIfInBounds_toArray, List.set_cons_zero, List.set_cons_succ]
          refine wpAnyH_done (by kernel_rfl) ?_ _
          gi_wp2
          exact fits_on HI.out.1 HI.out.2.1 HI.out.2.2 HB.out hyes.out
  case done =>
    rintro D xs W hD hxs ⟨⟨hx, hs, hp⟩, hB⟩ hK
    have HD := Lib.hid hD
    have c2 := cell_of_heap hs (i := 0) rfl
    have c3 : W.frozen? ⟨w.heap.size + 1, 0, none⟩ = false := frozen_of_heap hs
    clear hD
    gi_wp2
    have hK5 : (W.setCell ⟨w.heap.size + 1, 0, none⟩ (.bool true)).heap[D]? = some (.deferred (some [])) := (KeepsOthers.setCell _ _ _).same D _ hK rfl
    refine ⟨by simp, .inl ⟨_, _, rfl, run_takeDeferred hK5, ?_⟩⟩
    have hy := fitsB_all hxs hp
    have hcl : (W.setCell ⟨w.heap.size + 1, 0, none⟩ (.bool true)).cell? ⟨w.heap.size + 1, 0, none⟩ = some (.bool true) := cell_of_heap (cell_same hs _) rfl
    exact ⟨_, results_one rfl _ _ rfl (load_bool (cell_kept hcl (grownBy_putObj' _ D (.deferred none)) (fun r e => by cases e; exact ⟨_, hK5, rfl⟩))), ret_bool hy.symm, (below_setCell hB (by omega) _ _).trans (belowK_b (w := w) (Nat.le_refl _) _ D _ _ (by have := HD.out; rw [hsize] at this; omega) hK5 rfl rfl)⟩
  case stop =>
    rintro D j pre W hD _ ⟨⟨rfl, hno, hs⟩, hB⟩ hK
    have HD := Lib.hid hD
    have c2 := cell_of_heap hs (i := 0) rfl
    clear hD
    gi_wp2
    refine ⟨by simp, .inl ⟨_, _, rfl, run_takeDeferred hK, ?_⟩⟩
    exact ⟨_, results_one rfl _ _ rfl (load_bool (cell_kept c2 (grownBy_putObj' _ D (.deferred none)) (fun r e => by cases e; exact ⟨_, hK, rfl⟩))), ret_bool hno.symm, hB.trans (belowK_b (w := w) (Nat.le_refl _) _ D _ _ (by have := HD.out; rw [hsize] at this; omega) hK rfl rfl)⟩
end Go.Proofs.Ytopbejdhfndfbaa
