/- The law CpuSteps, walked; a cpu that comes in. No condition. -/
import Derived.Test.YtlhcggaeecjbcaaLawd
import Derived.DeepKeys
namespace Go.Proofs.Ytlhcggaeecjbcaa
open Go.RowKit
attribute [local go_sem ↓] loadVar_26 loadVar_58 loadVar_61 storeVar_58 storeVar_61
attribute [local go_sem] run_load26 run_load58 run_load61 run_store58 run_store61 aggAt_new aggAt_past aggAt_drew rowAt_new rowAt_past rowAt_drew rowOpen_new rowOpen_past rowOpen_drew setRow_made' spCells_size cpuCells_size cpuCells_at cpuCells_at16 alloc_setRow

/-- The law's own cpu and space. -/
structure Cs (w0 : World) (r : Nat → Int) (pc : Int) (s : Nat → Pte) (w : World) : Prop where
  below : Below w0.heap.size w0 w
  c : w.heap[w0.heap.size]? = some (.cells (cpuCells r pc) 58)
  s : w.heap[w0.heap.size + 1]? = some (.cells (spCells s) 26)
theorem Cs.start {w0 w : World} {r : Nat → Int} {pc : Int} {s : Nat → Pte} (hb : Below ((w0.alloc (.cells (cpuCells r pc) 58)).alloc (.cells (spCells s) 26)).heap.size ((w0.alloc (.cells (cpuCells r pc) 58)).alloc (.cells (spCells s) 26)) w) : Cs w0 r pc s w := by
  obtain ⟨h1, h2, h3⟩ := keep2 hb
  exact ⟨h3, h1, h2⟩
theorem Cs.step {w0 w w' : World} {r : Nat → Int} {pc : Int} {s : Nat → Pte} (h : Cs w0 r pc s w) (hb : Below w.heap.size w w') : Cs w0 r pc s w' := ⟨below_step h.below hb, keep h.c hb, keep h.s hb⟩
theorem Cs.facts {w0 w : World} {r : Nat → Int} {pc : Int} {s : Nat → Pte} (h : Cs w0 r pc s w) : aggAt w w0.heap.size = .agg (cpuCells r pc) ∧ rowAt w w0.heap.size 17 = true ∧ aggAt w (w0.heap.size + 1) = .agg (spCells s) ∧ rowAt w (w0.heap.size + 1) 48 = true ∧ w0.heap.size < w.heap.size ∧ w0.heap.size + 1 < w.heap.size ∧ w0.heap.size < w.heap.size + 1 := by
  have h1 := agg_facts h.c 17 (cpuCells_size r pc)
  have h2 := agg_facts h.s 48 (spCells_size s)
  have h3 := heap_lt h.c
  exact ⟨h1.1, h1.2, h2.1, h2.2, h3, heap_lt h.s, Nat.lt_add_one_of_lt h3⟩

theorem isAgg27 (w : World) : (isAgg 27).run Try.prog w = .ok false w := by kernel_rfl
theorem eq_items27 (xs : Array Value) (f : Nat → Int) (w : World) : ∀ (is : List Nat), (∀ i ∈ is, xs[i]? = some (.int .u32 (f i))) → (Op.eqItems 9998 27 1 xs xs is).run Try.prog w = .ok true w
  | [], _ => rfl
  | i :: is, h => by
    have hp : (part 27 xs (i * 1)).run Try.prog w = .ok (.int .u32 (f i)) w := by
      unfold part
      rw [Nat.mul_one]
      simp only [Sem.run_bind, isAgg27, Result.andThen_ok, Bool.false_eq_true, if_false, h i List.mem_cons_self, Sem.run_pure]
    have he : (Op.equalIn 9998 27 (.int .u32 (f i)) (.int .u32 (f i))).run Try.prog w = .ok true w := by
      rw [run_equalIn_int w 9997 27 .u32 .u32 _ _ Try.underlying27]
      simp
    simp only [Op.eqItems, Sem.run_bind, hp, he, Result.andThen_ok, Bool.not_true, Bool.false_eq_true, if_false]
    exact eq_items27 xs f w is fun j hj => h j (List.mem_cons_of_mem _ hj)
theorem cellsOf27 : Try.prog.cellsOf 27 = 1 := by kernel_rfl
theorem eq_regs (xs : Array Value) (f : Nat → Int) (w : World) (h : ∀ i, i < 16 → xs[i]? = some (.int .u32 (f i))) : (Op.equalIn 9999 56 (.agg xs) (.agg xs)).run Try.prog w = .ok true w := by
  obtain ⟨i, hi⟩ : ∃ i, Try.prog.info? 27 = some i := Option.isSome_iff_exists.1 (by kernel_rfl)
  rw [run_equalIn_array w 9998 xs xs Try.underlying56 hi, cellsOf27]
  exact eq_items27 xs f w _ fun j hj => h j (List.mem_range.1 hj)
theorem eq_self56 (r : Nat → Int) (p : Int) (w : World) : (Op.equalIn 9999 56 (.agg (cpuCells r p).pop) (.agg (cpuCells r p).pop)).run Try.prog w = .ok true w :=
  eq_regs _ r w fun i hi => by
    rw [Array.getElem?_pop, if_pos (by rw [cpuCells_size]; omega)]
    exact cpuCells_get r p i hi
attribute [local go_sem] eq_self56
set_option maxRecDepth 20000 in
theorem open_cells27 {W : World} {base : Nat} : ∀ (n : Nat) (vs : List Value), CellsOk W base (List.replicate n 27) vs → ∃ ns : List Int, ns.length = n ∧ vs = ns.map (Value.int .u32) ∧ ∀ x ∈ ns, 0 ≤ x ∧ x ≤ 4294967295
  | 0, [], _ => ⟨[], rfl, rfl, fun x h => by cases h⟩
  | 0, _ :: _, h => by cases h
  | n + 1, [], h => by cases h
  | n + 1, v :: vs, h => by
    obtain ⟨a, rfl, h0, h1⟩ := open_int27 h.1
    obtain ⟨ns, hl, rfl, hx⟩ := open_cells27 n vs h.2
    refine ⟨a :: ns, by simp [hl], rfl, fun x hm => ?_⟩
    rcases List.mem_cons.1 hm with rfl | hm
    · exact ⟨h0, h1⟩
    · exact hx x hm
set_option maxRecDepth 20000 in
theorem open_cpu {W : World} {base : Nat} {v : Value} (h : Value.okWide Try.prog W .any base 58 v) : ∃ (r : Nat → Int) (pc : Int), v = .agg (cpuCells r pc) ∧ ROk r ∧ 0 ≤ pc ∧ pc ≤ 4294967295 := by
  obtain ⟨vs, rfl, hc⟩ := open_agg (List.replicate 17 27) Try.underlying58 rfl (by kernel_rfl) (by kernel_rfl) h
  obtain ⟨ns, hl, rfl, hx⟩ := open_cells27 17 vs hc
  have hb : ∀ i, 0 ≤ ns.getD i 0 ∧ ns.getD i 0 ≤ 4294967295 := fun i => by
    by_cases hi : i < ns.length
    · rw [List.getD, List.getElem?_eq_getElem hi]
      exact hx _ (List.getElem_mem hi)
    · rw [List.getD, List.getElem?_eq_none (by omega)]
      exact ⟨by decide, by decide⟩
  refine ⟨fun i => ns.getD i 0, ns.getD 16 0, ?_, ⟨fun i => (hb i).1, fun i => (hb i).2⟩, (hb 16).1, (hb 16).2⟩
  congr 1
  unfold cpuCells
  congr 1
  apply List.ext_getElem?
  intro i
  rw [List.getElem?_map]
  by_cases h16 : i < 16
  · rw [List.getElem?_append_left (by simpa using h16), List.getElem?_map, List.getElem?_range h16]
    simp [List.getD, show i < ns.length by omega]
  · by_cases h17 : i = 16
    · subst h17
      rw [List.getElem?_append_right (by simp)]
      simp [List.getD, show 16 < ns.length by omega]
    · rw [List.getElem?_eq_none (by omega), List.getElem?_eq_none (by simp; omega)]
      rfl

set_option maxRecDepth 20000 in
set_option maxHeartbeats 1000000 in
theorem steps_great (v : Value) (l : List ByteArray) (s : Nat → Pte) (r : Nat → Int) (pc : Int) (w : World) (HV : Hid (Strs w v l)) (hs : Hid (∀ i, (bAt l i).size ≤ 140737488351232)) (hl : Hid (l.length ≤ 140737488351232)) (hg : bigB l = true) :
    Calls Try.prog 9 #[.agg (cpuCells r pc), .agg (spCells s), v] w fun e w' => e = .returned (.bool true) ∧ Below w.heap.size w w' := by
  go_enter Try.func9, Try.ntmps9
  go_wp2_with (first
    | (go_at_call 32; refine (great32 v l _ (HV.out.mono HA.out.below) hs hl).mono ?_; rw [hg]; rintro e w2 ⟨rfl, rfl⟩)
    | (go_at_call 31; refine (alive31 _).mono ?_; rintro e w1 ⟨rfl, hb⟩; have HA := Lib.hid (Cs.start hb); clear hb))
  go_ret
  exact ⟨rfl, HA.out.below⟩

set_option maxRecDepth 20000 in
set_option maxHeartbeats 1000000 in
theorem steps_small (v : Value) (l : List ByteArray) (s : Nat → Pte) (r : Nat → Int) (pc : Int) (w : World) (HV : Hid (Strs w v l)) (hs : Hid (∀ i, (bAt l i).size ≤ 140737488351232)) (hl : Hid (l.length ≤ 140737488351232)) (hg : bigB l = false)
    (r2 : Nat → Int) (p2 : Int) (l2 : List ByteArray) (kk nn : Int) (HO : Hid (l2.length ≤ 100000)) (HS : Hid (∀ w, Strs w v l → Calls Try.prog 33 #[.agg (cpuCells r pc), .agg (spCells s), v] w (StepPost ⟨r2, p2, l2, kk, nn⟩ w))) (HR : Hid (∀ w, Strs w v l → Calls Try.prog 34 #[.agg (cpuCells r pc), .agg (spCells s), v] w (StepPost ⟨r2, p2, l2, kk, nn⟩ w))) :
    Calls Try.prog 9 #[.agg (cpuCells r pc), .agg (spCells s), v] w fun e w' => e = .returned (.bool true) ∧ Below w.heap.size w w' := by
  go_enter Try.func9, Try.ntmps9
  go_wp2_with (first
    | (go_at_call 35; refine (same35 _ _ _ _ ((H23.out.alloc _).alloc _) ((H3.out.alloc _).alloc _) HO.out).mono ?_; rintro e w4 ⟨rfl, hb⟩; have HD := Lib.hid (below_step (below_step HC.out.below (below_two _ _ _)) hb); clear hb)
    | (go_at_call 34; have HB2 := HB.out; clear HB2; refine (HR.out _ (HV.out.mono (below_step HB.out.below (below_two _ _ _)))).mono ?_; rintro e w3 ⟨hb, v3, rfl, hs3⟩; obtain ⟨s1, s2, hb'⟩ := keep2 hb; have H3 := Lib.hid hs3; have HC := Lib.hid (HB.out.step hb'); have H23 := Lib.hid (H2.out.mono hb'); have k1 := agg_facts s1 17 (cpuCells_size _ _); have k2 := agg_facts s2 2 rfl; obtain ⟨y1, y2⟩ := k1; obtain ⟨y3, y4⟩ := k2; have y5 := heap_lt s1; have y6 := heap_lt s2; have y7 := Nat.lt_add_one_of_lt y5; clear hb hs3 hb' s1 s2 q1 q2 q3 q4 q5 q6 q7)
    | (go_at_call 33; refine (HS.out _ (HV.out.mono HA.out.below)).mono ?_; rintro e w2 ⟨hb, v2, rfl, hs2⟩; have HB := Lib.hid (HA.out.step hb); have H2 := Lib.hid hs2; clear hb hs2 q1 q2 q3 q4 q5 q6 q7; obtain ⟨q1, q2, q3, q4, q5, q6, q7⟩ := HB.out.facts)
    | (go_at_call 32; refine (great32 v l _ (HV.out.mono HA.out.below) hs hl).mono ?_; rw [hg]; rintro e w2 ⟨rfl, rfl⟩)
    | (go_at_call 31; refine (alive31 _).mono ?_; rintro e w1 ⟨rfl, hb⟩; have HA := Lib.hid (Cs.start hb); clear hb; obtain ⟨q1, q2, q3, q4, q5, q6, q7⟩ := HA.out.facts))
  go_ret
  exact ⟨rfl, HD.out⟩
theorem mexec_len (r : Nat → Int) (pc : Int) (s : Nat → Pte) (l : List ByteArray) (x : Ins) : (mexec r pc s l x).l.length = l.length := by
  unfold mexec
  dsimp only
  repeat' split
  all_goals first | rfl | skip
  all_goals rename_i h; exact mstore_len h
theorem mstep_len (r : Nat → Int) (pc : Int) (s : Nat → Pte) (l : List ByteArray) : (mstep r pc s l).l.length = l.length := by
  unfold mstep
  split
  · rfl
  · split
    · rfl
    · exact mexec_len _ _ _ _ _
theorem steps_walk (v : Value) (l : List ByteArray) (s : Nat → Pte) (r : Nat → Int) (pc : Int) (w : World) (hv : Strs w v l) (hs : Hid (∀ i, (bAt l i).size ≤ 140737488351232)) (hl : Hid (l.length ≤ 140737488351232)) (hr : ROk r) (h0 : 0 ≤ pc) (h1 : pc ≤ 4294967295) :
    Calls Try.prog 9 #[.agg (cpuCells r pc), .agg (spCells s), v] w fun e w' => e = .returned (.bool true) ∧ Below w.heap.size w w' := by
  cases hg : bigB l with
  | true => exact steps_great v l s r pc w hv hs hl hg
  | false =>
    have hL : l.length ≤ 100000 := by have := (bigB_no hg).1; omega
    have hlen := mstep_len r pc s l
    have hS : ∀ w, Strs w v l → Calls Try.prog 33 #[.agg (cpuCells r pc), .agg (spCells s), v] w (StepPost (mstep r pc s l) w) := fun w hv => step_any v l s r pc w hv hL h0 h1 hr
    have hR : ∀ w, Strs w v l → Calls Try.prog 34 #[.agg (cpuCells r pc), .agg (spCells s), v] w (StepPost (mstep r pc s l) w) := fun w hv => rstep_any v l s r pc w hv hL h0 h1 hr
    generalize mstep r pc s l = o at hlen hS hR
    obtain ⟨r2, p2, l2, kk, nn⟩ := o
    exact steps_small v l s r pc w hv hs hl hg r2 p2 l2 kk nn (show l2.length ≤ 100000 by simp only at hlen; omega) hS hR
end Go.Proofs.Ytlhcggaeecjbcaa
