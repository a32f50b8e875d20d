/- The contract of 'apart': whether no two present pages have one frame. Condition: the frames are integers of 64 bits. -/
import Derived.Test.YtlhcggaeecjbcaaMmu21
namespace Go.Proofs.Ytlhcggaeecjbcaa
open Go.RowKit
attribute [local go_sem ↓] loadVar_26
attribute [local go_sem] run_load26 aggAt_new aggAt_past aggAt_drew rowAt_new rowAt_past rowAt_drew spCells_size

def seenB (s : Nat → Pte) (j : Nat) (x : Int) : Bool := (List.range j).any fun i => (s i).is && decide ((s i).frame = x)
def ApartTo (s : Nat → Pte) (j : Nat) : Prop := ∀ i k, i < k → k < j → (s i).is = true → (s k).is = true → (s i).frame ≠ (s k).frame

theorem run_index_space (s : Nat → Pte) (j : Nat) (hj : j < 16) (w : World) :
    (Instr.index 26 (.agg (spCells s)) (.int .i64 (j : Int))).run Try.prog w = .ok (.agg #[.bool (s j).is, .bool (s j).write, .int .i64 (s j).frame]) w := by
  have : j = 0 ∨ j = 1 ∨ j = 2 ∨ j = 3 ∨ j = 4 ∨ j = 5 ∨ j = 6 ∨ j = 7 ∨ j = 8 ∨ j = 9 ∨ j = 10 ∨ j = 11 ∨ j = 12 ∨ j = 13 ∨ j = 14 ∨ j = 15 := by omega
  rcases this with rfl | rfl | rfl | rfl | rfl | rfl | rfl | rfl | rfl | rfl | rfl | rfl | rfl | rfl | rfl | rfl <;> (show _ = _; kernel_rfl)

theorem Seen.alloc {b n : Nat} {S : Int → Bool} {w : World} (h : Seen b n S w) (o : Obj) : Seen b n S (w.alloc o) := by
  obtain ⟨D, ho, hm, hS⟩ := h
  exact ⟨D, ho.alloc o, hm, hS⟩
theorem Seen.mono {b n n' : Nat} {S : Int → Bool} {w : World} (h : Seen b n S w) (hn : n ≤ n') : Seen b n' S w := by
  obtain ⟨D, ho, hm, hS⟩ := h
  exact ⟨D, ho.mono hn, hm, hS⟩
theorem seenB_succ (s : Nat → Pte) (j : Nat) : seenB s (j + 1) = fun x => seenB s j x || ((s j).is && decide ((s j).frame = x)) := by
  funext x
  simp [seenB, List.range_succ]
theorem seen_skip {s : Nat → Pte} {b n j : Nat} {w : World} (hi : (s j).is = false) (h : Seen b n (seenB s j) w) : Seen b n (seenB s (j + 1)) w := by
  rw [seenB_succ, hi]
  simpa using h
theorem seen_next {s : Nat → Pte} {b n j : Nat} {w : World} (hi : (s j).is = true) (h : Seen b n (fun y => decide (y = (s j).frame) || seenB s j y) w) : Seen b n (seenB s (j + 1)) w := by
  have e : seenB s (j + 1) = fun y => decide (y = (s j).frame) || seenB s j y := by
    rw [seenB_succ, hi]
    funext x
    rw [Bool.or_comm, Bool.true_and]
    congr 1
    exact decide_eq_decide.2 ⟨Eq.symm, Eq.symm⟩
  rw [e]
  exact h
theorem apartTo_skip {s : Nat → Pte} {j : Nat} (hi : (s j).is = false) (h : ApartTo s j) : ApartTo s (j + 1) := by
  intro i k hik hk h1 h2
  by_cases e : k = j
  · subst e; rw [hi] at h2; cases h2
  · exact h i k hik (by omega) h1 h2
theorem apartTo_step {s : Nat → Pte} {j : Nat} (_hi : (s j).is = true) (h : ApartTo s j) (hc : seenB s j (s j).frame = false) : ApartTo s (j + 1) := by
  intro i k hik hk h1 h2 he
  by_cases e : k = j
  · subst e
    simp only [seenB, List.any_eq_false, List.mem_range, Bool.and_eq_true, decide_eq_true_eq, not_and] at hc
    exact hc i hik h1 he
  · exact h i k hik (by omega) h1 h2 he
theorem apart_of {s : Nat → Pte} (h : ApartTo s 16) : Apart s := by
  intro i k hi hk h1 h2 he
  rcases Nat.lt_trichotomy i k with hlt | rfl | hlt
  · exact absurd he (h i k hlt hk h1 h2)
  · rfl
  · exact absurd he.symm (h k i hlt hi h2 h1)

theorem apart_not {s : Nat → Pte} {j : Nat} (hj : j < 16) (hi : (s j).is = true) (hc : seenB s j (s j).frame = true) : ¬ Apart s := by
  intro h
  simp only [seenB, List.any_eq_true, List.mem_range, Bool.and_eq_true, decide_eq_true_eq] at hc
  obtain ⟨i, hij, h1, h2⟩ := hc
  have := h i j (by omega) hj h1 hi h2
  omega

set_option maxRecDepth 20000 in
set_option maxHeartbeats 1000000 in
theorem apart_any (s : Nat → Pte) (w : World) (hb : Hid (Bounded s)) :
    Calls Try.prog 24 #[.agg (spCells s)] w fun e w' => ∃ r, e = .returned (.bool r) ∧ (r = true → Apart s) ∧ (r = false → ¬ Apart s) ∧ Below w.heap.size w w' := by
  have hmm := @run_makeMap Try.prog
  go_enter Try.func24, Try.ntmps24
  go_wp2_with fail
  go_loopw [8] (fun i W => ∃ j : Nat, j ≤ 16 ∧ i = .int .i64 j ∧ Hid (Seen (w.heap.size + 1) j (seenB s j) W) ∧ Hid (ApartTo s j) ∧ Hid (Below w.heap.size w W)) (fun i _ => 16 - (intOf i).toNat)
  case atStart => exact ⟨0, by omega, rfl, (by have := seen_new (w.alloc (Obj.cells (spCells s) 26)); rw [alloc_size] at this; exact this), fun i k _ hk => by omega, ((Below.refl _ _).alloc (Nat.le_refl _) _).alloc (by rw [alloc_size]; omega) _⟩
  case round =>
    obtain ⟨j, hj, rfl, HS, HA, HB⟩ := hrel
    by_cases hlt : j < 16
    · have hidx := run_index_space s j hlt
      cases hi : (s j).is with
      | false =>
        go_wp2_with fail
        go_roundw
        case rel => exact ⟨j + 1, by omega, by go_num, seen_skip hi ((HS.out.alloc _).mono (by omega)), apartTo_skip hi HA.out, HB.out.alloc HB.out.size _⟩
        case measure => simp [intOf]; omega
      | true =>
        have hlook := seen_look (HS.out.alloc (Obj.cells #[Value.bool true, Value.bool (s j).write, Value.int IntKind.i64 (s j).frame] 24)) (s j).frame (hb.out j).1 (hb.out j).2
        cases hc : seenB s j (s j).frame with
        | true =>
          rw [hc] at hlook
          go_wp2_with fail
          go_ret
          exact ⟨false, rfl, (fun h => by cases h), (fun _ => apart_not hlt hi hc), HB.out.alloc HB.out.size _⟩
        | false =>
          rw [hc] at hlook
          have HA2 := Lib.hid (apartTo_step hi HA.out hc)
          have hkey := Maps.keyOf_int_mk Try.underlying3 (wf_i64 (hb.out j).1 (hb.out j).2)
          obtain ⟨D, ho, hm, hS⟩ := HS.out.alloc (Obj.cells #[Value.bool true, Value.bool (s j).write, Value.int IntKind.i64 (s j).frame] 24)
          have HO := Lib.hid ho
          have HM := Lib.hid hm
          have HSD := Lib.hid hS
          have HK := Lib.hid hkey
          clear ho hm hS hc hkey
          go_wp2_with (first
            | (at_mapUpdate; refine wpList_mapUpdate_own _ rfl _ _ _ 42 rfl 3 4 K3 Try.underlying42 (plainElem Try.prog 4) (w.heap.size + 1) j D rfl HO.out (by unfold maxLen; omega) _ _ (.int .i64 (s j).frame) rfl rfl HK.out (.lit (.bool true)) [] (plainElem_bool Try.underlying4 true) ?_; intro w1 hown1 hgrow1; have HO1 := Lib.hid hown1; have HG1 := Lib.hid hgrow1; clear hown1 hgrow1))
          go_roundw
          case rel => exact ⟨j + 1, by omega, by go_num, seen_next hi (seen_put HM.out HSD.out _ HO1.out), HA2.out, (HB.out.alloc HB.out.size _).grown HG1.out (Nat.le_trans HB.out.size (by rw [alloc_size]; omega)) (fun k hk => by cases hk; omega)⟩
          case measure => simp [intOf]; omega
    · have hj16 : j = 16 := by omega
      subst hj16
      go_wp2_with fail
      go_ret
      exact ⟨true, rfl, fun _ => apart_of HA.out, (fun h => by cases h), HB.out⟩

theorem apart_yes (s : Nat → Pte) (w : World) (hb : Hid (Bounded s)) (h : Apart s) : Calls Try.prog 24 #[.agg (spCells s)] w fun e w' => e = .returned (.bool true) ∧ Below w.heap.size w w' :=
  (apart_any s w hb).mono fun e w' ⟨r, he, _, h2, hb⟩ => by
    cases r with
    | true => exact ⟨he, hb⟩
    | false => exact absurd h (h2 rfl)
theorem apart_no (s : Nat → Pte) (w : World) (hb : Hid (Bounded s)) (h : ¬ Apart s) : Calls Try.prog 24 #[.agg (spCells s)] w fun e w' => e = .returned (.bool false) ∧ Below w.heap.size w w' :=
  (apart_any s w hb).mono fun e w' ⟨r, he, h1, _, hb⟩ => by
    cases r with
    | true => exact absurd (h1 rfl) h
    | false => exact ⟨he, hb⟩
end Go.Proofs.Ytlhcggaeecjbcaa
