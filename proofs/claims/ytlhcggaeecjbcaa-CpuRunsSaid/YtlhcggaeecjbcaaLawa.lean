/- Contracts of the statements' helpers (law 14): Same of lists that are one, great, page. Condition: a list of at most 100,000 texts; at most 32 words. -/
import Derived.Test.YtlhcggaeecjbcaaArgs
import Derived.Deep.QuietTactic
import Derived.BigQuiet
namespace Go.Proofs.Ytlhcggaeecjbcaa
open Go.RowKit

set_option maxRecDepth 20000 in
set_option maxHeartbeats 1000000 in
theorem same35 (u v : Value) (l : List ByteArray) (w : World) (hu : Strs w u l) (hv : Strs w v l) (hl : l.length ≤ 100000) :
    Calls Try.prog 35 #[u, v] w fun e w' => e = .returned (.int .i64 1) ∧ Below w.heap.size w w' := by
  rcases hu.shape with ⟨rfl, a, cap, rfl, -⟩ | ⟨h0, b, o, cap, rfl, -, hb, hc⟩
  · obtain ⟨a2, cap2, rfl, -⟩ := hv.ex
    go_enter Try.func35, Try.ntmps35
    go_wp2_with fail
    go_loop [5] (fun i => i = .int .i64 0) (fun _ => 0)
    case atStart => rfl
    case round =>
      subst hrel
      go_wp2_with fail
      go_ret
      exact ⟨rfl, Below.refl _ _⟩
  · rcases hv.shape with ⟨rfl, -⟩ | ⟨-, b2, o2, cap2, rfl, -, hb2, hc2⟩
    · simp at h0
    · have HC := Lib.hid hc
      have HC2 := Lib.hid hc2
      clear hc hc2 hu hv
      go_enter Try.func35, Try.ntmps35
      go_wp2_with fail
      go_loopw [5] (fun i W => ∃ k : Nat, k ≤ l.length ∧ i = .int .i64 k ∧ Hid (Below w.heap.size w W)) (fun i _ => l.length - (intOf i).toNat)
      case atStart => exact ⟨0, by omega, rfl, Below.refl _ _⟩
      case round =>
        obtain ⟨k, hk, rfl, HB⟩ := hrel
        by_cases hlt : k < l.length
        · have c1 := (HB.out.cell (p := ⟨b, o + k, none⟩) hb).trans (HC.out k hlt)
          have c2 := (HB.out.cell (p := ⟨b2, o2 + k, none⟩) hb2).trans (HC2.out k hlt)
          have i0 : (0 : Int) ≤ k := by omega
          have i1 : (k : Int) < l.length := by omega
          go_wp2_with fail
          go_quiet (fail)
          go_wp2_with fail
          go_roundw
          case rel => exact ⟨k + 1, by omega, by go_num, below_drewN HB.out _⟩
          case measure => simp [intOf]; omega
        · go_wp2_with fail
          go_ret
          exact ⟨rfl, HB.out⟩

/-- Is memory more than statements look at? -/
def bigB (l : List ByteArray) : Bool := decide (16 < l.length) || l.any fun x => x.size != 128
theorem bigB_no {l : List ByteArray} (h : bigB l = false) : l.length ≤ 16 ∧ ∀ i, i < l.length → (bAt l i).size = 128 := by
  unfold bigB at h
  simp only [Bool.or_eq_false_iff, decide_eq_false_iff_not, List.any_eq_false] at h
  refine ⟨by omega, fun i hi => ?_⟩
  have := h.2 _ (List.getElem_mem hi)
  simp only [bne_iff_ne, ne_eq, Decidable.not_not] at this
  simpa [bAt, List.getD, hi] using this
theorem bigB_yes {l : List ByteArray} {k : Nat} (hk : k < l.length) (h : (bAt l k).size ≠ 128) : bigB l = true := by
  unfold bigB
  simp only [Bool.or_eq_true, List.any_eq_true]
  refine .inr ⟨l[k], List.getElem_mem hk, ?_⟩
  have e : bAt l k = l[k] := by simp [bAt, List.getD, hk]
  rw [e] at h
  simpa using h
theorem bigB_all {l : List ByteArray} (h : l.length ≤ 16) (h2 : ∀ i, i < l.length → (bAt l i).size = 128) : bigB l = false := by
  unfold bigB
  simp only [Bool.or_eq_false_iff, decide_eq_false_iff_not, List.any_eq_false]
  refine ⟨by omega, fun x hx => ?_⟩
  obtain ⟨i, hi, rfl⟩ := List.getElem_of_mem hx
  have := h2 i hi
  simp [bAt, List.getD, hi] at this
  simp [this]

set_option maxRecDepth 20000 in
set_option maxHeartbeats 1000000 in
theorem great32 (v : Value) (l : List ByteArray) (w : World) (hv : Strs w v l) (hs : Hid (∀ i, (bAt l i).size ≤ 140737488351232)) (hl : Hid (l.length ≤ 140737488351232)) :
    Calls Try.prog 32 #[v] w fun e w' => e = .returned (.bool (bigB l)) ∧ w = w' := by
  have hl' : l.length ≤ 9223372036854775807 := by have := hl.out; omega
  rcases hv.shape with ⟨rfl, a, cap, rfl, -⟩ | ⟨h0, b, o, cap, rfl, -, hb, hc⟩
  · go_enter Try.func32, Try.ntmps32
    go_wp2_with fail
    go_loop [3] (fun i => i = .int .i64 0) (fun _ => 0)
    case atStart => rfl
    case round =>
      subst hrel
      go_wp2_with fail
      go_ret
      exact ⟨rfl, rfl⟩
  · have HC := Lib.hid hc
    clear hc hv
    by_cases h16 : 16 < l.length
    · have Hout := Lib.hid (show bigB l = true by unfold bigB; simp [h16])
      have h16' : (16 : Int) < l.length := by omega
      rw [Hout.out]
      go_enter Try.func32, Try.ntmps32
      go_wp2_with fail
      go_ret
      exact ⟨rfl, rfl⟩
    · have h16' : ¬ (16 : Int) < l.length := by omega
      go_enter Try.func32, Try.ntmps32
      go_wp2_with fail
      go_loop [3] (fun i => ∃ k : Nat, k ≤ l.length ∧ i = .int .i64 k ∧ Hid (∀ j, j < k → (bAt l j).size = 128)) (fun i => l.length - (intOf i).toNat)
      case atStart => exact ⟨0, by omega, rfl, fun j hj => by omega⟩
      case round =>
        obtain ⟨k, hk, rfl, HJ⟩ := hrel
        by_cases hlt : k < l.length
        · have c1 := HC.out k hlt
          have i0 : (0 : Int) ≤ k := by omega
          have i1 : (k : Int) < l.length := by omega
          by_cases hg : (bAt l k).size = 128
          · have hg' : (((bAt l k).size : Int) != 128) = false := by simp [hg]
            have HJ2 : Hid (∀ j, j < k + 1 → (bAt l j).size = 128) := fun j hj => by
              rcases Nat.lt_or_ge j k with h | h
              · exact HJ j h
              · obtain rfl : j = k := by omega
                exact hg
            clear hg
            go_wp2_with fail
            go_round
            case rel => exact ⟨k + 1, by omega, by go_num, HJ2⟩
            case measure => simp [intOf]; omega
          · have hg' : (((bAt l k).size : Int) != 128) = true := by simpa using (by omega : ¬ ((bAt l k).size : Int) = 128)
            have Hout := Lib.hid (bigB_yes hlt hg)
            clear hg
            go_wp2_with fail
            go_ret
            exact ⟨by rw [Hout.out]; rfl, rfl⟩
        · have Hout := Lib.hid (bigB_all (by omega) (fun j hj => HJ.out j (by omega)))
          go_wp2_with fail
          go_ret
          exact ⟨by rw [Hout.out]; rfl, rfl⟩
end Go.Proofs.Ytlhcggaeecjbcaa
