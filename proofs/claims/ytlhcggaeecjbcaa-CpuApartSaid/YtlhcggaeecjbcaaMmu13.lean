/- The contracts of the reference's Same (of lists that are one), and of the statements' Great. Condition: a text of at most 2^47 bytes. -/
import Derived.Test.YtlhcggaeecjbcaaMmu12
import Derived.Deep.QuietTactic
import Derived.BigQuiet
namespace Go.Proofs.Ytlhcggaeecjbcaa
open Go.RowKit

theorem below_drewN {B : Nat} {a w : World} (h : Below B a w) (n : Nat) : Below B a (w.drewN n) := ⟨h.os, h.tape, h.output, h.size, h.block⟩

set_option maxHeartbeats 400000 in
theorem same_yes (u v : Value) (l : List ByteArray) (w : World) (hu : Strs w u l) (hv : Strs w v l) (hl : l.length ≤ 100000) :
    Calls Try.prog 23 #[u, v] w fun e w' => e = .returned (.bool true) ∧ Below w.heap.size w w' := by
  rcases hu.shape with ⟨rfl, a, cap, rfl, -⟩ | ⟨h0, b, o, cap, rfl, -, hb, hc⟩
  · obtain ⟨a2, cap2, rfl, -⟩ := hv.ex
    go_enter Try.func23, Try.ntmps23
    go_wp2_with fail
    go_loop [13] (fun i => i = .int .i64 0) (fun _ => 0)
    case atStart => rfl
    case round =>
      subst hrel
      go_wp2_with fail
      go_ret
      exact ⟨rfl, Below.refl _ _⟩
  · rcases hv.shape with ⟨rfl, -⟩ | ⟨-, b2, o2, cap2, rfl, -, hb2, hc2⟩
    · simp at h0
    · have HC := Lib.hid hc
      have HC2 := Lib.hid hc2
      clear hc hc2 hu hv
      go_enter Try.func23, Try.ntmps23
      go_wp2_with fail
      go_loopw [13] (fun i W => ∃ k : Nat, k ≤ l.length ∧ i = .int .i64 k ∧ Hid (Below w.heap.size w W)) (fun i _ => l.length - (intOf i).toNat)
      case atStart => exact ⟨0, by omega, rfl, Below.refl _ _⟩
      case round =>
        obtain ⟨k, hk, rfl, HB⟩ := hrel
        by_cases hlt : k < l.length
        · have c1 := (HB.out.cell (p := ⟨b, o + k, none⟩) hb).trans (HC.out k hlt)
          have c2 := (HB.out.cell (p := ⟨b2, o2 + k, none⟩) hb2).trans (HC2.out k hlt)
          have i0 : (0 : Int) ≤ k := by omega
          have i1 : (k : Int) < l.length := by omega
          go_wp2_with fail
          go_quiet (fail)
          go_wp2_with fail
          go_roundw
          case rel => exact ⟨k + 1, by omega, by go_num, below_drewN HB.out _⟩
          case measure => simp [intOf]; omega
        · go_wp2_with fail
          go_ret
          exact ⟨rfl, HB.out⟩

/-- How many bytes, and one more for each. -/
def tot : List ByteArray → Nat
  | [] => 0
  | x :: l => x.size + 1 + tot l
theorem tot_append (x y : List ByteArray) : tot (x ++ y) = tot x + tot y := by
  induction x with
  | nil => simp [tot]
  | cons a x ih => simp only [List.cons_append, tot, ih]; omega
theorem tot_take_succ (l : List ByteArray) (k : Nat) (h : k < l.length) : tot (l.take (k + 1)) = tot (l.take k) + ((bAt l k).size + 1) := by
  rw [List.take_succ_eq_append_getElem h, tot_append]
  simp [tot, bAt, List.getD, h]
theorem tot_take_le (l : List ByteArray) (k : Nat) : tot (l.take k) ≤ tot l := by
  have h := tot_append (l.take k) (l.drop k)
  rw [List.take_append_drop] at h
  omega
theorem tot_length (l : List ByteArray) : l.length ≤ tot l := by
  induction l with
  | nil => simp [tot]
  | cons x l ih => simp only [List.length_cons, tot]; omega
theorem tot_size (l : List ByteArray) (k : Nat) (h : k < l.length) : (bAt l k).size < tot l := by
  have h1 := tot_take_succ l k h
  have h2 := tot_take_le l (k + 1)
  omega

def greatB (l : List ByteArray) : Int := if tot l ≤ 5000 then 0 else 1

set_option maxHeartbeats 400000 in
theorem great_any (v : Value) (l : List ByteArray) (w : World) (hv : Strs w v l) (hs : Hid (∀ i, (bAt l i).size ≤ 140737488351232)) (hl : Hid (l.length ≤ 140737488351232)) :
    Calls Try.prog 18 #[v] w fun e w' => e = .returned (.int .i64 (greatB l)) ∧ w = w' := by
  have hl' : l.length ≤ 9223372036854775807 := by have := hl.out; omega
  rcases hv.shape with ⟨rfl, a, cap, rfl, -⟩ | ⟨h0, b, o, cap, rfl, -, hb, hc⟩
  · go_enter Try.func18, Try.ntmps18
    go_wp2_with fail
    go_loop [3, 8] (fun n i => n = .int .i64 0 ∧ i = .int .i64 0) (fun _ _ => 0)
    case atStart => exact ⟨rfl, rfl⟩
    case round =>
      obtain ⟨rfl, rfl⟩ := hrel
      go_wp2_with fail
      go_ret
      exact ⟨rfl, rfl⟩
  · have HC := Lib.hid hc
    clear hc hv
    go_enter Try.func18, Try.ntmps18
    go_wp2_with fail
    go_loop [3, 8] (fun n i => ∃ k : Nat, k ≤ l.length ∧ i = .int .i64 k ∧ n = .int .i64 (tot (l.take k)) ∧ tot (l.take k) ≤ 5000) (fun _ i => l.length - (intOf i).toNat)
    case atStart => exact ⟨0, by omega, rfl, rfl, by simp [tot]⟩
    case round =>
      obtain ⟨k, hk, rfl, rfl, ht⟩ := hrel
      by_cases hlt : k < l.length
      · have c1 := HC.out k hlt
        have i0 : (0 : Int) ≤ k := by omega
        have i1 : (k : Int) < l.length := by omega
        have hsz : (bAt l k).size ≤ 140737488351232 := hs.out k
        have HT := Lib.hid (tot_take_succ l k hlt)
        by_cases hg : 5000 < tot (l.take k) + ((bAt l k).size + 1)
        · have Hout := Lib.hid (show greatB l = 1 by unfold greatB; rw [if_neg]; have := tot_take_le l (k + 1); have := HT.out; omega)
          have hg' : (5000 : Int) < (tot (l.take k) : Int) + (((bAt l k).size : Int) + 1) := by omega
          go_wp2_with fail
          go_ret
          exact ⟨by rw [Hout.out]; rfl, rfl⟩
        · have hg' : ¬ ((5000 : Int) < (tot (l.take k) : Int) + (((bAt l k).size : Int) + 1)) := by omega
          go_wp2_with fail
          go_round
          case rel => exact ⟨k + 1, by omega, by go_num, congrArg (Value.int .i64) (by rw [HT.out]; omega), by rw [HT.out]; omega⟩
          case measure => simp [intOf]; omega
      · have Hout := Lib.hid (show greatB l = 0 by unfold greatB; rw [if_pos]; rw [List.take_of_length_le (by omega)] at ht; exact ht)
        go_wp2_with fail
        go_ret
        exact ⟨by rw [Hout.out]; rfl, rfl⟩
end Go.Proofs.Ytlhcggaeecjbcaa
