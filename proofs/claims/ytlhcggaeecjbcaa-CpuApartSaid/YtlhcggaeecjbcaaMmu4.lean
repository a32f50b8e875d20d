/- The contract of mmu.walk, for whatever it hands each piece on to. -/
import Derived.Test.YtlhcggaeecjbcaaMmu3
namespace Go.Proofs.Ytlhcggaeecjbcaa
open Go.RowKit

/-- How a walk over pages ends: through all bytes, or at the first page that isn't there. -/
def WalkEnd (L : Nat → List ByteArray) (I : Nat → World → Prop) (s : Nat → Pte) (a n : Int) (wt : Bool) (w : World) (row : Nat) (e : Ending) (w' : World) : Prop :=
  w.grownBy w' (some row) ∧ ((e = .returned (.bool true) ∧ 0 ≤ n ∧ a + n ≤ 2048 ∧ I n.toNat w') ∨
    (e = .returned (.bool false) ∧ (n < 0 ∨ 2048 < a + n ∨ ∃ j : Nat, (j : Int) < n ∧ hit (L j) s wt (a + j) = none)))

theorem grownBy_trans {w w1 w2 : World} {row : Option Nat} (h : w.grownBy w1 row) (k : w1.grownBy w2 row) : w.grownBy w2 row :=
  ⟨k.os.trans h.os, k.tape.trans h.tape, k.output.trans h.output, Nat.le_trans h.size k.size, fun i hi hn => (k.block i (Nat.lt_of_lt_of_le hi h.size) hn).trans (h.block i hi hn)⟩
theorem grownBy_below {w w1 w2 : World} {row : Option Nat} (h : w.grownBy w1 row) (k : Below w1.heap.size w1 w2) : w.grownBy w2 row :=
  grownBy_trans h ⟨k.os, k.tape, k.output, k.size, fun i hi _ => k.block i hi⟩
theorem grownBy_refl (w : World) (row : Option Nat) : w.grownBy w row := ⟨rfl, rfl, rfl, Nat.le_refl _, fun _ _ _ => rfl⟩
theorem below_alloc (w : World) (o : Obj) : Below w.heap.size w (w.alloc o) := (Below.refl _ _).alloc (Nat.le_refl _) _

theorem walk_false {L : Nat → List ByteArray} {I : Nat → World → Prop} {s : Nat → Pte} {a n : Int} {wt : Bool} {w w' : World} {row : Nat} (hg : w.grownBy w' (some row))
    (h : n < 0 ∨ 2048 < a + n ∨ ∃ j : Nat, (j : Int) < n ∧ hit (L j) s wt (a + j) = none) : WalkEnd L I s a n wt w row (.returned (.bool false)) w' := ⟨hg, .inr ⟨rfl, h⟩⟩

set_option maxHeartbeats 1000000 in
theorem walk_any (fid : FuncId) (c1 c2 v : Value) (s : Nat → Pte) (a n : Int) (wt : Bool) (w : World) (row : Nat) (L : Nat → List ByteArray) (I : Nat → World → Prop)
    (hfn : ∀ (args : Array Value) (W : World), (callFunc fid args).run Try.prog W = .ok (.enter fid args) W) (hrow : row < w.heap.size) (hI0 : Hid (I 0 w)) (hIb : Hid (∀ j w1 w2, I j w1 → Below w1.heap.size w1 w2 → I j w2)) (hS : Hid (∀ j w1, I j w1 → Strs w1 v (L j)))
    (hcl : Hid (∀ (j f k m : Nat) w1, I j w1 → (j : Int) < n → hit (L j) s wt (a + j) = some (f, k) → (m : Int) = min (128 - (k : Int)) (n - (j : Int)) →
      Calls Try.prog fid #[.int .i64 f, .int .i64 k, .int .i64 j, .int .i64 (j + m : Nat), c1, c2] w1 fun e w' => e = .returned (.tuple #[]) ∧ w1.grownBy w' (some row) ∧ I (j + m) w'))
    (h0 : 0 ≤ a) (h1 : a ≤ 4294967295) :
    Calls Try.prog 42 #[v, .agg (spCells s), .int .u32 a, .int .i64 n, .bool wt, .func (.func fid) #[] #[c1, c2]] w (WalkEnd L I s a n wt w row) := by
  by_cases hn0 : n < 0
  · have e0 : decide (n < 0) = true := by simpa using hn0
    go_enter Try.func42, Try.ntmps42
    go_wp2_with fail
    go_ret
    exact walk_false (grownBy_below (grownBy_refl _ _) (below_alloc _ _)) (.inl hn0)
  · have e0 : decide (n < 0) = false := by simpa using hn0
    by_cases ha : 2048 < a
    · have e1 : decide (2048 < a) = true := by simpa using ha
      go_enter Try.func42, Try.ntmps42
      go_wp2_with fail
      go_ret
      exact walk_false (grownBy_below (grownBy_refl _ _) (below_alloc _ _)) (.inr (.inl (by omega)))
    · have e1 : decide (2048 < a) = false := by simpa using ha
      by_cases hn : 2048 - a < n
      · have e2 : decide (2048 - a < n) = true := by simpa using hn
        go_enter Try.func42, Try.ntmps42
        go_wp2_with fail
        go_ret
        exact walk_false (grownBy_below (grownBy_refl _ _) (below_alloc _ _)) (.inr (.inl (by omega)))
      · have e2 : decide (2048 - a < n) = false := by simpa using hn
        go_enter Try.func42, Try.ntmps42
        go_wp2_with fail
        go_loopw [13] (fun i W => ∃ j : Nat, (j : Int) ≤ n ∧ i = .int .i64 j ∧ Hid (I j W) ∧ Hid (w.grownBy W (some row)) ∧ Hid (W.heap[w.heap.size]? = some (.cells (spCells s) 26 (0, 0))) ∧ w.heap.size < W.heap.size) (fun i _ => (n - intOf i).toNat)
        case atStart => exact ⟨0, by omega, rfl, hIb.out _ _ _ hI0.out (below_alloc _ _), grownBy_below (grownBy_refl _ _) (below_alloc _ _), heap_alloc_new _ _, by simp⟩
        case round =>
          obtain ⟨j, hj, rfl, HI, HG, HB, hsz⟩ := hrel
          by_cases hlt : (j : Int) < n
          · have e3 : a + j ≤ 2048 := by omega
            cases hf : mfind s (a + j) 1 wt with
            | none =>
              have HF := Lib.hid hf
              have HN := Lib.hid (hit_none (l := L j) hf)
              clear hf
              go_wp2_with (first | ((with_reducible refine wpList_load_space s w.heap.size ?_ ?_ ?_ ?_); rfl; rfl; exact HB.out) | (go_at_call 26; refine (find_none _ (by omega) (by omega) HF.out).mono ?_; rintro e w1 ⟨rfl, hb⟩))
              go_ret
              exact walk_false (grownBy_below HG.out hb) (.inr (.inr ⟨j, hlt, HN.out⟩))
            | some p =>
              obtain ⟨f, k⟩ := p
              cases ht : thereB (L j) f with
              | false =>
                have HF := Lib.hid hf
                have HT := Lib.hid ht
                have HN := Lib.hid (hit_not (l := L j) hf ht)
                clear hf ht
                go_wp2_with (first | ((with_reducible refine wpList_load_space s w.heap.size ?_ ?_ ?_ ?_); rfl; rfl; exact HB.out) | (go_at_call 26; refine (find_some _ (by omega) (by omega) HF.out).mono ?_; rintro e w1 ⟨rfl, hb⟩) | (go_at_call 49; refine (there_is _ ((hS.out _ _ HI.out).mono hb) HT.out).mono ?_; rintro e w2 ⟨rfl, rfl⟩))
                go_ret
                exact walk_false (grownBy_below HG.out hb) (.inr (.inr ⟨j, hlt, HN.out⟩))
              | true =>
                have HF := Lib.hid hf
                have HT := Lib.hid ht
                have HH := Lib.hid (hit_of hf ht)
                obtain ⟨t0, t1, t2⟩ := thereB_lt ht
                obtain ⟨-, -, -, -, -, -, m7⟩ := mfind_some hf
                have k0 : 0 ≤ k := by omega
                have k1 : k < 128 := by omega
                obtain ⟨f', rfl⟩ := Int.eq_ofNat_of_zero_le t0
                obtain ⟨k', rfl⟩ := Int.eq_ofNat_of_zero_le k0
                clear hf ht t1 t2 m7
                by_cases hm : n < (j : Int) + 128 - k'
                · have HC : Hid (∀ w1, I j w1 → Calls Try.prog fid #[.int .i64 f', .int .i64 k', .int .i64 j, .int .i64 n, c1, c2] w1 fun e w' => e = .returned (.tuple #[]) ∧ w1.grownBy w' (some row) ∧ I n.toNat w') := by
                    intro w1 hI
                    have h := hcl.out j f' k' (n.toNat - j) w1 hI hlt HH.out (by omega)
                    rw [show ((j + (n.toNat - j) : Nat) : Int) = n by omega, show j + (n.toNat - j) = n.toNat by omega] at h
                    exact h
                  go_wp2_with (first | ((with_reducible refine wpList_load_space s w.heap.size ?_ ?_ ?_ ?_); rfl; rfl; exact HB.out) | (go_at_call 26; refine (find_some _ (by omega) (by omega) HF.out).mono ?_; rintro e w1 ⟨rfl, hb⟩) | (go_at_call 49; refine (there_is _ ((hS.out _ _ HI.out).mono hb) HT.out).mono ?_; rintro e w2 ⟨rfl, rfl⟩))
                  refine (HC.out _ (hIb.out _ _ _ HI.out hb)).mono ?_
                  rintro e w2 ⟨rfl, hg, hI⟩
                  have HI2 := Lib.hid hI
                  have HG2 := Lib.hid (grownBy_trans (grownBy_below HG.out hb) hg)
                  have HB2 := Lib.hid ((hg.block w.heap.size (Nat.lt_of_lt_of_le hsz hb.size) (by simp; omega)).trans ((hb.block w.heap.size hsz).trans HB.out))
                  have hsz2 : w.heap.size < w2.heap.size := Nat.lt_of_lt_of_le (Nat.lt_of_lt_of_le hsz hb.size) hg.size
                  clear hI hg
                  go_wp2_with fail
                  go_roundw
                  case rel => exact ⟨n.toNat, by omega, by rw [Int.toNat_of_nonneg (by omega)], HI2, HG2, HB2, hsz2⟩
                  case measure => simp [intOf]; omega
                · have HC : Hid (∀ w1, I j w1 → Calls Try.prog fid #[.int .i64 f', .int .i64 k', .int .i64 j, .int .i64 (j + 128 - k'), c1, c2] w1 fun e w' => e = .returned (.tuple #[]) ∧ w1.grownBy w' (some row) ∧ I (j + 128 - k') w') := by
                    intro w1 hI
                    have h := hcl.out j f' k' (128 - k') w1 hI hlt HH.out (by omega)
                    rw [show ((j + (128 - k') : Nat) : Int) = (j : Int) + 128 - k' by omega, show j + (128 - k') = j + 128 - k' by omega] at h
                    exact h
                  go_wp2_with (first | ((with_reducible refine wpList_load_space s w.heap.size ?_ ?_ ?_ ?_); rfl; rfl; exact HB.out) | (go_at_call 26; refine (find_some _ (by omega) (by omega) HF.out).mono ?_; rintro e w1 ⟨rfl, hb⟩) | (go_at_call 49; refine (there_is _ ((hS.out _ _ HI.out).mono hb) HT.out).mono ?_; rintro e w2 ⟨rfl, rfl⟩))
                  refine (HC.out _ (hIb.out _ _ _ HI.out hb)).mono ?_
                  rintro e w2 ⟨rfl, hg, hI⟩
                  have HI2 := Lib.hid hI
                  have HG2 := Lib.hid (grownBy_trans (grownBy_below HG.out hb) hg)
                  have HB2 := Lib.hid ((hg.block w.heap.size (Nat.lt_of_lt_of_le hsz hb.size) (by simp; omega)).trans ((hb.block w.heap.size hsz).trans HB.out))
                  have hsz2 : w.heap.size < w2.heap.size := Nat.lt_of_lt_of_le (Nat.lt_of_lt_of_le hsz hb.size) hg.size
                  clear hI hg
                  go_wp2_with fail
                  go_roundw
                  case rel => exact ⟨j + 128 - k', by omega, congrArg (Value.int .i64) (by omega), HI2, HG2, HB2, hsz2⟩
                  case measure => simp [intOf]; omega
          · have e3 : decide ((j : Int) < n) = false := by simpa using hlt
            obtain rfl : n = (j : Int) := by omega
            go_wp2_with fail
            go_ret
            exact ⟨HG.out, .inl ⟨rfl, by omega, by omega, HI.out⟩⟩
end Go.Proofs.Ytlhcggaeecjbcaa
