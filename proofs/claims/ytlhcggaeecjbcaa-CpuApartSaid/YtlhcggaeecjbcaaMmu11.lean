/- The contracts of the reference's Copy, Load and Store. Condition: at most 100,000 frames. -/
import Derived.Test.YtlhcggaeecjbcaaMmu10
namespace Go.Proofs.Ytlhcggaeecjbcaa
open Go.RowKit
attribute [local go_sem ↓] loadVar_26
attribute [local go_sem] run_load26 aggAt_new aggAt_past aggAt_drew rowAt_new rowAt_past rowAt_drew

theorem copy_step {l : List ByteArray} {s : Nat → Pte} {a : Int} {j : Nat} {x : List UInt8} {b : UInt8} (h : copyFrom l s a j = some x) (hb : byteAt l s (a + j) = some b) : copyFrom l s a (j + 1) = some (x ++ [b]) := by
  rw [copyFrom_add, h, Option.bind_some]
  simp [copyFrom, hb]
theorem copy_fails {l : List ByteArray} {s : Nat → Pte} {a n : Int} {j : Nat} (hj : (j : Int) < n) (hb : byteAt l s (a + j) = none) : mcopy l s a n = none := by
  unfold mcopy
  split
  · rfl
  · rw [show n.toNat = j + ((n.toNat - j - 1) + 1) from by omega, copyFrom_add]
    cases copyFrom l s a j with
    | none => rfl
    | some x => simp [copyFrom, hb]

theorem byte_none {v : Value} {l : List ByteArray} {s : Nat → Pte} {a : Int} (w : World) (hv : Strs w v l) (h0 : 0 ≤ a) (h1 : a ≤ 4294967295) (h : byteAt l s a = none) :
    Calls Try.prog 44 #[v, .agg (spCells s), .int .u32 a] w fun e w' => e = .returned (.tuple #[.int .u8 0, .bool false]) ∧ Below w.heap.size w w' := by
  refine (byte_any v l s a w hv h0 h1).mono fun e w' x => ?_
  rw [h] at x; exact x
theorem byte_some {v : Value} {l : List ByteArray} {s : Nat → Pte} {a : Int} {b : UInt8} (w : World) (hv : Strs w v l) (h0 : 0 ≤ a) (h1 : a ≤ 4294967295) (h : byteAt l s a = some b) :
    Calls Try.prog 44 #[v, .agg (spCells s), .int .u32 a] w fun e w' => e = .returned (.tuple #[.int .u8 b.toNat, .bool true]) ∧ Below w.heap.size w w' := by
  refine (byte_any v l s a w hv h0 h1).mono fun e w' x => ?_
  rw [h] at x; exact x

theorem str_snoc (x : List UInt8) (b : UInt8) : (⟨x.toArray⟩ : ByteArray) ++ (⟨#[b]⟩ : ByteArray) = ⟨(x ++ [b]).toArray⟩ := by
  apply bl_ext
  rw [bl_append, bl_mk x, bl_mk (x ++ [b])]
  rfl

set_option maxHeartbeats 1000000 in
theorem rcopy_any (v : Value) (l : List ByteArray) (s : Nat → Pte) (a n : Int) (w : World) (hv : Strs w v l) (h0 : 0 ≤ a) (h1 : a ≤ 4294967295) :
    Calls Try.prog 20 #[v, .agg (spCells s), .int .u32 a, .int .i64 n] w fun e w' => e = .returned (copyOut (mcopy l s a n)) ∧ Below w.heap.size w w' := by
  by_cases hn0 : n < 0
  · have e0 : decide (n < 0) = true := by simpa using hn0
    have Hout := Lib.hid (show mcopy l s a n = none by unfold mcopy; rw [if_pos (.inl hn0)])
    go_enter Try.func20, Try.ntmps20
    go_wp2_with fail
    go_ret2
    exact copy_post (by rw [Hout.out]; rfl) (below_alloc _ _)
  · have e0 : decide (n < 0) = false := by simpa using hn0
    by_cases hn1 : 2048 < n
    · have e1 : decide (2048 < n) = true := by simpa using hn1
      have Hout := Lib.hid (show mcopy l s a n = none by unfold mcopy; rw [if_pos (.inr (by omega))])
      go_enter Try.func20, Try.ntmps20
      go_wp2_with fail
      go_ret2
      exact copy_post (by rw [Hout.out]; rfl) (below_alloc _ _)
    · have e1 : decide (2048 < n) = false := by simpa using hn1
      by_cases hs : 2048 < a + n
      · have e2 : decide (2048 < a + n) = true := by simpa using hs
        have Hout := Lib.hid (show mcopy l s a n = none by unfold mcopy; rw [if_pos (.inr hs)])
        go_enter Try.func20, Try.ntmps20
        go_wp2_with fail
        go_ret2
        exact copy_post (by rw [Hout.out]; rfl) (below_alloc _ _)
      · have e2 : decide (2048 < a + n) = false := by simpa using hs
        have e3 : decide (2048 < a) = false := by simp; omega
        have HV := Lib.hid hv
        clear hv
        go_enter Try.func20, Try.ntmps20
        go_wp2_with fail
        go_loopw [10, 11] (fun o i W => ∃ j : Nat, (j : Int) ≤ n ∧ i = .int .i64 j ∧ (∃ x, Hid (copyFrom l s a j = some x) ∧ o = .string ⟨x.toArray⟩) ∧ Hid (Below w.heap.size w W) ∧ Hid (W.heap[w.heap.size]? = some (.cells (spCells s) 26 (0, 0)))) (fun _ i _ => (n - intOf i).toNat)
        case atStart => exact ⟨0, by omega, rfl, ⟨[], rfl, rfl⟩, below_alloc _ _, heap_alloc_new _ _⟩
        case round =>
          obtain ⟨j, hj, rfl, ⟨x, HX, rfl⟩, HB, HS⟩ := hrel
          by_cases hlt : (j : Int) < n
          · have e4 : a + j ≤ 2048 := by omega
            obtain ⟨hag, hrw⟩ := agg_facts HS.out 48 (spCells_size s)
            cases hb : byteAt l s (a + j) with
            | none =>
              have Hout := Lib.hid (copy_fails hlt hb)
              have HC := Lib.hid hb
              clear hb
              go_wp2_with (go_at_call 44; refine (byte_none _ (HV.out.mono HB.out) (by omega) (by omega) HC.out).mono ?_; rintro e W2 ⟨rfl, hb2⟩)
              go_ret2
              exact copy_post (by rw [Hout.out]; rfl) (HB.out.trans (hb2.mono HB.out.size))
            | some b =>
              have HX2 := Lib.hid (copy_step HX.out hb)
              have HC := Lib.hid hb
              have HN := Lib.hid (copyFrom_length j HX.out)
              have hx1 : x.length ≤ 2048 := by have := HN.out; omega
              clear hb
              go_wp2_with (go_at_call 44; refine (byte_some _ (HV.out.mono HB.out) (by omega) (by omega) HC.out).mono ?_; rintro e W2 ⟨rfl, hb2⟩; have hconv := run_string_byte W2 b)
              go_roundw
              case rel => exact ⟨j + 1, by omega, by go_num, ⟨x ++ [b], HX2.out, by rw [str_snoc]⟩, (HB.out.trans (hb2.mono HB.out.size)).alloc (Nat.le_trans HB.out.size hb2.size) _, (Below.heap_alloc _ _ _ (Nat.lt_of_lt_of_le (heap_lt HS.out) hb2.size)).trans ((hb2.block _ (heap_lt HS.out)).trans HS.out)⟩
              case measure => simp [intOf]; omega
          · obtain rfl : n = (j : Int) := by omega
            have Hout := Lib.hid (show mcopy l s a j = some x by unfold mcopy; rw [if_neg (by omega), ← HX.out, Int.toNat_natCast])
            go_wp2_with fail
            go_ret2
            exact copy_post (by rw [Hout.out]; rfl) HB.out
end Go.Proofs.Ytlhcggaeecjbcaa
