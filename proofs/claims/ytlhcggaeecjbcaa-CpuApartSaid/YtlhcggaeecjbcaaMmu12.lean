/- The contracts of the reference's Load and Store. Condition: at most 100,000 frames. -/
import Derived.Test.YtlhcggaeecjbcaaMmu11
namespace Go.Proofs.Ytlhcggaeecjbcaa
open Go.RowKit
attribute [local go_sem ↓] loadVar_26
attribute [local go_sem] run_load26 aggAt_new aggAt_past aggAt_drew rowAt_new rowAt_past rowAt_drew spCells_size

theorem load_fails {l : List ByteArray} {s : Nat → Pte} {a size : Int} {j : Nat} (hj : (j : Int) < size) (hb : byteAt l s (a + j) = none) : mload l s a size = none := by
  unfold mload
  split
  · rw [show size.toNat = j + ((size.toNat - j - 1) + 1) from by omega, copyFrom_add]
    cases copyFrom l s a j with
    | none => rfl
    | some x => simp [copyFrom, hb]
  · rfl

theorem mload_of {l : List ByteArray} {s : Nat → Pte} {a size : Int} {f k : Int} {y : List UInt8} (h : mfind s a size false = some (f, k)) (hy : copyFrom l s a size.toNat = some y) : mload l s a size = some (leVal y) := by
  obtain ⟨h1, _, h3, _⟩ := mfind_some h
  unfold mload
  rw [if_pos ⟨h1, h3⟩, hy, Option.map_some]

theorem leVal_small {y : List UInt8} (h : y.length ≤ 3) : leVal y ≤ 16777215 := by
  have h1 := leVal_lt y
  have h2 : 2 ^ (8 * y.length) ≤ 2 ^ 24 := Nat.pow_le_pow_right (by decide) (by omega)
  have h3 : (2 : Nat) ^ 24 = 16777216 := rfl
  omega

set_option maxHeartbeats 1000000 in
theorem rload_any (v : Value) (l : List ByteArray) (s : Nat → Pte) (a size : Int) (w : World) (hv : Strs w v l) (h0 : 0 ≤ a) (h1 : a ≤ 4294967295) :
    Calls Try.prog 28 #[v, .agg (spCells s), .int .u32 a, .int .i64 size] w fun e w' => e = .returned (loadOut (mload l s a size)) ∧ Below w.heap.size w w' := by
  cases hf : mfind s a size false with
  | none =>
    have Hout := Lib.hid (mload_none (l := l) hf)
    have HF := Lib.hid hf
    clear hf
    go_enter Try.func28, Try.ntmps28
    go_wp2_with (go_at_call 27; refine (rfind_none _ h0 h1 HF.out).mono ?_; rintro e w1 ⟨rfl, hb⟩)
    go_ret2
    refine load_post ?_ (((Below.refl _ _).alloc (Nat.le_refl _) _).trans (hb.mono (by simp)))
    rw [Hout.out]; rfl
  | some p =>
    obtain ⟨f, k⟩ := p
    have HF := Lib.hid hf
    have HV := Lib.hid hv
    obtain ⟨m1, m2, -⟩ := mfind_some hf
    have z0 : 1 ≤ size := by omega
    have z1 : size ≤ 4 := by omega
    clear hf hv m1
    go_enter Try.func28, Try.ntmps28
    go_wp2_with (go_at_call 27; refine (rfind_some _ h0 h1 HF.out).mono ?_; rintro e w1 ⟨rfl, hb⟩)
    have HS1 := Lib.hid ((hb.block w.heap.size (by simp)).trans (heap_alloc_new w (.cells (spCells s) 26)))
    have HB1 := Lib.hid ((below_alloc w (.cells (spCells s) 26)).trans (hb.mono (by simp)))
    clear hb
    go_loopw [13, 14] (fun o i W => ∃ m : Nat, (m : Int) ≤ size ∧ i = .int .i64 ((m : Int) - 1) ∧ (∃ y, Hid (copyFrom l s (a + m) (size.toNat - m) = some y) ∧ o = .int .u32 (leVal y)) ∧ Hid (Below w.heap.size w W) ∧ Hid (W.heap[w.heap.size]? = some (.cells (spCells s) 26 (0, 0)))) (fun _ i _ => (intOf i + 1).toNat)
    case atStart => exact ⟨size.toNat, by omega, congrArg (Value.int .i64) (by omega), ⟨[], by rw [Nat.sub_self]; rfl, rfl⟩, HB1, HS1⟩
    case round =>
      obtain ⟨m, hm, rfl, ⟨y, HY, rfl⟩, HB, HS⟩ := hrel
      by_cases hlt : 1 ≤ m
      · obtain ⟨q, rfl⟩ : ∃ q, m = q + 1 := ⟨m - 1, by omega⟩
        obtain ⟨hag, hrw⟩ := agg_facts HS.out 48 (spCells_size s)
        have hyl : y.length ≤ 3 := by have := copyFrom_length _ HY.out; omega
        have hy3 := leVal_small hyl
        cases hb : byteAt l s (a + q) with
        | none =>
          have Hout := Lib.hid (load_fails (size := size) (j := q) (by omega) hb)
          have HC := Lib.hid hb
          clear hb
          go_wp2_with (go_at_call 44; refine (byte_none _ (HV.out.mono HB.out) (by omega) (by omega) HC.out).mono ?_; rintro e W2 ⟨rfl, hb2⟩)
          go_ret2
          exact load_post (by rw [Hout.out]; rfl) (HB.out.trans (hb2.mono HB.out.size))
        | some b =>
          have HC := Lib.hid hb
          have HY2 : Hid (copyFrom l s (a + q) (size.toNat - q) = some (b :: y)) := by
            show copyFrom l s (a + q) (size.toNat - q) = some (b :: y)
            rw [show size.toNat - q = (size.toNat - (q + 1)) + 1 from by omega]
            simp only [copyFrom, hb, Option.bind_some]
            rw [show a + (q : Int) + 1 = a + ((q + 1 : Nat) : Int) from by omega, HY.out]
            rfl
          have hb255 : b.toNat < 256 := b.toNat_lt
          clear hb
          go_wp2_with (go_at_call 44; refine (byte_some _ (HV.out.mono HB.out) (by omega) (by omega) HC.out).mono ?_; rintro e W2 ⟨rfl, hb2⟩)
          go_roundw
          case rel => exact ⟨q, by omega, congrArg (Value.int .i64) (by omega), ⟨b :: y, HY2, congrArg (Value.int .u32) (by simp only [leVal]; omega)⟩, HB.out.trans (hb2.mono HB.out.size), (hb2.block _ (heap_lt HS.out)).trans HS.out⟩
          case measure => simp [intOf]
      · obtain rfl : m = 0 := by omega
        have Hout := Lib.hid (mload_of HF.out (by have h := HY.out; rw [Nat.sub_zero, Int.natCast_zero, Int.add_zero] at h; exact h))
        go_wp2_with fail
        go_ret2
        exact load_post (by rw [Hout.out]; rfl) HB.out

def shr (n j : Nat) : Nat := n / 256 ^ j
theorem shr_zero (n : Nat) : shr n 0 = n := by simp [shr]
theorem shr_succ (n j : Nat) : shr n (j + 1) = shr n j / 256 := by simp only [shr]; rw [Nat.div_div_eq_div_mul, Nat.pow_succ]
theorem shr_le (n j : Nat) : shr n j ≤ n := Nat.div_le_self _ _
theorem shr_byte (n j : Nat) : ∃ b : UInt8, ((shr n j : Nat) : Int) % 256 = (b.toNat : Int) ∧ leBytes (j + 1) n = leBytes j n ++ [b] := by
  refine ⟨UInt8.ofNat (shr n j % 256), ?_, leBytes_succ j n⟩
  rw [UInt8.toNat_ofNat', show (2:Nat) ^ 8 = 256 from rfl, Nat.mod_mod]
  omega

set_option maxHeartbeats 1000000 in
theorem rstore_any (v : Value) (l : List ByteArray) (s : Nat → Pte) (a size : Int) (n : Nat) (w : World) (hv : Strs w v l) (hl : l.length ≤ 100000) (h0 : 0 ≤ a) (h1 : a ≤ 4294967295) (hn : n ≤ 4294967295) :
    Calls Try.prog 30 #[v, .agg (spCells s), .int .u32 a, .int .i64 size, .int .u32 n] w (LayPost (mstore l s a size n) w) := by
  cases hf : mfind s a size true with
  | none =>
    have Hout := Lib.hid (mstore_none (l := l) (n := n) hf)
    have HF := Lib.hid hf
    clear hf
    go_enter Try.func30, Try.ntmps30
    go_wp2_with (go_at_call 27; refine (rfind_none _ h0 h1 HF.out).mono ?_; rintro e w1 ⟨rfl, hb⟩)
    go_ret2
    rw [Hout.out]
    exact layPost_none (((Below.refl _ _).alloc (Nat.le_refl _) _).trans (hb.mono (by simp)))
  | some p =>
    obtain ⟨f, k⟩ := p
    have HF := Lib.hid hf
    have HV := Lib.hid hv
    obtain ⟨m1, m2, m3, -⟩ := mfind_some hf
    have Hout : Hid (mstore l s a size n = mlay l s a (leBytes size.toNat n)) := by
      show mstore l s a size n = mlay l s a (leBytes size.toNat n)
      unfold mstore mlay
      rw [if_pos ⟨m1, m3⟩, if_neg]
      rw [leBytes_length]
      rcases m1 with h | h
      · omega
      · rw [h] at m3 ⊢; omega
    have z0 : 1 ≤ size := by omega
    have z1 : size ≤ 4 := by omega
    obtain ⟨size', rfl⟩ := Int.eq_ofNat_of_zero_le (show 0 ≤ size by omega)
    clear hf hv m1 m3
    go_enter Try.func30, Try.ntmps30
    go_wp2_with (go_at_call 27; refine (rfind_some _ h0 h1 HF.out).mono ?_; rintro e w1 ⟨rfl, hb⟩)
    have HS1 := Lib.hid ((hb.block w.heap.size (by simp)).trans (heap_alloc_new w (.cells (spCells s) 26)))
    have HB1 := Lib.hid ((below_alloc w (.cells (spCells s) 26)).trans (hb.mono (by simp)))
    clear hb
    go_loopw [15, 16, 4] (fun o i x W => ∃ j : Nat, j ≤ size' ∧ i = .int .i64 j ∧ o = .string ⟨(leBytes j n).toArray⟩ ∧ x = .int .u32 (shr n j) ∧ Hid (Below w.heap.size w W) ∧ Hid (W.heap[w.heap.size]? = some (.cells (spCells s) 26 (0, 0)))) (fun _ i _ _ => size' - (intOf i).toNat)
    case atStart => exact ⟨0, by omega, rfl, rfl, by rw [shr_zero], HB1, HS1⟩
    case round =>
      obtain ⟨j, hj, rfl, rfl, rfl, HB, HS⟩ := hrel
      by_cases hlt : j < size'
      · have hlen : (leBytes j n).length ≤ 8 := by rw [leBytes_length]; omega
        have hsh := shr_le n j
        obtain ⟨b, eb, hb⟩ := shr_byte n j
        have HL := Lib.hid hb
        clear hb
        have hconv := run_string_byte wr b
        go_wp2_with fail
        go_roundw
        case rel => exact ⟨j + 1, by omega, by go_num, by rw [HL.out, str_snoc], by rw [shr_succ]; rfl, HB.out.alloc HB.out.size _, (Below.heap_alloc _ _ _ (heap_lt HS.out)).trans HS.out⟩
        case measure => simp [intOf]; omega
      · obtain rfl : j = size' := by omega
        obtain ⟨hag, hrw⟩ := agg_facts HS.out 48 (spCells_size s)
        go_wp2_with (go_at_call 22; refine (rlay_any v l s a ⟨(leBytes j n).toArray⟩ _ (HV.out.mono HB.out) hl h0 h1 (by rw [← bl_length, bl_mk, leBytes_length]; omega)).mono ?_; rintro e W2 ⟨hb2, v2, rfl, hs2⟩)
        go_ret2
        rw [Hout.out]
        rw [bl_mk] at hs2
        exact ⟨HB.out.trans (hb2.mono HB.out.size), v2, rfl, hs2⟩
end Go.Proofs.Ytlhcggaeecjbcaa
