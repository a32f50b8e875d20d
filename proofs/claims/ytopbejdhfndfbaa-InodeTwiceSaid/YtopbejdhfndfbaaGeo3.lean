/- Contracts of the reference's Put at two bytes, of block 0, and of the map's test. No condition. -/
import Derived.Test.YtopbejdhfndfbaaGeo2
import Derived.Deep.RegionHeld3
namespace Go.Proofs.Ytopbejdhfndfbaa
open Go.RowKit
set_option maxRecDepth 20000
attribute [local go_sem ↓] loadVar_24 storeVar_24
attribute [local go_sem] run_load24 run_store24 aggAt_new aggAt_past aggAt_drew rowAt_new rowAt_past rowAt_drew rowOpen_new rowOpen_past rowOpen_drew setRow_made' alloc_setRow

theorem run_string_byte (w : World) (n : Nat) : (convert 77 9 (.slice (some ⟨w.heap.size, 0, none⟩) 1 1)).run Try.prog (w.alloc (.cells #[.int .u8 ((n : Int) % 256)] 5)) = .ok (.string ⟨#[UInt8.ofNat (n % 256)]⟩) (w.alloc (.cells #[.int .u8 ((n : Int) % 256)] 5)) := by
  have e : (n : Int) % 256 = ((UInt8.ofNat (n % 256)).toNat : Int) := by
    rw [UInt8.toNat_ofNat']
    have : n % 256 % 2 ^ 8 = n % 256 := Nat.mod_eq_of_lt (Nat.mod_lt _ (by decide))
    rw [this]
    omega
  rw [e]
  have := run_string_of_bytes w [UInt8.ofNat (n % 256)] 1 rfl
  exact this
set_option maxHeartbeats 1000000 in
theorem rput_any (n : Nat) (w : World) (hn : n ≤ 18446744073709551615) :
    Calls Try.prog 68 #[.int .u64 n, .int .i64 2] w fun e w' => e = .returned (.string ⟨(leBytes 2 n).toArray⟩) ∧ Below w.heap.size w w' := by
  go_enter Try.func68, Try.ntmps68
  go_wp2_with fail
  go_loopw [0, 5, 6] (fun v s i W => ∃ k : Nat, k ≤ 2 ∧ i = .int .i64 k ∧ v = .int .u64 (n / 256 ^ k : Nat) ∧ s = .string ⟨(leBytes k n).toArray⟩ ∧ Hid (Below w.heap.size w W)) (fun _ _ i _ => 2 - (intOf i).toNat)
  case atStart => exact ⟨0, by omega, rfl, by simp, rfl, Below.refl _ _⟩
  case round =>
    obtain ⟨k, hk, rfl, rfl, rfl, HB⟩ := hrel
    by_cases hlt : k < 2
    · have hz : (⟨(leBytes k n).toArray⟩ : ByteArray) ++ ⟨#[UInt8.ofNat (n / 256 ^ k % 256)]⟩ = ⟨(leBytes (k + 1) n).toArray⟩ := bl_ext (by rw [bl_append, bl_mk, bl_mk, leBytes_succ]; rfl)
      have hd : n / 256 ^ k / 256 = n / 256 ^ (k + 1) := by rw [Nat.div_div_eq_div_mul, Nat.pow_succ]
      have hle : n / 256 ^ k ≤ n := Nat.div_le_self _ _
      have hs : (⟨(leBytes k n).toArray⟩ : ByteArray).size = k := by rw [← bl_length, bl_mk, leBytes_length]
      have hdI : ((n / 256 ^ k : Nat) : Int) / 256 = ((n / 256 ^ (k + 1) : Nat) : Int) := by rw [← hd]; rfl
      clear hd
      have HD := Lib.hid hdI
      clear hdI
      obtain ⟨n2, hn2⟩ : ∃ n2, n / 256 ^ (k + 1) = n2 := ⟨_, rfl⟩
      have HN := Lib.hid hn2
      rw [hn2] at HD
      clear hn2
      generalize n / 256 ^ k = n1 at hz hle HD
      have hconv := run_string_byte wr n1
      go_wp2_with fail
      go_roundw
      case rel => exact ⟨k + 1, by omega, by go_num, by rw [HN.out]; exact congrArg (Value.int .u64) HD.out, rfl, HB.out.alloc HB.out.size _⟩
      case measure => simp [intOf]; omega
    · obtain rfl : k = 2 := by omega
      go_wp2_with fail
      go_ret
      exact ⟨rfl, HB.out⟩

set_option maxHeartbeats 400000 in
theorem put_exact (n size : Nat) (w : World) (hs : size ≤ 8) :
    Calls Try.prog 67 #[.int .u64 n, .int .i64 size] w fun e w' => e = .returned (.string ⟨(leBytes size n).toArray⟩) ∧ w.alloc (.cells (byteCells (leBytes size n)) 5) = w' := by
  have hs' : ¬ (8 < (size : Int)) := by omega
  have hs0 : ¬ ((size : Int) < 0) := by omega
  have hmin : min (size : Int) 8 = size := by omega
  have hmk := run_make_bytes size (by omega)
  go_enter Try.func67, Try.ntmps67
  go_wp2
  go_loopw [6, 13] (fun v i wr => ∃ k : Nat, k ≤ size ∧ i = .int .i64 k ∧ wr = w.alloc (.cells (putCells n size k) 5)) (fun _ i _ => size - (intOf i).toNat)
  case atStart => exact ⟨0, Nat.zero_le _, rfl, rfl⟩
  case round =>
    obtain ⟨k, hk, rfl, rfl⟩ := hrel
    by_cases hlt : k < size
    · have hget := putCells_get n size k hlt
      have HS := Lib.hid (putCells_set n size k hlt)
      go_wp2
      go_roundw
      case rel => exact ⟨k + 1, by omega, by go_num, by rw [HS.out]⟩
      case measure => simp [intOf]; omega
    · obtain rfl : k = size := by omega
      have hconv := run_string_of_bytes w (leBytes k n) k (leBytes_length k n)
      rw [← putCells_full] at hconv
      go_wp2
      go_ret
      exact ⟨rfl, by rw [putCells_full]⟩
end Go.Proofs.Ytopbejdhfndfbaa
