/- Contracts of the small functions of geom, num and of the references: bits, zeros, numbers as bytes. No condition. -/
import Derived.Test.YtopbejdhfndfbaaBase
import Derived.Test.YtopbejdhfndfbaaGeoP
import Derived.Lib.SlBuf
import Derived.Lib.BufferWrite
namespace Go.Proofs.Ytopbejdhfndfbaa
open Go.RowKit
set_option maxRecDepth 20000
set_option maxHeartbeats 400000 in
theorem get_any (s : ByteArray) (w : World) (hs : s.size ≤ 8) :
    Calls Try.prog 50 #[.string s] w fun e w' => e = .returned (.int .u64 (leVal (bl s))) ∧ w = w' := by
  have hs' : ¬ (8 < s.size) := by omega
  go_enter Try.func50, Try.ntmps50
  go_wp2
  go_loop [3, 8] (fun n i => ∃ k : Nat, k ≤ s.size ∧ i = .int .i64 k ∧ n = .int .u64 (leVal ((bl s).take k))) (fun _ i => s.size - (intOf i).toNat)
  case atStart => exact ⟨0, Nat.zero_le _, rfl, rfl⟩
  case round =>
    obtain ⟨k, hk, rfl, rfl⟩ := hrel
    by_cases hlt : k < s.size
    · have hn := leVal_lt ((bl s).take k)
      rw [List.length_take, bl_length, Nat.min_eq_left hk] at hn
      have HE := Lib.hid (or_le k (by omega) _ hn s[k])
      have HT := Lib.hid (leVal_take_succ (bl s) k (by rw [bl_length]; exact hlt))
      clear hn
      go_wp2
      go_round
      case rel => exact ⟨k + 1, by omega, by go_num, by rw [HT.out]; exact congrArg (Value.int .u64) HE.out⟩
      case measure => simp [intOf]; omega
    · go_wp2
      go_ret
      exact ⟨ret_int (by rw [List.take_of_length_le (by rw [bl_length]; omega)]), rfl⟩
def byteCells (l : List UInt8) : Array Value := (l.map fun (b : UInt8) => Value.int .u8 b.toNat).toArray
theorem info5 : (Try.prog.info? 5).map (fun i => (i.zero, i.size, i.bytes)) = some (some (.int .u8 0), 1, 1) := by kernel_rfl
theorem madeCells_bytes (n : Nat) : madeCells (Value.int .u8 0).cells n = byteCells (List.replicate n 0) := by
  simp only [madeCells, byteCells, List.map_replicate]
  apply Array.ext
  · simp
  · intro i h1 h2
    simp [Value.cells, Nat.mod_one]
theorem run_make_bytes (size : Nat) (hs : size ≤ 100000) (w : World) :
    (Instr.makeSlice 77 (.int .i64 size) (.int .i64 size)).run Try.prog w = .ok (.slice (some ⟨w.heap.size, 0, none⟩) size size) (w.alloc (.cells (byteCells (List.replicate size 0)) 5)) := by
  obtain ⟨i0, hi, hz0, hz1, hz2⟩ := info_parts info5
  have h := run_make (P := Try.prog) w 77 5 i0 (.int .u8 0) Try.underlying77 hi hz0 .i64 .i64 size size (by omega) (by omega) (by rw [hz2]; omega) (by omega)
  rw [h, Int.toNat_natCast, hz1, Nat.mul_one, madeCells_bytes]
theorem run_string_of_bytes (w : World) (l : List UInt8) (n : Nat) (hn : l.length = n) :
    (convert 77 9 (.slice (some ⟨w.heap.size, 0, none⟩) n n)).run Try.prog (w.alloc (.cells (byteCells l) 5)) = .ok (.string ⟨l.toArray⟩) (w.alloc (.cells (byteCells l) 5)) := by
  subst hn
  refine run_convert_bytes_back _ 77 9 5 ⟨w.heap.size, 0, none⟩ _ l Try.underlying77 Try.underlying5 Try.underlying9 (fun j hj => ?_)
  rw [Addr.add_lit, World.cell?_alloc_new]
  simp [byteCells, hj]
def putCells (n size k : Nat) : Array Value := byteCells (leBytes k n ++ List.replicate (size - k) 0)
theorem putCells_get (n size k : Nat) (h : k < size) : (putCells n size k)[k]? = some (.int .u8 0) := by
  simp [putCells, byteCells, leBytes_length, List.getElem?_append]
  rw [List.getElem?_replicate, if_pos (by omega)]
theorem putCells_set (n size k : Nat) (h : k < size) : (putCells n size k).setIfInBounds k (.int .u8 ((n : Int) / 2 ^ (8 * k) % 256)) = putCells n size (k + 1) := by
  have e : Value.int .u8 ((n : Int) / 2 ^ (8 * k) % 256) = Value.int .u8 ((UInt8.ofNat (n / 256 ^ k % 256)).toNat) := by
    rw [UInt8.toNat_ofNat']
    have : n / 256 ^ k % 256 % 2 ^ 8 = n / 256 ^ k % 256 := Nat.mod_eq_of_lt (Nat.mod_lt _ (by decide))
    rw [this, show (256 : Nat) ^ k = 2 ^ (8 * k) from by rw [Nat.pow_mul]]
    simp
  rw [e]
  simp only [putCells, byteCells, List.setIfInBounds_toArray, ← List.map_set]
  congr 2
  rw [leBytes_succ, List.set_append_right _ _ (by rw [leBytes_length]; omega), leBytes_length, Nat.sub_self]
  rw [show size - k = (size - (k + 1)) + 1 from by omega, List.replicate_succ]
  simp
theorem putCells_full (n size : Nat) : putCells n size size = byteCells (leBytes size n) := by simp [putCells]
set_option maxHeartbeats 400000 in
theorem put_any (n size : Nat) (w : World) (hs : size ≤ 8) :
    Calls Try.prog 67 #[.int .u64 n, .int .i64 size] w fun e w' => e = .returned (.string ⟨(leBytes size n).toArray⟩) ∧ Below w.heap.size w w' := by
  have hs' : ¬ (8 < (size : Int)) := by omega
  have hs0 : ¬ ((size : Int) < 0) := by omega
  have hmin : min (size : Int) 8 = size := by omega
  have hmk := run_make_bytes size (by omega)
  go_enter Try.func67, Try.ntmps67
  go_wp2
  go_loopw [6, 13] (fun v i wr => ∃ k : Nat, k ≤ size ∧ i = .int .i64 k ∧ wr = w.alloc (.cells (putCells n size k) 5)) (fun _ i _ => size - (intOf i).toNat)
  case atStart => exact ⟨0, Nat.zero_le _, rfl, rfl⟩
  case round =>
    obtain ⟨k, hk, rfl, rfl⟩ := hrel
    by_cases hlt : k < size
    · have hget := putCells_get n size k hlt
      have HS := Lib.hid (putCells_set n size k hlt)
      go_wp2
      go_roundw
      case rel => exact ⟨k + 1, by omega, by go_num, by rw [HS.out]⟩
      case measure => simp [intOf]; omega
    · obtain rfl : k = size := by omega
      have hconv := run_string_of_bytes w (leBytes k n) k (leBytes_length k n)
      rw [← putCells_full] at hconv
      go_wp2
      go_ret
      exact ⟨rfl, (Below.refl _ _).alloc (Nat.le_refl _) _⟩

theorem and_one : ∀ x : Fin 256, bits .and .u8 (x.val : Int) 1 = ((x.val % 2 : Nat) : Int) := by decide +kernel
theorem bit_eq (m : ByteArray) (i : Nat) (hi : i / 8 < m.size) : (bits .and .u8 ((m[i / 8].toNat : Int) / 2 ^ (i % 8)) 1 == 1) = hasB m i := by
  have hb : m[i / 8].toNat < 256 := m[i / 8].toNat_lt
  have hlt : m[i / 8].toNat / 2 ^ (i % 8) < 256 := Nat.lt_of_le_of_lt (Nat.div_le_self _ _) hb
  have e : ((m[i / 8].toNat : Int) / 2 ^ (i % 8)) = ((m[i / 8].toNat / 2 ^ (i % 8) : Nat) : Int) := by simp
  rw [e, and_one ⟨_, hlt⟩]
  unfold hasB
  rw [← byteOf_get m (i / 8) hi, Nat.testBit_eq_decide_div_mod_eq]
  simp only
  generalize m[i / 8].toNat / 2 ^ (i % 8) = x
  have hx : x % 2 = 0 ∨ x % 2 = 1 := by omega
  rcases hx with h | h <;> rw [h] <;> rfl

set_option maxHeartbeats 400000 in
theorem has_any (m : ByteArray) (i : Nat) (w : World) (hi : i / 8 < m.size) (h1 : i ≤ 100000) :
    Calls Try.prog 55 #[.string m, .int .i64 i] w fun e w' => e = .returned (.bool (hasB m i)) ∧ w = w' := by
  have hw : 0 ≤ (i : Int) / 8 ∧ (i : Int) / 8 < m.size := by omega
  go_enter Try.func55, Try.ntmps55
  go_wp2_with fail
  go_ret
  exact ⟨ret_bool (bit_eq m i hi), rfl⟩
set_option maxHeartbeats 400000 in
theorem bit_any (m : ByteArray) (i : Nat) (w : World) (hi : i / 8 < m.size) (h1 : i ≤ 100000) :
    Calls Try.prog 54 #[.string m, .int .i64 i] w fun e w' => e = .returned (.bool (hasB m i)) ∧ w = w' := by
  have hw : 0 ≤ (i : Int) / 8 ∧ (i : Int) / 8 < m.size := by omega
  go_enter Try.func54, Try.ntmps54
  go_wp2_with fail
  go_ret
  exact ⟨ret_bool (bit_eq m i hi), rfl⟩

theorem repeat_zeros (c : Nat) : Lib.repeatL (ByteArray.mk #[0]).data.toList c = List.replicate c 0 := by
  induction c with
  | zero => rfl
  | succ c ih => rw [Lib.repeatL, ih, List.replicate_succ]; rfl
theorem zeros_any (w : World) : Calls Try.prog 45 #[] w fun e w' => e = .returned (.string zb) ∧ Below w.heap.size w w' := by
  go_enter Try.func45, Try.ntmps45
  go_wp2_with (go_at_call 66; refine (Try.strings_Repeat ⟨#[0]⟩ 128 w (by decide) (by decide)).mono ?_; rintro e w1 ⟨rfl, hb⟩)
  go_ret
  refine ⟨?_, hb⟩
  rw [repeat_zeros]
  rfl
set_option maxHeartbeats 400000 in
theorem zeros2_any (n : Nat) (w : World) (hn : n ≤ 1000) : Calls Try.prog 32 #[.int .i64 n] w fun e w' => e = .returned (.string (zeros n)) ∧ w = w' := by
  go_enter Try.func32, Try.ntmps32
  go_wp2_with fail
  go_loop [3, 4] (fun s i => ∃ k : Nat, k ≤ n ∧ i = .int .i64 k ∧ s = .string (zeros k)) (fun _ i => n - (intOf i).toNat)
  case atStart => exact ⟨0, Nat.zero_le _, rfl, rfl⟩
  case round =>
    obtain ⟨k, hk, rfl, rfl⟩ := hrel
    by_cases hlt : k < n
    · have hz : zeros k ++ ⟨#[0]⟩ = zeros (k + 1) := bl_ext (by rw [bl_append, bl_zeros, bl_zeros, List.replicate_succ']; rfl)
      have hs := size_zeros k
      go_wp2_with fail
      go_round
      case rel => exact ⟨k + 1, by omega, by go_num, rfl⟩
      case measure => simp [intOf]; omega
    · obtain rfl : k = n := by omega
      go_wp2_with fail
      go_ret
      exact ⟨rfl, rfl⟩

/-! ### a bit is turned -/
theorem byteCells_size (l : List UInt8) : (byteCells l).size = l.length := by simp [byteCells]
theorem byteCells_get (l : List UInt8) (i : Nat) (h : i < l.length) : (byteCells l)[i]? = some (.int .u8 (l.getD i 0).toNat) := by
  simp [byteCells, List.getD, h]
theorem byteCells_set (l : List UInt8) (i : Nat) (b : UInt8) : (byteCells l).setIfInBounds i (.int .u8 b.toNat) = byteCells (l.set i b) := by
  simp only [byteCells, List.setIfInBounds_toArray, ← List.map_set]
theorem run_copy_new (m : ByteArray) (w : World) :
    (Builtin.copy_ #[77, 9] 3 #[.slice (some ⟨w.heap.size, 0, none⟩) m.size m.size, .string m]).run Try.prog (w.alloc (.cells (byteCells (List.replicate m.size 0)) 5)) =
      .ok (goInt m.size) (w.alloc (.cells (byteCells (bl m)) 5)) := by
  have h := Lib.run_copy_row_string (P := Try.prog) (w.alloc (.cells (byteCells (List.replicate m.size 0)) 5)) 77 9 3 5 w.heap.size 0 m.size m.size m (byteCells (List.replicate m.size 0)) 5 Try.underlying77 (by kernel_rfl) (heap_alloc_new _ _) (Nat.le_refl _) (by rw [byteCells_size, List.length_replicate]; omega)
  rw [h]
  have e : ((byteCells (List.replicate m.size 0)).toList.take 0 ++ Lib.byteCells m.data.toList ++ (byteCells (List.replicate m.size 0)).toList.drop (0 + m.size)).toArray = byteCells (bl m) := by
    rw [List.drop_of_length_le (by rw [Array.length_toList, byteCells_size, List.length_replicate]; omega), List.take_zero, List.nil_append, List.append_nil]
    rfl
  rw [e, setRow_new]
theorem xor_bit : ∀ (x : Fin 256) (k : Fin 8), bits .xor .u8 (x.val : Int) ((2 : Int) ^ k.val % 256) = ((x.val ^^^ 2 ^ k.val : Nat) : Int) := by decide +kernel
theorem turn_cells (m : ByteArray) (i : Nat) : (byteCells (bl m)).setIfInBounds (i / 8) (.int .u8 (bits .xor .u8 ((byteOf m (i / 8)).toNat : Int) ((2 : Int) ^ (i % 8) % 256))) = byteCells (bl (turnB m i)) := by
  have hk : i % 8 < 8 := Nat.mod_lt _ (by decide)
  have hx : bits .xor .u8 ((byteOf m (i / 8)).toNat : Int) ((2 : Int) ^ (i % 8) % 256) = ((UInt8.ofNat ((byteOf m (i / 8)).toNat ^^^ 2 ^ (i % 8))).toNat : Int) := by
    rw [toNat_xor _ _ hk]
    exact xor_bit ⟨(byteOf m (i / 8)).toNat, (byteOf m (i / 8)).toNat_lt⟩ ⟨i % 8, hk⟩
  rw [hx, byteCells_set]
  unfold turnB
  rw [bl_setB]
theorem run_string_drew (w : World) (l : List UInt8) (n : Nat) (hn : l.length = n) :
    (convert 77 9 (.slice (some ⟨w.heap.size, 0, none⟩) n n)).run Try.prog (w.alloc (.cells (byteCells l) 5)).drew = .ok (.string ⟨l.toArray⟩) (w.alloc (.cells (byteCells l) 5)).drew := by
  subst hn
  refine run_convert_bytes_back _ 77 9 5 ⟨w.heap.size, 0, none⟩ _ l Try.underlying77 Try.underlying5 Try.underlying9 (fun j hj => ?_)
  rw [Addr.add_lit, World.cell?_drew, World.cell?_alloc_new]
  simp [byteCells, hj]
theorem mk_bl (x : ByteArray) : (⟨(bl x).toArray⟩ : ByteArray) = x := bl_ext (bl_mk _)

set_option maxHeartbeats 400000 in
theorem turn_any (m : ByteArray) (i : Nat) (w : World) (hi : i / 8 < m.size) (hm : m.size ≤ 1000) :
    Calls Try.prog 47 #[.string m, .int .i64 i] w fun e w' => e = .returned (.string (turnB m i)) ∧ Below w.heap.size w w' := by
  have hmk := run_make_bytes m.size (by omega)
  have hcp := run_copy_new m w
  have hw : 0 ≤ (i : Int) / 8 ∧ (i : Int) / 8 < m.size := by omega
  have hget : (byteCells (bl m))[i / 8]? = some (.int .u8 (byteOf m (i / 8)).toNat) := byteCells_get _ _ (by rw [bl_length]; exact hi)
  go_enter Try.func47, Try.ntmps47
  go_wp2_with (at_builtin; refine Lib.wpList_copy_run _ rfl (.tmp 9) (.tmp 10) 77 9 rfl _ _ rfl rfl hcp ?_)
  go_region
  all_goals
    rw [turn_cells m i]
    have hconv := run_string_drew w (bl (turnB m i)) m.size (by rw [bl_length, size_turnB])
    rw [mk_bl] at hconv
    clear hget hcp hmk
    go_wp2_with fail
    go_ret
    exact ⟨rfl, ((Below.refl _ _).alloc (Nat.le_refl _) _).drew⟩

theorem run_string_one (w : World) (x : UInt8) (n : Int) (h : n = (x.toNat : Int)) :
    (convert 77 9 (.slice (some ⟨w.heap.size, 0, none⟩) 1 1)).run Try.prog (w.alloc (.cells #[.int .u8 n] 5)).drew = .ok (.string ⟨#[x]⟩) (w.alloc (.cells #[.int .u8 n] 5)).drew := by
  subst h
  exact run_string_drew w [x] 1 rfl
theorem turn_splice (m : ByteArray) (i : Nat) (hi : i / 8 < m.size) : m.extract 0 (i / 8) ++ ⟨#[UInt8.ofNat ((byteOf m (i / 8)).toNat ^^^ 2 ^ (i % 8))]⟩ ++ m.extract (i / 8 + 1) m.size = turnB m i := by
  apply bl_ext
  unfold turnB
  rw [bl_append, bl_append, bl_extract, bl_extract, bl_setB, List.set_eq_take_append_cons_drop, if_pos (by rw [bl_length]; exact hi)]
  rw [List.drop_zero, Nat.sub_zero, List.append_assoc, List.take_of_length_le (l := (bl m).drop _) (by rw [List.length_drop, bl_length]; exact Nat.le_refl _)]
  rfl

set_option maxHeartbeats 400000 in
theorem rturn_any (m : ByteArray) (i : Nat) (w : World) (hi : i / 8 < m.size) (hm : m.size ≤ 1000) :
    Calls Try.prog 49 #[.string m, .int .i64 i] w fun e w' => e = .returned (.string (turnB m i)) ∧ Below w.heap.size w w' := by
  have hw : 0 ≤ (i : Int) / 8 ∧ (i : Int) / 8 < m.size := by omega
  have hw1 : 0 ≤ (i : Int) / 8 ∧ (i : Int) / 8 ≤ m.size := by omega
  have hw2 : 0 ≤ (i : Int) / 8 + 1 ∧ (i : Int) / 8 + 1 ≤ m.size := by omega
  have hk : i % 8 < 8 := Nat.mod_lt _ (by decide)
  have hx : bits .xor .u8 (m[i / 8].toNat : Int) ((2 : Int) ^ (i % 8) % 256) = ((UInt8.ofNat ((byteOf m (i / 8)).toNat ^^^ 2 ^ (i % 8))).toNat : Int) := by
    rw [toNat_xor _ _ hk, byteOf_get m (i / 8) hi]
    exact xor_bit ⟨(byteOf m (i / 8)).toNat, (byteOf m (i / 8)).toNat_lt⟩ ⟨i % 8, hk⟩
  have hconv := run_string_one w _ _ hx
  have HO := Lib.hid (turn_splice m i hi)
  generalize UInt8.ofNat ((byteOf m (i / 8)).toNat ^^^ 2 ^ (i % 8)) = y at hconv HO
  clear hx hk
  go_enter Try.func49, Try.ntmps49
  go_wp2_with fail
  go_region
  all_goals
    rw [HO.out]
    go_wp2_with fail
    go_ret
    exact ⟨rfl, ((Below.refl _ _).alloc (Nat.le_refl _) _).drew⟩
end Go.Proofs.Ytopbejdhfndfbaa
