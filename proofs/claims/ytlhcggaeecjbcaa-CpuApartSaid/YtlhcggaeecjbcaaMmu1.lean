/- Contracts of num.Get, num.Put, mmu.Find, mmu.there and of the reference's Find and There: each returns what its plain function gives. Condition: a string handed to Get, and a size handed to Put, is at most eight. -/
import Derived.Test.YtlhcggaeecjbcaaBase
import Derived.Laws.MakeOwn
import Derived.Laws.IdiomStrings
namespace Go.Proofs.Ytlhcggaeecjbcaa
open Go.RowKit

set_option maxHeartbeats 400000 in
theorem get_any (s : ByteArray) (w : World) (hs : s.size ≤ 8) :
    Calls Try.prog 50 #[.string s] w fun e w' => e = .returned (.int .u64 (leVal (bl s))) ∧ w = w' := by
  have hs' : ¬ (8 < s.size) := by omega
  go_enter Try.func50, Try.ntmps50
  go_wp2
  go_loop [3, 8] (fun n i => ∃ k : Nat, k ≤ s.size ∧ i = .int .i64 k ∧ n = .int .u64 (leVal ((bl s).take k))) (fun _ i => s.size - (intOf i).toNat)
  case atStart => exact ⟨0, Nat.zero_le _, rfl, rfl⟩
  case round =>
    obtain ⟨k, hk, rfl, rfl⟩ := hrel
    by_cases hlt : k < s.size
    · have hn := leVal_lt ((bl s).take k)
      rw [List.length_take, bl_length, Nat.min_eq_left hk] at hn
      have HE := Lib.hid (or_le k (by omega) _ hn s[k])
      have HT := Lib.hid (leVal_take_succ (bl s) k (by rw [bl_length]; exact hlt))
      clear hn
      go_wp2
      go_round
      case rel => exact ⟨k + 1, by omega, by go_num, by rw [HT.out]; exact congrArg (Value.int .u64) HE.out⟩
      case measure => simp [intOf]; omega
    · go_wp2
      go_ret
      exact ⟨ret_int (by rw [List.take_of_length_le (by rw [bl_length]; omega)]), rfl⟩

def byteCells (l : List UInt8) : Array Value := (l.map fun (b : UInt8) => Value.int .u8 b.toNat).toArray
def putCells (n size k : Nat) : Array Value := byteCells (leBytes k n ++ List.replicate (size - k) 0)

theorem info5 : (Try.prog.info? 5).map (fun i => (i.zero, i.size, i.bytes)) = some (some (.int .u8 0), 1, 1) := by kernel_rfl

theorem madeCells_bytes (n : Nat) : madeCells (Value.int .u8 0).cells n = byteCells (List.replicate n 0) := by
  simp only [madeCells, byteCells, List.map_replicate]
  apply Array.ext
  · simp
  · intro i h1 h2
    simp [Value.cells, Nat.mod_one]

theorem run_make_bytes (size : Nat) (hs : size ≤ 100000) (w : World) :
    (Instr.makeSlice 90 (.int .i64 size) (.int .i64 size)).run Try.prog w = .ok (.slice (some ⟨w.heap.size, 0, none⟩) size size) (w.alloc (.cells (byteCells (List.replicate size 0)) 5)) := by
  obtain ⟨i0, hi, hz0, hz1, hz2⟩ := info_parts info5
  have h := run_make (P := Try.prog) w 90 5 i0 (.int .u8 0) Try.underlying90 hi hz0 .i64 .i64 size size (by omega) (by omega) (by rw [hz2]; omega) (by omega)
  rw [h, Int.toNat_natCast, hz1, Nat.mul_one, madeCells_bytes]

theorem run_string_of_bytes (w : World) (l : List UInt8) (n : Nat) (hn : l.length = n) :
    (convert 90 9 (.slice (some ⟨w.heap.size, 0, none⟩) n n)).run Try.prog (w.alloc (.cells (byteCells l) 5)) = .ok (.string ⟨l.toArray⟩) (w.alloc (.cells (byteCells l) 5)) := by
  subst hn
  refine run_convert_bytes_back _ 90 9 5 ⟨w.heap.size, 0, none⟩ _ l Try.underlying90 Try.underlying5 Try.underlying9 (fun j hj => ?_)
  rw [Addr.add_lit, World.cell?_alloc_new]
  simp [byteCells, hj]

theorem putCells_get (n size k : Nat) (h : k < size) : (putCells n size k)[k]? = some (.int .u8 0) := by
  simp [putCells, byteCells, leBytes_length, List.getElem?_append]
  rw [List.getElem?_replicate, if_pos (by omega)]

theorem putCells_set (n size k : Nat) (h : k < size) : (putCells n size k).setIfInBounds k (.int .u8 ((n : Int) / 2 ^ (8 * k) % 256)) = putCells n size (k + 1) := by
  have e : Value.int .u8 ((n : Int) / 2 ^ (8 * k) % 256) = Value.int .u8 ((UInt8.ofNat (n / 256 ^ k % 256)).toNat) := by
    rw [UInt8.toNat_ofNat']
    have : n / 256 ^ k % 256 % 2 ^ 8 = n / 256 ^ k % 256 := Nat.mod_eq_of_lt (Nat.mod_lt _ (by decide))
    rw [this, show (256 : Nat) ^ k = 2 ^ (8 * k) from by rw [Nat.pow_mul]]
    simp
  rw [e]
  simp only [putCells, byteCells, List.setIfInBounds_toArray, ← List.map_set]
  congr 2
  rw [leBytes_succ, List.set_append_right _ _ (by rw [leBytes_length]; omega), leBytes_length, Nat.sub_self]
  rw [show size - k = (size - (k + 1)) + 1 from by omega, List.replicate_succ]
  simp

theorem putCells_full (n size : Nat) : putCells n size size = byteCells (leBytes size n) := by simp [putCells]

set_option maxHeartbeats 400000 in
theorem put_any (n size : Nat) (w : World) (hs : size ≤ 8) :
    Calls Try.prog 51 #[.int .u64 n, .int .i64 size] w fun e w' => e = .returned (.string ⟨(leBytes size n).toArray⟩) ∧ Below w.heap.size w w' := by
  have hs' : ¬ (8 < (size : Int)) := by omega
  have hs0 : ¬ ((size : Int) < 0) := by omega
  have hmk := run_make_bytes size (by omega)
  go_enter Try.func51, Try.ntmps51
  go_wp2
  go_loopw [6, 13] (fun v i wr => ∃ k : Nat, k ≤ size ∧ i = .int .i64 k ∧ wr = w.alloc (.cells (putCells n size k) 5)) (fun _ i _ => size - (intOf i).toNat)
  case atStart => exact ⟨0, Nat.zero_le _, rfl, rfl⟩
  case round =>
    obtain ⟨k, hk, rfl, rfl⟩ := hrel
    by_cases hlt : k < size
    · have hget := putCells_get n size k hlt
      have HS := Lib.hid (putCells_set n size k hlt)
      go_wp2
      go_roundw
      case rel => exact ⟨k + 1, by omega, by go_num, by rw [HS.out]⟩
      case measure => simp [intOf]; omega
    · obtain rfl : k = size := by omega
      have hconv := run_string_of_bytes w (leBytes k n) k (leBytes_length k n)
      rw [← putCells_full] at hconv
      go_wp2
      go_ret
      exact ⟨rfl, (Below.refl _ _).alloc (Nat.le_refl _) _⟩

def findOut : Option (Int × Int) → Value
  | none => .tuple #[.int .i64 0, .int .i64 0, .bool false]
  | some (f, k) => .tuple #[.int .i64 f, .int .i64 k, .bool true]

theorem find_post {x : Option (Int × Int)} {v : Value} {w w' : World} (h : v = findOut x) (hb : Below w.heap.size w w') : Ending.returned v = .returned (findOut x) ∧ Below w.heap.size w w' := ⟨by rw [h], hb⟩

set_option maxHeartbeats 400000 in
theorem find_any (s : Nat → Pte) (a size : Int) (wr : Bool) (w : World) (h0 : 0 ≤ a) (h1 : a ≤ 4294967295) :
    Calls Try.prog 26 #[.agg (spCells s), .int .u32 a, .int .i64 size, .bool wr] w fun e w' => e = .returned (findOut (mfind s a size wr)) ∧ Below w.heap.size w w' := by
  by_cases hs1 : size = 1
  · subst hs1
    by_cases hlt : a < 2048
    · obtain ⟨g0, g1, g2⟩ := spCells_get s (a / 128).toNat (by omega)
      have hle : decide (2048 ≤ a) = false := by simpa using hlt
      have Hout := Lib.hid (show mfind s a 1 wr = if (pg s a).is = true ∧ (wr = true → (pg s a).write = true) then some ((pg s a).frame, a % 128) else none by
          unfold mfind; rw [if_pos ⟨.inl rfl, hlt, by omega⟩])
      go_enter Try.func26, Try.ntmps26
      go_wp2
      all_goals (go_ret3; refine find_post ?_ (((Below.refl _ _).alloc (Nat.le_refl _) _).alloc (by simp) _); rw [Hout.out]; first | (simp [pg, findOut, *]; done) | (simp_all [pg, findOut]; done))
    · have hle : decide (2048 ≤ a) = true := by simp; omega
      have Hout := Lib.hid (show mfind s a 1 wr = none by unfold mfind; rw [if_neg (by omega)])
      go_enter Try.func26, Try.ntmps26
      go_wp2
      all_goals (go_ret3; refine find_post ?_ (((Below.refl _ _).alloc (Nat.le_refl _) _)); rw [Hout.out]; simp [findOut])
  · by_cases hs4 : size = 4
    · subst hs4
      by_cases hlt : a < 2048
      · by_cases hm : a % 4 = 0
        · obtain ⟨g0, g1, g2⟩ := spCells_get s (a / 128).toNat (by omega)
          have hle : decide (2048 ≤ a) = false := by simpa using hlt
          have hm' : ((a % 4) != 0) = false := by simpa using hm
          have Hout := Lib.hid (show mfind s a 4 wr = if (pg s a).is = true ∧ (wr = true → (pg s a).write = true) then some ((pg s a).frame, a % 128) else none by
            unfold mfind; rw [if_pos ⟨.inr rfl, hlt, hm⟩])
          clear hm
          go_enter Try.func26, Try.ntmps26
          go_wp2
          all_goals (go_ret3; refine find_post ?_ (((Below.refl _ _).alloc (Nat.le_refl _) _).alloc (by simp) _); rw [Hout.out]; first | (simp [pg, findOut, *]; done) | (simp_all [pg, findOut]; done))
        · have hle : decide (2048 ≤ a) = false := by simpa using hlt
          have hm' : ((a % 4) != 0) = true := by simpa using hm
          have Hout := Lib.hid (show mfind s a 4 wr = none by unfold mfind; rw [if_neg (by omega)])
          clear hm
          go_enter Try.func26, Try.ntmps26
          go_wp2
          all_goals (go_ret3; refine find_post ?_ (((Below.refl _ _).alloc (Nat.le_refl _) _)); rw [Hout.out]; simp [findOut])
      · have hle : decide (2048 ≤ a) = true := by simp; omega
        have Hout := Lib.hid (show mfind s a 4 wr = none by unfold mfind; rw [if_neg (by omega)])
        go_enter Try.func26, Try.ntmps26
        go_wp2
        all_goals (go_ret3; refine find_post ?_ (((Below.refl _ _).alloc (Nat.le_refl _) _)); rw [Hout.out]; simp [findOut])
    · have e1 : (size != 1) = true := by simpa using hs1
      have e4 : (size != 4) = true := by simpa using hs4
      have Hout := Lib.hid (show mfind s a size wr = none by unfold mfind; rw [if_neg (by omega)])
      clear hs1 hs4
      go_enter Try.func26, Try.ntmps26
      go_wp2
      all_goals (go_ret3; refine find_post ?_ (((Below.refl _ _).alloc (Nat.le_refl _) _)); rw [Hout.out]; simp [findOut])

set_option maxHeartbeats 400000 in
theorem rfind_any (s : Nat → Pte) (a size : Int) (wr : Bool) (w : World) (h0 : 0 ≤ a) (h1 : a ≤ 4294967295) :
    Calls Try.prog 27 #[.agg (spCells s), .int .u32 a, .int .i64 size, .bool wr] w fun e w' => e = .returned (findOut (mfind s a size wr)) ∧ Below w.heap.size w w' := by
  by_cases hs1 : size = 1
  · subst hs1
    by_cases hlt : a < 2048
    · obtain ⟨g0, g1, g2⟩ := spCells_get s (a / 128).toNat (by omega)
      have hle : decide (2048 ≤ a) = false := by simpa using hlt
      have Hout := Lib.hid (show mfind s a 1 wr = if (pg s a).is = true ∧ (wr = true → (pg s a).write = true) then some ((pg s a).frame, a % 128) else none by
          unfold mfind; rw [if_pos ⟨.inl rfl, hlt, by omega⟩])
      go_enter Try.func27, Try.ntmps27
      go_wp2
      all_goals (go_ret3; refine find_post ?_ (((Below.refl _ _).alloc (Nat.le_refl _) _).alloc (by simp) _); rw [Hout.out]; first | (simp [pg, findOut, *]; done) | (simp_all [pg, findOut]; done))
    · have hle : decide (2048 ≤ a) = true := by simp; omega
      have Hout := Lib.hid (show mfind s a 1 wr = none by unfold mfind; rw [if_neg (by omega)])
      go_enter Try.func27, Try.ntmps27
      go_wp2
      all_goals (go_ret3; refine find_post ?_ (((Below.refl _ _).alloc (Nat.le_refl _) _)); rw [Hout.out]; simp [findOut])
  · by_cases hs4 : size = 4
    · subst hs4
      by_cases hlt : a < 2048
      · by_cases hm : a % 4 = 0
        · obtain ⟨g0, g1, g2⟩ := spCells_get s (a / 128).toNat (by omega)
          have hle : decide (2048 ≤ a) = false := by simpa using hlt
          have hm' : ((a % 4) != 0) = false := by simpa using hm
          have Hout := Lib.hid (show mfind s a 4 wr = if (pg s a).is = true ∧ (wr = true → (pg s a).write = true) then some ((pg s a).frame, a % 128) else none by
            unfold mfind; rw [if_pos ⟨.inr rfl, hlt, hm⟩])
          clear hm
          go_enter Try.func27, Try.ntmps27
          go_wp2
          all_goals (go_ret3; refine find_post ?_ (((Below.refl _ _).alloc (Nat.le_refl _) _).alloc (by simp) _); rw [Hout.out]; first | (simp [pg, findOut, *]; done) | (simp_all [pg, findOut]; done))
        · have hle : decide (2048 ≤ a) = false := by simpa using hlt
          have hm' : ((a % 4) != 0) = true := by simpa using hm
          have Hout := Lib.hid (show mfind s a 4 wr = none by unfold mfind; rw [if_neg (by omega)])
          clear hm
          go_enter Try.func27, Try.ntmps27
          go_wp2
          all_goals (go_ret3; refine find_post ?_ (((Below.refl _ _).alloc (Nat.le_refl _) _)); rw [Hout.out]; simp [findOut])
      · have hle : decide (2048 ≤ a) = true := by simp; omega
        have Hout := Lib.hid (show mfind s a 4 wr = none by unfold mfind; rw [if_neg (by omega)])
        go_enter Try.func27, Try.ntmps27
        go_wp2
        all_goals (go_ret3; refine find_post ?_ (((Below.refl _ _).alloc (Nat.le_refl _) _)); rw [Hout.out]; simp [findOut])
    · have e1 : (size != 1) = true := by simpa using hs1
      have e4 : (size != 4) = true := by simpa using hs4
      have Hout := Lib.hid (show mfind s a size wr = none by unfold mfind; rw [if_neg (by omega)])
      clear hs1 hs4
      go_enter Try.func27, Try.ntmps27
      go_wp2
      all_goals (go_ret3; refine find_post ?_ (((Below.refl _ _).alloc (Nat.le_refl _) _)); rw [Hout.out]; simp [findOut])

set_option maxHeartbeats 400000 in
theorem there_any (v : Value) (l : List ByteArray) (i : Int) (w : World) (h : Strs w v l) :
    Calls Try.prog 49 #[v, .int .i64 i] w fun e w' => e = .returned (.bool (thereB l i)) ∧ w = w' := by
  by_cases h0 : 0 ≤ i
  · by_cases h1 : i < l.length
    · rcases h.shape with ⟨rfl, _⟩ | ⟨_, b, o, cap, rfl, hcap, hb, hc⟩
      · simp at h1; omega
      · have hcell := hc i.toNat (by omega)
        clear hc hcap
        go_enter Try.func49, Try.ntmps49
        go_wp2
        go_ret
        exact ⟨by simp [thereB, h0, h1], rfl⟩
    · obtain ⟨a, cap, rfl, _⟩ := h.ex
      have e1 : decide (i < (l.length : Int)) = false := by simpa using h1
      go_enter Try.func49, Try.ntmps49
      go_wp2
      go_ret
      exact ⟨by simp [thereB, e1], rfl⟩
  · obtain ⟨a, cap, rfl, _⟩ := h.ex
    have e1 : decide (0 ≤ i) = false := by simpa using h0
    go_enter Try.func49, Try.ntmps49
    go_wp2
    go_ret
    exact ⟨by simp [thereB, e1], rfl⟩

set_option maxHeartbeats 400000 in
theorem rthere_any (v : Value) (l : List ByteArray) (i : Int) (w : World) (h : Strs w v l) :
    Calls Try.prog 74 #[v, .int .i64 i] w fun e w' => e = .returned (.bool (thereB l i)) ∧ w = w' := by
  by_cases h0 : 0 ≤ i
  · by_cases h1 : i < l.length
    · rcases h.shape with ⟨rfl, _⟩ | ⟨_, b, o, cap, rfl, hcap, hb, hc⟩
      · simp at h1; omega
      · have hcell := hc i.toNat (by omega)
        clear hc hcap
        go_enter Try.func74, Try.ntmps74
        go_wp2
        go_ret
        exact ⟨by simp [thereB, h0, h1], rfl⟩
    · obtain ⟨a, cap, rfl, _⟩ := h.ex
      have e1 : decide (i < (l.length : Int)) = false := by simpa using h1
      go_enter Try.func74, Try.ntmps74
      go_wp2
      go_ret
      exact ⟨by simp [thereB, e1], rfl⟩
  · obtain ⟨a, cap, rfl, _⟩ := h.ex
    have e1 : decide (0 ≤ i) = false := by simpa using h0
    go_enter Try.func74, Try.ntmps74
    go_wp2
    go_ret
    exact ⟨by simp [thereB, e1], rfl⟩

end Go.Proofs.Ytlhcggaeecjbcaa
