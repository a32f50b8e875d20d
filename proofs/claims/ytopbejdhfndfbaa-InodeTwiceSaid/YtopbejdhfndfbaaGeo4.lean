/- Contracts of block 0. No condition. -/
import Derived.Test.YtopbejdhfndfbaaGeo3
import Derived.Deep.RegionHeld3
namespace Go.Proofs.Ytopbejdhfndfbaa
open Go.RowKit
set_option maxRecDepth 20000
attribute [local go_sem ↓] loadVar_24 storeVar_24
attribute [local go_sem] run_load24 run_store24 aggAt_new aggAt_past aggAt_drew rowAt_new rowAt_past rowAt_drew rowOpen_new rowOpen_past rowOpen_drew setRow_made' alloc_setRow
theorem below_three' (w : World) (a b c : Obj) : Below w.heap.size w (((w.alloc a).alloc b).alloc c) := (below_two w a b).alloc (by rw [alloc_size, alloc_size]; omega) c

set_option maxHeartbeats 600000 in
theorem first_any (b i : Nat) (d : Int) (w : World) (hb : b ≤ 1000) (hi : i ≤ 70000) :
    Calls Try.prog 46 #[.agg (geoC b i d)] w fun e w' => e = .returned (.string (headB b i)) ∧ Below w.heap.size w w' := by
  unfold geoC
  go_enter Try.func46, Try.ntmps46
  go_wp2_with fail
  have P1 : Hid (∀ w, Calls Try.prog 67 #[.int .u64 (IntKind.u64.wrap (b : Int)), .int .i64 2] w fun e w' => e = .returned (.string ⟨(leBytes 2 b).toArray⟩) ∧ w.alloc (.cells (byteCells (leBytes 2 b)) 5) = w') := by
    rw [wrap_u64_of (b : Int) (by omega) (by omega)]
    exact fun w => put_exact b 2 w (by decide)
  have P2 : Hid (∀ w, Calls Try.prog 67 #[.int .u64 (IntKind.u64.wrap (i : Int)), .int .i64 2] w fun e w' => e = .returned (.string ⟨(leBytes 2 i).toArray⟩) ∧ w.alloc (.cells (byteCells (leBytes 2 i)) 5) = w') := by
    rw [wrap_u64_of (i : Int) (by omega) (by omega)]
    exact fun w => put_exact i 2 w (by decide)
  have z1 : (⟨(leBytes 2 b).toArray⟩ : ByteArray).size = 2 := by rw [← bl_length, bl_mk, leBytes_length]
  have z2 : (⟨(leBytes 2 i).toArray⟩ : ByteArray).size = 2 := by rw [← bl_length, bl_mk, leBytes_length]
  have HO : Hid (∀ z : ByteArray, bl z = List.replicate 128 0 → (⟨#[104, 105, 98, 49]⟩ ++ ⟨(leBytes 2 b).toArray⟩ ++ ⟨(leBytes 2 i).toArray⟩ ++ z.extract 8 128 : ByteArray) = headB b i) := fun z hz => by
    apply bl_ext
    rw [bl_append, bl_append, bl_append, bl_mk, bl_mk, bl_extract, hz, bl_head]
    rfl
  generalize (⟨(leBytes 2 b).toArray⟩ : ByteArray) = X at P1 z1 HO
  generalize (⟨(leBytes 2 i).toArray⟩ : ByteArray) = Y at P2 z2 HO
  have z3 : ((⟨#[104, 105, 98, 49]⟩ : ByteArray) ++ X).size = 6 := by rw [ByteArray.size_append, z1]; rfl
  have z4 : ((⟨#[104, 105, 98, 49]⟩ : ByteArray) ++ X ++ Y).size = 8 := by rw [ByteArray.size_append, z2, z3]
  generalize leBytes 2 b = x at P1
  generalize leBytes 2 i = y at P2
  go_region_with (first | (go_at_call 67; have q0 := HK1; clear q0; refine (P2.out _).mono ?_; rintro e W2 ⟨rfl, rfl⟩) | (go_at_call 67; refine (P1.out _).mono ?_; rintro e W1 ⟨rfl, rfl⟩; have HK1 := Lib.hid (rfl : 0 = 0)))
  all_goals
    have zs : zb.size = 128 := size_zeros 128
    go_wp2_with (go_at_call 45; refine (zeros_any _).mono ?_; rintro e W3 ⟨rfl, hb3⟩)
    go_ret
    refine ⟨?_, ?_⟩
    · rw [← HO.out zb (bl_zeros 128)]; rfl
    · exact below_step (below_three' w _ _ _).drew hb3

set_option maxHeartbeats 600000 in
theorem head_any (b i : Nat) (d : Int) (w : World) (hb : b ≤ 1000) (hi : i ≤ 70000) :
    Calls Try.prog 48 #[.agg (geoC b i d)] w fun e w' => e = .returned (.string (headB b i)) ∧ Below w.heap.size w w' := by
  unfold geoC
  go_enter Try.func48, Try.ntmps48
  go_wp2_with fail
  have P1 : Hid (∀ w, Calls Try.prog 68 #[.int .u64 (IntKind.u64.wrap (b : Int)), .int .i64 2] w fun e w' => e = .returned (.string ⟨(leBytes 2 b).toArray⟩) ∧ Below w.heap.size w w') := by
    rw [wrap_u64_of (b : Int) (by omega) (by omega)]
    exact fun w => rput_any b w (by omega)
  have P2 : Hid (∀ w, Calls Try.prog 68 #[.int .u64 (IntKind.u64.wrap (i : Int)), .int .i64 2] w fun e w' => e = .returned (.string ⟨(leBytes 2 i).toArray⟩) ∧ Below w.heap.size w w') := by
    rw [wrap_u64_of (i : Int) (by omega) (by omega)]
    exact fun w => rput_any i w (by omega)
  have z1 : (⟨(leBytes 2 b).toArray⟩ : ByteArray).size = 2 := by rw [← bl_length, bl_mk, leBytes_length]
  have z2 : (⟨(leBytes 2 i).toArray⟩ : ByteArray).size = 2 := by rw [← bl_length, bl_mk, leBytes_length]
  have HO : Hid ((⟨#[104, 105, 98, 49]⟩ ++ ⟨(leBytes 2 b).toArray⟩ ++ ⟨(leBytes 2 i).toArray⟩ ++ zeros 120 : ByteArray) = headB b i) := by
    apply bl_ext
    rw [bl_append, bl_append, bl_append, bl_mk, bl_mk, bl_zeros, bl_head]
    rfl
  have z5 : (zeros 120).size = 120 := size_zeros 120
  have P3 : Hid (∀ w, Calls Try.prog 32 #[.int .i64 120] w fun e w' => e = .returned (.string (zeros 120)) ∧ w = w') := fun w => zeros2_any 120 w (by decide)
  generalize (⟨(leBytes 2 b).toArray⟩ : ByteArray) = X at P1 z1 HO
  generalize (⟨(leBytes 2 i).toArray⟩ : ByteArray) = Y at P2 z2 HO
  generalize zeros 120 = Z at P3 z5 HO
  have z3 : ((⟨#[104, 105, 98, 49]⟩ : ByteArray) ++ X).size = 6 := by rw [ByteArray.size_append, z1]; rfl
  have z4 : ((⟨#[104, 105, 98, 49]⟩ : ByteArray) ++ X ++ Y).size = 8 := by rw [ByteArray.size_append, z2, z3]
  obtain ⟨W0, hW⟩ : ∃ W0, W0 = w.alloc (.cells #[.int .i64 b, .int .i64 i, .int .i64 1, .int .i64 2, .int .i64 3, .int .i64 d] 24) := ⟨_, rfl⟩
  have hh : W0.heap[w.heap.size]? = some (.cells #[.int .i64 b, .int .i64 i, .int .i64 1, .int .i64 2, .int .i64 3, .int .i64 d] 24) := by rw [hW]; exact heap_alloc_new _ _
  have s1 : W0.cell? ⟨w.heap.size, 0, none⟩ = some (.int .i64 b) := cell_of_heap hh rfl
  have s2 : W0.cell? ⟨w.heap.size, 1, none⟩ = some (.int .i64 i) := cell_of_heap hh rfl
  have S3 : Hid (Below w.heap.size w W0) := by rw [hW]; exact below_one _ _
  have S4 := Lib.hid (heap_lt hh)
  rw [← hW]
  clear hW hh hb hi
  go_region_with (first | (go_at_call 32; refine (P3.out _).mono ?_; rintro e W3 ⟨rfl, rfl⟩) | (go_at_call 68; have q0 := HK1; clear q0; refine (P2.out _).mono ?_; rintro e W2 ⟨rfl, hb2⟩; have HK2 := Lib.hid hb2; clear hb2) | (go_at_call 68; refine (P1.out _).mono ?_; rintro e W1 ⟨rfl, hb1⟩; have HK1 := Lib.hid hb1; have f1 := (hb1.cell (p := ⟨w.heap.size, 1, none⟩) S4.out).trans s2; clear hb1))
  all_goals
    go_wp2_with fail
    go_ret
    refine ⟨?_, below_step (below_step S3.out.drew HK1.out) HK2.out⟩
    rw [← HO.out]; rfl
end Go.Proofs.Ytopbejdhfndfbaa
