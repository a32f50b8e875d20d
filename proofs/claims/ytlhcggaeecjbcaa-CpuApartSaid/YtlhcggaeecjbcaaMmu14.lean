/- The contract of the statements' example (mmuAlive): true. No condition. -/
import Derived.Test.YtlhcggaeecjbcaaMmu13
namespace Go.Proofs.Ytlhcggaeecjbcaa
open Go.RowKit
attribute [local go_sem ↓] loadVar_26 storeVar_26
attribute [local go_sem] run_load26 aggAt_new aggAt_past aggAt_drew rowAt_new rowAt_past rowAt_drew spCells_size run_store26

/-- The example's space: page 1 is the frame 0. -/
def aliveS (i : Nat) : Pte := if i = 1 then ⟨true, false, 0⟩ else ⟨false, false, 0⟩
def aliveR : ByteArray := ⟨(Lib.repeatL [98] 127).toArray⟩
def aliveX : ByteArray := ⟨#[97]⟩ ++ aliveR
def aliveY : List ByteArray := [aliveX]

theorem aliveX_size : aliveX.size = 128 := by kernel_rfl
theorem alive_load : loadOut (mload aliveY aliveS 128 1) = .tuple #[.int .u32 97, .bool true] := by kernel_rfl
theorem alive_copy : copyOut (mcopy aliveY aliveS 127 2) = .tuple #[.string ⟨#[]⟩, .bool false] := by kernel_rfl
theorem alive_lit : (#[.bool false, .bool false, .int .i64 0, .bool true, .bool false, .int .i64 0, .bool false, .bool false, .int .i64 0, .bool false, .bool false, .int .i64 0,
 .bool false, .bool false, .int .i64 0, .bool false, .bool false, .int .i64 0, .bool false, .bool false, .int .i64 0, .bool false, .bool false, .int .i64 0,
 .bool false, .bool false, .int .i64 0, .bool false, .bool false, .int .i64 0, .bool false, .bool false, .int .i64 0, .bool false, .bool false, .int .i64 0,
 .bool false, .bool false, .int .i64 0, .bool false, .bool false, .int .i64 0, .bool false, .bool false, .int .i64 0, .bool false, .bool false, .int .i64 0] : Array Value) = spCells aliveS := rfl
theorem aliveR_size : aliveR.size = 127 := by kernel_rfl
theorem alive_rep : (⟨(Lib.repeatL (⟨#[98]⟩ : ByteArray).data.toList 127).toArray⟩ : ByteArray) = aliveR := rfl

theorem strs_one (w : World) (x : ByteArray) : Strs (w.alloc (.cells #[.string x] 9)) (.slice (some ⟨w.heap.size, 0, none⟩) 1 1) [x] := by
  refine ⟨some ⟨w.heap.size, 0, none⟩, 1, rfl, Nat.le_refl _, (fun h => by cases h), fun _ => ⟨w.heap.size, 0, rfl, (by show w.heap.size < (w.heap.push _).size; simp), fun i hi => ?_⟩⟩
  have : i = 0 := by simp at hi; exact hi
  subst this
  unfold World.cell?
  rw [heap_alloc_new]
  rfl
theorem alloc_size (w : World) (o : Obj) : (w.alloc o).heap.size = w.heap.size + 1 := by show (w.heap.push o).size = _; simp
theorem alive_row {w w2 : World} {x y : Obj} (hb : Below ((w.alloc x).alloc y).heap.size ((w.alloc x).alloc y) w2) : w2.heap[w.heap.size + 1]? = some y := by
  rw [hb.block _ (by rw [alloc_size, alloc_size]; omega), ← alloc_size w x]
  exact heap_alloc_new _ _
theorem alive_below {w0 w w2 w3 : World} {x y : Obj} (h0 : Below w0.heap.size w0 w) (hb : Below ((w.alloc x).alloc y).heap.size ((w.alloc x).alloc y) w2) (hb2 : Below w2.heap.size w2 w3) : Below w0.heap.size w0 w3 :=
  below_step (h0.trans (((((Below.refl _ _).alloc (Nat.le_refl _) x).alloc (by rw [alloc_size]; omega) y).trans (hb.mono (by rw [alloc_size, alloc_size]; omega))).mono h0.size)) hb2
theorem alive_lit2 : ((spCells aliveS).setIfInBounds 4 (.bool false)).setIfInBounds 5 (.int .i64 0) = spCells aliveS := rfl
theorem alive_cat : (⟨#[97]⟩ : ByteArray) ++ aliveR = aliveX := rfl

set_option maxRecDepth 20000 in
set_option maxHeartbeats 400000 in
theorem mmuAlive_any (w : World) : Calls Try.prog 17 #[] w fun e w' => e = .returned (.bool true) ∧ Below w.heap.size w w' := by
  have hsz : aliveR.size ≤ 1000000 := by rw [aliveR_size]; decide
  have hlit := alive_lit
  have hlit2 := alive_lit2
  have hcat := alive_cat
  go_enter Try.func17, Try.ntmps17
  go_wp2_with (first
    | (go_at_call 41; refine (Try.strings_Repeat ⟨#[98]⟩ 127 _ (by decide) (by decide)).mono ?_; rintro e w1 ⟨rfl, hb⟩; rw [alive_rep])
    | (go_at_call 25; refine (load_any _ aliveY aliveS 128 1 _ ((strs_one _ aliveX).alloc _) (by decide) (by decide)).mono ?_; rw [alive_load]; rintro e w2 ⟨rfl, hb2⟩; have HB2 := Lib.hid hb2; have HS := (alive_row hb2); have hrw := agg_facts HS 48 (spCells_size _); have ha := hrw.1; have hr := hrw.2; clear hrw HS hb2)
    | (go_at_call 19; refine (copy_any _ aliveY aliveS 127 2 _ (((strs_one _ aliveX).alloc _).mono HB2.out) (by decide) (by decide)).mono ?_; rw [alive_copy]; rintro e w3 ⟨rfl, hb3⟩))
  go_ret
  exact ⟨rfl, alive_below hb HB2.out hb3⟩
end Go.Proofs.Ytlhcggaeecjbcaa
