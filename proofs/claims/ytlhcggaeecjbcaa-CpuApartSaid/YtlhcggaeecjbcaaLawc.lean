/- The contract of the statements' one (law 14). Condition: an instruction whose parts fit. -/
import Derived.Test.YtlhcggaeecjbcaaLawb
import Derived.Test.YtlhcggaeecjbcaaRefA
namespace Go.Proofs.Ytlhcggaeecjbcaa
open Go.RowKit

def zeroL : List UInt8 := List.replicate 128 0
def zeroB : ByteArray := ⟨zeroL.toArray⟩
def zeroAt (w : World) (b : Nat) : Prop := ∃ t, w.heap[b]? = some (.cells (byteCells zeroL) t)
theorem zeroAt_new (w : World) (t : TypeId) (b : Nat) (h : b = w.heap.size) : zeroAt (w.alloc (.cells (byteCells zeroL) t)) b := by
  subst h; exact ⟨t, heap_alloc_new _ _⟩
theorem zeroAt_past (w : World) (o : Obj) (b : Nat) (h : b < w.heap.size) : zeroAt (w.alloc o) b = zeroAt w b := by simp only [zeroAt, Below.heap_alloc w o b h]
theorem zeroAt_drew (w : World) (b : Nat) : zeroAt w.drew b = zeroAt w b := rfl
theorem zeroAt_below {W w : World} {b : Nat} (h : zeroAt W b) (hb : Below W.heap.size W w) : zeroAt w b := by
  obtain ⟨t, h⟩ := h
  exact ⟨t, (hb.block _ (heap_lt h)).trans h⟩
theorem run_string_zero (w : World) (b : Nat) (h : zeroAt w b) : (convert 90 9 (.slice (some ⟨b, 0, none⟩) 128 128)).run Try.prog w = .ok (.string zeroB) w := by
  obtain ⟨t, h⟩ := h
  refine run_convert_bytes_back _ 90 9 5 ⟨b, 0, none⟩ _ zeroL Try.underlying90 Try.underlying5 Try.underlying9 (fun j hj => ?_)
  rw [Addr.add_lit]
  generalize zeroL = L at h hj ⊢
  exact cell_of_heap h (by simp [byteCells, hj])
theorem run_make128 (w : World) : (Instr.makeSlice 90 (.int .i64 128) (.int .i64 128)).run Try.prog w = .ok (.slice (some ⟨w.heap.size, 0, none⟩) 128 128) (w.alloc (.cells (byteCells zeroL) 5)) := run_make_bytes 128 (by decide) w
attribute [local go_sem ↓] loadVar_68 loadVar_26 storeVar_26
attribute [local go_sem] run_load68 run_load26 run_store26_any zeroAt_new zeroAt_past zeroAt_drew run_string_zero aggAt_new aggAt_past aggAt_drew rowAt_new rowAt_past rowAt_drew rowFree_new rowFree_past rowFree_drew setRow_drew setRow_made spCells_size
def oneS (i : Nat) : Pte := if i = 0 then ⟨true, false, 0⟩ else if i = 1 then ⟨true, true, 1⟩ else ⟨false, false, 0⟩
def oneL (x : Ins) : List ByteArray := [pageB [(menc x).1], zeroB]

theorem two_blocks {w w1 : World} {a : Obj} {cs : Array Value} {t : TypeId} (hb : Below ((w.alloc a).alloc (.cells cs t)).heap.size ((w.alloc a).alloc (.cells cs t)) w1) : Below w.heap.size w w1 ∧ rowFree w1 (w.heap.size + 1) cs.size = true ∧ w.heap.size + 1 < w1.heap.size := by
  have z1 := alloc_size w a
  have z2 := alloc_size (w.alloc a) (.cells cs t)
  have h0 : w1.heap[w.heap.size + 1]? = some (.cells cs t) := by
    rw [hb.block _ (by omega), ← z1]
    exact heap_alloc_new _ _
  exact ⟨(((Below.refl _ _).alloc (Nat.le_refl _) a).alloc (by omega) _).trans (hb.mono (by omega)), by simp [rowFree, h0], heap_lt h0⟩
theorem one_lit : (#[.bool true, .bool false, .int .i64 0, .bool true, .bool true, .int .i64 1, .bool false, .bool false, .int .i64 0, .bool false, .bool false, .int .i64 0, .bool false, .bool false, .int .i64 0, .bool false, .bool false, .int .i64 0, .bool false, .bool false, .int .i64 0, .bool false, .bool false, .int .i64 0, .bool false, .bool false, .int .i64 0, .bool false, .bool false, .int .i64 0, .bool false, .bool false, .int .i64 0, .bool false, .bool false, .int .i64 0, .bool false, .bool false, .int .i64 0, .bool false, .bool false, .int .i64 0, .bool false, .bool false, .int .i64 0, .bool false, .bool false, .int .i64 0] : Array Value) = spCells oneS := rfl
theorem page39_one (n b : Nat) (t : TypeId) (w : World) (hn : n ≤ 4294967295) (hb : w.heap[b]? = some (.cells #[.int .u32 n] t)) : Calls Try.prog 39 #[.slice (some ⟨b, 0, none⟩) 1 1] w fun e w' => e = .returned (.string (pageB [n])) ∧ Below w.heap.size w w' :=
  page39 [n] b t w (by simp) (fun i hi => by
    obtain rfl : i = 0 := by simpa using hi
    exact hn) hb
theorem zz1 (w : World) (a : Obj) : zeroAt ((w.alloc (.cells (byteCells zeroL) 5)).alloc a).drew w.heap.size :=
  ⟨5, (Below.heap_alloc _ _ _ (by rw [alloc_size]; omega)).trans (heap_alloc_new _ _)⟩
theorem zz2 (w : World) (a : Obj) : zeroAt ((w.alloc a).alloc (.cells (byteCells zeroL) 5)).drew (w.heap.size + 1) := by
  rw [← alloc_size w a]
  exact ⟨5, heap_alloc_new _ _⟩
theorem zz0 (w : World) : zeroAt (w.alloc (.cells (byteCells zeroL) 5)).drew w.heap.size := ⟨5, heap_alloc_new _ _⟩
theorem second_new (w : World) (a b : Obj) : ((w.alloc a).alloc b).drew.heap[w.heap.size + 1]? = some b := by
  rw [← alloc_size w a]
  exact heap_alloc_new _ _
theorem bz1 {w w4 : World} {a : Obj} (hb : Below (w.alloc a).drew.heap.size (w.alloc a).drew w4) : Below w.heap.size w w4 :=
  ((Below.refl _ _).alloc (Nat.le_refl _) a).drew.trans (hb.mono (by show _ ≤ (w.alloc a).heap.size; rw [alloc_size]; omega))
theorem bz2 {w w4 : World} {a b : Obj} (hb : Below ((w.alloc a).alloc b).drew.heap.size ((w.alloc a).alloc b).drew w4) : Below w.heap.size w w4 :=
  (((Below.refl _ _).alloc (Nat.le_refl _) a).alloc (by rw [alloc_size]; omega) b).drew.trans (hb.mono (by show _ ≤ ((w.alloc a).alloc b).heap.size; rw [alloc_size, alloc_size]; omega))
theorem rowFree_mono {w w' : World} {b n : Nat} (h : rowFree w b n = true) (hb : Below w.heap.size w w') : rowFree w' b n = true := by
  unfold rowFree at h ⊢
  split at h
  · rename_i cs t hc
    rw [hb.block _ (heap_lt hc), hc]
    exact h
  · cases h
theorem results_tmp_cell {fn : Func} {t u : Tmp} {ty : TypeId} {a : Addr} {v : Value} (h : fn.results = #[.tmp u, .cell t ty]) (tmps : Array Value) (w : World) (ht : tmps[t]? = some (.pointer (some a))) (hl : (loadVar ty a).run Try.prog w = .ok v w) :
    (results fn tmps).run Try.prog w = .ok (.tuple #[tmps.getD u undef, v]) w := by
  simp [results, h, ht, hl, run_asAddr, Result.andThen]
theorem one_fin {a : Act} {w0 Y : World} {x y : ByteArray} {k : Nat} (hY : Below w0.heap.size w0 Y) (hf : rowFree Y (w0.heap.size + 1) 48 = true) (hk : k = Y.heap.size) (hd : a.defers = []) (t2 : a.tmps.getD 2 undef = .slice (some ⟨k, 0, none⟩) 2 2) (t3 : a.tmps[3]? = some (.pointer (some ⟨w0.heap.size + 1, 0, none⟩))) :
    bodyPost Try.prog Try.f37 (fun e w' => Below w0.heap.size w0 w' ∧ ∃ b, w0.heap.size ≤ b ∧ e = .returned (.tuple #[.slice (some ⟨b, 0, none⟩) 2 2, .agg (spCells oneS)]) ∧ w'.heap[b]? = some (.cells #[.string x, .string y] 9)) .ret a ((Y.alloc (.cells #[.string x, .string y] 9)).setRow (w0.heap.size + 1) (spCells oneS)) := by
  subst hk
  obtain ⟨cs, t, hc, hz⟩ : ∃ cs t, Y.heap[w0.heap.size + 1]? = some (.cells cs t (0, 0)) ∧ cs.size = 48 := rowOpen_is (w := Y) (b := w0.heap.size + 1) (n := 48) hf
  have hlt := heap_lt hc
  have ho : rowOpen (Y.alloc (.cells #[.string x, .string y] 9)) (w0.heap.size + 1) 48 = true := by rw [rowOpen_past _ _ _ _ hlt]; exact hf
  have hl : (loadVar 26 ⟨w0.heap.size + 1, 0, none⟩).run Try.prog ((Y.alloc (.cells #[.string x, .string y] 9)).setRow (w0.heap.size + 1) (spCells oneS)) = .ok (.agg (spCells oneS)) ((Y.alloc (.cells #[.string x, .string y] 9)).setRow (w0.heap.size + 1) (spCells oneS)) := by
    have := run_load26 ((Y.alloc (.cells #[.string x, .string y] 9)).setRow (w0.heap.size + 1) (spCells oneS)) (w0.heap.size + 1) (by rw [rowAt_setRow_same _ _ 48 48 _ ho]; simp [spCells_size])
    rw [aggAt_setRow_same _ _ 48 _ ho] at this
    exact this
  refine bodyPost_ret (results_tmp_cell rfl _ _ t3 hl) hd ⟨below_setRow (hY.alloc hY.size _) (by omega) _, Y.heap.size, hY.size, by rw [t2], ?_⟩
  rw [heap_setRow_other _ _ _ _ (by omega)]
  exact heap_alloc_new _ _

set_option maxRecDepth 20000 in
set_option maxHeartbeats 1000000 in
theorem one37s (op A B C : Nat) (imm : Int) (w : World) (n k : Nat) (hn : n ≤ 4294967295) (HE : Hid (∀ w, Calls Try.prog 36 #[.agg #[.int .u8 op, .int .u8 A, .int .u8 B, .int .u8 C, .int .i32 imm]] w fun e w' => e = .returned (.tuple #[.int .u32 n, .int .i64 k]) ∧ Below w.heap.size w w')) :
    Calls Try.prog 37 #[.agg #[.int .u8 op, .int .u8 A, .int .u8 B, .int .u8 C, .int .i32 imm]] w fun e w' => Below w.heap.size w w' ∧ ∃ b, w.heap.size ≤ b ∧ e = .returned (.tuple #[.slice (some ⟨b, 0, none⟩) 2 2, .agg (spCells oneS)]) ∧ w'.heap[b]? = some (.cells #[.string (pageB [n]), .string zeroB] 9) := by
  have hmk := run_make128
  obtain ⟨e1, e2⟩ : w.heap.size < w.heap.size + 1 ∧ w.heap.size < w.heap.size + 1 + 1 := by omega
  go_enter Try.func37, Try.ntmps37
  go_wp2_with (go_at_call 36; refine (HE.out _).mono ?_; rintro e w1 ⟨rfl, hb⟩; have HA := Lib.hid (two_blocks hb); clear hb)
  have q0 : rowFree w1 (w.heap.size + 1) 48 = true := HA.out.2.1
  have q1 := HA.out.2.2
  have hlit := one_lit
  have y0 := zz0 w1
  have y1 := zz1 w1
  have y2 := zz2 w1
  go_region_with (first | (go_at_call 39; refine (page39_one n _ 27 _ hn ?_).mono ?_; (first | exact heap_alloc_new _ _ | exact second_new _ _ _ | exact (Below.heap_alloc _ _ _ (by rw [alloc_size]; omega)).trans (heap_alloc_new _ _)); rintro e w4 ⟨rfl, hb⟩; (first | have hz := zeroAt_below (zz1 _ _) hb | have hz := zeroAt_below (zz2 _ _) hb | skip); (first | have hb1 := bz2 hb | have hb1 := bz1 hb); have q2 := rowFree_mono q0 hb1; have q3 := Nat.lt_of_lt_of_le q1 hb1.size; have q4 := Nat.lt_of_succ_lt q3; have q5 := Nat.lt_succ_of_lt q4; have HB := Lib.hid (below_step HA.out.1 hb1); clear hb hb1))
  all_goals go_wp2_with fail
  all_goals first
    | exact one_fin HB.out q2 rfl rfl rfl rfl
    | exact one_fin (HB.out.alloc HB.out.size _) (rowFree_mono q2 ((Below.refl _ _).alloc (Nat.le_refl _) _)) (by rw [alloc_size]) rfl rfl rfl
theorem strs_row2 {w : World} {b : Nat} {x y : ByteArray} {t : TypeId} (h : w.heap[b]? = some (.cells #[.string x, .string y] t)) : Strs w (.slice (some ⟨b, 0, none⟩) 2 2) [x, y] := by
  refine ⟨_, 2, rfl, Nat.le_refl _, (fun h => by cases h), fun _ => ⟨_, 0, rfl, heap_lt h, fun i hi => ?_⟩⟩
  have : i = 0 ∨ i = 1 := by simp at hi; omega
  rcases this with rfl | rfl <;> exact cell_of_heap h rfl
theorem one37 (op A B C : Nat) (imm : Int) (w : World) (n k : Nat) (hn : n ≤ 4294967295) (HE : Hid (∀ w, Calls Try.prog 36 #[.agg #[.int .u8 op, .int .u8 A, .int .u8 B, .int .u8 C, .int .i32 imm]] w fun e w' => e = .returned (.tuple #[.int .u32 n, .int .i64 k]) ∧ Below w.heap.size w w')) :
    Calls Try.prog 37 #[.agg #[.int .u8 op, .int .u8 A, .int .u8 B, .int .u8 C, .int .i32 imm]] w fun e w' => Below w.heap.size w w' ∧ ∃ v, e = .returned (.tuple #[v, .agg (spCells oneS)]) ∧ Strs w' v [pageB [n], zeroB] := by
  refine (one37s op A B C imm w n k hn HE).mono ?_
  rintro e w' ⟨hb, b, _, rfl, h⟩
  exact ⟨hb, _, rfl, strs_row2 h⟩
end Go.Proofs.Ytlhcggaeecjbcaa
