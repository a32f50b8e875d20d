/- The law MmuFinds, walked. No condition. -/
import Derived.Test.YtlhcggaeecjbcaaArgs
namespace Go.Proofs.Ytlhcggaeecjbcaa
open Go.RowKit
attribute [local go_sem ↓] loadVar_26
attribute [local go_sem] run_load26 aggAt_new aggAt_past aggAt_drew rowAt_new rowAt_past rowAt_drew spCells_size

/-- The two boxes that a law lays at its start are what they were. -/
def Have2 (w0 : World) (c1 c2 : Array Value) (t2 : TypeId) (w : World) : Prop :=
  Below w0.heap.size w0 w ∧ w.heap[w0.heap.size]? = some (.cells c1 26) ∧ w.heap[w0.heap.size + 1]? = some (.cells c2 t2)
theorem have2_start {w0 w : World} {c1 c2 : Array Value} {t2 : TypeId} (hb : Below ((w0.alloc (.cells c1 26)).alloc (.cells c2 t2)).heap.size ((w0.alloc (.cells c1 26)).alloc (.cells c2 t2)) w) : Have2 w0 c1 c2 t2 w := by
  refine ⟨(((Below.refl _ _).alloc (Nat.le_refl _) _).alloc (by rw [alloc_size]; omega) _).trans (hb.mono (by rw [alloc_size, alloc_size]; omega)), ?_, alive_row hb⟩
  rw [hb.block _ (by rw [alloc_size, alloc_size]; omega), Below.heap_alloc _ _ _ (by rw [alloc_size]; omega)]
  exact heap_alloc_new _ _
theorem have2_step {w0 w w' : World} {c1 c2 : Array Value} {t2 : TypeId} (h : Have2 w0 c1 c2 t2 w) (hb : Below w.heap.size w w') : Have2 w0 c1 c2 t2 w' :=
  ⟨below_step h.1 hb, (hb.block _ (heap_lt h.2.1)).trans h.2.1, (hb.block _ (heap_lt h.2.2)).trans h.2.2⟩
theorem have2_space {w0 w : World} {s : Nat → Pte} {c2 : Array Value} {t2 : TypeId} (h : Have2 w0 (spCells s) c2 t2 w) : aggAt w w0.heap.size = .agg (spCells s) ∧ rowAt w w0.heap.size 48 = true := agg_facts h.2.1 48 (spCells_size s)
theorem have2_cell {w0 w : World} {c1 c2 : Array Value} {t2 : TypeId} (h : Have2 w0 c1 c2 t2 w) (i : Nat) {x : Value} (hx : c2[i]? = some x) : w.cell? ⟨w0.heap.size + 1, i, none⟩ = some x := cell_of_heap h.2.2 hx

def byCells (a n : Int) (b : Bool) (x : Nat) : Array Value := #[.int .u32 a, .int .i64 n, .bool b, .int .u32 x]
theorem have2_by {w0 w : World} {c1 : Array Value} {a n : Int} {b : Bool} {x : Nat} (h : Have2 w0 c1 (byCells a n b x) 48 w) :
    w.cell? ⟨w0.heap.size + 1, 0, none⟩ = some (.int .u32 a) ∧ w.cell? ⟨w0.heap.size + 1, 1, none⟩ = some (.int .i64 n) ∧ w.cell? ⟨w0.heap.size + 1, 2, none⟩ = some (.bool b) ∧ w.cell? ⟨w0.heap.size + 1, 3, none⟩ = some (.int .u32 x) :=
  ⟨have2_cell h 0 rfl, have2_cell h 1 rfl, have2_cell h 2 rfl, have2_cell h 3 rfl⟩

theorem great_no {l : List ByteArray} (h : tot l ≤ 5000) : greatB l = 0 := if_pos h
theorem great_is {l : List ByteArray} (h : ¬ tot l ≤ 5000) : greatB l = 1 := if_neg h

theorem findOut_is (r : Option (Int × Int)) : ∃ (f k : Int) (ok : Bool), findOut r = .tuple #[.int .i64 f, .int .i64 k, .bool ok] := by
  cases r with
  | none => exact ⟨0, 0, false, rfl⟩
  | some p => exact ⟨p.1, p.2, true, rfl⟩
theorem loadOut_is (r : Option Nat) : ∃ (v : Nat) (ok : Bool), loadOut r = .tuple #[.int .u32 v, .bool ok] := by
  cases r with
  | none => exact ⟨0, false, rfl⟩
  | some p => exact ⟨p, true, rfl⟩

theorem have2_allBy {w0 w : World} {s : Nat → Pte} {a n : Int} {b : Bool} {x : Nat} (h : Have2 w0 (spCells s) (byCells a n b x) 48 w) :
    aggAt w w0.heap.size = .agg (spCells s) ∧ rowAt w w0.heap.size 48 = true ∧ w.cell? ⟨w0.heap.size + 1, 0, none⟩ = some (.int .u32 a) ∧ w.cell? ⟨w0.heap.size + 1, 1, none⟩ = some (.int .i64 n) ∧ w.cell? ⟨w0.heap.size + 1, 2, none⟩ = some (.bool b) ∧ w.cell? ⟨w0.heap.size + 1, 3, none⟩ = some (.int .u32 x) :=
  ⟨(have2_space h).1, (have2_space h).2, have2_by h⟩

theorem setAt_len {l l' : List ByteArray} {s : Nat → Pte} {a : Int} {b : UInt8} (h : setAt l s a b = some l') : l'.length = l.length := by
  unfold setAt at h
  obtain ⟨p, _, rfl⟩ := Option.map_eq_some_iff.1 h
  simp
theorem layFrom_len {s : Nat → Pte} : ∀ {d : List UInt8} {l l' : List ByteArray} {a : Int}, layFrom s l a d = some l' → l'.length = l.length
  | [], l, l', a, h => by simp [layFrom] at h; rw [h]
  | b :: d, l, l', a, h => by
    unfold layFrom at h
    obtain ⟨m, hm, h2⟩ := Option.bind_eq_some_iff.1 h
    rw [layFrom_len h2, setAt_len hm]
theorem mstore_len {l l' : List ByteArray} {s : Nat → Pte} {a size : Int} {n : Nat} (h : mstore l s a size n = some l') : l'.length = l.length := by
  unfold mstore at h
  split at h
  · exact layFrom_len h
  · cases h
theorem mlay_len {l l' : List ByteArray} {s : Nat → Pte} {a : Int} {d : List UInt8} (h : mlay l s a d = some l') : l'.length = l.length := by
  unfold mlay at h
  split at h
  · cases h
  · exact layFrom_len h
theorem store_len {l : List ByteArray} {s : Nat → Pte} {a size : Int} {n : Nat} (h : l.length ≤ 100000) : ((mstore l s a size n).getD []).length ≤ 100000 := by
  cases hm : mstore l s a size n with
  | none => simp
  | some l' => simp [mstore_len hm, h]
theorem lay_len {l : List ByteArray} {s : Nat → Pte} {a : Int} {d : List UInt8} (h : l.length ≤ 100000) : ((mlay l s a d).getD []).length ≤ 100000 := by
  cases hm : mlay l s a d with
  | none => simp
  | some l' => simp [mlay_len hm, h]

set_option maxRecDepth 20000 in
set_option maxHeartbeats 1000000 in
theorem finds_walk (v : Value) (l : List ByteArray) (s : Nat → Pte) (a n : Int) (b : Bool) (x : Nat) (w : World) (hv : Strs w v l) (hs : Hid (∀ i, (bAt l i).size ≤ 140737488351232)) (hl : Hid (l.length ≤ 140737488351232)) (h0 : 0 ≤ a) (h1 : a ≤ 4294967295) (hx : x ≤ 4294967295) :
    Calls Try.prog 7 #[v, .agg (spCells s), .agg (byCells a n b x)] w fun e w' => e = .returned (.bool true) ∧ Below w.heap.size w w' := by
  have HV := Lib.hid hv
  clear hv
  by_cases hg : tot l ≤ 5000
  · have hg0 := great_no hg
    have HL := Lib.hid (Nat.le_trans (tot_length l) (Nat.le_trans hg (by decide : 5000 ≤ 100000)))
    obtain ⟨f, k, ok, hf⟩ := findOut_is (mfind s a n b)
    obtain ⟨y, fine, hy⟩ := loadOut_is (mload l s a n)
    have Hf := Lib.hid hf
    have Hy := Lib.hid hy
    clear hg hf hy
    go_enter Try.func7, Try.ntmps7
    go_wp2_with (first
      | (go_at_call 17; refine (mmuAlive_any _).mono ?_; rintro e w1 ⟨rfl, hb⟩; have HA := Lib.hid (have2_start hb); clear hb; obtain ⟨q1, q2, q3, q4, q5, q6⟩ := have2_allBy HA.out)
      | (go_at_call 18; refine (great_any _ l _ (HV.out.mono HA.out.1) hs hl).mono ?_; rintro e w2 ⟨rfl, rfl⟩; rw [hg0])
      | (go_at_call 26; refine (find_any s a n b _ h0 h1).mono ?_; rw [Hf.out]; rintro e w3 ⟨rfl, hb⟩; have HB := Lib.hid (have2_step HA.out hb); clear q1 q2 q3 q4 q5 q6 hb; obtain ⟨q1, q2, q3, q4, q5, q6⟩ := have2_allBy HB.out)
      | (go_at_call 27; refine (rfind_any s a n b _ h0 h1).mono ?_; rw [Hf.out]; rintro e w4 ⟨rfl, hb⟩; have HC := Lib.hid (have2_step HB.out hb); clear q1 q2 q3 q4 q5 q6 hb; obtain ⟨q1, q2, q3, q4, q5, q6⟩ := have2_allBy HC.out)
      | (go_at_call 25; refine (load_any _ l s a n _ (HV.out.mono HC.out.1) h0 h1).mono ?_; rw [Hy.out]; rintro e w5 ⟨rfl, hb⟩; have HD := Lib.hid (have2_step HC.out hb); clear q1 q2 q3 q4 q5 q6 hb; obtain ⟨q1, q2, q3, q4, q5, q6⟩ := have2_allBy HD.out)
      | (go_at_call 28; refine (rload_any _ l s a n _ (HV.out.mono HD.out.1) h0 h1).mono ?_; rw [Hy.out]; rintro e w6 ⟨rfl, hb⟩; have HE := Lib.hid (have2_step HD.out hb); clear q1 q2 q3 q4 q5 q6 hb; obtain ⟨q1, q2, q3, q4, q5, q6⟩ := have2_allBy HE.out)
      | (go_at_call 29; refine (store_any _ l s a n x _ (HV.out.mono HE.out.1) HL.out h0 h1 hx).mono ?_; rintro e w7 ⟨hb, v1, rfl, hs1⟩; have HS1 := Lib.hid hs1; clear hs1; have HF := Lib.hid (have2_step HE.out hb); clear q1 q2 q3 q4 q5 q6 hb; obtain ⟨q1, q2, q3, q4, q5, q6⟩ := have2_allBy HF.out)
      | (go_at_call 30; refine (rstore_any _ l s a n x _ (HV.out.mono HF.out.1) HL.out h0 h1 hx).mono ?_; rintro e w8 ⟨hb, v2, rfl, hs2⟩; have HS2 := Lib.hid hs2; have HS3 := Lib.hid (HS1.out.mono hb); clear hs2; have HG := Lib.hid (have2_step HF.out hb); clear q1 q2 q3 q4 q5 q6 hb; obtain ⟨q1, q2, q3, q4, q5, q6⟩ := have2_allBy HG.out)
      | (go_at_call 23; refine (same_yes _ _ _ _ HS3.out HS2.out (store_len HL.out)).mono ?_; rintro e w9 ⟨rfl, hb⟩; have HI := Lib.hid (have2_step HG.out hb); clear q1 q2 q3 q4 q5 q6 hb; obtain ⟨q1, q2, q3, q4, q5, q6⟩ := have2_allBy HI.out))
    go_ret
    exact ⟨rfl, HI.out.1⟩
  · have hg1 := great_is hg
    clear hg
    go_enter Try.func7, Try.ntmps7
    go_wp2_with (first
      | (go_at_call 17; refine (mmuAlive_any _).mono ?_; rintro e w1 ⟨rfl, hb⟩; have HA := Lib.hid (have2_start hb); clear hb)
      | (go_at_call 18; refine (great_any _ l _ (HV.out.mono HA.out.1) hs hl).mono ?_; rintro e w2 ⟨rfl, rfl⟩; rw [hg1]))
    go_ret
    exact ⟨rfl, HA.out.1⟩
end Go.Proofs.Ytlhcggaeecjbcaa
