/- The law MmuPieces, walked. No condition. -/
import Derived.Test.YtlhcggaeecjbcaaMmu17
namespace Go.Proofs.Ytlhcggaeecjbcaa
open Go.RowKit
attribute [local go_sem ↓] loadVar_26
attribute [local go_sem] run_load26 aggAt_new aggAt_past aggAt_drew rowAt_new rowAt_past rowAt_drew spCells_size

theorem mlay_some (v : Value) (l k : List ByteArray) (s : Nat → Pte) (a : Int) (d : ByteArray) (w : World) (hv : Strs w v l) (hl : l.length ≤ 100000) (h0 : 0 ≤ a) (h1 : a ≤ 4294967295) (h : mlay l s a (bl d) = some k) :
    Calls Try.prog 21 #[v, .agg (spCells s), .int .u32 a, .string d] w fun e w' => Below w.heap.size w w' ∧ ∃ v, e = .returned (.tuple #[v, .bool true]) ∧ Strs w' v k := by
  refine (mlay_any v l s a d w hv hl h0 h1).mono ?_
  rw [h]
  exact fun _ _ h => h
theorem mlay_none (v : Value) (l : List ByteArray) (s : Nat → Pte) (a : Int) (d : ByteArray) (w : World) (hv : Strs w v l) (hl : l.length ≤ 100000) (h0 : 0 ≤ a) (h1 : a ≤ 4294967295) (h : mlay l s a (bl d) = none) :
    Calls Try.prog 21 #[v, .agg (spCells s), .int .u32 a, .string d] w fun e w' => Below w.heap.size w w' ∧ ∃ v, e = .returned (.tuple #[v, .bool false]) ∧ Strs w' v [] := by
  refine (mlay_any v l s a d w hv hl h0 h1).mono ?_
  rw [h]
  exact fun _ _ h => h
theorem copy_some (v : Value) (l : List ByteArray) (s : Nat → Pte) (a n : Int) (w : World) (z : List UInt8) (hv : Strs w v l) (h0 : 0 ≤ a) (h1 : a ≤ 4294967295) (h : mcopy l s a n = some z) :
    Calls Try.prog 19 #[v, .agg (spCells s), .int .u32 a, .int .i64 n] w fun e w' => e = .returned (.tuple #[.string ⟨z.toArray⟩, .bool true]) ∧ Below w.heap.size w w' := by
  refine (copy_any v l s a n w hv h0 h1).mono ?_
  rw [h]
  exact fun _ _ h => h
theorem copy_none (v : Value) (l : List ByteArray) (s : Nat → Pte) (a n : Int) (w : World) (hv : Strs w v l) (h0 : 0 ≤ a) (h1 : a ≤ 4294967295) (h : mcopy l s a n = none) :
    Calls Try.prog 19 #[v, .agg (spCells s), .int .u32 a, .int .i64 n] w fun e w' => e = .returned (.tuple #[.string ⟨#[]⟩, .bool false]) ∧ Below w.heap.size w w' := by
  refine (copy_any v l s a n w hv h0 h1).mono ?_
  rw [h]
  exact fun _ _ h => h

set_option maxRecDepth 20000 in
set_option maxHeartbeats 1000000 in
theorem pieces_great (v : Value) (l : List ByteArray) (s : Nat → Pte) (a : Int) (x y : ByteArray) (w : World) (HV : Hid (Strs w v l)) (hs : Hid (∀ i, (bAt l i).size ≤ 140737488351232)) (hl : Hid (l.length ≤ 140737488351232)) (hg1 : greatB l = 1) :
    Calls Try.prog 6 #[v, .agg (spCells s), .agg (pieceCells a x y)] w fun e w' => e = .returned (.bool true) ∧ Below w.heap.size w w' := by
  go_enter Try.func6, Try.ntmps6
  go_wp2_with (first
    | (go_at_call 17; refine (mmuAlive_any _).mono ?_; rintro e w1 ⟨rfl, hb⟩; have HA := Lib.hid (have2_start hb); clear hb; obtain ⟨q1, q2, q3, q4, q5⟩ := have2_allPieces HA.out)
    | (go_at_call 18; refine (great_any _ l _ (HV.out.mono HA.out.1) hs hl).mono ?_; rintro e w2 ⟨rfl, rfl⟩; rw [hg1]))
  go_ret
  exact ⟨rfl, HA.out.1⟩

set_option maxRecDepth 20000 in
set_option maxHeartbeats 1000000 in
theorem pieces_long (v : Value) (l : List ByteArray) (s : Nat → Pte) (a : Int) (x y : ByteArray) (w : World) (HV : Hid (Strs w v l)) (hs : Hid (∀ i, (bAt l i).size ≤ 140737488351232)) (hl : Hid (l.length ≤ 140737488351232)) (hg0 : greatB l = 0) (hw : IntKind.i64.wrap ((x.size : Int) + y.size) = x.size + y.size) (e0 : decide ((2000 : Int) < x.size + y.size) = true) :
    Calls Try.prog 6 #[v, .agg (spCells s), .agg (pieceCells a x y)] w fun e w' => e = .returned (.bool true) ∧ Below w.heap.size w w' := by
  go_enter Try.func6, Try.ntmps6
  go_wp2_with (first
    | (go_at_call 17; refine (mmuAlive_any _).mono ?_; rintro e w1 ⟨rfl, hb⟩; have HA := Lib.hid (have2_start hb); clear hb; obtain ⟨q1, q2, q3, q4, q5⟩ := have2_allPieces HA.out)
    | (go_at_call 18; refine (great_any _ l _ (HV.out.mono HA.out.1) hs hl).mono ?_; rintro e w2 ⟨rfl, rfl⟩; rw [hg0]))
  go_ret
  exact ⟨rfl, HA.out.1⟩

set_option maxRecDepth 20000 in
set_option maxHeartbeats 1000000 in
theorem pieces_nn (v : Value) (l : List ByteArray) (s : Nat → Pte) (a : Int) (x y : ByteArray) (w : World) (HV : Hid (Strs w v l)) (hs : Hid (∀ i, (bAt l i).size ≤ 140737488351232)) (hl : Hid (l.length ≤ 140737488351232)) (h0 : 0 ≤ a) (h1 : a ≤ 4294967295) (hg0 : greatB l = 0) (hd : x.size + y.size ≤ 2000) (e0 : decide ((2000 : Int) < x.size + y.size) = false) (HL : Hid (l.length ≤ 100000))
    (Hm : Hid (mlay l s a (bl x) = none)) (Hn : Hid (mlay l s a (bl (x ++ y)) = none)) (b : Int) (hb0 : 0 ≤ b) (hb1 : b ≤ 4294967295) (hw : IntKind.u32.wrap (a + x.size) = b) (Hc : Hid (mcopy l s a (x.size + y.size) = none)) :
    Calls Try.prog 6 #[v, .agg (spCells s), .agg (pieceCells a x y)] w fun e w' => e = .returned (.bool true) ∧ Below w.heap.size w w' := by
  go_enter Try.func6, Try.ntmps6
  go_wp2_with (first
    | (go_at_call 19; refine (copy_any _ l s b y.size _ (HV.out.mono HY.out.1) (by omega) (by omega)).mono ?_; obtain ⟨z2, o2, hz2⟩ := copyOut_is (mcopy l s b y.size); rw [hz2]; clear hz2; rintro e w9 ⟨rfl, hb⟩; have HZ := Lib.hid (have2_step HY.out hb); clear q1 q2 q3 q4 q5 hb; obtain ⟨q1, q2, q3, q4, q5⟩ := have2_allPieces HZ.out)
    | (go_at_call 19; refine (copy_any _ l s a x.size _ (HV.out.mono HX.out.1) h0 h1).mono ?_; obtain ⟨z1, o1, hz1⟩ := copyOut_is (mcopy l s a x.size); rw [hz1]; clear hz1; rintro e w8 ⟨rfl, hb⟩; have HY := Lib.hid (have2_step HX.out hb); clear q1 q2 q3 q4 q5 hb; obtain ⟨q1, q2, q3, q4, q5⟩ := have2_allPieces HY.out)
    | (go_at_call 19; refine (copy_none _ l s a (x.size + y.size) _ (HV.out.mono HC.out.1) h0 h1 Hc.out).mono ?_; rintro e w7 ⟨rfl, hb⟩; have HX := Lib.hid (have2_step HC.out hb); clear q1 q2 q3 q4 q5 hb; obtain ⟨q1, q2, q3, q4, q5⟩ := have2_allPieces HX.out)
    | (go_at_call 21; refine (mlay_none _ l s a x _ (HV.out.mono HB.out.1) HL.out h0 h1 Hm.out).mono ?_; rintro e w4 ⟨hb, v2, rfl, -⟩; have HC := Lib.hid (have2_step HB.out hb); clear q1 q2 q3 q4 q5 hb; obtain ⟨q1, q2, q3, q4, q5⟩ := have2_allPieces HC.out)
    | (go_at_call 21; refine (mlay_none _ l s a (x ++ y) _ (HV.out.mono HA.out.1) HL.out h0 h1 Hn.out).mono ?_; rintro e w3 ⟨hb, v1, rfl, -⟩; have HB := Lib.hid (have2_step HA.out hb); clear q1 q2 q3 q4 q5 hb; obtain ⟨q1, q2, q3, q4, q5⟩ := have2_allPieces HB.out)
    | (go_at_call 18; refine (great_any _ l _ (HV.out.mono HA.out.1) hs hl).mono ?_; rintro e w2 ⟨rfl, rfl⟩; rw [hg0])
    | (go_at_call 17; refine (mmuAlive_any _).mono ?_; rintro e w1 ⟨rfl, hb⟩; have HA := Lib.hid (have2_start hb); clear hb; obtain ⟨q1, q2, q3, q4, q5⟩ := have2_allPieces HA.out))
  go_ret
  exact ⟨rfl, HZ.out.1⟩

set_option maxRecDepth 20000 in
set_option maxHeartbeats 1000000 in
theorem pieces_ns (v : Value) (l : List ByteArray) (s : Nat → Pte) (a : Int) (x y : ByteArray) (w : World) (HV : Hid (Strs w v l)) (hs : Hid (∀ i, (bAt l i).size ≤ 140737488351232)) (hl : Hid (l.length ≤ 140737488351232)) (h0 : 0 ≤ a) (h1 : a ≤ 4294967295) (hg0 : greatB l = 0) (hd : x.size + y.size ≤ 2000) (e0 : decide ((2000 : Int) < x.size + y.size) = false) (HL : Hid (l.length ≤ 100000))
    (Hm : Hid (mlay l s a (bl x) = none)) (Hn : Hid (mlay l s a (bl (x ++ y)) = none)) (ha : a + x.size ≤ 2048) (z z1 z2 : List UInt8) (hz : (⟨z.toArray⟩ : ByteArray) = ⟨z1.toArray⟩ ++ ⟨z2.toArray⟩) (hz1 : (⟨z1.toArray⟩ : ByteArray).size ≤ 2000) (hz2 : (⟨z2.toArray⟩ : ByteArray).size ≤ 2000) (Hc : Hid (mcopy l s a (x.size + y.size) = some z)) (Hc1 : Hid (mcopy l s a x.size = some z1)) (Hc2 : Hid (mcopy l s (a + x.size) y.size = some z2)) :
    Calls Try.prog 6 #[v, .agg (spCells s), .agg (pieceCells a x y)] w fun e w' => e = .returned (.bool true) ∧ Below w.heap.size w w' := by
  go_enter Try.func6, Try.ntmps6
  go_wp2_with (first
    | (go_at_call 19; refine (copy_some _ l s (a + x.size) y.size _ z2 (HV.out.mono HY.out.1) (by omega) (by omega) Hc2.out).mono ?_; rintro e w9 ⟨rfl, hb⟩; have HZ := Lib.hid (have2_step HY.out hb); clear q1 q2 q3 q4 q5 hb; obtain ⟨q1, q2, q3, q4, q5⟩ := have2_allPieces HZ.out)
    | (go_at_call 19; refine (copy_some _ l s a x.size _ z1 (HV.out.mono HX.out.1) h0 h1 Hc1.out).mono ?_; rintro e w8 ⟨rfl, hb⟩; have HY := Lib.hid (have2_step HX.out hb); clear q1 q2 q3 q4 q5 hb; obtain ⟨q1, q2, q3, q4, q5⟩ := have2_allPieces HY.out)
    | (go_at_call 19; refine (copy_some _ l s a (x.size + y.size) _ z (HV.out.mono HC.out.1) h0 h1 Hc.out).mono ?_; rintro e w7 ⟨rfl, hb⟩; have HX := Lib.hid (have2_step HC.out hb); clear q1 q2 q3 q4 q5 hb; obtain ⟨q1, q2, q3, q4, q5⟩ := have2_allPieces HX.out)
    | (go_at_call 21; refine (mlay_none _ l s a x _ (HV.out.mono HB.out.1) HL.out h0 h1 Hm.out).mono ?_; rintro e w4 ⟨hb, v2, rfl, -⟩; have HC := Lib.hid (have2_step HB.out hb); clear q1 q2 q3 q4 q5 hb; obtain ⟨q1, q2, q3, q4, q5⟩ := have2_allPieces HC.out)
    | (go_at_call 21; refine (mlay_none _ l s a (x ++ y) _ (HV.out.mono HA.out.1) HL.out h0 h1 Hn.out).mono ?_; rintro e w3 ⟨hb, v1, rfl, -⟩; have HB := Lib.hid (have2_step HA.out hb); clear q1 q2 q3 q4 q5 hb; obtain ⟨q1, q2, q3, q4, q5⟩ := have2_allPieces HB.out)
    | (go_at_call 18; refine (great_any _ l _ (HV.out.mono HA.out.1) hs hl).mono ?_; rintro e w2 ⟨rfl, rfl⟩; rw [hg0])
    | (go_at_call 17; refine (mmuAlive_any _).mono ?_; rintro e w1 ⟨rfl, hb⟩; have HA := Lib.hid (have2_start hb); clear hb; obtain ⟨q1, q2, q3, q4, q5⟩ := have2_allPieces HA.out))
  go_ret
  exact ⟨rfl, HZ.out.1⟩

set_option maxRecDepth 20000 in
set_option maxHeartbeats 1000000 in
theorem pieces_s0n (v : Value) (l : List ByteArray) (s : Nat → Pte) (a : Int) (x y : ByteArray) (w : World) (HV : Hid (Strs w v l)) (hs : Hid (∀ i, (bAt l i).size ≤ 140737488351232)) (hl : Hid (l.length ≤ 140737488351232)) (h0 : 0 ≤ a) (h1 : a ≤ 4294967295) (hg0 : greatB l = 0) (hd : x.size + y.size ≤ 2000) (e0 : decide ((2000 : Int) < x.size + y.size) = false) (HL : Hid (l.length ≤ 100000))
    (m : List ByteArray) (HLm : Hid (m.length ≤ 100000)) (ha : a + x.size ≤ 2048) (Hm : Hid (mlay l s a (bl x) = some m)) (Hn : Hid (mlay l s a (bl (x ++ y)) = none)) (Hr : Hid (mlay m s (a + x.size) (bl y) = none)) (Hc : Hid (mcopy l s a (x.size + y.size) = none)) :
    Calls Try.prog 6 #[v, .agg (spCells s), .agg (pieceCells a x y)] w fun e w' => e = .returned (.bool true) ∧ Below w.heap.size w w' := by
  go_enter Try.func6, Try.ntmps6
  go_wp2_with (first
    | (go_at_call 19; refine (copy_any _ l s (a + x.size) y.size _ (HV.out.mono HY.out.1) (by omega) (by omega)).mono ?_; obtain ⟨z2, o2, hz2⟩ := copyOut_is (mcopy l s (a + x.size) y.size); rw [hz2]; clear hz2; rintro e w9 ⟨rfl, hb⟩; have HZ := Lib.hid (have2_step HY.out hb); clear q1 q2 q3 q4 q5 hb; obtain ⟨q1, q2, q3, q4, q5⟩ := have2_allPieces HZ.out)
    | (go_at_call 19; refine (copy_any _ l s a x.size _ (HV.out.mono HX.out.1) h0 h1).mono ?_; obtain ⟨z1, o1, hz1⟩ := copyOut_is (mcopy l s a x.size); rw [hz1]; clear hz1; rintro e w8 ⟨rfl, hb⟩; have HY := Lib.hid (have2_step HX.out hb); clear q1 q2 q3 q4 q5 hb; obtain ⟨q1, q2, q3, q4, q5⟩ := have2_allPieces HY.out)
    | (go_at_call 19; refine (copy_none _ l s a (x.size + y.size) _ (HV.out.mono HD.out.1) h0 h1 Hc.out).mono ?_; rintro e w7 ⟨rfl, hb⟩; have HX := Lib.hid (have2_step HD.out hb); clear q1 q2 q3 q4 q5 hb; obtain ⟨q1, q2, q3, q4, q5⟩ := have2_allPieces HX.out)
    | (go_at_call 21; refine (mlay_none _ m s (a + x.size) y _ HS2.out HLm.out (by omega) (by omega) Hr.out).mono ?_; rintro e w5 ⟨hb, v3, rfl, -⟩; have HD := Lib.hid (have2_step HC.out hb); clear q1 q2 q3 q4 q5 hb; obtain ⟨q1, q2, q3, q4, q5⟩ := have2_allPieces HD.out)
    | (go_at_call 21; refine (mlay_some _ l m s a x _ (HV.out.mono HB.out.1) HL.out h0 h1 Hm.out).mono ?_; rintro e w4 ⟨hb, v2, rfl, hs2⟩; have HS2 := Lib.hid hs2; clear hs2; have HC := Lib.hid (have2_step HB.out hb); clear q1 q2 q3 q4 q5 hb; obtain ⟨q1, q2, q3, q4, q5⟩ := have2_allPieces HC.out)
    | (go_at_call 21; refine (mlay_none _ l s a (x ++ y) _ (HV.out.mono HA.out.1) HL.out h0 h1 Hn.out).mono ?_; rintro e w3 ⟨hb, v1, rfl, -⟩; have HB := Lib.hid (have2_step HA.out hb); clear q1 q2 q3 q4 q5 hb; obtain ⟨q1, q2, q3, q4, q5⟩ := have2_allPieces HB.out)
    | (go_at_call 18; refine (great_any _ l _ (HV.out.mono HA.out.1) hs hl).mono ?_; rintro e w2 ⟨rfl, rfl⟩; rw [hg0])
    | (go_at_call 17; refine (mmuAlive_any _).mono ?_; rintro e w1 ⟨rfl, hb⟩; have HA := Lib.hid (have2_start hb); clear hb; obtain ⟨q1, q2, q3, q4, q5⟩ := have2_allPieces HA.out))
  go_ret
  exact ⟨rfl, HZ.out.1⟩

set_option maxRecDepth 20000 in
set_option maxHeartbeats 1000000 in
theorem pieces_s0s (v : Value) (l : List ByteArray) (s : Nat → Pte) (a : Int) (x y : ByteArray) (w : World) (HV : Hid (Strs w v l)) (hs : Hid (∀ i, (bAt l i).size ≤ 140737488351232)) (hl : Hid (l.length ≤ 140737488351232)) (h0 : 0 ≤ a) (h1 : a ≤ 4294967295) (hg0 : greatB l = 0) (hd : x.size + y.size ≤ 2000) (e0 : decide ((2000 : Int) < x.size + y.size) = false) (HL : Hid (l.length ≤ 100000))
    (m : List ByteArray) (HLm : Hid (m.length ≤ 100000)) (ha : a + x.size ≤ 2048) (Hm : Hid (mlay l s a (bl x) = some m)) (Hn : Hid (mlay l s a (bl (x ++ y)) = none)) (Hr : Hid (mlay m s (a + x.size) (bl y) = none)) (z z1 z2 : List UInt8) (hz : (⟨z.toArray⟩ : ByteArray) = ⟨z1.toArray⟩ ++ ⟨z2.toArray⟩) (hz1 : (⟨z1.toArray⟩ : ByteArray).size ≤ 2000) (hz2 : (⟨z2.toArray⟩ : ByteArray).size ≤ 2000) (Hc : Hid (mcopy l s a (x.size + y.size) = some z)) (Hc1 : Hid (mcopy l s a x.size = some z1)) (Hc2 : Hid (mcopy l s (a + x.size) y.size = some z2)) :
    Calls Try.prog 6 #[v, .agg (spCells s), .agg (pieceCells a x y)] w fun e w' => e = .returned (.bool true) ∧ Below w.heap.size w w' := by
  go_enter Try.func6, Try.ntmps6
  go_wp2_with (first
    | (go_at_call 19; refine (copy_some _ l s (a + x.size) y.size _ z2 (HV.out.mono HY.out.1) (by omega) (by omega) Hc2.out).mono ?_; rintro e w9 ⟨rfl, hb⟩; have HZ := Lib.hid (have2_step HY.out hb); clear q1 q2 q3 q4 q5 hb; obtain ⟨q1, q2, q3, q4, q5⟩ := have2_allPieces HZ.out)
    | (go_at_call 19; refine (copy_some _ l s a x.size _ z1 (HV.out.mono HX.out.1) h0 h1 Hc1.out).mono ?_; rintro e w8 ⟨rfl, hb⟩; have HY := Lib.hid (have2_step HX.out hb); clear q1 q2 q3 q4 q5 hb; obtain ⟨q1, q2, q3, q4, q5⟩ := have2_allPieces HY.out)
    | (go_at_call 19; refine (copy_some _ l s a (x.size + y.size) _ z (HV.out.mono HD.out.1) h0 h1 Hc.out).mono ?_; rintro e w7 ⟨rfl, hb⟩; have HX := Lib.hid (have2_step HD.out hb); clear q1 q2 q3 q4 q5 hb; obtain ⟨q1, q2, q3, q4, q5⟩ := have2_allPieces HX.out)
    | (go_at_call 21; refine (mlay_none _ m s (a + x.size) y _ HS2.out HLm.out (by omega) (by omega) Hr.out).mono ?_; rintro e w5 ⟨hb, v3, rfl, -⟩; have HD := Lib.hid (have2_step HC.out hb); clear q1 q2 q3 q4 q5 hb; obtain ⟨q1, q2, q3, q4, q5⟩ := have2_allPieces HD.out)
    | (go_at_call 21; refine (mlay_some _ l m s a x _ (HV.out.mono HB.out.1) HL.out h0 h1 Hm.out).mono ?_; rintro e w4 ⟨hb, v2, rfl, hs2⟩; have HS2 := Lib.hid hs2; clear hs2; have HC := Lib.hid (have2_step HB.out hb); clear q1 q2 q3 q4 q5 hb; obtain ⟨q1, q2, q3, q4, q5⟩ := have2_allPieces HC.out)
    | (go_at_call 21; refine (mlay_none _ l s a (x ++ y) _ (HV.out.mono HA.out.1) HL.out h0 h1 Hn.out).mono ?_; rintro e w3 ⟨hb, v1, rfl, -⟩; have HB := Lib.hid (have2_step HA.out hb); clear q1 q2 q3 q4 q5 hb; obtain ⟨q1, q2, q3, q4, q5⟩ := have2_allPieces HB.out)
    | (go_at_call 18; refine (great_any _ l _ (HV.out.mono HA.out.1) hs hl).mono ?_; rintro e w2 ⟨rfl, rfl⟩; rw [hg0])
    | (go_at_call 17; refine (mmuAlive_any _).mono ?_; rintro e w1 ⟨rfl, hb⟩; have HA := Lib.hid (have2_start hb); clear hb; obtain ⟨q1, q2, q3, q4, q5⟩ := have2_allPieces HA.out))
  go_ret
  exact ⟨rfl, HZ.out.1⟩

set_option maxRecDepth 20000 in
set_option maxHeartbeats 1000000 in
theorem pieces_s1n (v : Value) (l : List ByteArray) (s : Nat → Pte) (a : Int) (x y : ByteArray) (w : World) (HV : Hid (Strs w v l)) (hs : Hid (∀ i, (bAt l i).size ≤ 140737488351232)) (hl : Hid (l.length ≤ 140737488351232)) (h0 : 0 ≤ a) (h1 : a ≤ 4294967295) (hg0 : greatB l = 0) (hd : x.size + y.size ≤ 2000) (e0 : decide ((2000 : Int) < x.size + y.size) = false) (HL : Hid (l.length ≤ 100000))
    (m r : List ByteArray) (HLm : Hid (m.length ≤ 100000)) (HLr : Hid (r.length ≤ 100000)) (ha : a + x.size ≤ 2048) (Hm : Hid (mlay l s a (bl x) = some m)) (Hn : Hid (mlay l s a (bl (x ++ y)) = some r)) (Hr : Hid (mlay m s (a + x.size) (bl y) = some r)) (Hc : Hid (mcopy l s a (x.size + y.size) = none)) :
    Calls Try.prog 6 #[v, .agg (spCells s), .agg (pieceCells a x y)] w fun e w' => e = .returned (.bool true) ∧ Below w.heap.size w w' := by
  go_enter Try.func6, Try.ntmps6
  go_wp2_with (first
    | (go_at_call 19; refine (copy_any _ l s (a + x.size) y.size _ (HV.out.mono HY.out.1) (by omega) (by omega)).mono ?_; obtain ⟨z2, o2, hz2⟩ := copyOut_is (mcopy l s (a + x.size) y.size); rw [hz2]; clear hz2; rintro e w9 ⟨rfl, hb⟩; have HZ := Lib.hid (have2_step HY.out hb); clear q1 q2 q3 q4 q5 hb; obtain ⟨q1, q2, q3, q4, q5⟩ := have2_allPieces HZ.out)
    | (go_at_call 19; refine (copy_any _ l s a x.size _ (HV.out.mono HX.out.1) h0 h1).mono ?_; obtain ⟨z1, o1, hz1⟩ := copyOut_is (mcopy l s a x.size); rw [hz1]; clear hz1; rintro e w8 ⟨rfl, hb⟩; have HY := Lib.hid (have2_step HX.out hb); clear q1 q2 q3 q4 q5 hb; obtain ⟨q1, q2, q3, q4, q5⟩ := have2_allPieces HY.out)
    | (go_at_call 19; refine (copy_none _ l s a (x.size + y.size) _ (HV.out.mono HE.out.1) h0 h1 Hc.out).mono ?_; rintro e w7 ⟨rfl, hb⟩; have HX := Lib.hid (have2_step HE.out hb); clear q1 q2 q3 q4 q5 hb; obtain ⟨q1, q2, q3, q4, q5⟩ := have2_allPieces HX.out)
    | (go_at_call 23; refine (same_yes _ _ r _ HS1c.out HS3.out HLr.out).mono ?_; rintro e w6 ⟨rfl, hb⟩; have HE := Lib.hid (have2_step HD.out hb); clear q1 q2 q3 q4 q5 hb; obtain ⟨q1, q2, q3, q4, q5⟩ := have2_allPieces HE.out)
    | (go_at_call 21; refine (mlay_some _ m r s (a + x.size) y _ HS2.out HLm.out (by omega) (by omega) Hr.out).mono ?_; rintro e w5 ⟨hb, v3, rfl, hs3⟩; have HS3 := Lib.hid hs3; have HS1c := Lib.hid (HS1b.out.mono hb); clear hs3; have HD := Lib.hid (have2_step HC.out hb); clear q1 q2 q3 q4 q5 hb; obtain ⟨q1, q2, q3, q4, q5⟩ := have2_allPieces HD.out)
    | (go_at_call 21; refine (mlay_some _ l m s a x _ (HV.out.mono HB.out.1) HL.out h0 h1 Hm.out).mono ?_; rintro e w4 ⟨hb, v2, rfl, hs2⟩; have HS2 := Lib.hid hs2; clear hs2; have HS1b := Lib.hid (HS1.out.mono hb); have HC := Lib.hid (have2_step HB.out hb); clear q1 q2 q3 q4 q5 hb; obtain ⟨q1, q2, q3, q4, q5⟩ := have2_allPieces HC.out)
    | (go_at_call 21; refine (mlay_some _ l r s a (x ++ y) _ (HV.out.mono HA.out.1) HL.out h0 h1 Hn.out).mono ?_; rintro e w3 ⟨hb, v1, rfl, hs1⟩; have HS1 := Lib.hid hs1; clear hs1; have HB := Lib.hid (have2_step HA.out hb); clear q1 q2 q3 q4 q5 hb; obtain ⟨q1, q2, q3, q4, q5⟩ := have2_allPieces HB.out)
    | (go_at_call 18; refine (great_any _ l _ (HV.out.mono HA.out.1) hs hl).mono ?_; rintro e w2 ⟨rfl, rfl⟩; rw [hg0])
    | (go_at_call 17; refine (mmuAlive_any _).mono ?_; rintro e w1 ⟨rfl, hb⟩; have HA := Lib.hid (have2_start hb); clear hb; obtain ⟨q1, q2, q3, q4, q5⟩ := have2_allPieces HA.out))
  go_ret
  exact ⟨rfl, HZ.out.1⟩

set_option maxRecDepth 20000 in
set_option maxHeartbeats 1000000 in
theorem pieces_s1s (v : Value) (l : List ByteArray) (s : Nat → Pte) (a : Int) (x y : ByteArray) (w : World) (HV : Hid (Strs w v l)) (hs : Hid (∀ i, (bAt l i).size ≤ 140737488351232)) (hl : Hid (l.length ≤ 140737488351232)) (h0 : 0 ≤ a) (h1 : a ≤ 4294967295) (hg0 : greatB l = 0) (hd : x.size + y.size ≤ 2000) (e0 : decide ((2000 : Int) < x.size + y.size) = false) (HL : Hid (l.length ≤ 100000))
    (m r : List ByteArray) (HLm : Hid (m.length ≤ 100000)) (HLr : Hid (r.length ≤ 100000)) (ha : a + x.size ≤ 2048) (Hm : Hid (mlay l s a (bl x) = some m)) (Hn : Hid (mlay l s a (bl (x ++ y)) = some r)) (Hr : Hid (mlay m s (a + x.size) (bl y) = some r)) (z z1 z2 : List UInt8) (hz : (⟨z.toArray⟩ : ByteArray) = ⟨z1.toArray⟩ ++ ⟨z2.toArray⟩) (hz1 : (⟨z1.toArray⟩ : ByteArray).size ≤ 2000) (hz2 : (⟨z2.toArray⟩ : ByteArray).size ≤ 2000) (Hc : Hid (mcopy l s a (x.size + y.size) = some z)) (Hc1 : Hid (mcopy l s a x.size = some z1)) (Hc2 : Hid (mcopy l s (a + x.size) y.size = some z2)) :
    Calls Try.prog 6 #[v, .agg (spCells s), .agg (pieceCells a x y)] w fun e w' => e = .returned (.bool true) ∧ Below w.heap.size w w' := by
  go_enter Try.func6, Try.ntmps6
  go_wp2_with (first
    | (go_at_call 19; refine (copy_some _ l s (a + x.size) y.size _ z2 (HV.out.mono HY.out.1) (by omega) (by omega) Hc2.out).mono ?_; rintro e w9 ⟨rfl, hb⟩; have HZ := Lib.hid (have2_step HY.out hb); clear q1 q2 q3 q4 q5 hb; obtain ⟨q1, q2, q3, q4, q5⟩ := have2_allPieces HZ.out)
    | (go_at_call 19; refine (copy_some _ l s a x.size _ z1 (HV.out.mono HX.out.1) h0 h1 Hc1.out).mono ?_; rintro e w8 ⟨rfl, hb⟩; have HY := Lib.hid (have2_step HX.out hb); clear q1 q2 q3 q4 q5 hb; obtain ⟨q1, q2, q3, q4, q5⟩ := have2_allPieces HY.out)
    | (go_at_call 19; refine (copy_some _ l s a (x.size + y.size) _ z (HV.out.mono HE.out.1) h0 h1 Hc.out).mono ?_; rintro e w7 ⟨rfl, hb⟩; have HX := Lib.hid (have2_step HE.out hb); clear q1 q2 q3 q4 q5 hb; obtain ⟨q1, q2, q3, q4, q5⟩ := have2_allPieces HX.out)
    | (go_at_call 23; refine (same_yes _ _ r _ HS1c.out HS3.out HLr.out).mono ?_; rintro e w6 ⟨rfl, hb⟩; have HE := Lib.hid (have2_step HD.out hb); clear q1 q2 q3 q4 q5 hb; obtain ⟨q1, q2, q3, q4, q5⟩ := have2_allPieces HE.out)
    | (go_at_call 21; refine (mlay_some _ m r s (a + x.size) y _ HS2.out HLm.out (by omega) (by omega) Hr.out).mono ?_; rintro e w5 ⟨hb, v3, rfl, hs3⟩; have HS3 := Lib.hid hs3; have HS1c := Lib.hid (HS1b.out.mono hb); clear hs3; have HD := Lib.hid (have2_step HC.out hb); clear q1 q2 q3 q4 q5 hb; obtain ⟨q1, q2, q3, q4, q5⟩ := have2_allPieces HD.out)
    | (go_at_call 21; refine (mlay_some _ l m s a x _ (HV.out.mono HB.out.1) HL.out h0 h1 Hm.out).mono ?_; rintro e w4 ⟨hb, v2, rfl, hs2⟩; have HS2 := Lib.hid hs2; clear hs2; have HS1b := Lib.hid (HS1.out.mono hb); have HC := Lib.hid (have2_step HB.out hb); clear q1 q2 q3 q4 q5 hb; obtain ⟨q1, q2, q3, q4, q5⟩ := have2_allPieces HC.out)
    | (go_at_call 21; refine (mlay_some _ l r s a (x ++ y) _ (HV.out.mono HA.out.1) HL.out h0 h1 Hn.out).mono ?_; rintro e w3 ⟨hb, v1, rfl, hs1⟩; have HS1 := Lib.hid hs1; clear hs1; have HB := Lib.hid (have2_step HA.out hb); clear q1 q2 q3 q4 q5 hb; obtain ⟨q1, q2, q3, q4, q5⟩ := have2_allPieces HB.out)
    | (go_at_call 18; refine (great_any _ l _ (HV.out.mono HA.out.1) hs hl).mono ?_; rintro e w2 ⟨rfl, rfl⟩; rw [hg0])
    | (go_at_call 17; refine (mmuAlive_any _).mono ?_; rintro e w1 ⟨rfl, hb⟩; have HA := Lib.hid (have2_start hb); clear hb; obtain ⟨q1, q2, q3, q4, q5⟩ := have2_allPieces HA.out))
  go_ret
  exact ⟨rfl, HZ.out.1⟩

theorem mk_size (x : List UInt8) : (⟨x.toArray⟩ : ByteArray).size = x.length := by rw [← bl_length, bl_mk x]
theorem mk_append (x y : List UInt8) : (⟨(x ++ y).toArray⟩ : ByteArray) = ⟨x.toArray⟩ ++ ⟨y.toArray⟩ := bl_ext (by rw [bl_append, bl_mk, bl_mk, bl_mk])
theorem copyFrom_length' {l : List ByteArray} {s : Nat → Pte} : ∀ (n : Nat) {a : Int} {x : List UInt8}, copyFrom l s a n = some x → x.length = n := fun n _ _ h => copyFrom_length n h
theorem mcopy_length {l : List ByteArray} {s : Nat → Pte} {a n : Int} {x : List UInt8} (h : mcopy l s a n = some x) : (x.length : Int) = n := by
  unfold mcopy at h
  split at h
  · cases h
  · have := copyFrom_length' _ h
    omega

theorem pieces_walk (v : Value) (l : List ByteArray) (s : Nat → Pte) (a : Int) (x y : ByteArray) (w : World) (hv : Strs w v l) (hs : Hid (∀ i, (bAt l i).size ≤ 140737488351232)) (hl : Hid (l.length ≤ 140737488351232)) (h0 : 0 ≤ a) (h1 : a ≤ 4294967295)
    (hx : x.size ≤ 140737488351232) (hy : y.size ≤ 140737488351232) :
    Calls Try.prog 6 #[v, .agg (spCells s), .agg (pieceCells a x y)] w fun e w' => e = .returned (.bool true) ∧ Below w.heap.size w w' := by
  by_cases hg : tot l ≤ 5000
  · have hg0 := great_no hg
    have HL : l.length ≤ 100000 := Nat.le_trans (tot_length l) (Nat.le_trans hg (by decide : 5000 ≤ 100000))
    by_cases hd : x.size + y.size ≤ 2000
    · have e0 : decide ((2000 : Int) < x.size + y.size) = false := by simp; omega
      have hxy : ((x.size : Int) + y.size) = ((x.size + y.size : Nat) : Int) := by omega
      cases hm : mlay l s a (bl x) with
      | none =>
        have hn : mlay l s a (bl (x ++ y)) = none := by rw [bl_append]; exact pieces_none hm
        cases hc : mcopy l s a (x.size + y.size) with
        | none =>
          exact pieces_nn v l s a x y w hv hs hl h0 h1 hg0 hd e0 HL hm hn (IntKind.u32.wrap (a + x.size)) (by rw [IntKind.wrap_u32]; omega) (by rw [IntKind.wrap_u32]; omega) rfl hc
        | some z =>
          have hc' := hc
          rw [hxy] at hc'
          obtain ⟨z1, z2, hz1, hz2, hz, ha⟩ := pieces_copy hc'
          have hl1 := mcopy_length hz1
          have hl2 := mcopy_length hz2
          exact pieces_ns v l s a x y w hv hs hl h0 h1 hg0 hd e0 HL hm hn (by omega) z z1 z2 (by rw [hz, mk_append]) (by rw [mk_size]; omega) (by rw [mk_size]; omega) hc hz1 hz2
      | some m =>
        have ha : a + x.size ≤ 2048 := by have := (mlay_le hm).1; rw [bl_length] at this; exact this
        have HLm : m.length ≤ 100000 := by rw [mlay_len hm]; exact HL
        have he : mlay l s a (bl (x ++ y)) = mlay m s (a + x.size) (bl y) := by rw [bl_append, pieces_some hm, bl_length]
        cases hr : mlay m s (a + x.size) (bl y) with
        | none =>
          cases hc : mcopy l s a (x.size + y.size) with
          | none => exact pieces_s0n v l s a x y w hv hs hl h0 h1 hg0 hd e0 HL m HLm ha hm (he.trans hr) hr hc
          | some z =>
            have hc' := hc
            rw [hxy] at hc'
            obtain ⟨z1, z2, hz1, hz2, hz, _⟩ := pieces_copy hc'
            have hl1 := mcopy_length hz1
            have hl2 := mcopy_length hz2
            exact pieces_s0s v l s a x y w hv hs hl h0 h1 hg0 hd e0 HL m HLm ha hm (he.trans hr) hr z z1 z2 (by rw [hz, mk_append]) (by rw [mk_size]; omega) (by rw [mk_size]; omega) hc hz1 hz2
        | some r =>
          have HLr : r.length ≤ 100000 := by rw [mlay_len hr]; exact HLm
          cases hc : mcopy l s a (x.size + y.size) with
          | none => exact pieces_s1n v l s a x y w hv hs hl h0 h1 hg0 hd e0 HL m r HLm HLr ha hm (he.trans hr) hr hc
          | some z =>
            have hc' := hc
            rw [hxy] at hc'
            obtain ⟨z1, z2, hz1, hz2, hz, _⟩ := pieces_copy hc'
            have hl1 := mcopy_length hz1
            have hl2 := mcopy_length hz2
            exact pieces_s1s v l s a x y w hv hs hl h0 h1 hg0 hd e0 HL m r HLm HLr ha hm (he.trans hr) hr z z1 z2 (by rw [hz, mk_append]) (by rw [mk_size]; omega) (by rw [mk_size]; omega) hc hz1 hz2
    · exact pieces_long v l s a x y w hv hs hl hg0 (IntWalk.i64_in _ (by omega)) (by simp; omega)
  · exact pieces_great v l s a x y w hv hs hl (great_is hg)
end Go.Proofs.Ytlhcggaeecjbcaa
