/- Contract of geom.Format. No condition. -/
import Derived.Test.YtopbejdhfndfbaaGeo4
import Derived.Test.YtopbejdhfndfbaaGeo6
import Derived.Test.YtopbejdhfndfbaaGeo8
namespace Go.Proofs.Ytopbejdhfndfbaa
open Go.RowKit
set_option maxRecDepth 20000
attribute [local go_sem ↓] loadVar_24 storeVar_24
attribute [local go_sem] run_load24 run_store24 aggAt_new aggAt_past aggAt_drew rowAt_new rowAt_past rowAt_drew rowOpen_new rowOpen_past rowOpen_drew setRow_made' alloc_setRow
def fmtL (b i : Int) : List ByteArray := if planErr b i = 0 then mfmt b.toNat i.toNat else []
def FmtPost (b i : Int) (w : World) (e : Ending) (w' : World) : Prop := ∃ v, e = .returned (.tuple #[v, .int .i64 (planErr b i)]) ∧ Own w.heap.size w' v (fmtL b i) ∧ Below w.heap.size w w'
theorem Own.none (B : Nat) (w : World) : Own B w (.slice none 0 0) [] := ⟨rfl, .inl ⟨rfl, rfl⟩⟩
/-- What stands while a volume is laid: the plan's cells at p, the blocks at g. -/
structure Fw (w W : World) (p g cap : Nat) (l : List ByteArray) (cs : Array Value) : Prop where
  row : Row w.heap.size W g cap l
  hp : W.heap[p]? = some (.cells cs 24)
  below : Below w.heap.size w W
  ne : p ≠ g
theorem Fw.step {w W W' : World} {p g cap : Nat} {l : List ByteArray} {cs : Array Value} (h : Fw w W p g cap l cs) (hb : Below W.heap.size W W') : Fw w W' p g cap l cs :=
  ⟨h.row.step hb, keep h.hp hb, below_step h.below hb, h.ne⟩
theorem Fw.drew {w W : World} {p g cap : Nat} {l : List ByteArray} {cs : Array Value} (h : Fw w W p g cap l cs) : Fw w W.drew p g cap l cs := ⟨h.row.drew, h.hp, h.below.drew, h.ne⟩
theorem Fw.set {w W : World} {p g cap : Nat} {l : List ByteArray} {cs : Array Value} (h : Fw w W p g cap l cs) {i : Nat} (hi : i < l.length) (x : ByteArray) : Fw w (W.setCell ⟨g, i, none⟩ (.string x)) p g cap (l.set i x) cs :=
  ⟨h.row.set hi x, (Below.heap_setCell W ⟨g, i, none⟩ (.string x) p (fun e => h.ne (by simpa using e))).trans h.hp, below_setCell h.below h.row.lo _ _, h.ne⟩
def zl (k b : Nat) : List ByteArray := List.replicate k zb ++ List.replicate (b - k) ByteArray.empty
theorem zl_length (k b : Nat) (h : k ≤ b) : (zl k b).length = b := by simp [zl]; omega
theorem zl_set (k b : Nat) (h : k < b) : (zl k b).set k zb = zl (k + 1) b := by
  unfold zl
  rw [List.set_append_right _ _ (by simp), List.length_replicate, Nat.sub_self, show b - k = (b - (k + 1)) + 1 from by omega, List.replicate_succ, List.set_cons_zero, List.replicate_succ']
  simp
theorem zl_full (b : Nat) : zl b b = List.replicate b zb := by simp [zl]
def ml (b i n : Nat) : List ByteArray := ((List.replicate b zb).set 0 (headB b i)).set 2 (mapTo n)
theorem ml_length (b i n : Nat) : (ml b i n).length = b := by simp [ml]
theorem ml_zero (b i : Nat) (h : 3 ≤ b) : (List.replicate b zb).set 0 (headB b i) = ml b i 0 := by
  unfold ml
  apply List.ext_getElem?
  intro k
  by_cases e : k = 2
  · subst e
    rw [List.getElem?_set_self (by simp; omega), List.getElem?_set_ne (by decide)]
    simp [show 2 < b from by omega, mapTo]
  · rw [List.getElem?_set_ne (Ne.symm e)]
theorem ml_at (b i n : Nat) (h : 3 ≤ b) : bAt (ml b i n) 2 = mapTo n := bAt_set_same _ _ _ (by simp; omega)
theorem ml_set (b i n : Nat) : (ml b i n).set 2 (turnB (mapTo n) n) = ml b i (n + 1) := by unfold ml; rw [List.set_set]; rfl
theorem ml_full (b i : Nat) : ml b i (dof i) = mfmt b i := rfl
theorem fmtL_yes {b i : Nat} (h : planErr b i = 0) : fmtL b i = mfmt b i := by unfold fmtL; rw [if_pos h, Int.toNat_natCast, Int.toNat_natCast]
theorem fmtL_no {b i : Int} (h : planErr b i ≠ 0) : fmtL b i = [] := by unfold fmtL; rw [if_neg h]

theorem fmt_post {b i e : Int} {v : Value} {w w' : World} (h : planErr b i = e) (ho : Own w.heap.size w' v (fmtL b i)) (hb : Below w.heap.size w w') : FmtPost b i w (.returned (.tuple #[v, .int .i64 e])) w' := ⟨v, by rw [h], ho, hb⟩
set_option maxHeartbeats 1000000 in
theorem fmt_any (b i : Int) (w : World) (hi : i ≤ 9223372036854775807) : Calls Try.prog 17 #[.int .i64 b, .int .i64 i] w (FmtPost b i w) := by
  by_cases hp : planErr b i = 0
  · obtain ⟨p1, p2, p3, p4, p5⟩ := planErr_ok hp
    obtain ⟨b, rfl⟩ := Int.eq_ofNat_of_zero_le (show 0 ≤ b by omega)
    obtain ⟨i, rfl⟩ := Int.eq_ofNat_of_zero_le (show 0 ≤ i by omega)
    rw [dataOf_nat] at p5
    have hD : dof i ≤ 300 := by unfold dof; omega
    have hd : Hid (dof i ≤ 300 ∧ 16 ≤ b ∧ b ≤ 223 ∧ i ≤ 64) := ⟨hD, by omega, by omega, by omega⟩
    have PP : Hid (∀ w, Calls Try.prog 15 #[.int .i64 b, .int .i64 i] w fun e w' => e = .returned (.tuple #[.agg (geoC b i (dof i)), .int .i64 0]) ∧ Below w.heap.size w w') := fun w => by
      rw [← dataOf_nat, ← planC_yes hp, ← hp]
      exact plan_any _ _ w (by omega)
    have PF : Hid (∀ w, Calls Try.prog 46 #[.agg (geoC b i (dof i))] w fun e w' => e = .returned (.string (headB b i)) ∧ Below w.heap.size w w') := fun w => first_any _ _ _ w (by omega) (by omega)
    have HZ := Lib.hid (fmtL_yes hp)
    have HE := Lib.hid hp
    have hmk := run_make_strs b (by omega)
    have n2 : (2 : Int) < b := by omega
    have n0 : (0 : Int) < b := by omega
    have hb2 : b ≤ 223 := by omega
    unfold geoC at PP PF
    clear p1 p2 p3 p4 p5 hD hp hi
    go_enter Try.func17, Try.ntmps17
    go_wp2_with (go_at_call 15; refine (PP.out _).mono ?_; rintro e W1 ⟨rfl, hb1⟩; have HK := Lib.hid hb1; clear hb1)
    have HW : Hid (Fw w ((W1.alloc (.cells #[.int .i64 b, .int .i64 i, .int .i64 1, .int .i64 2, .int .i64 3, .int .i64 (dof i)] 24)).alloc (.cells (strC (List.replicate b ByteArray.empty)) 9)) W1.heap.size (W1.heap.size + 1) b (zl 0 b) #[.int .i64 b, .int .i64 i, .int .i64 1, .int .i64 2, .int .i64 3, .int .i64 (dof i)]) := by
      have e : zl 0 b = List.replicate b ByteArray.empty := by simp [zl]
      have hs := HK.out.size
      have hr := row_of (B := w.heap.size) (heap_alloc_new (W1.alloc (.cells #[.int .i64 b, .int .i64 i, .int .i64 1, .int .i64 2, .int .i64 3, .int .i64 (dof i)] 24)) (.cells (strC (List.replicate b ByteArray.empty)) 9)) (by rw [alloc_size]; omega) (by rw [List.length_replicate]; have := hd.out; omega)
      rw [List.length_replicate, alloc_size] at hr
      rw [e]
      exact ⟨hr, heap_two0 _ _ _, (HK.out.trans ((below_two _ _ _).mono hs)), by omega⟩
    generalize (W1.alloc (.cells #[.int .i64 b, .int .i64 i, .int .i64 1, .int .i64 2, .int .i64 3, .int .i64 (dof i)] 24)).alloc (.cells (strC (List.replicate b ByteArray.empty)) 9) = W2 at HW ⊢
    generalize W1.heap.size = p at HW ⊢
    clear hmk HK PP
    go_loopw [24] (fun x W => ∃ k : Nat, k ≤ b ∧ x = .int .i64 k ∧ Hid (Fw w W p (p + 1) b (zl k b) #[.int .i64 b, .int .i64 i, .int .i64 1, .int .i64 2, .int .i64 3, .int .i64 (dof i)])) (fun x _ => b - (intOf x).toNat)
    case atStart => exact ⟨0, Nat.zero_le _, rfl, HW⟩
    case round =>
      clear HW
      obtain ⟨k, hk, rfl, HW⟩ := hrel
      by_cases hlt : k < b
      · have i1 : (k : Int) < b := by omega
        have i0 : (0 : Int) ≤ k := by omega
        have HL := Lib.hid (show k < (zl k b).length by rw [zl_length k b hk]; exact hlt)
        go_wp2_with (go_at_call 45; refine (zeros_any _).mono ?_; rintro e W3 ⟨rfl, hb⟩; have H3 := Lib.hid (HW.out.step hb); have c1 := H3.out.row.cell HL.out; have c2 := H3.out.row.froz k; clear hb)
        go_roundw
        case rel => exact ⟨k + 1, by omega, by go_num, by rw [← zl_set k b hlt]; exact H3.out.set HL.out zb⟩
        case measure => simp [intOf]; omega
      · obtain rfl : k = b := by omega
        rw [zl_full] at HW
        have HL := Lib.hid (show 0 < (List.replicate k zb).length by rw [List.length_replicate]; have := hd.out; omega)
        obtain ⟨a1, a2⟩ := agg_facts HW.out.hp 6 rfl
        go_wp2_with (go_at_call 46; refine (PF.out _).mono ?_; rintro e W3 ⟨rfl, hb⟩; have H3 := Lib.hid (HW.out.step hb); have c1 := H3.out.row.cell HL.out; have c2 := H3.out.row.froz 0; have H4 := Lib.hid (H3.out.set HL.out (headB k i)); have d5 := cell_of_heap H4.out.hp (i := 5) rfl; clear hb)
        rw [ml_zero k i (by have := hd.out; omega)] at H4
        generalize W3.setCell ⟨p + 1, 0, none⟩ (.string (headB k i)) = W4 at H4 d5 ⊢
        clear c1 c2 H3 HW PF a1 a2 HL
        go_loopw [38] (fun x W => ∃ n : Nat, n ≤ dof i ∧ x = .int .i64 n ∧ Hid (Fw w W p (p + 1) k (ml k i n) #[.int .i64 k, .int .i64 i, .int .i64 1, .int .i64 2, .int .i64 3, .int .i64 (dof i)])) (fun x _ => dof i - (intOf x).toNat)
        case atStart => exact ⟨0, Nat.zero_le _, rfl, H4⟩
        case round =>
          clear H4 d5
          obtain ⟨n, hn, rfl, HW⟩ := hrel
          have hdd := hd.out.1
          by_cases hlt : n < dof i
          · have i1 : (n : Int) < dof i := by omega
            have PT : Hid (∀ w, Calls Try.prog 47 #[.string (mapTo n), .int .i64 n] w fun e w' => e = .returned (.string (turnB (mapTo n) n)) ∧ Below w.heap.size w w') := fun w => turn_any _ _ w (by rw [size_mapTo]; omega) (by rw [size_mapTo]; decide)
            have HL := Lib.hid (show 2 < (ml k i n).length by rw [ml_length]; have := hd.out; omega)
            have f1 := HW.out.row.cell HL.out
            rw [ml_at k i n (by have := hd.out; omega)] at f1
            have f2 := cell_of_heap HW.out.hp (i := 3) rfl
            generalize hT : turnB (mapTo n) n = T at PT
            have HT := Lib.hid hT
            generalize mapTo n = M at PT f1
            clear hT
            go_wp2_with fail
            go_region_with (go_at_call 47; refine (PT.out _).mono ?_; rintro e W5 ⟨rfl, hb⟩; have H5 := Lib.hid (HW.out.drew.step hb); have c1 := H5.out.row.cell HL.out; have c2 := H5.out.row.froz 2; have c3 := cell_of_heap H5.out.hp (i := 3) rfl; clear hb)
            all_goals
              go_wp2_with fail
              go_roundw
              case rel => exact ⟨n + 1, by omega, by go_num, by rw [← ml_set k i n, HT.out]; exact H5.out.set HL.out _⟩
              case measure => simp [intOf]; omega
          · obtain rfl : n = dof i := by omega
            rw [ml_full] at HW
            go_wp2_with fail
            go_ret2
            exact fmt_post HE.out (by rw [HZ.out]; exact HW.out.row.own' (mfmt_length _ _).symm) HW.out.below
  · rcases planErr_three b i with h | h | h
    · exact absurd h hp
    all_goals
      have PP : Hid (∀ w, Calls Try.prog 15 #[.int .i64 b, .int .i64 i] w fun e w' => e = .returned (.tuple #[.agg geo0, .int .i64 (planErr b i)]) ∧ Below w.heap.size w w') := fun w => by
        rw [← planC_no hp]
        exact plan_any _ _ w hi
      have HF := Lib.hid (fmtL_no hp)
      have HE := Lib.hid h
      rw [h] at PP
      clear h hp
      unfold geo0 at PP
      go_enter Try.func17, Try.ntmps17
      go_wp2_with (go_at_call 15; refine (PP.out _).mono ?_; rintro e W1 ⟨rfl, hb1⟩; have HK := Lib.hid hb1; clear hb1)
      go_ret2
      exact fmt_post HE.out (by rw [HF.out]; exact Own.none _ _) (HK.out.alloc HK.out.size _)
end Go.Proofs.Ytopbejdhfndfbaa
