/- Contract of the reference's Format. No condition. -/
import Derived.Test.YtopbejdhfndfbaaGeo9
namespace Go.Proofs.Ytopbejdhfndfbaa
open Go.RowKit
set_option maxRecDepth 20000
attribute [local go_sem ↓] loadVar_24 storeVar_24
attribute [local go_sem] run_load24 run_store24 aggAt_new aggAt_past aggAt_drew rowAt_new rowAt_past rowAt_drew rowOpen_new rowOpen_past rowOpen_drew setRow_made' alloc_setRow
/-- What stands while a volume is laid: the plan's cells at p, the list in memory behind it. -/
structure Gw (w W : World) (p : Nat) (v : Value) (l : List ByteArray) (cs : Array Value) : Prop where
  own : Own (p + 1) W v l
  hp : W.heap[p]? = some (.cells cs 24)
  below : Below w.heap.size w W
  lo : w.heap.size ≤ p
theorem Gw.grow {w W W' : World} {p : Nat} {v v' : Value} {l l' : List ByteArray} {cs : Array Value} (h : Gw w W p v l cs) (o : Obj) (ho : Own (p + 1) W' v' l') (hb : Below (p + 1) (W.alloc o) W') : Gw w W' p v' l' cs :=
  ⟨ho, (hb.block p (Nat.lt_succ_self p)).trans ((heap_alloc_at _ _ _ (heap_lt h.hp)).trans h.hp), (h.below.alloc h.below.size o).trans (hb.mono (Nat.le_trans h.lo (Nat.le_succ p))), h.lo⟩
def hl (b i k : Nat) : List ByteArray := headB b i :: List.replicate (k - 1) zb
theorem hl_length (b i k : Nat) (h : 1 ≤ k) : (hl b i k).length = k := by simp [hl]; omega
theorem hl_succ (b i k : Nat) (h : 1 ≤ k) : hl b i k ++ [zb] = hl b i (k + 1) := by
  unfold hl
  rw [show k + 1 - 1 = (k - 1) + 1 from by omega, List.replicate_succ', List.cons_append]
theorem hl_full (b i : Nat) (h : 3 ≤ b) : hl b i b = ml b i 0 := by
  rw [← ml_zero b i h]
  obtain ⟨c, rfl⟩ : ∃ c, b = c + 1 := ⟨b - 1, by omega⟩
  unfold hl
  rw [List.replicate_succ, List.set_cons_zero, Nat.add_sub_cancel]
set_option maxHeartbeats 1000000 in
theorem rfmt_any (b i : Int) (w : World) (hi : i ≤ 9223372036854775807) : Calls Try.prog 18 #[.int .i64 b, .int .i64 i] w (FmtPost b i w) := by
  by_cases hp : planErr b i = 0
  · obtain ⟨p1, p2, p3, p4, p5⟩ := planErr_ok hp
    obtain ⟨b, rfl⟩ := Int.eq_ofNat_of_zero_le (show 0 ≤ b by omega)
    obtain ⟨i, rfl⟩ := Int.eq_ofNat_of_zero_le (show 0 ≤ i by omega)
    rw [dataOf_nat] at p5
    have hD : dof i ≤ 300 := by unfold dof; omega
    have hd : Hid (dof i ≤ 300 ∧ 16 ≤ b ∧ b ≤ 223 ∧ i ≤ 64) := ⟨hD, by omega, by omega, by omega⟩
    have PP : Hid (∀ w, Calls Try.prog 16 #[.int .i64 b, .int .i64 i] w fun e w' => e = .returned (.tuple #[.agg (geoC b i (dof i)), .int .i64 0]) ∧ Below w.heap.size w w') := fun w => by
      rw [← dataOf_nat, ← planC_yes hp, ← hp]
      exact rplan_any _ _ w (by omega)
    have PF : Hid (∀ w, Calls Try.prog 48 #[.agg (geoC b i (dof i))] w fun e w' => e = .returned (.string (headB b i)) ∧ Below w.heap.size w w') := fun w => head_any _ _ _ w (by omega) (by omega)
    have PZ : Hid (∀ w, Calls Try.prog 32 #[.int .i64 128] w fun e w' => e = .returned (.string zb) ∧ w = w') := fun w => zeros2_any 128 w (by decide)
    have HZ := Lib.hid (fmtL_yes hp)
    have HE := Lib.hid hp
    have n2 : (2 : Int) < b := by omega
    have n0 : (0 : Int) < b := by omega
    have hb2 : b ≤ 223 := by omega
    unfold geoC at PP PF
    clear p1 p2 p3 p4 p5 hD hp hi
    go_enter Try.func18, Try.ntmps18
    go_wp2_with (first
      | (go_at_call 48; refine (PF.out _).mono ?_; rintro e W2 ⟨rfl, hb2⟩; have HK2 := Lib.hid (keep1 hb2); clear hb2)
      | (go_at_call 16; refine (PP.out _).mono ?_; rintro e W1 ⟨rfl, hb1⟩; have HK := Lib.hid hb1; clear hb1))
    have HW : Hid (Gw w (W2.alloc (.cells #[.string (headB b i)] 9)) W1.heap.size (.slice (some ⟨W2.heap.size, 0, none⟩) 1 1) (hl b i 1) #[.int .i64 b, .int .i64 i, .int .i64 1, .int .i64 2, .int .i64 3, .int .i64 (dof i)]) := by
      obtain ⟨h1, h2⟩ := HK2.out
      exact ⟨Own.mk (l := hl b i 1) (heap_lt h1) (heap_alloc_new _ _) (Nat.le_refl _) (by unfold maxLen; decide) rfl rfl, (heap_alloc_at _ _ _ (heap_lt h1)).trans h1, (below_step HK.out h2).alloc (Nat.le_trans HK.out.size h2.size) _, HK.out.size⟩
    generalize (.slice (some ⟨W2.heap.size, 0, none⟩) 1 1 : Value) = lv at HW ⊢
    generalize W2.alloc (.cells #[.string (headB b i)] 9) = W3 at HW ⊢
    generalize W1.heap.size = p at HW ⊢
    clear HK HK2 PP PF
    go_loopw [8, 9] (fun v x W => ∃ k : Nat, 1 ≤ k ∧ k ≤ b ∧ x = .int .i64 k ∧ Hid (Gw w W p v (hl b i k) #[.int .i64 b, .int .i64 i, .int .i64 1, .int .i64 2, .int .i64 3, .int .i64 (dof i)])) (fun _ x _ => b - (intOf x).toNat)
    case atStart => exact ⟨1, by omega, by omega, rfl, HW⟩
    case round =>
      clear HW
      obtain ⟨k, hk1, hk, rfl, HW⟩ := hrel
      by_cases hlt : k < b
      · have i1 : (k : Int) < b := by omega
        go_wp2_with (first
          | (go_at_call 32; refine (PZ.out _).mono ?_; rintro e W4 ⟨rfl, rfl⟩)
          | (at_builtin; refine wpList_append_one (p + 1) _ (hl b i k) zb wr rfl rfl rfl HW.out.own (heap_lt HW.out.hp) (by rw [hl_length b i k hk1]; omega) ?_; intro v' W5 ho hb; have H5 := Lib.hid (HW.out.grow _ ho hb); clear ho hb))
        go_roundw
        case rel => exact ⟨k + 1, by omega, by omega, by go_num, by rw [← hl_succ b i k hk1]; exact H5⟩
        case measure => simp [intOf]; omega
      · obtain rfl : k = b := by omega
        rw [hl_full k i (by omega)] at HW
        obtain ⟨g, cap, rfl, hR⟩ := HW.out.own.row (by rw [ml_length]; omega)
        have HL := Lib.hid (show 2 < (ml k i 0).length by rw [ml_length]; omega)
        have H4 : Hid (Fw w wr p g cap (ml k i 0) #[.int .i64 k, .int .i64 i, .int .i64 1, .int .i64 2, .int .i64 3, .int .i64 (dof i)]) := ⟨⟨hR.ex, Nat.le_trans HW.out.lo (Nat.le_of_succ_le hR.lo), hR.len, hR.cap⟩, HW.out.hp, HW.out.below, by have := hR.lo; omega⟩
        rw [ml_length]
        clear hR HW
        go_wp2_with fail
        go_loopw [10] (fun x W => ∃ n : Nat, n ≤ dof i ∧ x = .int .i64 n ∧ Hid (Fw w W p g cap (ml k i n) #[.int .i64 k, .int .i64 i, .int .i64 1, .int .i64 2, .int .i64 3, .int .i64 (dof i)])) (fun x _ => dof i - (intOf x).toNat)
        case atStart => exact ⟨0, Nat.zero_le _, rfl, H4⟩
        case round =>
          clear H4 HL
          obtain ⟨n, hn, rfl, HW⟩ := hrel
          have hdd := hd.out.1
          have d5 := cell_of_heap HW.out.hp (i := 5) rfl
          by_cases hlt : n < dof i
          · have i1 : (n : Int) < dof i := by omega
            have PT : Hid (∀ w, Calls Try.prog 49 #[.string (mapTo n), .int .i64 n] w fun e w' => e = .returned (.string (turnB (mapTo n) n)) ∧ Below w.heap.size w w') := fun w => rturn_any _ _ w (by rw [size_mapTo]; omega) (by rw [size_mapTo]; decide)
            have HL := Lib.hid (show 2 < (ml k i n).length by rw [ml_length]; have := hd.out; omega)
            have f1 := HW.out.row.cell HL.out
            rw [ml_at k i n (by have := hd.out; omega)] at f1
            generalize hT : turnB (mapTo n) n = T at PT
            have HT := Lib.hid hT
            generalize mapTo n = M at PT f1
            clear hT
            go_wp2_with (go_at_call 49; refine (PT.out _).mono ?_; rintro e W5 ⟨rfl, hb⟩; have H5 := Lib.hid (HW.out.step hb); have c1 := H5.out.row.cell HL.out; have c2 := H5.out.row.froz 2; clear hb)
            go_roundw
            case rel => exact ⟨n + 1, by omega, by go_num, by rw [← ml_set k i n, HT.out]; exact H5.out.set HL.out _⟩
            case measure => simp [intOf]; omega
          · obtain rfl : n = dof i := by omega
            rw [ml_full] at HW
            go_wp2_with fail
            go_ret2
            exact fmt_post HE.out (by rw [HZ.out]; exact HW.out.row.own' (mfmt_length _ _).symm) HW.out.below
  · rcases planErr_three b i with h | h | h
    · exact absurd h hp
    all_goals
      have PP : Hid (∀ w, Calls Try.prog 16 #[.int .i64 b, .int .i64 i] w fun e w' => e = .returned (.tuple #[.agg geo0, .int .i64 (planErr b i)]) ∧ Below w.heap.size w w') := fun w => by
        rw [← planC_no hp]
        exact rplan_any _ _ w hi
      have HF := Lib.hid (fmtL_no hp)
      have HE := Lib.hid h
      rw [h] at PP
      clear h hp
      unfold geo0 at PP
      go_enter Try.func18, Try.ntmps18
      go_wp2_with (go_at_call 16; refine (PP.out _).mono ?_; rintro e W1 ⟨rfl, hb1⟩; have HK := Lib.hid hb1; clear hb1)
      go_ret2
      exact fmt_post HE.out (by rw [HF.out]; exact Own.none _ _) (HK.out.alloc HK.out.size _)
end Go.Proofs.Ytopbejdhfndfbaa
