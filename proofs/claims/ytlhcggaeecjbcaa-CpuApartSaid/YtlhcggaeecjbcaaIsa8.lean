/- The contract of isa.Dec: ref10's. No condition. -/
import Derived.Test.YtlhcggaeecjbcaaIsa7
namespace Go.Proofs.Ytlhcggaeecjbcaa
open Go.RowKit
attribute [local go_sem ↓] loadVar_68 storeVar_68
attribute [local go_sem] run_load68 run_store68 aggAt_new aggAt_past aggAt_drew rowAt_new rowAt_past rowAt_drew rowOpen_new rowOpen_past rowOpen_drew aggAt_setRow_same aggAt_setRow_other rowAt_setRow_same rowAt_setRow_other rowOpen_setRow_same rowOpen_setRow_other setRow_made' setRow_drew' aggSet_agg aggAt_setCell_other aggAt_setCell_same rowAt_setCell_other rowAt_setCell_same rowOpen_setCell_other rowOpen_setCell_same

theorem and15 (c : Int) (h0 : 0 ≤ c) (h1 : c ≤ 4294967295) : bits .and .u32 c 15 = c % 16 := by
  obtain ⟨c, rfl⟩ := Int.eq_ofNat_of_zero_le h0
  rw [show (15 : Int) = ((15 : Nat) : Int) from rfl, u32_and_nat _ _ (by omega) (by decide), show (15 : Nat) = 2 ^ 4 - 1 from rfl, Nat.and_two_pow_sub_one_eq_mod]
  rfl
theorem plain75 (op : Nat) (h : op ≤ 255) : ∃ i : Int, decide (0 ≤ i) = plainB op ∧ ∀ w : World, Calls Try.prog 75 #[.string ⟨#[15, 16, 17, 19, 31]⟩, .int .u8 op] w fun e w' => e = .returned (.int .i64 i) ∧ w' = w :=
  ⟨_, plain_index op h, fun w => Try.strings_IndexByte ⟨#[15, 16, 17, 19, 31]⟩ op w⟩
theorem i16_low (n : Nat) (hi : n % 65536 ≤ 32767) : wrap32 (IntKind.i16.wrap (n : Int)) = (n : Int) % 65536 := by
  rw [show IntKind.i16.wrap (n : Int) = (n : Int) % 65536 by simp only [IntKind.wrap, IntKind.bits, IntKind.signed]; simp; omega]
  unfold wrap32
  omega
theorem i16_high (n : Nat) (hi : ¬ n % 65536 ≤ 32767) : wrap32 (IntKind.i16.wrap (n : Int)) = (n : Int) % 65536 - 65536 := by
  rw [show IntKind.i16.wrap (n : Int) = (n : Int) % 65536 - 65536 by simp only [IntKind.wrap, IntKind.bits, IntKind.signed]; simp; omega]
  unfold wrap32
  omega
theorem hasOut_ne {f : Nat} (h : f ≠ 114) : ∃ x y, hasOut f = .tuple #[.bool x, .bool y, .bool false, .bool true] := by
  refine ⟨f != 110, f == 114 || f == 105 || f == 109, ?_⟩
  unfold hasOut
  have e1 : (f == 114) = false := by simpa using h
  have e2 : (f != 114) = true := by simpa using h
  rw [e2, e1]

set_option maxRecDepth 20000 in
set_option maxHeartbeats 1000000 in
theorem idec_r (n : Nat) (w : World) (h : n ≤ 4294967295) (hf : opF (n / 67108864) = 114)  : Calls Try.prog 52 #[.int .u32 n] w fun e w' => e = .returned (decOut (mdec n)) ∧ Below w.heap.size w w' := by
  have hx : decIns n = ⟨n / 67108864, n / 4194304 % 16, n / 262144 % 16, n / 16384 % 16, 0⟩ := by
    unfold decIns immOf; simp [hf]
  have hcs : insCells (decIns n) = #[.int .u8 ((n : Int) / 67108864), .int .u8 ((n : Int) / 4194304 % 16), .int .u8 ((n : Int) / 262144 % 16), .int .u8 ((n : Int) / 16384 % 16), .int .i32 0] := by
    rw [hx, ins_cast _ _ _ _ _ n rfl rfl rfl]; simp
  have HE := Lib.hid (ienc_any (decIns n) · (decIns_ok n h))
  have HF := Lib.hid (form_any (n / 67108864) · (by omega))
  have HH := Lib.hid (has_any (opF (n / 67108864)) · (opF_form _))
  have Hm := Lib.hid (show mdec n = if menc (decIns n) = (n, 0) then some (decIns n) else none from rfl)
  have HX := Lib.hid hcs
  have b1 : bits .and .u32 ((n : Int) / 4194304) 15 = (n : Int) / 4194304 % 16 := and15 _ (by omega) (by omega)
  have b2 : bits .and .u32 ((n : Int) / 262144) 15 = (n : Int) / 262144 % 16 := and15 _ (by omega) (by omega)
  have b3 : bits .and .u32 ((n : Int) / 16384) 15 = (n : Int) / 16384 % 16 := and15 _ (by omega) (by omega)
  rw [hcs] at HE
  rw [hf, has114] at HH
  rw [hf] at HF
  generalize menc _ = r at HE Hm
  obtain ⟨r1, r2⟩ := r
  clear hx hf hcs
  go_enter Try.func52, Try.ntmps52
  go_wp2_with (first
    | (go_at_call 65; refine (HF.out _).mono ?_; rintro e w1 ⟨rfl, rfl⟩)
    | (go_at_call 66; refine (HH.out _).mono ?_; rintro e w1 ⟨rfl, rfl⟩)
    | (go_at_call 75; refine (Try.strings_IndexByte ⟨#[15, 16, 17, 19, 31]⟩ ((n : Int) / 67108864) _).mono ?_; rintro e w1 ⟨rfl, rfl⟩)
    | (go_at_call 38; refine (HE.out _).mono ?_; rintro e w1 ⟨rfl, hb⟩; have HB := Lib.hid hb; obtain ⟨q1, q2, q3, q4⟩ := two_rows (n1 := 5) (n2 := 5) hb rfl rfl; clear hb))
  all_goals refine bodyPost_ret (results_cell_tmp rfl _ _ rfl (load68_row _ _ _ q1 rfl)) rfl ?_
  all_goals refine ⟨?_, below_setRow q4 (Nat.le_refl _) _⟩
  all_goals simp only [bne_iff_ne, ne_eq, bne_eq_false_iff_eq] at *
  all_goals first
    | exact dec_no Hm.out (by omega)
    | exact dec_yes Hm.out (by omega) HX.out
attribute [local go_sem] i16_low i16_high
theorem u16_mod (n : Int) : wrap32 (n % 65536) = n % 65536 := by unfold wrap32; omega
theorem u16_wrap (n : Int) : wrap32 (IntKind.u16.wrap n) = n % 65536 := by rw [IntKind.wrap_u16, u16_mod]
attribute [local go_sem] u16_mod u16_wrap

set_option maxRecDepth 20000 in
set_option maxHeartbeats 1000000 in
theorem idec_lowT (n : Nat) (w : World) (h : n ≤ 4294967295) (hf : opF (n / 67108864) ≠ 114) (hi : n % 65536 ≤ 32767) (hp : plainB (n / 67108864) = true) : Calls Try.prog 52 #[.int .u32 n] w fun e w' => e = .returned (decOut (mdec n)) ∧ Below w.heap.size w w' := by
  obtain ⟨ix, hq, h75⟩ := plain75 (n / 67108864) (by omega)
  have hx : decIns n = ⟨n / 67108864, n / 4194304 % 16, n / 262144 % 16, 0, ((n % 65536 : Nat) : Int)⟩ := by
    unfold decIns immOf; simp [hf, hp]
  have hcs : insCells (decIns n) = #[.int .u8 ((n : Int) / 67108864), .int .u8 ((n : Int) / 4194304 % 16), .int .u8 ((n : Int) / 262144 % 16), .int .u8 0, .int .i32 ((n : Int) % 65536)] := by
    rw [hx, ins_cast _ _ _ _ _ n rfl rfl rfl]; simp
  have HE := Lib.hid (ienc_any (decIns n) · (decIns_ok n h))
  have HF := Lib.hid (form_any (n / 67108864) · (by omega))
  have HH := Lib.hid (has_any (opF (n / 67108864)) · (opF_form _))
  have Hm := Lib.hid (show mdec n = if menc (decIns n) = (n, 0) then some (decIns n) else none from rfl)
  have HX := Lib.hid hcs
  have b1 : bits .and .u32 ((n : Int) / 4194304) 15 = (n : Int) / 4194304 % 16 := and15 _ (by omega) (by omega)
  have b2 : bits .and .u32 ((n : Int) / 262144) 15 = (n : Int) / 262144 % 16 := and15 _ (by omega) (by omega)
  have b3 : bits .and .u32 ((n : Int) / 16384) 15 = (n : Int) / 16384 % 16 := and15 _ (by omega) (by omega)
  rw [hcs] at HE
  obtain ⟨x, y, hxy⟩ := hasOut_ne hf
  rw [hxy] at HH
  clear hxy
  rw [hp] at hq
  have H75 := Lib.hid h75
  clear h75
  generalize menc _ = r at HE Hm
  generalize opF (n / 67108864) = k at HF HH
  obtain ⟨r1, r2⟩ := r
  clear hx hf hcs hp
  go_enter Try.func52, Try.ntmps52
  go_wp2_with (first
    | (go_at_call 65; refine (HF.out _).mono ?_; rintro e w1 ⟨rfl, rfl⟩)
    | (go_at_call 66; refine (HH.out _).mono ?_; rintro e w1 ⟨rfl, rfl⟩)
    | (go_at_call 75; refine (H75.out _).mono ?_; rintro e w1 ⟨rfl, rfl⟩)
    | (go_at_call 38; with_reducible refine (HE.out _).mono ?_; rintro e w1 ⟨rfl, hb⟩; have HB := Lib.hid hb; obtain ⟨q1, q2, q3, q4⟩ := two_rows (n1 := 5) (n2 := 5) hb rfl rfl; clear hb))
  all_goals refine bodyPost_ret (results_cell_tmp rfl _ _ rfl (load68_row _ _ _ q1 rfl)) rfl ?_
  all_goals refine ⟨?_, below_setRow q4 (Nat.le_refl _) _⟩
  all_goals simp only [bne_iff_ne, ne_eq, bne_eq_false_iff_eq] at *
  all_goals first
    | exact dec_no Hm.out (by omega)
    | exact dec_yes Hm.out (by omega) HX.out

set_option maxRecDepth 20000 in
set_option maxHeartbeats 1000000 in
theorem idec_lowF (n : Nat) (w : World) (h : n ≤ 4294967295) (hf : opF (n / 67108864) ≠ 114) (hi : n % 65536 ≤ 32767) (hp : plainB (n / 67108864) = false) : Calls Try.prog 52 #[.int .u32 n] w fun e w' => e = .returned (decOut (mdec n)) ∧ Below w.heap.size w w' := by
  obtain ⟨ix, hq, h75⟩ := plain75 (n / 67108864) (by omega)
  have hx : decIns n = ⟨n / 67108864, n / 4194304 % 16, n / 262144 % 16, 0, ((n % 65536 : Nat) : Int)⟩ := by
    unfold decIns immOf; simp [hf, hi, hp]
  have hcs : insCells (decIns n) = #[.int .u8 ((n : Int) / 67108864), .int .u8 ((n : Int) / 4194304 % 16), .int .u8 ((n : Int) / 262144 % 16), .int .u8 0, .int .i32 ((n : Int) % 65536)] := by
    rw [hx, ins_cast _ _ _ _ _ n rfl rfl rfl]; simp
  have HE := Lib.hid (ienc_any (decIns n) · (decIns_ok n h))
  have HF := Lib.hid (form_any (n / 67108864) · (by omega))
  have HH := Lib.hid (has_any (opF (n / 67108864)) · (opF_form _))
  have Hm := Lib.hid (show mdec n = if menc (decIns n) = (n, 0) then some (decIns n) else none from rfl)
  have HX := Lib.hid hcs
  have b1 : bits .and .u32 ((n : Int) / 4194304) 15 = (n : Int) / 4194304 % 16 := and15 _ (by omega) (by omega)
  have b2 : bits .and .u32 ((n : Int) / 262144) 15 = (n : Int) / 262144 % 16 := and15 _ (by omega) (by omega)
  have b3 : bits .and .u32 ((n : Int) / 16384) 15 = (n : Int) / 16384 % 16 := and15 _ (by omega) (by omega)
  rw [hcs] at HE
  obtain ⟨x, y, hxy⟩ := hasOut_ne hf
  rw [hxy] at HH
  clear hxy
  rw [hp] at hq
  have H75 := Lib.hid h75
  clear h75
  generalize menc _ = r at HE Hm
  generalize opF (n / 67108864) = k at HF HH
  obtain ⟨r1, r2⟩ := r
  clear hx hf hcs hp
  go_enter Try.func52, Try.ntmps52
  go_wp2_with (first
    | (go_at_call 65; refine (HF.out _).mono ?_; rintro e w1 ⟨rfl, rfl⟩)
    | (go_at_call 66; refine (HH.out _).mono ?_; rintro e w1 ⟨rfl, rfl⟩)
    | (go_at_call 75; refine (H75.out _).mono ?_; rintro e w1 ⟨rfl, rfl⟩)
    | (go_at_call 38; with_reducible refine (HE.out _).mono ?_; rintro e w1 ⟨rfl, hb⟩; have HB := Lib.hid hb; obtain ⟨q1, q2, q3, q4⟩ := two_rows (n1 := 5) (n2 := 5) hb rfl rfl; clear hb))
  all_goals refine bodyPost_ret (results_cell_tmp rfl _ _ rfl (load68_row _ _ _ q1 rfl)) rfl ?_
  all_goals refine ⟨?_, below_setRow q4 (Nat.le_refl _) _⟩
  all_goals simp only [bne_iff_ne, ne_eq, bne_eq_false_iff_eq] at *
  all_goals first
    | exact dec_no Hm.out (by omega)
    | exact dec_yes Hm.out (by omega) HX.out

set_option maxRecDepth 20000 in
set_option maxHeartbeats 1000000 in
theorem idec_highT (n : Nat) (w : World) (h : n ≤ 4294967295) (hf : opF (n / 67108864) ≠ 114) (hi : ¬ n % 65536 ≤ 32767) (hp : plainB (n / 67108864) = true) : Calls Try.prog 52 #[.int .u32 n] w fun e w' => e = .returned (decOut (mdec n)) ∧ Below w.heap.size w w' := by
  obtain ⟨ix, hq, h75⟩ := plain75 (n / 67108864) (by omega)
  have hx : decIns n = ⟨n / 67108864, n / 4194304 % 16, n / 262144 % 16, 0, ((n % 65536 : Nat) : Int)⟩ := by
    unfold decIns immOf; simp [hf, hp]
  have hcs : insCells (decIns n) = #[.int .u8 ((n : Int) / 67108864), .int .u8 ((n : Int) / 4194304 % 16), .int .u8 ((n : Int) / 262144 % 16), .int .u8 0, .int .i32 ((n : Int) % 65536)] := by
    rw [hx, ins_cast _ _ _ _ _ n rfl rfl rfl]; simp
  have HE := Lib.hid (ienc_any (decIns n) · (decIns_ok n h))
  have HF := Lib.hid (form_any (n / 67108864) · (by omega))
  have HH := Lib.hid (has_any (opF (n / 67108864)) · (opF_form _))
  have Hm := Lib.hid (show mdec n = if menc (decIns n) = (n, 0) then some (decIns n) else none from rfl)
  have HX := Lib.hid hcs
  have b1 : bits .and .u32 ((n : Int) / 4194304) 15 = (n : Int) / 4194304 % 16 := and15 _ (by omega) (by omega)
  have b2 : bits .and .u32 ((n : Int) / 262144) 15 = (n : Int) / 262144 % 16 := and15 _ (by omega) (by omega)
  have b3 : bits .and .u32 ((n : Int) / 16384) 15 = (n : Int) / 16384 % 16 := and15 _ (by omega) (by omega)
  rw [hcs] at HE
  obtain ⟨x, y, hxy⟩ := hasOut_ne hf
  rw [hxy] at HH
  clear hxy
  rw [hp] at hq
  have H75 := Lib.hid h75
  clear h75
  generalize menc _ = r at HE Hm
  generalize opF (n / 67108864) = k at HF HH
  obtain ⟨r1, r2⟩ := r
  clear hx hf hcs hp
  go_enter Try.func52, Try.ntmps52
  go_wp2_with (first
    | (go_at_call 65; refine (HF.out _).mono ?_; rintro e w1 ⟨rfl, rfl⟩)
    | (go_at_call 66; refine (HH.out _).mono ?_; rintro e w1 ⟨rfl, rfl⟩)
    | (go_at_call 75; refine (H75.out _).mono ?_; rintro e w1 ⟨rfl, rfl⟩)
    | (go_at_call 38; with_reducible refine (HE.out _).mono ?_; rintro e w1 ⟨rfl, hb⟩; have HB := Lib.hid hb; obtain ⟨q1, q2, q3, q4⟩ := two_rows (n1 := 5) (n2 := 5) hb rfl rfl; clear hb))
  all_goals refine bodyPost_ret (results_cell_tmp rfl _ _ rfl (load68_row _ _ _ q1 rfl)) rfl ?_
  all_goals refine ⟨?_, below_setRow q4 (Nat.le_refl _) _⟩
  all_goals simp only [bne_iff_ne, ne_eq, bne_eq_false_iff_eq] at *
  all_goals first
    | exact dec_no Hm.out (by omega)
    | exact dec_yes Hm.out (by omega) HX.out

set_option maxRecDepth 20000 in
set_option maxHeartbeats 1000000 in
theorem idec_neg (n : Nat) (w : World) (h : n ≤ 4294967295) (hf : opF (n / 67108864) ≠ 114) (hi : ¬ n % 65536 ≤ 32767) (hp : plainB (n / 67108864) = false) : Calls Try.prog 52 #[.int .u32 n] w fun e w' => e = .returned (decOut (mdec n)) ∧ Below w.heap.size w w' := by
  obtain ⟨ix, hq, h75⟩ := plain75 (n / 67108864) (by omega)
  have hx : decIns n = ⟨n / 67108864, n / 4194304 % 16, n / 262144 % 16, 0, ((n % 65536 : Nat) : Int) - 65536⟩ := by
    unfold decIns immOf; simp [hf, hi, hp]
  have hcs : insCells (decIns n) = #[.int .u8 ((n : Int) / 67108864), .int .u8 ((n : Int) / 4194304 % 16), .int .u8 ((n : Int) / 262144 % 16), .int .u8 0, .int .i32 ((n : Int) % 65536 - 65536)] := by
    rw [hx, ins_cast _ _ _ _ _ n rfl rfl rfl]; simp
  have HE := Lib.hid (ienc_any (decIns n) · (decIns_ok n h))
  have HF := Lib.hid (form_any (n / 67108864) · (by omega))
  have HH := Lib.hid (has_any (opF (n / 67108864)) · (opF_form _))
  have Hm := Lib.hid (show mdec n = if menc (decIns n) = (n, 0) then some (decIns n) else none from rfl)
  have HX := Lib.hid hcs
  have b1 : bits .and .u32 ((n : Int) / 4194304) 15 = (n : Int) / 4194304 % 16 := and15 _ (by omega) (by omega)
  have b2 : bits .and .u32 ((n : Int) / 262144) 15 = (n : Int) / 262144 % 16 := and15 _ (by omega) (by omega)
  have b3 : bits .and .u32 ((n : Int) / 16384) 15 = (n : Int) / 16384 % 16 := and15 _ (by omega) (by omega)
  rw [hcs] at HE
  obtain ⟨x, y, hxy⟩ := hasOut_ne hf
  rw [hxy] at HH
  clear hxy
  rw [hp] at hq
  have H75 := Lib.hid h75
  clear h75
  generalize menc _ = r at HE Hm
  generalize opF (n / 67108864) = k at HF HH
  obtain ⟨r1, r2⟩ := r
  clear hx hf hcs hp
  go_enter Try.func52, Try.ntmps52
  go_wp2_with (first
    | (go_at_call 65; refine (HF.out _).mono ?_; rintro e w1 ⟨rfl, rfl⟩)
    | (go_at_call 66; refine (HH.out _).mono ?_; rintro e w1 ⟨rfl, rfl⟩)
    | (go_at_call 75; refine (H75.out _).mono ?_; rintro e w1 ⟨rfl, rfl⟩)
    | (go_at_call 38; with_reducible refine (HE.out _).mono ?_; rintro e w1 ⟨rfl, hb⟩; have HB := Lib.hid hb; obtain ⟨q1, q2, q3, q4⟩ := two_rows (n1 := 5) (n2 := 5) hb rfl rfl; clear hb))
  all_goals refine bodyPost_ret (results_cell_tmp rfl _ _ rfl (load68_row _ _ _ q1 rfl)) rfl ?_
  all_goals refine ⟨?_, below_setRow q4 (Nat.le_refl _) _⟩
  all_goals simp only [bne_iff_ne, ne_eq, bne_eq_false_iff_eq] at *
  all_goals first
    | exact dec_no Hm.out (by omega)
    | exact dec_yes Hm.out (by omega) HX.out

theorem idec_any (n : Nat) (w : World) (h : n ≤ 4294967295) : Calls Try.prog 52 #[.int .u32 n] w fun e w' => e = .returned (decOut (mdec n)) ∧ Below w.heap.size w w' := by
  by_cases hf : opF (n / 67108864) = 114
  · exact idec_r n w h hf
  · by_cases hi : n % 65536 ≤ 32767
    · cases hp : plainB (n / 67108864) with
      | true => exact idec_lowT n w h hf hi hp
      | false => exact idec_lowF n w h hf hi hp
    · cases hp : plainB (n / 67108864) with
      | true => exact idec_highT n w h hf hi hp
      | false => exact idec_neg n w h hf hi hp
end Go.Proofs.Ytlhcggaeecjbcaa
