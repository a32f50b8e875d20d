/- The instruction of a word (isa.Dec, ref10.Dec): plain, and ref10's contract. No condition. -/
import Derived.Test.YtlhcggaeecjbcaaIsa5
import Derived.Test.YtlhcggaeecjbcaaIsa6
import Derived.Handy
import Derived.Test.YtlhcggaeecjbcaaAgg
namespace Go.Proofs.Ytlhcggaeecjbcaa
open Go.RowKit
attribute [local go_sem ↓] loadVar_68 storeVar_68
attribute [local go_sem] run_load68 run_store68 aggAt_new aggAt_past aggAt_drew rowAt_new rowAt_past rowAt_drew rowOpen_new rowOpen_past rowOpen_drew aggAt_setRow_same aggAt_setRow_other rowAt_setRow_same rowAt_setRow_other rowOpen_setRow_same rowOpen_setRow_other setRow_made' setRow_drew' aggSet_agg aggAt_setCell_other aggAt_setCell_same rowAt_setCell_other rowAt_setCell_same rowOpen_setCell_other rowOpen_setCell_same

def immOf (op w : Nat) : Int := if opF op = 114 then 0 else if plainB op = true then ((w % 65536 : Nat) : Int) else if w % 65536 ≤ 32767 then ((w % 65536 : Nat) : Int) else ((w % 65536 : Nat) : Int) - 65536
def decIns (w : Nat) : Ins := ⟨w / 67108864, w / 4194304 % 16, w / 262144 % 16, if opF (w / 67108864) = 114 then w / 16384 % 16 else 0, immOf (w / 67108864) w⟩
def mdec (w : Nat) : Option Ins := if menc (decIns w) = (w, 0) then some (decIns w) else none
def decOut : Option Ins → Value
  | none => .tuple #[.agg #[.int .u8 0, .int .u8 0, .int .u8 0, .int .u8 0, .int .i32 0], .bool false]
  | some x => .tuple #[.agg (insCells x), .bool true]

theorem decIns_ok (w : Nat) (h : w ≤ 4294967295) : (decIns w).Ok := by
  refine ⟨?_, ?_, ?_, ?_, ?_, ?_⟩ <;> simp only [decIns, immOf]
  · omega
  · omega
  · omega
  · split <;> omega
  · repeat' split
    all_goals omega
  · repeat' split
    all_goals omega

theorem dec_no {n r1 r2 : Nat} (hm : mdec n = if (r1, r2) = (n, 0) then some (decIns n) else none) (h : ¬ (r1 = n ∧ r2 = 0)) :
    Ending.returned (.tuple #[.agg #[.int .u8 0, .int .u8 0, .int .u8 0, .int .u8 0, .int .i32 0], .bool false]) = .returned (decOut (mdec n)) := by
  rw [hm, if_neg (by simpa using h)]; rfl
theorem dec_yes {n r1 r2 : Nat} {cs : Array Value} (hm : mdec n = if (r1, r2) = (n, 0) then some (decIns n) else none) (h : r1 = n ∧ r2 = 0) (hc : insCells (decIns n) = cs) :
    Ending.returned (.tuple #[.agg cs, .bool true]) = .returned (decOut (mdec n)) := by
  rw [hm, if_pos (by simpa using h), ← hc]; rfl
theorem refF_ne {op : Nat} (h : opF op ≠ 114) : (refF op == 1) = false := by
  rcases opF_form op with e | e | e | e | e | e
  · simp [refF, e]
  · exact absurd e h
  · simp [refF, e]
  · simp [refF, e]
  · simp [refF, e]
  · simp [refF, e]
theorem two_rows {w w1 : World} {c1 c2 : Array Value} {t1 t2 : TypeId} {n1 n2 : Nat} (hb : Below ((w.alloc (.cells c1 t1)).alloc (.cells c2 t2)).heap.size ((w.alloc (.cells c1 t1)).alloc (.cells c2 t2)) w1) (h1 : c1.size = n1) (h2 : c2.size = n2) :
    rowOpen w1 w.heap.size n1 = true ∧ aggAt w1 (w.heap.size + 1) = .agg c2 ∧ rowAt w1 (w.heap.size + 1) n2 = true ∧ Below w.heap.size w w1 := by
  have e1 := alive_row hb
  have e0 : w1.heap[w.heap.size]? = some (.cells c1 t1) := by
    rw [hb.block _ (by rw [alloc_size, alloc_size]; omega), Below.heap_alloc _ _ _ (by rw [alloc_size]; omega)]
    exact heap_alloc_new _ _
  exact ⟨rowOpen_of e0 _ h1, (agg_facts e1 _ h2).1, (agg_facts e1 _ h2).2, (((Below.refl _ _).alloc (Nat.le_refl _) _).alloc (by rw [alloc_size]; omega) _).trans (hb.mono (by rw [alloc_size, alloc_size]; omega))⟩
theorem ins_cast (a b c d : Nat) (i : Int) (n : Nat) (ha : a = n / 67108864) (hb : b = n / 4194304 % 16) (hc : c = n / 262144 % 16) : insCells ⟨a, b, c, d, i⟩ = #[.int .u8 ((n : Int) / 67108864), .int .u8 ((n : Int) / 4194304 % 16), .int .u8 ((n : Int) / 262144 % 16), .int .u8 d, .int .i32 i] := by
  subst ha hb hc
  simp [insCells]

set_option maxRecDepth 20000 in
set_option maxHeartbeats 1000000 in
theorem rdec_r (n : Nat) (w : World) (h : n ≤ 4294967295) (hf : opF (n / 67108864) = 114) : Calls Try.prog 57 #[.int .u32 n] w fun e w' => e = .returned (decOut (mdec n)) ∧ Below w.heap.size w w' := by
  have hx : decIns n = ⟨n / 67108864, n / 4194304 % 16, n / 262144 % 16, n / 16384 % 16, 0⟩ := by
    unfold decIns immOf; rw [hf]; simp
  have hcs : insCells (decIns n) = #[.int .u8 ((n : Int) / 67108864), .int .u8 ((n : Int) / 4194304 % 16), .int .u8 ((n : Int) / 262144 % 16), .int .u8 ((n : Int) / 16384 % 16), .int .i32 0] := by
    rw [hx, ins_cast _ _ _ _ _ n rfl rfl rfl]; simp
  have HE := Lib.hid (renc_any (decIns n) · (decIns_ok n h))
  have hF := Lib.hid (show refF (n / 67108864) = 1 by simp [refF, hf])
  have Hm := Lib.hid (show mdec n = if menc (decIns n) = (n, 0) then some (decIns n) else none from rfl)
  have HX := Lib.hid hcs
  rw [hcs] at HE
  generalize menc _ = r at HE Hm
  obtain ⟨r1, r2⟩ := r
  clear hx hf hcs
  go_enter Try.func57, Try.ntmps57
  go_wp2_with (first
    | (go_at_call 63; refine (rform_any (n / 67108864) _ (by omega)).mono ?_; rw [hF.out]; rintro e w1 ⟨rfl, rfl⟩)
    | (go_at_call 36; refine (HE.out _).mono ?_; rintro e w1 ⟨rfl, hb⟩; have HB := Lib.hid hb; obtain ⟨q1, q2, q3, q4⟩ := two_rows (n1 := 5) (n2 := 5) hb rfl rfl; clear hb))
  all_goals refine bodyPost_ret (results_cell_tmp rfl _ _ rfl (load68_row _ _ _ q1 rfl)) rfl ?_
  all_goals refine ⟨?_, below_setRow q4 (Nat.le_refl _) _⟩
  all_goals simp only [bne_iff_ne, ne_eq, bne_eq_false_iff_eq] at *
  all_goals first
    | exact dec_no Hm.out (by omega)
    | exact dec_yes Hm.out (by omega) HX.out

set_option maxRecDepth 20000 in
set_option maxHeartbeats 1000000 in
theorem rdec_low (n : Nat) (w : World) (h : n ≤ 4294967295) (hf : opF (n / 67108864) ≠ 114) (hi : n % 65536 ≤ 32767) (p : Bool) (hp : plainB (n / 67108864) = p) : Calls Try.prog 57 #[.int .u32 n] w fun e w' => e = .returned (decOut (mdec n)) ∧ Below w.heap.size w w' := by
  have hx : decIns n = ⟨n / 67108864, n / 4194304 % 16, n / 262144 % 16, 0, ((n % 65536 : Nat) : Int)⟩ := by
    unfold decIns immOf; simp [hf, hi, hp]
  have hcs : insCells (decIns n) = #[.int .u8 ((n : Int) / 67108864), .int .u8 ((n : Int) / 4194304 % 16), .int .u8 ((n : Int) / 262144 % 16), .int .u8 0, .int .i32 ((n : Int) % 65536)] := by
    rw [hx, ins_cast _ _ _ _ _ n rfl rfl rfl]; simp
  have HE := Lib.hid (renc_any (decIns n) · (decIns_ok n h))
  have HF := Lib.hid (rform_any (n / 67108864) · (by omega))
  have hF : (refF (n / 67108864) == 1) = false := refF_ne hf
  have HP := Lib.hid (rplain_any (n / 67108864) · (by omega))
  have Hm := Lib.hid (show mdec n = if menc (decIns n) = (n, 0) then some (decIns n) else none from rfl)
  have HX := Lib.hid hcs
  rw [hcs] at HE
  have ei : decide ((32767 : Int) < (n : Int) % 65536) = false := by simp only [decide_eq_false_iff_not]; omega
  generalize menc _ = r at HE Hm
  generalize refF (n / 67108864) = k at HF hF
  obtain ⟨r1, r2⟩ := r
  clear hx hf hcs hp hi
  go_enter Try.func57, Try.ntmps57
  go_wp2_with (first
    | (go_at_call 63; refine (HF.out _).mono ?_; rintro e w1 ⟨rfl, rfl⟩)
    | (go_at_call 64; refine (HP.out _).mono ?_; rintro e w1 ⟨rfl, rfl⟩)
    | (go_at_call 36; refine (HE.out _).mono ?_; rintro e w1 ⟨rfl, hb⟩; have HB := Lib.hid hb; obtain ⟨q1, q2, q3, q4⟩ := two_rows (n1 := 5) (n2 := 5) hb rfl rfl; clear hb))
  all_goals refine bodyPost_ret (results_cell_tmp rfl _ _ rfl (load68_row _ _ _ q1 rfl)) rfl ?_
  all_goals refine ⟨?_, below_setRow q4 (Nat.le_refl _) _⟩
  all_goals simp only [bne_iff_ne, ne_eq, bne_eq_false_iff_eq] at *
  all_goals first
    | exact dec_no Hm.out (by omega)
    | exact dec_yes Hm.out (by omega) HX.out

set_option maxRecDepth 20000 in
set_option maxHeartbeats 1000000 in
theorem rdec_high (n : Nat) (w : World) (h : n ≤ 4294967295) (hf : opF (n / 67108864) ≠ 114) (hi : ¬ n % 65536 ≤ 32767) (hp : plainB (n / 67108864) = true) : Calls Try.prog 57 #[.int .u32 n] w fun e w' => e = .returned (decOut (mdec n)) ∧ Below w.heap.size w w' := by
  have hx : decIns n = ⟨n / 67108864, n / 4194304 % 16, n / 262144 % 16, 0, ((n % 65536 : Nat) : Int)⟩ := by
    unfold decIns immOf; simp [hf, hp]
  have hcs : insCells (decIns n) = #[.int .u8 ((n : Int) / 67108864), .int .u8 ((n : Int) / 4194304 % 16), .int .u8 ((n : Int) / 262144 % 16), .int .u8 0, .int .i32 ((n : Int) % 65536)] := by
    rw [hx, ins_cast _ _ _ _ _ n rfl rfl rfl]; simp
  have HE := Lib.hid (renc_any (decIns n) · (decIns_ok n h))
  have HF := Lib.hid (rform_any (n / 67108864) · (by omega))
  have hF : (refF (n / 67108864) == 1) = false := refF_ne hf
  have HP := Lib.hid (rplain_any (n / 67108864) · (by omega))
  have Hm := Lib.hid (show mdec n = if menc (decIns n) = (n, 0) then some (decIns n) else none from rfl)
  have HX := Lib.hid hcs
  rw [hcs] at HE
  have ei : decide ((32767 : Int) < (n : Int) % 65536) = true := by simp only [decide_eq_true_eq]; omega
  rw [hp] at HP
  generalize menc _ = r at HE Hm
  generalize refF (n / 67108864) = k at HF hF
  obtain ⟨r1, r2⟩ := r
  clear hx hf hcs hp hi
  go_enter Try.func57, Try.ntmps57
  go_wp2_with (first
    | (go_at_call 63; refine (HF.out _).mono ?_; rintro e w1 ⟨rfl, rfl⟩)
    | (go_at_call 64; refine (HP.out _).mono ?_; rintro e w1 ⟨rfl, rfl⟩)
    | (go_at_call 36; refine (HE.out _).mono ?_; rintro e w1 ⟨rfl, hb⟩; have HB := Lib.hid hb; obtain ⟨q1, q2, q3, q4⟩ := two_rows (n1 := 5) (n2 := 5) hb rfl rfl; clear hb))
  all_goals refine bodyPost_ret (results_cell_tmp rfl _ _ rfl (load68_row _ _ _ q1 rfl)) rfl ?_
  all_goals refine ⟨?_, below_setRow q4 (Nat.le_refl _) _⟩
  all_goals simp only [bne_iff_ne, ne_eq, bne_eq_false_iff_eq] at *
  all_goals first
    | exact dec_no Hm.out (by omega)
    | exact dec_yes Hm.out (by omega) HX.out

set_option maxRecDepth 20000 in
set_option maxHeartbeats 1000000 in
theorem rdec_neg (n : Nat) (w : World) (h : n ≤ 4294967295) (hf : opF (n / 67108864) ≠ 114) (hi : ¬ n % 65536 ≤ 32767) (hp : plainB (n / 67108864) = false) : Calls Try.prog 57 #[.int .u32 n] w fun e w' => e = .returned (decOut (mdec n)) ∧ Below w.heap.size w w' := by
  have hx : decIns n = ⟨n / 67108864, n / 4194304 % 16, n / 262144 % 16, 0, ((n % 65536 : Nat) : Int) - 65536⟩ := by
    unfold decIns immOf; simp [hf, hi, hp]
  have hcs : insCells (decIns n) = #[.int .u8 ((n : Int) / 67108864), .int .u8 ((n : Int) / 4194304 % 16), .int .u8 ((n : Int) / 262144 % 16), .int .u8 0, .int .i32 ((n : Int) % 65536 - 65536)] := by
    rw [hx, ins_cast _ _ _ _ _ n rfl rfl rfl]; simp
  have HE := Lib.hid (renc_any (decIns n) · (decIns_ok n h))
  have HF := Lib.hid (rform_any (n / 67108864) · (by omega))
  have hF : (refF (n / 67108864) == 1) = false := refF_ne hf
  have HP := Lib.hid (rplain_any (n / 67108864) · (by omega))
  have Hm := Lib.hid (show mdec n = if menc (decIns n) = (n, 0) then some (decIns n) else none from rfl)
  have HX := Lib.hid hcs
  rw [hcs] at HE
  have ei : decide ((32767 : Int) < (n : Int) % 65536) = true := by simp only [decide_eq_true_eq]; omega
  rw [hp] at HP
  generalize menc _ = r at HE Hm
  generalize refF (n / 67108864) = k at HF hF
  obtain ⟨r1, r2⟩ := r
  clear hx hf hcs hp hi
  go_enter Try.func57, Try.ntmps57
  go_wp2_with (first
    | (go_at_call 63; refine (HF.out _).mono ?_; rintro e w1 ⟨rfl, rfl⟩)
    | (go_at_call 64; refine (HP.out _).mono ?_; rintro e w1 ⟨rfl, rfl⟩)
    | (go_at_call 36; refine (HE.out _).mono ?_; rintro e w1 ⟨rfl, hb⟩; have HB := Lib.hid hb; obtain ⟨q1, q2, q3, q4⟩ := two_rows (n1 := 5) (n2 := 5) hb rfl rfl; clear hb))
  all_goals refine bodyPost_ret (results_cell_tmp rfl _ _ rfl (load68_row _ _ _ q1 rfl)) rfl ?_
  all_goals refine ⟨?_, below_setRow q4 (Nat.le_refl _) _⟩
  all_goals simp only [bne_iff_ne, ne_eq, bne_eq_false_iff_eq] at *
  all_goals first
    | exact dec_no Hm.out (by omega)
    | exact dec_yes Hm.out (by omega) HX.out

theorem rdec_any (n : Nat) (w : World) (h : n ≤ 4294967295) : Calls Try.prog 57 #[.int .u32 n] w fun e w' => e = .returned (decOut (mdec n)) ∧ Below w.heap.size w w' := by
  by_cases hf : opF (n / 67108864) = 114
  · exact rdec_r n w h hf
  · by_cases hi : n % 65536 ≤ 32767
    · exact rdec_low n w h hf hi _ rfl
    · cases hp : plainB (n / 67108864) with
      | true => exact rdec_high n w h hf hi hp
      | false => exact rdec_neg n w h hf hi hp
end Go.Proofs.Ytlhcggaeecjbcaa
