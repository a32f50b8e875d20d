/- The contract of isa.Enc, sign by sign, the first half. Condition: the fields are what their types allow. -/
import Derived.Test.YtlhcggaeecjbcaaIsa2
import Derived.Laws.BitsAllLaws
namespace Go.Proofs.Ytlhcggaeecjbcaa
open Go.RowKit

theorem fits_true {op : Nat} (imm : Int) (h : plainB op = true) : fitsB op imm = (decide (0 ≤ imm) && decide (imm ≤ 65535)) := by unfold fitsB; rw [h]; rfl
theorem fits_false {op : Nat} (imm : Int) (h : plainB op = false) : fitsB op imm = (decide (-32768 ≤ imm) && decide (imm ≤ 32767)) := by unfold fitsB; rw [h]; rfl
theorem has105 : hasOut 105 = .tuple #[.bool true, .bool true, .bool false, .bool true] := rfl
theorem has108 : hasOut 108 = .tuple #[.bool true, .bool false, .bool false, .bool true] := rfl
theorem has109 : hasOut 109 = .tuple #[.bool true, .bool true, .bool false, .bool true] := rfl
theorem has110 : hasOut 110 = .tuple #[.bool false, .bool false, .bool false, .bool true] := rfl
theorem has114 : hasOut 114 = .tuple #[.bool true, .bool true, .bool true, .bool false] := rfl
theorem or_int (a b : Int) (k : Nat) (ha : 0 ≤ a) (hb : 0 ≤ b) (hk : b < 2 ^ k) (hd : a % 2 ^ k = 0) (hs : a + b < 4294967296) : bits .or .u32 a b = a + b := by
  obtain ⟨a, rfl⟩ := Int.eq_ofNat_of_zero_le ha
  obtain ⟨b, rfl⟩ := Int.eq_ofNat_of_zero_le hb
  rw [u32_or_nat a b (by omega) (by omega)]
  have hd' : a % 2 ^ k = 0 := by exact_mod_cast hd
  have hk' : b < 2 ^ k := by exact_mod_cast hk
  have e : a = 2 ^ k * (a / 2 ^ k) := by have := Nat.div_add_mod a (2 ^ k); omega
  have : a ||| b = a + b := by
    rw [e, ← Nat.two_pow_add_eq_or_of_lt hk']
  rw [this]
  push_cast
  rfl

set_option maxRecDepth 20000 in
theorem ienc_0 (x : Ins) (w : World) (ho : x.Ok) (hf : opF x.op = 0) :
    Calls Try.prog 38 #[.agg (insCells x)] w fun e w' => e = .returned (.tuple #[.int .u32 (menc x).1, .int .i64 (menc x).2]) ∧ Below w.heap.size w w' := by
  have hm : menc x = (0, 16) := by unfold menc; rw [if_pos hf]
  obtain ⟨op, A, B, C, imm⟩ := x
  obtain ⟨h1, h2, h3, h4, h5, h6⟩ := ho
  rw [hm]
  simp only at hf h1 h2 h3 h4 h5 h6
  have HF := Lib.hid hf
  clear hf hm
  simp only [insCells]
  go_enter Try.func38, Try.ntmps38
  go_wp2_with (go_at_call 65; refine (form_any op _ h1).mono ?_; rw [HF.out]; rintro e w1 ⟨rfl, rfl⟩)
  go_ret2
  exact ⟨rfl, below_alloc _ _⟩

set_option maxRecDepth 20000 in
set_option maxHeartbeats 1000000 in
theorem ienc_r (x : Ins) (w : World) (ho : x.Ok) (hf : opF x.op = 114) :
    Calls Try.prog 38 #[.agg (insCells x)] w fun e w' => e = .returned (.tuple #[.int .u32 (menc x).1, .int .i64 (menc x).2]) ∧ Below w.heap.size w w' := by
  obtain ⟨op, A, B, C, imm⟩ := x
  obtain ⟨h1, h2, h3, h4, h5, h6⟩ := ho
  simp only at hf h1 h2 h3 h4 h5 h6
  have Hm := Lib.hid (show menc ⟨op, A, B, C, imm⟩ = if argBad 114 ⟨op, A, B, C, imm⟩ then (0, 1) else if ¬ True then (0, 2) else (encW 114 ⟨op, A, B, C, imm⟩, 0) by simp [menc, hf])
  have hr := opr_range hf
  have HF := Lib.hid hf
  clear hf
  simp only [insCells]
  generalize menc ⟨op, A, B, C, imm⟩ = r at Hm ⊢
  go_enter Try.func38, Try.ntmps38
  go_wp2_with (first
    | (go_at_call 65; refine (form_any op _ h1).mono ?_; rw [HF.out]; rintro e w1 ⟨rfl, rfl⟩)
    | (go_at_call 66; refine (has_any 114 _ (by simp [IsForm])).mono ?_; rw [has114]; rintro e w2 ⟨rfl, rfl⟩))
  all_goals go_ret2
  all_goals have hm := Hm.out
  all_goals clear Hm HF
  all_goals (try simp only [bne_iff_ne, ne_eq, bne_eq_false_iff_eq] at *)
  all_goals first
    | exact ⟨enc2_bad hm (by rw [argBad_mk]; omega), below_alloc _ _⟩
    | (refine ⟨enc2_good hm ?_ trivial ?_, below_alloc _ _⟩
       · rw [argBad_mk]; omega
       · have e1 := or_int ((op : Int) * 67108864) ((A : Int) * 4194304) 26 (by omega) (by omega) (by omega) (by omega) (by omega)
         have e2 := or_int ((op : Int) * 67108864 + (A : Int) * 4194304) ((B : Int) * 262144) 22 (by omega) (by omega) (by omega) (by omega) (by omega)
         have e3 := or_int ((op : Int) * 67108864 + (A : Int) * 4194304 + (B : Int) * 262144) ((C : Int) * 16384) 18 (by omega) (by omega) (by omega) (by omega) (by omega)
         rw [e1, e2, e3]
         simp only [encW]
         simp
         try omega)

set_option maxRecDepth 20000 in
set_option maxHeartbeats 1000000 in
theorem ienc_105t (x : Ins) (w : World) (ho : x.Ok) (hf : opF x.op = 105) (hp : plainB x.op = true) :
    Calls Try.prog 38 #[.agg (insCells x)] w fun e w' => e = .returned (.tuple #[.int .u32 (menc x).1, .int .i64 (menc x).2]) ∧ Below w.heap.size w w' := by
  obtain ⟨op, A, B, C, imm⟩ := x
  obtain ⟨h1, h2, h3, h4, h5, h6⟩ := ho
  simp only at hf hp h1 h2 h3 h4 h5 h6
  have Hm := Lib.hid (menc_true (x := ⟨op, A, B, C, imm⟩) hf (by decide) (by decide) hp)
  have hr := op_le31 (by rw [hf]; decide)
  have HP := Lib.hid hp
  have hF := Lib.hid hf
  have HQ := Lib.hid (fits_true imm hp)
  clear hf hp
  simp only [insCells]
  generalize menc ⟨op, A, B, C, imm⟩ = r at Hm ⊢
  go_enter Try.func38, Try.ntmps38
  go_wp2_with (first
    | (go_at_call 65; refine (form_any op _ h1).mono ?_; rw [hF.out]; rintro e w1 ⟨rfl, rfl⟩)
    | (go_at_call 66; refine (has_any 105 _ (by simp [IsForm])).mono ?_; rw [has105]; rintro e w2 ⟨rfl, rfl⟩)
    | (go_at_call 67; refine (fits_any op imm _ h1).mono ?_; rintro e w2 ⟨rfl, rfl⟩; rw [HQ.out]))
  all_goals go_ret2
  all_goals have hm := Hm.out
  all_goals clear Hm hF HP
  all_goals (try simp only [Bool.not_eq_true', Bool.not_eq_false', decide_eq_true_eq, decide_eq_false_iff_not] at *)
  all_goals first
    | exact ⟨enc2_bad hm (by rw [argBad_mk]; omega), below_alloc _ _⟩
    | exact ⟨enc2_out hm (by rw [argBad_mk]; omega) (by omega), below_alloc _ _⟩
    | (refine ⟨enc2_good hm ?_ (by omega) ?_, below_alloc _ _⟩
       · rw [argBad_mk]; omega
       · have e1 := or_int ((op : Int) * 67108864) ((A : Int) * 4194304) 26 (by omega) (by omega) (by omega) (by omega) (by omega)
         have e2 := or_int (((op : Int) * 67108864) + ((A : Int) * 4194304)) ((B : Int) * 262144) 22 (by omega) (by omega) (by omega) (by omega) (by omega)
         have e3 := or_int (((op : Int) * 67108864) + ((A : Int) * 4194304) + ((B : Int) * 262144)) 0 18 (by omega) (by omega) (by omega) (by omega) (by omega)
         have e4 := or_int (((op : Int) * 67108864) + ((A : Int) * 4194304) + ((B : Int) * 262144) + 0) (imm % 65536) 18 (by omega) (by omega) (by omega) (by omega) (by omega)
         rw [e1, e2, e3, IntKind.wrap_u16, Int.emod_eq_of_lt (by omega) (by omega), e4]
         simp only [encW]
         simp
         omega)

set_option maxRecDepth 20000 in
set_option maxHeartbeats 1000000 in
theorem ienc_105f (x : Ins) (w : World) (ho : x.Ok) (hf : opF x.op = 105) (hp : plainB x.op = false) :
    Calls Try.prog 38 #[.agg (insCells x)] w fun e w' => e = .returned (.tuple #[.int .u32 (menc x).1, .int .i64 (menc x).2]) ∧ Below w.heap.size w w' := by
  obtain ⟨op, A, B, C, imm⟩ := x
  obtain ⟨h1, h2, h3, h4, h5, h6⟩ := ho
  simp only at hf hp h1 h2 h3 h4 h5 h6
  have Hm := Lib.hid (menc_false (x := ⟨op, A, B, C, imm⟩) hf (by decide) (by decide) hp)
  have hr := op_le31 (by rw [hf]; decide)
  have HP := Lib.hid hp
  have hF := Lib.hid hf
  have HQ := Lib.hid (fits_false imm hp)
  clear hf hp
  simp only [insCells]
  generalize menc ⟨op, A, B, C, imm⟩ = r at Hm ⊢
  go_enter Try.func38, Try.ntmps38
  go_wp2_with (first
    | (go_at_call 65; refine (form_any op _ h1).mono ?_; rw [hF.out]; rintro e w1 ⟨rfl, rfl⟩)
    | (go_at_call 66; refine (has_any 105 _ (by simp [IsForm])).mono ?_; rw [has105]; rintro e w2 ⟨rfl, rfl⟩)
    | (go_at_call 67; refine (fits_any op imm _ h1).mono ?_; rintro e w2 ⟨rfl, rfl⟩; rw [HQ.out]))
  all_goals go_ret2
  all_goals have hm := Hm.out
  all_goals clear Hm hF HP
  all_goals (try simp only [Bool.not_eq_true', Bool.not_eq_false', decide_eq_true_eq, decide_eq_false_iff_not] at *)
  all_goals first
    | exact ⟨enc2_bad hm (by rw [argBad_mk]; omega), below_alloc _ _⟩
    | exact ⟨enc2_out hm (by rw [argBad_mk]; omega) (by omega), below_alloc _ _⟩
    | (refine ⟨enc2_good hm ?_ (by omega) ?_, below_alloc _ _⟩
       · rw [argBad_mk]; omega
       · have e1 := or_int ((op : Int) * 67108864) ((A : Int) * 4194304) 26 (by omega) (by omega) (by omega) (by omega) (by omega)
         have e2 := or_int (((op : Int) * 67108864) + ((A : Int) * 4194304)) ((B : Int) * 262144) 22 (by omega) (by omega) (by omega) (by omega) (by omega)
         have e3 := or_int (((op : Int) * 67108864) + ((A : Int) * 4194304) + ((B : Int) * 262144)) 0 18 (by omega) (by omega) (by omega) (by omega) (by omega)
         have e4 := or_int (((op : Int) * 67108864) + ((A : Int) * 4194304) + ((B : Int) * 262144) + 0) (imm % 65536) 18 (by omega) (by omega) (by omega) (by omega) (by omega)
         rw [e1, e2, e3, IntKind.wrap_u16, Int.emod_eq_of_lt (by omega) (by omega), e4]
         simp only [encW]
         simp
         omega)

set_option maxRecDepth 20000 in
set_option maxHeartbeats 1000000 in
theorem ienc_108t (x : Ins) (w : World) (ho : x.Ok) (hf : opF x.op = 108) (hp : plainB x.op = true) :
    Calls Try.prog 38 #[.agg (insCells x)] w fun e w' => e = .returned (.tuple #[.int .u32 (menc x).1, .int .i64 (menc x).2]) ∧ Below w.heap.size w w' := by
  obtain ⟨op, A, B, C, imm⟩ := x
  obtain ⟨h1, h2, h3, h4, h5, h6⟩ := ho
  simp only at hf hp h1 h2 h3 h4 h5 h6
  have Hm := Lib.hid (menc_true (x := ⟨op, A, B, C, imm⟩) hf (by decide) (by decide) hp)
  have hr := op_le31 (by rw [hf]; decide)
  have HP := Lib.hid hp
  have hF := Lib.hid hf
  have HQ := Lib.hid (fits_true imm hp)
  clear hf hp
  simp only [insCells]
  generalize menc ⟨op, A, B, C, imm⟩ = r at Hm ⊢
  go_enter Try.func38, Try.ntmps38
  go_wp2_with (first
    | (go_at_call 65; refine (form_any op _ h1).mono ?_; rw [hF.out]; rintro e w1 ⟨rfl, rfl⟩)
    | (go_at_call 66; refine (has_any 108 _ (by simp [IsForm])).mono ?_; rw [has108]; rintro e w2 ⟨rfl, rfl⟩)
    | (go_at_call 67; refine (fits_any op imm _ h1).mono ?_; rintro e w2 ⟨rfl, rfl⟩; rw [HQ.out]))
  all_goals go_ret2
  all_goals have hm := Hm.out
  all_goals clear Hm hF HP
  all_goals (try simp only [Bool.not_eq_true', Bool.not_eq_false', decide_eq_true_eq, decide_eq_false_iff_not] at *)
  all_goals first
    | exact ⟨enc2_bad hm (by rw [argBad_mk]; omega), below_alloc _ _⟩
    | exact ⟨enc2_out hm (by rw [argBad_mk]; omega) (by omega), below_alloc _ _⟩
    | (refine ⟨enc2_good hm ?_ (by omega) ?_, below_alloc _ _⟩
       · rw [argBad_mk]; omega
       · have e1 := or_int ((op : Int) * 67108864) ((A : Int) * 4194304) 26 (by omega) (by omega) (by omega) (by omega) (by omega)
         have e2 := or_int (((op : Int) * 67108864) + ((A : Int) * 4194304)) 0 22 (by omega) (by omega) (by omega) (by omega) (by omega)
         have e3 := or_int (((op : Int) * 67108864) + ((A : Int) * 4194304) + 0) 0 18 (by omega) (by omega) (by omega) (by omega) (by omega)
         have e4 := or_int (((op : Int) * 67108864) + ((A : Int) * 4194304) + 0 + 0) (imm % 65536) 18 (by omega) (by omega) (by omega) (by omega) (by omega)
         rw [e1, e2, e3, IntKind.wrap_u16, Int.emod_eq_of_lt (by omega) (by omega), e4]
         simp only [encW]
         simp
         omega)

set_option maxRecDepth 20000 in
set_option maxHeartbeats 1000000 in
theorem ienc_108f (x : Ins) (w : World) (ho : x.Ok) (hf : opF x.op = 108) (hp : plainB x.op = false) :
    Calls Try.prog 38 #[.agg (insCells x)] w fun e w' => e = .returned (.tuple #[.int .u32 (menc x).1, .int .i64 (menc x).2]) ∧ Below w.heap.size w w' := by
  obtain ⟨op, A, B, C, imm⟩ := x
  obtain ⟨h1, h2, h3, h4, h5, h6⟩ := ho
  simp only at hf hp h1 h2 h3 h4 h5 h6
  have Hm := Lib.hid (menc_false (x := ⟨op, A, B, C, imm⟩) hf (by decide) (by decide) hp)
  have hr := op_le31 (by rw [hf]; decide)
  have HP := Lib.hid hp
  have hF := Lib.hid hf
  have HQ := Lib.hid (fits_false imm hp)
  clear hf hp
  simp only [insCells]
  generalize menc ⟨op, A, B, C, imm⟩ = r at Hm ⊢
  go_enter Try.func38, Try.ntmps38
  go_wp2_with (first
    | (go_at_call 65; refine (form_any op _ h1).mono ?_; rw [hF.out]; rintro e w1 ⟨rfl, rfl⟩)
    | (go_at_call 66; refine (has_any 108 _ (by simp [IsForm])).mono ?_; rw [has108]; rintro e w2 ⟨rfl, rfl⟩)
    | (go_at_call 67; refine (fits_any op imm _ h1).mono ?_; rintro e w2 ⟨rfl, rfl⟩; rw [HQ.out]))
  all_goals go_ret2
  all_goals have hm := Hm.out
  all_goals clear Hm hF HP
  all_goals (try simp only [Bool.not_eq_true', Bool.not_eq_false', decide_eq_true_eq, decide_eq_false_iff_not] at *)
  all_goals first
    | exact ⟨enc2_bad hm (by rw [argBad_mk]; omega), below_alloc _ _⟩
    | exact ⟨enc2_out hm (by rw [argBad_mk]; omega) (by omega), below_alloc _ _⟩
    | (refine ⟨enc2_good hm ?_ (by omega) ?_, below_alloc _ _⟩
       · rw [argBad_mk]; omega
       · have e1 := or_int ((op : Int) * 67108864) ((A : Int) * 4194304) 26 (by omega) (by omega) (by omega) (by omega) (by omega)
         have e2 := or_int (((op : Int) * 67108864) + ((A : Int) * 4194304)) 0 22 (by omega) (by omega) (by omega) (by omega) (by omega)
         have e3 := or_int (((op : Int) * 67108864) + ((A : Int) * 4194304) + 0) 0 18 (by omega) (by omega) (by omega) (by omega) (by omega)
         have e4 := or_int (((op : Int) * 67108864) + ((A : Int) * 4194304) + 0 + 0) (imm % 65536) 18 (by omega) (by omega) (by omega) (by omega) (by omega)
         rw [e1, e2, e3, IntKind.wrap_u16, Int.emod_eq_of_lt (by omega) (by omega), e4]
         simp only [encW]
         simp
         omega)
end Go.Proofs.Ytlhcggaeecjbcaa
