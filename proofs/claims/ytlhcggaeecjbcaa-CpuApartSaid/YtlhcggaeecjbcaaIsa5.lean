/- The contract of isa.Enc. Condition: the fields are what their types allow. -/
import Derived.Test.YtlhcggaeecjbcaaIsa4
namespace Go.Proofs.Ytlhcggaeecjbcaa
open Go.RowKit


set_option maxRecDepth 20000 in
set_option maxHeartbeats 1000000 in
theorem ienc_109t (x : Ins) (w : World) (ho : x.Ok) (hf : opF x.op = 109) (hp : plainB x.op = true) :
    Calls Try.prog 38 #[.agg (insCells x)] w fun e w' => e = .returned (.tuple #[.int .u32 (menc x).1, .int .i64 (menc x).2]) ∧ Below w.heap.size w w' := by
  obtain ⟨op, A, B, C, imm⟩ := x
  obtain ⟨h1, h2, h3, h4, h5, h6⟩ := ho
  simp only at hf hp h1 h2 h3 h4 h5 h6
  have Hm := Lib.hid (menc_true (x := ⟨op, A, B, C, imm⟩) hf (by decide) (by decide) hp)
  have hr := op_le31 (by rw [hf]; decide)
  have HP := Lib.hid hp
  have hF := Lib.hid hf
  have HQ := Lib.hid (fits_true imm hp)
  clear hf hp
  simp only [insCells]
  generalize menc ⟨op, A, B, C, imm⟩ = r at Hm ⊢
  go_enter Try.func38, Try.ntmps38
  go_wp2_with (first
    | (go_at_call 65; refine (form_any op _ h1).mono ?_; rw [hF.out]; rintro e w1 ⟨rfl, rfl⟩)
    | (go_at_call 66; refine (has_any 109 _ (by simp [IsForm])).mono ?_; rw [has109]; rintro e w2 ⟨rfl, rfl⟩)
    | (go_at_call 67; refine (fits_any op imm _ h1).mono ?_; rintro e w2 ⟨rfl, rfl⟩; rw [HQ.out]))
  all_goals go_ret2
  all_goals have hm := Hm.out
  all_goals clear Hm hF HP
  all_goals (try simp only [Bool.not_eq_true', Bool.not_eq_false', decide_eq_true_eq, decide_eq_false_iff_not] at *)
  all_goals first
    | exact ⟨enc2_bad hm (by rw [argBad_mk]; omega), below_alloc _ _⟩
    | exact ⟨enc2_out hm (by rw [argBad_mk]; omega) (by omega), below_alloc _ _⟩
    | (refine ⟨enc2_good hm ?_ (by omega) ?_, below_alloc _ _⟩
       · rw [argBad_mk]; omega
       · have e1 := or_int ((op : Int) * 67108864) ((A : Int) * 4194304) 26 (by omega) (by omega) (by omega) (by omega) (by omega)
         have e2 := or_int (((op : Int) * 67108864) + ((A : Int) * 4194304)) ((B : Int) * 262144) 22 (by omega) (by omega) (by omega) (by omega) (by omega)
         have e3 := or_int (((op : Int) * 67108864) + ((A : Int) * 4194304) + ((B : Int) * 262144)) 0 18 (by omega) (by omega) (by omega) (by omega) (by omega)
         have e4 := or_int (((op : Int) * 67108864) + ((A : Int) * 4194304) + ((B : Int) * 262144) + 0) (imm % 65536) 18 (by omega) (by omega) (by omega) (by omega) (by omega)
         rw [e1, e2, e3, IntKind.wrap_u16, Int.emod_eq_of_lt (by omega) (by omega), e4]
         simp only [encW]
         simp
         omega)

set_option maxRecDepth 20000 in
set_option maxHeartbeats 1000000 in
theorem ienc_109f (x : Ins) (w : World) (ho : x.Ok) (hf : opF x.op = 109) (hp : plainB x.op = false) :
    Calls Try.prog 38 #[.agg (insCells x)] w fun e w' => e = .returned (.tuple #[.int .u32 (menc x).1, .int .i64 (menc x).2]) ∧ Below w.heap.size w w' := by
  obtain ⟨op, A, B, C, imm⟩ := x
  obtain ⟨h1, h2, h3, h4, h5, h6⟩ := ho
  simp only at hf hp h1 h2 h3 h4 h5 h6
  have Hm := Lib.hid (menc_false (x := ⟨op, A, B, C, imm⟩) hf (by decide) (by decide) hp)
  have hr := op_le31 (by rw [hf]; decide)
  have HP := Lib.hid hp
  have hF := Lib.hid hf
  have HQ := Lib.hid (fits_false imm hp)
  clear hf hp
  simp only [insCells]
  generalize menc ⟨op, A, B, C, imm⟩ = r at Hm ⊢
  go_enter Try.func38, Try.ntmps38
  go_wp2_with (first
    | (go_at_call 65; refine (form_any op _ h1).mono ?_; rw [hF.out]; rintro e w1 ⟨rfl, rfl⟩)
    | (go_at_call 66; refine (has_any 109 _ (by simp [IsForm])).mono ?_; rw [has109]; rintro e w2 ⟨rfl, rfl⟩)
    | (go_at_call 67; refine (fits_any op imm _ h1).mono ?_; rintro e w2 ⟨rfl, rfl⟩; rw [HQ.out]))
  all_goals go_ret2
  all_goals have hm := Hm.out
  all_goals clear Hm hF HP
  all_goals (try simp only [Bool.not_eq_true', Bool.not_eq_false', decide_eq_true_eq, decide_eq_false_iff_not] at *)
  all_goals first
    | exact ⟨enc2_bad hm (by rw [argBad_mk]; omega), below_alloc _ _⟩
    | exact ⟨enc2_out hm (by rw [argBad_mk]; omega) (by omega), below_alloc _ _⟩
    | (refine ⟨enc2_good hm ?_ (by omega) ?_, below_alloc _ _⟩
       · rw [argBad_mk]; omega
       · have e1 := or_int ((op : Int) * 67108864) ((A : Int) * 4194304) 26 (by omega) (by omega) (by omega) (by omega) (by omega)
         have e2 := or_int (((op : Int) * 67108864) + ((A : Int) * 4194304)) ((B : Int) * 262144) 22 (by omega) (by omega) (by omega) (by omega) (by omega)
         have e3 := or_int (((op : Int) * 67108864) + ((A : Int) * 4194304) + ((B : Int) * 262144)) 0 18 (by omega) (by omega) (by omega) (by omega) (by omega)
         have e4 := or_int (((op : Int) * 67108864) + ((A : Int) * 4194304) + ((B : Int) * 262144) + 0) (imm % 65536) 18 (by omega) (by omega) (by omega) (by omega) (by omega)
         rw [e1, e2, e3, IntKind.wrap_u16, Int.emod_eq_of_lt (by omega) (by omega), e4]
         simp only [encW]
         simp
         omega)

set_option maxRecDepth 20000 in
set_option maxHeartbeats 1000000 in
theorem ienc_110t (x : Ins) (w : World) (ho : x.Ok) (hf : opF x.op = 110) (hp : plainB x.op = true) :
    Calls Try.prog 38 #[.agg (insCells x)] w fun e w' => e = .returned (.tuple #[.int .u32 (menc x).1, .int .i64 (menc x).2]) ∧ Below w.heap.size w w' := by
  obtain ⟨op, A, B, C, imm⟩ := x
  obtain ⟨h1, h2, h3, h4, h5, h6⟩ := ho
  simp only at hf hp h1 h2 h3 h4 h5 h6
  have Hm := Lib.hid (menc_true (x := ⟨op, A, B, C, imm⟩) hf (by decide) (by decide) hp)
  have hr := op_le31 (by rw [hf]; decide)
  have HP := Lib.hid hp
  have hF := Lib.hid hf
  have HQ := Lib.hid (fits_true imm hp)
  clear hf hp
  simp only [insCells]
  generalize menc ⟨op, A, B, C, imm⟩ = r at Hm ⊢
  go_enter Try.func38, Try.ntmps38
  go_wp2_with (first
    | (go_at_call 65; refine (form_any op _ h1).mono ?_; rw [hF.out]; rintro e w1 ⟨rfl, rfl⟩)
    | (go_at_call 66; refine (has_any 110 _ (by simp [IsForm])).mono ?_; rw [has110]; rintro e w2 ⟨rfl, rfl⟩)
    | (go_at_call 67; refine (fits_any op imm _ h1).mono ?_; rintro e w2 ⟨rfl, rfl⟩; rw [HQ.out]))
  all_goals go_ret2
  all_goals have hm := Hm.out
  all_goals clear Hm hF HP
  all_goals (try simp only [Bool.not_eq_true', Bool.not_eq_false', decide_eq_true_eq, decide_eq_false_iff_not] at *)
  all_goals first
    | exact ⟨enc2_bad hm (by rw [argBad_mk]; omega), below_alloc _ _⟩
    | exact ⟨enc2_out hm (by rw [argBad_mk]; omega) (by omega), below_alloc _ _⟩
    | (refine ⟨enc2_good hm ?_ (by omega) ?_, below_alloc _ _⟩
       · rw [argBad_mk]; omega
       · have e1 := or_int ((op : Int) * 67108864) 0 26 (by omega) (by omega) (by omega) (by omega) (by omega)
         have e2 := or_int (((op : Int) * 67108864) + 0) 0 22 (by omega) (by omega) (by omega) (by omega) (by omega)
         have e3 := or_int (((op : Int) * 67108864) + 0 + 0) 0 18 (by omega) (by omega) (by omega) (by omega) (by omega)
         have e4 := or_int (((op : Int) * 67108864) + 0 + 0 + 0) (imm % 65536) 18 (by omega) (by omega) (by omega) (by omega) (by omega)
         rw [e1, e2, e3, IntKind.wrap_u16, Int.emod_eq_of_lt (by omega) (by omega), e4]
         simp only [encW]
         simp
         omega)

set_option maxRecDepth 20000 in
set_option maxHeartbeats 1000000 in
theorem ienc_110f (x : Ins) (w : World) (ho : x.Ok) (hf : opF x.op = 110) (hp : plainB x.op = false) :
    Calls Try.prog 38 #[.agg (insCells x)] w fun e w' => e = .returned (.tuple #[.int .u32 (menc x).1, .int .i64 (menc x).2]) ∧ Below w.heap.size w w' := by
  obtain ⟨op, A, B, C, imm⟩ := x
  obtain ⟨h1, h2, h3, h4, h5, h6⟩ := ho
  simp only at hf hp h1 h2 h3 h4 h5 h6
  have Hm := Lib.hid (menc_false (x := ⟨op, A, B, C, imm⟩) hf (by decide) (by decide) hp)
  have hr := op_le31 (by rw [hf]; decide)
  have HP := Lib.hid hp
  have hF := Lib.hid hf
  have HQ := Lib.hid (fits_false imm hp)
  clear hf hp
  simp only [insCells]
  generalize menc ⟨op, A, B, C, imm⟩ = r at Hm ⊢
  go_enter Try.func38, Try.ntmps38
  go_wp2_with (first
    | (go_at_call 65; refine (form_any op _ h1).mono ?_; rw [hF.out]; rintro e w1 ⟨rfl, rfl⟩)
    | (go_at_call 66; refine (has_any 110 _ (by simp [IsForm])).mono ?_; rw [has110]; rintro e w2 ⟨rfl, rfl⟩)
    | (go_at_call 67; refine (fits_any op imm _ h1).mono ?_; rintro e w2 ⟨rfl, rfl⟩; rw [HQ.out]))
  all_goals go_ret2
  all_goals have hm := Hm.out
  all_goals clear Hm hF HP
  all_goals (try simp only [Bool.not_eq_true', Bool.not_eq_false', decide_eq_true_eq, decide_eq_false_iff_not] at *)
  all_goals first
    | exact ⟨enc2_bad hm (by rw [argBad_mk]; omega), below_alloc _ _⟩
    | exact ⟨enc2_out hm (by rw [argBad_mk]; omega) (by omega), below_alloc _ _⟩
    | (refine ⟨enc2_good hm ?_ (by omega) ?_, below_alloc _ _⟩
       · rw [argBad_mk]; omega
       · have e1 := or_int ((op : Int) * 67108864) 0 26 (by omega) (by omega) (by omega) (by omega) (by omega)
         have e2 := or_int (((op : Int) * 67108864) + 0) 0 22 (by omega) (by omega) (by omega) (by omega) (by omega)
         have e3 := or_int (((op : Int) * 67108864) + 0 + 0) 0 18 (by omega) (by omega) (by omega) (by omega) (by omega)
         have e4 := or_int (((op : Int) * 67108864) + 0 + 0 + 0) (imm % 65536) 18 (by omega) (by omega) (by omega) (by omega) (by omega)
         rw [e1, e2, e3, IntKind.wrap_u16, Int.emod_eq_of_lt (by omega) (by omega), e4]
         simp only [encW]
         simp
         omega)


theorem ienc_any (x : Ins) (w : World) (ho : x.Ok) :
    Calls Try.prog 38 #[.agg (insCells x)] w fun e w' => e = .returned (.tuple #[.int .u32 (menc x).1, .int .i64 (menc x).2]) ∧ Below w.heap.size w w' := by
  rcases opF_form x.op with h | h | h | h | h | h
  · exact ienc_0 x w ho h
  · exact ienc_r x w ho h
  · cases hp : plainB x.op with
    | true => exact ienc_105t x w ho h hp
    | false => exact ienc_105f x w ho h hp
  · cases hp : plainB x.op with
    | true => exact ienc_108t x w ho h hp
    | false => exact ienc_108f x w ho h hp
  · cases hp : plainB x.op with
    | true => exact ienc_109t x w ho h hp
    | false => exact ienc_109f x w ho h hp
  · cases hp : plainB x.op with
    | true => exact ienc_110t x w ho h hp
    | false => exact ienc_110f x w ho h hp
end Go.Proofs.Ytlhcggaeecjbcaa
