/- The contract of ref10.Enc, sign by sign. Condition: the fields are what their types allow. -/
import Derived.Test.YtlhcggaeecjbcaaIsa2
namespace Go.Proofs.Ytlhcggaeecjbcaa
open Go.RowKit

set_option maxRecDepth 20000 in
set_option maxHeartbeats 1000000 in
theorem renc_105t (x : Ins) (w : World) (ho : x.Ok) (hf : opF x.op = 105) (hp : plainB x.op = true) :
    Calls Try.prog 36 #[.agg (insCells x)] w fun e w' => e = .returned (.tuple #[.int .u32 (menc x).1, .int .i64 (menc x).2]) ∧ Below w.heap.size w w' := by
  obtain ⟨op, A, B, C, imm⟩ := x
  obtain ⟨h1, h2, h3, h4, h5, h6⟩ := ho
  simp only at hf hp h1 h2 h3 h4 h5 h6
  have Hm := Lib.hid (menc_true (x := ⟨op, A, B, C, imm⟩) hf (by decide) (by decide) hp)
  have hr := op_le31 (by rw [hf]; decide)
  have HP := Lib.hid hp
  have hF := Lib.hid (show refF op = 2 by simp [refF, hf])
  clear hf hp
  simp only [insCells]
  generalize menc ⟨op, A, B, C, imm⟩ = r at Hm ⊢
  go_enter Try.func36, Try.ntmps36
  go_wp2_with (first
    | (go_at_call 63; refine (rform_any op _ h1).mono ?_; rw [hF.out]; rintro e w1 ⟨rfl, rfl⟩)
    | (go_at_call 64; refine (rplain_any op _ h1).mono ?_; rw [HP.out]; rintro e w2 ⟨rfl, rfl⟩))
  all_goals go_ret2
  all_goals have hm := Hm.out
  all_goals clear Hm hF HP
  all_goals first
    | exact ⟨enc2_bad hm (by rw [argBad_mk]; omega), below_alloc _ _⟩
    | exact ⟨enc2_out hm (by rw [argBad_mk]; omega) (by omega), below_alloc _ _⟩
    | exact ⟨enc2_good hm (by rw [argBad_mk]; omega) (by omega) (by simp only [encW]; simp; omega), below_alloc _ _⟩

set_option maxRecDepth 20000 in
set_option maxHeartbeats 1000000 in
theorem renc_105f (x : Ins) (w : World) (ho : x.Ok) (hf : opF x.op = 105) (hp : plainB x.op = false) :
    Calls Try.prog 36 #[.agg (insCells x)] w fun e w' => e = .returned (.tuple #[.int .u32 (menc x).1, .int .i64 (menc x).2]) ∧ Below w.heap.size w w' := by
  obtain ⟨op, A, B, C, imm⟩ := x
  obtain ⟨h1, h2, h3, h4, h5, h6⟩ := ho
  simp only at hf hp h1 h2 h3 h4 h5 h6
  have Hm := Lib.hid (menc_false (x := ⟨op, A, B, C, imm⟩) hf (by decide) (by decide) hp)
  have hr := op_le31 (by rw [hf]; decide)
  have HP := Lib.hid hp
  have hF := Lib.hid (show refF op = 2 by simp [refF, hf])
  clear hf hp
  simp only [insCells]
  generalize menc ⟨op, A, B, C, imm⟩ = r at Hm ⊢
  go_enter Try.func36, Try.ntmps36
  go_wp2_with (first
    | (go_at_call 63; refine (rform_any op _ h1).mono ?_; rw [hF.out]; rintro e w1 ⟨rfl, rfl⟩)
    | (go_at_call 64; refine (rplain_any op _ h1).mono ?_; rw [HP.out]; rintro e w2 ⟨rfl, rfl⟩))
  all_goals go_ret2
  all_goals have hm := Hm.out
  all_goals clear Hm hF HP
  all_goals first
    | exact ⟨enc2_bad hm (by rw [argBad_mk]; omega), below_alloc _ _⟩
    | exact ⟨enc2_out hm (by rw [argBad_mk]; omega) (by omega), below_alloc _ _⟩
    | exact ⟨enc2_good hm (by rw [argBad_mk]; omega) (by omega) (by simp only [encW]; simp; omega), below_alloc _ _⟩

set_option maxRecDepth 20000 in
set_option maxHeartbeats 1000000 in
theorem renc_108t (x : Ins) (w : World) (ho : x.Ok) (hf : opF x.op = 108) (hp : plainB x.op = true) :
    Calls Try.prog 36 #[.agg (insCells x)] w fun e w' => e = .returned (.tuple #[.int .u32 (menc x).1, .int .i64 (menc x).2]) ∧ Below w.heap.size w w' := by
  obtain ⟨op, A, B, C, imm⟩ := x
  obtain ⟨h1, h2, h3, h4, h5, h6⟩ := ho
  simp only at hf hp h1 h2 h3 h4 h5 h6
  have Hm := Lib.hid (menc_true (x := ⟨op, A, B, C, imm⟩) hf (by decide) (by decide) hp)
  have hr := op_le31 (by rw [hf]; decide)
  have HP := Lib.hid hp
  have hF := Lib.hid (show refF op = 3 by simp [refF, hf])
  clear hf hp
  simp only [insCells]
  generalize menc ⟨op, A, B, C, imm⟩ = r at Hm ⊢
  go_enter Try.func36, Try.ntmps36
  go_wp2_with (first
    | (go_at_call 63; refine (rform_any op _ h1).mono ?_; rw [hF.out]; rintro e w1 ⟨rfl, rfl⟩)
    | (go_at_call 64; refine (rplain_any op _ h1).mono ?_; rw [HP.out]; rintro e w2 ⟨rfl, rfl⟩))
  all_goals go_ret2
  all_goals have hm := Hm.out
  all_goals clear Hm hF HP
  all_goals first
    | exact ⟨enc2_bad hm (by rw [argBad_mk]; omega), below_alloc _ _⟩
    | exact ⟨enc2_out hm (by rw [argBad_mk]; omega) (by omega), below_alloc _ _⟩
    | exact ⟨enc2_good hm (by rw [argBad_mk]; omega) (by omega) (by simp only [encW]; simp; omega), below_alloc _ _⟩

set_option maxRecDepth 20000 in
set_option maxHeartbeats 1000000 in
theorem renc_108f (x : Ins) (w : World) (ho : x.Ok) (hf : opF x.op = 108) (hp : plainB x.op = false) :
    Calls Try.prog 36 #[.agg (insCells x)] w fun e w' => e = .returned (.tuple #[.int .u32 (menc x).1, .int .i64 (menc x).2]) ∧ Below w.heap.size w w' := by
  obtain ⟨op, A, B, C, imm⟩ := x
  obtain ⟨h1, h2, h3, h4, h5, h6⟩ := ho
  simp only at hf hp h1 h2 h3 h4 h5 h6
  have Hm := Lib.hid (menc_false (x := ⟨op, A, B, C, imm⟩) hf (by decide) (by decide) hp)
  have hr := op_le31 (by rw [hf]; decide)
  have HP := Lib.hid hp
  have hF := Lib.hid (show refF op = 3 by simp [refF, hf])
  clear hf hp
  simp only [insCells]
  generalize menc ⟨op, A, B, C, imm⟩ = r at Hm ⊢
  go_enter Try.func36, Try.ntmps36
  go_wp2_with (first
    | (go_at_call 63; refine (rform_any op _ h1).mono ?_; rw [hF.out]; rintro e w1 ⟨rfl, rfl⟩)
    | (go_at_call 64; refine (rplain_any op _ h1).mono ?_; rw [HP.out]; rintro e w2 ⟨rfl, rfl⟩))
  all_goals go_ret2
  all_goals have hm := Hm.out
  all_goals clear Hm hF HP
  all_goals first
    | exact ⟨enc2_bad hm (by rw [argBad_mk]; omega), below_alloc _ _⟩
    | exact ⟨enc2_out hm (by rw [argBad_mk]; omega) (by omega), below_alloc _ _⟩
    | exact ⟨enc2_good hm (by rw [argBad_mk]; omega) (by omega) (by simp only [encW]; simp; omega), below_alloc _ _⟩

set_option maxRecDepth 20000 in
set_option maxHeartbeats 1000000 in
theorem renc_109t (x : Ins) (w : World) (ho : x.Ok) (hf : opF x.op = 109) (hp : plainB x.op = true) :
    Calls Try.prog 36 #[.agg (insCells x)] w fun e w' => e = .returned (.tuple #[.int .u32 (menc x).1, .int .i64 (menc x).2]) ∧ Below w.heap.size w w' := by
  obtain ⟨op, A, B, C, imm⟩ := x
  obtain ⟨h1, h2, h3, h4, h5, h6⟩ := ho
  simp only at hf hp h1 h2 h3 h4 h5 h6
  have Hm := Lib.hid (menc_true (x := ⟨op, A, B, C, imm⟩) hf (by decide) (by decide) hp)
  have hr := op_le31 (by rw [hf]; decide)
  have HP := Lib.hid hp
  have hF := Lib.hid (show refF op = 4 by simp [refF, hf])
  clear hf hp
  simp only [insCells]
  generalize menc ⟨op, A, B, C, imm⟩ = r at Hm ⊢
  go_enter Try.func36, Try.ntmps36
  go_wp2_with (first
    | (go_at_call 63; refine (rform_any op _ h1).mono ?_; rw [hF.out]; rintro e w1 ⟨rfl, rfl⟩)
    | (go_at_call 64; refine (rplain_any op _ h1).mono ?_; rw [HP.out]; rintro e w2 ⟨rfl, rfl⟩))
  all_goals go_ret2
  all_goals have hm := Hm.out
  all_goals clear Hm hF HP
  all_goals first
    | exact ⟨enc2_bad hm (by rw [argBad_mk]; omega), below_alloc _ _⟩
    | exact ⟨enc2_out hm (by rw [argBad_mk]; omega) (by omega), below_alloc _ _⟩
    | exact ⟨enc2_good hm (by rw [argBad_mk]; omega) (by omega) (by simp only [encW]; simp; omega), below_alloc _ _⟩

set_option maxRecDepth 20000 in
set_option maxHeartbeats 1000000 in
theorem renc_109f (x : Ins) (w : World) (ho : x.Ok) (hf : opF x.op = 109) (hp : plainB x.op = false) :
    Calls Try.prog 36 #[.agg (insCells x)] w fun e w' => e = .returned (.tuple #[.int .u32 (menc x).1, .int .i64 (menc x).2]) ∧ Below w.heap.size w w' := by
  obtain ⟨op, A, B, C, imm⟩ := x
  obtain ⟨h1, h2, h3, h4, h5, h6⟩ := ho
  simp only at hf hp h1 h2 h3 h4 h5 h6
  have Hm := Lib.hid (menc_false (x := ⟨op, A, B, C, imm⟩) hf (by decide) (by decide) hp)
  have hr := op_le31 (by rw [hf]; decide)
  have HP := Lib.hid hp
  have hF := Lib.hid (show refF op = 4 by simp [refF, hf])
  clear hf hp
  simp only [insCells]
  generalize menc ⟨op, A, B, C, imm⟩ = r at Hm ⊢
  go_enter Try.func36, Try.ntmps36
  go_wp2_with (first
    | (go_at_call 63; refine (rform_any op _ h1).mono ?_; rw [hF.out]; rintro e w1 ⟨rfl, rfl⟩)
    | (go_at_call 64; refine (rplain_any op _ h1).mono ?_; rw [HP.out]; rintro e w2 ⟨rfl, rfl⟩))
  all_goals go_ret2
  all_goals have hm := Hm.out
  all_goals clear Hm hF HP
  all_goals first
    | exact ⟨enc2_bad hm (by rw [argBad_mk]; omega), below_alloc _ _⟩
    | exact ⟨enc2_out hm (by rw [argBad_mk]; omega) (by omega), below_alloc _ _⟩
    | exact ⟨enc2_good hm (by rw [argBad_mk]; omega) (by omega) (by simp only [encW]; simp; omega), below_alloc _ _⟩

set_option maxRecDepth 20000 in
set_option maxHeartbeats 1000000 in
theorem renc_110t (x : Ins) (w : World) (ho : x.Ok) (hf : opF x.op = 110) (hp : plainB x.op = true) :
    Calls Try.prog 36 #[.agg (insCells x)] w fun e w' => e = .returned (.tuple #[.int .u32 (menc x).1, .int .i64 (menc x).2]) ∧ Below w.heap.size w w' := by
  obtain ⟨op, A, B, C, imm⟩ := x
  obtain ⟨h1, h2, h3, h4, h5, h6⟩ := ho
  simp only at hf hp h1 h2 h3 h4 h5 h6
  have Hm := Lib.hid (menc_true (x := ⟨op, A, B, C, imm⟩) hf (by decide) (by decide) hp)
  have hr := op_le31 (by rw [hf]; decide)
  have HP := Lib.hid hp
  have hF := Lib.hid (show refF op = 5 by simp [refF, hf])
  clear hf hp
  simp only [insCells]
  generalize menc ⟨op, A, B, C, imm⟩ = r at Hm ⊢
  go_enter Try.func36, Try.ntmps36
  go_wp2_with (first
    | (go_at_call 63; refine (rform_any op _ h1).mono ?_; rw [hF.out]; rintro e w1 ⟨rfl, rfl⟩)
    | (go_at_call 64; refine (rplain_any op _ h1).mono ?_; rw [HP.out]; rintro e w2 ⟨rfl, rfl⟩))
  all_goals go_ret2
  all_goals have hm := Hm.out
  all_goals clear Hm hF HP
  all_goals first
    | exact ⟨enc2_bad hm (by rw [argBad_mk]; omega), below_alloc _ _⟩
    | exact ⟨enc2_out hm (by rw [argBad_mk]; omega) (by omega), below_alloc _ _⟩
    | exact ⟨enc2_good hm (by rw [argBad_mk]; omega) (by omega) (by simp only [encW]; simp; omega), below_alloc _ _⟩

set_option maxRecDepth 20000 in
set_option maxHeartbeats 1000000 in
theorem renc_110f (x : Ins) (w : World) (ho : x.Ok) (hf : opF x.op = 110) (hp : plainB x.op = false) :
    Calls Try.prog 36 #[.agg (insCells x)] w fun e w' => e = .returned (.tuple #[.int .u32 (menc x).1, .int .i64 (menc x).2]) ∧ Below w.heap.size w w' := by
  obtain ⟨op, A, B, C, imm⟩ := x
  obtain ⟨h1, h2, h3, h4, h5, h6⟩ := ho
  simp only at hf hp h1 h2 h3 h4 h5 h6
  have Hm := Lib.hid (menc_false (x := ⟨op, A, B, C, imm⟩) hf (by decide) (by decide) hp)
  have hr := op_le31 (by rw [hf]; decide)
  have HP := Lib.hid hp
  have hF := Lib.hid (show refF op = 5 by simp [refF, hf])
  clear hf hp
  simp only [insCells]
  generalize menc ⟨op, A, B, C, imm⟩ = r at Hm ⊢
  go_enter Try.func36, Try.ntmps36
  go_wp2_with (first
    | (go_at_call 63; refine (rform_any op _ h1).mono ?_; rw [hF.out]; rintro e w1 ⟨rfl, rfl⟩)
    | (go_at_call 64; refine (rplain_any op _ h1).mono ?_; rw [HP.out]; rintro e w2 ⟨rfl, rfl⟩))
  all_goals go_ret2
  all_goals have hm := Hm.out
  all_goals clear Hm hF HP
  all_goals first
    | exact ⟨enc2_bad hm (by rw [argBad_mk]; omega), below_alloc _ _⟩
    | exact ⟨enc2_out hm (by rw [argBad_mk]; omega) (by omega), below_alloc _ _⟩
    | exact ⟨enc2_good hm (by rw [argBad_mk]; omega) (by omega) (by simp only [encW]; simp; omega), below_alloc _ _⟩

end Go.Proofs.Ytlhcggaeecjbcaa
