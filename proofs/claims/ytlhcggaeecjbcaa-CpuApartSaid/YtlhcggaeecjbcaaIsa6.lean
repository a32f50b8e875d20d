/- The contract of ref10.Enc. Condition: the fields are what their types allow. -/
import Derived.Test.YtlhcggaeecjbcaaIsa3
namespace Go.Proofs.Ytlhcggaeecjbcaa
open Go.RowKit


set_option maxRecDepth 20000 in
theorem renc_0 (x : Ins) (w : World) (ho : x.Ok) (hf : opF x.op = 0) :
    Calls Try.prog 36 #[.agg (insCells x)] w fun e w' => e = .returned (.tuple #[.int .u32 (menc x).1, .int .i64 (menc x).2]) ∧ Below w.heap.size w w' := by
  have hm : menc x = (0, 16) := by unfold menc; rw [if_pos hf]
  obtain ⟨op, A, B, C, imm⟩ := x
  obtain ⟨h1, h2, h3, h4, h5, h6⟩ := ho
  rw [hm]
  simp only at hf h1 h2 h3 h4 h5 h6
  have HF := Lib.hid hf
  clear hf hm
  simp only [insCells]
  go_enter Try.func36, Try.ntmps36
  go_wp2_with (go_at_call 63; refine (rform_any op _ h1).mono ?_; rw [show refF op = 0 by simp [refF, HF.out]]; rintro e w1 ⟨rfl, rfl⟩)
  go_ret2
  exact ⟨rfl, below_alloc _ _⟩

theorem renc_any (x : Ins) (w : World) (ho : x.Ok) :
    Calls Try.prog 36 #[.agg (insCells x)] w fun e w' => e = .returned (.tuple #[.int .u32 (menc x).1, .int .i64 (menc x).2]) ∧ Below w.heap.size w w' := by
  rcases opF_form x.op with h | h | h | h | h | h
  · exact renc_0 x w ho h
  · exact renc_r x w ho h
  · cases hp : plainB x.op with
    | true => exact renc_105t x w ho h hp
    | false => exact renc_105f x w ho h hp
  · cases hp : plainB x.op with
    | true => exact renc_108t x w ho h hp
    | false => exact renc_108f x w ho h hp
  · cases hp : plainB x.op with
    | true => exact renc_109t x w ho h hp
    | false => exact renc_109f x w ho h hp
  · cases hp : plainB x.op with
    | true => exact renc_110t x w ho h hp
    | false => exact renc_110f x w ho h hp
end Go.Proofs.Ytlhcggaeecjbcaa
