/- The contract of ref10.Enc: an instruction as a word, or why there is none. Condition: the fields are what their types allow. -/
import Derived.Test.YtlhcggaeecjbcaaIsa1
namespace Go.Proofs.Ytlhcggaeecjbcaa
open Go.RowKit

structure Ins where
  op : Nat
  A : Nat
  B : Nat
  C : Nat
  imm : Int
def insCells (x : Ins) : Array Value := #[.int .u8 x.op, .int .u8 x.A, .int .u8 x.B, .int .u8 x.C, .int .i32 x.imm]
structure Ins.Ok (x : Ins) : Prop where
  op : x.op ≤ 255
  A : x.A ≤ 255
  B : x.B ≤ 255
  C : x.C ≤ 255
  low : -2147483648 ≤ x.imm
  high : x.imm ≤ 2147483647

def argBad (f : Nat) (x : Ins) : Prop := 15 < x.A ∨ 15 < x.B ∨ 15 < x.C ∨ (f = 110 ∧ x.A ≠ 0) ∨ ((f = 108 ∨ f = 110) ∧ x.B ≠ 0) ∨ (f ≠ 114 ∧ x.C ≠ 0) ∨ (f = 114 ∧ x.imm ≠ 0)
instance (f : Nat) (x : Ins) : Decidable (argBad f x) := by unfold argBad; infer_instance
def encW (f : Nat) (x : Ins) : Nat := x.op * 67108864 + x.A * 4194304 + x.B * 262144 + x.C * 16384 + (if f = 114 then 0 else (x.imm % 65536).toNat)
def menc (x : Ins) : Nat × Nat :=
  if opF x.op = 0 then (0, 16) else if argBad (opF x.op) x then (0, 1) else if opF x.op ≠ 114 ∧ fitsB x.op x.imm = false then (0, 2) else (encW (opF x.op) x, 0)

theorem opr_range {op : Nat} (h : opF op = 114) : op ≤ 13 := by
  unfold opF at h
  repeat' split at h
  all_goals omega
theorem enc_bad {f : Nat} {x : Ins} {W : Nat × Nat} (hm : menc x = if argBad f x then (0, 1) else W) (h : argBad f x) :
    Ending.returned (.tuple #[.int .u32 0, .int .i64 1]) = .returned (.tuple #[.int .u32 (menc x).1, .int .i64 (menc x).2]) := by rw [hm, if_pos h]; rfl
theorem enc_good {f : Nat} {x : Ins} {n : Nat} {v : Int} (hm : menc x = if argBad f x then (0, 1) else (n, 0)) (h : ¬ argBad f x) (hv : v = n) :
    Ending.returned (.tuple #[.int .u32 v, .int .i64 0]) = .returned (.tuple #[.int .u32 (menc x).1, .int .i64 (menc x).2]) := by rw [hm, if_neg h, hv]; rfl
set_option maxRecDepth 20000 in
set_option maxHeartbeats 1000000 in
theorem renc_r (x : Ins) (w : World) (ho : x.Ok) (hf : opF x.op = 114) :
    Calls Try.prog 36 #[.agg (insCells x)] w fun e w' => e = .returned (.tuple #[.int .u32 (menc x).1, .int .i64 (menc x).2]) ∧ Below w.heap.size w w' := by
  obtain ⟨op, A, B, C, imm⟩ := x
  obtain ⟨h1, h2, h3, h4, h5, h6⟩ := ho
  simp only at hf h1 h2 h3 h4 h5 h6
  have Hm := Lib.hid (show menc ⟨op, A, B, C, imm⟩ = if argBad 114 ⟨op, A, B, C, imm⟩ then (0, 1) else (encW 114 ⟨op, A, B, C, imm⟩, 0) by simp [menc, hf])
  have hF := Lib.hid (show refF op = 1 by simp [refF, hf])
  have hr := opr_range hf
  clear hf
  simp only [insCells]
  go_enter Try.func36, Try.ntmps36
  go_wp2_with (go_at_call 63; refine (rform_any op _ h1).mono ?_; rw [hF.out]; rintro e w1 ⟨rfl, rfl⟩)
  all_goals go_ret2
  all_goals have hb := (Below.refl w.heap.size w).alloc (Nat.le_refl _) (.cells #[.int .u8 op, .int .u8 A, .int .u8 B, .int .u8 C, .int .i32 imm] 68)
  all_goals have hm := Hm.out
  all_goals clear Hm hF
  all_goals (try simp only [bne_iff_ne, ne_eq, bne_eq_false_iff_eq] at *)
  all_goals first
    | exact ⟨enc_bad hm (by simp only [argBad]; omega), hb⟩
    | exact ⟨enc_good hm (by simp only [argBad]; omega) (by simp only [encW]; simp; omega), hb⟩
    | exact ⟨enc_bad hm (.inr (.inr (.inr (.inr (.inr (.inr ⟨rfl, by assumption⟩)))))), hb⟩

theorem menc_true {f : Nat} {x : Ins} (hf : opF x.op = f) (h0 : f ≠ 0) (h114 : f ≠ 114) (hp : plainB x.op = true) :
    menc x = if argBad f x then (0, 1) else if ¬ (0 ≤ x.imm ∧ x.imm ≤ 65535) then (0, 2) else (encW f x, 0) := by
  unfold menc
  rw [hf, if_neg h0]
  by_cases ha : argBad f x
  · rw [if_pos ha, if_pos ha]
  · rw [if_neg ha, if_neg ha]
    by_cases hb : 0 ≤ x.imm ∧ x.imm ≤ 65535
    · rw [if_neg (by simp [fitsB, hp, hb]), if_neg (by simp [hb])]
    · rw [if_pos ⟨h114, by simp [fitsB, hp]; omega⟩, if_pos hb]
theorem menc_false {f : Nat} {x : Ins} (hf : opF x.op = f) (h0 : f ≠ 0) (h114 : f ≠ 114) (hp : plainB x.op = false) :
    menc x = if argBad f x then (0, 1) else if ¬ (-32768 ≤ x.imm ∧ x.imm ≤ 32767) then (0, 2) else (encW f x, 0) := by
  unfold menc
  rw [hf, if_neg h0]
  by_cases ha : argBad f x
  · rw [if_pos ha, if_pos ha]
  · rw [if_neg ha, if_neg ha]
    by_cases hb : -32768 ≤ x.imm ∧ x.imm ≤ 32767
    · rw [if_neg (by simp [fitsB, hp, hb]), if_neg (by simp [hb])]
    · rw [if_pos ⟨h114, by simp [fitsB, hp]; omega⟩, if_pos hb]
theorem op_le31 {op : Nat} (h : opF op ≠ 0) : op ≤ 31 := by
  by_cases h1 : 32 ≤ op
  · exact absurd (opF_0 h1) h
  · omega
theorem argBad_mk (f op A B C : Nat) (imm : Int) : argBad f ⟨op, A, B, C, imm⟩ ↔ (15 < A ∨ 15 < B ∨ 15 < C ∨ (f = 110 ∧ A ≠ 0) ∨ ((f = 108 ∨ f = 110) ∧ B ≠ 0) ∨ (f ≠ 114 ∧ C ≠ 0) ∨ (f = 114 ∧ imm ≠ 0)) := Iff.rfl
theorem enc2_bad {f : Nat} {x : Ins} {r : Nat × Nat} {W : Nat × Nat} {p : Prop} [Decidable p] (hm : r = if argBad f x then (0, 1) else if ¬ p then (0, 2) else W) (h : argBad f x) :
    Ending.returned (.tuple #[.int .u32 0, .int .i64 1]) = .returned (.tuple #[.int .u32 r.1, .int .i64 r.2]) := by rw [hm, if_pos h]; rfl
theorem enc2_out {f : Nat} {x : Ins} {r : Nat × Nat} {W : Nat × Nat} {p : Prop} [Decidable p] (hm : r = if argBad f x then (0, 1) else if ¬ p then (0, 2) else W) (h : ¬ argBad f x) (hp : ¬ p) :
    Ending.returned (.tuple #[.int .u32 0, .int .i64 2]) = .returned (.tuple #[.int .u32 r.1, .int .i64 r.2]) := by rw [hm, if_neg h, if_pos hp]; rfl
theorem enc2_good {f : Nat} {x : Ins} {r : Nat × Nat} {n : Nat} {v : Int} {p : Prop} [Decidable p] (hm : r = if argBad f x then (0, 1) else if ¬ p then (0, 2) else (n, 0)) (h : ¬ argBad f x) (hp : p) (hv : v = n) :
    Ending.returned (.tuple #[.int .u32 v, .int .i64 0]) = .returned (.tuple #[.int .u32 r.1, .int .i64 r.2]) := by rw [hm, if_neg h, if_neg (fun hn => hn hp), hv]; rfl
end Go.Proofs.Ytlhcggaeecjbcaa
