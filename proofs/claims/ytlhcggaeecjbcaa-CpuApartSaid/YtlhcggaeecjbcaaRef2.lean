/- The walk of ref14's memory. Condition: at most 100,000 frames. -/
import Derived.Test.YtlhcggaeecjbcaaRef1
import Derived.Deep.QuietTactic
import Derived.BigQuiet
import Derived.StillTailTactics
namespace Go.Proofs.Ytlhcggaeecjbcaa
open Go.RowKit
attribute [local go_sem ↓] loadVar_26 loadVar_58 loadVar_61 loadVar_68 storeVar_58 storeVar_61 storeVar_68
attribute [local go_sem] run_load26 run_load58 run_load61 run_load68 run_store58 run_store61 run_store68 aggAt_new aggAt_past aggAt_drew rowAt_new rowAt_past rowAt_drew rowOpen_new rowOpen_past rowOpen_drew aggAt_setRow_same aggAt_setRow_other rowAt_setRow_same rowAt_setRow_other rowOpen_setRow_same rowOpen_setRow_other setRow_made' setRow_drew' aggSet_agg aggAt_setCell_other aggAt_setCell_same rowAt_setCell_other rowAt_setCell_same rowOpen_setCell_other rowOpen_setCell_same spCells_size cpuCells_size cellS_other frozS_other cellS_same frozS_same cpuCells_get cpuCells_pc alloc_drewN setCell_drewN aggAt_drewN rowAt_drewN rowOpen_drewN setRow_drewN cpuCells_set cpuCells_setpc cpuCells_at cpuCells_at16 size_setRow setRow_setCell17 setRow_two frozS17 cellS17 aggS17 rowS17 openS17
set_option maxRecDepth 20000 in
set_option maxHeartbeats 1000000 in
theorem mem20 (v : Value) (l : List ByteArray) (s : Nat → Pte) (r : Nat → Int) (pc : Int) (w : World) (hv : Strs w v l) (A B C : Nat) (imm : Int) (hA : A < 16) (hB : B < 16) (z : Int) (b : Bool) (HLD : Hid (∀ (a : Int) (W : World), a = (r B + imm) % 4294967296 → Strs W v l → Calls Try.prog 28 #[v, .agg (spCells s), .int .u32 a, .int .i64 4] W fun e w' => e = .returned (.tuple #[.int .u32 z, .bool b]) ∧ Below W.heap.size W w')) :
    Calls Try.prog 61 #[.agg (cpuCells r pc), .agg (spCells s), v, .agg #[.int .u8 20, .int .u8 A, .int .u8 B, .int .u8 C, .int .i32 imm]] w (MemPost (setC r A z) pc l b w) := by
  have HV := Lib.hid hv
  clear hv
  have iA : (A : Int) < 16 := by omega
  have iB : (B : Int) < 16 := by omega
  obtain ⟨n1, n2, n3, n4, n5, n6, n7, n8, n9, n10, n11, n12⟩ := four_ne w.heap.size
  go_enter Try.func61, Try.ntmps61
  go_wp2_with fail
  go_quiet ((go_at_call 58; exact Calls.quiet_of_same (number_mod imm _)))
  go_wp2_with (first
    | (go_at_call 28; refine (HLD.out _ _ ?_ ?_).mono ?_; omega; exact HV.out.mono (below_drewN (below_allocs _ _ _ _ _) _); rintro e w2 ⟨rfl, hb⟩; have HA := Lib.hid (Mt.start rfl hb); clear hb; obtain ⟨q1, q2, q3, q4, q5, q6⟩ := HA.out.facts; have xo := q5 0; have xa := q5 1; clear q5)
    | (go_at_call 59; refine (set59_any _ _ _ _ _ hA).mono ?_; rintro e w3 ⟨rfl, hb⟩; have HB := Lib.hid (HA.out.step hb); clear hb q1 q2 q3 q4 q6 xo xa; obtain ⟨q1, q2, q3, q4, q5, q6⟩ := HB.out.facts; clear q5))
  exact Mt.fin HB.out (HV.out.mono HB.out.below) rfl rfl rfl rfl rfl
set_option maxRecDepth 20000 in
set_option maxHeartbeats 1000000 in
theorem mem22 (v : Value) (l : List ByteArray) (s : Nat → Pte) (r : Nat → Int) (pc : Int) (w : World) (hv : Strs w v l) (A B C : Nat) (imm : Int) (hA : A < 16) (hB : B < 16) (z : Int) (b : Bool) (HLD : Hid (∀ (a : Int) (W : World), a = (r B + imm) % 4294967296 → Strs W v l → Calls Try.prog 28 #[v, .agg (spCells s), .int .u32 a, .int .i64 1] W fun e w' => e = .returned (.tuple #[.int .u32 z, .bool b]) ∧ Below W.heap.size W w')) :
    Calls Try.prog 61 #[.agg (cpuCells r pc), .agg (spCells s), v, .agg #[.int .u8 22, .int .u8 A, .int .u8 B, .int .u8 C, .int .i32 imm]] w (MemPost (setC r A z) pc l b w) := by
  have HV := Lib.hid hv
  clear hv
  have iA : (A : Int) < 16 := by omega
  have iB : (B : Int) < 16 := by omega
  obtain ⟨n1, n2, n3, n4, n5, n6, n7, n8, n9, n10, n11, n12⟩ := four_ne w.heap.size
  go_enter Try.func61, Try.ntmps61
  go_wp2_with fail
  go_quiet ((go_at_call 58; exact Calls.quiet_of_same (number_mod imm _)))
  go_wp2_with (first
    | (go_at_call 28; refine (HLD.out _ _ ?_ ?_).mono ?_; omega; exact HV.out.mono (below_drewN (below_allocs _ _ _ _ _) _); rintro e w2 ⟨rfl, hb⟩; have HA := Lib.hid (Mt.start rfl hb); clear hb; obtain ⟨q1, q2, q3, q4, q5, q6⟩ := HA.out.facts; have xo := q5 0; have xa := q5 1; clear q5)
    | (go_at_call 59; refine (set59_any _ _ _ _ _ hA).mono ?_; rintro e w3 ⟨rfl, hb⟩; have HB := Lib.hid (HA.out.step hb); clear hb q1 q2 q3 q4 q6 xo xa; obtain ⟨q1, q2, q3, q4, q5, q6⟩ := HB.out.facts; clear q5))
  exact Mt.fin HB.out (HV.out.mono HB.out.below) rfl rfl rfl rfl rfl
set_option maxRecDepth 20000 in
set_option maxHeartbeats 1000000 in
theorem mem21lo (v : Value) (l : List ByteArray) (s : Nat → Pte) (r : Nat → Int) (pc : Int) (w : World) (hv : Strs w v l) (A B C : Nat) (imm : Int) (hA : A < 16) (hB : B < 16) (z : Int) (b : Bool) (HLD : Hid (∀ (a : Int) (W : World), a = (r B + imm) % 4294967296 → Strs W v l → Calls Try.prog 28 #[v, .agg (spCells s), .int .u32 a, .int .i64 1] W fun e w' => e = .returned (.tuple #[.int .u32 z, .bool b]) ∧ Below W.heap.size W w')) (z0 : 0 ≤ z) (z1 : z ≤ 127) :
    Calls Try.prog 61 #[.agg (cpuCells r pc), .agg (spCells s), v, .agg #[.int .u8 21, .int .u8 A, .int .u8 B, .int .u8 C, .int .i32 imm]] w (MemPost (setC r A z) pc l b w) := by
  have HV := Lib.hid hv
  clear hv
  have iA : (A : Int) < 16 := by omega
  have iB : (B : Int) < 16 := by omega
  obtain ⟨n1, n2, n3, n4, n5, n6, n7, n8, n9, n10, n11, n12⟩ := four_ne w.heap.size
  go_enter Try.func61, Try.ntmps61
  go_wp2_with fail
  go_quiet ((go_at_call 58; exact Calls.quiet_of_same (number_mod imm _)))
  go_wp2_with (first
    | (go_at_call 28; refine (HLD.out _ _ ?_ ?_).mono ?_; omega; exact HV.out.mono (below_drewN (below_allocs _ _ _ _ _) _); rintro e w2 ⟨rfl, hb⟩; have HA := Lib.hid (Mt.start rfl hb); clear hb; obtain ⟨q1, q2, q3, q4, q5, q6⟩ := HA.out.facts; have xo := q5 0; have xa := q5 1; clear q5)
    | (go_at_call 59; refine (set59_any _ _ _ _ _ hA).mono ?_; rintro e w3 ⟨rfl, hb⟩; have HB := Lib.hid (HA.out.step hb); clear hb q1 q2 q3 q4 q6 xo xa; obtain ⟨q1, q2, q3, q4, q5, q6⟩ := HB.out.facts; clear q5))
  exact Mt.fin HB.out (HV.out.mono HB.out.below) rfl rfl rfl rfl rfl
set_option maxRecDepth 20000 in
set_option maxHeartbeats 1000000 in
theorem mem21hi (v : Value) (l : List ByteArray) (s : Nat → Pte) (r : Nat → Int) (pc : Int) (w : World) (hv : Strs w v l) (A B C : Nat) (imm : Int) (hA : A < 16) (hB : B < 16) (z : Int) (b : Bool) (HLD : Hid (∀ (a : Int) (W : World), a = (r B + imm) % 4294967296 → Strs W v l → Calls Try.prog 28 #[v, .agg (spCells s), .int .u32 a, .int .i64 1] W fun e w' => e = .returned (.tuple #[.int .u32 z, .bool b]) ∧ Below W.heap.size W w')) (z0 : 128 ≤ z) (z1 : z ≤ 255) :
    Calls Try.prog 61 #[.agg (cpuCells r pc), .agg (spCells s), v, .agg #[.int .u8 21, .int .u8 A, .int .u8 B, .int .u8 C, .int .i32 imm]] w (MemPost (setC r A (z + 4294967040)) pc l b w) := by
  have HV := Lib.hid hv
  clear hv
  have iA : (A : Int) < 16 := by omega
  have iB : (B : Int) < 16 := by omega
  obtain ⟨n1, n2, n3, n4, n5, n6, n7, n8, n9, n10, n11, n12⟩ := four_ne w.heap.size
  go_enter Try.func61, Try.ntmps61
  go_wp2_with fail
  go_quiet ((go_at_call 58; exact Calls.quiet_of_same (number_mod imm _)))
  go_wp2_with (first
    | (go_at_call 28; refine (HLD.out _ _ ?_ ?_).mono ?_; omega; exact HV.out.mono (below_drewN (below_allocs _ _ _ _ _) _); rintro e w2 ⟨rfl, hb⟩; have HA := Lib.hid (Mt.start rfl hb); clear hb; obtain ⟨q1, q2, q3, q4, q5, q6⟩ := HA.out.facts; have xo := q5 0; have xa := q5 1; clear q5)
    | (go_at_call 59; refine (set59_any _ _ _ _ _ hA).mono ?_; rintro e w3 ⟨rfl, hb⟩; have HB := Lib.hid (HA.out.step hb); clear hb q1 q2 q3 q4 q6 xo xa; obtain ⟨q1, q2, q3, q4, q5, q6⟩ := HB.out.facts; clear q5))
  exact Mt.fin HB.out (HV.out.mono HB.out.below) rfl rfl rfl rfl (by rw [show (z + 4294967295 - 255) % 4294967296 = z + 4294967040 from by omega])
set_option maxRecDepth 20000 in
set_option maxHeartbeats 1000000 in
theorem mem23 (v : Value) (l : List ByteArray) (s : Nat → Pte) (r : Nat → Int) (pc : Int) (w : World) (hv : Strs w v l) (A B C : Nat) (imm : Int) (hA : A < 16) (hB : B < 16) (ok : Bool) (l' : List ByteArray) (HST : Hid (∀ (a b : Int) (W : World), a = (r B + imm) % 4294967296 → b = r A → Strs W v l → Calls Try.prog 30 #[v, .agg (spCells s), .int .u32 a, .int .i64 4, .int .u32 b] W fun e w' => Below W.heap.size W w' ∧ ∃ v, e = .returned (.tuple #[v, .bool ok]) ∧ Strs w' v l')) :
    Calls Try.prog 61 #[.agg (cpuCells r pc), .agg (spCells s), v, .agg #[.int .u8 23, .int .u8 A, .int .u8 B, .int .u8 C, .int .i32 imm]] w (MemPost r pc l' ok w) := by
  have HV := Lib.hid hv
  clear hv
  have iA : (A : Int) < 16 := by omega
  have iB : (B : Int) < 16 := by omega
  obtain ⟨n1, n2, n3, n4, n5, n6, n7, n8, n9, n10, n11, n12⟩ := four_ne w.heap.size
  go_enter Try.func61, Try.ntmps61
  go_wp2_with fail
  go_quiet ((go_at_call 58; exact Calls.quiet_of_same (number_mod imm _)))
  go_wp2_with fail
  go_region_with (first
    | (go_at_call 30; refine (HST.out _ _ _ ?_ ?_ ?_).mono ?_; omega; rfl; exact HV.out.mono (below_drewN (below_allocs _ _ _ _ _) _); rintro e w2 ⟨hb, v5, rfl, hs5⟩; have HS5 := Lib.hid hs5; have HA := Lib.hid (Mt.start rfl hb); clear hb hs5; obtain ⟨q1, q2, q3, q4, q5, q6⟩ := HA.out.facts; clear q5))
  all_goals go_wp2_with fail
  all_goals exact Mt.fin HA.out HS5.out rfl rfl rfl rfl rfl
end Go.Proofs.Ytlhcggaeecjbcaa
