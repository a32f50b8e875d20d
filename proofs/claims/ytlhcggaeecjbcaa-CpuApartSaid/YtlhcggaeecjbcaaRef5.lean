/- The walk of ref14's Step. Condition: at most 100,000 frames. -/
import Derived.Test.YtlhcggaeecjbcaaRef4
import Derived.Deep.QuietTactic
import Derived.BigQuiet
import Derived.StillTailTactics
namespace Go.Proofs.Ytlhcggaeecjbcaa
open Go.RowKit
attribute [local go_sem ↓] loadVar_26 loadVar_58 loadVar_61 loadVar_68 storeVar_58 storeVar_61 storeVar_68
attribute [local go_sem] run_load26 run_load58 run_load61 run_load68 run_store58 run_store61 run_store68 aggAt_new aggAt_past aggAt_drew rowAt_new rowAt_past rowAt_drew rowOpen_new rowOpen_past rowOpen_drew aggAt_setRow_same aggAt_setRow_other rowAt_setRow_same rowAt_setRow_other rowOpen_setRow_same rowOpen_setRow_other setRow_made' setRow_drew' aggSet_agg aggAt_setCell_other aggAt_setCell_same rowAt_setCell_other rowAt_setCell_same rowOpen_setCell_other rowOpen_setCell_same spCells_size cpuCells_size cellS_other frozS_other cellS_same frozS_same cpuCells_get cpuCells_pc alloc_drewN setCell_drewN aggAt_drewN rowAt_drewN rowOpen_drewN setRow_drewN cpuCells_set cpuCells_setpc cpuCells_at cpuCells_at16 size_setRow alloc_setRow setRow_setCell17 setRow_two frozS17 cellS17 aggS17 rowS17 openS17
set_option maxRecDepth 20000 in
set_option maxHeartbeats 1000000 in
theorem ref_fault0 (v : Value) (l : List ByteArray) (s : Nat → Pte) (r : Nat → Int) (pc : Int) (w : World) (hv : Strs w v l) (h0 : 0 ≤ pc) (h1 : pc ≤ 4294967295) (HM : Hid (loadOut (mload l s pc 4) = .tuple #[.int .u32 0, .bool false])) :
    Calls Try.prog 34 #[.agg (cpuCells r pc), .agg (spCells s), v] w (StepPost ⟨r, pc, l, 2, pc⟩ w) := by
  have HV := Lib.hid hv
  clear hv
  obtain ⟨n1, n2, n3, n4, n5, n6, n7, n8, n9, n10, n11, n12⟩ := four_ne w.heap.size
  obtain ⟨e1, e2, e3, e4⟩ := own_lt w.heap.size
  go_enter Try.func34, Try.ntmps34
  go_wp2_with (first
    | (go_at_call 28; refine (rload_any _ l s pc 4 _ (((((HV.out.alloc _).alloc _).alloc _).alloc _).alloc _) h0 h1).mono ?_; rw [HM.out]; rintro e w2 ⟨rfl, hb⟩; have HB := Lib.hid (Rs.start rfl rfl hb); clear hb; obtain ⟨q1, q2, q3, q4, q5, q6, q7, q8⟩ := HB.out.st.facts; obtain ⟨t1, t2, t3, t4, t5, t6, t7⟩ := HB.out.facts))
  go_region
  go_wp2_with fail
  exact St.finD HB.out.st (HV.out.mono HB.out.st.below) rfl rfl rfl rfl rfl rfl rfl

set_option maxRecDepth 20000 in
set_option maxHeartbeats 1000000 in
theorem ref_ill (v : Value) (l : List ByteArray) (s : Nat → Pte) (r : Nat → Int) (pc : Int) (w : World) (hv : Strs w v l) (h0 : 0 ≤ pc) (h1 : pc ≤ 4294967295) (n : Nat) (HM : Hid (loadOut (mload l s pc 4) = .tuple #[.int .u32 n, .bool true])) (hn : n ≤ 4294967295) (HD : Hid (decOut (mdec n) = .tuple #[.agg #[.int .u8 0, .int .u8 0, .int .u8 0, .int .u8 0, .int .i32 0], .bool false])) :
    Calls Try.prog 34 #[.agg (cpuCells r pc), .agg (spCells s), v] w (StepPost ⟨r, pc, l, 3, n⟩ w) := by
  have HV := Lib.hid hv
  clear hv
  obtain ⟨n1, n2, n3, n4, n5, n6, n7, n8, n9, n10, n11, n12⟩ := four_ne w.heap.size
  obtain ⟨e1, e2, e3, e4⟩ := own_lt w.heap.size
  go_enter Try.func34, Try.ntmps34
  go_wp2_with (first
    | (go_at_call 28; refine (rload_any _ l s pc 4 _ (((((HV.out.alloc _).alloc _).alloc _).alloc _).alloc _) h0 h1).mono ?_; rw [HM.out]; rintro e w2 ⟨rfl, hb⟩; have HB := Lib.hid (Rs.start rfl rfl hb); clear hb; obtain ⟨q1, q2, q3, q4, q5, q6, q7, q8⟩ := HB.out.st.facts; obtain ⟨t1, t2, t3, t4, t5, t6, t7⟩ := HB.out.facts)
    | (go_at_call 57; refine (rdec_any n _ hn).mono ?_; rw [HD.out]; rintro e w3 ⟨rfl, hb⟩; have HC := Lib.hid (HB.out.step hb); clear hb q1 q2 q3 q4 q5 q6 q7 q8 t1 t2 t3 t4 t5 t6 t7; obtain ⟨q1, q2, q3, q4, q5, q6, q7, q8⟩ := HC.out.st.facts; obtain ⟨t1, t2, t3, t4, t5, t6, t7⟩ := HC.out.facts; obtain ⟨f1, f2, f3, f4, f5, f6, f7, f8, f9, f10, f11, f12, f13, f14, f15, f16, f17, f18, f19⟩ := five_ne _ _ t4))
  rw [alloc_two _ _ _ _ _ _ (by omega) (by omega)]
  exact St.fin (HC.out.step ((Below.refl _ _).alloc (Nat.le_refl _) _)).st (HV.out.mono (HC.out.step ((Below.refl _ _).alloc (Nat.le_refl _) _)).st.below) rfl rfl rfl rfl rfl rfl rfl

set_option maxRecDepth 20000 in
set_option maxHeartbeats 1000000 in
theorem ref_r (v : Value) (l : List ByteArray) (s : Nat → Pte) (r : Nat → Int) (pc : Int) (w : World) (hv : Strs w v l) (h0 : 0 ≤ pc) (h1 : pc ≤ 4294967295) (n : Nat) (HM : Hid (loadOut (mload l s pc 4) = .tuple #[.int .u32 n, .bool true])) (hn : n ≤ 4294967295) (op A B C : Nat) (imm : Int) (HD : Hid (decOut (mdec n) = .tuple #[.agg #[.int .u8 op, .int .u8 A, .int .u8 B, .int .u8 C, .int .i32 imm], .bool true])) (hA : A < 16) (hB : B < 16) (hC : C < 16) (hop1 : 1 ≤ op) (hop : op ≤ 13) (hR : ROk (upd r 0 0)) :
    Calls Try.prog 34 #[.agg (cpuCells r pc), .agg (spCells s), v] w (StepPost ⟨setR (upd r 0 0) A (alu op (upd r 0 0 B) (upd r 0 0 C)), (pc + 4) % 4294967296, l, 0, 0⟩ w) := by
  have iA : (A : Int) < 16 := by omega
  have iB : (B : Int) < 16 := by omega
  have iC : (C : Int) < 16 := by omega
  have HV := Lib.hid hv
  clear hv
  obtain ⟨n1, n2, n3, n4, n5, n6, n7, n8, n9, n10, n11, n12⟩ := four_ne w.heap.size
  obtain ⟨e1, e2, e3, e4⟩ := own_lt w.heap.size
  go_enter Try.func34, Try.ntmps34
  go_wp2_with (first
    | (go_at_call 28; refine (rload_any _ l s pc 4 _ (((((HV.out.alloc _).alloc _).alloc _).alloc _).alloc _) h0 h1).mono ?_; rw [HM.out]; rintro e w2 ⟨rfl, hb⟩; have HB := Lib.hid (Rs.start rfl rfl hb); clear hb; obtain ⟨q1, q2, q3, q4, q5, q6, q7, q8⟩ := HB.out.st.facts; obtain ⟨t1, t2, t3, t4, t5, t6, t7⟩ := HB.out.facts)
    | (go_at_call 57; refine (rdec_any n _ hn).mono ?_; rw [HD.out]; rintro e w3 ⟨rfl, hb⟩; have HC := Lib.hid (HB.out.step hb); clear hb q1 q2 q3 q4 q5 q6 q7 q8 t1 t2 t3 t4 t5 t6 t7; obtain ⟨q1, q2, q3, q4, q5, q6, q7, q8⟩ := HC.out.st.facts; obtain ⟨t1, t2, t3, t4, t5, t6, t7⟩ := HC.out.facts; obtain ⟨f1, f2, f3, f4, f5, f6, f7, f8, f9, f10, f11, f12, f13, f14, f15, f16, f17, f18, f19⟩ := five_ne _ _ t4))
  go_quiet ((go_at_call 58; exact Calls.quiet_of_same (number_mod imm _)))
  go_wp2_with fail
  refine region_tail 12 (by kernel_rfl) (by kernel_rfl) ?_
  simp only [List.take_succ_cons, List.take_zero, List.drop_succ_cons, List.drop_zero]
  repeat still_step
  still_call ((three_any op _ _ _ hop1 hop (hR.lo B) (hR.hi B) (hR.lo C) (hR.hi C)).mono fun _ _ h => ⟨h.1, h.2.symm⟩)
  repeat still_step
  refine wpStill_nil ?_
  go_wp2_with (go_at_call 59; refine (set59_any _ _ _ _ _ hA).mono ?_; rintro e w4 ⟨rfl, hb⟩; have HX := Lib.hid ((Rs.ins (Rs.setC HC.out)).call hb); clear hb q1 q2 q3 q4 q5 q6 q7 q8 t1 t2 t3 t4 t5 t6 t7; obtain ⟨q1, q2, q3, q4, q5, q6, q7, q8⟩ := HX.out.rs.st.facts; obtain ⟨t1, t2, t3, t4, t5, t6, t7⟩ := HX.out.rs.facts)
  exact St.fin HX.out.rs.setC.st (HV.out.mono HX.out.rs.setC.st.below) rfl rfl rfl rfl rfl (by first | (rw [setC_eq]; done) | (rw [setC_eq]; rfl)) rfl

set_option maxRecDepth 20000 in
set_option maxHeartbeats 1000000 in
theorem ref_lui (v : Value) (l : List ByteArray) (s : Nat → Pte) (r : Nat → Int) (pc : Int) (w : World) (hv : Strs w v l) (h0 : 0 ≤ pc) (h1 : pc ≤ 4294967295) (n : Nat) (HM : Hid (loadOut (mload l s pc 4) = .tuple #[.int .u32 n, .bool true])) (hn : n ≤ 4294967295) (op A B C : Nat) (imm : Int) (HD : Hid (decOut (mdec n) = .tuple #[.agg #[.int .u8 op, .int .u8 A, .int .u8 B, .int .u8 C, .int .i32 imm], .bool true])) (hA : A < 16) (hB : B < 16) (hC : C < 16) (hop : op = 19) (_hR : ROk (upd r 0 0)) :
    Calls Try.prog 34 #[.agg (cpuCells r pc), .agg (spCells s), v] w (StepPost ⟨setR (upd r 0 0) A (imm % 4294967296 * 65536 % 4294967296), (pc + 4) % 4294967296, l, 0, 0⟩ w) := by
  subst hop
  have iA : (A : Int) < 16 := by omega
  have iB : (B : Int) < 16 := by omega
  have iC : (C : Int) < 16 := by omega
  have HV := Lib.hid hv
  clear hv
  obtain ⟨n1, n2, n3, n4, n5, n6, n7, n8, n9, n10, n11, n12⟩ := four_ne w.heap.size
  obtain ⟨e1, e2, e3, e4⟩ := own_lt w.heap.size
  go_enter Try.func34, Try.ntmps34
  go_wp2_with (first
    | (go_at_call 28; refine (rload_any _ l s pc 4 _ (((((HV.out.alloc _).alloc _).alloc _).alloc _).alloc _) h0 h1).mono ?_; rw [HM.out]; rintro e w2 ⟨rfl, hb⟩; have HB := Lib.hid (Rs.start rfl rfl hb); clear hb; obtain ⟨q1, q2, q3, q4, q5, q6, q7, q8⟩ := HB.out.st.facts; obtain ⟨t1, t2, t3, t4, t5, t6, t7⟩ := HB.out.facts)
    | (go_at_call 57; refine (rdec_any n _ hn).mono ?_; rw [HD.out]; rintro e w3 ⟨rfl, hb⟩; have HC := Lib.hid (HB.out.step hb); clear hb q1 q2 q3 q4 q5 q6 q7 q8 t1 t2 t3 t4 t5 t6 t7; obtain ⟨q1, q2, q3, q4, q5, q6, q7, q8⟩ := HC.out.st.facts; obtain ⟨t1, t2, t3, t4, t5, t6, t7⟩ := HC.out.facts; obtain ⟨f1, f2, f3, f4, f5, f6, f7, f8, f9, f10, f11, f12, f13, f14, f15, f16, f17, f18, f19⟩ := five_ne _ _ t4))
  go_quiet ((go_at_call 58; exact Calls.quiet_of_same (number_mod imm _)))
  go_wp2_with (go_at_call 59; refine (set59_any _ _ _ _ _ hA).mono ?_; rintro e w4 ⟨rfl, hb⟩; have HX := Lib.hid ((Rs.ins (Rs.setC HC.out)).call hb); clear hb q1 q2 q3 q4 q5 q6 q7 q8 t1 t2 t3 t4 t5 t6 t7; obtain ⟨q1, q2, q3, q4, q5, q6, q7, q8⟩ := HX.out.rs.st.facts; obtain ⟨t1, t2, t3, t4, t5, t6, t7⟩ := HX.out.rs.facts)
  exact St.fin HX.out.rs.setC.st (HV.out.mono HX.out.rs.setC.st.below) rfl rfl rfl rfl rfl (by first | (rw [setC_eq]; done) | (rw [setC_eq]; rfl)) rfl

set_option maxRecDepth 20000 in
set_option maxHeartbeats 1000000 in
theorem ref_i14 (v : Value) (l : List ByteArray) (s : Nat → Pte) (r : Nat → Int) (pc : Int) (w : World) (hv : Strs w v l) (h0 : 0 ≤ pc) (h1 : pc ≤ 4294967295) (n : Nat) (HM : Hid (loadOut (mload l s pc 4) = .tuple #[.int .u32 n, .bool true])) (hn : n ≤ 4294967295) (op A B C : Nat) (imm : Int) (HD : Hid (decOut (mdec n) = .tuple #[.agg #[.int .u8 op, .int .u8 A, .int .u8 B, .int .u8 C, .int .i32 imm], .bool true])) (hA : A < 16) (hB : B < 16) (hC : C < 16) (hop : op = 14) (hR : ROk (upd r 0 0)) :
    Calls Try.prog 34 #[.agg (cpuCells r pc), .agg (spCells s), v] w (StepPost ⟨setR (upd r 0 0) A (alu 1 (upd r 0 0 B) (imm % 4294967296)), (pc + 4) % 4294967296, l, 0, 0⟩ w) := by
  subst hop
  have iA : (A : Int) < 16 := by omega
  have iB : (B : Int) < 16 := by omega
  have iC : (C : Int) < 16 := by omega
  have HV := Lib.hid hv
  clear hv
  obtain ⟨n1, n2, n3, n4, n5, n6, n7, n8, n9, n10, n11, n12⟩ := four_ne w.heap.size
  obtain ⟨e1, e2, e3, e4⟩ := own_lt w.heap.size
  go_enter Try.func34, Try.ntmps34
  go_wp2_with (first
    | (go_at_call 28; refine (rload_any _ l s pc 4 _ (((((HV.out.alloc _).alloc _).alloc _).alloc _).alloc _) h0 h1).mono ?_; rw [HM.out]; rintro e w2 ⟨rfl, hb⟩; have HB := Lib.hid (Rs.start rfl rfl hb); clear hb; obtain ⟨q1, q2, q3, q4, q5, q6, q7, q8⟩ := HB.out.st.facts; obtain ⟨t1, t2, t3, t4, t5, t6, t7⟩ := HB.out.facts)
    | (go_at_call 57; refine (rdec_any n _ hn).mono ?_; rw [HD.out]; rintro e w3 ⟨rfl, hb⟩; have HC := Lib.hid (HB.out.step hb); clear hb q1 q2 q3 q4 q5 q6 q7 q8 t1 t2 t3 t4 t5 t6 t7; obtain ⟨q1, q2, q3, q4, q5, q6, q7, q8⟩ := HC.out.st.facts; obtain ⟨t1, t2, t3, t4, t5, t6, t7⟩ := HC.out.facts; obtain ⟨f1, f2, f3, f4, f5, f6, f7, f8, f9, f10, f11, f12, f13, f14, f15, f16, f17, f18, f19⟩ := five_ne _ _ t4))
  go_quiet ((go_at_call 58; exact Calls.quiet_of_same (number_mod imm _)))
  go_wp2_with fail
  have wk : IntKind.u8.wrap 0 = 0 := by decide
  refine region_tail 12 (by kernel_rfl) (by kernel_rfl) ?_
  simp only [List.take_succ_cons, List.take_zero, List.drop_succ_cons, List.drop_zero]
  repeat still_step
  still_call ((three_any 1 _ _ _ (by decide) (by decide) (hR.lo B) (hR.hi B) (Int.emod_nonneg _ (by decide)) (by omega)).mono fun _ _ h => ⟨h.1, h.2.symm⟩)
  repeat still_step
  refine wpStill_nil ?_
  go_wp2_with (go_at_call 59; refine (set59_any _ _ _ _ _ hA).mono ?_; rintro e w4 ⟨rfl, hb⟩; have HX := Lib.hid (((Rs.ins (Rs.setC HC.out)).step ((Below.refl _ _).alloc (Nat.le_refl _) _)).call hb); clear hb q1 q2 q3 q4 q5 q6 q7 q8 t1 t2 t3 t4 t5 t6 t7; obtain ⟨q1, q2, q3, q4, q5, q6, q7, q8⟩ := HX.out.rs.st.facts; obtain ⟨t1, t2, t3, t4, t5, t6, t7⟩ := HX.out.rs.facts)
  exact St.fin HX.out.rs.setC.st (HV.out.mono HX.out.rs.setC.st.below) rfl rfl rfl rfl rfl (by first | (rw [setC_eq]; done) | (rw [setC_eq]; rfl)) rfl

set_option maxRecDepth 20000 in
set_option maxHeartbeats 1000000 in
theorem ref_i15 (v : Value) (l : List ByteArray) (s : Nat → Pte) (r : Nat → Int) (pc : Int) (w : World) (hv : Strs w v l) (h0 : 0 ≤ pc) (h1 : pc ≤ 4294967295) (n : Nat) (HM : Hid (loadOut (mload l s pc 4) = .tuple #[.int .u32 n, .bool true])) (hn : n ≤ 4294967295) (op A B C : Nat) (imm : Int) (HD : Hid (decOut (mdec n) = .tuple #[.agg #[.int .u8 op, .int .u8 A, .int .u8 B, .int .u8 C, .int .i32 imm], .bool true])) (hA : A < 16) (hB : B < 16) (hC : C < 16) (hop : op = 15) (hR : ROk (upd r 0 0)) :
    Calls Try.prog 34 #[.agg (cpuCells r pc), .agg (spCells s), v] w (StepPost ⟨setR (upd r 0 0) A (alu 6 (upd r 0 0 B) (imm % 4294967296)), (pc + 4) % 4294967296, l, 0, 0⟩ w) := by
  subst hop
  have iA : (A : Int) < 16 := by omega
  have iB : (B : Int) < 16 := by omega
  have iC : (C : Int) < 16 := by omega
  have HV := Lib.hid hv
  clear hv
  obtain ⟨n1, n2, n3, n4, n5, n6, n7, n8, n9, n10, n11, n12⟩ := four_ne w.heap.size
  obtain ⟨e1, e2, e3, e4⟩ := own_lt w.heap.size
  go_enter Try.func34, Try.ntmps34
  go_wp2_with (first
    | (go_at_call 28; refine (rload_any _ l s pc 4 _ (((((HV.out.alloc _).alloc _).alloc _).alloc _).alloc _) h0 h1).mono ?_; rw [HM.out]; rintro e w2 ⟨rfl, hb⟩; have HB := Lib.hid (Rs.start rfl rfl hb); clear hb; obtain ⟨q1, q2, q3, q4, q5, q6, q7, q8⟩ := HB.out.st.facts; obtain ⟨t1, t2, t3, t4, t5, t6, t7⟩ := HB.out.facts)
    | (go_at_call 57; refine (rdec_any n _ hn).mono ?_; rw [HD.out]; rintro e w3 ⟨rfl, hb⟩; have HC := Lib.hid (HB.out.step hb); clear hb q1 q2 q3 q4 q5 q6 q7 q8 t1 t2 t3 t4 t5 t6 t7; obtain ⟨q1, q2, q3, q4, q5, q6, q7, q8⟩ := HC.out.st.facts; obtain ⟨t1, t2, t3, t4, t5, t6, t7⟩ := HC.out.facts; obtain ⟨f1, f2, f3, f4, f5, f6, f7, f8, f9, f10, f11, f12, f13, f14, f15, f16, f17, f18, f19⟩ := five_ne _ _ t4))
  go_quiet ((go_at_call 58; exact Calls.quiet_of_same (number_mod imm _)))
  go_wp2_with fail
  have wk : IntKind.u8.wrap 1 = 1 := by decide
  refine region_tail 12 (by kernel_rfl) (by kernel_rfl) ?_
  simp only [List.take_succ_cons, List.take_zero, List.drop_succ_cons, List.drop_zero]
  repeat still_step
  still_call ((three_any 6 _ _ _ (by decide) (by decide) (hR.lo B) (hR.hi B) (Int.emod_nonneg _ (by decide)) (by omega)).mono fun _ _ h => ⟨h.1, h.2.symm⟩)
  repeat still_step
  refine wpStill_nil ?_
  go_wp2_with (go_at_call 59; refine (set59_any _ _ _ _ _ hA).mono ?_; rintro e w4 ⟨rfl, hb⟩; have HX := Lib.hid (((Rs.ins (Rs.setC HC.out)).step ((Below.refl _ _).alloc (Nat.le_refl _) _)).call hb); clear hb q1 q2 q3 q4 q5 q6 q7 q8 t1 t2 t3 t4 t5 t6 t7; obtain ⟨q1, q2, q3, q4, q5, q6, q7, q8⟩ := HX.out.rs.st.facts; obtain ⟨t1, t2, t3, t4, t5, t6, t7⟩ := HX.out.rs.facts)
  exact St.fin HX.out.rs.setC.st (HV.out.mono HX.out.rs.setC.st.below) rfl rfl rfl rfl rfl (by first | (rw [setC_eq]; done) | (rw [setC_eq]; rfl)) rfl

set_option maxRecDepth 20000 in
set_option maxHeartbeats 1000000 in
theorem ref_i16 (v : Value) (l : List ByteArray) (s : Nat → Pte) (r : Nat → Int) (pc : Int) (w : World) (hv : Strs w v l) (h0 : 0 ≤ pc) (h1 : pc ≤ 4294967295) (n : Nat) (HM : Hid (loadOut (mload l s pc 4) = .tuple #[.int .u32 n, .bool true])) (hn : n ≤ 4294967295) (op A B C : Nat) (imm : Int) (HD : Hid (decOut (mdec n) = .tuple #[.agg #[.int .u8 op, .int .u8 A, .int .u8 B, .int .u8 C, .int .i32 imm], .bool true])) (hA : A < 16) (hB : B < 16) (hC : C < 16) (hop : op = 16) (hR : ROk (upd r 0 0)) :
    Calls Try.prog 34 #[.agg (cpuCells r pc), .agg (spCells s), v] w (StepPost ⟨setR (upd r 0 0) A (alu 7 (upd r 0 0 B) (imm % 4294967296)), (pc + 4) % 4294967296, l, 0, 0⟩ w) := by
  subst hop
  have iA : (A : Int) < 16 := by omega
  have iB : (B : Int) < 16 := by omega
  have iC : (C : Int) < 16 := by omega
  have HV := Lib.hid hv
  clear hv
  obtain ⟨n1, n2, n3, n4, n5, n6, n7, n8, n9, n10, n11, n12⟩ := four_ne w.heap.size
  obtain ⟨e1, e2, e3, e4⟩ := own_lt w.heap.size
  go_enter Try.func34, Try.ntmps34
  go_wp2_with (first
    | (go_at_call 28; refine (rload_any _ l s pc 4 _ (((((HV.out.alloc _).alloc _).alloc _).alloc _).alloc _) h0 h1).mono ?_; rw [HM.out]; rintro e w2 ⟨rfl, hb⟩; have HB := Lib.hid (Rs.start rfl rfl hb); clear hb; obtain ⟨q1, q2, q3, q4, q5, q6, q7, q8⟩ := HB.out.st.facts; obtain ⟨t1, t2, t3, t4, t5, t6, t7⟩ := HB.out.facts)
    | (go_at_call 57; refine (rdec_any n _ hn).mono ?_; rw [HD.out]; rintro e w3 ⟨rfl, hb⟩; have HC := Lib.hid (HB.out.step hb); clear hb q1 q2 q3 q4 q5 q6 q7 q8 t1 t2 t3 t4 t5 t6 t7; obtain ⟨q1, q2, q3, q4, q5, q6, q7, q8⟩ := HC.out.st.facts; obtain ⟨t1, t2, t3, t4, t5, t6, t7⟩ := HC.out.facts; obtain ⟨f1, f2, f3, f4, f5, f6, f7, f8, f9, f10, f11, f12, f13, f14, f15, f16, f17, f18, f19⟩ := five_ne _ _ t4))
  go_quiet ((go_at_call 58; exact Calls.quiet_of_same (number_mod imm _)))
  go_wp2_with fail
  have wk : IntKind.u8.wrap 2 = 2 := by decide
  refine region_tail 12 (by kernel_rfl) (by kernel_rfl) ?_
  simp only [List.take_succ_cons, List.take_zero, List.drop_succ_cons, List.drop_zero]
  repeat still_step
  still_call ((three_any 7 _ _ _ (by decide) (by decide) (hR.lo B) (hR.hi B) (Int.emod_nonneg _ (by decide)) (by omega)).mono fun _ _ h => ⟨h.1, h.2.symm⟩)
  repeat still_step
  refine wpStill_nil ?_
  go_wp2_with (go_at_call 59; refine (set59_any _ _ _ _ _ hA).mono ?_; rintro e w4 ⟨rfl, hb⟩; have HX := Lib.hid (((Rs.ins (Rs.setC HC.out)).step ((Below.refl _ _).alloc (Nat.le_refl _) _)).call hb); clear hb q1 q2 q3 q4 q5 q6 q7 q8 t1 t2 t3 t4 t5 t6 t7; obtain ⟨q1, q2, q3, q4, q5, q6, q7, q8⟩ := HX.out.rs.st.facts; obtain ⟨t1, t2, t3, t4, t5, t6, t7⟩ := HX.out.rs.facts)
  exact St.fin HX.out.rs.setC.st (HV.out.mono HX.out.rs.setC.st.below) rfl rfl rfl rfl rfl (by first | (rw [setC_eq]; done) | (rw [setC_eq]; rfl)) rfl

set_option maxRecDepth 20000 in
set_option maxHeartbeats 1000000 in
theorem ref_i17 (v : Value) (l : List ByteArray) (s : Nat → Pte) (r : Nat → Int) (pc : Int) (w : World) (hv : Strs w v l) (h0 : 0 ≤ pc) (h1 : pc ≤ 4294967295) (n : Nat) (HM : Hid (loadOut (mload l s pc 4) = .tuple #[.int .u32 n, .bool true])) (hn : n ≤ 4294967295) (op A B C : Nat) (imm : Int) (HD : Hid (decOut (mdec n) = .tuple #[.agg #[.int .u8 op, .int .u8 A, .int .u8 B, .int .u8 C, .int .i32 imm], .bool true])) (hA : A < 16) (hB : B < 16) (hC : C < 16) (hop : op = 17) (hR : ROk (upd r 0 0)) :
    Calls Try.prog 34 #[.agg (cpuCells r pc), .agg (spCells s), v] w (StepPost ⟨setR (upd r 0 0) A (alu 8 (upd r 0 0 B) (imm % 4294967296)), (pc + 4) % 4294967296, l, 0, 0⟩ w) := by
  subst hop
  have iA : (A : Int) < 16 := by omega
  have iB : (B : Int) < 16 := by omega
  have iC : (C : Int) < 16 := by omega
  have HV := Lib.hid hv
  clear hv
  obtain ⟨n1, n2, n3, n4, n5, n6, n7, n8, n9, n10, n11, n12⟩ := four_ne w.heap.size
  obtain ⟨e1, e2, e3, e4⟩ := own_lt w.heap.size
  go_enter Try.func34, Try.ntmps34
  go_wp2_with (first
    | (go_at_call 28; refine (rload_any _ l s pc 4 _ (((((HV.out.alloc _).alloc _).alloc _).alloc _).alloc _) h0 h1).mono ?_; rw [HM.out]; rintro e w2 ⟨rfl, hb⟩; have HB := Lib.hid (Rs.start rfl rfl hb); clear hb; obtain ⟨q1, q2, q3, q4, q5, q6, q7, q8⟩ := HB.out.st.facts; obtain ⟨t1, t2, t3, t4, t5, t6, t7⟩ := HB.out.facts)
    | (go_at_call 57; refine (rdec_any n _ hn).mono ?_; rw [HD.out]; rintro e w3 ⟨rfl, hb⟩; have HC := Lib.hid (HB.out.step hb); clear hb q1 q2 q3 q4 q5 q6 q7 q8 t1 t2 t3 t4 t5 t6 t7; obtain ⟨q1, q2, q3, q4, q5, q6, q7, q8⟩ := HC.out.st.facts; obtain ⟨t1, t2, t3, t4, t5, t6, t7⟩ := HC.out.facts; obtain ⟨f1, f2, f3, f4, f5, f6, f7, f8, f9, f10, f11, f12, f13, f14, f15, f16, f17, f18, f19⟩ := five_ne _ _ t4))
  go_quiet ((go_at_call 58; exact Calls.quiet_of_same (number_mod imm _)))
  go_wp2_with fail
  have wk : IntKind.u8.wrap 3 = 3 := by decide
  refine region_tail 12 (by kernel_rfl) (by kernel_rfl) ?_
  simp only [List.take_succ_cons, List.take_zero, List.drop_succ_cons, List.drop_zero]
  repeat still_step
  still_call ((three_any 8 _ _ _ (by decide) (by decide) (hR.lo B) (hR.hi B) (Int.emod_nonneg _ (by decide)) (by omega)).mono fun _ _ h => ⟨h.1, h.2.symm⟩)
  repeat still_step
  refine wpStill_nil ?_
  go_wp2_with (go_at_call 59; refine (set59_any _ _ _ _ _ hA).mono ?_; rintro e w4 ⟨rfl, hb⟩; have HX := Lib.hid (((Rs.ins (Rs.setC HC.out)).step ((Below.refl _ _).alloc (Nat.le_refl _) _)).call hb); clear hb q1 q2 q3 q4 q5 q6 q7 q8 t1 t2 t3 t4 t5 t6 t7; obtain ⟨q1, q2, q3, q4, q5, q6, q7, q8⟩ := HX.out.rs.st.facts; obtain ⟨t1, t2, t3, t4, t5, t6, t7⟩ := HX.out.rs.facts)
  exact St.fin HX.out.rs.setC.st (HV.out.mono HX.out.rs.setC.st.below) rfl rfl rfl rfl rfl (by first | (rw [setC_eq]; done) | (rw [setC_eq]; rfl)) rfl

set_option maxRecDepth 20000 in
set_option maxHeartbeats 1000000 in
theorem ref_i18 (v : Value) (l : List ByteArray) (s : Nat → Pte) (r : Nat → Int) (pc : Int) (w : World) (hv : Strs w v l) (h0 : 0 ≤ pc) (h1 : pc ≤ 4294967295) (n : Nat) (HM : Hid (loadOut (mload l s pc 4) = .tuple #[.int .u32 n, .bool true])) (hn : n ≤ 4294967295) (op A B C : Nat) (imm : Int) (HD : Hid (decOut (mdec n) = .tuple #[.agg #[.int .u8 op, .int .u8 A, .int .u8 B, .int .u8 C, .int .i32 imm], .bool true])) (hA : A < 16) (hB : B < 16) (hC : C < 16) (hop : op = 18) (hR : ROk (upd r 0 0)) :
    Calls Try.prog 34 #[.agg (cpuCells r pc), .agg (spCells s), v] w (StepPost ⟨setR (upd r 0 0) A (alu 12 (upd r 0 0 B) (imm % 4294967296)), (pc + 4) % 4294967296, l, 0, 0⟩ w) := by
  subst hop
  have iA : (A : Int) < 16 := by omega
  have iB : (B : Int) < 16 := by omega
  have iC : (C : Int) < 16 := by omega
  have HV := Lib.hid hv
  clear hv
  obtain ⟨n1, n2, n3, n4, n5, n6, n7, n8, n9, n10, n11, n12⟩ := four_ne w.heap.size
  obtain ⟨e1, e2, e3, e4⟩ := own_lt w.heap.size
  go_enter Try.func34, Try.ntmps34
  go_wp2_with (first
    | (go_at_call 28; refine (rload_any _ l s pc 4 _ (((((HV.out.alloc _).alloc _).alloc _).alloc _).alloc _) h0 h1).mono ?_; rw [HM.out]; rintro e w2 ⟨rfl, hb⟩; have HB := Lib.hid (Rs.start rfl rfl hb); clear hb; obtain ⟨q1, q2, q3, q4, q5, q6, q7, q8⟩ := HB.out.st.facts; obtain ⟨t1, t2, t3, t4, t5, t6, t7⟩ := HB.out.facts)
    | (go_at_call 57; refine (rdec_any n _ hn).mono ?_; rw [HD.out]; rintro e w3 ⟨rfl, hb⟩; have HC := Lib.hid (HB.out.step hb); clear hb q1 q2 q3 q4 q5 q6 q7 q8 t1 t2 t3 t4 t5 t6 t7; obtain ⟨q1, q2, q3, q4, q5, q6, q7, q8⟩ := HC.out.st.facts; obtain ⟨t1, t2, t3, t4, t5, t6, t7⟩ := HC.out.facts; obtain ⟨f1, f2, f3, f4, f5, f6, f7, f8, f9, f10, f11, f12, f13, f14, f15, f16, f17, f18, f19⟩ := five_ne _ _ t4))
  go_quiet ((go_at_call 58; exact Calls.quiet_of_same (number_mod imm _)))
  go_wp2_with fail
  have wk : IntKind.u8.wrap 4 = 4 := by decide
  refine region_tail 12 (by kernel_rfl) (by kernel_rfl) ?_
  simp only [List.take_succ_cons, List.take_zero, List.drop_succ_cons, List.drop_zero]
  repeat still_step
  still_call ((three_any 12 _ _ _ (by decide) (by decide) (hR.lo B) (hR.hi B) (Int.emod_nonneg _ (by decide)) (by omega)).mono fun _ _ h => ⟨h.1, h.2.symm⟩)
  repeat still_step
  refine wpStill_nil ?_
  go_wp2_with (go_at_call 59; refine (set59_any _ _ _ _ _ hA).mono ?_; rintro e w4 ⟨rfl, hb⟩; have HX := Lib.hid (((Rs.ins (Rs.setC HC.out)).step ((Below.refl _ _).alloc (Nat.le_refl _) _)).call hb); clear hb q1 q2 q3 q4 q5 q6 q7 q8 t1 t2 t3 t4 t5 t6 t7; obtain ⟨q1, q2, q3, q4, q5, q6, q7, q8⟩ := HX.out.rs.st.facts; obtain ⟨t1, t2, t3, t4, t5, t6, t7⟩ := HX.out.rs.facts)
  exact St.fin HX.out.rs.setC.st (HV.out.mono HX.out.rs.setC.st.below) rfl rfl rfl rfl rfl (by first | (rw [setC_eq]; done) | (rw [setC_eq]; rfl)) rfl

set_option maxRecDepth 20000 in
set_option maxHeartbeats 1000000 in
theorem ref_sys (v : Value) (l : List ByteArray) (s : Nat → Pte) (r : Nat → Int) (pc : Int) (w : World) (hv : Strs w v l) (h0 : 0 ≤ pc) (h1 : pc ≤ 4294967295) (n : Nat) (HM : Hid (loadOut (mload l s pc 4) = .tuple #[.int .u32 n, .bool true])) (hn : n ≤ 4294967295) (op A B C : Nat) (imm : Int) (HD : Hid (decOut (mdec n) = .tuple #[.agg #[.int .u8 op, .int .u8 A, .int .u8 B, .int .u8 C, .int .i32 imm], .bool true])) (hA : A < 16) (hB : B < 16) (hC : C < 16) (hop : op = 31) (_hR : ROk (upd r 0 0)) :
    Calls Try.prog 34 #[.agg (cpuCells r pc), .agg (spCells s), v] w (StepPost ⟨upd r 0 0, (pc + 4) % 4294967296, l, 1, imm % 4294967296⟩ w) := by
  subst hop
  have iA : (A : Int) < 16 := by omega
  have iB : (B : Int) < 16 := by omega
  have iC : (C : Int) < 16 := by omega
  have HV := Lib.hid hv
  clear hv
  obtain ⟨n1, n2, n3, n4, n5, n6, n7, n8, n9, n10, n11, n12⟩ := four_ne w.heap.size
  obtain ⟨e1, e2, e3, e4⟩ := own_lt w.heap.size
  go_enter Try.func34, Try.ntmps34
  go_wp2_with (first
    | (go_at_call 28; refine (rload_any _ l s pc 4 _ (((((HV.out.alloc _).alloc _).alloc _).alloc _).alloc _) h0 h1).mono ?_; rw [HM.out]; rintro e w2 ⟨rfl, hb⟩; have HB := Lib.hid (Rs.start rfl rfl hb); clear hb; obtain ⟨q1, q2, q3, q4, q5, q6, q7, q8⟩ := HB.out.st.facts; obtain ⟨t1, t2, t3, t4, t5, t6, t7⟩ := HB.out.facts)
    | (go_at_call 57; refine (rdec_any n _ hn).mono ?_; rw [HD.out]; rintro e w3 ⟨rfl, hb⟩; have HC := Lib.hid (HB.out.step hb); clear hb q1 q2 q3 q4 q5 q6 q7 q8 t1 t2 t3 t4 t5 t6 t7; obtain ⟨q1, q2, q3, q4, q5, q6, q7, q8⟩ := HC.out.st.facts; obtain ⟨t1, t2, t3, t4, t5, t6, t7⟩ := HC.out.facts; obtain ⟨f1, f2, f3, f4, f5, f6, f7, f8, f9, f10, f11, f12, f13, f14, f15, f16, f17, f18, f19⟩ := five_ne _ _ t4))
  go_quiet ((go_at_call 58; exact Calls.quiet_of_same (number_mod imm _)))
  go_wp2_with fail
  rw [alloc_two _ _ _ _ _ _ (by rw [size_setRow]; omega) (by rw [size_setRow]; omega)]
  exact St.finD (Rs.ins (Rs.setC HC.out)).rs.st (HV.out.mono (Rs.ins (Rs.setC HC.out)).rs.st.below) rfl rfl rfl rfl rfl rfl rfl

set_option maxRecDepth 20000 in
set_option maxHeartbeats 1000000 in
theorem ref_jal (v : Value) (l : List ByteArray) (s : Nat → Pte) (r : Nat → Int) (pc : Int) (w : World) (hv : Strs w v l) (h0 : 0 ≤ pc) (h1 : pc ≤ 4294967295) (n : Nat) (HM : Hid (loadOut (mload l s pc 4) = .tuple #[.int .u32 n, .bool true])) (hn : n ≤ 4294967295) (op A B C : Nat) (imm : Int) (HD : Hid (decOut (mdec n) = .tuple #[.agg #[.int .u8 op, .int .u8 A, .int .u8 B, .int .u8 C, .int .i32 imm], .bool true])) (hA : A < 16) (hB : B < 16) (hC : C < 16) (hop : op = 29) (_hR : ROk (upd r 0 0)) :
    Calls Try.prog 34 #[.agg (cpuCells r pc), .agg (spCells s), v] w (StepPost ⟨setR (upd r 0 0) A ((pc + 4) % 4294967296), jumpTo pc imm, l, 0, 0⟩ w) := by
  subst hop
  have iA : (A : Int) < 16 := by omega
  have iB : (B : Int) < 16 := by omega
  have iC : (C : Int) < 16 := by omega
  have HV := Lib.hid hv
  clear hv
  obtain ⟨n1, n2, n3, n4, n5, n6, n7, n8, n9, n10, n11, n12⟩ := four_ne w.heap.size
  obtain ⟨e1, e2, e3, e4⟩ := own_lt w.heap.size
  go_enter Try.func34, Try.ntmps34
  go_wp2_with (first
    | (go_at_call 28; refine (rload_any _ l s pc 4 _ (((((HV.out.alloc _).alloc _).alloc _).alloc _).alloc _) h0 h1).mono ?_; rw [HM.out]; rintro e w2 ⟨rfl, hb⟩; have HB := Lib.hid (Rs.start rfl rfl hb); clear hb; obtain ⟨q1, q2, q3, q4, q5, q6, q7, q8⟩ := HB.out.st.facts; obtain ⟨t1, t2, t3, t4, t5, t6, t7⟩ := HB.out.facts)
    | (go_at_call 57; refine (rdec_any n _ hn).mono ?_; rw [HD.out]; rintro e w3 ⟨rfl, hb⟩; have HC := Lib.hid (HB.out.step hb); clear hb q1 q2 q3 q4 q5 q6 q7 q8 t1 t2 t3 t4 t5 t6 t7; obtain ⟨q1, q2, q3, q4, q5, q6, q7, q8⟩ := HC.out.st.facts; obtain ⟨t1, t2, t3, t4, t5, t6, t7⟩ := HC.out.facts; obtain ⟨f1, f2, f3, f4, f5, f6, f7, f8, f9, f10, f11, f12, f13, f14, f15, f16, f17, f18, f19⟩ := five_ne _ _ t4))
  go_quiet ((go_at_call 58; exact Calls.quiet_of_same (number_mod imm _)))
  go_wp2_with (go_at_call 59; refine (set59_any _ _ _ _ _ hA).mono ?_; rintro e w4 ⟨rfl, hb⟩; have HX := Lib.hid ((Rs.ins (Rs.setC HC.out)).call hb); clear hb q1 q2 q3 q4 q5 q6 q7 q8 t1 t2 t3 t4 t5 t6 t7; obtain ⟨q1, q2, q3, q4, q5, q6, q7, q8⟩ := HX.out.rs.st.facts; obtain ⟨t1, t2, t3, t4, t5, t6, t7⟩ := HX.out.rs.facts)
  exact St.fin HX.out.rs.setC.st (HV.out.mono HX.out.rs.setC.st.below) rfl rfl rfl rfl rfl (by first | (rw [setC_eq]; done) | (rw [setC_eq]; rfl)) rfl

set_option maxRecDepth 20000 in
set_option maxHeartbeats 1000000 in
theorem ref_jalr (v : Value) (l : List ByteArray) (s : Nat → Pte) (r : Nat → Int) (pc : Int) (w : World) (hv : Strs w v l) (h0 : 0 ≤ pc) (h1 : pc ≤ 4294967295) (n : Nat) (HM : Hid (loadOut (mload l s pc 4) = .tuple #[.int .u32 n, .bool true])) (hn : n ≤ 4294967295) (op A B C : Nat) (imm : Int) (HD : Hid (decOut (mdec n) = .tuple #[.agg #[.int .u8 op, .int .u8 A, .int .u8 B, .int .u8 C, .int .i32 imm], .bool true])) (hA : A < 16) (hB : B < 16) (hC : C < 16) (hop : op = 30) (_hR : ROk (upd r 0 0)) :
    Calls Try.prog 34 #[.agg (cpuCells r pc), .agg (spCells s), v] w (StepPost ⟨setR (upd r 0 0) A ((pc + 4) % 4294967296), (upd r 0 0 B + imm) % 4294967296, l, 0, 0⟩ w) := by
  subst hop
  have iA : (A : Int) < 16 := by omega
  have iB : (B : Int) < 16 := by omega
  have iC : (C : Int) < 16 := by omega
  have HV := Lib.hid hv
  clear hv
  obtain ⟨n1, n2, n3, n4, n5, n6, n7, n8, n9, n10, n11, n12⟩ := four_ne w.heap.size
  obtain ⟨e1, e2, e3, e4⟩ := own_lt w.heap.size
  go_enter Try.func34, Try.ntmps34
  go_wp2_with (first
    | (go_at_call 28; refine (rload_any _ l s pc 4 _ (((((HV.out.alloc _).alloc _).alloc _).alloc _).alloc _) h0 h1).mono ?_; rw [HM.out]; rintro e w2 ⟨rfl, hb⟩; have HB := Lib.hid (Rs.start rfl rfl hb); clear hb; obtain ⟨q1, q2, q3, q4, q5, q6, q7, q8⟩ := HB.out.st.facts; obtain ⟨t1, t2, t3, t4, t5, t6, t7⟩ := HB.out.facts)
    | (go_at_call 57; refine (rdec_any n _ hn).mono ?_; rw [HD.out]; rintro e w3 ⟨rfl, hb⟩; have HC := Lib.hid (HB.out.step hb); clear hb q1 q2 q3 q4 q5 q6 q7 q8 t1 t2 t3 t4 t5 t6 t7; obtain ⟨q1, q2, q3, q4, q5, q6, q7, q8⟩ := HC.out.st.facts; obtain ⟨t1, t2, t3, t4, t5, t6, t7⟩ := HC.out.facts; obtain ⟨f1, f2, f3, f4, f5, f6, f7, f8, f9, f10, f11, f12, f13, f14, f15, f16, f17, f18, f19⟩ := five_ne _ _ t4))
  go_quiet ((go_at_call 58; exact Calls.quiet_of_same (number_mod imm _)))
  go_wp2_with (go_at_call 59; refine (set59_any _ _ _ _ _ hA).mono ?_; rintro e w4 ⟨rfl, hb⟩; have HX := Lib.hid ((Rs.ins (Rs.setC HC.out)).call hb); clear hb q1 q2 q3 q4 q5 q6 q7 q8 t1 t2 t3 t4 t5 t6 t7; obtain ⟨q1, q2, q3, q4, q5, q6, q7, q8⟩ := HX.out.rs.st.facts; obtain ⟨t1, t2, t3, t4, t5, t6, t7⟩ := HX.out.rs.facts)
  exact St.fin HX.out.rs.setC.st (HV.out.mono HX.out.rs.setC.st.below) rfl rfl rfl rfl rfl (by first | (rw [setC_eq]; done) | (rw [setC_eq]; rfl)) rfl

set_option maxRecDepth 20000 in
set_option maxHeartbeats 1000000 in
theorem ref_brT (v : Value) (l : List ByteArray) (s : Nat → Pte) (r : Nat → Int) (pc : Int) (w : World) (hv : Strs w v l) (h0 : 0 ≤ pc) (h1 : pc ≤ 4294967295) (n : Nat) (HM : Hid (loadOut (mload l s pc 4) = .tuple #[.int .u32 n, .bool true])) (hn : n ≤ 4294967295) (op A B C : Nat) (imm : Int) (HD : Hid (decOut (mdec n) = .tuple #[.agg #[.int .u8 op, .int .u8 A, .int .u8 B, .int .u8 C, .int .i32 imm], .bool true])) (hA : A < 16) (hB : B < 16) (hC : C < 16) (hop1 : 25 ≤ op) (hop : op ≤ 28) (_hR : ROk (upd r 0 0)) (HJ : Hid (∀ w, Calls Try.prog 62 #[.int .u8 op, .int .u32 (upd r 0 0 A), .int .u32 (upd r 0 0 B)] w fun e w' => e = .returned (.bool true) ∧ w' = w)):
    Calls Try.prog 34 #[.agg (cpuCells r pc), .agg (spCells s), v] w (StepPost ⟨upd r 0 0, jumpTo pc imm, l, 0, 0⟩ w) := by
  have iA : (A : Int) < 16 := by omega
  have iB : (B : Int) < 16 := by omega
  have iC : (C : Int) < 16 := by omega
  have HV := Lib.hid hv
  clear hv
  obtain ⟨n1, n2, n3, n4, n5, n6, n7, n8, n9, n10, n11, n12⟩ := four_ne w.heap.size
  obtain ⟨e1, e2, e3, e4⟩ := own_lt w.heap.size
  go_enter Try.func34, Try.ntmps34
  go_wp2_with (first
    | (go_at_call 28; refine (rload_any _ l s pc 4 _ (((((HV.out.alloc _).alloc _).alloc _).alloc _).alloc _) h0 h1).mono ?_; rw [HM.out]; rintro e w2 ⟨rfl, hb⟩; have HB := Lib.hid (Rs.start rfl rfl hb); clear hb; obtain ⟨q1, q2, q3, q4, q5, q6, q7, q8⟩ := HB.out.st.facts; obtain ⟨t1, t2, t3, t4, t5, t6, t7⟩ := HB.out.facts)
    | (go_at_call 57; refine (rdec_any n _ hn).mono ?_; rw [HD.out]; rintro e w3 ⟨rfl, hb⟩; have HC := Lib.hid (HB.out.step hb); clear hb q1 q2 q3 q4 q5 q6 q7 q8 t1 t2 t3 t4 t5 t6 t7; obtain ⟨q1, q2, q3, q4, q5, q6, q7, q8⟩ := HC.out.st.facts; obtain ⟨t1, t2, t3, t4, t5, t6, t7⟩ := HC.out.facts; obtain ⟨f1, f2, f3, f4, f5, f6, f7, f8, f9, f10, f11, f12, f13, f14, f15, f16, f17, f18, f19⟩ := five_ne _ _ t4))
  go_quiet ((go_at_call 58; exact Calls.quiet_of_same (number_mod imm _)))
  go_wp2_with fail
  go_quiet ((go_at_call 62; refine (HJ.out _).mono ?_; rintro e w9 ⟨rfl, rfl⟩; exact ⟨rfl, _, rfl⟩))
  go_wp2_with fail
  rw [alloc_two _ _ _ _ _ _ (by rw [size_setRow]; omega) (by rw [size_setRow]; omega)]
  exact St.finD (Rs.ins (Rs.setC HC.out)).rs.st (HV.out.mono (Rs.ins (Rs.setC HC.out)).rs.st.below) rfl rfl rfl rfl rfl rfl rfl

set_option maxRecDepth 20000 in
set_option maxHeartbeats 1000000 in
theorem ref_brF (v : Value) (l : List ByteArray) (s : Nat → Pte) (r : Nat → Int) (pc : Int) (w : World) (hv : Strs w v l) (h0 : 0 ≤ pc) (h1 : pc ≤ 4294967295) (n : Nat) (HM : Hid (loadOut (mload l s pc 4) = .tuple #[.int .u32 n, .bool true])) (hn : n ≤ 4294967295) (op A B C : Nat) (imm : Int) (HD : Hid (decOut (mdec n) = .tuple #[.agg #[.int .u8 op, .int .u8 A, .int .u8 B, .int .u8 C, .int .i32 imm], .bool true])) (hA : A < 16) (hB : B < 16) (hC : C < 16) (hop1 : 25 ≤ op) (hop : op ≤ 28) (_hR : ROk (upd r 0 0)) (HJ : Hid (∀ w, Calls Try.prog 62 #[.int .u8 op, .int .u32 (upd r 0 0 A), .int .u32 (upd r 0 0 B)] w fun e w' => e = .returned (.bool false) ∧ w' = w)):
    Calls Try.prog 34 #[.agg (cpuCells r pc), .agg (spCells s), v] w (StepPost ⟨upd r 0 0, (pc + 4) % 4294967296, l, 0, 0⟩ w) := by
  have iA : (A : Int) < 16 := by omega
  have iB : (B : Int) < 16 := by omega
  have iC : (C : Int) < 16 := by omega
  have HV := Lib.hid hv
  clear hv
  obtain ⟨n1, n2, n3, n4, n5, n6, n7, n8, n9, n10, n11, n12⟩ := four_ne w.heap.size
  obtain ⟨e1, e2, e3, e4⟩ := own_lt w.heap.size
  go_enter Try.func34, Try.ntmps34
  go_wp2_with (first
    | (go_at_call 28; refine (rload_any _ l s pc 4 _ (((((HV.out.alloc _).alloc _).alloc _).alloc _).alloc _) h0 h1).mono ?_; rw [HM.out]; rintro e w2 ⟨rfl, hb⟩; have HB := Lib.hid (Rs.start rfl rfl hb); clear hb; obtain ⟨q1, q2, q3, q4, q5, q6, q7, q8⟩ := HB.out.st.facts; obtain ⟨t1, t2, t3, t4, t5, t6, t7⟩ := HB.out.facts)
    | (go_at_call 57; refine (rdec_any n _ hn).mono ?_; rw [HD.out]; rintro e w3 ⟨rfl, hb⟩; have HC := Lib.hid (HB.out.step hb); clear hb q1 q2 q3 q4 q5 q6 q7 q8 t1 t2 t3 t4 t5 t6 t7; obtain ⟨q1, q2, q3, q4, q5, q6, q7, q8⟩ := HC.out.st.facts; obtain ⟨t1, t2, t3, t4, t5, t6, t7⟩ := HC.out.facts; obtain ⟨f1, f2, f3, f4, f5, f6, f7, f8, f9, f10, f11, f12, f13, f14, f15, f16, f17, f18, f19⟩ := five_ne _ _ t4))
  go_quiet ((go_at_call 58; exact Calls.quiet_of_same (number_mod imm _)))
  go_wp2_with fail
  go_quiet ((go_at_call 62; refine (HJ.out _).mono ?_; rintro e w9 ⟨rfl, rfl⟩; exact ⟨rfl, _, rfl⟩))
  go_wp2_with fail
  rw [alloc_two _ _ _ _ _ _ (by rw [size_setRow]; omega) (by rw [size_setRow]; omega)]
  exact St.finD (Rs.ins (Rs.setC HC.out)).rs.st (HV.out.mono (Rs.ins (Rs.setC HC.out)).rs.st.below) rfl rfl rfl rfl rfl rfl rfl

set_option maxRecDepth 20000 in
set_option maxHeartbeats 1000000 in
theorem ref_memok (v : Value) (l : List ByteArray) (s : Nat → Pte) (r : Nat → Int) (pc : Int) (w : World) (hv : Strs w v l) (h0 : 0 ≤ pc) (h1 : pc ≤ 4294967295) (n : Nat) (HM : Hid (loadOut (mload l s pc 4) = .tuple #[.int .u32 n, .bool true])) (hn : n ≤ 4294967295) (op A B C : Nat) (imm : Int) (HD : Hid (decOut (mdec n) = .tuple #[.agg #[.int .u8 op, .int .u8 A, .int .u8 B, .int .u8 C, .int .i32 imm], .bool true])) (hA : A < 16) (hB : B < 16) (hC : C < 16) (hop1 : 20 ≤ op) (hop : op ≤ 24) (rr : Nat → Int) (l' : List ByteArray) (_hR : ROk (upd r 0 0)) (HMM : Hid (∀ W, Strs W v l → Calls Try.prog 61 #[.agg (cpuCells (upd r 0 0) ((pc + 4) % 4294967296)), .agg (spCells s), v, .agg #[.int .u8 op, .int .u8 A, .int .u8 B, .int .u8 C, .int .i32 imm]] W (MemPost rr ((pc + 4) % 4294967296) l' true W))):
    Calls Try.prog 34 #[.agg (cpuCells r pc), .agg (spCells s), v] w (StepPost ⟨rr, (pc + 4) % 4294967296, l', 0, 0⟩ w) := by
  have iA : (A : Int) < 16 := by omega
  have iB : (B : Int) < 16 := by omega
  have iC : (C : Int) < 16 := by omega
  have HV := Lib.hid hv
  clear hv
  obtain ⟨n1, n2, n3, n4, n5, n6, n7, n8, n9, n10, n11, n12⟩ := four_ne w.heap.size
  obtain ⟨e1, e2, e3, e4⟩ := own_lt w.heap.size
  go_enter Try.func34, Try.ntmps34
  go_wp2_with (first
    | (go_at_call 28; refine (rload_any _ l s pc 4 _ (((((HV.out.alloc _).alloc _).alloc _).alloc _).alloc _) h0 h1).mono ?_; rw [HM.out]; rintro e w2 ⟨rfl, hb⟩; have HB := Lib.hid (Rs.start rfl rfl hb); clear hb; obtain ⟨q1, q2, q3, q4, q5, q6, q7, q8⟩ := HB.out.st.facts; obtain ⟨t1, t2, t3, t4, t5, t6, t7⟩ := HB.out.facts)
    | (go_at_call 57; refine (rdec_any n _ hn).mono ?_; rw [HD.out]; rintro e w3 ⟨rfl, hb⟩; have HC := Lib.hid (HB.out.step hb); clear hb q1 q2 q3 q4 q5 q6 q7 q8 t1 t2 t3 t4 t5 t6 t7; obtain ⟨q1, q2, q3, q4, q5, q6, q7, q8⟩ := HC.out.st.facts; obtain ⟨t1, t2, t3, t4, t5, t6, t7⟩ := HC.out.facts; obtain ⟨f1, f2, f3, f4, f5, f6, f7, f8, f9, f10, f11, f12, f13, f14, f15, f16, f17, f18, f19⟩ := five_ne _ _ t4))
  go_quiet ((go_at_call 58; exact Calls.quiet_of_same (number_mod imm _)))
  go_wp2_with (go_at_call 61; refine (HMM.out _ ?_).mono ?_; exact HV.out.mono (below_drewN (Rs.ins (Rs.setC HC.out)).rs.st.below _); rintro e w4 ⟨hb, v5, rfl, hs5⟩; have HS5 := Lib.hid hs5; have HX := Lib.hid ((Rs.ins (Rs.setC HC.out)).call hb); clear hb hs5 q1 q2 q3 q4 q5 q6 q7 q8 t1 t2 t3 t4 t5 t6 t7; obtain ⟨q1, q2, q3, q4, q5, q6, q7, q8⟩ := HX.out.rs.st.facts; obtain ⟨t1, t2, t3, t4, t5, t6, t7⟩ := HX.out.rs.facts; obtain ⟨f1, f2, f3, f4, f5, f6, f7, f8, f9, f10, f11, f12, f13, f14, f15, f16, f17, f18, f19⟩ := five_ne _ _ t4)
  rw [alloc_two _ _ _ _ _ _ (by rw [size_setRow]; omega) (by rw [size_setRow]; omega)]
  have HY := HX.out.rs.setC (rd := rr) (pd := (pc + 4) % 4294967296)
  exact St.fin (HY.step ((Below.refl _ _).alloc (Nat.le_refl _) _)).st ((HS5.out.setRow HX.out.rs.st.c (by simp [cpuCells, isIntV])).alloc _) rfl rfl rfl rfl rfl rfl rfl

set_option maxRecDepth 20000 in
set_option maxHeartbeats 1000000 in
theorem ref_memno (v : Value) (l : List ByteArray) (s : Nat → Pte) (r : Nat → Int) (pc : Int) (w : World) (hv : Strs w v l) (h0 : 0 ≤ pc) (h1 : pc ≤ 4294967295) (n : Nat) (HM : Hid (loadOut (mload l s pc 4) = .tuple #[.int .u32 n, .bool true])) (hn : n ≤ 4294967295) (op A B C : Nat) (imm : Int) (HD : Hid (decOut (mdec n) = .tuple #[.agg #[.int .u8 op, .int .u8 A, .int .u8 B, .int .u8 C, .int .i32 imm], .bool true])) (hA : A < 16) (hB : B < 16) (hC : C < 16) (hop1 : 20 ≤ op) (hop : op ≤ 24) (rr : Nat → Int) (l' : List ByteArray) (_hR : ROk (upd r 0 0)) (HMM : Hid (∀ W, Strs W v l → Calls Try.prog 61 #[.agg (cpuCells (upd r 0 0) ((pc + 4) % 4294967296)), .agg (spCells s), v, .agg #[.int .u8 op, .int .u8 A, .int .u8 B, .int .u8 C, .int .i32 imm]] W (MemPost rr ((pc + 4) % 4294967296) l' false W))):
    Calls Try.prog 34 #[.agg (cpuCells r pc), .agg (spCells s), v] w (StepPost ⟨r, pc, l, 2, (upd r 0 0 B + imm) % 4294967296⟩ w) := by
  have iA : (A : Int) < 16 := by omega
  have iB : (B : Int) < 16 := by omega
  have iC : (C : Int) < 16 := by omega
  have HV := Lib.hid hv
  clear hv
  obtain ⟨n1, n2, n3, n4, n5, n6, n7, n8, n9, n10, n11, n12⟩ := four_ne w.heap.size
  obtain ⟨e1, e2, e3, e4⟩ := own_lt w.heap.size
  go_enter Try.func34, Try.ntmps34
  go_wp2_with (first
    | (go_at_call 28; refine (rload_any _ l s pc 4 _ (((((HV.out.alloc _).alloc _).alloc _).alloc _).alloc _) h0 h1).mono ?_; rw [HM.out]; rintro e w2 ⟨rfl, hb⟩; have HB := Lib.hid (Rs.start rfl rfl hb); clear hb; obtain ⟨q1, q2, q3, q4, q5, q6, q7, q8⟩ := HB.out.st.facts; obtain ⟨t1, t2, t3, t4, t5, t6, t7⟩ := HB.out.facts)
    | (go_at_call 57; refine (rdec_any n _ hn).mono ?_; rw [HD.out]; rintro e w3 ⟨rfl, hb⟩; have HC := Lib.hid (HB.out.step hb); clear hb q1 q2 q3 q4 q5 q6 q7 q8 t1 t2 t3 t4 t5 t6 t7; obtain ⟨q1, q2, q3, q4, q5, q6, q7, q8⟩ := HC.out.st.facts; obtain ⟨t1, t2, t3, t4, t5, t6, t7⟩ := HC.out.facts; obtain ⟨f1, f2, f3, f4, f5, f6, f7, f8, f9, f10, f11, f12, f13, f14, f15, f16, f17, f18, f19⟩ := five_ne _ _ t4))
  go_quiet ((go_at_call 58; exact Calls.quiet_of_same (number_mod imm _)))
  go_wp2_with (go_at_call 61; refine (HMM.out _ ?_).mono ?_; exact HV.out.mono (below_drewN (Rs.ins (Rs.setC HC.out)).rs.st.below _); rintro e w4 ⟨hb, v5, rfl, hs5⟩; have HS5 := Lib.hid hs5; have HX := Lib.hid ((Rs.ins (Rs.setC HC.out)).call hb); clear hb hs5 q1 q2 q3 q4 q5 q6 q7 q8 t1 t2 t3 t4 t5 t6 t7; obtain ⟨q1, q2, q3, q4, q5, q6, q7, q8⟩ := HX.out.rs.st.facts; obtain ⟨t1, t2, t3, t4, t5, t6, t7⟩ := HX.out.rs.facts; obtain ⟨f1, f2, f3, f4, f5, f6, f7, f8, f9, f10, f11, f12, f13, f14, f15, f16, f17, f18, f19⟩ := five_ne _ _ t4)
  rw [alloc_two _ _ _ _ _ _ (by omega) (by omega)]
  exact St.fin (HX.out.rs.step ((Below.refl _ _).alloc (Nat.le_refl _) _)).st (HV.out.mono (HX.out.rs.step ((Below.refl _ _).alloc (Nat.le_refl _) _)).st.below) rfl rfl rfl rfl rfl rfl rfl
end Go.Proofs.Ytlhcggaeecjbcaa
