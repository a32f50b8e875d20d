/- The walk of cpu.Step. Condition: at most 100,000 frames. -/
import Derived.Test.YtlhcggaeecjbcaaStep3
import Derived.Deep.QuietTactic
import Derived.BigQuiet
import Derived.StillTailTactics
namespace Go.Proofs.Ytlhcggaeecjbcaa
open Go.RowKit
attribute [local go_sem ↓] loadVar_26 loadVar_58 loadVar_61 loadVar_68 storeVar_58 storeVar_61 storeVar_68
attribute [local go_sem] run_load26 run_load58 run_load61 run_load68 run_store58 run_store61 run_store68 aggAt_new aggAt_past aggAt_drew rowAt_new rowAt_past rowAt_drew rowOpen_new rowOpen_past rowOpen_drew aggAt_setRow_same aggAt_setRow_other rowAt_setRow_same rowAt_setRow_other rowOpen_setRow_same rowOpen_setRow_other setRow_made' setRow_drew' aggSet_agg aggAt_setCell_other aggAt_setCell_same rowAt_setCell_other rowAt_setCell_same rowOpen_setCell_other rowOpen_setCell_same spCells_size cpuCells_size cellS_other frozS_other cellS_same frozS_same cpuCells_get cpuCells_pc alloc_drewN setCell_drewN aggAt_drewN rowAt_drewN rowOpen_drewN setRow_drewN cpuCells_set cpuCells_setpc cpuCells_at cpuCells_at16 size_setRow setRow_setCell17 setRow_two frozS17 cellS17 aggS17 rowS17 openS17
set_option maxRecDepth 20000 in
set_option maxHeartbeats 1000000 in
theorem step_fault0 (v : Value) (l : List ByteArray) (s : Nat → Pte) (r : Nat → Int) (pc : Int) (w : World) (hv : Strs w v l) (HL : Hid (l.length ≤ 100000)) (h0 : 0 ≤ pc) (h1 : pc ≤ 4294967295) (HM : Hid (loadOut (mload l s pc 4) = .tuple #[.int .u32 0, .bool false])) :
    Calls Try.prog 33 #[.agg (cpuCells r pc), .agg (spCells s), v] w (StepPost ⟨r, pc, l, 2, pc⟩ w) := by
  have HV := Lib.hid hv
  clear hv
  obtain ⟨n1, n2, n3, n4, n5, n6, n7, n8, n9, n10, n11, n12⟩ := four_ne w.heap.size
  go_enter Try.func33, Try.ntmps33
  go_wp2_with (first
    | ((with_reducible refine wpList_append_nil_strs 0 v l ?_ ?_ ?_ ?_ ?_ ?_ ?_); rfl; rfl; rfl; exact Nat.zero_le _; exact (((HV.out.alloc _).alloc _).alloc _).alloc _; exact HL.out; intro va w1 ho hg; have HO := Lib.hid ho.strs; have hb := below_none hg; have HA := Lib.hid (St.start rfl rfl hb); clear ho hg hb; obtain ⟨q1, q2, q3, q4, q5, q6, q7, q8⟩ := HA.out.facts)
    | (go_at_call 25; refine (load_any _ l s pc 4 _ (HV.out.mono HA.out.below) h0 h1).mono ?_; rw [HM.out]; rintro e w2 ⟨rfl, hb⟩; have HO2 := Lib.hid (HO.out.mono hb); have HB := Lib.hid (HA.out.step hb); clear hb q1 q2 q3 q4 q5 q6 q7 q8; obtain ⟨q1, q2, q3, q4, q5, q6, q7, q8⟩ := HB.out.facts))
  go_region
  go_wp2_with fail
  exact St.finD HB.out HO2.out rfl rfl rfl rfl rfl rfl rfl

set_option maxRecDepth 20000 in
set_option maxHeartbeats 1000000 in
theorem step_ill (v : Value) (l : List ByteArray) (s : Nat → Pte) (r : Nat → Int) (pc : Int) (w : World) (hv : Strs w v l) (HL : Hid (l.length ≤ 100000)) (h0 : 0 ≤ pc) (h1 : pc ≤ 4294967295) (n : Nat) (HM : Hid (loadOut (mload l s pc 4) = .tuple #[.int .u32 n, .bool true])) (hn : n ≤ 4294967295) (HD : Hid (decOut (mdec n) = .tuple #[.agg #[.int .u8 0, .int .u8 0, .int .u8 0, .int .u8 0, .int .i32 0], .bool false])) :
    Calls Try.prog 33 #[.agg (cpuCells r pc), .agg (spCells s), v] w (StepPost ⟨r, pc, l, 3, n⟩ w) := by
  have HV := Lib.hid hv
  clear hv
  obtain ⟨n1, n2, n3, n4, n5, n6, n7, n8, n9, n10, n11, n12⟩ := four_ne w.heap.size
  go_enter Try.func33, Try.ntmps33
  go_wp2_with (first
    | ((with_reducible refine wpList_append_nil_strs 0 v l ?_ ?_ ?_ ?_ ?_ ?_ ?_); rfl; rfl; rfl; exact Nat.zero_le _; exact (((HV.out.alloc _).alloc _).alloc _).alloc _; exact HL.out; intro va w1 ho hg; have HO := Lib.hid ho.strs; have hb := below_none hg; have HA := Lib.hid (St.start rfl rfl hb); clear ho hg hb; obtain ⟨q1, q2, q3, q4, q5, q6, q7, q8⟩ := HA.out.facts)
    | (go_at_call 25; refine (load_any _ l s pc 4 _ (HV.out.mono HA.out.below) h0 h1).mono ?_; rw [HM.out]; rintro e w2 ⟨rfl, hb⟩; have HO2 := Lib.hid (HO.out.mono hb); have HB := Lib.hid (HA.out.step hb); clear hb q1 q2 q3 q4 q5 q6 q7 q8; obtain ⟨q1, q2, q3, q4, q5, q6, q7, q8⟩ := HB.out.facts)
    | (go_at_call 52; refine (idec_any n _ hn).mono ?_; rw [HD.out]; rintro e w3 ⟨rfl, hb⟩; have HO3 := Lib.hid (HO2.out.mono hb); have HC := Lib.hid (HB.out.step hb); clear hb q1 q2 q3 q4 q5 q6 q7 q8; obtain ⟨q1, q2, q3, q4, q5, q6, q7, q8⟩ := HC.out.facts; obtain ⟨u1, u2, u3, u4, u5, u6, u7, u8, u9, u10, u11, u12⟩ := four_lt q8; obtain ⟨f1, f2, f3, f4, f5, f6, f7, f8, f9, f10, f11⟩ := far_ne q8))
  exact St.fin (HC.out.step ((Below.refl _ _).alloc (Nat.le_refl _) _)) (HO3.out.alloc _) rfl rfl rfl rfl rfl rfl rfl

set_option maxRecDepth 20000 in
set_option maxHeartbeats 1000000 in
theorem step_r (v : Value) (l : List ByteArray) (s : Nat → Pte) (r : Nat → Int) (pc : Int) (w : World) (hv : Strs w v l) (HL : Hid (l.length ≤ 100000)) (h0 : 0 ≤ pc) (h1 : pc ≤ 4294967295) (n : Nat) (HM : Hid (loadOut (mload l s pc 4) = .tuple #[.int .u32 n, .bool true])) (hn : n ≤ 4294967295) (op A B C : Nat) (imm : Int) (HD : Hid (decOut (mdec n) = .tuple #[.agg #[.int .u8 op, .int .u8 A, .int .u8 B, .int .u8 C, .int .i32 imm], .bool true])) (hA : A < 16) (hB : B < 16) (hC : C < 16) (hop1 : 1 ≤ op) (hop : op ≤ 13) (hR : ROk (upd r 0 0)) :
    Calls Try.prog 33 #[.agg (cpuCells r pc), .agg (spCells s), v] w (StepPost ⟨setR (upd r 0 0) A (alu op (upd r 0 0 B) (upd r 0 0 C)), (pc + 4) % 4294967296, l, 0, 0⟩ w) := by
  have iA : (A : Int) < 16 := by omega
  have iB : (B : Int) < 16 := by omega
  have iC : (C : Int) < 16 := by omega
  have HV := Lib.hid hv
  clear hv
  obtain ⟨n1, n2, n3, n4, n5, n6, n7, n8, n9, n10, n11, n12⟩ := four_ne w.heap.size
  go_enter Try.func33, Try.ntmps33
  go_wp2_with (first
    | ((with_reducible refine wpList_append_nil_strs 0 v l ?_ ?_ ?_ ?_ ?_ ?_ ?_); rfl; rfl; rfl; exact Nat.zero_le _; exact (((HV.out.alloc _).alloc _).alloc _).alloc _; exact HL.out; intro va w1 ho hg; have HO := Lib.hid ho.strs; have hb := below_none hg; have HA := Lib.hid (St.start rfl rfl hb); clear ho hg hb; obtain ⟨q1, q2, q3, q4, q5, q6, q7, q8⟩ := HA.out.facts)
    | (go_at_call 25; refine (load_any _ l s pc 4 _ (HV.out.mono HA.out.below) h0 h1).mono ?_; rw [HM.out]; rintro e w2 ⟨rfl, hb⟩; have HO2 := Lib.hid (HO.out.mono hb); have HB := Lib.hid (HA.out.step hb); clear hb q1 q2 q3 q4 q5 q6 q7 q8; obtain ⟨q1, q2, q3, q4, q5, q6, q7, q8⟩ := HB.out.facts)
    | (go_at_call 52; refine (idec_any n _ hn).mono ?_; rw [HD.out]; rintro e w3 ⟨rfl, hb⟩; have HO3 := Lib.hid (HO2.out.mono hb); have HC := Lib.hid (HB.out.step hb); clear hb q1 q2 q3 q4 q5 q6 q7 q8; obtain ⟨q1, q2, q3, q4, q5, q6, q7, q8⟩ := HC.out.facts; obtain ⟨u1, u2, u3, u4, u5, u6, u7, u8, u9, u10, u11, u12⟩ := four_lt q8; obtain ⟨f1, f2, f3, f4, f5, f6, f7, f8, f9, f10, f11⟩ := far_ne q8))
  go_quiet (fail)
  go_wp2_with fail
  have hce := clo_enter op hop1 hop
  refine region_tail 13 (by kernel_rfl) (by kernel_rfl) ?_
  simp only [List.take_succ_cons, List.take_zero, List.drop_succ_cons, List.drop_zero]
  repeat still_step
  still_call ((reckon_any op _ hop1 hop).mono fun _ _ h => ⟨h.1, h.2.symm⟩)
  repeat still_step
  still_call ((clo_any op _ _ _ hop1 hop (hR.lo B) (hR.hi B) (hR.lo C) (hR.hi C)).mono fun _ _ h => ⟨h.1, h.2.symm⟩)
  repeat still_step
  refine wpStill_nil ?_
  clear hce
  go_wp2_with fail
  go_region
  go_wp2_with fail
  exact St.finD (HC.out.step (below_allocs _ _ _ _ _)) (HO3.out.mono (below_allocs _ _ _ _ _)) rfl rfl rfl rfl rfl rfl rfl

set_option maxRecDepth 20000 in
set_option maxHeartbeats 1000000 in
theorem step_i (v : Value) (l : List ByteArray) (s : Nat → Pte) (r : Nat → Int) (pc : Int) (w : World) (hv : Strs w v l) (HL : Hid (l.length ≤ 100000)) (h0 : 0 ≤ pc) (h1 : pc ≤ 4294967295) (n : Nat) (HM : Hid (loadOut (mload l s pc 4) = .tuple #[.int .u32 n, .bool true])) (hn : n ≤ 4294967295) (op A B C : Nat) (imm : Int) (HD : Hid (decOut (mdec n) = .tuple #[.agg #[.int .u8 op, .int .u8 A, .int .u8 B, .int .u8 C, .int .i32 imm], .bool true])) (hA : A < 16) (hB : B < 16) (hC : C < 16) (hop1 : 14 ≤ op) (hop : op ≤ 18) (hR : ROk (upd r 0 0)) :
    Calls Try.prog 33 #[.agg (cpuCells r pc), .agg (spCells s), v] w (StepPost ⟨setR (upd r 0 0) A (alu (likeB op) (upd r 0 0 B) (imm % 4294967296)), (pc + 4) % 4294967296, l, 0, 0⟩ w) := by
  have iA : (A : Int) < 16 := by omega
  have iB : (B : Int) < 16 := by omega
  have iC : (C : Int) < 16 := by omega
  have HV := Lib.hid hv
  clear hv
  obtain ⟨n1, n2, n3, n4, n5, n6, n7, n8, n9, n10, n11, n12⟩ := four_ne w.heap.size
  go_enter Try.func33, Try.ntmps33
  go_wp2_with (first
    | ((with_reducible refine wpList_append_nil_strs 0 v l ?_ ?_ ?_ ?_ ?_ ?_ ?_); rfl; rfl; rfl; exact Nat.zero_le _; exact (((HV.out.alloc _).alloc _).alloc _).alloc _; exact HL.out; intro va w1 ho hg; have HO := Lib.hid ho.strs; have hb := below_none hg; have HA := Lib.hid (St.start rfl rfl hb); clear ho hg hb; obtain ⟨q1, q2, q3, q4, q5, q6, q7, q8⟩ := HA.out.facts)
    | (go_at_call 25; refine (load_any _ l s pc 4 _ (HV.out.mono HA.out.below) h0 h1).mono ?_; rw [HM.out]; rintro e w2 ⟨rfl, hb⟩; have HO2 := Lib.hid (HO.out.mono hb); have HB := Lib.hid (HA.out.step hb); clear hb q1 q2 q3 q4 q5 q6 q7 q8; obtain ⟨q1, q2, q3, q4, q5, q6, q7, q8⟩ := HB.out.facts)
    | (go_at_call 52; refine (idec_any n _ hn).mono ?_; rw [HD.out]; rintro e w3 ⟨rfl, hb⟩; have HO3 := Lib.hid (HO2.out.mono hb); have HC := Lib.hid (HB.out.step hb); clear hb q1 q2 q3 q4 q5 q6 q7 q8; obtain ⟨q1, q2, q3, q4, q5, q6, q7, q8⟩ := HC.out.facts; obtain ⟨u1, u2, u3, u4, u5, u6, u7, u8, u9, u10, u11, u12⟩ := four_lt q8; obtain ⟨f1, f2, f3, f4, f5, f6, f7, f8, f9, f10, f11⟩ := far_ne q8))
  go_quiet (fail)
  go_wp2_with fail
  obtain ⟨k1, k2⟩ := likeB_range hop1 hop
  have HK := Lib.hid (alike_any op · hop1 hop)
  obtain ⟨kk, hk⟩ : ∃ kk, kk = likeB op := ⟨_, rfl⟩
  have HQ := Lib.hid hk
  rw [← hk] at HK k1 k2
  clear hk
  have hce := clo_enter kk k1 k2
  refine region_tail 10 (by kernel_rfl) (by kernel_rfl) ?_
  simp only [List.take_succ_cons, List.take_zero, List.drop_succ_cons, List.drop_zero]
  repeat still_step
  still_call ((HK.out _).mono fun _ _ h => ⟨h.1, h.2.symm⟩)
  repeat still_step
  still_call ((reckon_any kk _ k1 k2).mono fun _ _ h => ⟨h.1, h.2.symm⟩)
  repeat still_step
  still_call ((clo_any kk _ _ _ k1 k2 (hR.lo B) (hR.hi B) (Int.emod_nonneg _ (by decide)) (by omega)).mono fun _ _ h => ⟨h.1, h.2.symm⟩)
  repeat still_step
  refine wpStill_nil ?_
  clear hce
  go_wp2_with fail
  go_region
  go_wp2_with fail
  exact St.finD (HC.out.step (below_allocs _ _ _ _ _)) (HO3.out.mono (below_allocs _ _ _ _ _)) rfl rfl rfl rfl rfl (by rw [HQ.out]; rfl) rfl

set_option maxRecDepth 20000 in
set_option maxHeartbeats 1000000 in
theorem step_lui (v : Value) (l : List ByteArray) (s : Nat → Pte) (r : Nat → Int) (pc : Int) (w : World) (hv : Strs w v l) (HL : Hid (l.length ≤ 100000)) (h0 : 0 ≤ pc) (h1 : pc ≤ 4294967295) (n : Nat) (HM : Hid (loadOut (mload l s pc 4) = .tuple #[.int .u32 n, .bool true])) (hn : n ≤ 4294967295) (op A B C : Nat) (imm : Int) (HD : Hid (decOut (mdec n) = .tuple #[.agg #[.int .u8 op, .int .u8 A, .int .u8 B, .int .u8 C, .int .i32 imm], .bool true])) (hA : A < 16) (hB : B < 16) (hC : C < 16) (hop : op = 19) (_hR : ROk (upd r 0 0)) :
    Calls Try.prog 33 #[.agg (cpuCells r pc), .agg (spCells s), v] w (StepPost ⟨setR (upd r 0 0) A (imm % 4294967296 * 65536 % 4294967296), (pc + 4) % 4294967296, l, 0, 0⟩ w) := by
  have iA : (A : Int) < 16 := by omega
  have iB : (B : Int) < 16 := by omega
  have iC : (C : Int) < 16 := by omega
  have HV := Lib.hid hv
  clear hv
  obtain ⟨n1, n2, n3, n4, n5, n6, n7, n8, n9, n10, n11, n12⟩ := four_ne w.heap.size
  go_enter Try.func33, Try.ntmps33
  go_wp2_with (first
    | ((with_reducible refine wpList_append_nil_strs 0 v l ?_ ?_ ?_ ?_ ?_ ?_ ?_); rfl; rfl; rfl; exact Nat.zero_le _; exact (((HV.out.alloc _).alloc _).alloc _).alloc _; exact HL.out; intro va w1 ho hg; have HO := Lib.hid ho.strs; have hb := below_none hg; have HA := Lib.hid (St.start rfl rfl hb); clear ho hg hb; obtain ⟨q1, q2, q3, q4, q5, q6, q7, q8⟩ := HA.out.facts)
    | (go_at_call 25; refine (load_any _ l s pc 4 _ (HV.out.mono HA.out.below) h0 h1).mono ?_; rw [HM.out]; rintro e w2 ⟨rfl, hb⟩; have HO2 := Lib.hid (HO.out.mono hb); have HB := Lib.hid (HA.out.step hb); clear hb q1 q2 q3 q4 q5 q6 q7 q8; obtain ⟨q1, q2, q3, q4, q5, q6, q7, q8⟩ := HB.out.facts)
    | (go_at_call 52; refine (idec_any n _ hn).mono ?_; rw [HD.out]; rintro e w3 ⟨rfl, hb⟩; have HO3 := Lib.hid (HO2.out.mono hb); have HC := Lib.hid (HB.out.step hb); clear hb q1 q2 q3 q4 q5 q6 q7 q8; obtain ⟨q1, q2, q3, q4, q5, q6, q7, q8⟩ := HC.out.facts; obtain ⟨u1, u2, u3, u4, u5, u6, u7, u8, u9, u10, u11, u12⟩ := four_lt q8; obtain ⟨f1, f2, f3, f4, f5, f6, f7, f8, f9, f10, f11⟩ := far_ne q8))
  subst hop
  go_quiet (fail)
  go_wp2_with fail
  go_region
  go_wp2_with fail
  exact St.finD (HC.out.step (below_allocs _ _ _ _ _)) (HO3.out.mono (below_allocs _ _ _ _ _)) rfl rfl rfl rfl rfl rfl rfl

set_option maxRecDepth 20000 in
set_option maxHeartbeats 1000000 in
theorem step_sys (v : Value) (l : List ByteArray) (s : Nat → Pte) (r : Nat → Int) (pc : Int) (w : World) (hv : Strs w v l) (HL : Hid (l.length ≤ 100000)) (h0 : 0 ≤ pc) (h1 : pc ≤ 4294967295) (n : Nat) (HM : Hid (loadOut (mload l s pc 4) = .tuple #[.int .u32 n, .bool true])) (hn : n ≤ 4294967295) (op A B C : Nat) (imm : Int) (HD : Hid (decOut (mdec n) = .tuple #[.agg #[.int .u8 op, .int .u8 A, .int .u8 B, .int .u8 C, .int .i32 imm], .bool true])) (hA : A < 16) (hB : B < 16) (hC : C < 16) (hop : op = 31) (_hR : ROk (upd r 0 0)) :
    Calls Try.prog 33 #[.agg (cpuCells r pc), .agg (spCells s), v] w (StepPost ⟨upd r 0 0, (pc + 4) % 4294967296, l, 1, imm % 4294967296⟩ w) := by
  have iA : (A : Int) < 16 := by omega
  have iB : (B : Int) < 16 := by omega
  have iC : (C : Int) < 16 := by omega
  have HV := Lib.hid hv
  clear hv
  obtain ⟨n1, n2, n3, n4, n5, n6, n7, n8, n9, n10, n11, n12⟩ := four_ne w.heap.size
  go_enter Try.func33, Try.ntmps33
  go_wp2_with (first
    | ((with_reducible refine wpList_append_nil_strs 0 v l ?_ ?_ ?_ ?_ ?_ ?_ ?_); rfl; rfl; rfl; exact Nat.zero_le _; exact (((HV.out.alloc _).alloc _).alloc _).alloc _; exact HL.out; intro va w1 ho hg; have HO := Lib.hid ho.strs; have hb := below_none hg; have HA := Lib.hid (St.start rfl rfl hb); clear ho hg hb; obtain ⟨q1, q2, q3, q4, q5, q6, q7, q8⟩ := HA.out.facts)
    | (go_at_call 25; refine (load_any _ l s pc 4 _ (HV.out.mono HA.out.below) h0 h1).mono ?_; rw [HM.out]; rintro e w2 ⟨rfl, hb⟩; have HO2 := Lib.hid (HO.out.mono hb); have HB := Lib.hid (HA.out.step hb); clear hb q1 q2 q3 q4 q5 q6 q7 q8; obtain ⟨q1, q2, q3, q4, q5, q6, q7, q8⟩ := HB.out.facts)
    | (go_at_call 52; refine (idec_any n _ hn).mono ?_; rw [HD.out]; rintro e w3 ⟨rfl, hb⟩; have HO3 := Lib.hid (HO2.out.mono hb); have HC := Lib.hid (HB.out.step hb); clear hb q1 q2 q3 q4 q5 q6 q7 q8; obtain ⟨q1, q2, q3, q4, q5, q6, q7, q8⟩ := HC.out.facts; obtain ⟨u1, u2, u3, u4, u5, u6, u7, u8, u9, u10, u11, u12⟩ := four_lt q8; obtain ⟨f1, f2, f3, f4, f5, f6, f7, f8, f9, f10, f11⟩ := far_ne q8))
  subst hop
  go_quiet (fail)
  go_wp2_with fail
  go_region
  go_wp2_with fail
  exact St.finD (HC.out.step (below_allocs _ _ _ _ _)) (HO3.out.mono (below_allocs _ _ _ _ _)) rfl rfl rfl rfl rfl rfl rfl

set_option maxRecDepth 20000 in
set_option maxHeartbeats 1000000 in
theorem step_jal (v : Value) (l : List ByteArray) (s : Nat → Pte) (r : Nat → Int) (pc : Int) (w : World) (hv : Strs w v l) (HL : Hid (l.length ≤ 100000)) (h0 : 0 ≤ pc) (h1 : pc ≤ 4294967295) (n : Nat) (HM : Hid (loadOut (mload l s pc 4) = .tuple #[.int .u32 n, .bool true])) (hn : n ≤ 4294967295) (op A B C : Nat) (imm : Int) (HD : Hid (decOut (mdec n) = .tuple #[.agg #[.int .u8 op, .int .u8 A, .int .u8 B, .int .u8 C, .int .i32 imm], .bool true])) (hA : A < 16) (hB : B < 16) (hC : C < 16) (hop : op = 29) (_hR : ROk (upd r 0 0)) :
    Calls Try.prog 33 #[.agg (cpuCells r pc), .agg (spCells s), v] w (StepPost ⟨setR (upd r 0 0) A ((pc + 4) % 4294967296), jumpTo pc imm, l, 0, 0⟩ w) := by
  have iA : (A : Int) < 16 := by omega
  have iB : (B : Int) < 16 := by omega
  have iC : (C : Int) < 16 := by omega
  have HV := Lib.hid hv
  clear hv
  obtain ⟨n1, n2, n3, n4, n5, n6, n7, n8, n9, n10, n11, n12⟩ := four_ne w.heap.size
  go_enter Try.func33, Try.ntmps33
  go_wp2_with (first
    | ((with_reducible refine wpList_append_nil_strs 0 v l ?_ ?_ ?_ ?_ ?_ ?_ ?_); rfl; rfl; rfl; exact Nat.zero_le _; exact (((HV.out.alloc _).alloc _).alloc _).alloc _; exact HL.out; intro va w1 ho hg; have HO := Lib.hid ho.strs; have hb := below_none hg; have HA := Lib.hid (St.start rfl rfl hb); clear ho hg hb; obtain ⟨q1, q2, q3, q4, q5, q6, q7, q8⟩ := HA.out.facts)
    | (go_at_call 25; refine (load_any _ l s pc 4 _ (HV.out.mono HA.out.below) h0 h1).mono ?_; rw [HM.out]; rintro e w2 ⟨rfl, hb⟩; have HO2 := Lib.hid (HO.out.mono hb); have HB := Lib.hid (HA.out.step hb); clear hb q1 q2 q3 q4 q5 q6 q7 q8; obtain ⟨q1, q2, q3, q4, q5, q6, q7, q8⟩ := HB.out.facts)
    | (go_at_call 52; refine (idec_any n _ hn).mono ?_; rw [HD.out]; rintro e w3 ⟨rfl, hb⟩; have HO3 := Lib.hid (HO2.out.mono hb); have HC := Lib.hid (HB.out.step hb); clear hb q1 q2 q3 q4 q5 q6 q7 q8; obtain ⟨q1, q2, q3, q4, q5, q6, q7, q8⟩ := HC.out.facts; obtain ⟨u1, u2, u3, u4, u5, u6, u7, u8, u9, u10, u11, u12⟩ := four_lt q8; obtain ⟨f1, f2, f3, f4, f5, f6, f7, f8, f9, f10, f11⟩ := far_ne q8))
  subst hop
  go_quiet (fail)
  go_wp2_with fail
  go_region
  go_wp2_with fail
  go_region
  go_wp2_with fail
  exact St.finD (HC.out.step (below_allocs _ _ _ _ _)) (HO3.out.mono (below_allocs _ _ _ _ _)) rfl rfl rfl rfl rfl rfl rfl

set_option maxRecDepth 20000 in
set_option maxHeartbeats 1000000 in
theorem step_jalr (v : Value) (l : List ByteArray) (s : Nat → Pte) (r : Nat → Int) (pc : Int) (w : World) (hv : Strs w v l) (HL : Hid (l.length ≤ 100000)) (h0 : 0 ≤ pc) (h1 : pc ≤ 4294967295) (n : Nat) (HM : Hid (loadOut (mload l s pc 4) = .tuple #[.int .u32 n, .bool true])) (hn : n ≤ 4294967295) (op A B C : Nat) (imm : Int) (HD : Hid (decOut (mdec n) = .tuple #[.agg #[.int .u8 op, .int .u8 A, .int .u8 B, .int .u8 C, .int .i32 imm], .bool true])) (hA : A < 16) (hB : B < 16) (hC : C < 16) (hop : op = 30) (_hR : ROk (upd r 0 0)) :
    Calls Try.prog 33 #[.agg (cpuCells r pc), .agg (spCells s), v] w (StepPost ⟨setR (upd r 0 0) A ((pc + 4) % 4294967296), (upd r 0 0 B + imm) % 4294967296, l, 0, 0⟩ w) := by
  have iA : (A : Int) < 16 := by omega
  have iB : (B : Int) < 16 := by omega
  have iC : (C : Int) < 16 := by omega
  have HV := Lib.hid hv
  clear hv
  obtain ⟨n1, n2, n3, n4, n5, n6, n7, n8, n9, n10, n11, n12⟩ := four_ne w.heap.size
  go_enter Try.func33, Try.ntmps33
  go_wp2_with (first
    | ((with_reducible refine wpList_append_nil_strs 0 v l ?_ ?_ ?_ ?_ ?_ ?_ ?_); rfl; rfl; rfl; exact Nat.zero_le _; exact (((HV.out.alloc _).alloc _).alloc _).alloc _; exact HL.out; intro va w1 ho hg; have HO := Lib.hid ho.strs; have hb := below_none hg; have HA := Lib.hid (St.start rfl rfl hb); clear ho hg hb; obtain ⟨q1, q2, q3, q4, q5, q6, q7, q8⟩ := HA.out.facts)
    | (go_at_call 25; refine (load_any _ l s pc 4 _ (HV.out.mono HA.out.below) h0 h1).mono ?_; rw [HM.out]; rintro e w2 ⟨rfl, hb⟩; have HO2 := Lib.hid (HO.out.mono hb); have HB := Lib.hid (HA.out.step hb); clear hb q1 q2 q3 q4 q5 q6 q7 q8; obtain ⟨q1, q2, q3, q4, q5, q6, q7, q8⟩ := HB.out.facts)
    | (go_at_call 52; refine (idec_any n _ hn).mono ?_; rw [HD.out]; rintro e w3 ⟨rfl, hb⟩; have HO3 := Lib.hid (HO2.out.mono hb); have HC := Lib.hid (HB.out.step hb); clear hb q1 q2 q3 q4 q5 q6 q7 q8; obtain ⟨q1, q2, q3, q4, q5, q6, q7, q8⟩ := HC.out.facts; obtain ⟨u1, u2, u3, u4, u5, u6, u7, u8, u9, u10, u11, u12⟩ := four_lt q8; obtain ⟨f1, f2, f3, f4, f5, f6, f7, f8, f9, f10, f11⟩ := far_ne q8))
  subst hop
  go_quiet (fail)
  go_wp2_with fail
  go_region
  go_wp2_with fail
  exact St.finD (HC.out.step (below_allocs _ _ _ _ _)) (HO3.out.mono (below_allocs _ _ _ _ _)) rfl rfl rfl rfl rfl rfl rfl

set_option maxRecDepth 20000 in
set_option maxHeartbeats 1000000 in
theorem step_brT (v : Value) (l : List ByteArray) (s : Nat → Pte) (r : Nat → Int) (pc : Int) (w : World) (hv : Strs w v l) (HL : Hid (l.length ≤ 100000)) (h0 : 0 ≤ pc) (h1 : pc ≤ 4294967295) (n : Nat) (HM : Hid (loadOut (mload l s pc 4) = .tuple #[.int .u32 n, .bool true])) (hn : n ≤ 4294967295) (op A B C : Nat) (imm : Int) (HD : Hid (decOut (mdec n) = .tuple #[.agg #[.int .u8 op, .int .u8 A, .int .u8 B, .int .u8 C, .int .i32 imm], .bool true])) (hA : A < 16) (hB : B < 16) (hC : C < 16) (hop1 : 25 ≤ op) (hop : op ≤ 28) (_hR : ROk (upd r 0 0)) (HJ : Hid (∀ w, Calls Try.prog 56 #[.int .u8 op, .int .u32 (upd r 0 0 A), .int .u32 (upd r 0 0 B)] w fun e w' => e = .returned (.bool true) ∧ w = w')):
    Calls Try.prog 33 #[.agg (cpuCells r pc), .agg (spCells s), v] w (StepPost ⟨upd r 0 0, jumpTo pc imm, l, 0, 0⟩ w) := by
  have iA : (A : Int) < 16 := by omega
  have iB : (B : Int) < 16 := by omega
  have iC : (C : Int) < 16 := by omega
  have HV := Lib.hid hv
  clear hv
  obtain ⟨n1, n2, n3, n4, n5, n6, n7, n8, n9, n10, n11, n12⟩ := four_ne w.heap.size
  go_enter Try.func33, Try.ntmps33
  go_wp2_with (first
    | ((with_reducible refine wpList_append_nil_strs 0 v l ?_ ?_ ?_ ?_ ?_ ?_ ?_); rfl; rfl; rfl; exact Nat.zero_le _; exact (((HV.out.alloc _).alloc _).alloc _).alloc _; exact HL.out; intro va w1 ho hg; have HO := Lib.hid ho.strs; have hb := below_none hg; have HA := Lib.hid (St.start rfl rfl hb); clear ho hg hb; obtain ⟨q1, q2, q3, q4, q5, q6, q7, q8⟩ := HA.out.facts)
    | (go_at_call 25; refine (load_any _ l s pc 4 _ (HV.out.mono HA.out.below) h0 h1).mono ?_; rw [HM.out]; rintro e w2 ⟨rfl, hb⟩; have HO2 := Lib.hid (HO.out.mono hb); have HB := Lib.hid (HA.out.step hb); clear hb q1 q2 q3 q4 q5 q6 q7 q8; obtain ⟨q1, q2, q3, q4, q5, q6, q7, q8⟩ := HB.out.facts)
    | (go_at_call 52; refine (idec_any n _ hn).mono ?_; rw [HD.out]; rintro e w3 ⟨rfl, hb⟩; have HO3 := Lib.hid (HO2.out.mono hb); have HC := Lib.hid (HB.out.step hb); clear hb q1 q2 q3 q4 q5 q6 q7 q8; obtain ⟨q1, q2, q3, q4, q5, q6, q7, q8⟩ := HC.out.facts; obtain ⟨u1, u2, u3, u4, u5, u6, u7, u8, u9, u10, u11, u12⟩ := four_lt q8; obtain ⟨f1, f2, f3, f4, f5, f6, f7, f8, f9, f10, f11⟩ := far_ne q8))
  go_quiet (fail)
  go_wp2_with (go_at_call 56; refine (HJ.out _).mono ?_; rintro e w4 ⟨rfl, rfl⟩)
  go_region
  go_wp2_with fail
  exact St.finD (HC.out.step (below_allocs _ _ _ _ _)) (HO3.out.mono (below_allocs _ _ _ _ _)) rfl rfl rfl rfl rfl rfl rfl

set_option maxRecDepth 20000 in
set_option maxHeartbeats 1000000 in
theorem step_brF (v : Value) (l : List ByteArray) (s : Nat → Pte) (r : Nat → Int) (pc : Int) (w : World) (hv : Strs w v l) (HL : Hid (l.length ≤ 100000)) (h0 : 0 ≤ pc) (h1 : pc ≤ 4294967295) (n : Nat) (HM : Hid (loadOut (mload l s pc 4) = .tuple #[.int .u32 n, .bool true])) (hn : n ≤ 4294967295) (op A B C : Nat) (imm : Int) (HD : Hid (decOut (mdec n) = .tuple #[.agg #[.int .u8 op, .int .u8 A, .int .u8 B, .int .u8 C, .int .i32 imm], .bool true])) (hA : A < 16) (hB : B < 16) (hC : C < 16) (hop1 : 25 ≤ op) (hop : op ≤ 28) (_hR : ROk (upd r 0 0)) (HJ : Hid (∀ w, Calls Try.prog 56 #[.int .u8 op, .int .u32 (upd r 0 0 A), .int .u32 (upd r 0 0 B)] w fun e w' => e = .returned (.bool false) ∧ w = w')):
    Calls Try.prog 33 #[.agg (cpuCells r pc), .agg (spCells s), v] w (StepPost ⟨upd r 0 0, (pc + 4) % 4294967296, l, 0, 0⟩ w) := by
  have iA : (A : Int) < 16 := by omega
  have iB : (B : Int) < 16 := by omega
  have iC : (C : Int) < 16 := by omega
  have HV := Lib.hid hv
  clear hv
  obtain ⟨n1, n2, n3, n4, n5, n6, n7, n8, n9, n10, n11, n12⟩ := four_ne w.heap.size
  go_enter Try.func33, Try.ntmps33
  go_wp2_with (first
    | ((with_reducible refine wpList_append_nil_strs 0 v l ?_ ?_ ?_ ?_ ?_ ?_ ?_); rfl; rfl; rfl; exact Nat.zero_le _; exact (((HV.out.alloc _).alloc _).alloc _).alloc _; exact HL.out; intro va w1 ho hg; have HO := Lib.hid ho.strs; have hb := below_none hg; have HA := Lib.hid (St.start rfl rfl hb); clear ho hg hb; obtain ⟨q1, q2, q3, q4, q5, q6, q7, q8⟩ := HA.out.facts)
    | (go_at_call 25; refine (load_any _ l s pc 4 _ (HV.out.mono HA.out.below) h0 h1).mono ?_; rw [HM.out]; rintro e w2 ⟨rfl, hb⟩; have HO2 := Lib.hid (HO.out.mono hb); have HB := Lib.hid (HA.out.step hb); clear hb q1 q2 q3 q4 q5 q6 q7 q8; obtain ⟨q1, q2, q3, q4, q5, q6, q7, q8⟩ := HB.out.facts)
    | (go_at_call 52; refine (idec_any n _ hn).mono ?_; rw [HD.out]; rintro e w3 ⟨rfl, hb⟩; have HO3 := Lib.hid (HO2.out.mono hb); have HC := Lib.hid (HB.out.step hb); clear hb q1 q2 q3 q4 q5 q6 q7 q8; obtain ⟨q1, q2, q3, q4, q5, q6, q7, q8⟩ := HC.out.facts; obtain ⟨u1, u2, u3, u4, u5, u6, u7, u8, u9, u10, u11, u12⟩ := four_lt q8; obtain ⟨f1, f2, f3, f4, f5, f6, f7, f8, f9, f10, f11⟩ := far_ne q8))
  go_quiet (fail)
  go_wp2_with (go_at_call 56; refine (HJ.out _).mono ?_; rintro e w4 ⟨rfl, rfl⟩)
  go_region
  go_wp2_with fail
  exact St.finD (HC.out.step (below_allocs _ _ _ _ _)) (HO3.out.mono (below_allocs _ _ _ _ _)) rfl rfl rfl rfl rfl rfl rfl

set_option maxRecDepth 20000 in
set_option maxHeartbeats 1000000 in
theorem step_ldok (v : Value) (l : List ByteArray) (s : Nat → Pte) (r : Nat → Int) (pc : Int) (w : World) (hv : Strs w v l) (HL : Hid (l.length ≤ 100000)) (h0 : 0 ≤ pc) (h1 : pc ≤ 4294967295) (n : Nat) (HM : Hid (loadOut (mload l s pc 4) = .tuple #[.int .u32 n, .bool true])) (hn : n ≤ 4294967295) (op A B C : Nat) (imm : Int) (HD : Hid (decOut (mdec n) = .tuple #[.agg #[.int .u8 op, .int .u8 A, .int .u8 B, .int .u8 C, .int .i32 imm], .bool true])) (hA : A < 16) (hB : B < 16) (hC : C < 16) (hop1 : 20 ≤ op) (hop : op ≤ 22) (z : Int) (_hR : ROk (upd r 0 0)) (HLD : Hid (∀ (a : Int) (v' : Value) (W : World), a = (upd r 0 0 B + imm) % 4294967296 → Strs W v' l → Calls Try.prog 55 #[.int .u8 op, .agg (spCells s), v', .int .u32 a] W fun e w' => e = .returned (.tuple #[.int .u32 z, .bool true]) ∧ Below W.heap.size W w')):
    Calls Try.prog 33 #[.agg (cpuCells r pc), .agg (spCells s), v] w (StepPost ⟨setR (upd r 0 0) A z, (pc + 4) % 4294967296, l, 0, 0⟩ w) := by
  have iA : (A : Int) < 16 := by omega
  have iB : (B : Int) < 16 := by omega
  have iC : (C : Int) < 16 := by omega
  have HV := Lib.hid hv
  clear hv
  obtain ⟨n1, n2, n3, n4, n5, n6, n7, n8, n9, n10, n11, n12⟩ := four_ne w.heap.size
  go_enter Try.func33, Try.ntmps33
  go_wp2_with (first
    | ((with_reducible refine wpList_append_nil_strs 0 v l ?_ ?_ ?_ ?_ ?_ ?_ ?_); rfl; rfl; rfl; exact Nat.zero_le _; exact (((HV.out.alloc _).alloc _).alloc _).alloc _; exact HL.out; intro va w1 ho hg; have HO := Lib.hid ho.strs; have hb := below_none hg; have HA := Lib.hid (St.start rfl rfl hb); clear ho hg hb; obtain ⟨q1, q2, q3, q4, q5, q6, q7, q8⟩ := HA.out.facts)
    | (go_at_call 25; refine (load_any _ l s pc 4 _ (HV.out.mono HA.out.below) h0 h1).mono ?_; rw [HM.out]; rintro e w2 ⟨rfl, hb⟩; have HO2 := Lib.hid (HO.out.mono hb); have HB := Lib.hid (HA.out.step hb); clear hb q1 q2 q3 q4 q5 q6 q7 q8; obtain ⟨q1, q2, q3, q4, q5, q6, q7, q8⟩ := HB.out.facts)
    | (go_at_call 52; refine (idec_any n _ hn).mono ?_; rw [HD.out]; rintro e w3 ⟨rfl, hb⟩; have HO3 := Lib.hid (HO2.out.mono hb); have HC := Lib.hid (HB.out.step hb); clear hb q1 q2 q3 q4 q5 q6 q7 q8; obtain ⟨q1, q2, q3, q4, q5, q6, q7, q8⟩ := HC.out.facts; obtain ⟨u1, u2, u3, u4, u5, u6, u7, u8, u9, u10, u11, u12⟩ := four_lt q8; obtain ⟨f1, f2, f3, f4, f5, f6, f7, f8, f9, f10, f11⟩ := far_ne q8))
  go_quiet (fail)
  go_wp2_with (go_at_call 55; refine (HLD.out _ _ _ ?_ ?_).mono ?_; omega; exact (HV.out.mono HC.out.below).mono (below_drewN (below_allocs _ _ _ _ _) _); rintro e w4 ⟨rfl, hb⟩; have HX := Lib.hid (St4.start HC.out q8 hb); have HO4 := Lib.hid (HO3.out.mono (below_callN hb)); clear hb q1 q2 q3 q4 q5 q6 q7 q8; obtain ⟨q1, q2, q3, q4, q5, q6, q7, q8⟩ := HX.out.st.facts; obtain ⟨z1, z2, z3, z4, z5, z6, z7, z8, z9⟩ := HX.out.facts; have ca := z7 A hA; have c0 := z7 0 (by decide); have xa := z9 1; clear z7 z9; obtain ⟨m1, m2, m3, m4, m5, m6, m7, m8, m9, m10, m11, m12⟩ := four_ne w3.heap.size)
  go_region
  go_wp2_with fail
  exact St.finD HX.out.setNext (HX.out.strs HO4.out) rfl rfl rfl rfl rfl rfl rfl

set_option maxRecDepth 20000 in
set_option maxHeartbeats 1000000 in
theorem step_ldno (v : Value) (l : List ByteArray) (s : Nat → Pte) (r : Nat → Int) (pc : Int) (w : World) (hv : Strs w v l) (HL : Hid (l.length ≤ 100000)) (h0 : 0 ≤ pc) (h1 : pc ≤ 4294967295) (n : Nat) (HM : Hid (loadOut (mload l s pc 4) = .tuple #[.int .u32 n, .bool true])) (hn : n ≤ 4294967295) (op A B C : Nat) (imm : Int) (HD : Hid (decOut (mdec n) = .tuple #[.agg #[.int .u8 op, .int .u8 A, .int .u8 B, .int .u8 C, .int .i32 imm], .bool true])) (hA : A < 16) (hB : B < 16) (hC : C < 16) (hop1 : 20 ≤ op) (hop : op ≤ 22) (z : Int) (_hR : ROk (upd r 0 0)) (HLD : Hid (∀ (a : Int) (v' : Value) (W : World), a = (upd r 0 0 B + imm) % 4294967296 → Strs W v' l → Calls Try.prog 55 #[.int .u8 op, .agg (spCells s), v', .int .u32 a] W fun e w' => e = .returned (.tuple #[.int .u32 z, .bool false]) ∧ Below W.heap.size W w')):
    Calls Try.prog 33 #[.agg (cpuCells r pc), .agg (spCells s), v] w (StepPost ⟨r, pc, l, 2, (upd r 0 0 B + imm) % 4294967296⟩ w) := by
  have iA : (A : Int) < 16 := by omega
  have iB : (B : Int) < 16 := by omega
  have iC : (C : Int) < 16 := by omega
  have HV := Lib.hid hv
  clear hv
  obtain ⟨n1, n2, n3, n4, n5, n6, n7, n8, n9, n10, n11, n12⟩ := four_ne w.heap.size
  go_enter Try.func33, Try.ntmps33
  go_wp2_with (first
    | ((with_reducible refine wpList_append_nil_strs 0 v l ?_ ?_ ?_ ?_ ?_ ?_ ?_); rfl; rfl; rfl; exact Nat.zero_le _; exact (((HV.out.alloc _).alloc _).alloc _).alloc _; exact HL.out; intro va w1 ho hg; have HO := Lib.hid ho.strs; have hb := below_none hg; have HA := Lib.hid (St.start rfl rfl hb); clear ho hg hb; obtain ⟨q1, q2, q3, q4, q5, q6, q7, q8⟩ := HA.out.facts)
    | (go_at_call 25; refine (load_any _ l s pc 4 _ (HV.out.mono HA.out.below) h0 h1).mono ?_; rw [HM.out]; rintro e w2 ⟨rfl, hb⟩; have HO2 := Lib.hid (HO.out.mono hb); have HB := Lib.hid (HA.out.step hb); clear hb q1 q2 q3 q4 q5 q6 q7 q8; obtain ⟨q1, q2, q3, q4, q5, q6, q7, q8⟩ := HB.out.facts)
    | (go_at_call 52; refine (idec_any n _ hn).mono ?_; rw [HD.out]; rintro e w3 ⟨rfl, hb⟩; have HO3 := Lib.hid (HO2.out.mono hb); have HC := Lib.hid (HB.out.step hb); clear hb q1 q2 q3 q4 q5 q6 q7 q8; obtain ⟨q1, q2, q3, q4, q5, q6, q7, q8⟩ := HC.out.facts; obtain ⟨u1, u2, u3, u4, u5, u6, u7, u8, u9, u10, u11, u12⟩ := four_lt q8; obtain ⟨f1, f2, f3, f4, f5, f6, f7, f8, f9, f10, f11⟩ := far_ne q8))
  go_quiet (fail)
  go_wp2_with (go_at_call 55; refine (HLD.out _ _ _ ?_ ?_).mono ?_; omega; exact (HV.out.mono HC.out.below).mono (below_drewN (below_allocs _ _ _ _ _) _); rintro e w4 ⟨rfl, hb⟩; have HX := Lib.hid (St4.start HC.out q8 hb); have HO4 := Lib.hid (HO3.out.mono (below_callN hb)); clear hb q1 q2 q3 q4 q5 q6 q7 q8; obtain ⟨q1, q2, q3, q4, q5, q6, q7, q8⟩ := HX.out.st.facts; obtain ⟨z1, z2, z3, z4, z5, z6, z7, z8, z9⟩ := HX.out.facts; have ca := z7 A hA; have c0 := z7 0 (by decide); have xa := z9 1; clear z7 z9; obtain ⟨m1, m2, m3, m4, m5, m6, m7, m8, m9, m10, m11, m12⟩ := four_ne w3.heap.size)
  exact St.fin HX.out.st HO4.out rfl rfl rfl rfl rfl rfl rfl

set_option maxRecDepth 20000 in
set_option maxHeartbeats 1000000 in
theorem step_stok23 (v : Value) (l : List ByteArray) (s : Nat → Pte) (r : Nat → Int) (pc : Int) (w : World) (hv : Strs w v l) (HL : Hid (l.length ≤ 100000)) (h0 : 0 ≤ pc) (h1 : pc ≤ 4294967295) (n : Nat) (HM : Hid (loadOut (mload l s pc 4) = .tuple #[.int .u32 n, .bool true])) (hn : n ≤ 4294967295) (op A B C : Nat) (imm : Int) (HD : Hid (decOut (mdec n) = .tuple #[.agg #[.int .u8 op, .int .u8 A, .int .u8 B, .int .u8 C, .int .i32 imm], .bool true])) (hA : A < 16) (hB : B < 16) (hC : C < 16) (hop : op = 23) (_hR : ROk (upd r 0 0)) (l' : List ByteArray) (HST : Hid (∀ (a b : Int) (v' : Value) (W : World), a = (upd r 0 0 B + imm) % 4294967296 → b = upd r 0 0 A → Strs W v' l → Calls Try.prog 29 #[v', .agg (spCells s), .int .u32 a, .int .i64 4, .int .u32 b] W fun e w' => Below W.heap.size W w' ∧ ∃ v, e = .returned (.tuple #[v, .bool true]) ∧ Strs w' v l')):
    Calls Try.prog 33 #[.agg (cpuCells r pc), .agg (spCells s), v] w (StepPost ⟨upd r 0 0, (pc + 4) % 4294967296, l', 0, 0⟩ w) := by
  have iA : (A : Int) < 16 := by omega
  have iB : (B : Int) < 16 := by omega
  have iC : (C : Int) < 16 := by omega
  have HV := Lib.hid hv
  clear hv
  obtain ⟨n1, n2, n3, n4, n5, n6, n7, n8, n9, n10, n11, n12⟩ := four_ne w.heap.size
  go_enter Try.func33, Try.ntmps33
  go_wp2_with (first
    | ((with_reducible refine wpList_append_nil_strs 0 v l ?_ ?_ ?_ ?_ ?_ ?_ ?_); rfl; rfl; rfl; exact Nat.zero_le _; exact (((HV.out.alloc _).alloc _).alloc _).alloc _; exact HL.out; intro va w1 ho hg; have HO := Lib.hid ho.strs; have hb := below_none hg; have HA := Lib.hid (St.start rfl rfl hb); clear ho hg hb; obtain ⟨q1, q2, q3, q4, q5, q6, q7, q8⟩ := HA.out.facts)
    | (go_at_call 25; refine (load_any _ l s pc 4 _ (HV.out.mono HA.out.below) h0 h1).mono ?_; rw [HM.out]; rintro e w2 ⟨rfl, hb⟩; have HO2 := Lib.hid (HO.out.mono hb); have HB := Lib.hid (HA.out.step hb); clear hb q1 q2 q3 q4 q5 q6 q7 q8; obtain ⟨q1, q2, q3, q4, q5, q6, q7, q8⟩ := HB.out.facts)
    | (go_at_call 52; refine (idec_any n _ hn).mono ?_; rw [HD.out]; rintro e w3 ⟨rfl, hb⟩; have HO3 := Lib.hid (HO2.out.mono hb); have HC := Lib.hid (HB.out.step hb); clear hb q1 q2 q3 q4 q5 q6 q7 q8; obtain ⟨q1, q2, q3, q4, q5, q6, q7, q8⟩ := HC.out.facts; obtain ⟨u1, u2, u3, u4, u5, u6, u7, u8, u9, u10, u11, u12⟩ := four_lt q8; obtain ⟨f1, f2, f3, f4, f5, f6, f7, f8, f9, f10, f11⟩ := far_ne q8))
  subst hop
  go_quiet (fail)
  go_wp2_with (go_at_call 29; refine (HST.out _ _ _ _ ?_ ?_ ?_).mono ?_; omega; rfl; exact (HV.out.mono HC.out.below).mono (below_drewN (below_allocs _ _ _ _ _) _); rintro e w4 ⟨hb, v5, rfl, hs5⟩; have HS5 := Lib.hid hs5; clear hs5; have HX := Lib.hid (St4.start HC.out q8 hb); have HO4 := Lib.hid (HO3.out.mono (below_callN hb)); clear hb q1 q2 q3 q4 q5 q6 q7 q8; obtain ⟨q1, q2, q3, q4, q5, q6, q7, q8⟩ := HX.out.st.facts; obtain ⟨z1, z2, z3, z4, z5, z6, z7, z8, z9⟩ := HX.out.facts; have ca := z7 A hA; have c0 := z7 0 (by decide); have xa := z9 1; clear z7 z9; obtain ⟨m1, m2, m3, m4, m5, m6, m7, m8, m9, m10, m11, m12⟩ := four_ne w3.heap.size)
  go_region
  go_wp2_with fail
  exact St.finD HX.out.setNext (HX.out.strs HS5.out) rfl rfl rfl rfl rfl (cpu00 _ _) rfl

set_option maxRecDepth 20000 in
set_option maxHeartbeats 1000000 in
theorem step_stno23 (v : Value) (l : List ByteArray) (s : Nat → Pte) (r : Nat → Int) (pc : Int) (w : World) (hv : Strs w v l) (HL : Hid (l.length ≤ 100000)) (h0 : 0 ≤ pc) (h1 : pc ≤ 4294967295) (n : Nat) (HM : Hid (loadOut (mload l s pc 4) = .tuple #[.int .u32 n, .bool true])) (hn : n ≤ 4294967295) (op A B C : Nat) (imm : Int) (HD : Hid (decOut (mdec n) = .tuple #[.agg #[.int .u8 op, .int .u8 A, .int .u8 B, .int .u8 C, .int .i32 imm], .bool true])) (hA : A < 16) (hB : B < 16) (hC : C < 16) (hop : op = 23) (_hR : ROk (upd r 0 0)) (HST : Hid (∀ (a b : Int) (v' : Value) (W : World), a = (upd r 0 0 B + imm) % 4294967296 → b = upd r 0 0 A → Strs W v' l → Calls Try.prog 29 #[v', .agg (spCells s), .int .u32 a, .int .i64 4, .int .u32 b] W fun e w' => Below W.heap.size W w' ∧ ∃ v, e = .returned (.tuple #[v, .bool false]) ∧ Strs w' v [])):
    Calls Try.prog 33 #[.agg (cpuCells r pc), .agg (spCells s), v] w (StepPost ⟨r, pc, l, 2, (upd r 0 0 B + imm) % 4294967296⟩ w) := by
  have iA : (A : Int) < 16 := by omega
  have iB : (B : Int) < 16 := by omega
  have iC : (C : Int) < 16 := by omega
  have HV := Lib.hid hv
  clear hv
  obtain ⟨n1, n2, n3, n4, n5, n6, n7, n8, n9, n10, n11, n12⟩ := four_ne w.heap.size
  go_enter Try.func33, Try.ntmps33
  go_wp2_with (first
    | ((with_reducible refine wpList_append_nil_strs 0 v l ?_ ?_ ?_ ?_ ?_ ?_ ?_); rfl; rfl; rfl; exact Nat.zero_le _; exact (((HV.out.alloc _).alloc _).alloc _).alloc _; exact HL.out; intro va w1 ho hg; have HO := Lib.hid ho.strs; have hb := below_none hg; have HA := Lib.hid (St.start rfl rfl hb); clear ho hg hb; obtain ⟨q1, q2, q3, q4, q5, q6, q7, q8⟩ := HA.out.facts)
    | (go_at_call 25; refine (load_any _ l s pc 4 _ (HV.out.mono HA.out.below) h0 h1).mono ?_; rw [HM.out]; rintro e w2 ⟨rfl, hb⟩; have HO2 := Lib.hid (HO.out.mono hb); have HB := Lib.hid (HA.out.step hb); clear hb q1 q2 q3 q4 q5 q6 q7 q8; obtain ⟨q1, q2, q3, q4, q5, q6, q7, q8⟩ := HB.out.facts)
    | (go_at_call 52; refine (idec_any n _ hn).mono ?_; rw [HD.out]; rintro e w3 ⟨rfl, hb⟩; have HO3 := Lib.hid (HO2.out.mono hb); have HC := Lib.hid (HB.out.step hb); clear hb q1 q2 q3 q4 q5 q6 q7 q8; obtain ⟨q1, q2, q3, q4, q5, q6, q7, q8⟩ := HC.out.facts; obtain ⟨u1, u2, u3, u4, u5, u6, u7, u8, u9, u10, u11, u12⟩ := four_lt q8; obtain ⟨f1, f2, f3, f4, f5, f6, f7, f8, f9, f10, f11⟩ := far_ne q8))
  subst hop
  go_quiet (fail)
  go_wp2_with (go_at_call 29; refine (HST.out _ _ _ _ ?_ ?_ ?_).mono ?_; omega; rfl; exact (HV.out.mono HC.out.below).mono (below_drewN (below_allocs _ _ _ _ _) _); rintro e w4 ⟨hb, v5, rfl, hs5⟩; have HS5 := Lib.hid hs5; clear hs5; have HX := Lib.hid (St4.start HC.out q8 hb); have HO4 := Lib.hid (HO3.out.mono (below_callN hb)); clear hb q1 q2 q3 q4 q5 q6 q7 q8; obtain ⟨q1, q2, q3, q4, q5, q6, q7, q8⟩ := HX.out.st.facts; obtain ⟨z1, z2, z3, z4, z5, z6, z7, z8, z9⟩ := HX.out.facts; have ca := z7 A hA; have c0 := z7 0 (by decide); have xa := z9 1; clear z7 z9; obtain ⟨m1, m2, m3, m4, m5, m6, m7, m8, m9, m10, m11, m12⟩ := four_ne w3.heap.size)
  exact St.fin HX.out.st HO4.out rfl rfl rfl rfl rfl rfl rfl

set_option maxRecDepth 20000 in
set_option maxHeartbeats 1000000 in
theorem step_stok24 (v : Value) (l : List ByteArray) (s : Nat → Pte) (r : Nat → Int) (pc : Int) (w : World) (hv : Strs w v l) (HL : Hid (l.length ≤ 100000)) (h0 : 0 ≤ pc) (h1 : pc ≤ 4294967295) (n : Nat) (HM : Hid (loadOut (mload l s pc 4) = .tuple #[.int .u32 n, .bool true])) (hn : n ≤ 4294967295) (op A B C : Nat) (imm : Int) (HD : Hid (decOut (mdec n) = .tuple #[.agg #[.int .u8 op, .int .u8 A, .int .u8 B, .int .u8 C, .int .i32 imm], .bool true])) (hA : A < 16) (hB : B < 16) (hC : C < 16) (hop : op = 24) (_hR : ROk (upd r 0 0)) (l' : List ByteArray) (HST : Hid (∀ (a b : Int) (v' : Value) (W : World), a = (upd r 0 0 B + imm) % 4294967296 → b = upd r 0 0 A → Strs W v' l → Calls Try.prog 29 #[v', .agg (spCells s), .int .u32 a, .int .i64 1, .int .u32 b] W fun e w' => Below W.heap.size W w' ∧ ∃ v, e = .returned (.tuple #[v, .bool true]) ∧ Strs w' v l')):
    Calls Try.prog 33 #[.agg (cpuCells r pc), .agg (spCells s), v] w (StepPost ⟨upd r 0 0, (pc + 4) % 4294967296, l', 0, 0⟩ w) := by
  have iA : (A : Int) < 16 := by omega
  have iB : (B : Int) < 16 := by omega
  have iC : (C : Int) < 16 := by omega
  have HV := Lib.hid hv
  clear hv
  obtain ⟨n1, n2, n3, n4, n5, n6, n7, n8, n9, n10, n11, n12⟩ := four_ne w.heap.size
  go_enter Try.func33, Try.ntmps33
  go_wp2_with (first
    | ((with_reducible refine wpList_append_nil_strs 0 v l ?_ ?_ ?_ ?_ ?_ ?_ ?_); rfl; rfl; rfl; exact Nat.zero_le _; exact (((HV.out.alloc _).alloc _).alloc _).alloc _; exact HL.out; intro va w1 ho hg; have HO := Lib.hid ho.strs; have hb := below_none hg; have HA := Lib.hid (St.start rfl rfl hb); clear ho hg hb; obtain ⟨q1, q2, q3, q4, q5, q6, q7, q8⟩ := HA.out.facts)
    | (go_at_call 25; refine (load_any _ l s pc 4 _ (HV.out.mono HA.out.below) h0 h1).mono ?_; rw [HM.out]; rintro e w2 ⟨rfl, hb⟩; have HO2 := Lib.hid (HO.out.mono hb); have HB := Lib.hid (HA.out.step hb); clear hb q1 q2 q3 q4 q5 q6 q7 q8; obtain ⟨q1, q2, q3, q4, q5, q6, q7, q8⟩ := HB.out.facts)
    | (go_at_call 52; refine (idec_any n _ hn).mono ?_; rw [HD.out]; rintro e w3 ⟨rfl, hb⟩; have HO3 := Lib.hid (HO2.out.mono hb); have HC := Lib.hid (HB.out.step hb); clear hb q1 q2 q3 q4 q5 q6 q7 q8; obtain ⟨q1, q2, q3, q4, q5, q6, q7, q8⟩ := HC.out.facts; obtain ⟨u1, u2, u3, u4, u5, u6, u7, u8, u9, u10, u11, u12⟩ := four_lt q8; obtain ⟨f1, f2, f3, f4, f5, f6, f7, f8, f9, f10, f11⟩ := far_ne q8))
  subst hop
  go_quiet (fail)
  go_wp2_with (go_at_call 29; refine (HST.out _ _ _ _ ?_ ?_ ?_).mono ?_; omega; rfl; exact (HV.out.mono HC.out.below).mono (below_drewN (below_allocs _ _ _ _ _) _); rintro e w4 ⟨hb, v5, rfl, hs5⟩; have HS5 := Lib.hid hs5; clear hs5; have HX := Lib.hid (St4.start HC.out q8 hb); have HO4 := Lib.hid (HO3.out.mono (below_callN hb)); clear hb q1 q2 q3 q4 q5 q6 q7 q8; obtain ⟨q1, q2, q3, q4, q5, q6, q7, q8⟩ := HX.out.st.facts; obtain ⟨z1, z2, z3, z4, z5, z6, z7, z8, z9⟩ := HX.out.facts; have ca := z7 A hA; have c0 := z7 0 (by decide); have xa := z9 1; clear z7 z9; obtain ⟨m1, m2, m3, m4, m5, m6, m7, m8, m9, m10, m11, m12⟩ := four_ne w3.heap.size)
  go_region
  go_wp2_with fail
  exact St.finD HX.out.setNext (HX.out.strs HS5.out) rfl rfl rfl rfl rfl (cpu00 _ _) rfl

set_option maxRecDepth 20000 in
set_option maxHeartbeats 1000000 in
theorem step_stno24 (v : Value) (l : List ByteArray) (s : Nat → Pte) (r : Nat → Int) (pc : Int) (w : World) (hv : Strs w v l) (HL : Hid (l.length ≤ 100000)) (h0 : 0 ≤ pc) (h1 : pc ≤ 4294967295) (n : Nat) (HM : Hid (loadOut (mload l s pc 4) = .tuple #[.int .u32 n, .bool true])) (hn : n ≤ 4294967295) (op A B C : Nat) (imm : Int) (HD : Hid (decOut (mdec n) = .tuple #[.agg #[.int .u8 op, .int .u8 A, .int .u8 B, .int .u8 C, .int .i32 imm], .bool true])) (hA : A < 16) (hB : B < 16) (hC : C < 16) (hop : op = 24) (_hR : ROk (upd r 0 0)) (HST : Hid (∀ (a b : Int) (v' : Value) (W : World), a = (upd r 0 0 B + imm) % 4294967296 → b = upd r 0 0 A → Strs W v' l → Calls Try.prog 29 #[v', .agg (spCells s), .int .u32 a, .int .i64 1, .int .u32 b] W fun e w' => Below W.heap.size W w' ∧ ∃ v, e = .returned (.tuple #[v, .bool false]) ∧ Strs w' v [])):
    Calls Try.prog 33 #[.agg (cpuCells r pc), .agg (spCells s), v] w (StepPost ⟨r, pc, l, 2, (upd r 0 0 B + imm) % 4294967296⟩ w) := by
  have iA : (A : Int) < 16 := by omega
  have iB : (B : Int) < 16 := by omega
  have iC : (C : Int) < 16 := by omega
  have HV := Lib.hid hv
  clear hv
  obtain ⟨n1, n2, n3, n4, n5, n6, n7, n8, n9, n10, n11, n12⟩ := four_ne w.heap.size
  go_enter Try.func33, Try.ntmps33
  go_wp2_with (first
    | ((with_reducible refine wpList_append_nil_strs 0 v l ?_ ?_ ?_ ?_ ?_ ?_ ?_); rfl; rfl; rfl; exact Nat.zero_le _; exact (((HV.out.alloc _).alloc _).alloc _).alloc _; exact HL.out; intro va w1 ho hg; have HO := Lib.hid ho.strs; have hb := below_none hg; have HA := Lib.hid (St.start rfl rfl hb); clear ho hg hb; obtain ⟨q1, q2, q3, q4, q5, q6, q7, q8⟩ := HA.out.facts)
    | (go_at_call 25; refine (load_any _ l s pc 4 _ (HV.out.mono HA.out.below) h0 h1).mono ?_; rw [HM.out]; rintro e w2 ⟨rfl, hb⟩; have HO2 := Lib.hid (HO.out.mono hb); have HB := Lib.hid (HA.out.step hb); clear hb q1 q2 q3 q4 q5 q6 q7 q8; obtain ⟨q1, q2, q3, q4, q5, q6, q7, q8⟩ := HB.out.facts)
    | (go_at_call 52; refine (idec_any n _ hn).mono ?_; rw [HD.out]; rintro e w3 ⟨rfl, hb⟩; have HO3 := Lib.hid (HO2.out.mono hb); have HC := Lib.hid (HB.out.step hb); clear hb q1 q2 q3 q4 q5 q6 q7 q8; obtain ⟨q1, q2, q3, q4, q5, q6, q7, q8⟩ := HC.out.facts; obtain ⟨u1, u2, u3, u4, u5, u6, u7, u8, u9, u10, u11, u12⟩ := four_lt q8; obtain ⟨f1, f2, f3, f4, f5, f6, f7, f8, f9, f10, f11⟩ := far_ne q8))
  subst hop
  go_quiet (fail)
  go_wp2_with (go_at_call 29; refine (HST.out _ _ _ _ ?_ ?_ ?_).mono ?_; omega; rfl; exact (HV.out.mono HC.out.below).mono (below_drewN (below_allocs _ _ _ _ _) _); rintro e w4 ⟨hb, v5, rfl, hs5⟩; have HS5 := Lib.hid hs5; clear hs5; have HX := Lib.hid (St4.start HC.out q8 hb); have HO4 := Lib.hid (HO3.out.mono (below_callN hb)); clear hb q1 q2 q3 q4 q5 q6 q7 q8; obtain ⟨q1, q2, q3, q4, q5, q6, q7, q8⟩ := HX.out.st.facts; obtain ⟨z1, z2, z3, z4, z5, z6, z7, z8, z9⟩ := HX.out.facts; have ca := z7 A hA; have c0 := z7 0 (by decide); have xa := z9 1; clear z7 z9; obtain ⟨m1, m2, m3, m4, m5, m6, m7, m8, m9, m10, m11, m12⟩ := four_ne w3.heap.size)
  exact St.fin HX.out.st HO4.out rfl rfl rfl rfl rfl rfl rfl
end Go.Proofs.Ytlhcggaeecjbcaa
