/- Plain: an instruction's word is that instruction again, what lies in a page of words is loaded, what a step of it does; the closure of CpuBranches, walked. No condition. -/
import Derived.Test.YtlhcggaeecjbcaaLawe
namespace Go.Proofs.Ytlhcggaeecjbcaa
open Go.RowKit

theorem menc_ok {x : Ins} {w : Nat} (h : menc x = (w, 0)) : opF x.op ≠ 0 ∧ ¬ argBad (opF x.op) x ∧ (opF x.op = 114 ∨ fitsB x.op x.imm = true) ∧ w = encW (opF x.op) x := by
  unfold menc at h
  split at h
  · simp at h
  · rename_i h0
    split at h
    · simp at h
    · rename_i h1
      split at h
      · simp at h
      · rename_i h2
        simp only [Prod.mk.injEq, and_true] at h
        refine ⟨h0, h1, ?_, h.symm⟩
        by_cases h3 : opF x.op = 114
        · exact .inl h3
        · refine .inr ?_
          cases hf : fitsB x.op x.imm with
          | true => rfl
          | false => exact absurd ⟨h3, hf⟩ h2
/-- The instruction of an instruction's word. -/
theorem dec_enc {x : Ins} {w : Nat} (h : menc x = (w, 0)) : mdec w = some x ∧ w ≤ 4294967295 := by
  obtain ⟨h0, h1, h2, hw⟩ := menc_ok h
  have h31 := op_le31 h0
  obtain ⟨op, A, B, C, imm⟩ := x
  simp only at h0 h1 h2 hw h31
  rw [argBad_mk] at h1
  have hA : A ≤ 15 := by omega
  have hB : B ≤ 15 := by omega
  have hC : C ≤ 15 := by omega
  have key : decIns w = ⟨op, A, B, C, imm⟩ ∧ w ≤ 4294967295 := by
    subst hw
    unfold encW decIns
    simp only
    by_cases hf : opF op = 114
    · rw [if_pos hf]
      have himm : imm = 0 := by omega
      subst himm
      have e1 : (op * 67108864 + A * 4194304 + B * 262144 + C * 16384 + 0) / 67108864 = op := by omega
      have e2 : (op * 67108864 + A * 4194304 + B * 262144 + C * 16384 + 0) / 4194304 % 16 = A := by omega
      have e3 : (op * 67108864 + A * 4194304 + B * 262144 + C * 16384 + 0) / 262144 % 16 = B := by omega
      have e4 : (op * 67108864 + A * 4194304 + B * 262144 + C * 16384 + 0) / 16384 % 16 = C := by omega
      rw [e1, e2, e3, e4, if_pos hf]
      refine ⟨?_, by omega⟩
      unfold immOf
      rw [if_pos hf]
    · rw [if_neg hf]
      have hC0 : C = 0 := by omega
      subst hC0
      have hm : (imm % 65536).toNat < 65536 := by omega
      have hm2 : (((imm % 65536).toNat : Nat) : Int) = imm % 65536 := by omega
      generalize (imm % 65536).toNat = q at hm hm2
      have e1 : (op * 67108864 + A * 4194304 + B * 262144 + 0 * 16384 + q) / 67108864 = op := by omega
      have e2 : (op * 67108864 + A * 4194304 + B * 262144 + 0 * 16384 + q) / 4194304 % 16 = A := by omega
      have e3 : (op * 67108864 + A * 4194304 + B * 262144 + 0 * 16384 + q) / 262144 % 16 = B := by omega
      have e4 : (op * 67108864 + A * 4194304 + B * 262144 + 0 * 16384 + q) % 65536 = q := by omega
      rw [e1, e2, e3, if_neg hf]
      refine ⟨?_, by omega⟩
      have himm : immOf op (op * 67108864 + A * 4194304 + B * 262144 + 0 * 16384 + q) = imm := by
        unfold immOf
        rw [if_neg hf, e4]
        rcases h2 with h2 | h2
        · exact absurd h2 hf
        · cases hp : plainB op with
          | true =>
            rw [fits_true imm hp] at h2
            simp only [Bool.and_eq_true, decide_eq_true_eq] at h2
            rw [if_pos rfl]
            omega
          | false =>
            rw [fits_false imm hp] at h2
            simp only [Bool.and_eq_true, decide_eq_true_eq] at h2
            rw [if_neg (by decide)]
            split <;> omega
      rw [himm]
  obtain ⟨k1, k2⟩ := key
  refine ⟨?_, k2⟩
  unfold mdec
  rw [k1, h, if_pos rfl]

set_option maxRecDepth 20000 in
theorem fetch (ws : List Nat) (ls : List ByteArray) (i : Nat) (hi : i < ws.length) (h32 : ws.length ≤ 32) (hw : ws.getD i 0 ≤ 4294967295) : mload (pageB ws :: ls) oneS (4 * (i : Int)) 4 = some (ws.getD i 0) := by
  have hsz := pageB_size ws h32
  have hpg : (4 * (i : Int) / 128).toNat = 0 := by omega
  have hf : mfind oneS (4 * (i : Int)) 4 false = some (0, 4 * (i : Int)) := by
    unfold mfind
    rw [if_pos ⟨.inr rfl, by omega, by omega⟩]
    have hp : pg oneS (4 * (i : Int)) = ⟨true, false, 0⟩ := by unfold pg; rw [hpg]; rfl
    rw [hp, if_pos ⟨rfl, fun h => by cases h⟩]
    rw [show 4 * (i : Int) % 128 = 4 * (i : Int) from by omega]
  have ht : thereB (pageB ws :: ls) 0 = true := by
    unfold thereB
    have e : bAt (pageB ws :: ls) (0 : Int).toNat = pageB ws := rfl
    rw [e, hsz]
    simp
  rw [mload_eq (by omega) hf ht]
  refine congrArg some ?_
  have e : bAt (pageB ws :: ls) (0 : Int).toNat = pageB ws := rfl
  rw [e, bl_extract, show (4 * (i : Int)).toNat = 4 * i from by omega, show (4 * (i : Int) + 4).toNat - 4 * i = 4 from by omega]
  have hb : ((bl (pageB ws)).drop (4 * i)).take 4 = leBytes 4 (ws.getD i 0) := by
    have hl := pageL_length ws
    have hbl : bl (pageB ws) = pageL ws ++ List.replicate (128 - 4 * ws.length) 0 := by rw [pageB, bl_mk]
    apply List.ext_getElem?
    intro k
    by_cases hk : k < 4
    · rw [List.getElem?_take_of_lt hk, List.getElem?_drop, hbl, List.getElem?_append_left (by omega), pageL_get ws i k hi hk, leBytes_get _ _ _ hk]
    · rw [List.getElem?_eq_none (by rw [List.length_take]; omega), List.getElem?_eq_none (by rw [leBytes_length]; omega)]
  rw [hb, leVal_leBytes]
  exact Nat.mod_eq_of_lt (Nat.lt_of_le_of_lt hw (by decide))
/-- A step of an instruction in a page. -/
theorem step_page (ws : List Nat) (ls : List ByteArray) (r : Nat → Int) (i : Nat) (x : Ins) (hi : i < ws.length) (h32 : ws.length ≤ 32) (h : menc x = (ws.getD i 0, 0)) : mstep r (4 * (i : Int)) oneS (pageB ws :: ls) = mexec r (4 * (i : Int)) oneS (pageB ws :: ls) x := by
  obtain ⟨hd, hw⟩ := dec_enc h
  exact mstep_ins (fetch ws ls i hi h32 hw) hd
end Go.Proofs.Ytlhcggaeecjbcaa
namespace Go.Proofs.Ytlhcggaeecjbcaa
open Go.RowKit
def regCells (r : Nat → Int) : Array Value := (cpuCells r 0).extract 0 16
theorem regCells_of (r : Nat → Int) (p : Int) : (cpuCells r p).extract 0 16 = regCells r := rfl
theorem info56 : (Try.prog.info? 56).map (·.size) = some 16 := by kernel_rfl
def load56 (a : Addr) : Sem Value := loadVar 56 a
theorem loadVar_56 (a : Addr) : loadVar 56 a = load56 a := rfl
theorem run_load56 (w : World) (b : Nat) (h : wideAt w b 16 = true) : (load56 ⟨b, 0, none⟩).run Try.prog w = .ok (subAt w b 16) w := run_loadVar_sub h Try.underlying56 rfl info56
theorem reg_facts {w : World} {b : Nat} {r : Nat → Int} {p : Int} (h : w.heap[b]? = some (.cells (cpuCells r p) 58)) : subAt w b 16 = .agg (regCells r) ∧ wideAt w b 16 = true := by
  have := sub_facts h (n := 16) (by rw [cpuCells_size]; decide)
  rw [regCells_of] at this
  exact this
theorem eq_items27G (d : Nat) (xs : Array Value) (f : Nat → Int) (w : World) : ∀ (is : List Nat), (∀ i ∈ is, xs[i]? = some (.int .u32 (f i))) → (Op.eqItems (d + 1) 27 1 xs xs is).run Try.prog w = .ok true w
  | [], _ => rfl
  | i :: is, h => by
    have hp : (part 27 xs (i * 1)).run Try.prog w = .ok (.int .u32 (f i)) w := by
      unfold part
      rw [Nat.mul_one]
      simp only [Sem.run_bind, isAgg27, Result.andThen_ok, Bool.false_eq_true, if_false, h i List.mem_cons_self, Sem.run_pure]
    have he : (Op.equalIn (d + 1) 27 (.int .u32 (f i)) (.int .u32 (f i))).run Try.prog w = .ok true w := by
      rw [run_equalIn_int w d 27 .u32 .u32 _ _ Try.underlying27]
      simp
    simp only [Op.eqItems, Sem.run_bind, hp, he, Result.andThen_ok, Bool.not_true, Bool.false_eq_true, if_false]
    exact eq_items27G d xs f w is fun j hj => h j (List.mem_cons_of_mem _ hj)
theorem eq_reg56 (r : Nat → Int) (w : World) : (Op.equalIn 10000 56 (.agg (regCells r)) (.agg (regCells r))).run Try.prog w = .ok true w := by
  obtain ⟨i, hi⟩ : ∃ i, Try.prog.info? 27 = some i := Option.isSome_iff_exists.1 (by kernel_rfl)
  rw [run_equalIn_array w 9999 _ _ Try.underlying56 hi, cellsOf27]
  refine eq_items27G 9998 _ r w _ fun j hj => ?_
  have hj' := List.mem_range.1 hj
  rw [regCells, Array.getElem?_extract, if_pos (by rw [cpuCells_size]; omega), Nat.zero_add]
  exact cpuCells_get r 0 j hj'
attribute [local go_sem ↓] loadVar_56
attribute [local go_sem] run_load56 subAt_past subAt_drew wideAt_past wideAt_drew eq_reg56
attribute [local go_sem ↓] loadVar_26 loadVar_58 loadVar_61 storeVar_26 storeVar_58 storeVar_61
attribute [local go_sem] run_load26 run_load58 run_load61 run_store26_any run_store58 run_store61 aggAt_new aggAt_past aggAt_drew rowAt_new rowAt_past rowAt_drew rowOpen_new rowOpen_past rowOpen_drew rowFree_new rowFree_past rowFree_drew setRow_made setRow_made' spCells_size cpuCells_size cpuCells_at cpuCells_at16 alloc_setRow eq_self56

/-- The branches' cpu. -/
def brR (a b : Int) (i : Nat) : Int := if i = 1 then a else if i = 2 then b else 0
theorem brR_zero (a b : Int) : upd (brR a b) 0 0 = brR a b := by
  funext k
  unfold upd brR
  by_cases h : k = 0
  · subst h; rfl
  · rw [if_neg h]
def farTo (far : Int) : Int := (4 + 4 * (far % 4294967296)) % 4294967296
theorem farTo_ne {far : Int} (h : far ≠ 0) (h0 : -32768 ≤ far) (h1 : far ≤ 32767) : farTo far ≠ 4 := by unfold farTo; omega

set_option maxRecDepth 20000 in
set_option maxHeartbeats 1000000 in
theorem br40_0 (op A B : Nat) (far : Int) (r : Nat → Int) (k5 k7 : Nat) (W : World) (n : Nat) (hn : n ≤ 4294967295) (f0 : -32768 ≤ far) (f1 : far ≤ 32767) (HE : Hid (∀ w, Calls Try.prog 36 #[.agg #[.int .u8 op, .int .u8 A, .int .u8 B, .int .u8 (0 : Nat), .int .i32 far]] w fun e w' => e = .returned (.tuple #[.int .u32 n, .int .i64 (0 : Nat)]) ∧ Below w.heap.size w w'))
        (HS : Hid (∀ (v : Value) (w : World), Strs w v [pageB [n], zeroB] → Calls Try.prog 33 #[.agg (cpuCells r 0), .agg (spCells oneS), v] w (StepPost ⟨r, 4, [pageB [n], zeroB], 0, 0⟩ w)))
    (H5 : W.heap[k5]? = some (.cells #[.int .i16 far] 81)) (H7 : W.heap[k7]? = some (.cells (cpuCells r 0) 58)) :
    Calls Try.prog 40 #[.int .u8 op, .int .u8 A, .int .u8 B, .pointer (some ⟨k5, 0, none⟩), .pointer (some ⟨k7, 0, none⟩)] W fun e w' => e = .returned (.int .i64 0) ∧ Below W.heap.size W w' := by
  have f2 : -2147483648 ≤ far := by omega
  have f3 : far ≤ 2147483647 := by omega
  have H5' := Lib.hid H5
  have H7' := Lib.hid H7
  have c5 := cell_of_heap H5 (show (#[Value.int .i16 far] : Array Value)[0]? = some (.int .i16 far) from rfl)
  obtain ⟨q1, q2⟩ := agg_facts H7 17 (cpuCells_size r 0)
  clear H5 H7
  go_enter Try.func40, Try.ntmps40
  go_wp2_with (first
    | (go_at_call 35; refine (same35 _ _ _ _ ((HS2.out.alloc _).alloc _) ((HS3.out.alloc _).alloc _) (by simp)).mono ?_; rintro e w3 ⟨rfl, hb⟩; obtain ⟨s1, s2, hb'⟩ := keep2 hb; have HB3 := Lib.hid (below_step HB2.out hb'); have s3 := keep G7.out hb'; have s4 := keep G5.out hb'; clear hb q1 q2 q3 q4 q5 q6 c5; obtain ⟨x1, x2⟩ := reg_facts s1; obtain ⟨x3, x4⟩ := reg_facts s3; have c5 := cell_of_heap s4 (show (#[Value.int .i16 far] : Array Value)[0]? = some (.int .i16 far) from rfl); have c16 := cell_of_heap s1 (cpuCells_pc r 4); clear s1 s2 s3 s4 hb')
    | (go_at_call 33; refine (HS.out v1 _ (HS1.out.alloc _)).mono ?_; rintro e w2 ⟨hb, v2, rfl, hs⟩; obtain ⟨s1, hb'⟩ := keep1 hb; have HS2 := Lib.hid hs; have HS3 := Lib.hid (HS1.out.mono hb'); have G5 := Lib.hid (keep F5.out hb'); have G7 := Lib.hid (keep F7.out hb'); have HB2 := Lib.hid (below_step HB1.out hb'); clear hb hb' hs s1 q1 q2 q3 q4 c5; obtain ⟨q1, q2⟩ := agg_facts G7.out 17 (cpuCells_size r 0); have c5 := cell_of_heap G5.out (show (#[Value.int .i16 far] : Array Value)[0]? = some (.int .i16 far) from rfl); have q3 := heap_lt G7.out; have q4 := heap_lt G5.out; have q5 := Nat.lt_add_one_of_lt q3; have q6 := Nat.lt_add_one_of_lt q4)
    | (go_at_call 37; refine (one37 op A B 0 far _ n 0 hn HE).mono ?_; rintro e w1 ⟨hb, v1, rfl, hs⟩; have HS1 := Lib.hid hs; have F5 := Lib.hid (keep H5'.out hb); have F7 := Lib.hid (keep H7'.out hb); have HB1 := Lib.hid hb; clear hs hb q1 q2 c5; obtain ⟨q1, q2⟩ := agg_facts F7.out 17 (cpuCells_size r 0); have c5 := cell_of_heap F5.out (show (#[Value.int .i16 far] : Array Value)[0]? = some (.int .i16 far) from rfl); have q3 := heap_lt F7.out; have q4 := heap_lt F5.out))
  go_ret
  exact ⟨rfl, HB3.out⟩

set_option maxRecDepth 20000 in
set_option maxHeartbeats 1000000 in
theorem br40_1 (op A B : Nat) (far : Int) (r : Nat → Int) (p2 : Int) (k5 k7 : Nat) (W : World) (n : Nat) (hp : (p2 == 4) = false) (hp2 : (p2 == (4 + 4 * (far % 4294967296)) % 4294967296) = true) (hn : n ≤ 4294967295) (f0 : -32768 ≤ far) (f1 : far ≤ 32767) (HE : Hid (∀ w, Calls Try.prog 36 #[.agg #[.int .u8 op, .int .u8 A, .int .u8 B, .int .u8 (0 : Nat), .int .i32 far]] w fun e w' => e = .returned (.tuple #[.int .u32 n, .int .i64 (0 : Nat)]) ∧ Below w.heap.size w w'))
        (HS : Hid (∀ (v : Value) (w : World), Strs w v [pageB [n], zeroB] → Calls Try.prog 33 #[.agg (cpuCells r 0), .agg (spCells oneS), v] w (StepPost ⟨r, p2, [pageB [n], zeroB], 0, 0⟩ w)))
    (H5 : W.heap[k5]? = some (.cells #[.int .i16 far] 81)) (H7 : W.heap[k7]? = some (.cells (cpuCells r 0) 58)) :
    Calls Try.prog 40 #[.int .u8 op, .int .u8 A, .int .u8 B, .pointer (some ⟨k5, 0, none⟩), .pointer (some ⟨k7, 0, none⟩)] W fun e w' => e = .returned (.int .i64 1) ∧ Below W.heap.size W w' := by
  have f2 : -2147483648 ≤ far := by omega
  have f3 : far ≤ 2147483647 := by omega
  have H5' := Lib.hid H5
  have H7' := Lib.hid H7
  have c5 := cell_of_heap H5 (show (#[Value.int .i16 far] : Array Value)[0]? = some (.int .i16 far) from rfl)
  obtain ⟨q1, q2⟩ := agg_facts H7 17 (cpuCells_size r 0)
  clear H5 H7
  go_enter Try.func40, Try.ntmps40
  go_wp2_with (first
    | (go_at_call 35; refine (same35 _ _ _ _ ((HS2.out.alloc _).alloc _) ((HS3.out.alloc _).alloc _) (by simp)).mono ?_; rintro e w3 ⟨rfl, hb⟩; obtain ⟨s1, s2, hb'⟩ := keep2 hb; have HB3 := Lib.hid (below_step HB2.out hb'); have s3 := keep G7.out hb'; have s4 := keep G5.out hb'; clear hb q1 q2 q3 q4 q5 q6 c5; obtain ⟨x1, x2⟩ := reg_facts s1; obtain ⟨x3, x4⟩ := reg_facts s3; have c5 := cell_of_heap s4 (show (#[Value.int .i16 far] : Array Value)[0]? = some (.int .i16 far) from rfl); have c16 := cell_of_heap s1 (cpuCells_pc r p2); clear s1 s2 s3 s4 hb')
    | (go_at_call 33; refine (HS.out v1 _ (HS1.out.alloc _)).mono ?_; rintro e w2 ⟨hb, v2, rfl, hs⟩; obtain ⟨s1, hb'⟩ := keep1 hb; have HS2 := Lib.hid hs; have HS3 := Lib.hid (HS1.out.mono hb'); have G5 := Lib.hid (keep F5.out hb'); have G7 := Lib.hid (keep F7.out hb'); have HB2 := Lib.hid (below_step HB1.out hb'); clear hb hb' hs s1 q1 q2 q3 q4 c5; obtain ⟨q1, q2⟩ := agg_facts G7.out 17 (cpuCells_size r 0); have c5 := cell_of_heap G5.out (show (#[Value.int .i16 far] : Array Value)[0]? = some (.int .i16 far) from rfl); have q3 := heap_lt G7.out; have q4 := heap_lt G5.out; have q5 := Nat.lt_add_one_of_lt q3; have q6 := Nat.lt_add_one_of_lt q4)
    | (go_at_call 37; refine (one37 op A B 0 far _ n 0 hn HE).mono ?_; rintro e w1 ⟨hb, v1, rfl, hs⟩; have HS1 := Lib.hid hs; have F5 := Lib.hid (keep H5'.out hb); have F7 := Lib.hid (keep H7'.out hb); have HB1 := Lib.hid hb; clear hs hb q1 q2 c5; obtain ⟨q1, q2⟩ := agg_facts F7.out 17 (cpuCells_size r 0); have c5 := cell_of_heap F5.out (show (#[Value.int .i16 far] : Array Value)[0]? = some (.int .i16 far) from rfl); have q3 := heap_lt F7.out; have q4 := heap_lt F5.out))
  go_ret
  exact ⟨rfl, HB3.out⟩
end Go.Proofs.Ytlhcggaeecjbcaa
