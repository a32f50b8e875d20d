/- The contract of cpu.Step: what it answers is the plain step. Condition: at most 100,000 frames. -/
import Derived.Test.YtlhcggaeecjbcaaStep4
import Derived.Test.YtlhcggaeecjbcaaMmu20
namespace Go.Proofs.Ytlhcggaeecjbcaa
open Go.RowKit

theorem mload_lt {l : List ByteArray} {s : Nat → Pte} {a size : Int} {n : Nat} (h : mload l s a size = some n) : (size = 1 ∧ n ≤ 255) ∨ (size = 4 ∧ n ≤ 4294967295) := by
  unfold mload at h
  split at h
  · rename_i hc
    cases hx : copyFrom l s a size.toNat with
    | none => simp [hx] at h
    | some x =>
      rw [hx, Option.map_some] at h
      obtain rfl := Option.some.inj h
      have hl := copyFrom_length _ hx
      have hv := leVal_lt x
      rw [hl] at hv
      rcases hc.1 with rfl | rfl
      · have : (2 : Nat) ^ (8 * (1 : Int).toNat) = 256 := rfl
        exact .inl ⟨rfl, by omega⟩
      · have : (2 : Nat) ^ (8 * (4 : Int).toNat) = 4294967296 := rfl
        exact .inr ⟨rfl, by omega⟩
  · cases h
theorem mstep_ins {l : List ByteArray} {s : Nat → Pte} {r : Nat → Int} {pc : Int} {n : Nat} {x : Ins} (hm : mload l s pc 4 = some n) (hd : mdec n = some x) : mstep r pc s l = mexec r pc s l x := by
  unfold mstep
  rw [hm]
  simp only [hd]
theorem sext_eq (n : Nat) : (if (128 : Int) ≤ (n : Int) then (n : Int) + 4294967040 else (n : Int)) = sextB n := by
  unfold sextB
  split <;> split <;> omega
theorem rok0 {r : Nat → Int} (h : ROk r) : ROk (upd r 0 0) := h.upd 0 (by decide) (by decide)
theorem dec_tuple {n : Nat} {op A B C : Nat} {imm : Int} (hd : mdec n = some ⟨op, A, B, C, imm⟩) : decOut (mdec n) = .tuple #[.agg #[.int .u8 op, .int .u8 A, .int .u8 B, .int .u8 C, .int .i32 imm], .bool true] := by
  rw [hd]; rfl
theorem mod32 (x : Int) : 0 ≤ x % 4294967296 ∧ x % 4294967296 ≤ 4294967295 := by omega

theorem mexec_r {l : List ByteArray} {s : Nat → Pte} {r : Nat → Int} {pc : Int} {op A B C : Nat} {imm : Int} (h : op ≤ 13) : mexec r pc s l ⟨op, A, B, C, imm⟩ = ⟨setR (upd r 0 0) A (alu op (upd r 0 0 B) (upd r 0 0 C)), (pc + 4) % 4294967296, l, 0, 0⟩ := if_pos h
theorem mexec_i {l : List ByteArray} {s : Nat → Pte} {r : Nat → Int} {pc : Int} {op A B C : Nat} {imm : Int} (h : 14 ≤ op) (h2 : op ≤ 18) : mexec r pc s l ⟨op, A, B, C, imm⟩ = ⟨setR (upd r 0 0) A (alu (likeB op) (upd r 0 0 B) (imm % 4294967296)), (pc + 4) % 4294967296, l, 0, 0⟩ :=
  (if_neg (show ¬ op ≤ 13 by omega)).trans (if_pos h2)
theorem mexec_lui {l : List ByteArray} {s : Nat → Pte} {r : Nat → Int} {pc : Int} {A B C : Nat} {imm : Int} : mexec r pc s l ⟨19, A, B, C, imm⟩ = ⟨setR (upd r 0 0) A (imm % 4294967296 * 65536 % 4294967296), (pc + 4) % 4294967296, l, 0, 0⟩ := rfl
theorem mexec_ld {l : List ByteArray} {s : Nat → Pte} {r : Nat → Int} {pc : Int} {op A B C : Nat} {imm : Int} (h : 20 ≤ op) (h2 : op ≤ 22) : mexec r pc s l ⟨op, A, B, C, imm⟩ =
    match mload l s ((upd r 0 0 B + imm) % 4294967296) (memSize op) with
    | none => ⟨r, pc, l, 2, (upd r 0 0 B + imm) % 4294967296⟩
    | some v => ⟨setR (upd r 0 0) A (if op = 21 then sextB v else v), (pc + 4) % 4294967296, l, 0, 0⟩ :=
  (if_neg (show ¬ op ≤ 13 by omega)).trans ((if_neg (show ¬ op ≤ 18 by omega)).trans ((if_neg (show ¬ op = 19 by omega)).trans (if_pos h2)))
theorem mexec_st {l : List ByteArray} {s : Nat → Pte} {r : Nat → Int} {pc : Int} {op A B C : Nat} {imm : Int} (h : 23 ≤ op) (h2 : op ≤ 24) : mexec r pc s l ⟨op, A, B, C, imm⟩ =
    match mstore l s ((upd r 0 0 B + imm) % 4294967296) (memSize op) (upd r 0 0 A).toNat with
    | none => ⟨r, pc, l, 2, (upd r 0 0 B + imm) % 4294967296⟩
    | some l' => ⟨upd r 0 0, (pc + 4) % 4294967296, l', 0, 0⟩ :=
  (if_neg (show ¬ op ≤ 13 by omega)).trans ((if_neg (show ¬ op ≤ 18 by omega)).trans ((if_neg (show ¬ op = 19 by omega)).trans ((if_neg (show ¬ op ≤ 22 by omega)).trans (if_pos h2))))
theorem mexec_b {l : List ByteArray} {s : Nat → Pte} {r : Nat → Int} {pc : Int} {op A B C : Nat} {imm : Int} (h : 25 ≤ op) (h2 : op ≤ 28) : mexec r pc s l ⟨op, A, B, C, imm⟩ = ⟨upd r 0 0, if goesB op (upd r 0 0 A) (upd r 0 0 B) then jumpTo pc imm else (pc + 4) % 4294967296, l, 0, 0⟩ :=
  (if_neg (show ¬ op ≤ 13 by omega)).trans ((if_neg (show ¬ op ≤ 18 by omega)).trans ((if_neg (show ¬ op = 19 by omega)).trans ((if_neg (show ¬ op ≤ 22 by omega)).trans ((if_neg (show ¬ op ≤ 24 by omega)).trans (if_pos h2)))))
theorem mexec_jal {l : List ByteArray} {s : Nat → Pte} {r : Nat → Int} {pc : Int} {A B C : Nat} {imm : Int} : mexec r pc s l ⟨29, A, B, C, imm⟩ = ⟨setR (upd r 0 0) A ((pc + 4) % 4294967296), jumpTo pc imm, l, 0, 0⟩ := rfl
theorem mexec_jalr {l : List ByteArray} {s : Nat → Pte} {r : Nat → Int} {pc : Int} {A B C : Nat} {imm : Int} : mexec r pc s l ⟨30, A, B, C, imm⟩ = ⟨setR (upd r 0 0) A ((pc + 4) % 4294967296), (upd r 0 0 B + imm) % 4294967296, l, 0, 0⟩ := rfl
theorem mexec_sys {l : List ByteArray} {s : Nat → Pte} {r : Nat → Int} {pc : Int} {A B C : Nat} {imm : Int} : mexec r pc s l ⟨31, A, B, C, imm⟩ = ⟨upd r 0 0, (pc + 4) % 4294967296, l, 1, imm % 4294967296⟩ := rfl
theorem op_cases {op : Nat} (h1 : 1 ≤ op) (h2 : op ≤ 31) : op ≤ 13 ∨ (14 ≤ op ∧ op ≤ 18) ∨ op = 19 ∨ op = 20 ∨ op = 21 ∨ op = 22 ∨ op = 23 ∨ op = 24 ∨ (25 ≤ op ∧ op ≤ 28) ∨ op = 29 ∨ op = 30 ∨ op = 31 := by omega

theorem step_any (v : Value) (l : List ByteArray) (s : Nat → Pte) (r : Nat → Int) (pc : Int) (w : World) (hv : Strs w v l) (hl : l.length ≤ 100000) (h0 : 0 ≤ pc) (h1 : pc ≤ 4294967295) (hr : ROk r) :
    Calls Try.prog 33 #[.agg (cpuCells r pc), .agg (spCells s), v] w (StepPost (mstep r pc s l) w) := by
  have HL := Lib.hid hl
  have hR := rok0 hr
  cases hm : mload l s pc 4 with
  | none =>
    have e : mstep r pc s l = ⟨r, pc, l, 2, pc⟩ := by unfold mstep; rw [hm]
    rw [e]
    exact step_fault0 v l s r pc w hv HL h0 h1 (by rw [Hid, hm]; rfl)
  | some n =>
    have hn : n ≤ 4294967295 := by have := mload_lt hm; omega
    have HM : Hid (loadOut (mload l s pc 4) = .tuple #[.int .u32 n, .bool true]) := by rw [Hid, hm]; rfl
    cases hd : mdec n with
    | none =>
      have e : mstep r pc s l = ⟨r, pc, l, 3, n⟩ := by unfold mstep; rw [hm]; simp only [hd]
      rw [e]
      exact step_ill v l s r pc w hv HL h0 h1 n HM hn (by rw [Hid, hd]; rfl)
    | some x =>
      obtain ⟨⟨o1, o2⟩, a1, b1, c1⟩ := mdec_facts hd
      obtain ⟨op, A, B, C, imm⟩ := x
      have HD := Lib.hid (dec_tuple hd)
      simp only at o1 o2 a1 b1 c1
      have hA : A < 16 := by omega
      have hB : B < 16 := by omega
      have hC : C < 16 := by omega
      rw [mstep_ins hm hd]
      obtain ⟨m1, m2⟩ := mod32 (upd r 0 0 B + imm)
      rcases op_cases o1 o2 with h | ⟨h, h2⟩ | rfl | rfl | rfl | rfl | rfl | rfl | ⟨h, h2⟩ | rfl | rfl | rfl
      · rw [mexec_r h]
        exact step_r v l s r pc w hv HL h0 h1 n HM hn op A B C imm HD hA hB hC o1 h hR
      · rw [mexec_i h h2]
        exact step_i v l s r pc w hv HL h0 h1 n HM hn op A B C imm HD hA hB hC h h2 hR
      · rw [mexec_lui]
        exact step_lui v l s r pc w hv HL h0 h1 n HM hn 19 A B C imm HD hA hB hC rfl hR
      · rw [mexec_ld (by decide) (by decide), show memSize 20 = 4 from rfl]
        cases hq : mload l s ((upd r 0 0 B + imm) % 4294967296) 4 with
        | none =>
          exact step_ldno v l s r pc w hv HL h0 h1 n HM hn 20 A B C imm HD hA hB hC (by decide) (by decide) 0 hR (by
            intro a v' W ha hs
            subst ha
            exact load55_20 v' l s _ 0 false W hs m1 m2 (by rw [Hid, hq]; rfl))
        | some z =>
          exact step_ldok v l s r pc w hv HL h0 h1 n HM hn 20 A B C imm HD hA hB hC (by decide) (by decide) z hR (by
            intro a v' W ha hs
            subst ha
            exact load55_20 v' l s _ z true W hs m1 m2 (by rw [Hid, hq]; rfl))
      · rw [mexec_ld (by decide) (by decide), show memSize 21 = 1 from rfl]
        cases hq : mload l s ((upd r 0 0 B + imm) % 4294967296) 1 with
        | none =>
          exact step_ldno v l s r pc w hv HL h0 h1 n HM hn 21 A B C imm HD hA hB hC (by decide) (by decide) 0 hR (by
            intro a v' W ha hs
            subst ha
            exact load55_21 v' l s _ 0 false W hs m1 m2 (by decide) (by decide) (by rw [Hid, hq]; rfl))
        | some z =>
          have hz : z ≤ 255 := by have := mload_lt hq; omega
          exact step_ldok v l s r pc w hv HL h0 h1 n HM hn 21 A B C imm HD hA hB hC (by decide) (by decide) (sextB z) hR (by
            intro a v' W ha hs
            subst ha
            rw [← sext_eq]
            exact load55_21 v' l s _ z true W hs m1 m2 (by omega) (by omega) (by rw [Hid, hq]; rfl))
      · rw [mexec_ld (by decide) (by decide), show memSize 22 = 1 from rfl]
        cases hq : mload l s ((upd r 0 0 B + imm) % 4294967296) 1 with
        | none =>
          exact step_ldno v l s r pc w hv HL h0 h1 n HM hn 22 A B C imm HD hA hB hC (by decide) (by decide) 0 hR (by
            intro a v' W ha hs
            subst ha
            exact load55_22 v' l s _ 0 false W hs m1 m2 (by rw [Hid, hq]; rfl))
        | some z =>
          exact step_ldok v l s r pc w hv HL h0 h1 n HM hn 22 A B C imm HD hA hB hC (by decide) (by decide) z hR (by
            intro a v' W ha hs
            subst ha
            exact load55_22 v' l s _ z true W hs m1 m2 (by rw [Hid, hq]; rfl))
      · rw [mexec_st (by decide) (by decide), show memSize 23 = 4 from rfl]
        have hA2 : (((upd r 0 0 A).toNat : Nat) : Int) = upd r 0 0 A := Int.toNat_of_nonneg (hR.lo A)
        have hA3 : (upd r 0 0 A).toNat ≤ 4294967295 := by have := hR.hi A; omega
        cases hq : mstore l s ((upd r 0 0 B + imm) % 4294967296) 4 (upd r 0 0 A).toNat with
        | none =>
          exact step_stno23 v l s r pc w hv HL h0 h1 n HM hn 23 A B C imm HD hA hB hC rfl hR (by
            intro a b v' W ha hb hs
            subst ha hb
            rw [← hA2]
            exact store_none v' l s _ 4 _ W hs hl m1 m2 hA3 hq)
        | some l' =>
          exact step_stok23 v l s r pc w hv HL h0 h1 n HM hn 23 A B C imm HD hA hB hC rfl hR l' (by
            intro a b v' W ha hb hs
            subst ha hb
            rw [← hA2]
            exact store_some v' l l' s _ 4 _ W hs hl m1 m2 hA3 hq)
      · rw [mexec_st (by decide) (by decide), show memSize 24 = 1 from rfl]
        have hA2 : (((upd r 0 0 A).toNat : Nat) : Int) = upd r 0 0 A := Int.toNat_of_nonneg (hR.lo A)
        have hA3 : (upd r 0 0 A).toNat ≤ 4294967295 := by have := hR.hi A; omega
        cases hq : mstore l s ((upd r 0 0 B + imm) % 4294967296) 1 (upd r 0 0 A).toNat with
        | none =>
          exact step_stno24 v l s r pc w hv HL h0 h1 n HM hn 24 A B C imm HD hA hB hC rfl hR (by
            intro a b v' W ha hb hs
            subst ha hb
            rw [← hA2]
            exact store_none v' l s _ 1 _ W hs hl m1 m2 hA3 hq)
        | some l' =>
          exact step_stok24 v l s r pc w hv HL h0 h1 n HM hn 24 A B C imm HD hA hB hC rfl hR l' (by
            intro a b v' W ha hb hs
            subst ha hb
            rw [← hA2]
            exact store_some v' l l' s _ 1 _ W hs hl m1 m2 hA3 hq)
      · rw [mexec_b h h2]
        cases hg : goesB op (upd r 0 0 A) (upd r 0 0 B) with
        | true =>
          rw [if_pos rfl]
          exact step_brT v l s r pc w hv HL h0 h1 n HM hn op A B C imm HD hA hB hC h h2 hR (by
            intro W
            rw [← hg]
            exact jumps_any op _ _ W h h2)
        | false =>
          rw [if_neg (by decide)]
          exact step_brF v l s r pc w hv HL h0 h1 n HM hn op A B C imm HD hA hB hC h h2 hR (by
            intro W
            rw [← hg]
            exact jumps_any op _ _ W h h2)
      · rw [mexec_jal]
        exact step_jal v l s r pc w hv HL h0 h1 n HM hn 29 A B C imm HD hA hB hC rfl hR
      · rw [mexec_jalr]
        exact step_jalr v l s r pc w hv HL h0 h1 n HM hn 30 A B C imm HD hA hB hC rfl hR
      · rw [mexec_sys]
        exact step_sys v l s r pc w hv HL h0 h1 n HM hn 31 A B C imm HD hA hB hC rfl hR
end Go.Proofs.Ytlhcggaeecjbcaa
