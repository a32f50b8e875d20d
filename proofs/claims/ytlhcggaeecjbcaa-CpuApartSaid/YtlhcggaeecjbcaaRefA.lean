/- The contract of ref14's Step: what it answers is the plain step. Condition: at most 100,000 frames. -/
import Derived.Test.YtlhcggaeecjbcaaRef2
import Derived.Test.YtlhcggaeecjbcaaRef3
import Derived.Test.YtlhcggaeecjbcaaRef5
namespace Go.Proofs.Ytlhcggaeecjbcaa
open Go.RowKit

theorem rstore_some (v : Value) (l k : List ByteArray) (s : Nat → Pte) (a size : Int) (n : Nat) (w : World) (hv : Strs w v l) (hl : l.length ≤ 100000) (h0 : 0 ≤ a) (h1 : a ≤ 4294967295) (hn : n ≤ 4294967295) (h : mstore l s a size n = some k) :
    Calls Try.prog 30 #[v, .agg (spCells s), .int .u32 a, .int .i64 size, .int .u32 n] w fun e w' => Below w.heap.size w w' ∧ ∃ v, e = .returned (.tuple #[v, .bool true]) ∧ Strs w' v k := by
  refine (rstore_any v l s a size n w hv hl h0 h1 hn).mono ?_
  rw [h]
  exact fun _ _ h => h
theorem rstore_none (v : Value) (l : List ByteArray) (s : Nat → Pte) (a size : Int) (n : Nat) (w : World) (hv : Strs w v l) (hl : l.length ≤ 100000) (h0 : 0 ≤ a) (h1 : a ≤ 4294967295) (hn : n ≤ 4294967295) (h : mstore l s a size n = none) :
    Calls Try.prog 30 #[v, .agg (spCells s), .int .u32 a, .int .i64 size, .int .u32 n] w fun e w' => Below w.heap.size w w' ∧ ∃ v, e = .returned (.tuple #[v, .bool false]) ∧ Strs w' v [] := by
  refine (rstore_any v l s a size n w hv hl h0 h1 hn).mono ?_
  rw [h]
  exact fun _ _ h => h
theorem mstore_one (l : List ByteArray) (s : Nat → Pte) (a : Int) (n : Nat) : mstore l s a 1 (n % 256) = mstore l s a 1 n := by
  unfold mstore
  rw [show leBytes (1 : Int).toNat (n % 256) = leBytes (1 : Int).toNat n by simp [leBytes]]

theorem rstep_any (v : Value) (l : List ByteArray) (s : Nat → Pte) (r : Nat → Int) (pc : Int) (w : World) (hv : Strs w v l) (hl : l.length ≤ 100000) (h0 : 0 ≤ pc) (h1 : pc ≤ 4294967295) (hr : ROk r) :
    Calls Try.prog 34 #[.agg (cpuCells r pc), .agg (spCells s), v] w (StepPost (mstep r pc s l) w) := by
  have hR := rok0 hr
  cases hm : mload l s pc 4 with
  | none =>
    have e : mstep r pc s l = ⟨r, pc, l, 2, pc⟩ := by unfold mstep; rw [hm]
    rw [e]
    exact ref_fault0 v l s r pc w hv h0 h1 (by rw [Hid, hm]; rfl)
  | some n =>
    have hn : n ≤ 4294967295 := by have := mload_lt hm; omega
    have HM : Hid (loadOut (mload l s pc 4) = .tuple #[.int .u32 n, .bool true]) := by rw [Hid, hm]; rfl
    cases hd : mdec n with
    | none =>
      have e : mstep r pc s l = ⟨r, pc, l, 3, n⟩ := by unfold mstep; rw [hm]; simp only [hd]
      rw [e]
      exact ref_ill v l s r pc w hv h0 h1 n HM hn (by rw [Hid, hd]; rfl)
    | some x =>
      obtain ⟨⟨o1, o2⟩, a1, b1, c1⟩ := mdec_facts hd
      obtain ⟨op, A, B, C, imm⟩ := x
      have HD := Lib.hid (dec_tuple hd)
      simp only at o1 o2 a1 b1 c1
      have hA : A < 16 := by omega
      have hB : B < 16 := by omega
      have hC : C < 16 := by omega
      rw [mstep_ins hm hd]
      obtain ⟨m1, m2⟩ := mod32 (upd r 0 0 B + imm)
      rcases op_cases o1 o2 with h | ⟨h, h2⟩ | rfl | rfl | rfl | rfl | rfl | rfl | ⟨h, h2⟩ | rfl | rfl | rfl
      · rw [mexec_r h]
        exact ref_r v l s r pc w hv h0 h1 n HM hn op A B C imm HD hA hB hC o1 h hR
      · rw [mexec_i h h2]
        have : op = 14 ∨ op = 15 ∨ op = 16 ∨ op = 17 ∨ op = 18 := by omega
        rcases this with rfl | rfl | rfl | rfl | rfl
        · exact ref_i14 v l s r pc w hv h0 h1 n HM hn 14 A B C imm HD hA hB hC rfl hR
        · exact ref_i15 v l s r pc w hv h0 h1 n HM hn 15 A B C imm HD hA hB hC rfl hR
        · exact ref_i16 v l s r pc w hv h0 h1 n HM hn 16 A B C imm HD hA hB hC rfl hR
        · exact ref_i17 v l s r pc w hv h0 h1 n HM hn 17 A B C imm HD hA hB hC rfl hR
        · exact ref_i18 v l s r pc w hv h0 h1 n HM hn 18 A B C imm HD hA hB hC rfl hR
      · rw [mexec_lui]
        exact ref_lui v l s r pc w hv h0 h1 n HM hn 19 A B C imm HD hA hB hC rfl hR
      · rw [mexec_ld (by decide) (by decide), show memSize 20 = 4 from rfl]
        cases hq : mload l s ((upd r 0 0 B + imm) % 4294967296) 4 with
        | none =>
          refine ref_memno v l s r pc w hv h0 h1 n HM hn 20 A B C imm HD hA hB hC (by decide) (by decide) (setC (upd r 0 0) A 0) l hR fun W hs => ?_
          refine mem20 v l s _ _ W hs A B C imm hA hB 0 false ?_
          intro a W2 ha hs2
          subst ha
          refine (rload_any v l s _ 4 W2 hs2 m1 m2).mono ?_
          rw [hq]
          exact fun _ _ h => h
        | some z =>
          refine ref_memok v l s r pc w hv h0 h1 n HM hn 20 A B C imm HD hA hB hC (by decide) (by decide) (setR (upd r 0 0) A z) l hR fun W hs => ?_
          rw [← setC_eq]
          refine mem20 v l s _ _ W hs A B C imm hA hB z true ?_
          intro a W2 ha hs2
          subst ha
          refine (rload_any v l s _ 4 W2 hs2 m1 m2).mono ?_
          rw [hq]
          exact fun _ _ h => h
      · rw [mexec_ld (by decide) (by decide), show memSize 21 = 1 from rfl]
        cases hq : mload l s ((upd r 0 0 B + imm) % 4294967296) 1 with
        | none =>
          refine ref_memno v l s r pc w hv h0 h1 n HM hn 21 A B C imm HD hA hB hC (by decide) (by decide) (setC (upd r 0 0) A 0) l hR fun W hs => ?_
          refine mem21lo v l s _ _ W hs A B C imm hA hB 0 false ?_ (by decide) (by decide)
          intro a W2 ha hs2
          subst ha
          refine (rload_any v l s _ 1 W2 hs2 m1 m2).mono ?_
          rw [hq]
          exact fun _ _ h => h
        | some z =>
          have hz : z ≤ 255 := by have := mload_lt hq; omega
          refine ref_memok v l s r pc w hv h0 h1 n HM hn 21 A B C imm HD hA hB hC (by decide) (by decide) (setR (upd r 0 0) A (sextB z)) l hR fun W hs => ?_
          rw [← setC_eq]
          have hld : ∀ (a : Int) (W2 : World), a = (upd r 0 0 B + imm) % 4294967296 → Strs W2 v l → Calls Try.prog 28 #[v, .agg (spCells s), .int .u32 a, .int .i64 1] W2 fun e w' => e = .returned (.tuple #[.int .u32 z, .bool true]) ∧ Below W2.heap.size W2 w' := by
            intro a W2 ha hs2
            subst ha
            refine (rload_any v l s _ 1 W2 hs2 m1 m2).mono ?_
            rw [hq]
            exact fun _ _ h => h
          by_cases hz2 : 128 ≤ z
          · rw [show sextB z = (z : Int) + 4294967040 from if_pos hz2]
            exact mem21hi v l s _ _ W hs A B C imm hA hB z true hld (by omega) (by omega)
          · rw [show sextB z = (z : Int) from if_neg hz2]
            exact mem21lo v l s _ _ W hs A B C imm hA hB z true hld (by omega) (by omega)
      · rw [mexec_ld (by decide) (by decide), show memSize 22 = 1 from rfl]
        cases hq : mload l s ((upd r 0 0 B + imm) % 4294967296) 1 with
        | none =>
          refine ref_memno v l s r pc w hv h0 h1 n HM hn 22 A B C imm HD hA hB hC (by decide) (by decide) (setC (upd r 0 0) A 0) l hR fun W hs => ?_
          refine mem22 v l s _ _ W hs A B C imm hA hB 0 false ?_
          intro a W2 ha hs2
          subst ha
          refine (rload_any v l s _ 1 W2 hs2 m1 m2).mono ?_
          rw [hq]
          exact fun _ _ h => h
        | some z =>
          refine ref_memok v l s r pc w hv h0 h1 n HM hn 22 A B C imm HD hA hB hC (by decide) (by decide) (setR (upd r 0 0) A z) l hR fun W hs => ?_
          rw [← setC_eq]
          refine mem22 v l s _ _ W hs A B C imm hA hB z true ?_
          intro a W2 ha hs2
          subst ha
          refine (rload_any v l s _ 1 W2 hs2 m1 m2).mono ?_
          rw [hq]
          exact fun _ _ h => h
      · rw [mexec_st (by decide) (by decide), show memSize 23 = 4 from rfl]
        have hA2 : (((upd r 0 0 A).toNat : Nat) : Int) = upd r 0 0 A := Int.toNat_of_nonneg (hR.lo A)
        have hA3 : (upd r 0 0 A).toNat ≤ 4294967295 := by have := hR.hi A; omega
        cases hq : mstore l s ((upd r 0 0 B + imm) % 4294967296) 4 (upd r 0 0 A).toNat with
        | none =>
          refine ref_memno v l s r pc w hv h0 h1 n HM hn 23 A B C imm HD hA hB hC (by decide) (by decide) (upd r 0 0) [] hR fun W hs => ?_
          refine mem23 v l s _ _ W hs A B C imm hA hB false [] ?_
          intro a b W2 ha hb hs2
          subst ha hb
          rw [← hA2]
          exact rstore_none v l s _ 4 _ W2 hs2 hl m1 m2 hA3 hq
        | some l' =>
          refine ref_memok v l s r pc w hv h0 h1 n HM hn 23 A B C imm HD hA hB hC (by decide) (by decide) (upd r 0 0) l' hR fun W hs => ?_
          refine mem23 v l s _ _ W hs A B C imm hA hB true l' ?_
          intro a b W2 ha hb hs2
          subst ha hb
          rw [← hA2]
          exact rstore_some v l l' s _ 4 _ W2 hs2 hl m1 m2 hA3 hq
      · rw [mexec_st (by decide) (by decide), show memSize 24 = 1 from rfl]
        have hA2 : ((((upd r 0 0 A).toNat % 256 : Nat)) : Int) = upd r 0 0 A % 256 := by have := hR.lo A; omega
        have hA3 : (upd r 0 0 A).toNat % 256 ≤ 4294967295 := by omega
        cases hq : mstore l s ((upd r 0 0 B + imm) % 4294967296) 1 (upd r 0 0 A).toNat with
        | none =>
          rw [← mstore_one] at hq
          refine ref_memno v l s r pc w hv h0 h1 n HM hn 24 A B C imm HD hA hB hC (by decide) (by decide) (upd r 0 0) [] hR fun W hs => ?_
          refine mem24 v l s _ _ W hs A B C imm hA hB hR false [] ?_
          intro a b W2 ha hb hs2
          subst ha hb
          rw [← hA2]
          exact rstore_none v l s _ 1 _ W2 hs2 hl m1 m2 hA3 hq
        | some l' =>
          rw [← mstore_one] at hq
          refine ref_memok v l s r pc w hv h0 h1 n HM hn 24 A B C imm HD hA hB hC (by decide) (by decide) (upd r 0 0) l' hR fun W hs => ?_
          refine mem24 v l s _ _ W hs A B C imm hA hB hR true l' ?_
          intro a b W2 ha hb hs2
          subst ha hb
          rw [← hA2]
          exact rstore_some v l l' s _ 1 _ W2 hs2 hl m1 m2 hA3 hq
      · rw [mexec_b h h2]
        cases hg : goesB op (upd r 0 0 A) (upd r 0 0 B) with
        | true =>
          rw [if_pos rfl]
          exact ref_brT v l s r pc w hv h0 h1 n HM hn op A B C imm HD hA hB hC h h2 hR (by
            intro W
            rw [← hg]
            exact (goes_any op _ _ W h h2 (hR.lo A) (hR.hi A) (hR.lo B) (hR.hi B)).mono fun _ _ h => ⟨h.1, h.2.symm⟩)
        | false =>
          rw [if_neg (by decide)]
          exact ref_brF v l s r pc w hv h0 h1 n HM hn op A B C imm HD hA hB hC h h2 hR (by
            intro W
            rw [← hg]
            exact (goes_any op _ _ W h h2 (hR.lo A) (hR.hi A) (hR.lo B) (hR.hi B)).mono fun _ _ h => ⟨h.1, h.2.symm⟩)
      · rw [mexec_jal]
        exact ref_jal v l s r pc w hv h0 h1 n HM hn 29 A B C imm HD hA hB hC rfl hR
      · rw [mexec_jalr]
        exact ref_jalr v l s r pc w hv h0 h1 n HM hn 30 A B C imm HD hA hB hC rfl hR
      · rw [mexec_sys]
        exact ref_sys v l s r pc w hv h0 h1 n HM hn 31 A B C imm HD hA hB hC rfl hR
end Go.Proofs.Ytlhcggaeecjbcaa
