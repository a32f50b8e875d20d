/- One step of a cpu, in plain Lean, and 'append([]string(nil), frames...)'. Condition: at most 100,000 frames. -/
import Derived.Test.YtlhcggaeecjbcaaIsa8
import Derived.Test.YtlhcggaeecjbcaaAlu2
import Derived.Test.YtlhcggaeecjbcaaMmu20
namespace Go.Proofs.Ytlhcggaeecjbcaa
open Go.RowKit

structure Out where
  r : Nat → Int
  pc : Int
  l : List ByteArray
  kind : Int
  n : Int

def setR (r : Nat → Int) (a : Nat) (v : Int) : Nat → Int := upd (upd r a v) 0 0
def sextB (v : Nat) : Int := if 128 ≤ v then (v : Int) + 4294967040 else v
def memSize (op : Nat) : Int := if op = 20 ∨ op = 23 then 4 else 1
/-- The address of a load or a store. -/
def atOf (r : Nat → Int) (x : Ins) : Int := (upd r 0 0 x.B + x.imm) % 4294967296
def jumpTo (pc imm : Int) : Int := (pc + 4 + 4 * (imm % 4294967296)) % 4294967296
def mexec (r : Nat → Int) (pc : Int) (s : Nat → Pte) (l : List ByteArray) (x : Ins) : Out :=
  let r0 := upd r 0 0
  let p := (pc + 4) % 4294967296
  if x.op ≤ 13 then ⟨setR r0 x.A (alu x.op (r0 x.B) (r0 x.C)), p, l, 0, 0⟩
  else if x.op ≤ 18 then ⟨setR r0 x.A (alu (likeB x.op) (r0 x.B) (x.imm % 4294967296)), p, l, 0, 0⟩
  else if x.op = 19 then ⟨setR r0 x.A (x.imm % 4294967296 * 65536 % 4294967296), p, l, 0, 0⟩
  else if x.op ≤ 22 then
    match mload l s (atOf r x) (memSize x.op) with
    | none => ⟨r, pc, l, 2, atOf r x⟩
    | some v => ⟨setR r0 x.A (if x.op = 21 then sextB v else v), p, l, 0, 0⟩
  else if x.op ≤ 24 then
    match mstore l s (atOf r x) (memSize x.op) (r0 x.A).toNat with
    | none => ⟨r, pc, l, 2, atOf r x⟩
    | some l' => ⟨r0, p, l', 0, 0⟩
  else if x.op ≤ 28 then ⟨r0, if goesB x.op (r0 x.A) (r0 x.B) then jumpTo pc x.imm else p, l, 0, 0⟩
  else if x.op = 29 then ⟨setR r0 x.A p, jumpTo pc x.imm, l, 0, 0⟩
  else if x.op = 30 then ⟨setR r0 x.A p, atOf r x, l, 0, 0⟩
  else ⟨r0, p, l, 1, x.imm % 4294967296⟩
def mstep (r : Nat → Int) (pc : Int) (s : Nat → Pte) (l : List ByteArray) : Out :=
  match mload l s pc 4 with
  | none => ⟨r, pc, l, 2, pc⟩
  | some w => match mdec w with
    | none => ⟨r, pc, l, 3, w⟩
    | some x => mexec r pc s l x

structure ROk (r : Nat → Int) : Prop where
  lo : ∀ i, 0 ≤ r i
  hi : ∀ i, r i ≤ 4294967295
theorem ROk.upd {r : Nat → Int} (h : ROk r) (i : Nat) {v : Int} (h0 : 0 ≤ v) (h1 : v ≤ 4294967295) : ROk (upd r i v) :=
  ⟨fun k => by unfold Proofs.Ytlhcggaeecjbcaa.upd; split; exact h0; exact h.lo k, fun k => by unfold Proofs.Ytlhcggaeecjbcaa.upd; split; exact h1; exact h.hi k⟩
def insR (op : Nat) : Prop := 1 ≤ op ∧ op ≤ 31
theorem mdec_facts {n : Nat} {x : Ins} (h : mdec n = some x) : (1 ≤ x.op ∧ x.op ≤ 31) ∧ x.A ≤ 15 ∧ x.B ≤ 15 ∧ x.C ≤ 15 := by
  unfold mdec at h
  split at h
  · rename_i hm
    obtain rfl := Option.some.inj h
    generalize decIns n = x at hm
    have hop : ¬ opF x.op = 0 := by
      intro h0
      unfold menc at hm
      simp [h0] at hm
    have hb : ¬ argBad (opF x.op) x := by
      intro hb
      unfold menc at hm
      simp [hop, hb] at hm
    refine ⟨⟨?_, op_le31 hop⟩, ?_, ?_, ?_⟩
    · rcases Nat.eq_zero_or_pos x.op with h0 | h0
      · exact absurd (by rw [h0]; rfl) hop
      · exact h0
    · rcases Nat.lt_or_ge 15 x.A with h1 | h1
      · exact absurd (.inl h1) hb
      · exact h1
    · rcases Nat.lt_or_ge 15 x.B with h1 | h1
      · exact absurd (.inr (.inl h1)) hb
      · exact h1
    · rcases Nat.lt_or_ge 15 x.C with h1 | h1
      · exact absurd (.inr (.inr (.inl h1))) hb
      · exact h1
  · cases h

/-- 'append([]string(nil), frames...)'. -/
theorem wpList_append_nil_strs (B : Nat) (v : Value) (l : List ByteArray) {ops : Array Oper} {rest : List Oper} {dst : Option Tmp} {t ty : TypeId} {pos : String} {after : Array Edge} {a : Act} {w : World} {Q : Exit → Act → World → Prop} {x y : Operand}
    (ht : t = 22) (hx : a.eval x = .slice none 0 0) (hy : a.eval y = v) (hBw : B ≤ w.heap.size) (hv : Strs w v l) (hl : l.length ≤ 100000)
    (h : ∀ v' w', Own B w' v' l → w.grownBy w' none → wpList Try.prog ops Q rest (a.put dst v') w') :
    wpList Try.prog ops Q (⟨dst, .call { callee := .builtin .append, args := #[x, y], argTypes := #[t, t] }, ty, pos, after, none⟩ :: rest) a w := by
  subst ht
  obtain ⟨i0, hi, hz0, hz1, hz2⟩ := info_parts info9
  have h00 : Own B w (.slice none 0 0) [] := World.ownsRow_nil w B 9 1
  have big : ∀ u ∈ l.map Value.string, u.oneCell' = true := by intro u hu; obtain ⟨y, _, rfl⟩ := List.mem_map.1 hu; rfl
  rcases hv.shape with ⟨rfl, a0, cap, rfl, hn⟩ | ⟨h0, b, o, cap, rfl, hcap, hb, hc⟩
  · cases a0 with
    | none =>
      obtain rfl := hn rfl
      exact wpList_append_own_none rfl x y 22 rfl B 9 i0 1 Try.underlying22 hi _ 0 [] hx h00 hy (h _ _ h00 (grownBy_refl _ _))
    | some ad =>
      exact wpList_append_own _ rfl x y 22 rfl B 9 i0 (.string ⟨#[]⟩) 1 16 Try.underlying22 hi hz0 hz1 hz2 rfl (by decide) _ 0 [] hx h00 ad 0 cap [] hy rfl (by intro j u hj; simp at hj) (by intro u hu; cases hu)
        (Nat.zero_le _) (by omega) hBw (fun v' w' h1 h2 _ => h v' w' h1 h2)
  · refine wpList_append_own _ rfl x y 22 rfl B 9 i0 (.string ⟨#[]⟩) 1 16 Try.underlying22 hi hz0 hz1 hz2 rfl (by decide) _ 0 [] hx h00 ⟨b, o, none⟩ l.length cap (l.map Value.string) hy (by simp) ?_ big
        (by unfold maxLen; omega) (by omega) hBw (fun v' w' h1 h2 _ => h v' w' (by rw [Nat.zero_add] at h1; exact h1) h2)
    intro j u hj
    have hjn : j < l.length := by
      have := (List.getElem?_eq_some_iff.1 hj).1
      simpa using this
    rw [Addr.add_lit, hc j hjn, ← hj]
    simp [bAt, List.getD, hjn]
theorem below_none {w w' : World} (hg : w.grownBy w' none) : Below w.heap.size w w' :=
  (Below.refl _ _).grown hg (Nat.le_refl _) (fun k hk => by cases hk)
theorem likeB_range {op : Nat} (_h : 14 ≤ op) (_h2 : op ≤ 18) : 1 ≤ likeB op ∧ likeB op ≤ 13 := by
  unfold likeB
  repeat' split
  all_goals omega
end Go.Proofs.Ytlhcggaeecjbcaa
