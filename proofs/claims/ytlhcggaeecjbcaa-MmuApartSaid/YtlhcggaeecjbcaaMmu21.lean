/- A set of numbers kept as a map to bools that the call has made: asked and stored into. A space's frames and their bounds. No condition. -/
import Derived.Test.YtlhcggaeecjbcaaMmu17
import Derived.Test.YtlhcggaeecjbcaaLaws
import Derived.Maps.OwnSet
import Derived.Maps.Views
import Derived.Deep.QuietTactic
import Derived.BigQuiet
namespace Go.Proofs.Ytlhcggaeecjbcaa
open Go.ChangeShapes Go.WideShapes Go.ChangeAt Go.RowKit
set_option maxRecDepth 20000

/-- Block 'b' is a map of at most 'n' entries; a number's bool is 'S'. -/
def Seen (b n : Nat) (S : Int → Bool) (w : World) : Prop :=
  ∃ D : DataW Unit, w.ownsMap Try.prog 3 (plainElem Try.prog 4) b n D ∧ Maps.IsMap D ∧ ∀ x, D.atKey (.int .i64 x) (.lit (.bool false)) = .lit (.bool (S x))

theorem wf_i64 {x : Int} (h0 : -9223372036854775808 ≤ x) (h1 : x ≤ 9223372036854775807) : (Lit.int .i64 x).wf = true := by
  simp [Lit.wf, IntKind.min, IntKind.max, IntKind.signed, IntKind.bits]
  omega
theorem K3 : Maps.Keyed Try.prog 3 := Maps.int_keyed Try.underlying3
theorem zero4 (w : World) : (zeroValue 4).run Try.prog w = .ok (.bool false) w := by kernel_rfl
theorem seen_new (w : World) : Seen w.heap.size 0 (fun _ => false) (w.alloc (.map #[] 0)) :=
  ⟨.map [], World.ownsMap_made _ _ _ _, Maps.isMap_empty, fun _ => rfl⟩
theorem seen_look {b n : Nat} {S : Int → Bool} {w : World} (h : Seen b n S w) (x : Int) (h0 : -9223372036854775808 ≤ x) (h1 : x ≤ 9223372036854775807) :
    (Instr.lookup 42 (.map (some b)) (.int .i64 x) false).run Try.prog w = .ok (.bool (S x)) w := by
  obtain ⟨D, ho, _, hS⟩ := h
  have hkey : keyOf Try.prog 3 (.int .i64 x) = some (.int .i64 x) := Maps.keyOf_int_mk Try.underlying3 (wf_i64 h0 h1)
  obtain ⟨v, ps, hrun, hv⟩ := ho.lookup K3 Try.underlying42 (zero4 w) (plainElem_bool Try.underlying4 false) hkey
  rw [hS x] at hv
  have : v = .bool (S x) := by
    unfold plainElem at hv
    rw [Try.underlying4] at hv
    cases v <;> simp at hv
    rw [hv.1]
  rw [hrun, this]
theorem seen_kept {b n : Nat} {S : Int → Bool} {w w' : World} {row : Option Nat} (h : Seen b n S w) (hg : w.grownBy w' row) (hne : some b ≠ row) : Seen b n S w' := by
  obtain ⟨D, ho, hm, hS⟩ := h
  exact ⟨D, ho.kept hg hne, hm, hS⟩
theorem seen_put {b n : Nat} {S : Int → Bool} {w' : World} {D : DataW Unit} (hm : Maps.IsMap D) (hS : ∀ x, D.atKey (.int .i64 x) (.lit (.bool false)) = .lit (.bool (S x))) (x : Int)
    (h : w'.ownsMap Try.prog 3 (plainElem Try.prog 4) b (n + 1) (D.put (.int .i64 x) (.lit (.bool true)))) : Seen b (n + 1) (fun y => decide (y = x) || S y) w' := by
  refine ⟨_, h, hm.put _ _, fun y => ?_⟩
  by_cases hy : y = x
  · subst hy
    rw [Maps.atKey_put_same hm (show WideAt.IsKeyLit (.int .i64 y) from trivial)]
    simp
  · rw [Maps.atKey_put_other (by intro e; cases e; exact hy rfl), hS y]
    simp [hy]

/-! ### the frames' bounds -/
def Bounded (s : Nat → Pte) : Prop := ∀ i, -9223372036854775808 ≤ (s i).frame ∧ (s i).frame ≤ 9223372036854775807
theorem open_pages2 {W : World} {base : Nat} : ∀ (n : Nat) (r : List TypeId) (vs : List Value), CellsOk W base (spTypes n r) vs → ∃ (ps : List Pte) (rs : List Value), ps.length = n ∧ vs = ps.flatMap pteCells ++ rs ∧ CellsOk W base r rs ∧ ∀ p ∈ ps, -9223372036854775808 ≤ p.frame ∧ p.frame ≤ 9223372036854775807
  | 0, r, vs, h => ⟨[], vs, rfl, rfl, h, fun p hp => by simp at hp⟩
  | n + 1, r, [], h => by cases h
  | n + 1, r, [a], h => by cases h.2
  | n + 1, r, [a, b], h => by cases h.2.2
  | n + 1, r, a :: b :: c :: vs, h => by
    obtain ⟨x, rfl⟩ := cell_bool Try.underlying4 h.1
    obtain ⟨y, rfl⟩ := cell_bool Try.underlying4 h.2.1
    obtain ⟨z, rfl, hz0, hz1⟩ := open_int3 h.2.2.1
    obtain ⟨ps, rs, hl, rfl, hr, hb⟩ := open_pages2 n r vs h.2.2.2
    refine ⟨⟨x, y, z⟩ :: ps, rs, by simp [hl], by simp [pteCells], hr, fun p hp => ?_⟩
    rcases List.mem_cons.1 hp with rfl | hp
    · exact ⟨hz0, hz1⟩
    · exact hb p hp
theorem bounded_of {ps : List Pte} (h : ∀ p ∈ ps, -9223372036854775808 ≤ p.frame ∧ p.frame ≤ 9223372036854775807) : Bounded fun i => ps.getD i ⟨false, false, 0⟩ := by
  intro i
  by_cases hi : i < ps.length
  · have e : ps.getD i ⟨false, false, 0⟩ = ps[i] := by rw [List.getD, List.getElem?_eq_getElem hi]; rfl
    show _ ≤ (ps.getD i ⟨false, false, 0⟩).frame ∧ (ps.getD i ⟨false, false, 0⟩).frame ≤ _
    rw [e]
    exact h _ (List.getElem_mem hi)
  · have e : ps.getD i ⟨false, false, 0⟩ = ⟨false, false, 0⟩ := by rw [List.getD, List.getElem?_eq_none (by omega)]; rfl
    show _ ≤ (ps.getD i ⟨false, false, 0⟩).frame ∧ (ps.getD i ⟨false, false, 0⟩).frame ≤ _
    rw [e]
    exact ⟨by decide, by decide⟩
theorem open_space2 {W : World} {base : Nat} {v : Value} (h : Value.okWide Try.prog W .any base 26 v) : ∃ s, v = .agg (spCells s) ∧ Bounded s := by
  obtain ⟨vs, rfl, hc⟩ := open_agg (spTypes 16 []) Try.underlying26 rfl (by kernel_rfl) (by kernel_rfl) h
  obtain ⟨ps, rs, hl, rfl, hr, hb⟩ := open_pages2 16 [] vs hc
  cases rs with
  | cons _ _ => cases hr
  | nil =>
    refine ⟨fun i => ps.getD i ⟨false, false, 0⟩, ?_, bounded_of hb⟩
    rw [List.append_nil, pages_fn, hl]
    rfl
end Go.Proofs.Ytlhcggaeecjbcaa
