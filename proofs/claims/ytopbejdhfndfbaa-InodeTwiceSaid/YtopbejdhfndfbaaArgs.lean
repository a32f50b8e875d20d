/- The arguments of this seat's laws, opened. No condition. -/
import Derived.Test.YtopbejdhfndfbaaFrame
import Derived.Test.YtopbejdhfndfbaaBase
import Derived.SliceStrings
namespace Go.Proofs.Ytopbejdhfndfbaa
open Go.ChangeShapes Go.WideShapes Go.ChangeAt Go.RowKit
set_option maxRecDepth 20000
theorem weightsAll_mem {H : Type} {P : Program} {t : TypeId} : ∀ (l : List ByteArray) (x : ByteArray), x ∈ l → x.data.toList.length ∈ DataW.weightsAll P t (strs (H := H) l)
  | [], x, h => by simp at h
  | y :: l, x, h => by
    simp only [strs, List.map_cons, DataW.weightsAll, List.mem_append]
    rcases List.mem_cons.1 h with rfl | h
    · exact .inl (by simp [DataW.weights])
    · exact .inr (weightsAll_mem l x h)
theorem open_strs {H : Type} {enc : TypeId × Value → H} {W : World} {base : Nat} {v : Value} {d : DataW H} {p : List MemPlace} {ts : List TypeId} {ds : List (DataW H)} {j : Nat}
    (hval : Value.okWide Try.prog W .any base 28 v) (hd : DataW.Trod enc Try.prog W 0 (fun _ => true) true 28 v d p)
    (ht : ts[j]? = some 28) (hdj : ds[j]? = some d) (hsz : (DataW.weightsEach Try.prog ts ds).all (· ≤ reachBytes) = true) :
    ∃ l, Strs W v l ∧ (∀ i, (bAt l i).size ≤ 140737488351232) ∧ l.length ≤ 140737488351232 := by
  obtain ⟨a0, len, cap, rfl⟩ := okWide_slice Try.underlying28 hval
  obtain ⟨fuel, hf⟩ := hd
  rcases open_strings Try.underlying28 Try.underlying9 (show Try.prog.cellsOf 9 = 1 by kernel_rfl) hf with ⟨hcs, hx⟩ | ⟨a, len', cap', ss, hcs, _, hl, hm, hz, hx, hcell, _⟩
  · simp [Value.cells] at hcs
    obtain ⟨rfl, rfl, rfl⟩ := hcs
    exact ⟨[], Strs.nil W, fun i => by simp [bAt], Nat.zero_le _⟩
  · simp [Value.cells] at hcs
    obtain ⟨rfl, rfl, rfl⟩ := hcs
    obtain ⟨rfl, _⟩ : d = .slice (strs (ss.take len)) (strs (ss.drop len)) ∧ p = _ := by simpa using hx
    simp only [if_true] at hz
    have hlen : (ss.take len).length = len := by simp; omega
    refine ⟨ss.take len, ?_, ?_, ?_⟩
    · refine ⟨some a, cap, by rw [hlen], by rw [hlen]; exact hl, (fun h => by cases h), fun h0 => ?_⟩
      obtain ⟨b, off, spot⟩ := a
      rw [hlen] at h0
      have hspot : spot = none := by simpa [Addr.add] using World.cell?_spot (hcell 0 (by omega))
      subst hspot
      refine ⟨b, off, rfl, World.block_lt_of_cell? _ _ (hcell 0 (by omega)), fun i hi => ?_⟩
      rw [hlen] at hi
      rw [← add_plain, hcell i (by omega)]
      simp [bAt, List.getD, List.getElem?_take_of_lt hi]
    · intro i
      by_cases hi : i < (ss.take len).length
      · have hmem : ((ss.take len).getD i ByteArray.empty).data.toList.length ∈ DataW.weights Try.prog 28 (.slice (strs (ss.take len)) (strs (ss.drop len)) : DataW H) := by
          simp only [DataW.weights, Try.underlying28]
          refine List.mem_cons_of_mem _ (List.mem_append_left _ ?_)
          rw [List.getD, List.getElem?_eq_getElem hi]
          exact weightsAll_mem _ _ (List.getElem_mem hi)
        have := List.all_eq_true.1 hsz _ (DataW.weights_mem_each ht hdj _ hmem)
        exact of_decide_eq_true this
      · simp [bAt, List.getD, List.getElem?_eq_none (by omega : (ss.take len).length ≤ i)]
    · have hmem : ((strs (H := H) (ss.take len)).length + (strs (H := H) (ss.drop len)).length) * Try.prog.bytesOf 9 ∈ DataW.weights Try.prog 28 (.slice (strs (ss.take len)) (strs (ss.drop len)) : DataW H) := by
        simp only [DataW.weights, Try.underlying28]
        exact List.mem_cons_self
      have := List.all_eq_true.1 hsz _ (DataW.weights_mem_each ht hdj _ hmem)
      have hb : Try.prog.bytesOf 9 = 16 := by kernel_rfl
      rw [hb] at this
      simp only [reachBytes, decide_eq_true_eq, strs, List.length_map] at this
      omega
def CellsOk (W : World) (base : Nat) : List TypeId → List Value → Prop
  | [], [] => True
  | t :: ts, v :: vs => Cell.okWide Try.prog W .any base t v ∧ CellsOk W base ts vs
  | _, _ => False
theorem cellsOk_of {W : World} {base : Nat} : ∀ (ts : List TypeId) (vs : List Value), ts.length = vs.length → (∀ (i : Nat) (v : Value), vs[i]? = some v → ∃ u : TypeId, ts[i]? = some u ∧ Cell.okWide Try.prog W .any base u v) → CellsOk W base ts vs
  | [], [], _, _ => trivial
  | t :: ts, v :: vs, hl, h => by
    obtain ⟨u, hu, hc⟩ := h 0 v rfl
    obtain rfl : t = u := by simpa using hu
    exact ⟨hc, cellsOk_of ts vs (by simpa using hl) fun i x hx => by
      obtain ⟨u, hu, hc⟩ := h (i + 1) x (by simpa using hx)
      exact ⟨u, by simpa using hu, hc⟩⟩
theorem open_agg {W : World} {base : Nat} {t : TypeId} {d : TypeDesc} {v : Value} (ts : List TypeId) (hu : Try.prog.underlying t = some d) (hd : isRowD d = true)
    (hty : Try.prog.cellTypes Try.prog.depth t = some ts) (hn : Try.prog.cellsOf t = ts.length) (h : Value.okWide Try.prog W .any base t v) : ∃ vs : List Value, v = .agg vs.toArray ∧ CellsOk W base ts vs := by
  have h2 : ∃ cs, v = .agg cs ∧ cs.size = Try.prog.cellsOf t ∧ Row.okWide Try.prog W .any base t cs := by
    unfold Value.okWide at h
    rw [hu] at h
    cases d <;> first | exact h | cases hd
  obtain ⟨cs, rfl, hs, ts', hts, _, hrow⟩ := h2
  obtain rfl : ts = ts' := by rw [hty] at hts; exact Option.some.inj hts
  refine ⟨cs.toList, by simp, cellsOk_of ts cs.toList (by simp; omega) fun i x hx => ?_⟩
  obtain ⟨u, hu, hc⟩ := hrow i x (by simpa using hx)
  have hi : i < ts.length := by
    have := (List.getElem?_eq_some_iff.1 hx).1
    simp at this
    omega
  rw [Nat.mod_eq_of_lt hi] at hu
  exact ⟨u, hu, hc⟩
theorem cell_int {W : World} {base : Nat} {t : TypeId} {k : IntKind} {v : Value} (ht : Try.prog.underlying t = some (.int k)) (h : Cell.okWide Try.prog W .any base t v) : ∃ n, v = .int k n ∧ k.min ≤ n ∧ n ≤ k.max := by
  cases v <;> simp [Cell.okWide, Cell.ok, ht, IntKind.has] at h
  obtain ⟨rfl, h⟩ := h
  exact ⟨_, rfl, h⟩
theorem cell_bool {W : World} {base : Nat} {t : TypeId} {v : Value} (ht : Try.prog.underlying t = some .bool) (h : Cell.okWide Try.prog W .any base t v) : ∃ b, v = .bool b := by
  cases v <;> simp [Cell.okWide, Cell.ok, ht] at h
  exact ⟨_, rfl⟩
theorem cell_string {W : World} {base : Nat} {t : TypeId} {v : Value} (ht : Try.prog.underlying t = some .string) (h : Cell.okWide Try.prog W .any base t v) : ∃ s, v = .string s ∧ (s.size : Int) ≤ 9223372036854775807 := by
  cases v <;> simp [Cell.okWide, Cell.ok, ht] at h
  exact ⟨_, rfl, h⟩
theorem open_int3 {W : World} {base : Nat} {v : Value} (h : Cell.okWide Try.prog W .any base 3 v) : ∃ n : Int, v = .int .i64 n ∧ -9223372036854775808 ≤ n ∧ n ≤ 9223372036854775807 := cell_int Try.underlying3 h
theorem open_intk {W : World} {base : Nat} {t : TypeId} {k : IntKind} {v : Value} (ht : Try.prog.underlying t = some (.int k)) (h : Value.okWide Try.prog W .any base t v) : ∃ n : Int, v = .int k n ∧ k.min ≤ n ∧ n ≤ k.max := by
  simp only [Value.okWide, ht] at h
  exact cell_int ht h
theorem open_i64 {W : World} {base : Nat} {v : Value} (h : Value.okWide Try.prog W .any base 3 v) : ∃ n : Int, v = .int .i64 n ∧ -9223372036854775808 ≤ n ∧ n ≤ 9223372036854775807 := open_intk Try.underlying3 h
end Go.Proofs.Ytopbejdhfndfbaa
