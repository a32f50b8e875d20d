/- The arguments of this seat's laws, opened: a slice of strings as a list, a space as sixteen pages, structs cell by cell. No condition. -/
import Derived.Test.YtlhcggaeecjbcaaMmu14
import Derived.Test.YtlhcggaeecjbcaaFrame
import Derived.SliceStrings
namespace Go.Proofs.Ytlhcggaeecjbcaa
open Go.ChangeShapes Go.WideShapes Go.ChangeAt Go.RowKit
set_option maxRecDepth 20000

theorem weightsAll_mem {H : Type} {P : Program} {t : TypeId} : ∀ (l : List ByteArray) (x : ByteArray), x ∈ l → x.data.toList.length ∈ DataW.weightsAll P t (strs (H := H) l)
  | [], x, h => by simp at h
  | y :: l, x, h => by
    simp only [strs, List.map_cons, DataW.weightsAll, List.mem_append]
    rcases List.mem_cons.1 h with rfl | h
    · exact .inl (by simp [DataW.weights])
    · exact .inr (weightsAll_mem l x h)
theorem open_strs {H : Type} {enc : TypeId × Value → H} {W : World} {base : Nat} {v : Value} {d : DataW H} {p : List MemPlace} {ts : List TypeId} {ds : List (DataW H)} {j : Nat}
    (hval : Value.okWide Try.prog W .any base 22 v) (hd : DataW.Trod enc Try.prog W 0 (fun _ => true) true 22 v d p)
    (ht : ts[j]? = some 22) (hdj : ds[j]? = some d) (hsz : (DataW.weightsEach Try.prog ts ds).all (· ≤ reachBytes) = true) :
    ∃ l, Strs W v l ∧ (∀ i, (bAt l i).size ≤ 140737488351232) ∧ l.length ≤ 140737488351232 := by
  obtain ⟨a0, len, cap, rfl⟩ := okWide_slice Try.underlying22 hval
  obtain ⟨fuel, hf⟩ := hd
  rcases open_strings Try.underlying22 Try.underlying9 (show Try.prog.cellsOf 9 = 1 by kernel_rfl) hf with ⟨hcs, hx⟩ | ⟨a, len', cap', ss, hcs, _, hl, hm, hz, hx, hcell, _⟩
  · simp [Value.cells] at hcs
    obtain ⟨rfl, rfl, rfl⟩ := hcs
    exact ⟨[], Strs.nil W, fun i => by simp [bAt], Nat.zero_le _⟩
  · simp [Value.cells] at hcs
    obtain ⟨rfl, rfl, rfl⟩ := hcs
    obtain ⟨rfl, _⟩ : d = .slice (strs (ss.take len)) (strs (ss.drop len)) ∧ p = _ := by simpa using hx
    simp only [if_true] at hz
    have hlen : (ss.take len).length = len := by simp; omega
    refine ⟨ss.take len, ?_, ?_, ?_⟩
    · refine ⟨some a, cap, by rw [hlen], by rw [hlen]; exact hl, (fun h => by cases h), fun h0 => ?_⟩
      obtain ⟨b, off, spot⟩ := a
      rw [hlen] at h0
      have hspot : spot = none := by simpa [Addr.add] using World.cell?_spot (hcell 0 (by omega))
      subst hspot
      refine ⟨b, off, rfl, World.block_lt_of_cell? _ _ (hcell 0 (by omega)), fun i hi => ?_⟩
      rw [hlen] at hi
      rw [← add_plain, hcell i (by omega)]
      simp [bAt, List.getD, List.getElem?_take_of_lt hi]
    · intro i
      by_cases hi : i < (ss.take len).length
      · have hmem : ((ss.take len).getD i ByteArray.empty).data.toList.length ∈ DataW.weights Try.prog 22 (.slice (strs (ss.take len)) (strs (ss.drop len)) : DataW H) := by
          simp only [DataW.weights, Try.underlying22]
          refine List.mem_cons_of_mem _ (List.mem_append_left _ ?_)
          rw [List.getD, List.getElem?_eq_getElem hi]
          exact weightsAll_mem _ _ (List.getElem_mem hi)
        have := List.all_eq_true.1 hsz _ (DataW.weights_mem_each ht hdj _ hmem)
        exact of_decide_eq_true this
      · simp [bAt, List.getD, List.getElem?_eq_none (by omega : (ss.take len).length ≤ i)]
    · have hmem : ((strs (H := H) (ss.take len)).length + (strs (H := H) (ss.drop len)).length) * Try.prog.bytesOf 9 ∈ DataW.weights Try.prog 22 (.slice (strs (ss.take len)) (strs (ss.drop len)) : DataW H) := by
        simp only [DataW.weights, Try.underlying22]
        exact List.mem_cons_self
      have := List.all_eq_true.1 hsz _ (DataW.weights_mem_each ht hdj _ hmem)
      have hb : Try.prog.bytesOf 9 = 16 := by kernel_rfl
      rw [hb] at this
      simp only [reachBytes, decide_eq_true_eq, strs, List.length_map] at this
      omega

/-! ### structs and arrays, cell by cell -/
def CellsOk (W : World) (base : Nat) : List TypeId → List Value → Prop
  | [], [] => True
  | t :: ts, v :: vs => Cell.okWide Try.prog W .any base t v ∧ CellsOk W base ts vs
  | _, _ => False

theorem cellsOk_of {W : World} {base : Nat} : ∀ (ts : List TypeId) (vs : List Value), ts.length = vs.length → (∀ (i : Nat) (v : Value), vs[i]? = some v → ∃ u : TypeId, ts[i]? = some u ∧ Cell.okWide Try.prog W .any base u v) → CellsOk W base ts vs
  | [], [], _, _ => trivial
  | t :: ts, v :: vs, hl, h => by
    obtain ⟨u, hu, hc⟩ := h 0 v rfl
    obtain rfl : t = u := by simpa using hu
    exact ⟨hc, cellsOk_of ts vs (by simpa using hl) fun i x hx => by
      obtain ⟨u, hu, hc⟩ := h (i + 1) x (by simpa using hx)
      exact ⟨u, by simpa using hu, hc⟩⟩

theorem open_agg {W : World} {base : Nat} {t : TypeId} {d : TypeDesc} {v : Value} (ts : List TypeId) (hu : Try.prog.underlying t = some d) (hd : isRowD d = true)
    (hty : Try.prog.cellTypes Try.prog.depth t = some ts) (hn : Try.prog.cellsOf t = ts.length) (h : Value.okWide Try.prog W .any base t v) : ∃ vs : List Value, v = .agg vs.toArray ∧ CellsOk W base ts vs := by
  have h2 : ∃ cs, v = .agg cs ∧ cs.size = Try.prog.cellsOf t ∧ Row.okWide Try.prog W .any base t cs := by
    unfold Value.okWide at h
    rw [hu] at h
    cases d <;> first | exact h | cases hd
  obtain ⟨cs, rfl, hs, ts', hts, _, hrow⟩ := h2
  obtain rfl : ts = ts' := by rw [hty] at hts; exact Option.some.inj hts
  refine ⟨cs.toList, by simp, cellsOk_of ts cs.toList (by simp; omega) fun i x hx => ?_⟩
  obtain ⟨u, hu, hc⟩ := hrow i x (by simpa using hx)
  have hi : i < ts.length := by
    have := (List.getElem?_eq_some_iff.1 hx).1
    simp at this
    omega
  rw [Nat.mod_eq_of_lt hi] at hu
  exact ⟨u, hu, hc⟩

theorem cell_int {W : World} {base : Nat} {t : TypeId} {k : IntKind} {v : Value} (ht : Try.prog.underlying t = some (.int k)) (h : Cell.okWide Try.prog W .any base t v) : ∃ n, v = .int k n ∧ k.min ≤ n ∧ n ≤ k.max := by
  cases v <;> simp [Cell.okWide, Cell.ok, ht, IntKind.has] at h
  obtain ⟨rfl, h⟩ := h
  exact ⟨_, rfl, h⟩
theorem cell_bool {W : World} {base : Nat} {t : TypeId} {v : Value} (ht : Try.prog.underlying t = some .bool) (h : Cell.okWide Try.prog W .any base t v) : ∃ b, v = .bool b := by
  cases v <;> simp [Cell.okWide, Cell.ok, ht] at h
  exact ⟨_, rfl⟩
theorem cell_string {W : World} {base : Nat} {t : TypeId} {v : Value} (ht : Try.prog.underlying t = some .string) (h : Cell.okWide Try.prog W .any base t v) : ∃ s, v = .string s ∧ (s.size : Int) ≤ 9223372036854775807 := by
  cases v <;> simp [Cell.okWide, Cell.ok, ht] at h
  exact ⟨_, rfl, h⟩

def spTypes : Nat → List TypeId → List TypeId
  | 0, r => r
  | n + 1, r => 4 :: 4 :: 3 :: spTypes n r

theorem open_pages {W : World} {base : Nat} : ∀ (n : Nat) (r : List TypeId) (vs : List Value), CellsOk W base (spTypes n r) vs → ∃ (ps : List Pte) (rs : List Value), ps.length = n ∧ vs = ps.flatMap pteCells ++ rs ∧ CellsOk W base r rs
  | 0, r, vs, h => ⟨[], vs, rfl, rfl, h⟩
  | n + 1, r, [], h => by cases h
  | n + 1, r, [a], h => by cases h.2
  | n + 1, r, [a, b], h => by cases h.2.2
  | n + 1, r, a :: b :: c :: vs, h => by
    obtain ⟨x, rfl⟩ := cell_bool Try.underlying4 h.1
    obtain ⟨y, rfl⟩ := cell_bool Try.underlying4 h.2.1
    obtain ⟨z, rfl, _⟩ := cell_int Try.underlying3 h.2.2.1
    obtain ⟨ps, rs, hl, rfl, hr⟩ := open_pages n r vs h.2.2.2
    exact ⟨⟨x, y, z⟩ :: ps, rs, by simp [hl], by simp [pteCells], hr⟩

theorem pages_fn (ps : List Pte) : ps.flatMap pteCells = (List.range ps.length).flatMap fun i => pteCells (ps.getD i ⟨false, false, 0⟩) := by
  have : (List.range ps.length).map (fun i => ps.getD i ⟨false, false, 0⟩) = ps := by
    apply List.ext_getElem?
    intro i
    by_cases hi : i < ps.length
    · simp [List.getElem?_range hi, List.getElem?_eq_getElem hi]
    · simp [hi]
  conv => lhs; rw [← this]
  rw [List.flatMap_map]

theorem open_space {W : World} {base : Nat} {v : Value} (h : Value.okWide Try.prog W .any base 26 v) : ∃ s, v = .agg (spCells s) := by
  obtain ⟨vs, rfl, hc⟩ := open_agg (spTypes 16 []) Try.underlying26 rfl (by kernel_rfl) (by kernel_rfl) h
  obtain ⟨ps, rs, hl, rfl, hr⟩ := open_pages 16 [] vs hc
  cases rs with
  | cons _ _ => cases hr
  | nil =>
    refine ⟨fun i => ps.getD i ⟨false, false, 0⟩, ?_⟩
    rw [List.append_nil, pages_fn, hl]
    rfl

theorem open_int27 {W : World} {base : Nat} {v : Value} (h : Cell.okWide Try.prog W .any base 27 v) : ∃ n : Int, v = .int .u32 n ∧ 0 ≤ n ∧ n ≤ 4294967295 := cell_int Try.underlying27 h
theorem open_int3 {W : World} {base : Nat} {v : Value} (h : Cell.okWide Try.prog W .any base 3 v) : ∃ n : Int, v = .int .i64 n ∧ -9223372036854775808 ≤ n ∧ n ≤ 9223372036854775807 := cell_int Try.underlying3 h

/-- hibernaclelaw13.Span: an address, a number, bytes. -/
theorem open_span {W : World} {base : Nat} {v : Value} (h : Value.okWide Try.prog W .any base 29 v) : ∃ (a n : Int) (d : ByteArray), v = .agg #[.int .u32 a, .int .i64 n, .string d] ∧ 0 ≤ a ∧ a ≤ 4294967295 ∧ -9223372036854775808 ≤ n ∧ n ≤ 9223372036854775807 ∧ (d.size : Int) ≤ 9223372036854775807 := by
  obtain ⟨vs, rfl, hc⟩ := open_agg [27, 3, 9] Try.underlying29 rfl (by kernel_rfl) (by kernel_rfl) h
  match vs, hc with
  | [x, y, z], hc =>
    obtain ⟨a, rfl, h1, h2⟩ := open_int27 hc.1
    obtain ⟨n, rfl, h3, h4⟩ := open_int3 hc.2.1
    obtain ⟨d, rfl, h5⟩ := cell_string Try.underlying9 hc.2.2.1
    exact ⟨a, n, d, rfl, h1, h2, h3, h4, h5⟩

/-- hibernaclelaw13.By: an address, a size, whether it is written, a number. -/
theorem open_by {W : World} {base : Nat} {v : Value} (h : Value.okWide Try.prog W .any base 48 v) : ∃ (a n : Int) (b : Bool) (x : Int), v = .agg #[.int .u32 a, .int .i64 n, .bool b, .int .u32 x] ∧ 0 ≤ a ∧ a ≤ 4294967295 ∧ -9223372036854775808 ≤ n ∧ n ≤ 9223372036854775807 ∧ 0 ≤ x ∧ x ≤ 4294967295 := by
  obtain ⟨vs, rfl, hc⟩ := open_agg [27, 3, 4, 27] Try.underlying48 rfl (by kernel_rfl) (by kernel_rfl) h
  match vs, hc with
  | [x, y, z, u], hc =>
    obtain ⟨a, rfl, h1, h2⟩ := open_int27 hc.1
    obtain ⟨n, rfl, h3, h4⟩ := open_int3 hc.2.1
    obtain ⟨b, rfl⟩ := cell_bool Try.underlying4 hc.2.2.1
    obtain ⟨q, rfl, h5, h6⟩ := open_int27 hc.2.2.2.1
    exact ⟨a, n, b, q, rfl, h1, h2, h3, h4, h5, h6⟩
end Go.Proofs.Ytlhcggaeecjbcaa
