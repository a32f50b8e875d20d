/- The arguments of the laws of volumes that are acted on: two bytes, a slice of int16. No condition. -/
import Derived.Test.YtopbejdhfndfbaaArgs
import Derived.Test.YtopbejdhfndfbaaGeoH
import Derived.ChangeSlices
namespace Go.Proofs.Ytopbejdhfndfbaa
open Go.ChangeShapes Go.WideShapes Go.ChangeAt Go.RowKit
set_option maxRecDepth 20000
theorem open_two {W : World} {base : Nat} {v : Value} (h : Value.okWide Try.prog W .any base 39 v) : ∃ a b : Int, v = .agg #[.int .u8 a, .int .u8 b] ∧ 0 ≤ a ∧ a ≤ 255 ∧ 0 ≤ b ∧ b ≤ 255 := by
  obtain ⟨vs, rfl, hc⟩ := open_agg [5, 5] Try.underlying39 rfl (by kernel_rfl) (by kernel_rfl) h
  match vs, hc with
  | [x, y], hc =>
    obtain ⟨a, rfl, h1, h2⟩ := cell_int Try.underlying5 hc.1
    obtain ⟨b, rfl, h3, h4⟩ := cell_int Try.underlying5 hc.2.1
    exact ⟨a, b, rfl, h1, h2, h3, h4⟩
theorem open_str {W : World} {base : Nat} {v : Value} (h : Value.okWide Try.prog W .any base 9 v) : ∃ s, v = .string s := by
  simp only [Value.okWide, Try.underlying9] at h
  obtain ⟨s, rfl, -⟩ := cell_string Try.underlying9 h
  exact ⟨s, rfl⟩
theorem open_i16s {H : Type} {enc : TypeId × Value → H} {W : World} {base : Nat} {v : Value} {d : DataW H} {p : List MemPlace}
    (hval : Value.okWide Try.prog W .any base 40 v) (hd : DataW.Trod enc Try.prog W 0 (fun _ => true) true 40 v d p) : ∃ l, Ints W v l := by
  obtain ⟨a0, len, cap, rfl⟩ := okWide_slice Try.underlying40 hval
  obtain ⟨fuel, hf⟩ := hd
  rcases open_ints Try.underlying40 Try.underlying69 (show Try.prog.cellsOf 69 = 1 by kernel_rfl) hf with ⟨hcs, hx⟩ | ⟨a, len', cap', zs, hcs, _, hl, hm, hz, hx, hcell, hwf⟩
  · simp [Value.cells] at hcs
    obtain ⟨rfl, rfl, rfl⟩ := hcs
    exact ⟨[], ⟨none, 0, rfl, fun h => absurd h (by simp)⟩, fun i hi => absurd hi (by simp)⟩
  · simp [Value.cells] at hcs
    obtain ⟨rfl, rfl, rfl⟩ := hcs
    simp only [if_true] at hz
    have hlen : (zs.take len).length = len := by simp; omega
    have hg : ∀ i, i < len → (zs.take len).getD i 0 = zs.getD i 0 := fun i hi => by simp [List.getD, List.getElem?_take_of_lt hi]
    refine ⟨zs.take len, ⟨some a, cap, by rw [hlen], fun h0 => ?_⟩, fun i hi => ?_⟩
    · obtain ⟨b, off, spot⟩ := a
      rw [hlen] at h0
      have hspot : spot = none := by simpa [Addr.add] using World.cell?_spot (hcell 0 (by omega))
      subst hspot
      refine ⟨b, off, rfl, World.block_lt_of_cell? _ _ (hcell 0 (by omega)), fun i hi => ?_⟩
      rw [hlen] at hi
      rw [← add_plain, hcell i (by omega), hg i hi]
    · rw [hlen] at hi
      rw [hg i hi]
      have hm : zs.getD i 0 ∈ zs := by simp [List.getD, (by omega : i < zs.length)]
      have := hwf _ hm
      simp only [Lit.wf, Bool.and_eq_true, decide_eq_true_eq] at this
      exact this
end Go.Proofs.Ytopbejdhfndfbaa
