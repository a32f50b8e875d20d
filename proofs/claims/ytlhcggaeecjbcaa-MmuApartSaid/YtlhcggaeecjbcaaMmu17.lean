/- Bytes piece by piece are bytes at once: the law MmuPieces in plain Lean; its argument opened. No condition. -/
import Derived.Test.YtlhcggaeecjbcaaMmu16
import Derived.Lib.SmallJoins
namespace Go.Proofs.Ytlhcggaeecjbcaa
open Go.ChangeShapes Go.WideShapes Go.ChangeAt Go.RowKit
set_option maxRecDepth 20000

theorem pieces_none {l : List ByteArray} {s : Nat → Pte} {a : Int} {x y : List UInt8} (h : mlay l s a x = none) : mlay l s a (x ++ y) = none := by
  unfold mlay at h ⊢
  by_cases h1 : 2048 < a + (x ++ y).length
  · rw [if_pos h1]
  · rw [if_neg h1]
    rw [if_neg (by rw [List.length_append] at h1; omega)] at h
    rw [layFrom_append, h]
    rfl
theorem mlay_le {l m : List ByteArray} {s : Nat → Pte} {a : Int} {x : List UInt8} (h : mlay l s a x = some m) : a + x.length ≤ 2048 ∧ layFrom s l a x = some m := by
  unfold mlay at h
  split at h
  · cases h
  · exact ⟨by omega, h⟩
theorem pieces_some {l m : List ByteArray} {s : Nat → Pte} {a : Int} {x y : List UInt8} (h : mlay l s a x = some m) : mlay l s a (x ++ y) = mlay m s (a + x.length) y := by
  obtain ⟨h1, h2⟩ := mlay_le h
  unfold mlay
  rw [List.length_append]
  by_cases h3 : 2048 < a + x.length + y.length
  · rw [if_pos h3, if_pos (by omega)]
  · rw [if_neg h3, if_neg (by omega), layFrom_append, h2]
    rfl
theorem pieces_copy {l : List ByteArray} {s : Nat → Pte} {a : Int} {m n : Nat} {z : List UInt8} (h : mcopy l s a (m + n : Nat) = some z) : ∃ x y, mcopy l s a m = some x ∧ mcopy l s (a + m) n = some y ∧ z = x ++ y ∧ a + m + n ≤ 2048 := by
  unfold mcopy at h
  split at h
  · cases h
  · rename_i hc
    rw [show ((m + n : Nat) : Int).toNat = m + n from by omega, copyFrom_add] at h
    obtain ⟨x, hx, h⟩ := Option.bind_eq_some_iff.1 h
    obtain ⟨y, hy, rfl⟩ := Option.map_eq_some_iff.1 h
    refine ⟨x, y, ?_, ?_, rfl, by omega⟩
    · unfold mcopy; rw [if_neg (by omega), Int.toNat_natCast]; exact hx
    · unfold mcopy; rw [if_neg (by omega), Int.toNat_natCast]; exact hy

def pieceCells (a : Int) (x y : ByteArray) : Array Value := #[.int .u32 a, .string x, .string y]
theorem open_pieces {H : Type} {enc : TypeId × Value → H} {W : World} {base : Nat} {v : Value} {d : DataW H} {p : List MemPlace} {ts : List TypeId} {ds : List (DataW H)} {j : Nat}
    (hval : Value.okWide Try.prog W .any base 45 v) (hd : DataW.Trod enc Try.prog W 0 (fun _ => true) true 45 v d p)
    (ht : ts[j]? = some 45) (hdj : ds[j]? = some d) (hsz : (DataW.weightsEach Try.prog ts ds).all (· ≤ reachBytes) = true) :
    ∃ (a : Int) (x y : ByteArray), v = .agg (pieceCells a x y) ∧ 0 ≤ a ∧ a ≤ 4294967295 ∧ x.size ≤ 140737488351232 ∧ y.size ≤ 140737488351232 := by
  obtain ⟨vs, hv, hc⟩ := open_agg [27, 9, 9] Try.underlying45 rfl (by kernel_rfl) (by kernel_rfl) hval
  obtain ⟨v0, v1, v2, y0, y1, y2, n, rfl, rfl, _, t0, t1, t2⟩ := Joins.open_agg3 Try.underlying45 (by kernel_rfl) (by kernel_rfl) hval hd
  obtain rfl : vs = [v0, v1, v2] := by
    have := congrArg Array.toList (Value.agg.inj hv)
    simpa using this.symm
  obtain ⟨a, rfl, h1, h2⟩ := open_int27 hc.1
  obtain ⟨x, rfl, _⟩ := cell_string Try.underlying9 hc.2.1
  obtain ⟨y, rfl, _⟩ := cell_string Try.underlying9 hc.2.2.1
  obtain ⟨x', hx', rfl, _⟩ := DataW.trod_string Try.underlying9 t1
  obtain ⟨y', hy', rfl, _⟩ := DataW.trod_string Try.underlying9 t2
  obtain rfl : x = x' := by simpa using hx'
  obtain rfl : y = y' := by simpa using hy'
  refine ⟨a, x, y, rfl, h1, h2, ?_, ?_⟩
  · have := List.all_eq_true.1 hsz _ (DataW.weights_mem_each ht hdj x.data.toList.length (by simp [DataW.weights, DataW.weightsEach, Try.underlying45]))
    exact of_decide_eq_true this
  · have := List.all_eq_true.1 hsz _ (DataW.weights_mem_each ht hdj y.data.toList.length (by simp [DataW.weights, DataW.weightsEach, Try.underlying45]))
    exact of_decide_eq_true this
theorem have2_allPieces {w0 w : World} {s : Nat → Pte} {a : Int} {x y : ByteArray} (h : Have2 w0 (spCells s) (pieceCells a x y) 45 w) :
    aggAt w w0.heap.size = .agg (spCells s) ∧ rowAt w w0.heap.size 48 = true ∧ w.cell? ⟨w0.heap.size + 1, 0, none⟩ = some (.int .u32 a) ∧ w.cell? ⟨w0.heap.size + 1, 1, none⟩ = some (.string x) ∧ w.cell? ⟨w0.heap.size + 1, 2, none⟩ = some (.string y) :=
  ⟨(have2_space h).1, (have2_space h).2, have2_cell h 0 rfl, have2_cell h 1 rfl, have2_cell h 2 rfl⟩
end Go.Proofs.Ytlhcggaeecjbcaa
