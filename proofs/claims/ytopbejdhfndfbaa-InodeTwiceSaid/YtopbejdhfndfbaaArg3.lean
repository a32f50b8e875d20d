/- The arguments of law 18: an inode. No condition. -/
import Derived.Test.YtopbejdhfndfbaaArgs
import Derived.Test.YtopbejdhfndfbaaInoP
import Derived.Carry
namespace Go.Proofs.Ytopbejdhfndfbaa
open Go.ChangeShapes Go.WideShapes Go.ChangeAt Go.RowKit
set_option maxRecDepth 20000
theorem open_cells3 {W : World} {base : Nat} : ∀ (n : Nat) (vs : List Value), CellsOk W base (List.replicate n 3) vs → ∃ ns : List Int, ns.length = n ∧ vs = ns.map (Value.int .i64) ∧ ∀ x ∈ ns, -9223372036854775808 ≤ x ∧ x ≤ 9223372036854775807
  | 0, [], _ => ⟨[], rfl, rfl, fun x h => by cases h⟩
  | 0, _ :: _, h => by cases h
  | n + 1, [], h => by cases h
  | n + 1, v :: vs, h => by
    obtain ⟨a, rfl, h0, h1⟩ := open_int3 h.1
    obtain ⟨ns, hl, rfl, hx⟩ := open_cells3 n vs h.2
    refine ⟨a :: ns, by simp [hl], rfl, fun x hm => ?_⟩
    rcases List.mem_cons.1 hm with rfl | hm
    · exact ⟨h0, h1⟩
    · exact hx x hm
theorem open_ino {W : World} {base : Nat} {v : Value} (h : Value.okWide Try.prog W .any base 48 v) : ∃ c, v = .agg (inoC c) ∧ InR c := by
  obtain ⟨vs, rfl, hc⟩ := open_agg (List.replicate 12 3) Try.underlying48 rfl (by kernel_rfl) (by kernel_rfl) h
  obtain ⟨ns, hl, rfl, hx⟩ := open_cells3 12 vs hc
  match ns, hl with
  | [x0, x1, x2, x3, x4, x5, x6, x7, x8, x9, x10, x11], _ =>
    refine ⟨fun k => [x0, x1, x2, x3, x4, x5, x6, x7, x8, x9, x10, x11].getD k 0, rfl, fun k hk => ?_⟩
    refine hx _ ?_
    show [x0, x1, x2, x3, x4, x5, x6, x7, x8, x9, x10, x11].getD k 0 ∈ _
    rw [List.getD_eq_getElem?_getD, List.getElem?_eq_getElem (by simpa using hk), Option.getD_some]
    exact List.getElem_mem _
end Go.Proofs.Ytopbejdhfndfbaa
