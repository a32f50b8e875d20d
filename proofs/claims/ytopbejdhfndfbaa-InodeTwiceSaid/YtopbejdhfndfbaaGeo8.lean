/- Slices of strings in memory of the call's own; contracts of with and With. Condition: at most 100,000 blocks. -/
import Derived.Test.YtopbejdhfndfbaaGeo2
import Derived.Laws.CopyOwn
namespace Go.Proofs.Ytopbejdhfndfbaa
open Go.RowKit
set_option maxRecDepth 20000
structure Row (B : Nat) (w : World) (g cap : Nat) (l : List ByteArray) : Prop where
  ex : ∃ cur, w.heap[g]? = some (.cells cur 9 (0, 0)) ∧ cur.size = cap ∧ cur.toList.take l.length = l.map Value.string
  lo : B ≤ g
  len : l.length ≤ cap
  cap : cap ≤ maxLen
theorem Row.own {B : Nat} {w : World} {g cap : Nat} {l : List ByteArray} (h : Row B w g cap l) : Own B w (.slice (some ⟨g, 0, none⟩) l.length cap) l := by
  obtain ⟨cur, h1, h2, h3⟩ := h.ex
  exact Own.mk h.lo h1 h.len h.cap h2 h3
theorem Row.own' {B : Nat} {w : World} {g cap n : Nat} {l : List ByteArray} (h : Row B w g cap l) (hn : n = l.length) : Own B w (.slice (some ⟨g, 0, none⟩) n cap) l := by
  subst hn; exact h.own
theorem Own.row {B : Nat} {w : World} {v : Value} {l : List ByteArray} (h : Own B w v l) (h0 : 0 < l.length) : ∃ g cap, v = .slice (some ⟨g, 0, none⟩) l.length cap ∧ Row B w g cap l := by
  rcases h.form with ⟨rfl, _⟩ | ⟨g, cap, cur, h1, h2, h3, h4, h5, h6, h7⟩
  · simp at h0
  · exact ⟨g, cap, h1, ⟨cur, h3, h6, h7⟩, h2, h4, h5⟩
theorem Row.cell {B : Nat} {w : World} {g cap : Nat} {l : List ByteArray} (h : Row B w g cap l) {i : Nat} (hi : i < l.length) : w.cell? ⟨g, i, none⟩ = some (.string (bAt l i)) := by
  obtain ⟨cur, h1, _, h3⟩ := h.ex
  exact cell_of_heap h1 (own_cell h3 i hi)
theorem Row.froz {B : Nat} {w : World} {g cap : Nat} {l : List ByteArray} (h : Row B w g cap l) (i : Nat) : w.frozen? ⟨g, i, none⟩ = false := by
  obtain ⟨cur, h1, _, _⟩ := h.ex
  exact frozen_of_heap h1
theorem Row.lt {B : Nat} {w : World} {g cap : Nat} {l : List ByteArray} (h : Row B w g cap l) : g < w.heap.size := by
  obtain ⟨cur, h1, _, _⟩ := h.ex
  exact heap_lt h1
theorem Row.step {B : Nat} {w w' : World} {g cap : Nat} {l : List ByteArray} (h : Row B w g cap l) (hb : Below w.heap.size w w') : Row B w' g cap l := by
  obtain ⟨cur, h1, h2, h3⟩ := h.ex
  exact ⟨⟨cur, keep h1 hb, h2, h3⟩, h.lo, h.len, h.cap⟩
theorem Row.drew {B : Nat} {w : World} {g cap : Nat} {l : List ByteArray} (h : Row B w g cap l) : Row B w.drew g cap l := ⟨h.ex, h.lo, h.len, h.cap⟩
theorem heap_setCell_row (w : World) (g i : Nat) (cur : Array Value) (t : TypeId) (x : Value) (h : w.heap[g]? = some (.cells cur t (0, 0))) : (w.setCell ⟨g, i, none⟩ x).heap[g]? = some (.cells (cur.setIfInBounds i x) t (0, 0)) := by
  unfold World.setCell
  simp [Array.getElem?_modify, h]
theorem Row.set {B : Nat} {w : World} {g cap : Nat} {l : List ByteArray} (h : Row B w g cap l) {i : Nat} (_hi : i < l.length) (x : ByteArray) : Row B (w.setCell ⟨g, i, none⟩ (.string x)) g cap (l.set i x) := by
  obtain ⟨cur, h1, h2, h3⟩ := h.ex
  refine ⟨⟨_, heap_setCell_row w g i cur 9 _ h1, by rw [Array.size_setIfInBounds, h2], ?_⟩, h.lo, by rw [List.length_set]; exact h.len, h.cap⟩
  rw [List.length_set, List.map_set, ← h3, Array.toList_setIfInBounds, List.take_set]
theorem below_setCell {W w : World} {B g : Nat} (h : Below B W w) (hg : B ≤ g) (i : Nat) (x : Value) : Below B W (w.setCell ⟨g, i, none⟩ x) :=
  ⟨h.os, h.tape, h.output, by show W.heap.size ≤ (w.heap.modify _ _).size; rw [Array.size_modify]; exact h.size, fun k hk => (Below.heap_setCell w ⟨g, i, none⟩ x k (fun e => by simp only at e; omega)).trans (h.block k hk)⟩
def strC (l : List ByteArray) : Array Value := (l.map Value.string).toArray
theorem strC_size (l : List ByteArray) : (strC l).size = l.length := by simp [strC]
theorem strC_get (l : List ByteArray) (i : Nat) (h : i < l.length) : (strC l)[i]? = some (.string (bAt l i)) := by simp [strC, bAt, List.getD, h]
theorem strC_set (l : List ByteArray) (i : Nat) (x : ByteArray) : (strC l).setIfInBounds i (.string x) = strC (l.set i x) := by
  simp only [strC, List.setIfInBounds_toArray, ← List.map_set]
theorem row_of {w : World} {g : Nat} {B : Nat} {l : List ByteArray} (h : w.heap[g]? = some (.cells (strC l) 9 (0, 0))) (hB : B ≤ g) (hl : l.length ≤ 100000) : Row B w g l.length l :=
  ⟨⟨_, h, strC_size l, by simp [strC]; exact List.take_of_length_le (by simp)⟩, hB, Nat.le_refl _, by unfold maxLen; omega⟩
theorem info9 : (Try.prog.info? 9).map (fun i => (i.zero, i.size, i.bytes)) = some (some (.string ⟨#[]⟩), 1, 16) := by kernel_rfl
theorem madeCells_strs (n : Nat) : madeCells (Value.string ⟨#[]⟩).cells n = strC (List.replicate n ByteArray.empty) := by
  simp only [madeCells, strC, List.map_replicate]
  apply Array.ext
  · simp
  · intro i h1 h2
    simp [Value.cells, Nat.mod_one]
    rfl
theorem run_make_strs (size : Nat) (hs : size ≤ 100000) (w : World) :
    (Instr.makeSlice 28 (.int .i64 size) (.int .i64 size)).run Try.prog w = .ok (.slice (some ⟨w.heap.size, 0, none⟩) size size) (w.alloc (.cells (strC (List.replicate size ByteArray.empty)) 9)) := by
  obtain ⟨i0, hi, hz0, hz1, hz2⟩ := info_parts info9
  have h := run_make (P := Try.prog) w 28 9 i0 (.string ⟨#[]⟩) Try.underlying28 hi hz0 .i64 .i64 size size (by omega) (by omega) (by rw [hz2]; omega) (by omega)
  rw [h, Int.toNat_natCast, hz1, Nat.mul_one, madeCells_strs]
/-- append of a list to an empty one of the call's own. -/
theorem wpList_append_strs (B : Nat) (lv v : Value) (l : List ByteArray) {ops : Array Oper} {rest : List Oper} {dst : Option Tmp} {t ty : TypeId} {pos : String} {after : Array Edge} {a : Act} {w : World} {Q : Exit → Act → World → Prop} {x y : Operand}
    (ht : t = 28) (hx : a.eval x = lv) (hy : a.eval y = v) (hBw : B ≤ w.heap.size) (h00 : Own B w lv []) (hv : Strs w v l) (h0 : 0 < l.length) (hl : l.length ≤ 100000)
    (h : ∀ v' w', Own B w' v' l → Below B w w' → wpList Try.prog ops Q rest (a.put dst v') w') :
    wpList Try.prog ops Q (⟨dst, .call { callee := .builtin .append, args := #[x, y], argTypes := #[t, t] }, ty, pos, after, none⟩ :: rest) a w := by
  subst ht
  obtain ⟨i0, hi, hz0, hz1, hz2⟩ := info_parts info9
  have big : ∀ u ∈ l.map Value.string, u.oneCell' = true := by intro u hu; obtain ⟨y, _, rfl⟩ := List.mem_map.1 hu; rfl
  rcases hv.shape with ⟨rfl, a0, cap, rfl, hn⟩ | ⟨_, b, o, cap, rfl, hcap, hb, hc⟩
  · simp at h0
  · refine wpList_append_own _ rfl x y 28 rfl B 9 i0 (.string ⟨#[]⟩) 1 16 Try.underlying28 hi hz0 hz1 hz2 rfl (by decide) lv 0 [] hx h00 ⟨b, o, none⟩ l.length cap (l.map Value.string) hy (by simp) ?_ big
        (by unfold maxLen; omega) (by omega) hBw (fun v' w' h1 h2 _ => h v' w' (by rw [Nat.zero_add] at h1; exact h1) ?_)
    · intro j u hj
      have hjn : j < l.length := by
        have := (List.getElem?_eq_some_iff.1 hj).1
        simpa using this
      rw [Addr.add_lit, hc j hjn, ← hj]
      simp [bAt, List.getD, hjn]
    · refine (Below.refl _ _).grown h2 hBw (fun k hk => ?_)
      rcases h00.form with ⟨-, rfl⟩ | ⟨g, cap, cur, rfl, h2, -⟩
      · cases hk
      · obtain rfl := Option.some.inj hk
        exact h2
/-- append of one text to a list of the call's own. -/
theorem wpList_append_one (B : Nat) (lv : Value) (l : List ByteArray) (z : ByteArray) (W : World) {ops : Array Oper} {rest : List Oper} {dst : Option Tmp} {t ty : TypeId} {pos : String} {after : Array Edge} {a : Act} {Q : Exit → Act → World → Prop} {x y : Operand}
    (ht : t = 28) (hx : a.eval x = lv) (hy : a.eval y = .slice (some ⟨W.heap.size, 0, none⟩) 1 1) (hO : Own B W lv l) (hBw : B ≤ W.heap.size) (hl : l.length ≤ 100000)
    (h : ∀ v' w', Own B w' v' (l ++ [z]) → Below B (W.alloc (.cells #[.string z] 9)) w' → wpList Try.prog ops Q rest (a.put dst v') w') :
    wpList Try.prog ops Q (⟨dst, .call { callee := .builtin .append, args := #[x, y], argTypes := #[t, t] }, ty, pos, after, none⟩ :: rest) a (W.alloc (.cells #[.string z] 9)) := by
  subst ht
  obtain ⟨i0, hi, hz0, hz1, hz2⟩ := info_parts info9
  refine wpList_append_own _ rfl x y 28 rfl B 9 i0 (.string ⟨#[]⟩) 1 16 Try.underlying28 hi hz0 hz1 hz2 rfl (by decide) lv l.length (l.map .string) hx (World.ownsRow.alloc hO _) ⟨W.heap.size, 0, none⟩ 1 1 [.string z] hy rfl ?_ ?_ (by unfold maxLen; omega) (by omega) (by rw [alloc_size]; omega) ?_
  · intro j u hj
    match j, hj with
    | 0, hj => simp at hj; subst hj; simp [Addr.add]
    | j + 1, hj => simp at hj
  · intro u hu; simp at hu; subst hu; rfl
  · intro v' w' hown hgrow _
    refine h v' w' ?_ ?_
    · unfold Own
      rw [List.length_append, List.map_append]
      exact hown
    · refine (Below.refl _ _).grown hgrow (by rw [alloc_size]; omega) (fun k hk => ?_)
      rcases hO.form with ⟨-, rfl⟩ | ⟨g, cap, cur, rfl, h2, -⟩
      · cases hk
      · obtain rfl := Option.some.inj hk
        exact h2
def WithPost (l : List ByteArray) (w : World) (e : Ending) (w' : World) : Prop := ∃ v, e = .returned v ∧ Own w.heap.size w' v l ∧ Below w.heap.size w w'
theorem copied_row (l : List ByteArray) (w : World) (n : Nat) (hn : l.length = n) : (w.alloc (.cells (strC (List.replicate n ByteArray.empty)) 9)).setRow w.heap.size (((strC (List.replicate n ByteArray.empty)).toList.take 0 ++ l.map Value.string ++ (strC (List.replicate n ByteArray.empty)).toList.drop (0 + (l.map Value.string).length)).toArray) = w.alloc (.cells (strC l) 9) := by
  rw [setRow_new, List.take_zero, List.nil_append, List.drop_of_length_le (by rw [Array.length_toList, strC_size]; simp [hn]), List.append_nil]
  rfl
set_option maxHeartbeats 400000 in
theorem with_any (v : Value) (l : List ByteArray) (i : Nat) (x : ByteArray) (w : World) (hv : Strs w v l) (hi : i < l.length) (hl : l.length ≤ 100000) :
    Calls Try.prog 56 #[v, .int .i64 i, .string x] w (WithPost (l.set i x) w) := by
  rcases hv.shape with ⟨rfl, _⟩ | ⟨h0, b, o, cap, rfl, hcap, hb, hc⟩
  · simp at hi
  have hmk := run_make_strs l.length hl
  have HC : Hid (∀ j u, (l.map Value.string)[j]? = some u → (w.alloc (.cells (strC (List.replicate l.length ByteArray.empty)) 9)).cell? ((⟨b, o, none⟩ : Addr).add j) = some u) := by
    intro j u hj
    have hjn : j < l.length := by
      have := (List.getElem?_eq_some_iff.1 hj).1
      simpa using this
    rw [Addr.add_lit, (below_one w (.cells (strC (List.replicate l.length ByteArray.empty)) 9)).cell (p := ⟨b, o + j, none⟩) hb, hc j hjn, ← hj]
    simp [bAt, List.getD, hjn]
  have big : Hid (∀ u ∈ l.map Value.string, u.oneCell' = true) := by intro u hu; obtain ⟨y, _, rfl⟩ := List.mem_map.1 hu; rfl
  have hget := strC_get l i hi
  have hsi : (i : Int) < l.length := by omega
  have HS := Lib.hid (strC_set l i x)
  have hn : (l.map Value.string).length = Nat.min l.length l.length := by rw [List.length_map]; exact (Nat.min_self _).symm
  have hfit : 0 + (l.map Value.string).length ≤ (strC (List.replicate l.length ByteArray.empty)).size := by rw [strC_size, List.length_map, List.length_replicate]; omega
  have hcp := run_copy_row (P := Try.prog) (w.alloc (.cells (strC (List.replicate l.length ByteArray.empty)) 9)) 28 28 3 9 w.heap.size 0 l.length l.length ⟨b, o, none⟩ l.length cap _ 9 (l.map Value.string) Try.underlying28 (by kernel_rfl) (heap_alloc_new _ _) hn HC.out hfit big.out
  rw [copied_row l w l.length rfl] at hcp
  clear hc hv hb hn hfit HC big
  go_enter Try.func56, Try.ntmps56
  go_wp2_with fail
  go_ret
  rw [HS.out]
  have hr := row_of (B := w.heap.size) (l := l.set i x) (heap_alloc_new w (.cells (strC (l.set i x)) 9)) (Nat.le_refl _) (by rw [List.length_set]; exact hl)
  rw [List.length_set] at hr
  exact ⟨_, rfl, hr.own' List.length_set.symm, below_one _ _⟩
set_option maxHeartbeats 400000 in
theorem rwith_any (v : Value) (l : List ByteArray) (i : Nat) (x : ByteArray) (w : World) (hv : Strs w v l) (hi : i < l.length) (hl : l.length ≤ 100000) :
    Calls Try.prog 57 #[v, .int .i64 i, .string x] w (WithPost (l.set i x) w) := by
  have HV := Lib.hid hv
  have hsi : (i : Int) < l.length := by omega
  have h0 := Lib.hid (show 0 < l.length by omega)
  clear hv
  go_enter Try.func57, Try.ntmps57
  go_wp2_with (at_builtin; refine wpList_append_strs w.heap.size _ v l rfl rfl rfl (Nat.le_of_lt (by rw [alloc_size]; exact Nat.lt_succ_self _)) (Own.mk (l := []) (Nat.le_refl _) (heap_alloc_new _ _) (Nat.le_refl 0) (by unfold maxLen; omega) rfl rfl) (HV.out.alloc _) h0.out hl ?_; intro lv W1 hown hb1; obtain ⟨g, cap, rfl, hR⟩ := hown.row h0.out; have HR := Lib.hid hR; have HB := Lib.hid hb1; have c1 := hR.cell hi; have c2 := hR.froz i; clear hown hb1 hR)
  go_ret
  refine ⟨_, rfl, (HR.out.set hi x).own' List.length_set.symm, below_setCell ((below_one _ _).trans HB.out) HR.out.lo _ _⟩
end Go.Proofs.Ytopbejdhfndfbaa
