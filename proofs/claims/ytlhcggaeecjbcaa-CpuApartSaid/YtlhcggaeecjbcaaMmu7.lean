/- The contract of mmu.Lay. Condition: at most 100,000 frames. -/
import Derived.Test.YtlhcggaeecjbcaaMmu6
namespace Go.Proofs.Ytlhcggaeecjbcaa
open Go.RowKit

/-- What Lay and Store leave: frames with bytes laid, and true; or none, and false. -/
def LayPost (r : Option (List ByteArray)) (w : World) (e : Ending) (w' : World) : Prop := Below w.heap.size w w' ∧ ∃ v, e = .returned (.tuple #[v, .bool r.isSome]) ∧ Strs w' v (r.getD [])

theorem lay_end {l : List ByteArray} {s : Nat → Pte} {a : Int} {d : ByteArray} (h : (d.size : Int) < 0 ∨ 2048 < a + (d.size : Int) ∨ ∃ j : Nat, (j : Int) < d.size ∧ hit (layL s l a d j) s true (a + j) = none) : mlay l s a (bl d) = none := by
  unfold mlay
  rw [bl_length]
  split
  · rfl
  · rename_i h0
    rcases h with h | h | ⟨j, hj, hn⟩
    · omega
    · omega
    · have hjl : ((bl d).take j).length = j := by rw [List.length_take, bl_length]; omega
      rw [← List.take_append_drop j (bl d), layFrom_append, hjl]
      cases hx : layFrom s l a ((bl d).take j) with
      | none => rfl
      | some l' =>
        have hL : layL s l a d j = l' := by unfold layL; rw [hx]; rfl
        rw [hL] at hn
        rw [Option.bind_some, layFrom_none hn _ (by rw [List.length_drop, bl_length]; omega)]

theorem lay_done {l : List ByteArray} {s : Nat → Pte} {a : Int} {d : ByteArray} (h1 : a + (d.size : Int) ≤ 2048) (h : layFrom s l a ((bl d).take (d.size : Int).toNat) = some (layL s l a d (d.size : Int).toNat)) :
    mlay l s a (bl d) = some (layL s l a d (d.size : Int).toNat) := by
  unfold mlay
  rw [if_neg (by rw [bl_length]; omega), ← h, Int.toNat_natCast, List.take_of_length_le (by rw [bl_length]; exact Nat.le_refl _)]

theorem layPost_none {w w' : World} (hb : Below w.heap.size w w') : LayPost none w (.returned (.tuple #[.slice none 0 0, .bool false])) w' := ⟨hb, _, rfl, Strs.nil _⟩
theorem layPost_some {w w' : World} {v : Value} {l : List ByteArray} (hb : Below w.heap.size w w') (hs : Strs w' v l) : LayPost (some l) w (.returned (.tuple #[v, .bool true])) w' := ⟨hb, v, rfl, hs⟩

theorem layL_zero (s : Nat → Pte) (l : List ByteArray) (a : Int) (d : ByteArray) : layL s l a d 0 = l := by simp [layL, layFrom]

theorem lay_walk {v : Value} {l : List ByteArray} {s : Nat → Pte} {a : Int} {d : ByteArray} {B po pd : Nat} {W : World} (hO : Own B W v l) (hpo : W.heap[po]? = some (.cells #[v] 22 (0, 0))) (hpd : W.heap[pd]? = some (.cells #[.string d] 9 (0, 0)))
    (hB : pd < B) (hBW : B < W.heap.size) (h0 : 0 ≤ a) (h1 : a ≤ 4294967295) :
    ∃ row, B ≤ row ∧ Calls Try.prog 42 #[v, .agg (spCells s), .int .u32 a, .int .i64 d.size, .bool true, .func (.func 46) #[] #[.pointer (some ⟨po, 0, none⟩), .pointer (some ⟨pd, 0, none⟩)]] W
      (WalkEnd (layL s l a d) (LayInv s l a d v B po pd) s a d.size true W row) := by
  have hI0 : LayInv s l a d v B po pd 0 W := ⟨by rw [layL_zero]; exact hO, hpo, hpd, by rw [layL_zero]; rfl⟩
  rcases hO.form with ⟨rfl, rfl⟩ | ⟨g, cap, cur, rfl, hg, hh, _, _, _, _⟩
  · refine ⟨B, Nat.le_refl _, walk_any 46 _ _ _ s a d.size true W B (layL s [] a d) (LayInv s [] a d _ B po pd) Try.call46 hBW hI0 layInv_below (fun j w1 h => h.1.strs) ?_ h0 h1⟩
    intro j f k m w1 hI hj hhit hm
    have h1 := (hit_lt hhit).1
    have h2 := layFrom_length _ hI.2.2.2
    rw [h2] at h1
    simp at h1
  · have hne : po ≠ g := by
      intro e
      subst e
      rw [hpo] at hh
      simp at hh
    refine ⟨g, hg, walk_any 46 _ _ _ s a d.size true W g (layL s l a d) (LayInv s l a d _ B po pd) Try.call46 (heap_lt hh) hI0 layInv_below (fun j w1 h => h.1.strs) ?_ h0 h1⟩
    intro j f k m w1 hI hj hhit hm
    exact layInv_step h0 hne (by omega) j f k m w1 hI hhit hm hj

set_option maxHeartbeats 400000 in
theorem mlay_any (v : Value) (l : List ByteArray) (s : Nat → Pte) (a : Int) (d : ByteArray) (w : World) (hv : Strs w v l) (hl : l.length ≤ 100000) (h0 : 0 ≤ a) (h1 : a ≤ 4294967295) :
    Calls Try.prog 21 #[v, .agg (spCells s), .int .u32 a, .string d] w (LayPost (mlay l s a (bl d)) w) := by
  have HV := Lib.hid hv
  clear hv
  go_enter Try.func21, Try.ntmps21
  go_wp2_with fail
  refine (clone_any _ l _ ((HV.out.alloc _).alloc _) hl).mono ?_
  rintro e w1 ⟨v', rfl, ho, hb⟩
  obtain ⟨av, cap, rfl, -⟩ := ho.strs.ex
  have hlt1 : w.heap.size + 1 < w1.heap.size := by have := hb.size; simp at this; omega
  have HS := Lib.hid ((hb.block w.heap.size (by simp; omega)).trans (heap_alloc2_old _ _ _))
  obtain ⟨row, hrow, hw⟩ := lay_walk (s := s) (a := a) (d := d) (W := w1.alloc (.cells #[.slice av l.length cap] 22)) (po := w1.heap.size) (pd := w.heap.size + 1) (ho.below (below_alloc _ _)) (heap_alloc_new _ _)
    ((Below.heap_alloc _ _ _ hlt1).trans ((hb.block (w.heap.size + 1) (by simp)).trans (heap_alloc2_new _ _ _))) (by simp) (by have := hb.size; simp at this ⊢; omega) h0 h1
  have HW := Lib.hid hw
  have HR := Lib.hid hrow
  have HB := Lib.hid ((((below_alloc w (.cells (spCells s) 26)).alloc (by simp) (.cells #[.string d] 9)).trans (hb.mono (by simp; omega))).alloc (by omega) (.cells #[.slice av l.length cap] 22))
  have HD := Lib.hid ((hb.block (w.heap.size + 1) (by simp)).trans (heap_alloc2_new w (.cells (spCells s) 26) (.cells #[.string d] 9)))
  have hcd := cell_of_heap HD.out (i := 0) rfl
  clear ho hb hw hrow
  go_wp2_with ((with_reducible refine wpList_load_space s w.heap.size ?_ ?_ ?_ ?_); rfl; rfl; exact (Below.heap_alloc _ _ _ (by omega)).trans HS.out)
  refine HW.out.mono ?_
  rintro e W ⟨hg, ⟨rfl, n0, n1, hI⟩ | ⟨rfl, hno⟩⟩
  · have HBW := Lib.hid (HB.out.grown hg (by simp; omega) (fun k hk => by have hr := HR.out; simp at hr; simp only [Option.some.injEq] at hk; omega))
    have Hout := Lib.hid (lay_done n1 hI.2.2.2)
    have HO2 := Lib.hid hI.1.strs
    have hcell := cell_of_heap hI.2.1 (i := 0) rfl
    clear hg hI
    go_wp2_with fail
    go_ret2
    rw [Hout.out]
    exact layPost_some HBW.out HO2.out
  · have HBW := Lib.hid (HB.out.grown hg (by simp; omega) (fun k hk => by have hr := HR.out; simp at hr; simp only [Option.some.injEq] at hk; omega))
    have Hout := Lib.hid (lay_end hno)
    clear hg hno
    go_wp2_with fail
    go_ret2
    rw [Hout.out]
    exact layPost_none HBW.out
end Go.Proofs.Ytlhcggaeecjbcaa
