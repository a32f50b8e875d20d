/- The contracts of mmu.Copy and mmu.Lay: they come to what the plain functions give. Condition: none but that the frames read as a list. -/
import Derived.Test.YtlhcggaeecjbcaaMmu4
import Derived.Test.YtlhcggaeecjbcaaShelf
namespace Go.Proofs.Ytlhcggaeecjbcaa
open Go.RowKit

def copyOut : Option (List UInt8) → Value
  | none => .tuple #[.string ⟨#[]⟩, .bool false]
  | some x => .tuple #[.string ⟨x.toArray⟩, .bool true]

theorem cell_of_heap {w : World} {b i : Nat} {cs : Array Value} {t : TypeId} {fr : Nat × Nat} {x : Value} (h : w.heap[b]? = some (.cells cs t fr)) (hx : cs[i]? = some x) : w.cell? ⟨b, i, none⟩ = some x := by
  simp [World.cell?, h, hx]
theorem frozen_of_heap {w : World} {b i : Nat} {cs : Array Value} {t : TypeId} (h : w.heap[b]? = some (.cells cs t (0, 0))) : w.frozen? ⟨b, i, none⟩ = false := by
  simp [World.frozen?, h]

theorem grownBy_setCell (w : World) (b i : Nat) (x : Value) : w.grownBy (w.setCell ⟨b, i, none⟩ x) (some b) :=
  ⟨rfl, rfl, rfl, by simp, fun k _ hn => Below.heap_setCell w ⟨b, i, none⟩ x k (fun e => hn (by simp only at e; rw [e]))⟩
theorem grownBy_drew {w w1 : World} {row : Option Nat} (h : w.grownBy w1 row) : w.grownBy w1.drew row := ⟨h.os, h.tape, h.output, h.size, h.block⟩

/-- What the walk of Copy keeps: the frames, and the text so far. -/
def CopyInv (l : List ByteArray) (s : Nat → Pte) (v : Value) (a : Int) (B : Nat) (j : Nat) (W : World) : Prop :=
  Strs W v l ∧ W.heap[B]? = some (.cells #[v] 22 (0, 0)) ∧ ∃ out, W.heap[B + 2]? = some (.cells #[.string out] 9 (0, 0)) ∧ copyFrom l s a j = some (bl out)

theorem heap_lt {w : World} {b : Nat} {o : Obj} (h : w.heap[b]? = some o) : b < w.heap.size := (Array.getElem?_eq_some_iff.1 h).1

theorem copyInv_below {l : List ByteArray} {s : Nat → Pte} {v : Value} {a : Int} {B : Nat} (j : Nat) (w1 w2 : World) (h : CopyInv l s v a B j w1) (hb : Below w1.heap.size w1 w2) : CopyInv l s v a B j w2 := by
  obtain ⟨h1, h2, out, h3, h4⟩ := h
  exact ⟨h1.mono hb, (hb.block _ (heap_lt h2)).trans h2, out, (hb.block _ (heap_lt h3)).trans h3, h4⟩

theorem Strs.grown {w w' : World} {a : Option Addr} {n cap : Nat} {l : List ByteArray} {row : Nat} (h : Strs w (.slice a n cap) l) (hg : w.grownBy w' (some row)) (hr : ∀ b o, a = some ⟨b, o, none⟩ → b ≠ row) : Strs w' (.slice a n cap) l := by
  obtain ⟨a', cap', e, hc, hn, hp⟩ := h.ex
  refine ⟨a', cap', e, hc, hn, fun h0 => ?_⟩
  obtain ⟨b, o, rfl, hlt, hcell⟩ := hp h0
  simp only [Value.slice.injEq] at e
  have hne := hr b o e.1
  refine ⟨b, o, rfl, Nat.lt_of_lt_of_le hlt hg.size, fun i hi => hg.cell (hcell i hi) (by simpa using hne)⟩

theorem copyInv_step {l : List ByteArray} {s : Nat → Pte} {b o cap : Nat} {a : Int} {B : Nat} (n : Int) (h0 : 0 ≤ a) (hbB : b < B) (hnz : 0 < l.length) (j f k m : Nat) (w1 : World)
    (hI : CopyInv l s (.slice (some ⟨b, o, none⟩) l.length cap) a B j w1) (hh : hit l s false (a + j) = some (f, k)) (hm : (m : Int) = min (128 - (k : Int)) (n - (j : Int))) :
    Calls Try.prog 43 #[.int .i64 f, .int .i64 k, .int .i64 j, .int .i64 (j + m : Nat), .pointer (some ⟨B + 2, 0, none⟩), .pointer (some ⟨B, 0, none⟩)] w1 fun e w' =>
      e = .returned (.tuple #[]) ∧ w1.grownBy w' (some (B + 2)) ∧ CopyInv l s (.slice (some ⟨b, o, none⟩) l.length cap) a B (j + m) w' := by
  obtain ⟨h1, h2, out, h3, h4⟩ := hI
  obtain ⟨hf, hk, hsz, _, ha, _⟩ := hit_lt hh
  have hcell : w1.cell? ⟨b, o + f, none⟩ = some (.string (bAt l f)) := by
    rcases h1.shape with ⟨rfl, _⟩ | ⟨_, b', o', cap', e, _, _, hc⟩
    · simp at hnz
    · simp only [Value.slice.injEq, Option.some.injEq, Addr.mk.injEq] at e
      obtain ⟨⟨rfl, rfl, -⟩, -, -⟩ := e
      exact hc f hf
  have ho : out.size = j := by rw [← bl_length, copyFrom_length j h4]
  refine (copy1_any (B + 2) B b o l.length cap f k j (j + m : Nat) (bAt l f) out w1 (cell_of_heap h3 rfl) (frozen_of_heap h3) (cell_of_heap h2 rfl) (by simpa using hcell)
    (by omega) (by omega) (by omega) (by omega) (by omega) (by omega) (by omega) (by omega) (by omega) (by omega) (by omega)).mono fun e w' ⟨he, hw⟩ => ?_
  subst hw
  have hg := grownBy_drew (grownBy_setCell w1 (B + 2) 0 (.string (out ++ (bAt l f).extract (k : Int).toNat ((k : Int) + (j + m : Nat) - j).toNat)))
  refine ⟨he, hg, h1.grown hg (fun b' o' e => by simp only [Option.some.injEq, Addr.mk.injEq] at e; omega), (hg.block B (heap_lt h2) (by simp)).trans h2, _, (heap_setCell_same w1 (B + 2) 0 _ 9 _ h3).trans rfl, ?_⟩
  rw [copyFrom_add, h4, Option.bind_some, copyFrom_page m hh (by omega) (by omega), Option.map_some, bl_append, bl_extract]
  congr 3
  omega

theorem copy_end {l : List ByteArray} {s : Nat → Pte} {a n : Int} (h : n < 0 ∨ 2048 < a + n ∨ ∃ j : Nat, (j : Int) < n ∧ hit l s false (a + j) = none) : mcopy l s a n = none := by
  unfold mcopy
  split
  · rfl
  · rename_i h0
    rcases h with h | h | ⟨j, hj, hn⟩
    · omega
    · omega
    · rw [show n.toNat = j + (n.toNat - j) from by omega, copyFrom_add]
      cases copyFrom l s a j with
      | none => rfl
      | some x => rw [Option.bind_some, copyFrom_none hn _ (by omega)]; rfl

theorem copy_done {l : List ByteArray} {s : Nat → Pte} {a n : Int} {out : ByteArray} (h0 : 0 ≤ n) (h1 : a + n ≤ 2048) (h : copyFrom l s a n.toNat = some (bl out)) : copyOut (mcopy l s a n) = .tuple #[.string out, .bool true] := by
  unfold mcopy
  rw [if_neg (by omega), h, copyOut]
  rfl

theorem heap_three_0 (w : World) (A B C : Obj) : (((w.alloc A).alloc B).alloc C).heap[w.heap.size]? = some A := by
  rw [Below.heap_alloc _ _ _ (by simp; omega)]; exact heap_alloc2_old w A B
theorem heap_three_1 (w : World) (A B C : Obj) : (((w.alloc A).alloc B).alloc C).heap[w.heap.size + 1]? = some B := by
  rw [Below.heap_alloc _ _ _ (by simp)]; exact heap_alloc2_new w A B
theorem heap_three_2 (w : World) (A B C : Obj) : (((w.alloc A).alloc B).alloc C).heap[w.heap.size + 2]? = some C := by
  have h := heap_alloc_new ((w.alloc A).alloc B) C
  rw [show ((w.alloc A).alloc B).heap.size = w.heap.size + 2 from by simp] at h
  exact h
theorem below_three (w : World) (A B C : Obj) : Below w.heap.size w (((w.alloc A).alloc B).alloc C) :=
  (((Below.refl _ _).alloc (Nat.le_refl _) _).alloc (by simp) _).alloc (by simp; omega) _

theorem copy_post {x : Option (List UInt8)} {v : Value} {w w' : World} (h : v = copyOut x) (hb : Below w.heap.size w w') : Ending.returned v = .returned (copyOut x) ∧ Below w.heap.size w w' := ⟨by rw [h], hb⟩

set_option maxHeartbeats 400000 in
theorem copy_any (v : Value) (l : List ByteArray) (s : Nat → Pte) (a n : Int) (w : World) (hv : Strs w v l) (h0 : 0 ≤ a) (h1 : a ≤ 4294967295) :
    Calls Try.prog 19 #[v, .agg (spCells s), .int .u32 a, .int .i64 n] w fun e w' => e = .returned (copyOut (mcopy l s a n)) ∧ Below w.heap.size w w' := by
  obtain ⟨a0, cap, rfl, _⟩ := hv.ex
  obtain ⟨W0, eW⟩ : ∃ W, W = (((w.alloc (.cells #[.slice a0 l.length cap] 22)).alloc (.cells (spCells s) 26)).alloc (.cells #[.string ⟨#[]⟩] 9)) := ⟨_, rfl⟩
  have hS0 : Strs W0 (.slice a0 l.length cap) l := by rw [eW]; exact hv.mono (below_three _ _ _ _)
  have hI0 : CopyInv l s (.slice a0 l.length cap) a w.heap.size 0 W0 := ⟨hS0, by rw [eW]; exact heap_three_0 _ _ _ _, ⟨#[]⟩, by rw [eW]; exact heap_three_2 _ _ _ _, rfl⟩
  have HW := Lib.hid (walk_any 43 (.pointer (some ⟨w.heap.size + 2, 0, none⟩)) (.pointer (some ⟨w.heap.size, 0, none⟩)) (.slice a0 l.length cap) s a n false W0 (w.heap.size + 2) (fun _ => l) (CopyInv l s (.slice a0 l.length cap) a w.heap.size)
    Try.call43 (by rw [eW]; simp) hI0 copyInv_below (fun j w1 h => h.1) (by
      intro j f k m w1 hI hj hh hm
      rcases hv.shape with ⟨rfl, _⟩ | ⟨hnz, b, o, cap', e, _, hb, _⟩
      · have := (hit_lt hh).1; simp at this
      · simp only [Value.slice.injEq] at e
        obtain ⟨rfl, -, rfl⟩ := e
        exact copyInv_step n h0 hb hnz j f k m w1 hI hh hm) h0 h1)
  clear hI0 hS0
  subst eW
  have HV := Lib.hid hv
  clear hv
  go_enter Try.func19, Try.ntmps19
  go_wp2_with ((with_reducible refine wpList_load_space s (w.heap.size + 1) ?_ ?_ ?_ ?_); rfl; rfl; exact heap_three_1 _ _ _ _)
  refine HW.out.mono ?_
  rintro e W ⟨hg, ⟨rfl, n0, n1, hI⟩ | ⟨rfl, hno⟩⟩
  · obtain ⟨-, -, out, h3, h4⟩ := hI
    have Hout := Lib.hid (copy_done n0 n1 h4)
    have hcell := cell_of_heap h3 (i := 0) rfl
    have HG := Lib.hid hg
    clear h3 h4 hg
    go_wp2_with fail
    go_ret2
    refine copy_post ?_ ?_
    · rw [Hout.out]; rfl
    · exact (below_three _ _ _ _).grown HG.out (by simp; omega) (fun k hk => by simp only [Option.some.injEq] at hk; omega)
  · have Hout := Lib.hid (copy_end hno)
    have HG := Lib.hid hg
    clear hno hg
    go_wp2_with fail
    go_ret2
    refine copy_post ?_ ?_
    · rw [Hout.out]; rfl
    · exact (below_three _ _ _ _).grown HG.out (by simp; omega) (fun k hk => by simp only [Option.some.injEq] at hk; omega)
end Go.Proofs.Ytlhcggaeecjbcaa
