/- Contracts of mmu.Load and of the reference's Byte. -/
import Derived.Test.YtlhcggaeecjbcaaMmu1
namespace Go.Proofs.Ytlhcggaeecjbcaa
open Go.RowKit

theorem find_none {s : Nat → Pte} {a size : Int} {wr : Bool} (w : World) (h0 : 0 ≤ a) (h1 : a ≤ 4294967295) (h : mfind s a size wr = none) :
    Calls Try.prog 26 #[.agg (spCells s), .int .u32 a, .int .i64 size, .bool wr] w fun e w' => e = .returned (.tuple #[.int .i64 0, .int .i64 0, .bool false]) ∧ Below w.heap.size w w' := by
  refine (find_any s a size wr w h0 h1).mono fun e w' x => ?_
  rw [h] at x; exact x
theorem find_some {s : Nat → Pte} {a size : Int} {wr : Bool} {f k : Int} (w : World) (h0 : 0 ≤ a) (h1 : a ≤ 4294967295) (h : mfind s a size wr = some (f, k)) :
    Calls Try.prog 26 #[.agg (spCells s), .int .u32 a, .int .i64 size, .bool wr] w fun e w' => e = .returned (.tuple #[.int .i64 f, .int .i64 k, .bool true]) ∧ Below w.heap.size w w' := by
  refine (find_any s a size wr w h0 h1).mono fun e w' x => ?_
  rw [h] at x; exact x
theorem rfind_none {s : Nat → Pte} {a size : Int} {wr : Bool} (w : World) (h0 : 0 ≤ a) (h1 : a ≤ 4294967295) (h : mfind s a size wr = none) :
    Calls Try.prog 27 #[.agg (spCells s), .int .u32 a, .int .i64 size, .bool wr] w fun e w' => e = .returned (.tuple #[.int .i64 0, .int .i64 0, .bool false]) ∧ Below w.heap.size w w' := by
  refine (rfind_any s a size wr w h0 h1).mono fun e w' x => ?_
  rw [h] at x; exact x
theorem rfind_some {s : Nat → Pte} {a size : Int} {wr : Bool} {f k : Int} (w : World) (h0 : 0 ≤ a) (h1 : a ≤ 4294967295) (h : mfind s a size wr = some (f, k)) :
    Calls Try.prog 27 #[.agg (spCells s), .int .u32 a, .int .i64 size, .bool wr] w fun e w' => e = .returned (.tuple #[.int .i64 f, .int .i64 k, .bool true]) ∧ Below w.heap.size w w' := by
  refine (rfind_any s a size wr w h0 h1).mono fun e w' x => ?_
  rw [h] at x; exact x
theorem there_is {v : Value} {l : List ByteArray} {i : Int} {b : Bool} (w : World) (h : Strs w v l) (hb : thereB l i = b) :
    Calls Try.prog 49 #[v, .int .i64 i] w fun e w' => e = .returned (.bool b) ∧ w = w' := by
  subst hb; exact there_any v l i w h
theorem rthere_is {v : Value} {l : List ByteArray} {i : Int} {b : Bool} (w : World) (h : Strs w v l) (hb : thereB l i = b) :
    Calls Try.prog 74 #[v, .int .i64 i] w fun e w' => e = .returned (.bool b) ∧ w = w' := by
  subst hb; exact rthere_any v l i w h

theorem mfind_some {s : Nat → Pte} {a size : Int} {wr : Bool} {f k : Int} (h : mfind s a size wr = some (f, k)) :
    (size = 1 ∨ size = 4) ∧ a < 2048 ∧ a % size = 0 ∧ (pg s a).is = true ∧ (wr = true → (pg s a).write = true) ∧ f = (pg s a).frame ∧ k = a % 128 := by
  unfold mfind at h
  split at h
  · split at h
    · rename_i h1 h2
      simp only [Option.some.injEq, Prod.mk.injEq] at h
      exact ⟨h1.1, h1.2.1, h1.2.2, h2.1, h2.2, h.1.symm, h.2.symm⟩
    · cases h
  · cases h

theorem thereB_lt {l : List ByteArray} {i : Int} (h : thereB l i = true) : 0 ≤ i ∧ i < l.length ∧ (bAt l i.toNat).size = 128 := by
  simp only [thereB, Bool.and_eq_true, decide_eq_true_eq, beq_iff_eq] at h
  exact ⟨h.1.1, h.1.2, by omega⟩

theorem hit_of {l : List ByteArray} {s : Nat → Pte} {a size : Int} {wr : Bool} {f k : Int} (h : mfind s a size wr = some (f, k)) (ht : thereB l f = true) : hit l s wr a = some (f.toNat, k.toNat) := by
  obtain ⟨_, h2, _, h4, h5, h6, h7⟩ := mfind_some h
  unfold hit
  rw [if_pos ⟨h2, h4, h5, by rw [← h6]; exact ht⟩, h6, h7]

theorem cell_alloc_below {w w1 : World} {o : Obj} {b i : Nat} {x : Value} (hc : w.cell? ⟨b, i, none⟩ = some x) (hb : Below (w.alloc o).heap.size (w.alloc o) w1) : w1.cell? ⟨b, i, none⟩ = some x := by
  have hlt : b < w.heap.size := World.block_lt_of_cell? w ⟨b, i, none⟩ hc
  rw [hb.cell (p := ⟨b, i, none⟩) (by rw [World.size_alloc]; exact Nat.lt_succ_of_lt hlt), World.cell?_alloc_lt w o ⟨b, i, none⟩ hlt]
  exact hc

theorem wpList_load_space (s : Nat → Pte) (g : Nat) {ops : Array Oper} {rest : List Oper} {dst : Option Tmp} {t ty : TypeId} {pos : String} {after : Array Edge} {a : Act} {w : World} {Q : Exit → Act → World → Prop} {x : Operand}
    (ht : t = 26) (hx : a.eval x = .pointer (some ⟨g, 0, none⟩)) (hg : w.heap[g]? = some (.cells (spCells s) 26 (0, 0)))
    (h : wpList Try.prog ops Q rest (a.put dst (.agg (spCells s))) w) : wpList Try.prog ops Q (⟨dst, .load t x, ty, pos, after, none⟩ :: rest) a w := by
  subst ht
  exact wpList_load_row rfl 26 x rfl g hx 26 (spCells s) (0, 0) _ hg Try.underlying26 rfl (by rw [spCells_size]; exact spInfo) h

def loadOut : Option Nat → Value
  | none => .tuple #[.int .u32 0, .bool false]
  | some n => .tuple #[.int .u32 n, .bool true]

theorem mload_eq {l : List ByteArray} {s : Nat → Pte} {a size : Int} {f k : Int} (h0 : 0 ≤ a) (h : mfind s a size false = some (f, k)) (ht : thereB l f = true) :
    mload l s a size = some (leVal (bl ((bAt l f.toNat).extract k.toNat (k + size).toNat))) := by
  obtain ⟨h1, h2, h3, h4, h5, h6, h7⟩ := mfind_some h
  have hh := hit_of h ht
  unfold mload
  have hk : k.toNat + size.toNat ≤ 128 := by
    rcases h1 with h1 | h1
    · omega
    · rw [h1] at h3 ⊢
      omega
  rw [if_pos ⟨h1, h3⟩, copyFrom_page size.toNat hh h0 hk, Option.map_some, bl_extract]
  rw [show (k + size).toNat - k.toNat = size.toNat from by omega]

theorem mload_none {l : List ByteArray} {s : Nat → Pte} {a size : Int} (h : mfind s a size false = none) : mload l s a size = none := by
  unfold mload
  split
  · rename_i h1
    rw [copyFrom_none _ _ (by omega)]; rfl
    unfold hit
    rw [if_neg]
    intro hc
    unfold mfind at h
    rw [if_pos ⟨h1.1, hc.1, h1.2⟩, if_pos ⟨hc.2.1, hc.2.2.1⟩] at h
    cases h
  · rfl

theorem mload_not {l : List ByteArray} {s : Nat → Pte} {a size : Int} {f k : Int} (h : mfind s a size false = some (f, k)) (ht : thereB l f = false) : mload l s a size = none := by
  obtain ⟨h1, h2, h3, h4, h5, h6, h7⟩ := mfind_some h
  unfold mload
  rw [if_pos ⟨h1, h3⟩, copyFrom_none _ _ (by omega)]; rfl
  unfold hit
  rw [if_neg]
  intro hc
  rw [← h6, ht] at hc
  exact absurd hc.2.2.2 (by decide)

theorem load_post {x : Option Nat} {v : Value} {w w' : World} (h : v = loadOut x) (hb : Below w.heap.size w w') : Ending.returned v = .returned (loadOut x) ∧ Below w.heap.size w w' := ⟨by rw [h], hb⟩

set_option maxHeartbeats 400000 in
theorem load_any (v : Value) (l : List ByteArray) (s : Nat → Pte) (a size : Int) (w : World) (hv : Strs w v l) (h0 : 0 ≤ a) (h1 : a ≤ 4294967295) :
    Calls Try.prog 25 #[v, .agg (spCells s), .int .u32 a, .int .i64 size] w fun e w' => e = .returned (loadOut (mload l s a size)) ∧ Below w.heap.size w w' := by
  cases hf : mfind s a size false with
  | none =>
    have Hout := Lib.hid (mload_none (l := l) hf)
    have HF := Lib.hid hf
    clear hf
    go_enter Try.func25, Try.ntmps25
    go_wp2_with (first | ((with_reducible refine wpList_load_space s w.heap.size ?_ ?_ ?_ ?_); rfl; rfl; exact heap_alloc_new _ _) | go_at_call 26; refine (find_none _ h0 h1 HF.out).mono ?_; rintro e w1 ⟨rfl, hb⟩)
    go_ret2
    refine load_post ?_ (((Below.refl _ _).alloc (Nat.le_refl _) _).trans (hb.mono (by simp)))
    rw [Hout.out]; rfl
  | some p =>
    obtain ⟨f, k⟩ := p
    cases ht : thereB l f with
    | false =>
      have Hout := Lib.hid (mload_not hf ht)
      have HF := Lib.hid hf
      have HT := Lib.hid ht
      have HV := Lib.hid hv
      clear hf ht hv
      go_enter Try.func25, Try.ntmps25
      go_wp2_with (first | ((with_reducible refine wpList_load_space s w.heap.size ?_ ?_ ?_ ?_); rfl; rfl; exact heap_alloc_new _ _) | (go_at_call 26; refine (find_some _ h0 h1 HF.out).mono ?_; rintro e w1 ⟨rfl, hb⟩) | (go_at_call 49; refine (there_is _ ((HV.out.alloc _).mono hb) HT.out).mono ?_; rintro e w2 ⟨rfl, rfl⟩))
      go_ret2
      refine load_post ?_ (((Below.refl _ _).alloc (Nat.le_refl _) _).trans (hb.mono (by simp)))
      rw [Hout.out]; rfl
    | true =>
      have Hout := Lib.hid (mload_eq h0 hf ht)
      have HF := Lib.hid hf
      have HT := Lib.hid ht
      have HV := Lib.hid hv
      obtain ⟨t0, t1, t2⟩ := thereB_lt ht
      obtain ⟨m1, m2, m3, -, -, -, m7⟩ := mfind_some hf
      have k0 : 0 ≤ k := by omega
      have k1 : k + size ≤ ((bAt l f.toNat).size : Int) := by rw [t2]; rcases m1 with h | h <;> subst h <;> omega
      have k2 : k ≤ k + size := by omega
      have z0 : 0 ≤ size := by omega
      have z2 : k + size ≤ 2048 := by omega
      have z1 : size ≤ 4 := by omega
      have hsz : ((bAt l f.toNat).extract k.toNat (k + size).toNat).size ≤ 8 := by rw [ByteArray.size_extract]; omega
      rcases hv.shape with ⟨rfl, _⟩ | ⟨_, b, o, cap, rfl, hcap, hbk, hc⟩
      · simp at t1; omega
      · have hcell := hc f.toNat (by omega)
        clear hc hcap hf ht hv m1 m2 m3 m7 t2
        go_enter Try.func25, Try.ntmps25
        go_wp2_with (first | ((with_reducible refine wpList_load_space s w.heap.size ?_ ?_ ?_ ?_); rfl; rfl; exact heap_alloc_new _ _) | (go_at_call 26; refine (find_some _ h0 h1 HF.out).mono ?_; rintro e w1 ⟨rfl, hb⟩; have hc1 := cell_alloc_below hcell hb) | (go_at_call 49; refine (there_is _ ((HV.out.alloc _).mono hb) HT.out).mono ?_; rintro e w2 ⟨rfl, rfl⟩) | (go_at_call 50; refine (get_any _ _ hsz).mono ?_; rintro e w3 ⟨rfl, rfl⟩))
        go_ret2
        refine load_post ?_ (((Below.refl _ _).alloc (Nat.le_refl _) _).trans (hb.mono (by simp)))
        have hlt := leVal_lt (bl ((bAt l f.toNat).extract k.toNat (k + size).toNat))
        have hle : leVal (bl ((bAt l f.toNat).extract k.toNat (k + size).toNat)) < 4294967296 := by
          refine Nat.lt_of_lt_of_le hlt ?_
          rw [bl_length, ByteArray.size_extract]
          exact Nat.pow_le_pow_right (by decide) (show _ ≤ 32 by omega)
        rw [Hout.out, loadOut, Int.emod_eq_of_lt (by omega) (by omega)]
        rfl
end Go.Proofs.Ytlhcggaeecjbcaa
