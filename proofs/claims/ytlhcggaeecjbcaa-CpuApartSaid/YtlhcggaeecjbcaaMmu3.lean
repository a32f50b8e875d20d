/- Contracts of the reference's Byte and of mmu.lay. -/
import Derived.Test.YtlhcggaeecjbcaaMmu2
import Derived.Deep.RegionWith
namespace Go.Proofs.Ytlhcggaeecjbcaa
open Go.RowKit

def byteOut : Option UInt8 → Value
  | none => .tuple #[.int .u8 0, .bool false]
  | some b => .tuple #[.int .u8 b.toNat, .bool true]

theorem hit_none {l : List ByteArray} {s : Nat → Pte} {a : Int} {wr : Bool} (h : mfind s a 1 wr = none) : hit l s wr a = none := by rw [hit_find, h]
theorem hit_not {l : List ByteArray} {s : Nat → Pte} {a f k : Int} {wr : Bool} (h : mfind s a 1 wr = some (f, k)) (ht : thereB l f = false) : hit l s wr a = none := by
  rw [hit_find, h]; simp [ht]

theorem byte_post {x : Option UInt8} {v : Value} {w w' : World} (h : v = byteOut x) (hb : Below w.heap.size w w') : Ending.returned v = .returned (byteOut x) ∧ Below w.heap.size w w' := ⟨by rw [h], hb⟩

theorem byteOf_get (x : ByteArray) (k : Nat) (h : k < x.size) : x[k] = byteOf x k := by
  simp [byteOf, bl, List.getD, h]
  rfl

set_option maxHeartbeats 400000 in
theorem byte_any (v : Value) (l : List ByteArray) (s : Nat → Pte) (a : Int) (w : World) (hv : Strs w v l) (h0 : 0 ≤ a) (h1 : a ≤ 4294967295) :
    Calls Try.prog 44 #[v, .agg (spCells s), .int .u32 a] w fun e w' => e = .returned (byteOut (byteAt l s a)) ∧ Below w.heap.size w w' := by
  cases hf : mfind s a 1 false with
  | none =>
    have Hout := Lib.hid (show byteAt l s a = none by rw [byteAt, hit_none hf]; rfl)
    have HF := Lib.hid hf
    clear hf
    go_enter Try.func44, Try.ntmps44
    go_wp2_with (first | ((with_reducible refine wpList_load_space s w.heap.size ?_ ?_ ?_ ?_); rfl; rfl; exact heap_alloc_new _ _) | (go_at_call 27; refine (rfind_none _ h0 h1 HF.out).mono ?_; rintro e w1 ⟨rfl, hb⟩))
    go_ret2
    refine byte_post ?_ (((Below.refl _ _).alloc (Nat.le_refl _) _).trans (hb.mono (by simp)))
    rw [Hout.out]; rfl
  | some p =>
    obtain ⟨f, k⟩ := p
    cases ht : thereB l f with
    | false =>
      have Hout := Lib.hid (show byteAt l s a = none by rw [byteAt, hit_not hf ht]; rfl)
      have HF := Lib.hid hf
      have HT := Lib.hid ht
      have HV := Lib.hid hv
      clear hf ht hv
      go_enter Try.func44, Try.ntmps44
      go_wp2_with (first | ((with_reducible refine wpList_load_space s w.heap.size ?_ ?_ ?_ ?_); rfl; rfl; exact heap_alloc_new _ _) | (go_at_call 27; refine (rfind_some _ h0 h1 HF.out).mono ?_; rintro e w1 ⟨rfl, hb⟩) | (go_at_call 74; refine (rthere_is _ ((HV.out.alloc _).mono hb) HT.out).mono ?_; rintro e w2 ⟨rfl, rfl⟩))
      go_ret2
      refine byte_post ?_ (((Below.refl _ _).alloc (Nat.le_refl _) _).trans (hb.mono (by simp)))
      rw [Hout.out]; rfl
    | true =>
      have Hout := Lib.hid (show byteAt l s a = some (byteOf (bAt l f.toNat) k.toNat) by rw [byteAt, hit_of hf ht]; rfl)
      have HF := Lib.hid hf
      have HT := Lib.hid ht
      have HV := Lib.hid hv
      obtain ⟨t0, t1, t2⟩ := thereB_lt ht
      obtain ⟨-, -, -, -, -, -, m7⟩ := mfind_some hf
      have k0 : 0 ≤ k := by omega
      have k1 : k < ((bAt l f.toNat).size : Int) := by rw [t2]; omega
      rcases hv.shape with ⟨rfl, _⟩ | ⟨_, b, o, cap, rfl, hcap, hbk, hc⟩
      · simp at t1; omega
      · have hcell := hc f.toNat (by omega)
        clear hc hcap hf ht hv m7 t2
        go_enter Try.func44, Try.ntmps44
        go_wp2_with (first | ((with_reducible refine wpList_load_space s w.heap.size ?_ ?_ ?_ ?_); rfl; rfl; exact heap_alloc_new _ _) | (go_at_call 27; refine (rfind_some _ h0 h1 HF.out).mono ?_; rintro e w1 ⟨rfl, hb⟩; have hc1 := cell_alloc_below hcell hb) | (go_at_call 74; refine (rthere_is _ ((HV.out.alloc _).mono hb) HT.out).mono ?_; rintro e w2 ⟨rfl, rfl⟩))
        go_ret2
        refine byte_post ?_ (((Below.refl _ _).alloc (Nat.le_refl _) _).trans (hb.mono (by simp)))
        rw [Hout.out, byteOut, ← byteOf_get _ _ (by omega)]
        rfl

/-- A frame with other bytes at a place. -/
theorem lay_any (b o n cap : Nat) (f k : Int) (x d : ByteArray) (w : World) (hc : w.cell? ⟨b, o + f.toNat, none⟩ = some (.string x)) (hz : w.frozen? ⟨b, o + f.toNat, none⟩ = false)
    (f0 : 0 ≤ f) (f1 : f < n) (k0 : 0 ≤ k) (k1 : k + d.size ≤ (x.size : Int)) (kx : k ≤ (x.size : Int)) (x1 : x.size ≤ 1000000) :
    Calls Try.prog 47 #[.slice (some ⟨b, o, none⟩) n cap, .int .i64 f, .int .i64 k, .string d] w fun e w' =>
      e = .returned (.tuple #[]) ∧ w' = (w.setCell ⟨b, o + f.toNat, none⟩ (.string ((x.extract 0 k.toNat ++ d) ++ x.extract (k + d.size).toNat x.size))).drew := by
  go_enter Try.func47, Try.ntmps47
  go_region
  all_goals (go_end0; exact ⟨rfl, rfl⟩)

/-- What the closure of mmu.Copy does: it adds bytes of a frame to the text. -/
theorem copy1_any (po pf b o n cap : Nat) (f k fr to_ : Int) (x out : ByteArray) (w : World) (ho : w.cell? ⟨po, 0, none⟩ = some (.string out)) (hz : w.frozen? ⟨po, 0, none⟩ = false)
    (hp : w.cell? ⟨pf, 0, none⟩ = some (.slice (some ⟨b, o, none⟩) n cap)) (hc : w.cell? ⟨b, o + f.toNat, none⟩ = some (.string x))
    (f0 : 0 ≤ f) (f1 : f < n) (k0 : 0 ≤ k) (fr0 : 0 ≤ fr) (to0 : fr ≤ to_) (to1 : to_ ≤ 100000) (kt : k ≤ 100000) (k1 : k + to_ - fr ≤ (x.size : Int)) (k2 : k ≤ k + to_ - fr) (x1 : x.size ≤ 1000000) (o1 : out.size ≤ 1000000) :
    Calls Try.prog 43 #[.int .i64 f, .int .i64 k, .int .i64 fr, .int .i64 to_, .pointer (some ⟨po, 0, none⟩), .pointer (some ⟨pf, 0, none⟩)] w fun e w' =>
      e = .returned (.tuple #[]) ∧ w' = (w.setCell ⟨po, 0, none⟩ (.string (out ++ x.extract k.toNat (k + to_ - fr).toNat))).drew := by
  go_enter Try.func43, Try.ntmps43
  go_region
  all_goals (go_end0; exact ⟨rfl, rfl⟩)

/-- What the closure of mmu.Lay does: it lays bytes into a frame. -/
theorem lay1_any (po pd b o n cap : Nat) (f k fr to_ : Int) (x d : ByteArray) (w : World) (ho : w.cell? ⟨po, 0, none⟩ = some (.slice (some ⟨b, o, none⟩) n cap)) (hp : w.cell? ⟨pd, 0, none⟩ = some (.string d))
    (hc : w.cell? ⟨b, o + f.toNat, none⟩ = some (.string x)) (hz : w.frozen? ⟨b, o + f.toNat, none⟩ = false)
    (f0 : 0 ≤ f) (f1 : f < n) (k0 : 0 ≤ k) (fr0 : 0 ≤ fr) (to0 : fr ≤ to_) (to1 : to_ ≤ (d.size : Int)) (k1 : k + (to_ - fr) ≤ (x.size : Int)) (x1 : x.size ≤ 1000000) :
    Calls Try.prog 46 #[.int .i64 f, .int .i64 k, .int .i64 fr, .int .i64 to_, .pointer (some ⟨po, 0, none⟩), .pointer (some ⟨pd, 0, none⟩)] w fun e w' =>
      e = .returned (.tuple #[]) ∧ w' = (w.drew.setCell ⟨b, o + f.toNat, none⟩ (.string ((x.extract 0 k.toNat ++ d.extract fr.toNat to_.toNat) ++ x.extract (k + (d.extract fr.toNat to_.toNat).size).toNat x.size))).drew := by
  have hs : (d.extract fr.toNat to_.toNat).size = to_.toNat - fr.toNat := by rw [ByteArray.size_extract]; omega
  have HS := Lib.hid hs
  have HC := Lib.hid (fun W hc' hz' => lay_any b o n cap f k x (d.extract fr.toNat to_.toNat) W hc' hz' f0 f1 k0 (by omega) (by omega) x1)
  clear hs
  go_enter Try.func46, Try.ntmps46
  go_region_with (go_at_call 47; refine (HC.out _ ?_ ?_).mono ?_; (exact hc); (exact hz); rintro e w' ⟨rfl, rfl⟩)
  all_goals (go_end0; refine ⟨rfl, ?_⟩; rw [HS.out]; rfl)
end Go.Proofs.Ytlhcggaeecjbcaa
