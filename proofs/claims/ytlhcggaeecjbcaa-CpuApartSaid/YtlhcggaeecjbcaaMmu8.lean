/- The contract of mmu.Store. Condition: at most 100,000 frames. -/
import Derived.Test.YtlhcggaeecjbcaaMmu7
namespace Go.Proofs.Ytlhcggaeecjbcaa
open Go.RowKit

theorem mstore_none {l : List ByteArray} {s : Nat → Pte} {a size : Int} {n : Nat} (h : mfind s a size true = none) : mstore l s a size n = none := by
  unfold mstore
  split
  · rename_i h1
    refine layFrom_none ?_ _ (by rw [leBytes_length]; omega)
    unfold hit
    rw [if_neg]
    intro hc
    unfold mfind at h
    rw [if_pos ⟨h1.1, hc.1, h1.2⟩, if_pos ⟨hc.2.1, hc.2.2.1⟩] at h
    cases h
  · rfl

theorem mstore_not {l : List ByteArray} {s : Nat → Pte} {a size : Int} {f k : Int} {n : Nat} (h : mfind s a size true = some (f, k)) (ht : thereB l f = false) : mstore l s a size n = none := by
  obtain ⟨h1, h2, h3, h4, h5, h6, h7⟩ := mfind_some h
  unfold mstore
  rw [if_pos ⟨h1, h3⟩]
  refine layFrom_none ?_ _ (by rw [leBytes_length]; omega)
  unfold hit
  rw [if_neg]
  intro hc
  rw [← h6, ht] at hc
  exact absurd hc.2.2.2 (by decide)

theorem mstore_eq {l : List ByteArray} {s : Nat → Pte} {a size : Int} {f k : Int} {n : Nat} (h0 : 0 ≤ a) (h : mfind s a size true = some (f, k)) (ht : thereB l f = true) :
    mstore l s a size n = some (l.set f.toNat (splice (bAt l f.toNat) k.toNat (leBytes size.toNat n))) := by
  obtain ⟨h1, h2, h3, h4, h5, h6, h7⟩ := mfind_some h
  have hh := hit_of h ht
  have hk : k.toNat + size.toNat ≤ 128 := by
    rcases h1 with h1 | h1
    · omega
    · rw [h1] at h3 ⊢
      omega
  unfold mstore
  rw [if_pos ⟨h1, h3⟩, layFrom_page _ hh h0 (by rw [leBytes_length]; omega)]

theorem Own.set {B : Nat} {w : World} {l : List ByteArray} {g cap : Nat} {cur : Array Value} (hB : B ≤ g) (hg : w.heap[g]? = some (.cells cur 9 (0, 0))) (hcap : l.length ≤ cap) (hmax : cap ≤ maxLen) (hcs : cur.size = cap)
    (hcur : cur.toList.take l.length = l.map Value.string) (f : Nat) (x : ByteArray) :
    Own B (w.setCell ⟨g, 0 + f, none⟩ (.string x)).drew (.slice (some ⟨g, 0, none⟩) l.length cap) (l.set f x) := by
  have hset := heap_setCell_same w g (0 + f) cur 9 (.string x) hg
  have hown := Own.mk (B := B) (w := (w.setCell ⟨g, 0 + f, none⟩ (.string x)).drew) (l := l.set f x) (cap := cap) hB hset (by rw [List.length_set]; omega) hmax (by simpa using hcs) (by
      rw [List.length_set, List.map_set, ← hcur]
      simp [List.take_set])
  rw [List.length_set] at hown
  exact hown

set_option maxHeartbeats 1000000 in
theorem store_any (v : Value) (l : List ByteArray) (s : Nat → Pte) (a size : Int) (n : Nat) (w : World) (hv : Strs w v l) (hl : l.length ≤ 100000) (h0 : 0 ≤ a) (h1 : a ≤ 4294967295) (hn : n ≤ 4294967295) :
    Calls Try.prog 29 #[v, .agg (spCells s), .int .u32 a, .int .i64 size, .int .u32 n] w (LayPost (mstore l s a size n) w) := by
  cases hf : mfind s a size true with
  | none =>
    have Hout := Lib.hid (mstore_none (l := l) (n := n) hf)
    have HF := Lib.hid hf
    clear hf
    go_enter Try.func29, Try.ntmps29
    go_wp2_with (first | ((with_reducible refine wpList_load_space s w.heap.size ?_ ?_ ?_ ?_); rfl; rfl; exact heap_alloc_new _ _) | (go_at_call 26; refine (find_none _ h0 h1 HF.out).mono ?_; rintro e w1 ⟨rfl, hb⟩))
    go_ret2
    rw [Hout.out]
    exact layPost_none (((Below.refl _ _).alloc (Nat.le_refl _) _).trans (hb.mono (by simp)))
  | some p =>
    obtain ⟨f, k⟩ := p
    cases ht : thereB l f with
    | false =>
      have Hout := Lib.hid (mstore_not (n := n) hf ht)
      have HF := Lib.hid hf
      have HT := Lib.hid ht
      have HV := Lib.hid hv
      clear hf ht hv
      go_enter Try.func29, Try.ntmps29
      go_wp2_with (first | ((with_reducible refine wpList_load_space s w.heap.size ?_ ?_ ?_ ?_); rfl; rfl; exact heap_alloc_new _ _) | (go_at_call 26; refine (find_some _ h0 h1 HF.out).mono ?_; rintro e w1 ⟨rfl, hb⟩) | (go_at_call 49; refine (there_is _ ((HV.out.alloc _).mono hb) HT.out).mono ?_; rintro e w2 ⟨rfl, rfl⟩))
      go_ret2
      rw [Hout.out]
      exact layPost_none (((Below.refl _ _).alloc (Nat.le_refl _) _).trans (hb.mono (by simp)))
    | true =>
      have Hout := Lib.hid (mstore_eq (n := n) h0 hf ht)
      have HF := Lib.hid hf
      have HT := Lib.hid ht
      have HV := Lib.hid hv
      obtain ⟨t0, t1, t2⟩ := thereB_lt ht
      obtain ⟨m1, m2, m3, -, -, -, m7⟩ := mfind_some hf
      have k0 : 0 ≤ k := by omega
      have k1 : k.toNat + size.toNat ≤ 128 := by
        rcases m1 with h | h
        · omega
        · rw [h] at m3 ⊢; omega
      have z0 : 0 ≤ size := by omega
      have z1 : size ≤ 4 := by omega
      obtain ⟨size', rfl⟩ := Int.eq_ofNat_of_zero_le z0
      have T2 := Lib.hid t2
      clear hf ht hv m1 m3 m7 t2 m2
      go_enter Try.func29, Try.ntmps29
      go_wp2_with (first | ((with_reducible refine wpList_load_space s w.heap.size ?_ ?_ ?_ ?_); rfl; rfl; exact heap_alloc_new _ _) | (go_at_call 26; refine (find_some _ h0 h1 HF.out).mono ?_; rintro e w1 ⟨rfl, hb⟩) | (go_at_call 49; refine (there_is _ ((HV.out.alloc _).mono hb) HT.out).mono ?_; rintro e w2 ⟨rfl, rfl⟩))
      refine (clone_any _ l _ ((HV.out.alloc _).mono hb) hl).mono ?_
      rintro e w2 ⟨v', rfl, ho, hb2⟩
      rcases ho.form with ⟨rfl, -⟩ | ⟨g, cap, cur, rfl, hg, hh, hcap, hmax, hcs, hcur⟩
      · simp at t1; omega
      have HCU := Lib.hid hcur
      have HCS := Lib.hid hcs
      have HB2 := Lib.hid (((below_alloc w (.cells (spCells s) 26)).trans (hb.mono (by simp))).trans (hb2.mono (by have := hb.size; simp at this; omega)))
      have hg2 : w.heap.size ≤ g := by have := hb.size; simp at this; omega
      clear ho hb2 hcs hcur
      go_wp2_with fail
      refine (put_any n size' w2 (by omega)).mono ?_
      rintro e w3 ⟨rfl, hb3⟩
      have hh3 := (hb3.block _ (heap_lt hh)).trans hh
      have HH3 := Lib.hid hh3
      have HB3 := Lib.hid (HB2.out.trans (hb3.mono (Nat.le_trans HB2.out.size (Nat.le_refl _))))
      clear hh hb3 hh3
      go_wp2_with fail
      refine (lay_any g 0 l.length cap f k (bAt l f.toNat) ⟨(leBytes size' n).toArray⟩ w3 (cell_of_heap HH3.out (by rw [Nat.zero_add]; exact own_cell HCU.out _ (by omega))) (frozen_of_heap HH3.out) t0 t1 k0 ?_ ?_ ?_).mono ?_
      · rw [T2.out, ← bl_length, bl_mk, leBytes_length]; omega
      · rw [T2.out]; omega
      · rw [T2.out]; omega
      rintro e w4 ⟨rfl, rfl⟩
      have hx : (bAt l f.toNat).extract 0 k.toNat ++ (⟨(leBytes size' n).toArray⟩ : ByteArray) ++ (bAt l f.toNat).extract (k + ((⟨(leBytes size' n).toArray⟩ : ByteArray).size : Int)).toNat (bAt l f.toNat).size = splice (bAt l f.toNat) k.toNat (leBytes size' n) := by
        rw [splice, ← bl_length ⟨(leBytes size' n).toArray⟩, bl_mk]
        congr 2
        omega
      have HO := Lib.hid (Own.set hg2 HH3.out hcap hmax HCS.out HCU.out f.toNat (splice (bAt l f.toNat) k.toNat (leBytes size' n)))
      have HB4 := Lib.hid ((HB3.out.setCell (p := ⟨g, 0 + f.toNat, none⟩) hg2 (.string (splice (bAt l f.toNat) k.toNat (leBytes size' n)))).drew)
      rw [hx]
      generalize hW : (w3.setCell ⟨g, 0 + f.toNat, none⟩ (.string (splice (bAt l f.toNat) k.toNat (leBytes size' n)))).drew = W4 at HO HB4 ⊢
      clear hW hx
      go_wp2_with fail
      go_ret2
      rw [Hout.out]
      exact layPost_some HB4.out HO.out.strs
end Go.Proofs.Ytlhcggaeecjbcaa
