/- The contracts of the reference's Set and Lay. Condition: at most 100,000 frames. -/
import Derived.Test.YtlhcggaeecjbcaaMmu8
import Derived.Laws.AppendOwnNone
namespace Go.Proofs.Ytlhcggaeecjbcaa
open Go.RowKit

theorem info9 : (Try.prog.info? 9).map (fun i => (i.zero, i.size, i.bytes)) = some (some (.string ⟨#[]⟩), 1, 16) := by kernel_rfl

theorem Own.zero {B g : Nat} {w : World} (hB : B ≤ g) (hg : w.heap[g]? = some (.cells #[] 9 (0, 0))) : Own B w (.slice (some ⟨g, 0, none⟩) 0 0) [] :=
  ⟨rfl, .inr ⟨g, 0, #[], rfl, hB, hg, Nat.le_refl _, Nat.zero_le _, rfl, rfl⟩⟩

/-- 'append([]string{}, frames...)'. -/
theorem wpList_append_strs (B g : Nat) (v : Value) (l : List ByteArray) {ops : Array Oper} {rest : List Oper} {dst : Option Tmp} {t ty : TypeId} {pos : String} {after : Array Edge} {a : Act} {w : World} {Q : Exit → Act → World → Prop} {x y : Operand}
    (ht : t = 22) (hx : a.eval x = .slice (some ⟨g, 0, none⟩) 0 0) (hy : a.eval y = v) (hg : w.heap[g]? = some (.cells #[] 9 (0, 0))) (hB : B ≤ g) (hBw : B ≤ w.heap.size) (hv : Strs w v l) (hl : l.length ≤ 100000)
    (h : ∀ v' w', Own B w' v' l → w.grownBy w' (some g) → wpList Try.prog ops Q rest (a.put dst v') w') :
    wpList Try.prog ops Q (⟨dst, .call { callee := .builtin .append, args := #[x, y], argTypes := #[t, t] }, ty, pos, after, none⟩ :: rest) a w := by
  subst ht
  obtain ⟨i0, hi, hz0, hz1, hz2⟩ := info_parts info9
  have big : ∀ u ∈ l.map Value.string, u.oneCell' = true := by intro u hu; obtain ⟨y, _, rfl⟩ := List.mem_map.1 hu; rfl
  rcases hv.shape with ⟨rfl, a0, cap, rfl, hn⟩ | ⟨h0, b, o, cap, rfl, hcap, hb, hc⟩
  · cases a0 with
    | none =>
      obtain rfl := hn rfl
      exact wpList_append_own_none rfl x y 22 rfl B 9 i0 1 Try.underlying22 hi _ 0 [] hx (Own.zero hB hg) hy (h _ _ (Own.zero hB hg) (grownBy_refl _ _))
    | some ad =>
      exact wpList_append_own _ rfl x y 22 rfl B 9 i0 (.string ⟨#[]⟩) 1 16 Try.underlying22 hi hz0 hz1 hz2 rfl (by decide) _ 0 [] hx (Own.zero hB hg) ad 0 cap [] hy rfl (by intro j u hj; simp at hj) (by intro u hu; cases hu)
        (Nat.zero_le _) (by omega) hBw (fun v' w' h1 h2 _ => h v' w' h1 h2)
  · refine wpList_append_own _ rfl x y 22 rfl B 9 i0 (.string ⟨#[]⟩) 1 16 Try.underlying22 hi hz0 hz1 hz2 rfl (by decide) _ 0 [] hx (Own.zero hB hg) ⟨b, o, none⟩ l.length cap (l.map Value.string) hy (by simp) ?_ big
        (by unfold maxLen; omega) (by omega) hBw (fun v' w' h1 h2 _ => h v' w' (by rw [Nat.zero_add] at h1; exact h1) h2)
    intro j u hj
    have hjn : j < l.length := by
      have := (List.getElem?_eq_some_iff.1 hj).1
      simpa using this
    rw [Addr.add_lit, hc j hjn, ← hj]
    simp [bAt, List.getD, hjn]

/-- 'string([]byte{b})'. -/
theorem run_string_byte (W : World) (b : UInt8) : (convert 90 9 (.slice (some ⟨W.heap.size, 0, none⟩) 1 1)).run Try.prog (W.alloc (.cells #[.int .u8 b.toNat] 5)) = .ok (.string ⟨#[b]⟩) (W.alloc (.cells #[.int .u8 b.toNat] 5)) :=
  run_string_of_bytes W [b] 1 rfl
theorem run_string_byte_drew (W : World) (b : UInt8) : (convert 90 9 (.slice (some ⟨W.heap.size, 0, none⟩) 1 1)).run Try.prog (W.alloc (.cells #[.int .u8 b.toNat] 5)).drew = .ok (.string ⟨#[b]⟩) (W.alloc (.cells #[.int .u8 b.toNat] 5)).drew :=
  run_string_of_bytes W.drew [b] 1 rfl

theorem setAt_hit {l : List ByteArray} {s : Nat → Pte} {a : Int} {f k : Nat} {b : UInt8} (h : hit l s true a = some (f, k)) : setAt l s a b = some (l.set f (splice (bAt l f) k [b])) := by
  obtain ⟨hf, hk, hs, _⟩ := hit_lt h
  have hs' : splice (bAt l f) k [b] = setB (bAt l f) k b := by rw [splice_cons _ _ _ _ (by simp; omega), splice_nil _ _ (by rw [size_setB]; omega)]
  rw [hs']
  simp [setAt, h]

set_option maxHeartbeats 1000000 in
theorem set_any (v : Value) (l : List ByteArray) (s : Nat → Pte) (a : Int) (b : UInt8) (w : World) (hv : Strs w v l) (hl : l.length ≤ 100000) (h0 : 0 ≤ a) (h1 : a ≤ 4294967295) :
    Calls Try.prog 48 #[v, .agg (spCells s), .int .u32 a, .int .u8 b.toNat] w (LayPost (setAt l s a b) w) := by
  cases hf : mfind s a 1 true with
  | none =>
    have Hout := Lib.hid (show setAt l s a b = none by rw [setAt, hit_none hf]; rfl)
    have HF := Lib.hid hf
    clear hf
    go_enter Try.func48, Try.ntmps48
    go_wp2_with (first | ((with_reducible refine wpList_load_space s w.heap.size ?_ ?_ ?_ ?_); rfl; rfl; exact heap_alloc_new _ _) | (go_at_call 27; refine (rfind_none _ h0 h1 HF.out).mono ?_; rintro e w1 ⟨rfl, hb⟩))
    go_ret2
    rw [Hout.out]
    exact layPost_none (((Below.refl _ _).alloc (Nat.le_refl _) _).trans (hb.mono (by simp)))
  | some p =>
    obtain ⟨f, k⟩ := p
    cases ht : thereB l f with
    | false =>
      have Hout := Lib.hid (show setAt l s a b = none by rw [setAt, hit_not hf ht]; rfl)
      have HF := Lib.hid hf
      have HT := Lib.hid ht
      have HV := Lib.hid hv
      clear hf ht hv
      go_enter Try.func48, Try.ntmps48
      go_wp2_with (first | ((with_reducible refine wpList_load_space s w.heap.size ?_ ?_ ?_ ?_); rfl; rfl; exact heap_alloc_new _ _) | (go_at_call 27; refine (rfind_some _ h0 h1 HF.out).mono ?_; rintro e w1 ⟨rfl, hb⟩) | (go_at_call 74; refine (rthere_is _ ((HV.out.alloc _).mono hb) HT.out).mono ?_; rintro e w2 ⟨rfl, rfl⟩))
      go_ret2
      rw [Hout.out]
      exact layPost_none (((Below.refl _ _).alloc (Nat.le_refl _) _).trans (hb.mono (by simp)))
    | true =>
      have Hout := Lib.hid (setAt_hit (b := b) (hit_of hf ht))
      have HF := Lib.hid hf
      have HT := Lib.hid ht
      have HV := Lib.hid hv
      obtain ⟨t0, t1, t2⟩ := thereB_lt ht
      obtain ⟨-, -, -, -, -, -, m7⟩ := mfind_some hf
      have k0 : 0 ≤ k := by omega
      have k1 : k + 1 ≤ ((bAt l f.toNat).size : Int) := by rw [t2]; omega
      have k2 : k ≤ ((bAt l f.toNat).size : Int) := by omega
      have T2 := Lib.hid t2
      have k3 : k ≤ 2048 := by omega
      have x1 : (bAt l f.toNat).size ≤ 1000000 := by rw [t2]; omega
      clear hf ht hv m7 t2
      go_enter Try.func48, Try.ntmps48
      go_wp2_with (first | ((with_reducible refine wpList_load_space s w.heap.size ?_ ?_ ?_ ?_); rfl; rfl; exact heap_alloc_new _ _) | (go_at_call 27; refine (rfind_some _ h0 h1 HF.out).mono ?_; rintro e w1 ⟨rfl, hb⟩) | (go_at_call 74; refine (rthere_is _ ((HV.out.alloc _).mono hb) HT.out).mono ?_; rintro e w2 ⟨rfl, rfl⟩) | ((with_reducible refine wpList_append_strs w1.heap.size w1.heap.size v l ?_ ?_ ?_ ?_ ?_ ?_ ?_ ?_ ?_); rfl; rfl; rfl; exact heap_alloc_new _ _; exact Nat.le_refl _; simp; exact ((HV.out.alloc _).mono hb).alloc _; exact hl; intro v' w3 ho hg))
      rcases ho.form with ⟨rfl, -⟩ | ⟨g, cap, cur, rfl, hg2, hh, hcap, hmax, hcs, hcur⟩
      · simp at t1; omega
      have hcell := cell_of_heap hh (own_cell hcur f.toNat (by omega))
      have hz := frozen_of_heap (i := f.toNat) hh
      have hgl := heap_lt hh
      have HH := Lib.hid hh
      have HCU := Lib.hid hcur
      have HCS := Lib.hid hcs
      have hg3 : w.heap.size ≤ g := by have := hb.size; simp at this; omega
      have HB2 := Lib.hid ((((below_alloc w (.cells (spCells s) 26)).trans (hb.mono (by simp))).alloc (by have := hb.size; simp at this; omega) (.cells #[] 9)).grown hg (by have := hb.size; simp at this ⊢; omega) (by intro k hk; simp only [Option.some.injEq] at hk; have := hb.size; simp at this; omega))
      clear ho hb hcs hcur hh hg hg2
      have hconv := run_string_byte_drew w3 b
      go_region
      have hx : (bAt l f.toNat).extract 0 k.toNat ++ (⟨#[b]⟩ : ByteArray) ++ (bAt l f.toNat).extract (k + 1).toNat (bAt l f.toNat).size = splice (bAt l f.toNat) k.toNat [b] := by
        rw [splice, List.length_singleton, show (k + 1).toNat = k.toNat + 1 from by omega]
      rw [hx]
      have ho := Own.set hg3 HH.out hcap hmax HCS.out HCU.out f.toNat (splice (bAt l f.toNat) k.toNat [b])
      rw [Nat.zero_add] at ho
      have HO : Hid (Own w.heap.size ((w3.setCell ⟨g, f.toNat, none⟩ (.string (splice (bAt l f.toNat) k.toNat [b]))).alloc (.cells #[.int .u8 b.toNat] 5)).drew (.slice (some ⟨g, 0, none⟩) l.length cap) (l.set f.toNat (splice (bAt l f.toNat) k.toNat [b]))) := ho.below (below_alloc _ _)
      have HB4 := Lib.hid (((HB2.out.setCell (p := ⟨g, f.toNat, none⟩) hg3 (.string (splice (bAt l f.toNat) k.toNat [b]))).alloc (by simp; omega) (.cells #[.int .u8 b.toNat] 5)).drew)
      generalize hW : ((w3.setCell ⟨g, f.toNat, none⟩ (.string (splice (bAt l f.toNat) k.toNat [b]))).alloc (.cells #[.int .u8 b.toNat] 5)).drew = W4 at HO HB4 ⊢
      clear hW hx ho
      go_wp2_with fail
      go_ret2
      rw [Hout.out]
      exact layPost_some HB4.out HO.out.strs
end Go.Proofs.Ytlhcggaeecjbcaa
