/- The law InodeBack, walked. No condition. -/
import Derived.Test.YtopbejdhfndfbaaInoA
namespace Go.Proofs.Ytopbejdhfndfbaa
open Go.RowKit
set_option maxRecDepth 20000
/-- The law's own inode, and the worlds. -/
structure Iv (w W : World) (c : Nat → Int) : Prop where
  hp : W.heap[w.heap.size]? = some (.cells (inoC c) 48)
  below : Below w.heap.size w W
theorem Iv.start {w W : World} {c : Nat → Int} (hb : Below (w.alloc (.cells (inoC c) 48)).heap.size (w.alloc (.cells (inoC c) 48)) W) : Iv w W c := ⟨(keep1 hb).1, (keep1 hb).2⟩
theorem Iv.step {w W W' : World} {c : Nat → Int} (h : Iv w W c) (hb : Below W.heap.size W W') : Iv w W' c := ⟨keep h.hp hb, below_step h.below hb⟩
theorem Iv.drew {w W : World} {c : Nat → Int} (h : Iv w W c) : Iv w W.drew c := ⟨h.hp, h.below.drew⟩
theorem Iv.lt {w W : World} {c : Nat → Int} (h : Iv w W c) : w.heap.size < W.heap.size := heap_lt h.hp
attribute [local go_sem ↓] loadVar_48 storeVar_48 eq_self48
attribute [local go_sem] run_load48 run_store48 aggAt_new aggAt_past aggAt_drew rowAt_new rowAt_past rowAt_drew rowOpen_new rowOpen_past rowOpen_drew setRow_made' alloc_setRow inoC_size
set_option maxHeartbeats 1000000 in
theorem back_walk (v : Value) (l : List ByteArray) (n other : Int) (c : Nat → Int) (hc : InR c) (w : World) (hv : Strs w v l) (hs : Hid (∀ i, (bAt l i).size ≤ 140737488351232)) (hl : Hid (l.length ≤ 140737488351232)) :
    Calls Try.prog 9 #[v, .int .i64 n, .int .i64 other, .agg (inoC c)] w fun e w' => e = .returned (.bool true) ∧ Below w.heap.size w w' := by
  have HVs := Lib.hid hv
  by_cases hg : Gr l
  · have PG : Hid (∀ w, Strs w v l → Calls Try.prog 34 #[v] w fun e w' => e = .returned (.int .i64 1) ∧ w = w') := fun w hv => great18_yes hg hv hs hl
    clear hg hv hs hl
    go_enter Try.func9, Try.ntmps9
    go_wp2_with (first
      | (go_at_call 34; refine (PG.out _ V1.out).mono ?_; rintro e W2 ⟨rfl, rfl⟩)
      | (go_at_call 33; refine (alive18_any _).mono ?_; rintro e W1 ⟨rfl, hb⟩; have X1 := Lib.hid (Iv.start hb); have V1 := Lib.hid ((HVs.out.alloc _).mono hb); clear hb))
    go_ret
    exact ⟨rfl, X1.out.below⟩
  have h80 := Gr.len hg
  have PG : Hid (∀ w, Strs w v l → Calls Try.prog 34 #[v] w fun e w' => e = .returned (.int .i64 0) ∧ w = w') := fun w hv => great18_no hg hv hs hl
  have PP : Hid (∀ w, Strs w v l → Calls Try.prog 35 #[v, .int .i64 n, .agg (inoC c)] w (PutPost l n c w)) := fun w hv => iput_any v l n c hc w hv (by omega)
  by_cases he : (mput l n c).2 = 0
  · obtain ⟨i, HV⟩ := put_fine he
    obtain ⟨bq, at_, hP⟩ := put_is HV he
    unfold PutPost at PP
    rw [he] at PP
    generalize (mput l n c).1 = L at hP PP
    have hlen := hP.len
    have b0 := HV.b0
    have PP2 : Hid (∀ w, Strs w v l → Calls Try.prog 35 #[v, .int .i64 n, .agg (inoC c)] w fun e w' => ∃ g cap, e = .returned (.tuple #[.slice (some ⟨g, 0, none⟩) l.length cap, .int .i64 0]) ∧ Hid (Strs w' (.slice (some ⟨g, 0, none⟩) l.length cap) L) ∧ Below w.heap.size w w') := fun w hv =>
      (PP.out w hv).mono fun e w' ⟨x, he, ho, hb⟩ => by
        obtain ⟨g, cap, rfl, hR⟩ := ho.row (by omega)
        rw [hlen] at he
        exact ⟨g, cap, he, (hR.own' hlen.symm).strs, hb⟩
    have PG1 : Hid (∀ w v, Strs w v L → Calls Try.prog 40 #[v, .int .i64 n] w fun e w' => e = .returned (.tuple #[.agg (inoC c), .int .i64 0]) ∧ Below w.heap.size w w') := fun w v hv => by
      have := iget_any v L n w hv (by omega)
      unfold GetPost at this
      rw [hP.get HV, hP.back] at this
      exact this
    have PGa : Hid (∀ w, Strs w v l → Calls Try.prog 40 #[v, .int .i64 other] w fun e w' => e = .returned (.tuple #[.agg (inoC (mget l other).1), .int .i64 (mget l other).2]) ∧ Below w.heap.size w w') := fun w hv => iget_any v l other w hv (by omega)
    have PGb : Hid (other ≠ n → ∀ w v, Strs w v L → Calls Try.prog 40 #[v, .int .i64 other] w fun e w' => e = .returned (.tuple #[.agg (inoC (mget l other).1), .int .i64 (mget l other).2]) ∧ Below w.heap.size w w') := fun ho w v hv => by
      rw [← hP.gets HV ho]
      exact iget_any v L other w hv (by omega)
    have HX : Hid (∀ k, bAt L k = if k = bq then putB (bAt l bq) at_ c else bAt l k) := hP.block
    have hbq := hP.pl.lt
    have HLen := Lib.hid hlen
    generalize (mget l other).1 = D at PGa PGb
    generalize (mget l other).2 = er at PGa PGb
    rcases hv.shape with ⟨rfl, -⟩ | ⟨-, b, o, cap, rfl, -, -, -⟩
    · simp at b0
    clear PP he hg hv hs hl HV hP hlen hc
    go_enter Try.func9, Try.ntmps9
    go_wp2_with (first
      | (go_at_call 40; refine (PG1.out _ _ Y3.out).mono ?_; rintro e W4 ⟨rfl, hb⟩; have X4 := Lib.hid (X3.out.step hb); have Y4 := Lib.hid (Y3.out.mono hb); have V4 := Lib.hid (V3.out.mono hb); have l4 := X4.out.lt; obtain ⟨a5, a6⟩ := agg_facts X4.out.hp 12 rfl; clear hb)
      | (go_at_call 35; refine (PP2.out _ V1.out).mono ?_; rintro e W3 ⟨g, cap3, rfl, ho, hb⟩; have X3 := Lib.hid (X1.out.step hb); have Y3 := Lib.hid ho.out; have V3 := Lib.hid (V1.out.mono hb); clear hb ho a1 a2)
      | (go_at_call 34; refine (PG.out _ V1.out).mono ?_; rintro e W2 ⟨rfl, rfl⟩)
      | (go_at_call 33; refine (alive18_any _).mono ?_; rintro e W1 ⟨rfl, hb⟩; have X1 := Lib.hid (Iv.start hb); have V1 := Lib.hid ((HVs.out.alloc _).mono hb); obtain ⟨a1, a2⟩ := agg_facts X1.out.hp 12 rfl; clear hb))
    go_loopw [13, 14] (fun t x W => ∃ k T : Nat, k ≤ l.length ∧ x = .int .i64 k ∧ t = .int .i64 T ∧ T ≤ 1 ∧ (k ≤ bq → T = 0) ∧ Hid (Iv w W c) ∧ Hid (Strs W (.slice (some ⟨b, o, none⟩) l.length cap) l) ∧ Hid (Strs W (.slice (some ⟨g, 0, none⟩) l.length cap3) L)) (fun _ x _ => l.length - (intOf x).toNat)
    case atStart => exact ⟨0, 0, Nat.zero_le _, rfl, rfl, by omega, fun _ => rfl, X4.out.step (below_one _ _), V4.out.alloc _, Y4.out.alloc _⟩
    case round =>
      clear X4 Y4 V4 l4 a5 a6 X3 Y3 V3 X1 V1
      obtain ⟨k, T, hk, rfl, rfl, hT, hT0, X4, V4, Y4⟩ := hrel
      by_cases hlt : k < l.length
      · have c1 := V4.out.cell_at hlt
        have i0 : (0 : Int) ≤ k := by omega
        have i1 : (k : Int) < l.length := by omega
        have c2 := Y4.out.cell_at (i := k) (by have := HLen.out; omega)
        rw [Nat.zero_add, HX.out k] at c2
        by_cases hk2 : k = bq
        · subst hk2
          rw [if_pos rfl] at c2
          have hT00 := hT0 (Nat.le_refl _)
          subst hT00
          by_cases hE : bAt l k = putB (bAt l k) at_ c
          · rw [← hE] at c2
            clear hE
            go_wp2_with fail
            go_quiet (fail)
            go_wp2_with fail
            go_roundw
            case rel => exact ⟨k + 1, 0, by omega, by go_num, rfl, by omega, fun _ => rfl, X4.out.step (below_drewN (Below.refl _ _) _), V4.out.mono (below_drewN (Below.refl _ _) _), Y4.out.mono (below_drewN (Below.refl _ _) _)⟩
            case measure => simp [intOf]; omega
          · have hne := str_ne hE
            generalize putB (bAt l k) at_ c = Z at c2 hne
            clear hE
            go_wp2_with fail
            go_quiet (fail)
            go_wp2_with fail
            go_roundw
            case rel => exact ⟨k + 1, 1, by omega, by go_num, rfl, by omega, fun h => by omega, X4.out.step (below_drewN (Below.refl _ _) _), V4.out.mono (below_drewN (Below.refl _ _) _), Y4.out.mono (below_drewN (Below.refl _ _) _)⟩
            case measure => simp [intOf]; omega
        · rw [if_neg hk2] at c2
          go_wp2_with fail
          go_quiet (fail)
          go_wp2_with fail
          go_roundw
          case rel => exact ⟨k + 1, T, by omega, by go_num, rfl, hT, fun h => hT0 (by omega), X4.out.step (below_drewN (Below.refl _ _) _), V4.out.mono (below_drewN (Below.refl _ _) _), Y4.out.mono (below_drewN (Below.refl _ _) _)⟩
          case measure => simp [intOf]; omega
      · clear hT0
        obtain rfl | rfl : T = 0 ∨ T = 1 := by omega
        all_goals
          by_cases ho : other = n
          · subst ho
            go_wp2_with (first
              | (go_at_call 40; refine (PG1.out _ _ Y5.out).mono ?_; rintro e W6 ⟨rfl, hb⟩; have X6 := Lib.hid (X5.out.step hb); clear hb)
              | (go_at_call 40; refine (PGa.out _ V4.out).mono ?_; rintro e W5 ⟨rfl, hb⟩; have X5 := Lib.hid ((X4.out.step hb).step (below_one _ (.cells (inoC D) 48))); have Y5 := Lib.hid ((Y4.out.mono hb).alloc (.cells (inoC D) 48)); clear hb))
            go_ret
            exact ⟨rfl, (X6.out.step (below_one _ (.cells (inoC c) 48))).below⟩
          · have ho2 : (other == n) = false := by simpa using ho
            have PGc := Lib.hid (PGb.out ho)
            go_wp2_with (first
              | (go_at_call 40; refine (PGc.out _ _ Y5.out).mono ?_; rintro e W6 ⟨rfl, hb⟩; have X6 := Lib.hid (X5.out.step hb); have lt6 := Nat.lt_of_lt_of_le lt5 hb.size; obtain ⟨a1, a2⟩ := agg_facts (keep P5.out hb) 12 rfl; clear hb)
              | (go_at_call 40; refine (PGa.out _ V4.out).mono ?_; rintro e W5 ⟨rfl, hb⟩; have X5 := Lib.hid ((X4.out.step hb).step (below_one _ (.cells (inoC D) 48))); have Y5 := Lib.hid ((Y4.out.mono hb).alloc (.cells (inoC D) 48)); have P5 := Lib.hid (heap_alloc_new W5 (.cells (inoC D) 48)); have lt5 := heap_lt P5.out; clear hb))
            go_ret
            exact ⟨rfl, (X6.out.step (below_one _ (.cells (inoC D) 48))).below⟩
  · have hL := put_bad he
    unfold PutPost at PP
    rw [hL] at PP
    generalize (mput l n c).2 = er at PP he
    have he' : (er != 0) = true := by simpa using he
    clear hL hg hv hs hl h80
    go_enter Try.func9, Try.ntmps9
    go_wp2_with (first
      | (go_at_call 35; refine (PP.out _ V1.out).mono ?_; rintro e W3 ⟨x, rfl, ho, hb⟩; have X3 := Lib.hid (X1.out.step hb); obtain ⟨a3, cap3, rfl, -⟩ := ho.strs.ex; clear hb ho)
      | (go_at_call 34; refine (PG.out _ V1.out).mono ?_; rintro e W2 ⟨rfl, rfl⟩)
      | (go_at_call 33; refine (alive18_any _).mono ?_; rintro e W1 ⟨rfl, hb⟩; have X1 := Lib.hid (Iv.start hb); have V1 := Lib.hid ((HVs.out.alloc _).mono hb); obtain ⟨a1, a2⟩ := agg_facts X1.out.hp 12 rfl; clear hb))
    go_ret
    exact ⟨rfl, X3.out.below⟩
end Go.Proofs.Ytopbejdhfndfbaa
