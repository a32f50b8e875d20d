/- The law InodeTwice, walked; the contract of law 18's Same. No condition. -/
import Derived.Test.YtopbejdhfndfbaaInoB
import Derived.Test.YtopbejdhfndfbaaInoQ
namespace Go.Proofs.Ytopbejdhfndfbaa
open Go.RowKit
set_option maxRecDepth 20000
set_option maxHeartbeats 400000 in
theorem same18_yes (u v : Value) (l : List ByteArray) (w : World) (hu : Strs w u l) (hv : Strs w v l) (hl : l.length ≤ 100000) :
    Calls Try.prog 37 #[u, v] w fun e w' => e = .returned (.bool true) ∧ Below w.heap.size w w' := by
  rcases hu.shape with ⟨rfl, a, cap, rfl, -⟩ | ⟨h0, b, o, cap, rfl, -, hb, hc⟩
  · obtain ⟨a2, cap2, rfl, -⟩ := hv.ex
    go_enter Try.func37, Try.ntmps37
    go_wp2_with fail
    go_loop [5] (fun i => i = .int .i64 0) (fun _ => 0)
    case atStart => rfl
    case round =>
      subst hrel
      go_wp2_with fail
      go_ret
      exact ⟨rfl, Below.refl _ _⟩
  · rcases hv.shape with ⟨rfl, -⟩ | ⟨-, b2, o2, cap2, rfl, -, hb2, hc2⟩
    · simp at h0
    · have HC := Lib.hid hc
      have HC2 := Lib.hid hc2
      clear hc hc2 hu hv
      go_enter Try.func37, Try.ntmps37
      go_wp2_with fail
      go_loopw [5] (fun i W => ∃ k : Nat, k ≤ l.length ∧ i = .int .i64 k ∧ Hid (Below w.heap.size w W)) (fun i _ => l.length - (intOf i).toNat)
      case atStart => exact ⟨0, by omega, rfl, Below.refl _ _⟩
      case round =>
        obtain ⟨k, hk, rfl, HB⟩ := hrel
        by_cases hlt : k < l.length
        · have c1 := (HB.out.cell (p := ⟨b, o + k, none⟩) hb).trans (HC.out k hlt)
          have c2 := (HB.out.cell (p := ⟨b2, o2 + k, none⟩) hb2).trans (HC2.out k hlt)
          have i0 : (0 : Int) ≤ k := by omega
          have i1 : (k : Int) < l.length := by omega
          go_wp2_with fail
          go_quiet (fail)
          go_wp2_with fail
          go_roundw
          case rel => exact ⟨k + 1, by omega, by go_num, below_drewN HB.out _⟩
          case measure => simp [intOf]; omega
        · go_wp2_with fail
          go_ret
          exact ⟨rfl, HB.out⟩
/-- The law's own two inodes, and the worlds. -/
structure Iw (w W : World) (c d : Nat → Int) : Prop where
  hp : W.heap[w.heap.size]? = some (.cells (inoC c) 48)
  hq : W.heap[w.heap.size + 1]? = some (.cells (inoC d) 48)
  below : Below w.heap.size w W
theorem Iw.first (w : World) (c d : Nat → Int) : Iw w ((w.alloc (.cells (inoC c) 48)).alloc (.cells (inoC d) 48)) c d :=
  ⟨(heap_alloc_at _ _ _ (by rw [alloc_size]; omega)).trans (heap_alloc_new _ _), (by rw [← alloc_size w (.cells (inoC c) 48)]; exact heap_alloc_new _ _), below_two _ _ _⟩
theorem Iw.step {w W W' : World} {c d : Nat → Int} (h : Iw w W c d) (hb : Below W.heap.size W W') : Iw w W' c d := ⟨keep h.hp hb, keep h.hq hb, below_step h.below hb⟩
attribute [local go_sem ↓] loadVar_48 storeVar_48 eq_self48
attribute [local go_sem] run_load48 run_store48 aggAt_new aggAt_past aggAt_drew rowAt_new rowAt_past rowAt_drew rowOpen_new rowOpen_past rowOpen_drew setRow_made' alloc_setRow inoC_size
set_option maxHeartbeats 2000000 in
theorem twice_walk (v : Value) (l : List ByteArray) (n m : Int) (c d : Nat → Int) (hc : InR c) (hd : InR d) (w : World) (hv : Strs w v l) (hs : Hid (∀ i, (bAt l i).size ≤ 140737488351232)) (hl : Hid (l.length ≤ 140737488351232)) :
    Calls Try.prog 10 #[v, .int .i64 n, .int .i64 m, .agg (inoC c), .agg (inoC d)] w fun e w' => e = .returned (.bool true) ∧ Below w.heap.size w w' := by
  have HVs := Lib.hid hv
  by_cases hg : Gr l
  · have PG : Hid (∀ w, Strs w v l → Calls Try.prog 34 #[v] w fun e w' => e = .returned (.int .i64 1) ∧ w = w') := fun w hv => great18_yes hg hv hs hl
    clear hg hv hs hl
    go_enter Try.func10, Try.ntmps10
    go_wp2_with (first
      | (go_at_call 34; refine (PG.out _ V1.out).mono ?_; rintro e W2 ⟨rfl, rfl⟩)
      | (go_at_call 33; refine (alive18_any _).mono ?_; rintro e W1 ⟨rfl, hb⟩; have X1 := Lib.hid ((Iw.first w c d).step hb); have V1 := Lib.hid (((HVs.out.alloc _).alloc _).mono hb); clear hb))
    go_ret
    exact ⟨rfl, X1.out.below⟩
  have h80 := Gr.len hg
  have PG : Hid (∀ w, Strs w v l → Calls Try.prog 34 #[v] w fun e w' => e = .returned (.int .i64 0) ∧ w = w') := fun w hv => great18_no hg hv hs hl
  by_cases hnm : n = m
  · subst hnm
    clear hg hv hs hl
    go_enter Try.func10, Try.ntmps10
    go_wp2_with (first
      | (go_at_call 34; refine (PG.out _ V1.out).mono ?_; rintro e W2 ⟨rfl, rfl⟩)
      | (go_at_call 33; refine (alive18_any _).mono ?_; rintro e W1 ⟨rfl, hb⟩; have X1 := Lib.hid ((Iw.first w c d).step hb); have V1 := Lib.hid (((HVs.out.alloc _).alloc _).mono hb); clear hb))
    go_ret
    exact ⟨rfl, X1.out.below⟩
  have hnm2 : (n == m) = false := by simpa using hnm
  have PPn : Hid (∀ w, Strs w v l → Calls Try.prog 35 #[v, .int .i64 n, .agg (inoC c)] w (PutPost l n c w)) := fun w hv => iput_any v l n c hc w hv (by omega)
  have PPm : Hid (∀ w, Strs w v l → Calls Try.prog 35 #[v, .int .i64 m, .agg (inoC d)] w (PutPost l m d w)) := fun w hv => iput_any v l m d hd w hv (by omega)
  by_cases he : (mput l n c).2 = 0 ∧ (mput l m d).2 = 0
  · obtain ⟨e1, e2⟩ := he
    obtain ⟨i, HV⟩ := put_fine e1
    obtain ⟨bq, at_, hP⟩ := put_is HV e1
    obtain ⟨bm, am, hQ⟩ := put_is HV e2
    have hA := (hP.vol HV).b1
    have hB := (hQ.vol HV).b1
    unfold PutPost at PPn PPm
    rw [e1] at PPn
    rw [e2] at PPm
    generalize (mput l n c).1 = A at hP PPn hA
    generalize (mput l m d).1 = B at hQ PPm hB
    have hR := hP.then HV hQ
    have hT := hQ.then HV hP
    have hsw := hP.swap HV hQ hnm
    rw [← hsw] at hT
    generalize A.set bm (putB (bAt A bm) am d) = C at hR hT
    have hC : C.length = l.length := by rw [hR.len, hP.len]
    have PAm : Hid (∀ w v, Strs w v A → Calls Try.prog 35 #[v, .int .i64 m, .agg (inoC d)] w fun e w' => ∃ x, e = .returned (.tuple #[x, .int .i64 0]) ∧ Own w.heap.size w' x C ∧ Below w.heap.size w w') := fun w v hv => by
      have := iput_any v A m d hd w hv (by omega)
      unfold PutPost at this
      rw [mput_put (hP.vol HV) hR] at this
      exact this
    have PBn : Hid (∀ w v, Strs w v B → Calls Try.prog 35 #[v, .int .i64 n, .agg (inoC c)] w fun e w' => ∃ x, e = .returned (.tuple #[x, .int .i64 0]) ∧ Own w.heap.size w' x C ∧ Below w.heap.size w w') := fun w v hv => by
      have := iput_any v B n c hc w hv (by omega)
      unfold PutPost at this
      rw [mput_put (hQ.vol HV) hT] at this
      exact this
    have PGn : Hid (∀ w v, Strs w v l → Calls Try.prog 40 #[v, .int .i64 n] w fun e w' => e = .returned (.tuple #[.agg (inoC (inoD (slotB l (n - 1).toNat))), .int .i64 0]) ∧ Below w.heap.size w w') := fun w v hv => by
      have := iget_any v l n w hv (by omega)
      unfold GetPost at this
      rw [get_ok HV hP.n1 hP.n2] at this
      exact this
    have PZn : Hid (∀ w v, Strs w v l → Calls Try.prog 35 #[v, .int .i64 n, .agg (inoC (inoD (slotB l (n - 1).toNat)))] w fun e w' => ∃ x, e = .returned (.tuple #[x, .int .i64 0]) ∧ Own w.heap.size w' x l ∧ Below w.heap.size w w') := fun w v hv => by
      have := iput_any v l n _ (inR_inoD (slotB l (n - 1).toNat)) w hv (by omega)
      unfold PutPost at this
      rw [put_as HV hP.n1 hP.n2] at this
      exact this
    have PSC : Hid (∀ w u v, Strs w u C → Strs w v C → Calls Try.prog 37 #[u, v] w fun e w' => e = .returned (.bool true) ∧ Below w.heap.size w w') := fun w u v hu hv => same18_yes u v C w hu hv (by omega)
    have PSl : Hid (∀ w u v, Strs w u l → Strs w v l → Calls Try.prog 37 #[u, v] w fun e w' => e = .returned (.bool true) ∧ Below w.heap.size w w') := fun w u v hu hv => same18_yes u v l w hu hv (by omega)
    generalize inoD (slotB l (n - 1).toNat) = Z at PGn PZn
    clear e1 e2 hA hB hR hT hsw hC hP hQ HV hg hv hs hl h80 hc hd hnm
    go_enter Try.func10, Try.ntmps10
    go_wp2_with (first
      | (go_at_call 37; refine (PSl.out _ _ _ E10.out V10.out).mono ?_; rintro e W11 ⟨rfl, hb⟩; have X11 := Lib.hid (X10.out.step hb); clear hb)
      | (go_at_call 37; refine (PSC.out _ _ _ C9.out D9.out).mono ?_; rintro e W10 ⟨rfl, hb⟩; have X10 := Lib.hid (X9.out.step hb); have V10 := Lib.hid (V9.out.mono hb); have E10 := Lib.hid (E9.out.mono hb); obtain ⟨a1, a2⟩ := agg_facts (keep P9.out hb) 12 rfl; obtain ⟨a3, a4⟩ := agg_facts (keep R9.out hb) 12 rfl; clear hb)
      | (go_at_call 40; refine (PGn.out _ _ E8.out).mono ?_; rintro e W9 ⟨rfl, hb⟩; have X9 := Lib.hid ((X8.out.step hb).step (below_one W9 (.cells (inoC Z) 48))); have V9 := Lib.hid ((V8.out.mono hb).alloc (.cells (inoC Z) 48)); have C9 := Lib.hid ((C8.out.mono hb).alloc (.cells (inoC Z) 48)); have D9 := Lib.hid ((D8.out.mono hb).alloc (.cells (inoC Z) 48)); have E9 := Lib.hid ((E8.out.mono hb).alloc (.cells (inoC Z) 48)); have P9 := Lib.hid ((heap_alloc_at W9 (.cells (inoC Z) 48) _ (heap_lt (keep P8.out hb))).trans (keep P8.out hb)); have R9 := Lib.hid (heap_alloc_new W9 (.cells (inoC Z) 48)); clear hb)
      | (go_at_call 35; refine (PZn.out _ _ V7.out).mono ?_; rintro e W8 ⟨xZ, rfl, ho, hb⟩; have X8 := Lib.hid (X7.out.step hb); have V8 := Lib.hid (V7.out.mono hb); have C8 := Lib.hid (C7.out.mono hb); have D8 := Lib.hid (D7.out.mono hb); have E8 := Lib.hid ho.strs; clear ho; have P8 := Lib.hid (keep P7.out hb); have lt8 := heap_lt P8.out; clear hb)
      | (go_at_call 40; refine (PGn.out _ _ V6.out).mono ?_; rintro e W7 ⟨rfl, hb⟩; have X7 := Lib.hid ((X6.out.step hb).step (below_one W7 (.cells (inoC Z) 48))); have V7 := Lib.hid ((V6.out.mono hb).alloc (.cells (inoC Z) 48)); have C7 := Lib.hid ((C6.out.mono hb).alloc (.cells (inoC Z) 48)); have D7 := Lib.hid ((D6.out.mono hb).alloc (.cells (inoC Z) 48)); have P7 := Lib.hid (heap_alloc_new W7 (.cells (inoC Z) 48)); have lt7 := heap_lt P7.out; clear hb)
      | (go_at_call 35; refine (PBn.out _ _ B5.out).mono ?_; rintro e W6 ⟨xD, rfl, ho, hb⟩; have X6 := Lib.hid (X5.out.step hb); have V6 := Lib.hid (V5.out.mono hb); have C6 := Lib.hid (C5.out.mono hb); have D6 := Lib.hid ho.strs; clear ho; clear a1 a2 a3 a4; clear hb)
      | (go_at_call 35; refine (PAm.out _ _ A4.out).mono ?_; rintro e W5 ⟨xC, rfl, ho, hb⟩; have X5 := Lib.hid (X4.out.step hb); have V5 := Lib.hid (V4.out.mono hb); have B5 := Lib.hid (B4.out.mono hb); have C5 := Lib.hid ho.strs; clear ho; clear a1 a2 a3 a4; obtain ⟨a1, a2⟩ := agg_facts X5.out.hp 12 rfl; obtain ⟨a3, a4⟩ := agg_facts X5.out.hq 12 rfl; clear hb)
      | (go_at_call 35; refine (PPm.out _ V3.out).mono ?_; rintro e W4 ⟨xB, rfl, ho, hb⟩; have X4 := Lib.hid (X3.out.step hb); have V4 := Lib.hid (V3.out.mono hb); have A4 := Lib.hid (A3.out.mono hb); have B4 := Lib.hid ho.strs; clear ho; clear a1 a2 a3 a4; obtain ⟨a1, a2⟩ := agg_facts X4.out.hp 12 rfl; obtain ⟨a3, a4⟩ := agg_facts X4.out.hq 12 rfl; clear hb)
      | (go_at_call 35; refine (PPn.out _ V1.out).mono ?_; rintro e W3 ⟨xA, rfl, ho, hb⟩; have X3 := Lib.hid (X1.out.step hb); have V3 := Lib.hid (V1.out.mono hb); have A3 := Lib.hid ho.strs; clear ho; clear a1 a2 a3 a4; obtain ⟨a1, a2⟩ := agg_facts X3.out.hp 12 rfl; obtain ⟨a3, a4⟩ := agg_facts X3.out.hq 12 rfl; clear hb)
      | (go_at_call 34; refine (PG.out _ V1.out).mono ?_; rintro e W2 ⟨rfl, rfl⟩; have q2 := W1)
      | (go_at_call 33; refine (alive18_any _).mono ?_; rintro e W1 ⟨rfl, hb⟩; have X1 := Lib.hid ((Iw.first w c d).step hb); have V1 := Lib.hid (((HVs.out.alloc _).alloc _).mono hb); obtain ⟨a1, a2⟩ := agg_facts X1.out.hp 12 rfl; obtain ⟨a3, a4⟩ := agg_facts X1.out.hq 12 rfl; clear hb))
    go_ret
    exact ⟨rfl, X11.out.below⟩
  · have he2 : (mput l n c).2 ≠ 0 ∨ ((mput l n c).2 = 0 ∧ (mput l m d).2 ≠ 0) := by
      by_cases e1 : (mput l n c).2 = 0
      · exact .inr ⟨e1, fun e2 => he ⟨e1, e2⟩⟩
      · exact .inl e1
    unfold PutPost at PPn PPm
    generalize (mput l n c).2 = er at PPn he2
    generalize (mput l m d).2 = es at PPm he2
    clear he hg hv hs hl h80 hc hd hnm
    rcases he2 with he | ⟨rfl, he⟩
    · have he' : (er != 0) = true := by simpa using he
      go_enter Try.func10, Try.ntmps10
      go_wp2_with (first
        | (go_at_call 35; refine (PPm.out _ V3.out).mono ?_; rintro e W4 ⟨xB, rfl, ho, hb⟩; have X4 := Lib.hid (X3.out.step hb); clear ho; clear hb)
        | (go_at_call 35; refine (PPn.out _ V1.out).mono ?_; rintro e W3 ⟨xA, rfl, ho, hb⟩; have X3 := Lib.hid (X1.out.step hb); have V3 := Lib.hid (V1.out.mono hb); clear ho; clear a1 a2 a3 a4; obtain ⟨a1, a2⟩ := agg_facts X3.out.hp 12 rfl; obtain ⟨a3, a4⟩ := agg_facts X3.out.hq 12 rfl; clear hb)
        | (go_at_call 34; refine (PG.out _ V1.out).mono ?_; rintro e W2 ⟨rfl, rfl⟩; have q2 := W1)
        | (go_at_call 33; refine (alive18_any _).mono ?_; rintro e W1 ⟨rfl, hb⟩; have X1 := Lib.hid ((Iw.first w c d).step hb); have V1 := Lib.hid (((HVs.out.alloc _).alloc _).mono hb); obtain ⟨a1, a2⟩ := agg_facts X1.out.hp 12 rfl; obtain ⟨a3, a4⟩ := agg_facts X1.out.hq 12 rfl; clear hb))
      go_ret
      exact ⟨rfl, X4.out.below⟩
    · have he' : (es != 0) = true := by simpa using he
      go_enter Try.func10, Try.ntmps10
      go_wp2_with (first
        | (go_at_call 35; refine (PPm.out _ V3.out).mono ?_; rintro e W4 ⟨xB, rfl, ho, hb⟩; have X4 := Lib.hid (X3.out.step hb); clear ho; clear hb)
        | (go_at_call 35; refine (PPn.out _ V1.out).mono ?_; rintro e W3 ⟨xA, rfl, ho, hb⟩; have X3 := Lib.hid (X1.out.step hb); have V3 := Lib.hid (V1.out.mono hb); clear ho; clear a1 a2 a3 a4; obtain ⟨a1, a2⟩ := agg_facts X3.out.hp 12 rfl; obtain ⟨a3, a4⟩ := agg_facts X3.out.hq 12 rfl; clear hb)
        | (go_at_call 34; refine (PG.out _ V1.out).mono ?_; rintro e W2 ⟨rfl, rfl⟩; have q2 := W1)
        | (go_at_call 33; refine (alive18_any _).mono ?_; rintro e W1 ⟨rfl, hb⟩; have X1 := Lib.hid ((Iw.first w c d).step hb); have V1 := Lib.hid (((HVs.out.alloc _).alloc _).mono hb); obtain ⟨a1, a2⟩ := agg_facts X1.out.hp 12 rfl; obtain ⟨a3, a4⟩ := agg_facts X1.out.hq 12 rfl; clear hb))
      go_ret
      exact ⟨rfl, X4.out.below⟩
end Go.Proofs.Ytopbejdhfndfbaa
