/- Contract of inode.Put. Condition: at most 100,000 blocks. -/
import Derived.Test.YtopbejdhfndfbaaIno5
import Derived.Test.YtopbejdhfndfbaaGeoC
namespace Go.Proofs.Ytopbejdhfndfbaa
open Go.RowKit
set_option maxRecDepth 20000
attribute [local go_sem ↓] loadVar_24 storeVar_24 loadVar_48 storeVar_48
attribute [local go_sem] run_load24 run_store24 run_load48 run_store48 run_store48_lit aggAt_new aggAt_past aggAt_drew rowAt_new rowAt_past rowAt_drew rowOpen_new rowOpen_past rowOpen_drew setRow_made' alloc_setRow
/-- A block with an inode's 24 bytes at a place. -/
def putB (x : ByteArray) (at_ : Nat) (c : Nat → Int) : ByteArray := ⟨((bl x).take at_ ++ inoB c ++ (bl x).drop (at_ + 24)).toArray⟩
def mput (v : List ByteArray) (n : Int) (c : Nat → Int) : List ByteArray × Int :=
  match mof v with
  | none => ([], 3)
  | some i => if n < 1 ∨ (i : Int) < n then ([], 2) else if fitsB c then (v.set (3 + (n - 1).toNat / 2) (putB (bAt v (3 + (n - 1).toNat / 2)) ((n - 1).toNat % 2 * 64) c), 0) else ([], 1)
theorem inoB_length (c : Nat → Int) : (inoB c).length = 24 := by
  unfold inoB
  simp only [show List.range 12 = [0, 1, 2, 3, 4, 5, 6, 7, 8, 9, 10, 11] from rfl, List.flatMap_cons, List.flatMap_nil, List.length_append, leBytes_length, List.length_nil]
  rfl
theorem size_putB (x : ByteArray) (at_ : Nat) (c : Nat → Int) (h : at_ + 24 ≤ x.size) : (putB x at_ c).size = x.size := by
  rw [← bl_length]
  unfold putB
  rw [bl_mk, List.length_append, List.length_append, List.length_take, List.length_drop, inoB_length, bl_length]
  omega
theorem putB_cat (x : ByteArray) (at_ : Nat) (c : Nat → Int) : x.extract 0 at_ ++ (⟨(inoB c).toArray⟩ : ByteArray) ++ x.extract (at_ + 24) x.size = putB x at_ c := by
  apply bl_ext
  have e1 : bl (x.extract 0 at_) = (bl x).take at_ := by rw [bl_extract, List.drop_zero, Nat.sub_zero]
  have e2 : bl (x.extract (at_ + 24) x.size) = (bl x).drop (at_ + 24) := by
    rw [bl_extract, List.take_of_length_le (by rw [List.length_drop, bl_length]; exact Nat.le_refl _)]
  have e3 : bl (putB x at_ c) = (bl x).take at_ ++ inoB c ++ (bl x).drop (at_ + 24) := by unfold putB; exact bl_mk _
  refine (bl_append _ _).trans ?_
  rw [e3, e2, show bl (x.extract 0 at_ ++ (⟨(inoB c).toArray⟩ : ByteArray)) = bl (x.extract 0 at_) ++ bl ⟨(inoB c).toArray⟩ from bl_append _ _, e1, show bl (⟨(inoB c).toArray⟩ : ByteArray) = inoB c from bl_mk _]
theorem mput_ok {l : List ByteArray} {i bq at_ : Nat} {n : Int} {c : Nat → Int} (h : Vol l i) (h1 : ¬ n < 1) (h2 : ¬ (i : Int) < n) (hP : Pl l n bq at_) (hf : fitsB c = true) : mput l n c = (l.set bq (putB (bAt l bq) at_ c), 0) := by
  unfold mput
  rw [mof_of h]
  simp only
  rw [if_neg (by omega), hf, if_pos rfl, hP.blk, hP.pos]
theorem mput_unfit {l : List ByteArray} {i : Nat} {n : Int} {c : Nat → Int} (h : Vol l i) (h1 : ¬ n < 1) (h2 : ¬ (i : Int) < n) (hf : fitsB c = false) : mput l n c = ([], 1) := by
  unfold mput
  rw [mof_of h]
  simp only
  rw [if_neg (by omega), hf]
  rfl
theorem mput_err {l : List ByteArray} {n : Int} {c : Nat → Int} (h : ¬ ∃ i, mof l = some i ∧ ¬ n < 1 ∧ ¬ (i : Int) < n) : ∃ er : Int, (er = 2 ∨ er = 3) ∧ mplace l n = (0, 0, er) ∧ mput l n c = ([], er) := by
  unfold mplace mput
  cases hm : mof l with
  | none => exact ⟨3, .inr rfl, rfl, rfl⟩
  | some i =>
    simp only
    by_cases hn : n < 1 ∨ (i : Int) < n
    · rw [if_pos hn, if_pos hn]
      exact ⟨2, .inl rfl, rfl, rfl⟩
    · exact absurd ⟨i, hm, by omega, by omega⟩ h
def PutPost (v : List ByteArray) (n : Int) (c : Nat → Int) (w : World) (e : Ending) (w' : World) : Prop := ∃ x, e = .returned (.tuple #[x, .int .i64 (mput v n c).2]) ∧ Own w.heap.size w' x (mput v n c).1 ∧ Below w.heap.size w w'
theorem put_post {v l : List ByteArray} {n er : Int} {c : Nat → Int} {x : Value} {w w' : World} (h : mput v n c = (l, er)) (ho : Own w.heap.size w' x l) (hb : Below w.heap.size w w') : PutPost v n c w (.returned (.tuple #[x, .int .i64 er])) w' := by
  refine ⟨x, ?_, ?_, hb⟩
  · rw [h]
  · rw [h]; exact ho
def InR (c : Nat → Int) : Prop := ∀ k, k < 12 → -9223372036854775808 ≤ c k ∧ c k ≤ 9223372036854775807
set_option maxHeartbeats 2000000 in
theorem iput_any (v : Value) (l : List ByteArray) (n : Int) (c : Nat → Int) (hc : InR c) (w : World) (hv : Strs w v l) (hl : l.length ≤ 100000) : Calls Try.prog 35 #[v, .int .i64 n, .agg (inoC c)] w (PutPost l n c w) := by
  by_cases h : ∃ i, mof l = some i ∧ ¬ n < 1 ∧ ¬ (i : Int) < n
  · obtain ⟨i, hm, h1, h2⟩ := h
    have HV := mof_some hm
    obtain ⟨bq, at_, hP, hpl⟩ := place_ok HV h1 h2
    have PL : Hid (∀ w, Strs w v l → Calls Try.prog 58 #[v, .int .i64 n] w fun e w' => e = .returned (.tuple #[.int .i64 (bq : Int), .int .i64 (at_ : Int), .int .i64 0]) ∧ Below w.heap.size w w') := fun w hv => by
      have := place_any v l n w hv hl
      unfold PlacePost at this
      rw [hpl] at this
      exact this
    have PF : Hid (∀ w, Calls Try.prog 59 #[.agg (inoC c)] w fun e w' => e = .returned (.bool (fitsB c)) ∧ Below w.heap.size w w') := fun w => fits_any c hc w
    have HVs := Lib.hid hv
    cases hf : fitsB c with
    | false =>
      have HU := Lib.hid (mput_unfit HV h1 h2 hf)
      rw [hf] at PF
      clear hm h1 h2 HV hpl hP hf hv hl hc
      go_enter Try.func35, Try.ntmps35
      go_wp2_with (first
        | (go_at_call 59; refine (PF.out _).mono ?_; rintro e W2 ⟨rfl, hb2⟩; have HB2 := Lib.hid (below_step HK.out.2 hb2); clear hb2)
        | (go_at_call 58; refine (PL.out _ (HVs.out.alloc _)).mono ?_; rintro e W1 ⟨rfl, hb1⟩; have HK := Lib.hid (keep1 hb1); obtain ⟨a1, a2⟩ := agg_facts HK.out.1 12 rfl; clear hb1))
      go_ret2
      exact put_post HU.out (Own.none _ _) HB2.out
    | true =>
      have HU := Lib.hid (mput_ok HV h1 h2 hP hf)
      have PB : Hid (∀ w, Calls Try.prog 61 #[.agg (inoC c)] w fun e w' => e = .returned (.string ⟨(inoB c).toArray⟩) ∧ Below w.heap.size w w') := fun w => bytes_any c w ((fitsB_iff c).1 hf)
      rw [hf] at PF
      have hz := hP.size
      have hlt := Lib.hid hP.lt
      have hat := hP.two
      have hbi : (bq : Int) < l.length := by have := hP.lt; omega
      have hbi0 : (0 : Int) ≤ bq := by omega
      have HX := Lib.hid (putB_cat (bAt l bq) at_ c)
      have hY : (⟨(inoB c).toArray⟩ : ByteArray).size = 24 := by rw [← bl_length, bl_mk, inoB_length]
      rw [hz] at HX
      rcases hv.shape with ⟨rfl, -⟩ | ⟨-, b, o, cap, rfl, -, -, -⟩
      · have := hP.lt
        simp at this
      have h0 := Lib.hid (show 0 < l.length by have := hP.lt; omega)
      have PC : Hid (∀ w, Strs w (.slice (some ⟨b, o, none⟩) l.length cap) l → Calls Try.prog 60 #[.slice (some ⟨b, o, none⟩) l.length cap] w (ClonePost l w)) := fun w hv => clone_any _ l w hv hl
      generalize (⟨(inoB c).toArray⟩ : ByteArray) = Y at PB HX hY
      clear hm h1 h2 HV hpl hP hf hv hl hc
      rcases hat with rfl | rfl
      all_goals
        go_enter Try.func35, Try.ntmps35
        go_wp2_with (first
          | (go_at_call 61; refine (PB.out _).mono ?_; rintro e W4 ⟨rfl, hb4⟩; have HB4 := Lib.hid (below_step HB3.out hb4); have R4 := Lib.hid (R3.out.step hb4); have V4 := Lib.hid (V3.out.mono hb4); clear hb4)
          | (go_at_call 60; refine (PC.out _ V2.out).mono ?_; rintro e W3 ⟨v3, rfl, ho, hb3⟩; obtain ⟨g, cap3, rfl, hR⟩ := ho.row h0.out; have HB3 := Lib.hid (below_step HB2.out hb3); have R3 := Lib.hid hR; have V3 := Lib.hid (V2.out.mono hb3); have HL2 := Lib.hid HB2.out.size; obtain ⟨a3, a4⟩ := agg_facts (keep H2.out hb3) 12 rfl; clear ho hb3 hR a1 a2)
          | (go_at_call 59; refine (PF.out _).mono ?_; rintro e W2 ⟨rfl, hb2⟩; have HB2 := Lib.hid (below_step HK.out.2 hb2); have H2 := Lib.hid (keep HK.out.1 hb2); have V2 := Lib.hid (V1.out.mono hb2); clear hb2)
          | (go_at_call 58; refine (PL.out _ (HVs.out.alloc _)).mono ?_; rintro e W1 ⟨rfl, hb1⟩; have HK := Lib.hid (keep1 hb1); have V1 := Lib.hid ((HVs.out.alloc _).mono hb1); obtain ⟨a1, a2⟩ := agg_facts HK.out.1 12 rfl; clear hb1))
        have hs1 : ((bAt l bq).extract 0 64).size = 64 := by rw [ByteArray.size_extract, hz]; rfl
        have hs2 : ((bAt l bq).extract 0 64 ++ Y).size = 88 := by rw [ByteArray.size_append, hs1, hY]
        have hs3 : ((bAt l bq).extract 88 128).size = 40 := by rw [ByteArray.size_extract, hz]; rfl
        have hs4 : ((bAt l bq).extract 24 128).size = 104 := by rw [ByteArray.size_extract, hz]; rfl
        have w88 : IntKind.i64.wrap 88 = 88 := rfl
        have w24 : IntKind.i64.wrap 24 = 24 := rfl
        have c1 := V4.out.drew.cell_at hlt.out
        have c2 := R4.out.drew.cell hlt.out
        have c3 := R4.out.drew.froz bq
        refine region_tail 21 (by kernel_rfl) (by kernel_rfl) ?_
        simp only [List.take_succ_cons, List.take_zero, List.drop_succ_cons, List.drop_zero]
        iterate 19 still_step
      · repeat still_step
        refine wpStill_nil ?_
        go_wp2_with fail
        go_ret2
        have HX : Hid (Y ++ (bAt l bq).extract 24 128 = putB (bAt l bq) 0 c) := by
          have := HX.out
          rw [ByteArray.extract_same, ByteArray.empty_append] at this
          exact this
        rw [HX.out]
        exact put_post HU.out (((R4.out.set hlt.out _).drew.own' List.length_set.symm).lower HL2.out) (below_setCell HB4.out (Nat.le_trans HL2.out R4.out.lo) _ _).drew
      · have hk : ¬ (9223372036854775807 < ((bAt l bq).extract 0 64 ++ Y).size + ((bAt l bq).extract 88 128).size) := by rw [hs2, hs3]; decide
        have HX : Hid ((bAt l bq).extract 0 64 ++ Y ++ (bAt l bq).extract 88 128 = putB (bAt l bq) 64 c) := HX
        generalize (bAt l bq).extract 0 64 ++ Y = A1 at hk HX ⊢
        generalize (bAt l bq).extract 88 128 = A2 at hk HX ⊢
        repeat still_step
        refine wpStill_nil ?_
        go_wp2_with fail
        go_ret2
        rw [HX.out]
        exact put_post HU.out (((R4.out.set hlt.out _).drew.own' List.length_set.symm).lower HL2.out) (below_setCell HB4.out (Nat.le_trans HL2.out R4.out.lo) _ _).drew
  · obtain ⟨er, he, hpl, hU⟩ := mput_err (c := c) h
    have HU := Lib.hid hU
    have PL : Hid (∀ w, Strs w v l → Calls Try.prog 58 #[v, .int .i64 n] w fun e w' => e = .returned (.tuple #[.int .i64 0, .int .i64 0, .int .i64 er]) ∧ Below w.heap.size w w') := fun w hv => by
      have := place_any v l n w hv hl
      unfold PlacePost at this
      rw [hpl] at this
      exact this
    have HVs := Lib.hid hv
    clear h hpl hU hv hl hc
    rcases he with rfl | rfl
    all_goals
      go_enter Try.func35, Try.ntmps35
      go_wp2_with (go_at_call 58; refine (PL.out _ (HVs.out.alloc _)).mono ?_; rintro e W1 ⟨rfl, hb1⟩; have HK := Lib.hid (keep1 hb1); clear hb1)
      go_ret2
      exact put_post HU.out (Own.none _ _) HK.out.2
end Go.Proofs.Ytopbejdhfndfbaa
