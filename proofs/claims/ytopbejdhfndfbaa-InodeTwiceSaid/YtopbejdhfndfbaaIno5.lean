/- Contracts of inode.place and inode.Get. Condition: at most 100,000 blocks. -/
import Derived.Test.YtopbejdhfndfbaaIno4
import Derived.Test.YtopbejdhfndfbaaGeoB
namespace Go.Proofs.Ytopbejdhfndfbaa
open Go.RowKit
set_option maxRecDepth 20000
def mplace (v : List ByteArray) (n : Int) : Int × Int × Int :=
  match mof v with
  | none => (0, 0, 3)
  | some i => if n < 1 ∨ (i : Int) < n then (0, 0, 2) else (3 + (n - 1) / 2, (n - 1) % 2 * 64, 0)
/-- The text of an inode's place. -/
def slotB (v : List ByteArray) (k : Nat) : ByteArray := (bAt v (3 + k / 2)).extract (k % 2 * 64) (k % 2 * 64 + 64)
def mget (v : List ByteArray) (n : Int) : (Nat → Int) × Int :=
  match mof v with
  | none => (ino0, 3)
  | some i => if n < 1 ∨ (i : Int) < n then (ino0, 2) else (inoD (slotB v (n - 1).toNat), 0)
theorem run_store48_lit (w : World) (b : Nat) (x0 x1 x2 x3 x4 x5 x6 x7 x8 x9 x10 x11 : Int) (h : rowOpen w b 12 = true) :
    (store48 ⟨b, 0, none⟩ (.agg #[.int .i64 x0, .int .i64 x1, .int .i64 x2, .int .i64 x3, .int .i64 x4, .int .i64 x5, .int .i64 x6, .int .i64 x7, .int .i64 x8, .int .i64 x9, .int .i64 x10, .int .i64 x11])).run Try.prog w = .ok () (w.setRow b #[.int .i64 x0, .int .i64 x1, .int .i64 x2, .int .i64 x3, .int .i64 x4, .int .i64 x5, .int .i64 x6, .int .i64 x7, .int .i64 x8, .int .i64 x9, .int .i64 x10, .int .i64 x11]) := by
  obtain ⟨cs, t, hb, hz⟩ := rowOpen_is h
  exact run_storeVar_row w b t 48 cs _ hb info48 hz (by rw [← Array.all_toList]; rfl)
theorem load48_row {w : World} {b : Nat} {cs : Array Value} (h : rowAt w b 12 = true) (h2 : aggAt w b = .agg cs) : (loadVar 48 ⟨b, 0, none⟩).run Try.prog w = .ok (.agg cs) w := by
  have := run_load48 w b h
  rw [h2] at this
  exact this
theorem end48 (W : World) (g : Nat) (cs : Array Value) (h : rowOpen W g 12 = true) (hs : cs.size = 12) : (loadVar 48 ⟨g, 0, none⟩).run Try.prog (W.setRow g cs) = .ok (.agg cs) (W.setRow g cs) :=
  load48_row (by rw [rowAt_setRow_same _ _ _ 12 _ h, hs]; rfl) (aggAt_setRow_same _ _ 12 _ h)
attribute [local go_sem ↓] loadVar_24 storeVar_24 loadVar_48 storeVar_48
attribute [local go_sem] run_load24 run_store24 run_load48 run_store48 run_store48_lit aggAt_new aggAt_past aggAt_drew rowAt_new rowAt_past rowAt_drew rowOpen_new rowOpen_past rowOpen_drew setRow_made' alloc_setRow
def PlacePost (v : List ByteArray) (n : Int) (w : World) (e : Ending) (w' : World) : Prop := e = .returned (.tuple #[.int .i64 (mplace v n).1, .int .i64 (mplace v n).2.1, .int .i64 (mplace v n).2.2]) ∧ Below w.heap.size w w'
theorem place_post {v : List ByteArray} {n x y z : Int} {w w' : World} (h : mplace v n = (x, y, z)) (hb : Below w.heap.size w w') : PlacePost v n w (.returned (.tuple #[.int .i64 x, .int .i64 y, .int .i64 z])) w' := by
  refine ⟨?_, hb⟩
  rw [h]
set_option maxHeartbeats 400000 in
theorem place_any (v : Value) (l : List ByteArray) (n : Int) (w : World) (hv : Strs w v l) (hl : l.length ≤ 100000) : Calls Try.prog 58 #[v, .int .i64 n] w (PlacePost l n w) := by
  cases h : mof l with
  | none =>
    have HU : Hid (mplace l n = (0, 0, 3)) := by show mplace l n = _; unfold mplace; rw [h]
    have PO := Lib.hid (of_nope h hl w hv)
    unfold geo0 at PO
    clear h hv hl
    go_enter Try.func58, Try.ntmps58
    go_wp2_with (go_at_call 20; refine PO.out.mono ?_; rintro e W1 ⟨rfl, hb1⟩; have HK := Lib.hid hb1; clear hb1)
    go_ret3
    exact place_post HU.out (HK.out.alloc HK.out.size _)
  | some i =>
    have HV := mof_some h
    have i1 := HV.i1
    have PO := Lib.hid (of_yes h hl w hv)
    unfold geoC at PO
    by_cases h1 : n < 1
    · have HU : Hid (mplace l n = (0, 0, 2)) := by show mplace l n = _; unfold mplace; rw [h]; simp only; rw [if_pos (.inl h1)]
      clear h hv hl HV
      go_enter Try.func58, Try.ntmps58
      go_wp2_with (go_at_call 20; refine PO.out.mono ?_; rintro e W1 ⟨rfl, hb1⟩; have HK := Lib.hid hb1; clear hb1)
      go_ret3
      exact place_post HU.out (HK.out.alloc HK.out.size _)
    by_cases h2 : (i : Int) < n
    · have HU : Hid (mplace l n = (0, 0, 2)) := by show mplace l n = _; unfold mplace; rw [h]; simp only; rw [if_pos (.inr h2)]
      clear h hv hl HV
      go_enter Try.func58, Try.ntmps58
      go_wp2_with (go_at_call 20; refine PO.out.mono ?_; rintro e W1 ⟨rfl, hb1⟩; have HK := Lib.hid hb1; clear hb1)
      go_ret3
      exact place_post HU.out (HK.out.alloc HK.out.size _)
    · have HU : Hid (mplace l n = (3 + (n - 1) / 2, (n - 1) % 2 * 64, 0)) := by show mplace l n = _; unfold mplace; rw [h]; simp only; rw [if_neg (by omega)]
      clear h hv hl HV
      obtain ⟨k, rfl⟩ : ∃ k : Nat, n = k + 1 := ⟨(n - 1).toNat, by omega⟩
      have hk : k ≤ 63 := by omega
      rw [Int.add_sub_cancel] at HU
      go_enter Try.func58, Try.ntmps58
      go_wp2_with (go_at_call 20; refine PO.out.mono ?_; rintro e W1 ⟨rfl, hb1⟩; have HK := Lib.hid hb1; clear hb1)
      go_ret3
      exact place_post HU.out (HK.out.alloc HK.out.size _)
/-- Where the inode k + 1 of a volume lies. -/
structure Pl (l : List ByteArray) (n : Int) (bq at_ : Nat) : Prop where
  lt : bq < l.length
  ge : 3 ≤ bq
  two : at_ = 0 ∨ at_ = 64
  size : (bAt l bq).size = 128
  slot : slotB l (n - 1).toNat = (bAt l bq).extract at_ (at_ + 64)
  blk : bq = 3 + (n - 1).toNat / 2
  pos : at_ = (n - 1).toNat % 2 * 64
theorem place_ok {l : List ByteArray} {i : Nat} (h : Vol l i) {n : Int} (h1 : ¬ n < 1) (h2 : ¬ (i : Int) < n) : ∃ bq at_ : Nat, Pl l n bq at_ ∧ mplace l n = ((bq : Int), (at_ : Int), 0) := by
  obtain ⟨k, rfl⟩ : ∃ k : Nat, n = k + 1 := ⟨(n - 1).toNat, by omega⟩
  have hd := h.d
  unfold dof at hd
  have e : ((k : Int) + 1 - 1).toNat = k := by omega
  refine ⟨3 + k / 2, k % 2 * 64, ⟨by omega, by omega, by omega, h.size _ (by omega), by rw [e]; rfl, by rw [e], by rw [e]⟩, ?_⟩
  unfold mplace
  rw [mof_of h]
  simp only
  rw [if_neg (by omega)]
  refine Prod.ext ?_ (Prod.ext ?_ rfl)
  · show (3 : Int) + ((k : Int) + 1 - 1) / 2 = ((3 + k / 2 : Nat) : Int)
    omega
  · show ((k : Int) + 1 - 1) % 2 * 64 = ((k % 2 * 64 : Nat) : Int)
    omega
theorem place_err {l : List ByteArray} {n : Int} (h : ¬ ∃ i, mof l = some i ∧ ¬ n < 1 ∧ ¬ (i : Int) < n) : ∃ er : Int, (er = 2 ∨ er = 3) ∧ mplace l n = (0, 0, er) ∧ mget l n = (ino0, er) := by
  unfold mplace mget
  cases hm : mof l with
  | none => exact ⟨3, .inr rfl, rfl, rfl⟩
  | some i =>
    simp only
    by_cases hn : n < 1 ∨ (i : Int) < n
    · rw [if_pos hn, if_pos hn]
      exact ⟨2, .inl rfl, rfl, rfl⟩
    · exact absurd ⟨i, hm, by omega, by omega⟩ h
theorem get_ok {l : List ByteArray} {i : Nat} (h : Vol l i) {n : Int} (h1 : ¬ n < 1) (h2 : ¬ (i : Int) < n) : mget l n = (inoD (slotB l (n - 1).toNat), 0) := by
  unfold mget
  rw [mof_of h]
  simp only
  rw [if_neg (by omega)]
def GetPost (v : List ByteArray) (n : Int) (w : World) (e : Ending) (w' : World) : Prop := e = .returned (.tuple #[.agg (inoC (mget v n).1), .int .i64 (mget v n).2]) ∧ Below w.heap.size w w'
theorem get_post {v : List ByteArray} {n er : Int} {c : Nat → Int} {w w' : World} (h : mget v n = (c, er)) (hb : Below w.heap.size w w') : GetPost v n w (.returned (.tuple #[.agg (inoC c), .int .i64 er])) w' := by
  refine ⟨?_, hb⟩
  rw [h]
set_option maxHeartbeats 1000000 in
theorem iget_any (v : Value) (l : List ByteArray) (n : Int) (w : World) (hv : Strs w v l) (hl : l.length ≤ 100000) : Calls Try.prog 40 #[v, .int .i64 n] w (GetPost l n w) := by
  by_cases h : ∃ i, mof l = some i ∧ ¬ n < 1 ∧ ¬ (i : Int) < n
  · obtain ⟨i, hm, h1, h2⟩ := h
    have HV := mof_some hm
    obtain ⟨bq, at_, hP, hpl⟩ := place_ok HV h1 h2
    have hG := get_ok HV h1 h2
    rw [hP.slot] at hG
    have HG := Lib.hid hG
    have PL : Hid (∀ w, Strs w v l → Calls Try.prog 58 #[v, .int .i64 n] w fun e w' => e = .returned (.tuple #[.int .i64 (bq : Int), .int .i64 (at_ : Int), .int .i64 0]) ∧ Below w.heap.size w w') := fun w hv => by
      have := place_any v l n w hv hl
      unfold PlacePost at this
      rw [hpl] at this
      exact this
    have hz := hP.size
    have hlt := Lib.hid hP.lt
    have hat : at_ ≤ 64 := by rcases hP.two with h | h <;> omega
    have hbi : (bq : Int) < l.length := by have := hP.lt; omega
    have hex : ((bAt l bq).extract at_ (at_ + 64)).size = 64 := by rw [ByteArray.size_extract, hz]; omega
    have PI : Hid (∀ w, Calls Try.prog 64 #[.string ((bAt l bq).extract at_ (at_ + 64))] w fun e w' => e = .returned (.agg (inoC (inoD ((bAt l bq).extract at_ (at_ + 64))))) ∧ Below w.heap.size w w') := fun w => ino_of_any _ w hex
    rcases hv.shape with ⟨rfl, -⟩ | ⟨-, b, o, cap, rfl, -, -, -⟩
    · have := hP.lt
      simp at this
    have HVs := Lib.hid hv
    have h2w := hP.two
    clear hm h1 h2 HV hP hpl hG hv hl hex hat
    rcases h2w with rfl | rfl
    all_goals
      go_enter Try.func40, Try.ntmps40
      go_wp2_with (first
        | (go_at_call 64; refine (PI.out _).mono ?_; rintro e W2 ⟨rfl, hb2⟩; have HK2 := Lib.hid (keep HK.out.1 hb2); have HB2 := Lib.hid (below_step HK.out.2 hb2); have ro := rowOpen_of HK2.out 12 rfl; clear hb2)
        | (go_at_call 58; refine (PL.out _ (HVs.out.alloc _)).mono ?_; rintro e W1 ⟨rfl, hb1⟩; have HK := Lib.hid (keep1 hb1); have c1 := ((HVs.out.alloc _).mono hb1).cell_at hlt.out; clear hb1))
      refine bodyPost_ret (results_cell_tmp rfl _ _ rfl (end48 _ _ _ ro rfl)) rfl ?_
      exact get_post HG.out (below_setRow HB2.out (Nat.le_refl _) _)
  · obtain ⟨er, he, hpl, hG⟩ := place_err h
    have HG := Lib.hid hG
    have PL : Hid (∀ w, Strs w v l → Calls Try.prog 58 #[v, .int .i64 n] w fun e w' => e = .returned (.tuple #[.int .i64 0, .int .i64 0, .int .i64 er]) ∧ Below w.heap.size w w') := fun w hv => by
      have := place_any v l n w hv hl
      unfold PlacePost at this
      rw [hpl] at this
      exact this
    have HVs := Lib.hid hv
    clear h hpl hG hv hl
    rcases he with rfl | rfl
    all_goals
      go_enter Try.func40, Try.ntmps40
      go_wp2_with (go_at_call 58; refine (PL.out _ (HVs.out.alloc _)).mono ?_; rintro e W1 ⟨rfl, hb1⟩; have HK := Lib.hid (keep1 hb1); have ro := rowOpen_of HK.out.1 12 rfl; clear hb1)
      refine bodyPost_ret (results_cell_tmp rfl _ _ rfl (end48 _ _ _ ro rfl)) rfl ?_
      exact get_post HG.out (below_setRow HK.out.2 (Nat.le_refl _) _)
end Go.Proofs.Ytopbejdhfndfbaa
