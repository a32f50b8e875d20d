/- Contract of inode.New. Condition: at most 100,000 blocks. -/
import Derived.Test.YtopbejdhfndfbaaIno6
namespace Go.Proofs.Ytopbejdhfndfbaa
open Go.RowKit
set_option maxRecDepth 20000
attribute [local go_sem ↓] loadVar_24 storeVar_24 loadVar_48 storeVar_48
attribute [local go_sem] run_load24 run_store24 run_load48 run_store48 run_store48_lit aggAt_new aggAt_past aggAt_drew rowAt_new rowAt_past rowAt_drew rowOpen_new rowOpen_past rowOpen_drew setRow_made' alloc_setRow
def kindAt (l : List ByteArray) (k : Nat) : Int := inoD (slotB l k) 0
def newC (kind owner : Int) : Nat → Int := fun k => if k = 0 then kind else if k = 1 then 1 else if k = 2 then owner else 0
def firstK (l : List ByteArray) (i : Nat) : Option Nat := (List.range i).find? fun k => kindAt l k == 0
def mnew (l : List ByteArray) (kind owner : Int) : List ByteArray × Int × Int :=
  match mof l with
  | none => ([], 0, 3)
  | some i =>
    if (kind ≠ 1 ∧ kind ≠ 2) ∨ owner < 0 ∨ 16 ≤ owner then ([], 0, 1) else
      match firstK l i with
      | none => ([], 0, 10)
      | some k => ((mput l ((k : Int) + 1) (newC kind owner)).1, (k : Int) + 1, 0)
theorem firstK_is {l : List ByteArray} {i k : Nat} (hk : k < i) (h0 : kindAt l k = 0) (hJ : ∀ j, j < k → kindAt l j ≠ 0) : firstK l i = some k := by
  unfold firstK
  rw [List.find?_range_eq_some]
  exact ⟨by simp [h0], List.mem_range.2 hk, fun j hj => by simpa using hJ j hj⟩
theorem firstK_none {l : List ByteArray} {i : Nat} (hJ : ∀ j, j < i → kindAt l j ≠ 0) : firstK l i = none := by
  unfold firstK
  rw [List.find?_range_eq_none]
  exact fun j hj => by simpa using hJ j hj
theorem mnew_no {l : List ByteArray} {kind owner : Int} (h : mof l = none) : mnew l kind owner = ([], 0, 3) := by unfold mnew; rw [h]
theorem mnew_bad {l : List ByteArray} {i : Nat} {kind owner : Int} (h : mof l = some i) (hb : (kind ≠ 1 ∧ kind ≠ 2) ∨ owner < 0 ∨ 16 ≤ owner) : mnew l kind owner = ([], 0, 1) := by
  unfold mnew
  rw [h]
  simp only
  rw [if_pos hb]
theorem mnew_full {l : List ByteArray} {i : Nat} {kind owner : Int} (h : mof l = some i) (hb : ¬ ((kind ≠ 1 ∧ kind ≠ 2) ∨ owner < 0 ∨ 16 ≤ owner)) (hJ : ∀ j, j < i → kindAt l j ≠ 0) : mnew l kind owner = ([], 0, 10) := by
  unfold mnew
  rw [h]
  simp only
  rw [if_neg hb, firstK_none hJ]
theorem mnew_ok {l : List ByteArray} {i k : Nat} {kind owner : Int} (h : mof l = some i) (hb : ¬ ((kind ≠ 1 ∧ kind ≠ 2) ∨ owner < 0 ∨ 16 ≤ owner)) (hk : k < i) (h0 : kindAt l k = 0) (hJ : ∀ j, j < k → kindAt l j ≠ 0) :
    mnew l kind owner = ((mput l ((k : Int) + 1) (newC kind owner)).1, (k : Int) + 1, 0) := by
  unfold mnew
  rw [h]
  simp only
  rw [if_neg hb, firstK_is hk h0 hJ]
theorem fits_new {kind owner : Int} (hb : ¬ ((kind ≠ 1 ∧ kind ≠ 2) ∨ owner < 0 ∨ 16 ≤ owner)) : fitsB (newC kind owner) = true := by
  rw [fitsB_iff]
  have : ∀ k : Fin 12, 0 ≤ newC kind owner (offF k.val) ∧ newC kind owner (offF k.val) < 256 ^ widF k.val := by
    intro k
    match k with
    | 0 => exact ⟨(by show 0 ≤ kind; omega), (by show kind < 256 ^ 1; omega)⟩
    | 1 => exact ⟨(by show 0 ≤ owner; omega), (by show owner < 256 ^ 1; omega)⟩
    | 2 => exact ⟨(by decide : (0 : Int) ≤ 1), (by decide : (1 : Int) < 256 ^ 2)⟩
    | 3 => exact ⟨(by decide : (0 : Int) ≤ 0), (by decide : (0 : Int) < 256 ^ 4)⟩
    | 4 | 5 | 6 | 7 | 8 | 9 | 10 | 11 => exact ⟨(by decide : (0 : Int) ≤ 0), (by decide : (0 : Int) < 256 ^ 2)⟩
  exact fun k hk => this ⟨k, hk⟩
theorem inR_new {kind owner : Int} (hb : ¬ ((kind ≠ 1 ∧ kind ≠ 2) ∨ owner < 0 ∨ 16 ≤ owner)) : InR (newC kind owner) := by
  intro k _
  unfold newC
  split
  · omega
  · split
    · omega
    · split <;> omega
def NewPost (l : List ByteArray) (kind owner : Int) (w : World) (e : Ending) (w' : World) : Prop := ∃ x, e = .returned (.tuple #[x, .int .i64 (mnew l kind owner).2.1, .int .i64 (mnew l kind owner).2.2]) ∧ Own w.heap.size w' x (mnew l kind owner).1 ∧ Below w.heap.size w w'
theorem new_post {l L : List ByteArray} {kind owner k er : Int} {x : Value} {w w' : World} (h : mnew l kind owner = (L, k, er)) (ho : Own w.heap.size w' x L) (hb : Below w.heap.size w w') : NewPost l kind owner w (.returned (.tuple #[x, .int .i64 k, .int .i64 er])) w' := by
  refine ⟨x, ?_, ?_, hb⟩
  · rw [h]
  · rw [h]; exact ho
set_option maxHeartbeats 1000000 in
theorem new_any (v : Value) (l : List ByteArray) (kind owner : Int) (w : World) (hv : Strs w v l) (hl : l.length ≤ 100000) : Calls Try.prog 38 #[v, .int .i64 kind, .int .i64 owner] w (NewPost l kind owner w) := by
  cases h : mof l with
  | none =>
    have HU := Lib.hid (mnew_no (kind := kind) (owner := owner) h)
    have PO := Lib.hid (of_nope h hl w hv)
    unfold geo0 at PO
    clear h hv hl
    go_enter Try.func38, Try.ntmps38
    go_wp2_with (go_at_call 20; refine PO.out.mono ?_; rintro e W1 ⟨rfl, hb1⟩; have HK := Lib.hid hb1; clear hb1)
    go_ret3
    exact new_post HU.out (Own.none _ _) (HK.out.alloc HK.out.size _)
  | some i =>
    have HV := mof_some h
    have PO := Lib.hid (of_yes h hl w hv)
    unfold geoC at PO
    by_cases hb : (kind ≠ 1 ∧ kind ≠ 2) ∨ owner < 0 ∨ 16 ≤ owner
    · have HU := Lib.hid (mnew_bad h hb)
      have hcase : (kind ≠ 1 ∧ kind ≠ 2) ∨ ((kind = 1 ∨ kind = 2) ∧ owner < 0) ∨ ((kind = 1 ∨ kind = 2) ∧ 0 ≤ owner ∧ 16 ≤ owner) := by omega
      clear h hv hl HV hb
      rcases hcase with ⟨k1, k2⟩ | ⟨rfl | rfl, k3⟩ | ⟨rfl | rfl, k3, k4⟩
      · have g1 : (kind != 1) = true := by simpa using k1
        have g2 : (kind != 2) = true := by simpa using k2
        go_enter Try.func38, Try.ntmps38
        go_wp2_with (go_at_call 20; refine PO.out.mono ?_; rintro e W1 ⟨rfl, hb1⟩; have HK := Lib.hid hb1; clear hb1)
        go_ret3
        exact new_post HU.out (Own.none _ _) (HK.out.alloc HK.out.size _)
      all_goals
        go_enter Try.func38, Try.ntmps38
        go_wp2_with (go_at_call 20; refine PO.out.mono ?_; rintro e W1 ⟨rfl, hb1⟩; have HK := Lib.hid hb1; clear hb1)
        go_ret3
        exact new_post HU.out (Own.none _ _) (HK.out.alloc HK.out.size _)
    · have hk12 : kind = 1 ∨ kind = 2 := by omega
      have ho0 : 0 ≤ owner := by omega
      have ho1 : owner < 16 := by omega
      rcases hv.shape with ⟨rfl, -⟩ | ⟨-, b, o, cap, rfl, -, -, -⟩
      · have := HV.b0; simp at this
      have HVs := Lib.hid hv
      have b0 := HV.b0
      have hi63 := HV.i1
      have PG : Hid (∀ (w : World) (k : Nat), k < i → Strs w (.slice (some ⟨b, o, none⟩) l.length cap) l → Calls Try.prog 40 #[.slice (some ⟨b, o, none⟩) l.length cap, .int .i64 ((k : Int) + 1)] w fun e w' => e = .returned (.tuple #[.agg (inoC (inoD (slotB l k))), .int .i64 0]) ∧ Below w.heap.size w w') := fun w k hk hv => by
        have := iget_any _ l ((k : Int) + 1) w hv hl
        unfold GetPost at this
        rw [get_ok HV (by omega) (by omega), show ((k : Int) + 1 - 1).toNat = k by omega] at this
        exact this
      have PP : Hid (∀ (w : World) (k : Nat), k < i → Strs w (.slice (some ⟨b, o, none⟩) l.length cap) l → Calls Try.prog 35 #[.slice (some ⟨b, o, none⟩) l.length cap, .int .i64 ((k : Int) + 1), .agg #[.int .i64 kind, .int .i64 1, .int .i64 owner, .int .i64 0, .int .i64 0, .int .i64 0, .int .i64 0, .int .i64 0, .int .i64 0, .int .i64 0, .int .i64 0, .int .i64 0]] w
          fun e w' => ∃ x, e = .returned (.tuple #[x, .int .i64 0]) ∧ Own w.heap.size w' x (mput l ((k : Int) + 1) (newC kind owner)).1 ∧ Below w.heap.size w w') := fun w k hk hv => by
        have := iput_any _ l ((k : Int) + 1) (newC kind owner) (inR_new hb) w hv hl
        obtain ⟨bq, at_, hP, -⟩ := place_ok HV (n := (k : Int) + 1) (by omega) (by omega)
        unfold PutPost at this
        rw [show (mput l ((k : Int) + 1) (newC kind owner)).2 = 0 by rw [mput_ok HV (by omega) (by omega) hP (fits_new hb)]] at this
        exact this
      have HF := Lib.hid (fun hJ => mnew_full h hb (hJ : ∀ j, j < i → kindAt l j ≠ 0))
      have HO := Lib.hid (fun k (hk : k < i) h0 hJ => mnew_ok (kind := kind) (owner := owner) h hb hk h0 hJ)
      clear h hv hl HV hb
      rcases hk12 with rfl | rfl
      all_goals
        go_enter Try.func38, Try.ntmps38
        go_wp2_with (go_at_call 20; refine PO.out.mono ?_; rintro e W1 ⟨rfl, hb1⟩; have HW := Lib.hid (Vw.start (cs := #[.int .i64 l.length, .int .i64 i, .int .i64 1, .int .i64 2, .int .i64 3, .int .i64 (dof i)]) HVs.out hb1); clear hb1)
        generalize W1.alloc (.cells #[.int .i64 l.length, .int .i64 i, .int .i64 1, .int .i64 2, .int .i64 3, .int .i64 (dof i)] 24) = W2 at HW ⊢
        generalize W1.heap.size = p at HW ⊢
        clear PO
        go_loopw [11] (fun x W => ∃ k : Nat, k ≤ i ∧ x = .int .i64 ((k : Int) + 1) ∧ Hid (∀ j, j < k → kindAt l j ≠ 0) ∧ Hid (Vw w W b o p cap l #[.int .i64 l.length, .int .i64 i, .int .i64 1, .int .i64 2, .int .i64 3, .int .i64 (dof i)])) (fun x _ => i + 1 - (intOf x).toNat)
        case atStart => exact ⟨0, Nat.zero_le _, rfl, (fun j hj => by omega), HW⟩
        case round =>
          clear HW
          obtain ⟨k, hk, rfl, HJ, HW⟩ := hrel
          have d1 := cell_of_heap HW.out.hp (i := 1) rfl
          by_cases hlt : k < i
          · have i1 : (k : Int) + 1 ≤ i := by omega
            have PGk : Hid (∀ w, Strs w (.slice (some ⟨b, o, none⟩) l.length cap) l → Calls Try.prog 40 #[.slice (some ⟨b, o, none⟩) l.length cap, .int .i64 ((k : Int) + 1)] w fun e w' => e = .returned (.tuple #[.agg (inoC (inoD (slotB l k))), .int .i64 0]) ∧ Below w.heap.size w w') := fun w hv => PG.out w k hlt hv
            by_cases h0 : kindAt l k = 0
            · have HH := Lib.hid (HO.out k hlt h0 HJ.out)
              have hc0 : inoD (slotB l k) 0 = 0 := h0
              clear h0
              unfold inoC at PGk
              generalize inoD (slotB l k) = C at PGk hc0
              go_wp2_with (first
                | (go_at_call 35; refine (PP.out _ k hlt (HW3.out.strs.alloc _)).mono ?_; rintro e W4 ⟨x4, rfl, ho, hb4⟩; have HO4 := Lib.hid (ho.lower (HW3.out.below.alloc HW3.out.below.size _).size); have HB4 := Lib.hid (below_step (HW3.out.below.alloc HW3.out.below.size _) hb4); clear ho hb4)
                | (go_at_call 40; refine (PGk.out _ HW.out.strs).mono ?_; rintro e W3 ⟨rfl, hb3⟩; have HW3 := Lib.hid (HW.out.step hb3); clear hb3))
              go_ret3
              exact new_post HH.out HO4.out HB4.out
            · have HJ2 : Hid (∀ j, j < k + 1 → kindAt l j ≠ 0) := fun j hj => by
                by_cases e : j = k
                · rw [e]; exact h0
                · exact HJ.out j (by omega)
              have hc0 : ¬ (inoD (slotB l k) 0 = 0) := h0
              clear h0
              unfold inoC at PGk
              generalize inoD (slotB l k) = C at PGk hc0
              go_wp2_with (go_at_call 40; refine (PGk.out _ HW.out.strs).mono ?_; rintro e W3 ⟨rfl, hb3⟩; have HW3 := Lib.hid (HW.out.step hb3); clear hb3)
              go_roundw
              case rel => exact ⟨k + 1, by omega, by go_num, HJ2, HW3.out.step (below_one _ _)⟩
              case measure => simp [intOf]; omega
          · have HH := Lib.hid (HF.out (fun j hj => HJ.out j (by omega)))
            have i1 : ¬ (k : Int) + 1 ≤ i := by omega
            go_wp2_with fail
            go_ret3
            exact new_post HH.out (Own.none _ _) HW.out.below
end Go.Proofs.Ytopbejdhfndfbaa
