/- Contracts of law 18's Great and of its example (alive). Condition: no text greater than the platform's room. -/
import Derived.Test.YtopbejdhfndfbaaInoP
import Derived.Test.YtopbejdhfndfbaaGeoE
namespace Go.Proofs.Ytopbejdhfndfbaa
open Go.RowKit
set_option maxRecDepth 20000
def Gr (l : List ByteArray) : Prop := 80 < l.length ∨ ∃ k, k < l.length ∧ 200 < (bAt l k).size
set_option maxHeartbeats 400000 in
theorem great18_any (v : Value) (l : List ByteArray) (w : World) (hv : Strs w v l) (hs : Hid (∀ i, (bAt l i).size ≤ 140737488351232)) (hl : Hid (l.length ≤ 140737488351232)) :
    Calls Try.prog 34 #[v] w fun e w' => ((e = .returned (.int .i64 1) ∧ Hid (Gr l)) ∨ (e = .returned (.int .i64 0) ∧ Hid (¬ Gr l))) ∧ w = w' := by
  have hl' : l.length ≤ 9223372036854775807 := by have := hl.out; omega
  by_cases h80 : 80 < l.length
  · have h80' : (80 : Int) < l.length := by omega
    have HG : Hid (Gr l) := .inl h80
    obtain ⟨a, cap, rfl, -⟩ := hv.ex
    clear hv
    go_enter Try.func34, Try.ntmps34
    go_wp2_with fail
    go_ret
    exact ⟨.inl ⟨rfl, HG⟩, rfl⟩
  · have h80' : ¬ (80 : Int) < l.length := by omega
    rcases hv.shape with ⟨rfl, a, cap, rfl, -⟩ | ⟨h0, b, o, cap, rfl, -, hb, hc⟩
    · have HG : Hid (¬ Gr []) := fun h => by
        rcases h with h | ⟨k, h, -⟩
        · simp at h
        · simp at h
      go_enter Try.func34, Try.ntmps34
      go_wp2_with fail
      go_loop [3] (fun i => i = .int .i64 0) (fun _ => 0)
      case atStart => rfl
      case round =>
        subst hrel
        go_wp2_with fail
        go_ret
        first
          | exact ⟨.inr ⟨rfl, HG⟩, rfl⟩
          | exact ⟨.inr rfl, rfl⟩
    · have HC := Lib.hid hc
      have H80 := Lib.hid h80
      clear hc hv
      go_enter Try.func34, Try.ntmps34
      go_wp2_with fail
      go_loop [3] (fun i => ∃ k : Nat, k ≤ l.length ∧ i = .int .i64 k ∧ Hid (∀ j, j < k → ¬ 200 < (bAt l j).size)) (fun i => l.length - (intOf i).toNat)
      case atStart => exact ⟨0, by omega, rfl, fun j hj => by omega⟩
      case round =>
        obtain ⟨k, hk, rfl, HJ⟩ := hrel
        by_cases hlt : k < l.length
        · have c1 := HC.out k hlt
          have i0 : (0 : Int) ≤ k := by omega
          have i1 : (k : Int) < l.length := by omega
          have hsz : (bAt l k).size ≤ 140737488351232 := hs.out k
          by_cases hg : 200 < (bAt l k).size
          · have hg' : (200 : Int) < ((bAt l k).size : Int) := by omega
            have HG : Hid (Gr l) := .inr ⟨k, hlt, hg⟩
            go_wp2_with fail
            go_ret
            first
              | exact ⟨.inl ⟨rfl, HG⟩, rfl⟩
              | exact ⟨.inl rfl, rfl⟩
          · have hg' : ¬ (200 : Int) < ((bAt l k).size : Int) := by omega
            have HJ2 : Hid (∀ j, j < k + 1 → ¬ 200 < (bAt l j).size) := fun j hj => by
              by_cases e : j = k
              · rw [e]; exact hg
              · exact HJ.out j (by omega)
            go_wp2_with fail
            go_round
            case rel => exact ⟨k + 1, by omega, by go_num, HJ2⟩
            case measure => simp [intOf]; omega
        · have HG : Hid (¬ Gr l) := fun h => by
            rcases h with h | ⟨j, h1, h2⟩
            · exact H80.out h
            · exact HJ.out j (by omega) h2
          go_wp2_with fail
          go_ret
          first
            | exact ⟨.inr ⟨rfl, HG⟩, rfl⟩
            | exact ⟨.inr rfl, rfl⟩
theorem great18_yes {v : Value} {l : List ByteArray} {w : World} (hg : Gr l) (hv : Strs w v l) (hs : Hid (∀ i, (bAt l i).size ≤ 140737488351232)) (hl : Hid (l.length ≤ 140737488351232)) : Calls Try.prog 34 #[v] w fun e w' => e = .returned (.int .i64 1) ∧ w = w' :=
  (great18_any v l w hv hs hl).mono fun e w' h => by
    rcases h with ⟨⟨rfl, -⟩ | ⟨rfl, h⟩, rfl⟩
    · exact ⟨rfl, rfl⟩
    · exact absurd hg h.out
theorem great18_no {v : Value} {l : List ByteArray} {w : World} (hg : ¬ Gr l) (hv : Strs w v l) (hs : Hid (∀ i, (bAt l i).size ≤ 140737488351232)) (hl : Hid (l.length ≤ 140737488351232)) : Calls Try.prog 34 #[v] w fun e w' => e = .returned (.int .i64 0) ∧ w = w' :=
  (great18_any v l w hv hs hl).mono fun e w' h => by
    rcases h with ⟨⟨rfl, h⟩ | ⟨rfl, -⟩, rfl⟩
    · exact absurd h.out hg
    · exact ⟨rfl, rfl⟩
theorem Gr.len {l : List ByteArray} (h : ¬ Gr l) : l.length ≤ 80 := Nat.le_of_not_lt fun e => h (.inl e)
theorem leVal_zero : ∀ m : Nat, leVal (List.replicate m 0) = 0
  | 0 => rfl
  | m + 1 => by
    rw [show List.replicate (m + 1) (0 : UInt8) = [0] ++ List.replicate m 0 from rfl, leVal_append, leVal_zero m]
    rfl
theorem inoD_zero {s : ByteArray} {m : Nat} (h : bl s = List.replicate m 0) (k : Fin 12) : inoD s (offF k.val) = 0 := by
  rw [inoD_at, h, List.drop_replicate, List.take_replicate, leVal_zero]
  rfl
theorem kind_fmt {b i k : Nat} (hb : 16 ≤ b) (hk : 3 + k / 2 < b) : kindAt (mfmt b i) k = 0 := by
  unfold kindAt slotB
  rw [bAt_fmt b i _ hb hk, if_neg (by omega), if_neg (by omega)]
  refine inoD_zero (m := min (k % 2 * 64 + 64 - k % 2 * 64) (128 - k % 2 * 64)) ?_ (0 : Fin 12)
  rw [bl_extract, show zb = zeros 128 from rfl, bl_zeros, List.drop_replicate, List.take_replicate]
/-- The example's volume. -/
def alive18 : List ByteArray := (mput (mfmt 24 8) 1 (newC 1 3)).1
theorem alive18_new : mnew (mfmt 24 8) 1 3 = (alive18, 1, 0) := by
  rw [mnew_ok (k := 0) (mof_of alive_vol) (by decide) (by decide) (kind_fmt (by decide) (by decide)) (fun j hj => by omega)]
  rfl
theorem alive18_put : ∃ bq at_, Put (mfmt 24 8) 8 1 (newC 1 3) alive18 bq at_ := by
  refine put_is alive_vol ?_
  obtain ⟨bq, at_, hP, -⟩ := place_ok alive_vol (n := 1) (by decide) (by decide)
  rw [mput_ok alive_vol (by decide) (by decide) hP (fits_new (by decide))]
theorem alive18_len : alive18.length ≤ 100000 := by
  obtain ⟨bq, at_, hP⟩ := alive18_put
  rw [hP.len, mfmt_length]
  decide
theorem alive18_get : (mget alive18 1).2 = 0 ∧ inoC (mget alive18 1).1 = #[.int .i64 1, .int .i64 1, .int .i64 3, .int .i64 0, .int .i64 0, .int .i64 0, .int .i64 0, .int .i64 0, .int .i64 0, .int .i64 0, .int .i64 0, .int .i64 0] := by
  obtain ⟨bq, at_, hP⟩ := alive18_put
  rw [hP.get alive_vol]
  exact ⟨rfl, hP.back⟩
attribute [local go_sem ↓] loadVar_48 storeVar_48
attribute [local go_sem] run_load48 run_store48 run_store48_lit aggAt_new aggAt_past aggAt_drew rowAt_new rowAt_past rowAt_drew rowOpen_new rowOpen_past rowOpen_drew setRow_made' alloc_setRow
theorem isAgg3 (w : World) : (isAgg 3).run Try.prog w = .ok false w := by kernel_rfl
theorem eq_items3 (xs : Array Value) (f : Nat → Int) (w : World) : ∀ (is : List Nat), (∀ i ∈ is, xs[i]? = some (.int .i64 (f i))) → (Op.eqItems 9998 3 1 xs xs is).run Try.prog w = .ok true w
  | [], _ => rfl
  | i :: is, h => by
    have hp : (part 3 xs (i * 1)).run Try.prog w = .ok (.int .i64 (f i)) w := by
      unfold part
      rw [Nat.mul_one]
      simp only [Sem.run_bind, isAgg3, Result.andThen_ok, Bool.false_eq_true, if_false, h i List.mem_cons_self, Sem.run_pure]
    have he : (Op.equalIn 9998 3 (.int .i64 (f i)) (.int .i64 (f i))).run Try.prog w = .ok true w := by
      rw [run_equalIn_int w 9997 3 .i64 .i64 _ _ Try.underlying3]
      simp
    simp only [Op.eqItems, Sem.run_bind, hp, he, Result.andThen_ok, Bool.not_true, Bool.false_eq_true, if_false]
    exact eq_items3 xs f w is fun j hj => h j (List.mem_cons_of_mem _ hj)
theorem cellsOf3 : Try.prog.cellsOf 3 = 1 := by kernel_rfl
theorem eq_self46 (x0 x1 x2 x3 x4 x5 : Int) (w : World) : (Op.equalIn 9999 46 (.agg #[.int .i64 x0, .int .i64 x1, .int .i64 x2, .int .i64 x3, .int .i64 x4, .int .i64 x5]) (.agg #[.int .i64 x0, .int .i64 x1, .int .i64 x2, .int .i64 x3, .int .i64 x4, .int .i64 x5])).run Try.prog w = .ok true w := by
  obtain ⟨i, hi⟩ : ∃ i, Try.prog.info? 3 = some i := Option.isSome_iff_exists.1 (by kernel_rfl)
  rw [run_equalIn_array w 9998 _ _ Try.underlying46 hi, cellsOf3]
  refine eq_items3 _ (fun k => if k = 0 then x0 else if k = 1 then x1 else if k = 2 then x2 else if k = 3 then x3 else if k = 4 then x4 else x5) w _ fun j hj => ?_
  have : j < 6 := List.mem_range.1 hj
  match j, this with
  | 0, _ | 1, _ | 2, _ | 3, _ | 4, _ | 5, _ => rfl
attribute [local go_sem] eq_self46
set_option maxHeartbeats 1000000 in
theorem alive18_any (w : World) : Calls Try.prog 33 #[] w fun e w' => e = .returned (.bool true) ∧ Below w.heap.size w w' := by
  have PF : Hid (∀ w, Calls Try.prog 17 #[.int .i64 24, .int .i64 8] w fun e w' => ∃ v, e = .returned (.tuple #[v, .int .i64 0]) ∧ Own w.heap.size w' v (mfmt 24 8) ∧ Below w.heap.size w w') := fun w => by
    have := fmt_any 24 8 w (by decide)
    unfold FmtPost at this
    rw [alive_plan, show fmtL 24 8 = mfmt 24 8 from fmtL_yes (b := 24) (i := 8) alive_plan] at this
    exact this
  have PN : Hid (∀ w v, Strs w v (mfmt 24 8) → Calls Try.prog 38 #[v, .int .i64 1, .int .i64 3] w fun e w' => ∃ x, e = .returned (.tuple #[x, .int .i64 1, .int .i64 0]) ∧ Own w.heap.size w' x alive18 ∧ Below w.heap.size w w') := fun w v hv => by
    have := new_any v (mfmt 24 8) 1 3 w hv (by rw [mfmt_length]; decide)
    unfold NewPost at this
    rw [alive18_new] at this
    exact this
  have PG : Hid (∀ w v, Strs w v alive18 → Calls Try.prog 40 #[v, .int .i64 1] w fun e w' => e = .returned (.tuple #[.agg #[.int .i64 1, .int .i64 1, .int .i64 3, .int .i64 0, .int .i64 0, .int .i64 0, .int .i64 0, .int .i64 0, .int .i64 0, .int .i64 0, .int .i64 0, .int .i64 0], .int .i64 0]) ∧ Below w.heap.size w w') := fun w v hv => by
    have := iget_any v alive18 1 w hv alive18_len
    unfold GetPost at this
    rw [alive18_get.1, alive18_get.2] at this
    exact this
  generalize mfmt 24 8 = L0 at PF PN
  generalize alive18 = L1 at PN PG
  go_enter Try.func33, Try.ntmps33
  go_wp2_with (first
    | (go_at_call 40; refine (PG.out _ _ V3.out).mono ?_; rintro e W4 ⟨rfl, hb⟩; have K4 := Lib.hid (below_step K3.out hb); clear hb)
    | (go_at_call 38; refine (PN.out _ _ V2.out).mono ?_; rintro e W3 ⟨v3, rfl, ho, hb⟩; have K3 := Lib.hid (below_step K2.out hb); have V3 := Lib.hid ho.strs; clear hb ho)
    | (go_at_call 17; refine (PF.out _).mono ?_; rintro e W2 ⟨v2, rfl, ho, hb⟩; have K2 := Lib.hid hb; have V2 := Lib.hid ho.strs; clear hb ho))
  go_ret
  exact ⟨rfl, K4.out.alloc K4.out.size _⟩
theorem eq_self48 (c : Nat → Int) (w : World) : (Op.equalIn 10000 48 (.agg (inoC c)) (.agg (inoC c))).run Try.prog w = .ok true w := by
  unfold inoC
  simp [go_sem]
  done
end Go.Proofs.Ytopbejdhfndfbaa
