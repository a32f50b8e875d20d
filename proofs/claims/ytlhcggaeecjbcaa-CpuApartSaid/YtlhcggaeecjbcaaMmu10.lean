/- The contract of the reference's Lay. Condition: at most 100,000 frames. -/
import Derived.Test.YtlhcggaeecjbcaaMmu9
import Derived.Deep.RegionWith
namespace Go.Proofs.Ytlhcggaeecjbcaa
open Go.RowKit

attribute [local go_sem ↓] loadVar_26
attribute [local go_sem] run_load26 aggAt_new aggAt_past aggAt_drew rowAt_new rowAt_past rowAt_drew

theorem setAt_length {l l' : List ByteArray} {s : Nat → Pte} {a : Int} {b : UInt8} (h : setAt l s a b = some l') : l'.length = l.length := by
  unfold setAt at h
  cases hh : hit l s true a with
  | none => simp [hh] at h
  | some p => rw [hh, Option.map_some, Option.some.injEq] at h; rw [← h, List.length_set]

theorem bl_get (d : ByteArray) (i : Nat) (h : i < d.size) : (bl d)[i]? = some d[i] := by
  simp [bl, h]
  rfl

theorem lay_step {l l' : List ByteArray} {s : Nat → Pte} {a : Int} {d : ByteArray} {i : Nat} (hi : i < d.size) (h : layFrom s l a ((bl d).take i) = some l') : layFrom s l a ((bl d).take (i + 1)) = setAt l' s (a + i) d[i] := by
  have hl : ((bl d).take i).length = i := by rw [List.length_take, bl_length]; omega
  rw [List.take_add_one, bl_get d i hi, layFrom_append, h, Option.bind_some, hl]
  simp only [Option.toList_some, layFrom]
  cases setAt l' s (a + i) d[i] <;> rfl

theorem lay_fails {l l' : List ByteArray} {s : Nat → Pte} {a : Int} {d : ByteArray} {i : Nat} (hi : i < d.size) (h : layFrom s l a ((bl d).take i) = some l') (hn : setAt l' s (a + i) d[i] = none) : mlay l s a (bl d) = none := by
  unfold mlay
  split
  · rfl
  · have h1 := lay_step hi h
    rw [hn] at h1
    rw [← List.take_append_drop (i + 1) (bl d), layFrom_append, h1]; rfl

set_option maxRecDepth 100000 in
set_option maxHeartbeats 1000000 in
theorem rlay_any (v : Value) (l : List ByteArray) (s : Nat → Pte) (a : Int) (d : ByteArray) (w : World) (hv : Strs w v l) (hl : l.length ≤ 100000) (h0 : 0 ≤ a) (h1 : a ≤ 4294967295) (hd : d.size ≤ 100000) :
    Calls Try.prog 22 #[v, .agg (spCells s), .int .u32 a, .string d] w (LayPost (mlay l s a (bl d)) w) := by
  by_cases hd1 : 2048 < d.size
  · have e0 : decide ((2048 : Int) < d.size) = true := by simp; omega
    have Hout := Lib.hid (show mlay l s a (bl d) = none by unfold mlay; rw [if_pos (by rw [bl_length]; omega)])
    go_enter Try.func22, Try.ntmps22
    go_wp2_with fail
    go_ret2
    rw [Hout.out]
    exact layPost_none (below_alloc _ _)
  · have e0 : decide ((2048 : Int) < d.size) = false := by simp; omega
    by_cases ha : 2048 < a
    · have e1 : decide (2048 < a) = true := by simpa using ha
      have Hout := Lib.hid (show mlay l s a (bl d) = none by unfold mlay; rw [if_pos (by rw [bl_length]; omega)])
      go_enter Try.func22, Try.ntmps22
      go_wp2_with fail
      go_ret2
      rw [Hout.out]
      exact layPost_none (below_alloc _ _)
    · have e1 : decide (2048 < a) = false := by simpa using ha
      by_cases hs : 2048 < a + d.size
      · have e2 : decide (2048 < a + (d.size : Int)) = true := by simpa using hs
        have Hout := Lib.hid (show mlay l s a (bl d) = none by unfold mlay; rw [if_pos (by rw [bl_length]; omega)])
        go_enter Try.func22, Try.ntmps22
        go_wp2_with fail
        go_ret2
        rw [Hout.out]
        exact layPost_none (below_alloc _ _)
      · have e2 : decide (2048 < a + (d.size : Int)) = false := by simpa using hs
        have HV := Lib.hid hv
        clear hv
        go_enter Try.func22, Try.ntmps22
        go_wp2_with ((with_reducible refine wpList_append_strs (w.heap.size + 1) (w.heap.size + 1) v l ?_ ?_ ?_ ?_ ?_ ?_ ?_ ?_ ?_); rfl; rfl; rfl; exact heap_alloc2_new _ _ _; exact Nat.le_refl _; simp; exact (HV.out.alloc _).alloc _; exact hl; intro v' w1 ho hg)
        have HO := Lib.hid ho.strs
        have HS := Lib.hid ((hg.block w.heap.size (by simp; omega) (by simp)).trans (heap_alloc2_old w (.cells (spCells s) 26) (.cells #[] 9)))
        have HB := Lib.hid (((below_alloc w (.cells (spCells s) 26)).alloc (by simp) (.cells #[] 9)).grown hg (by simp; omega) (by intro k hk; simp only [Option.some.injEq] at hk; omega))
        clear ho hg
        go_wp2_with fail
        go_loopw [10, 11] (fun o i W => ∃ j : Nat, j ≤ d.size ∧ i = .int .i64 j ∧ Hid (∃ l', layFrom s l a ((bl d).take j) = some l' ∧ Strs W o l' ∧ l'.length ≤ 100000) ∧ Hid (Below w.heap.size w W) ∧ Hid (W.heap[w.heap.size]? = some (.cells (spCells s) 26 (0, 0)))) (fun _ i _ => d.size - (intOf i).toNat)
        case atStart => exact ⟨0, by omega, rfl, ⟨l, by simp [layFrom], HO.out, hl⟩, HB.out, HS.out⟩
        case round =>
          obtain ⟨j, hj, rfl, HI, HB1, HS1⟩ := hrel
          obtain ⟨l', h2, h3, h4⟩ := HI.out
          by_cases hlt : j < d.size
          · have e3 : a + j ≤ 2048 := by omega
            have H2 := Lib.hid h2
            have H3 := Lib.hid h3
            clear HI h2 h3
            go_wp2_with fail
            obtain ⟨hag, hrw⟩ := agg_facts HS1.out 48 (spCells_size s)
            cases hr : setAt l' s (a + j) d[j] with
            | none =>
              have Hout := Lib.hid (lay_fails hlt H2.out hr)
              have HC : Hid (∀ W, Strs W u10 l' → Calls Try.prog 48 #[u10, .agg (spCells s), .int .u32 (IntKind.u32.wrap (a + IntKind.u32.wrap (j : Int))), .int .u8 (d[j].toNat)] W (LayPost none W)) := by
                intro W hW
                rw [wrap_u32_of (j : Int) (by omega) (by omega), wrap_u32_of (a + (j : Int)) (by omega) (by omega), ← hr]
                exact set_any u10 l' s (a + j) d[j] W hW h4 (by omega) (by omega)
              clear hr
              go_region_with (first | (go_at_call 48; refine (HC.out _ ?_).mono ?_; (exact H3.out.mono (Below.refl _ _).drew); rintro e W2 ⟨hb2, v2, rfl, -⟩))
              all_goals
                go_wp2_with fail
                go_ret2
                rw [Hout.out]
                exact layPost_none ((HB1.out.drew).trans (hb2.mono HB1.out.size))
            | some l2 =>
              have H2' := Lib.hid ((lay_step hlt H2.out).trans hr)
              have h4' : l2.length ≤ 100000 := by rw [setAt_length hr]; exact h4
              have HC : Hid (∀ W, Strs W u10 l' → Calls Try.prog 48 #[u10, .agg (spCells s), .int .u32 (IntKind.u32.wrap (a + IntKind.u32.wrap (j : Int))), .int .u8 (d[j].toNat)] W (LayPost (some l2) W)) := by
                intro W hW
                rw [wrap_u32_of (j : Int) (by omega) (by omega), wrap_u32_of (a + (j : Int)) (by omega) (by omega), ← hr]
                exact set_any u10 l' s (a + j) d[j] W hW h4 (by omega) (by omega)
              clear hr
              go_region_with (first | (go_at_call 48; refine (HC.out _ ?_).mono ?_; (exact H3.out.mono (Below.refl _ _).drew); rintro e W2 ⟨hb2, v2, rfl, hs2⟩; have HS2 := Lib.hid hs2; clear hs2))
              all_goals
                go_wp2_with fail
                go_roundw
                case rel => exact ⟨j + 1, by omega, by go_num, ⟨l2, H2'.out, HS2.out, h4'⟩, (HB1.out.drew).trans (hb2.mono HB1.out.size), (hb2.block _ (heap_lt HS1.out)).trans HS1.out⟩
                case measure => simp [intOf]; omega
          · obtain rfl : j = d.size := by omega
            have Hout := Lib.hid (show mlay l s a (bl d) = some l' by unfold mlay; rw [if_neg (by rw [bl_length]; omega), ← h2, List.take_of_length_le (by rw [bl_length]; exact Nat.le_refl _)])
            have H3 := Lib.hid h3
            clear HI h2 h3
            go_wp2_with fail
            go_ret2
            rw [Hout.out]
            exact layPost_some HB1.out H3.out
end Go.Proofs.Ytlhcggaeecjbcaa
