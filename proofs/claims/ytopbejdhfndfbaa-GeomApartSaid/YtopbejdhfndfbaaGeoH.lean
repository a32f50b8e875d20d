/- A slice of int16; the contract of the statements' Volume. Condition: at most 60 acts. -/
import Derived.Test.YtopbejdhfndfbaaGeoE
namespace Go.Proofs.Ytopbejdhfndfbaa
open Go.RowKit
set_option maxRecDepth 20000
structure Ints (w : World) (v : Value) (l : List Int) : Prop where
  ex : ∃ a cap, v = .slice a l.length cap ∧ (0 < l.length → ∃ b o, a = some ⟨b, o, none⟩ ∧ b < w.heap.size ∧ ∀ i, i < l.length → w.cell? ⟨b, o + i, none⟩ = some (.int .i16 (l.getD i 0)))
  rng : ∀ i, i < l.length → -32768 ≤ l.getD i 0 ∧ l.getD i 0 ≤ 32767
theorem Ints.mono {w w' : World} {v : Value} {l : List Int} (h : Ints w v l) (hb : Below w.heap.size w w') : Ints w' v l := by
  obtain ⟨a, cap, h1, h2⟩ := h.ex
  refine ⟨⟨a, cap, h1, fun h0 => ?_⟩, h.rng⟩
  obtain ⟨b, o, h3, h4, h5⟩ := h2 h0
  exact ⟨b, o, h3, Nat.lt_of_lt_of_le h4 hb.size, fun i hi => (hb.cell (p := ⟨b, o + i, none⟩) h4).trans (h5 i hi)⟩
def VolPost (w : World) (e : Ending) (w' : World) : Prop := ∃ v L i, e = .returned v ∧ Own w.heap.size w' v L ∧ Vol L i ∧ L.length ≤ 55 ∧ Below w.heap.size w w'
theorem Own.same {B : Nat} {w w' : World} {v : Value} {l : List ByteArray} (h : Own B w v l) (hb : Below w.heap.size w w') : Own B w' v l := h.below hb
set_option maxHeartbeats 1000000 in
theorem volume_any (s0 s1 : Int) (va : Value) (acts : List Int) (w : World) (h00 : 0 ≤ s0) (h01 : s0 ≤ 255) (h10 : 0 ≤ s1) (h11 : s1 ≤ 255) (ha : Ints w va acts) (hn : acts.length ≤ 60) :
    Calls Try.prog 31 #[.agg #[.int .u8 s0, .int .u8 s1], va] w (VolPost w) := by
  obtain ⟨b, hb⟩ : ∃ b : Nat, (b : Int) = 16 + s0 % 40 := ⟨(16 + s0 % 40).toNat, by omega⟩
  obtain ⟨i, hi⟩ : ∃ i : Nat, (i : Int) = 4 + s1 % 12 := ⟨(4 + s1 % 12).toNat, by omega⟩
  have hp : planErr b i = 0 := planErr_of (by omega) (by omega) (by omega) (by omega) (by rw [dataOf_nat]; unfold dof; omega)
  have PQ : Hid (∀ w, Calls Try.prog 18 #[.int .i64 (16 + s0 % 40), .int .i64 (4 + s1 % 12)] w fun e w' => ∃ v, e = .returned (.tuple #[v, .int .i64 0]) ∧ Own w.heap.size w' v (mfmt b i) ∧ Below w.heap.size w w') := fun w => by
    have := rfmt_any b i w (by omega)
    unfold FmtPost at this
    rw [hp, fmtL_yes hp, hb, hi] at this
    exact this
  have HV0 := Lib.hid (vol_fmt hp)
  have HL0 : Hid ((mfmt b i).length = b) := mfmt_length b i
  have hb55 := Lib.hid (show b ≤ 55 by omega)
  have HA := Lib.hid ha
  obtain ⟨a, cap, rfl, -⟩ := ha.ex
  clear ha hb hi hp
  generalize mfmt b i = L0 at PQ HV0 HL0
  go_enter Try.func31, Try.ntmps31
  go_wp2_with (go_at_call 18; refine (PQ.out _).mono ?_; rintro e W1 ⟨v1, rfl, ho, hb1⟩; have K1 := Lib.hid (keep1 hb1).2; have O1 := Lib.hid (ho.lower (Nat.le_of_lt (by rw [alloc_size]; exact Nat.lt_succ_self _)) : Own w.heap.size W1 v1 L0); clear ho hb1)
  go_loopw [5, 28] (fun v x W => ∃ k : Nat, k ≤ acts.length ∧ x = .int .i64 k ∧ ∃ L, Hid (Own w.heap.size W v L) ∧ Hid (Vol L i) ∧ Hid (L.length = b) ∧ Hid (Below w.heap.size w W)) (fun _ x _ => acts.length - (intOf x).toNat)
  case atStart => exact ⟨0, by omega, rfl, L0, O1, HV0, HL0, K1⟩
  case round =>
    clear O1 K1 HV0 HL0 PQ
    obtain ⟨k, hk, rfl, L, HO, HV, HL, HK⟩ := hrel
    by_cases hlt : k < acts.length
    · have i1 : (k : Int) < acts.length := by omega
      have i0 : (0 : Int) ≤ k := by omega
      obtain ⟨a', cap', he, hx⟩ := (HA.out.mono HK.out).ex
      obtain ⟨b', o', rfl, -, hcell⟩ := hx (by omega)
      simp only [Value.slice.injEq] at he
      obtain ⟨rfl, -, -⟩ := he
      have c1 := hcell k hlt
      obtain ⟨r0, r1⟩ := HA.out.rng k hlt
      clear hcell hx
      generalize acts.getD k 0 = x at c1 r0 r1
      have PT : Hid (∀ w v, Strs w v L → Calls Try.prog 28 #[v] w fun e w' => ∃ v, e = .returned (.tuple #[v, .int .i64 (mtake L).2.1, .int .i64 (mtake L).2.2]) ∧ Own w.heap.size w' v (mtake L).1 ∧ Below w.heap.size w w') := fun w v hv => rtake_any v L w hv (by have := HL.out; have := hb55.out; omega)
      have PY : Hid (∀ w v, Strs w v L → Calls Try.prog 30 #[v, .int .i64 x] w fun e w' => ∃ v, e = .returned (.tuple #[v, .int .i64 (mgive L x).2]) ∧ Own w.heap.size w' v (mgive L x).1 ∧ Below w.heap.size w w') := fun w v hv => rgive_any v L x w hv (by have := HL.out; have := hb55.out; omega)
      by_cases hneg : x < 0
      · have t0 : ¬ (0 : Int) ≤ x := by omega
        rcases take_cases HV.out with ⟨h1, -⟩ | ⟨L2, k2, h1, hT⟩
        · rw [h1] at PT
          clear h1 PY hneg
          go_wp2_with (go_at_call 28; refine (PT.out _ _ HO.out.strs).mono ?_; rintro e W2 ⟨v2, rfl, ho, hb2⟩; have O2 := Lib.hid (HO.out.below hb2); have K2 := Lib.hid (below_step HK.out hb2); clear ho hb2)
          go_roundw
          case rel => exact ⟨k + 1, by omega, by go_num, L, O2, HV, HL, K2⟩
          case measure => simp [intOf]; omega
        · rw [h1] at PT
          have HT := Lib.hid hT
          clear h1 hT PY hneg
          go_wp2_with (go_at_call 28; refine (PT.out _ _ HO.out.strs).mono ?_; rintro e W2 ⟨v2, rfl, ho, hb2⟩; have O2 := Lib.hid (ho.lower HK.out.size : Own w.heap.size W2 v2 L2); have K2 := Lib.hid (below_step HK.out hb2); clear ho hb2)
          go_roundw
          case rel => exact ⟨k + 1, by omega, by go_num, L2, O2, HT.out.vol, HT.out.len.trans HL.out, K2⟩
          case measure => simp [intOf]; omega
      · have t0 : (0 : Int) ≤ x := by omega
        generalize (mtake L).1 = T1 at PT
        generalize (mtake L).2.1 = T2 at PT
        generalize (mtake L).2.2 = T3 at PT
        rcases give_cases HV.out x with ⟨er, he0, h1⟩ | ⟨L2, h1, hV2, hL2⟩
        · rw [h1] at PY
          clear h1 hneg
          go_wp2_with (first
            | (go_at_call 30; refine (PY.out _ _ O2.out.strs).mono ?_; rintro e W3 ⟨v3, rfl, ho, hb3⟩; have O3 := Lib.hid (O2.out.below hb3); have K3 := Lib.hid (below_step K2.out hb3); clear ho hb3)
            | (go_at_call 28; refine (PT.out _ _ HO.out.strs).mono ?_; rintro e W2 ⟨v2, rfl, ho, hb2⟩; have O2 := Lib.hid (HO.out.below hb2); have K2 := Lib.hid (below_step HK.out hb2); clear ho hb2))
          go_roundw
          case rel => exact ⟨k + 1, by omega, by go_num, L, O3, HV, HL, K3⟩
          case measure => simp [intOf]; omega
        · rw [h1] at PY
          have HV2 := Lib.hid hV2
          have HL2 := Lib.hid hL2
          clear h1 hneg hV2 hL2
          go_wp2_with (first
            | (go_at_call 30; refine (PY.out _ _ O2.out.strs).mono ?_; rintro e W3 ⟨v3, rfl, ho, hb3⟩; have O3 := Lib.hid (ho.lower K2.out.size : Own w.heap.size W3 v3 L2); have K3 := Lib.hid (below_step K2.out hb3); clear ho hb3)
            | (go_at_call 28; refine (PT.out _ _ HO.out.strs).mono ?_; rintro e W2 ⟨v2, rfl, ho, hb2⟩; have O2 := Lib.hid (HO.out.below hb2); have K2 := Lib.hid (below_step HK.out hb2); clear ho hb2))
          go_roundw
          case rel => exact ⟨k + 1, by omega, by go_num, L2, O3, HV2, HL2.out.trans HL.out, K3⟩
          case measure => simp [intOf]; omega
    · obtain rfl : k = acts.length := by omega
      go_wp2_with fail
      go_ret
      exact ⟨_, L, i, rfl, HO.out, HV.out, by have := HL.out; have := hb55.out; omega, HK.out⟩
end Go.Proofs.Ytopbejdhfndfbaa
