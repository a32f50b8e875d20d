/- The law CpuApart, walked. No condition. -/
import Derived.Test.YtlhcggaeecjbcaaLawe
namespace Go.Proofs.Ytlhcggaeecjbcaa
open Go.RowKit

/-- Whether one of the first 'k' pages names the frame 'i'. -/
def seenN (s : Nat → Pte) (i : Nat) : Nat → Bool
  | 0 => false
  | k + 1 => seenN s i k || ((s k).is && (s k).frame == (i : Int))
/-- The first 'n' frames, 'x' in place of those that the space does not name. -/
def maskTo (s : Nat → Pte) (l : List ByteArray) (x : ByteArray) : Nat → List ByteArray
  | 0 => []
  | n + 1 => maskTo s l x n ++ [if seenN s n 16 then bAt l n else x]
theorem maskTo_length (s : Nat → Pte) (l : List ByteArray) (x : ByteArray) (n : Nat) : (maskTo s l x n).length = n := by
  induction n with
  | zero => rfl
  | succ n ih => simp [maskTo, ih]
theorem mask_yes {s : Nat → Pte} {l : List ByteArray} {x : ByteArray} {n : Nat} (h : seenN s n 16 = true) : maskTo s l x (n + 1) = maskTo s l x n ++ [bAt l n] := by simp only [maskTo, h, if_true]
theorem mask_no {s : Nat → Pte} {l : List ByteArray} {x : ByteArray} {n : Nat} (h : seenN s n 16 = false) : maskTo s l x (n + 1) = maskTo s l x n ++ [x] := by simp only [maskTo, h, Bool.false_eq_true, if_false]
theorem Strs.at1 {w : World} {a : Option Addr} {n cap : Nat} {l : List ByteArray} (h : Strs w (.slice a n cap) l) {i : Nat} (hi : i < l.length) : ∃ b o, a = some ⟨b, o, none⟩ ∧ w.cell? ⟨b, o + i, none⟩ = some (.string (bAt l i)) := by
  rcases h.shape with ⟨rfl, _⟩ | ⟨_, b', o', cap', he, _, _, hc⟩
  · simp at hi
  · simp only [Value.slice.injEq] at he
    exact ⟨b', o', he.1, hc i hi⟩
theorem str_ne {x y : ByteArray} (h : x ≠ y) : (x.toList == y.toList) = false := by
  rw [beq_eq_false_iff_ne]
  intro he
  rw [ByteArray.toList_eq, ByteArray.toList_eq] at he
  exact h (ByteArray.ext (Array.toList_inj.1 he))
attribute [local go_sem ↓] loadVar_26 loadVar_58 loadVar_61 storeVar_58 storeVar_61
attribute [local go_sem] run_load26 run_load58 run_load61 run_store58 run_store61 aggAt_new aggAt_past aggAt_drew rowAt_new rowAt_past rowAt_drew rowOpen_new rowOpen_past rowOpen_drew setRow_made' spCells_size cpuCells_size cpuCells_at cpuCells_at16 alloc_setRow eq_self56
/-- append of one text to a list of the call's own. -/
theorem wpList_append_one (B : Nat) (lv : Value) (l : List ByteArray) (z : ByteArray) (W : World) {ops : Array Oper} {rest : List Oper} {dst : Option Tmp} {t ty : TypeId} {pos : String} {after : Array Edge} {a : Act} {Q : Exit → Act → World → Prop} {x y : Operand}
    (ht : t = 22) (hx : a.eval x = lv) (hy : a.eval y = .slice (some ⟨W.heap.size, 0, none⟩) 1 1) (hO : Own B W lv l) (hBw : B ≤ W.heap.size) (hl : l.length ≤ 100000)
    (h : ∀ v' w', Own B w' v' (l ++ [z]) → Below B (W.alloc (.cells #[.string z] 9)) w' → wpList Try.prog ops Q rest (a.put dst v') w') :
    wpList Try.prog ops Q (⟨dst, .call { callee := .builtin .append, args := #[x, y], argTypes := #[t, t] }, ty, pos, after, none⟩ :: rest) a (W.alloc (.cells #[.string z] 9)) := by
  subst ht
  obtain ⟨i0, hi, hz0, hz1, hz2⟩ := info_parts info9
  refine wpList_append_own _ rfl x y 22 rfl B 9 i0 (.string ⟨#[]⟩) 1 16 Try.underlying22 hi hz0 hz1 hz2 rfl (by decide) lv l.length (l.map .string) hx (World.ownsRow.alloc hO _) ⟨W.heap.size, 0, none⟩ 1 1 [.string z] hy rfl ?_ ?_ (by unfold maxLen; omega) (by omega) (by rw [alloc_size]; omega) ?_
  · intro j u hj
    match j, hj with
    | 0, hj => simp at hj; subst hj; simp [Addr.add]
    | j + 1, hj => simp at hj
  · intro u hu; simp at hu; subst hu; rfl
  · intro v' w' hown hgrow _
    refine h v' w' ?_ ?_
    · unfold Own
      rw [List.length_append, List.map_append]
      exact hown
    · refine (Below.refl _ _).grown hgrow (by rw [alloc_size]; omega) (fun k hk => ?_)
      rcases hO.form with ⟨-, rfl⟩ | ⟨g, cap, cur, rfl, h2, -⟩
      · cases hk
      · obtain rfl := Option.some.inj hk
        exact h2

set_option maxRecDepth 20000 in
set_option maxHeartbeats 1000000 in
theorem apartc_great (a0 : Option Addr) (cap0 : Nat) (l : List ByteArray) (s : Nat → Pte) (r : Nat → Int) (pc : Int) (z : ByteArray) (w : World) (HV : Hid (Strs w (.slice a0 l.length cap0) l)) (hs : Hid (∀ i, (bAt l i).size ≤ 140737488351232)) (hl : Hid (l.length ≤ 140737488351232)) (hg : bigB l = true) :
    Calls Try.prog 13 #[.agg (cpuCells r pc), .agg (spCells s), .slice a0 l.length cap0, .string z] w fun e w' => e = .returned (.bool true) ∧ Below w.heap.size w w' := by
  go_enter Try.func13, Try.ntmps13
  go_wp2_with (first
    | (go_at_call 32; refine (great32 _ l _ (HV.out.mono HA.out.below) hs hl).mono ?_; rw [hg]; rintro e w2 ⟨rfl, rfl⟩)
    | (go_at_call 31; refine (alive31 _).mono ?_; rintro e w1 ⟨rfl, hb⟩; have HA := Lib.hid (Cs.start hb); clear hb; obtain ⟨q1, q2, q3, q4, q5, q6, q7⟩ := HA.out.facts))
  go_ret
  exact ⟨rfl, HA.out.below⟩

set_option maxRecDepth 20000 in
set_option maxHeartbeats 1000000 in
theorem apartc_other (a0 : Option Addr) (cap0 : Nat) (l : List ByteArray) (s : Nat → Pte) (r : Nat → Int) (pc : Int) (z : ByteArray) (w : World) (HV : Hid (Strs w (.slice a0 l.length cap0) l)) (hs : Hid (∀ i, (bAt l i).size ≤ 140737488351232)) (hl : Hid (l.length ≤ 140737488351232)) (hg : bigB l = false) (hz : ((z.size : Int) != 128) = true) :
    Calls Try.prog 13 #[.agg (cpuCells r pc), .agg (spCells s), .slice a0 l.length cap0, .string z] w fun e w' => e = .returned (.bool true) ∧ Below w.heap.size w w' := by
  go_enter Try.func13, Try.ntmps13
  go_wp2_with (first
    | (go_at_call 32; refine (great32 _ l _ (HV.out.mono HA.out.below) hs hl).mono ?_; rw [hg]; rintro e w2 ⟨rfl, rfl⟩)
    | (go_at_call 31; refine (alive31 _).mono ?_; rintro e w1 ⟨rfl, hb⟩; have HA := Lib.hid (Cs.start hb); clear hb; obtain ⟨q1, q2, q3, q4, q5, q6, q7⟩ := HA.out.facts))
  go_ret
  exact ⟨rfl, HA.out.below⟩

set_option maxRecDepth 20000 in
set_option maxHeartbeats 1000000 in
theorem apartc_run (a0 : Option Addr) (cap0 : Nat) (l : List ByteArray) (s : Nat → Pte) (r : Nat → Int) (pc : Int) (z : ByteArray) (w : World) (HV : Hid (Strs w (.slice a0 l.length cap0) l)) (hs : Hid (∀ i, (bAt l i).size ≤ 140737488351232)) (hl : Hid (l.length ≤ 140737488351232)) (hg : bigB l = false) (hz : ((z.size : Int) != 128) = false) (HL : Hid (l.length ≤ 16)) (r2 : Nat → Int) (p2 : Int) (l2 l3 : List ByteArray) (kk nn : Int) (h2l : l2.length = l.length) (h3l : l3.length = l.length) (HS1 : Hid (∀ w, Strs w (.slice a0 l.length cap0) l → Calls Try.prog 33 #[.agg (cpuCells r pc), .agg (spCells s), .slice a0 l.length cap0] w (StepPost ⟨r2, p2, l2, kk, nn⟩ w))) (HS2 : Hid (∀ v w, Strs w v (maskTo s l z l.length) → Calls Try.prog 33 #[.agg (cpuCells r pc), .agg (spCells s), v] w (StepPost ⟨r2, p2, l3, kk, nn⟩ w))) (HE : Hid (∀ n, n < l.length → (bAt (maskTo s l z l.length) n = bAt l n ∧ bAt l2 n = bAt l3 n) ∨ (bAt (maskTo s l z l.length) n ≠ bAt l n ∧ bAt l2 n = bAt l n ∧ bAt l3 n = bAt (maskTo s l z l.length) n))) :
    Calls Try.prog 13 #[.agg (cpuCells r pc), .agg (spCells s), .slice a0 l.length cap0, .string z] w fun e w' => e = .returned (.bool true) ∧ Below w.heap.size w w' := by
  go_enter Try.func13, Try.ntmps13
  go_wp2_with (first
    | (go_at_call 32; refine (great32 _ l _ (HV.out.mono HA.out.below) hs hl).mono ?_; rw [hg]; rintro e w2 ⟨rfl, rfl⟩)
    | (go_at_call 31; refine (alive31 _).mono ?_; rintro e w1 ⟨rfl, hb⟩; have HA := Lib.hid (Cs.start hb); clear hb; obtain ⟨q1, q2, q3, q4, q5, q6, q7⟩ := HA.out.facts))
  go_loopw [9, 10] (fun x i W => ∃ (lv : Value) (n : Nat), lv = x ∧ n ≤ l.length ∧ i = .int .i64 n ∧ Hid (Own w1.heap.size W lv (maskTo s l z n)) ∧ Hid (Below w1.heap.size w1 W)) (fun _ i _ => l.length - (intOf i).toNat)
  case atStart => exact ⟨.slice none 0 0, 0, rfl, by omega, rfl, ⟨rfl, .inl ⟨rfl, rfl⟩⟩, Below.refl _ _⟩
  case round =>
    obtain ⟨lv, n, rfl, n1, rfl, HO, HB⟩ := hrel
    by_cases hlt : n < l.length
    · have i0 : (0 : Int) ≤ n := by omega
      have i1 : (n : Int) < l.length := by omega
      have l16 := HL.out
      obtain ⟨b, o, hc1⟩ := ((HV.out.mono HA.out.below).mono HB.out).at1 hlt
      obtain ⟨rfl, c1⟩ := hc1
      go_wp2_with fail
      go_loopw [11, 12] (fun m j W => ∃ k : Nat, k ≤ 16 ∧ j = .int .i64 k ∧ m = .bool (seenN s n k) ∧ W = wr) (fun _ j _ => 16 - (intOf j).toNat)
      case atStart => exact ⟨0, by omega, rfl, rfl, rfl⟩
      case round =>
        obtain ⟨k, k2, rfl, rfl, rfl⟩ := hrel
        by_cases hk : k < 16
        · obtain ⟨g1, g2, g3⟩ := spCells_get s k hk
          have c3 := cell_of_heap (HA.out.step HB.out).s g1
          have c5 := cell_of_heap (HA.out.step HB.out).s g3
          clear g1 g2 g3
          have j0 : (0 : Int) ≤ k := by omega
          have j1 : (k : Int) < 16 := by omega
          cases hm : seenN s n k with
          | true =>
            have hup : seenN s n (k + 1) = true := by simp [seenN, hm]
            go_wp2_with fail
            go_roundw
            case rel => exact ⟨k + 1, by omega, by go_num, by rw [hup], trivial⟩
            case measure => simp [intOf]; omega
          | false =>
            cases hi : (s k).is with
            | false =>
              rw [hi] at c3
              have hup : seenN s n (k + 1) = false := by simp [seenN, hm, hi]
              go_wp2_with fail
              go_roundw
              case rel => exact ⟨k + 1, by omega, by go_num, by rw [hup], trivial⟩
              case measure => simp [intOf]; omega
            | true =>
              rw [hi] at c3
              have hup : seenN s n (k + 1) = ((s k).frame == (n : Int)) := by simp [seenN, hm, hi]
              go_wp2_with fail
              go_roundw
              case rel => exact ⟨k + 1, by omega, by go_num, by rw [hup], trivial⟩
              case measure => simp [intOf]; omega
        · obtain rfl : k = 16 := by omega
          clear k2 hk
          have hsz := HB.out.size
          cases hm : seenN s n 16 with
          | true =>
            have hup := mask_yes (l := l) (x := z) hm
            go_wp2_with (at_builtin; refine wpList_append_one w1.heap.size lv (maskTo s l z n) (bAt l n) wr rfl rfl rfl HO.out HB.out.size (by rw [maskTo_length]; omega) ?_; intro v2 w2 ho2 hb2; have HO2 := Lib.hid ho2; have HB2 := Lib.hid ((HB.out.alloc HB.out.size _).trans hb2); clear ho2 hb2)
            go_roundw
            case rel => exact ⟨v2, n + 1, rfl, by omega, by go_num, by rw [hup]; exact HO2, HB2⟩
            case measure => simp [intOf]; omega
          | false =>
            have hup := mask_no (l := l) (x := z) hm
            go_wp2_with (at_builtin; refine wpList_append_one w1.heap.size lv (maskTo s l z n) z wr rfl rfl rfl HO.out HB.out.size (by rw [maskTo_length]; omega) ?_; intro v2 w2 ho2 hb2; have HO2 := Lib.hid ho2; have HB2 := Lib.hid ((HB.out.alloc HB.out.size _).trans hb2); clear ho2 hb2)
            go_roundw
            case rel => exact ⟨v2, n + 1, rfl, by omega, by go_num, by rw [hup]; exact HO2, HB2⟩
            case measure => simp [intOf]; omega
    · obtain rfl : n = l.length := by omega
      clear n1 hlt
      have HC := Lib.hid (HA.out.step HB.out)
      have hos := HO.out.strs
      obtain ⟨a3, cap3, he, -⟩ := hos.ex
      rw [maskTo_length] at he
      subst he
      have HM := Lib.hid hos
      clear hos q1 q2 q3 q4 q5 q6 q7
      obtain ⟨q1, q2, q3, q4, q5, q6, q7⟩ := HC.out.facts
      go_wp2_with (first
        | (go_at_call 33; refine (HS2.out _ _ ((M2.out.alloc _).alloc _)).mono ?_; rintro e w3 ⟨hb, v3, rfl, hs3⟩; obtain ⟨s1, s2, hb'⟩ := keep2 hb; have HC3 := Lib.hid (HC2.out.step hb'); have V3 := Lib.hid (V2.out.mono hb'); have M3 := Lib.hid (M2.out.mono hb'); have S3 := Lib.hid (S2.out.mono hb'); obtain ⟨a5, cap5, he, -⟩ := hs3.ex; rw [h3l] at he; subst he; have N3 := Lib.hid hs3; have G1 := Lib.hid s1; have G2 := Lib.hid s2; obtain ⟨y1, y2⟩ := agg_facts s1 17 (cpuCells_size _ _); obtain ⟨y3, y4⟩ := agg_facts s2 2 rfl; have y5 := heap_lt s1; have y6 := heap_lt s2; have y7 := Nat.lt_add_one_of_lt y5; have y8 := Nat.lt_add_one_of_lt y6; clear hb hb' hs3 s1 s2 q1 q2 q3 q4 q5 q6 q7)
        | (go_at_call 33; refine (HS1.out _ ((HV.out.mono HA.out.below).mono HB.out)).mono ?_; rintro e w2 ⟨hb, v2, rfl, hs2⟩; have HC2 := Lib.hid (HC.out.step hb); have V2 := Lib.hid (((HV.out.mono HA.out.below).mono HB.out).mono hb); have M2 := Lib.hid (HM.out.mono hb); obtain ⟨a4, cap4, he, -⟩ := hs2.ex; rw [h2l] at he; subst he; have S2 := Lib.hid hs2; clear hb hs2 q1 q2 q3 q4 q5 q6 q7; obtain ⟨q1, q2, q3, q4, q5, q6, q7⟩ := HC2.out.facts))
      clear y1 y2 y3 y4 y5 y6 y7 y8
      have k2 := below_two w3 (.cells (cpuCells r2 p2) 58) (.cells #[.int .i64 kk, .int .u32 nn] 61)
      go_loopw [19] (fun i W => ∃ n : Nat, n ≤ l.length ∧ i = .int .i64 n ∧ Hid (Below w.heap.size w W) ∧ Hid (Strs W (.slice a0 l.length cap0) l) ∧ Hid (Strs W (.slice a3 l.length cap3) (maskTo s l z l.length)) ∧ Hid (Strs W (.slice a4 l.length cap4) l2) ∧ Hid (Strs W (.slice a5 l.length cap5) l3)) (fun i _ => l.length - (intOf i).toNat)
      case atStart => exact ⟨0, by omega, rfl, below_step HC3.out.below k2, V3.out.mono k2, M3.out.mono k2, S3.out.mono k2, N3.out.mono k2⟩
      case round =>
        clear HV HO HB HC HM HC2 V2 M2 S2 HC3 V3 M3 S3 N3 G1 G2 k2
        obtain ⟨n, n1, rfl, HB, HV, HM, H2, H3⟩ := hrel
        by_cases hlt : n < l.length
        · have i0 : (0 : Int) ≤ n := by omega
          have i1 : (n : Int) < l.length := by omega
          have l16 := HL.out
          have hE := HE.out n hlt
          obtain ⟨b0, o0, hc0⟩ := HV.out.at1 hlt
          obtain ⟨b3, o3, hc3⟩ := HM.out.at1 (show n < _ by rw [maskTo_length]; exact hlt)
          obtain ⟨b4, o4, hc4⟩ := H2.out.at1 (show n < _ by rw [h2l]; exact hlt)
          obtain ⟨b5, o5, hc5⟩ := H3.out.at1 (show n < _ by rw [h3l]; exact hlt)
          obtain ⟨rfl, c0⟩ := hc0
          obtain ⟨rfl, c3⟩ := hc3
          obtain ⟨rfl, c4⟩ := hc4
          obtain ⟨rfl, c5⟩ := hc5
          have K := Lib.hid (And.intro HB.out (And.intro HV.out (And.intro HM.out (And.intro H2.out H3.out))))
          clear HB HV HM H2 H3
          generalize bAt (maskTo s l z l.length) n = x at c3 hE
          generalize bAt l n = y at c0 hE
          rcases hE with ⟨rfl, he⟩ | ⟨hne, he, he2⟩
          · rw [he] at c4
            generalize bAt l3 n = u at c4 c5
            clear he
            go_wp2_with fail
            go_quiet (fail)
            go_wp2_with fail
            go_roundw
            case rel => exact ⟨n + 1, by omega, by go_num, below_drewN K.out.1 _, K.out.2.1.mono (below_drewN (Below.refl _ _) _), K.out.2.2.1.mono (below_drewN (Below.refl _ _) _), K.out.2.2.2.1.mono (below_drewN (Below.refl _ _) _), K.out.2.2.2.2.mono (below_drewN (Below.refl _ _) _)⟩
            case measure => simp [intOf]; omega
          · rw [he] at c4
            rw [he2] at c5
            clear he he2
            have hb1 : (x.toList == y.toList) = false := str_ne hne
            clear hne
            go_wp2_with fail
            go_quiet (fail)
            go_wp2_with fail
            go_roundw
            case rel => exact ⟨n + 1, by omega, by go_num, below_drewN K.out.1 _, K.out.2.1.mono (below_drewN (Below.refl _ _) _), K.out.2.2.1.mono (below_drewN (Below.refl _ _) _), K.out.2.2.2.1.mono (below_drewN (Below.refl _ _) _), K.out.2.2.2.2.mono (below_drewN (Below.refl _ _) _)⟩
            case measure => simp [intOf]; omega
        · obtain rfl : n = l.length := by omega
          clear n1 hlt
          go_wp2_with fail
          go_ret
          exact ⟨rfl, HB.out⟩
end Go.Proofs.Ytlhcggaeecjbcaa
