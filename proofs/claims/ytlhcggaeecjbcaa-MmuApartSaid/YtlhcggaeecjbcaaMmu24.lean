/- The law MmuApart, walked. Condition: the frames are integers of 64 bits. -/
import Derived.Test.YtlhcggaeecjbcaaMmu23
namespace Go.Proofs.Ytlhcggaeecjbcaa
open Go.WideShapes Go.RowKit

/-! ### a part of a variable that is loaded whole -/
def partAt (w : World) (b o n : Nat) : Value := match w.heap[b]? with | some (.cells cs _ _) => .agg (cs.extract o (o + n)) | _ => undef
def fitsAt (w : World) (b o n : Nat) : Bool := match w.heap[b]? with | some (.cells cs _ _) => decide (o + n ≤ cs.size) | _ => false
theorem part_facts {w : World} {b : Nat} {cs : Array Value} {t : TypeId} {fr : Nat × Nat} (h : w.heap[b]? = some (.cells cs t fr)) (o n : Nat) (hn : o + n ≤ cs.size) : partAt w b o n = .agg (cs.extract o (o + n)) ∧ fitsAt w b o n = true := by
  simp [partAt, fitsAt, h, hn]
theorem run_loadVar_part {w : World} {b o n : Nat} {ty : TypeId} {d : TypeDesc} (h : fitsAt w b o n = true) (hu : Try.prog.underlying ty = some d) (hd : isRowD d = true) (hi : (Try.prog.info? ty).map (·.size) = some n) :
    (loadVar ty ⟨b, o, none⟩).run Try.prog w = .ok (partAt w b o n) w := by
  obtain ⟨cs, t, fr, hb, hs⟩ : ∃ cs t fr, w.heap[b]? = some (.cells cs t fr) ∧ o + n ≤ cs.size := by
    unfold fitsAt at h
    split at h
    · rename_i cs t fr hb
      exact ⟨cs, t, fr, hb, of_decide_eq_true h⟩
    · cases h
  rw [(part_facts hb o n hs).1]
  have hl : (loadCells ⟨b, o, none⟩ ((cs.toList.drop o).take n).length).run Try.prog w = .ok ((cs.toList.drop o).take n).toArray w :=
    run_loadCells_list (P := Try.prog) w ⟨b, o, none⟩ ((cs.toList.drop o).take n) (fun j v hv => by
      have hadd : (⟨b, o, none⟩ : Addr).add j = ⟨b, o + j, none⟩ := by rw [add_plain]
      rw [hadd, cell_of_row w b (o + j) cs t fr hb]
      have hj : j < n := by
        have := (List.getElem?_eq_some_iff.1 hv).1
        simp at this
        omega
      rw [List.getElem?_take_of_lt hj, List.getElem?_drop] at hv
      simpa using hv)
  cases hq : Try.prog.info? ty with
  | none => simp [hq] at hi
  | some i =>
    have hs' : i.size = n := by simpa [hq] using hi
    have hagg : (isAgg ty).run Try.prog w = .ok true w := by
      unfold isAgg
      rw [Sem.run_bind, run_underlying hu w]
      cases d <;> first | rfl | cases hd
    have hlen : ((cs.toList.drop o).take n).length = n := by simp; omega
    rw [hlen] at hl
    have he : ((cs.toList.drop o).take n).toArray = cs.extract o (o + n) := by apply Array.toList_inj.1; rw [Array.toList_extract, List.extract_eq_take_drop, Nat.add_sub_cancel_left]
    rw [he] at hl
    simp [loadVar, Sem.run_bind, hagg, sizeOf, typeInfo, hq, hs', hl]
theorem run_load26_part (w : World) (b o : Nat) (h : fitsAt w b o 48 = true) : (load26 ⟨b, o, none⟩).run Try.prog w = .ok (partAt w b o 48) w := run_loadVar_part h Try.underlying26 rfl spInfo
attribute [local go_sem ↓] loadVar_26
theorem partAt_past (w : World) (o : Obj) (b k n : Nat) (hn : b < w.heap.size) : partAt (w.alloc o) b k n = partAt w b k n := by simp only [partAt, Below.heap_alloc w o b hn]
theorem fitsAt_past (w : World) (o : Obj) (b k n : Nat) (hn : b < w.heap.size) : fitsAt (w.alloc o) b k n = fitsAt w b k n := by simp only [fitsAt, Below.heap_alloc w o b hn]
attribute [local go_sem] run_load26_part partAt_past fitsAt_past

/-! ### two spaces -/
def twoCells (s t : Nat → Pte) : Array Value := spCells s ++ spCells t
theorem two_fst (s t : Nat → Pte) : (twoCells s t).extract 0 48 = spCells s := by
  have h : (spCells s).toList.length = 48 := by rw [Array.length_toList, spCells_size]
  apply Array.toList_inj.1
  rw [twoCells, Array.toList_extract, Array.toList_append, List.extract_eq_take_drop, List.drop_zero, List.take_left' h]
theorem two_snd (s t : Nat → Pte) : (twoCells s t).extract 48 96 = spCells t := by
  have h : (spCells s).toList.length = 48 := by rw [Array.length_toList, spCells_size]
  have h2 : (spCells t).toList.length = 48 := by rw [Array.length_toList, spCells_size]
  apply Array.toList_inj.1
  rw [twoCells, Array.toList_extract, Array.toList_append, List.extract_eq_take_drop, List.drop_left' h, List.take_of_length_le (by omega)]
theorem two_size (s t : Nat → Pte) : (twoCells s t).size = 96 := by rw [twoCells, Array.size_append, spCells_size, spCells_size]

/-- The two boxes that the law lays at its start are what they were. -/
def HaveA (w0 : World) (c1 c2 : Array Value) (w : World) : Prop :=
  Below w0.heap.size w0 w ∧ w.heap[w0.heap.size]? = some (.cells c1 41) ∧ w.heap[w0.heap.size + 1]? = some (.cells c2 29)
theorem haveA_start {w0 w : World} {c1 c2 : Array Value} (hb : Below ((w0.alloc (.cells c1 41)).alloc (.cells c2 29)).heap.size ((w0.alloc (.cells c1 41)).alloc (.cells c2 29)) w) : HaveA w0 c1 c2 w := by
  refine ⟨(((Below.refl _ _).alloc (Nat.le_refl _) _).alloc (by rw [alloc_size]; omega) _).trans (hb.mono (by rw [alloc_size, alloc_size]; omega)), ?_, alive_row hb⟩
  rw [hb.block _ (by rw [alloc_size, alloc_size]; omega), Below.heap_alloc _ _ _ (by rw [alloc_size]; omega)]
  exact heap_alloc_new _ _
theorem haveA_step {w0 w w' : World} {c1 c2 : Array Value} (h : HaveA w0 c1 c2 w) (hb : Below w.heap.size w w') : HaveA w0 c1 c2 w' :=
  ⟨below_step h.1 hb, (hb.block _ (heap_lt h.2.1)).trans h.2.1, (hb.block _ (heap_lt h.2.2)).trans h.2.2⟩
theorem haveA_alloc {w0 w : World} {c1 c2 : Array Value} (h : HaveA w0 c1 c2 w) (o : Obj) : HaveA w0 c1 c2 (w.alloc o) := haveA_step h ((Below.refl _ _).alloc (Nat.le_refl _) _)
theorem haveA_grown {w0 w w' : World} {c1 c2 : Array Value} {b : Nat} (h : HaveA w0 c1 c2 w) (hg : w.grownBy w' (some b)) (hb : w0.heap.size + 1 < b) : HaveA w0 c1 c2 w' :=
  ⟨h.1.grown hg h.1.size (fun k hk => by cases hk; omega), (hg.block _ (heap_lt h.2.1) (fun e => by cases e; omega)).trans h.2.1, (hg.block _ (heap_lt h.2.2) (fun e => by cases e; omega)).trans h.2.2⟩
theorem haveA_all {w0 w : World} {s t : Nat → Pte} {a n : Int} {d : ByteArray} (h : HaveA w0 (twoCells s t) (spanCells a n d) w) :
    partAt w w0.heap.size 0 48 = .agg (spCells s) ∧ fitsAt w w0.heap.size 0 48 = true ∧ partAt w w0.heap.size 48 48 = .agg (spCells t) ∧ fitsAt w w0.heap.size 48 48 = true ∧
    w.cell? ⟨w0.heap.size + 1, 0, none⟩ = some (.int .u32 a) ∧ w.cell? ⟨w0.heap.size + 1, 1, none⟩ = some (.int .i64 n) ∧ w.cell? ⟨w0.heap.size + 1, 2, none⟩ = some (.string d) ∧ w0.heap.size < w.heap.size := by
  have h1 := part_facts h.2.1 0 48 (by rw [two_size]; decide)
  have h2 := part_facts h.2.1 48 48 (by rw [two_size]; decide)
  rw [Nat.zero_add, two_fst] at h1
  rw [two_snd] at h2
  exact ⟨h1.1, h1.2, h2.1, h2.2, cell_of_heap h.2.2 rfl, cell_of_heap h.2.2 rfl, cell_of_heap h.2.2 rfl, heap_lt h.2.1⟩

/-! ### frames that are not seen -/
def FreshTo (s t : Nat → Pte) (j : Nat) : Prop := ∀ k, k < j → (t k).is = true → seenB s 16 (t k).frame = false
theorem foreign_of {s t : Nat → Pte} (h : FreshTo s t 16) : Foreign s t := by
  intro i j hi hj h1 h2 he
  have := h j hj h2
  simp only [seenB, List.any_eq_false, List.mem_range, Bool.and_eq_true, decide_eq_true_eq, not_and] at this
  exact this i hi h1 he
theorem fresh_skip {s t : Nat → Pte} {j : Nat} (hi : (t j).is = false) (h : FreshTo s t j) : FreshTo s t (j + 1) := by
  intro k hk h2
  by_cases e : k = j
  · subst e; rw [hi] at h2; cases h2
  · exact h k (by omega) h2
theorem fresh_step {s t : Nat → Pte} {j : Nat} (hc : seenB s 16 (t j).frame = false) (h : FreshTo s t j) : FreshTo s t (j + 1) := by
  intro k hk h2
  by_cases e : k = j
  · subst e; exact hc
  · exact h k (by omega) h2

set_option maxRecDepth 20000 in
set_option maxHeartbeats 1000000 in
theorem apartL_great (v : Value) (l : List ByteArray) (s t : Nat → Pte) (a n : Int) (d : ByteArray) (w : World) (HV : Hid (Strs w v l)) (hs : Hid (∀ i, (bAt l i).size ≤ 140737488351232)) (hl : Hid (l.length ≤ 140737488351232)) (hg1 : greatB l = 1) :
    Calls Try.prog 5 #[v, .agg (twoCells s t), .agg (spanCells a n d)] w fun e w' => e = .returned (.bool true) ∧ Below w.heap.size w w' := by
  go_enter Try.func5, Try.ntmps5
  go_wp2_with (first
    | (go_at_call 17; refine (mmuAlive_any _).mono ?_; rintro e w1 ⟨rfl, hb⟩; have HA := Lib.hid (haveA_start hb); clear hb; obtain ⟨q1, q2, q3, q4, q5, q6, q7, q8⟩ := haveA_all HA.out)
    | (go_at_call 18; refine (great_any _ l _ (HV.out.mono HA.out.1) hs hl).mono ?_; rintro e w2 ⟨rfl, rfl⟩; rw [hg1]))
  go_ret
  exact ⟨rfl, HA.out.1⟩

set_option maxRecDepth 20000 in
set_option maxHeartbeats 1000000 in
theorem apartL_long (v : Value) (l : List ByteArray) (s t : Nat → Pte) (a n : Int) (d : ByteArray) (w : World) (HV : Hid (Strs w v l)) (hs : Hid (∀ i, (bAt l i).size ≤ 140737488351232)) (hl : Hid (l.length ≤ 140737488351232)) (hg0 : greatB l = 0) (e0 : decide ((3000 : Int) < d.size) = true) :
    Calls Try.prog 5 #[v, .agg (twoCells s t), .agg (spanCells a n d)] w fun e w' => e = .returned (.bool true) ∧ Below w.heap.size w w' := by
  go_enter Try.func5, Try.ntmps5
  go_wp2_with (first
    | (go_at_call 17; refine (mmuAlive_any _).mono ?_; rintro e w1 ⟨rfl, hb⟩; have HA := Lib.hid (haveA_start hb); clear hb; obtain ⟨q1, q2, q3, q4, q5, q6, q7, q8⟩ := haveA_all HA.out)
    | (go_at_call 18; refine (great_any _ l _ (HV.out.mono HA.out.1) hs hl).mono ?_; rintro e w2 ⟨rfl, rfl⟩; rw [hg0]))
  go_ret
  exact ⟨rfl, HA.out.1⟩

set_option maxRecDepth 20000 in
set_option maxHeartbeats 1000000 in
theorem apartL_rest (v : Value) (l : List ByteArray) (s t : Nat → Pte) (a n : Int) (d : ByteArray) (w : World) (HV : Hid (Strs w v l)) (hs : Hid (∀ i, (bAt l i).size ≤ 140737488351232)) (hl : Hid (l.length ≤ 140737488351232)) (h0 : 0 ≤ a) (h1 : a ≤ 4294967295) (hg0 : greatB l = 0) (e0 : decide ((3000 : Int) < d.size) = false) (HBs : Hid (Bounded s)) (HBt : Hid (Bounded t)) (HL : Hid (l.length ≤ 100000)) :
    Calls Try.prog 5 #[v, .agg (twoCells s t), .agg (spanCells a n d)] w fun e w' => e = .returned (.bool true) ∧ Below w.heap.size w w' := by
  have hmm := @run_makeMap Try.prog
  go_enter Try.func5, Try.ntmps5
  go_wp2_with (first
    | (go_at_call 17; refine (mmuAlive_any _).mono ?_; rintro e w1 ⟨rfl, hb⟩; have HA := Lib.hid (haveA_start hb); clear hb; obtain ⟨q1, q2, q3, q4, q5, q6, q7, q8⟩ := haveA_all HA.out)
    | (go_at_call 18; refine (great_any _ l _ (HV.out.mono HA.out.1) hs hl).mono ?_; rintro e w2 ⟨rfl, rfl⟩; rw [hg0]))
  have hm0 : w.heap.size + 1 < w1.heap.size := heap_lt HA.out.2.2
  have HM0 := Lib.hid (seen_new w1)
  have HB := Lib.hid (haveA_alloc HA.out (Obj.map #[] 0))
  go_loopw [33] (fun i W => ∃ j : Nat, j ≤ 16 ∧ i = .int .i64 j ∧ Hid (Seen w1.heap.size j (seenB s j) W) ∧ Hid (HaveA w (twoCells s t) (spanCells a n d) W)) (fun i _ => 16 - (intOf i).toNat)
  case atStart => exact ⟨0, by omega, rfl, HM0, HB⟩
  case round =>
    obtain ⟨j, hj, rfl, HS, HD⟩ := hrel
    clear q1 q2 q3 q4 q5 q6 q7 q8
    by_cases hlt : j < 16
    · have hidx := run_index_space s j hlt
      cases hi : (s j).is with
      | false =>
        go_wp2_with fail
        go_roundw
        case rel => exact ⟨j + 1, by omega, by go_num, seen_skip hi ((HS.out.alloc _).mono (by omega)), haveA_alloc HD.out _⟩
        case measure => simp [intOf]; omega
      | true =>
        have HK := Lib.hid (Maps.keyOf_int_mk Try.underlying3 (wf_i64 (HBs.out j).1 (HBs.out j).2))
        obtain ⟨D, ho, hm, hS⟩ := HS.out.alloc (Obj.cells #[Value.bool true, Value.bool (s j).write, Value.int IntKind.i64 (s j).frame] 24)
        have HO := Lib.hid ho
        have HM := Lib.hid hm
        have HSD := Lib.hid hS
        clear ho hm hS
        go_wp2_with (first
          | (at_mapUpdate; refine wpList_mapUpdate_own _ rfl _ _ _ 42 rfl 3 4 K3 Try.underlying42 (plainElem Try.prog 4) w1.heap.size j D rfl HO.out (by unfold maxLen; omega) _ _ (.int .i64 (s j).frame) rfl rfl HK.out (.lit (.bool true)) [] (plainElem_bool Try.underlying4 true) ?_; intro w3 hown1 hgrow1; have HO1 := Lib.hid hown1; have HG1 := Lib.hid hgrow1; clear hown1 hgrow1))
        go_roundw
        case rel => exact ⟨j + 1, by omega, by go_num, seen_next hi (seen_put HM.out HSD.out _ HO1.out), haveA_grown (haveA_alloc HD.out _) HG1.out hm0⟩
        case measure => simp [intOf]; omega
    · have hj16 : j = 16 := by omega
      subst hj16
      obtain ⟨q1, q2, q3, q4, q5, q6, q7, q8⟩ := haveA_all HD.out
      go_wp2_with fail
      have HSa := Lib.hid HS.out
      go_loopw [44] (fun i W => ∃ j : Nat, j ≤ 16 ∧ i = .int .i64 j ∧ Hid (Seen w1.heap.size 16 (seenB s 16) W) ∧ Hid (FreshTo s t j) ∧ Hid (HaveA w (twoCells s t) (spanCells a n d) W)) (fun i _ => 16 - (intOf i).toNat)
      case atStart => exact ⟨0, by omega, rfl, HSa, fun k hk => by omega, HD⟩
      case round =>
        clear HS HSa hj HB HM0 HD
        obtain ⟨j, hj, rfl, HS, HF, HD⟩ := hrel
        clear q1 q2 q3 q4 q5 q6 q7 q8
        by_cases hlt2 : j < 16
        · have hidx := run_index_space t j hlt2
          cases hi : (t j).is with
          | false =>
            go_wp2_with fail
            go_roundw
            case rel => exact ⟨j + 1, by omega, by go_num, HS.out.alloc _, fresh_skip hi HF.out, haveA_alloc HD.out _⟩
            case measure => simp [intOf]; omega
          | true =>
            have hlook := seen_look (HS.out.alloc (Obj.cells #[Value.bool true, Value.bool (t j).write, Value.int IntKind.i64 (t j).frame] 24)) (t j).frame (HBt.out j).1 (HBt.out j).2
            cases hc : seenB s 16 (t j).frame with
            | true =>
              rw [hc] at hlook
              go_wp2_with fail
              go_ret
              exact ⟨rfl, (haveA_alloc HD.out _).1⟩
            | false =>
              rw [hc] at hlook
              have HF2 := Lib.hid (fresh_step hc HF.out)
              clear hc
              go_wp2_with fail
              go_roundw
              case rel => exact ⟨j + 1, by omega, by go_num, HS.out.alloc _, HF2.out, haveA_alloc HD.out _⟩
              case measure => simp [intOf]; omega
        · have hj16 : j = 16 := by omega
          subst hj16
          have HR := Lib.hid (foreign_of HF.out)
          clear HS HF hlt
          obtain ⟨q1, q2, q3, q4, q5, q6, q7, q8⟩ := haveA_all HD.out
          cases hm : mlay l s a (bl d) with
          | none =>
            have Hm := Lib.hid hm
            clear hm
            go_wp2_with (first
              | (go_at_call 21; refine (mlay_none _ l s a d _ (HV.out.mono HD.out.1) HL.out h0 h1 Hm.out).mono ?_; rintro e w5 ⟨hb, v5, rfl, -⟩; have HE := Lib.hid (haveA_step HD.out hb); clear q1 q2 q3 q4 q5 q6 q7 q8 hb; obtain ⟨q1, q2, q3, q4, q5, q6, q7, q8⟩ := haveA_all HE.out))
            go_ret
            exact ⟨rfl, HE.out.1⟩
          | some l' =>
            have Hm := Lib.hid hm
            have HQ := Lib.hid (fun (c : Int) (hc : 0 ≤ c) => apart_copy HR.out h0 hm c 128 hc)
            clear hm
            go_wp2_with (first
              | (go_at_call 21; refine (mlay_some _ l l' s a d _ (HV.out.mono HD.out.1) HL.out h0 h1 Hm.out).mono ?_; rintro e w5 ⟨hb, v5, rfl, hs5⟩; have HV5 := Lib.hid hs5; clear hs5; have HE := Lib.hid (haveA_step HD.out hb); clear q1 q2 q3 q4 q5 q6 q7 q8 hb; obtain ⟨q1, q2, q3, q4, q5, q6, q7, q8⟩ := haveA_all HE.out))
            go_loopw [69] (fun i W => ∃ j : Nat, j ≤ 16 ∧ i = .int .i64 j ∧ Hid (Below w5.heap.size w5 W)) (fun i _ => 16 - (intOf i).toNat)
            case atStart => exact ⟨0, by omega, rfl, Below.refl _ _⟩
            case round =>
              obtain ⟨k, hk, rfl, HH⟩ := hrel
              clear q1 q2 q3 q4 q5 q6 q7 q8
              have HX := Lib.hid (haveA_step HE.out HH.out)
              obtain ⟨q1, q2, q3, q4, q5, q6, q7, q8⟩ := haveA_all HX.out
              by_cases hlt3 : k < 16
              · obtain ⟨x, ok, hx⟩ := copyOut_is (mcopy l t ((k : Int) * 128) 128)
                have HX1 := Lib.hid hx
                have HY1 := Lib.hid ((congrArg copyOut (HQ.out ((k : Int) * 128) (by omega))).trans hx)
                have HV6 := Lib.hid (HV5.out.mono HH.out)
                clear hx
                go_wp2_with (first
                  | (go_at_call 19; refine (copy_any _ l' t ((k : Int) * 128) 128 _ HV7.out (by omega) (by omega)).mono ?_; rw [HY1.out]; rintro e w7 ⟨rfl, hb⟩; have HW := Lib.hid (below_step HB6.out hb); have HZ := Lib.hid (haveA_step HY.out hb); clear q1 q2 q3 q4 q5 q6 q7 q8 hb; obtain ⟨q1, q2, q3, q4, q5, q6, q7, q8⟩ := haveA_all HZ.out)
                  | (go_at_call 19; refine (copy_any _ l t ((k : Int) * 128) 128 _ (HV.out.mono HX.out.1) (by omega) (by omega)).mono ?_; rw [HX1.out]; rintro e w6 ⟨rfl, hb⟩; have HB6 := Lib.hid (below_step HH.out hb); have HV7 := Lib.hid (HV6.out.mono hb); have HY := Lib.hid (haveA_step HX.out hb); clear q1 q2 q3 q4 q5 q6 q7 q8 hb; obtain ⟨q1, q2, q3, q4, q5, q6, q7, q8⟩ := haveA_all HY.out))
                go_roundw
                case rel => exact ⟨k + 1, by omega, by go_num, HW⟩
                case measure => simp [intOf]; omega
              · go_wp2_with fail
                go_ret
                exact ⟨rfl, HX.out.1⟩

theorem apartL_walk (v : Value) (l : List ByteArray) (s t : Nat → Pte) (a n : Int) (d : ByteArray) (w : World) (hv : Strs w v l) (hs : Hid (∀ i, (bAt l i).size ≤ 140737488351232)) (hl : Hid (l.length ≤ 140737488351232)) (h0 : 0 ≤ a) (h1 : a ≤ 4294967295) (hbs : Bounded s) (hbt : Bounded t) :
    Calls Try.prog 5 #[v, .agg (twoCells s t), .agg (spanCells a n d)] w fun e w' => e = .returned (.bool true) ∧ Below w.heap.size w w' := by
  by_cases hg : tot l ≤ 5000
  · have hg0 := great_no hg
    have HL : l.length ≤ 100000 := Nat.le_trans (tot_length l) (Nat.le_trans hg (by decide : 5000 ≤ 100000))
    by_cases hd : d.size ≤ 3000
    · exact apartL_rest v l s t a n d w hv hs hl h0 h1 hg0 (by simp; omega) hbs hbt HL
    · exact apartL_long v l s t a n d w hv hs hl hg0 (by simp; omega)
  · exact apartL_great v l s t a n d w hv hs hl (great_is hg)
end Go.Proofs.Ytlhcggaeecjbcaa
