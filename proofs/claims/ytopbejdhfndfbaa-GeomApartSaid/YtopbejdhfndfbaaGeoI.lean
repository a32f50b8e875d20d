/- The law GeomTakes, walked. No condition. -/
import Derived.Test.YtopbejdhfndfbaaGeoH
namespace Go.Proofs.Ytopbejdhfndfbaa
open Go.RowKit
set_option maxRecDepth 20000
/-! ### a slice of numbers of the call's own -/
def natC (n : Nat) : Value := .int .i64 (n : Int)
def OwnN (B : Nat) (w : World) (v : Value) (l : List Nat) : Prop := w.ownsRow B 3 1 v l.length (l.map natC)
theorem OwnN.form {B : Nat} {w : World} {v : Value} {l : List Nat} (h : OwnN B w v l) : (l = [] ∧ v = .slice none 0 0) ∨
    ∃ g cap cur, v = .slice (some ⟨g, 0, none⟩) l.length cap ∧ B ≤ g ∧ w.heap[g]? = some (.cells cur 3 (0, 0)) ∧ l.length ≤ cap ∧ cap ≤ maxLen ∧ cur.size = cap ∧ cur.toList.take l.length = l.map natC := by
  obtain ⟨_, h | ⟨g, cap, cur, h1, h2, h3, h4, h5, h6, h7⟩⟩ := h
  · exact .inl ⟨List.eq_nil_of_length_eq_zero h.2, h.1⟩
  · exact .inr ⟨g, cap, cur, h1, h2, h3, h4, h5, by simpa using h6, by simpa using h7⟩
theorem OwnN.mk {B : Nat} {w : World} {l : List Nat} {g cap : Nat} {cur : Array Value} (h2 : B ≤ g) (h3 : w.heap[g]? = some (.cells cur 3 (0, 0))) (h4 : l.length ≤ cap) (h5 : cap ≤ maxLen) (h6 : cur.size = cap) (h7 : cur.toList.take l.length = l.map natC) :
    OwnN B w (.slice (some ⟨g, 0, none⟩) l.length cap) l :=
  ⟨by simp, .inr ⟨g, cap, cur, rfl, h2, h3, h4, h5, by simpa using h6, by simpa using h7⟩⟩
theorem OwnN.nil (B : Nat) (w : World) : OwnN B w (.slice none 0 0) [] := ⟨rfl, .inl ⟨rfl, rfl⟩⟩
theorem OwnN.below {B : Nat} {w w' : World} {v : Value} {l : List Nat} (h : OwnN B w v l) (hb : Below w.heap.size w w') : OwnN B w' v l := by
  rcases h.form with ⟨rfl, rfl⟩ | ⟨g, cap, cur, rfl, h2, h3, h4, h5, h6, h7⟩
  · exact OwnN.nil _ _
  · exact OwnN.mk h2 (keep h3 hb) h4 h5 h6 h7
theorem OwnN.at {B : Nat} {w : World} {v : Value} {l : List Nat} (h : OwnN B w v l) {i : Nat} (hi : i < l.length) : ∃ g cap, v = .slice (some ⟨g, 0, none⟩) l.length cap ∧ w.cell? ⟨g, i, none⟩ = some (.int .i64 (l.getD i 0 : Nat)) := by
  rcases h.form with ⟨rfl, _⟩ | ⟨g, cap, cur, rfl, h2, h3, h4, h5, h6, h7⟩
  · simp at hi
  · refine ⟨g, cap, rfl, cell_of_heap h3 ?_⟩
    have h : (cur.toList.take l.length)[i]? = (l.map natC)[i]? := by rw [h7]
    rw [List.getElem?_take, if_pos hi] at h
    simp only [Array.getElem?_toList] at h
    rw [h]
    simp [natC, List.getD, hi]
theorem OwnN.cell {B : Nat} {w : World} {g n cap : Nat} {l : List Nat} (h : OwnN B w (.slice (some ⟨g, 0, none⟩) n cap) l) {i : Nat} (hi : i < l.length) : w.cell? ⟨g, i, none⟩ = some (.int .i64 (l.getD i 0 : Nat)) := by
  obtain ⟨g', cap', he, hc⟩ := h.at hi
  simp only [Value.slice.injEq, Option.some.injEq, Addr.mk.injEq] at he
  obtain ⟨⟨rfl, -, -⟩, -, -⟩ := he
  exact hc
theorem OwnN.resize {B : Nat} {w : World} {a : Option Addr} {n n' cap : Nat} {l : List Nat} (h : OwnN B w (.slice a n cap) l) (e : n = n') : OwnN B w (.slice a n' cap) l := by subst e; exact h
theorem OwnN.len {B : Nat} {w : World} {v : Value} {l : List Nat} (h : OwnN B w v l) : ∃ a cap, v = .slice a l.length cap := by
  rcases h.form with ⟨rfl, rfl⟩ | ⟨g, cap, cur, rfl, _⟩
  · exact ⟨none, 0, rfl⟩
  · exact ⟨_, _, rfl⟩
theorem info3 : (Try.prog.info? 3).map (fun i => (i.zero, i.size, i.bytes)) = some (some (.int .i64 0), 1, 8) := by kernel_rfl
theorem wpList_append_nat (B : Nat) (lv : Value) (l : List Nat) (z : Nat) (W : World) {ops : Array Oper} {rest : List Oper} {dst : Option Tmp} {t ty : TypeId} {pos : String} {after : Array Edge} {a : Act} {Q : Exit → Act → World → Prop} {x y : Operand}
    (ht : t = 42) (hx : a.eval x = lv) (hy : a.eval y = .slice (some ⟨W.heap.size, 0, none⟩) 1 1) (hO : OwnN B W lv l) (hBw : B ≤ W.heap.size) (hl : l.length ≤ 100000)
    (h : ∀ v' w', OwnN B w' v' (l ++ [z]) → Below B (W.alloc (.cells #[.int .i64 (z : Int)] 3)) w' → (W.alloc (.cells #[.int .i64 (z : Int)] 3)).grownBy w' lv.ownBlock → wpList Try.prog ops Q rest (a.put dst v') w') :
    wpList Try.prog ops Q (⟨dst, .call { callee := .builtin .append, args := #[x, y], argTypes := #[t, t] }, ty, pos, after, none⟩ :: rest) a (W.alloc (.cells #[.int .i64 (z : Int)] 3)) := by
  subst ht
  obtain ⟨i0, hi, hz0, hz1, hz2⟩ := info_parts info3
  refine wpList_append_own _ rfl x y 42 rfl B 3 i0 (.int .i64 0) 1 8 Try.underlying42 hi hz0 hz1 hz2 rfl (by decide) lv l.length (l.map natC) hx (World.ownsRow.alloc hO _) ⟨W.heap.size, 0, none⟩ 1 1 [.int .i64 (z : Int)] hy rfl ?_ ?_ (by unfold maxLen; omega) (by omega) (by rw [alloc_size]; omega) ?_
  · intro j u hj
    match j, hj with
    | 0, hj => simp at hj; subst hj; simp [Addr.add]
    | j + 1, hj => simp at hj
  · intro u hu; simp at hu; subst hu; rfl
  · intro v' w' hown hgrow _
    refine h v' w' ?_ ?_ hgrow
    · unfold OwnN
      rw [List.length_append, List.map_append]
      exact hown
    · refine (Below.refl _ _).grown hgrow (by rw [alloc_size]; omega) (fun k hk => ?_)
      rcases hO.form with ⟨-, rfl⟩ | ⟨g, cap, cur, rfl, h2, -⟩
      · cases hk
      · obtain rfl := Option.some.inj hk
        exact h2
/-! ### the plain law -/
structure Tk (i b room : Nat) (L : List ByteArray) (G : List Nat) : Prop where
  vol : Vol L i
  len : L.length = b
  full : ∀ g ∈ G, dof i ≤ g ∧ g < b ∧ ∀ j, dof i ≤ j → j ≤ g → hasB (bAt L 2) j = true
  nodup : G.Nodup
  cnt : G.length + mroom L = room
theorem Tk.gt {i b room k : Nat} {L L2 : List ByteArray} {G : List Nat} (h : Tk i b room L G) (hT : Took L L2 i k) : ∀ g ∈ G, g < k := fun g hg => by
  obtain ⟨h1, h2, h3⟩ := h.full g hg
  rcases Nat.lt_or_ge g k with hl | hl
  · exact hl
  · have := h3 k hT.lo hl
    rw [hT.free] at this
    cases this
theorem Took.has {L L2 : List ByteArray} {i k : Nat} (h : Vol L i) (hT : Took L L2 i k) (j : Nat) : hasB (bAt L2 2) j = if j = k then true else hasB (bAt L 2) j := by
  rw [hT.map, has_turn _ _ _ (by rw [h.map_size]; have := hT.hi; have := h.b1; omega), hT.free]
  rfl
theorem Tk.take {i b room k : Nat} {L L2 : List ByteArray} {G : List Nat} (h : Tk i b room L G) (hT : Took L L2 i k) : Tk i b room L2 (G ++ [k]) := by
  have hgt := h.gt hT
  have hh := hT.has h.vol
  refine ⟨hT.vol, hT.len.trans h.len, ?_, ?_, ?_⟩
  · intro g hg
    rcases List.mem_append.1 hg with hg | hg
    · obtain ⟨h1, h2, h3⟩ := h.full g hg
      have := hgt g hg
      exact ⟨h1, h2, fun j hj1 hj2 => by rw [hh j, if_neg (by omega)]; exact h3 j hj1 hj2⟩
    · obtain rfl := List.mem_singleton.1 hg
      refine ⟨hT.lo, by rw [← h.len]; exact hT.hi, fun j hj1 hj2 => ?_⟩
      rw [hh j]
      split
      · rfl
      · exact hT.below j hj1 (by omega)
  · rw [List.nodup_append]
    refine ⟨h.nodup, by simp, fun a ha b hb => ?_⟩
    obtain rfl := List.mem_singleton.1 hb
    have := hgt a ha
    omega
  · have := h.cnt
    have := hT.room
    rw [List.length_append, List.length_singleton]
    omega
structure Gk (i b : Nat) (G : List Nat) (L : List ByteArray) (t : Nat) : Prop where
  vol : Vol L i
  len : L.length = b
  has : ∀ s, t ≤ s → s < G.length → hasB (bAt L 2) (G.getD s 0) = true
  room : mroom L = t
theorem getD_mem {G : List Nat} {s : Nat} (h : s < G.length) : G.getD s 0 ∈ G := by
  simp [List.getD, h]
theorem getD_ne {G : List Nat} (hn : G.Nodup) {s t : Nat} (hs : s < G.length) (ht : t < G.length) (h : s ≠ t) : G.getD s 0 ≠ G.getD t 0 := by
  intro e
  simp only [List.getD, List.getElem?_eq_getElem hs, List.getElem?_eq_getElem ht, Option.getD_some] at e
  exact h ((List.getElem_inj hn).1 e)
theorem Gk.start {i b room : Nat} {L : List ByteArray} {G : List Nat} (h : Tk i b room L G) (h0 : mroom L = 0) : Gk i b G L 0 :=
  ⟨h.vol, h.len, fun s _ hs => by
    obtain ⟨h1, h2, h3⟩ := h.full _ (getD_mem hs)
    exact h3 _ h1 (Nat.le_refl _), h0⟩
theorem Gk.give {i b t : Nat} {L : List ByteArray} {G : List Nat} (h : Gk i b G L t) (hn : G.Nodup) (hd : ∀ g ∈ G, dof i ≤ g ∧ g < b) (ht : t < G.length) :
    ∃ L2, mgive L (G.getD t 0 : Nat) = (L2, 0) ∧ Gk i b G L2 (t + 1) := by
  obtain ⟨d1, d2⟩ := hd _ (getD_mem ht)
  obtain ⟨h1, h2⟩ := give_ok h.vol d1 (by rw [h.len]; exact d2) (h.has t (Nat.le_refl _) ht)
  refine ⟨_, h1, h2.vol, h2.len.trans h.len, fun s hs1 hs2 => ?_, by rw [h2.room, h.room]⟩
  rw [h2.map, has_turn _ _ _ (by rw [h.vol.map_size]; have := h.vol.b1; have := h.len; omega), if_neg (getD_ne hn hs2 ht (by omega))]
  exact h.has s (by omega) hs2
/-! ### the walk -/
theorem Own.grown {B : Nat} {w w' : World} {v : Value} {l : List ByteArray} {row : Option Nat} (h : Own B w v l) (hg : w.grownBy w' row) (hr : ∀ k, row = some k → k < B) : Own B w' v l := by
  rcases h.form with ⟨rfl, rfl⟩ | ⟨g, cap, cur, rfl, h2, h3, h4, h5, h6, h7⟩
  · exact Own.none _ _
  · exact Own.mk h2 ((hg.block g (heap_lt h3) (fun e => by have := hr g e.symm; omega)).trans h3) h4 h5 h6 h7
theorem OwnN.block_lt {B : Nat} {w : World} {v : Value} {l : List Nat} (h : OwnN B w v l) : ∀ k, v.ownBlock = some k → k < w.heap.size := by
  intro k hk
  rcases h.form with ⟨rfl, rfl⟩ | ⟨g, cap, cur, rfl, h2, h3, h4, h5, h6, h7⟩
  · cases hk
  · obtain rfl := Option.some.inj hk
    exact heap_lt h3
theorem info39 : (Try.prog.info? 39).map (·.size) = some 2 := by kernel_rfl
def load39 (a : Addr) : Sem Value := loadVar 39 a
theorem loadVar_39 (a : Addr) : loadVar 39 a = load39 a := rfl
theorem run_load39 (w : World) (b : Nat) (h : rowAt w b 2 = true) : (load39 ⟨b, 0, none⟩).run Try.prog w = .ok (aggAt w b) w := run_loadVar_agg h Try.underlying39 rfl info39
def lenOf : Value → Nat
  | .slice _ n _ => n
  | _ => 0
attribute [local go_sem ↓] loadVar_24 storeVar_24 loadVar_39
attribute [local go_sem] run_load24 run_store24 run_load39 aggAt_new aggAt_past aggAt_drew rowAt_new rowAt_past rowAt_drew rowOpen_new rowOpen_past rowOpen_drew setRow_made' alloc_setRow
set_option maxHeartbeats 2000000 in
theorem takes_walk (s0 s1 : Int) (va : Value) (acts : List Int) (w : World) (h00 : 0 ≤ s0) (h01 : s0 ≤ 255) (h10 : 0 ≤ s1) (h11 : s1 ≤ 255) (ha : Ints w va acts) :
    Calls Try.prog 5 #[.agg #[.int .u8 s0, .int .u8 s1], va] w fun e w' => e = .returned (.bool true) ∧ Below w.heap.size w w' := by
  have HA := Lib.hid ha
  obtain ⟨a, cap, rfl, -⟩ := ha.ex
  clear ha
  by_cases h60 : acts.length ≤ 60
  · have PV : Hid (∀ w, Ints w (.slice a acts.length cap) acts → Calls Try.prog 31 #[.agg #[.int .u8 s0, .int .u8 s1], .slice a acts.length cap] w (VolPost w)) := fun w hw => volume_any s0 s1 _ acts w h00 h01 h10 h11 hw h60
    have t60 : ¬ (60 : Int) < acts.length := by omega
    clear h60 h00 h01 h10 h11
    go_enter Try.func5, Try.ntmps5
    go_wp2_with (first
      | (go_at_call 31; refine (PV.out _ (HA.out.mono K1.out)).mono ?_; rintro e W2 ⟨v2, L, i, rfl, ho, hV, h55, hb⟩; have K2 := Lib.hid (below_step K1.out hb); have O2 := Lib.hid (ho.lower K1.out.size : Own w.heap.size W2 v2 L); have HV := Lib.hid hV; obtain ⟨a2, cap2, rfl, -⟩ := ho.strs.ex; have b0 := hV.b0; clear ho hb hV)
      | (go_at_call 14; refine (geomAlive_any _).mono ?_; rintro e W1 ⟨rfl, hb⟩; have K1 := Lib.hid (keep1 hb).2; obtain ⟨x1, x2⟩ := agg_facts (keep1 hb).1 2 rfl; clear hb)
      | (go_at_call 21; refine (room_any _ L _ O2.out.strs (by omega)).mono ?_; rintro e W3 ⟨rfl, hb⟩; have K3 := Lib.hid (below_step K2.out hb); have O3 := Lib.hid (O2.out.below hb); clear hb))
    have h55 : L.length ≤ 55 := by omega
    obtain ⟨room, hroom⟩ : ∃ room, mroom L = room := ⟨_, rfl⟩
    obtain ⟨b, hbl⟩ : ∃ b, L.length = b := ⟨_, rfl⟩
    have hrb := HV.out.room_le
    have HT0 : Hid (Tk i b room L []) := ⟨HV.out, hbl, fun g hg => (by cases hg), List.nodup_nil, by rw [hroom]; simp⟩
    have hr55 : room ≤ 55 := by omega
    have HB55 := Lib.hid (show b ≤ 55 by omega)
    rw [hroom]
    clear hroom hrb HV b0 PV K1 K2 O2 x1 x2 h55
    go_loopw [7, 8] (fun g v W => ∃ G L, Hid (OwnN w.heap.size W g G) ∧ Hid (Own w.heap.size W v L) ∧ Hid (Tk i b room L G) ∧ Hid (Below w.heap.size w W)) (fun g _ _ => 300 - lenOf g)
    case atStart => exact ⟨[], L, OwnN.nil _ _, O3, HT0, K3⟩
    case round =>
      clear O3 K3 HT0 hbl
      clear h55
      obtain ⟨G, L, HG, HO, HT, HK⟩ := hrel
      have hG : G.length ≤ 55 := by have := HT.out.cnt; omega
      have hL : L.length ≤ 55 := by have := HT.out.len; have := HB55.out; omega
      have PT : Hid (∀ w v, Strs w v L → Calls Try.prog 27 #[v] w fun e w' => ∃ v, e = .returned (.tuple #[v, .int .i64 (mtake L).2.1, .int .i64 (mtake L).2.2]) ∧ Own w.heap.size w' v (mtake L).1 ∧ Below w.heap.size w w') := fun w v hv => take_any v L w hv (by omega)
      rcases take_cases HT.out.vol with ⟨h1, h0⟩ | ⟨L2, k, h1, hT⟩
      · rw [h1] at PT
        have HGk := Lib.hid (Gk.start HT.out h0)
        have hcnt := HT.out.cnt
        rw [h0, Nat.add_zero] at hcnt
        have HN := Lib.hid HT.out.nodup
        have HD : Hid (∀ g ∈ G, dof i ≤ g ∧ g < b) := fun g hg => ⟨(HT.out.full g hg).1, (HT.out.full g hg).2.1⟩
        obtain ⟨ga, gcap, rfl⟩ := HG.out.len
        clear h0 h1
        go_wp2_with (go_at_call 27; refine (PT.out _ _ HO.out.strs).mono ?_; rintro e W3 ⟨v3, rfl, ho, hb⟩; have G3 := Lib.hid (HG.out.below hb); have K3 := Lib.hid (below_step HK.out hb); have X3 := Lib.hid (HO.out.below hb); obtain ⟨a3, cap3, rfl, -⟩ := ho.strs.ex; clear ho hb)
        clear PT HO HG HK HT
        go_loopw [8, 89] (fun v x W => ∃ t : Nat, t ≤ G.length ∧ x = .int .i64 t ∧ ∃ L', Hid (Own w.heap.size W v L') ∧ Hid (Gk i b G L' t) ∧ Hid (OwnN w.heap.size W (.slice ga G.length gcap) G) ∧ Hid (Below w.heap.size w W)) (fun _ x _ => G.length - (intOf x).toNat)
        case atStart => exact ⟨0, Nat.zero_le _, rfl, L, X3, HGk, G3, K3⟩
        case round =>
          clear X3 HGk G3 K3
          obtain ⟨t, ht, rfl, L', HO, HGk, HG, HK⟩ := hrel
          have hL' : L'.length ≤ 55 := by have := HGk.out.len; have := HB55.out; omega
          by_cases hlt : t < G.length
          · have i1 : (t : Int) < G.length := by omega
            have i0 : (0 : Int) ≤ t := by omega
            obtain ⟨g', cap', he, c1⟩ := HG.out.at hlt
            simp only [Value.slice.injEq] at he
            obtain ⟨rfl, -, rfl⟩ := he
            obtain ⟨L2, h1, hg2⟩ := HGk.out.give HN.out HD.out hlt
            have HG2 := Lib.hid hg2
            generalize G.getD t 0 = k at h1 c1
            have PY : Hid (∀ w v, Strs w v L' → Calls Try.prog 29 #[v, .int .i64 (k : Nat)] w fun e w' => ∃ v, e = .returned (.tuple #[v, .int .i64 (mgive L' k).2]) ∧ Own w.heap.size w' v (mgive L' k).1 ∧ Below w.heap.size w w') := fun w v hv => give_any v L' k w hv (by omega)
            rw [h1] at PY
            clear h1 hg2
            go_wp2_with (go_at_call 29; refine (PY.out _ _ HO.out.strs).mono ?_; rintro e W4 ⟨v4, rfl, ho, hb⟩; have O4 := Lib.hid (ho.lower HK.out.size : Own w.heap.size W4 v4 L2); have G4 := Lib.hid (HG.out.below hb); have K4 := Lib.hid (below_step HK.out hb); clear ho hb)
            go_roundw
            case rel => exact ⟨t + 1, by omega, by go_num, L2, O4, HG2, G4, K4⟩
            case measure => simp [intOf]; omega
          · obtain rfl : t = G.length := by omega
            have PM : Hid (∀ w v, Strs w v L' → Calls Try.prog 21 #[v] w fun e w' => e = .returned (.int .i64 (G.length : Nat)) ∧ Below w.heap.size w w') := fun w v hv => by
              rw [← HGk.out.room]
              exact room_any v L' w hv (by omega)
            obtain rfl : G.length = room := hcnt
            go_wp2_with (go_at_call 21; refine (PM.out _ _ HO.out.strs).mono ?_; rintro e W4 ⟨rfl, hb⟩; have K4 := Lib.hid (below_step HK.out hb); clear hb)
            go_ret
            exact ⟨rfl, K4.out⟩
      · rw [h1] at PT
        have PU1 : Hid (∀ w v, Strs w v L → Calls Try.prog 24 #[v, .int .i64 (k : Nat)] w fun e w' => e = .returned (.bool false) ∧ Below w.heap.size w w') := fun w v hv => by
          rw [← hT.free, ← HT.out.vol.used_lt hT.hi]
          exact used_any v L k w hv (by omega)
        have PU2 : Hid (∀ w v, Strs w v L2 → Calls Try.prog 24 #[v, .int .i64 (k : Nat)] w fun e w' => e = .returned (.bool true) ∧ Below w.heap.size w w') := fun w v hv => by
          have := used_any v L2 k w hv (by have := hT.len; omega)
          rw [hT.vol.used_lt (by rw [hT.len]; exact hT.hi), hT.has HT.out.vol, if_pos rfl] at this
          exact this
        have PM1 : Hid (∀ w v, Strs w v L → Calls Try.prog 21 #[v] w fun e w' => e = .returned (.int .i64 ((mroom L2 : Int) + 1)) ∧ Below w.heap.size w w') := fun w v hv => by
          have := room_any v L w hv (by omega)
          rw [← hT.room] at this
          exact this
        have PM2 : Hid (∀ w v, Strs w v L2 → Calls Try.prog 21 #[v] w fun e w' => e = .returned (.int .i64 (mroom L2)) ∧ Below w.heap.size w w') := fun w v hv => room_any v L2 w hv (by have := hT.len; omega)
        have HT2 := Lib.hid (HT.out.take hT)
        have HGt := Lib.hid (HT.out.gt hT)
        have hr2 : mroom L2 ≤ 55 := by have := HT2.out.cnt; omega
        generalize mroom L2 = r2 at PM1 PM2 hr2
        clear h1 hT
        cases hGl : G.length with
        | zero =>
          obtain rfl := List.eq_nil_of_length_eq_zero hGl
          obtain ⟨ga, gcap, rfl⟩ := HG.out.len
          clear hGl
          go_wp2_with (first
            | (at_builtin; refine wpList_append_nat w.heap.size _ [] k W7 rfl rfl rfl G7.out K7.out.size (by omega) ?_; intro v8 W8 ho hb hgr; obtain ⟨a8, c8, rfl⟩ := ho.len; have K8 := Lib.hid ((K7.out.alloc K7.out.size _).trans hb); have G8 := Lib.hid ho; have O8 := Lib.hid (Own.grown (O7.out.below (below_one W7 _)) hgr (HG.out.block_lt)); clear ho hb hgr)
            | (go_at_call 21; have q0 := K6; clear q0; refine (PM1.out _ _ X6.out.strs).mono ?_; rintro e W7 ⟨rfl, hb⟩; have O7 := Lib.hid (O6.out.below hb); have G7 := Lib.hid (G6.out.below hb); have K7 := Lib.hid (below_step K6.out hb); clear hb)
            | (go_at_call 21; refine (PM2.out _ _ O5.out.strs).mono ?_; rintro e W6 ⟨rfl, hb⟩; have O6 := Lib.hid (O5.out.below hb); have G6 := Lib.hid (G5.out.below hb); have K6 := Lib.hid (below_step K5.out hb); have X6 := Lib.hid (X5.out.below hb); clear hb)
            | (go_at_call 24; have q0 := K4; clear q0; refine (PU2.out _ _ O4.out.strs).mono ?_; rintro e W5 ⟨rfl, hb⟩; have O5 := Lib.hid (O4.out.below hb); have G5 := Lib.hid (G4.out.below hb); have K5 := Lib.hid (below_step K4.out hb); have X5 := Lib.hid (X4.out.below hb); clear hb)
            | (go_at_call 24; refine (PU1.out _ _ X3.out.strs).mono ?_; rintro e W4 ⟨rfl, hb⟩; have O4 := Lib.hid (O3.out.below hb); have G4 := Lib.hid (G3.out.below hb); have K4 := Lib.hid (below_step K3.out hb); have X4 := Lib.hid (X3.out.below hb); clear hb)
            | (go_at_call 27; refine (PT.out _ _ HO.out.strs).mono ?_; rintro e W3 ⟨v3, rfl, ho, hb⟩; have O3 := Lib.hid ho; have G3 := Lib.hid (HG.out.below hb); have K3 := Lib.hid (below_step HK.out hb); have X3 := Lib.hid (HO.out.below hb); clear ho hb))
          go_roundw
          case rel => exact ⟨[] ++ [k], L2, G8, (O8.out.lower HK.out.size), HT2, K8⟩
          case measure => simp [lenOf] <;> omega
        | succ m =>
          obtain ⟨g', gcap, rfl, c0⟩ := HG.out.at (i := m) (by omega)
          have hgm := HGt.out _ (getD_mem (G := G) (s := m) (by omega))
          obtain ⟨gm, hE⟩ : ∃ gm, G.getD m 0 = gm := ⟨_, rfl⟩
          have HE := Lib.hid hE
          have hml := Lib.hid (show m < G.length by omega)
          rw [hE] at hgm
          clear hE c0
          rw [hGl] at HG
          have hgi : ¬ (k : Int) ≤ (gm : Int) := by omega
          rw [hGl]
          have hm55 : m ≤ 60 := by omega
          go_wp2_with (first
            | (at_builtin; refine wpList_append_nat w.heap.size _ G k W7 rfl rfl rfl G7.out K7.out.size (by omega) ?_; intro v8 W8 ho hb hgr; obtain ⟨a8, c8, rfl⟩ := ho.len; have K8 := Lib.hid ((K7.out.alloc K7.out.size _).trans hb); have G8 := Lib.hid ho; have O8 := Lib.hid (Own.grown (O7.out.below (below_one W7 _)) hgr (HG.out.block_lt)); clear ho hb hgr)
            | (go_at_call 21; have q0 := K6; clear q0; refine (PM1.out _ _ X6.out.strs).mono ?_; rintro e W7 ⟨rfl, hb⟩; have O7 := Lib.hid (O6.out.below hb); have G7 := Lib.hid (G6.out.below hb); have K7 := Lib.hid (below_step K6.out hb); have c7 := G7.out.cell hml.out; rw [HE.out] at c7; clear hb)
            | (go_at_call 21; refine (PM2.out _ _ O5.out.strs).mono ?_; rintro e W6 ⟨rfl, hb⟩; have O6 := Lib.hid (O5.out.below hb); have G6 := Lib.hid (G5.out.below hb); have K6 := Lib.hid (below_step K5.out hb); have X6 := Lib.hid (X5.out.below hb); clear hb)
            | (go_at_call 24; have q0 := K4; clear q0; refine (PU2.out _ _ O4.out.strs).mono ?_; rintro e W5 ⟨rfl, hb⟩; have O5 := Lib.hid (O4.out.below hb); have G5 := Lib.hid (G4.out.below hb); have K5 := Lib.hid (below_step K4.out hb); have X5 := Lib.hid (X4.out.below hb); clear hb)
            | (go_at_call 24; refine (PU1.out _ _ X3.out.strs).mono ?_; rintro e W4 ⟨rfl, hb⟩; have O4 := Lib.hid (O3.out.below hb); have G4 := Lib.hid (G3.out.below hb); have K4 := Lib.hid (below_step K3.out hb); have X4 := Lib.hid (X3.out.below hb); clear hb)
            | (go_at_call 27; refine (PT.out _ _ HO.out.strs).mono ?_; rintro e W3 ⟨v3, rfl, ho, hb⟩; have O3 := Lib.hid ho; have G3 := Lib.hid (HG.out.below hb); have K3 := Lib.hid (below_step HK.out hb); have X3 := Lib.hid (HO.out.below hb); clear ho hb))
          go_roundw
          case rel => exact ⟨G ++ [k], L2, (G8.out.resize (by simp <;> omega)), (O8.out.lower HK.out.size), HT2, K8⟩
          case measure => simp [lenOf] <;> omega
  · have t60 : (60 : Int) < acts.length := by omega
    clear h60 h00 h01 h10 h11
    go_enter Try.func5, Try.ntmps5
    go_wp2_with (first
      | (go_at_call 14; refine (geomAlive_any _).mono ?_; rintro e W1 ⟨rfl, hb⟩; have K1 := Lib.hid (keep1 hb).2; clear hb))
    go_ret
    exact ⟨rfl, K1.out⟩
end Go.Proofs.Ytopbejdhfndfbaa
