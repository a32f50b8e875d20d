/- The iterator over an inode's fields (inode.fields). No condition. -/
import Derived.RangeFuncNested
import Derived.RangeFuncBound
import Derived.RangeFuncCalls
import Derived.RangeFuncLeaves
import Derived.RangeFuncFrom
import Derived.Shelf.Abstract
import Derived.Shelf.RegionOpen
import Derived.WalkKit
import Derived.OwnWalkIn
import Derived.TacticsInMore
import Derived.LoopNIn
import Derived.LoopIn
import Derived.StillTailTactics
import Derived.Deep.RegionHeld3
import Derived.Deep.AppendLies
import Derived.Test.YtopbejdhfndfbaaGeo6
import Derived.Test.YtopbejdhfndfbaaGeo8
namespace Go.Proofs.Ytopbejdhfndfbaa
open Go.RowKit Go.Shelf
set_option maxRecDepth 20000
attribute [local go_sem] Oper.semAt_some
theorem region_tail {id : Nat} {Q : Exit → Act → World → Prop} {a : Act} {w : World} {l : List Oper} (n : Nat) (hm : Try.prog.follows .mixedOrders = true) (hB : Region.lexTailB .any l.toArray n = true)
    (h : wpStill Try.prog l.toArray w.drew (fun a' => wpList Try.prog l.toArray Q (l.drop n) a' w.drew) (l.take n) a) : (Code.region id l.toArray true).wp Try.prog Q a w := wp_region_still_tail n hm hB h
/-- Where a field lies among an inode's cells, and how many bytes it has. -/
def offF (k : Nat) : Nat := if k = 1 then 2 else if k = 2 then 1 else k
def widF (k : Nat) : Nat := if k < 2 then 1 else if k = 3 then 4 else 2
def ptrF (b k : Nat) : Value := .pointer (some ⟨b, offF k, none⟩)
def encF (b k : Nat) : Array Value := #[ptrF b k, .int .i64 (widF k)]
def ptrs (b n : Nat) : List Value := (List.range n).map (ptrF b)
theorem ptrs_succ (b n : Nat) : ptrs b (n + 1) = ptrs b n ++ [ptrF b n] := by simp [ptrs, List.range_succ]
theorem ptrs_length (b n : Nat) : (ptrs b n).length = n := by simp [ptrs]
theorem ptrs_get (b : Nat) {k n : Nat} (h : k < n) : (ptrs b n)[k]? = some (ptrF b k) := by simp [ptrs, h]
/-- What a round keeps: cells that lie at or beyond m. -/
def Kc (m : Nat) (A B : World) : Prop := A.heap.size ≤ B.heap.size ∧ ∀ k, m ≤ k → ∀ o : Obj, A.heap[k]? = some o → o.isCells = true → B.heap[k]? = some o
theorem Kc.trans {m : Nat} {A B C : World} (h1 : Kc m A B) (h2 : Kc m B C) : Kc m A C := ⟨Nat.le_trans h1.1 h2.1, fun k hk o ho hc => h2.2 k hk o (h1.2 k hk o ho hc) hc⟩
theorem Kc.refl (m : Nat) (A : World) : Kc m A A := ⟨Nat.le_refl _, fun _ _ _ h _ => h⟩
theorem Kc.below {m : Nat} {A B : World} (h : Below A.heap.size A B) : Kc m A B := ⟨h.size, fun k _ _o ho _ => (h.block k (heap_lt ho)).trans ho⟩
theorem Kc.setCell {m : Nat} {A : World} {b i : Nat} (hb : b < m) (x : Value) : Kc m A (A.setCell ⟨b, i, none⟩ x) :=
  ⟨by show A.heap.size ≤ (A.heap.modify _ _).size; rw [Array.size_modify]; exact Nat.le_refl _, fun k hk o ho _ => (Below.heap_setCell A ⟨b, i, none⟩ x k (fun e => by simp only at e; omega)).trans ho⟩
theorem Kc.drew (m : Nat) (A : World) : Kc m A A.drew := ⟨Nat.le_refl _, fun _ _ _ h _ => h⟩
theorem Kc.putObj {m : Nat} (W : World) (l : Nat) (o o' : Obj) (h : W.heap[l]? = some o) (hc : o.isCells = false) : Kc m W (W.putObj l o') := by
  refine ⟨by simp [World.putObj], fun k _ q hq hqc => ?_⟩
  by_cases e : k = l
  · subst e
    rw [h] at hq
    obtain rfl := Option.some.inj hq
    rw [hc] at hqc
    cases hqc
  · have e2 : ¬ l = k := fun x => e x.symm
    simp [World.putObj, e2, hq]
def OwnV (B : Nat) (w : World) (v : Value) (l : List Value) : Prop := w.ownsRow B 82 1 v l.length l
theorem info82 : (Try.prog.info? 82).map (fun i => (i.zero, i.size, i.bytes)) = some (some (.pointer none), 1, 8) := by kernel_rfl
theorem grown_none {W W' : World} (h : Below W.heap.size W W') : W.grownBy W' none := ⟨h.os, h.tape, h.output, h.size, fun k hk _ => h.block k hk⟩
theorem OwnV.form {B : Nat} {w : World} {v : Value} {l : List Value} (h : OwnV B w v l) {n : Nat} (hn : l.length = n) (h0 : 0 < n) : ∃ g cap cur, v = .slice (some ⟨g, 0, none⟩) n cap ∧ B ≤ g ∧ w.heap[g]? = some (.cells cur 82 (0, 0)) ∧ cur.toList.take n = l := by
  subst hn
  obtain ⟨_, h | ⟨g, cap, cur, h1, h2, h3, h4, h5, h6, h7⟩⟩ := h
  · omega
  · exact ⟨g, cap, cur, h1, h2, h3, by simpa using h7⟩
theorem wpList_append_vals (B : Nat) (lv : Value) (l zs : List Value) (W : World) {ops : Array Oper} {rest : List Oper} {dst : Option Tmp} {t ty : TypeId} {pos : String} {after : Array Edge} {a : Act} {Q : Exit → Act → World → Prop} {x y : Operand}
    (ht : t = 98) (hx : a.eval x = lv) (hy : a.eval y = .slice (some ⟨W.heap.size, 0, none⟩) zs.length zs.length) (hone : ∀ u ∈ zs, u.oneCell' = true) (hO : OwnV B W lv l) (hBw : B ≤ W.heap.size) (hl : l.length + zs.length ≤ 100000)
    (h : ∀ v' w', OwnV B w' v' (l ++ zs) → Below B (W.alloc (.cells zs.toArray 82)) w' → wpList Try.prog ops Q rest (a.put dst v') w') :
    wpList Try.prog ops Q (⟨dst, .call { callee := .builtin .append, args := #[x, y], argTypes := #[t, t] }, ty, pos, after, none⟩ :: rest) a (W.alloc (.cells zs.toArray 82)) := by
  subst ht
  obtain ⟨i0, hi, hz0, hz1, hz2⟩ := info_parts info82
  refine wpList_append_own _ rfl x y 98 rfl B 82 i0 (.pointer none) 1 8 Try.underlying98 hi hz0 hz1 hz2 rfl (by decide) lv l.length l hx (World.ownsRow.alloc hO _) ⟨W.heap.size, 0, none⟩ zs.length zs.length zs hy (by simp) ?_ hone (by unfold maxLen; omega) (by omega) (by rw [alloc_size]; omega) ?_
  · intro j u hj
    rw [Addr.add_lit, World.cell?_alloc_new]
    simpa using hj
  · intro v' w' hown hgrow _
    refine h v' w' ?_ ?_
    · unfold OwnV
      rw [List.length_append]
      exact hown
    · refine (Below.refl _ _).grown hgrow (by rw [alloc_size]; omega) (fun k hk => ?_)
      obtain ⟨_, h | ⟨g, cap, cur, rfl, h2, h3, h4, h5, h6, h7⟩⟩ := hO
      · rw [h.1] at hk; cases hk
      · obtain rfl := Option.some.inj hk
        exact h2
theorem range_prefix {a b : Nat} (h : a ≤ b) : List.range a <+: List.range b := by
  obtain ⟨c, rfl⟩ : ∃ c, b = a + c := ⟨b - a, by omega⟩
  rw [List.range_add]
  exact List.prefix_append _ _
theorem ptrF_dir (b k : Nat) (h : 3 ≤ k) : ptrF b k = .pointer (some ⟨b, k, none⟩) := by unfold ptrF offF; rw [if_neg (by omega), if_neg (by omega)]
theorem OwnV.ob {B : Nat} {w : World} {v : Value} {l : List Value} (h : OwnV B w v l) : ∀ k, v.ownBlock = some k → B ≤ k := by
  intro k hk
  obtain ⟨_, h | ⟨g, cap, cur, rfl, h2, -⟩⟩ := h
  · rw [h.1] at hk; cases hk
  · obtain rfl := Option.some.inj hk
    exact h2
set_option maxHeartbeats 2000000 in
theorem fields1_in (n : Nat) (hn : 1 ≤ n) (l Bx b m : Nat) (J Jx : List Nat → World → Prop) (W : World) (hm : m ≤ W.heap.size) (hBx : W.cell? ⟨Bx, 0, none⟩ = some (.pointer (some ⟨b, 0, none⟩))) (hBl : Bx < W.heap.size) (hJ : AbidesFrom W.heap.size J)
    (hY : ∀ pre x W1, J pre W1 → pre.length < 12 → x = pre.length → YieldAt Fence.wide (n - 1) Try.prog l (encF b x) W1 fun e W' =>
      (e = .returned (.bool true) ∧ J (pre ++ [x]) W' ∧ Kc m W1 W') ∨ (e = .returned (.bool false) ∧ Jx (pre ++ [x]) W'))
    (h0 : J [] W) :
    CallsIn Fence.wide n Try.prog 79 #[.func (.yield l) #[] #[], .pointer (some ⟨Bx, 0, none⟩)] W fun e W' => (∃ v, e = .returned v) ∧
      ((∃ ys, ys = List.range 12 ∧ J ys W') ∨ (∃ pre, pre <+: List.range 12 ∧ Jx pre W')) := by
  refine callsIn_of_wp Try.func79 rfl trivial ?_ rfl
  simp only [Try.ntmps79, List.size_toArray, List.length_cons, List.length_nil, Nat.reduceAdd, Nat.reduceSub, Array.replicate_succ, Array.replicate_zero, List.push_toArray, List.append_toArray, List.nil_append, List.cons_append]
  refine wpIn_wide.2 ?_
  have HY := Lib.hid hY
  have HJ := Lib.hid hJ
  have H0 := Lib.hid h0
  clear hY hJ h0
  go_wp2_with fail
  have hBd : W.drew.cell? ⟨Bx, 0, none⟩ = some (.pointer (some ⟨b, 0, none⟩)) := hBx
  refine region_tail 12 (by kernel_rfl) (by kernel_rfl) ?_
  simp only [List.take_succ_cons, List.take_zero, List.drop_succ_cons, List.drop_zero]
  repeat still_step
  refine wpStill_nil ?_
  go_wp2_with fail
  have HO : Hid (OwnV W.heap.size (W.drew.alloc (.cells #[.pointer (some ⟨b, 0, none⟩), .pointer (some ⟨b, 2, none⟩), .pointer (some ⟨b, 1, none⟩), .pointer (some ⟨b, 3, none⟩)] 82)) (.slice (some ⟨W.heap.size, 0, none⟩) 4 4) (ptrs b 4)) :=
    ⟨by simp [ptrs_length], .inr ⟨W.heap.size, 4, _, rfl, Nat.le_refl _, heap_alloc_new W.drew _, Nat.le_refl _, by unfold maxLen; decide, rfl, rfl⟩⟩
  have HB : Hid (Below W.heap.size W (W.drew.alloc (.cells #[.pointer (some ⟨b, 0, none⟩), .pointer (some ⟨b, 2, none⟩), .pointer (some ⟨b, 1, none⟩), .pointer (some ⟨b, 3, none⟩)] 82))) := (Below.refl _ _).drew.alloc (Nat.le_refl _) _
  go_loopw [3, 21] (fun v x wr => ∃ k : Nat, k ≤ 6 ∧ x = .int .i64 k ∧ Hid (OwnV W.heap.size wr v (ptrs b (4 + k))) ∧ Hid (Below W.heap.size W wr)) (fun _ x _ => 6 - (intOf x).toNat)
  case atStart => exact ⟨0, by omega, rfl, HO, HB⟩
  case round =>
    clear HO HB hBd
    obtain ⟨k, hk, rfl, HO, HB⟩ := hrel
    have hbx := (HB.out.cell (p := ⟨Bx, 0, none⟩) hBl).trans hBx
    by_cases hlt : k < 6
    · have i1 : (k : Int) < 6 := by omega
      have i0 : (0 : Int) ≤ k := by omega
      have hp := ptrF_dir b (4 + k) (by omega)
      have HP := Lib.hid hp
      clear hp
      go_wp2_with (at_builtin; refine wpList_append_vals W.heap.size _ (ptrs b (4 + k)) [.pointer (some ⟨b, 4 + k, none⟩)] wr rfl rfl rfl (by intro u hu; obtain rfl := List.mem_singleton.1 hu; rfl) HO.out HB.out.size (by rw [ptrs_length]; simp; omega) ?_; intro v' W2 ho hb; have O2 := Lib.hid ho; have B2 := Lib.hid ((HB.out.alloc HB.out.size _).trans hb); clear ho hb)
      go_roundw
      case rel => exact ⟨k + 1, by omega, by go_num, by rw [← Nat.add_assoc, ptrs_succ, HP.out]; exact O2, B2⟩
      case measure => simp [intOf] <;> omega
    · obtain rfl : k = 6 := by omega
      clear hk hlt
      go_wp2_with fail
      obtain ⟨i0, hi, hz0, hz1, hz2⟩ := info_parts info82
      have hnews : ∀ (j : Nat) (u : Value), [Value.pointer (some ⟨b, 10, none⟩), Value.pointer (some ⟨b, 11, none⟩)][j]? = some u → (wr.drew.alloc (.cells #[.pointer (some ⟨b, 10, none⟩), .pointer (some ⟨b, 11, none⟩)] 82)).cell? ((⟨wr.heap.size, 0, none⟩ : Addr).add j) = some u := fun j u hj => World.news_of_block (heap_alloc_new wr.drew _) j u hj
      have hone : ∀ u ∈ [Value.pointer (some ⟨b, 10, none⟩), Value.pointer (some ⟨b, 11, none⟩)], u.oneCell' = true := by
        intro u hu
        rcases List.mem_cons.1 hu with rfl | hu
        · rfl
        · obtain rfl := List.mem_singleton.1 hu
          rfl
      have HN := Lib.hid hnews
      have HI := Lib.hid hone
      have HX := Lib.hid hbx
      clear hnews hone
      refine wp_region_held_drew (S := fun W' => W'.cell? ⟨Bx, 0, none⟩ = some (.pointer (some ⟨b, 0, none⟩))) (by kernel_rfl) (HX.out) (fun hHeld => ?_)
      refine held_take 0 33 (v := ?_) rfl rfl (by kernel_rfl) (by kernel_rfl) (by kernel_rfl) (fun _ _ _ h => h) (by rfl) ?_ (by assumption) ?_
      rotate_left 1
      · intro wq hSq
        try dsimp only at hSq
        go_simp
        try with_reducible rfl
      simp only [List.setIfInBounds_toArray, List.set_cons_zero, List.set_cons_succ]
      refine held_take 1 34 (v := ?_) rfl rfl (by kernel_rfl) (by kernel_rfl) (by kernel_rfl) (fun _ _ _ h => h) (by rfl) ?_ (by assumption) ?_
      rotate_left 1
      · intro wq hSq
        try dsimp only at hSq
        go_simp
        try with_reducible rfl
      simp only [List.setIfInBounds_toArray, List.set_cons_zero, List.set_cons_succ]
      refine held_take 2 35 (v := ?_) rfl rfl (by kernel_rfl) (by kernel_rfl) (by kernel_rfl) (fun _ _ _ h => h) (by rfl) ?_ (by assumption) ?_
      rotate_left 1
      · intro wq hSq
        try dsimp only at hSq
        go_simp
        try with_reducible rfl
      simp only [List.setIfInBounds_toArray, List.set_cons_zero, List.set_cons_succ]
      refine held_take 3 36 (v := ?_) rfl rfl (by kernel_rfl) (by kernel_rfl) (by kernel_rfl) (fun _ _ _ h => h) (by rfl) ?_ (by assumption) ?_
      rotate_left 1
      · intro wq hSq
        try dsimp only at hSq
        go_simp
        try with_reducible rfl
      simp only [List.setIfInBounds_toArray, List.set_cons_zero, List.set_cons_succ]
      refine held_take 4 37 (v := ?_) rfl rfl (by kernel_rfl) (by kernel_rfl) (by kernel_rfl) (fun _ _ _ h => h) (by rfl) ?_ (by assumption) ?_
      rotate_left 1
      · intro wq hSq
        try dsimp only at hSq
        go_simp
        try with_reducible rfl
      simp only [List.setIfInBounds_toArray, List.set_cons_zero, List.set_cons_succ]
      refine held_take 5 38 (v := ?_) rfl rfl (by kernel_rfl) (by kernel_rfl) (by kernel_rfl) (fun _ _ _ h => h) (by rfl) ?_ (by assumption) ?_
      rotate_left 1
      · intro wq hSq
        try dsimp only at hSq
        go_simp
        try with_reducible rfl
      simp only [List.setIfInBounds_toArray, List.set_cons_zero, List.set_cons_succ]
      refine held_take 6 39 (v := ?_) rfl rfl (by kernel_rfl) (by kernel_rfl) (by kernel_rfl) (fun _ _ _ h => h) (by rfl) ?_ (by assumption) ?_
      rotate_left 1
      · intro wq hSq
        try dsimp only at hSq
        go_simp
        try with_reducible rfl
      simp only [List.setIfInBounds_toArray, List.set_cons_zero, List.set_cons_succ]
      refine held_take 10 43 (v := ?_) rfl rfl (by kernel_rfl) (by kernel_rfl) (by kernel_rfl) (fun _ _ _ h => h) (by rfl) ?_ (by assumption) ?_
      rotate_left 1
      · intro wq hSq
        try dsimp only at hSq
        go_simp
        try with_reducible rfl
      simp only [List.setIfInBounds_toArray, List.set_cons_zero, List.set_cons_succ]
      refine wpAnyH_ready (rs := [7]) (by kernel_rfl) (by simp) ?_
      refine AllReadyH.cons rfl (fun K hK => ?_) AllReadyH.nil
      go_simp
      refine hK.out _ _ (((below_one wr.drew _).cell (p := ⟨Bx, 0, none⟩) (Nat.lt_of_lt_of_le hBl HB.out.size)).trans HX.out) (fun hHeld => ?_)
      clear hK K
      try simp only [Act.put]
      refine wpAnyH_ready (rs := [8]) (by kernel_rfl) (by simp) ?_
      refine AllReadyH.cons rfl (fun K hK => ?_) AllReadyH.nil
      refine step_append_lies _ rfl (.tmp 33) (.tmp 40) 98 rfl W.heap.size 82 i0 (.pointer none) 1 8 Try.underlying98 hi hz0 hz1 hz2 rfl (by decide) _ 10 (ptrs b (4 + 6)) rfl (World.ownsRow.alloc (w := wr.drew) HO.out _) ⟨wr.heap.size, 0, none⟩ 2 2 [.pointer (some ⟨b, 10, none⟩), .pointer (some ⟨b, 11, none⟩)] rfl rfl HN.out HI.out (by decide) (by unfold maxLen; decide) (by decide) (by show W.heap.size ≤ (wr.alloc _).heap.size; rw [alloc_size]; exact Nat.le_succ_of_le HB.out.size) (wr.heap.size + 1) (show (wr.alloc _).heap.size = _ from alloc_size _ _) ?_
      intro g cap W2 ho hgr hg0 hlt
      have hb : Below W.heap.size (wr.alloc (.cells #[.pointer (some ⟨b, 10, none⟩), .pointer (some ⟨b, 11, none⟩)] 82)).drew W2 := (Below.refl _ _).grown hgr (by show W.heap.size ≤ (wr.alloc _).heap.size; rw [alloc_size]; exact Nat.le_succ_of_le HB.out.size) HO.out.ob
      have B2 := Lib.hid ((HB.out.alloc HB.out.size _).drew.trans hb)
      have ho' : OwnV W.heap.size W2 (.slice (some ⟨g, 0, none⟩) 12 cap) (ptrs b 12) := ho
      obtain ⟨g', cap', cur, he, hg1, hg2, hg3⟩ := ho'.form (ptrs_length b 12) (by decide)
      simp only [Value.slice.injEq, Option.some.injEq, Addr.mk.injEq] at he
      obtain ⟨⟨rfl, -, -⟩, -, rfl⟩ := he
      have G2 := Lib.hid hg2
      have GL := Lib.hid hg3
      have GM := Lib.hid hg1
      refine hK.out _ _ ((B2.out.cell (p := ⟨Bx, 0, none⟩) hBl).trans hBx) (fun hHeld => ?_)
      clear hK K ho ho' hgr hg0 hlt hb hg1 hg2 hg3
      try simp only [Act.put]
      refine held_take 9 42 (v := ?_) rfl rfl (by kernel_rfl) (by kernel_rfl) (by kernel_rfl) (fun _ _ _ h => h) (by rfl) ?_ (by assumption) ?_
      rotate_left 1
      · intro wq hSq
        try dsimp only at hSq
        go_simp
        try with_reducible rfl
      simp only [List.setIfInBounds_toArray, List.set_cons_zero, List.set_cons_succ]
      refine wpAnyH_done (by kernel_rfl) ?_ _
      go_wp2_with fail
      have J2 := Lib.hid (HJ.out [] W W2 none H0.out (grown_none B2.out) (fun r e => by cases e))
      refine (wpIn_wide (n := n)).1 ?_
      clear HO HB HN HI HX H0 hBx hbx hHeld
      gi_loopw [43] (fun x W' => ∃ k : Nat, k ≤ 12 ∧ x = .int .i64 k ∧ Hid (J (List.range k) W') ∧ Hid (W'.heap[g]? = some (.cells cur 82 (0, 0)))) (fun x _ => 12 - (intOf x).toNat)
      case atStart => exact ⟨0, by omega, rfl, J2, G2⟩
      case round =>
        clear J2 G2
        obtain ⟨k, hk, rfl, HJk, HG⟩ := hrel
        by_cases hlt : k < 12
        · have i1 : (k : Int) < 12 := by omega
          have i0 : (0 : Int) ≤ k := by omega
          have c1 : wr.cell? ⟨g, k, none⟩ = some (ptrF b k) := cell_of_heap HG.out (by
            have h := ptrs_get b hlt
            rw [← GL.out, List.getElem?_take, if_pos hlt] at h
            simpa using h)
          unfold ptrF at c1
          obtain ⟨fn, tmps, assign, body, hy, hR⟩ := HY.out _ k wr HJk.out (by rw [List.length_range]; exact hlt) (by rw [List.length_range])
          unfold encF ptrF at hy
          by_cases h2 : k < 2
          · have w1 : widF k = 1 := by unfold widF; rw [if_pos h2]
            have t2 : (k : Int) < 2 := by omega
            have t3 : ((k : Int) == 3) = false := by rw [beq_eq_false_iff_ne]; omega
            rw [w1] at hy
            change (Instr.yield l #[.pointer (some ⟨b, offF k, none⟩), .int .i64 1]).run Try.prog wr = _ at hy
            clear w1
            gi_wp2
            refine hR.mono ?_
            rintro e W3 (⟨rfl, hJ3, hk3⟩ | ⟨rfl, hJx3⟩)
            · have J3 : Hid (J (List.range (k + 1)) W3) := by
                show J (List.range (k + 1)) W3
                rw [List.range_succ]; exact hJ3
              have G3 := Lib.hid (hk3.2 g (Nat.le_trans hm GM.out) _ HG.out rfl)
              clear hJ3 hk3
              gi_wp2
              go_roundw
              case rel => exact ⟨_, _, _, _, _, _, _, _, _, _, _, _, _, _, _, _, _, _, _, _, ⟨k + 1, by omega, by go_num, J3, G3⟩, rfl⟩
              case measure => simp [intOf] <;> omega
            · have J3 := Lib.hid hJx3
              clear hJx3
              gi_wp2
              refine bodyPost_ret (results_none rfl _ _ _) rfl ?_
              exact ⟨⟨_, rfl⟩, .inr ⟨List.range k ++ [k], by rw [← List.range_succ]; exact range_prefix (by omega), J3.out⟩⟩
          · have t2 : ¬ (k : Int) < 2 := by omega
            by_cases h3 : k = 3
            · have w1 : widF k = 4 := by unfold widF; rw [if_neg h2, if_pos h3]
              have t3 : (k : Int) = 3 := by omega
              subst h3
              rw [w1] at hy
              change (Instr.yield l #[.pointer (some ⟨b, offF 3, none⟩), .int .i64 4]).run Try.prog wr = _ at hy
              clear w1
              gi_wp2
              refine hR.mono ?_
              rintro e W3 (⟨rfl, hJ3, hk3⟩ | ⟨rfl, hJx3⟩)
              · have J3 : Hid (J (List.range (3 + 1)) W3) := by
                  show J (List.range (3 + 1)) W3
                  rw [List.range_succ]; exact hJ3
                have G3 := Lib.hid (hk3.2 g (Nat.le_trans hm GM.out) _ HG.out rfl)
                clear hJ3 hk3
                gi_wp2
                go_roundw
                case rel => exact ⟨_, _, _, _, _, _, _, _, _, _, _, _, _, _, _, _, _, _, _, _, ⟨3 + 1, by omega, by go_num, J3, G3⟩, rfl⟩
                case measure => simp [intOf] <;> omega
              · have J3 := Lib.hid hJx3
                clear hJx3
                gi_wp2
                refine bodyPost_ret (results_none rfl _ _ _) rfl ?_
                exact ⟨⟨_, rfl⟩, .inr ⟨List.range 3 ++ [3], by rw [← List.range_succ]; exact range_prefix (by omega), J3.out⟩⟩
            · have w1 : widF k = 2 := by unfold widF; rw [if_neg h2, if_neg h3]
              have t3 : ((k : Int) == 3) = false := by rw [beq_eq_false_iff_ne]; omega
              rw [w1] at hy
              change (Instr.yield l #[.pointer (some ⟨b, offF k, none⟩), .int .i64 2]).run Try.prog wr = _ at hy
              clear w1
              gi_wp2
              refine hR.mono ?_
              rintro e W3 (⟨rfl, hJ3, hk3⟩ | ⟨rfl, hJx3⟩)
              · have J3 : Hid (J (List.range (k + 1)) W3) := by
                  show J (List.range (k + 1)) W3
                  rw [List.range_succ]; exact hJ3
                have G3 := Lib.hid (hk3.2 g (Nat.le_trans hm GM.out) _ HG.out rfl)
                clear hJ3 hk3
                gi_wp2
                go_roundw
                case rel => exact ⟨_, _, _, _, _, _, _, _, _, _, _, _, _, _, _, _, _, _, _, _, ⟨k + 1, by omega, by go_num, J3, G3⟩, rfl⟩
                case measure => simp [intOf] <;> omega
              · have J3 := Lib.hid hJx3
                clear hJx3
                gi_wp2
                refine bodyPost_ret (results_none rfl _ _ _) rfl ?_
                exact ⟨⟨_, rfl⟩, .inr ⟨List.range k ++ [k], by rw [← List.range_succ]; exact range_prefix (by omega), J3.out⟩⟩
        · obtain rfl : k = 12 := by omega
          gi_wp2
          go_end0
          exact ⟨⟨_, rfl⟩, .inl ⟨_, rfl, HJk.out⟩⟩
end Go.Proofs.Ytopbejdhfndfbaa
