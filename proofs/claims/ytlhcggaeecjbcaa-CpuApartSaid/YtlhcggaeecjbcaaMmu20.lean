/- The law MmuWords, walked. No condition. -/
import Derived.Test.YtlhcggaeecjbcaaMmu19
import Derived.Laws.BitsAllLaws
import Derived.Deep.QuietTactic
import Derived.BigQuiet
namespace Go.Proofs.Ytlhcggaeecjbcaa
open Go.RowKit
def rowFree (w : World) (b n : Nat) : Bool := match w.heap[b]? with | some (.cells cs _ (0, 0)) => cs.size == n | _ => false
theorem rowFree_new (w : World) (cs : Array Value) (t : TypeId) (b n : Nat) (hn : b = w.heap.size) : rowFree (w.alloc (.cells cs t)) b n = (cs.size == n) := by
  subst hn; simp only [rowFree, heap_alloc_new]
theorem rowFree_past (w : World) (o : Obj) (b n : Nat) (hn : b < w.heap.size) : rowFree (w.alloc o) b n = rowFree w b n := by simp only [rowFree, Below.heap_alloc w o b hn]
theorem rowFree_drew (w : World) (b n : Nat) : rowFree w.drew b n = rowFree w b n := rfl
theorem setRow_drew (w : World) (b : Nat) (cs : Array Value) : w.drew.setRow b cs = (w.setRow b cs).drew := rfl
theorem setRow_made (w : World) (t : TypeId) (cs0 cs : Array Value) (b : Nat) (hb : b = w.heap.size) : (w.alloc (.cells cs0 t)).setRow b cs = w.alloc (.cells cs t) := by
  subst hb; exact setRow_new w t cs0 cs
theorem run_store26_any (w : World) (b : Nat) (s : Nat → Pte) (h : rowFree w b 48 = true) : (store26 ⟨b, 0, none⟩ (.agg (spCells s))).run Try.prog w = .ok () (w.setRow b (spCells s)) := by
  obtain ⟨cs, t, hb, hz⟩ : ∃ cs t, w.heap[b]? = some (.cells cs t (0, 0)) ∧ cs.size = 48 := by
    unfold rowFree at h
    split at h
    · rename_i cs t hb
      exact ⟨cs, t, hb, by simpa using h⟩
    · cases h
  exact run_storeVar_row w b t 26 cs (spCells s) hb (by rw [spCells_size]; exact spInfo) (by rw [hz, spCells_size]) (oneCell_spCells s)
attribute [local go_sem ↓] loadVar_26 storeVar_26
attribute [local go_sem] run_load26 run_load26_sub run_store26_any aggAt_new aggAt_past aggAt_drew rowAt_new rowAt_past rowAt_drew spCells_size subAt_past subAt_drew wideAt_past wideAt_drew rowFree_new rowFree_past rowFree_drew setRow_drew setRow_made

def Have1 (w0 : World) (c : Array Value) (t : TypeId) (w : World) : Prop := Below w0.heap.size w0 w ∧ w.heap[w0.heap.size]? = some (.cells c t)
theorem have1_start {w0 w : World} {c : Array Value} {t : TypeId} (hb : Below (w0.alloc (.cells c t)).heap.size (w0.alloc (.cells c t)) w) : Have1 w0 c t w := by
  refine ⟨((Below.refl _ _).alloc (Nat.le_refl _) _).trans (hb.mono (by rw [alloc_size]; omega)), ?_⟩
  rw [hb.block _ (by rw [alloc_size]; omega)]
  exact heap_alloc_new _ _
theorem have1_step {w0 w w' : World} {c : Array Value} {t : TypeId} (h : Have1 w0 c t w) (hb : Below w.heap.size w w') : Have1 w0 c t w' :=
  ⟨below_step h.1 hb, (hb.block _ (heap_lt h.2)).trans h.2⟩
theorem have1_word {w0 w : World} {s : Nat → Pte} {a : Int} {n : Nat} (h : Have1 w0 (wordCells s a n) 54 w) : subAt w w0.heap.size 48 = .agg (spCells s) ∧ wideAt w w0.heap.size 48 = true ∧
    w.cell? ⟨w0.heap.size, 48, none⟩ = some (.int .u32 a) ∧ w.cell? ⟨w0.heap.size, 49, none⟩ = some (.int .u32 n) := by
  have hz : (wordCells s a n).size = 50 := by rw [wordCells, Array.size_append, spCells_size]; rfl
  have := sub_facts h.2 (show 48 ≤ (wordCells s a n).size by rw [hz]; decide)
  rw [word_sub] at this
  refine ⟨this.1, this.2, cell_of_heap h.2 ?_, cell_of_heap h.2 ?_⟩
  · rw [wordCells, Array.getElem?_append_right (by rw [spCells_size]; decide), spCells_size]; rfl
  · rw [wordCells, Array.getElem?_append_right (by rw [spCells_size]; decide), spCells_size]; rfl

/-- The local space lies at 'b'. -/
def Have3 (w0 : World) (b : Nat) (s : Nat → Pte) (w : World) : Prop := Below w0.heap.size w0 w ∧ w.heap[b]? = some (.cells (spCells s) 26)
theorem have3_start {w0 w1 : World} {s : Nat → Pte} (h : Below w0.heap.size w0 w1) : Have3 w0 w1.heap.size s (w1.alloc (.cells (spCells s) 26)).drew :=
  ⟨((h.alloc h.size _)).drew, heap_alloc_new _ _⟩
theorem have3_step {w0 w w' : World} {b : Nat} {s : Nat → Pte} (h : Have3 w0 b s w) (hb : Below w.heap.size w w') : Have3 w0 b s w' :=
  ⟨below_step h.1 hb, (hb.block _ (heap_lt h.2)).trans h.2⟩
theorem have3_facts {w0 w : World} {b : Nat} {s : Nat → Pte} (h : Have3 w0 b s w) : aggAt w b = .agg (spCells s) ∧ rowAt w b 48 = true := agg_facts h.2 48 (spCells_size s)

theorem store_some (v : Value) (l k : List ByteArray) (s : Nat → Pte) (a size : Int) (n : Nat) (w : World) (hv : Strs w v l) (hl : l.length ≤ 100000) (h0 : 0 ≤ a) (h1 : a ≤ 4294967295) (hn : n ≤ 4294967295) (h : mstore l s a size n = some k) :
    Calls Try.prog 29 #[v, .agg (spCells s), .int .u32 a, .int .i64 size, .int .u32 n] w fun e w' => Below w.heap.size w w' ∧ ∃ v, e = .returned (.tuple #[v, .bool true]) ∧ Strs w' v k := by
  refine (store_any v l s a size n w hv hl h0 h1 hn).mono ?_
  rw [h]
  exact fun _ _ h => h
theorem store_none (v : Value) (l : List ByteArray) (s : Nat → Pte) (a size : Int) (n : Nat) (w : World) (hv : Strs w v l) (hl : l.length ≤ 100000) (h0 : 0 ≤ a) (h1 : a ≤ 4294967295) (hn : n ≤ 4294967295) (h : mstore l s a size n = none) :
    Calls Try.prog 29 #[v, .agg (spCells s), .int .u32 a, .int .i64 size, .int .u32 n] w fun e w' => Below w.heap.size w w' ∧ ∃ v, e = .returned (.tuple #[v, .bool false]) ∧ Strs w' v [] := by
  refine (store_any v l s a size n w hv hl h0 h1 hn).mono ?_
  rw [h]
  exact fun _ _ h => h
theorem bits_low (m j : Nat) (h : m < 4294967296) : bits .and .u32 ((m : Int) / 2 ^ (8 * j)) 255 = (m : Int) / 2 ^ (8 * j) % 256 := by
  have e : (m : Int) / 2 ^ (8 * j) = ((m / 2 ^ (8 * j) : Nat) : Int) := by push_cast; rfl
  have hlt : m / 2 ^ (8 * j) < 4294967296 := Nat.lt_of_le_of_lt (Nat.div_le_self _ _) h
  rw [e, show (255 : Int) = ((255 : Nat) : Int) from rfl, u32_and_nat _ _ hlt (by decide), show (255 : Nat) = 2 ^ 8 - 1 from rfl, Nat.and_two_pow_sub_one_eq_mod]
  rfl

theorem Strs.pos {w : World} {v : Value} {l : List ByteArray} (h : Strs w v l) (h0 : 0 < l.length) : ∃ b o cap, v = .slice (some ⟨b, o, none⟩) l.length cap ∧ l.length ≤ cap := by
  rcases h.shape with ⟨rfl, _⟩ | ⟨_, b, o, cap, rfl, hc, _⟩
  · simp at h0
  · exact ⟨b, o, cap, rfl, hc⟩
theorem Strs.cell_at {w : World} {b o n cap : Nat} {l : List ByteArray} (h : Strs w (.slice (some ⟨b, o, none⟩) n cap) l) {i : Nat} (hi : i < l.length) : w.cell? ⟨b, o + i, none⟩ = some (.string (bAt l i)) := by
  rcases h.shape with ⟨rfl, _⟩ | ⟨_, b', o', cap', he, _, _, hc⟩
  · simp at hi
  · simp only [Value.slice.injEq, Option.some.injEq, Addr.mk.injEq] at he
    obtain ⟨⟨rfl, rfl, _⟩, _, _⟩ := he
    exact hc i hi
theorem have3_page {w0 w : World} {b : Nat} {s : Nat → Pte} {a : Int} (h : Have3 w0 b s w) (h0 : 0 ≤ a) (ha : a < 2048) (hw : (pg s a).write = true) :
    w.cell? ⟨b, (a / 128).toNat * 3 + 1, none⟩ = some (.bool true) ∧ w.cell? ⟨b, (a / 128).toNat * 3 + 2, none⟩ = some (.int .i64 (pg s a).frame) := by
  obtain ⟨_, g1, g2⟩ := spCells_get s (a / 128).toNat (by omega)
  unfold pg at hw ⊢
  rw [hw] at g1
  exact ⟨cell_of_heap h.2 g1, cell_of_heap h.2 g2⟩

set_option maxRecDepth 20000 in
set_option maxHeartbeats 1000000 in
theorem words_ss (b0 o0 cap0 : Nat) (l : List ByteArray) (s : Nat → Pte) (a : Int) (n : Nat) (w : World) (HV : Hid (Strs w (.slice (some ⟨b0, o0, none⟩) l.length cap0) l)) (hs : Hid (∀ i, (bAt l i).size ≤ 140737488351232)) (hl : Hid (l.length ≤ 140737488351232)) (h0 : 0 ≤ a) (h1 : a ≤ 4294967295) (hn : n ≤ 4294967295) (hg0 : greatB l = 0) (m : Nat) (Hm : Hid (loadOut (mload l s a 4) = .tuple #[.int .u32 m, .bool true]))
    (hm32 : m < 4294967296) (ha : a < 2048) (HL : Hid (l.length ≤ 100000)) (l' : List ByteArray) (HS : Hid (mstore l s a 4 n = some l')) (HS2 : Hid (loadOut (mload l' s a 4) = .tuple #[.int .u32 n, .bool true])) (hlen : l'.length = l.length) (hpos : 0 < l.length) (hwr : (pg s a).write = true) (HO : Hid (∀ i : Nat, (i : Int) ≠ (pg s a).frame → bAt l' i = bAt l i)) (HM : Hid (∀ i, i < 4 → loadOut (mload l s (a + (i : Nat)) 1) = .tuple #[.int .u32 (m / 2 ^ (8 * i) % 256 : Nat), .bool true])) :
    Calls Try.prog 8 #[.slice (some ⟨b0, o0, none⟩) l.length cap0, .agg (wordCells s a n)] w fun e w' => e = .returned (.bool true) ∧ Below w.heap.size w w' := by
  go_enter Try.func8, Try.ntmps8
  go_wp2_with (first
    | (go_at_call 17; refine (mmuAlive_any _).mono ?_; rintro e w1 ⟨rfl, hb⟩; have HA := Lib.hid (have1_start hb); clear hb; obtain ⟨q1, q2, q3, q4⟩ := have1_word HA.out; have q5 := heap_lt HA.out.2; have q6 : w.heap.size ≠ w1.heap.size := Nat.ne_of_lt q5))
  go_region
  have HB := Lib.hid (have3_start (s := s) HA.out.1)
  generalize (w1.alloc (Obj.cells (spCells s) 26)).drew = W2 at HB ⊢
  generalize w1.heap.size = b at HB ⊢
  clear HA q1 q2 q3 q4 q5 q6
  obtain ⟨q1, q2⟩ := have3_facts HB.out
  go_wp2_with (first
    | (go_at_call 18; refine (great_any _ l _ (HV.out.mono HB.out.1) hs hl).mono ?_; rintro e w2 ⟨rfl, rfl⟩; rw [hg0])
    | (go_at_call 25; refine (load_any _ l s a 4 _ (HV.out.mono HB.out.1) h0 h1).mono ?_; rw [Hm.out]; rintro e w3 ⟨rfl, hb⟩; have HC := Lib.hid (have3_step HB.out hb); clear q1 q2 hb))
  go_loopw [37] (fun i W => ∃ j : Nat, j ≤ 4 ∧ i = .int .i64 j ∧ Hid (Have3 w b s W)) (fun i _ => 4 - (intOf i).toNat)
  case atStart => exact ⟨0, by omega, rfl, HC⟩
  case round =>
    obtain ⟨j, hj, rfl, HD⟩ := hrel
    obtain ⟨q1, q2⟩ := have3_facts HD.out
    by_cases hlt : j < 4
    · have hbit := bits_low m j hm32
      go_wp2_with (first
        | (go_at_call 25; refine (load_any _ l s (a + j) 1 _ (HV.out.mono HD.out.1) (by omega) (by omega)).mono ?_; rw [HM.out j hlt]; rintro e w4 ⟨rfl, hb⟩; have HE := Lib.hid (have3_step HD.out hb); clear q1 q2 hb))
      go_roundw
      case rel => exact ⟨j + 1, by omega, by go_num, HE⟩
      case measure => simp [intOf]; omega
    · go_wp2_with (first
        | (go_at_call 29; refine (store_some _ l l' s a 4 n _ (HV.out.mono HD.out.1) HL.out h0 h1 hn HS.out).mono ?_; rintro e w5 ⟨hb, v5, rfl, hs5⟩; have HF := Lib.hid (have3_step HD.out hb); obtain ⟨b5, o5, cap5, rfl, -⟩ := hs5.pos (by omega); rw [hlen] at hs5; have HV5 := Lib.hid hs5; clear q1 q2 hs5 hb; obtain ⟨q1, q2⟩ := have3_facts HF.out)
        | (go_at_call 25; refine (load_any _ l' s a 4 _ HV5.out h0 h1).mono ?_; rw [HS2.out]; rintro e w6 ⟨rfl, hb⟩; have HG := Lib.hid (have3_step HF.out hb); have HV6 := Lib.hid (HV5.out.mono hb); clear q1 q2 hb; have q3 := (have3_page HG.out h0 ha hwr).1))
      go_loopw [106] (fun i W => ∃ j : Nat, j ≤ l.length ∧ i = .int .i64 j ∧ Hid (Below w6.heap.size w6 W)) (fun i _ => l.length - (intOf i).toNat)
      case atStart => exact ⟨0, by omega, rfl, Below.refl _ _⟩
      case round =>
        obtain ⟨j2, hj2, rfl, HH⟩ := hrel
        have hL := HL.out
        by_cases hlt2 : j2 < l.length
        · have c1 := (HV.out.mono (have3_step HG.out HH.out).1).cell_at (by omega : j2 < l.length)
          have c2 := (HV6.out.mono HH.out).cell_at (by omega : j2 < l'.length)
          have q4 := (have3_page (have3_step HG.out HH.out) h0 ha hwr).2
          by_cases hfr : (j2 : Int) = (pg s a).frame
          · have hne : ((j2 : Int) != (pg s a).frame) = false := by simp [hfr]
            clear hfr
            go_wp2_with fail
            go_quiet (fail)
            go_wp2_with fail
            go_roundw
            case rel => exact ⟨j2 + 1, by omega, by go_num, below_drewN HH.out _⟩
            case measure => simp [intOf]; omega
          · have hne : ((j2 : Int) != (pg s a).frame) = true := by simpa using hfr
            rw [HO.out j2 hfr] at c2
            clear hfr
            go_wp2_with fail
            go_quiet (fail)
            go_wp2_with fail
            go_roundw
            case rel => exact ⟨j2 + 1, by omega, by go_num, below_drewN HH.out _⟩
            case measure => simp [intOf]; omega
        · go_wp2_with fail
          go_ret
          exact ⟨rfl, below_step HG.out.1 HH.out⟩

theorem nil_shape {w : World} {v : Value} (h : Strs w v []) : ∃ a cap, v = .slice a 0 cap := by
  obtain ⟨a, cap, rfl, _⟩ := h.ex
  exact ⟨a, cap, rfl⟩

set_option maxRecDepth 20000 in
set_option maxHeartbeats 1000000 in
theorem words_great (v : Value) (l : List ByteArray) (s : Nat → Pte) (a : Int) (n : Nat) (w : World) (HV : Hid (Strs w v l)) (hs : Hid (∀ i, (bAt l i).size ≤ 140737488351232)) (hl : Hid (l.length ≤ 140737488351232)) (hg1 : greatB l = 1) :
    Calls Try.prog 8 #[v, .agg (wordCells s a n)] w fun e w' => e = .returned (.bool true) ∧ Below w.heap.size w w' := by
  go_enter Try.func8, Try.ntmps8
  go_wp2_with (first
    | (go_at_call 17; refine (mmuAlive_any _).mono ?_; rintro e w1 ⟨rfl, hb⟩; have HA := Lib.hid (have1_start hb); clear hb; obtain ⟨q1, q2, q3, q4⟩ := have1_word HA.out; have q5 := heap_lt HA.out.2; have q6 : w.heap.size ≠ w1.heap.size := Nat.ne_of_lt q5))
  go_region
  have HB := Lib.hid (have3_start (s := s) HA.out.1)
  generalize (w1.alloc (Obj.cells (spCells s) 26)).drew = W2 at HB ⊢
  generalize w1.heap.size = b at HB ⊢
  clear HA q1 q2 q3 q4 q5 q6
  obtain ⟨q1, q2⟩ := have3_facts HB.out
  go_wp2_with (first
    | (go_at_call 18; refine (great_any _ l _ (HV.out.mono HB.out.1) hs hl).mono ?_; rintro e w2 ⟨rfl, rfl⟩; rw [hg1]))
  go_ret
  exact ⟨rfl, HB.out.1⟩

set_option maxRecDepth 20000 in
set_option maxHeartbeats 1000000 in
theorem words_nn (v : Value) (l : List ByteArray) (s : Nat → Pte) (a : Int) (n : Nat) (w : World) (HV : Hid (Strs w v l)) (hs : Hid (∀ i, (bAt l i).size ≤ 140737488351232)) (hl : Hid (l.length ≤ 140737488351232)) (h0 : 0 ≤ a) (h1 : a ≤ 4294967295) (hn : n ≤ 4294967295) (hg0 : greatB l = 0) (Hm : Hid (loadOut (mload l s a 4) = .tuple #[.int .u32 0, .bool false])) (HL : Hid (l.length ≤ 100000)) (HS : Hid (mstore l s a 4 n = none)) :
    Calls Try.prog 8 #[v, .agg (wordCells s a n)] w fun e w' => e = .returned (.bool true) ∧ Below w.heap.size w w' := by
  go_enter Try.func8, Try.ntmps8
  go_wp2_with (first
    | (go_at_call 17; refine (mmuAlive_any _).mono ?_; rintro e w1 ⟨rfl, hb⟩; have HA := Lib.hid (have1_start hb); clear hb; obtain ⟨q1, q2, q3, q4⟩ := have1_word HA.out; have q5 := heap_lt HA.out.2; have q6 : w.heap.size ≠ w1.heap.size := Nat.ne_of_lt q5))
  go_region
  have HB := Lib.hid (have3_start (s := s) HA.out.1)
  generalize (w1.alloc (Obj.cells (spCells s) 26)).drew = W2 at HB ⊢
  generalize w1.heap.size = b at HB ⊢
  clear HA q1 q2 q3 q4 q5 q6
  obtain ⟨q1, q2⟩ := have3_facts HB.out
  go_wp2_with (first
    | (go_at_call 18; refine (great_any _ l _ (HV.out.mono HB.out.1) hs hl).mono ?_; rintro e w2 ⟨rfl, rfl⟩; rw [hg0])
    | (go_at_call 25; refine (load_any _ l s a 4 _ (HV.out.mono HB.out.1) h0 h1).mono ?_; rw [Hm.out]; rintro e w3 ⟨rfl, hb⟩; have HC := Lib.hid (have3_step HB.out hb); clear q1 q2 hb; obtain ⟨q1, q2⟩ := have3_facts HC.out)
    | (go_at_call 29; refine (store_none _ l s a 4 n _ (HV.out.mono HC.out.1) HL.out h0 h1 hn HS.out).mono ?_; rintro e w5 ⟨hb, v5, rfl, hs5⟩; have HF := Lib.hid (have3_step HC.out hb); obtain ⟨a5, cap5, rfl⟩ := nil_shape hs5; clear q1 q2 hs5 hb))
  go_ret
  exact ⟨rfl, HF.out.1⟩

set_option maxRecDepth 20000 in
set_option maxHeartbeats 1000000 in
theorem words_sn (v : Value) (l : List ByteArray) (s : Nat → Pte) (a : Int) (n : Nat) (w : World) (HV : Hid (Strs w v l)) (hs : Hid (∀ i, (bAt l i).size ≤ 140737488351232)) (hl : Hid (l.length ≤ 140737488351232)) (h0 : 0 ≤ a) (h1 : a ≤ 4294967295) (hn : n ≤ 4294967295) (hg0 : greatB l = 0) (m : Nat) (Hm : Hid (loadOut (mload l s a 4) = .tuple #[.int .u32 m, .bool true])) (hm32 : m < 4294967296) (ha : a < 2048) (HL : Hid (l.length ≤ 100000)) (HS : Hid (mstore l s a 4 n = none))
    (HM : Hid (∀ i, i < 4 → loadOut (mload l s (a + (i : Nat)) 1) = .tuple #[.int .u32 (m / 2 ^ (8 * i) % 256 : Nat), .bool true])) :
    Calls Try.prog 8 #[v, .agg (wordCells s a n)] w fun e w' => e = .returned (.bool true) ∧ Below w.heap.size w w' := by
  go_enter Try.func8, Try.ntmps8
  go_wp2_with (first
    | (go_at_call 17; refine (mmuAlive_any _).mono ?_; rintro e w1 ⟨rfl, hb⟩; have HA := Lib.hid (have1_start hb); clear hb; obtain ⟨q1, q2, q3, q4⟩ := have1_word HA.out; have q5 := heap_lt HA.out.2; have q6 : w.heap.size ≠ w1.heap.size := Nat.ne_of_lt q5))
  go_region
  have HB := Lib.hid (have3_start (s := s) HA.out.1)
  generalize (w1.alloc (Obj.cells (spCells s) 26)).drew = W2 at HB ⊢
  generalize w1.heap.size = b at HB ⊢
  clear HA q1 q2 q3 q4 q5 q6
  obtain ⟨q1, q2⟩ := have3_facts HB.out
  go_wp2_with (first
    | (go_at_call 18; refine (great_any _ l _ (HV.out.mono HB.out.1) hs hl).mono ?_; rintro e w2 ⟨rfl, rfl⟩; rw [hg0])
    | (go_at_call 25; refine (load_any _ l s a 4 _ (HV.out.mono HB.out.1) h0 h1).mono ?_; rw [Hm.out]; rintro e w3 ⟨rfl, hb⟩; have HC := Lib.hid (have3_step HB.out hb); clear q1 q2 hb))
  go_loopw [37] (fun i W => ∃ j : Nat, j ≤ 4 ∧ i = .int .i64 j ∧ Hid (Have3 w b s W)) (fun i _ => 4 - (intOf i).toNat)
  case atStart => exact ⟨0, by omega, rfl, HC⟩
  case round =>
    obtain ⟨j, hj, rfl, HD⟩ := hrel
    obtain ⟨q1, q2⟩ := have3_facts HD.out
    by_cases hlt : j < 4
    · have hbit := bits_low m j hm32
      go_wp2_with (first
        | (go_at_call 25; refine (load_any _ l s (a + j) 1 _ (HV.out.mono HD.out.1) (by omega) (by omega)).mono ?_; rw [HM.out j hlt]; rintro e w4 ⟨rfl, hb⟩; have HE := Lib.hid (have3_step HD.out hb); clear q1 q2 hb))
      go_roundw
      case rel => exact ⟨j + 1, by omega, by go_num, HE⟩
      case measure => simp [intOf]; omega
    · go_wp2_with (first
        | (go_at_call 29; refine (store_none _ l s a 4 n _ (HV.out.mono HD.out.1) HL.out h0 h1 hn HS.out).mono ?_; rintro e w5 ⟨hb, v5, rfl, hs5⟩; have HF := Lib.hid (have3_step HD.out hb); obtain ⟨a5, cap5, rfl⟩ := nil_shape hs5; clear q1 q2 hs5 hb))
      go_ret
      exact ⟨rfl, HF.out.1⟩

theorem words_walk (v : Value) (l : List ByteArray) (s : Nat → Pte) (a : Int) (n : Nat) (w : World) (hv : Strs w v l) (hs : Hid (∀ i, (bAt l i).size ≤ 140737488351232)) (hl : Hid (l.length ≤ 140737488351232)) (h0 : 0 ≤ a) (h1 : a ≤ 4294967295) (hn : n ≤ 4294967295) :
    Calls Try.prog 8 #[v, .agg (wordCells s a n)] w fun e w' => e = .returned (.bool true) ∧ Below w.heap.size w w' := by
  by_cases hg : tot l ≤ 5000
  · have hg0 := great_no hg
    have HL : l.length ≤ 100000 := Nat.le_trans (tot_length l) (Nat.le_trans hg (by decide : 5000 ≤ 100000))
    cases hm : mload l s a 4 with
    | none =>
      cases hst : mstore l s a 4 n with
      | none => exact words_nn v l s a n w hv hs hl h0 h1 hn hg0 (by rw [Hid, hm]; rfl) HL hst
      | some l' =>
        obtain ⟨f, k, hf, ht, _⟩ := mstore_some hst h0
        obtain ⟨_, h2, h3, h4, _, h6, h7⟩ := mfind_some hf
        have hf' : mfind s a 4 false = some (f, k) := by
          unfold mfind
          rw [if_pos ⟨.inr rfl, h2, h3⟩, if_pos ⟨h4, fun h => by cases h⟩, h6, h7]
        rw [mload_eq h0 hf' ht] at hm
        cases hm
    | some m =>
      obtain ⟨ha, _, hm32, hM⟩ := words_bytes hm h0
      have HM : ∀ i, i < 4 → loadOut (mload l s (a + (i : Nat)) 1) = .tuple #[.int .u32 (m / 2 ^ (8 * i) % 256 : Nat), .bool true] := fun i hi => by rw [hM i hi]; rfl
      cases hst : mstore l s a 4 n with
      | none => exact words_sn v l s a n w hv hs hl h0 h1 hn hg0 m (by rw [Hid, hm]; rfl) hm32 ha HL hst HM
      | some l' =>
        obtain ⟨_, hld, hwr, hlen, hO⟩ := words_store hst h0 hn
        have hpos : 0 < l.length := by
          obtain ⟨f, k, hf, ht, _⟩ := mstore_some hst h0
          have := hit_lt (hit_of hf ht)
          omega
        obtain ⟨b0, o0, cap0, rfl, _⟩ := hv.pos hpos
        exact words_ss b0 o0 cap0 l s a n w hv hs hl h0 h1 hn hg0 m (by rw [Hid, hm]; rfl) hm32 ha HL l' hst (by rw [Hid, hld]; rfl) hlen hpos hwr hO HM
  · exact words_great v l s a n w hv hs hl (great_is hg)
end Go.Proofs.Ytlhcggaeecjbcaa
