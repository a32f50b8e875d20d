/- Contracts of the statements' helpers (law 14): Same of lists that are one, great, page. Condition: a list of at most 100,000 texts; at most 32 words of 32 bits. -/
import Derived.Test.YtlhcggaeecjbcaaArgs
import Derived.Deep.QuietTactic
import Derived.BigQuiet
namespace Go.Proofs.Ytlhcggaeecjbcaa
open Go.RowKit

set_option maxRecDepth 20000 in
set_option maxHeartbeats 1000000 in
theorem same35 (u v : Value) (l : List ByteArray) (w : World) (hu : Strs w u l) (hv : Strs w v l) (hl : l.length ≤ 100000) :
    Calls Try.prog 35 #[u, v] w fun e w' => e = .returned (.int .i64 1) ∧ Below w.heap.size w w' := by
  rcases hu.shape with ⟨rfl, a, cap, rfl, -⟩ | ⟨h0, b, o, cap, rfl, -, hb, hc⟩
  · obtain ⟨a2, cap2, rfl, -⟩ := hv.ex
    go_enter Try.func35, Try.ntmps35
    go_wp2_with fail
    go_loop [5] (fun i => i = .int .i64 0) (fun _ => 0)
    case atStart => rfl
    case round =>
      subst hrel
      go_wp2_with fail
      go_ret
      exact ⟨rfl, Below.refl _ _⟩
  · rcases hv.shape with ⟨rfl, -⟩ | ⟨-, b2, o2, cap2, rfl, -, hb2, hc2⟩
    · simp at h0
    · have HC := Lib.hid hc
      have HC2 := Lib.hid hc2
      clear hc hc2 hu hv
      go_enter Try.func35, Try.ntmps35
      go_wp2_with fail
      go_loopw [5] (fun i W => ∃ k : Nat, k ≤ l.length ∧ i = .int .i64 k ∧ Hid (Below w.heap.size w W)) (fun i _ => l.length - (intOf i).toNat)
      case atStart => exact ⟨0, by omega, rfl, Below.refl _ _⟩
      case round =>
        obtain ⟨k, hk, rfl, HB⟩ := hrel
        by_cases hlt : k < l.length
        · have c1 := (HB.out.cell (p := ⟨b, o + k, none⟩) hb).trans (HC.out k hlt)
          have c2 := (HB.out.cell (p := ⟨b2, o2 + k, none⟩) hb2).trans (HC2.out k hlt)
          have i0 : (0 : Int) ≤ k := by omega
          have i1 : (k : Int) < l.length := by omega
          go_wp2_with fail
          go_quiet (fail)
          go_wp2_with fail
          go_roundw
          case rel => exact ⟨k + 1, by omega, by go_num, below_drewN HB.out _⟩
          case measure => simp [intOf]; omega
        · go_wp2_with fail
          go_ret
          exact ⟨rfl, HB.out⟩

/-- Is memory more than statements look at? -/
def bigB (l : List ByteArray) : Bool := decide (16 < l.length) || l.any fun x => x.size != 128
theorem bigB_no {l : List ByteArray} (h : bigB l = false) : l.length ≤ 16 ∧ ∀ i, i < l.length → (bAt l i).size = 128 := by
  unfold bigB at h
  simp only [Bool.or_eq_false_iff, decide_eq_false_iff_not, List.any_eq_false] at h
  refine ⟨by omega, fun i hi => ?_⟩
  have := h.2 _ (List.getElem_mem hi)
  simp only [bne_iff_ne, ne_eq, Decidable.not_not] at this
  simpa [bAt, List.getD, hi] using this
theorem bigB_yes {l : List ByteArray} {k : Nat} (hk : k < l.length) (h : (bAt l k).size ≠ 128) : bigB l = true := by
  unfold bigB
  simp only [Bool.or_eq_true, List.any_eq_true]
  refine .inr ⟨l[k], List.getElem_mem hk, ?_⟩
  have e : bAt l k = l[k] := by simp [bAt, List.getD, hk]
  rw [e] at h
  simpa using h
theorem bigB_all {l : List ByteArray} (h : l.length ≤ 16) (h2 : ∀ i, i < l.length → (bAt l i).size = 128) : bigB l = false := by
  unfold bigB
  simp only [Bool.or_eq_false_iff, decide_eq_false_iff_not, List.any_eq_false]
  refine ⟨by omega, fun x hx => ?_⟩
  obtain ⟨i, hi, rfl⟩ := List.getElem_of_mem hx
  have := h2 i hi
  simp [bAt, List.getD, hi] at this
  simp [this]

set_option maxRecDepth 20000 in
set_option maxHeartbeats 1000000 in
theorem great32 (v : Value) (l : List ByteArray) (w : World) (hv : Strs w v l) (hs : Hid (∀ i, (bAt l i).size ≤ 140737488351232)) (hl : Hid (l.length ≤ 140737488351232)) :
    Calls Try.prog 32 #[v] w fun e w' => e = .returned (.bool (bigB l)) ∧ w = w' := by
  have hl' : l.length ≤ 9223372036854775807 := by have := hl.out; omega
  rcases hv.shape with ⟨rfl, a, cap, rfl, -⟩ | ⟨h0, b, o, cap, rfl, -, hb, hc⟩
  · go_enter Try.func32, Try.ntmps32
    go_wp2_with fail
    go_loop [3] (fun i => i = .int .i64 0) (fun _ => 0)
    case atStart => rfl
    case round =>
      subst hrel
      go_wp2_with fail
      go_ret
      exact ⟨rfl, rfl⟩
  · have HC := Lib.hid hc
    clear hc hv
    by_cases h16 : 16 < l.length
    · have Hout := Lib.hid (show bigB l = true by unfold bigB; simp [h16])
      have h16' : (16 : Int) < l.length := by omega
      rw [Hout.out]
      go_enter Try.func32, Try.ntmps32
      go_wp2_with fail
      go_ret
      exact ⟨rfl, rfl⟩
    · have h16' : ¬ (16 : Int) < l.length := by omega
      go_enter Try.func32, Try.ntmps32
      go_wp2_with fail
      go_loop [3] (fun i => ∃ k : Nat, k ≤ l.length ∧ i = .int .i64 k ∧ Hid (∀ j, j < k → (bAt l j).size = 128)) (fun i => l.length - (intOf i).toNat)
      case atStart => exact ⟨0, by omega, rfl, fun j hj => by omega⟩
      case round =>
        obtain ⟨k, hk, rfl, HJ⟩ := hrel
        by_cases hlt : k < l.length
        · have c1 := HC.out k hlt
          have i0 : (0 : Int) ≤ k := by omega
          have i1 : (k : Int) < l.length := by omega
          by_cases hg : (bAt l k).size = 128
          · have hg' : (((bAt l k).size : Int) != 128) = false := by simp [hg]
            have HJ2 : Hid (∀ j, j < k + 1 → (bAt l j).size = 128) := fun j hj => by
              rcases Nat.lt_or_ge j k with h | h
              · exact HJ j h
              · obtain rfl : j = k := by omega
                exact hg
            clear hg
            go_wp2_with fail
            go_round
            case rel => exact ⟨k + 1, by omega, by go_num, HJ2⟩
            case measure => simp [intOf]; omega
          · have hg' : (((bAt l k).size : Int) != 128) = true := by simpa using (by omega : ¬ ((bAt l k).size : Int) = 128)
            have Hout := Lib.hid (bigB_yes hlt hg)
            clear hg
            go_wp2_with fail
            go_ret
            exact ⟨by rw [Hout.out]; rfl, rfl⟩
        · have Hout := Lib.hid (bigB_all (by omega) (fun j hj => HJ.out j (by omega)))
          go_wp2_with fail
          go_ret
          exact ⟨by rw [Hout.out]; rfl, rfl⟩
end Go.Proofs.Ytlhcggaeecjbcaa
namespace Go.Proofs.Ytlhcggaeecjbcaa
open Go.RowKit

def pageL (ws : List Nat) : List UInt8 := ws.flatMap (leBytes 4)
theorem pageL_length (ws : List Nat) : (pageL ws).length = 4 * ws.length := by
  induction ws with
  | nil => rfl
  | cons x ws ih =>
    simp only [pageL, List.flatMap_cons, List.length_append, leBytes_length, List.length_cons] at ih ⊢
    omega
theorem pageL_get (ws : List Nat) : ∀ (i k : Nat), i < ws.length → k < 4 → (pageL ws)[4 * i + k]? = some (UInt8.ofNat ((ws.getD i 0) / 2 ^ (8 * k) % 256)) := by
  induction ws with
  | nil => intro i k h; simp at h
  | cons x ws ih =>
    intro i k hi hk
    simp only [pageL, List.flatMap_cons]
    cases i with
    | zero =>
      rw [List.getElem?_append_left (by rw [leBytes_length]; omega), Nat.mul_zero, Nat.zero_add, leBytes_get _ _ _ hk]
      rfl
    | succ i =>
      rw [List.getElem?_append_right (by rw [leBytes_length]; omega), leBytes_length, show 4 * (i + 1) + k - 4 = 4 * i + k from by omega]
      have := ih i k (by simpa using hi) hk
      rw [pageL] at this
      rw [this]
      rfl
def pageAt (ws : List Nat) (j : Nat) : Array Value := byteCells ((pageL ws).take j ++ List.replicate (128 - j) 0)
theorem pageAt_zero (ws : List Nat) : pageAt ws 0 = byteCells (List.replicate 128 0) := by simp [pageAt]
theorem pageAt_size (ws : List Nat) (j : Nat) (h : j ≤ 128) (h2 : j ≤ 4 * ws.length) : (pageAt ws j).size = 128 := by
  have := pageL_length ws
  simp [pageAt, byteCells]
  omega
theorem pageAt_get (ws : List Nat) (j : Nat) (h : j < 128) (h2 : j ≤ 4 * ws.length) : (pageAt ws j)[j]? = some (.int .u8 0) := by
  have hl := pageL_length ws
  simp only [pageAt, byteCells, List.getElem?_toArray, List.getElem?_map]
  rw [List.getElem?_append_right (by rw [List.length_take]; omega), List.length_take, show j - min j (pageL ws).length = 0 from by omega, List.getElem?_replicate, if_pos (by omega)]
  rfl
theorem pageAt_set (ws : List Nat) (i k : Nat) (hi : i < ws.length) (hk : k < 4) (h : 4 * i + k < 128) :
    (pageAt ws (4 * i + k)).setIfInBounds (4 * i + k) (.int .u8 (((ws.getD i 0 : Nat) : Int) / 2 ^ (8 * k) % 256)) = pageAt ws (4 * i + k + 1) := by
  have hl := pageL_length ws
  have e : Value.int .u8 (((ws.getD i 0 : Nat) : Int) / 2 ^ (8 * k) % 256) = Value.int .u8 ((UInt8.ofNat (ws.getD i 0 / 2 ^ (8 * k) % 256)).toNat) := by
    rw [UInt8.toNat_ofNat']
    have : ws.getD i 0 / 2 ^ (8 * k) % 256 % 2 ^ 8 = ws.getD i 0 / 2 ^ (8 * k) % 256 := Nat.mod_eq_of_lt (Nat.mod_lt _ (by decide))
    rw [this]
    simp
  rw [e]
  have hg := pageL_get ws i k hi hk
  have hlt : 4 * i + k < (pageL ws).length := by omega
  rw [List.getElem?_eq_getElem hlt] at hg
  have hg2 := Option.some.inj hg
  simp only [pageAt, byteCells, List.setIfInBounds_toArray, ← List.map_set]
  congr 2
  rw [List.set_append_right _ _ (by rw [List.length_take]; omega), List.length_take, show 4 * i + k - min (4 * i + k) (pageL ws).length = 0 from by omega]
  rw [show 128 - (4 * i + k) = (128 - (4 * i + k + 1)) + 1 from by omega, List.replicate_succ, List.set_cons_zero, List.take_succ_eq_append_getElem hlt, hg2, List.append_assoc]
  rfl
def pageB (ws : List Nat) : ByteArray := ⟨(pageL ws ++ List.replicate (128 - 4 * ws.length) 0).toArray⟩
theorem pageB_size (ws : List Nat) (h : ws.length ≤ 32) : (pageB ws).size = 128 := by
  have := pageL_length ws
  rw [← bl_length, pageB, bl_mk]
  simp
  omega
theorem run_string_of_cells (w : World) (l : List UInt8) (n : Nat) (t : TypeId) (hn : l.length = n) :
    (convert 90 9 (.slice (some ⟨w.heap.size, 0, none⟩) n n)).run Try.prog (w.alloc (.cells (byteCells l) t)) = .ok (.string ⟨l.toArray⟩) (w.alloc (.cells (byteCells l) t)) := by
  subst hn
  refine run_convert_bytes_back _ 90 9 5 ⟨w.heap.size, 0, none⟩ _ l Try.underlying90 Try.underlying5 Try.underlying9 (fun j hj => ?_)
  rw [Addr.add_lit, World.cell?_alloc_new]
  simp [byteCells, hj]
theorem run_page_string (w : World) (ws : List Nat) (h : ws.length ≤ 32) : (convert 90 9 (.slice (some ⟨w.heap.size, 0, none⟩) 128 128)).run Try.prog (w.alloc (.cells (pageAt ws (4 * ws.length)) 116)) = .ok (.string (pageB ws)) (w.alloc (.cells (pageAt ws (4 * ws.length)) 116)) := by
  have hl := pageL_length ws
  have e : pageAt ws (4 * ws.length) = byteCells (pageL ws ++ List.replicate (128 - 4 * ws.length) 0) := by
    unfold pageAt
    rw [List.take_of_length_le (by omega)]
  rw [e]
  exact run_string_of_cells w _ 128 116 (by simp; omega)

def wordsCells (ws : List Nat) : Array Value := (ws.map fun (n : Nat) => Value.int .u32 n).toArray
theorem wordsCells_get (ws : List Nat) (i : Nat) (h : i < ws.length) : (wordsCells ws)[i]? = some (.int .u32 (ws.getD i 0 : Nat)) := by
  simp [wordsCells, List.getD, h]

set_option maxRecDepth 20000 in
set_option maxHeartbeats 1000000 in
theorem page39 (ws : List Nat) (b : Nat) (t : TypeId) (w : World) (h : ws.length ≤ 32) (hw : ∀ i, i < ws.length → ws.getD i 0 ≤ 4294967295) (hb : w.heap[b]? = some (.cells (wordsCells ws) t)) :
    Calls Try.prog 39 #[.slice (some ⟨b, 0, none⟩) ws.length ws.length] w fun e w' => e = .returned (.string (pageB ws)) ∧ Below w.heap.size w w' := by
  have hlt := heap_lt hb
  have HB := Lib.hid hb
  have HW := Lib.hid hw
  have hconv := run_page_string w ws h
  have hz := pageAt_zero ws
  clear hb hw
  go_enter Try.func39, Try.ntmps39
  go_wp2_with fail
  go_loopw [4] (fun i W => ∃ k : Nat, k ≤ ws.length ∧ i = .int .i64 k ∧ W = w.alloc (.cells (pageAt ws (4 * k)) 116)) (fun i _ => ws.length - (intOf i).toNat)
  case atStart => exact ⟨0, by omega, rfl, by rw [Nat.mul_zero, hz]; rfl⟩
  case round =>
    obtain ⟨i, hi, rfl, rfl⟩ := hrel
    by_cases hlt2 : i < ws.length
    · have i1 : (i : Int) < ws.length := by omega
      have i2 : (i : Int) < 32 := by omega
      go_wp2_with fail
      go_loopw [5] (fun q W => ∃ k : Nat, k ≤ 4 ∧ q = .int .i64 k ∧ W = w.alloc (.cells (pageAt ws (4 * i + k)) 116)) (fun q _ => 4 - (intOf q).toNat)
      case atStart => exact ⟨0, by omega, rfl, rfl⟩
      case round =>
        obtain ⟨k, hk, rfl, rfl⟩ := hrel
        by_cases hk2 : k < 4
        · have hcell := (cell_of_heap HB.out (wordsCells_get ws i hlt2))
          have hget := pageAt_get ws (4 * i + k) (by omega) (by omega)
          have hset := Lib.hid (pageAt_set ws i k hlt2 hk2 (by omega))
          have hsz := pageAt_size ws (4 * i + k) (by omega) (by omega)
          have hwi := HW.out i hlt2
          generalize ws.getD i 0 = x at hcell hset hwi
          have j1 : 4 * (i : Int) + (k : Int) < 128 := by omega
          have j0 : 0 ≤ 4 * (i : Int) + (k : Int) := by omega
          have k1 : 8 * (k : Int) ≤ 24 := by omega
          go_wp2_with fail
          go_roundw
          case rel => exact ⟨k + 1, by omega, by go_num, by rw [hset.out]; rfl⟩
          case measure => simp [intOf]; omega
        · obtain rfl : k = 4 := by omega
          go_wp2_with fail
          go_roundw
          case rel => exact ⟨i + 1, by omega, by go_num, by rw [show 4 * (i + 1) = 4 * i + 4 from by omega]⟩
          case measure => simp [intOf]; omega
    · obtain rfl : i = ws.length := by omega
      go_wp2_with fail
      go_ret
      exact ⟨rfl, (Below.refl _ _).alloc (Nat.le_refl _) _⟩
end Go.Proofs.Ytlhcggaeecjbcaa
