/- Contracts of the plan, of numbers as bytes by the reference, and of block 0. No condition. -/
import Derived.Test.YtopbejdhfndfbaaGeo1
namespace Go.Proofs.Ytopbejdhfndfbaa
open Go.RowKit
set_option maxRecDepth 20000

theorem alloc_setRow (w : World) (o : Obj) (b : Nat) (cs : Array Value) (h : b < w.heap.size) : (w.alloc o).setRow b cs = (w.setRow b cs).alloc o := by
  unfold World.setRow World.alloc
  congr 1
  apply Array.ext_getElem?
  intro k
  simp only [Array.getElem?_modify, Array.getElem?_push, Array.size_modify]
  by_cases hk : k = w.heap.size
  · subst hk
    have : ¬ b = w.heap.size := by omega
    simp [this]
  · simp [hk]
theorem info24 : (Try.prog.info? 24).map (·.size) = some 6 := by kernel_rfl
def load24 (a : Addr) : Sem Value := loadVar 24 a
theorem loadVar_24 (a : Addr) : loadVar 24 a = load24 a := rfl
theorem run_load24 (w : World) (b : Nat) (h : rowAt w b 6 = true) : (load24 ⟨b, 0, none⟩).run Try.prog w = .ok (aggAt w b) w := run_loadVar_agg h Try.underlying24 rfl info24
def store24 (a : Addr) (v : Value) : Sem Unit := storeVar 24 a v
theorem storeVar_24 (a : Addr) (v : Value) : storeVar 24 a v = store24 a v := rfl
theorem run_store24 (w : World) (b : Nat) (x0 x1 x2 x3 x4 x5 : Int) (h : rowOpen w b 6 = true) :
    (store24 ⟨b, 0, none⟩ (.agg #[.int .i64 x0, .int .i64 x1, .int .i64 x2, .int .i64 x3, .int .i64 x4, .int .i64 x5])).run Try.prog w = .ok () (w.setRow b #[.int .i64 x0, .int .i64 x1, .int .i64 x2, .int .i64 x3, .int .i64 x4, .int .i64 x5]) := by
  obtain ⟨cs, t, hb, hz⟩ := rowOpen_is h
  exact run_storeVar_row w b t 24 cs _ hb info24 hz (by rw [← Array.all_toList]; rfl)
/-- A plan's cells. -/
def geoC (b i d : Int) : Array Value := #[.int .i64 b, .int .i64 i, .int .i64 1, .int .i64 2, .int .i64 3, .int .i64 d]
def geo0 : Array Value := #[.int .i64 0, .int .i64 0, .int .i64 0, .int .i64 0, .int .i64 0, .int .i64 0]
def planC (b i : Int) : Array Value := if planErr b i = 0 then geoC b i (dataOf i) else geo0
attribute [local go_sem ↓] loadVar_24 storeVar_24
attribute [local go_sem] run_load24 run_store24 aggAt_new aggAt_past aggAt_drew rowAt_new rowAt_past rowAt_drew rowOpen_new rowOpen_past rowOpen_drew setRow_made' alloc_setRow

def PlanPost (b i : Int) (w : World) (e : Ending) (w' : World) : Prop := e = .returned (.tuple #[.agg (planC b i), .int .i64 (planErr b i)]) ∧ Below w.heap.size w w'
theorem plan_post2 {b i : Int} {w w' : World} (h : b < 16 ∨ 223 < b ∨ i < 4 ∨ 64 < i) (hb : Below w.heap.size w w') : PlanPost b i w (.returned (.tuple #[.agg geo0, .int .i64 2])) w' := by
  have e : planErr b i = 2 := by unfold planErr; rw [if_pos h]
  exact ⟨by unfold planC; rw [e]; rfl, hb⟩
theorem plan_post10 {b i : Int} {w w' : World} (h1 : ¬ (b < 16 ∨ 223 < b ∨ i < 4 ∨ 64 < i)) (h : b ≤ 3 + (i + 1) / 2) (hb : Below w.heap.size w w') : PlanPost b i w (.returned (.tuple #[.agg geo0, .int .i64 10])) w' := by
  have e : planErr b i = 10 := by unfold planErr; rw [if_neg h1, if_pos (by unfold dataOf; exact h)]
  exact ⟨by unfold planC; rw [e]; rfl, hb⟩
theorem plan_post0 {b i : Int} {w w' : World} (h1 : ¬ (b < 16 ∨ 223 < b ∨ i < 4 ∨ 64 < i)) (h : ¬ b ≤ 3 + (i + 1) / 2) (hb : Below w.heap.size w w') : PlanPost b i w (.returned (.tuple #[.agg (geoC b i (3 + (i + 1) / 2)), .int .i64 0])) w' := by
  have e : planErr b i = 0 := by unfold planErr; rw [if_neg h1, if_neg (by unfold dataOf; exact h)]
  exact ⟨by unfold planC; rw [e]; rfl, hb⟩
theorem load24_heap {w : World} {b : Nat} {cs : Array Value} {t : TypeId} {fr : Nat × Nat} (h : w.heap[b]? = some (.cells cs t fr)) (hs : cs.size = 6) : (loadVar 24 ⟨b, 0, none⟩).run Try.prog w = .ok (.agg cs) w := by
  obtain ⟨h1, h2⟩ := agg_facts h 6 hs
  have := run_load24 w b h2
  rw [h1] at this
  exact this
theorem heap_two0 (w : World) (a b : Obj) : ((w.alloc a).alloc b).heap[w.heap.size]? = some a := (heap_alloc_at _ _ _ (by rw [alloc_size]; omega)).trans (heap_alloc_new _ _)
theorem below_one (w : World) (a : Obj) : Below w.heap.size w (w.alloc a) := (Below.refl _ _).alloc (Nat.le_refl _) a

set_option maxHeartbeats 1000000 in
theorem plan_any (b i : Int) (w : World) (_hi : i ≤ 9223372036854775807) : Calls Try.prog 15 #[.int .i64 b, .int .i64 i] w (PlanPost b i w) := by
  go_enter Try.func15, Try.ntmps15
  go_wp2_with fail
  all_goals first
    | refine bodyPost_ret (results_cell_tmp rfl _ _ rfl (load24_heap (heap_alloc_new _ _) rfl)) rfl ?_
    | refine bodyPost_ret (results_cell_tmp rfl _ _ rfl (load24_heap (heap_two0 _ _ _) rfl)) rfl ?_
  all_goals first
    | exact plan_post2 (by omega) (below_one _ _)
    | exact plan_post10 (by omega) (by omega) (below_two _ _ _)
    | exact plan_post0 (by omega) (by omega) (below_two _ _ _)

set_option maxHeartbeats 1000000 in
theorem rplan_any (b i : Int) (w : World) (_hi : i ≤ 9223372036854775807) : Calls Try.prog 16 #[.int .i64 b, .int .i64 i] w (PlanPost b i w) := by
  go_enter Try.func16, Try.ntmps16
  go_wp2_with fail
  all_goals first
    | refine bodyPost_ret (results_cell_tmp rfl _ _ rfl (load24_heap (heap_alloc_new _ _) rfl)) rfl ?_
    | refine bodyPost_ret (results_cell_tmp rfl _ _ rfl (load24_heap (heap_two0 _ _ _) rfl)) rfl ?_
  all_goals first
    | exact plan_post2 (by omega) (below_one _ _)
    | exact plan_post10 (by omega) (by omega) (below_two _ _ _)
    | exact plan_post0 (by omega) (by omega) (below_two _ _ _)

/-! ### numbers of two bytes, and block 0 -/
set_option maxHeartbeats 1000000 in
theorem rget_any (s : ByteArray) (w : World) (hs : s.size = 2) :
    Calls Try.prog 53 #[.string s] w fun e w' => e = .returned (.int .u64 (leVal (bl s))) ∧ w = w' := by
  obtain ⟨x, y, hx⟩ : ∃ x y : UInt8, bl s = [x, y] := by
    have hl : (bl s).length = 2 := by rw [bl_length, hs]
    match h : bl s, hl with
    | [x, y], _ => exact ⟨x, y, rfl⟩
  have s0 : s[0] = x := by have := byteOf_get s 0 (by omega); rw [this]; unfold byteOf; rw [hx]; rfl
  have s1 : s[1] = y := by have := byteOf_get s 1 (by omega); rw [this]; unfold byteOf; rw [hx]; rfl
  have HE : Hid (leVal (bl s) = x.toNat + 256 * y.toNat) := by rw [hx]; show x.toNat + 256 * (y.toNat + 256 * 0) = _; omega
  have lx := x.toNat_lt
  have ly := y.toNat_lt
  clear hx
  go_enter Try.func53, Try.ntmps53
  go_wp2_with fail
  go_loop [3, 4] (fun n i => (i = .int .i64 1 ∧ n = .int .u64 0) ∨ (i = .int .i64 0 ∧ n = .int .u64 (y.toNat : Int)) ∨ (i = .int .i64 (-1) ∧ n = .int .u64 ((y.toNat : Int) * 256 + x.toNat))) (fun _ i => (intOf i + 1).toNat)
  case atStart => exact .inl ⟨rfl, rfl⟩
  case round =>
    rcases hrel with ⟨rfl, rfl⟩ | ⟨rfl, rfl⟩ | ⟨rfl, rfl⟩
    · go_wp2_with fail
      go_round
      case rel => exact .inr (.inl ⟨rfl, by go_num⟩)
      case measure => simp [intOf]
    · go_wp2_with fail
      go_round
      case rel => exact .inr (.inr ⟨rfl, by go_num⟩)
      case measure => simp [intOf]
    · go_wp2_with fail
      go_ret
      exact ⟨ret_int (by rw [HE.out]; omega), rfl⟩
end Go.Proofs.Ytopbejdhfndfbaa
