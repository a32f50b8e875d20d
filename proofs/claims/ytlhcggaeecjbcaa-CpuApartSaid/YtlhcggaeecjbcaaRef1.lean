/- The worlds of ref14's memory and Step. No condition. -/
import Derived.Test.YtlhcggaeecjbcaaStep8
namespace Go.Proofs.Ytlhcggaeecjbcaa
open Go.RowKit

/-- Behind a call of ref14's memory: its own cpu, space and instruction as they came, the result's variable open. -/
structure Mt (w0 : World) (r : Nat → Int) (pc : Int) (s : Nat → Pte) (x : Array Value) (w : World) : Prop where
  below : Below w0.heap.size w0 w
  c : w.heap[w0.heap.size]? = some (.cells (cpuCells r pc) 58)
  s : w.heap[w0.heap.size + 1]? = some (.cells (spCells s) 26)
  x : w.heap[w0.heap.size + 1 + 1]? = some (.cells x 68)
  o : w.heap[w0.heap.size + 1 + 1 + 1]? = some (.cells (cpuCells (fun _ => 0) 0) 58)
theorem Mt.step {w0 w w' : World} {r : Nat → Int} {pc : Int} {s : Nat → Pte} {x : Array Value} (h : Mt w0 r pc s x w) (hb : Below w.heap.size w w') : Mt w0 r pc s x w' :=
  ⟨below_step h.below hb, (hb.block _ (heap_lt h.c)).trans h.c, (hb.block _ (heap_lt h.s)).trans h.s, (hb.block _ (heap_lt h.x)).trans h.x, (hb.block _ (heap_lt h.o)).trans h.o⟩
theorem Mt.start {w0 w : World} {r : Nat → Int} {pc : Int} {s : Nat → Pte} {x co : Array Value} {k : Nat} (ho : co = cpuCells (fun _ => 0) 0)
    (hb : Below (((((w0.alloc (.cells (cpuCells r pc) 58)).alloc (.cells (spCells s) 26)).alloc (.cells x 68)).alloc (.cells co 58)).drewN k).heap.size (((((w0.alloc (.cells (cpuCells r pc) 58)).alloc (.cells (spCells s) 26)).alloc (.cells x 68)).alloc (.cells co 58)).drewN k) w) : Mt w0 r pc s x w := by
  subst ho
  have z1 := alloc_size w0 (.cells (cpuCells r pc) 58)
  have z2 := alloc_size (w0.alloc (.cells (cpuCells r pc) 58)) (.cells (spCells s) 26)
  have z3 := alloc_size ((w0.alloc (.cells (cpuCells r pc) 58)).alloc (.cells (spCells s) 26)) (.cells x 68)
  have z4 := alloc_size (((w0.alloc (.cells (cpuCells r pc) 58)).alloc (.cells (spCells s) 26)).alloc (.cells x 68)) (.cells (cpuCells (fun _ => 0) 0) 58)
  refine ⟨below_callN hb, ?_, ?_, ?_, ?_⟩
  all_goals rw [World.heap_drewN] at hb
  · rw [hb.block _ (by omega), World.heap_drewN, heap_alloc_at _ _ _ (by omega), heap_alloc_at _ _ _ (by omega), heap_alloc_at _ _ _ (by omega)]
    exact heap_alloc_new _ _
  · rw [hb.block _ (by omega), World.heap_drewN, heap_alloc_at _ _ _ (by omega), heap_alloc_at _ _ _ (by omega), ← z1]
    exact heap_alloc_new _ _
  · rw [hb.block _ (by omega), World.heap_drewN, heap_alloc_at _ _ _ (by omega), show w0.heap.size + 1 + 1 = ((w0.alloc (.cells (cpuCells r pc) 58)).alloc (.cells (spCells s) 26)).heap.size from by omega]
    exact heap_alloc_new _ _
  · rw [hb.block _ (by omega), World.heap_drewN, show w0.heap.size + 1 + 1 + 1 = (((w0.alloc (.cells (cpuCells r pc) 58)).alloc (.cells (spCells s) 26)).alloc (.cells x 68)).heap.size from by omega]
    exact heap_alloc_new _ _
theorem Mt.facts {w0 w : World} {r : Nat → Int} {pc : Int} {s : Nat → Pte} {x : Array Value} (h : Mt w0 r pc s x w) :
    aggAt w w0.heap.size = .agg (cpuCells r pc) ∧ rowAt w w0.heap.size 17 = true ∧ aggAt w (w0.heap.size + 1) = .agg (spCells s) ∧ rowAt w (w0.heap.size + 1) 48 = true ∧
    (∀ i, w.cell? ⟨w0.heap.size + 1 + 1, i, none⟩ = x[i]?) ∧ rowOpen w (w0.heap.size + 1 + 1 + 1) 17 = true := by
  have h1 := agg_facts h.c 17 (cpuCells_size r pc)
  have h2 := agg_facts h.s 48 (spCells_size s)
  refine ⟨h1.1, h1.2, h2.1, h2.2, fun i => ?_, rowOpen_of h.o _ (cpuCells_size _ _)⟩
  have := h.x
  simp [World.cell?, this]
/-- What ref14's memory leaves. -/
def MemPost (rr : Nat → Int) (pc : Int) (l : List ByteArray) (ok : Bool) (w : World) (e : Ending) (w' : World) : Prop :=
  Below w.heap.size w w' ∧ ∃ v, e = .returned (.tuple #[.agg (cpuCells rr pc), v, .bool ok]) ∧ Strs w' v l
theorem results_cell_tmp2 {fn : Func} {t u x : Tmp} {ty : TypeId} {a : Addr} {v : Value} (h : fn.results = #[.cell t ty, .tmp u, .tmp x]) (tmps : Array Value) (w : World) (ht : tmps[t]? = some (.pointer (some a))) (hl : (loadVar ty a).run Try.prog w = .ok v w) :
    (results fn tmps).run Try.prog w = .ok (.tuple #[v, tmps.getD u undef, tmps.getD x undef]) w := by
  simp [results, h, ht, hl, run_asAddr, Result.andThen]
theorem Mt.fin {a : Act} {w0 w : World} {r rr : Nat → Int} {pc : Int} {s : Nat → Pte} {x : Array Value} {v : Value} {l : List ByteArray} {ok : Bool} {cs : Array Value} (h : Mt w0 r pc s x w) (hs : Strs w v l) (hd : a.defers = [])
    (t8 : a.tmps[8]? = some (.pointer (some ⟨w0.heap.size + 1 + 1 + 1, 0, none⟩))) (t9 : a.tmps.getD 9 undef = v) (t10 : a.tmps.getD 10 undef = .bool ok) (hcs : cs = cpuCells rr pc) :
    bodyPost Try.prog Try.f61 (MemPost rr pc l ok w0) .ret a (w.setRow (w0.heap.size + 1 + 1 + 1) cs) := by
  subst hcs
  have q := (h.facts).2.2.2.2.2
  refine bodyPost_ret (results_cell_tmp2 rfl _ _ t8 (load58_row _ _ _ q (cpuCells_size _ _))) hd ?_
  rw [t9, t10]
  exact ⟨below_setRow h.below (by omega) _, v, rfl, hs.setRow h.o (by kernel_rfl)⟩
theorem number_mod (imm : Int) (w : World) : Calls Try.prog 58 #[.int .i32 imm] w fun e w' => e = .returned (.int .u32 (imm % 4294967296)) ∧ w' = w :=
  (number_any imm w).mono fun _ _ h => ⟨by rw [h.1, IntKind.wrap_u32], h.2.symm⟩
theorem alloc_setRow (w : World) (o : Obj) (b : Nat) (cs : Array Value) (h : b < w.heap.size) : (w.alloc o).setRow b cs = (w.setRow b cs).alloc o := by
  unfold World.setRow World.alloc
  congr 1
  apply Array.ext_getElem?
  intro k
  simp only [Array.getElem?_modify, Array.getElem?_push, Array.size_modify]
  by_cases hk : k = w.heap.size
  · subst hk
    have hne : ¬ b = w.heap.size := by omega
    simp [hne]
  · simp [hk]
end Go.Proofs.Ytlhcggaeecjbcaa
