/- The law MmuWords: its argument opened; a space that lies in a struct, loaded whole. No condition. -/
import Derived.Test.YtlhcggaeecjbcaaMmu16
import Derived.Test.YtlhcggaeecjbcaaLaws
namespace Go.Proofs.Ytlhcggaeecjbcaa
open Go.ChangeShapes Go.WideShapes Go.ChangeAt Go.RowKit
set_option maxRecDepth 20000

def subAt (w : World) (b n : Nat) : Value := match w.heap[b]? with | some (.cells cs _ _) => .agg (cs.extract 0 n) | _ => undef
def wideAt (w : World) (b n : Nat) : Bool := match w.heap[b]? with | some (.cells cs _ _) => decide (n ≤ cs.size) | _ => false
theorem sub_facts {w : World} {b n : Nat} {cs : Array Value} {t : TypeId} {fr : Nat × Nat} (h : w.heap[b]? = some (.cells cs t fr)) (hn : n ≤ cs.size) : subAt w b n = .agg (cs.extract 0 n) ∧ wideAt w b n = true := by
  simp [subAt, wideAt, h, hn]
theorem subAt_past (w : World) (o : Obj) (b n : Nat) (hn : b < w.heap.size) : subAt (w.alloc o) b n = subAt w b n := by simp only [subAt, Below.heap_alloc w o b hn]
theorem wideAt_past (w : World) (o : Obj) (b n : Nat) (hn : b < w.heap.size) : wideAt (w.alloc o) b n = wideAt w b n := by simp only [wideAt, Below.heap_alloc w o b hn]
theorem subAt_drew (w : World) (b n : Nat) : subAt w.drew b n = subAt w b n := rfl
theorem wideAt_drew (w : World) (b n : Nat) : wideAt w.drew b n = wideAt w b n := rfl
theorem run_loadVar_sub {w : World} {b n : Nat} {ty : TypeId} {d : TypeDesc} (h : wideAt w b n = true) (hu : Try.prog.underlying ty = some d) (hd : isRowD d = true) (hi : (Try.prog.info? ty).map (·.size) = some n) :
    (loadVar ty ⟨b, 0, none⟩).run Try.prog w = .ok (subAt w b n) w := by
  obtain ⟨cs, t, fr, hb, hs⟩ : ∃ cs t fr, w.heap[b]? = some (.cells cs t fr) ∧ n ≤ cs.size := by
    unfold wideAt at h
    split at h
    · rename_i cs t fr hb
      exact ⟨cs, t, fr, hb, of_decide_eq_true h⟩
    · cases h
  rw [(sub_facts hb hs).1]
  have hl : (loadCells ⟨b, 0, none⟩ (cs.toList.take n).length).run Try.prog w = .ok (cs.toList.take n).toArray w :=
    run_loadCells_list (P := Try.prog) w ⟨b, 0, none⟩ (cs.toList.take n) (fun j v hv => by
      have hadd : (⟨b, 0, none⟩ : Addr).add j = ⟨b, j, none⟩ := by rw [add_plain, Nat.zero_add]
      rw [hadd, cell_of_row w b j cs t fr hb]
      have hj : j < n := by
        have := (List.getElem?_eq_some_iff.1 hv).1
        simp at this
        omega
      rw [List.getElem?_take_of_lt hj] at hv
      simpa using hv)
  cases hq : Try.prog.info? ty with
  | none => simp [hq] at hi
  | some i =>
    have hs' : i.size = n := by simpa [hq] using hi
    have hagg : (isAgg ty).run Try.prog w = .ok true w := by
      unfold isAgg
      rw [Sem.run_bind, run_underlying hu w]
      cases d <;> first | rfl | cases hd
    have hlen : (cs.toList.take n).length = n := by simp; omega
    rw [hlen] at hl
    have he : (cs.toList.take n).toArray = cs.extract 0 n := by apply Array.toList_inj.1; rw [Array.toList_extract, List.extract_eq_take_drop, List.drop_zero, Nat.sub_zero]
    rw [he] at hl
    simp [loadVar, Sem.run_bind, hagg, sizeOf, typeInfo, hq, hs', hl]
theorem run_load26_sub (w : World) (b : Nat) (h : wideAt w b 48 = true) : (load26 ⟨b, 0, none⟩).run Try.prog w = .ok (subAt w b 48) w := run_loadVar_sub h Try.underlying26 rfl spInfo

/-- hibernaclelaw13.Word: a space, an address, a number. -/
def wordCells (s : Nat → Pte) (a : Int) (n : Nat) : Array Value := spCells s ++ #[.int .u32 a, .int .u32 n]
theorem word_sub (s : Nat → Pte) (a : Int) (n : Nat) : (wordCells s a n).extract 0 48 = spCells s := by
  have h : (spCells s).toList.length = 48 := by rw [Array.length_toList, spCells_size]
  apply Array.toList_inj.1
  rw [wordCells, Array.toList_extract, Array.toList_append, List.extract_eq_take_drop, List.drop_zero, List.take_left' h]
theorem open_word {W : World} {base : Nat} {v : Value} (h : Value.okWide Try.prog W .any base 54 v) : ∃ (s : Nat → Pte) (a : Int) (n : Nat), v = .agg (wordCells s a n) ∧ 0 ≤ a ∧ a ≤ 4294967295 ∧ n ≤ 4294967295 := by
  obtain ⟨vs, rfl, hc⟩ := open_agg (spTypes 16 [27, 27]) Try.underlying54 rfl (by kernel_rfl) (by kernel_rfl) h
  obtain ⟨ps, rs, hl, rfl, hr⟩ := open_pages 16 [27, 27] vs hc
  match rs, hr with
  | [x, y], hr =>
    obtain ⟨a, rfl, h1, h2⟩ := open_int27 hr.1
    obtain ⟨n, rfl, h3, h4⟩ := open_int27 hr.2.1
    obtain ⟨n, rfl⟩ := Int.eq_ofNat_of_zero_le h3
    refine ⟨fun i => ps.getD i ⟨false, false, 0⟩, a, n, ?_, h1, h2, by omega⟩
    rw [wordCells, spCells, pages_fn, hl]
    simp
end Go.Proofs.Ytlhcggaeecjbcaa
