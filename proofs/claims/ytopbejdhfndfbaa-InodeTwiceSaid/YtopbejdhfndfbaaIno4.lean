/- The contract of inode.of. Condition: a text of 64 bytes. -/
import Derived.Test.YtopbejdhfndfbaaIno3
namespace Go.Proofs.Ytopbejdhfndfbaa
open Go.RowKit Go.Shelf
set_option maxRecDepth 20000
attribute [local go_sem] Oper.semAt_some
/-- A drawn region whose first n operations read or call quietly, the rest in one order, in a round of a loop over a function. -/
theorem tail_any {P : Program} {Q : Exit → Act → World → Prop} {a : Act} {w : World} {l : List Oper} (n : Nat) (hB : Region.lexTailB .any l.toArray n = true)
    (h : wpStill P l.toArray w.drew (fun a' => wpList P l.toArray Q (l.drop n) a' w.drew) (l.take n) a) : wpAny P .any l.toArray Q l.toArray.size (Array.replicate l.toArray.size false) a w.drew := by
  simp only [Region.lexTailB, Bool.and_eq_true, decide_eq_true_eq] at hB
  have hn : n < l.length := by simpa using hB.1.1.1.2
  have e1 : (l.take n).length = n := by rw [List.length_take]; omega
  have e2 : (l.drop n).length = l.toArray.size - n := by rw [List.length_drop]; simp
  have seqd : ∀ listed a', Region.seqB .any l.toArray (l.toArray.size - n) n listed = true ∧ wpList P l.toArray Q (l.drop n) a' w.drew → wpAny P .any l.toArray Q (l.toArray.size - n) listed a' w.drew := fun listed a' hL => by
    have := wpAny_of_seq (P := P) (md := .any) (ops := l.toArray) (Q' := Q) (l.drop n) n listed a' w.drew (fun j => by rw [List.getElem?_drop]; simp) (by rw [e2]; exact hL.1) hL.2
    rwa [e2] at this
  have lex := wpAnyL_lex (P := P) (md := .any) (ops := l.toArray) (w := w.drew) (g := l.toArray.size - n) hB.1.1.1.1 hB.1.1.2 hB.1.2 (by simpa using hn) (l.take n) 0 (Array.replicate l.toArray.size false) a
    (fun j hj => by rw [e1] at hj; simp [hj]) (by rw [e1, Nat.zero_add])
    ⟨by simp, fun j oj _ hl => (by rw [getD_replicate_false] at hl; cases hl), fun t _ ht => getD_in (by simpa using ht) (getD_replicate_false _ _)⟩ (by rw [e1]; exact hB.2) h
  have := wpAny_of_head (Q' := Q) (g := l.toArray.size - n) seqd _ _ _ lex
  rw [e1] at this
  have e3 : n + (l.toArray.size - n) = l.toArray.size := by simp; omega
  rwa [e3] at this
theorem tail_round {id : Nat} {Q : Exit → Act → World → Prop} {a : Act} {w : World} {l : List Oper} {r k : Nat} (n : Nat) (hm : Try.prog.follows .mixedOrders = true) (hd : noDefer l.toArray = true) (hQ : ¬ LetsOut Q) (hB : Region.lexTailB .any l.toArray n = true)
    (h : wpStill Try.prog l.toArray w.drew (fun a' => wpList Try.prog l.toArray Q (l.drop n) a' w.drew) (l.take n) a) : (Code.region id l.toArray true).wpIn (Fence.wide.inRound r) k Try.prog Q a w :=
  wpIn_region_any hm (wpAny_in r k hd hQ _ _ _ _ (tail_any n hB h))
theorem any_take {P : Program} {ops : Array Oper} {Q : Exit → Act → World → Prop} {md : Region.Mode} (i d : Nat) {oi : Oper} {v : Value} {fuel : Nat} {listed : Array Bool} {tmps : Array Value} {df : List Deferred} {w : World} (hi : ops[i]? = some oi) (hd : oi.dst = some d)
    (hs : Region.noSelect ops = true) (hf : Region.free md ops listed i = true) (hr : (Region.ready md ops listed).contains i = true)
    (hQ : ∀ c a w, Q (.panic c) (a.put oi.dst v) w → Q (.panic c) a w) (hw : Region.wanted oi (yielded ops tmps) = true) (hy : ∀ w, (execOp (Act.mk tmps df).eval oi).run P w = .ok (.value v) w)
    (h : wpAny P md ops Q fuel (listed.setIfInBounds i true) (Act.mk (tmps.setIfInBounds d v) df) w) : wpAny P md ops Q (fuel + 1) listed (Act.mk tmps df) w :=
  wpAny_take hi hs hf hr hQ (.inl ⟨hw, hy⟩) (by rw [hd]; exact h)
def updI (c : Nat → Int) (k : Nat) (v : Int) : Nat → Int := fun i => if i = k then v else c i
theorem inoC_set (c : Nat → Int) {k : Nat} (hk : k < 12) (v : Int) : (inoC c).setIfInBounds k (.int .i64 v) = inoC (updI c k v) := by
  have : ∀ k : Fin 12, (inoC c).setIfInBounds k.val (.int .i64 v) = inoC (updI c k.val v) := by intro k; match k with | 0 | 1 | 2 | 3 | 4 | 5 | 6 | 7 | 8 | 9 | 10 | 11 => rfl
  exact this ⟨k, hk⟩
def ino0 : Nat → Int := fun _ => 0
/-- One field read. -/
def stp (s : ByteArray) (p : Nat × (Nat → Int)) (x : Fin 12) : Nat × (Nat → Int) := (p.1 + widF x.val, updI p.2 (offF x.val) (leVal (((bl s).drop p.1).take (widF x.val))))
def dec (s : ByteArray) (pre : List (Fin 12)) : Nat × (Nat → Int) := pre.foldl (stp s) (0, ino0)
theorem dec_snoc (s : ByteArray) (pre : List (Fin 12)) (x : Fin 12) : dec s (pre ++ [x]) = stp s (dec s pre) x := by simp [dec]
theorem dec_le (s : ByteArray) (pre : List (Fin 12)) : (dec s pre).1 ≤ 4 * pre.length := by
  have gen : ∀ (l : List (Fin 12)) (p : Nat × (Nat → Int)), (l.foldl (stp s) p).1 ≤ p.1 + 4 * l.length := by
    intro l
    induction l with
    | nil => intro p; exact Nat.le_refl _
    | cons x l ih =>
      intro p
      have := ih (stp s p x)
      have h2 := widF_le x.val
      simp only [List.foldl_cons, List.length_cons]
      have e : (stp s p x).1 = p.1 + widF x.val := rfl
      omega
  have := gen pre (0, ino0)
  simpa [dec] using this
def allF : List (Fin 12) := [0, 1, 2, 3, 4, 5, 6, 7, 8, 9, 10, 11]
theorem allF_is {xs : List (Fin 12)} (h : xs.map Fin.val = List.range 12) : xs = allF := map_val_inj (h.trans rfl)
/-- The inode of a text. -/
def inoD (s : ByteArray) : Nat → Int := (dec s allF).2
theorem info48 : (Try.prog.info? 48).map (·.size) = some 12 := by kernel_rfl
def load48 (a : Addr) : Sem Value := loadVar 48 a
theorem loadVar_48 (a : Addr) : loadVar 48 a = load48 a := rfl
theorem run_load48 (w : World) (b : Nat) (h : rowAt w b 12 = true) : (load48 ⟨b, 0, none⟩).run Try.prog w = .ok (aggAt w b) w := run_loadVar_agg h Try.underlying48 rfl info48
def store48 (a : Addr) (v : Value) : Sem Unit := storeVar 48 a v
theorem storeVar_48 (a : Addr) (v : Value) : storeVar 48 a v = store48 a v := rfl
theorem inoC_size (c : Nat → Int) : (inoC c).size = 12 := rfl
theorem inoC_one (c : Nat → Int) : (inoC c).all (·.oneCell') = true := by rw [← Array.all_toList]; rfl
theorem run_store48 (w : World) (b : Nat) (c : Nat → Int) (h : rowOpen w b 12 = true) : (store48 ⟨b, 0, none⟩ (.agg (inoC c))).run Try.prog w = .ok () (w.setRow b (inoC c)) := by
  obtain ⟨cs, t, hb, hz⟩ := rowOpen_is h
  exact run_storeVar_row w b t 48 cs _ hb info48 (by rw [hz]; rfl) (inoC_one c)
theorem load48_heap {w : World} {b : Nat} {cs : Array Value} {t : TypeId} {fr : Nat × Nat} (h : w.heap[b]? = some (.cells cs t fr)) (hs : cs.size = 12) : (loadVar 48 ⟨b, 0, none⟩).run Try.prog w = .ok (.agg cs) w := by
  obtain ⟨h1, h2⟩ := agg_facts h 12 hs
  have := run_load48 w b h2
  rw [h1] at this
  exact this
attribute [local go_sem ↓] loadVar_48 storeVar_48
attribute [local go_sem] run_load48 run_store48
theorem of_end {w W : World} {s R R' : ByteArray} {pre : List (Fin 12)} {x : Fin 12} {nv wd : Nat} (h0 : W.heap[w.heap.size]? = some (.cells #[.string R] 9 (0, 0))) (h1 : W.heap[w.heap.size + 1]? = some (.cells (inoC ino0) 48 (0, 0))) (h2 : W.heap[w.heap.size + 2]? = some (.cells (inoC (dec s pre).2) 48 (0, 0)))
    (hB : Below w.heap.size w W) (hv : nv = leVal (((bl s).drop (dec s pre).1).take wd)) (hw : widF x.val = wd) (hr : bl R' = (bl s).drop ((dec s pre).1 + wd)) :
    KeepsOthers W ((W.drew.setCell ⟨w.heap.size + 2, offF x.val, none⟩ (.int .i64 (nv : Int))).setCell ⟨w.heap.size, 0, none⟩ (.string R')) ∧
    Kc (w.heap.size + 4) W ((W.drew.setCell ⟨w.heap.size + 2, offF x.val, none⟩ (.int .i64 (nv : Int))).setCell ⟨w.heap.size, 0, none⟩ (.string R')) ∧
    ((∃ R : ByteArray, ((W.drew.setCell ⟨w.heap.size + 2, offF x.val, none⟩ (.int .i64 (nv : Int))).setCell ⟨w.heap.size, 0, none⟩ (.string R')).heap[w.heap.size]? = some (.cells #[.string R] 9 (0, 0)) ∧ bl R = (bl s).drop (dec s (pre ++ [x])).1) ∧
      ((W.drew.setCell ⟨w.heap.size + 2, offF x.val, none⟩ (.int .i64 (nv : Int))).setCell ⟨w.heap.size, 0, none⟩ (.string R')).heap[w.heap.size + 1]? = some (.cells (inoC ino0) 48 (0, 0)) ∧
      ((W.drew.setCell ⟨w.heap.size + 2, offF x.val, none⟩ (.int .i64 (nv : Int))).setCell ⟨w.heap.size, 0, none⟩ (.string R')).heap[w.heap.size + 2]? = some (.cells (inoC (dec s (pre ++ [x])).2) 48 (0, 0))) ∧
    Below w.heap.size w ((W.drew.setCell ⟨w.heap.size + 2, offF x.val, none⟩ (.int .i64 (nv : Int))).setCell ⟨w.heap.size, 0, none⟩ (.string R')) := by
  refine ⟨((KeepsOthers.drew _).trans (KeepsOthers.setCell _ _ _)).trans (KeepsOthers.setCell _ _ _), ((Kc.drew _ _).trans (Kc.setCell (by omega) _)).trans (Kc.setCell (by omega) _), ⟨⟨R', ?_, ?_⟩, ?_, ?_⟩, below_setCell (below_setCell hB.drew (by omega) _ _) (Nat.le_refl _) _ _⟩
  · exact cell_same ((Below.heap_setCell W.drew ⟨w.heap.size + 2, offF x.val, none⟩ _ w.heap.size (fun e => by simp at e)).trans h0) _
  · rw [dec_snoc, hr, ← hw]; rfl
  · exact (Below.heap_setCell _ ⟨w.heap.size, 0, none⟩ _ _ (fun e => by simp at e)).trans ((Below.heap_setCell W.drew ⟨w.heap.size + 2, offF x.val, none⟩ _ _ (fun e => by simp at e)).trans h1)
  · refine (Below.heap_setCell _ ⟨w.heap.size, 0, none⟩ _ _ (fun e => by simp at e)).trans ?_
    rw [heap_setCell_row W.drew _ _ _ 48 _ h2, inoC_set _ (offF_lt x.isLt), dec_snoc, hv, ← hw]
    rfl
set_option maxHeartbeats 2000000 in
theorem ino_of_any (s : ByteArray) (w : World) (hs64 : s.size = 64) : Calls Try.prog 64 #[.string s] w fun e w' => e = .returned (.agg (inoC (inoD s))) ∧ Below w.heap.size w w' := by
  refine (callsIn_wide (n := 9)).1 ?_
  refine callsIn_of_wp_marks Try.func64 rfl trivial ?_ rfl
  simp only [Try.ntmps64, List.size_toArray, List.length_cons, List.length_nil, Nat.reduceAdd, Nat.reduceSub, Array.replicate_succ, Array.replicate_zero, List.push_toArray, List.append_toArray, List.nil_append, List.cons_append]
  gi_wp2_with (refine ⟨trivial, ?_⟩; gi_at_call 69; refine (callsIn_wide.2 (fields_any _ _)).mono ?_; rintro e w1 ⟨rfl, rfl⟩)
  rw [show (#[.int .i64 0, .int .i64 0, .int .i64 0, .int .i64 0, .int .i64 0, .int .i64 0, .int .i64 0, .int .i64 0, .int .i64 0, .int .i64 0, .int .i64 0, .int .i64 0] : Array Value) = inoC ino0 from rfl]
  have y0 : (w.alloc (.cells #[.string s] 9)).heap.size = w.heap.size + 1 := alloc_size _ _
  have y1 : ((w.alloc (.cells #[.string s] 9)).alloc (.cells (inoC ino0) 48)).heap.size = w.heap.size + 2 := by rw [alloc_size, y0]
  have y2 : (((w.alloc (.cells #[.string s] 9)).alloc (.cells (inoC ino0) 48)).alloc (.cells (inoC ino0) 48)).heap.size = w.heap.size + 3 := by rw [alloc_size, y1]
  have hsize : ((((w.alloc (.cells #[.string s] 9)).alloc (.cells (inoC ino0) 48)).alloc (.cells (inoC ino0) 48)).alloc (.cells #[.pointer (some ⟨w.heap.size + 2, 0, none⟩)] 81)).heap.size = w.heap.size + 4 := by rw [alloc_size, y2]
  have hcell : ((((w.alloc (.cells #[.string s] 9)).alloc (.cells (inoC ino0) 48)).alloc (.cells (inoC ino0) 48)).alloc (.cells #[.pointer (some ⟨w.heap.size + 2, 0, none⟩)] 81)).cell? ⟨w.heap.size + 3, 0, none⟩ = some (.pointer (some ⟨w.heap.size + 2, 0, none⟩)) := by
    rw [← y2]; exact cell_of_heap (heap_alloc_new _ _) rfl
  have i0 : ((((w.alloc (.cells #[.string s] 9)).alloc (.cells (inoC ino0) 48)).alloc (.cells (inoC ino0) 48)).alloc (.cells #[.pointer (some ⟨w.heap.size + 2, 0, none⟩)] 81)).heap[w.heap.size]? = some (.cells #[.string s] 9) := by
    rw [heap_alloc_at _ _ _ (by rw [y2]; omega), heap_alloc_at _ _ _ (by rw [y1]; omega), heap_alloc_at _ _ _ (by rw [y0]; omega)]; exact heap_alloc_new _ _
  have i1 : ((((w.alloc (.cells #[.string s] 9)).alloc (.cells (inoC ino0) 48)).alloc (.cells (inoC ino0) 48)).alloc (.cells #[.pointer (some ⟨w.heap.size + 2, 0, none⟩)] 81)).heap[w.heap.size + 1]? = some (.cells (inoC ino0) 48) := by
    rw [heap_alloc_at _ _ _ (by rw [y2]; omega), heap_alloc_at _ _ _ (by rw [y1]; omega), ← y0]; exact heap_alloc_new _ _
  have i2 : ((((w.alloc (.cells #[.string s] 9)).alloc (.cells (inoC ino0) 48)).alloc (.cells (inoC ino0) 48)).alloc (.cells #[.pointer (some ⟨w.heap.size + 2, 0, none⟩)] 81)).heap[w.heap.size + 2]? = some (.cells (inoC ino0) 48) := by
    rw [heap_alloc_at _ _ _ (by rw [y2]; omega), ← y1]; exact heap_alloc_new _ _
  have ib : Below w.heap.size w ((((w.alloc (.cells #[.string s] 9)).alloc (.cells (inoC ino0) 48)).alloc (.cells (inoC ino0) 48)).alloc (.cells #[.pointer (some ⟨w.heap.size + 2, 0, none⟩)] 81)) := (((below_one _ _).alloc (by rw [y0]; omega) _).alloc (by rw [y1]; omega) _).alloc (by rw [y2]; omega) _
  generalize ((((w.alloc (.cells #[.string s] 9)).alloc (.cells (inoC ino0) 48)).alloc (.cells (inoC ino0) 48)).alloc (.cells #[.pointer (some ⟨w.heap.size + 2, 0, none⟩)] 81)) = W3 at hsize hcell i0 i1 i2 ib ⊢
  clear y0 y1 y2
  refine wpIn_rangeFunc_ownF rfl (by decide) (gf := 79) (lb := #[.pointer (some ⟨w.heap.size + 3, 0, none⟩)]) rfl trivial (enters_of Try.func79 (by kernel_rfl) rfl)
    (fields_stops 8 (by decide) (w.heap.size + 3) (w.heap.size + 2) (w.heap.size + 4) _ (Nat.le_of_eq hsize.symm) hcell (by rw [hsize]; omega)) Kc.trans (fun W l o o' _ h hc _ => Kc.putObj W l o o' h hc) (Below.refl _ _) (fun _ => rfl)
    (fun pre W => ((∃ R : ByteArray, W.heap[w.heap.size]? = some (.cells #[.string R] 9 (0, 0)) ∧ bl R = (bl s).drop (dec s pre).1) ∧ W.heap[w.heap.size + 1]? = some (.cells (inoC ino0) 48 (0, 0)) ∧ W.heap[w.heap.size + 2]? = some (.cells (inoC (dec s pre).2) 48 (0, 0))) ∧ Below w.heap.size w W)
    (fun _ _ _ => False)
    (fun p A B row hs hg hr => ⟨⟨let ⟨R, h1, h2⟩ := hs.1.1; ⟨R, keepG hg hr (by rw [hsize]; omega) h1, h2⟩, keepG hg hr (by rw [hsize]; omega) hs.1.2.1, keepG hg hr (by rw [hsize]; omega) hs.1.2.2⟩, hs.2.grown hg hs.2.size (fun k e => by have := (hr k e).1; rw [hsize] at this; omega)⟩)
    (fun _ _ _ _ _ hs _ _ => hs)
    ⟨⟨⟨s, i0, rfl⟩, i1, i2⟩, ib⟩
    (fun x => { tmps := #[.string s, .pointer (some ⟨w.heap.size, 0, none⟩), .pointer (some ⟨w.heap.size + 1, 0, none⟩), .pointer (some ⟨w.heap.size + 2, 0, none⟩), ptrF (w.heap.size + 2) x.val, .int .i64 (widF x.val), .func (.func 79) #[] #[.pointer (some ⟨w.heap.size + 3, 0, none⟩)], ptrF (w.heap.size + 2) x.val, .int .i64 (widF x.val), undef, undef, undef, undef, undef, undef, undef, undef, undef, undef, undef], defers := [] }) ?assign ?body ?done ?stop
  case assign =>
    intro l x W K hK
    unfold encX encF
    gi_wp2
    exact hK
  case body =>
    rintro l pre x W ⟨⟨⟨R, h0, hR⟩, h1, h2⟩, hB⟩ hlen
    have hoff := dec_le s pre
    have hlR : (bl R).length = 64 - (dec s pre).1 := by rw [hR, List.length_drop, bl_length, hs64]
    have hRs : R.size = 64 - (dec s pre).1 := by rw [← bl_length]; exact hlR
    have hw4 := widF_le x.val
    have c0 : W.drew.cell? ⟨w.heap.size, 0, none⟩ = some (.string R) := cell_of_heap h0 rfl
    have f0 : W.drew.frozen? ⟨w.heap.size, 0, none⟩ = false := frozen_of_heap (w := W.drew) h0
    have c2 : W.drew.cell? ⟨w.heap.size + 2, offF x.val, none⟩ = some (.int .i64 ((dec s pre).2 (offF x.val))) := cell_of_heap h2 (inoC_get _ (offF_lt x.isLt))
    have f2 : W.drew.frozen? ⟨w.heap.size + 2, offF x.val, none⟩ = false := frozen_of_heap (w := W.drew) h2
    have hv : leVal (bl (R.extract 0 (widF x.val))) = leVal (((bl s).drop (dec s pre).1).take (widF x.val)) := by
      rw [bl_extract, hR, List.drop_zero, Nat.sub_zero]
    have hvl : leVal (bl (R.extract 0 (widF x.val))) < 4294967296 := by
      have h := leVal_lt (bl (R.extract 0 (widF x.val)))
      have h2 : (bl (R.extract 0 (widF x.val))).length ≤ 4 := by rw [bl_extract, List.length_take]; omega
      have h3 : 2 ^ (8 * (bl (R.extract 0 (widF x.val))).length) ≤ 2 ^ 32 := Nat.pow_le_pow_right (by decide) (by omega)
      have h4 : (2 : Nat) ^ 32 = 4294967296 := rfl
      omega
    have P50 : Hid (∀ W, Calls Try.prog 50 #[.string (R.extract 0 (widF x.val))] W fun e w' => e = .returned (.int .u64 (leVal (bl (R.extract 0 (widF x.val))))) ∧ W = w') := fun W =>
      get_any (R.extract 0 (widF x.val)) W (by rw [ByteArray.size_extract]; omega)
    have hle : widF x.val ≤ R.size := by omega
    have hrest : bl (R.extract (widF x.val) R.size) = (bl s).drop ((dec s pre).1 + widF x.val) := by
      rw [bl_extract, hR, List.drop_drop, List.take_of_length_le]
      rw [List.length_drop, bl_length, hs64, hRs]
      omega
    have e0 : ∀ V, (W.setCell ⟨w.heap.size + 2, offF x.val, none⟩ V).cell? ⟨w.heap.size, 0, none⟩ = some (.string R) := fun V => cell_of_heap ((Below.heap_setCell W ⟨w.heap.size + 2, offF x.val, none⟩ V w.heap.size (fun e => by simp at e)).trans h0) rfl
    have e1 : ∀ V, (W.setCell ⟨w.heap.size + 2, offF x.val, none⟩ V).frozen? ⟨w.heap.size, 0, none⟩ = false := fun V => frozen_of_heap ((Below.heap_setCell W ⟨w.heap.size + 2, offF x.val, none⟩ V w.heap.size (fun e => by simp at e)).trans h0)
    have hwn : IntKind.i64.wrap (leVal (bl (R.extract 0 (widF x.val))) : Int) = leVal (bl (R.extract 0 (widF x.val))) := by rw [IntKind.wrap_i64]; omega
    have HV := Lib.hid hv
    have HI := Lib.hid (And.intro h0 (And.intro h1 h2))
    have HB := Lib.hid hB
    have HRest := Lib.hid hrest
    clear hoff hlR hRs hw4 hv h0 h1 h2 hB hrest hsize hcell i0 i1 i2 ib
    generalize leVal (bl (R.extract 0 (widF x.val))) = nv at HV hvl P50 hwn
    generalize hwd : widF x.val = wd at P50 hle HRest HV hwn
    have HW := Lib.hid hwd
    clear hwd
    have hle' : (wd : Int) ≤ R.size := by omega
    unfold ptrF
    gi_wp2
    refine wpIn_region_any (by kernel_rfl) ?_
    refine wpAny_in l _ (by kernel_rfl) (fun ⟨_, _, h⟩ => h) _ _ _ _ ?_
    change wpAny _ _ _ _ _ _ _ (World.drew _)
    refine any_take 0 9 (v := ?_) rfl rfl (by kernel_rfl) (by kernel_rfl) (by kernel_rfl) (fun _ _ _ h => h) (by rfl) ?_ ?_
    rotate_left 1
    · intro wq
      go_simp
      try with_reducible rfl
    simp only [List.setIfInBounds_toArray, List.set_cons_zero, List.set_cons_succ]
    refine any_take 2 11 (v := ?_) rfl rfl (by kernel_rfl) (by kernel_rfl) (by kernel_rfl) (fun _ _ _ h => h) (by rfl) ?_ ?_
    rotate_left 1
    · intro wq
      go_simp
      try with_reducible rfl
    simp only [List.setIfInBounds_toArray, List.set_cons_zero, List.set_cons_succ]
    refine any_take 7 16 (v := ?_) rfl rfl (by kernel_rfl) (by kernel_rfl) (by kernel_rfl) (fun _ _ _ h => h) (by rfl) ?_ ?_
    rotate_left 1
    · intro wq
      go_simp
      try with_reducible rfl
    simp only [List.setIfInBounds_toArray, List.set_cons_zero, List.set_cons_succ]
    refine wpAny_ready (rs := [1, 6]) (by kernel_rfl) (by simp) ?_
    refine (AllReady.cons rfl (fun K hK => ?_) (AllReady.cons rfl (fun K hK => ?_) AllReady.nil))
    · go_simp
      refine hK _ _ ?_
      clear hK K
      try simp only [Act.put, List.setIfInBounds_toArray, List.set_cons_zero, List.set_cons_succ]
      refine any_take 3 12 (v := ?_) rfl rfl (by kernel_rfl) (by kernel_rfl) (by kernel_rfl) (fun _ _ _ h => h) (by rfl) ?_ ?_
      rotate_left 1
      · intro wq
        go_simp
        try with_reducible rfl
      simp only [List.setIfInBounds_toArray, List.set_cons_zero, List.set_cons_succ]
      refine wpAny_ready (rs := [4, 6]) (by kernel_rfl) (by simp) ?_
      refine (AllReady.cons rfl (fun K hK => ?_) (AllReady.cons rfl (fun K hK => ?_) AllReady.nil))
      · go_simp
        refine (P50.out _).mono ?_
        rintro e w1 ⟨rfl, rfl⟩
        go_wp2_with fail
        try simp only [Act.put, List.setIfInBounds_toArray, List.set_cons_zero, List.set_cons_succ]
        refine any_take 5 14 (v := ?_) rfl rfl (by kernel_rfl) (by kernel_rfl) (by kernel_rfl) (fun _ _ _ h => h) (by rfl) ?_ ?_
        rotate_left 1
        · intro wq
          go_simp
          try with_reducible rfl
        simp only [List.setIfInBounds_toArray, List.set_cons_zero, List.set_cons_succ]
        refine any_take 9 18 (v := ?_) rfl rfl (by kernel_rfl) (by kernel_rfl) (by kernel_rfl) (fun _ _ _ h => h) (by rfl) ?_ ?_
        rotate_left 1
        · intro wq
          go_simp
          try with_reducible rfl
        simp only [List.setIfInBounds_toArray, List.set_cons_zero, List.set_cons_succ]
        refine wpAny_ready (rs := [6, 10]) (by kernel_rfl) (by simp) ?_
        refine (AllReady.cons rfl (fun K hK => ?_) (AllReady.cons rfl (fun K hK => ?_) AllReady.nil))
        · go_simp
          refine hK _ _ ?_
          clear hK K
          try simp only [Act.put, List.setIfInBounds_toArray, List.set_cons_zero, List.set_cons_succ]
          refine any_take 8 17 (v := ?_) rfl rfl (by kernel_rfl) (by kernel_rfl) (by kernel_rfl) (fun _ _ _ h => h) (by rfl) ?_ ?_
          rotate_left 1
          · intro wq
            go_simp
            try with_reducible rfl
          simp only [List.setIfInBounds_toArray, List.set_cons_zero, List.set_cons_succ]
          refine wpAny_ready (rs := [10]) (by kernel_rfl) (by simp) ?_
          refine (AllReady.cons rfl (fun K hK => ?_) AllReady.nil)
          go_simp
          refine hK _ _ ?_
          clear hK K
          try simp only [Act.put, List.setIfInBounds_toArray, List.set_cons_zero, List.set_cons_succ]
          refine wpAny_ready (rs := [11]) (by kernel_rfl) (by simp) ?_
          refine (AllReady.cons rfl (fun K hK => ?_) AllReady.nil)
          go_simp
          refine hK _ _ ?_
          clear hK K
          try simp only [Act.put, List.setIfInBounds_toArray, List.set_cons_zero, List.set_cons_succ]
          refine wpAny_done (by kernel_rfl) ?_ _
          gi_wp2
          exact of_end HI.out.1 HI.out.2.1 HI.out.2.2 HB.out HV.out HW.out HRest.out
        · go_simp
          refine hK _ _ ?_
          clear hK K
          try simp only [Act.put, List.setIfInBounds_toArray, List.set_cons_zero, List.set_cons_succ]
          refine wpAny_ready (rs := [6]) (by kernel_rfl) (by simp) ?_
          refine (AllReady.cons rfl (fun K hK => ?_) AllReady.nil)
          go_simp
          refine hK _ _ ?_
          clear hK K
          try simp only [Act.put, List.setIfInBounds_toArray, List.set_cons_zero, List.set_cons_succ]
          refine any_take 8 17 (v := ?_) rfl rfl (by kernel_rfl) (by kernel_rfl) (by kernel_rfl) (fun _ _ _ h => h) (by rfl) ?_ ?_
          rotate_left 1
          · intro wq
            go_simp
            try with_reducible rfl
          simp only [List.setIfInBounds_toArray, List.set_cons_zero, List.set_cons_succ]
          refine wpAny_ready (rs := [11]) (by kernel_rfl) (by simp) ?_
          refine (AllReady.cons rfl (fun K hK => ?_) AllReady.nil)
          go_simp
          refine hK _ _ ?_
          clear hK K
          try simp only [Act.put, List.setIfInBounds_toArray, List.set_cons_zero, List.set_cons_succ]
          refine wpAny_done (by kernel_rfl) ?_ _
          gi_wp2
          exact of_end HI.out.1 HI.out.2.1 HI.out.2.2 HB.out HV.out HW.out HRest.out
      · go_simp
        refine hK _ _ ?_
        clear hK K
        try simp only [Act.put, List.setIfInBounds_toArray, List.set_cons_zero, List.set_cons_succ]
        refine any_take 8 17 (v := ?_) rfl rfl (by kernel_rfl) (by kernel_rfl) (by kernel_rfl) (fun _ _ _ h => h) (by rfl) ?_ ?_
        rotate_left 1
        · intro wq
          go_simp
          try with_reducible rfl
        simp only [List.setIfInBounds_toArray, List.set_cons_zero, List.set_cons_succ]
        refine wpAny_ready (rs := [4]) (by kernel_rfl) (by simp) ?_
        refine (AllReady.cons rfl (fun K hK => ?_) AllReady.nil)
        go_simp
        refine (P50.out _).mono ?_
        rintro e w1 ⟨rfl, rfl⟩
        go_wp2_with fail
        try simp only [Act.put, List.setIfInBounds_toArray, List.set_cons_zero, List.set_cons_succ]
        refine any_take 5 14 (v := ?_) rfl rfl (by kernel_rfl) (by kernel_rfl) (by kernel_rfl) (fun _ _ _ h => h) (by rfl) ?_ ?_
        rotate_left 1
        · intro wq
          go_simp
          try with_reducible rfl
        simp only [List.setIfInBounds_toArray, List.set_cons_zero, List.set_cons_succ]
        refine any_take 9 18 (v := ?_) rfl rfl (by kernel_rfl) (by kernel_rfl) (by kernel_rfl) (fun _ _ _ h => h) (by rfl) ?_ ?_
        rotate_left 1
        · intro wq
          go_simp
          try with_reducible rfl
        simp only [List.setIfInBounds_toArray, List.set_cons_zero, List.set_cons_succ]
        refine wpAny_ready (rs := [10]) (by kernel_rfl) (by simp) ?_
        refine (AllReady.cons rfl (fun K hK => ?_) AllReady.nil)
        go_simp
        refine hK _ _ ?_
        clear hK K
        try simp only [Act.put, List.setIfInBounds_toArray, List.set_cons_zero, List.set_cons_succ]
        refine wpAny_ready (rs := [11]) (by kernel_rfl) (by simp) ?_
        refine (AllReady.cons rfl (fun K hK => ?_) AllReady.nil)
        go_simp
        refine hK _ _ ?_
        clear hK K
        try simp only [Act.put, List.setIfInBounds_toArray, List.set_cons_zero, List.set_cons_succ]
        refine wpAny_done (by kernel_rfl) ?_ _
        gi_wp2
        exact of_end HI.out.1 HI.out.2.1 HI.out.2.2 HB.out HV.out HW.out HRest.out
    · go_simp
      refine hK _ _ ?_
      clear hK K
      try simp only [Act.put, List.setIfInBounds_toArray, List.set_cons_zero, List.set_cons_succ]
      refine any_take 8 17 (v := ?_) rfl rfl (by kernel_rfl) (by kernel_rfl) (by kernel_rfl) (fun _ _ _ h => h) (by rfl) ?_ ?_
      rotate_left 1
      · intro wq
        go_simp
        try with_reducible rfl
      simp only [List.setIfInBounds_toArray, List.set_cons_zero, List.set_cons_succ]
      refine wpAny_ready (rs := [1]) (by kernel_rfl) (by simp) ?_
      refine (AllReady.cons rfl (fun K hK => ?_) AllReady.nil)
      go_simp
      refine hK _ _ ?_
      clear hK K
      try simp only [Act.put, List.setIfInBounds_toArray, List.set_cons_zero, List.set_cons_succ]
      refine any_take 3 12 (v := ?_) rfl rfl (by kernel_rfl) (by kernel_rfl) (by kernel_rfl) (fun _ _ _ h => h) (by rfl) ?_ ?_
      rotate_left 1
      · intro wq
        go_simp
        try with_reducible rfl
      simp only [List.setIfInBounds_toArray, List.set_cons_zero, List.set_cons_succ]
      refine wpAny_ready (rs := [4]) (by kernel_rfl) (by simp) ?_
      refine (AllReady.cons rfl (fun K hK => ?_) AllReady.nil)
      go_simp
      refine (P50.out _).mono ?_
      rintro e w1 ⟨rfl, rfl⟩
      go_wp2_with fail
      try simp only [Act.put, List.setIfInBounds_toArray, List.set_cons_zero, List.set_cons_succ]
      refine any_take 5 14 (v := ?_) rfl rfl (by kernel_rfl) (by kernel_rfl) (by kernel_rfl) (fun _ _ _ h => h) (by rfl) ?_ ?_
      rotate_left 1
      · intro wq
        go_simp
        try with_reducible rfl
      simp only [List.setIfInBounds_toArray, List.set_cons_zero, List.set_cons_succ]
      refine any_take 9 18 (v := ?_) rfl rfl (by kernel_rfl) (by kernel_rfl) (by kernel_rfl) (fun _ _ _ h => h) (by rfl) ?_ ?_
      rotate_left 1
      · intro wq
        go_simp
        try with_reducible rfl
      simp only [List.setIfInBounds_toArray, List.set_cons_zero, List.set_cons_succ]
      refine wpAny_ready (rs := [10]) (by kernel_rfl) (by simp) ?_
      refine (AllReady.cons rfl (fun K hK => ?_) AllReady.nil)
      go_simp
      refine hK _ _ ?_
      clear hK K
      try simp only [Act.put, List.setIfInBounds_toArray, List.set_cons_zero, List.set_cons_succ]
      refine wpAny_ready (rs := [11]) (by kernel_rfl) (by simp) ?_
      refine (AllReady.cons rfl (fun K hK => ?_) AllReady.nil)
      go_simp
      refine hK _ _ ?_
      clear hK K
      try simp only [Act.put, List.setIfInBounds_toArray, List.set_cons_zero, List.set_cons_succ]
      refine wpAny_done (by kernel_rfl) ?_ _
      gi_wp2
      exact of_end HI.out.1 HI.out.2.1 HI.out.2.2 HB.out HV.out HW.out HRest.out
  case done =>
    rintro D xs W hD hxs ⟨⟨⟨R, h0, hR⟩, h1, h2⟩, hB⟩ hK
    obtain rfl := allF_is hxs
    rw [hsize] at hD
    have HD := Lib.hid hD
    obtain ⟨a1, a2⟩ := agg_facts h2 12 rfl
    have r1 := rowOpen_of h1 12 rfl
    clear hD
    gi_wp2
    have h5 : (W.setRow (w.heap.size + 1) (inoC (dec s allF).2)).heap[w.heap.size + 1]? = some (.cells (inoC (dec s allF).2) 48 (0, 0)) := by rw [heap_setRow_same, h1]; rfl
    have hK5 : (W.setRow (w.heap.size + 1) (inoC (dec s allF).2)).heap[D]? = some (.deferred (some [])) := (heap_setRow_other W _ _ _ (by have := HD.out; omega)).trans hK
    refine ⟨by simp, .inl ⟨_, _, rfl, run_takeDeferred hK5, ?_⟩⟩
    have h6 := ((grownBy_putObj' (W.setRow (w.heap.size + 1) (inoC (dec s allF).2)) D (.deferred none)).block (w.heap.size + 1) (heap_lt h5) (fun e => by have := HD.out; cases e; omega)).trans h5
    exact ⟨_, results_one rfl _ _ rfl (load48_heap h6 rfl), rfl, (below_setRow hB (by omega) _).trans (belowK_b (w := w) (Nat.le_refl _) _ D _ _ (by have := HD.out; omega) hK5 rfl rfl)⟩
  case stop =>
    rintro D c pre W _ _ h _
    exact h.elim
end Go.Proofs.Ytopbejdhfndfbaa
