/- inode.fields as a sequence; the contract of inode.bytes. Condition: an inode that fits. -/
import Derived.Test.YtopbejdhfndfbaaIno1
import Derived.Test.YtopbejdhfndfbaaGeo3
namespace Go.Proofs.Ytopbejdhfndfbaa
open Go.RowKit Go.Shelf
set_option maxRecDepth 20000
attribute [local go_sem] Oper.semAt_some
abbrev encX (b : Nat) (x : Fin 12) : Array Value := encF b x.val
theorem map_val_inj {a b : List (Fin 12)} (h : a.map Fin.val = b.map Fin.val) : a = b := by
  exact (List.map_inj_right (fun _ _ e => Fin.ext e)).1 h
theorem fields_stops (n : Nat) (hn : 1 ≤ n) (Bx b m : Nat) (w : World) (hm : m ≤ w.heap.size) (hBx : w.cell? ⟨Bx, 0, none⟩ = some (.pointer (some ⟨b, 0, none⟩))) (hBl : Bx < w.heap.size) :
    SeqStopsK Fence.wide n Try.prog 79 #[.pointer (some ⟨Bx, 0, none⟩)] (encX b) (Kc m) (fun xs => xs.map Fin.val = List.range 12) (fun pre => pre.map Fin.val <+: List.range 12) 12 w := fun l J Jx W hW hJ _ hY h0 => by
  refine (fields1_in n hn l Bx b m (fun p W => ∃ q : List (Fin 12), p = q.map Fin.val ∧ J q W) (fun p W => ∃ q : List (Fin 12), p = q.map Fin.val ∧ Jx q W) W (Nat.le_trans hm hW.size) ((hW.cell (p := ⟨Bx, 0, none⟩) hBl).trans hBx) (Nat.lt_of_lt_of_le hBl hW.size) ?_ ?_ ⟨[], rfl, h0⟩).mono ?_
  · rintro s A B row ⟨q, rfl, hq⟩ hg hr
    exact ⟨q, rfl, hJ q A B row hq hg hr⟩
  · rintro pre x W1 ⟨q, rfl, hq⟩ hl hx
    rw [List.length_map] at hl hx
    subst hx
    refine (hY q ⟨q.length, hl⟩ W1 hq hl).mono ?_
    rintro e W' (⟨rfl, h1, h2⟩ | ⟨rfl, h1⟩)
    · exact .inl ⟨rfl, ⟨_, by simp, h1⟩, h2⟩
    · exact .inr ⟨rfl, ⟨_, by simp, h1⟩⟩
  · rintro e W' ⟨he, ⟨ys, rfl, q, hq, hj⟩ | ⟨pre, hp, q, rfl, hj⟩⟩
    · exact ⟨he, .inl ⟨q, hq.symm, hj⟩⟩
    · exact ⟨he, .inr ⟨q, hp, hj⟩⟩
theorem fields_any (p : Option Addr) (w : World) : Calls Try.prog 69 #[.pointer p] w fun e w' => e = .returned (.func (.func 79) #[] #[.pointer (some ⟨w.heap.size, 0, none⟩)]) ∧ w.alloc (.cells #[.pointer p] 81) = w' := by
  go_enter Try.func69, Try.ntmps69
  go_wp2_with fail
  go_ret
  exact ⟨rfl, rfl⟩
/-- An inode's cells. -/
def inoC (c : Nat → Int) : Array Value := #[.int .i64 (c 0), .int .i64 (c 1), .int .i64 (c 2), .int .i64 (c 3), .int .i64 (c 4), .int .i64 (c 5), .int .i64 (c 6), .int .i64 (c 7), .int .i64 (c 8), .int .i64 (c 9), .int .i64 (c 10), .int .i64 (c 11)]
theorem offF_lt {k : Nat} (h : k < 12) : offF k < 12 := by
  unfold offF
  split
  · decide
  · split <;> omega
theorem inoC_get (c : Nat → Int) {k : Nat} (h : k < 12) : (inoC c)[k]? = some (.int .i64 (c k)) := by
  have : ∀ k : Fin 12, (inoC c)[k.val]? = some (.int .i64 (c k.val)) := by intro k; match k with | 0 | 1 | 2 | 3 | 4 | 5 | 6 | 7 | 8 | 9 | 10 | 11 => rfl
  exact this ⟨k, h⟩
/-- The field k, as a number. -/
def fld (c : Nat → Int) (k : Nat) : Nat := (c (offF k)).toNat
def bytesOf (c : Nat → Int) (pre : List (Fin 12)) : List UInt8 := pre.flatMap fun k => leBytes (widF k.val) (fld c k.val)
theorem bytesOf_snoc (c : Nat → Int) (pre : List (Fin 12)) (x : Fin 12) : bytesOf c (pre ++ [x]) = bytesOf c pre ++ leBytes (widF x.val) (fld c x.val) := by simp [bytesOf]
/-- An inode's 24 bytes. -/
def inoB (c : Nat → Int) : List UInt8 := (List.range 12).flatMap fun k => leBytes (widF k) (fld c k)
theorem bytesOf_all (c : Nat → Int) (xs : List (Fin 12)) (h : xs.map Fin.val = List.range 12) : bytesOf c xs = inoB c := by
  unfold bytesOf inoB
  rw [← h, List.flatMap_map]
def FitsC (c : Nat → Int) : Prop := ∀ k, k < 12 → 0 ≤ c (offF k) ∧ c (offF k) < 256 ^ widF k
theorem widF_le (k : Nat) : widF k ≤ 4 := by
  unfold widF
  split
  · decide
  · split <;> decide
theorem len_le (c : Nat → Int) (pre : List (Fin 12)) : (bytesOf c pre).length ≤ 4 * pre.length := by
  induction pre with
  | nil => exact Nat.le_refl _
  | cons x pre ih =>
    have : bytesOf c (x :: pre) = leBytes (widF x.val) (fld c x.val) ++ bytesOf c pre := rfl
    rw [this, List.length_append, leBytes_length, List.length_cons]
    have := widF_le x.val
    omega
theorem keepG {A B : World} {row : Option Nat} {k m : Nat} {o : Obj} (hg : A.grownBy B row) (hr : ∀ r, row = some r → m ≤ r ∧ ∃ o : Obj, A.heap[r]? = some o ∧ o.isCells = false) (hk : k < m) (h : A.heap[k]? = some o) : B.heap[k]? = some o :=
  (hg.block k (heap_lt h) (fun e => by have := (hr k e.symm).1; omega)).trans h
theorem ko_below {A B : World} (h : Below A.heap.size A B) : KeepsOthers A B := ⟨h.size, fun k _o ho _ => (h.block k (heap_lt ho)).trans ho⟩
theorem fld_val {c : Nat → Int} (hf : FitsC c) (x : Fin 12) : ∃ n : Nat, c (offF x.val) = n ∧ fld c x.val = n ∧ n < 4294967296 := by
  obtain ⟨h0, h1⟩ := hf x.val x.isLt
  refine ⟨(c (offF x.val)).toNat, by omega, rfl, ?_⟩
  have h2 : (256 : Int) ^ widF x.val ≤ 256 ^ 4 := by
    exact_mod_cast Nat.pow_le_pow_right (by decide : 0 < 256) (widF_le x.val)
  have h3 : (256 : Int) ^ 4 = 4294967296 := rfl
  omega
theorem cat_bytes (c : Nat → Int) (pre : List (Fin 12)) (x : Fin 12) : (⟨(bytesOf c pre).toArray⟩ : ByteArray) ++ ⟨(leBytes (widF x.val) (fld c x.val)).toArray⟩ = ⟨(bytesOf c (pre ++ [x])).toArray⟩ := by
  apply bl_ext
  rw [bl_append, bl_mk, bl_mk, bl_mk, bytesOf_snoc]
theorem cat_size (c : Nat → Int) (pre : List (Fin 12)) : (⟨(bytesOf c pre).toArray⟩ : ByteArray).size ≤ 4 * pre.length := by
  rw [← bl_length, bl_mk]
  exact len_le c pre
theorem cell_same {W : World} {g : Nat} {cur : Array Value} {t : TypeId} (h : W.heap[g]? = some (.cells cur t (0, 0))) (x : Value) : (W.setCell ⟨g, 0, none⟩ x).heap[g]? = some (.cells (cur.setIfInBounds 0 x) t (0, 0)) := heap_setCell_row W g 0 cur t x h
theorem body_end {w W W4 : World} {c : Nat → Int} {pre : List (Fin 12)} {x : Fin 12} {A Y : ByteArray} (h1 : W.heap[w.heap.size]? = some (.cells (inoC c) 48 (0, 0))) (h2 : W.heap[w.heap.size + 1]? = some (.cells #[.string A] 9 (0, 0)))
    (hB : Below w.heap.size w W) (hb : Below W.heap.size W.drew W4) (hc : A ++ Y = ⟨(bytesOf c (pre ++ [x])).toArray⟩) :
    KeepsOthers W (W4.setCell ⟨w.heap.size + 1, 0, none⟩ (.string (A ++ Y))) ∧ Kc (w.heap.size + 3) W (W4.setCell ⟨w.heap.size + 1, 0, none⟩ (.string (A ++ Y))) ∧
      ((W4.setCell ⟨w.heap.size + 1, 0, none⟩ (.string (A ++ Y))).heap[w.heap.size]? = some (.cells (inoC c) 48 (0, 0)) ∧ (W4.setCell ⟨w.heap.size + 1, 0, none⟩ (.string (A ++ Y))).heap[w.heap.size + 1]? = some (.cells #[.string ⟨(bytesOf c (pre ++ [x])).toArray⟩] 9 (0, 0))) ∧ Below w.heap.size w (W4.setCell ⟨w.heap.size + 1, 0, none⟩ (.string (A ++ Y))) := by
  have hb' : Below W.heap.size W W4 := ⟨hb.os, hb.tape, hb.output, hb.size, hb.block⟩
  have k2 := keep h2 hb'
  refine ⟨(ko_below hb').trans (KeepsOthers.setCell _ _ _), (Kc.below hb').trans (Kc.setCell (by omega) _), ⟨?_, ?_⟩, below_setCell (below_step hB hb') (by omega) _ _⟩
  · exact (Below.heap_setCell W4 ⟨w.heap.size + 1, 0, none⟩ _ _ (fun e => by simp at e)).trans (keep h1 hb')
  · rw [cell_same k2, hc]
    rfl
set_option maxHeartbeats 2000000 in
theorem bytes_any (c : Nat → Int) (w : World) (hf : FitsC c) : Calls Try.prog 61 #[.agg (inoC c)] w fun e w' => e = .returned (.string ⟨(inoB c).toArray⟩) ∧ Below w.heap.size w w' := by
  refine (callsIn_wide (n := 9)).1 ?_
  refine callsIn_of_wp_marks Try.func61 rfl trivial ?_ rfl
  simp only [Try.ntmps61, List.size_toArray, List.length_cons, List.length_nil, Nat.reduceAdd, Nat.reduceSub, Array.replicate_succ, Array.replicate_zero, List.push_toArray, List.append_toArray, List.nil_append, List.cons_append]
  gi_wp2_with (refine ⟨trivial, ?_⟩; gi_at_call 69; refine (callsIn_wide.2 (fields_any _ _)).mono ?_; rintro e w1 ⟨rfl, rfl⟩)
  have z1 : ((w.alloc (.cells (inoC c) 48)).alloc (.cells #[.string ⟨#[]⟩] 9)).heap.size = w.heap.size + 2 := by rw [alloc_size, alloc_size]
  have hcell : (((w.alloc (.cells (inoC c) 48)).alloc (.cells #[.string ⟨#[]⟩] 9)).alloc (.cells #[.pointer (some ⟨w.heap.size, 0, none⟩)] 81)).cell? ⟨w.heap.size + 2, 0, none⟩ = some (.pointer (some ⟨w.heap.size, 0, none⟩)) := by
    rw [← z1]; exact cell_of_heap (heap_alloc_new _ _) rfl
  have hsize : (((w.alloc (.cells (inoC c) 48)).alloc (.cells #[.string ⟨#[]⟩] 9)).alloc (.cells #[.pointer (some ⟨w.heap.size, 0, none⟩)] 81)).heap.size = w.heap.size + 3 := by rw [alloc_size, z1]
  refine wpIn_rangeFunc_ownF rfl (by decide) (gf := 79) (lb := #[.pointer (some ⟨w.heap.size + 2, 0, none⟩)]) rfl trivial (enters_of Try.func79 (by kernel_rfl) rfl)
    (fields_stops 8 (by decide) (w.heap.size + 2) w.heap.size (w.heap.size + 3) _ (Nat.le_of_eq hsize.symm) hcell (by rw [hsize]; omega)) Kc.trans (fun W l o o' _ h hc _ => Kc.putObj W l o o' h hc) (Below.refl _ _) (fun _ => rfl)
    (fun pre W => (W.heap[w.heap.size]? = some (.cells (inoC c) 48 (0, 0)) ∧ W.heap[w.heap.size + 1]? = some (.cells #[.string ⟨(bytesOf c pre).toArray⟩] 9 (0, 0))) ∧ Below w.heap.size w W)
    (fun _ _ _ => False)
    (fun s A B row hs hg hr => ⟨⟨keepG hg hr (by rw [hsize]; omega) hs.1.1, keepG hg hr (by rw [hsize]; omega) hs.1.2⟩, hs.2.grown hg hs.2.size (fun k e => by have := (hr k e).1; rw [hsize] at this; omega)⟩)
    (fun _ _ _ _ _ hs _ _ => hs)
    ⟨⟨by rw [heap_alloc_at _ _ _ (by rw [z1]; omega), heap_alloc_at _ _ _ (by rw [alloc_size]; omega)]; exact heap_alloc_new _ _, by rw [heap_alloc_at _ _ _ (by rw [z1]; omega)]; exact (by rw [← alloc_size w (.cells (inoC c) 48)]; exact heap_alloc_new _ _)⟩, (below_two _ _ _).alloc (by rw [z1]; omega) _⟩
    (fun x => { tmps := #[.agg (inoC c), .pointer (some ⟨w.heap.size, 0, none⟩), .string ⟨#[]⟩, .pointer (some ⟨w.heap.size + 1, 0, none⟩), ptrF w.heap.size x.val, .int .i64 (widF x.val), .func (.func 79) #[] #[.pointer (some ⟨w.heap.size + 2, 0, none⟩)], ptrF w.heap.size x.val, .int .i64 (widF x.val), undef, undef, undef, undef, undef, undef, undef, undef, undef], defers := [] }) ?assign ?body ?done ?stop
  case assign =>
    intro l x W K hK
    unfold encX encF
    gi_wp2
    exact hK
  case body =>
    rintro l pre x W ⟨⟨hx, hs⟩, hB⟩ hlen
    have hmx : Try.prog.follows .mixedOrders = true := by kernel_rfl
    obtain ⟨n, hn1, hn2, hn3⟩ := fld_val hf x
    have hcat := cat_bytes c pre x
    have hsz := cat_size c (pre ++ [x])
    rw [List.length_append, List.length_singleton] at hsz
    rw [← hcat] at hsz
    have c1 := cell_of_heap hx (inoC_get c (offF_lt x.isLt))
    have c2 := cell_of_heap hs (i := 0) rfl
    have c3 : W.frozen? ⟨w.heap.size + 1, 0, none⟩ = false := frozen_of_heap hs
    have P67 : Hid (∀ W, Calls Try.prog 67 #[.int .u64 (IntKind.u64.wrap (n : Int)), .int .i64 (widF x.val)] W fun e w' => e = .returned (.string ⟨(leBytes (widF x.val) (fld c x.val)).toArray⟩) ∧ Below W.heap.size W w') := by
      rw [wrap_u64_of (n : Int) (by omega) (by omega), hn2]
      exact fun W => put_any n _ W (Nat.le_trans (widF_le _) (by decide))
    rw [hn1] at c1
    rw [ByteArray.size_append] at hsz
    have hk : ¬ (9223372036854775807 < (⟨(bytesOf c pre).toArray⟩ : ByteArray).size + (⟨(leBytes (widF x.val) (fld c x.val)).toArray⟩ : ByteArray).size) := by omega
    have HI := Lib.hid (And.intro hx hs)
    have HB := Lib.hid hB
    have HC := Lib.hid hcat
    generalize (⟨(bytesOf c pre).toArray⟩ : ByteArray) = A at c2 hk HI HC
    generalize (⟨(leBytes (widF x.val) (fld c x.val)).toArray⟩ : ByteArray) = Y at P67 hk HC
    have hd : 1 ≤ 9 - 1 - 1 := by decide
    clear hx hs hB hcat hsz hn1 hn2 hn3 hsize hcell z1
    unfold ptrF
    gi_wp2
    gi_region_with_o ((refine ⟨trivial, ?_⟩; gi_at_call 67; refine (CallsIn.inRound l (callsIn_wide.2 (P67.out _))).mono ?_; rintro e W4 ⟨rfl, hb⟩; have d2 := (hb.cell (p := ⟨w.heap.size + 1, 0, none⟩) (heap_lt HI.out.2)).trans c2; have d3 := (hb.frozen (p := ⟨w.heap.size + 1, 0, none⟩) (heap_lt HI.out.2)).trans c3; have HB4 := Lib.hid hb; clear hb))
    all_goals
      gi_wp2
      exact body_end HI.out.1 HI.out.2 HB.out HB4.out HC.out
  case done =>
    rintro D xs W hD hxs ⟨⟨hx, hs⟩, hB⟩ hK
    have c2 := cell_of_heap hs (i := 0) rfl
    have HD := Lib.hid hD
    rw [bytesOf_all c xs hxs] at c2
    clear hD
    gi_wp2
    refine ⟨by simp, .inl ⟨_, _, rfl, run_takeDeferred hK, ?_⟩⟩
    exact ⟨_, results_tmp rfl _ _ _, rfl, hB.trans (belowK_b (w := w) (Nat.le_refl _) W D _ _ (by have := HD.out; rw [hsize] at this; omega) hK rfl rfl)⟩
  case stop =>
    rintro D c pre W _ _ h _
    exact h.elim
end Go.Proofs.Ytopbejdhfndfbaa
