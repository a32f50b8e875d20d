/- The law CpuLittle: plain, and walked. No condition. -/
import Derived.Test.YtlhcggaeecjbcaaLawe
namespace Go.Proofs.Ytlhcggaeecjbcaa
open Go.RowKit

/-- How many registers, of those below 'j' and beside R0, have turned. -/
def turnN (r r2 : Nat → Int) : Nat → Nat
  | 0 => 0
  | j + 1 => turnN r r2 j + if j ≠ 0 ∧ r2 j ≠ r j then 1 else 0
/-- Whether one of the first 'k' pages may write the frame 'i'. -/
def mayN (s : Nat → Pte) (i : Nat) : Nat → Bool
  | 0 => false
  | k + 1 => mayN s i k || ((s k).is && (s k).write && (s k).frame == (i : Int))
/-- How many of the first 'k' bytes differ. -/
def diffB (x y : ByteArray) : Nat → Nat
  | 0 => 0
  | k + 1 => diffB x y k + if byteOf x k ≠ byteOf y k then 1 else 0
def diffN (l m : List ByteArray) : Nat → Nat
  | 0 => 0
  | i + 1 => diffN l m i + diffB (bAt l i) (bAt m i) 128
theorem turnN_le (r r2 : Nat → Int) (j : Nat) : turnN r r2 j ≤ j := by
  induction j with
  | zero => exact Nat.le_refl _
  | succ j ih => simp only [turnN]; split <;> omega
theorem diffB_le (x y : ByteArray) (k : Nat) : diffB x y k ≤ k := by
  induction k with
  | zero => exact Nat.le_refl _
  | succ k ih => simp only [diffB]; split <;> omega
theorem diffN_le (l m : List ByteArray) (i : Nat) : diffN l m i ≤ 128 * i := by
  induction i with
  | zero => exact Nat.le_refl _
  | succ i ih => have := diffB_le (bAt l i) (bAt m i) 128; simp only [diffN]; omega
attribute [local go_sem ↓] loadVar_26 loadVar_58 loadVar_61 storeVar_58 storeVar_61
attribute [local go_sem] run_load26 run_load58 run_load61 run_store58 run_store61 aggAt_new aggAt_past aggAt_drew rowAt_new rowAt_past rowAt_drew rowOpen_new rowOpen_past rowOpen_drew setRow_made' spCells_size cpuCells_size cpuCells_at cpuCells_at16 alloc_setRow eq_self56

theorem run_index_str (x : ByteArray) (k : Nat) (hk : k < x.size) (w : World) : (Instr.index 9 (.string x) (.int .i64 (k : Int))).run Try.prog w = .ok (.int .u8 ((byteOf x k).toNat : Int)) w := by
  rw [← byteOf_get x k hk]
  have h0 : 0 ≤ (k : Int) ∧ (k : Int) < x.size := by omega
  simp only [go_sem, Try.underlying9, h0, and_self, dif_pos, Int.toNat_natCast]
theorem Strs.at0 {w : World} {a : Option Addr} {n cap : Nat} {l : List ByteArray} (h : Strs w (.slice a n cap) l) {i : Nat} (hi : i < l.length) : ∃ b o, a = some ⟨b, o, none⟩ ∧ w.cell? ⟨b, o + i, none⟩ = some (.string (bAt l i)) := by
  rcases h.shape with ⟨rfl, _⟩ | ⟨_, b', o', cap', he, _, _, hc⟩
  · simp at hi
  · simp only [Value.slice.injEq] at he
    exact ⟨b', o', he.1, hc i hi⟩
def diffAt (x y : List ByteArray) (n k : Nat) : Nat := diffN x y n + diffB (bAt x n) (bAt y n) k
theorem diffAt_le (x y : List ByteArray) (n k : Nat) {m : Nat} (hk : k < 128) (hn : n ≤ m) (hm : m ≤ 16) : diffAt x y n k ≤ 3000 := by
  have := diffN_le x y n
  have := diffB_le (bAt x n) (bAt y n) k
  unfold diffAt
  omega
/-- The worlds of the law: its cpu, its space, the cpu and the memory that the step gave. -/
structure Lq (w0 : World) (r : Nat → Int) (pc : Int) (s : Nat → Pte) (b : Nat) (r2 : Nat → Int) (p2 : Int) (v : Value) (l : List ByteArray) (v2 : Value) (l2 : List ByteArray) (w : World) : Prop where
  below : Below w0.heap.size w0 w
  c : w.heap[w0.heap.size]? = some (.cells (cpuCells r pc) 58)
  s : w.heap[w0.heap.size + 1]? = some (.cells (spCells s) 26)
  d : w.heap[b]? = some (.cells (cpuCells r2 p2) 58)
  v : Strs w v l
  v2 : Strs w v2 l2
theorem Lq.drewN {w0 w : World} {r r2 : Nat → Int} {pc p2 : Int} {s : Nat → Pte} {b : Nat} {v v2 : Value} {l l2 : List ByteArray} (h : Lq w0 r pc s b r2 p2 v l v2 l2 w) (k : Nat) : Lq w0 r pc s b r2 p2 v l v2 l2 (w.drewN k) := by
  have hb : Below w.heap.size w (w.drewN k) := below_drewN (Below.refl _ _) k
  exact ⟨below_step h.below hb, keep h.c hb, keep h.s hb, keep h.d hb, h.v.mono hb, h.v2.mono hb⟩
theorem turn_keep {r r2 : Nat → Int} {k : Nat} (h : (r2 k != r k) = false) : turnN r r2 (k + 1) = turnN r r2 k := by
  have : ¬ (k ≠ 0 ∧ r2 k ≠ r k) := fun hh => by simp at h; exact hh.2 h
  simp only [turnN, if_neg this, Nat.add_zero]
theorem turn_up {r r2 : Nat → Int} {k : Nat} (hk : 1 ≤ k) (h : (r2 k != r k) = true) : turnN r r2 (k + 1) = turnN r r2 k + 1 := by
  have : k ≠ 0 ∧ r2 k ≠ r k := ⟨by omega, by simpa using h⟩
  simp only [turnN, if_pos this]
theorem diff_keep {x y : ByteArray} {k : Nat} (h : (((byteOf x k).toNat : Int) != (byteOf y k).toNat) = false) : diffB x y (k + 1) = diffB x y k := by
  have : ¬ (byteOf x k ≠ byteOf y k) := fun hh => hh (UInt8.toNat_inj.1 (by simp at h; omega))
  simp only [diffB, if_neg this, Nat.add_zero]
theorem diff_up {x y : ByteArray} {k : Nat} (h : (((byteOf x k).toNat : Int) != (byteOf y k).toNat) = true) : diffB x y (k + 1) = diffB x y k + 1 := by
  have : byteOf x k ≠ byteOf y k := fun hh => by rw [hh] at h; simp at h
  simp only [diffB, if_pos this]
theorem diffAt_keep {x y : List ByteArray} {n k : Nat} (h : (((byteOf (bAt x n) k).toNat : Int) != (byteOf (bAt y n) k).toNat) = false) : diffAt x y n (k + 1) = diffAt x y n k := by
  unfold diffAt
  rw [diff_keep h]
theorem diffAt_up {x y : List ByteArray} {n k : Nat} (h : (((byteOf (bAt x n) k).toNat : Int) != (byteOf (bAt y n) k).toNat) = true) : diffAt x y n (k + 1) = diffAt x y n k + 1 := by
  unfold diffAt
  rw [diff_up h, Nat.add_assoc]

set_option maxRecDepth 20000 in
set_option maxHeartbeats 1000000 in
theorem little_great (a0 : Option Addr) (cap0 : Nat) (l : List ByteArray) (s : Nat → Pte) (r : Nat → Int) (pc : Int) (w : World) (HV : Hid (Strs w (.slice a0 l.length cap0) l)) (hs : Hid (∀ i, (bAt l i).size ≤ 140737488351232)) (hl : Hid (l.length ≤ 140737488351232)) (hg : bigB l = true) :
    Calls Try.prog 12 #[.agg (cpuCells r pc), .agg (spCells s), .slice a0 l.length cap0] w fun e w' => e = .returned (.bool true) ∧ Below w.heap.size w w' := by
  go_enter Try.func12, Try.ntmps12
  go_wp2_with (first
    | (go_at_call 32; refine (great32 _ l _ (HV.out.mono HA.out.below) hs hl).mono ?_; rw [hg]; rintro e w2 ⟨rfl, rfl⟩)
    | (go_at_call 31; refine (alive31 _).mono ?_; rintro e w1 ⟨rfl, hb⟩; have HA := Lib.hid (Cs.start hb); clear hb; obtain ⟨q1, q2, q3, q4, q5, q6, q7⟩ := HA.out.facts))
  go_ret
  exact ⟨rfl, HA.out.below⟩

set_option maxRecDepth 20000 in
set_option maxHeartbeats 1000000 in
theorem little_stop (a0 : Option Addr) (cap0 : Nat) (l : List ByteArray) (s : Nat → Pte) (r : Nat → Int) (pc : Int) (w : World) (HV : Hid (Strs w (.slice a0 l.length cap0) l)) (hs : Hid (∀ i, (bAt l i).size ≤ 140737488351232)) (hl : Hid (l.length ≤ 140737488351232)) (hg : bigB l = false) (kk nn : Int) (HL : Hid (l.length ≤ 16)) (HS : Hid (∀ w, Strs w (.slice a0 l.length cap0) l → Calls Try.prog 33 #[.agg (cpuCells r pc), .agg (spCells s), .slice a0 l.length cap0] w (StepPost ⟨r, pc, l, kk, nn⟩ w))) (hk : kk = 2 ∨ kk = 3) :
    Calls Try.prog 12 #[.agg (cpuCells r pc), .agg (spCells s), .slice a0 l.length cap0] w fun e w' => e = .returned (.bool true) ∧ Below w.heap.size w w' := by
  rcases hk with rfl | rfl
  · go_enter Try.func12, Try.ntmps12
    go_wp2_with (first
      | (go_at_call 35; refine (same35 _ _ l _ ((H2.out.alloc _).alloc _) (((HV.out.mono HB.out.below).alloc _).alloc _) (by have := HL.out; omega)).mono ?_; rintro e w3 ⟨rfl, hb⟩; have HD := Lib.hid (below_step (below_step HB.out.below (below_two _ _ _)) hb); clear hb)
      | (go_at_call 33; refine (HS.out _ (HV.out.mono HA.out.below)).mono ?_; rintro e w2 ⟨hb, v2, rfl, hs2⟩; have HB := Lib.hid (HA.out.step hb); obtain ⟨a2, cap2, he, -⟩ := hs2.ex; subst he; have H2 := Lib.hid hs2; clear hb hs2 q1 q2 q3 q4 q5 q6 q7; obtain ⟨q1, q2, q3, q4, q5, q6, q7⟩ := HB.out.facts)
      | (go_at_call 32; refine (great32 _ l _ (HV.out.mono HA.out.below) hs hl).mono ?_; rw [hg]; rintro e w2 ⟨rfl, rfl⟩)
      | (go_at_call 31; refine (alive31 _).mono ?_; rintro e w1 ⟨rfl, hb⟩; have HA := Lib.hid (Cs.start hb); clear hb; obtain ⟨q1, q2, q3, q4, q5, q6, q7⟩ := HA.out.facts))
    go_ret
    exact ⟨rfl, HD.out⟩
  · go_enter Try.func12, Try.ntmps12
    go_wp2_with (first
      | (go_at_call 35; refine (same35 _ _ l _ ((H2.out.alloc _).alloc _) (((HV.out.mono HB.out.below).alloc _).alloc _) (by have := HL.out; omega)).mono ?_; rintro e w3 ⟨rfl, hb⟩; have HD := Lib.hid (below_step (below_step HB.out.below (below_two _ _ _)) hb); clear hb)
      | (go_at_call 33; refine (HS.out _ (HV.out.mono HA.out.below)).mono ?_; rintro e w2 ⟨hb, v2, rfl, hs2⟩; have HB := Lib.hid (HA.out.step hb); obtain ⟨a2, cap2, he, -⟩ := hs2.ex; subst he; have H2 := Lib.hid hs2; clear hb hs2 q1 q2 q3 q4 q5 q6 q7; obtain ⟨q1, q2, q3, q4, q5, q6, q7⟩ := HB.out.facts)
      | (go_at_call 32; refine (great32 _ l _ (HV.out.mono HA.out.below) hs hl).mono ?_; rw [hg]; rintro e w2 ⟨rfl, rfl⟩)
      | (go_at_call 31; refine (alive31 _).mono ?_; rintro e w1 ⟨rfl, hb⟩; have HA := Lib.hid (Cs.start hb); clear hb; obtain ⟨q1, q2, q3, q4, q5, q6, q7⟩ := HA.out.facts))
    go_ret
    exact ⟨rfl, HD.out⟩

set_option maxRecDepth 20000 in
set_option maxHeartbeats 1000000 in
theorem little_run (a0 : Option Addr) (cap0 : Nat) (l : List ByteArray) (s : Nat → Pte) (r : Nat → Int) (pc : Int) (w : World) (HV : Hid (Strs w (.slice a0 l.length cap0) l)) (hs : Hid (∀ i, (bAt l i).size ≤ 140737488351232)) (hl : Hid (l.length ≤ 140737488351232)) (hg : bigB l = false) (r2 : Nat → Int) (p2 : Int) (l2 : List ByteArray) (kk nn : Int) (hlen : l2.length = l.length) (HL : Hid (l.length ≤ 16)) (HS : Hid (∀ w, Strs w (.slice a0 l.length cap0) l → Calls Try.prog 33 #[.agg (cpuCells r pc), .agg (spCells s), .slice a0 l.length cap0] w (StepPost ⟨r2, p2, l2, kk, nn⟩ w))) (hk2 : (kk == 2) = false) (hk3 : (kk == 3) = false) (HR0 : Hid (r2 0 = 0)) (HT : Hid (turnN r r2 16 ≤ 1)) (HD : Hid (diffN l2 l l.length ≤ 4)) (HZ : Hid (turnN r r2 16 = 0 ∨ diffN l2 l l.length = 0)) (HF : Hid (∀ i, i < l.length → ∀ k, k < 128 → byteOf (bAt l2 i) k ≠ byteOf (bAt l i) k → mayN s i 16 = true)) (H1 : Hid (∀ i, i < l.length → (bAt l i).size = 128)) (H2' : Hid (∀ i, i < l.length → (bAt l2 i).size = 128)) :
    Calls Try.prog 12 #[.agg (cpuCells r pc), .agg (spCells s), .slice a0 l.length cap0] w fun e w' => e = .returned (.bool true) ∧ Below w.heap.size w w' := by
  go_enter Try.func12, Try.ntmps12
  go_wp2_with (first
    | (go_at_call 33; refine (HS.out _ (HV.out.mono HA.out.below)).mono ?_; rintro e w2 ⟨hb, v2, rfl, hs2⟩; have HB := Lib.hid (HA.out.step hb); obtain ⟨a2, cap2, he, -⟩ := hs2.ex; rw [hlen] at he; subst he; have H2 := Lib.hid hs2; clear hb hs2 q1 q2 q3 q4 q5 q6 q7; obtain ⟨q1, q2, q3, q4, q5, q6, q7⟩ := HB.out.facts)
    | (go_at_call 32; refine (great32 _ l _ (HV.out.mono HA.out.below) hs hl).mono ?_; rw [hg]; rintro e w2 ⟨rfl, rfl⟩)
    | (go_at_call 31; refine (alive31 _).mono ?_; rintro e w1 ⟨rfl, hb⟩; have HA := Lib.hid (Cs.start hb); clear hb; obtain ⟨q1, q2, q3, q4, q5, q6, q7⟩ := HA.out.facts))
  go_loopw [10, 12] (fun t j W => ∃ k : Nat, 1 ≤ k ∧ k ≤ 16 ∧ j = .int .i64 k ∧ t = .int .i64 (turnN r r2 k) ∧ Hid (Lq w r pc s w2.heap.size r2 p2 (.slice a0 l.length cap0) l (.slice a2 l.length cap2) l2 W)) (fun _ j _ => 16 - (intOf j).toNat)
  case atStart => exact ⟨1, by omega, by omega, rfl, rfl, ⟨below_step HB.out.below (below_two _ _ _), (keep HB.out.c (below_two _ _ _)), (keep HB.out.s (below_two _ _ _)), (heap_alloc_at _ _ _ (by rw [alloc_size]; omega)).trans (heap_alloc_new _ _), ((HV.out.mono HB.out.below).alloc _).alloc _, (H2.out.alloc _).alloc _⟩⟩
  case round =>
    obtain ⟨k, k1, k2, rfl, rfl, HQ⟩ := hrel
    by_cases hlt : k < 16
    · have i0 : (0 : Int) ≤ k := by omega
      have i1 : (k : Int) < 16 := by omega
      have c1 := cell_of_heap HQ.out.d (cpuCells_get r2 p2 k hlt)
      have c2 := cell_of_heap HQ.out.c (cpuCells_get r pc k hlt)
      have ht := turnN_le r r2 k
      cases hne : (r2 k != r k) with
      | false =>
        have hup := turn_keep hne
        go_wp2_with fail
        go_quiet (fail)
        go_wp2_with fail
        go_roundw
        case rel => exact ⟨k + 1, by omega, by omega, by go_num, by rw [hup], HQ.out.drewN _⟩
        case measure => simp [intOf]; omega
      | true =>
        have hup := turn_up k1 hne
        go_wp2_with fail
        go_quiet (fail)
        go_wp2_with fail
        go_roundw
        case rel => exact ⟨k + 1, by omega, by omega, by go_num, by rw [hup]; go_num, HQ.out.drewN _⟩
        case measure => simp [intOf]; omega
    · obtain rfl : k = 16 := by omega
      clear k1 k2 hlt
      go_wp2_with fail
      go_loopw [11, 13] (fun t j W => ∃ n : Nat, n ≤ l.length ∧ j = .int .i64 n ∧ t = .int .i64 (diffN l2 l n) ∧ Hid (Lq w r pc s w2.heap.size r2 p2 (.slice a0 l.length cap0) l (.slice a2 l.length cap2) l2 W)) (fun _ j _ => l.length - (intOf j).toNat)
      case atStart => exact ⟨0, by omega, rfl, rfl, HQ.out⟩
      case round =>
        clear HQ
        obtain ⟨n, n1, rfl, rfl, HQ⟩ := hrel
        by_cases hlt : n < l.length
        · have i0 : (0 : Int) ≤ n := by omega
          have i1 : (n : Int) < l.length := by omega
          obtain ⟨b, o, hc1⟩ := HQ.out.v.at0 hlt
          obtain ⟨b2, o2, hc2⟩ := HQ.out.v2.at0 (show n < l2.length by omega)
          obtain ⟨rfl, c1⟩ := hc1
          obtain ⟨rfl, c2⟩ := hc2
          have z1 : ((bAt l n).size : Int) = 128 := by rw [H1.out n hlt]; rfl
          have z2 : ((bAt l2 n).size : Int) = 128 := by rw [H2'.out n hlt]; rfl
          have e128 : (((bAt l2 n).size : Int) != 128) = false := by rw [z2]; rfl
          go_wp2_with fail
          go_loopw [14, 15] (fun m j W => ∃ k : Nat, k ≤ 16 ∧ j = .int .i64 k ∧ m = .bool (mayN s n k) ∧ W = wr) (fun _ j _ => 16 - (intOf j).toNat)
          case atStart => exact ⟨0, by omega, rfl, rfl, rfl⟩
          case round =>
            obtain ⟨k, k2, rfl, rfl, rfl⟩ := hrel
            by_cases hk : k < 16
            · obtain ⟨g1, g2, g3⟩ := spCells_get s k hk
              have c3 := cell_of_heap HQ.out.s g1
              have c4 := cell_of_heap HQ.out.s g2
              have c5 := cell_of_heap HQ.out.s g3
              clear g1 g2 g3
              have j0 : (0 : Int) ≤ k := by omega
              have j1 : (k : Int) < 16 := by omega
              cases hm : mayN s n k with
              | true =>
                have hup : mayN s n (k + 1) = true := by simp [mayN, hm]
                go_wp2_with fail
                go_roundw
                case rel => exact ⟨k + 1, by omega, by go_num, by rw [hup], trivial⟩
                case measure => simp [intOf]; omega
              | false =>
                cases hi : (s k).is with
                | false =>
                  rw [hi] at c3
                  have hup : mayN s n (k + 1) = false := by simp [mayN, hm, hi]
                  go_wp2_with fail
                  go_roundw
                  case rel => exact ⟨k + 1, by omega, by go_num, by rw [hup], trivial⟩
                  case measure => simp [intOf]; omega
                | true =>
                  rw [hi] at c3
                  cases hw : (s k).write with
                  | false =>
                    rw [hw] at c4
                    have hup : mayN s n (k + 1) = false := by simp [mayN, hm, hw]
                    go_wp2_with fail
                    go_roundw
                    case rel => exact ⟨k + 1, by omega, by go_num, by rw [hup], trivial⟩
                    case measure => simp [intOf]; omega
                  | true =>
                    rw [hw] at c4
                    have hup : mayN s n (k + 1) = ((s k).frame == (n : Int)) := by simp [mayN, hm, hi, hw]
                    go_wp2_with fail
                    go_roundw
                    case rel => exact ⟨k + 1, by omega, by go_num, by rw [hup], trivial⟩
                    case measure => simp [intOf]; omega
            · obtain rfl : k = 16 := by omega
              clear k2 hk
              have hmay := Lib.hid (HF.out n hlt)
              go_wp2_with fail
              go_loopw [11, 16] (fun t j W => ∃ k : Nat, k ≤ 128 ∧ j = .int .i64 k ∧ t = .int .i64 (diffAt l2 l n k) ∧ Hid (Lq w r pc s w2.heap.size r2 p2 (.slice (some ⟨b, o, none⟩) l.length cap0) l (.slice (some ⟨b2, o2, none⟩) l.length cap2) l2 W)) (fun _ j _ => 128 - (intOf j).toNat)
              case atStart => exact ⟨0, by omega, rfl, rfl, HQ.out⟩
              case round =>
                clear HQ c1 c2
                obtain ⟨k, k2, rfl, rfl, HQ⟩ := hrel
                by_cases hk : k < 128
                · have j0 : (0 : Int) ≤ k := by omega
                  have j1 : (k : Int) < 128 := by omega
                  have c1 := HQ.out.v.cell_at hlt
                  have c2 := HQ.out.v2.cell_at (show n < l2.length by omega)
                  have x1 := run_index_str (bAt l n) k (by rw [H1.out n hlt]; exact hk)
                  have x2 := run_index_str (bAt l2 n) k (by rw [H2'.out n hlt]; exact hk)
                  have hle := diffAt_le l2 l n k hk n1 HL.out
                  cases hne : (((byteOf (bAt l2 n) k).toNat : Int) != (byteOf (bAt l n) k).toNat) with
                  | false =>
                    have hup := diffAt_keep (n := n) hne
                    go_wp2_with fail
                    go_quiet (fail)
                    go_wp2_with fail
                    go_roundw
                    case rel => exact ⟨k + 1, by omega, by go_num, by rw [hup], HQ.out.drewN _⟩
                    case measure => simp [intOf]; omega
                  | true =>
                    have hup := diffAt_up (n := n) hne
                    have hm := hmay.out k hk (fun hh => by rw [hh] at hne; simp at hne)
                    go_wp2_with fail
                    go_quiet (fail)
                    go_wp2_with fail
                    go_roundw
                    case rel => exact ⟨k + 1, by omega, by go_num, by rw [hup]; go_num, HQ.out.drewN _⟩
                    case measure => simp [intOf]; omega
                · obtain rfl : k = 128 := by omega
                  clear k2 hk
                  have hl16 : l.length ≤ 16 := HL.out
                  go_wp2_with fail
                  go_roundw
                  case rel => exact ⟨n + 1, by omega, by go_num, rfl, HQ.out⟩
                  case measure => simp [intOf]; omega
        · obtain rfl : n = l.length := by omega
          clear n1 hlt
          have c1 := cell_of_heap HQ.out.d (cpuCells_get r2 p2 0 (by decide))
          rw [HR0.out] at c1
          have t1 := HT.out
          have d1 := HD.out
          have z1 := HZ.out
          have hbl := Lib.hid HQ.out.below
          generalize turnN r r2 16 = T at t1 z1 ⊢
          generalize diffN l2 l l.length = D at d1 z1 ⊢
          rcases z1 with rfl | rfl
          · go_wp2_with fail
            go_ret
            exact ⟨rfl, hbl.out⟩
          · cases hT : ((T : Int) == 0) with
            | true =>
              go_wp2_with fail
              go_ret
              exact ⟨rfl, hbl.out⟩
            | false =>
              go_wp2_with fail
              go_ret
              exact ⟨rfl, hbl.out⟩
end Go.Proofs.Ytlhcggaeecjbcaa
