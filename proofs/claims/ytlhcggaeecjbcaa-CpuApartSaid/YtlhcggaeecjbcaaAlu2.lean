/- What ref14 makes of two numbers: the same. Condition: the numbers are of 32 bits. -/
import Derived.Test.YtlhcggaeecjbcaaAlu1
namespace Go.Proofs.Ytlhcggaeecjbcaa
open Go.RowKit

set_option maxRecDepth 20000 in
theorem power_nat : ∀ (n : Nat), n ≤ 32 → ∀ w, Calls Try.prog 90 #[.int .u32 n] w fun e w' => e = .returned (.int .u64 ((2 ^ n : Nat) : Int)) ∧ w = w'
  | 0, _, w => by
    go_enter Try.func90, Try.ntmps90
    go_wp2_with fail
    go_ret
    exact ⟨rfl, rfl⟩
  | n + 1, hn, w => by
    have ih := power_nat n (by omega)
    have hp : 2 ^ (n + 1) = 2 * 2 ^ n := by rw [Nat.pow_succ, Nat.mul_comm]
    have hle : 2 ^ n ≤ 2 ^ 32 := Nat.pow_le_pow_right (by decide) (by omega)
    rw [hp]
    generalize 2 ^ n = p at ih hle ⊢
    have hp2 : p ≤ 4294967296 := hle
    clear hp hle
    have IH := Lib.hid ih
    clear ih
    go_enter Try.func90, Try.ntmps90
    go_wp2_with (go_at_call 90; refine (IH.out _).mono ?_; rintro e w1 ⟨rfl, rfl⟩)
    go_ret
    exact ⟨ret_int (by go_num), rfl⟩
theorem power_any (n : Int) (w : World) (h0 : 0 ≤ n) (h1 : n ≤ 32) : Calls Try.prog 90 #[.int .u32 n] w fun e w' => e = .returned (.int .u64 (2 ^ n.toNat)) ∧ w = w' := by
  obtain ⟨n, rfl⟩ := Int.eq_ofNat_of_zero_le h0
  refine (power_nat n (by omega) w).mono ?_
  rintro e w' ⟨rfl, rfl⟩
  exact ⟨ret_int (by push_cast; rfl), rfl⟩

set_option maxRecDepth 20000 in
theorem signed_any (x : Int) (w : World) (h0 : 0 ≤ x) (h1 : x ≤ 4294967295) : Calls Try.prog 91 #[.int .u32 x] w fun e w' => e = .returned (.int .i64 (wrap32 x)) ∧ w = w' := by
  by_cases h : 2147483648 ≤ x
  · have e : wrap32 x = x - 4294967296 := by unfold wrap32; omega
    rw [e]
    clear e
    go_enter Try.func91, Try.ntmps91
    go_wp2_with fail
    go_ret
    exact ⟨rfl, rfl⟩
  · have e : wrap32 x = x := by unfold wrap32; omega
    rw [e]
    clear e
    go_enter Try.func91, Try.ntmps91
    go_wp2_with fail
    go_ret
    exact ⟨rfl, rfl⟩
set_option maxRecDepth 20000 in
theorem truth_any (p : Bool) (w : World) : Calls Try.prog 92 #[.bool p] w fun e w' => e = .returned (.int .u32 (if p then 1 else 0)) ∧ w = w' := by
  cases p <;>
  · go_enter Try.func92, Try.ntmps92
    go_wp2_with fail
    go_ret
    exact ⟨rfl, rfl⟩
set_option maxRecDepth 20000 in
theorem less_any (b c : Int) (w : World) (b0 : 0 ≤ b) (b1 : b ≤ 4294967295) (c0 : 0 ≤ c) (c1 : c ≤ 4294967295) : Calls Try.prog 93 #[.int .u32 b, .int .u32 c] w fun e w' => e = .returned (.bool (decide (wrap32 b < wrap32 c))) ∧ w = w' := by
  have hb := Lib.hid (signed_any b · b0 b1)
  have hc := Lib.hid (signed_any c · c0 c1)
  generalize wrap32 b = x at hb ⊢
  generalize wrap32 c = y at hc ⊢
  go_enter Try.func93, Try.ntmps93
  go_wp2_with (first | (go_at_call 91; with_reducible refine (hb.out _).mono ?_; rintro e w1 ⟨rfl, rfl⟩) | (go_at_call 91; with_reducible refine (hc.out _).mono ?_; rintro e w1 ⟨rfl, rfl⟩))
  go_ret
  exact ⟨rfl, rfl⟩
set_option maxRecDepth 20000 in
theorem three1 (b c : Int) (w : World) : Calls Try.prog 60 #[.int .u8 1, .int .u32 b, .int .u32 c] w fun e w' => e = .returned (.int .u32 (alu 1 b c)) ∧ w = w' := by
  go_enter Try.func60, Try.ntmps60
  go_wp2_with fail
  go_ret
  exact ⟨rfl, rfl⟩
set_option maxRecDepth 20000 in
theorem three2 (b c : Int) (w : World) : Calls Try.prog 60 #[.int .u8 2, .int .u32 b, .int .u32 c] w fun e w' => e = .returned (.int .u32 (alu 2 b c)) ∧ w = w' := by
  go_enter Try.func60, Try.ntmps60
  go_wp2_with fail
  go_ret
  exact ⟨rfl, rfl⟩
set_option maxRecDepth 20000 in
theorem three3 (b c : Int) (w : World) : Calls Try.prog 60 #[.int .u8 3, .int .u32 b, .int .u32 c] w fun e w' => e = .returned (.int .u32 (alu 3 b c)) ∧ w = w' := by
  go_enter Try.func60, Try.ntmps60
  go_wp2_with fail
  go_ret
  exact ⟨rfl, rfl⟩
set_option maxRecDepth 20000 in
theorem three6 (b c : Int) (w : World) : Calls Try.prog 60 #[.int .u8 6, .int .u32 b, .int .u32 c] w fun e w' => e = .returned (.int .u32 (alu 6 b c)) ∧ w = w' := by
  go_enter Try.func60, Try.ntmps60
  go_wp2_with fail
  go_ret
  exact ⟨rfl, rfl⟩
set_option maxRecDepth 20000 in
theorem three7 (b c : Int) (w : World) : Calls Try.prog 60 #[.int .u8 7, .int .u32 b, .int .u32 c] w fun e w' => e = .returned (.int .u32 (alu 7 b c)) ∧ w = w' := by
  go_enter Try.func60, Try.ntmps60
  go_wp2_with fail
  go_ret
  exact ⟨rfl, rfl⟩
set_option maxRecDepth 20000 in
theorem three8 (b c : Int) (w : World) : Calls Try.prog 60 #[.int .u8 8, .int .u32 b, .int .u32 c] w fun e w' => e = .returned (.int .u32 (alu 8 b c)) ∧ w = w' := by
  go_enter Try.func60, Try.ntmps60
  go_wp2_with fail
  go_ret
  exact ⟨rfl, rfl⟩
set_option maxRecDepth 20000 in
theorem three4 (b c : Int) (w : World) (b0 : 0 ≤ b) (b1 : b ≤ 4294967295) (c0 : 0 ≤ c) (c1 : c ≤ 4294967295) : Calls Try.prog 60 #[.int .u8 4, .int .u32 b, .int .u32 c] w fun e w' => e = .returned (.int .u32 (alu 4 b c)) ∧ w = w' := by
  by_cases h : c = 0
  · subst h
    go_enter Try.func60, Try.ntmps60
    go_wp2_with fail
    go_ret
    exact ⟨rfl, rfl⟩
  · have e0 : (c == 0) = false := by simpa using h
    have ea : alu 4 b c = b / c := if_neg h
    have c2 : 1 ≤ c := by omega
    rw [ea]
    clear ea h
    go_enter Try.func60, Try.ntmps60
    go_wp2_with fail
    go_ret
    exact ⟨rfl, rfl⟩
set_option maxRecDepth 100000 in
theorem three5 (b c : Int) (w : World) (b0 : 0 ≤ b) (b1 : b ≤ 4294967295) (c0 : 0 ≤ c) (c1 : c ≤ 4294967295) : Calls Try.prog 60 #[.int .u8 5, .int .u32 b, .int .u32 c] w fun e w' => e = .returned (.int .u32 (alu 5 b c)) ∧ w = w' := by
  by_cases h : c = 0
  · subst h
    go_enter Try.func60, Try.ntmps60
    go_wp2_with fail
    go_ret
    exact ⟨rfl, rfl⟩
  · have e0 : (c == 0) = false := by simpa using h
    have ea : alu 5 b c = b % c := if_neg h
    have c2 : 1 ≤ c := by omega
    rw [ea]
    clear ea h
    go_enter Try.func60, Try.ntmps60
    go_wp2_with fail
    go_ret
    exact ⟨rfl, rfl⟩
theorem pow_lt {k : Nat} (h : k ≤ 31) : 1 ≤ (2 : Int) ^ k ∧ (2 : Int) ^ k ≤ 2147483648 := by
  have h1 : 2 ^ k ≤ 2147483648 := Nat.le_trans (Nat.pow_le_pow_right (by decide) h) (by decide : 2 ^ 31 ≤ 2147483648)
  have h2 : 1 ≤ 2 ^ k := Nat.one_le_two_pow
  have e : ((2 ^ k : Nat) : Int) = (2 : Int) ^ k := by rw [Int.natCast_pow]; rfl
  rw [← e]
  exact ⟨Int.ofNat_le.2 h2, Int.ofNat_le.2 h1⟩
set_option maxRecDepth 20000 in
theorem three9 (b c : Int) (w : World) (b0 : 0 ≤ b) (b1 : b ≤ 4294967295) (c0 : 0 ≤ c) (c1 : c ≤ 4294967295) : Calls Try.prog 60 #[.int .u8 9, .int .u32 b, .int .u32 c] w fun e w' => e = .returned (.int .u32 (alu 9 b c)) ∧ w = w' := by
  have hp := Lib.hid (power_any (c % 32) · (by omega) (by omega))
  obtain ⟨p1, p2⟩ := pow_lt (k := (c % 32).toNat) (by omega)
  have e : alu 9 b c = b * 2 ^ (c % 32).toNat % 4294967296 := IntKind.wrap_u32 _
  rw [e]
  clear e
  generalize (2 : Int) ^ (c % 32).toNat = p at hp p1 p2 ⊢
  have hm : b * p ≤ 4294967295 * 2147483648 := Int.mul_le_mul b1 p2 (by omega) (by omega)
  have hm0 : 0 ≤ b * p := Int.mul_nonneg b0 (by omega)
  generalize hq : b * p = q at hm hm0 ⊢
  go_enter Try.func60, Try.ntmps60
  go_wp2_with (go_at_call 90; refine (hp.out _).mono ?_; rintro e w1 ⟨rfl, rfl⟩)
  go_ret
  exact ⟨rfl, rfl⟩
set_option maxRecDepth 20000 in
theorem three10 (b c : Int) (w : World) (b0 : 0 ≤ b) (b1 : b ≤ 4294967295) (c0 : 0 ≤ c) (c1 : c ≤ 4294967295) : Calls Try.prog 60 #[.int .u8 10, .int .u32 b, .int .u32 c] w fun e w' => e = .returned (.int .u32 (alu 10 b c)) ∧ w = w' := by
  have hp := Lib.hid (power_any (c % 32) · (by omega) (by omega))
  obtain ⟨p1, p2⟩ := pow_lt (k := (c % 32).toNat) (by omega)
  have e : alu 10 b c = b / 2 ^ (c % 32).toNat := rfl
  rw [e]
  clear e
  generalize (2 : Int) ^ (c % 32).toNat = p at hp p1 p2 ⊢
  have hm : b / p ≤ 4294967295 := Int.le_trans (Int.ediv_le_self _ b0) b1
  have hm0 : 0 ≤ b / p := Int.ediv_nonneg b0 (by omega)
  go_enter Try.func60, Try.ntmps60
  go_wp2_with (go_at_call 90; refine (hp.out _).mono ?_; rintro e w1 ⟨rfl, rfl⟩)
  go_ret
  exact ⟨rfl, rfl⟩
theorem pow_two (k : Nat) (h : k ≤ 31) : (2 : Int) ^ (32 - k) * 2 ^ k = 4294967296 := by
  rw [← Int.pow_add, show 32 - k + k = 32 from by omega]
  decide
set_option maxRecDepth 20000 in
theorem three11 (b c : Int) (w : World) (b0 : 0 ≤ b) (b1 : b ≤ 4294967295) (c0 : 0 ≤ c) (c1 : c ≤ 4294967295) : Calls Try.prog 60 #[.int .u8 11, .int .u32 b, .int .u32 c] w fun e w' => e = .returned (.int .u32 (alu 11 b c)) ∧ w = w' := by
  have hp := Lib.hid (power_any (c % 32) · (by omega) (by omega))
  have hq := Lib.hid (power_any (32 - c % 32) · (by omega) (by omega))
  have hs := Lib.hid (signed_any b · b0 b1)
  obtain ⟨p1, p2⟩ := pow_lt (k := (c % 32).toNat) (by omega)
  have hpq := pow_two (c % 32).toNat (by omega)
  rw [show (32 : Nat) - (c % 32).toNat = (32 - c % 32).toNat from by omega] at hpq
  have e : alu 11 b c = IntKind.u32.wrap (wrap32 b / 2 ^ (c % 32).toNat) := rfl
  rw [e, IntKind.wrap_u32]
  clear e
  generalize (2 : Int) ^ (c % 32).toNat = p at hp p1 p2 hpq ⊢
  generalize (2 : Int) ^ (32 - c % 32).toNat = q at hq hpq
  have hm : b / p ≤ 4294967295 := Int.le_trans (Int.ediv_le_self _ b0) b1
  have hm0 : 0 ≤ b / p := Int.ediv_nonneg b0 (by omega)
  by_cases h : 2147483648 ≤ b
  · have e1 : wrap32 b = b - 4294967296 := by unfold wrap32; omega
    have e2 : (b - 4294967296) / p = b / p - q := by
      rw [← hpq, Int.sub_eq_add_neg, ← Int.neg_mul, Int.add_mul_ediv_right _ _ (by omega), Int.sub_eq_add_neg]
    have hq0 : 1 ≤ q := by
      rcases Int.lt_or_le 0 q with h | h
      · omega
      · have := Int.mul_nonpos_of_nonpos_of_nonneg h (by omega : 0 ≤ p)
        omega
    have hq1 : q ≤ 4294967296 := by
      have := Int.mul_le_mul_of_nonneg_left p1 (by omega : 0 ≤ q)
      omega
    rw [e1, e2]
    rw [e1] at hs
    have hneg : decide (b - 4294967296 < 0) = true := by simp only [decide_eq_true_eq]; omega
    clear e1 e2 hpq h
    go_enter Try.func60, Try.ntmps60
    go_wp2_with (first | (go_at_call 90; with_reducible refine (hp.out _).mono ?_; rintro e w1 ⟨rfl, rfl⟩) | (go_at_call 90; with_reducible refine (hq.out _).mono ?_; rintro e w1 ⟨rfl, rfl⟩) | (go_at_call 91; refine (hs.out _).mono ?_; rintro e w1 ⟨rfl, rfl⟩))
    go_ret
    exact ⟨ret_int (by omega), rfl⟩
  · have e1 : wrap32 b = b := by unfold wrap32; omega
    rw [e1, Int.emod_eq_of_lt hm0 (by omega)]
    rw [e1] at hs
    have hneg : decide (b < 0) = false := by simp only [decide_eq_false_iff_not]; omega
    clear e1 hpq h
    go_enter Try.func60, Try.ntmps60
    go_wp2_with (first | (go_at_call 90; with_reducible refine (hp.out _).mono ?_; rintro e w1 ⟨rfl, rfl⟩) | (go_at_call 91; refine (hs.out _).mono ?_; rintro e w1 ⟨rfl, rfl⟩))
    go_ret
    exact ⟨rfl, rfl⟩
set_option maxRecDepth 20000 in
theorem three12 (b c : Int) (w : World) (b0 : 0 ≤ b) (b1 : b ≤ 4294967295) (c0 : 0 ≤ c) (c1 : c ≤ 4294967295) : Calls Try.prog 60 #[.int .u8 12, .int .u32 b, .int .u32 c] w fun e w' => e = .returned (.int .u32 (alu 12 b c)) ∧ w = w' := by
  by_cases h : wrap32 b < wrap32 c
  · have e : alu 12 b c = 1 := if_pos h
    have HL := Lib.hid (less_any b c · b0 b1 c0 c1)
    rw [e]
    rw [decide_eq_true h] at HL
    clear e
    go_enter Try.func60, Try.ntmps60
    go_wp2_with (first | (go_at_call 93; refine (HL.out _).mono ?_; rintro e w1 ⟨rfl, rfl⟩) | (go_at_call 92; refine (truth_any true _).mono ?_; rintro e w1 ⟨rfl, rfl⟩))
    go_ret
    exact ⟨rfl, rfl⟩
  · have e : alu 12 b c = 0 := if_neg h
    have HL := Lib.hid (less_any b c · b0 b1 c0 c1)
    rw [e]
    rw [decide_eq_false h] at HL
    clear e
    go_enter Try.func60, Try.ntmps60
    go_wp2_with (first | (go_at_call 93; refine (HL.out _).mono ?_; rintro e w1 ⟨rfl, rfl⟩) | (go_at_call 92; refine (truth_any false _).mono ?_; rintro e w1 ⟨rfl, rfl⟩))
    go_ret
    exact ⟨rfl, rfl⟩
set_option maxRecDepth 20000 in
theorem three13 (b c : Int) (w : World) : Calls Try.prog 60 #[.int .u8 13, .int .u32 b, .int .u32 c] w fun e w' => e = .returned (.int .u32 (alu 13 b c)) ∧ w = w' := by
  by_cases h : b < c
  · have e : alu 13 b c = 1 := if_pos h
    rw [e]
    clear e
    go_enter Try.func60, Try.ntmps60
    go_wp2_with (go_at_call 92; refine (truth_any true _).mono ?_; rintro e w1 ⟨rfl, rfl⟩)
    go_ret
    exact ⟨rfl, rfl⟩
  · have e : alu 13 b c = 0 := if_neg h
    rw [e]
    clear e
    go_enter Try.func60, Try.ntmps60
    go_wp2_with (go_at_call 92; refine (truth_any false _).mono ?_; rintro e w1 ⟨rfl, rfl⟩)
    go_ret
    exact ⟨rfl, rfl⟩
theorem three_any (op : Nat) (b c : Int) (w : World) (h : 1 ≤ op) (h2 : op ≤ 13) (b0 : 0 ≤ b) (b1 : b ≤ 4294967295) (c0 : 0 ≤ c) (c1 : c ≤ 4294967295) :
    Calls Try.prog 60 #[.int .u8 op, .int .u32 b, .int .u32 c] w fun e w' => e = .returned (.int .u32 (alu op b c)) ∧ w = w' := by
  rcases ops13 h h2 with rfl | rfl | rfl | rfl | rfl | rfl | rfl | rfl | rfl | rfl | rfl | rfl | rfl
  · exact three1 b c w
  · exact three2 b c w
  · exact three3 b c w
  · exact three4 b c w b0 b1 c0 c1
  · exact three5 b c w b0 b1 c0 c1
  · exact three6 b c w
  · exact three7 b c w
  · exact three8 b c w
  · exact three9 b c w b0 b1 c0 c1
  · exact three10 b c w b0 b1 c0 c1
  · exact three11 b c w b0 b1 c0 c1
  · exact three12 b c w b0 b1 c0 c1
  · exact three13 b c w

set_option maxRecDepth 20000 in
theorem goes_any (op : Nat) (a b : Int) (w : World) (h : 25 ≤ op) (h2 : op ≤ 28) (a0 : 0 ≤ a) (a1 : a ≤ 4294967295) (b0 : 0 ≤ b) (b1 : b ≤ 4294967295) : Calls Try.prog 62 #[.int .u8 op, .int .u32 a, .int .u32 b] w fun e w' => e = .returned (.bool (goesB op a b)) ∧ w = w' := by
  have HL := Lib.hid (less_any a b · a0 a1 b0 b1)
  have : op = 25 ∨ op = 26 ∨ op = 27 ∨ op = 28 := by omega
  rcases this with rfl | rfl | rfl | rfl <;>
  · go_enter Try.func62, Try.ntmps62
    go_wp2_with (go_at_call 93; refine (HL.out _).mono ?_; rintro e w1 ⟨rfl, rfl⟩)
    go_ret
    exact ⟨rfl, rfl⟩
set_option maxRecDepth 20000 in
theorem number_any (n : Int) (w : World) : Calls Try.prog 58 #[.int .i32 n] w fun e w' => e = .returned (.int .u32 (IntKind.u32.wrap n)) ∧ w = w' := by
  go_enter Try.func58, Try.ntmps58
  go_wp2_with fail
  go_ret
  exact ⟨ret_int (by rw [IntKind.wrap_u32]), rfl⟩
end Go.Proofs.Ytlhcggaeecjbcaa
