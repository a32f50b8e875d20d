/- What an operation makes of two numbers: the closures of cpu.reckon, and cpu.reckon itself. Condition: the numbers are of 32 bits. -/
import Derived.Test.YtlhcggaeecjbcaaArgs
import Derived.Laws.BitsAllLaws
namespace Go.Proofs.Ytlhcggaeecjbcaa
open Go.RowKit

def alu (op : Nat) (b c : Int) : Int :=
  match op with
  | 1 => IntKind.u32.wrap (b + c)
  | 2 => IntKind.u32.wrap (b - c)
  | 3 => IntKind.u32.wrap (b * c)
  | 4 => if c = 0 then 4294967295 else b / c
  | 5 => if c = 0 then b else b % c
  | 6 => bits .and .u32 b c
  | 7 => bits .or .u32 b c
  | 8 => bits .xor .u32 b c
  | 9 => IntKind.u32.wrap (b * 2 ^ (c % 32).toNat)
  | 10 => b / 2 ^ (c % 32).toNat
  | 11 => IntKind.u32.wrap (wrap32 b / 2 ^ (c % 32).toNat)
  | 12 => if wrap32 b < wrap32 c then 1 else 0
  | _ => if b < c then 1 else 0

theorem and31 (c : Int) (h0 : 0 ≤ c) (h1 : c ≤ 4294967295) : bits .and .u32 c 31 = c % 32 := by
  obtain ⟨c, rfl⟩ := Int.eq_ofNat_of_zero_le h0
  rw [show (31 : Int) = ((31 : Nat) : Int) from rfl, u32_and_nat _ _ (by omega) (by decide), show (31 : Nat) = 2 ^ 5 - 1 from rfl, Nat.and_two_pow_sub_one_eq_mod]
  rfl

set_option maxRecDepth 20000 in
theorem clo1 (b c : Int) (w : World) : Calls Try.prog 76 #[.int .u32 b, .int .u32 c] w fun e w' => e = .returned (.int .u32 (alu 1 b c)) ∧ w = w' := by
  go_enter Try.func76, Try.ntmps76
  go_wp2_with fail
  go_ret
  exact ⟨rfl, rfl⟩
set_option maxRecDepth 20000 in
theorem clo2 (b c : Int) (w : World) : Calls Try.prog 77 #[.int .u32 b, .int .u32 c] w fun e w' => e = .returned (.int .u32 (alu 2 b c)) ∧ w = w' := by
  go_enter Try.func77, Try.ntmps77
  go_wp2_with fail
  go_ret
  exact ⟨rfl, rfl⟩
set_option maxRecDepth 20000 in
theorem clo3 (b c : Int) (w : World) : Calls Try.prog 78 #[.int .u32 b, .int .u32 c] w fun e w' => e = .returned (.int .u32 (alu 3 b c)) ∧ w = w' := by
  go_enter Try.func78, Try.ntmps78
  go_wp2_with fail
  go_ret
  exact ⟨rfl, rfl⟩
set_option maxRecDepth 20000 in
theorem clo4 (b c : Int) (w : World) (b0 : 0 ≤ b) (b1 : b ≤ 4294967295) (c0 : 0 ≤ c) (c1 : c ≤ 4294967295) : Calls Try.prog 79 #[.int .u32 b, .int .u32 c] w fun e w' => e = .returned (.int .u32 (alu 4 b c)) ∧ w = w' := by
  by_cases h : c = 0
  · subst h
    go_enter Try.func79, Try.ntmps79
    go_wp2_with fail
    go_ret
    exact ⟨rfl, rfl⟩
  · have e0 : (c == 0) = false := by simpa using h
    have ea : alu 4 b c = b / c := if_neg h
    have c2 : 1 ≤ c := by omega
    rw [ea]
    clear ea h
    go_enter Try.func79, Try.ntmps79
    go_wp2_with fail
    go_ret
    exact ⟨rfl, rfl⟩
set_option maxRecDepth 20000 in
theorem clo5 (b c : Int) (w : World) (b0 : 0 ≤ b) (b1 : b ≤ 4294967295) (c0 : 0 ≤ c) (c1 : c ≤ 4294967295) : Calls Try.prog 80 #[.int .u32 b, .int .u32 c] w fun e w' => e = .returned (.int .u32 (alu 5 b c)) ∧ w = w' := by
  by_cases h : c = 0
  · subst h
    go_enter Try.func80, Try.ntmps80
    go_wp2_with fail
    go_ret
    exact ⟨rfl, rfl⟩
  · have e0 : (c == 0) = false := by simpa using h
    have ea : alu 5 b c = b % c := if_neg h
    have c2 : 1 ≤ c := by omega
    rw [ea]
    clear ea h
    go_enter Try.func80, Try.ntmps80
    go_wp2_with fail
    go_ret
    exact ⟨rfl, rfl⟩
set_option maxRecDepth 20000 in
theorem clo6 (b c : Int) (w : World) : Calls Try.prog 81 #[.int .u32 b, .int .u32 c] w fun e w' => e = .returned (.int .u32 (alu 6 b c)) ∧ w = w' := by
  go_enter Try.func81, Try.ntmps81
  go_wp2_with fail
  go_ret
  exact ⟨rfl, rfl⟩
set_option maxRecDepth 20000 in
theorem clo7 (b c : Int) (w : World) : Calls Try.prog 82 #[.int .u32 b, .int .u32 c] w fun e w' => e = .returned (.int .u32 (alu 7 b c)) ∧ w = w' := by
  go_enter Try.func82, Try.ntmps82
  go_wp2_with fail
  go_ret
  exact ⟨rfl, rfl⟩
set_option maxRecDepth 20000 in
theorem clo8 (b c : Int) (w : World) : Calls Try.prog 83 #[.int .u32 b, .int .u32 c] w fun e w' => e = .returned (.int .u32 (alu 8 b c)) ∧ w = w' := by
  go_enter Try.func83, Try.ntmps83
  go_wp2_with fail
  go_ret
  exact ⟨rfl, rfl⟩
set_option maxRecDepth 20000 in
theorem clo9 (b c : Int) (w : World) (c0 : 0 ≤ c) (c1 : c ≤ 4294967295) : Calls Try.prog 84 #[.int .u32 b, .int .u32 c] w fun e w' => e = .returned (.int .u32 (alu 9 b c)) ∧ w = w' := by
  have e0 := and31 c c0 c1
  have m0 : 0 ≤ c % 32 := by omega
  have m1 : c % 32 ≤ 32 := by omega
  go_enter Try.func84, Try.ntmps84
  go_wp2_with fail
  go_ret
  exact ⟨rfl, rfl⟩
set_option maxRecDepth 20000 in
theorem clo10 (b c : Int) (w : World) (c0 : 0 ≤ c) (c1 : c ≤ 4294967295) : Calls Try.prog 85 #[.int .u32 b, .int .u32 c] w fun e w' => e = .returned (.int .u32 (alu 10 b c)) ∧ w = w' := by
  have e0 := and31 c c0 c1
  have m0 : 0 ≤ c % 32 := by omega
  have m1 : c % 32 ≤ 32 := by omega
  go_enter Try.func85, Try.ntmps85
  go_wp2_with fail
  go_ret
  exact ⟨rfl, rfl⟩
set_option maxRecDepth 20000 in
theorem clo11 (b c : Int) (w : World) (c0 : 0 ≤ c) (c1 : c ≤ 4294967295) : Calls Try.prog 86 #[.int .u32 b, .int .u32 c] w fun e w' => e = .returned (.int .u32 (alu 11 b c)) ∧ w = w' := by
  have e0 := and31 c c0 c1
  have m0 : 0 ≤ c % 32 := by omega
  have m1 : c % 32 ≤ 32 := by omega
  go_enter Try.func86, Try.ntmps86
  go_wp2_with fail
  go_ret
  exact ⟨ret_int (by rw [← IntKind.wrap_u32]; rfl), rfl⟩
set_option maxRecDepth 20000 in
theorem one_any (p : Bool) (w : World) : Calls Try.prog 88 #[.bool p] w fun e w' => e = .returned (.int .u32 (if p then 1 else 0)) ∧ w = w' := by
  cases p <;>
  · go_enter Try.func88, Try.ntmps88
    go_wp2_with fail
    go_ret
    exact ⟨rfl, rfl⟩
set_option maxRecDepth 20000 in
theorem clo12 (b c : Int) (w : World) : Calls Try.prog 87 #[.int .u32 b, .int .u32 c] w fun e w' => e = .returned (.int .u32 (alu 12 b c)) ∧ w = w' := by
  by_cases h : wrap32 b < wrap32 c
  · have e : alu 12 b c = 1 := if_pos h
    rw [e]
    clear e
    go_enter Try.func87, Try.ntmps87
    go_wp2_with (go_at_call 88; refine (one_any true _).mono ?_; rintro e w1 ⟨rfl, rfl⟩)
    go_ret
    exact ⟨rfl, rfl⟩
  · have e : alu 12 b c = 0 := if_neg h
    rw [e]
    clear e
    go_enter Try.func87, Try.ntmps87
    go_wp2_with (go_at_call 88; refine (one_any false _).mono ?_; rintro e w1 ⟨rfl, rfl⟩)
    go_ret
    exact ⟨rfl, rfl⟩
set_option maxRecDepth 20000 in
theorem clo13 (b c : Int) (w : World) : Calls Try.prog 89 #[.int .u32 b, .int .u32 c] w fun e w' => e = .returned (.int .u32 (alu 13 b c)) ∧ w = w' := by
  by_cases h : b < c
  · have e : alu 13 b c = 1 := if_pos h
    rw [e]
    clear e
    go_enter Try.func89, Try.ntmps89
    go_wp2_with (go_at_call 88; refine (one_any true _).mono ?_; rintro e w1 ⟨rfl, rfl⟩)
    go_ret
    exact ⟨rfl, rfl⟩
  · have e : alu 13 b c = 0 := if_neg h
    rw [e]
    clear e
    go_enter Try.func89, Try.ntmps89
    go_wp2_with (go_at_call 88; refine (one_any false _).mono ?_; rintro e w1 ⟨rfl, rfl⟩)
    go_ret
    exact ⟨rfl, rfl⟩

/-- The closure of an operation. -/
def aluF (op : Nat) : FuncId := if op = 13 then 89 else 75 + op
theorem ops13 {op : Nat} (h : 1 ≤ op) (h2 : op ≤ 13) : op = 1 ∨ op = 2 ∨ op = 3 ∨ op = 4 ∨ op = 5 ∨ op = 6 ∨ op = 7 ∨ op = 8 ∨ op = 9 ∨ op = 10 ∨ op = 11 ∨ op = 12 ∨ op = 13 := by omega
theorem clo_any (op : Nat) (b c : Int) (w : World) (h : 1 ≤ op) (h2 : op ≤ 13) (b0 : 0 ≤ b) (b1 : b ≤ 4294967295) (c0 : 0 ≤ c) (c1 : c ≤ 4294967295) :
    Calls Try.prog (aluF op) #[.int .u32 b, .int .u32 c] w fun e w' => e = .returned (.int .u32 (alu op b c)) ∧ w = w' := by
  rcases ops13 h h2 with rfl | rfl | rfl | rfl | rfl | rfl | rfl | rfl | rfl | rfl | rfl | rfl | rfl
  · exact clo1 b c w
  · exact clo2 b c w
  · exact clo3 b c w
  · exact clo4 b c w b0 b1 c0 c1
  · exact clo5 b c w b0 b1 c0 c1
  · exact clo6 b c w
  · exact clo7 b c w
  · exact clo8 b c w
  · exact clo9 b c w c0 c1
  · exact clo10 b c w c0 c1
  · exact clo11 b c w c0 c1
  · exact clo12 b c w
  · exact clo13 b c w
theorem clo_enter (op : Nat) (h : 1 ≤ op) (h2 : op ≤ 13) (args : Array Value) (W : World) : (callFunc (aluF op) args).run Try.prog W = .ok (.enter (aluF op) args) W := by
  rcases ops13 h h2 with rfl | rfl | rfl | rfl | rfl | rfl | rfl | rfl | rfl | rfl | rfl | rfl | rfl
  · exact Try.call76 args W
  · exact Try.call77 args W
  · exact Try.call78 args W
  · exact Try.call79 args W
  · exact Try.call80 args W
  · exact Try.call81 args W
  · exact Try.call82 args W
  · exact Try.call83 args W
  · exact Try.call84 args W
  · exact Try.call85 args W
  · exact Try.call86 args W
  · exact Try.call87 args W
  · exact Try.call89 args W

set_option maxRecDepth 20000 in
theorem reckon_any (op : Nat) (w : World) (h : 1 ≤ op) (h2 : op ≤ 13) : Calls Try.prog 53 #[.int .u8 op] w fun e w' => e = .returned (.func (.func (aluF op)) #[] #[]) ∧ w = w' := by
  rcases ops13 h h2 with rfl | rfl | rfl | rfl | rfl | rfl | rfl | rfl | rfl | rfl | rfl | rfl | rfl <;>
  · go_enter Try.func53, Try.ntmps53
    go_wp2_with fail
    go_ret
    exact ⟨rfl, rfl⟩

/-- The operation of three registers that one with a number does. -/
def likeB (op : Nat) : Nat := if op = 14 then 1 else if op = 15 then 6 else if op = 16 then 7 else if op = 17 then 8 else 12
theorem run_like0 (w : World) : (Instr.index 132 (.agg #[.int .u8 1, .int .u8 6, .int .u8 7, .int .u8 8, .int .u8 12]) (.int .u8 0)).run Try.prog w = .ok (.int .u8 1) w := by kernel_rfl
theorem run_like1 (w : World) : (Instr.index 132 (.agg #[.int .u8 1, .int .u8 6, .int .u8 7, .int .u8 8, .int .u8 12]) (.int .u8 1)).run Try.prog w = .ok (.int .u8 6) w := by kernel_rfl
theorem run_like2 (w : World) : (Instr.index 132 (.agg #[.int .u8 1, .int .u8 6, .int .u8 7, .int .u8 8, .int .u8 12]) (.int .u8 2)).run Try.prog w = .ok (.int .u8 7) w := by kernel_rfl
theorem run_like3 (w : World) : (Instr.index 132 (.agg #[.int .u8 1, .int .u8 6, .int .u8 7, .int .u8 8, .int .u8 12]) (.int .u8 3)).run Try.prog w = .ok (.int .u8 8) w := by kernel_rfl
theorem run_like4 (w : World) : (Instr.index 132 (.agg #[.int .u8 1, .int .u8 6, .int .u8 7, .int .u8 8, .int .u8 12]) (.int .u8 4)).run Try.prog w = .ok (.int .u8 12) w := by kernel_rfl
set_option maxRecDepth 20000 in
theorem alike_any (op : Nat) (w : World) (h : 14 ≤ op) (h2 : op ≤ 18) : Calls Try.prog 54 #[.int .u8 op] w fun e w' => e = .returned (.int .u8 (likeB op)) ∧ w = w' := by
  have i0 := run_like0
  have i1 := run_like1
  have i2 := run_like2
  have i3 := run_like3
  have i4 := run_like4
  have : op = 14 ∨ op = 15 ∨ op = 16 ∨ op = 17 ∨ op = 18 := by omega
  rcases this with rfl | rfl | rfl | rfl | rfl <;>
  · go_enter Try.func54, Try.ntmps54
    go_wp2_with fail
    go_ret
    exact ⟨rfl, rfl⟩

/-- Whether a branch is taken. -/
def goesB (op : Nat) (a b : Int) : Bool := if op = 25 then a == b else if op = 26 then a != b else if op = 27 then decide (wrap32 a < wrap32 b) else decide (a < b)
set_option maxRecDepth 20000 in
theorem jumps_any (op : Nat) (a b : Int) (w : World) (h : 25 ≤ op) (h2 : op ≤ 28) : Calls Try.prog 56 #[.int .u8 op, .int .u32 a, .int .u32 b] w fun e w' => e = .returned (.bool (goesB op a b)) ∧ w = w' := by
  have : op = 25 ∨ op = 26 ∨ op = 27 ∨ op = 28 := by omega
  rcases this with rfl | rfl | rfl | rfl <;>
  · go_enter Try.func56, Try.ntmps56
    go_wp2_with fail
    go_ret
    exact ⟨rfl, rfl⟩
end Go.Proofs.Ytlhcggaeecjbcaa
