/- The contracts of the instructions' forms, in both packages (isa.form, has, fits; ref10.Form, plain). Condition: an operation is a byte. -/
import Derived.Test.YtlhcggaeecjbcaaArgs
namespace Go.Proofs.Ytlhcggaeecjbcaa
open Go.RowKit

def formsB : ByteArray := ⟨#[114, 114, 114, 114, 114, 114, 114, 114, 114, 114, 114, 114, 114, 105, 105, 105, 105, 105, 108, 109, 109, 109, 109, 109, 105, 105, 105, 105, 108, 109, 110]⟩
/-- What an operation has: a sign (r 114, i 105, l 108, m 109, n 110), or 0. -/
def opF (op : Nat) : Nat := if op = 0 then 0 else if op ≤ 13 then 114 else if op ≤ 18 then 105 else if op = 19 then 108 else if op ≤ 24 then 109 else if op ≤ 28 then 105 else if op = 29 then 108 else if op = 30 then 109 else if op = 31 then 110 else 0
def plainB (op : Nat) : Bool := op == 15 || op == 16 || op == 17 || op == 19 || op == 31
def fitsB (op : Nat) (n : Int) : Bool := if plainB op then decide (0 ≤ n) && decide (n ≤ 65535) else decide (-32768 ≤ n) && decide (n ≤ 32767)
def refF (op : Nat) : Int := if opF op = 114 then 1 else if opF op = 105 then 2 else if opF op = 108 then 3 else if opF op = 109 then 4 else if opF op = 110 then 5 else 0

theorem ops_cases {op : Nat} (h : 1 ≤ op) (h2 : op ≤ 31) : op = 1 ∨ op = 2 ∨ op = 3 ∨ op = 4 ∨ op = 5 ∨ op = 6 ∨ op = 7 ∨ op = 8 ∨ op = 9 ∨ op = 10 ∨ op = 11 ∨ op = 12 ∨ op = 13 ∨ op = 14 ∨ op = 15 ∨ op = 16 ∨ op = 17 ∨ op = 18 ∨ op = 19 ∨ op = 20 ∨ op = 21 ∨ op = 22 ∨ op = 23 ∨ op = 24 ∨ op = 25 ∨ op = 26 ∨ op = 27 ∨ op = 28 ∨ op = 29 ∨ op = 30 ∨ op = 31 := by omega

theorem run_index_forms (op : Nat) (h : 1 ≤ op) (h2 : op ≤ 31) (w : World) : (Instr.index 9 (.string formsB) (.int .u8 ((op : Int) - 1))).run Try.prog w = .ok (.int .u8 (opF op)) w := by
  rcases ops_cases h h2 with rfl | rfl | rfl | rfl | rfl | rfl | rfl | rfl | rfl | rfl | rfl | rfl | rfl | rfl | rfl | rfl | rfl | rfl | rfl | rfl | rfl | rfl | rfl | rfl | rfl | rfl | rfl | rfl | rfl | rfl | rfl <;> (show _ = _; kernel_rfl)

set_option maxRecDepth 20000 in
theorem form_any (op : Nat) (w : World) (h : op ≤ 255) : Calls Try.prog 65 #[.int .u8 op] w fun e w' => e = .returned (.int .u8 (opF op)) ∧ w = w' := by
  by_cases h0 : op < 1
  · have e0 : opF op = 0 := by unfold opF; rw [if_pos (by omega)]
    have c0 : decide ((op : Int) < 1) = true := by simp only [decide_eq_true_eq]; omega
    rw [e0]
    go_enter Try.func65, Try.ntmps65
    go_wp2_with fail
    go_ret
    exact ⟨rfl, rfl⟩
  · by_cases h1 : 31 < op
    · have e0 : opF op = 0 := by
        unfold opF
        rw [if_neg (by omega), if_neg (by omega), if_neg (by omega), if_neg (by omega), if_neg (by omega), if_neg (by omega), if_neg (by omega), if_neg (by omega), if_neg (by omega)]
      have c0 : decide ((op : Int) < 1) = false := by simp; omega
      have c1 : decide ((31 : Int) < op) = true := by simp only [decide_eq_true_eq]; omega
      rw [e0]
      go_enter Try.func65, Try.ntmps65
      go_wp2_with fail
      go_ret
      exact ⟨rfl, rfl⟩
    · have c0 : decide ((op : Int) < 1) = false := by simp; omega
      have c1 : decide ((31 : Int) < op) = false := by simp; omega
      have hidx := run_index_forms op (by omega) (by omega)
      unfold formsB at hidx
      go_enter Try.func65, Try.ntmps65
      go_wp2_with fail
      go_ret
      exact ⟨rfl, rfl⟩

theorem results_tmp4 {fn : Func} {t u v x : Tmp} (h : fn.results = #[.tmp t, .tmp u, .tmp v, .tmp x]) (tmps : Array Value) (P : Program) (w : World) :
    (results fn tmps).run P w = .ok (.tuple #[(tmps[t]?).getD undef, (tmps[u]?).getD undef, (tmps[v]?).getD undef, (tmps[x]?).getD undef]) w := by
  simp [results, h, go_sem]
def IsForm (f : Nat) : Prop := f = 0 ∨ f = 114 ∨ f = 105 ∨ f = 108 ∨ f = 109 ∨ f = 110
theorem opF_form (op : Nat) : IsForm (opF op) := by
  unfold opF IsForm
  repeat' split
  all_goals simp
def hasOut (f : Nat) : Value := .tuple #[.bool (f != 110), .bool (f == 114 || f == 105 || f == 109), .bool (f == 114), .bool (f != 114)]
set_option maxRecDepth 20000 in
theorem has_any (f : Nat) (w : World) (h : IsForm f) : Calls Try.prog 66 #[.int .u8 f] w fun e w' => e = .returned (hasOut f) ∧ w = w' := by
  rcases h with rfl | rfl | rfl | rfl | rfl | rfl <;>
  · go_enter Try.func66, Try.ntmps66
    go_wp2_with fail
    refine bodyPost_ret (results_tmp4 rfl _ _ _) rfl ?_
    exact ⟨rfl, rfl⟩

theorem plain_table : ((List.range 256).all fun op => decide (0 ≤ Lib.indexByte [15, 16, 17, 19, 31] op.toUInt8) == plainB op) = true := by kernel_rfl
theorem plain_index (op : Nat) (h : op ≤ 255) : decide (0 ≤ Lib.indexByte [15, 16, 17, 19, 31] op.toUInt8) = plainB op := by
  have := List.all_eq_true.1 plain_table op (by simp; omega)
  simpa using this
set_option maxRecDepth 20000 in
theorem fits_any (op : Nat) (n : Int) (w : World) (h : op ≤ 255) : Calls Try.prog 67 #[.int .u8 op, .int .i32 n] w fun e w' => e = .returned (.bool (fitsB op n)) ∧ w = w' := by
  have hp := plain_index op h
  cases hb : plainB op with
  | true =>
    rw [hb] at hp
    have e : fitsB op n = (decide (0 ≤ n) && decide (n ≤ 65535)) := by unfold fitsB; rw [hb]; rfl
    rw [e]
    clear e hb
    by_cases h1 : 0 ≤ n
    · go_enter Try.func67, Try.ntmps67
      go_wp2_with (go_at_call 75; refine (Try.strings_IndexByte ⟨#[15, 16, 17, 19, 31]⟩ op _).mono ?_; rintro e w1 ⟨rfl, rfl⟩)
      go_ret
      exact ⟨by rw [decide_eq_true h1]; rfl, rfl⟩
    · go_enter Try.func67, Try.ntmps67
      go_wp2_with (go_at_call 75; refine (Try.strings_IndexByte ⟨#[15, 16, 17, 19, 31]⟩ op _).mono ?_; rintro e w1 ⟨rfl, rfl⟩)
      go_ret
      exact ⟨by rw [decide_eq_false (by omega)]; rfl, rfl⟩
  | false =>
    rw [hb] at hp
    have e : fitsB op n = (decide (-32768 ≤ n) && decide (n ≤ 32767)) := by unfold fitsB; rw [hb]; rfl
    rw [e]
    clear e hb
    by_cases h1 : -32768 ≤ n
    · go_enter Try.func67, Try.ntmps67
      go_wp2_with (go_at_call 75; refine (Try.strings_IndexByte ⟨#[15, 16, 17, 19, 31]⟩ op _).mono ?_; rintro e w1 ⟨rfl, rfl⟩)
      go_ret
      exact ⟨by rw [decide_eq_true h1]; rfl, rfl⟩
    · go_enter Try.func67, Try.ntmps67
      go_wp2_with (go_at_call 75; refine (Try.strings_IndexByte ⟨#[15, 16, 17, 19, 31]⟩ op _).mono ?_; rintro e w1 ⟨rfl, rfl⟩)
      go_ret
      exact ⟨by rw [decide_eq_false (by omega)]; rfl, rfl⟩

theorem ranges (op : Nat) : op = 0 ∨ (1 ≤ op ∧ op ≤ 13) ∨ (14 ≤ op ∧ op ≤ 18) ∨ op = 19 ∨ (20 ≤ op ∧ op ≤ 24) ∨ (25 ≤ op ∧ op ≤ 28) ∨ op = 29 ∨ op = 30 ∨ op = 31 ∨ 32 ≤ op := by omega
theorem opF_r {op : Nat} (h : 1 ≤ op ∧ op ≤ 13) : opF op = 114 := by unfold opF; rw [if_neg (by omega), if_pos (by omega)]
theorem opF_i {op : Nat} (h : 14 ≤ op ∧ op ≤ 18) : opF op = 105 := by unfold opF; rw [if_neg (by omega), if_neg (by omega), if_pos (by omega)]
theorem opF_m {op : Nat} (h : 20 ≤ op ∧ op ≤ 24) : opF op = 109 := by unfold opF; rw [if_neg (by omega), if_neg (by omega), if_neg (by omega), if_neg (by omega), if_pos (by omega)]
theorem opF_b {op : Nat} (h : 25 ≤ op ∧ op ≤ 28) : opF op = 105 := by unfold opF; rw [if_neg (by omega), if_neg (by omega), if_neg (by omega), if_neg (by omega), if_neg (by omega), if_pos (by omega)]
theorem opF_0 {op : Nat} (h : 32 ≤ op) : opF op = 0 := by
  unfold opF
  rw [if_neg (by omega), if_neg (by omega), if_neg (by omega), if_neg (by omega), if_neg (by omega), if_neg (by omega), if_neg (by omega), if_neg (by omega), if_neg (by omega)]

set_option maxRecDepth 20000 in
theorem rform_any (op : Nat) (w : World) (h : op ≤ 255) : Calls Try.prog 63 #[.int .u8 op] w fun e w' => e = .returned (.int .i64 (refF op)) ∧ w = w' := by
  unfold refF
  rcases ranges op with rfl | h1 | h1 | rfl | h1 | h1 | rfl | rfl | rfl | h1
  · go_enter Try.func63, Try.ntmps63
    go_wp2_with fail
    go_ret
    exact ⟨rfl, rfl⟩
  · rw [opF_r h1]
    obtain ⟨h1, h2⟩ := h1
    go_enter Try.func63, Try.ntmps63
    go_wp2_with fail
    go_ret
    exact ⟨rfl, rfl⟩
  · rw [opF_i h1]
    obtain ⟨h1, h2⟩ := h1
    go_enter Try.func63, Try.ntmps63
    go_wp2_with fail
    go_ret
    exact ⟨rfl, rfl⟩
  · go_enter Try.func63, Try.ntmps63
    go_wp2_with fail
    go_ret
    exact ⟨rfl, rfl⟩
  · rw [opF_m h1]
    obtain ⟨h1, h2⟩ := h1
    have e19 : ((op : Int) == 19) = false := by simp; omega
    have e29 : ((op : Int) == 29) = false := by simp; omega
    go_enter Try.func63, Try.ntmps63
    go_wp2_with fail
    go_ret
    exact ⟨rfl, rfl⟩
  · rw [opF_b h1]
    obtain ⟨h1, h2⟩ := h1
    have e19 : ((op : Int) == 19) = false := by simp; omega
    have e29 : ((op : Int) == 29) = false := by simp; omega
    go_enter Try.func63, Try.ntmps63
    go_wp2_with fail
    go_ret
    exact ⟨rfl, rfl⟩
  · go_enter Try.func63, Try.ntmps63
    go_wp2_with fail
    go_ret
    exact ⟨rfl, rfl⟩
  · go_enter Try.func63, Try.ntmps63
    go_wp2_with fail
    go_ret
    exact ⟨rfl, rfl⟩
  · go_enter Try.func63, Try.ntmps63
    go_wp2_with fail
    go_ret
    exact ⟨rfl, rfl⟩
  · rw [opF_0 h1]
    have e19 : ((op : Int) == 19) = false := by simp; omega
    have e29 : ((op : Int) == 29) = false := by simp; omega
    have e30 : ((op : Int) == 30) = false := by simp; omega
    have e31 : ((op : Int) == 31) = false := by simp; omega
    go_enter Try.func63, Try.ntmps63
    go_wp2_with fail
    go_ret
    exact ⟨rfl, rfl⟩

set_option maxRecDepth 20000 in
theorem rplain_any (op : Nat) (w : World) (h : op ≤ 255) : Calls Try.prog 64 #[.int .u8 op] w fun e w' => e = .returned (.bool (plainB op)) ∧ w = w' := by
  have hc : op < 15 ∨ (15 ≤ op ∧ op ≤ 17) ∨ op = 18 ∨ op = 19 ∨ (20 ≤ op ∧ op ≤ 30) ∨ op = 31 ∨ 32 ≤ op := by omega
  rcases hc with h1 | ⟨h1, h2⟩ | rfl | rfl | ⟨h1, h2⟩ | rfl | h1
  · have e : plainB op = false := by simp [plainB]; omega
    rw [e]
    have e19 : ((op : Int) == 19) = false := by simp; omega
    have e31 : ((op : Int) == 31) = false := by simp; omega
    clear e
    go_enter Try.func64, Try.ntmps64
    go_wp2_with fail
    go_ret
    first | exact ⟨rfl, rfl⟩ | exact ⟨ret_bool (by simp; omega), rfl⟩
  · have e : plainB op = true := by simp [plainB]; omega
    rw [e]
    have e19 : ((op : Int) == 19) = false := by simp; omega
    have e31 : ((op : Int) == 31) = false := by simp; omega
    clear e
    go_enter Try.func64, Try.ntmps64
    go_wp2_with fail
    go_ret
    first | exact ⟨rfl, rfl⟩ | exact ⟨ret_bool (by simp; omega), rfl⟩
  · go_enter Try.func64, Try.ntmps64
    go_wp2_with fail
    go_ret
    first | exact ⟨rfl, rfl⟩ | exact ⟨ret_bool (by simp; omega), rfl⟩
  · go_enter Try.func64, Try.ntmps64
    go_wp2_with fail
    go_ret
    first | exact ⟨rfl, rfl⟩ | exact ⟨ret_bool (by simp; omega), rfl⟩
  · have e : plainB op = false := by simp [plainB]; omega
    rw [e]
    have e19 : ((op : Int) == 19) = false := by simp; omega
    have e31 : ((op : Int) == 31) = false := by simp; omega
    clear e
    go_enter Try.func64, Try.ntmps64
    go_wp2_with fail
    go_ret
    first | exact ⟨rfl, rfl⟩ | exact ⟨ret_bool (by simp; omega), rfl⟩
  · go_enter Try.func64, Try.ntmps64
    go_wp2_with fail
    go_ret
    first | exact ⟨rfl, rfl⟩ | exact ⟨ret_bool (by simp; omega), rfl⟩
  · have e : plainB op = false := by simp [plainB]; omega
    rw [e]
    have e19 : ((op : Int) == 19) = false := by simp; omega
    have e31 : ((op : Int) == 31) = false := by simp; omega
    clear e
    go_enter Try.func64, Try.ntmps64
    go_wp2_with fail
    go_ret
    first | exact ⟨rfl, rfl⟩ | exact ⟨ret_bool (by simp; omega), rfl⟩
end Go.Proofs.Ytlhcggaeecjbcaa
