/- Plain arithmetic of numbers as bytes, the lowest one first: no program. No condition. -/
import Derived.Laws.BitsLemmas
namespace Go.Proofs.Ytopbejdhfndfbaa

def leVal : List UInt8 → Nat
  | [] => 0
  | b :: bs => b.toNat + 256 * leVal bs

theorem leVal_append (x y : List UInt8) : leVal (x ++ y) = leVal x + 2 ^ (8 * x.length) * leVal y := by
  induction x with
  | nil => simp [leVal]
  | cons b x ih =>
    simp only [List.cons_append, leVal, ih, List.length_cons]
    rw [show 8 * (x.length + 1) = 8 * x.length + 8 from by omega, Nat.pow_add, Nat.mul_add, Nat.add_assoc, ← Nat.mul_assoc]
    congr 2
    rw [Nat.mul_comm 256, show (2:Nat) ^ 8 = 256 from rfl]

theorem leVal_lt (x : List UInt8) : leVal x < 2 ^ (8 * x.length) := by
  induction x with
  | nil => simp [leVal]
  | cons b x ih =>
    simp only [leVal, List.length_cons]
    have hb : b.toNat < 256 := b.toNat_lt
    rw [show 8 * (x.length + 1) = 8 * x.length + 8 from by omega, Nat.pow_add, show (2:Nat) ^ 8 = 256 from rfl]
    omega

theorem leVal_take_succ (l : List UInt8) (k : Nat) (h : k < l.length) : leVal (l.take (k + 1)) = leVal (l.take k) + l[k].toNat * 2 ^ (8 * k) := by
  rw [List.take_succ_eq_append_getElem h, leVal_append, List.length_take, Nat.min_eq_left (by omega)]
  simp [leVal, Nat.mul_comm]

theorem wrap_u64_of (n : Int) (h0 : 0 ≤ n) (h1 : n < 18446744073709551616) : IntKind.u64.wrap n = n := by
  simp only [IntKind.wrap, IntKind.bits, IntKind.signed, Bool.false_and]
  exact Int.emod_eq_of_lt h0 (by simpa using h1)
theorem wrap_u32_of (n : Int) (h0 : 0 ≤ n) (h1 : n < 4294967296) : IntKind.u32.wrap n = n := by rw [IntKind.wrap_u32]; omega
theorem wrap_u8_of (n : Int) (h0 : 0 ≤ n) (h1 : n < 256) : IntKind.u8.wrap n = n := by rw [IntKind.wrap_u8]; omega
theorem wrap_u64_mod (n : Int) : IntKind.u64.wrap n = n % 18446744073709551616 := by simp [IntKind.wrap, IntKind.bits, IntKind.signed]

theorem bits_or_comm (k : IntKind) (x y : Int) : bits .or k x y = bits .or k y x := by
  simp only [bits]
  rw [BitVec.or_comm]

theorem or_le (k : Nat) (hk : k < 8) (n : Nat) (hn : n < 2 ^ (8 * k)) (b : UInt8) :
    bits .or .u64 (n : Int) (IntKind.u64.wrap (IntKind.u64.wrap (b.toNat : Int) * 2 ^ (8 * k))) = ((n + b.toNat * 2 ^ (8 * k) : Nat) : Int) := by
  have hb : b.toNat < 256 := b.toNat_lt
  have hp : 2 ^ (8 * k) ≤ 2 ^ 56 := Nat.pow_le_pow_right (by decide) (by omega)
  have hprod : b.toNat * 2 ^ (8 * k) < 18446744073709551616 := by
    calc b.toNat * 2 ^ (8 * k) ≤ 255 * 2 ^ 56 := Nat.mul_le_mul (by omega) hp
      _ < 18446744073709551616 := by decide
  have e1 : IntKind.u64.wrap (b.toNat : Int) = (b.toNat : Int) := wrap_u64_of _ (by omega) (by omega)
  have e2 : ((b.toNat : Int) * 2 ^ (8 * k)) = ((b.toNat * 2 ^ (8 * k) : Nat) : Int) := by simp
  rw [e1, e2, wrap_u64_of _ (by omega) (by omega), bits_or_comm]
  have hn64 : n < 2 ^ 64 := Nat.lt_of_lt_of_le hn (Nat.pow_le_pow_right (by decide) (by omega))
  have e64 : (2 : Int) ^ 64 = 18446744073709551616 := rfl
  have e64' : (2 : Nat) ^ 64 = 18446744073709551616 := rfl
  rw [bits_join .u64 64 (by decide) (fun n h0 h1 => wrap_u64_of n h0 (by rw [e64] at h1; exact h1)) (8 * k) _ _ (by omega) ?_ (by rw [e64]; omega) (by omega) ?_ (by rw [e64]; omega)]
  · omega
  · rw [← e2]; exact Int.mul_emod_left _ _
  · exact_mod_cast hn

/-- The lowest 'n' bytes of a number, the lowest one first. -/
def leBytes : Nat → Nat → List UInt8
  | 0, _ => []
  | n + 1, v => UInt8.ofNat (v % 256) :: leBytes n (v / 256)

theorem leBytes_length (n v : Nat) : (leBytes n v).length = n := by
  induction n generalizing v with
  | zero => rfl
  | succ n ih => simp [leBytes, ih]

theorem leVal_leBytes (n v : Nat) : leVal (leBytes n v) = v % 256 ^ n := by
  induction n generalizing v with
  | zero => simp [leBytes, leVal, Nat.mod_one]
  | succ n ih =>
    simp only [leBytes, leVal, ih]
    rw [Nat.pow_succ, Nat.mul_comm (256 ^ n), Nat.mod_mul]
    simp

theorem leBytes_get (n v i : Nat) (h : i < n) : (leBytes n v)[i]? = some (UInt8.ofNat (v / 2 ^ (8 * i) % 256)) := by
  induction n generalizing v i with
  | zero => omega
  | succ n ih =>
    cases i with
    | zero => simp [leBytes]
    | succ i =>
      simp only [leBytes, List.getElem?_cons_succ]
      rw [ih _ _ (by omega), Nat.div_div_eq_div_mul, show (256:Nat) = 2 ^ 8 from rfl, ← Nat.pow_add, show 8 + 8 * i = 8 * (i + 1) from by omega]

theorem leBytes_succ (n v : Nat) : leBytes (n + 1) v = leBytes n v ++ [UInt8.ofNat (v / 256 ^ n % 256)] := by
  induction n generalizing v with
  | zero => simp [leBytes]
  | succ n ih =>
    rw [leBytes, ih (v / 256), leBytes]
    simp only [List.cons_append]
    rw [Nat.div_div_eq_div_mul, Nat.pow_succ, Nat.mul_comm (256 ^ n)]

end Go.Proofs.Ytopbejdhfndfbaa
