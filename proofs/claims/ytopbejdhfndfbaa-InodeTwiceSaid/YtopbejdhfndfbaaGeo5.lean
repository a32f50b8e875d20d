/- Contracts of geom.right and of geom.Of. No condition. -/
import Derived.Test.YtopbejdhfndfbaaGeo3
namespace Go.Proofs.Ytopbejdhfndfbaa
open Go.RowKit
set_option maxRecDepth 20000
attribute [local go_sem ↓] loadVar_24 storeVar_24
attribute [local go_sem] run_load24 run_store24 aggAt_new aggAt_past aggAt_drew rowAt_new rowAt_past rowAt_drew rowOpen_new rowOpen_past rowOpen_drew setRow_made' alloc_setRow

theorem right_no1 {m : ByteArray} {b d k : Nat} (hk : k < d) (h : hasB m k = false) : rightB m b d = false := by
  unfold rightB
  rw [Bool.and_eq_false_iff]
  refine .inl ?_
  cases hr : rightTo m d with
  | false => rfl
  | true => rw [(right_iff m d).1 hr k hk] at h; cases h
theorem right_no2 {m : ByteArray} {b d k : Nat} (hb : b ≤ k) (hk : k < 1024) (h : hasB m k = true) : rightB m b d = false := by
  unfold rightB
  rw [Bool.and_eq_false_iff]
  refine .inr ?_
  cases hr : restTo m b 1024 with
  | false => rfl
  | true => rw [(rest_iff m b 1024).1 hr k hb hk] at h; cases h
theorem right_yes {m : ByteArray} {b d : Nat} (h1 : ∀ k, k < d → hasB m k = true) (h2 : ∀ k, b ≤ k → k < 1024 → hasB m k = false) : rightB m b d = true := by
  unfold rightB
  rw [(right_iff m d).2 h1, (rest_iff m b 1024).2 h2]
  rfl
set_option maxHeartbeats 1000000 in
theorem right_any (m : ByteArray) (b i d : Nat) (w : World) (hm : m.size = 128) (hb : b ≤ 223) (hd : d ≤ 300) :
    Calls Try.prog 51 #[.string m, .agg (geoC b i d)] w fun e w' => e = .returned (.bool (rightB m b d)) ∧ Below w.heap.size w w' := by
  unfold geoC
  go_enter Try.func51, Try.ntmps51
  go_wp2_with fail
  go_loop [9] (fun x => ∃ k : Nat, k ≤ d ∧ x = .int .i64 k ∧ Hid (∀ j, j < k → hasB m j = true)) (fun x => d - (intOf x).toNat)
  case atStart => exact ⟨0, by omega, rfl, fun j hj => by omega⟩
  case round =>
    obtain ⟨k, hk, rfl, HJ⟩ := hrel
    by_cases hlt : k < d
    · cases hh : hasB m k with
      | false =>
        have HO := Lib.hid (right_no1 (b := b) hlt hh)
        have HH := Lib.hid hh
        clear hh
        go_wp2_with (go_at_call 55; refine (has_any m k _ (by omega) (by omega)).mono ?_; rw [HH.out]; rintro e w1 ⟨rfl, rfl⟩)
        go_ret
        exact ⟨ret_bool HO.out.symm, below_one _ _⟩
      | true =>
        have HH := Lib.hid hh
        have HJ2 : Hid (∀ j, j < k + 1 → hasB m j = true) := fun j hj => by
          by_cases e : j = k
          · rw [e]; exact hh
          · exact HJ.out j (by omega)
        clear hh
        go_wp2_with (go_at_call 55; refine (has_any m k _ (by omega) (by omega)).mono ?_; rw [HH.out]; rintro e w1 ⟨rfl, rfl⟩)
        go_round
        case rel => exact ⟨k + 1, by omega, by go_num, HJ2⟩
        case measure => simp [intOf]; omega
    · obtain rfl : k = d := by omega
      clear hk hlt
      go_wp2_with fail
      go_loop [6] (fun x => ∃ k : Nat, b ≤ k ∧ k ≤ 1024 ∧ x = .int .i64 k ∧ Hid (∀ j, b ≤ j → j < k → hasB m j = false)) (fun x => 1024 - (intOf x).toNat)
      case atStart => exact ⟨b, by omega, by omega, rfl, fun j h1 h2 => by omega⟩
      case round =>
        obtain ⟨n, hn, hn2, rfl, HR⟩ := hrel
        by_cases hlt : n < 1024
        · cases hh : hasB m n with
          | true =>
            have HO := Lib.hid (right_no2 (d := k) hn hlt hh)
            have HH := Lib.hid hh
            clear hh
            go_wp2_with (go_at_call 55; refine (has_any m n _ (by omega) (by omega)).mono ?_; rw [HH.out]; rintro e w1 ⟨rfl, rfl⟩)
            go_ret
            exact ⟨ret_bool HO.out.symm, below_one _ _⟩
          | false =>
            have HH := Lib.hid hh
            have HR2 : Hid (∀ j, b ≤ j → j < n + 1 → hasB m j = false) := fun j h1 hj => by
              by_cases e : j = n
              · rw [e]; exact hh
              · exact HR.out j h1 (by omega)
            clear hh
            go_wp2_with (go_at_call 55; refine (has_any m n _ (by omega) (by omega)).mono ?_; rw [HH.out]; rintro e w1 ⟨rfl, rfl⟩)
            go_round
            case rel => exact ⟨n + 1, by omega, by omega, by go_num, HR2⟩
            case measure => simp [intOf]; omega
        · obtain rfl : n = 1024 := by omega
          go_wp2_with fail
          go_ret
          exact ⟨ret_bool (right_yes HJ.out HR.out).symm, below_one _ _⟩
end Go.Proofs.Ytopbejdhfndfbaa
