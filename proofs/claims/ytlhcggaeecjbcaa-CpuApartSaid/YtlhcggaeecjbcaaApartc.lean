/- The law CpuApart, as the row. No condition. -/
import Derived.Test.YtlhcggaeecjbcaaLawr
namespace Go.Proofs.Ytlhcggaeecjbcaa
open Go.ChangeShapes Go.WideShapes Go.ChangeAt Go.RowKit
set_option maxRecDepth 20000

theorem open_str9 {W : World} {base : Nat} {v : Value} (h : Value.okWide Try.prog W .any base 9 v) : ∃ z : ByteArray, v = .string z :=
  okWide_string Try.underlying9 h
theorem apartc_true : LawTrue 13 Try.f13 := by
  intro H enc W base args ds p hval hA _ hsz
  obtain ⟨v, v', v'', v3, d, d', d'', d3, p1, p2, p3, p4, rfl, rfl, rfl, h1, h2, h3, h4⟩ := trodAll_four (t := 58) (t' := 26) (t'' := 22) (t3 := 9) hA
  obtain ⟨r, pc, rfl, hr, h0, hp1⟩ := open_cpu (hval 0 58 v rfl rfl)
  obtain ⟨s, rfl⟩ := open_space (hval 1 26 v' rfl rfl)
  obtain ⟨l, hl, hs, hn⟩ := open_strs (j := 2) (hval 2 22 v'' rfl rfl) h3 rfl rfl hsz
  obtain ⟨z, rfl⟩ := open_str9 (hval 3 9 v3 rfl rfl)
  exact apartc_walk v'' l s r pc z W hl (Lib.hid hs) (Lib.hid hn) hr h0 hp1

set_option maxRecDepth 100000 in
theorem apartc_holds : Rows.CpuApartSaid :=
  OpenClaim.holds_of_wide 13 Try.f13 rfl rfl rfl rfl rfl rfl rfl ⟨rfl, rfl, rfl, rfl, rfl⟩ rfl rfl rfl rfl rfl (by kernel_rfl) Try.func13 (by kernel_rfl)
    (of_decide_eq_true (by kernel_rfl)) (by unfold Func.isWrapper; rw [if_neg (of_decide_eq_false (by kernel_rfl))]; exact ⟨rfl, rfl⟩)
    (fun os started H enc _ => law_lifted os started H enc 13 Try.f13 Rows.cpuApartSpec Try.func13 (by kernel_rfl) (by kernel_rfl) (by kernel_rfl) rfl
      (fun ds h => by match ds, h with | [_, _, _, _], _ => rfl)
      (ChangeSpec.witness6 (enc := enc) (C := Try.checked) false ⟨#[], #[.agg (List.replicate 17 (Value.int .u32 0)).toArray, .agg ((List.replicate 16 [Value.bool false, Value.bool false, Value.int .i64 0]).flatten).toArray, .slice none 0 0, .string ⟨#[]⟩], []⟩ 8 (by kernel_rfl) (by kernel_rfl) (by kernel_rfl) (by kernel_rfl))
      apartc_true)
end Go.Proofs.Ytlhcggaeecjbcaa
