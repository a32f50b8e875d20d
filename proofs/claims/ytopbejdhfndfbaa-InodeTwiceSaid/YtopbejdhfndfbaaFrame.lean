/- A law's row out of one contract: called with any readable arguments the function returns true and turns nothing that was there. No condition. -/
import Derived.Test.YtopbejdhfndfbaaRows
import Derived.ProofKit
import Derived.SizedLaws
namespace Go.Proofs.Ytopbejdhfndfbaa
open Go.ChangeShapes Go.WideShapes Go.ChangeAt Go.RowKit

theorem Try.own : ownKnob Try.prog.godebug = none := by kernel_rfl
theorem Try.laidOut : laidOutB Try.prog = true := by kernel_rfl

theorem below_trodAll {H : Type} {enc : TypeId × Value → H} {P : Program} (hl : laidOutB P = true) {W W' : World} (hb : Below W.heap.size W W') :
    ∀ {ts : List TypeId} {vs : List Value} {ds : List (DataW H)} {ps : List MemPlace}, (∀ t ∈ ts, P.readableRec t = true ∧ t < P.types.size) →
      DataW.TrodAll enc P W 0 (fun _ => true) true ts vs ds ps → (∀ x ∈ ps, x.block < W.heap.size) →
      DataW.TrodAll enc P W' 0 (fun b => decide (b < W.heap.size)) true ts vs ds ps
  | [], vs, ds, ps, _, h, _ => by
    obtain ⟨rfl, rfl, rfl⟩ := trodAll_nil h
    exact trodAll_mk0
  | t :: ts, vs, ds, ps, hr, h, hlt => by
    obtain ⟨v, vs', d, ds', p, q, rfl, rfl, rfl, hd, hrest⟩ := trodAll_cons h
    have h1 := hr t (by simp)
    exact ⟨p, q, Below.trod hl h1.1 h1.2 hd hb (fun x hx => hlt x (by simp [hx])), below_trodAll hl hb (fun t' ht' => hr t' (by simp [ht'])) hrest (fun x hx => hlt x (by simp [hx])), rfl⟩

/-- What a law's contract says: whatever it is handed, it returns true, and below the heap's old size nothing has turned. -/
def LawTrue (k : FuncId) (fn : Func) : Prop :=
  ∀ (H : Type) (enc : TypeId × Value → H) (W : World) (base : Nat) (args : Array Value) (ds : List (DataW H)) (p : List MemPlace),
    (∀ (j : Nat) t v, fn.params[j]? = some t → args[j]? = some v → Value.okWide Try.prog W .any base t v) →
    DataW.TrodAll enc Try.prog W 0 (fun _ => true) true fn.params.toList args.toList ds p →
    (∀ x ∈ p, x.block < W.heap.size) →
    (DataW.weightsEach Try.prog fn.params.toList ds).all (· ≤ reachBytes) = true →
    Calls Try.prog k args W fun e W' => e = .returned (.bool true) ∧ Below W.heap.size W W'

theorem trodAll_length {H : Type} {enc : TypeId × Value → H} {P : Program} {W : World} {base : Nat} {sp : Nat → Bool} {held : Bool} :
    ∀ {ts : List TypeId} {vs : List Value} {ds : List (DataW H)} {ps : List MemPlace}, DataW.TrodAll enc P W base sp held ts vs ds ps → ds.length = ts.length
  | [], vs, ds, ps, h => by obtain ⟨rfl, rfl, rfl⟩ := trodAll_nil h; rfl
  | t :: ts, vs, ds, ps, h => by
    obtain ⟨v, vs', d, ds', p, q, rfl, rfl, rfl, hd, hrest⟩ := trodAll_cons h
    simp [trodAll_length hrest]

set_option maxRecDepth 100000 in
theorem law_lifted (os : Os) (started : os.Started) (H : Type) (enc : TypeId × Value → H) (k : FuncId) (fn : Func) (s : ChangeSpec)
    (hk : Try.prog.funcs[k]? = some fn) (hi : Try.prog.inits.idxOf? k = none) (hres : fn.resultTypes = #[4])
    (hpar : (fn.params.toList.all fun t => Try.prog.readableRec t && decide (t < Try.prog.types.size)) = true) (hvars : s.vars = [])
    (hspec : ∀ ds : List (DataW H), ds.length = fn.params.toList.length → s.fn H ds = { results := [.lit (.bool true)], args := ds })
    (witness : ∃ (w : World) (tape : Tape) (i : Input), w.os = os ∧ (w.forCall tape i).Shaped Try.prog ∧ i.vars = [] ∧ Input.okWide Try.prog (w.forCall tape i) .any w.heap.size k i ∧
      s.pre6 enc Try.prog fn [] false (w.forCall tape i).memory i.args ∧ ({} : Assume).holds Try.prog (lone (Frame.enter Try.prog k i.args .normal) [] (w.forCall tape i)))
    (law : LawTrue k fn) :
    ReturnsInHanded {} Try.checked os k .any (s.pre6 enc Try.prog fn [] false) (s.post enc Try.prog fn false true false false) := by
  refine returnsInHanded_of_change_sized (C := Try.checked) Try.own started hi hk witness ?_
  intro W base args ds gs before hval hW _ hsz _
  have hW' := hW
  obtain ⟨p, q, hA, hV, rfl, _, _⟩ := hW
  rw [hvars] at hV
  obtain ⟨rfl, rfl⟩ := trodVars_none hV
  have hvt : s.plain.varTypes Try.prog = [] := by simp [DataSpec.varTypes, ChangeSpec.plain, hvars]
  have hsz' : (DataW.weightsEach Try.prog fn.params.toList ds).all (· ≤ reachBytes) = true := by
    have h := hsz
    rw [List.append_nil, show s.plain.varTypes Try.checked.prog = [] from hvt, List.append_nil] at h
    exact h
  have hlt : ∀ x ∈ p, x.block < W.heap.size := fun x hx => by simpa using hW'.lt x (by simp [hx])
  have hsp := hspec (ds ++ []) (by simpa using trodAll_length hA)
  refine (law H enc W base args ds p hval hA hlt hsz').mono fun e W' ⟨he, hb⟩ => ⟨_, he, ?_⟩
  refine ⟨ds, [], p ++ [], [], p, [], hW', ?_, ?_, ?_, hb.frame _, fun h => by cases h⟩
  · rw [hsp, hres]
    exact trodAll_mk1 (shut_bool (by kernel_rfl) true)
  · rw [hsp, List.append_nil]
    refine below_trodAll Try.laidOut hb (fun t ht => ?_) hA hlt
    have := List.all_eq_true.1 hpar t ht
    simpa using this
  · rw [hvars, hsp]
    rfl

end Go.Proofs.Ytopbejdhfndfbaa
