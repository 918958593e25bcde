/- A law's statement out of a contract of its function, where variables are listed. -/
import Derived.Test.YtgonldkgghikiaaDoorBase
import Derived.LaidMore
import Derived.Stop.Joined
namespace Go.Proofs.YtgonldkgghikiaaDoor
set_option linter.unusedSimpArgs false
set_option linter.unusedVariables false
set_option linter.unnecessarySimpa false
set_option maxRecDepth 200000
open Go.ChangeShapes Go.WideShapes Go.ChangeAt Go.RowKit

section
variable {H : Type} {enc : TypeId × Value → H}
theorem law_lifted_laid {X : World → Array Value → Prop} {C : Checked} {os : Os} {f : FuncId} {fn : Func} {s : ChangeSpec} {conds : List PathCond}
    (hX : ∀ (w w' : World) (args : Array Value), w.heap = w'.heap → X w args → X w' args) (own : ownKnob C.prog.godebug = none) (started : os.Started) (noInit : C.prog.inits.idxOf? f = none) (hfn : C.prog.funcs[f]? = some fn)
    (hvars : s.vars = []) (hl : laidOutB C.prog = true) (hread : ∀ t ∈ fn.params.toList, C.prog.readableRec t = true ∧ t < C.prog.types.size)
    {tb : TypeId} (hres : fn.resultTypes = #[tb]) (htb : C.prog.underlying tb = some .bool)
    (hs : ∀ ds : List (DataW H), ds.length = fn.params.size → s.fn H ds = { results := [.lit (.bool true)], args := ds })
    (witness : ∃ (w : World) (tape : Tape) (i : Input), w.os = os ∧ (w.forCall tape i).Shaped C.prog ∧ i.vars = [] ∧ Input.okWide C.prog (w.forCall tape i) .any w.heap.size f i ∧
      ((s.pre enc C.prog fn conds false (w.forCall tape i).memory i.args ∧ X (w.forCall tape i).memory i.args) ∧ sizedMet enc C.prog fn (OpenSpec.ofChange s) false (w.forCall tape i).memory i.args) ∧ ({} : Assume).holds C.prog (lone (Frame.enter C.prog f i.args .normal) [] (w.forCall tape i)))
    (walk : ∀ (W : World) (base : Nat) (args : Array Value) (ds : List (DataW H)) (p : List MemPlace),
      (∀ (j : Nat) t v, fn.params[j]? = some t → args[j]? = some v → Value.okWide C.prog W .any base t v) →
      DataW.TrodAll enc C.prog W 0 (fun _ => true) true fn.params.toList args.toList ds p → X W args →
      Calls C.prog f args W fun e w' => e = .returned (.bool true) ∧ Below W.heap.size W w') :
    ReturnsInHanded {} C os f .any (fun w args => (s.pre enc C.prog fn conds false w args ∧ X w args) ∧ sizedMet enc C.prog fn (OpenSpec.ofChange s) false w args) (s.post enc C.prog fn false true false false) := by
  refine returnsInHanded_of_change_and (C := C) (X := X) hX own started noInit hfn witness ?_
  intro W base args ds gs before hval hW hcnd _ hx _
  have hW' := hW
  obtain ⟨p, q, hA, hV, rfl, hfz, hnd⟩ := hW
  rw [hvars] at hV
  have hgs : gs = [] ∧ q = [] := by
    cases gs with
    | nil => exact ⟨rfl, hV⟩
    | cons => cases hV
  obtain ⟨rfl, rfl⟩ := hgs
  refine (walk W base args ds p hval hA hx).mono fun e W' ⟨he, bel⟩ => ?_
  subst he
  have hlen : ds.length = fn.params.size := by simpa using trodAll_len hA
  refine ⟨_, rfl, ds, [], _, [], p, [], hW', ?_, ?_, ?_, bel.frame _, fun h => by cases h⟩
  · rw [List.append_nil, hs ds hlen, hres]
    exact trodAll_mk1 (shut_bool htb _)
  · rw [List.append_nil, hs ds hlen]
    exact below_trodAll hl bel hread hA
  · rw [hvars, List.append_nil, hs ds hlen]
    rfl
end
end Go.Proofs.YtgonldkgghikiaaDoor
