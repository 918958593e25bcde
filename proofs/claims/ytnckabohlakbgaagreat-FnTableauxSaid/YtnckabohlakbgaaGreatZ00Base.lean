/- General lemmas, over any program: a law's statement out of a contract of its function; small words for results. -/
import Derived.Test.YtnckabohlakbgaaGreatRows
import Derived.WalkKit
import Derived.ProofKit
import Derived.OpenShut
import Derived.Outline
import Derived.BigGuardPart
import Derived.Lib.Hide
import Derived.ChangeOld
import Derived.Below
import Derived.Carry
import Derived.Lib.SmallJoins
import Derived.Deep.Slices
import Derived.Deep.Fields
namespace Go.Proofs.YtnckabohlakbgaaGreat
set_option linter.unusedSimpArgs false
set_option linter.unusedVariables false
set_option linter.unnecessarySimpa false
set_option maxRecDepth 200000
open Go.ChangeShapes Go.WideShapes Go.ChangeAt Go.RowKit

theorem ret_int {k : IntKind} {a b : Int} (h : a = b) : Ending.returned (.int k a) = .returned (.int k b) := by rw [h]
theorem ret_bool {a b : Bool} (h : a = b) : Ending.returned (.bool a) = .returned (.bool b) := by rw [h]

theorem below_drewN {B : Nat} {a w : World} (h : Below B a w) (n : Nat) : Below B a (w.drewN n) := ⟨h.os, h.tape, h.output, h.size, h.block⟩
theorem belo {B : Nat} {a w : World} (h : Below B a w := by repeat (first | exact Below.refl _ _ | assumption | refine Below.drew ?_ | refine below_drewN ?_ _ | refine Below.alloc ?_ (by first | omega | (simp <;> omega)) _ | refine Below.setCell ?_ (by first | omega | (simp <;> omega)) _ | refine Below.trans ?_ (Below.mono (by assumption) (by first | omega | (simp <;> omega))))) : Below B a w := h
theorem cela {α : Type} {x y : α} (h : x = y := by repeat (first | (refine Eq.trans (World.cell?_alloc_at _ _ _ _ ?hh) ?_; (case hh => (simp; done)); rfl) | refine cell_alloc_keep _ ?_)) : x = y := h
theorem froza {α : Type} {x y : α} (h : x = y := by repeat (first | (refine World.frozen?_alloc_at _ _ _ _ ?hh; case hh => (simp; done)) | (refine frozen_alloc_lt _ ?hh ?_; case hh => first | omega | (simp <;> omega)))) : x = y := h
theorem bcell {W w1 : World} (hb : Below W.heap.size W w1) : (∀ b o, b < W.heap.size → w1.cell? ⟨b, o, none⟩ = W.cell? ⟨b, o, none⟩) ∧ (∀ b o, b < W.heap.size → w1.frozen? ⟨b, o, none⟩ = W.frozen? ⟨b, o, none⟩) :=
  ⟨fun b o h => hb.cell (p := ⟨b, o, none⟩) h, fun b o h => hb.frozen (p := ⟨b, o, none⟩) h⟩

theorem own : ownKnob Tryz.prog.godebug = none := by kernel_rfl
theorem laidOut : laidOutB Tryz.prog = true := by kernel_rfl

section
variable {H : Type} {enc : TypeId × Value → H}

theorem below_trodAll {P : Program} (hl : laidOutB P = true) {W W' : World} (hb : Below W.heap.size W W') :
    ∀ {ts : List TypeId} {vs : List Value} {ds : List (DataW H)} {p : List MemPlace}, (∀ t ∈ ts, P.readableRec t = true ∧ t < P.types.size) →
    DataW.TrodAll enc P W 0 (fun _ => true) true ts vs ds p → DataW.TrodAll enc P W' 0 (fun b => decide (b < W.heap.size)) true ts vs ds p
  | [], [], [], _, _, h => h
  | t :: ts, v :: vs, d :: ds, p, hr, h => by
    obtain ⟨p1, q1, h1, h2, rfl⟩ := h
    have lt : ∀ x ∈ p1, x.block < W.heap.size := by obtain ⟨m, hm⟩ := h1; exact DataW.trod_lt m _ _ _ hm
    exact ⟨p1, q1, Below.trod hl (hr t (by simp)).1 (hr t (by simp)).2 h1 hb lt, below_trodAll hl hb (fun u hu => hr u (by simp [hu])) h2, rfl⟩
  | [], _ :: _, _, _, _, h => by cases h
  | [], [], _ :: _, _, _, h => by cases h
  | _ :: _, [], _, _, _, h => by cases h
  | _ :: _, _ :: _, [], _, _, h => by cases h

theorem trodAll_len {P : Program} {W : World} {b : Nat} {sp : Nat → Bool} {hd : Bool} :
    ∀ {ts : List TypeId} {vs : List Value} {ds : List (DataW H)} {p : List MemPlace}, DataW.TrodAll enc P W b sp hd ts vs ds p → ds.length = ts.length
  | [], [], [], _, _ => rfl
  | _ :: ts, _ :: vs, _ :: ds, _, h => by
    obtain ⟨_, _, _, h2, _⟩ := h
    simp [trodAll_len h2]
  | [], _ :: _, _, _, h => by cases h
  | [], [], _ :: _, _, h => by cases h
  | _ :: _, [], _, _, h => by cases h
  | _ :: _, _ :: _, [], _, h => by cases h

theorem law_lifted {C : Checked} {os : Os} {f : FuncId} {fn : Func} {s : ChangeSpec} {conds : List PathCond}
    (own : ownKnob C.prog.godebug = none) (started : os.Started) (noInit : C.prog.inits.idxOf? f = none) (hfn : C.prog.funcs[f]? = some fn)
    (hvars : s.vars = []) (hl : laidOutB C.prog = true) (hread : ∀ t ∈ fn.params.toList, C.prog.readableRec t = true ∧ t < C.prog.types.size)
    {tb : TypeId} (hres : fn.resultTypes = #[tb]) (htb : C.prog.underlying tb = some .bool)
    (hs : ∀ ds : List (DataW H), ds.length = fn.params.size → s.fn H ds = { results := [.lit (.bool true)], args := ds })
    (witness : ∃ (w : World) (tape : Tape) (i : Input), w.os = os ∧ (w.forCall tape i).Shaped C.prog ∧ i.vars = [] ∧ Input.okWide C.prog (w.forCall tape i) .any w.heap.size f i ∧
      s.pre6 enc C.prog fn conds false (w.forCall tape i).memory i.args ∧ ({} : Assume).holds C.prog (lone (Frame.enter C.prog f i.args .normal) [] (w.forCall tape i)))
    (walk : ∀ (W : World) (base : Nat) (args : Array Value) (ds : List (DataW H)) (p : List MemPlace),
      (∀ (j : Nat) t v, fn.params[j]? = some t → args[j]? = some v → Value.okWide C.prog W .any base t v) →
      DataW.TrodAll enc C.prog W 0 (fun _ => true) true fn.params.toList args.toList ds p →
      Calls C.prog f args W fun e w' => e = .returned (.bool true) ∧ Below W.heap.size W w') :
    ReturnsInHanded {} C os f .any (s.pre6 enc C.prog fn conds false) (s.post enc C.prog fn false true false false) := by
  refine returnsInHanded_of_change (C := C) own started noInit hfn witness ?_
  intro W base args ds gs before hval hW hcnd _
  have hW' := hW
  obtain ⟨p, q, hA, hV, rfl, hfz, hnd⟩ := hW
  rw [hvars] at hV
  have hgs : gs = [] ∧ q = [] := by
    cases gs with
    | nil => exact ⟨rfl, hV⟩
    | cons => cases hV
  obtain ⟨rfl, rfl⟩ := hgs
  refine (walk W base args ds p hval hA).mono fun e W' ⟨he, bel⟩ => ?_
  subst he
  have hlen : ds.length = fn.params.size := by simpa using trodAll_len hA
  refine ⟨_, rfl, ds, [], _, [], p, [], hW', ?_, ?_, ?_, bel.frame _, fun h => by cases h⟩
  · rw [List.append_nil, hs ds hlen, hres]
    exact trodAll_mk1 (shut_bool htb _)
  · rw [List.append_nil, hs ds hlen]
    exact below_trodAll hl bel hread hA
  · rw [hvars, List.append_nil, hs ds hlen]
    rfl
end
end Go.Proofs.YtnckabohlakbgaaGreat
