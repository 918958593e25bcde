/- The network of a list of masks (the reference's and the program's rounds), plain. -/
import Derived.Test.YtgonldkgghikiaaCirc1
import Derived.Test.YtgonldkgghikiaaSetB
namespace Go.Proofs.Ytgonldkgghikiaa
set_option linter.unusedSimpArgs false
set_option linter.unusedVariables false
set_option linter.unnecessarySimpa false
set_option maxRecDepth 200000
open Go.ChangeShapes Go.WideShapes Go.ChangeAt Go.RowKit

/-- A task: its vectors, its free qubits as bits, its target or -1. -/
structure GT where (vs : List Nat) (fm : Nat) (tg : Int)
def addV (j t v : Nat) : Nat := if v.testBit t = true then v ^^^ 2 ^ j else v
def addL (j t : Nat) (vs : List Nat) : List Nat := vs.map (addV j t)
def GT.add (j t : Nat) (x : GT) : GT := ⟨addL j t x.vs, x.fm, x.tg⟩
def inAllB (vs : List Nat) (j : Nat) : Bool := vs.all fun v => v.testBit j
def gSet (vs : List Nat) (j : Nat) (b : Bool) : List Nat := vs.filter fun v => v.testBit j == b
/-- Within a task: its vectors, the tasks below it, the gates. -/
structure GS where (vs : List Nat) (st : List GT) (out : List E3)
def gHit (tg : Int) (vs : List Nat) (j : Nat) : Bool := !decide ((j : Int) = tg) && inAllB vs j
def gIn (tg : Int) (s : GS) (j : Nat) : GS := if gHit tg s.vs j = true then ⟨addL j tg.toNat s.vs, s.st.map (GT.add j tg.toNat), s.out ++ [⟨9, (j : Int), tg⟩]⟩ else s
def gInTo (tg : Int) (s : GS) (k : Nat) : GS := (List.range k).foldl (gIn tg) s
theorem gInTo_succ (tg : Int) (s : GS) (k : Nat) : gInTo tg s (k + 1) = gIn tg (gInTo tg s k) k := by
  unfold gInTo; rw [List.range_succ, List.foldl_append]; rfl
def gIns (n : Nat) (x : GT) (r : List GT) (out : List E3) : GS := if x.tg < 0 then ⟨x.vs, r, out⟩ else gInTo x.tg ⟨x.vs, r, out⟩ n
def gMost (vs : List Nat) (j : Nat) : Nat := max (gSet vs j true).length (gSet vs j false).length
def gB (vs : List Nat) (s : Int × Int) (j : Nat) : Int × Int := if s.2 < (gMost vs j : Int) then ((j : Int), (gMost vs j : Int)) else s
/-- The reference's choice after k of the free qubits. -/
def gSp (vs : List Nat) (fr : List Nat) (k : Nat) : Int × Int := (fr.take k).foldl (gB vs) (-1, 0)
theorem gSp_succ {vs fr : List Nat} {k : Nat} (h : k < fr.length) : gSp vs fr (k + 1) = gB vs (gSp vs fr k) (fr.getD k 0) := by
  unfold gSp
  rw [List.take_succ_eq_append_getElem h, List.foldl_append]
  simp [List.getD, h]
/-- The program's choice after k qubits. -/
def gIm (vs : List Nat) (fm k : Nat) : Int × Int := (setB fm k).foldl (gB vs) (-1, -1)
theorem gIm_succ (vs : List Nat) (fm k : Nat) : gIm vs fm (k + 1) = if fm.testBit k = true then gB vs (gIm vs fm k) k else gIm vs fm k := by
  unfold gIm; rw [setB_succ]
  split
  · rw [List.foldl_append]; rfl
  · rfl
def gBest (vs : List Nat) (fm : Nat) : Int := (gIm vs fm 5).1
theorem gMost_pos {vs : List Nat} (h : vs ≠ []) (j : Nat) : 1 ≤ gMost vs j := by
  cases vs with
  | nil => exact absurd rfl h
  | cons v vs =>
    unfold gMost gSet
    cases hb : v.testBit j
    · have : 1 ≤ ((v :: vs).filter fun v => v.testBit j == false).length := by rw [List.filter_cons]; simp [hb]
      omega
    · have : 1 ≤ ((v :: vs).filter fun v => v.testBit j == true).length := by rw [List.filter_cons]; simp [hb]
      omega
theorem gSp_best {vs : List Nat} (h : vs ≠ []) (fm : Nat) : (gSp vs (setB fm 5) (setB fm 5).length).1 = gBest vs fm := by
  unfold gSp gBest gIm
  rw [List.take_length]
  cases setB fm 5 with
  | nil => rfl
  | cons j l =>
    have := gMost_pos h j
    rw [List.foldl_cons, List.foldl_cons]
    have e : gB vs (-1, 0) j = gB vs (-1, -1) j := by
      unfold gB
      rw [if_pos (by dsimp only; omega), if_pos (by dsimp only; omega)]
    rw [e]
theorem gB_mem (vs : List Nat) : ∀ (l : List Nat) (s : Int × Int), (l.foldl (gB vs) s).1 = s.1 ∨ ∃ j ∈ l, (l.foldl (gB vs) s).1 = (j : Int)
  | [], _ => .inl rfl
  | j :: l, s => by
    rw [List.foldl_cons]
    rcases gB_mem vs l (gB vs s j) with h | ⟨i, hi, h⟩
    · rw [h]
      unfold gB
      split
      · exact .inr ⟨j, by simp, rfl⟩
      · exact .inl rfl
    · exact .inr ⟨i, by simp [hi], h⟩
theorem gBest_mem (vs : List Nat) (fm : Nat) : gBest vs fm = -1 ∨ ∃ j ∈ setB fm 5, gBest vs fm = (j : Int) := gB_mem vs (setB fm 5) (-1, -1)
/-- A free qubit is chosen where there is one. -/
theorem gBest_yes {vs : List Nat} (h : vs ≠ []) {fm : Nat} (hf : setB fm 5 ≠ []) : 0 ≤ gBest vs fm := by
  unfold gBest gIm
  cases he : setB fm 5 with
  | nil => exact absurd he hf
  | cons j l =>
    have := gMost_pos h j
    rw [List.foldl_cons]
    have e : gB vs (-1, -1) j = ((j : Int), (gMost vs j : Int)) := by unfold gB; rw [if_pos (by dsimp only; omega)]
    rw [e]
    rcases gB_mem vs l ((j : Int), (gMost vs j : Int)) with h | ⟨i, _, h⟩
    · rw [h]; exact Int.natCast_nonneg j
    · rw [h]; exact Int.natCast_nonneg i
def clearB (fm j : Nat) : Nat := fm - 2 ^ j
theorem clear_bits : ∀ fm : Nat, fm < 32 → ∀ j : Nat, j ∈ setB fm 5 → clearB fm j < 32 ∧ setB (clearB fm j) 5 = (setB fm 5).filter (fun i => !decide (i = j)) ∧ (setB fm 5).length = (setB (clearB fm j) 5).length + 1 := by decide +kernel
/-- How many tasks a task may still become. -/
def wt (fm : Nat) : Nat := 2 ^ ((setB fm 5).length + 1) - 1
theorem wt_pos (fm : Nat) : 1 ≤ wt fm := by
  unfold wt
  have : 2 ≤ 2 ^ ((setB fm 5).length + 1) := by rw [Nat.pow_succ]; have := Nat.pow_pos (n := (setB fm 5).length) (show 0 < 2 by omega); omega
  omega
theorem wt_clear {fm j : Nat} (h : fm < 32) (hj : j ∈ setB fm 5) : wt fm = 2 * wt (clearB fm j) + 1 := by
  obtain ⟨_, _, h3⟩ := clear_bits fm h j hj
  unfold wt
  rw [h3]
  have := Nat.pow_pos (n := (setB (clearB fm j) 5).length) (show 0 < 2 by omega)
  rw [Nat.pow_succ, Nat.pow_succ]
  omega
def wts (st : List GT) : Nat := (st.map fun x => wt x.fm).sum
theorem wts_cons (x : GT) (r : List GT) : wts (x :: r) = wt x.fm + wts r := rfl
/-- The rounds: the stack's top stands first. -/
def gLoop (n : Nat) : Nat → List GT → List E3 → List E3
  | 0, _, out => out
  | _ + 1, [], out => out
  | f + 1, x :: r, out =>
    if x.vs = [] then gLoop n f r out
    else if gBest (gIns n x r out).vs x.fm < 0 then gLoop n f (gIns n x r out).st (gIns n x r out).out
    else gLoop n f (⟨gSet (gIns n x r out).vs (gBest (gIns n x r out).vs x.fm).toNat false, clearB x.fm (gBest (gIns n x r out).vs x.fm).toNat, x.tg⟩ :: ⟨gSet (gIns n x r out).vs (gBest (gIns n x r out).vs x.fm).toNat true, clearB x.fm (gBest (gIns n x r out).vs x.fm).toNat, if x.tg < 0 then gBest (gIns n x r out).vs x.fm else x.tg⟩ :: (gIns n x r out).st) (gIns n x r out).out
def gAll (n : Nat) (masks : List Nat) : List E3 := gLoop n 63 [⟨masks, 2 ^ n - 1, -1⟩] []
def Sm (vs : List Nat) : Prop := vs.length ≤ 31 ∧ ∀ v ∈ vs, v ≤ 31
structure GTok (n : Nat) (x : GT) : Prop where
  sm : Sm x.vs
  fm : x.fm < 2 ^ n
  tg : -1 ≤ x.tg ∧ x.tg < (n : Int)
structure GInv (n f : Nat) (st : List GT) (out : List E3) : Prop where
  ok : ∀ x ∈ st, GTok n x
  fuel : wts st ≤ f
  len : out.length + 5 * wts st ≤ 315
  gates : ∀ g ∈ out, GateOk (n : Int) g
theorem pow5 {n : Nat} (h : n ≤ 5) : 2 ^ n ≤ 32 := by have := Nat.pow_le_pow_right (n := 2) (by omega) h; omega
theorem addV_le {j t v : Nat} (hj : j < 5) (hv : v ≤ 31) : addV j t v ≤ 31 := by
  unfold addV
  split
  · have h1 : (2 : Nat) ^ j < 2 ^ 5 := Nat.pow_lt_pow_right (by omega) hj
    have := Nat.xor_lt_two_pow (x := v) (y := 2 ^ j) (n := 5) (by omega) (by omega)
    omega
  · exact hv
theorem Sm.add {j t : Nat} {vs : List Nat} (hj : j < 5) (h : Sm vs) : Sm (addL j t vs) := by
  refine ⟨by unfold addL; rw [List.length_map]; exact h.1, fun v hv => ?_⟩
  unfold addL at hv
  obtain ⟨u, hu, rfl⟩ := List.mem_map.1 hv
  exact addV_le hj (h.2 u hu)
theorem Sm.set {j : Nat} {b : Bool} {vs : List Nat} (h : Sm vs) : Sm (gSet vs j b) :=
  ⟨Nat.le_trans (List.length_filter_le _ _) h.1, fun v hv => h.2 v (List.mem_filter.1 hv).1⟩
/-- What the rounds within a task keep. -/
structure GSok (n : Nat) (fms : List Nat) (len k m : Nat) (s : GS) : Prop where
  sm : Sm s.vs
  ne : s.vs.length = len
  ok : ∀ x ∈ s.st, GTok n x
  fms : s.st.map GT.fm = fms
  len : s.out.length ≤ k + m
  gates : ∀ g ∈ s.out, GateOk (n : Int) g
theorem gIn_ok {n : Nat} {fms : List Nat} {l k m j : Nat} {tg : Int} {s : GS} (hn : n ≤ 5) (htg : 0 ≤ tg ∧ tg < (n : Int)) (hj : j < n) (h : GSok n fms l k m s) : GSok n fms l (k + 1) m (gIn tg s j) := by
  unfold gIn
  split
  · next hh =>
    unfold gHit at hh
    simp only [Bool.and_eq_true, Bool.not_eq_true', decide_eq_false_iff_not] at hh
    refine ⟨h.sm.add (by omega), by simp [addL, h.ne], ?_, ?_, ?_, ?_⟩
    · intro x hx
      obtain ⟨y, hy, rfl⟩ := List.mem_map.1 hx
      have := h.ok y hy
      exact ⟨this.sm.add (by omega), this.fm, this.tg⟩
    · rw [← h.fms]; simp [GT.add, Function.comp_def]
    · simp; have := h.len; omega
    · intro g hg
      rcases List.mem_append.1 hg with hg | hg
      · exact h.gates g hg
      · simp only [List.mem_singleton] at hg
        subst hg
        unfold GateOk
        dsimp only
        omega
  · exact ⟨h.sm, h.ne, h.ok, h.fms, by have := h.len; omega, h.gates⟩
theorem gInTo_ok {n : Nat} {fms : List Nat} {l m : Nat} {tg : Int} {s : GS} (hn : n ≤ 5) (htg : 0 ≤ tg ∧ tg < (n : Int)) (h : GSok n fms l 0 m s) : ∀ k, k ≤ n → GSok n fms l k m (gInTo tg s k)
  | 0, _ => h
  | k + 1, hk => by rw [gInTo_succ]; exact gIn_ok hn htg (by omega) (gInTo_ok hn htg h k (by omega))
theorem gIns_ok {n f : Nat} {x : GT} {r : List GT} {out : List E3} (hn : n ≤ 5) (h : GInv n f (x :: r) out) : GSok n (r.map GT.fm) x.vs.length 5 out.length (gIns n x r out) := by
  have hx := h.ok x (by simp)
  have h0 : GSok n (r.map GT.fm) x.vs.length 0 out.length ⟨x.vs, r, out⟩ := ⟨hx.sm, rfl, fun y hy => h.ok y (by simp [hy]), rfl, by simp, h.gates⟩
  unfold gIns
  split
  · exact ⟨h0.sm, h0.ne, h0.ok, h0.fms, by have := h0.len; omega, h0.gates⟩
  · have h1 := gInTo_ok hn ⟨by omega, hx.tg.2⟩ h0 n (Nat.le_refl _)
    exact ⟨h1.sm, h1.ne, h1.ok, h1.fms, by have := h1.len; omega, h1.gates⟩
theorem wts_fms {a b : List GT} (h : a.map GT.fm = b.map GT.fm) : wts a = wts b := by
  have e : ∀ l : List GT, wts l = ((l.map GT.fm).map wt).sum := fun l => by unfold wts; rw [List.map_map]; rfl
  rw [e, e, h]
theorem gInv_empty {n f : Nat} {x : GT} {r : List GT} {out : List E3} (h : GInv n (f + 1) (x :: r) out) : GInv n f r out := by
  have hp := wt_pos x.fm
  have h1 := h.fuel
  have h2 := h.len
  rw [wts_cons] at h1 h2
  exact ⟨fun y hy => h.ok y (by simp [hy]), by omega, by omega, h.gates⟩
theorem gInv_stop {n f : Nat} {x : GT} {r : List GT} {out : List E3} (hn : n ≤ 5) (h : GInv n (f + 1) (x :: r) out) : GInv n f (gIns n x r out).st (gIns n x r out).out := by
  have hp := wt_pos x.fm
  have h1 := h.fuel
  have h2 := h.len
  have h3 := gIns_ok hn h
  have h4 := wts_fms h3.fms
  have h5 := h3.len
  rw [wts_cons] at h1 h2
  exact ⟨h3.ok, by omega, by omega, h3.gates⟩
theorem gInv_split {n f j : Nat} {x : GT} {r : List GT} {out : List E3} {tg : Int} (hn : n ≤ 5) (h : GInv n (f + 1) (x :: r) out) (hj : j ∈ setB x.fm 5) (htg : -1 ≤ tg ∧ tg < (n : Int)) :
    GInv n f (⟨gSet (gIns n x r out).vs j false, clearB x.fm j, x.tg⟩ :: ⟨gSet (gIns n x r out).vs j true, clearB x.fm j, tg⟩ :: (gIns n x r out).st) (gIns n x r out).out := by
  have hx := h.ok x (by simp)
  have hp5 := pow5 hn
  have hw := wt_clear (j := j) (by have := hx.fm; omega) hj
  have h1 := h.fuel
  have h2 := h.len
  have h3 := gIns_ok hn h
  have h4 := wts_fms h3.fms
  have h5 := h3.len
  have hc : clearB x.fm j < 2 ^ n := Nat.lt_of_le_of_lt (Nat.sub_le _ _) hx.fm
  rw [wts_cons] at h1 h2
  refine ⟨?_, ?_, ?_, h3.gates⟩
  · intro y hy
    rcases List.mem_cons.1 hy with rfl | hy
    · exact ⟨h3.sm.set, hc, hx.tg⟩
    · rcases List.mem_cons.1 hy with rfl | hy
      · exact ⟨h3.sm.set, hc, htg⟩
      · exact h3.ok y hy
  · rw [wts_cons, wts_cons]; dsimp only; omega
  · rw [wts_cons, wts_cons]; dsimp only; omega
theorem bits_lt {n fm j : Nat} (h : fm < 2 ^ n) (hj : j ∈ setB fm 5) : j < n := by
  have := (setB_mem hj).2
  exact Nat.lt_of_not_le fun hle => by rw [testBit_big h hle] at this; cases this
theorem gInv_gates {n : Nat} (hn : n ≤ 5) : ∀ (f : Nat) (st : List GT) (out : List E3), GInv n f st out → (gLoop n f st out).length ≤ 315 ∧ ∀ g ∈ gLoop n f st out, GateOk (n : Int) g
  | 0, st, out, h => ⟨by have := h.len; unfold gLoop; omega, h.gates⟩
  | f + 1, [], out, h => ⟨by have := h.len; unfold gLoop; omega, h.gates⟩
  | f + 1, x :: r, out, h => by
    unfold gLoop
    split
    · exact gInv_gates hn f r out (gInv_empty h)
    · split
      · exact gInv_gates hn f _ _ (gInv_stop hn h)
      · next h1 h2 =>
        rcases gBest_mem (gIns n x r out).vs x.fm with h3 | ⟨j, hj, h3⟩
        · omega
        · have hjn := bits_lt (h.ok x (by simp)).fm hj
          have htg := (h.ok x (by simp)).tg
          rw [h3, Int.toNat_natCast]
          refine gInv_gates hn f _ _ (gInv_split hn h hj ?_)
          split <;> omega
theorem full_bits : ∀ n : Nat, n < 6 → wt (2 ^ n - 1) ≤ 63 ∧ setB (2 ^ n - 1) 5 = List.range n := by decide +kernel
theorem gInv_start {n : Nat} {masks : List Nat} (hn : n ≤ 5) (h : Sm masks) : GInv n 63 [⟨masks, 2 ^ n - 1, -1⟩] [] := by
  have h1 := (full_bits n (by omega)).1
  have h2 := Nat.pow_pos (n := n) (show 0 < 2 by omega)
  have h3 : wts [⟨masks, 2 ^ n - 1, -1⟩] = wt (2 ^ n - 1) := by rw [wts_cons]; rfl
  refine ⟨fun x hx => ?_, by rw [h3]; exact h1, by rw [h3]; simp; omega, fun g hg => by cases hg⟩
  simp only [List.mem_singleton] at hx
  subst hx
  exact ⟨h, by dsimp only; omega, by dsimp only; omega⟩
theorem gAll_ok {n : Nat} {masks : List Nat} (h1 : 1 ≤ n) (hn : n ≤ 5) (h : Sm masks) : circB ⟨(n : Int), gAll n masks⟩ = true := by
  have := gInv_gates hn 63 _ _ (gInv_start hn h)
  exact decide_eq_true ⟨⟨by dsimp only; omega, by dsimp only; omega⟩, by have := this.1; unfold gAll; dsimp only; omega, this.2⟩
end Go.Proofs.Ytgonldkgghikiaa
