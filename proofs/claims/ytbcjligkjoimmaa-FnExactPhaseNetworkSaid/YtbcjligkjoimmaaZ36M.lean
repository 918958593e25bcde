/- PhaseNetwork, plain: how many gates a network has; products of controlled NOTs are valid maps. -/
import Derived.Test.YtbcjligkjoimmaaZ14M
import Derived.Test.YtbcjligkjoimmaaZ23M
import Derived.Test.YtbcjligkjoimmaaZ34M
import Derived.Test.YtbcjligkjoimmaaZ35M
namespace Go.Proofs.Ytbcjligkjoimmaa
set_option linter.unusedSimpArgs false
set_option linter.unusedVariables false
set_option linter.unnecessarySimpa false
set_option maxRecDepth 200000
open Go.ChangeShapes Go.WideShapes Go.ChangeAt Go.RowKit

theorem gInTo_cx (tg : Int) (s : GS) (h : ∀ g ∈ s.out, g.a = 9) : ∀ k : Nat, (∀ g ∈ (gInTo tg s k).out, g.a = 9) ∧ (gInTo tg s k).out.length + (if 0 ≤ tg ∧ tg < (k : Int) then 1 else 0) ≤ s.out.length + k
  | 0 => ⟨h, by rw [if_neg (by omega)]; exact Nat.le_refl _⟩
  | k + 1 => by
    obtain ⟨h1, h2⟩ := gInTo_cx tg s h k
    rw [gInTo_succ]
    unfold gIn
    split
    · next hh =>
      have hne : ¬ (k : Int) = tg := by
        unfold gHit at hh
        simp only [Bool.and_eq_true, Bool.not_eq_true', decide_eq_false_iff_not] at hh
        exact hh.1
      refine ⟨fun g hg => ?_, ?_⟩
      · rcases List.mem_append.1 hg with hg | hg
        · exact h1 g hg
        · simp only [List.mem_singleton] at hg
          rw [hg]
      · dsimp only
        rw [List.length_append, List.length_singleton]
        split at h2 <;> split <;> omega
    · refine ⟨h1, ?_⟩
      split at h2 <;> split <;> omega
theorem gIns_cx {n : Nat} {x : GT} {r : List GT} {out : List E3} (hn : n ≤ 5) (hx : x.tg < (n : Int)) (h : ∀ g ∈ out, g.a = 9) : (∀ g ∈ (gIns n x r out).out, g.a = 9) ∧ (gIns n x r out).out.length ≤ out.length + 4 := by
  unfold gIns
  split
  · exact ⟨h, by dsimp only; omega⟩
  · obtain ⟨h1, h2⟩ := gInTo_cx x.tg ⟨x.vs, r, out⟩ h n
    refine ⟨h1, ?_⟩
    rw [if_pos ⟨by omega, hx⟩] at h2
    dsimp only at h2
    omega
theorem gLoop_cx {n : Nat} (hn : n ≤ 5) : ∀ (f : Nat) (st : List GT) (out : List E3), GInv n f st out → (∀ g ∈ out, g.a = 9) → out.length + 4 * wts st ≤ 252 → (gLoop n f st out).length ≤ 252 ∧ ∀ g ∈ gLoop n f st out, g.a = 9
  | 0, st, out, _, h, hl => ⟨by unfold gLoop; omega, h⟩
  | f + 1, [], out, _, h, hl => ⟨by unfold gLoop; omega, h⟩
  | f + 1, x :: r, out, hi, h, hl => by
    have hp := wt_pos x.fm
    have hx := hi.ok x (by simp)
    obtain ⟨c1, c2⟩ := gIns_cx (r := r) hn hx.tg.2 h
    have h3 := gIns_ok hn hi
    have h4 := wts_fms h3.fms
    rw [wts_cons] at hl
    unfold gLoop
    split
    · exact gLoop_cx hn f r out (gInv_empty hi) h (by omega)
    · split
      · exact gLoop_cx hn f _ _ (gInv_stop hn hi) c1 (by omega)
      · next h1 h2 =>
        rcases gBest_mem (gIns n x r out).vs x.fm with h5 | ⟨j, hj, h5⟩
        · omega
        · have hjn := bits_lt hx.fm hj
          have htg := hx.tg
          have hp5 := pow5 hn
          have hw := wt_clear (j := j) (by have := hx.fm; omega) hj
          rw [h5, Int.toNat_natCast]
          refine gLoop_cx hn f _ _ (gInv_split hn hi hj ?_) c1 ?_
          · split <;> omega
          · rw [wts_cons, wts_cons]; dsimp only; omega
theorem gAll_few {n : Nat} {masks : List Nat} (hn : n ≤ 5) (h : Sm masks) : (gAll n masks).length ≤ 252 ∧ ∀ g ∈ gAll n masks, g.a = 9 := by
  have h1 := (full_bits n (by omega)).1
  refine gLoop_cx hn 63 _ _ (gInv_start hn h) (fun g hg => by cases hg) ?_
  have h3 : wts [⟨masks, 2 ^ n - 1, -1⟩] = wt (2 ^ n - 1) := by rw [wts_cons]; rfl
  rw [h3]
  simp
  omega
/-- A controlled NOT keeps the span. -/
theorem same_cx {L : List Nat} {a b : Nat} (ha : a < L.length) (hb : b < L.length) (hab : a ≠ b) : Same L (cxN L a b) := by
  have hga : L.getD a 0 = L[a] := getD_lt ha
  have hgb : L.getD b 0 = L[b] := getD_lt hb
  have hla : a < (cxN L a b).length := by rw [cxN_len]; exact ha
  have hlb : b < (cxN L a b).length := by rw [cxN_len]; exact hb
  have ea : (cxN L a b)[a]'hla = L[a] := by simp [cxN, List.getElem_set, Ne.symm hab]
  have eb : (cxN L a b)[b]'hlb = L[b] ^^^ L[a] := by simp only [cxN, List.getElem_set]; rw [if_pos trivial, hga, hgb]
  have ma : Spn (cxN L a b) L[a] := by rw [← ea]; exact .one (List.getElem_mem hla)
  refine .of (fun r hr => ?_) (fun r hr => ?_)
  · obtain ⟨i, hi, rfl⟩ := List.getElem_of_mem hr
    by_cases hib : i = b
    · subst hib
      have h9 : Spn (cxN L a i) ((L[i] ^^^ L[a]) ^^^ L[a]) := Spn.xor (by rw [← eb]; exact .one (List.getElem_mem hlb)) ma
      rwa [Nat.xor_assoc, Nat.xor_self, Nat.xor_zero] at h9
    · have hli : i < (cxN L a b).length := by rw [cxN_len]; exact hi
      have ei : (cxN L a b)[i]'hli = L[i] := by simp [cxN, List.getElem_set, Ne.symm hib]
      rw [← ei]
      exact .one (List.getElem_mem hli)
  · obtain ⟨i, hi, rfl⟩ := List.getElem_of_mem hr
    have hi2 : i < L.length := by rw [cxN_len] at hi; exact hi
    by_cases hib : i = b
    · subst hib
      rw [eb]
      exact Spn.xor (.one (List.getElem_mem hi2)) (.one (List.getElem_mem ha))
    · have ei : (cxN L a b)[i]'hi = L[i] := by simp [cxN, List.getElem_set, Ne.symm hib]
      rw [ei]
      exact .one (List.getElem_mem hi2)
theorem rk_same {L M : List Nat} (h : Same L M) : rk L = rk M := by
  obtain ⟨n, hn, e1⟩ := Classical.choose_spec (Left.start L)
  obtain ⟨m, hm, e2⟩ := Classical.choose_spec (Left.start M)
  have e3 := hn.same hm h
  show Classical.choose (Left.start L) = Classical.choose (Left.start M)
  omega
/-- Controlled NOTs within n qubits. -/
def CxOk (n : Nat) (g : E3) : Prop := g.a = 9 ∧ g.b.toNat < n ∧ g.c.toNat < n ∧ g.b.toNat ≠ g.c.toNat
theorem same_cxs {n : Nat} : ∀ (gs : List E3) (L : List Nat), L.length = n → (∀ g ∈ gs, CxOk n g) → Same L (cxs L gs)
  | [], L, _, _ => fun _ => Iff.rfl
  | g :: gs, L, hl, h => by
    have hg := h g (by simp)
    have h1 := same_cx (L := L) (a := g.b.toNat) (b := g.c.toNat) (by rw [hl]; exact hg.2.1) (by rw [hl]; exact hg.2.2.1) hg.2.2.2
    exact h1.trans (same_cxs gs _ (by rw [cxN_len, hl]) (fun g hg => h g (by simp [hg])))
theorem cx_lt {L : List Nat} {m a b : Nat} (h : ∀ x ∈ L, x < 2 ^ m) : ∀ x ∈ cxN L a b, x < 2 ^ m := by
  have hg : ∀ i, L.getD i 0 < 2 ^ m := fun i => by
    by_cases hi : i < L.length
    · rw [getD_lt hi]; exact h _ (List.getElem_mem hi)
    · rw [show L.getD i 0 = 0 from by simp [List.getD, hi]]; exact Nat.pow_pos (by decide)
  intro x hx
  rcases List.mem_or_eq_of_mem_set hx with hx | rfl
  · exact h x hx
  · exact Nat.xor_lt_two_pow (hg _) (hg _)
theorem cxs_lt {m : Nat} : ∀ (gs : List E3) (L : List Nat), (∀ x ∈ L, x < 2 ^ m) → ∀ x ∈ cxs L gs, x < 2 ^ m
  | [], _, h => h
  | g :: gs, L, h => cxs_lt gs _ (cx_lt h)
theorem natL_ints (L : List Nat) : natL (ints L) = L := by
  unfold natL ints
  rw [List.map_map]
  exact (List.map_congr_left (fun x _ => by simp)).trans (List.map_id _)
/-- A product of controlled NOTs is a valid map. -/
theorem cxs_ok {n : Nat} (h1 : 1 ≤ n) (h5 : n ≤ 5) {gs : List E3} (h : ∀ g ∈ gs, CxOk n g) : LinOk (ints (cxs (idN n) gs)) := by
  have hl : (cxs (idN n) gs).length = n := by rw [cxs_len, idN_len]
  obtain ⟨_, _, h3⟩ := id_ok h1 h5
  refine ⟨by rw [ints_len, hl]; exact ⟨h1, h5⟩, ?_, ?_⟩
  · rw [allIn_iff, ints_len, hl]
    intro z hz
    unfold ints at hz
    obtain ⟨x, hx, rfl⟩ := List.mem_map.1 hz
    have h9 := cxs_lt (m := n) gs (idN n) (fun y hy => by
      obtain ⟨i, hi, rfl⟩ := List.mem_map.1 hy
      exact Nat.pow_lt_pow_right (by decide) (by simpa using hi)) x hx
    have h10 : ((2 ^ n : Nat) : Int) = (2 : Int) ^ n := by simp
    omega
  · rw [ints_len, hl]
    have e : rkI (ints (cxs (idN n) gs)) = rkI (idRows n) := by
      unfold rkI
      rw [idN_ints]
      show rk (natL (ints _)) = rk (natL (ints _))
      rw [natL_ints, natL_ints]
      exact (rk_same (same_cxs gs (idN n) (idN_len n) h)).symm
    rw [e, h3, idRows_len]
end Go.Proofs.Ytbcjligkjoimmaa
namespace Go.Proofs.Ytbcjligkjoimmaa
set_option linter.unusedSimpArgs false
set_option linter.unusedVariables false
set_option linter.unnecessarySimpa false
set_option maxRecDepth 200000
open Go.ChangeShapes Go.WideShapes Go.ChangeAt Go.RowKit

def pnM (p : PP) : List Nat := p.ts.map fun t => t.a.toNat
def pnNet (p : PP) : List E3 := gAll p.n.toNat (pnM p)
def pnR (p : PP) : List Nat := cxs (idN p.n.toNat) (pnNet p)
def pnI (p : PP) : List Nat := cxs (idN p.n.toNat) (redG (pnR p))
def pnT (p : PP) : List Nat := thenN (pnI p) (natL p.out)
def pnFull (p : PP) : List E3 := pnNet p ++ (redG (pnT p)).reverse
def pnEnd (p : PP) : List E3 := (plEnd p.n.toNat (pnFull p) p.ts).2
def pnOut (p : PP) : List E3 := pnEnd p ++ List.replicate p.ph.toNat ⟨12, 0, 0⟩
noncomputable def phnG (p : PP) : Option Circ := if ppB p = true then some ⟨p.n, pnOut p⟩ else none
theorem cx_of {m : Nat} {g : E3} (h : GateOk (m : Int) g) (h9 : g.a = 9) : CxOk m g := by
  obtain ⟨a, b, c⟩ := g
  unfold GateOk at h
  unfold CxOk
  dsimp only at *
  omega
theorem loTo_cx {n : Nat} {gs : List E3} (h : ∀ g ∈ gs, g.a = 9) : ∀ k, k ≤ gs.length → loTo n gs k = some (cxs (idN n) (gs.take k))
  | 0, _ => rfl
  | k + 1, hk => by
    have e : gs.getD k ⟨0, 0, 0⟩ = gs[k] := by simp [List.getD, show k < gs.length by omega]
    rw [loTo_succ (by omega), loTo_cx h k (by omega), e, cxs_take (by omega)]
    unfold loF
    dsimp only
    rw [if_pos (h _ (List.getElem_mem (by omega)))]
structure PnOk (p : PP) (m : Nat) : Prop where
  n : p.n = (m : Int)
  m1 : 1 ≤ m
  m5 : m ≤ 5
  ph : ∃ c : Nat, p.ph = (c : Int) ∧ c ≤ 7
  ts : TermsOk p.n p.ts
  few : p.ts.length ≤ 31
  sm : Sm (pnM p)
  net : netB ⟨p.n, pnNet p⟩ = true
  netl : (pnNet p).length ≤ 252
  lo : loG ⟨p.n, pnNet p⟩ = some (ints (pnR p))
  rok : LinOk (ints (pnR p))
  rs : Small (pnR p)
  rl : (pnR p).length = m
  inv : invLG (ints (pnR p)) = some (ints (pnI p))
  is : Small (pnI p)
  il : (pnI p).length = m
  iok : LinOk (ints (pnI p))
  ook : LinOk p.out
  ol : p.out.length = m
  onat : p.out = ints (natL p.out)
  olt : ∀ y ∈ natL p.out, y < 2 ^ (pnI p).length
  comp : compG (ints (pnI p)) p.out = some (ints (pnT p))
  tl : (pnT p).length = m
  tsm : Small (pnT p)
  full : netB ⟨p.n, pnFull p⟩ = true
  fulll : (pnFull p).length ≤ 302
  red : (redG (pnT p)).length ≤ 50
  endl : (pnEnd p).length ≤ 364
  circ : circB ⟨p.n, pnOut p⟩ = true
theorem net_of {m : Nat} {gs : List E3} (h1 : 1 ≤ m) (h5 : m ≤ 5) (hl : gs.length ≤ 400) (hg : ∀ g ∈ gs, GateOk (m : Int) g) (h9 : ∀ g ∈ gs, g.a = 9) : netB ⟨(m : Int), gs⟩ = true := by
  unfold netB
  rw [Bool.and_eq_true]
  refine ⟨decide_eq_true ⟨by dsimp only; omega, hl, hg⟩, ?_⟩
  unfold allCX
  rw [List.all_eq_true]
  exact fun g hg => decide_eq_true (h9 g hg)
theorem red_gates {L : List Nat} (h : Small L) (h1 : 1 ≤ L.length) (h5 : L.length ≤ 5) : ∀ g ∈ redG L, CxOk L.length g ∧ GateOk (L.length : Int) g ∧ g.a = 9 := by
  intro g hg
  obtain ⟨k, hk, rfl⟩ := List.getElem_of_mem hg
  obtain ⟨a, b, e, ha, hb, hab⟩ := red_gate h hk
  have e2 : (redG L).getD k ⟨0, 0, 0⟩ = (redG L)[k] := by simp [List.getD, hk]
  rw [← e2, e]
  refine ⟨?_, ?_, rfl⟩
  · unfold CxOk; dsimp only; omega
  · unfold GateOk; dsimp only; omega
theorem pn_ok {p : PP} (h : PPOk p) : ∃ m, PnOk p m := by
  obtain ⟨hn, hph, hol, hook, hts⟩ := h
  obtain ⟨m, hm⟩ : ∃ m : Nat, p.n = (m : Int) := ⟨p.n.toNat, by omega⟩
  have hmt : p.n.toNat = m := by omega
  have m1 : 1 ≤ m := by omega
  have m5 : m ≤ 5 := by omega
  have few := terms_few hn hts
  have sm : Sm (pnM p) := by
    refine ⟨by unfold pnM; rw [List.length_map]; exact few, fun v hv => ?_⟩
    obtain ⟨t, ht, rfl⟩ := List.mem_map.1 hv
    obtain ⟨k, hk, rfl⟩ := List.getElem_of_mem ht
    have h2 := term_ok hts hk
    have h3 := pow_5 hn
    have e : p.ts.getD k ⟨0, 0⟩ = p.ts[k] := by simp [List.getD, hk]
    rw [e] at h2
    omega
  have hnet : pnNet p = gAll m (pnM p) := by unfold pnNet; rw [hmt]
  obtain ⟨n1, n2⟩ := gAll_few m5 sm
  have n3 : ∀ g ∈ gAll m (pnM p), GateOk (m : Int) g := (gInv_gates m5 63 _ _ (gInv_start m5 sm)).2
  have ncx : ∀ g ∈ pnNet p, CxOk m g := by rw [hnet]; exact fun g hg => cx_of (n3 g hg) (n2 g hg)
  have net : netB ⟨p.n, pnNet p⟩ = true := by rw [hm, hnet]; exact net_of m1 m5 (by omega) n3 n2
  have hcb : circB ⟨p.n, pnNet p⟩ = true := by unfold netB at net; rw [Bool.and_eq_true] at net; exact net.1
  have hR : pnR p = cxs (idN m) (pnNet p) := by unfold pnR; rw [hmt]
  have rl : (pnR p).length = m := by rw [hR, cxs_len, idN_len]
  have rs : Small (pnR p) := by rw [hR]; exact (idN_small m5).cxs _
  have rok : LinOk (ints (pnR p)) := by rw [hR]; exact cxs_ok m1 m5 ncx
  have lo : loG ⟨p.n, pnNet p⟩ = some (ints (pnR p)) := by
    unfold loG
    rw [if_pos hcb]
    dsimp only
    rw [hmt, loTo_cx (fun g hg => (ncx g hg).1) _ (Nat.le_refl _), List.take_length, hR]
    rfl
  have hI : pnI p = cxs (idN m) (redG (pnR p)) := by unfold pnI; rw [hmt]
  have il : (pnI p).length = m := by rw [hI, cxs_len, idN_len]
  have is : Small (pnI p) := by rw [hI]; exact (idN_small m5).cxs _
  have rg := red_gates rs (by omega) (by omega)
  rw [rl] at rg
  have iok : LinOk (ints (pnI p)) := by rw [hI]; exact cxs_ok m1 m5 (fun g hg => (rg g hg).1)
  have inv : invLG (ints (pnR p)) = some (ints (pnI p)) := by
    unfold invLG
    rw [if_pos rok]
    show some (ints (cxs (idN (ints (pnR p)).length) (redG (natL (ints (pnR p)))))) = _
    rw [natL_ints, ints_len, rl, hI]
  have ol : p.out.length = m := by omega
  have onat : p.out = ints (natL p.out) := (LinOk.nat hook).1
  have hcl : LinOk (ints (pnI p)) ∧ LinOk p.out ∧ (ints (pnI p)).length = p.out.length := ⟨iok, hook, by rw [ints_len, il, ol]⟩
  have olt : ∀ y ∈ natL p.out, y < 2 ^ (pnI p).length := by
    have := rows_lt hcl
    rwa [natL_ints] at this
  have comp : compG (ints (pnI p)) p.out = some (ints (pnT p)) := by rw [compG_some hcl, natL_ints]; rfl
  have tl : (pnT p).length = m := by unfold pnT; rw [thenN_len, natL_len, ol]
  have tsm : Small (pnT p) := is.then _
  have tg := red_gates tsm (by omega) (by omega)
  rw [tl] at tg
  have red := red_few tsm (by omega)
  have fulll : (pnFull p).length ≤ 302 := by unfold pnFull; rw [List.length_append, List.length_reverse, hnet]; omega
  have full : netB ⟨p.n, pnFull p⟩ = true := by
    rw [hm]
    refine net_of m1 m5 (by omega) (fun g hg => ?_) (fun g hg => ?_)
    · rcases List.mem_append.1 hg with hg | hg
      · rw [hnet] at hg; exact n3 g hg
      · exact (tg g (List.mem_reverse.1 hg)).2.1
    · rcases List.mem_append.1 hg with hg | hg
      · rw [hnet] at hg; exact n2 g hg
      · exact (tg g (List.mem_reverse.1 hg)).2.2
  have hpl := plEnd_ok (d := ⟨p.n, pnFull p⟩) (n := m) hts full hm
  have endl : (pnEnd p).length ≤ 364 := by
    have h1 := hpl.len
    have h2 := hpl.done
    dsimp only at h1 h2
    unfold pnEnd
    rw [hmt]
    omega
  refine ⟨m, hm, m1, m5, ⟨p.ph.toNat, by omega, by omega⟩, hts, few, sm, net, by rw [hnet]; exact n1, lo, rok, rs, rl, inv, is, il, iok, hook, ol, onat, olt, comp, tl, tsm, full, fulll, red, endl, ?_⟩
  refine decide_eq_true ⟨hn, ?_, ?_⟩
  · unfold pnOut
    dsimp only
    rw [List.length_append, List.length_replicate]
    omega
  · intro g hg
    dsimp only at hg ⊢
    rcases List.mem_append.1 hg with hg | hg
    · rw [hm]
      unfold pnEnd at hg
      rw [hmt] at hg
      exact hpl.ok g hg
    · have := List.eq_of_mem_replicate hg
      rw [this]
      unfold GateOk
      dsimp only
      omega
theorem phnG_none {p : PP} (h : ppB p = false) : phnG p = none := by unfold phnG; rw [h]; rfl
theorem phnG_some {p : PP} (h : ppB p = true) : phnG p = some ⟨p.n, pnOut p⟩ := by unfold phnG; rw [if_pos h]
theorem phnG_len (p : PP) : ((phnG p).getD Circ.zero).gs.length ≤ 1000000 := by
  unfold phnG
  split
  · next h =>
    obtain ⟨m, hm⟩ := pn_ok (of_decide_eq_true h)
    have h2 : CircOk ⟨p.n, pnOut p⟩ := of_decide_eq_true hm.circ
    have := h2.2.1
    dsimp only at this
    show (pnOut p).length ≤ _
    omega
  · simp [Circ.zero]
end Go.Proofs.Ytbcjligkjoimmaa
