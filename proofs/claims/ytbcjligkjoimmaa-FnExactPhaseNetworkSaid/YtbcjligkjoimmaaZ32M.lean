/- A valid phase polynomial: the tests in the program and in the reference. -/
import Derived.Test.YtbcjligkjoimmaaZ23M
import Derived.Test.YtbcjligkjoimmaaZ24M
import Derived.BigQuiet
import Derived.Deep.QuietTactic
namespace Go.Proofs.Ytbcjligkjoimmaa
set_option linter.unusedSimpArgs false
set_option linter.unusedVariables false
set_option linter.unnecessarySimpa false
set_option maxRecDepth 200000
open Go.ChangeShapes Go.WideShapes Go.ChangeAt Go.RowKit

theorem quietB {f : FuncId} {args : Array Value} {w : World} {n : Nat} {a b : Bool} (h : Calls Try.prog f args (w.drewN n) fun e w' => e = .returned (.bool a) ∧ w.drewN n = w') (he : a = b) : Calls Try.prog f args (w.drewN n) fun e w'' => e = .returned (.bool b) ∧ ∃ m, w'' = w.drewN m := by
  subst he; exact h.mono fun _ _ ⟨he, hm⟩ => ⟨he, n, hm.symm⟩
/-- The cells of the terms that one round reads. -/
theorem term_cells {w : World} {v : Value} {ts : List E2} (h : RdE w v E2.cs 2 ts) (h0 : 0 < ts.length) : ∃ b off cap, v = .slice (some ⟨b, off, none⟩) ts.length cap ∧ b < w.heap.size ∧ ts.length ≤ cap ∧ ∀ k, k < ts.length → w.cell? ⟨b, off + k * 2, none⟩ = some (.int .i64 (ts.getD k ⟨0, 0⟩).a) ∧ w.cell? ⟨b, off + k * 2 + 1, none⟩ = some (.int .i64 (ts.getD k ⟨0, 0⟩).b) := by
  rcases h.cases0 E2.len with ⟨he, _⟩ | ⟨_, b, off, cap, rfl, hb, hl, hm, hc⟩
  · subst he; simp at h0
  · refine ⟨b, off, cap, rfl, hb, hl, fun k hk => ?_⟩
    have e : ts.getD k ⟨0, 0⟩ = ts[k] := by simp [List.getD, hk]
    rw [e]
    exact ⟨hc k hk 0 _ (by omega) rfl, hc k hk 1 _ (by omega) rfl⟩
theorem termB_1 {n : Int} {ts : List E2} {k : Nat} (h : ¬ (1 ≤ (ts.getD k ⟨0, 0⟩).a ∧ (ts.getD k ⟨0, 0⟩).a ≤ 2 ^ n.toNat - 1)) : termB n ts k = false := by unfold termB; rw [decide_eq_false h]; rfl
theorem termB_2 {n : Int} {ts : List E2} {k : Nat} (h : ¬ (1 ≤ (ts.getD k ⟨0, 0⟩).b ∧ (ts.getD k ⟨0, 0⟩).b ≤ 7)) : termB n ts k = false := by unfold termB; rw [decide_eq_false h, Bool.and_false]; rfl
theorem termB_3 {n : Int} {ts : List E2} {k : Nat} (h : ¬ (k = 0 ∨ (ts.getD (k - 1) ⟨0, 0⟩).a < (ts.getD k ⟨0, 0⟩).a)) : termB n ts k = false := by
  unfold termB
  rw [show (decide (k = 0) || decide ((ts.getD (k - 1) ⟨0, 0⟩).a < (ts.getD k ⟨0, 0⟩).a)) = false from by simpa using h, Bool.and_false]
theorem termB_ok {n : Int} {ts : List E2} {k : Nat} (h1 : 1 ≤ (ts.getD k ⟨0, 0⟩).a ∧ (ts.getD k ⟨0, 0⟩).a ≤ 2 ^ n.toNat - 1) (h2 : 1 ≤ (ts.getD k ⟨0, 0⟩).b ∧ (ts.getD k ⟨0, 0⟩).b ≤ 7) (h3 : k = 0 ∨ (ts.getD (k - 1) ⟨0, 0⟩).a < (ts.getD k ⟨0, 0⟩).a) : termB n ts k = true := by
  unfold termB
  rw [decide_eq_true h1, decide_eq_true h2, show (decide (k = 0) || decide ((ts.getD (k - 1) ⟨0, 0⟩).a < (ts.getD k ⟨0, 0⟩).a)) = true from by simpa using h3]
  rfl
set_option maxHeartbeats 4000000 in
theorem impl_areTerms_any (n : Int) (v : Value) (ts : List E2) (w : World) (h : RdE w v E2.cs 2 ts) (hn1 : 1 ≤ n) (hn2 : n ≤ 5) (hl : ts.length ≤ 1048576) :
    Calls Try.prog 59 #[.int .i64 n, v] w fun e w' => e = .returned (.bool (termsB n ts)) ∧ Below w.heap.size w w' := by
  obtain ⟨m, rfl⟩ := Int.eq_ofNat_of_zero_le (show 0 ≤ n by omega)
  rcases Nat.eq_zero_or_pos ts.length with hz | h0
  · have HR := Lib.hid (terms_yes (n := (m : Int)) (ts := ts) (k := 0) (by omega) (fun j hj hk => by omega))
    obtain ⟨A, c, rfl, _⟩ := h.form
    rw [hz]
    clear h
    go_enter Try.func59, Try.ntmps59
    go_wp2_with fail
    refine wp_loop_rounds 1 ?_
    rw [rounds_succ]
    go_wp2_with fail
    go_ret
    exact ⟨ret_bool HR.out, (by repeat (first | exact Below.refl _ _ | assumption | refine Below.drew ?_ | refine below_drewN ?_ _ | refine Below.alloc ?_ (by first | omega | (simp <;> omega)) _ | refine Below.setCell ?_ (by first | omega | (simp <;> omega)) _ | refine Below.trans ?_ (Below.mono (by assumption) (by first | omega | (simp <;> omega)))))⟩
  · obtain ⟨b, off, cap, rfl, hb, hlc, hc⟩ := term_cells h h0
    have Hc := Lib.hid hc; clear hc h
    obtain ⟨p1, p2⟩ := pow_5 (n := (m : Int)) ⟨hn1, hn2⟩
    rw [Int.toNat_natCast] at p1 p2
    have hw : IntKind.i64.wrap ((2 : Int) ^ m) = (2 : Int) ^ m := IntWalk.i64_in _ (by omega)
    have hw2 : IntKind.i64.wrap ((2 : Int) ^ m - 1) = (2 : Int) ^ m - 1 := IntWalk.i64_in _ (by omega)
    go_enter Try.func59, Try.ntmps59
    go_wp2_with fail
    go_loopw [9] (fun i wr => ∃ k : Nat, k ≤ ts.length ∧ i = .int .i64 k ∧ Hid (∀ j, j < ts.length → j < k → termB (m : Int) ts j = true) ∧ Below w.heap.size w wr) (fun i _ => ts.length - (intOf i).toNat)
    case atStart => exact ⟨0, Nat.zero_le _, rfl, (fun j hj hk => by omega), Below.refl _ _⟩
    case round =>
      obtain ⟨k, hk, rfl, hpre, hbel⟩ := hrel
      by_cases hlt : k < ts.length
      · obtain ⟨y, hy⟩ : ∃ y, y = ts.getD k ⟨0, 0⟩ := ⟨_, rfl⟩
        obtain ⟨z, hz⟩ : ∃ z, z = ts.getD (k - 1) ⟨0, 0⟩ := ⟨_, rfl⟩
        have q0 : wr.cell? ⟨b, off + k * 2, none⟩ = some (.int .i64 y.a) := (hbel.cell hb).trans (by rw [hy]; exact (Hc.out k hlt).1)
        have q1 : wr.cell? ⟨b, off + k * 2 + 1, none⟩ = some (.int .i64 y.b) := (hbel.cell hb).trans (by rw [hy]; exact (Hc.out k hlt).2)
        have q2 : wr.cell? ⟨b, off + (k - 1) * 2, none⟩ = some (.int .i64 z.a) := (hbel.cell hb).trans (by rw [hz]; exact (Hc.out (k - 1) (by omega)).1)
        have i1 : (k : Int) < (ts.length : Int) := by omega
        have hsz := hbel.size
        by_cases h1 : 1 ≤ y.a ∧ y.a ≤ 2 ^ m - 1
        · have D1 := Lib.hid (decide_eq_true h1)
          by_cases h2 : 1 ≤ y.b ∧ y.b ≤ 7
          · have D2 := Lib.hid (decide_eq_true h2)
            by_cases hk0 : k = 0
            · have HT := Lib.hid (termB_ok (n := (m : Int)) (ts := ts) (k := k) (by rw [← hy, Int.toNat_natCast]; exact h1) (by rw [← hy]; exact h2) (.inl hk0))
              have b1 : decide (0 < k) = false := by simp; omega
              clear h1 h2 hy hz hk0
              go_wp2_with fail
              go_quiet ((first | (go_at_call_of 58 (E2.a y); exact quietB (within_p y.a 1 (2 ^ m - 1) _) D1.out) | (go_at_call_of 58 (E2.b y); exact quietB (within_p y.b 1 7 _) D2.out)))
              all_goals
                go_wp2_with fail
                go_roundw
                case rel => exact ⟨k + 1, by omega, by go_num, terms_next hpre HT.out, (by repeat (first | exact Below.refl _ _ | assumption | refine Below.drew ?_ | refine below_drewN ?_ _ | refine Below.alloc ?_ (by first | omega | (simp <;> omega)) _ | refine Below.setCell ?_ (by first | omega | (simp <;> omega)) _ | refine Below.trans ?_ (Below.mono (by assumption) (by first | omega | (simp <;> omega)))))⟩
                case measure => simp [intOf]; omega
            · have b1 : decide (0 < k) = true := by simp; omega
              obtain ⟨p, hp⟩ : ∃ p, p = k - 1 := ⟨_, rfl⟩
              have hkk : IntKind.i64.wrap ((k : Int) - 1) = (p : Int) := by rw [show (k : Int) - 1 = (p : Int) from by omega]; exact IntWalk.i64_in _ (by omega)
              rw [← hp] at q2 hz
              have i2 : (p : Int) < (ts.length : Int) := by omega
              have Hp := Lib.hid hp; clear hp
              have q3 := cell_alloc_keep (.cells #[.int .i64 y.a, .int .i64 y.b] 48) q2
              by_cases h3 : z.a < y.a
              · have HT := Lib.hid (termB_ok (n := (m : Int)) (ts := ts) (k := k) (by rw [← hy, Int.toNat_natCast]; exact h1) (by rw [← hy]; exact h2) (.inr (by rw [← Hp.out, ← hy, ← hz]; exact h3)))
                have b2 : decide (y.a ≤ z.a) = false := by simp; omega
                clear h1 h2 h3 hy hz hk0
                go_wp2_with fail
                go_quiet ((first | (go_at_call_of 58 (E2.a y); exact quietB (within_p y.a 1 (2 ^ m - 1) _) D1.out) | (go_at_call_of 58 (E2.b y); exact quietB (within_p y.b 1 7 _) D2.out)))
                all_goals
                  go_wp2_with fail
                  go_roundw
                  case rel => exact ⟨k + 1, by omega, by go_num, terms_next hpre HT.out, (by repeat (first | exact Below.refl _ _ | assumption | refine Below.drew ?_ | refine below_drewN ?_ _ | refine Below.alloc ?_ (by first | omega | (simp <;> omega)) _ | refine Below.setCell ?_ (by first | omega | (simp <;> omega)) _ | refine Below.trans ?_ (Below.mono (by assumption) (by first | omega | (simp <;> omega)))))⟩
                  case measure => simp [intOf]; omega
              · have HR := Lib.hid (terms_no (n := (m : Int)) hlt (termB_3 (by rw [← Hp.out, ← hy, ← hz]; exact fun h => h.elim hk0 h3)))
                have b2 : decide (y.a ≤ z.a) = true := by simp; omega
                clear h1 h2 h3 hy hz hpre
                go_wp2_with fail
                go_quiet ((first | (go_at_call_of 58 (E2.a y); exact quietB (within_p y.a 1 (2 ^ m - 1) _) D1.out) | (go_at_call_of 58 (E2.b y); exact quietB (within_p y.b 1 7 _) D2.out)))
                all_goals
                  go_wp2_with fail
                  go_ret
                  exact ⟨ret_bool HR.out, (by repeat (first | exact Below.refl _ _ | assumption | refine Below.drew ?_ | refine below_drewN ?_ _ | refine Below.alloc ?_ (by first | omega | (simp <;> omega)) _ | refine Below.setCell ?_ (by first | omega | (simp <;> omega)) _ | refine Below.trans ?_ (Below.mono (by assumption) (by first | omega | (simp <;> omega)))))⟩
          · have D2 := Lib.hid (decide_eq_false h2)
            have HR := Lib.hid (terms_no (n := (m : Int)) hlt (termB_2 (by rw [← hy]; exact h2)))
            clear h1 h2 hy hz hpre
            go_wp2_with fail
            go_quiet ((first | (go_at_call_of 58 (E2.a y); exact quietB (within_p y.a 1 (2 ^ m - 1) _) D1.out) | (go_at_call_of 58 (E2.b y); exact quietB (within_p y.b 1 7 _) D2.out)))
            all_goals
              go_wp2_with fail
              go_ret
              exact ⟨ret_bool HR.out, (by repeat (first | exact Below.refl _ _ | assumption | refine Below.drew ?_ | refine below_drewN ?_ _ | refine Below.alloc ?_ (by first | omega | (simp <;> omega)) _ | refine Below.setCell ?_ (by first | omega | (simp <;> omega)) _ | refine Below.trans ?_ (Below.mono (by assumption) (by first | omega | (simp <;> omega)))))⟩
        · have D1 := Lib.hid (decide_eq_false h1)
          have HR := Lib.hid (terms_no (n := (m : Int)) hlt (termB_1 (by rw [← hy, Int.toNat_natCast]; exact h1)))
          clear h1 hy hz hpre
          go_wp2_with fail
          go_quiet ((go_at_call 58; exact quietB (within_p y.a 1 (2 ^ m - 1) _) D1.out))
          all_goals
            go_wp2_with fail
            go_ret
            exact ⟨ret_bool HR.out, (by repeat (first | exact Below.refl _ _ | assumption | refine Below.drew ?_ | refine below_drewN ?_ _ | refine Below.alloc ?_ (by first | omega | (simp <;> omega)) _ | refine Below.setCell ?_ (by first | omega | (simp <;> omega)) _ | refine Below.trans ?_ (Below.mono (by assumption) (by first | omega | (simp <;> omega)))))⟩
      · go_wp2_with fail
        go_ret
        exact ⟨ret_bool (terms_yes (by omega) hpre), hbel⟩
end Go.Proofs.Ytbcjligkjoimmaa
namespace Go.Proofs.Ytbcjligkjoimmaa
set_option linter.unusedSimpArgs false
set_option linter.unusedVariables false
set_option linter.unnecessarySimpa false
set_option maxRecDepth 200000
open Go.ChangeShapes Go.WideShapes Go.ChangeAt Go.RowKit

theorem pp_1 {p : PP} (h : ¬ (1 ≤ p.n ∧ p.n ≤ 5)) : false = ppB p := (ppB_false fun k => h k.1).symm
theorem pp_2 {p : PP} (h : ¬ (0 ≤ p.ph ∧ p.ph ≤ 7)) : false = ppB p := (ppB_false fun k => h k.2.1).symm
theorem pp_3 {p : PP} (h : ¬ (p.out.length : Int) = p.n) : false = ppB p := (ppB_false fun k => h k.2.2.1).symm
theorem pp_4 {p : PP} (h : ¬ LinOk p.out) : false = ppB p := (ppB_false fun k => h k.2.2.2.1).symm
theorem pp_5 {p : PP} (h : ¬ TermsOk p.n p.ts) : false = ppB p := (ppB_false fun k => h k.2.2.2.2).symm
theorem pp_ok {p : PP} (h1 : 1 ≤ p.n ∧ p.n ≤ 5) (h2 : 0 ≤ p.ph ∧ p.ph ≤ 7) (h3 : (p.out.length : Int) = p.n) (h4 : LinOk p.out) (h5 : TermsOk p.n p.ts) : true = ppB p := (ppB_true ⟨h1, h2, h3, h4, h5⟩).symm
set_option maxHeartbeats 4000000 in
theorem impl_IsValidPhasePoly_any (v u : Value) (p : PP) (w : World) (h : RdE w v E2.cs 2 p.ts) (hu : RdI w u p.out) (hl : p.ts.length ≤ 1048576) (hm : p.out.length ≤ 1048576) :
    Calls Try.prog 24 #[.agg #[.int .i64 p.n, .int .i64 p.ph, v, u]] w fun e w' => e = .returned (.bool (ppB p)) ∧ Below w.heap.size w w' := by
  have H := Lib.hid h; have HU := Lib.hid hu
  obtain ⟨A, c, rfl, _⟩ := h.form
  obtain ⟨A2, c2, rfl, _⟩ := hu.form
  clear h hu
  by_cases h1 : 1 ≤ p.n ∧ p.n ≤ 5
  · skip
    by_cases h2 : 0 ≤ p.ph ∧ p.ph ≤ 7
    · skip
      by_cases h3 : TermsOk p.n p.ts
      · skip
        by_cases h4 : (p.out.length : Int) = p.n
        · skip
          by_cases h5 : LinOk p.out
          · skip
            have D0 := Lib.hid (decide_eq_true h1)
            have D1 := Lib.hid (decide_eq_true h2)
            have D2 := Lib.hid (termsB_true h3)
            have d3 : ((p.out.length : Int) == p.n) = true := by simp; omega
            have D4 := Lib.hid (linB_true h5)
            have HR := Lib.hid (pp_ok h1 h2 h4 h5 h3)
            have n1 := h1.1; have n2 := h1.2
            clear h1 h2 h3 h4 h5
            go_enter Try.func24, Try.ntmps24
            go_wp2_with fail
            refine (within_p _ _ _ _).mono ?_; rintro e w' ⟨rfl, rfl⟩; rw [D0.out]
            go_wp2_with fail
            refine (within_p _ _ _ _).mono ?_; rintro e w' ⟨rfl, rfl⟩; rw [D1.out]
            go_wp2_with fail
            refine (impl_areTerms_any _ _ p.ts _ (Rd.below H.out (show Below w.heap.size w _ from (by repeat (first | exact Below.refl _ _ | assumption | refine Below.drew ?_ | refine below_drewN ?_ _ | refine Below.alloc ?_ (by first | omega | (simp <;> omega)) _ | refine Below.setCell ?_ (by first | omega | (simp <;> omega)) _ | refine Below.trans ?_ (Below.mono (by assumption) (by first | omega | (simp <;> omega)))))) rfl) n1 n2 hl).mono ?_; rintro e w1 ⟨rfl, hb1⟩; rw [D2.out]
            obtain ⟨hc_hb1, hf_hb1⟩ := bcell hb1; have hz_hb1 := hb1.size; (try simp at hz_hb1); have hs0_hb1 : w.heap.size < w1.heap.size := (by omega)
            go_wp2_with fail
            refine (impl_IsValidLinear_any _ p.out _ (Rd.below HU.out (show Below w.heap.size w w1 from (by repeat (first | exact Below.refl _ _ | assumption | refine Below.drew ?_ | refine below_drewN ?_ _ | refine Below.alloc ?_ (by first | omega | (simp <;> omega)) _ | refine Below.setCell ?_ (by first | omega | (simp <;> omega)) _ | refine Below.trans ?_ (Below.mono (by assumption) (by first | omega | (simp <;> omega)))))) rfl) hm).mono ?_; rintro e w2 ⟨rfl, hb2⟩; rw [D4.out]
            obtain ⟨hc_hb2, hf_hb2⟩ := bcell hb2; have hz_hb2 := hb2.size; (try simp at hz_hb2); have hs0_hb2 : w.heap.size < w2.heap.size := (by omega)
            go_wp2_with fail
            go_ret
            exact ⟨ret_bool HR.out, (by repeat (first | exact Below.refl _ _ | assumption | refine Below.drew ?_ | refine below_drewN ?_ _ | refine Below.alloc ?_ (by first | omega | (simp <;> omega)) _ | refine Below.setCell ?_ (by first | omega | (simp <;> omega)) _ | refine Below.trans ?_ (Below.mono (by assumption) (by first | omega | (simp <;> omega)))))⟩
          · skip
            have D0 := Lib.hid (decide_eq_true h1)
            have D1 := Lib.hid (decide_eq_true h2)
            have D2 := Lib.hid (termsB_true h3)
            have d3 : ((p.out.length : Int) == p.n) = true := by simp; omega
            have D4 := Lib.hid (linB_false h5)
            have HR := Lib.hid (pp_4 h5)
            have n1 := h1.1; have n2 := h1.2
            clear h1 h2 h3 h4 h5
            go_enter Try.func24, Try.ntmps24
            go_wp2_with fail
            refine (within_p _ _ _ _).mono ?_; rintro e w' ⟨rfl, rfl⟩; rw [D0.out]
            go_wp2_with fail
            refine (within_p _ _ _ _).mono ?_; rintro e w' ⟨rfl, rfl⟩; rw [D1.out]
            go_wp2_with fail
            refine (impl_areTerms_any _ _ p.ts _ (Rd.below H.out (show Below w.heap.size w _ from (by repeat (first | exact Below.refl _ _ | assumption | refine Below.drew ?_ | refine below_drewN ?_ _ | refine Below.alloc ?_ (by first | omega | (simp <;> omega)) _ | refine Below.setCell ?_ (by first | omega | (simp <;> omega)) _ | refine Below.trans ?_ (Below.mono (by assumption) (by first | omega | (simp <;> omega)))))) rfl) n1 n2 hl).mono ?_; rintro e w1 ⟨rfl, hb1⟩; rw [D2.out]
            obtain ⟨hc_hb1, hf_hb1⟩ := bcell hb1; have hz_hb1 := hb1.size; (try simp at hz_hb1); have hs0_hb1 : w.heap.size < w1.heap.size := (by omega)
            go_wp2_with fail
            refine (impl_IsValidLinear_any _ p.out _ (Rd.below HU.out (show Below w.heap.size w w1 from (by repeat (first | exact Below.refl _ _ | assumption | refine Below.drew ?_ | refine below_drewN ?_ _ | refine Below.alloc ?_ (by first | omega | (simp <;> omega)) _ | refine Below.setCell ?_ (by first | omega | (simp <;> omega)) _ | refine Below.trans ?_ (Below.mono (by assumption) (by first | omega | (simp <;> omega)))))) rfl) hm).mono ?_; rintro e w2 ⟨rfl, hb2⟩; rw [D4.out]
            obtain ⟨hc_hb2, hf_hb2⟩ := bcell hb2; have hz_hb2 := hb2.size; (try simp at hz_hb2); have hs0_hb2 : w.heap.size < w2.heap.size := (by omega)
            go_wp2_with fail
            go_ret
            exact ⟨ret_bool HR.out, (by repeat (first | exact Below.refl _ _ | assumption | refine Below.drew ?_ | refine below_drewN ?_ _ | refine Below.alloc ?_ (by first | omega | (simp <;> omega)) _ | refine Below.setCell ?_ (by first | omega | (simp <;> omega)) _ | refine Below.trans ?_ (Below.mono (by assumption) (by first | omega | (simp <;> omega)))))⟩
        · skip
          have D0 := Lib.hid (decide_eq_true h1)
          have D1 := Lib.hid (decide_eq_true h2)
          have D2 := Lib.hid (termsB_true h3)
          have d3 : ((p.out.length : Int) == p.n) = false := by simp; omega
          have HR := Lib.hid (pp_3 h4)
          have n1 := h1.1; have n2 := h1.2
          clear h1 h2 h3 h4
          go_enter Try.func24, Try.ntmps24
          go_wp2_with fail
          refine (within_p _ _ _ _).mono ?_; rintro e w' ⟨rfl, rfl⟩; rw [D0.out]
          go_wp2_with fail
          refine (within_p _ _ _ _).mono ?_; rintro e w' ⟨rfl, rfl⟩; rw [D1.out]
          go_wp2_with fail
          refine (impl_areTerms_any _ _ p.ts _ (Rd.below H.out (show Below w.heap.size w _ from (by repeat (first | exact Below.refl _ _ | assumption | refine Below.drew ?_ | refine below_drewN ?_ _ | refine Below.alloc ?_ (by first | omega | (simp <;> omega)) _ | refine Below.setCell ?_ (by first | omega | (simp <;> omega)) _ | refine Below.trans ?_ (Below.mono (by assumption) (by first | omega | (simp <;> omega)))))) rfl) n1 n2 hl).mono ?_; rintro e w1 ⟨rfl, hb1⟩; rw [D2.out]
          obtain ⟨hc_hb1, hf_hb1⟩ := bcell hb1; have hz_hb1 := hb1.size; (try simp at hz_hb1); have hs0_hb1 : w.heap.size < w1.heap.size := (by omega)
          go_wp2_with fail
          go_ret
          exact ⟨ret_bool HR.out, (by repeat (first | exact Below.refl _ _ | assumption | refine Below.drew ?_ | refine below_drewN ?_ _ | refine Below.alloc ?_ (by first | omega | (simp <;> omega)) _ | refine Below.setCell ?_ (by first | omega | (simp <;> omega)) _ | refine Below.trans ?_ (Below.mono (by assumption) (by first | omega | (simp <;> omega)))))⟩
      · skip
        have D0 := Lib.hid (decide_eq_true h1)
        have D1 := Lib.hid (decide_eq_true h2)
        have D2 := Lib.hid (termsB_false h3)
        have HR := Lib.hid (pp_5 h3)
        have n1 := h1.1; have n2 := h1.2
        clear h1 h2 h3
        go_enter Try.func24, Try.ntmps24
        go_wp2_with fail
        refine (within_p _ _ _ _).mono ?_; rintro e w' ⟨rfl, rfl⟩; rw [D0.out]
        go_wp2_with fail
        refine (within_p _ _ _ _).mono ?_; rintro e w' ⟨rfl, rfl⟩; rw [D1.out]
        go_wp2_with fail
        refine (impl_areTerms_any _ _ p.ts _ (Rd.below H.out (show Below w.heap.size w _ from (by repeat (first | exact Below.refl _ _ | assumption | refine Below.drew ?_ | refine below_drewN ?_ _ | refine Below.alloc ?_ (by first | omega | (simp <;> omega)) _ | refine Below.setCell ?_ (by first | omega | (simp <;> omega)) _ | refine Below.trans ?_ (Below.mono (by assumption) (by first | omega | (simp <;> omega)))))) rfl) n1 n2 hl).mono ?_; rintro e w1 ⟨rfl, hb1⟩; rw [D2.out]
        obtain ⟨hc_hb1, hf_hb1⟩ := bcell hb1; have hz_hb1 := hb1.size; (try simp at hz_hb1); have hs0_hb1 : w.heap.size < w1.heap.size := (by omega)
        go_wp2_with fail
        go_ret
        exact ⟨ret_bool HR.out, (by repeat (first | exact Below.refl _ _ | assumption | refine Below.drew ?_ | refine below_drewN ?_ _ | refine Below.alloc ?_ (by first | omega | (simp <;> omega)) _ | refine Below.setCell ?_ (by first | omega | (simp <;> omega)) _ | refine Below.trans ?_ (Below.mono (by assumption) (by first | omega | (simp <;> omega)))))⟩
    · skip
      have D0 := Lib.hid (decide_eq_true h1)
      have D1 := Lib.hid (decide_eq_false h2)
      have HR := Lib.hid (pp_2 h2)
      have n1 := h1.1; have n2 := h1.2
      clear h1 h2
      go_enter Try.func24, Try.ntmps24
      go_wp2_with fail
      refine (within_p _ _ _ _).mono ?_; rintro e w' ⟨rfl, rfl⟩; rw [D0.out]
      go_wp2_with fail
      refine (within_p _ _ _ _).mono ?_; rintro e w' ⟨rfl, rfl⟩; rw [D1.out]
      go_wp2_with fail
      go_ret
      exact ⟨ret_bool HR.out, (by repeat (first | exact Below.refl _ _ | assumption | refine Below.drew ?_ | refine below_drewN ?_ _ | refine Below.alloc ?_ (by first | omega | (simp <;> omega)) _ | refine Below.setCell ?_ (by first | omega | (simp <;> omega)) _ | refine Below.trans ?_ (Below.mono (by assumption) (by first | omega | (simp <;> omega)))))⟩
  · skip
    have D0 := Lib.hid (decide_eq_false h1)
    have HR := Lib.hid (pp_1 h1)
    clear h1
    go_enter Try.func24, Try.ntmps24
    go_wp2_with fail
    refine (within_p _ _ _ _).mono ?_; rintro e w' ⟨rfl, rfl⟩; rw [D0.out]
    go_wp2_with fail
    go_ret
    exact ⟨ret_bool HR.out, (by repeat (first | exact Below.refl _ _ | assumption | refine Below.drew ?_ | refine below_drewN ?_ _ | refine Below.alloc ?_ (by first | omega | (simp <;> omega)) _ | refine Below.setCell ?_ (by first | omega | (simp <;> omega)) _ | refine Below.trans ?_ (Below.mono (by assumption) (by first | omega | (simp <;> omega)))))⟩
set_option maxHeartbeats 8000000 in
theorem spec_l13Valid_any (v u : Value) (p : PP) (w : World) (h : RdE w v E2.cs 2 p.ts) (hu : RdI w u p.out) (hl : p.ts.length ≤ 1048576) (hm : p.out.length ≤ 1048576) :
    Calls Try.prog 15 #[.agg #[.int .i64 p.n, .int .i64 p.ph, v, u]] w fun e w' => e = .returned (.bool (ppB p)) ∧ Below w.heap.size w w' := by
  have H := Lib.hid h; have HU := Lib.hid hu
  obtain ⟨A, c, rfl, _⟩ := h.form
  obtain ⟨A2, c2, rfl, _⟩ := hu.form
  clear h hu
  by_cases h1 : 1 ≤ p.n ∧ p.n ≤ 5
  · skip
    by_cases h2 : 0 ≤ p.ph ∧ p.ph ≤ 7
    · skip
      by_cases h3 : (p.out.length : Int) = p.n
      · skip
        by_cases h4 : LinOk p.out
        · skip
          have D0 := Lib.hid (decide_eq_true h1)
          have D1 := Lib.hid (decide_eq_true h2)
          have d3 : ((p.out.length : Int) != p.n) = false := by simp; omega
          have D3 := Lib.hid (linB_true h4)
          have HB := Lib.hid (ppB_terms h1 h2 h3 h4)
          have n1 := h1.1; have n2 := h1.2
          obtain ⟨m, hn⟩ : ∃ m : Nat, m = p.n.toNat := ⟨_, rfl⟩
          have hnm : p.n = (m : Int) := by omega
          obtain ⟨p1, p2⟩ := pow_5 h1
          rw [← hn] at p1 p2
          have hw : IntKind.i64.wrap ((2 : Int) ^ m) = (2 : Int) ^ m := IntWalk.i64_in _ (by omega)
          have hw2 : IntKind.i64.wrap ((2 : Int) ^ m - 1) = (2 : Int) ^ m - 1 := IntWalk.i64_in _ (by omega)
          have Hn : Hid (p.n.toNat = m) := hn.symm
          have m5 : m ≤ 5 := by omega
          clear h1 h2 h3 h4 hn
          rcases Nat.eq_zero_or_pos p.ts.length with hz | h0
          · have HR := Lib.hid (terms_yes (n := p.n) (ts := p.ts) (k := 0) (by omega) (fun j hj hk => by omega))
            have hlt : ¬ (0 : Int) < (p.ts.length : Int) := by omega
            clear hz hnm
            go_enter Try.func15, Try.ntmps15
            go_wp2_with fail
            refine (l1In_p _ _ _ _).mono ?_; rintro e w' ⟨rfl, rfl⟩; rw [D0.out]
            go_wp2_with fail
            refine (l1In_p _ _ _ _).mono ?_; rintro e w' ⟨rfl, rfl⟩; rw [D1.out]
            go_wp2_with fail
            refine (spec_l12Valid_any _ p.out _ (Rd.below HU.out (show Below w.heap.size w _ from (by repeat (first | exact Below.refl _ _ | assumption | refine Below.drew ?_ | refine below_drewN ?_ _ | refine Below.alloc ?_ (by first | omega | (simp <;> omega)) _ | refine Below.setCell ?_ (by first | omega | (simp <;> omega)) _ | refine Below.trans ?_ (Below.mono (by assumption) (by first | omega | (simp <;> omega)))))) rfl) hm).mono ?_; rintro e w1 ⟨rfl, hb1⟩; rw [D3.out]
            have r2 : w1.cell? ⟨w.heap.size, 2, none⟩ = some (.slice A p.ts.length c) := below_cell hb1 rfl (by repeat (first | (refine Eq.trans (World.cell?_alloc_at _ _ _ _ ?hh) ?_; (case hh => (simp; done)); rfl) | refine cell_alloc_keep _ ?_))
            obtain ⟨hc_hb1, hf_hb1⟩ := bcell hb1; have hz_hb1 := hb1.size; (try simp at hz_hb1); have hs0_hb1 : w.heap.size < w1.heap.size := (by omega)
            go_wp2_with fail
            refine wp_loop_rounds 1 ?_
            rw [rounds_succ]
            go_wp2_with fail
            go_ret
            exact ⟨ret_bool (by rw [HB.out]; exact HR.out), (by repeat (first | exact Below.refl _ _ | assumption | refine Below.drew ?_ | refine below_drewN ?_ _ | refine Below.alloc ?_ (by first | omega | (simp <;> omega)) _ | refine Below.setCell ?_ (by first | omega | (simp <;> omega)) _ | refine Below.trans ?_ (Below.mono (by assumption) (by first | omega | (simp <;> omega)))))⟩
          · obtain ⟨b, off, cap, hv, hb, hlc, hc⟩ := term_cells H.out h0
            injection hv with hv1 hv2 hv3; subst hv1; subst hv3; clear hv2
            have Hc := Lib.hid hc; clear hc
            rw [hnm] at n1 n2 d3 D0
            have Hnm := Lib.hid hnm; clear hnm
            rw [Hnm.out]
            go_enter Try.func15, Try.ntmps15
            go_wp2_with fail
            refine (l1In_p _ _ _ _).mono ?_; rintro e w' ⟨rfl, rfl⟩; rw [D0.out]
            go_wp2_with fail
            refine (l1In_p _ _ _ _).mono ?_; rintro e w' ⟨rfl, rfl⟩; rw [D1.out]
            go_wp2_with fail
            refine (spec_l12Valid_any _ p.out _ (Rd.below HU.out (show Below w.heap.size w _ from (by repeat (first | exact Below.refl _ _ | assumption | refine Below.drew ?_ | refine below_drewN ?_ _ | refine Below.alloc ?_ (by first | omega | (simp <;> omega)) _ | refine Below.setCell ?_ (by first | omega | (simp <;> omega)) _ | refine Below.trans ?_ (Below.mono (by assumption) (by first | omega | (simp <;> omega)))))) rfl) hm).mono ?_; rintro e w1 ⟨rfl, hb1⟩; rw [D3.out]
            have r0 : w1.cell? ⟨w.heap.size, 0, none⟩ = some (.int .i64 (m : Int)) := below_cell hb1 rfl (by repeat (first | (refine Eq.trans (World.cell?_alloc_at _ _ _ _ ?hh) ?_; (case hh => (simp; done)); rfl) | refine cell_alloc_keep _ ?_))
            have r2 : w1.cell? ⟨w.heap.size, 2, none⟩ = some (.slice (some ⟨b, off, none⟩) p.ts.length c) := below_cell hb1 rfl (by repeat (first | (refine Eq.trans (World.cell?_alloc_at _ _ _ _ ?hh) ?_; (case hh => (simp; done)); rfl) | refine cell_alloc_keep _ ?_))
            have bw : Below w.heap.size w w1 := (by repeat (first | exact Below.refl _ _ | assumption | refine Below.drew ?_ | refine below_drewN ?_ _ | refine Below.alloc ?_ (by first | omega | (simp <;> omega)) _ | refine Below.setCell ?_ (by first | omega | (simp <;> omega)) _ | refine Below.trans ?_ (Below.mono (by assumption) (by first | omega | (simp <;> omega)))))
            clear hb1
            go_wp2_with fail
            go_loopw [33] (fun i wr => ∃ k : Nat, k ≤ p.ts.length ∧ i = .int .i64 k ∧ Hid (∀ j, j < p.ts.length → j < k → termB p.n p.ts j = true) ∧ wr.cell? ⟨w.heap.size, 0, none⟩ = some (.int .i64 (m : Int)) ∧ wr.cell? ⟨w.heap.size, 2, none⟩ = some (.slice (some ⟨b, off, none⟩) p.ts.length c) ∧ Below w.heap.size w wr) (fun i _ => p.ts.length - (intOf i).toNat)
            case atStart => exact ⟨0, Nat.zero_le _, rfl, (fun j hj hk => by omega), r0, r2, bw⟩
            case round =>
              obtain ⟨k, hk, rfl, hpre, c0, c2, hbel⟩ := hrel
              clear r0 r2 bw
              by_cases hlt : k < p.ts.length
              · obtain ⟨y, hy⟩ : ∃ y, y = p.ts.getD k ⟨0, 0⟩ := ⟨_, rfl⟩
                obtain ⟨z, hz⟩ : ∃ z, z = p.ts.getD (k - 1) ⟨0, 0⟩ := ⟨_, rfl⟩
                have q0 : wr.cell? ⟨b, off + k * 2, none⟩ = some (.int .i64 y.a) := (hbel.cell hb).trans (by rw [hy]; exact (Hc.out k hlt).1)
                have q1 : wr.cell? ⟨b, off + k * 2 + 1, none⟩ = some (.int .i64 y.b) := (hbel.cell hb).trans (by rw [hy]; exact (Hc.out k hlt).2)
                have q2 : wr.cell? ⟨b, off + (k - 1) * 2, none⟩ = some (.int .i64 z.a) := (hbel.cell hb).trans (by rw [hz]; exact (Hc.out (k - 1) (by omega)).1)
                have i1 : (k : Int) < (p.ts.length : Int) := by omega
                have hsz := hbel.size
                have s0 : w.heap.size < wr.heap.size := World.block_lt_of_cell? wr _ c0
                have e0 := cell_alloc_keep (.cells #[.int .i64 y.a, .int .i64 y.b] 48) c0
                have e2 := cell_alloc_keep (.cells #[.int .i64 y.a, .int .i64 y.b] 48) c2
                by_cases h1 : 1 ≤ y.a ∧ y.a ≤ 2 ^ m - 1
                · have D1 := Lib.hid (decide_eq_true h1)
                  by_cases h2 : 1 ≤ y.b ∧ y.b ≤ 7
                  · have D2 := Lib.hid (decide_eq_true h2)
                    by_cases hk0 : k = 0
                    · have HT := Lib.hid (termB_ok (n := p.n) (ts := p.ts) (k := k) (by rw [← hy, Hn.out]; exact h1) (by rw [← hy]; exact h2) (.inl hk0))
                      have b1 : decide (0 < k) = false := by simp; omega
                      clear h1 h2 hy hz hk0
                      go_wp2_with fail
                      go_quiet ((first | (go_at_call_of 43 (E2.a y); exact quietB (l1In_p y.a 1 (2 ^ m - 1) _) D1.out) | (go_at_call_of 43 (E2.b y); exact quietB (l1In_p y.b 1 7 _) D2.out)))
                      all_goals
                        go_wp2_with fail
                        go_roundw
                        case rel => exact ⟨k + 1, by omega, by go_num, terms_next hpre HT.out, e0, e2, (by repeat (first | exact Below.refl _ _ | assumption | refine Below.drew ?_ | refine below_drewN ?_ _ | refine Below.alloc ?_ (by first | omega | (simp <;> omega)) _ | refine Below.setCell ?_ (by first | omega | (simp <;> omega)) _ | refine Below.trans ?_ (Below.mono (by assumption) (by first | omega | (simp <;> omega)))))⟩
                        case measure => simp [intOf]; omega
                    · have b1 : decide (0 < k) = true := by simp; omega
                      obtain ⟨q, hp⟩ : ∃ q, q = k - 1 := ⟨_, rfl⟩
                      have hkk : IntKind.i64.wrap ((k : Int) - 1) = (q : Int) := by rw [show (k : Int) - 1 = (q : Int) from by omega]; exact IntWalk.i64_in _ (by omega)
                      rw [← hp] at q2 hz
                      have i2 : (q : Int) < (p.ts.length : Int) := by omega
                      have Hp := Lib.hid hp; clear hp
                      have q3 := cell_alloc_keep (.cells #[.int .i64 y.a, .int .i64 y.b] 48) q2
                      by_cases h3 : z.a < y.a
                      · have HT := Lib.hid (termB_ok (n := p.n) (ts := p.ts) (k := k) (by rw [← hy, Hn.out]; exact h1) (by rw [← hy]; exact h2) (.inr (by rw [← Hp.out, ← hy, ← hz]; exact h3)))
                        have b2 : decide (y.a ≤ z.a) = false := by simp; omega
                        clear h1 h2 h3 hy hz hk0
                        go_wp2_with fail
                        go_quiet ((first | (go_at_call_of 43 (E2.a y); exact quietB (l1In_p y.a 1 (2 ^ m - 1) _) D1.out) | (go_at_call_of 43 (E2.b y); exact quietB (l1In_p y.b 1 7 _) D2.out)))
                        all_goals
                          go_wp2_with fail
                          go_roundw
                          case rel => exact ⟨k + 1, by omega, by go_num, terms_next hpre HT.out, e0, e2, (by repeat (first | exact Below.refl _ _ | assumption | refine Below.drew ?_ | refine below_drewN ?_ _ | refine Below.alloc ?_ (by first | omega | (simp <;> omega)) _ | refine Below.setCell ?_ (by first | omega | (simp <;> omega)) _ | refine Below.trans ?_ (Below.mono (by assumption) (by first | omega | (simp <;> omega)))))⟩
                          case measure => simp [intOf]; omega
                      · have HR := Lib.hid (terms_no (n := p.n) hlt (termB_3 (by rw [← Hp.out, ← hy, ← hz]; exact fun h => h.elim hk0 h3)))
                        have b2 : decide (y.a ≤ z.a) = true := by simp; omega
                        clear h1 h2 h3 hy hz hpre
                        go_wp2_with fail
                        go_quiet ((first | (go_at_call_of 43 (E2.a y); exact quietB (l1In_p y.a 1 (2 ^ m - 1) _) D1.out) | (go_at_call_of 43 (E2.b y); exact quietB (l1In_p y.b 1 7 _) D2.out)))
                        all_goals
                          go_wp2_with fail
                          go_ret
                          exact ⟨ret_bool (by rw [HB.out]; exact HR.out), (by repeat (first | exact Below.refl _ _ | assumption | refine Below.drew ?_ | refine below_drewN ?_ _ | refine Below.alloc ?_ (by first | omega | (simp <;> omega)) _ | refine Below.setCell ?_ (by first | omega | (simp <;> omega)) _ | refine Below.trans ?_ (Below.mono (by assumption) (by first | omega | (simp <;> omega)))))⟩
                  · have D2 := Lib.hid (decide_eq_false h2)
                    have HR := Lib.hid (terms_no (n := p.n) hlt (termB_2 (by rw [← hy]; exact h2)))
                    clear h1 h2 hy hz hpre
                    go_wp2_with fail
                    go_quiet ((first | (go_at_call_of 43 (E2.a y); exact quietB (l1In_p y.a 1 (2 ^ m - 1) _) D1.out) | (go_at_call_of 43 (E2.b y); exact quietB (l1In_p y.b 1 7 _) D2.out)))
                    all_goals
                      go_wp2_with fail
                      go_ret
                      exact ⟨ret_bool (by rw [HB.out]; exact HR.out), (by repeat (first | exact Below.refl _ _ | assumption | refine Below.drew ?_ | refine below_drewN ?_ _ | refine Below.alloc ?_ (by first | omega | (simp <;> omega)) _ | refine Below.setCell ?_ (by first | omega | (simp <;> omega)) _ | refine Below.trans ?_ (Below.mono (by assumption) (by first | omega | (simp <;> omega)))))⟩
                · have D1 := Lib.hid (decide_eq_false h1)
                  have HR := Lib.hid (terms_no (n := p.n) hlt (termB_1 (by rw [← hy, Hn.out]; exact h1)))
                  clear h1 hy hz hpre
                  go_wp2_with fail
                  go_quiet ((go_at_call 43; exact quietB (l1In_p y.a 1 (2 ^ m - 1) _) D1.out))
                  all_goals
                    go_wp2_with fail
                    go_ret
                    exact ⟨ret_bool (by rw [HB.out]; exact HR.out), (by repeat (first | exact Below.refl _ _ | assumption | refine Below.drew ?_ | refine below_drewN ?_ _ | refine Below.alloc ?_ (by first | omega | (simp <;> omega)) _ | refine Below.setCell ?_ (by first | omega | (simp <;> omega)) _ | refine Below.trans ?_ (Below.mono (by assumption) (by first | omega | (simp <;> omega)))))⟩
              · go_wp2_with fail
                go_ret
                exact ⟨ret_bool (by rw [HB.out]; exact terms_yes (by omega) hpre), hbel⟩
        · skip
          have D0 := Lib.hid (decide_eq_true h1)
          have D1 := Lib.hid (decide_eq_true h2)
          have d3 : ((p.out.length : Int) != p.n) = false := by simp; omega
          have D3 := Lib.hid (linB_false h4)
          have HR := Lib.hid (pp_4 h4)
          have n1 := h1.1; have n2 := h1.2
          clear h1 h2 h3 h4
          go_enter Try.func15, Try.ntmps15
          go_wp2_with fail
          refine (l1In_p _ _ _ _).mono ?_; rintro e w' ⟨rfl, rfl⟩; rw [D0.out]
          go_wp2_with fail
          refine (l1In_p _ _ _ _).mono ?_; rintro e w' ⟨rfl, rfl⟩; rw [D1.out]
          go_wp2_with fail
          refine (spec_l12Valid_any _ p.out _ (Rd.below HU.out (show Below w.heap.size w _ from (by repeat (first | exact Below.refl _ _ | assumption | refine Below.drew ?_ | refine below_drewN ?_ _ | refine Below.alloc ?_ (by first | omega | (simp <;> omega)) _ | refine Below.setCell ?_ (by first | omega | (simp <;> omega)) _ | refine Below.trans ?_ (Below.mono (by assumption) (by first | omega | (simp <;> omega)))))) rfl) hm).mono ?_; rintro e w1 ⟨rfl, hb1⟩; rw [D3.out]
          obtain ⟨hc_hb1, hf_hb1⟩ := bcell hb1; have hz_hb1 := hb1.size; (try simp at hz_hb1); have hs0_hb1 : w.heap.size < w1.heap.size := (by omega)
          go_wp2_with fail
          go_ret
          exact ⟨ret_bool HR.out, (by repeat (first | exact Below.refl _ _ | assumption | refine Below.drew ?_ | refine below_drewN ?_ _ | refine Below.alloc ?_ (by first | omega | (simp <;> omega)) _ | refine Below.setCell ?_ (by first | omega | (simp <;> omega)) _ | refine Below.trans ?_ (Below.mono (by assumption) (by first | omega | (simp <;> omega)))))⟩
      · skip
        have D0 := Lib.hid (decide_eq_true h1)
        have D1 := Lib.hid (decide_eq_true h2)
        have d3 : ((p.out.length : Int) != p.n) = true := by simp; omega
        have HR := Lib.hid (pp_3 h3)
        have n1 := h1.1; have n2 := h1.2
        clear h1 h2 h3
        go_enter Try.func15, Try.ntmps15
        go_wp2_with fail
        refine (l1In_p _ _ _ _).mono ?_; rintro e w' ⟨rfl, rfl⟩; rw [D0.out]
        go_wp2_with fail
        refine (l1In_p _ _ _ _).mono ?_; rintro e w' ⟨rfl, rfl⟩; rw [D1.out]
        go_wp2_with fail
        go_ret
        exact ⟨ret_bool HR.out, (by repeat (first | exact Below.refl _ _ | assumption | refine Below.drew ?_ | refine below_drewN ?_ _ | refine Below.alloc ?_ (by first | omega | (simp <;> omega)) _ | refine Below.setCell ?_ (by first | omega | (simp <;> omega)) _ | refine Below.trans ?_ (Below.mono (by assumption) (by first | omega | (simp <;> omega)))))⟩
    · skip
      have D0 := Lib.hid (decide_eq_true h1)
      have D1 := Lib.hid (decide_eq_false h2)
      have HR := Lib.hid (pp_2 h2)
      have n1 := h1.1; have n2 := h1.2
      clear h1 h2
      go_enter Try.func15, Try.ntmps15
      go_wp2_with fail
      refine (l1In_p _ _ _ _).mono ?_; rintro e w' ⟨rfl, rfl⟩; rw [D0.out]
      go_wp2_with fail
      refine (l1In_p _ _ _ _).mono ?_; rintro e w' ⟨rfl, rfl⟩; rw [D1.out]
      go_wp2_with fail
      go_ret
      exact ⟨ret_bool HR.out, (by repeat (first | exact Below.refl _ _ | assumption | refine Below.drew ?_ | refine below_drewN ?_ _ | refine Below.alloc ?_ (by first | omega | (simp <;> omega)) _ | refine Below.setCell ?_ (by first | omega | (simp <;> omega)) _ | refine Below.trans ?_ (Below.mono (by assumption) (by first | omega | (simp <;> omega)))))⟩
  · skip
    have D0 := Lib.hid (decide_eq_false h1)
    have HR := Lib.hid (pp_1 h1)
    clear h1
    go_enter Try.func15, Try.ntmps15
    go_wp2_with fail
    refine (l1In_p _ _ _ _).mono ?_; rintro e w' ⟨rfl, rfl⟩; rw [D0.out]
    go_wp2_with fail
    go_ret
    exact ⟨ret_bool HR.out, (by repeat (first | exact Below.refl _ _ | assumption | refine Below.drew ?_ | refine below_drewN ?_ _ | refine Below.alloc ?_ (by first | omega | (simp <;> omega)) _ | refine Below.setCell ?_ (by first | omega | (simp <;> omega)) _ | refine Below.trans ?_ (Below.mono (by assumption) (by first | omega | (simp <;> omega)))))⟩
end Go.Proofs.Ytbcjligkjoimmaa
