/- The code words, plain: as the reference lists them and as the program does. -/
import Derived.Test.YtlelcnlibacnaaaPop
namespace Go.Proofs.Ytlelcnlibacnaaa
set_option linter.unusedSimpArgs false
set_option linter.unusedVariables false
set_option linter.unnecessarySimpa false
set_option maxRecDepth 200000
open Go.ChangeShapes Go.WideShapes Go.ChangeAt Go.RowKit

def affStep (a t x i : Nat) : Nat := x ||| (((pop ((i + 1) &&& a) % 2) ^^^ t) <<< i)
def affTo (a t : Nat) (k : Nat) : Nat := (List.range k).foldl (affStep a t) 0
def aff (n a t : Nat) : Nat := affTo a t (2 ^ n - 1)
def cutAt (l : List Nat) (x : Nat) : Nat := (l.takeWhile (fun y => decide (y < x))).length
def putN (l : List Nat) (x : Nat) : List Nat := if cutAt l x < l.length ∧ l.getD (cutAt l x) 0 = x then l else l.take (cutAt l x) ++ [x] ++ l.drop (cutAt l x)
def codeStep (n : Nat) (o : List Nat) (i : Nat) : List Nat := putN (putN o (aff n (i + 1) 0)) (aff n (i + 1) 1)
def codesTo (n : Nat) (o : List Nat) (k : Nat) : List Nat := (List.range k).foldl (codeStep n) o
def codes4 (n : Nat) : List Nat := if 4 ≤ n then putN [0] (aff n 0 1) else [0]
def codesS (n : Nat) : List Nat := if n = 5 then codesTo n (codes4 n) 31 else codes4 n
def wordStep (c x i : Nat) : Nat := if (i + 1) &&& c = c then x ||| 2 ^ i else x
def wordTo (c k : Nat) : Nat := (List.range k).foldl (wordStep c) 0
def skipB (n c : Nat) : Bool := decide (n < 4) || decide (n < pop c + 4)
def cwStep (n : Nat) (out : List Nat) (c : Nat) : List Nat := if skipB n c = true then out else out ++ out.map (· ^^^ wordTo c (2 ^ n - 1))
def codesI (n k : Nat) : List Nat := (List.range k).foldl (cwStep n) [0]
theorem fold_range {α : Type} (f : α → Nat → α) (z : α) (k : Nat) : (List.range (k + 1)).foldl f z = f ((List.range k).foldl f z) k := by
  rw [List.range_succ, List.foldl_append]; rfl
theorem affTo_succ (a t k : Nat) : affTo a t (k + 1) = affStep a t (affTo a t k) k := fold_range _ _ k
theorem codesTo_succ (n : Nat) (o : List Nat) (k : Nat) : codesTo n o (k + 1) = codeStep n (codesTo n o k) k := fold_range _ _ k
theorem wordTo_succ (c k : Nat) : wordTo c (k + 1) = wordStep c (wordTo c k) k := fold_range _ _ k
theorem codesI_succ (n k : Nat) : codesI n (k + 1) = cwStep n (codesI n k) k := fold_range _ _ k
def riseB : List Nat → Bool
  | x :: y :: l => Nat.ble x y && riseB (y :: l)
  | _ => true
theorem riseB_pw : ∀ {l : List Nat}, riseB l = true → l.Pairwise (· ≤ ·)
  | [], _ => List.Pairwise.nil
  | [x], _ => by simp
  | x :: y :: l, h => by
    have h' : (Nat.ble x y && riseB (y :: l)) = true := h
    rw [Bool.and_eq_true] at h'
    have ih := riseB_pw h'.2
    have hxy : x ≤ y := Nat.le_of_ble_eq_true h'.1
    refine List.pairwise_cons.2 ⟨fun z hz => ?_, ih⟩
    rcases List.mem_cons.1 hz with rfl | hz
    · exact hxy
    · exact Nat.le_trans hxy ((List.pairwise_cons.1 ih).1 z hz)
/-- All that is asked of the two lists, for each number of qubits. -/
def codeFacts (n : Nat) : Bool := riseB (codesS n) && (codesI n (2 ^ n)).isPerm (codesS n) && (codesS n).all (fun x => Nat.blt x 2147483648) && Nat.ble (codesS n).length 64 && (codesS n).headD 1 == 0
theorem facts1 : codeFacts 1 = true := by decide +kernel
theorem facts2 : codeFacts 2 = true := by decide +kernel
theorem facts3 : codeFacts 3 = true := by decide +kernel
theorem facts4 : codeFacts 4 = true := by decide +kernel
theorem facts5 : codeFacts 5 = true := by decide +kernel
theorem facts_all {n : Nat} (h1 : 1 ≤ n) (h2 : n ≤ 5) : codeFacts n = true := by
  have : n = 1 ∨ n = 2 ∨ n = 3 ∨ n = 4 ∨ n = 5 := by omega
  rcases this with rfl | rfl | rfl | rfl | rfl
  · exact facts1
  · exact facts2
  · exact facts3
  · exact facts4
  · exact facts5
structure CodeOk (n : Nat) : Prop where
  rise : (codesS n).Pairwise (· ≤ ·)
  perm : (codesI n (2 ^ n)).Perm (codesS n)
  small : ∀ x ∈ codesS n, x < 2147483648
  few : (codesS n).length ≤ 64
  head : (codesS n).headD 1 = 0
theorem code_ok {n : Nat} (h1 : 1 ≤ n) (h2 : n ≤ 5) : CodeOk n := by
  have h := facts_all h1 h2
  unfold codeFacts at h
  rw [Bool.and_eq_true, Bool.and_eq_true, Bool.and_eq_true, Bool.and_eq_true] at h
  obtain ⟨⟨⟨⟨a, b⟩, c⟩, d⟩, e⟩ := h
  refine ⟨riseB_pw a, List.isPerm_iff.1 b, fun x hx => ?_, Nat.le_of_ble_eq_true d, by simpa using e⟩
  have := List.all_eq_true.1 c x hx
  exact Nat.le_of_ble_eq_true this
theorem CodeOk.lenI {n : Nat} (h : CodeOk n) : (codesI n (2 ^ n)).length = (codesS n).length := h.perm.length_eq
/-- The sorted list of whole numbers. -/
theorem sort_codes {n : Nat} (h : CodeOk n) : ((ints (codesI n (2 ^ n))).mergeSort fun x y => decide (x ≤ y)) = ints (codesS n) := by
  have hp : ((ints (codesI n (2 ^ n))).mergeSort fun x y => decide (x ≤ y)).Perm (ints (codesS n)) := (List.mergeSort_perm _ _).trans (h.perm.map _)
  have s1 : ((ints (codesI n (2 ^ n))).mergeSort fun x y => decide (x ≤ y)).Pairwise (fun a b => decide (a ≤ b) = true) :=
    List.pairwise_mergeSort (fun a b c h1 h2 => by simp at *; omega) (fun a b => by simp; omega) _
  have s2 : (ints (codesS n)).Pairwise (fun a b => decide (a ≤ b) = true) := by
    unfold ints
    rw [List.pairwise_map]
    exact h.rise.imp (fun {a b} hab => by simpa using hab)
  exact List.Perm.eq_of_pairwise (fun a b _ _ h1 h2 => by simp at h1 h2; omega) s1 s2 hp
end Go.Proofs.Ytlelcnlibacnaaa
