/- The text of a diagram, step by step, plain. -/
import Derived.Test.YtliophgfgmjhiaaGreatDoorZ22Zx1
namespace Go.Proofs.YtliophgfgmjhiaaGreatDoor
set_option linter.unusedSimpArgs false
set_option linter.unusedVariables false
set_option linter.unnecessarySimpa false
set_option maxRecDepth 200000
open Go.ChangeShapes Go.WideShapes Go.ChangeAt Go.RowKit

theorem joinL_nil (c : UInt8) : joinL [] c = ⟨#[]⟩ := rfl
theorem joinL_snoc (ws : List ByteArray) (t : ByteArray) (c : UInt8) : joinL (ws ++ [t]) c = if ws = [] then t else joinL ws c ++ ⟨#[c]⟩ ++ t := by
  apply bytes_inj
  rw [joinL_list, List.map_append, List.map_singleton, join_snoc]
  by_cases h : ws = []
  · subst h; rfl
  · rw [if_neg (by simpa using h), if_neg h, app_list, app_list, one_list, joinL_list]
def accT (base : ByteArray) (ts : List ByteArray) (k : Nat) : ByteArray := base ++ joinL (ts.take k) 44
theorem acc_0 (base : ByteArray) (ts : List ByteArray) : accT base ts 0 = base := by
  unfold accT
  rw [List.take_zero, joinL_nil]
  exact ByteArray.append_empty
theorem acc_1 {base : ByteArray} {ts : List ByteArray} {k : Nat} {T t : ByteArray} (hT : T = accT base ts k) (hk : k < ts.length) (h0 : k = 0) (ht : t = ts.getD k ⟨#[]⟩) : accT base ts (k + 1) = T ++ t := by
  subst h0 hT ht
  rw [acc_0]
  unfold accT
  rw [List.take_succ_eq_append_getElem hk, List.take_zero, joinL_snoc, if_pos rfl]
  simp [List.getD, hk]
theorem acc_2 {base : ByteArray} {ts : List ByteArray} {k : Nat} {T t : ByteArray} (hT : T = accT base ts k) (hk : k < ts.length) (h0 : k ≠ 0) (ht : t = ts.getD k ⟨#[]⟩) : accT base ts (k + 1) = T ++ ⟨#[44]⟩ ++ t := by
  subst hT ht
  unfold accT
  rw [List.take_succ_eq_append_getElem hk, joinL_snoc, if_neg (fun e => by
    rcases List.take_eq_nil_iff.1 e with e | e
    · exact h0 e
    · rw [e] at hk; simp at hk)]
  simp [List.getD, hk, ByteArray.append_assoc]
theorem acc_all {base : ByteArray} {ts : List ByteArray} {k : Nat} (hk : ts.length ≤ k) : accT base ts k = base ++ joinL ts 44 := by
  unfold accT; rw [List.take_of_length_le hk]
theorem app_size (a b : ByteArray) : (a ++ b).size = a.size + b.size := ByteArray.size_append
theorem one_size (c : UInt8) : (ByteArray.mk #[c]).size = 1 := rfl
theorem acc_size {base : ByteArray} {ts : List ByteArray} {m : Nat} (h : ∀ t ∈ ts, t.size ≤ m) : ∀ k, k ≤ ts.length → (accT base ts k).size ≤ base.size + k * (m + 1)
  | 0, _ => by rw [acc_0]; omega
  | k + 1, hk => by
    have ih := acc_size (base := base) h k (by omega)
    have ht : (ts.getD k ⟨#[]⟩).size ≤ m := by
      rw [show ts.getD k ⟨#[]⟩ = ts[k] from by simp [List.getD, show k < ts.length by omega]]
      exact h _ (List.getElem_mem _)
    by_cases h0 : k = 0
    · rw [acc_1 rfl (by omega) h0 rfl, app_size]
      subst h0
      omega
    · rw [acc_2 rfl (by omega) h0 rfl, app_size, app_size, one_size, Nat.succ_mul]
      omega
theorem node_size {x : E2} (h : okN x) : (nodeT x).size ≤ 3 := by
  unfold okN at h
  have := num_size (i := x.b.toNat) (by omega)
  unfold nodeT
  split
  · decide
  · rw [app_size, one_size]; omega
theorem wire_size {x : EW} (h : okW x) : (wireT x).size ≤ 5 := by
  unfold okW at h
  have := num_size (i := x.a.toNat) (by omega)
  have := num_size (i := x.b.toNat) (by omega)
  unfold wireT
  rw [app_size, app_size, one_size]; omega
theorem int_size {n : Int} (h0 : -100 < n) (h1 : n < 100) : (intB n).size ≤ 3 := by
  unfold intB
  split
  · have := num_size (i := (-n).toNat) (by omega)
    rw [app_size, one_size]; omega
  · have := num_size (i := n.toNat) (by omega)
    omega
theorem head_size9 {d : Dia} (h : GoodS d) : (headZ d).size ≤ 10 := by
  obtain ⟨h1, h2, h3, h4⟩ := h.1
  have a := num_size (i := d.n.toNat) (by omega)
  have b := num_size (i := d.turn.toNat) (by omega)
  have c := int_size (n := d.root) (by omega) (by omega)
  unfold headZ
  rw [app_size, app_size, app_size, app_size, app_size, one_size]
  omega
theorem node_t {x : E2} (h : ¬ x.a = 0) : nodeT x = ⟨#[kindB x.a]⟩ ++ numB x.b.toNat := by unfold nodeT; rw [if_neg h]
theorem node_0 {x : E2} (h : x.a = 0) : nodeT x = ⟨#[45]⟩ := by unfold nodeT; rw [if_pos h]
def midZ (d : Dia) : ByteArray := headZ d ++ joinL (d.ns.map nodeT) 44 ++ ⟨#[59]⟩
theorem dia_mid (d : Dia) : diaT d = midZ d ++ joinL (d.ws.map wireT) 44 := rfl
theorem nodes_size {d : Dia} (h : GoodS d) {k : Nat} (hk : k ≤ d.ns.length) : (accT (headZ d) (d.ns.map nodeT) k).size ≤ 200 := by
  have h1 := acc_size (base := headZ d) (ts := d.ns.map nodeT) (m := 3) (fun t ht => by
    obtain ⟨x, hx, rfl⟩ := List.mem_map.1 ht
    exact node_size (good_n h x hx)) k (by rw [List.length_map]; exact hk)
  have h2 := head_size9 h
  have := h.1.2.1
  omega
theorem mid_size {d : Dia} (h : GoodS d) : (midZ d).size ≤ 201 := by
  have h1 := nodes_size h (Nat.le_refl _)
  rw [acc_all (by rw [List.length_map]; exact Nat.le_refl _)] at h1
  unfold midZ
  rw [app_size, one_size]
  omega
theorem wires_size {d : Dia} (h : GoodS d) {k : Nat} (hk : k ≤ d.ws.length) : (accT (midZ d) (d.ws.map wireT) k).size ≤ 201 + k * 6 := by
  have h1 := acc_size (base := midZ d) (ts := d.ws.map wireT) (m := 5) (fun t ht => by
    obtain ⟨x, hx, rfl⟩ := List.mem_map.1 ht
    exact wire_size (good_w h x hx)) k (by rw [List.length_map]; exact hk)
  have h2 := mid_size h
  omega
theorem getD_node {d : Dia} {k : Nat} (hk : k < d.ns.length) : (d.ns.map nodeT).getD k ⟨#[]⟩ = nodeT (d.ns.getD k ⟨0, 0⟩) := by simp [List.getD, hk]
theorem getD_wire {d : Dia} {k : Nat} (hk : k < d.ws.length) : (d.ws.map wireT).getD k ⟨#[]⟩ = wireT (d.ws.getD k ⟨0, 0, false⟩) := by simp [List.getD, hk]
theorem good_nk {d : Dia} (h : GoodS d) {k : Nat} (hk : k < d.ns.length) : okN (d.ns.getD k ⟨0, 0⟩) := by
  rw [show d.ns.getD k ⟨0, 0⟩ = d.ns[k] from by simp [List.getD, hk]]
  exact good_n h _ (List.getElem_mem _)
theorem good_wk {d : Dia} (h : GoodS d) {k : Nat} (hk : k < d.ws.length) : okW (d.ws.getD k ⟨0, 0, false⟩) := by
  rw [show d.ws.getD k ⟨0, 0, false⟩ = d.ws[k] from by simp [List.getD, hk]]
  exact good_w h _ (List.getElem_mem _)
end Go.Proofs.YtliophgfgmjhiaaGreatDoor
