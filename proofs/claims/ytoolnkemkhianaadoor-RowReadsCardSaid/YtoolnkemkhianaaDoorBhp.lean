/-
  What stands behind: the plain law.
  No condition.
-/
import Derived.Test.YtoolnkemkhianaaDoorByv
namespace Go.Proofs.YtoolnkemkhianaaDoor
open Go Go.RowKit Go.Proofs.YtoolnkemkhianaaDoorW
set_option linter.unusedSimpArgs false
set_option linter.unusedVariables false
theorem less_nil (p : List UInt8) : Op.bytesLess p [] = false := by cases p <;> rfl
theorem less_cons (a b : UInt8) (p q : List UInt8) : Op.bytesLess (a :: p) (b :: q) = (decide (a.toNat < b.toNat) || (decide (a.toNat = b.toNat) && Op.bytesLess p q)) := by
  have h1 : (a < b) ↔ a.toNat < b.toNat := UInt8.lt_iff_toNat_lt
  have h2 : (a = b) ↔ a.toNat = b.toNat := UInt8.toNat_inj.symm
  rw [Op.bytesLess]
  by_cases c : a < b
  · simp [c, h1.1 c]
  · have c' : ¬ a.toNat < b.toNat := fun h => c (h1.2 h)
    by_cases d : a = b
    · simp [c, c', d, h2.1 d]
    · have d' : ¬ a.toNat = b.toNat := fun h => d (h2.2 h)
      simp [c, c', d, d']
theorem less_irr : ∀ p : List UInt8, Op.bytesLess p p = false
  | [] => rfl
  | a :: p => by rw [less_cons, less_irr p]; simp
theorem begins_nil (p : List UInt8) : beginsB p [] = true := by simp [beginsB]
theorem begins_nil2 (b : UInt8) (q : List UInt8) : beginsB [] (b :: q) = false := by simp [beginsB]
theorem begins_cons (a b : UInt8) (p q : List UInt8) : beginsB (a :: p) (b :: q) = (decide (a.toNat = b.toNat) && beginsB p q) := by
  have h2 : (a = b) ↔ a.toNat = b.toNat := UInt8.toNat_inj.symm
  unfold beginsB
  simp only [List.length_cons, List.take_succ_cons, Nat.add_le_add_iff_right]
  by_cases d : a = b
  · subst d; simp
  · have d' : ¬ a.toNat = b.toNat := fun h => d (h2.2 h)
    simp [d, d']
theorem tops_law : ∀ (m : Nat) (o : List UInt8), (!Op.bytesLess o (List.replicate m 255)) = beginsB o (List.replicate m 255)
  | 0, o => by rw [List.replicate_zero, less_nil, begins_nil]; rfl
  | m + 1, [] => by rw [List.replicate_succ, begins_nil2]; rfl
  | m + 1, d :: o => by
    rw [List.replicate_succ, less_cons, begins_cons, ← tops_law m o]
    have hd := UInt8.toNat_lt d
    have h255 : (255 : UInt8).toNat = 255 := rfl
    rw [h255]
    by_cases c : d.toNat < 255
    · have : ¬ d.toNat = 255 := by omega
      simp [c, this]
    · have : d.toNat = 255 := by omega
      simp [c, this]
theorem beh_split {p e : List UInt8} (h : Beh p e) : (e = [] ∧ p.all (fun b => b == 255) = true) ∨ ∃ pre b m, b ≠ 255 ∧ p = pre ++ b :: List.replicate m 255 ∧ e = pre ++ [b + 1] := by
  obtain ⟨k, hk, hall, ⟨rfl, rfl⟩ | ⟨b, h0, hb, hne, rfl⟩⟩ := h
  · left
    refine ⟨rfl, ?_⟩
    rw [List.all_eq_true]
    intro x hx
    obtain ⟨i, hi⟩ := List.getElem?_of_mem hx
    have := hall i (by omega) (List.getElem?_eq_some_iff.1 hi).1
    rw [hi] at this; cases this; rfl
  · right
    refine ⟨p.take (k - 1), b, p.length - k, hne, ?_, rfl⟩
    have e1 : p.drop k = List.replicate (p.length - k) 255 := by
      rw [List.eq_replicate_iff]
      refine ⟨by rw [List.length_drop], fun x hx => ?_⟩
      obtain ⟨i, hi⟩ := List.getElem?_of_mem hx
      rw [List.getElem?_drop] at hi
      have := hall (k + i) (by omega) (List.getElem?_eq_some_iff.1 hi).1
      rw [hi] at this; cases this; rfl
    rw [← e1]
    have e2 : p.drop (k - 1) = b :: p.drop k := by
      have hlt : k - 1 < p.length := by omega
      rw [List.drop_eq_getElem_cons hlt, show k - 1 + 1 = k by omega]
      rw [List.getElem?_eq_getElem hlt] at hb
      rw [Option.some.inj hb]
    rw [← e2, List.take_append_drop]
theorem inc_nat {b : UInt8} (h : b ≠ 255) : (b + 1).toNat = b.toNat + 1 := by
  have h1 : b.toNat ≠ 255 := fun e => h (UInt8.toNat_inj.1 e)
  have h2 := UInt8.toNat_lt b
  rw [UInt8.toNat_add]
  show (b.toNat + 1) % 256 = _
  omega
theorem behind_more {b : UInt8} (h : b ≠ 255) (t : List UInt8) : ∀ pre : List UInt8, Op.bytesLess (pre ++ b :: t) (pre ++ [b + 1]) = true
  | [] => by
    rw [List.nil_append, List.nil_append, less_cons, inc_nat h]
    rw [decide_eq_true (by omega)]; rfl
  | a :: pre => by
    rw [List.cons_append, List.cons_append, less_cons, behind_more h t pre]; simp
theorem behind_in {b : UInt8} (h : b ≠ 255) (m : Nat) : ∀ pre o : List UInt8, (!Op.bytesLess o (pre ++ b :: List.replicate m 255) && Op.bytesLess o (pre ++ [b + 1])) = beginsB o (pre ++ b :: List.replicate m 255)
  | [], [] => by rw [List.nil_append, begins_nil2]; rfl
  | [], c :: o => by
    rw [List.nil_append, List.nil_append, less_cons, less_cons, begins_cons, inc_nat h, ← tops_law, less_nil]
    by_cases c1 : c.toNat < b.toNat
    · have : ¬ c.toNat = b.toNat := by omega
      simp [c1, this]
    · by_cases c2 : c.toNat = b.toNat
      · simp [c2]
      · have c3 : ¬ c.toNat < b.toNat + 1 := by omega
        simp [c2, c3]
  | a :: pre, [] => by rw [List.cons_append, begins_nil2]; rfl
  | a :: pre, c :: o => by
    rw [List.cons_append, List.cons_append, less_cons, less_cons, begins_cons, ← behind_in h m pre o]
    by_cases c1 : c.toNat < a.toNat
    · have : ¬ c.toNat = a.toNat := by omega
      simp [c1, this]
    · by_cases c2 : c.toNat = a.toNat
      · simp [c2]
      · simp [c1, c2]
end Go.Proofs.YtoolnkemkhianaaDoor
