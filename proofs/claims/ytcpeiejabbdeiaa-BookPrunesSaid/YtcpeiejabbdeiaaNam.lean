/-
  Names: which texts are one; columns.
  Conditions: as each theorem states them.
-/
import Derived.Test.YtcpeiejabbdeiaaHor
import Derived.Test.YtcpeiejabbdeiaaAwx
import Derived.Test.YtcpeiejabbdeiaaAwq
import Derived.Lib.Strings
namespace Go.Proofs.Ytcpeiejabbdeiaa
open Go Go.RowKit Go.Proofs.YtcpeiejabbdeiaaW
set_option maxRecDepth 100000
set_option linter.unusedSimpArgs false
set_option linter.unusedVariables false

def smallB (b : Nat) : Bool := (decide (97 ≤ b) && decide (b ≤ 122)) || decide (b = 95)
def digB (b : Nat) : Bool := decide (48 ≤ b) && decide (b ≤ 57)
/-- May this byte stand there in a name? -/
def okAt (s : ByteArray) (i : Nat) : Bool := smallB (bt s i) || (decide (¬ i = 0) && digB (bt s i))
def nameB (s : ByteArray) : Bool := decide (0 < s.size) && decide (s.size ≤ 20) && (List.range s.size).all fun i => okAt s i
theorem decode_low {s : ByteArray} {p : Nat} (h : bt s p < 128) : Utf8.decode s p = (bt s p, 1) := by
  unfold Utf8.decode
  simp only [Nat.add_zero]
  unfold bt at h
  rw [if_pos h]; rfl
theorem decode_high {s : ByteArray} {p : Nat} (h : ¬ bt s p < 128) : 128 ≤ (Utf8.decode s p).1 := by
  have hb := bt_lt s p
  unfold Utf8.decode
  simp only [Nat.add_zero]
  unfold bt at h
  rw [if_neg h]
  split
  · split
    · assumption
    · simp [Utf8.runeError]
  · split
    · split
      · rename_i hc
        simp only [Bool.and_eq_true, decide_eq_true_eq, ge_iff_le] at hc
        exact Nat.le_trans (by omega) hc.1
      · simp [Utf8.runeError]
    · split
      · split
        · rename_i hc
          simp only [Bool.and_eq_true, decide_eq_true_eq, ge_iff_le] at hc
          exact Nat.le_trans (by omega) hc.1
        · simp [Utf8.runeError]
      · simp [Utf8.runeError]

theorem nameB_bad {s : ByteArray} {p : Nat} (hp : p < s.size) (h : okAt s p = false) : nameB s = false := by
  unfold nameB
  have : (List.range s.size).all (fun i => okAt s i) = false := by
    rw [Bool.eq_false_iff]
    intro hc
    rw [List.all_eq_true] at hc
    have := hc p (List.mem_range.2 hp)
    rw [h] at this; cases this
  rw [this, Bool.and_false]
theorem str_empty (s : ByteArray) : (s.toList == (ByteArray.mk #[]).toList) = decide (s.size = 0) := by
  have h0 : (ByteArray.mk #[]).toList = [] := by decide +kernel
  have hl : s.toList.length = s.size := by rw [Go.Lib.toList_data, Array.length_toList]; rfl
  rw [h0]
  cases h : s.toList with
  | nil => rw [h] at hl; simp at hl; simp [← hl]
  | cons a l => rw [h] at hl; simp at hl; simp [← hl]

def NameI (s : ByteArray) (r : Nat) (H0 : Hp) (m : Nat) (F : Fr) (H : Hp) : Prop :=
  ∃ p, p + m = s.size ∧ F 0 = .string s ∧ F 7 = ptr r ∧ H r = some (.stringIter s p) ∧ (∀ i, i ≠ r → H i = H0 i) ∧ ∀ i, i < p → okAt s i = true
theorem name_ok (w0 : World) (H : Hp) (s : ByteArray) (hs : s.size < 1000000) : ACalls Try.prog w0 24 #[.string s] H fun r H' => r = .bool (nameB s) ∧ H' = H := by
  refine ACalls.quiet ?_
  refine acalls_of Try.func24 rfl Try.ntmps24 r24 (by simp) ?_
  simp -implicitDefEqProofs only [go_sem, Nat.reduceEqDiff, Nat.reduceLT, Nat.reduceAdd, Nat.reduceMul, Int.reduceEq, Int.reduceLT, Int.reduceLE, Int.reduceNe, Int.reduceBEq, Int.reduceToNat, ↓reduceIte]
  refine newK_of ?_
  intro r H1 hr hn h1 s1 g1
  simp -implicitDefEqProofs only [go_sem, Nat.reduceEqDiff, Nat.reduceLT, Nat.reduceAdd, Nat.reduceMul, Int.reduceEq, Int.reduceLT, Int.reduceLE, Int.reduceNe, Int.reduceBEq, Int.reduceToNat, ↓reduceIte]
  refine AC.loop (NameI s r H) (n := s.size) ⟨0, by omega, rfl, rfl, h1, g1, fun i hi => by omega⟩ ?_
  rintro m F H2 ⟨p, hp, f0, f7, h2, g2, hok⟩
  have sub2 : Sub H H2 := fun i o hi => by rw [g2 i (fun e => by rw [e, hn] at hi; cases hi)]; exact hi
  by_cases c : p < s.size
  · have d1 : decide (p < s.size) = true := by simp [c]
    simp -implicitDefEqProofs only [go_sem, Nat.reduceEqDiff, Nat.reduceLT, Nat.reduceAdd, Nat.reduceMul, Int.reduceEq, Int.reduceLT, Int.reduceLE, Int.reduceNe, Int.reduceBEq, Int.reduceToNat, ↓reduceIte, f0, f7, h2, d1, nxO_str, nxtK_true]
    have sub3 : ∀ o, Sub H (H2.set r o) := fun o => sub2.set hn o
    have cont : ∀ w, w = p + 1 → okAt s p = true → ∀ F : Fr, F 0 = .string s → F 7 = ptr r → ∃ k, k < m ∧ NameI s r H k F (H2.set r (.stringIter s w)) := fun w hw ho F f0 f7 =>
      ⟨m - 1, by omega, p + 1, by omega, f0, f7, by rw [hw]; exact Hp.set_same _ _ _, fun i hi => by rw [Hp.set_ne _ _ _ _ hi]; exact g2 i hi, fun i hi => by
        by_cases e : i = p
        · rw [e]; exact ho
        · exact hok i (by omega)⟩
    by_cases ca : bt s p < 128
    · have stop := nameB_bad c
      have ho : okAt s p = (smallB (bt s p) || (decide (¬ p = 0) && digB (bt s p))) := rfl
      rw [decode_low ca]
      simp only []
      generalize hb : bt s p = b at ca ho
      by_cases c1 : 97 ≤ b ∧ b ≤ 122
      · have e1 : decide ((97 : Int) ≤ (b : Int)) = true := by rw [decide_eq_true_eq]; omega
        have e2 : decide ((b : Int) ≤ 122) = true := by rw [decide_eq_true_eq]; omega
        have hk : okAt s p = true := by rw [ho]; simp [smallB, c1]
        simp -implicitDefEqProofs only [go_sem, Nat.reduceEqDiff, Nat.reduceLT, Nat.reduceAdd, Nat.reduceMul, Int.reduceEq, Int.reduceLT, Int.reduceLE, Int.reduceNe, Int.reduceBEq, Int.reduceToNat, ↓reduceIte, f0, f7, e1, e2]
        exact cont _ rfl hk _ (by simp -implicitDefEqProofs only [go_sem, Nat.reduceEqDiff, Nat.reduceLT, Nat.reduceAdd, Nat.reduceMul, Int.reduceEq, Int.reduceLT, Int.reduceLE, Int.reduceNe, Int.reduceBEq, Int.reduceToNat, ↓reduceIte, f0]) (by simp -implicitDefEqProofs only [go_sem, Nat.reduceEqDiff, Nat.reduceLT, Nat.reduceAdd, Nat.reduceMul, Int.reduceEq, Int.reduceLT, Int.reduceLE, Int.reduceNe, Int.reduceBEq, Int.reduceToNat, ↓reduceIte, f7])
      · by_cases c2 : b = 95
        · subst c2
          have hk : okAt s p = true := by rw [ho]; rfl
          have e1 : decide ((97 : Int) ≤ ((95 : Nat) : Int)) = false := rfl
          have e3 : decide (((95 : Nat) : Int) = 95) = true := rfl
          simp -implicitDefEqProofs only [go_sem, Nat.reduceEqDiff, Nat.reduceLT, Nat.reduceAdd, Nat.reduceMul, Int.reduceEq, Int.reduceLT, Int.reduceLE, Int.reduceNe, Int.reduceBEq, Int.reduceToNat, ↓reduceIte, f0, f7, e1, e3]
          exact cont _ rfl hk _ (by simp -implicitDefEqProofs only [go_sem, Nat.reduceEqDiff, Nat.reduceLT, Nat.reduceAdd, Nat.reduceMul, Int.reduceEq, Int.reduceLT, Int.reduceLE, Int.reduceNe, Int.reduceBEq, Int.reduceToNat, ↓reduceIte, f0]) (by simp -implicitDefEqProofs only [go_sem, Nat.reduceEqDiff, Nat.reduceLT, Nat.reduceAdd, Nat.reduceMul, Int.reduceEq, Int.reduceLT, Int.reduceLE, Int.reduceNe, Int.reduceBEq, Int.reduceToNat, ↓reduceIte, f7])
        · have hsm : smallB b = false := by
            unfold smallB
            have : ¬ (97 ≤ b ∧ b ≤ 122) := c1
            rcases Nat.lt_or_ge b 97 with h | h
            · have e : decide (97 ≤ b) = false := by simp; omega
              simp [e, c2]
            · have e : decide (b ≤ 122) = false := by simp; omega
              simp [e, c2]
          rw [hsm, Bool.false_or] at ho
          have e3 : decide ((b : Int) = 95) = false := by rw [decide_eq_false_iff_not]; omega
          by_cases c3 : 97 ≤ b
          · have e1 : decide ((97 : Int) ≤ (b : Int)) = true := by rw [decide_eq_true_eq]; omega
            have e2 : decide ((b : Int) ≤ 122) = false := by rw [decide_eq_false_iff_not]; omega
            by_cases c4 : p = 0
            · have e4 : decide ((p : Int) = 0) = true := by rw [dec_zero]; simp [c4]
              have hk : okAt s p = false := by rw [ho]; simp [c4]
              simp -implicitDefEqProofs only [go_sem, Nat.reduceEqDiff, Nat.reduceLT, Nat.reduceAdd, Nat.reduceMul, Int.reduceEq, Int.reduceLT, Int.reduceLE, Int.reduceNe, Int.reduceBEq, Int.reduceToNat, ↓reduceIte, f0, f7, e1, e2, e3, e4, stop hk]
              exact sub3 _
            · have e4 : decide ((p : Int) = 0) = false := by rw [dec_zero]; simp [c4]
              by_cases c5 : b < 48
              · have e5 : decide ((b : Int) < 48) = true := by rw [decide_eq_true_eq]; omega
                have hk : okAt s p = false := by
                  rw [ho]; unfold digB
                  have : decide (48 ≤ b) = false := by simp; omega
                  simp [this]
                simp -implicitDefEqProofs only [go_sem, Nat.reduceEqDiff, Nat.reduceLT, Nat.reduceAdd, Nat.reduceMul, Int.reduceEq, Int.reduceLT, Int.reduceLE, Int.reduceNe, Int.reduceBEq, Int.reduceToNat, ↓reduceIte, f0, f7, e1, e2, e3, e4, e5, stop hk]
                exact sub3 _
              · have e5 : decide ((b : Int) < 48) = false := by rw [decide_eq_false_iff_not]; omega
                by_cases c6 : 57 < b
                · have e6 : decide ((57 : Int) < (b : Int)) = true := by rw [decide_eq_true_eq]; omega
                  have hk : okAt s p = false := by
                    rw [ho]; unfold digB
                    have : decide (b ≤ 57) = false := by simp; omega
                    simp [this]
                  simp -implicitDefEqProofs only [go_sem, Nat.reduceEqDiff, Nat.reduceLT, Nat.reduceAdd, Nat.reduceMul, Int.reduceEq, Int.reduceLT, Int.reduceLE, Int.reduceNe, Int.reduceBEq, Int.reduceToNat, ↓reduceIte, f0, f7, e1, e2, e3, e4, e5, e6, stop hk]
                  exact sub3 _
                · have e6 : decide ((57 : Int) < (b : Int)) = false := by rw [decide_eq_false_iff_not]; omega
                  have hk : okAt s p = true := by
                    rw [ho]; unfold digB
                    rw [decide_eq_true (show 48 ≤ b by omega), decide_eq_true (show b ≤ 57 by omega), decide_eq_true c4]; rfl
                  simp -implicitDefEqProofs only [go_sem, Nat.reduceEqDiff, Nat.reduceLT, Nat.reduceAdd, Nat.reduceMul, Int.reduceEq, Int.reduceLT, Int.reduceLE, Int.reduceNe, Int.reduceBEq, Int.reduceToNat, ↓reduceIte, f0, f7, e1, e2, e3, e4, e5, e6]
                  exact cont _ rfl hk _ (by simp -implicitDefEqProofs only [go_sem, Nat.reduceEqDiff, Nat.reduceLT, Nat.reduceAdd, Nat.reduceMul, Int.reduceEq, Int.reduceLT, Int.reduceLE, Int.reduceNe, Int.reduceBEq, Int.reduceToNat, ↓reduceIte, f0]) (by simp -implicitDefEqProofs only [go_sem, Nat.reduceEqDiff, Nat.reduceLT, Nat.reduceAdd, Nat.reduceMul, Int.reduceEq, Int.reduceLT, Int.reduceLE, Int.reduceNe, Int.reduceBEq, Int.reduceToNat, ↓reduceIte, f7])
          · have e1 : decide ((97 : Int) ≤ (b : Int)) = false := by rw [decide_eq_false_iff_not]; omega
            have e2 : (0 : Nat) = 0 := rfl
            by_cases c4 : p = 0
            · have e4 : decide ((p : Int) = 0) = true := by rw [dec_zero]; simp [c4]
              have hk : okAt s p = false := by rw [ho]; simp [c4]
              simp -implicitDefEqProofs only [go_sem, Nat.reduceEqDiff, Nat.reduceLT, Nat.reduceAdd, Nat.reduceMul, Int.reduceEq, Int.reduceLT, Int.reduceLE, Int.reduceNe, Int.reduceBEq, Int.reduceToNat, ↓reduceIte, f0, f7, e1, e2, e3, e4, stop hk]
              exact sub3 _
            · have e4 : decide ((p : Int) = 0) = false := by rw [dec_zero]; simp [c4]
              by_cases c5 : b < 48
              · have e5 : decide ((b : Int) < 48) = true := by rw [decide_eq_true_eq]; omega
                have hk : okAt s p = false := by
                  rw [ho]; unfold digB
                  have : decide (48 ≤ b) = false := by simp; omega
                  simp [this]
                simp -implicitDefEqProofs only [go_sem, Nat.reduceEqDiff, Nat.reduceLT, Nat.reduceAdd, Nat.reduceMul, Int.reduceEq, Int.reduceLT, Int.reduceLE, Int.reduceNe, Int.reduceBEq, Int.reduceToNat, ↓reduceIte, f0, f7, e1, e2, e3, e4, e5, stop hk]
                exact sub3 _
              · have e5 : decide ((b : Int) < 48) = false := by rw [decide_eq_false_iff_not]; omega
                by_cases c6 : 57 < b
                · have e6 : decide ((57 : Int) < (b : Int)) = true := by rw [decide_eq_true_eq]; omega
                  have hk : okAt s p = false := by
                    rw [ho]; unfold digB
                    have : decide (b ≤ 57) = false := by simp; omega
                    simp [this]
                  simp -implicitDefEqProofs only [go_sem, Nat.reduceEqDiff, Nat.reduceLT, Nat.reduceAdd, Nat.reduceMul, Int.reduceEq, Int.reduceLT, Int.reduceLE, Int.reduceNe, Int.reduceBEq, Int.reduceToNat, ↓reduceIte, f0, f7, e1, e2, e3, e4, e5, e6, stop hk]
                  exact sub3 _
                · have e6 : decide ((57 : Int) < (b : Int)) = false := by rw [decide_eq_false_iff_not]; omega
                  have hk : okAt s p = true := by
                    rw [ho]; unfold digB
                    rw [decide_eq_true (show 48 ≤ b by omega), decide_eq_true (show b ≤ 57 by omega), decide_eq_true c4]; rfl
                  simp -implicitDefEqProofs only [go_sem, Nat.reduceEqDiff, Nat.reduceLT, Nat.reduceAdd, Nat.reduceMul, Int.reduceEq, Int.reduceLT, Int.reduceLE, Int.reduceNe, Int.reduceBEq, Int.reduceToNat, ↓reduceIte, f0, f7, e1, e2, e3, e4, e5, e6]
                  exact cont _ rfl hk _ (by simp -implicitDefEqProofs only [go_sem, Nat.reduceEqDiff, Nat.reduceLT, Nat.reduceAdd, Nat.reduceMul, Int.reduceEq, Int.reduceLT, Int.reduceLE, Int.reduceNe, Int.reduceBEq, Int.reduceToNat, ↓reduceIte, f0]) (by simp -implicitDefEqProofs only [go_sem, Nat.reduceEqDiff, Nat.reduceLT, Nat.reduceAdd, Nat.reduceMul, Int.reduceEq, Int.reduceLT, Int.reduceLE, Int.reduceNe, Int.reduceBEq, Int.reduceToNat, ↓reduceIte, f7])
    · have hh := decode_high ca
      have hk : okAt s p = false := by
        unfold okAt smallB digB
        have e1 : decide (bt s p ≤ 122) = false := by simp; omega
        have e2 : decide (bt s p = 95) = false := by simp; omega
        have e3 : decide (bt s p ≤ 57) = false := by simp; omega
        simp [e1, e2, e3]
      have stop := nameB_bad c hk
      generalize (Utf8.decode s p).1 = b at hh
      generalize (Utf8.decode s p).2 = w
      have e1 : decide ((97 : Int) ≤ (b : Int)) = true := by rw [decide_eq_true_eq]; omega
      have e2 : decide ((b : Int) ≤ 122) = false := by rw [decide_eq_false_iff_not]; omega
      have e3 : decide ((b : Int) = 95) = false := by rw [decide_eq_false_iff_not]; omega
      have e5 : decide ((b : Int) < 48) = false := by rw [decide_eq_false_iff_not]; omega
      have e6 : decide ((57 : Int) < (b : Int)) = true := by rw [decide_eq_true_eq]; omega
      by_cases c4 : p = 0
      · have e4 : decide ((p : Int) = 0) = true := by rw [dec_zero]; simp [c4]
        simp -implicitDefEqProofs only [go_sem, Nat.reduceEqDiff, Nat.reduceLT, Nat.reduceAdd, Nat.reduceMul, Int.reduceEq, Int.reduceLT, Int.reduceLE, Int.reduceNe, Int.reduceBEq, Int.reduceToNat, ↓reduceIte, f0, f7, e1, e2, e3, e4, e5, e6, stop]
        exact sub3 _
      · have e4 : decide ((p : Int) = 0) = false := by rw [dec_zero]; simp [c4]
        simp -implicitDefEqProofs only [go_sem, Nat.reduceEqDiff, Nat.reduceLT, Nat.reduceAdd, Nat.reduceMul, Int.reduceEq, Int.reduceLT, Int.reduceLE, Int.reduceNe, Int.reduceBEq, Int.reduceToNat, ↓reduceIte, f0, f7, e1, e2, e3, e4, e5, e6, stop]
        exact sub3 _
  · have d1 : decide (p < s.size) = false := by simp [c]
    have hp' : p = s.size := by omega
    subst hp'
    have hall : (List.range s.size).all (fun i => okAt s i) = true := by
      rw [List.all_eq_true]; intro i hi; exact hok i (List.mem_range.1 hi)
    by_cases c0 : s.size = 0
    · have e1 := str_empty s
      rw [decide_eq_true c0] at e1
      simp -implicitDefEqProofs only [go_sem, Nat.reduceEqDiff, Nat.reduceLT, Nat.reduceAdd, Nat.reduceMul, Int.reduceEq, Int.reduceLT, Int.reduceLE, Int.reduceNe, Int.reduceBEq, Int.reduceToNat, ↓reduceIte, f0, f7, h2, d1, nxO_str, nxtK_false, e1]
      refine ⟨?_, sub2⟩
      unfold nameB; rw [c0]; rfl
    · have e1 := str_empty s
      rw [decide_eq_false c0] at e1
      simp -implicitDefEqProofs only [go_sem, Nat.reduceEqDiff, Nat.reduceLT, Nat.reduceAdd, Nat.reduceMul, Int.reduceEq, Int.reduceLT, Int.reduceLE, Int.reduceNe, Int.reduceBEq, Int.reduceToNat, ↓reduceIte, f0, f7, h2, d1, nxO_str, nxtK_false, e1]
      refine ⟨?_, sub2⟩
      unfold nameB
      rw [hall, decide_eq_true (show 0 < s.size by omega), Bool.true_and, Bool.and_true]
      by_cases c20 : s.size ≤ 20
      · rw [decide_eq_true c20, decide_eq_true (by omega)]
      · rw [decide_eq_false c20, decide_eq_false (by omega)]
end Go.Proofs.Ytcpeiejabbdeiaa
