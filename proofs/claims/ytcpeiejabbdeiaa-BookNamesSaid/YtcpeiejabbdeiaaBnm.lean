/-
  The law BookNames, walked.
  Conditions: the text isn't longer than any can be.
-/
import Derived.Test.YtcpeiejabbdeiaaBka
namespace Go.Proofs.Ytcpeiejabbdeiaa
open Go Go.RowKit Go.Proofs.YtcpeiejabbdeiaaW
set_option maxRecDepth 100000
set_option linter.unusedSimpArgs false
set_option linter.unusedVariables false

def RnmI (s : ByteArray) (H : Hp) (m : Nat) (F : Fr) (H1 : Hp) : Prop :=
  ∃ k : Nat, k + m = s.size ∧ F 0 = .string s ∧ F 3 = .int .i64 (k : Int) ∧ H1 = H ∧ ∀ i, i < k → okAt s i = true
theorem rname_ok (w0 : World) (H : Hp) (s : ByteArray) (hs : s.size < 1000000) : ACalls Try.prog w0 25 #[.string s] H fun r H' => r = .bool (nameB s) ∧ H' = H := by
  refine acalls_of Try.func25 rfl Try.ntmps25 r25 (by simp) ?_
  have i0 : (0 : Int).toNat = 0 := rfl
  by_cases c0 : s.size = 0
  · have e1 : decide ((s.size : Int) < 1) = true := by rw [decide_eq_true_eq]; omega
    simp -implicitDefEqProofs only [go_sem, Nat.reduceEqDiff, Nat.reduceLT, Nat.reduceAdd, Nat.reduceMul, Int.reduceEq, Int.reduceLT, Int.reduceLE, Int.reduceNe, Int.reduceBEq, Int.reduceToNat, ↓reduceIte, e1]
    unfold nameB
    rw [decide_eq_false (show ¬ 0 < s.size by omega)]; rfl
  · have e1 : decide ((s.size : Int) < 1) = false := by rw [decide_eq_false_iff_not]; omega
    by_cases c20 : s.size ≤ 20
    · have e2 : decide ((20 : Int) < (s.size : Int)) = false := by rw [decide_eq_false_iff_not]; omega
      have d0 : decide ((0 : Int) < (s.size : Int)) = true := by rw [decide_eq_true_eq]; omega
      have d00 : decide ((0 : Int) ≤ 0) = true := rfl
      by_cases cd : 48 ≤ bt s 0 ∧ bt s 0 ≤ 57
      · have e3 : decide ((48 : Int) ≤ (bt s 0 : Int)) = true := by rw [decide_eq_true_eq]; omega
        have e4 : decide ((bt s 0 : Int) ≤ 57) = true := by rw [decide_eq_true_eq]; omega
        have hk : okAt s 0 = false := by
          unfold okAt smallB
          have h1 : decide (97 ≤ bt s 0) = false := by simp; omega
          have h2 : decide (bt s 0 = 95) = false := by simp; omega
          simp [h1, h2]
        simp -implicitDefEqProofs only [go_sem, Nat.reduceEqDiff, Nat.reduceLT, Nat.reduceAdd, Nat.reduceMul, Int.reduceEq, Int.reduceLT, Int.reduceLE, Int.reduceNe, Int.reduceBEq, Int.reduceToNat, ↓reduceIte, e1, e2, e3, e4, d0, d00, i0]
        rw [nameB_bad (show 0 < s.size by omega) hk]
      · have body : ∀ F : Fr, F 0 = .string s → F 3 = .int .i64 0 → True := fun _ _ _ => trivial
        have hdg : digB (bt s 0) = false := by
          unfold digB
          rcases Nat.lt_or_ge (bt s 0) 48 with h | h
          · have : decide (48 ≤ bt s 0) = false := by simp; omega
            rw [this]; rfl
          · have : decide (bt s 0 ≤ 57) = false := by simp; omega
            rw [this, Bool.and_false]
        by_cases c48 : 48 ≤ bt s 0
        · have e3 : decide ((48 : Int) ≤ (bt s 0 : Int)) = true := by rw [decide_eq_true_eq]; omega
          have e4 : decide ((bt s 0 : Int) ≤ 57) = false := by rw [decide_eq_false_iff_not]; omega
          simp -implicitDefEqProofs only [go_sem, Nat.reduceEqDiff, Nat.reduceLT, Nat.reduceAdd, Nat.reduceMul, Int.reduceEq, Int.reduceLT, Int.reduceLE, Int.reduceNe, Int.reduceBEq, Int.reduceToNat, ↓reduceIte, e1, e2, e3, e4, d0, d00, i0]
          refine AC.loop (RnmI s H) (n := s.size) ⟨0, by omega, rfl, rfl, rfl, fun i hi => by omega⟩ ?_
          rintro m F H1 ⟨k, hk, f0, f3, rfl, hok⟩
          by_cases c : k < s.size
          · have d1 : decide ((k : Int) < (s.size : Int)) = true := by rw [dec_lt]; simp [c]
            have d2 : IntKind.i64.wrap ((k : Int) + 1) = (k + 1 : Nat) := by rw [i64_in] <;> omega
            have d3 : decide ((0 : Int) ≤ (k : Int)) = true := by simp
            have ho : okAt s k = (smallB (bt s k) || (decide (¬ k = 0) && digB (bt s k))) := rfl
            have ho' : okAt s k = (smallB (bt s k) || digB (bt s k)) := by
              rw [ho]
              by_cases e : k = 0
              · rw [e, hdg]; simp
              · simp [e]
            have cont : okAt s k = true → ∀ F : Fr, F 0 = .string s → F 3 = .int .i64 ((k + 1 : Nat) : Int) → ∃ q, q < m ∧ RnmI s H1 q F H1 := fun ho F f0 f3 =>
              ⟨m - 1, by omega, k + 1, by omega, f0, f3, rfl, fun i hi => by
                by_cases e : i = k
                · rw [e]; exact ho
                · exact hok i (by omega)⟩
            have stop := nameB_bad c
            generalize hb : bt s k = b at ho'
            by_cases c1 : 97 ≤ b
            · have q1 : decide ((97 : Int) ≤ (b : Int)) = true := by rw [decide_eq_true_eq]; omega
              by_cases c2 : b ≤ 122
              · have q2 : decide ((b : Int) ≤ 122) = true := by rw [decide_eq_true_eq]; omega
                simp -implicitDefEqProofs only [go_sem, Nat.reduceEqDiff, Nat.reduceLT, Nat.reduceAdd, Nat.reduceMul, Int.reduceEq, Int.reduceLT, Int.reduceLE, Int.reduceNe, Int.reduceBEq, Int.reduceToNat, ↓reduceIte, f0, f3, d1, d2, d3, hb, q1, q2]
                exact cont (by rw [ho']; simp [smallB, c1, c2]) _ (by simp -implicitDefEqProofs only [go_sem, Nat.reduceEqDiff, Nat.reduceLT, Nat.reduceAdd, Nat.reduceMul, Int.reduceEq, Int.reduceLT, Int.reduceLE, Int.reduceNe, Int.reduceBEq, Int.reduceToNat, ↓reduceIte, f0]) (by simp -implicitDefEqProofs only [go_sem, Nat.reduceEqDiff, Nat.reduceLT, Nat.reduceAdd, Nat.reduceMul, Int.reduceEq, Int.reduceLT, Int.reduceLE, Int.reduceNe, Int.reduceBEq, Int.reduceToNat, ↓reduceIte])
              · have q2 : decide ((b : Int) ≤ 122) = false := by rw [decide_eq_false_iff_not]; omega
                have q3 : decide ((48 : Int) ≤ (b : Int)) = true := by rw [decide_eq_true_eq]; omega
                have q4 : decide ((b : Int) ≤ 57) = false := by rw [decide_eq_false_iff_not]; omega
                have q5 : decide ((b : Int) = 95) = false := by rw [decide_eq_false_iff_not]; omega
                simp -implicitDefEqProofs only [go_sem, Nat.reduceEqDiff, Nat.reduceLT, Nat.reduceAdd, Nat.reduceMul, Int.reduceEq, Int.reduceLT, Int.reduceLE, Int.reduceNe, Int.reduceBEq, Int.reduceToNat, ↓reduceIte, f0, f3, d1, d2, d3, hb, q1, q2, q3, q4, q5]
                rw [stop (by rw [ho']; unfold smallB digB; have g1 : decide (b ≤ 122) = false := (by simp; omega); have g2 : decide (b = 95) = false := (by simp; omega); have g3 : decide (b ≤ 57) = false := (by simp; omega); simp [g1, g2, g3])]
            · have q1 : decide ((97 : Int) ≤ (b : Int)) = false := by rw [decide_eq_false_iff_not]; omega
              have g0 : decide (97 ≤ b) = false := by simp; omega
              by_cases c3 : 48 ≤ b
              · have q3 : decide ((48 : Int) ≤ (b : Int)) = true := by rw [decide_eq_true_eq]; omega
                by_cases c4 : b ≤ 57
                · have q4 : decide ((b : Int) ≤ 57) = true := by rw [decide_eq_true_eq]; omega
                  simp -implicitDefEqProofs only [go_sem, Nat.reduceEqDiff, Nat.reduceLT, Nat.reduceAdd, Nat.reduceMul, Int.reduceEq, Int.reduceLT, Int.reduceLE, Int.reduceNe, Int.reduceBEq, Int.reduceToNat, ↓reduceIte, f0, f3, d1, d2, d3, hb, q1, q3, q4]
                  exact cont (by rw [ho']; simp [digB, c3, c4]) _ (by simp -implicitDefEqProofs only [go_sem, Nat.reduceEqDiff, Nat.reduceLT, Nat.reduceAdd, Nat.reduceMul, Int.reduceEq, Int.reduceLT, Int.reduceLE, Int.reduceNe, Int.reduceBEq, Int.reduceToNat, ↓reduceIte, f0]) (by simp -implicitDefEqProofs only [go_sem, Nat.reduceEqDiff, Nat.reduceLT, Nat.reduceAdd, Nat.reduceMul, Int.reduceEq, Int.reduceLT, Int.reduceLE, Int.reduceNe, Int.reduceBEq, Int.reduceToNat, ↓reduceIte])
                · have q4 : decide ((b : Int) ≤ 57) = false := by rw [decide_eq_false_iff_not]; omega
                  by_cases c5 : b = 95
                  · have q5 : decide ((b : Int) = 95) = true := by rw [decide_eq_true_eq]; omega
                    simp -implicitDefEqProofs only [go_sem, Nat.reduceEqDiff, Nat.reduceLT, Nat.reduceAdd, Nat.reduceMul, Int.reduceEq, Int.reduceLT, Int.reduceLE, Int.reduceNe, Int.reduceBEq, Int.reduceToNat, ↓reduceIte, f0, f3, d1, d2, d3, hb, q1, q3, q4, q5]
                    exact cont (by rw [ho']; simp [smallB, c5]) _ (by simp -implicitDefEqProofs only [go_sem, Nat.reduceEqDiff, Nat.reduceLT, Nat.reduceAdd, Nat.reduceMul, Int.reduceEq, Int.reduceLT, Int.reduceLE, Int.reduceNe, Int.reduceBEq, Int.reduceToNat, ↓reduceIte, f0]) (by simp -implicitDefEqProofs only [go_sem, Nat.reduceEqDiff, Nat.reduceLT, Nat.reduceAdd, Nat.reduceMul, Int.reduceEq, Int.reduceLT, Int.reduceLE, Int.reduceNe, Int.reduceBEq, Int.reduceToNat, ↓reduceIte])
                  · have q5 : decide ((b : Int) = 95) = false := by rw [decide_eq_false_iff_not]; omega
                    simp -implicitDefEqProofs only [go_sem, Nat.reduceEqDiff, Nat.reduceLT, Nat.reduceAdd, Nat.reduceMul, Int.reduceEq, Int.reduceLT, Int.reduceLE, Int.reduceNe, Int.reduceBEq, Int.reduceToNat, ↓reduceIte, f0, f3, d1, d2, d3, hb, q1, q3, q4, q5]
                    rw [stop (by rw [ho']; unfold smallB digB; have g2 : decide (b = 95) = false := (by simp; omega); have g3 : decide (b ≤ 57) = false := (by simp; omega); simp [g0, g2, g3])]
              · have q3 : decide ((48 : Int) ≤ (b : Int)) = false := by rw [decide_eq_false_iff_not]; omega
                have q5 : decide ((b : Int) = 95) = false := by rw [decide_eq_false_iff_not]; omega
                simp -implicitDefEqProofs only [go_sem, Nat.reduceEqDiff, Nat.reduceLT, Nat.reduceAdd, Nat.reduceMul, Int.reduceEq, Int.reduceLT, Int.reduceLE, Int.reduceNe, Int.reduceBEq, Int.reduceToNat, ↓reduceIte, f0, f3, d1, d2, d3, hb, q1, q3, q5]
                rw [stop (by rw [ho']; unfold smallB digB; have g2 : decide (b = 95) = false := (by simp; omega); have g3 : decide (48 ≤ b) = false := (by simp; omega); simp [g0, g2, g3])]
          · have d1 : decide ((k : Int) < (s.size : Int)) = false := by rw [dec_lt]; simp; omega
            simp -implicitDefEqProofs only [go_sem, Nat.reduceEqDiff, Nat.reduceLT, Nat.reduceAdd, Nat.reduceMul, Int.reduceEq, Int.reduceLT, Int.reduceLE, Int.reduceNe, Int.reduceBEq, Int.reduceToNat, ↓reduceIte, f0, f3, d1]
            have hks : k = s.size := by omega
            subst hks
            have hall : (List.range s.size).all (fun i => okAt s i) = true := by
              rw [List.all_eq_true]; intro i hi; exact hok i (List.mem_range.1 hi)
            unfold nameB
            rw [hall, decide_eq_true (show 0 < s.size by omega), decide_eq_true c20]; rfl
        · have e3 : decide ((48 : Int) ≤ (bt s 0 : Int)) = false := by rw [decide_eq_false_iff_not]; omega
          simp -implicitDefEqProofs only [go_sem, Nat.reduceEqDiff, Nat.reduceLT, Nat.reduceAdd, Nat.reduceMul, Int.reduceEq, Int.reduceLT, Int.reduceLE, Int.reduceNe, Int.reduceBEq, Int.reduceToNat, ↓reduceIte, e1, e2, e3, d0, d00, i0]
          refine AC.loop (RnmI s H) (n := s.size) ⟨0, by omega, rfl, rfl, rfl, fun i hi => by omega⟩ ?_
          rintro m F H1 ⟨k, hk, f0, f3, rfl, hok⟩
          by_cases c : k < s.size
          · have d1 : decide ((k : Int) < (s.size : Int)) = true := by rw [dec_lt]; simp [c]
            have d2 : IntKind.i64.wrap ((k : Int) + 1) = (k + 1 : Nat) := by rw [i64_in] <;> omega
            have d3 : decide ((0 : Int) ≤ (k : Int)) = true := by simp
            have ho : okAt s k = (smallB (bt s k) || (decide (¬ k = 0) && digB (bt s k))) := rfl
            have ho' : okAt s k = (smallB (bt s k) || digB (bt s k)) := by
              rw [ho]
              by_cases e : k = 0
              · rw [e, hdg]; simp
              · simp [e]
            have cont : okAt s k = true → ∀ F : Fr, F 0 = .string s → F 3 = .int .i64 ((k + 1 : Nat) : Int) → ∃ q, q < m ∧ RnmI s H1 q F H1 := fun ho F f0 f3 =>
              ⟨m - 1, by omega, k + 1, by omega, f0, f3, rfl, fun i hi => by
                by_cases e : i = k
                · rw [e]; exact ho
                · exact hok i (by omega)⟩
            have stop := nameB_bad c
            generalize hb : bt s k = b at ho'
            by_cases c1 : 97 ≤ b
            · have q1 : decide ((97 : Int) ≤ (b : Int)) = true := by rw [decide_eq_true_eq]; omega
              by_cases c2 : b ≤ 122
              · have q2 : decide ((b : Int) ≤ 122) = true := by rw [decide_eq_true_eq]; omega
                simp -implicitDefEqProofs only [go_sem, Nat.reduceEqDiff, Nat.reduceLT, Nat.reduceAdd, Nat.reduceMul, Int.reduceEq, Int.reduceLT, Int.reduceLE, Int.reduceNe, Int.reduceBEq, Int.reduceToNat, ↓reduceIte, f0, f3, d1, d2, d3, hb, q1, q2]
                exact cont (by rw [ho']; simp [smallB, c1, c2]) _ (by simp -implicitDefEqProofs only [go_sem, Nat.reduceEqDiff, Nat.reduceLT, Nat.reduceAdd, Nat.reduceMul, Int.reduceEq, Int.reduceLT, Int.reduceLE, Int.reduceNe, Int.reduceBEq, Int.reduceToNat, ↓reduceIte, f0]) (by simp -implicitDefEqProofs only [go_sem, Nat.reduceEqDiff, Nat.reduceLT, Nat.reduceAdd, Nat.reduceMul, Int.reduceEq, Int.reduceLT, Int.reduceLE, Int.reduceNe, Int.reduceBEq, Int.reduceToNat, ↓reduceIte])
              · have q2 : decide ((b : Int) ≤ 122) = false := by rw [decide_eq_false_iff_not]; omega
                have q3 : decide ((48 : Int) ≤ (b : Int)) = true := by rw [decide_eq_true_eq]; omega
                have q4 : decide ((b : Int) ≤ 57) = false := by rw [decide_eq_false_iff_not]; omega
                have q5 : decide ((b : Int) = 95) = false := by rw [decide_eq_false_iff_not]; omega
                simp -implicitDefEqProofs only [go_sem, Nat.reduceEqDiff, Nat.reduceLT, Nat.reduceAdd, Nat.reduceMul, Int.reduceEq, Int.reduceLT, Int.reduceLE, Int.reduceNe, Int.reduceBEq, Int.reduceToNat, ↓reduceIte, f0, f3, d1, d2, d3, hb, q1, q2, q3, q4, q5]
                rw [stop (by rw [ho']; unfold smallB digB; have g1 : decide (b ≤ 122) = false := (by simp; omega); have g2 : decide (b = 95) = false := (by simp; omega); have g3 : decide (b ≤ 57) = false := (by simp; omega); simp [g1, g2, g3])]
            · have q1 : decide ((97 : Int) ≤ (b : Int)) = false := by rw [decide_eq_false_iff_not]; omega
              have g0 : decide (97 ≤ b) = false := by simp; omega
              by_cases c3 : 48 ≤ b
              · have q3 : decide ((48 : Int) ≤ (b : Int)) = true := by rw [decide_eq_true_eq]; omega
                by_cases c4 : b ≤ 57
                · have q4 : decide ((b : Int) ≤ 57) = true := by rw [decide_eq_true_eq]; omega
                  simp -implicitDefEqProofs only [go_sem, Nat.reduceEqDiff, Nat.reduceLT, Nat.reduceAdd, Nat.reduceMul, Int.reduceEq, Int.reduceLT, Int.reduceLE, Int.reduceNe, Int.reduceBEq, Int.reduceToNat, ↓reduceIte, f0, f3, d1, d2, d3, hb, q1, q3, q4]
                  exact cont (by rw [ho']; simp [digB, c3, c4]) _ (by simp -implicitDefEqProofs only [go_sem, Nat.reduceEqDiff, Nat.reduceLT, Nat.reduceAdd, Nat.reduceMul, Int.reduceEq, Int.reduceLT, Int.reduceLE, Int.reduceNe, Int.reduceBEq, Int.reduceToNat, ↓reduceIte, f0]) (by simp -implicitDefEqProofs only [go_sem, Nat.reduceEqDiff, Nat.reduceLT, Nat.reduceAdd, Nat.reduceMul, Int.reduceEq, Int.reduceLT, Int.reduceLE, Int.reduceNe, Int.reduceBEq, Int.reduceToNat, ↓reduceIte])
                · have q4 : decide ((b : Int) ≤ 57) = false := by rw [decide_eq_false_iff_not]; omega
                  by_cases c5 : b = 95
                  · have q5 : decide ((b : Int) = 95) = true := by rw [decide_eq_true_eq]; omega
                    simp -implicitDefEqProofs only [go_sem, Nat.reduceEqDiff, Nat.reduceLT, Nat.reduceAdd, Nat.reduceMul, Int.reduceEq, Int.reduceLT, Int.reduceLE, Int.reduceNe, Int.reduceBEq, Int.reduceToNat, ↓reduceIte, f0, f3, d1, d2, d3, hb, q1, q3, q4, q5]
                    exact cont (by rw [ho']; simp [smallB, c5]) _ (by simp -implicitDefEqProofs only [go_sem, Nat.reduceEqDiff, Nat.reduceLT, Nat.reduceAdd, Nat.reduceMul, Int.reduceEq, Int.reduceLT, Int.reduceLE, Int.reduceNe, Int.reduceBEq, Int.reduceToNat, ↓reduceIte, f0]) (by simp -implicitDefEqProofs only [go_sem, Nat.reduceEqDiff, Nat.reduceLT, Nat.reduceAdd, Nat.reduceMul, Int.reduceEq, Int.reduceLT, Int.reduceLE, Int.reduceNe, Int.reduceBEq, Int.reduceToNat, ↓reduceIte])
                  · have q5 : decide ((b : Int) = 95) = false := by rw [decide_eq_false_iff_not]; omega
                    simp -implicitDefEqProofs only [go_sem, Nat.reduceEqDiff, Nat.reduceLT, Nat.reduceAdd, Nat.reduceMul, Int.reduceEq, Int.reduceLT, Int.reduceLE, Int.reduceNe, Int.reduceBEq, Int.reduceToNat, ↓reduceIte, f0, f3, d1, d2, d3, hb, q1, q3, q4, q5]
                    rw [stop (by rw [ho']; unfold smallB digB; have g2 : decide (b = 95) = false := (by simp; omega); have g3 : decide (b ≤ 57) = false := (by simp; omega); simp [g0, g2, g3])]
              · have q3 : decide ((48 : Int) ≤ (b : Int)) = false := by rw [decide_eq_false_iff_not]; omega
                have q5 : decide ((b : Int) = 95) = false := by rw [decide_eq_false_iff_not]; omega
                simp -implicitDefEqProofs only [go_sem, Nat.reduceEqDiff, Nat.reduceLT, Nat.reduceAdd, Nat.reduceMul, Int.reduceEq, Int.reduceLT, Int.reduceLE, Int.reduceNe, Int.reduceBEq, Int.reduceToNat, ↓reduceIte, f0, f3, d1, d2, d3, hb, q1, q3, q5]
                rw [stop (by rw [ho']; unfold smallB digB; have g2 : decide (b = 95) = false := (by simp; omega); have g3 : decide (48 ≤ b) = false := (by simp; omega); simp [g0, g2, g3])]
          · have d1 : decide ((k : Int) < (s.size : Int)) = false := by rw [dec_lt]; simp; omega
            simp -implicitDefEqProofs only [go_sem, Nat.reduceEqDiff, Nat.reduceLT, Nat.reduceAdd, Nat.reduceMul, Int.reduceEq, Int.reduceLT, Int.reduceLE, Int.reduceNe, Int.reduceBEq, Int.reduceToNat, ↓reduceIte, f0, f3, d1]
            have hks : k = s.size := by omega
            subst hks
            have hall : (List.range s.size).all (fun i => okAt s i) = true := by
              rw [List.all_eq_true]; intro i hi; exact hok i (List.mem_range.1 hi)
            unfold nameB
            rw [hall, decide_eq_true (show 0 < s.size by omega), decide_eq_true c20]; rfl
    · have e2 : decide ((20 : Int) < (s.size : Int)) = true := by rw [decide_eq_true_eq]; omega
      simp -implicitDefEqProofs only [go_sem, Nat.reduceEqDiff, Nat.reduceLT, Nat.reduceAdd, Nat.reduceMul, Int.reduceEq, Int.reduceLT, Int.reduceLE, Int.reduceNe, Int.reduceBEq, Int.reduceToNat, ↓reduceIte, e1, e2]
      unfold nameB
      rw [decide_eq_false (show ¬ s.size ≤ 20 by omega), Bool.and_false]; rfl
theorem few_size (s : ByteArray) : (s.extract 0 (min s.size 30)).size ≤ 30 := by
  rw [ByteArray.size_extract]; omega
theorem createC_first (sts : List Nat) (z : Shot) (s : ByteArray) : createC sts z [] [] s = if nameB s = false then 3 else 0 := by
  unfold createC takenC
  simp
theorem names_ok (w0 : World) (s0 : ByteArray) (hs : s0.size ≤ 9223372036854775807) :
    ACalls Try.prog w0 5 #[.string s0] (fun _ => none) fun r H' => r = .bool true ∧ True := by
  refine acalls_of Try.func5 rfl Try.ntmps5 r5 (by simp) ?_
  simp -implicitDefEqProofs only [go_sem, Nat.reduceEqDiff, Nat.reduceLT, Nat.reduceAdd, Nat.reduceMul, Int.reduceEq, Int.reduceLT, Int.reduceLE, Int.reduceNe, Int.reduceBEq, Int.reduceToNat, ↓reduceIte]
  refine (awake11_ok w0).mono ?_
  rintro r H' ⟨rfl, rfl⟩
  simp -implicitDefEqProofs only [go_sem, Nat.reduceEqDiff, Nat.reduceLT, Nat.reduceAdd, Nat.reduceMul, Int.reduceEq, Int.reduceLT, Int.reduceLE, Int.reduceNe, Int.reduceBEq, Int.reduceToNat, ↓reduceIte]
  refine (few_ok w0 _ s0 hs).mono ?_
  rintro r H0 ⟨rfl, rfl⟩
  have hf := few_size s0
  generalize s0.extract 0 (min s0.size 30) = s at hf
  simp -implicitDefEqProofs only [go_sem, Nat.reduceEqDiff, Nat.reduceLT, Nat.reduceAdd, Nat.reduceMul, Int.reduceEq, Int.reduceLT, Int.reduceLE, Int.reduceNe, Int.reduceBEq, Int.reduceToNat, ↓reduceIte]
  refine (new_ok w0 1 _ (by omega) (by omega)).mono ?_
  rintro r H1 ⟨l, rfl, hl, hl0, hlog, hsub⟩
  simp -implicitDefEqProofs only [go_sem, Nat.reduceEqDiff, Nat.reduceLT, Nat.reduceAdd, Nat.reduceMul, Int.reduceEq, Int.reduceLT, Int.reduceLE, Int.reduceNe, Int.reduceBEq, Int.reduceToNat, ↓reduceIte]
  refine (begin_log hlog (by simp)).mono ?_
  rintro r H2 ⟨rfl, S2, hlog2, hS2, hf2⟩
  simp -implicitDefEqProofs only [go_sem, Nat.reduceEqDiff, Nat.reduceLT, Nat.reduceAdd, Nat.reduceMul, Int.reduceEq, Int.reduceLT, Int.reduceLE, Int.reduceNe, Int.reduceBEq, Int.reduceToNat, ↓reduceIte]
  refine (bnew_ok w0 H2).mono ?_
  rintro r H3 ⟨bk, rfl, hbk, hbook, s3⟩
  have hlog3 := hlog2.keep (H' := H3) fun b o _ hb => s3 b o hb
  simp -implicitDefEqProofs only [go_sem, Nat.reduceEqDiff, Nat.reduceLT, Nat.reduceAdd, Nat.reduceMul, Int.reduceEq, Int.reduceLT, Int.reduceLE, Int.reduceNe, Int.reduceBEq, Int.reduceToNat, ↓reduceIte]
  refine (take_shot hlog3 (by simp) 1).mono ?_
  rintro r H4 ⟨z, o1, q1, rfl, hz, hfr, s4⟩
  simp -implicitDefEqProofs only [go_sem, Nat.reduceEqDiff, Nat.reduceLT, Nat.reduceAdd, Nat.reduceMul, Int.reduceEq, Int.reduceLT, Int.reduceLE, Int.reduceNe, Int.reduceBEq, Int.reduceToNat, ↓reduceIte]
  refine (one_cols w0 H4).mono ?_
  rintro c H5 ⟨hrc, hfc, s5⟩
  simp -implicitDefEqProofs only [go_sem, Nat.reduceEqDiff, Nat.reduceLT, Nat.reduceAdd, Nat.reduceMul, Int.reduceEq, Int.reduceLT, Int.reduceLE, Int.reduceNe, Int.reduceBEq, Int.reduceToNat, ↓reduceIte]
  refine (create_ok ((hbook.sub s4).sub s5) (by simp) (by simp) (by omega) ((hlog3.keep (H' := H4) fun b o _ hb => s4 b o hb).keep (H' := H5) fun b o _ hb => s5 b o hb) (by simp) (hz.sub s5) s (by omega) hrc).mono ?_
  rintro r H6 ⟨o6, f6, h6⟩
  rw [createC_first] at h6
  cases hn : nameB s
  · rw [hn, if_pos rfl] at h6
    rcases h6 with ⟨_, rfl, hb6⟩ | ⟨h6, _⟩
    · simp -implicitDefEqProofs only [go_sem, Nat.reduceEqDiff, Nat.reduceLT, Nat.reduceAdd, Nat.reduceMul, Int.reduceEq, Int.reduceLT, Int.reduceLE, Int.reduceNe, Int.reduceBEq, Int.reduceToNat, ↓reduceIte]
      refine (name_ok w0 H6 s (by omega)).mono ?_
      rintro r H7 ⟨rfl, rfl⟩
      simp -implicitDefEqProofs only [go_sem, Nat.reduceEqDiff, Nat.reduceLT, Nat.reduceAdd, Nat.reduceMul, Int.reduceEq, Int.reduceLT, Int.reduceLE, Int.reduceNe, Int.reduceBEq, Int.reduceToNat, ↓reduceIte]
      refine (rname_ok w0 H7 s (by omega)).mono ?_
      rintro r H8 ⟨rfl, rfl⟩
      rw [hn]
      simp -implicitDefEqProofs only [go_sem, Nat.reduceEqDiff, Nat.reduceLT, Nat.reduceAdd, Nat.reduceMul, Int.reduceEq, Int.reduceLT, Int.reduceLE, Int.reduceNe, Int.reduceBEq, Int.reduceToNat, ↓reduceIte]
      refine (rname_ok w0 H8 s (by omega)).mono ?_
      rintro r H9 ⟨rfl, rfl⟩
      rw [hn]
      simp -implicitDefEqProofs only [go_sem, Nat.reduceEqDiff, Nat.reduceLT, Nat.reduceAdd, Nat.reduceMul, Int.reduceEq, Int.reduceLT, Int.reduceLE, Int.reduceNe, Int.reduceBEq, Int.reduceToNat, ↓reduceIte]
    · cases h6
  · rw [hn, if_neg (by simp)] at h6
    rcases h6 with ⟨h6, _⟩ | ⟨_, rfl, h6⟩
    · exact absurd rfl h6
    · simp -implicitDefEqProofs only [go_sem, Nat.reduceEqDiff, Nat.reduceLT, Nat.reduceAdd, Nat.reduceMul, Int.reduceEq, Int.reduceLT, Int.reduceLE, Int.reduceNe, Int.reduceBEq, Int.reduceToNat, ↓reduceIte]
      refine (name_ok w0 H6 s (by omega)).mono ?_
      rintro r H7 ⟨rfl, rfl⟩
      simp -implicitDefEqProofs only [go_sem, Nat.reduceEqDiff, Nat.reduceLT, Nat.reduceAdd, Nat.reduceMul, Int.reduceEq, Int.reduceLT, Int.reduceLE, Int.reduceNe, Int.reduceBEq, Int.reduceToNat, ↓reduceIte]
      refine (rname_ok w0 H7 s (by omega)).mono ?_
      rintro r H8 ⟨rfl, rfl⟩
      rw [hn]
      simp -implicitDefEqProofs only [go_sem, Nat.reduceEqDiff, Nat.reduceLT, Nat.reduceAdd, Nat.reduceMul, Int.reduceEq, Int.reduceLT, Int.reduceLE, Int.reduceNe, Int.reduceBEq, Int.reduceToNat, ↓reduceIte]
      refine (rname_ok w0 H8 s (by omega)).mono ?_
      rintro r H9 ⟨rfl, rfl⟩
      rw [hn]
      simp -implicitDefEqProofs only [go_sem, Nat.reduceEqDiff, Nat.reduceLT, Nat.reduceAdd, Nat.reduceMul, Int.reduceEq, Int.reduceLT, Int.reduceLE, Int.reduceNe, Int.reduceBEq, Int.reduceToNat, ↓reduceIte]
end Go.Proofs.Ytcpeiejabbdeiaa
