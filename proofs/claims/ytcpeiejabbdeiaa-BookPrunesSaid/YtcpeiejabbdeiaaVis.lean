/-
  Package snap and the document's: what is visible, who may end it, what is dead.
  Conditions: as each theorem states them.
-/
import Derived.Test.YtcpeiejabbdeiaaSnt
import Derived.Test.YtcpeiejabbdeiaaAwk
namespace Go.Proofs.Ytcpeiejabbdeiaa
open Go Go.RowKit Go.Proofs.YtcpeiejabbdeiaaW
set_option maxRecDepth 100000
set_option linter.unusedSimpArgs false
set_option linter.unusedVariables false

def visB (f : Nat) (sts : List Nat) (own xmax : Nat) (run : List Nat) (a b : Nat) : Bool :=
  seesB f sts own xmax run a && (decide (b = 0) || !seesB f sts own xmax run b)
def deadB (f : Nat) (sts : List Nat) (a b h : Nat) : Bool :=
  decide (stOf f sts (a : Int) = 3) || (decide (¬ b = 0) && decide (stOf f sts (b : Int) = 2) && decide (b < h))
def freeC (f : Nat) (sts : List Nat) (own xmax : Nat) (run : List Nat) (a b : Nat) : Nat :=
  if (decide (¬ b = 0) && decide (¬ b = own) && decide (¬ stOf f sts (b : Int) = 3)) = true then 11 else if visB f sts own xmax run a b = true then 0 else 14

theorem dec_nat (a b : Nat) : decide ((a : Int) = (b : Int)) = decide (a = b) := by
  by_cases h : a = b
  · rw [h]; simp
  · rw [decide_eq_false h, decide_eq_false_iff_not]; omega
theorem dec_lt (a b : Nat) : decide ((a : Int) < (b : Int)) = decide (a < b) := by
  by_cases h : a < b
  · rw [decide_eq_true h, decide_eq_true_eq]; omega
  · rw [decide_eq_false h, decide_eq_false_iff_not]; omega
theorem dec_le (a b : Nat) : decide ((a : Int) ≤ (b : Int)) = decide (a ≤ b) := by
  by_cases h : a ≤ b
  · rw [decide_eq_true h, decide_eq_true_eq]; omega
  · rw [decide_eq_false h, decide_eq_false_iff_not]; omega
theorem dec_zero (a : Nat) : decide ((a : Int) = 0) = decide (a = 0) := dec_nat a 0
theorem dec_one (a : Nat) : decide ((a : Int) = 1) = decide (a = 1) := dec_nat a 1
theorem dec_two (a : Nat) : decide ((a : Int) = 2) = decide (a = 2) := dec_nat a 2
theorem dec_three (a : Nat) : decide ((a : Int) = 3) = decide (a = 3) := dec_nat a 3
theorem dec_pos (a : Nat) : decide ((0 : Int) < (a : Int)) = decide (0 < a) := dec_lt 0 a

theorem vis_log {w0 : World} {H : Hp} {l : Nat} {S : Nat → Prop} {f : Nat} {sts : List Nat} (h : LogAt H l S f sts) (hb : f + sts.length < 18446744073709551616)
    {own xmin xmax : Nat} {run : List Nat} {sl : Value} (hr : Row H 27 1 sl run.length (u64s run)) (hn : run.length < 10000000000000) (a b : Nat) :
    ACalls Try.prog w0 58 #[ptr l, .agg #[.int .u64 (own : Int), .int .u64 (xmin : Int), .int .u64 (xmax : Int), sl], .agg #[.int .u64 0, .int .u64 (a : Int), .int .u64 (b : Int), .int .i64 0, .int .i64 0, .slice none 0 0]] H fun r H' => r = .bool (visB f sts own xmax run a b) ∧ H' = H := by
  refine ACalls.quiet ?_
  refine acalls_of Try.func58 rfl Try.ntmps58 r58 (by simp) ?_
  simp -implicitDefEqProofs only [go_sem, Nat.reduceEqDiff, Nat.reduceLT, Nat.reduceAdd, Nat.reduceMul, Int.reduceEq, Int.reduceLT, Int.reduceLE, Int.reduceNe, Int.reduceBEq, Int.reduceToNat, ↓reduceIte]
  refine newK_of ?_
  intro b4 H1 hb4 hn4 h4 s1 _
  simp -implicitDefEqProofs only [go_sem, Nat.reduceEqDiff, Nat.reduceLT, Nat.reduceAdd, Nat.reduceMul, Int.reduceEq, Int.reduceLT, Int.reduceLE, Int.reduceNe, Int.reduceBEq, Int.reduceToNat, ↓reduceIte]
  refine newK_of ?_
  intro b5 H2 hb5 hn5 h5 s2 _
  have s := s1.trans s2
  have l4 := ldc w0 (s2 _ _ h4) 4
  have l5 := ld_own w0 h5
  have hr2 := hr.keep (H' := H2) fun b o _ hb => s b o hb
  have h2 := h.keep (H' := H2) fun b o _ hb => s b o hb
  simp -implicitDefEqProofs only [go_sem, Nat.reduceEqDiff, Nat.reduceLT, Nat.reduceAdd, Nat.reduceMul, Int.reduceEq, Int.reduceLT, Int.reduceLE, Int.reduceNe, Int.reduceBEq, Int.reduceToNat, ↓reduceIte, l4, l5, ldK_agg]
  refine (sees_log h2 hb hr2 hn a).mono ?_
  rintro r H3 ⟨rfl, rfl⟩
  unfold visB
  cases seesB f sts own xmax run a
  · simp -implicitDefEqProofs only [go_sem, Nat.reduceEqDiff, Nat.reduceLT, Nat.reduceAdd, Nat.reduceMul, Int.reduceEq, Int.reduceLT, Int.reduceLE, Int.reduceNe, Int.reduceBEq, Int.reduceToNat, ↓reduceIte, l4, l5, ldK_agg]
    exact s
  · by_cases c : b = 0
    · have e : decide ((b : Int) = 0) = true := by rw [decide_eq_true_eq]; omega
      simp -implicitDefEqProofs only [go_sem, Nat.reduceEqDiff, Nat.reduceLT, Nat.reduceAdd, Nat.reduceMul, Int.reduceEq, Int.reduceLT, Int.reduceLE, Int.reduceNe, Int.reduceBEq, Int.reduceToNat, ↓reduceIte, l4, l5, ldK_agg, e, c]
      exact s
    · have e : decide ((b : Int) = 0) = false := by rw [decide_eq_false_iff_not]; omega
      have e' : decide (b = 0) = false := by rw [decide_eq_false_iff_not]; exact c
      simp -implicitDefEqProofs only [go_sem, Nat.reduceEqDiff, Nat.reduceLT, Nat.reduceAdd, Nat.reduceMul, Int.reduceEq, Int.reduceLT, Int.reduceLE, Int.reduceNe, Int.reduceBEq, Int.reduceToNat, ↓reduceIte, l4, l5, ldK_agg, e, e']
      refine (sees_log h2 hb hr2 hn b).mono ?_
      rintro r H3 ⟨rfl, rfl⟩
      simp -implicitDefEqProofs only [go_sem, Nat.reduceEqDiff, Nat.reduceLT, Nat.reduceAdd, Nat.reduceMul, Int.reduceEq, Int.reduceLT, Int.reduceLE, Int.reduceNe, Int.reduceBEq, Int.reduceToNat, ↓reduceIte, l4, l5, ldK_agg, e, e']
      exact s

theorem dead_log {w0 : World} {H : Hp} {l : Nat} {S : Nat → Prop} {f : Nat} {sts : List Nat} (h : LogAt H l S f sts) (hb : f + sts.length < 18446744073709551616) (a b hz : Nat) :
    ACalls Try.prog w0 55 #[ptr l, .agg #[.int .u64 0, .int .u64 (a : Int), .int .u64 (b : Int), .int .i64 0, .int .i64 0, .slice none 0 0], .int .u64 (hz : Int)] H fun r H' => r = .bool (deadB f sts a b hz) ∧ H' = H := by
  refine ACalls.quiet ?_
  refine acalls_of Try.func55 rfl Try.ntmps55 r55 (by simp) ?_
  simp -implicitDefEqProofs only [go_sem, Nat.reduceEqDiff, Nat.reduceLT, Nat.reduceAdd, Nat.reduceMul, Int.reduceEq, Int.reduceLT, Int.reduceLE, Int.reduceNe, Int.reduceBEq, Int.reduceToNat, ↓reduceIte]
  refine newK_of ?_
  intro b4 H1 hb4 hn4 h4 s1 _
  have l4 := ld_own w0 h4
  have h2 := h.keep (H' := H1) fun b o _ hb => s1 b o hb
  simp -implicitDefEqProofs only [go_sem, Nat.reduceEqDiff, Nat.reduceLT, Nat.reduceAdd, Nat.reduceMul, Int.reduceEq, Int.reduceLT, Int.reduceLE, Int.reduceNe, Int.reduceBEq, Int.reduceToNat, ↓reduceIte, l4]
  refine (state_log h2 hb (x := (a : Int)) (by omega)).mono ?_
  rintro r H3 ⟨rfl, rfl⟩
  unfold deadB
  by_cases c : stOf f sts (a : Int) = 3
  · have e : decide (((stOf f sts (a : Int) : Nat) : Int) = 3) = true := by rw [dec_three]; simp [c]
    simp -implicitDefEqProofs only [go_sem, Nat.reduceEqDiff, Nat.reduceLT, Nat.reduceAdd, Nat.reduceMul, Int.reduceEq, Int.reduceLT, Int.reduceLE, Int.reduceNe, Int.reduceBEq, Int.reduceToNat, ↓reduceIte, l4, e, c]
    exact s1
  · have e : decide (((stOf f sts (a : Int) : Nat) : Int) = 3) = false := by rw [dec_three]; simp [c]
    have e' : decide (stOf f sts (a : Int) = 3) = false := by simp [c]
    by_cases c2 : b = 0
    · have e2 : decide ((b : Int) = 0) = true := by rw [dec_zero]; simp [c2]
      simp -implicitDefEqProofs only [go_sem, Nat.reduceEqDiff, Nat.reduceLT, Nat.reduceAdd, Nat.reduceMul, Int.reduceEq, Int.reduceLT, Int.reduceLE, Int.reduceNe, Int.reduceBEq, Int.reduceToNat, ↓reduceIte, l4, e, e', e2, c2, not_true]
      exact s1
    · have e2 : decide ((b : Int) = 0) = false := by rw [dec_zero]; simp [c2]
      have e2' : decide (¬ b = 0) = true := by simp [c2]
      simp -implicitDefEqProofs only [go_sem, Nat.reduceEqDiff, Nat.reduceLT, Nat.reduceAdd, Nat.reduceMul, Int.reduceEq, Int.reduceLT, Int.reduceLE, Int.reduceNe, Int.reduceBEq, Int.reduceToNat, ↓reduceIte, l4, e, e', e2, e2']
      refine (state_log h2 hb (x := (b : Int)) (by omega)).mono ?_
      rintro r H3 ⟨rfl, rfl⟩
      by_cases c3 : stOf f sts (b : Int) = 2
      · have e3 : decide (((stOf f sts (b : Int) : Nat) : Int) = 2) = true := by rw [dec_two]; simp [c3]
        simp -implicitDefEqProofs only [go_sem, Nat.reduceEqDiff, Nat.reduceLT, Nat.reduceAdd, Nat.reduceMul, Int.reduceEq, Int.reduceLT, Int.reduceLE, Int.reduceNe, Int.reduceBEq, Int.reduceToNat, ↓reduceIte, l4, e, e', e2, e2', e3, c3, dec_lt]
        exact s1
      · have e3 : decide (((stOf f sts (b : Int) : Nat) : Int) = 2) = false := by rw [dec_two]; simp [c3]
        have e3' : decide (stOf f sts (b : Int) = 2) = false := by simp [c3]
        simp -implicitDefEqProofs only [go_sem, Nat.reduceEqDiff, Nat.reduceLT, Nat.reduceAdd, Nat.reduceMul, Int.reduceEq, Int.reduceLT, Int.reduceLE, Int.reduceNe, Int.reduceBEq, Int.reduceToNat, ↓reduceIte, l4, e, e', e2, e2', e3, e3', dec_lt]
        exact s1

theorem free_log {w0 : World} {H : Hp} {l : Nat} {S : Nat → Prop} {f : Nat} {sts : List Nat} (h : LogAt H l S f sts) (hb : f + sts.length < 18446744073709551616)
    {own xmin xmax : Nat} {run : List Nat} {sl : Value} (hr : Row H 27 1 sl run.length (u64s run)) (hn : run.length < 10000000000000) (a b : Nat) :
    ACalls Try.prog w0 52 #[ptr l, .agg #[.int .u64 (own : Int), .int .u64 (xmin : Int), .int .u64 (xmax : Int), sl], .agg #[.int .u64 0, .int .u64 (a : Int), .int .u64 (b : Int), .int .i64 0, .int .i64 0, .slice none 0 0]] H fun r H' => r = .int .i64 (freeC f sts own xmax run a b : Nat) ∧ H' = H := by
  refine ACalls.quiet ?_
  refine acalls_of Try.func52 rfl Try.ntmps52 r52 (by simp) ?_
  simp -implicitDefEqProofs only [go_sem, Nat.reduceEqDiff, Nat.reduceLT, Nat.reduceAdd, Nat.reduceMul, Int.reduceEq, Int.reduceLT, Int.reduceLE, Int.reduceNe, Int.reduceBEq, Int.reduceToNat, ↓reduceIte]
  refine newK_of ?_
  intro b4 H1 hb4 hn4 h4 s1 _
  simp -implicitDefEqProofs only [go_sem, Nat.reduceEqDiff, Nat.reduceLT, Nat.reduceAdd, Nat.reduceMul, Int.reduceEq, Int.reduceLT, Int.reduceLE, Int.reduceNe, Int.reduceBEq, Int.reduceToNat, ↓reduceIte]
  refine newK_of ?_
  intro b5 H2 hb5 hn5 h5 s2 _
  have s := s1.trans s2
  have l4 := ldc w0 (s2 _ _ h4) 4
  have l4' := ld_own w0 (s2 _ _ h4)
  have l5 := ld_own w0 h5
  have l5' := ldc w0 h5 6
  have hr2 := hr.keep (H' := H2) fun b o _ hb => s b o hb
  have h2 := h.keep (H' := H2) fun b o _ hb => s b o hb
  unfold freeC
  have rest : ∀ F : Fr, F 0 = ptr l → F 4 = ptr b4 → F 5 = ptr b5 → (decide (¬ b = 0) && decide (¬ b = own) && decide (¬ stOf f sts (b : Int) = 3)) = false → True := fun _ _ _ _ _ => trivial
  by_cases c2 : b = 0
  · have e2 : decide ((b : Int) = 0) = true := by rw [dec_zero]; simp [c2]
    have g : (decide (¬ b = 0) && decide (¬ b = own) && decide (¬ stOf f sts (b : Int) = 3)) = false := by simp [c2]
    simp -implicitDefEqProofs only [go_sem, Nat.reduceEqDiff, Nat.reduceLT, Nat.reduceAdd, Nat.reduceMul, Int.reduceEq, Int.reduceLT, Int.reduceLE, Int.reduceNe, Int.reduceBEq, Int.reduceToNat, ↓reduceIte, l4, l4', l5, l5', ldK_agg, e2, g, Bool.false_eq_true]
    refine (vis_log h2 hb hr2 hn a b).mono ?_
    rintro r H3 ⟨rfl, rfl⟩
    cases visB f sts own xmax run a b
    · simp -implicitDefEqProofs only [go_sem, Nat.reduceEqDiff, Nat.reduceLT, Nat.reduceAdd, Nat.reduceMul, Int.reduceEq, Int.reduceLT, Int.reduceLE, Int.reduceNe, Int.reduceBEq, Int.reduceToNat, ↓reduceIte, Bool.false_eq_true]
      exact s
    · simp -implicitDefEqProofs only [go_sem, Nat.reduceEqDiff, Nat.reduceLT, Nat.reduceAdd, Nat.reduceMul, Int.reduceEq, Int.reduceLT, Int.reduceLE, Int.reduceNe, Int.reduceBEq, Int.reduceToNat, ↓reduceIte]
      exact s
  · have e2 : decide ((b : Int) = 0) = false := by rw [dec_zero]; simp [c2]
    by_cases c3 : b = own
    · have e3 : decide ((b : Int) = (own : Int)) = true := by rw [dec_nat]; simp [c3]
      have g : (decide (¬ b = 0) && decide (¬ b = own) && decide (¬ stOf f sts (b : Int) = 3)) = false := by simp [c3]
      simp -implicitDefEqProofs only [go_sem, Nat.reduceEqDiff, Nat.reduceLT, Nat.reduceAdd, Nat.reduceMul, Int.reduceEq, Int.reduceLT, Int.reduceLE, Int.reduceNe, Int.reduceBEq, Int.reduceToNat, ↓reduceIte, l4, l4', l5, l5', ldK_agg, e2, e3, g, Bool.false_eq_true]
      refine (vis_log h2 hb hr2 hn a b).mono ?_
      rintro r H3 ⟨rfl, rfl⟩
      cases visB f sts own xmax run a b
      · simp -implicitDefEqProofs only [go_sem, Nat.reduceEqDiff, Nat.reduceLT, Nat.reduceAdd, Nat.reduceMul, Int.reduceEq, Int.reduceLT, Int.reduceLE, Int.reduceNe, Int.reduceBEq, Int.reduceToNat, ↓reduceIte, Bool.false_eq_true]
        exact s
      · simp -implicitDefEqProofs only [go_sem, Nat.reduceEqDiff, Nat.reduceLT, Nat.reduceAdd, Nat.reduceMul, Int.reduceEq, Int.reduceLT, Int.reduceLE, Int.reduceNe, Int.reduceBEq, Int.reduceToNat, ↓reduceIte]
        exact s
    · have e3 : decide ((b : Int) = (own : Int)) = false := by rw [dec_nat]; simp [c3]
      simp -implicitDefEqProofs only [go_sem, Nat.reduceEqDiff, Nat.reduceLT, Nat.reduceAdd, Nat.reduceMul, Int.reduceEq, Int.reduceLT, Int.reduceLE, Int.reduceNe, Int.reduceBEq, Int.reduceToNat, ↓reduceIte, l4, l4', l5, l5', ldK_agg, e2, e3]
      refine (state_log h2 hb (x := (b : Int)) (by omega)).mono ?_
      rintro r H3 ⟨rfl, rfl⟩
      by_cases c : stOf f sts (b : Int) = 3
      · have e : decide (((stOf f sts (b : Int) : Nat) : Int) = 3) = true := by rw [dec_three]; simp [c]
        have g : (decide (¬ b = 0) && decide (¬ b = own) && decide (¬ stOf f sts (b : Int) = 3)) = false := by simp [c]
        simp -implicitDefEqProofs only [go_sem, Nat.reduceEqDiff, Nat.reduceLT, Nat.reduceAdd, Nat.reduceMul, Int.reduceEq, Int.reduceLT, Int.reduceLE, Int.reduceNe, Int.reduceBEq, Int.reduceToNat, ↓reduceIte, l4, l4', l5, l5', ldK_agg, e, e2, e3, g, Bool.false_eq_true]
        refine (vis_log h2 hb hr2 hn a b).mono ?_
        rintro r H3 ⟨rfl, rfl⟩
        cases visB f sts own xmax run a b
        · simp -implicitDefEqProofs only [go_sem, Nat.reduceEqDiff, Nat.reduceLT, Nat.reduceAdd, Nat.reduceMul, Int.reduceEq, Int.reduceLT, Int.reduceLE, Int.reduceNe, Int.reduceBEq, Int.reduceToNat, ↓reduceIte, Bool.false_eq_true]
          exact s
        · simp -implicitDefEqProofs only [go_sem, Nat.reduceEqDiff, Nat.reduceLT, Nat.reduceAdd, Nat.reduceMul, Int.reduceEq, Int.reduceLT, Int.reduceLE, Int.reduceNe, Int.reduceBEq, Int.reduceToNat, ↓reduceIte]
          exact s
      · have e : decide (((stOf f sts (b : Int) : Nat) : Int) = 3) = false := by rw [dec_three]; simp [c]
        have g : (decide (¬ b = 0) && decide (¬ b = own) && decide (¬ stOf f sts (b : Int) = 3)) = true := by simp [c, c2, c3]
        simp -implicitDefEqProofs only [go_sem, Nat.reduceEqDiff, Nat.reduceLT, Nat.reduceAdd, Nat.reduceMul, Int.reduceEq, Int.reduceLT, Int.reduceLE, Int.reduceNe, Int.reduceBEq, Int.reduceToNat, ↓reduceIte, l4, l4', l5, l5', ldK_agg, e, e2, e3, g]
        exact s

end Go.Proofs.Ytcpeiejabbdeiaa
