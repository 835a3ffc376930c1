/-
  The document's answers for snapshots: sees, visible, free, dead, horizon.
  Conditions: as each theorem states them.
-/
import Derived.Test.YtmpepacfnckadaaHor
namespace Go.Proofs.Ytmpepacfnckadaa
open Go Go.RowKit Go.Proofs.YtmpepacfnckadaaW
set_option maxRecDepth 100000
set_option linter.unusedSimpArgs false
set_option linter.unusedVariables false

theorem u64_at {w0 : World} {H : Hp} {a : Value} {xs : List Nat} (ha : Row H 23 1 a xs.length (u64s xs)) {k x : Nat} (hx : xs[k]? = some x) :
    ∃ g cap, a = .slice (some ⟨g, 0, none⟩) xs.length cap ∧ ld w0 H ⟨g, k, none⟩ = some (.int .u64 (x : Int)) := by
  have hk : k < xs.length := by
    rcases Nat.lt_or_ge k xs.length with h | h
    · exact h
    · rw [List.getElem?_eq_none h] at hx; cases hx
  obtain ⟨g, cap, cur, hv, hg, hc1, hc2, hc3, hc4⟩ := ha.open1 (by omega)
  refine ⟨g, cap, hv, ?_⟩
  rw [ld_own w0 hg, hc3 _ hk]
  simp [u64s, hx]

def RSeesI (run : List Nat) (x b4 l : Nat) (sl : Value) (H : Hp) (m : Nat) (F : Fr) (H1 : Hp) : Prop :=
  ∃ k : Nat, k + m = run.length ∧ F 0 = ptr l ∧ F 2 = .int .u64 (x : Int) ∧ F 4 = ptr b4 ∧ F 14 = sl ∧ F 15 = .int .i64 (run.length : Int) ∧ F 16 = .int .i64 (k : Int) ∧ H1 = H ∧ ∀ i, i < k → run[i]? ≠ some x
theorem rsees_ref {w0 : World} {H : Hp} {l : Nat} {S : Nat → Prop} {f : Nat} {sts : List Nat} (h : RefAt H l S f sts) (hb : f + sts.length < 18446744073709551616)
    {own xmax : Nat} {run : List Nat} {sl : Value} (hr : Row H 23 1 sl run.length (u64s run)) (hn : run.length < 10000000000000) {x : Nat} (hx : x < 18446744073709551616) :
    ACalls Try.prog w0 37 #[ptr l, .agg #[.int .u64 (own : Int), .int .u64 (xmax : Int), sl], .int .u64 (x : Int)] H fun r H' => r = .bool (seesB f sts own xmax run x) ∧ H' = H := by
  refine ACalls.quiet ?_
  refine acalls_of Try.func37 rfl Try.ntmps37 r37 (by simp) ?_
  simp -implicitDefEqProofs only [go_sem, Nat.reduceEqDiff, Nat.reduceLT, Nat.reduceAdd, Nat.reduceMul, Int.reduceEq, Int.reduceLT, Int.reduceLE, Int.reduceNe, Int.reduceBEq, Int.reduceToNat, ↓reduceIte]
  refine newK_of ?_
  intro b4 H1 hb4 hn4 h4 s1 _
  have l4 := ld_own w0 h4
  have hr2 := hr.keep (H' := H1) fun b o _ hb => s1 b o hb
  have h2 := h.keep (H' := H1) fun b o _ hb => s1 b o hb
  unfold seesB
  by_cases c1 : x = own
  · have e1 : decide ((x : Int) = (own : Int)) = true := by rw [dec_nat]; simp [c1]
    have e1' : decide (x = own) = true := by simp [c1]
    simp -implicitDefEqProofs only [go_sem, Nat.reduceEqDiff, Nat.reduceLT, Nat.reduceAdd, Nat.reduceMul, Int.reduceEq, Int.reduceLT, Int.reduceLE, Int.reduceNe, Int.reduceBEq, Int.reduceToNat, ↓reduceIte, l4, e1, e1']
    exact s1
  · have e1 : decide ((x : Int) = (own : Int)) = false := by rw [dec_nat]; simp [c1]
    have e1' : decide (x = own) = false := by simp [c1]
    obtain ⟨sa, sc, hs⟩ := hr.slice
    rw [hs] at l4
    simp -implicitDefEqProofs only [go_sem, Nat.reduceEqDiff, Nat.reduceLT, Nat.reduceAdd, Nat.reduceMul, Int.reduceEq, Int.reduceLT, Int.reduceLE, Int.reduceNe, Int.reduceBEq, Int.reduceToNat, ↓reduceIte, l4, e1, e1']
    rw [← hs] at l4
    refine AC.loop (RSeesI run x b4 l sl H1) (n := run.length) ⟨0, by omega, rfl, rfl, rfl, hs.symm, rfl, rfl, rfl, fun i hi => by omega⟩ ?_
    rintro m F H2 ⟨k, hk, f0, f2, f4, f14, f15, f16, rfl, hno⟩
    by_cases c : k < run.length
    · have d1 : decide ((k : Int) < (run.length : Int)) = true := by simp; omega
      have d2 : IntKind.i64.wrap ((k : Int) + 1) = (k + 1 : Nat) := by rw [i64_in] <;> omega
      have d3 : decide ((0 : Int) ≤ (k : Int)) = true := by simp
      have hz : run[k]? = some run[k] := by simp [c]
      generalize run[k] = y at hz
      obtain ⟨g, cap, hv, hl⟩ := u64_at (w0 := w0) hr2 hz
      rw [hv] at f14
      by_cases c2 : y = x
      · have d4 : decide ((y : Int) = (x : Int)) = true := by rw [dec_nat]; simp [c2]
        have g1 : run.contains x = true := by rw [List.contains_iff_mem, ← c2]; exact List.mem_of_getElem? hz
        simp -implicitDefEqProofs only [go_sem, Nat.reduceEqDiff, Nat.reduceLT, Nat.reduceAdd, Nat.reduceMul, Int.reduceEq, Int.reduceLT, Int.reduceLE, Int.reduceNe, Int.reduceBEq, Int.reduceToNat, ↓reduceIte, f0, f2, f4, f14, f15, f16, d1, d2, d3, d4, hl, g1]
        exact s1
      · have d4 : decide ((y : Int) = (x : Int)) = false := by rw [dec_nat]; simp [c2]
        simp -implicitDefEqProofs only [go_sem, Nat.reduceEqDiff, Nat.reduceLT, Nat.reduceAdd, Nat.reduceMul, Int.reduceEq, Int.reduceLT, Int.reduceLE, Int.reduceNe, Int.reduceBEq, Int.reduceToNat, ↓reduceIte, f0, f2, f4, f14, f15, f16, d1, d2, d3, d4, hl]
        refine ⟨m - 1, by omega, k + 1, by omega, by simp -implicitDefEqProofs only [go_sem, Nat.reduceEqDiff, Nat.reduceLT, Nat.reduceAdd, Nat.reduceMul, Int.reduceEq, Int.reduceLT, Int.reduceLE, Int.reduceNe, Int.reduceBEq, Int.reduceToNat, ↓reduceIte, f0], by simp -implicitDefEqProofs only [go_sem, Nat.reduceEqDiff, Nat.reduceLT, Nat.reduceAdd, Nat.reduceMul, Int.reduceEq, Int.reduceLT, Int.reduceLE, Int.reduceNe, Int.reduceBEq, Int.reduceToNat, ↓reduceIte, f2], by simp -implicitDefEqProofs only [go_sem, Nat.reduceEqDiff, Nat.reduceLT, Nat.reduceAdd, Nat.reduceMul, Int.reduceEq, Int.reduceLT, Int.reduceLE, Int.reduceNe, Int.reduceBEq, Int.reduceToNat, ↓reduceIte, f4], by simp -implicitDefEqProofs only [go_sem, Nat.reduceEqDiff, Nat.reduceLT, Nat.reduceAdd, Nat.reduceMul, Int.reduceEq, Int.reduceLT, Int.reduceLE, Int.reduceNe, Int.reduceBEq, Int.reduceToNat, ↓reduceIte, f14, hv], by simp -implicitDefEqProofs only [go_sem, Nat.reduceEqDiff, Nat.reduceLT, Nat.reduceAdd, Nat.reduceMul, Int.reduceEq, Int.reduceLT, Int.reduceLE, Int.reduceNe, Int.reduceBEq, Int.reduceToNat, ↓reduceIte, f15], by simp -implicitDefEqProofs only [go_sem, Nat.reduceEqDiff, Nat.reduceLT, Nat.reduceAdd, Nat.reduceMul, Int.reduceEq, Int.reduceLT, Int.reduceLE, Int.reduceNe, Int.reduceBEq, Int.reduceToNat, ↓reduceIte], rfl, fun i hi => ?_⟩
        by_cases e : i = k
        · rw [e, hz]; exact fun e => c2 (Option.some.inj e)
        · exact hno i (by omega)
    · have d1 : decide ((k : Int) < (run.length : Int)) = false := by simp; omega
      have g1 : run.contains x = false := by
        have : ¬ x ∈ run := fun hm => by
          obtain ⟨i, hi, he⟩ := List.mem_iff_getElem.1 hm
          exact hno i (by omega) (by rw [List.getElem?_eq_getElem hi, he])
        simpa using this
      by_cases c2 : x < xmax
      · have d4 : decide ((x : Int) < (xmax : Int)) = true := by rw [dec_lt]; simp [c2]
        have d4' : decide (x < xmax) = true := by simp [c2]
        simp -implicitDefEqProofs only [go_sem, Nat.reduceEqDiff, Nat.reduceLT, Nat.reduceAdd, Nat.reduceMul, Int.reduceEq, Int.reduceLT, Int.reduceLE, Int.reduceNe, Int.reduceBEq, Int.reduceToNat, ↓reduceIte, f0, f2, f4, f14, f15, f16, d1, d4, d4', l4, g1]
        refine (rstate_ref h2 hb (x := (x : Int)) (by omega) (by omega)).mono ?_
        rintro r H3 ⟨rfl, rfl⟩
        simp -implicitDefEqProofs only [go_sem, Nat.reduceEqDiff, Nat.reduceLT, Nat.reduceAdd, Nat.reduceMul, Int.reduceEq, Int.reduceLT, Int.reduceLE, Int.reduceNe, Int.reduceBEq, Int.reduceToNat, ↓reduceIte, dec_two]
        exact s1
      · have d4 : decide ((x : Int) < (xmax : Int)) = false := by rw [dec_lt]; simp [c2]
        have d4' : decide (x < xmax) = false := by simp [c2]
        simp -implicitDefEqProofs only [go_sem, Nat.reduceEqDiff, Nat.reduceLT, Nat.reduceAdd, Nat.reduceMul, Int.reduceEq, Int.reduceLT, Int.reduceLE, Int.reduceNe, Int.reduceBEq, Int.reduceToNat, ↓reduceIte, f0, f2, f4, f14, f15, f16, d1, d4, d4', l4, g1]
        exact s1

theorem rvis_ref {w0 : World} {H : Hp} {l : Nat} {S : Nat → Prop} {f : Nat} {sts : List Nat} (h : RefAt H l S f sts) (hb : f + sts.length < 18446744073709551616)
    {own xmax : Nat} {run : List Nat} {sl : Value} (hr : Row H 23 1 sl run.length (u64s run)) (hn : run.length < 10000000000000) {a b : Nat} (ha : a < 18446744073709551616) (hb2 : b < 18446744073709551616) :
    ACalls Try.prog w0 38 #[ptr l, .agg #[.int .u64 (own : Int), .int .u64 (xmax : Int), sl], .agg #[.int .u64 0, .int .u64 (a : Int), .int .u64 (b : Int), .int .i64 0, .int .i64 0, .slice none 0 0]] H fun r H' => r = .bool (visB f sts own xmax run a b) ∧ H' = H := by
  refine ACalls.quiet ?_
  refine acalls_of Try.func38 rfl Try.ntmps38 r38 (by simp) ?_
  simp -implicitDefEqProofs only [go_sem, Nat.reduceEqDiff, Nat.reduceLT, Nat.reduceAdd, Nat.reduceMul, Int.reduceEq, Int.reduceLT, Int.reduceLE, Int.reduceNe, Int.reduceBEq, Int.reduceToNat, ↓reduceIte]
  refine newK_of ?_
  intro b4 H1 hb4 hn4 h4 s1 _
  simp -implicitDefEqProofs only [go_sem, Nat.reduceEqDiff, Nat.reduceLT, Nat.reduceAdd, Nat.reduceMul, Int.reduceEq, Int.reduceLT, Int.reduceLE, Int.reduceNe, Int.reduceBEq, Int.reduceToNat, ↓reduceIte]
  refine newK_of ?_
  intro b5 H2 hb5 hn5 h5 s2 _
  have s := s1.trans s2
  have l4 := ldc w0 (s2 _ _ h4) 3
  have l5 := ld_own w0 h5
  have hr2 := hr.keep (H' := H2) fun b o _ hb => s b o hb
  have h2 := h.keep (H' := H2) fun b o _ hb => s b o hb
  simp -implicitDefEqProofs only [go_sem, Nat.reduceEqDiff, Nat.reduceLT, Nat.reduceAdd, Nat.reduceMul, Int.reduceEq, Int.reduceLT, Int.reduceLE, Int.reduceNe, Int.reduceBEq, Int.reduceToNat, ↓reduceIte, l4, l5, ldK_agg]
  refine (rsees_ref h2 hb hr2 hn ha).mono ?_
  rintro r H3 ⟨rfl, rfl⟩
  unfold visB
  cases seesB f sts own xmax run a
  · simp -implicitDefEqProofs only [go_sem, Nat.reduceEqDiff, Nat.reduceLT, Nat.reduceAdd, Nat.reduceMul, Int.reduceEq, Int.reduceLT, Int.reduceLE, Int.reduceNe, Int.reduceBEq, Int.reduceToNat, ↓reduceIte, l4, l5, ldK_agg]
    exact s
  · by_cases c : b = 0
    · have e : decide ((b : Int) = 0) = true := by rw [decide_eq_true_eq]; omega
      simp -implicitDefEqProofs only [go_sem, Nat.reduceEqDiff, Nat.reduceLT, Nat.reduceAdd, Nat.reduceMul, Int.reduceEq, Int.reduceLT, Int.reduceLE, Int.reduceNe, Int.reduceBEq, Int.reduceToNat, ↓reduceIte, l4, l5, ldK_agg, e, c]
      exact s
    · have e : decide ((b : Int) = 0) = false := by rw [decide_eq_false_iff_not]; omega
      have e' : decide (b = 0) = false := by rw [decide_eq_false_iff_not]; exact c
      simp -implicitDefEqProofs only [go_sem, Nat.reduceEqDiff, Nat.reduceLT, Nat.reduceAdd, Nat.reduceMul, Int.reduceEq, Int.reduceLT, Int.reduceLE, Int.reduceNe, Int.reduceBEq, Int.reduceToNat, ↓reduceIte, l4, l5, ldK_agg, e, e']
      refine (rsees_ref h2 hb hr2 hn hb2).mono ?_
      rintro r H3 ⟨rfl, rfl⟩
      simp -implicitDefEqProofs only [go_sem, Nat.reduceEqDiff, Nat.reduceLT, Nat.reduceAdd, Nat.reduceMul, Int.reduceEq, Int.reduceLT, Int.reduceLE, Int.reduceNe, Int.reduceBEq, Int.reduceToNat, ↓reduceIte, l4, l5, ldK_agg, e, e']
      exact s

theorem rdead_ref {w0 : World} {H : Hp} {l : Nat} {S : Nat → Prop} {f : Nat} {sts : List Nat} (h : RefAt H l S f sts) (hb : f + sts.length < 18446744073709551616) {a b : Nat} (ha : a < 18446744073709551616) (hb2 : b < 18446744073709551616) (hz : Nat) :
    ACalls Try.prog w0 36 #[ptr l, .agg #[.int .u64 0, .int .u64 (a : Int), .int .u64 (b : Int), .int .i64 0, .int .i64 0, .slice none 0 0], .int .u64 (hz : Int)] H fun r H' => r = .bool (deadB f sts a b hz) ∧ H' = H := by
  refine ACalls.quiet ?_
  refine acalls_of Try.func36 rfl Try.ntmps36 r36 (by simp) ?_
  simp -implicitDefEqProofs only [go_sem, Nat.reduceEqDiff, Nat.reduceLT, Nat.reduceAdd, Nat.reduceMul, Int.reduceEq, Int.reduceLT, Int.reduceLE, Int.reduceNe, Int.reduceBEq, Int.reduceToNat, ↓reduceIte]
  refine newK_of ?_
  intro b4 H1 hb4 hn4 h4 s1 _
  have l4 := ld_own w0 h4
  have h2 := h.keep (H' := H1) fun b o _ hb => s1 b o hb
  simp -implicitDefEqProofs only [go_sem, Nat.reduceEqDiff, Nat.reduceLT, Nat.reduceAdd, Nat.reduceMul, Int.reduceEq, Int.reduceLT, Int.reduceLE, Int.reduceNe, Int.reduceBEq, Int.reduceToNat, ↓reduceIte, l4]
  refine (rstate_ref h2 hb (x := (a : Int)) (by omega) (by omega)).mono ?_
  rintro r H3 ⟨rfl, rfl⟩
  unfold deadB
  by_cases c : stOf f sts (a : Int) = 3
  · have e : decide (((stOf f sts (a : Int) : Nat) : Int) = 3) = true := by rw [dec_three]; simp [c]
    simp -implicitDefEqProofs only [go_sem, Nat.reduceEqDiff, Nat.reduceLT, Nat.reduceAdd, Nat.reduceMul, Int.reduceEq, Int.reduceLT, Int.reduceLE, Int.reduceNe, Int.reduceBEq, Int.reduceToNat, ↓reduceIte, l4, e, c]
    exact s1
  · have e : decide (((stOf f sts (a : Int) : Nat) : Int) = 3) = false := by rw [dec_three]; simp [c]
    have e' : decide (stOf f sts (a : Int) = 3) = false := by simp [c]
    by_cases c2 : b = 0
    · have e2 : decide ((0 : Int) < (b : Int)) = false := by rw [dec_pos]; simp [c2]
      simp -implicitDefEqProofs only [go_sem, Nat.reduceEqDiff, Nat.reduceLT, Nat.reduceAdd, Nat.reduceMul, Int.reduceEq, Int.reduceLT, Int.reduceLE, Int.reduceNe, Int.reduceBEq, Int.reduceToNat, ↓reduceIte, l4, e, e', e2, c2, not_true]
      exact s1
    · have e2 : decide ((0 : Int) < (b : Int)) = true := by rw [dec_pos]; simp; omega
      have e2' : decide (¬ b = 0) = true := by simp [c2]
      by_cases c4 : b < hz
      · have e4 : decide ((b : Int) < (hz : Int)) = true := by rw [dec_lt]; simp [c4]
        have e4' : decide (b < hz) = true := by simp [c4]
        simp -implicitDefEqProofs only [go_sem, Nat.reduceEqDiff, Nat.reduceLT, Nat.reduceAdd, Nat.reduceMul, Int.reduceEq, Int.reduceLT, Int.reduceLE, Int.reduceNe, Int.reduceBEq, Int.reduceToNat, ↓reduceIte, l4, e, e', e2, e2', e4, e4']
        refine (rstate_ref h2 hb (x := (b : Int)) (by omega) (by omega)).mono ?_
        rintro r H3 ⟨rfl, rfl⟩
        simp -implicitDefEqProofs only [go_sem, Nat.reduceEqDiff, Nat.reduceLT, Nat.reduceAdd, Nat.reduceMul, Int.reduceEq, Int.reduceLT, Int.reduceLE, Int.reduceNe, Int.reduceBEq, Int.reduceToNat, ↓reduceIte, l4, dec_two]
        exact s1
      · have e4 : decide ((b : Int) < (hz : Int)) = false := by rw [dec_lt]; simp [c4]
        have e4' : decide (b < hz) = false := by simp [c4]
        simp -implicitDefEqProofs only [go_sem, Nat.reduceEqDiff, Nat.reduceLT, Nat.reduceAdd, Nat.reduceMul, Int.reduceEq, Int.reduceLT, Int.reduceLE, Int.reduceNe, Int.reduceBEq, Int.reduceToNat, ↓reduceIte, l4, e, e', e2, e2', e4, e4']
        exact s1

theorem rfree_ref {w0 : World} {H : Hp} {l : Nat} {S : Nat → Prop} {f : Nat} {sts : List Nat} (h : RefAt H l S f sts) (hb : f + sts.length < 18446744073709551616)
    {own xmax : Nat} {run : List Nat} {sl : Value} (hr : Row H 23 1 sl run.length (u64s run)) (hn : run.length < 10000000000000) {a b : Nat} (ha : a < 18446744073709551616) (hb2 : b < 18446744073709551616) :
    ACalls Try.prog w0 40 #[ptr l, .agg #[.int .u64 (own : Int), .int .u64 (xmax : Int), sl], .agg #[.int .u64 0, .int .u64 (a : Int), .int .u64 (b : Int), .int .i64 0, .int .i64 0, .slice none 0 0]] H fun r H' => r = .int .i64 (freeC f sts own xmax run a b : Nat) ∧ H' = H := by
  refine ACalls.quiet ?_
  refine acalls_of Try.func40 rfl Try.ntmps40 r40 (by simp) ?_
  simp -implicitDefEqProofs only [go_sem, Nat.reduceEqDiff, Nat.reduceLT, Nat.reduceAdd, Nat.reduceMul, Int.reduceEq, Int.reduceLT, Int.reduceLE, Int.reduceNe, Int.reduceBEq, Int.reduceToNat, ↓reduceIte]
  refine newK_of ?_
  intro b4 H1 hb4 hn4 h4 s1 _
  simp -implicitDefEqProofs only [go_sem, Nat.reduceEqDiff, Nat.reduceLT, Nat.reduceAdd, Nat.reduceMul, Int.reduceEq, Int.reduceLT, Int.reduceLE, Int.reduceNe, Int.reduceBEq, Int.reduceToNat, ↓reduceIte]
  refine newK_of ?_
  intro b5 H2 hb5 hn5 h5 s2 _
  have s := s1.trans s2
  have l4 := ldc w0 (s2 _ _ h4) 3
  have l4' := ld_own w0 (s2 _ _ h4)
  have l5 := ld_own w0 h5
  have l5' := ldc w0 h5 6
  have hr2 := hr.keep (H' := H2) fun b o _ hb => s b o hb
  have h2 := h.keep (H' := H2) fun b o _ hb => s b o hb
  unfold freeC
  by_cases c2 : b = 0
  · have e2 : decide ((b : Int) = 0) = true := by rw [dec_zero]; simp [c2]
    have g : (decide (¬ b = 0) && decide (¬ b = own) && decide (¬ stOf f sts (b : Int) = 3)) = false := by simp [c2]
    simp -implicitDefEqProofs only [go_sem, Nat.reduceEqDiff, Nat.reduceLT, Nat.reduceAdd, Nat.reduceMul, Int.reduceEq, Int.reduceLT, Int.reduceLE, Int.reduceNe, Int.reduceBEq, Int.reduceToNat, ↓reduceIte, l4, l4', l5, l5', ldK_agg, e2, g, Bool.false_eq_true]
    refine (rvis_ref h2 hb hr2 hn ha hb2).mono ?_
    rintro r H3 ⟨rfl, rfl⟩
    cases visB f sts own xmax run a b
    · simp -implicitDefEqProofs only [go_sem, Nat.reduceEqDiff, Nat.reduceLT, Nat.reduceAdd, Nat.reduceMul, Int.reduceEq, Int.reduceLT, Int.reduceLE, Int.reduceNe, Int.reduceBEq, Int.reduceToNat, ↓reduceIte, Bool.false_eq_true]
      exact s
    · simp -implicitDefEqProofs only [go_sem, Nat.reduceEqDiff, Nat.reduceLT, Nat.reduceAdd, Nat.reduceMul, Int.reduceEq, Int.reduceLT, Int.reduceLE, Int.reduceNe, Int.reduceBEq, Int.reduceToNat, ↓reduceIte]
      exact s
  · have e2 : decide ((b : Int) = 0) = false := by rw [dec_zero]; simp [c2]
    by_cases c3 : b = own
    · have e3 : decide ((b : Int) = (own : Int)) = true := by rw [dec_nat]; simp [c3]
      have g : (decide (¬ b = 0) && decide (¬ b = own) && decide (¬ stOf f sts (b : Int) = 3)) = false := by simp [c3]
      simp -implicitDefEqProofs only [go_sem, Nat.reduceEqDiff, Nat.reduceLT, Nat.reduceAdd, Nat.reduceMul, Int.reduceEq, Int.reduceLT, Int.reduceLE, Int.reduceNe, Int.reduceBEq, Int.reduceToNat, ↓reduceIte, l4, l4', l5, l5', ldK_agg, e2, e3, g, Bool.false_eq_true]
      refine (rvis_ref h2 hb hr2 hn ha hb2).mono ?_
      rintro r H3 ⟨rfl, rfl⟩
      cases visB f sts own xmax run a b
      · simp -implicitDefEqProofs only [go_sem, Nat.reduceEqDiff, Nat.reduceLT, Nat.reduceAdd, Nat.reduceMul, Int.reduceEq, Int.reduceLT, Int.reduceLE, Int.reduceNe, Int.reduceBEq, Int.reduceToNat, ↓reduceIte, Bool.false_eq_true]
        exact s
      · simp -implicitDefEqProofs only [go_sem, Nat.reduceEqDiff, Nat.reduceLT, Nat.reduceAdd, Nat.reduceMul, Int.reduceEq, Int.reduceLT, Int.reduceLE, Int.reduceNe, Int.reduceBEq, Int.reduceToNat, ↓reduceIte]
        exact s
    · have e3 : decide ((b : Int) = (own : Int)) = false := by rw [dec_nat]; simp [c3]
      simp -implicitDefEqProofs only [go_sem, Nat.reduceEqDiff, Nat.reduceLT, Nat.reduceAdd, Nat.reduceMul, Int.reduceEq, Int.reduceLT, Int.reduceLE, Int.reduceNe, Int.reduceBEq, Int.reduceToNat, ↓reduceIte, l4, l4', l5, l5', ldK_agg, e2, e3]
      refine (rstate_ref h2 hb (x := (b : Int)) (by omega) (by omega)).mono ?_
      rintro r H3 ⟨rfl, rfl⟩
      by_cases c : stOf f sts (b : Int) = 3
      · have e : decide (((stOf f sts (b : Int) : Nat) : Int) = 3) = true := by rw [dec_three]; simp [c]
        have g : (decide (¬ b = 0) && decide (¬ b = own) && decide (¬ stOf f sts (b : Int) = 3)) = false := by simp [c]
        simp -implicitDefEqProofs only [go_sem, Nat.reduceEqDiff, Nat.reduceLT, Nat.reduceAdd, Nat.reduceMul, Int.reduceEq, Int.reduceLT, Int.reduceLE, Int.reduceNe, Int.reduceBEq, Int.reduceToNat, ↓reduceIte, l4, l4', l5, l5', ldK_agg, e, e2, e3, g, Bool.false_eq_true]
        refine (rvis_ref h2 hb hr2 hn ha hb2).mono ?_
        rintro r H3 ⟨rfl, rfl⟩
        cases visB f sts own xmax run a b
        · simp -implicitDefEqProofs only [go_sem, Nat.reduceEqDiff, Nat.reduceLT, Nat.reduceAdd, Nat.reduceMul, Int.reduceEq, Int.reduceLT, Int.reduceLE, Int.reduceNe, Int.reduceBEq, Int.reduceToNat, ↓reduceIte, Bool.false_eq_true]
          exact s
        · simp -implicitDefEqProofs only [go_sem, Nat.reduceEqDiff, Nat.reduceLT, Nat.reduceAdd, Nat.reduceMul, Int.reduceEq, Int.reduceLT, Int.reduceLE, Int.reduceNe, Int.reduceBEq, Int.reduceToNat, ↓reduceIte]
          exact s
      · have e : decide (((stOf f sts (b : Int) : Nat) : Int) = 3) = false := by rw [dec_three]; simp [c]
        have g : (decide (¬ b = 0) && decide (¬ b = own) && decide (¬ stOf f sts (b : Int) = 3)) = true := by simp [c, c2, c3]
        simp -implicitDefEqProofs only [go_sem, Nat.reduceEqDiff, Nat.reduceLT, Nat.reduceAdd, Nat.reduceMul, Int.reduceEq, Int.reduceLT, Int.reduceLE, Int.reduceNe, Int.reduceBEq, Int.reduceToNat, ↓reduceIte, l4, l4', l5, l5', ldK_agg, e, e2, e3, g]
        exact s
end Go.Proofs.Ytmpepacfnckadaa
