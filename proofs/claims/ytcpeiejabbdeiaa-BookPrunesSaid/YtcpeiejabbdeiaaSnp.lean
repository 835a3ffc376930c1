/-
  Package snap and the document's: what each function computes.
  Conditions: as each theorem states them.
-/
import Derived.Test.YtcpeiejabbdeiaaHia
import Derived.Test.YtcpeiejabbdeiaaAmn
namespace Go.Proofs.Ytcpeiejabbdeiaa
open Go Go.RowKit Go.Proofs.YtcpeiejabbdeiaaW
set_option maxRecDepth 100000
set_option linter.unusedSimpArgs false
set_option linter.unusedVariables false

def IndexI (n : Nat) (xs : List Nat) (x : Nat) (a : Value) (H : Hp) (m : Nat) (F : Fr) (H1 : Hp) : Prop :=
  ∃ k : Nat, k + m = n ∧ F 0 = a ∧ F 1 = .int .u64 (x : Int) ∧ F 7 = .int .i64 (n : Int) ∧ F 8 = .int .i64 (k : Int) ∧ H1 = H ∧ ∀ i, i < k → xs[i]? ≠ some x
theorem index_row {w0 : World} {H : Hp} {a : Value} {xs : List Nat} (ha : Row H 27 1 a xs.length (u64s xs)) (hn : xs.length < 10000000000000) (x : Nat) :
    ACalls Try.prog w0 57 #[a, .int .u64 (x : Int)] H fun r H' => (∃ i : Int, r = .int .i64 i ∧ decide (0 ≤ i) = xs.contains x) ∧ H' = H := by
  obtain ⟨aa, ac, ea⟩ := ha.slice
  refine acalls_of Try.func57 rfl Try.ntmps57 r57 (by simp) ?_
  simp only [go_sem, Nat.reduceEqDiff, Nat.reduceLT, Nat.reduceAdd, Nat.reduceMul, Int.reduceEq, Int.reduceLT, Int.reduceLE, Int.reduceNe, Int.reduceBEq, Int.reduceToNat, ↓reduceIte, ea]
  refine AC.loop (IndexI xs.length xs x a H) (n := xs.length) ⟨0, by omega, ea.symm, rfl, rfl, rfl, rfl, fun i hi => by omega⟩ ?_
  rintro m F H1 ⟨k, hk, f0, f1, f7, f8, rfl, hno⟩
  by_cases c : k < xs.length
  · have e1 : decide ((k : Int) < (xs.length : Int)) = true := by simp; omega
    have e3 : IntKind.i64.wrap ((k : Int) + 1) = (k + 1 : Nat) := by rw [i64_in] <;> omega
    have e6 : decide ((0 : Int) ≤ (k : Int)) = true := by simp
    obtain ⟨g, cap, cur, rfl, hg, hc1, hc2, hc3, hc4⟩ := ha.open1 (by omega)
    have hgl := ld_own w0 hg
    have hx : xs[k]? = some (xs.getD k 0) := by simp [c]
    have hcv : cur[k]? = some (.int .u64 (xs.getD k 0 : Nat)) := by
      rw [hc3 _ c]; simp [u64s, c]
    by_cases cx : x = xs.getD k 0
    · have e7 : decide ((x : Int) = ((xs.getD k 0 : Nat) : Int)) = true := by simp only [← cx, decide_true]
      simp only [go_sem, Nat.reduceEqDiff, Nat.reduceLT, Nat.reduceAdd, Nat.reduceMul, Int.reduceEq, Int.reduceLT, Int.reduceLE, Int.reduceNe, Int.reduceBEq, Int.reduceToNat, ↓reduceIte, f0, f1, f7, f8, e1, e3, e6, e7, hgl, hcv]
      refine ⟨_, rfl, ?_⟩
      rw [e6]
      symm
      rw [List.contains_iff_mem]
      rw [cx]; exact List.mem_of_getElem? hx
    · have e7 : decide ((x : Int) = ((xs.getD k 0 : Nat) : Int)) = false := by
        rw [decide_eq_false_iff_not]; omega
      simp only [go_sem, Nat.reduceEqDiff, Nat.reduceLT, Nat.reduceAdd, Nat.reduceMul, Int.reduceEq, Int.reduceLT, Int.reduceLE, Int.reduceNe, Int.reduceBEq, Int.reduceToNat, ↓reduceIte, f0, f1, f7, f8, e1, e3, e6, e7, hgl, hcv]
      refine ⟨m - 1, by omega, k + 1, by omega, by simp only [go_sem, Nat.reduceEqDiff, Nat.reduceLT, Nat.reduceAdd, Nat.reduceMul, Int.reduceEq, Int.reduceLT, Int.reduceLE, Int.reduceNe, Int.reduceBEq, Int.reduceToNat, ↓reduceIte, f0], by simp only [go_sem, Nat.reduceEqDiff, Nat.reduceLT, Nat.reduceAdd, Nat.reduceMul, Int.reduceEq, Int.reduceLT, Int.reduceLE, Int.reduceNe, Int.reduceBEq, Int.reduceToNat, ↓reduceIte, f1], by simp only [go_sem, Nat.reduceEqDiff, Nat.reduceLT, Nat.reduceAdd, Nat.reduceMul, Int.reduceEq, Int.reduceLT, Int.reduceLE, Int.reduceNe, Int.reduceBEq, Int.reduceToNat, ↓reduceIte, f7], by simp only [go_sem, Nat.reduceEqDiff, Nat.reduceLT, Nat.reduceAdd, Nat.reduceMul, Int.reduceEq, Int.reduceLT, Int.reduceLE, Int.reduceNe, Int.reduceBEq, Int.reduceToNat, ↓reduceIte], rfl, fun i hi => ?_⟩
      by_cases e : i = k
      · rw [e, hx]; exact fun h => cx (Option.some.inj h).symm
      · exact hno i (by omega)
  · have e1 : decide ((k : Int) < (xs.length : Int)) = false := by simp; omega
    simp only [go_sem, Nat.reduceEqDiff, Nat.reduceLT, Nat.reduceAdd, Nat.reduceMul, Int.reduceEq, Int.reduceLT, Int.reduceLE, Int.reduceNe, Int.reduceBEq, Int.reduceToNat, ↓reduceIte, f0, f1, f7, f8, e1]
    refine ⟨-1, rfl, ?_⟩
    symm
    have : ¬ x ∈ xs := fun hm => by
      obtain ⟨i, hi, he⟩ := List.mem_iff_getElem.1 hm
      exact hno i (by omega) (by rw [List.getElem?_eq_getElem hi, he])
    simpa using this
theorem contains_row {w0 : World} {H : Hp} {a : Value} {xs : List Nat} (ha : Row H 27 1 a xs.length (u64s xs)) (hn : xs.length < 10000000000000) (x : Nat) :
    ACalls Try.prog w0 46 #[a, .int .u64 (x : Int)] H fun r H' => r = .bool (xs.contains x) ∧ H' = H := by
  refine acalls_of Try.func46 rfl Try.ntmps46 r46 (by simp) ?_
  simp only [go_sem, Nat.reduceEqDiff, Nat.reduceLT, Nat.reduceAdd, Nat.reduceMul, Int.reduceEq, Int.reduceLT, Int.reduceLE, Int.reduceNe, Int.reduceBEq, Int.reduceToNat, ↓reduceIte]
  refine (index_row ha hn x).mono ?_
  rintro r H' ⟨⟨i, rfl, hi⟩, rfl⟩
  simp only [go_sem, Nat.reduceEqDiff, Nat.reduceLT, Nat.reduceAdd, Nat.reduceMul, Int.reduceEq, Int.reduceLT, Int.reduceLE, Int.reduceNe, Int.reduceBEq, Int.reduceToNat, ↓reduceIte, hi]

/-- Does a snapshot see a transaction? -/
def seesB (f : Nat) (sts : List Nat) (own xmax : Nat) (run : List Nat) (x : Nat) : Bool :=
  decide (x = own) || (decide (x < xmax) && !(run.contains x) && decide (stOf f sts (x : Int) = 2))
theorem sees_log {w0 : World} {H : Hp} {l : Nat} {S : Nat → Prop} {f : Nat} {sts : List Nat} (h : LogAt H l S f sts) (hb : f + sts.length < 18446744073709551616)
    {own xmin xmax : Nat} {run : List Nat} {sl : Value} (hr : Row H 27 1 sl run.length (u64s run)) (hn : run.length < 10000000000000) (x : Nat) :
    ACalls Try.prog w0 59 #[ptr l, .agg #[.int .u64 (own : Int), .int .u64 (xmin : Int), .int .u64 (xmax : Int), sl], .int .u64 (x : Int)] H fun r H' => r = .bool (seesB f sts own xmax run x) ∧ H' = H := by
  refine ACalls.quiet ?_
  refine acalls_of Try.func59 rfl Try.ntmps59 r59 (by simp) ?_
  simp only [go_sem, Nat.reduceEqDiff, Nat.reduceLT, Nat.reduceAdd, Nat.reduceMul, Int.reduceEq, Int.reduceLT, Int.reduceLE, Int.reduceNe, Int.reduceBEq, Int.reduceToNat, ↓reduceIte]
  intro b hb' hnb
  have hbl := ld_own w0 (Hp.set_same H b (.cells #[.int .u64 (own : Int), .int .u64 (xmin : Int), .int .u64 (xmax : Int), sl] 34 (0, 0)))
  have hsub : Sub H (H.set b (.cells #[.int .u64 (own : Int), .int .u64 (xmin : Int), .int .u64 (xmax : Int), sl] 34 (0, 0))) := (Sub.refl H).set hnb _
  unfold seesB
  by_cases c1 : x = own
  · have e1 : decide ((x : Int) = (own : Int)) = true := by simp; omega
    simp only [go_sem, Nat.reduceEqDiff, Nat.reduceLT, Nat.reduceAdd, Nat.reduceMul, Int.reduceEq, Int.reduceLT, Int.reduceLE, Int.reduceNe, Int.reduceBEq, Int.reduceToNat, ↓reduceIte, hbl, e1, c1]
    exact hsub
  · have e1 : decide ((x : Int) = (own : Int)) = false := by simp; omega
    have e1' : decide (x = own) = false := by simp; omega
    by_cases c2 : x < xmax
    · have e2 : decide ((x : Int) < (xmax : Int)) = true := by simp; omega
      have e2' : decide (x < xmax) = true := by simp; omega
      simp only [go_sem, Nat.reduceEqDiff, Nat.reduceLT, Nat.reduceAdd, Nat.reduceMul, Int.reduceEq, Int.reduceLT, Int.reduceLE, Int.reduceNe, Int.reduceBEq, Int.reduceToNat, ↓reduceIte, hbl, e1, e2, e1', e2']
      refine (contains_row (hr.keep fun b o _ hb => hsub b o hb) hn x).mono ?_
      rintro r H' ⟨rfl, rfl⟩
      cases run.contains x
      · simp only [go_sem, Nat.reduceEqDiff, Nat.reduceLT, Nat.reduceAdd, Nat.reduceMul, Int.reduceEq, Int.reduceLT, Int.reduceLE, Int.reduceNe, Int.reduceBEq, Int.reduceToNat, ↓reduceIte, hbl, e1, e2]
        refine (state_log (h.keep fun b o _ hb => hsub b o hb) hb (x := (x : Int)) (by omega)).mono ?_
        rintro r H' ⟨rfl, rfl⟩
        have e3 : decide (((stOf f sts (x : Int) : Nat) : Int) = 2) = decide (stOf f sts (x : Int) = 2) := by
          by_cases c : stOf f sts (x : Int) = 2
          · rw [c]; rfl
          · rw [decide_eq_false c, decide_eq_false_iff_not]; omega
        simp only [go_sem, Nat.reduceEqDiff, Nat.reduceLT, Nat.reduceAdd, Nat.reduceMul, Int.reduceEq, Int.reduceLT, Int.reduceLE, Int.reduceNe, Int.reduceBEq, Int.reduceToNat, ↓reduceIte, hbl, e1, e2, e3]
        exact hsub
      · simp only [go_sem, Nat.reduceEqDiff, Nat.reduceLT, Nat.reduceAdd, Nat.reduceMul, Int.reduceEq, Int.reduceLT, Int.reduceLE, Int.reduceNe, Int.reduceBEq, Int.reduceToNat, ↓reduceIte, hbl, e1, e2]
        exact hsub
    · have e2 : decide ((x : Int) < (xmax : Int)) = false := by simp; omega
      have e2' : decide (x < xmax) = false := by simp; omega
      simp only [go_sem, Nat.reduceEqDiff, Nat.reduceLT, Nat.reduceAdd, Nat.reduceMul, Int.reduceEq, Int.reduceLT, Int.reduceLE, Int.reduceNe, Int.reduceBEq, Int.reduceToNat, ↓reduceIte, hbl, e1, e2, e1', e2']
      exact hsub
end Go.Proofs.Ytcpeiejabbdeiaa
