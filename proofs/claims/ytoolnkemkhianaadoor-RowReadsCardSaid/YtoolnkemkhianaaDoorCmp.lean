/-
  The document's order of values, walked.
  Conditions: as each theorem states them.
-/
import Derived.Test.YtoolnkemkhianaaDoorKby
import Derived.Test.YtoolnkemkhianaaDoorBhp
namespace Go.Proofs.YtoolnkemkhianaaDoor
open Go Go.RowKit Go.Proofs.YtoolnkemkhianaaDoorW
set_option maxRecDepth 100000
set_option maxHeartbeats 1000000
set_option linter.unusedSimpArgs false
set_option linter.unusedVariables false
def placeN (v : Va) : Nat := if v.k = 3 then (if v.b = true then 2 else 1) else if v.k = 1 then 3 else if v.k = 2 then 4 else 0
def lessV (x y : Va) : Bool := if placeN x = placeN y then (decide (x.k = 1) && decide (x.i < y.i)) || (decide (x.k = 2) && Op.bytesLess x.s y.s) else decide (placeN x < placeN y)
def sameVs (x y : Va) : Bool := !lessV x y && !lessV y x
section
variable {w0 : World} {H : Hp}
theorem place_ok {v : Va} : ACalls Tryd.prog w0 40 #[va v] H fun r H' => r = .int .i64 (placeN v : Int) ∧ H' = H := by
  refine ACalls.quiet ?_
  refine acalls_of Tryd.func40 rfl Tryd.ntmps40 r40 (by simp) ?_
  simp -implicitDefEqProofs only [go_sem, Nat.reduceEqDiff, Nat.reduceLT, Nat.reduceAdd, Nat.reduceMul, Int.reduceEq, Int.reduceLT, Int.reduceLE, Int.reduceNe, Int.reduceBEq, Int.reduceToNat, ↓reduceIte]
  refine newK_of ?_
  intro b1 H1 hb1 hn1 h1 s1 g1
  have q1 := ld_own w0 (c := (vc v).toArray) h1
  unfold placeN
  by_cases k3 : v.k = 3
  · have d3 : decide ((v.k : Int) = 3) = true := decide_eq_true (by omega)
    rw [if_pos k3]
    cases eb : v.b with
    | true => simp -implicitDefEqProofs only [go_sem, Nat.reduceEqDiff, Nat.reduceLT, Nat.reduceAdd, Nat.reduceMul, Int.reduceEq, Int.reduceLT, Int.reduceLE, Int.reduceNe, Int.reduceBEq, Int.reduceToNat, ↓reduceIte, q1, d3, eb]; first | exact s1 | exact ⟨rfl, s1⟩
    | false => simp -implicitDefEqProofs only [go_sem, Nat.reduceEqDiff, Nat.reduceLT, Nat.reduceAdd, Nat.reduceMul, Int.reduceEq, Int.reduceLT, Int.reduceLE, Int.reduceNe, Int.reduceBEq, Int.reduceToNat, ↓reduceIte, q1, d3, eb]; first | exact s1 | exact ⟨rfl, s1⟩
  have d3 : decide ((v.k : Int) = 3) = false := decide_eq_false (by omega)
  rw [if_neg k3]
  by_cases k1 : v.k = 1
  · have d1 : decide ((v.k : Int) = 1) = true := decide_eq_true (by omega)
    rw [if_pos k1]
    simp -implicitDefEqProofs only [go_sem, Nat.reduceEqDiff, Nat.reduceLT, Nat.reduceAdd, Nat.reduceMul, Int.reduceEq, Int.reduceLT, Int.reduceLE, Int.reduceNe, Int.reduceBEq, Int.reduceToNat, ↓reduceIte, q1, d3, d1]; first | exact s1 | exact ⟨rfl, s1⟩
  have d1 : decide ((v.k : Int) = 1) = false := decide_eq_false (by omega)
  rw [if_neg k1]
  by_cases k2 : v.k = 2
  · have d2 : decide ((v.k : Int) = 2) = true := decide_eq_true (by omega)
    rw [if_pos k2]
    simp -implicitDefEqProofs only [go_sem, Nat.reduceEqDiff, Nat.reduceLT, Nat.reduceAdd, Nat.reduceMul, Int.reduceEq, Int.reduceLT, Int.reduceLE, Int.reduceNe, Int.reduceBEq, Int.reduceToNat, ↓reduceIte, q1, d3, d1, d2]; first | exact s1 | exact ⟨rfl, s1⟩
  have d2 : decide ((v.k : Int) = 2) = false := decide_eq_false (by omega)
  rw [if_neg k2]
  simp -implicitDefEqProofs only [go_sem, Nat.reduceEqDiff, Nat.reduceLT, Nat.reduceAdd, Nat.reduceMul, Int.reduceEq, Int.reduceLT, Int.reduceLE, Int.reduceNe, Int.reduceBEq, Int.reduceToNat, ↓reduceIte, q1, d3, d1, d2]; first | exact s1 | exact ⟨rfl, s1⟩
theorem less2_ok {x y : Va} : ACalls Tryd.prog w0 24 #[va x, va y] H fun r H' => r = .bool (lessV x y) ∧ H' = H := by
  refine ACalls.quiet ?_
  refine acalls_of Tryd.func24 rfl Tryd.ntmps24 r24 (by simp) ?_
  simp -implicitDefEqProofs only [go_sem, Nat.reduceEqDiff, Nat.reduceLT, Nat.reduceAdd, Nat.reduceMul, Int.reduceEq, Int.reduceLT, Int.reduceLE, Int.reduceNe, Int.reduceBEq, Int.reduceToNat, ↓reduceIte]
  refine newK_of ?_
  intro b1 H1 hb1 hn1 h1 s1 g1
  simp -implicitDefEqProofs only [go_sem, Nat.reduceEqDiff, Nat.reduceLT, Nat.reduceAdd, Nat.reduceMul, Int.reduceEq, Int.reduceLT, Int.reduceLE, Int.reduceNe, Int.reduceBEq, Int.reduceToNat, ↓reduceIte]
  refine newK_of ?_
  intro b2 H2 hb2 hn2 h2 s2 g2
  have h1' := s2 _ _ h1
  have l1 := ldc w0 (l := vc x) h1' 4
  have q1 := ld_own w0 (c := (vc x).toArray) h1'
  have l2 := ldc w0 (l := vc y) h2 4
  have q2 := ld_own w0 (c := (vc y).toArray) h2
  have s12 := s1.trans s2
  simp -implicitDefEqProofs only [go_sem, Nat.reduceEqDiff, Nat.reduceLT, Nat.reduceAdd, Nat.reduceMul, Int.reduceEq, Int.reduceLT, Int.reduceLE, Int.reduceNe, Int.reduceBEq, Int.reduceToNat, ↓reduceIte]
  refine vdraw_t [⟨0, .n, [], []⟩, ⟨2, .n, [], []⟩, ⟨1, .c, [2], []⟩, ⟨3, .c, [], []⟩, ⟨4, .p, [], []⟩] [0, 1, 0, 7, 15] mixed (by kernel_rfl) ?_
  simp -implicitDefEqProofs only [go_sem, Nat.reduceEqDiff, Nat.reduceLT, Nat.reduceAdd, Nat.reduceMul, Int.reduceEq, Int.reduceLT, Int.reduceLE, Int.reduceNe, Int.reduceBEq, Int.reduceToNat, ↓reduceIte, l1, l2]
  refine place_ok.mono ?_
  rintro r H3 ⟨rfl, rfl⟩
  simp -implicitDefEqProofs only [go_sem, Nat.reduceEqDiff, Nat.reduceLT, Nat.reduceAdd, Nat.reduceMul, Int.reduceEq, Int.reduceLT, Int.reduceLE, Int.reduceNe, Int.reduceBEq, Int.reduceToNat, ↓reduceIte, l1, l2]
  refine place_ok.mono ?_
  rintro r H4 ⟨rfl, rfl⟩
  unfold lessV
  by_cases hp : placeN x = placeN y
  · have d1 : decide ((placeN x : Int) = (placeN y : Int)) = true := decide_eq_true (by omega)
    rw [if_pos hp]
    by_cases k1 : x.k = 1
    · have e1 : decide ((x.k : Int) = 1) = true := decide_eq_true (by omega)
      have e2 : decide ((x.k : Int) = 2) = false := decide_eq_false (by omega)
      have e1' : decide (x.k = 1) = true := decide_eq_true k1
      have e2' : decide (x.k = 2) = false := decide_eq_false (by omega)
      rw [e1', e2']
      cases ei : decide (x.i < y.i) with
      | true => simp -implicitDefEqProofs only [go_sem, Nat.reduceEqDiff, Nat.reduceLT, Nat.reduceAdd, Nat.reduceMul, Int.reduceEq, Int.reduceLT, Int.reduceLE, Int.reduceNe, Int.reduceBEq, Int.reduceToNat, ↓reduceIte, l1, l2, q1, q2, d1, e1, e2, ei]; first | exact s12 | exact ⟨by simp, s12⟩
      | false => simp -implicitDefEqProofs only [go_sem, Nat.reduceEqDiff, Nat.reduceLT, Nat.reduceAdd, Nat.reduceMul, Int.reduceEq, Int.reduceLT, Int.reduceLE, Int.reduceNe, Int.reduceBEq, Int.reduceToNat, ↓reduceIte, l1, l2, q1, q2, d1, e1, e2, ei]; first | exact s12 | exact ⟨by simp, s12⟩
    · have e1 : decide ((x.k : Int) = 1) = false := decide_eq_false (by omega)
      have e1' : decide (x.k = 1) = false := decide_eq_false k1
      rw [e1']
      by_cases k2 : x.k = 2
      · have e2 : decide ((x.k : Int) = 2) = true := decide_eq_true (by omega)
        have e2' : decide (x.k = 2) = true := decide_eq_true k2
        rw [e2']
        simp -implicitDefEqProofs only [go_sem, Nat.reduceEqDiff, Nat.reduceLT, Nat.reduceAdd, Nat.reduceMul, Int.reduceEq, Int.reduceLT, Int.reduceLE, Int.reduceNe, Int.reduceBEq, Int.reduceToNat, ↓reduceIte, l1, l2, q1, q2, d1, e1, e2, str_list]; first | exact s12 | exact ⟨by simp, s12⟩
      · have e2 : decide ((x.k : Int) = 2) = false := decide_eq_false (by omega)
        have e2' : decide (x.k = 2) = false := decide_eq_false k2
        rw [e2']
        simp -implicitDefEqProofs only [go_sem, Nat.reduceEqDiff, Nat.reduceLT, Nat.reduceAdd, Nat.reduceMul, Int.reduceEq, Int.reduceLT, Int.reduceLE, Int.reduceNe, Int.reduceBEq, Int.reduceToNat, ↓reduceIte, l1, l2, q1, q2, d1, e1, e2, str_list]; first | exact s12 | exact ⟨by simp, s12⟩
  · have d1 : decide ((placeN x : Int) = (placeN y : Int)) = false := decide_eq_false (by omega)
    rw [if_neg hp]
    simp -implicitDefEqProofs only [go_sem, Nat.reduceEqDiff, Nat.reduceLT, Nat.reduceAdd, Nat.reduceMul, Int.reduceEq, Int.reduceLT, Int.reduceLE, Int.reduceNe, Int.reduceBEq, Int.reduceToNat, ↓reduceIte, l1, l2, d1]
    refine vdraw_t [⟨0, .n, [], []⟩, ⟨2, .n, [], []⟩, ⟨1, .c, [2], []⟩, ⟨3, .c, [], []⟩, ⟨4, .p, [], []⟩, ⟨5, .p, [], []⟩] [0, 1, 0, 7, 15, 31] mixed (by kernel_rfl) ?_
    simp -implicitDefEqProofs only [go_sem, Nat.reduceEqDiff, Nat.reduceLT, Nat.reduceAdd, Nat.reduceMul, Int.reduceEq, Int.reduceLT, Int.reduceLE, Int.reduceNe, Int.reduceBEq, Int.reduceToNat, ↓reduceIte, l1, l2]
    refine place_ok.mono ?_
    rintro r H3 ⟨rfl, rfl⟩
    simp -implicitDefEqProofs only [go_sem, Nat.reduceEqDiff, Nat.reduceLT, Nat.reduceAdd, Nat.reduceMul, Int.reduceEq, Int.reduceLT, Int.reduceLE, Int.reduceNe, Int.reduceBEq, Int.reduceToNat, ↓reduceIte, l1, l2]
    refine place_ok.mono ?_
    rintro r H4 ⟨rfl, rfl⟩
    have d2 : decide ((placeN x : Int) < (placeN y : Int)) = decide (placeN x < placeN y) := by
      by_cases c : placeN x < placeN y
      · rw [decide_eq_true c, decide_eq_true (by omega)]
      · rw [decide_eq_false c, decide_eq_false (by omega)]
    simp -implicitDefEqProofs only [go_sem, Nat.reduceEqDiff, Nat.reduceLT, Nat.reduceAdd, Nat.reduceMul, Int.reduceEq, Int.reduceLT, Int.reduceLE, Int.reduceNe, Int.reduceBEq, Int.reduceToNat, ↓reduceIte, l1, l2, d2]
    first | exact s12 | exact ⟨by simp, s12⟩
theorem same2_ok {x y : Va} : ACalls Tryd.prog w0 23 #[va x, va y] H fun r H' => r = .bool (sameVs x y) ∧ H' = H := by
  refine ACalls.quiet ?_
  refine acalls_of Tryd.func23 rfl Tryd.ntmps23 r23 (by simp) ?_
  simp -implicitDefEqProofs only [go_sem, Nat.reduceEqDiff, Nat.reduceLT, Nat.reduceAdd, Nat.reduceMul, Int.reduceEq, Int.reduceLT, Int.reduceLE, Int.reduceNe, Int.reduceBEq, Int.reduceToNat, ↓reduceIte]
  refine newK_of ?_
  intro b1 H1 hb1 hn1 h1 s1 g1
  simp -implicitDefEqProofs only [go_sem, Nat.reduceEqDiff, Nat.reduceLT, Nat.reduceAdd, Nat.reduceMul, Int.reduceEq, Int.reduceLT, Int.reduceLE, Int.reduceNe, Int.reduceBEq, Int.reduceToNat, ↓reduceIte]
  refine newK_of ?_
  intro b2 H2 hb2 hn2 h2 s2 g2
  have h1' := s2 _ _ h1
  have l1 := ldc w0 (l := vc x) h1' 4
  have l2 := ldc w0 (l := vc y) h2 4
  have s12 := s1.trans s2
  simp -implicitDefEqProofs only [go_sem, Nat.reduceEqDiff, Nat.reduceLT, Nat.reduceAdd, Nat.reduceMul, Int.reduceEq, Int.reduceLT, Int.reduceLE, Int.reduceNe, Int.reduceBEq, Int.reduceToNat, ↓reduceIte, l1, l2]
  refine less2_ok.mono ?_
  rintro r H3 ⟨rfl, rfl⟩
  unfold sameVs
  cases e1 : lessV x y with
  | true => simp -implicitDefEqProofs only [go_sem, Nat.reduceEqDiff, Nat.reduceLT, Nat.reduceAdd, Nat.reduceMul, Int.reduceEq, Int.reduceLT, Int.reduceLE, Int.reduceNe, Int.reduceBEq, Int.reduceToNat, ↓reduceIte, l1, l2, e1]; first | exact s12 | exact ⟨by simp, s12⟩
  | false =>
    simp -implicitDefEqProofs only [go_sem, Nat.reduceEqDiff, Nat.reduceLT, Nat.reduceAdd, Nat.reduceMul, Int.reduceEq, Int.reduceLT, Int.reduceLE, Int.reduceNe, Int.reduceBEq, Int.reduceToNat, ↓reduceIte, l1, l2, e1]
    refine less2_ok.mono ?_
    rintro r H4 ⟨rfl, rfl⟩
    simp -implicitDefEqProofs only [go_sem, Nat.reduceEqDiff, Nat.reduceLT, Nat.reduceAdd, Nat.reduceMul, Int.reduceEq, Int.reduceLT, Int.reduceLE, Int.reduceNe, Int.reduceBEq, Int.reduceToNat, ↓reduceIte, l1, l2, e1]; first | exact s12 | exact ⟨by simp, s12⟩
/-- Two rows of values, alike. -/
def sameRow (a b : List Va) : Bool := decide (a.length = b.length) && (List.range a.length).all fun i => match a[i]?, b[i]? with | some x, some y => decide (x.k = y.k) && sameVs x y | _, _ => false
end
end Go.Proofs.YtoolnkemkhianaaDoor
