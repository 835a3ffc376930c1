/-
  What is right: the program's and the document's, walked.
  Conditions: as each theorem states them.
-/
import Derived.Test.YtoolnkemkhianaaDoorRvl
import Derived.Test.YtoolnkemkhianaaDoorVal
namespace Go.Proofs.YtoolnkemkhianaaDoor
open Go Go.RowKit Go.Proofs.YtoolnkemkhianaaDoorW
set_option maxRecDepth 100000
set_option maxHeartbeats 1000000
set_option linter.unusedSimpArgs false
set_option linter.unusedVariables false

def bareV (v : Va) : Va := if v.k = 1 then { v with i := 0 } else if v.k = 2 then { v with s := [] } else if v.k = 3 then { v with b := false } else v
def rightB (v : Va) : Bool := decide (v.k < 4) && (eqV (bareV v) ⟨v.k, 0, [], false⟩ && (decide (v.s.length ≤ 60) && okZ v.s))
theorem firstIdx_neg (p : List UInt8) : decide (firstIdx (str p) 0 < 0) = noZ p := by
  have key : (List.range (str p).size).find? (fun i => (str p)[i]! == 0) = none ↔ noZ p = true := by
    rw [List.find?_eq_none]
    unfold noZ
    rw [List.all_eq_true, str_size]
    constructor
    · intro h b hb
      obtain ⟨i, hi⟩ := List.getElem?_of_mem hb
      have h1 := h i (by rw [List.mem_range]; exact (List.getElem?_eq_some_iff.1 hi).1)
      rw [ba_bang, hi] at h1
      simp only [Option.getD_some, beq_iff_eq] at h1
      have : ¬ b.toNat = 0 := fun e => h1 (UInt8.toNat_inj.1 e)
      simp [this]
    · intro h i hi
      rw [List.mem_range] at hi
      have h1 := h p[i] (List.getElem_mem hi)
      rw [ba_bang, List.getElem?_eq_getElem hi]
      simp only [Option.getD_some, beq_iff_eq]
      intro e
      rw [e] at h1
      simp at h1
  unfold firstIdx
  cases hz : noZ p with
  | true => rw [key.2 hz]; rfl
  | false =>
    cases hf : (List.range (str p).size).find? (fun i => (str p)[i]! == 0) with
    | none => rw [key.1 hf] at hz; cases hz
    | some i => simp only [decide_eq_false_iff_not]; omega
theorem rightB_eq (v : Va) : rightB v = if v.k = 0 then decide (v.i = 0) && ((v.s == []) && !v.b) else if v.k = 1 then (v.s == []) && !v.b else if v.k = 2 then decide (v.i = 0) && (!v.b && (decide (v.s.length ≤ 60) && okZ v.s)) else if v.k = 3 then decide (v.i = 0) && (v.s == []) else false := by
  obtain ⟨k, i, s, b⟩ := v
  have hz : okZ [] = true := rfl
  unfold rightB bareV eqV
  simp only []
  by_cases k0 : k = 0
  · subst k0
    by_cases hs : s = []
    · subst hs; cases b <;> simp [hz]
    · simp [hs]
  by_cases k1 : k = 1
  · subst k1
    by_cases hs : s = []
    · subst hs; cases b <;> simp [hz]
    · simp [hs]
  by_cases k2 : k = 2
  · subst k2
    cases b <;> simp
  by_cases k3 : k = 3
  · subst k3
    by_cases hs : s = []
    · subst hs; simp [hz]
    · simp [hs]
  rw [decide_eq_false (show ¬ k < 4 by omega)]
  simp [k0, k1, k2, k3]
theorem xidx_n : Extern.findNext Tryd.f59 = none := by kernel_rfl
theorem xidx_f : Extern.find Tryd.f59 = some Extern.BytealgIndexByte.indexByte := by kernel_rfl
section
variable {w0 : World} {H : Hp}
theorem indexS_ok {p : List UInt8} {c : Nat} : ACalls Tryd.prog w0 50 #[.string (str p), .int .u8 (c : Int)] H fun r H' => r = .int .i64 (firstIdx (str p) c.toUInt8) ∧ H' = H := by
  refine acalls_of Tryd.func50 rfl Tryd.ntmps50 r50 (by simp) ?_
  simp -implicitDefEqProofs only [go_sem, Nat.reduceEqDiff, Nat.reduceLT, Nat.reduceAdd, Nat.reduceMul, Int.reduceEq, Int.reduceLT, Int.reduceLE, Int.reduceNe, Int.reduceBEq, Int.reduceToNat, ↓reduceIte]
  refine ACalls.mono (Q := fun r H' => r = .int .i64 (firstIdx (str p) c.toUInt8) ∧ H' = H) ?_ ?_
  · refine acalls_of Tryd.func56 rfl Tryd.ntmps56 r56 (by simp) ?_
    simp -implicitDefEqProofs only [go_sem, Nat.reduceEqDiff, Nat.reduceLT, Nat.reduceAdd, Nat.reduceMul, Int.reduceEq, Int.reduceLT, Int.reduceLE, Int.reduceNe, Int.reduceBEq, Int.reduceToNat, ↓reduceIte]
    refine aop_extern Tryd.func59 rfl rfl xidx_n xidx_f ?_
    simp -implicitDefEqProofs only [go_sem, Nat.reduceEqDiff, Nat.reduceLT, Nat.reduceAdd, Nat.reduceMul, Int.reduceEq, Int.reduceLT, Int.reduceLE, Int.reduceNe, Int.reduceBEq, Int.reduceToNat, ↓reduceIte]
    refine awp_indexByteS ?_
    simp -implicitDefEqProofs only [go_sem, Nat.reduceEqDiff, Nat.reduceLT, Nat.reduceAdd, Nat.reduceMul, Int.reduceEq, Int.reduceLT, Int.reduceLE, Int.reduceNe, Int.reduceBEq, Int.reduceToNat, ↓reduceIte]
  · rintro r H' ⟨rfl, rfl⟩
    simp -implicitDefEqProofs only [go_sem, Nat.reduceEqDiff, Nat.reduceLT, Nat.reduceAdd, Nat.reduceMul, Int.reduceEq, Int.reduceLT, Int.reduceLE, Int.reduceNe, Int.reduceBEq, Int.reduceToNat, ↓reduceIte]
theorem cright_ok {v : Va} (ht : Tbl w0) : ACalls Tryd.prog w0 39 #[va v] H fun r H' => r = .bool (rightB v) ∧ H' = H := by
  refine ACalls.quiet ?_
  refine acalls_of Tryd.func39 rfl Tryd.ntmps39 r39 (by simp) ?_
  simp -implicitDefEqProofs only [go_sem, Nat.reduceEqDiff, Nat.reduceLT, Nat.reduceAdd, Nat.reduceMul, Int.reduceEq, Int.reduceLT, Int.reduceLE, Int.reduceNe, Int.reduceBEq, Int.reduceToNat, ↓reduceIte]
  refine newK_of ?_
  intro b1 H1 hb1 hn1 h1 s1 g1
  have l1 := ldc w0 (l := vc v) h1 4
  simp -implicitDefEqProofs only [go_sem, Nat.reduceEqDiff, Nat.reduceLT, Nat.reduceAdd, Nat.reduceMul, Int.reduceEq, Int.reduceLT, Int.reduceLE, Int.reduceNe, Int.reduceBEq, Int.reduceToNat, ↓reduceIte, l1]
  refine newK_of ?_
  intro b2 H2 hb2 hn2 h2 s2 g2
  simp -implicitDefEqProofs only [go_sem, Nat.reduceEqDiff, Nat.reduceLT, Nat.reduceAdd, Nat.reduceMul, Int.reduceEq, Int.reduceLT, Int.reduceLE, Int.reduceNe, Int.reduceBEq, Int.reduceToNat, ↓reduceIte]
  refine store_all (cs := (vc v).toArray) h2 rfl rfl s36 ?_
  intro H3 h3 g3
  have ne : b1 ≠ b2 := fun e => by rw [e, hn2] at h1; cases h1
  have h13 : H3 b1 = some (.cells (vc v).toArray 36 (0, 0)) := (g3 b1 ne).trans (s2 _ _ h1)
  have s3 : Sub H H3 := fun i o hi => (g3 i fun e => by rw [e, s1.none hn2] at hi; cases hi).trans (s2 _ _ (s1 _ _ hi))
  have q1 := ld_own w0 h13
  by_cases k0 : v.k = 0
  · have d0 : decide ((v.k : Int) = 0) = true := decide_eq_true (by omega)
    have ec : True := trivial
    obtain ⟨bv, hbv⟩ : ∃ bv, bareV v = bv := ⟨_, rfl⟩
    have hv : bareV v = v := by unfold bareV; rw [if_neg (by omega), if_neg (by omega), if_neg (by omega)]
    have h4 : H3 b2 = some (.cells (vc bv).toArray 36 (0, 0)) := by rw [← hbv, hv]; exact h3
    have h14 := h13
    have s4 := s3
    simp -implicitDefEqProofs only [go_sem, Nat.reduceEqDiff, Nat.reduceLT, Nat.reduceAdd, Nat.reduceMul, Int.reduceEq, Int.reduceLT, Int.reduceLE, Int.reduceNe, Int.reduceBEq, Int.reduceToNat, ↓reduceIte, q1, d0]
    have l4 := ldc w0 (l := vc bv) h4 4
    have q4 := ld_own w0 h14
    simp -implicitDefEqProofs only [go_sem, Nat.reduceEqDiff, Nat.reduceLT, Nat.reduceAdd, Nat.reduceMul, Int.reduceEq, Int.reduceLT, Int.reduceLE, Int.reduceNe, Int.reduceBEq, Int.reduceToNat, ↓reduceIte, ec, q4, l4]
    refine aop_eqv (dst := none) (ty := 0) (pos := "") (after := #[]) (g := none) (t' := 0) (u := bv) (v := ⟨v.k, 0, [], false⟩) (by simp -implicitDefEqProofs only [go_sem, Nat.reduceEqDiff, Nat.reduceLT, Nat.reduceAdd, Nat.reduceMul, Int.reduceEq, Int.reduceLT, Int.reduceLE, Int.reduceNe, Int.reduceBEq, Int.reduceToNat, ↓reduceIte]) (by simp -implicitDefEqProofs only [go_sem, Nat.reduceEqDiff, Nat.reduceLT, Nat.reduceAdd, Nat.reduceMul, Int.reduceEq, Int.reduceLT, Int.reduceLE, Int.reduceNe, Int.reduceBEq, Int.reduceToNat, ↓reduceIte]; rfl) ?_
    unfold rightB
    rw [hbv]
    cases e1 : eqV bv ⟨v.k, 0, [], false⟩ with
    | false =>
      simp -implicitDefEqProofs only [go_sem, Nat.reduceEqDiff, Nat.reduceLT, Nat.reduceAdd, Nat.reduceMul, Int.reduceEq, Int.reduceLT, Int.reduceLE, Int.reduceNe, Int.reduceBEq, Int.reduceToNat, ↓reduceIte, e1, ec, q4]
      first | exact s4 | exact ⟨by simp, s4⟩
    | true =>
      by_cases c60 : v.s.length ≤ 60
      · have d1 : decide ((v.s.length : Int) ≤ 60) = true := decide_eq_true (by omega)
        simp -implicitDefEqProofs only [go_sem, Nat.reduceEqDiff, Nat.reduceLT, Nat.reduceAdd, Nat.reduceMul, Int.reduceEq, Int.reduceLT, Int.reduceLE, Int.reduceNe, Int.reduceBEq, Int.reduceToNat, ↓reduceIte, e1, ec, q4, d1, str_size]
        refine (valid_ok ht (by omega)).mono ?_
        rintro r H5 ⟨rfl, rfl⟩
        cases e2 : okU v.s with
        | false =>
          simp -implicitDefEqProofs only [go_sem, Nat.reduceEqDiff, Nat.reduceLT, Nat.reduceAdd, Nat.reduceMul, Int.reduceEq, Int.reduceLT, Int.reduceLE, Int.reduceNe, Int.reduceBEq, Int.reduceToNat, ↓reduceIte, e1, ec, q4, d1, e2]
          refine ⟨?_, s4⟩
          rw [okZ_bad e2]; simp
        | true =>
          simp -implicitDefEqProofs only [go_sem, Nat.reduceEqDiff, Nat.reduceLT, Nat.reduceAdd, Nat.reduceMul, Int.reduceEq, Int.reduceLT, Int.reduceLE, Int.reduceNe, Int.reduceBEq, Int.reduceToNat, ↓reduceIte, e1, ec, q4, d1, e2]
          refine (indexS_ok (c := 0)).mono ?_
          rintro r H6 ⟨rfl, rfl⟩
          have e3 := firstIdx_neg v.s
          simp -implicitDefEqProofs only [go_sem, Nat.reduceEqDiff, Nat.reduceLT, Nat.reduceAdd, Nat.reduceMul, Int.reduceEq, Int.reduceLT, Int.reduceLE, Int.reduceNe, Int.reduceBEq, Int.reduceToNat, ↓reduceIte, e1, ec, q4, d1, e2, e3]
          refine ⟨?_, s4⟩
          unfold okZ
          rw [e2, decide_eq_true c60]
          have : decide (v.k < 4) = true := decide_eq_true (by omega)
          rw [this]
          simp only [Bool.true_and]
          rw [← e3]; rfl
      · have d1 : decide ((v.s.length : Int) ≤ 60) = false := decide_eq_false (by omega)
        simp -implicitDefEqProofs only [go_sem, Nat.reduceEqDiff, Nat.reduceLT, Nat.reduceAdd, Nat.reduceMul, Int.reduceEq, Int.reduceLT, Int.reduceLE, Int.reduceNe, Int.reduceBEq, Int.reduceToNat, ↓reduceIte, e1, ec, q4, d1, str_size]
        refine ⟨?_, s4⟩
        rw [decide_eq_false c60]; simp
  by_cases k1 : v.k = 1
  · have d1 : decide ((v.k : Int) = 1) = true := decide_eq_true (by omega)
    have d0 : decide ((v.k : Int) = 0) = false := decide_eq_false (by omega)
    have ec : True := trivial
    obtain ⟨bv, hbv⟩ : ∃ bv, bareV v = bv := ⟨_, rfl⟩
    have hv : bareV v = { v with i := 0 } := by unfold bareV; rw [if_pos k1]
    have hw := wr_own h3 1 (by show 1 < 4; omega)
    simp -implicitDefEqProofs only [go_sem, Nat.reduceEqDiff, Nat.reduceLT, Nat.reduceAdd, Nat.reduceMul, Int.reduceEq, Int.reduceLT, Int.reduceLE, Int.reduceNe, Int.reduceBEq, Int.reduceToNat, ↓reduceIte, q1, d0, d1, hw]
    have h4 := Hp.set_same H3 b2 (.cells ((vc v).set 1 (.int .i64 0)).toArray 36 (0, 0))
    have g4 : ∀ i, i ≠ b2 → (H3.set b2 (.cells ((vc v).set 1 (.int .i64 0)).toArray 36 (0, 0))) i = H3 i := fun i hi => Hp.set_ne _ _ _ _ hi
    generalize H3.set b2 (.cells ((vc v).set 1 (.int .i64 0)).toArray 36 (0, 0)) = H4 at h4 g4 ⊢
    have h4 : H4 b2 = some (.cells (vc bv).toArray 36 (0, 0)) := by rw [← hbv, hv]; exact h4
    have h14 := (g4 b1 ne).trans h13
    have s4 : Sub H H4 := fun i o hi => (g4 i fun e => by rw [e, s1.none hn2] at hi; cases hi).trans (s3 _ _ hi)
    have l4 := ldc w0 (l := vc bv) h4 4
    have q4 := ld_own w0 h14
    simp -implicitDefEqProofs only [go_sem, Nat.reduceEqDiff, Nat.reduceLT, Nat.reduceAdd, Nat.reduceMul, Int.reduceEq, Int.reduceLT, Int.reduceLE, Int.reduceNe, Int.reduceBEq, Int.reduceToNat, ↓reduceIte, ec, q4, l4]
    refine aop_eqv (dst := none) (ty := 0) (pos := "") (after := #[]) (g := none) (t' := 0) (u := bv) (v := ⟨v.k, 0, [], false⟩) (by simp -implicitDefEqProofs only [go_sem, Nat.reduceEqDiff, Nat.reduceLT, Nat.reduceAdd, Nat.reduceMul, Int.reduceEq, Int.reduceLT, Int.reduceLE, Int.reduceNe, Int.reduceBEq, Int.reduceToNat, ↓reduceIte]) (by simp -implicitDefEqProofs only [go_sem, Nat.reduceEqDiff, Nat.reduceLT, Nat.reduceAdd, Nat.reduceMul, Int.reduceEq, Int.reduceLT, Int.reduceLE, Int.reduceNe, Int.reduceBEq, Int.reduceToNat, ↓reduceIte]; rfl) ?_
    unfold rightB
    rw [hbv]
    cases e1 : eqV bv ⟨v.k, 0, [], false⟩ with
    | false =>
      simp -implicitDefEqProofs only [go_sem, Nat.reduceEqDiff, Nat.reduceLT, Nat.reduceAdd, Nat.reduceMul, Int.reduceEq, Int.reduceLT, Int.reduceLE, Int.reduceNe, Int.reduceBEq, Int.reduceToNat, ↓reduceIte, e1, ec, q4]
      first | exact s4 | exact ⟨by simp, s4⟩
    | true =>
      by_cases c60 : v.s.length ≤ 60
      · have d1 : decide ((v.s.length : Int) ≤ 60) = true := decide_eq_true (by omega)
        simp -implicitDefEqProofs only [go_sem, Nat.reduceEqDiff, Nat.reduceLT, Nat.reduceAdd, Nat.reduceMul, Int.reduceEq, Int.reduceLT, Int.reduceLE, Int.reduceNe, Int.reduceBEq, Int.reduceToNat, ↓reduceIte, e1, ec, q4, d1, str_size]
        refine (valid_ok ht (by omega)).mono ?_
        rintro r H5 ⟨rfl, rfl⟩
        cases e2 : okU v.s with
        | false =>
          simp -implicitDefEqProofs only [go_sem, Nat.reduceEqDiff, Nat.reduceLT, Nat.reduceAdd, Nat.reduceMul, Int.reduceEq, Int.reduceLT, Int.reduceLE, Int.reduceNe, Int.reduceBEq, Int.reduceToNat, ↓reduceIte, e1, ec, q4, d1, e2]
          refine ⟨?_, s4⟩
          rw [okZ_bad e2]; simp
        | true =>
          simp -implicitDefEqProofs only [go_sem, Nat.reduceEqDiff, Nat.reduceLT, Nat.reduceAdd, Nat.reduceMul, Int.reduceEq, Int.reduceLT, Int.reduceLE, Int.reduceNe, Int.reduceBEq, Int.reduceToNat, ↓reduceIte, e1, ec, q4, d1, e2]
          refine (indexS_ok (c := 0)).mono ?_
          rintro r H6 ⟨rfl, rfl⟩
          have e3 := firstIdx_neg v.s
          simp -implicitDefEqProofs only [go_sem, Nat.reduceEqDiff, Nat.reduceLT, Nat.reduceAdd, Nat.reduceMul, Int.reduceEq, Int.reduceLT, Int.reduceLE, Int.reduceNe, Int.reduceBEq, Int.reduceToNat, ↓reduceIte, e1, ec, q4, d1, e2, e3]
          refine ⟨?_, s4⟩
          unfold okZ
          rw [e2, decide_eq_true c60]
          have : decide (v.k < 4) = true := decide_eq_true (by omega)
          rw [this]
          simp only [Bool.true_and]
          rw [← e3]; rfl
      · have d1 : decide ((v.s.length : Int) ≤ 60) = false := decide_eq_false (by omega)
        simp -implicitDefEqProofs only [go_sem, Nat.reduceEqDiff, Nat.reduceLT, Nat.reduceAdd, Nat.reduceMul, Int.reduceEq, Int.reduceLT, Int.reduceLE, Int.reduceNe, Int.reduceBEq, Int.reduceToNat, ↓reduceIte, e1, ec, q4, d1, str_size]
        refine ⟨?_, s4⟩
        rw [decide_eq_false c60]; simp
  by_cases k2 : v.k = 2
  · have d2 : decide ((v.k : Int) = 2) = true := decide_eq_true (by omega)
    have d0 : decide ((v.k : Int) = 0) = false := decide_eq_false (by omega)
    have d1 : decide ((v.k : Int) = 1) = false := decide_eq_false (by omega)
    have ec : True := trivial
    obtain ⟨bv, hbv⟩ : ∃ bv, bareV v = bv := ⟨_, rfl⟩
    have hv : bareV v = { v with s := [] } := by unfold bareV; rw [if_neg (by omega), if_pos k2]
    have hw := wr_own h3 2 (by show 2 < 4; omega)
    simp -implicitDefEqProofs only [go_sem, Nat.reduceEqDiff, Nat.reduceLT, Nat.reduceAdd, Nat.reduceMul, Int.reduceEq, Int.reduceLT, Int.reduceLE, Int.reduceNe, Int.reduceBEq, Int.reduceToNat, ↓reduceIte, q1, d0, d1, d2, hw]
    have h4 := Hp.set_same H3 b2 (.cells ((vc v).set 2 (.string ⟨#[]⟩)).toArray 36 (0, 0))
    have g4 : ∀ i, i ≠ b2 → (H3.set b2 (.cells ((vc v).set 2 (.string ⟨#[]⟩)).toArray 36 (0, 0))) i = H3 i := fun i hi => Hp.set_ne _ _ _ _ hi
    generalize H3.set b2 (.cells ((vc v).set 2 (.string ⟨#[]⟩)).toArray 36 (0, 0)) = H4 at h4 g4 ⊢
    have h4 : H4 b2 = some (.cells (vc bv).toArray 36 (0, 0)) := by rw [← hbv, hv]; exact h4
    have h14 := (g4 b1 ne).trans h13
    have s4 : Sub H H4 := fun i o hi => (g4 i fun e => by rw [e, s1.none hn2] at hi; cases hi).trans (s3 _ _ hi)
    have l4 := ldc w0 (l := vc bv) h4 4
    have q4 := ld_own w0 h14
    simp -implicitDefEqProofs only [go_sem, Nat.reduceEqDiff, Nat.reduceLT, Nat.reduceAdd, Nat.reduceMul, Int.reduceEq, Int.reduceLT, Int.reduceLE, Int.reduceNe, Int.reduceBEq, Int.reduceToNat, ↓reduceIte, ec, q4, l4]
    refine aop_eqv (dst := none) (ty := 0) (pos := "") (after := #[]) (g := none) (t' := 0) (u := bv) (v := ⟨v.k, 0, [], false⟩) (by simp -implicitDefEqProofs only [go_sem, Nat.reduceEqDiff, Nat.reduceLT, Nat.reduceAdd, Nat.reduceMul, Int.reduceEq, Int.reduceLT, Int.reduceLE, Int.reduceNe, Int.reduceBEq, Int.reduceToNat, ↓reduceIte]) (by simp -implicitDefEqProofs only [go_sem, Nat.reduceEqDiff, Nat.reduceLT, Nat.reduceAdd, Nat.reduceMul, Int.reduceEq, Int.reduceLT, Int.reduceLE, Int.reduceNe, Int.reduceBEq, Int.reduceToNat, ↓reduceIte]; rfl) ?_
    unfold rightB
    rw [hbv]
    cases e1 : eqV bv ⟨v.k, 0, [], false⟩ with
    | false =>
      simp -implicitDefEqProofs only [go_sem, Nat.reduceEqDiff, Nat.reduceLT, Nat.reduceAdd, Nat.reduceMul, Int.reduceEq, Int.reduceLT, Int.reduceLE, Int.reduceNe, Int.reduceBEq, Int.reduceToNat, ↓reduceIte, e1, ec, q4]
      first | exact s4 | exact ⟨by simp, s4⟩
    | true =>
      by_cases c60 : v.s.length ≤ 60
      · have d1 : decide ((v.s.length : Int) ≤ 60) = true := decide_eq_true (by omega)
        simp -implicitDefEqProofs only [go_sem, Nat.reduceEqDiff, Nat.reduceLT, Nat.reduceAdd, Nat.reduceMul, Int.reduceEq, Int.reduceLT, Int.reduceLE, Int.reduceNe, Int.reduceBEq, Int.reduceToNat, ↓reduceIte, e1, ec, q4, d1, str_size]
        refine (valid_ok ht (by omega)).mono ?_
        rintro r H5 ⟨rfl, rfl⟩
        cases e2 : okU v.s with
        | false =>
          simp -implicitDefEqProofs only [go_sem, Nat.reduceEqDiff, Nat.reduceLT, Nat.reduceAdd, Nat.reduceMul, Int.reduceEq, Int.reduceLT, Int.reduceLE, Int.reduceNe, Int.reduceBEq, Int.reduceToNat, ↓reduceIte, e1, ec, q4, d1, e2]
          refine ⟨?_, s4⟩
          rw [okZ_bad e2]; simp
        | true =>
          simp -implicitDefEqProofs only [go_sem, Nat.reduceEqDiff, Nat.reduceLT, Nat.reduceAdd, Nat.reduceMul, Int.reduceEq, Int.reduceLT, Int.reduceLE, Int.reduceNe, Int.reduceBEq, Int.reduceToNat, ↓reduceIte, e1, ec, q4, d1, e2]
          refine (indexS_ok (c := 0)).mono ?_
          rintro r H6 ⟨rfl, rfl⟩
          have e3 := firstIdx_neg v.s
          simp -implicitDefEqProofs only [go_sem, Nat.reduceEqDiff, Nat.reduceLT, Nat.reduceAdd, Nat.reduceMul, Int.reduceEq, Int.reduceLT, Int.reduceLE, Int.reduceNe, Int.reduceBEq, Int.reduceToNat, ↓reduceIte, e1, ec, q4, d1, e2, e3]
          refine ⟨?_, s4⟩
          unfold okZ
          rw [e2, decide_eq_true c60]
          have : decide (v.k < 4) = true := decide_eq_true (by omega)
          rw [this]
          simp only [Bool.true_and]
          rw [← e3]; rfl
      · have d1 : decide ((v.s.length : Int) ≤ 60) = false := decide_eq_false (by omega)
        simp -implicitDefEqProofs only [go_sem, Nat.reduceEqDiff, Nat.reduceLT, Nat.reduceAdd, Nat.reduceMul, Int.reduceEq, Int.reduceLT, Int.reduceLE, Int.reduceNe, Int.reduceBEq, Int.reduceToNat, ↓reduceIte, e1, ec, q4, d1, str_size]
        refine ⟨?_, s4⟩
        rw [decide_eq_false c60]; simp
  by_cases k3 : v.k = 3
  · have d3 : decide ((v.k : Int) = 3) = true := decide_eq_true (by omega)
    have d0 : decide ((v.k : Int) = 0) = false := decide_eq_false (by omega)
    have d1 : decide ((v.k : Int) = 1) = false := decide_eq_false (by omega)
    have d2 : decide ((v.k : Int) = 2) = false := decide_eq_false (by omega)
    have ec : True := trivial
    obtain ⟨bv, hbv⟩ : ∃ bv, bareV v = bv := ⟨_, rfl⟩
    have hv : bareV v = { v with b := false } := by unfold bareV; rw [if_neg (by omega), if_neg (by omega), if_pos k3]
    have hw := wr_own h3 3 (by show 3 < 4; omega)
    simp -implicitDefEqProofs only [go_sem, Nat.reduceEqDiff, Nat.reduceLT, Nat.reduceAdd, Nat.reduceMul, Int.reduceEq, Int.reduceLT, Int.reduceLE, Int.reduceNe, Int.reduceBEq, Int.reduceToNat, ↓reduceIte, q1, d0, d1, d2, d3, hw]
    have h4 := Hp.set_same H3 b2 (.cells ((vc v).set 3 (.bool false)).toArray 36 (0, 0))
    have g4 : ∀ i, i ≠ b2 → (H3.set b2 (.cells ((vc v).set 3 (.bool false)).toArray 36 (0, 0))) i = H3 i := fun i hi => Hp.set_ne _ _ _ _ hi
    generalize H3.set b2 (.cells ((vc v).set 3 (.bool false)).toArray 36 (0, 0)) = H4 at h4 g4 ⊢
    have h4 : H4 b2 = some (.cells (vc bv).toArray 36 (0, 0)) := by rw [← hbv, hv]; exact h4
    have h14 := (g4 b1 ne).trans h13
    have s4 : Sub H H4 := fun i o hi => (g4 i fun e => by rw [e, s1.none hn2] at hi; cases hi).trans (s3 _ _ hi)
    have l4 := ldc w0 (l := vc bv) h4 4
    have q4 := ld_own w0 h14
    simp -implicitDefEqProofs only [go_sem, Nat.reduceEqDiff, Nat.reduceLT, Nat.reduceAdd, Nat.reduceMul, Int.reduceEq, Int.reduceLT, Int.reduceLE, Int.reduceNe, Int.reduceBEq, Int.reduceToNat, ↓reduceIte, ec, q4, l4]
    refine aop_eqv (dst := none) (ty := 0) (pos := "") (after := #[]) (g := none) (t' := 0) (u := bv) (v := ⟨v.k, 0, [], false⟩) (by simp -implicitDefEqProofs only [go_sem, Nat.reduceEqDiff, Nat.reduceLT, Nat.reduceAdd, Nat.reduceMul, Int.reduceEq, Int.reduceLT, Int.reduceLE, Int.reduceNe, Int.reduceBEq, Int.reduceToNat, ↓reduceIte]) (by simp -implicitDefEqProofs only [go_sem, Nat.reduceEqDiff, Nat.reduceLT, Nat.reduceAdd, Nat.reduceMul, Int.reduceEq, Int.reduceLT, Int.reduceLE, Int.reduceNe, Int.reduceBEq, Int.reduceToNat, ↓reduceIte]; rfl) ?_
    unfold rightB
    rw [hbv]
    cases e1 : eqV bv ⟨v.k, 0, [], false⟩ with
    | false =>
      simp -implicitDefEqProofs only [go_sem, Nat.reduceEqDiff, Nat.reduceLT, Nat.reduceAdd, Nat.reduceMul, Int.reduceEq, Int.reduceLT, Int.reduceLE, Int.reduceNe, Int.reduceBEq, Int.reduceToNat, ↓reduceIte, e1, ec, q4]
      first | exact s4 | exact ⟨by simp, s4⟩
    | true =>
      by_cases c60 : v.s.length ≤ 60
      · have d1 : decide ((v.s.length : Int) ≤ 60) = true := decide_eq_true (by omega)
        simp -implicitDefEqProofs only [go_sem, Nat.reduceEqDiff, Nat.reduceLT, Nat.reduceAdd, Nat.reduceMul, Int.reduceEq, Int.reduceLT, Int.reduceLE, Int.reduceNe, Int.reduceBEq, Int.reduceToNat, ↓reduceIte, e1, ec, q4, d1, str_size]
        refine (valid_ok ht (by omega)).mono ?_
        rintro r H5 ⟨rfl, rfl⟩
        cases e2 : okU v.s with
        | false =>
          simp -implicitDefEqProofs only [go_sem, Nat.reduceEqDiff, Nat.reduceLT, Nat.reduceAdd, Nat.reduceMul, Int.reduceEq, Int.reduceLT, Int.reduceLE, Int.reduceNe, Int.reduceBEq, Int.reduceToNat, ↓reduceIte, e1, ec, q4, d1, e2]
          refine ⟨?_, s4⟩
          rw [okZ_bad e2]; simp
        | true =>
          simp -implicitDefEqProofs only [go_sem, Nat.reduceEqDiff, Nat.reduceLT, Nat.reduceAdd, Nat.reduceMul, Int.reduceEq, Int.reduceLT, Int.reduceLE, Int.reduceNe, Int.reduceBEq, Int.reduceToNat, ↓reduceIte, e1, ec, q4, d1, e2]
          refine (indexS_ok (c := 0)).mono ?_
          rintro r H6 ⟨rfl, rfl⟩
          have e3 := firstIdx_neg v.s
          simp -implicitDefEqProofs only [go_sem, Nat.reduceEqDiff, Nat.reduceLT, Nat.reduceAdd, Nat.reduceMul, Int.reduceEq, Int.reduceLT, Int.reduceLE, Int.reduceNe, Int.reduceBEq, Int.reduceToNat, ↓reduceIte, e1, ec, q4, d1, e2, e3]
          refine ⟨?_, s4⟩
          unfold okZ
          rw [e2, decide_eq_true c60]
          have : decide (v.k < 4) = true := decide_eq_true (by omega)
          rw [this]
          simp only [Bool.true_and]
          rw [← e3]; rfl
      · have d1 : decide ((v.s.length : Int) ≤ 60) = false := decide_eq_false (by omega)
        simp -implicitDefEqProofs only [go_sem, Nat.reduceEqDiff, Nat.reduceLT, Nat.reduceAdd, Nat.reduceMul, Int.reduceEq, Int.reduceLT, Int.reduceLE, Int.reduceNe, Int.reduceBEq, Int.reduceToNat, ↓reduceIte, e1, ec, q4, d1, str_size]
        refine ⟨?_, s4⟩
        rw [decide_eq_false c60]; simp
  have d0 : decide ((v.k : Int) = 0) = false := decide_eq_false (by omega)
  have d1 : decide ((v.k : Int) = 1) = false := decide_eq_false (by omega)
  have d2 : decide ((v.k : Int) = 2) = false := decide_eq_false (by omega)
  have d3 : decide ((v.k : Int) = 3) = false := decide_eq_false (by omega)
  simp -implicitDefEqProofs only [go_sem, Nat.reduceEqDiff, Nat.reduceLT, Nat.reduceAdd, Nat.reduceMul, Int.reduceEq, Int.reduceLT, Int.reduceLE, Int.reduceNe, Int.reduceBEq, Int.reduceToNat, ↓reduceIte, q1, d0, d1, d2, d3]
  refine ⟨?_, s3⟩
  unfold rightB
  rw [decide_eq_false (by omega)]; rfl
theorem rright_ok {v : Va} : ACalls Tryd.prog w0 26 #[va v] H fun r H' => r = .bool (rightB v) ∧ H' = H := by
  refine ACalls.quiet ?_
  rw [rightB_eq]
  refine acalls_of Tryd.func26 rfl Tryd.ntmps26 r26 (by simp) ?_
  simp -implicitDefEqProofs only [go_sem, Nat.reduceEqDiff, Nat.reduceLT, Nat.reduceAdd, Nat.reduceMul, Int.reduceEq, Int.reduceLT, Int.reduceLE, Int.reduceNe, Int.reduceBEq, Int.reduceToNat, ↓reduceIte]
  refine newK_of ?_
  intro b1 H1 hb1 hn1 h1 s1 g1
  have l1 := ldc w0 (l := vc v) h1 4
  have q1 := ld_own w0 (c := (vc v).toArray) h1
  have e0 : ((str v.s).toList == (str []).toList) = (v.s == []) := by rw [str_list, str_list]
  have e0' : ((str v.s).toList == ByteArray.toList ⟨#[]⟩) = (v.s == []) := e0
  simp -implicitDefEqProofs only [go_sem, Nat.reduceEqDiff, Nat.reduceLT, Nat.reduceAdd, Nat.reduceMul, Int.reduceEq, Int.reduceLT, Int.reduceLE, Int.reduceNe, Int.reduceBEq, Int.reduceToNat, ↓reduceIte]
  refine vdraw_t [⟨0, .p, [], []⟩, ⟨1, .n, [], []⟩, ⟨2, .p, [], []⟩, ⟨3, .p, [], []⟩, ⟨4, .n, [], []⟩, ⟨5, .p, [], []⟩, ⟨6, .p, [], []⟩, ⟨7, .n, [], []⟩, ⟨8, .p, [], []⟩, ⟨9, .p, [], []⟩, ⟨10, .p, [], []⟩, ⟨11, .p, [], []⟩] [0, 1, 3, 0, 8, 24, 0, 64, 192, 7, 575, 2047] mixed (by kernel_rfl) ?_
  by_cases k0 : v.k = 0
  · have d0 : decide ((v.k : Int) = 0) = true := decide_eq_true (by omega)
    rw [if_pos k0]
    cases ei : decide (v.i = 0) with
    | false => simp -implicitDefEqProofs only [go_sem, Nat.reduceEqDiff, Nat.reduceLT, Nat.reduceAdd, Nat.reduceMul, Int.reduceEq, Int.reduceLT, Int.reduceLE, Int.reduceNe, Int.reduceBEq, Int.reduceToNat, ↓reduceIte, q1, e0', d0, ei]; first | exact s1 | exact ⟨by simp, s1⟩
    | true =>
      cases es : (v.s == []) with
      | false => simp -implicitDefEqProofs only [go_sem, Nat.reduceEqDiff, Nat.reduceLT, Nat.reduceAdd, Nat.reduceMul, Int.reduceEq, Int.reduceLT, Int.reduceLE, Int.reduceNe, Int.reduceBEq, Int.reduceToNat, ↓reduceIte, q1, e0', d0, ei, es]; first | exact s1 | exact ⟨by simp, s1⟩
      | true => simp -implicitDefEqProofs only [go_sem, Nat.reduceEqDiff, Nat.reduceLT, Nat.reduceAdd, Nat.reduceMul, Int.reduceEq, Int.reduceLT, Int.reduceLE, Int.reduceNe, Int.reduceBEq, Int.reduceToNat, ↓reduceIte, q1, e0', d0, ei, es]; first | exact s1 | exact ⟨by simp, s1⟩
  have d0 : decide ((v.k : Int) = 0) = false := decide_eq_false (by omega)
  rw [if_neg k0]
  by_cases k1 : v.k = 1
  · have d1 : decide ((v.k : Int) = 1) = true := decide_eq_true (by omega)
    rw [if_pos k1]
    cases es : (v.s == []) with
    | false => simp -implicitDefEqProofs only [go_sem, Nat.reduceEqDiff, Nat.reduceLT, Nat.reduceAdd, Nat.reduceMul, Int.reduceEq, Int.reduceLT, Int.reduceLE, Int.reduceNe, Int.reduceBEq, Int.reduceToNat, ↓reduceIte, q1, e0', d0, d1, es]; first | exact s1 | exact ⟨by simp, s1⟩
    | true => simp -implicitDefEqProofs only [go_sem, Nat.reduceEqDiff, Nat.reduceLT, Nat.reduceAdd, Nat.reduceMul, Int.reduceEq, Int.reduceLT, Int.reduceLE, Int.reduceNe, Int.reduceBEq, Int.reduceToNat, ↓reduceIte, q1, e0', d0, d1, es]; first | exact s1 | exact ⟨by simp, s1⟩
  have d1 : decide ((v.k : Int) = 1) = false := decide_eq_false (by omega)
  rw [if_neg k1]
  by_cases k2 : v.k = 2
  · have d2 : decide ((v.k : Int) = 2) = true := decide_eq_true (by omega)
    rw [if_pos k2]
    cases ei : decide (v.i = 0) with
    | false => simp -implicitDefEqProofs only [go_sem, Nat.reduceEqDiff, Nat.reduceLT, Nat.reduceAdd, Nat.reduceMul, Int.reduceEq, Int.reduceLT, Int.reduceLE, Int.reduceNe, Int.reduceBEq, Int.reduceToNat, ↓reduceIte, q1, e0', d0, d1, d2, ei]; first | exact s1 | exact ⟨by simp, s1⟩
    | true =>
      cases eb : v.b with
      | true => simp -implicitDefEqProofs only [go_sem, Nat.reduceEqDiff, Nat.reduceLT, Nat.reduceAdd, Nat.reduceMul, Int.reduceEq, Int.reduceLT, Int.reduceLE, Int.reduceNe, Int.reduceBEq, Int.reduceToNat, ↓reduceIte, q1, e0', d0, d1, d2, ei, eb]; first | exact s1 | exact ⟨by simp, s1⟩
      | false =>
        by_cases c60 : v.s.length ≤ 60
        · have d6 : decide ((v.s.length : Int) ≤ 60) = true := decide_eq_true (by omega)
          simp -implicitDefEqProofs only [go_sem, Nat.reduceEqDiff, Nat.reduceLT, Nat.reduceAdd, Nat.reduceMul, Int.reduceEq, Int.reduceLT, Int.reduceLE, Int.reduceNe, Int.reduceBEq, Int.reduceToNat, ↓reduceIte, q1, e0', d0, d1, d2, ei, eb, d6, str_size]
          refine (rvalid_ok (by omega)).mono ?_
          rintro r H5 ⟨rfl, rfl⟩
          simp -implicitDefEqProofs only [go_sem, Nat.reduceEqDiff, Nat.reduceLT, Nat.reduceAdd, Nat.reduceMul, Int.reduceEq, Int.reduceLT, Int.reduceLE, Int.reduceNe, Int.reduceBEq, Int.reduceToNat, ↓reduceIte, q1, e0', d0, d1, d2, ei, eb, d6, str_size]
          first | exact s1 | exact ⟨by rw [decide_eq_true c60]; simp, s1⟩
        · have d6 : decide ((v.s.length : Int) ≤ 60) = false := decide_eq_false (by omega)
          simp -implicitDefEqProofs only [go_sem, Nat.reduceEqDiff, Nat.reduceLT, Nat.reduceAdd, Nat.reduceMul, Int.reduceEq, Int.reduceLT, Int.reduceLE, Int.reduceNe, Int.reduceBEq, Int.reduceToNat, ↓reduceIte, q1, e0', d0, d1, d2, ei, eb, d6, str_size]
          first | exact s1 | exact ⟨by rw [decide_eq_false c60]; simp, s1⟩
  have d2 : decide ((v.k : Int) = 2) = false := decide_eq_false (by omega)
  rw [if_neg k2]
  by_cases k3 : v.k = 3
  · have d3 : decide ((v.k : Int) = 3) = true := decide_eq_true (by omega)
    rw [if_pos k3]
    cases ei : decide (v.i = 0) with
    | false => simp -implicitDefEqProofs only [go_sem, Nat.reduceEqDiff, Nat.reduceLT, Nat.reduceAdd, Nat.reduceMul, Int.reduceEq, Int.reduceLT, Int.reduceLE, Int.reduceNe, Int.reduceBEq, Int.reduceToNat, ↓reduceIte, q1, e0', d0, d1, d2, d3, ei]; first | exact s1 | exact ⟨by simp, s1⟩
    | true => simp -implicitDefEqProofs only [go_sem, Nat.reduceEqDiff, Nat.reduceLT, Nat.reduceAdd, Nat.reduceMul, Int.reduceEq, Int.reduceLT, Int.reduceLE, Int.reduceNe, Int.reduceBEq, Int.reduceToNat, ↓reduceIte, q1, e0', d0, d1, d2, d3, ei]; first | exact s1 | exact ⟨by simp, s1⟩
  have d3 : decide ((v.k : Int) = 3) = false := decide_eq_false (by omega)
  rw [if_neg k3]
  simp -implicitDefEqProofs only [go_sem, Nat.reduceEqDiff, Nat.reduceLT, Nat.reduceAdd, Nat.reduceMul, Int.reduceEq, Int.reduceLT, Int.reduceLE, Int.reduceNe, Int.reduceBEq, Int.reduceToNat, ↓reduceIte, q1, e0', d0, d1, d2, d3]
  first | exact s1 | exact ⟨by simp, s1⟩
end
end Go.Proofs.YtoolnkemkhianaaDoor
