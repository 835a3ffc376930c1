/-
  The law BookOwn, walked.
  Conditions: none.
-/
import Derived.Test.YtcpeiejabbdeiaaBst
namespace Go.Proofs.Ytcpeiejabbdeiaa
open Go Go.RowKit Go.Proofs.YtcpeiejabbdeiaaW
set_option maxRecDepth 100000
set_option maxHeartbeats 2000000
set_option linter.unusedSimpArgs false
set_option linter.unusedVariables false

/-- How many indexes are seen. -/
def cntI (index : Bool) (st : List Nat) : Nat := if index = true then (if st.headD 0 = 2 then 1 else 0) else 0
theorem own_ok (w0 : World) (commit index : Bool) :
    ACalls Try.prog w0 3 #[.bool commit, .bool index] (fun _ => none) fun r H' => r = .bool true ∧ True := by
  refine acalls_of Try.func3 rfl Try.ntmps3 r3 (by simp) ?_
  simp -implicitDefEqProofs only [go_sem, Nat.reduceEqDiff, Nat.reduceLT, Nat.reduceAdd, Nat.reduceMul, Int.reduceEq, Int.reduceLT, Int.reduceLE, Int.reduceNe, Int.reduceBEq, Int.reduceToNat, ↓reduceIte]
  refine (awake11_ok w0).mono ?_
  rintro r H' ⟨rfl, rfl⟩
  simp -implicitDefEqProofs only [go_sem, Nat.reduceEqDiff, Nat.reduceLT, Nat.reduceAdd, Nat.reduceMul, Int.reduceEq, Int.reduceLT, Int.reduceLE, Int.reduceNe, Int.reduceBEq, Int.reduceToNat, ↓reduceIte]
  refine (new_ok w0 1 _ (by omega) (by omega)).mono ?_
  rintro r H1 ⟨l, rfl, hl, hl0, hlog, hsub⟩
  simp -implicitDefEqProofs only [go_sem, Nat.reduceEqDiff, Nat.reduceLT, Nat.reduceAdd, Nat.reduceMul, Int.reduceEq, Int.reduceLT, Int.reduceLE, Int.reduceNe, Int.reduceBEq, Int.reduceToNat, ↓reduceIte]
  refine (bnew_ok w0 H1).mono ?_
  rintro r H2 ⟨bk, rfl, hbk, hbook, s2⟩
  have st2 : St H2 l (fun b => b = l) [] bk [] [] 0 [] := ⟨hlog.keep fun b o _ hb => s2 b o hb, hbook, fun p hp => by cases hp⟩
  simp -implicitDefEqProofs only [go_sem, Nat.reduceEqDiff, Nat.reduceLT, Nat.reduceAdd, Nat.reduceMul, Int.reduceEq, Int.reduceLT, Int.reduceLE, Int.reduceNe, Int.reduceBEq, Int.reduceToNat, ↓reduceIte]
  refine (begin_log st2.1 (by simp)).mono ?_
  rintro r H3 ⟨rfl, S3, hlog3, _, hf3⟩
  have st3 := st2.log hlog3 hf3
  simp -implicitDefEqProofs only [go_sem, Nat.reduceEqDiff, Nat.reduceLT, Nat.reduceAdd, Nat.reduceMul, Int.reduceEq, Int.reduceLT, Int.reduceLE, Int.reduceNe, Int.reduceBEq, Int.reduceToNat, ↓reduceIte]
  refine (begin_log st3.1 (by simp)).mono ?_
  rintro r H4 ⟨rfl, S4, hlog4, _, hf4⟩
  obtain ⟨st4, e4⟩ : ∃ st4 : List Nat, st4 = [1, 1] := ⟨_, rfl⟩
  have hl4 : st4.length = 2 := by rw [e4]; rfl
  have hlog4 : LogAt H4 l S4 1 st4 := by rw [e4]; exact hlog4
  have stA := st3.log hlog4 hf4
  have q1 : ((1 + ([] : List Nat).length : Nat) : Int) = 1 := rfl
  have q2' : ((1 + (([] : List Nat) ++ [1]).length : Nat) : Int) = 2 := rfl
  simp -implicitDefEqProofs only [go_sem, Nat.reduceEqDiff, Nat.reduceLT, Nat.reduceAdd, Nat.reduceMul, Int.reduceEq, Int.reduceLT, Int.reduceLE, Int.reduceNe, Int.reduceBEq, Int.reduceToNat, ↓reduceIte, q1, q2']
  refine (take_shot stA.1 (by omega) 1).mono ?_
  rintro r H5 ⟨z1, o1, q1', rfl, hz1, _, s5⟩
  have stB := stA.sub s5
  simp -implicitDefEqProofs only [go_sem, Nat.reduceEqDiff, Nat.reduceLT, Nat.reduceAdd, Nat.reduceMul, Int.reduceEq, Int.reduceLT, Int.reduceLE, Int.reduceNe, Int.reduceBEq, Int.reduceToNat, ↓reduceIte, q1, q2']
  refine (take_shot stB.1 (by omega) 2).mono ?_
  rintro r H6 ⟨z2, o2, q2, rfl, hz2, _, s6⟩
  have stC := stB.sub s6
  have hz1 := hz1.sub s6
  have hc1 := hz1.cell
  have hc2 := hz2.cell
  simp -implicitDefEqProofs only [go_sem, Nat.reduceEqDiff, Nat.reduceLT, Nat.reduceAdd, Nat.reduceMul, Int.reduceEq, Int.reduceLT, Int.reduceLE, Int.reduceNe, Int.reduceBEq, Int.reduceToNat, ↓reduceIte]
  refine newK_of ?_
  intro b12 H7 hb12 hn12 h12 s7 g7
  simp -implicitDefEqProofs only [go_sem, Nat.reduceEqDiff, Nat.reduceLT, Nat.reduceAdd, Nat.reduceMul, Int.reduceEq, Int.reduceLT, Int.reduceLE, Int.reduceNe, Int.reduceBEq, Int.reduceToNat, ↓reduceIte]
  refine newK_of ?_
  intro b13 H8 hb13 hn13 h13 s8 g8
  have h128 := s8 _ _ h12
  simp -implicitDefEqProofs only [go_sem, Nat.reduceEqDiff, Nat.reduceLT, Nat.reduceAdd, Nat.reduceMul, Int.reduceEq, Int.reduceLT, Int.reduceLE, Int.reduceNe, Int.reduceBEq, Int.reduceToNat, ↓reduceIte]
  refine store_all h128 rfl (by simp [cell1_int, hc1]) rfl ?_
  intro H9 h129 g9
  have n123 : b13 ≠ b12 := fun e => by rw [e] at hn13; rw [h12] at hn13; cases hn13
  have h139 := (g9 b13 n123).trans h13
  simp -implicitDefEqProofs only [go_sem, Nat.reduceEqDiff, Nat.reduceLT, Nat.reduceAdd, Nat.reduceMul, Int.reduceEq, Int.reduceLT, Int.reduceLE, Int.reduceNe, Int.reduceBEq, Int.reduceToNat, ↓reduceIte]
  refine store_all h139 rfl (by simp [cell1_int, hc2]) rfl ?_
  intro HA h13A gA
  have h12A := (gA b12 n123.symm).trans h129
  have sA : Sub H6 HA := fun b o hb => by
    have n4 : b ≠ b12 := fun e => by rw [e, hn12] at hb; cases hb
    have n5 : b ≠ b13 := fun e => by rw [e] at hb; rw [s7 _ _ hb] at hn13; cases hn13
    rw [gA b n5, g9 b n4]; exact s8 _ _ (s7 _ _ hb)
  have stD := ((stC.sub sA).add (hz1.sub sA) h12A).add (hz2.sub sA) h13A
  have l4 := ldc w0 h12A 4
  simp -implicitDefEqProofs only [go_sem, Nat.reduceEqDiff, Nat.reduceLT, Nat.reduceAdd, Nat.reduceMul, Int.reduceEq, Int.reduceLT, Int.reduceLE, Int.reduceNe, Int.reduceBEq, Int.reduceToNat, ↓reduceIte]
  refine vdraw_t [⟨0, .p, [], []⟩, ⟨1, .p, [], []⟩, ⟨2, .n, [], []⟩, ⟨3, .c, [2], []⟩, ⟨4, .c, [], []⟩, ⟨5, .p, [], []⟩, ⟨6, .p, [], []⟩, ⟨7, .p, [], []⟩, ⟨8, .p, [], []⟩, ⟨9, .p, [], []⟩] [0, 0, 0, 0, 15, 31, 63, 63, 127, 511] mixed (by kernel_rfl) ?_
  simp -implicitDefEqProofs only [go_sem, Nat.reduceEqDiff, Nat.reduceLT, Nat.reduceAdd, Nat.reduceMul, Int.reduceEq, Int.reduceLT, Int.reduceLE, Int.reduceNe, Int.reduceBEq, Int.reduceToNat, ↓reduceIte, l4, ldK_agg]
  refine (one_cols w0 HA).mono ?_
  rintro c1 HB ⟨hrc1, hfc1, sB⟩
  have stE := stD.sub sB
  have l4B := ldc w0 (stE.2.2 (b12, z1) (by simp)).2 4
  simp -implicitDefEqProofs only [go_sem, Nat.reduceEqDiff, Nat.reduceLT, Nat.reduceAdd, Nat.reduceMul, Int.reduceEq, Int.reduceLT, Int.reduceLE, Int.reduceNe, Int.reduceBEq, Int.reduceToNat, ↓reduceIte, l4B, ldK_agg]
  refine (create_ok stE.2.1 (by simp) (by simp) (by omega) stE.1 (by omega) (stE.2.2 (b12, z1) (by simp)).1 ⟨#[116]⟩ (by decide) hrc1).mono ?_
  rintro r HC ⟨oC, fC, hC⟩
  have cC : createC st4 z1 [] [] ⟨#[116]⟩ = 0 := by obtain ⟨u1, u2, u3, u4⟩ := z1; subst o1 q1' e4; kernel_rfl
  rcases hC with ⟨hC, _⟩ | ⟨_, rfl, t1, ht1, _, hbookC⟩
  · exact absurd cC hC
  have hbookC : BookAt HC bk [t1] [] 1 := hbookC
  have stF := stE.out oC hbookC
  have q3' : ((0 + 1 : Nat) : Int) = 1 := rfl
  have fMine : (findT st4 z1 [t1] ⟨#[116]⟩).isSome = true := by
    obtain ⟨u1, u2, u3, u4⟩ := z1; obtain ⟨v1, v2, v3⟩ := t1
    subst o1 q1' e4 ht1; kernel_rfl
  have fTheirs : (findT st4 z2 [t1] ⟨#[116]⟩).isSome = false := by
    obtain ⟨u1, u2, u3, u4⟩ := z2; obtain ⟨w1, w2, w3, w4⟩ := z1; obtain ⟨v1, v2, v3⟩ := t1
    subst o2 q2 o1 q1' e4 ht1; kernel_rfl
  cases index
  · simp -implicitDefEqProofs only [go_sem, Nat.reduceEqDiff, Nat.reduceLT, Nat.reduceAdd, Nat.reduceMul, Int.reduceEq, Int.reduceLT, Int.reduceLE, Int.reduceNe, Int.reduceBEq, Int.reduceToNat, ↓reduceIte, q3']
    have stX := stF
    have fCnt : ∀ (st : List Nat) (z : Shot), z.own = 3 → z.old = st → (st = [3, 1, 1] ∨ st = [2, 1, 1]) → (([] : List Ix).filter (idxP st z [t1] 1)).length = cntI false st := fun st z _ _ _ => rfl
    have fCnt2 : ∀ (st : List Nat) (z : Shot), z.own = 2 → z.old = st4 → (st = [3, 1, 1] ∨ st = [2, 1, 1]) → (([] : List Ix).filter (idxP st z [t1] 1)).length = 0 := fun st z _ _ _ => rfl
    have lX1 := ldc w0 (stX.2.2 (b12, z1) (by simp)).2 4
    
    simp -implicitDefEqProofs only [go_sem, Nat.reduceEqDiff, Nat.reduceLT, Nat.reduceAdd, Nat.reduceMul, Int.reduceEq, Int.reduceLT, Int.reduceLE, Int.reduceNe, Int.reduceBEq, Int.reduceToNat, ↓reduceIte, lX1, ldK_agg]
    refine (tableQ_ok stX.2.1 (by simp) stX.1 (by omega) (stX.2.2 (b12, z1) (by simp)).1 ⟨#[116]⟩).mono ?_
    rintro r Y1 ⟨⟨nm1, cv1, a1, c1, rfl, hcv1⟩, sY1⟩
    have stY1 := stX.sub sY1
    rw [fMine]
    simp -implicitDefEqProofs only [go_sem, Nat.reduceEqDiff, Nat.reduceLT, Nat.reduceAdd, Nat.reduceMul, Int.reduceEq, Int.reduceLT, Int.reduceLE, Int.reduceNe, Int.reduceBEq, Int.reduceToNat, ↓reduceIte]
    refine newK_of ?_
    intro b18 Y2 hb18 hn18 h18 s18 g18
    simp -implicitDefEqProofs only [go_sem, Nat.reduceEqDiff, Nat.reduceLT, Nat.reduceAdd, Nat.reduceMul, Int.reduceEq, Int.reduceLT, Int.reduceLE, Int.reduceNe, Int.reduceBEq, Int.reduceToNat, ↓reduceIte]
    refine store_all h18 rfl (by simp [cell1_int, cell1_string, hcv1]) rfl ?_
    intro Y3 h18' g18'
    have stY3 := stY1.sub (Sub.ne2 hn18 g18 g18')
    have lY3 := ldc w0 (stY3.2.2 (b13, z2) (by simp)).2 4
    simp -implicitDefEqProofs only [go_sem, Nat.reduceEqDiff, Nat.reduceLT, Nat.reduceAdd, Nat.reduceMul, Int.reduceEq, Int.reduceLT, Int.reduceLE, Int.reduceNe, Int.reduceBEq, Int.reduceToNat, ↓reduceIte, lY3, ldK_agg]
    refine (tableQ_ok stY3.2.1 (by simp) stY3.1 (by omega) (stY3.2.2 (b13, z2) (by simp)).1 ⟨#[116]⟩).mono ?_
    rintro r Y4 ⟨⟨nm2, cv2, a2, c2, rfl, hcv2⟩, sY4⟩
    have stY4 := stY3.sub sY4
    rw [fTheirs]
    simp -implicitDefEqProofs only [go_sem, Nat.reduceEqDiff, Nat.reduceLT, Nat.reduceAdd, Nat.reduceMul, Int.reduceEq, Int.reduceLT, Int.reduceLE, Int.reduceNe, Int.reduceBEq, Int.reduceToNat, ↓reduceIte]
    refine newK_of ?_
    intro b20 Y5 hb20 hn20 h20 s20 g20
    simp -implicitDefEqProofs only [go_sem, Nat.reduceEqDiff, Nat.reduceLT, Nat.reduceAdd, Nat.reduceMul, Int.reduceEq, Int.reduceLT, Int.reduceLE, Int.reduceNe, Int.reduceBEq, Int.reduceToNat, ↓reduceIte]
    refine store_all h20 rfl (by simp [cell1_int, cell1_string, hcv2]) rfl ?_
    intro Y6 h20' g20'
    have stY6 := stY4.sub (Sub.ne2 hn20 g20 g20')
    have q1 : ((1 + ([] : List Nat).length : Nat) : Int) = 1 := rfl
    cases commit
    · simp -implicitDefEqProofs only [go_sem, Nat.reduceEqDiff, Nat.reduceLT, Nat.reduceAdd, Nat.reduceMul, Int.reduceEq, Int.reduceLT, Int.reduceLE, Int.reduceNe, Int.reduceBEq, Int.reduceToNat, ↓reduceIte, q1]
      refine (abort_log stY6.1 (by omega) (x := 1) (by omega)).mono ?_
      rintro r Y7 ⟨rfl, hlog7, hf7⟩
      obtain ⟨st5, e5⟩ : ∃ st5 : List Nat, st5 = [3, 1] := ⟨_, rfl⟩
      have e6 : endSts 1 st4 1 3 = st5 := by rw [e4, e5]; decide +kernel
      obtain ⟨st6, e7⟩ : ∃ st6 : List Nat, st6 = [3, 1, 1] := ⟨_, rfl⟩
      have e8 : st5 ++ [1] = st6 := by rw [e5, e7]; rfl
      rw [e6] at hlog7
      have stY7 := stY6.log hlog7 hf7
      have hl5 : st5.length = 2 := by rw [e5]; rfl
      have hl6 : st6.length = 3 := by rw [e7]; rfl
      simp -implicitDefEqProofs only [go_sem, Nat.reduceEqDiff, Nat.reduceLT, Nat.reduceAdd, Nat.reduceMul, Int.reduceEq, Int.reduceLT, Int.reduceLE, Int.reduceNe, Int.reduceBEq, Int.reduceToNat, ↓reduceIte]
      refine (begin_log stY7.1 (by omega)).mono ?_
      rintro r Y8 ⟨rfl, S8, hlog8, _, hf8⟩
      rw [e8] at hlog8
      have stY8 := stY7.log hlog8 hf8
      rw [hl5]
      have q3 : ((1 + 2 : Nat) : Int) = 3 := rfl
      simp -implicitDefEqProofs only [go_sem, Nat.reduceEqDiff, Nat.reduceLT, Nat.reduceAdd, Nat.reduceMul, Int.reduceEq, Int.reduceLT, Int.reduceLE, Int.reduceNe, Int.reduceBEq, Int.reduceToNat, ↓reduceIte, q3]
      refine (take_shot stY8.1 (by omega) 3).mono ?_
      rintro r Y9 ⟨z3, o3, p3, rfl, hz3, _, sY9⟩
      have stY9 := stY8.sub sY9
      have hc3 := hz3.cell
      simp -implicitDefEqProofs only [go_sem, Nat.reduceEqDiff, Nat.reduceLT, Nat.reduceAdd, Nat.reduceMul, Int.reduceEq, Int.reduceLT, Int.reduceLE, Int.reduceNe, Int.reduceBEq, Int.reduceToNat, ↓reduceIte]
      refine newK_of ?_
      intro b24 YA hb24 hn24 h24 s24 g24
      simp -implicitDefEqProofs only [go_sem, Nat.reduceEqDiff, Nat.reduceLT, Nat.reduceAdd, Nat.reduceMul, Int.reduceEq, Int.reduceLT, Int.reduceLE, Int.reduceNe, Int.reduceBEq, Int.reduceToNat, ↓reduceIte]
      refine store_all h24 rfl (by simp [cell1_int, hc3]) rfl ?_
      intro YB h24' g24'
      have sYB := Sub.ne2 hn24 g24 g24'
      have stYB := (stY9.sub sYB).add (hz3.sub sYB) h24'
      have lB := ldc w0 (stYB.2.2 (b13, z2) (by simp)).2 4
      simp -implicitDefEqProofs only [go_sem, Nat.reduceEqDiff, Nat.reduceLT, Nat.reduceAdd, Nat.reduceMul, Int.reduceEq, Int.reduceLT, Int.reduceLE, Int.reduceNe, Int.reduceBEq, Int.reduceToNat, ↓reduceIte, lB, ldK_agg]
      refine (tableQ_ok stYB.2.1 (by simp) stYB.1 (by omega) (stYB.2.2 (b13, z2) (by simp)).1 ⟨#[116]⟩).mono ?_
      rintro r YC ⟨⟨nm3, cv3, a3, c3, rfl, hcv3⟩, sYC⟩
      have stYC := stYB.sub sYC
      have fLate : (findT st6 z2 [t1] ⟨#[116]⟩).isSome = false := by
        obtain ⟨u1, u2, u3, u4⟩ := z2; obtain ⟨w1, w2, w3, w4⟩ := z1; obtain ⟨v1, v2, v3⟩ := t1
        subst o2 q2 o1 q1' e4 e7 ht1; kernel_rfl
      rw [fLate]
      simp -implicitDefEqProofs only [go_sem, Nat.reduceEqDiff, Nat.reduceLT, Nat.reduceAdd, Nat.reduceMul, Int.reduceEq, Int.reduceLT, Int.reduceLE, Int.reduceNe, Int.reduceBEq, Int.reduceToNat, ↓reduceIte]
      refine newK_of ?_
      intro b25 YD hb25 hn25 h25 s25 g25
      simp -implicitDefEqProofs only [go_sem, Nat.reduceEqDiff, Nat.reduceLT, Nat.reduceAdd, Nat.reduceMul, Int.reduceEq, Int.reduceLT, Int.reduceLE, Int.reduceNe, Int.reduceBEq, Int.reduceToNat, ↓reduceIte]
      refine store_all h25 rfl (by simp [cell1_int, cell1_string, hcv3]) rfl ?_
      intro YE h25' g25'
      have stYE := stYC.sub (Sub.ne2 hn25 g25 g25')
      have lE := ldc w0 (stYE.2.2 (b24, z3) (by simp)).2 4
      simp -implicitDefEqProofs only [go_sem, Nat.reduceEqDiff, Nat.reduceLT, Nat.reduceAdd, Nat.reduceMul, Int.reduceEq, Int.reduceLT, Int.reduceLE, Int.reduceNe, Int.reduceBEq, Int.reduceToNat, ↓reduceIte, lE, ldK_agg]
      refine (tableQ_ok stYE.2.1 (by simp) stYE.1 (by omega) (stYE.2.2 (b24, z3) (by simp)).1 ⟨#[116]⟩).mono ?_
      rintro r YF ⟨⟨nm4, cv4, a4, c4, rfl, hcv4⟩, sYF⟩
      have stYF := stYE.sub sYF
      have fNew : (findT st6 z3 [t1] ⟨#[116]⟩).isSome = decide (st6.getD 0 0 = 2) := by
        obtain ⟨u1, u2, u3, u4⟩ := z3; obtain ⟨w1, w2, w3, w4⟩ := z1; obtain ⟨v1, v2, v3⟩ := t1
        subst o3 p3 o1 q1' e4 e7 ht1; kernel_rfl
      have gNew : st6.getD 0 0 = 3 ∨ st6.getD 0 0 = 2 := by rw [e7]; first | exact .inl rfl | exact .inr rfl
      rw [fNew]
      simp -implicitDefEqProofs only [go_sem, Nat.reduceEqDiff, Nat.reduceLT, Nat.reduceAdd, Nat.reduceMul, Int.reduceEq, Int.reduceLT, Int.reduceLE, Int.reduceNe, Int.reduceBEq, Int.reduceToNat, ↓reduceIte]
      refine newK_of ?_
      intro b27 YG hb27 hn27 h27 s27 g27
      simp -implicitDefEqProofs only [go_sem, Nat.reduceEqDiff, Nat.reduceLT, Nat.reduceAdd, Nat.reduceMul, Int.reduceEq, Int.reduceLT, Int.reduceLE, Int.reduceNe, Int.reduceBEq, Int.reduceToNat, ↓reduceIte]
      refine store_all h27 rfl (by simp [cell1_int, cell1_string, hcv4]) rfl ?_
      intro YH h27' g27'
      have stYH := stYF.sub (Sub.ne2 hn27 g27 g27')
      have lH := ldc w0 (stYH.2.2 (b24, z3) (by simp)).2 4
      have nNew : st6.getD 0 0 = st6.headD 0 := by rw [e7]; rfl
      have dNew : decide (st6.getD 0 0 = 2) = decide (st6.headD 0 = 2) := by rw [nNew]
      rw [e7]
      have w3 : decide (([3, 1, 1] : List Nat).getD 0 0 = 2) = false := rfl
      have w2 : decide (([2, 1, 1] : List Nat).getD 0 0 = 2) = true := rfl
      have bb : (true == true) = true := rfl
      have bf : (false == false) = true := rfl
      simp -implicitDefEqProofs only [go_sem, Nat.reduceEqDiff, Nat.reduceLT, Nat.reduceAdd, Nat.reduceMul, Int.reduceEq, Int.reduceLT, Int.reduceLE, Int.reduceNe, Int.reduceBEq, Int.reduceToNat, ↓reduceIte, lH, ldK_agg, w2, w3, bb, bf]
      refine (indexes_ok stYH.2.1 (by simp) (by simp) stYH.1 (by omega) (stYH.2.2 (b24, z3) (by simp)).1 1).mono ?_
      rintro r YI ⟨⟨ia, ic, rfl⟩, sYI⟩
      have stYI := stYH.sub sYI
      have lI := ldc w0 (stYI.2.2 (b13, z2) (by simp)).2 4
      have fC3 := fCnt st6 z3 o3 p3 (by rw [e7]; first | exact .inl rfl | exact .inr rfl)
      rw [fC3]
      have c0 : ((0 : Nat) : Int) = 0 := rfl
      have c1' : ((1 : Nat) : Int) = 1 := rfl
      have gC : st6.headD 0 = st6.headD 0 := rfl
      have hd3 : decide ((st6.headD 0) = 2) = decide ((st6.headD 0) = 2) := rfl
      rw [e7]
      have k3 : cntI false [3, 1, 1] = 0 := rfl
      have k2 : cntI false [2, 1, 1] = 0 := rfl
      have k31 : cntI true [3, 1, 1] = 0 := rfl
      have k21 : cntI true [2, 1, 1] = 1 := rfl
      simp -implicitDefEqProofs only [go_sem, Nat.reduceEqDiff, Nat.reduceLT, Nat.reduceAdd, Nat.reduceMul, Int.reduceEq, Int.reduceLT, Int.reduceLE, Int.reduceNe, Int.reduceBEq, Int.reduceToNat, ↓reduceIte, lI, ldK_agg, k3, k2, k31, k21, c0, c1']
      refine (indexes_ok stYI.2.1 (by simp) (by simp) stYI.1 (by omega) (stYI.2.2 (b13, z2) (by simp)).1 1).mono ?_
      rintro r YJ ⟨⟨ja, jc, rfl⟩, sYJ⟩
      have fC2 := fCnt2 st6 z2 o2 q2 (by rw [e7]; first | exact .inl rfl | exact .inr rfl)
      rw [fC2]
      simp -implicitDefEqProofs only [go_sem, Nat.reduceEqDiff, Nat.reduceLT, Nat.reduceAdd, Nat.reduceMul, Int.reduceEq, Int.reduceLT, Int.reduceLE, Int.reduceNe, Int.reduceBEq, Int.reduceToNat, ↓reduceIte, c0]
    · simp -implicitDefEqProofs only [go_sem, Nat.reduceEqDiff, Nat.reduceLT, Nat.reduceAdd, Nat.reduceMul, Int.reduceEq, Int.reduceLT, Int.reduceLE, Int.reduceNe, Int.reduceBEq, Int.reduceToNat, ↓reduceIte, q1]
      refine (commit_log stY6.1 (by omega) (x := 1) (by omega)).mono ?_
      rintro r Y7 ⟨rfl, hlog7, hf7⟩
      obtain ⟨st5, e5⟩ : ∃ st5 : List Nat, st5 = [2, 1] := ⟨_, rfl⟩
      have e6 : endSts 1 st4 1 2 = st5 := by rw [e4, e5]; decide +kernel
      obtain ⟨st6, e7⟩ : ∃ st6 : List Nat, st6 = [2, 1, 1] := ⟨_, rfl⟩
      have e8 : st5 ++ [1] = st6 := by rw [e5, e7]; rfl
      rw [e6] at hlog7
      have stY7 := stY6.log hlog7 hf7
      have hl5 : st5.length = 2 := by rw [e5]; rfl
      have hl6 : st6.length = 3 := by rw [e7]; rfl
      simp -implicitDefEqProofs only [go_sem, Nat.reduceEqDiff, Nat.reduceLT, Nat.reduceAdd, Nat.reduceMul, Int.reduceEq, Int.reduceLT, Int.reduceLE, Int.reduceNe, Int.reduceBEq, Int.reduceToNat, ↓reduceIte]
      refine (begin_log stY7.1 (by omega)).mono ?_
      rintro r Y8 ⟨rfl, S8, hlog8, _, hf8⟩
      rw [e8] at hlog8
      have stY8 := stY7.log hlog8 hf8
      rw [hl5]
      have q3 : ((1 + 2 : Nat) : Int) = 3 := rfl
      simp -implicitDefEqProofs only [go_sem, Nat.reduceEqDiff, Nat.reduceLT, Nat.reduceAdd, Nat.reduceMul, Int.reduceEq, Int.reduceLT, Int.reduceLE, Int.reduceNe, Int.reduceBEq, Int.reduceToNat, ↓reduceIte, q3]
      refine (take_shot stY8.1 (by omega) 3).mono ?_
      rintro r Y9 ⟨z3, o3, p3, rfl, hz3, _, sY9⟩
      have stY9 := stY8.sub sY9
      have hc3 := hz3.cell
      simp -implicitDefEqProofs only [go_sem, Nat.reduceEqDiff, Nat.reduceLT, Nat.reduceAdd, Nat.reduceMul, Int.reduceEq, Int.reduceLT, Int.reduceLE, Int.reduceNe, Int.reduceBEq, Int.reduceToNat, ↓reduceIte]
      refine newK_of ?_
      intro b24 YA hb24 hn24 h24 s24 g24
      simp -implicitDefEqProofs only [go_sem, Nat.reduceEqDiff, Nat.reduceLT, Nat.reduceAdd, Nat.reduceMul, Int.reduceEq, Int.reduceLT, Int.reduceLE, Int.reduceNe, Int.reduceBEq, Int.reduceToNat, ↓reduceIte]
      refine store_all h24 rfl (by simp [cell1_int, hc3]) rfl ?_
      intro YB h24' g24'
      have sYB := Sub.ne2 hn24 g24 g24'
      have stYB := (stY9.sub sYB).add (hz3.sub sYB) h24'
      have lB := ldc w0 (stYB.2.2 (b13, z2) (by simp)).2 4
      simp -implicitDefEqProofs only [go_sem, Nat.reduceEqDiff, Nat.reduceLT, Nat.reduceAdd, Nat.reduceMul, Int.reduceEq, Int.reduceLT, Int.reduceLE, Int.reduceNe, Int.reduceBEq, Int.reduceToNat, ↓reduceIte, lB, ldK_agg]
      refine (tableQ_ok stYB.2.1 (by simp) stYB.1 (by omega) (stYB.2.2 (b13, z2) (by simp)).1 ⟨#[116]⟩).mono ?_
      rintro r YC ⟨⟨nm3, cv3, a3, c3, rfl, hcv3⟩, sYC⟩
      have stYC := stYB.sub sYC
      have fLate : (findT st6 z2 [t1] ⟨#[116]⟩).isSome = false := by
        obtain ⟨u1, u2, u3, u4⟩ := z2; obtain ⟨w1, w2, w3, w4⟩ := z1; obtain ⟨v1, v2, v3⟩ := t1
        subst o2 q2 o1 q1' e4 e7 ht1; kernel_rfl
      rw [fLate]
      simp -implicitDefEqProofs only [go_sem, Nat.reduceEqDiff, Nat.reduceLT, Nat.reduceAdd, Nat.reduceMul, Int.reduceEq, Int.reduceLT, Int.reduceLE, Int.reduceNe, Int.reduceBEq, Int.reduceToNat, ↓reduceIte]
      refine newK_of ?_
      intro b25 YD hb25 hn25 h25 s25 g25
      simp -implicitDefEqProofs only [go_sem, Nat.reduceEqDiff, Nat.reduceLT, Nat.reduceAdd, Nat.reduceMul, Int.reduceEq, Int.reduceLT, Int.reduceLE, Int.reduceNe, Int.reduceBEq, Int.reduceToNat, ↓reduceIte]
      refine store_all h25 rfl (by simp [cell1_int, cell1_string, hcv3]) rfl ?_
      intro YE h25' g25'
      have stYE := stYC.sub (Sub.ne2 hn25 g25 g25')
      have lE := ldc w0 (stYE.2.2 (b24, z3) (by simp)).2 4
      simp -implicitDefEqProofs only [go_sem, Nat.reduceEqDiff, Nat.reduceLT, Nat.reduceAdd, Nat.reduceMul, Int.reduceEq, Int.reduceLT, Int.reduceLE, Int.reduceNe, Int.reduceBEq, Int.reduceToNat, ↓reduceIte, lE, ldK_agg]
      refine (tableQ_ok stYE.2.1 (by simp) stYE.1 (by omega) (stYE.2.2 (b24, z3) (by simp)).1 ⟨#[116]⟩).mono ?_
      rintro r YF ⟨⟨nm4, cv4, a4, c4, rfl, hcv4⟩, sYF⟩
      have stYF := stYE.sub sYF
      have fNew : (findT st6 z3 [t1] ⟨#[116]⟩).isSome = decide (st6.getD 0 0 = 2) := by
        obtain ⟨u1, u2, u3, u4⟩ := z3; obtain ⟨w1, w2, w3, w4⟩ := z1; obtain ⟨v1, v2, v3⟩ := t1
        subst o3 p3 o1 q1' e4 e7 ht1; kernel_rfl
      have gNew : st6.getD 0 0 = 3 ∨ st6.getD 0 0 = 2 := by rw [e7]; first | exact .inl rfl | exact .inr rfl
      rw [fNew]
      simp -implicitDefEqProofs only [go_sem, Nat.reduceEqDiff, Nat.reduceLT, Nat.reduceAdd, Nat.reduceMul, Int.reduceEq, Int.reduceLT, Int.reduceLE, Int.reduceNe, Int.reduceBEq, Int.reduceToNat, ↓reduceIte]
      refine newK_of ?_
      intro b27 YG hb27 hn27 h27 s27 g27
      simp -implicitDefEqProofs only [go_sem, Nat.reduceEqDiff, Nat.reduceLT, Nat.reduceAdd, Nat.reduceMul, Int.reduceEq, Int.reduceLT, Int.reduceLE, Int.reduceNe, Int.reduceBEq, Int.reduceToNat, ↓reduceIte]
      refine store_all h27 rfl (by simp [cell1_int, cell1_string, hcv4]) rfl ?_
      intro YH h27' g27'
      have stYH := stYF.sub (Sub.ne2 hn27 g27 g27')
      have lH := ldc w0 (stYH.2.2 (b24, z3) (by simp)).2 4
      have nNew : st6.getD 0 0 = st6.headD 0 := by rw [e7]; rfl
      have dNew : decide (st6.getD 0 0 = 2) = decide (st6.headD 0 = 2) := by rw [nNew]
      rw [e7]
      have w3 : decide (([3, 1, 1] : List Nat).getD 0 0 = 2) = false := rfl
      have w2 : decide (([2, 1, 1] : List Nat).getD 0 0 = 2) = true := rfl
      have bb : (true == true) = true := rfl
      have bf : (false == false) = true := rfl
      simp -implicitDefEqProofs only [go_sem, Nat.reduceEqDiff, Nat.reduceLT, Nat.reduceAdd, Nat.reduceMul, Int.reduceEq, Int.reduceLT, Int.reduceLE, Int.reduceNe, Int.reduceBEq, Int.reduceToNat, ↓reduceIte, lH, ldK_agg, w2, w3, bb, bf]
      refine (indexes_ok stYH.2.1 (by simp) (by simp) stYH.1 (by omega) (stYH.2.2 (b24, z3) (by simp)).1 1).mono ?_
      rintro r YI ⟨⟨ia, ic, rfl⟩, sYI⟩
      have stYI := stYH.sub sYI
      have lI := ldc w0 (stYI.2.2 (b13, z2) (by simp)).2 4
      have fC3 := fCnt st6 z3 o3 p3 (by rw [e7]; first | exact .inl rfl | exact .inr rfl)
      rw [fC3]
      have c0 : ((0 : Nat) : Int) = 0 := rfl
      have c1' : ((1 : Nat) : Int) = 1 := rfl
      have gC : st6.headD 0 = st6.headD 0 := rfl
      have hd3 : decide ((st6.headD 0) = 2) = decide ((st6.headD 0) = 2) := rfl
      rw [e7]
      have k3 : cntI false [3, 1, 1] = 0 := rfl
      have k2 : cntI false [2, 1, 1] = 0 := rfl
      have k31 : cntI true [3, 1, 1] = 0 := rfl
      have k21 : cntI true [2, 1, 1] = 1 := rfl
      simp -implicitDefEqProofs only [go_sem, Nat.reduceEqDiff, Nat.reduceLT, Nat.reduceAdd, Nat.reduceMul, Int.reduceEq, Int.reduceLT, Int.reduceLE, Int.reduceNe, Int.reduceBEq, Int.reduceToNat, ↓reduceIte, lI, ldK_agg, k3, k2, k31, k21, c0, c1']
      refine (indexes_ok stYI.2.1 (by simp) (by simp) stYI.1 (by omega) (stYI.2.2 (b13, z2) (by simp)).1 1).mono ?_
      rintro r YJ ⟨⟨ja, jc, rfl⟩, sYJ⟩
      have fC2 := fCnt2 st6 z2 o2 q2 (by rw [e7]; first | exact .inl rfl | exact .inr rfl)
      rw [fC2]
      simp -implicitDefEqProofs only [go_sem, Nat.reduceEqDiff, Nat.reduceLT, Nat.reduceAdd, Nat.reduceMul, Int.reduceEq, Int.reduceLT, Int.reduceLE, Int.reduceNe, Int.reduceBEq, Int.reduceToNat, ↓reduceIte, c0]
  · have lF := ldc w0 (stF.2.2 (b12, z1) (by simp)).2 4
    simp -implicitDefEqProofs only [go_sem, Nat.reduceEqDiff, Nat.reduceLT, Nat.reduceAdd, Nat.reduceMul, Int.reduceEq, Int.reduceLT, Int.reduceLE, Int.reduceNe, Int.reduceBEq, Int.reduceToNat, ↓reduceIte, q3', lF, ldK_agg]
    refine (createX_ok stF.2.1 (by simp) (by simp) (by omega) stF.1 (by omega) (stF.2.2 (b12, z1) (by simp)).1 ⟨#[105]⟩ ⟨#[116]⟩ (by decide)).mono ?_
    rintro r HD ⟨oD, hD⟩
    have cD : createX st4 z1 [t1] [] ⟨#[105]⟩ ⟨#[116]⟩ = 0 := by
      obtain ⟨u1, u2, u3, u4⟩ := z1; obtain ⟨v1, v2, v3⟩ := t1
      subst o1 q1' e4 ht1; kernel_rfl
    rcases hD with ⟨hD, _⟩ | ⟨_, x1, t', hft, hx1, hx2, hx3, rfl, _, hbookD⟩
    · exact absurd cD hD
    have hbookD : BookAt HD bk [t1] [x1] 2 := hbookD
    have stG := stF.out oD hbookD
    have ft1 : findT st4 z1 [t1] ⟨#[116]⟩ = some t1 := by
      obtain ⟨u1, u2, u3, u4⟩ := z1; obtain ⟨v1, v2, v3⟩ := t1
      subst o1 q1' e4 ht1; kernel_rfl
    rw [ft1] at hft
    obtain rfl := Option.some.inj hft
    have et : x1.told = [.int .u64 2, .string ⟨#[105]⟩, .int .u64 1, .int .i64 0, .int .u64 1, .int .u64 0] := by
      obtain ⟨w1, w2, w3, w4⟩ := x1; obtain ⟨v1, v2, v3⟩ := t1; obtain ⟨u1, u2, u3, u4⟩ := z1
      subst o1 ht1 hx1 hx2 hx3; rfl
    rw [et]
    simp -implicitDefEqProofs only [go_sem, Nat.reduceEqDiff, Nat.reduceLT, Nat.reduceAdd, Nat.reduceMul, Int.reduceEq, Int.reduceLT, Int.reduceLE, Int.reduceNe, Int.reduceBEq, Int.reduceToNat, ↓reduceIte]
    refine newK_of ?_
    intro b16 HE hb16 hn16 h16 s16 g16
    simp -implicitDefEqProofs only [go_sem, Nat.reduceEqDiff, Nat.reduceLT, Nat.reduceAdd, Nat.reduceMul, Int.reduceEq, Int.reduceLT, Int.reduceLE, Int.reduceNe, Int.reduceBEq, Int.reduceToNat, ↓reduceIte]
    refine store_all h16 rfl (by simp [cell1_int, cell1_string]) rfl ?_
    intro HF h16' g16'
    have stX := stG.sub (Sub.ne2 hn16 g16 g16')
    have l16 := ld_own w0 h16'
    have fCnt : ∀ (st : List Nat) (z : Shot), z.own = 3 → z.old = st → (st = [3, 1, 1] ∨ st = [2, 1, 1]) → ([x1].filter (idxP st z [t1] 1)).length = cntI true st := fun st z a1 a2 a3 => by
      obtain ⟨w1, w2, w3, w4⟩ := x1; obtain ⟨v1, v2, v3⟩ := t1; obtain ⟨u1, u2, u3, u4⟩ := z1; obtain ⟨m1, m2, m3, m4⟩ := z
      rcases a3 with rfl | rfl <;> (subst o1 ht1 hx1 hx2 hx3 a1 a2; kernel_rfl)
    have fCnt2 : ∀ (st : List Nat) (z : Shot), z.own = 2 → z.old = st4 → (st = [3, 1, 1] ∨ st = [2, 1, 1]) → ([x1].filter (idxP st z [t1] 1)).length = 0 := fun st z a1 a2 a3 => by
      obtain ⟨w1, w2, w3, w4⟩ := x1; obtain ⟨v1, v2, v3⟩ := t1; obtain ⟨u1, u2, u3, u4⟩ := z1; obtain ⟨m1, m2, m3, m4⟩ := z
      rcases a3 with rfl | rfl <;> (subst o1 ht1 hx1 hx2 hx3 a1 a2 e4; kernel_rfl)
    have lX1 := ldc w0 (stX.2.2 (b12, z1) (by simp)).2 4
    simp -implicitDefEqProofs only [go_sem, Nat.reduceEqDiff, Nat.reduceLT, Nat.reduceAdd, Nat.reduceMul, Int.reduceEq, Int.reduceLT, Int.reduceLE, Int.reduceNe, Int.reduceBEq, Int.reduceToNat, ↓reduceIte, l16]
    
    simp -implicitDefEqProofs only [go_sem, Nat.reduceEqDiff, Nat.reduceLT, Nat.reduceAdd, Nat.reduceMul, Int.reduceEq, Int.reduceLT, Int.reduceLE, Int.reduceNe, Int.reduceBEq, Int.reduceToNat, ↓reduceIte, lX1, ldK_agg]
    refine (tableQ_ok stX.2.1 (by simp) stX.1 (by omega) (stX.2.2 (b12, z1) (by simp)).1 ⟨#[116]⟩).mono ?_
    rintro r Y1 ⟨⟨nm1, cv1, a1, c1, rfl, hcv1⟩, sY1⟩
    have stY1 := stX.sub sY1
    rw [fMine]
    simp -implicitDefEqProofs only [go_sem, Nat.reduceEqDiff, Nat.reduceLT, Nat.reduceAdd, Nat.reduceMul, Int.reduceEq, Int.reduceLT, Int.reduceLE, Int.reduceNe, Int.reduceBEq, Int.reduceToNat, ↓reduceIte]
    refine newK_of ?_
    intro b18 Y2 hb18 hn18 h18 s18 g18
    simp -implicitDefEqProofs only [go_sem, Nat.reduceEqDiff, Nat.reduceLT, Nat.reduceAdd, Nat.reduceMul, Int.reduceEq, Int.reduceLT, Int.reduceLE, Int.reduceNe, Int.reduceBEq, Int.reduceToNat, ↓reduceIte]
    refine store_all h18 rfl (by simp [cell1_int, cell1_string, hcv1]) rfl ?_
    intro Y3 h18' g18'
    have stY3 := stY1.sub (Sub.ne2 hn18 g18 g18')
    have lY3 := ldc w0 (stY3.2.2 (b13, z2) (by simp)).2 4
    simp -implicitDefEqProofs only [go_sem, Nat.reduceEqDiff, Nat.reduceLT, Nat.reduceAdd, Nat.reduceMul, Int.reduceEq, Int.reduceLT, Int.reduceLE, Int.reduceNe, Int.reduceBEq, Int.reduceToNat, ↓reduceIte, lY3, ldK_agg]
    refine (tableQ_ok stY3.2.1 (by simp) stY3.1 (by omega) (stY3.2.2 (b13, z2) (by simp)).1 ⟨#[116]⟩).mono ?_
    rintro r Y4 ⟨⟨nm2, cv2, a2, c2, rfl, hcv2⟩, sY4⟩
    have stY4 := stY3.sub sY4
    rw [fTheirs]
    simp -implicitDefEqProofs only [go_sem, Nat.reduceEqDiff, Nat.reduceLT, Nat.reduceAdd, Nat.reduceMul, Int.reduceEq, Int.reduceLT, Int.reduceLE, Int.reduceNe, Int.reduceBEq, Int.reduceToNat, ↓reduceIte]
    refine newK_of ?_
    intro b20 Y5 hb20 hn20 h20 s20 g20
    simp -implicitDefEqProofs only [go_sem, Nat.reduceEqDiff, Nat.reduceLT, Nat.reduceAdd, Nat.reduceMul, Int.reduceEq, Int.reduceLT, Int.reduceLE, Int.reduceNe, Int.reduceBEq, Int.reduceToNat, ↓reduceIte]
    refine store_all h20 rfl (by simp [cell1_int, cell1_string, hcv2]) rfl ?_
    intro Y6 h20' g20'
    have stY6 := stY4.sub (Sub.ne2 hn20 g20 g20')
    have q1 : ((1 + ([] : List Nat).length : Nat) : Int) = 1 := rfl
    cases commit
    · simp -implicitDefEqProofs only [go_sem, Nat.reduceEqDiff, Nat.reduceLT, Nat.reduceAdd, Nat.reduceMul, Int.reduceEq, Int.reduceLT, Int.reduceLE, Int.reduceNe, Int.reduceBEq, Int.reduceToNat, ↓reduceIte, q1]
      refine (abort_log stY6.1 (by omega) (x := 1) (by omega)).mono ?_
      rintro r Y7 ⟨rfl, hlog7, hf7⟩
      obtain ⟨st5, e5⟩ : ∃ st5 : List Nat, st5 = [3, 1] := ⟨_, rfl⟩
      have e6 : endSts 1 st4 1 3 = st5 := by rw [e4, e5]; decide +kernel
      obtain ⟨st6, e7⟩ : ∃ st6 : List Nat, st6 = [3, 1, 1] := ⟨_, rfl⟩
      have e8 : st5 ++ [1] = st6 := by rw [e5, e7]; rfl
      rw [e6] at hlog7
      have stY7 := stY6.log hlog7 hf7
      have hl5 : st5.length = 2 := by rw [e5]; rfl
      have hl6 : st6.length = 3 := by rw [e7]; rfl
      simp -implicitDefEqProofs only [go_sem, Nat.reduceEqDiff, Nat.reduceLT, Nat.reduceAdd, Nat.reduceMul, Int.reduceEq, Int.reduceLT, Int.reduceLE, Int.reduceNe, Int.reduceBEq, Int.reduceToNat, ↓reduceIte]
      refine (begin_log stY7.1 (by omega)).mono ?_
      rintro r Y8 ⟨rfl, S8, hlog8, _, hf8⟩
      rw [e8] at hlog8
      have stY8 := stY7.log hlog8 hf8
      rw [hl5]
      have q3 : ((1 + 2 : Nat) : Int) = 3 := rfl
      simp -implicitDefEqProofs only [go_sem, Nat.reduceEqDiff, Nat.reduceLT, Nat.reduceAdd, Nat.reduceMul, Int.reduceEq, Int.reduceLT, Int.reduceLE, Int.reduceNe, Int.reduceBEq, Int.reduceToNat, ↓reduceIte, q3]
      refine (take_shot stY8.1 (by omega) 3).mono ?_
      rintro r Y9 ⟨z3, o3, p3, rfl, hz3, _, sY9⟩
      have stY9 := stY8.sub sY9
      have hc3 := hz3.cell
      simp -implicitDefEqProofs only [go_sem, Nat.reduceEqDiff, Nat.reduceLT, Nat.reduceAdd, Nat.reduceMul, Int.reduceEq, Int.reduceLT, Int.reduceLE, Int.reduceNe, Int.reduceBEq, Int.reduceToNat, ↓reduceIte]
      refine newK_of ?_
      intro b24 YA hb24 hn24 h24 s24 g24
      simp -implicitDefEqProofs only [go_sem, Nat.reduceEqDiff, Nat.reduceLT, Nat.reduceAdd, Nat.reduceMul, Int.reduceEq, Int.reduceLT, Int.reduceLE, Int.reduceNe, Int.reduceBEq, Int.reduceToNat, ↓reduceIte]
      refine store_all h24 rfl (by simp [cell1_int, hc3]) rfl ?_
      intro YB h24' g24'
      have sYB := Sub.ne2 hn24 g24 g24'
      have stYB := (stY9.sub sYB).add (hz3.sub sYB) h24'
      have lB := ldc w0 (stYB.2.2 (b13, z2) (by simp)).2 4
      simp -implicitDefEqProofs only [go_sem, Nat.reduceEqDiff, Nat.reduceLT, Nat.reduceAdd, Nat.reduceMul, Int.reduceEq, Int.reduceLT, Int.reduceLE, Int.reduceNe, Int.reduceBEq, Int.reduceToNat, ↓reduceIte, lB, ldK_agg]
      refine (tableQ_ok stYB.2.1 (by simp) stYB.1 (by omega) (stYB.2.2 (b13, z2) (by simp)).1 ⟨#[116]⟩).mono ?_
      rintro r YC ⟨⟨nm3, cv3, a3, c3, rfl, hcv3⟩, sYC⟩
      have stYC := stYB.sub sYC
      have fLate : (findT st6 z2 [t1] ⟨#[116]⟩).isSome = false := by
        obtain ⟨u1, u2, u3, u4⟩ := z2; obtain ⟨w1, w2, w3, w4⟩ := z1; obtain ⟨v1, v2, v3⟩ := t1
        subst o2 q2 o1 q1' e4 e7 ht1; kernel_rfl
      rw [fLate]
      simp -implicitDefEqProofs only [go_sem, Nat.reduceEqDiff, Nat.reduceLT, Nat.reduceAdd, Nat.reduceMul, Int.reduceEq, Int.reduceLT, Int.reduceLE, Int.reduceNe, Int.reduceBEq, Int.reduceToNat, ↓reduceIte]
      refine newK_of ?_
      intro b25 YD hb25 hn25 h25 s25 g25
      simp -implicitDefEqProofs only [go_sem, Nat.reduceEqDiff, Nat.reduceLT, Nat.reduceAdd, Nat.reduceMul, Int.reduceEq, Int.reduceLT, Int.reduceLE, Int.reduceNe, Int.reduceBEq, Int.reduceToNat, ↓reduceIte]
      refine store_all h25 rfl (by simp [cell1_int, cell1_string, hcv3]) rfl ?_
      intro YE h25' g25'
      have stYE := stYC.sub (Sub.ne2 hn25 g25 g25')
      have lE := ldc w0 (stYE.2.2 (b24, z3) (by simp)).2 4
      simp -implicitDefEqProofs only [go_sem, Nat.reduceEqDiff, Nat.reduceLT, Nat.reduceAdd, Nat.reduceMul, Int.reduceEq, Int.reduceLT, Int.reduceLE, Int.reduceNe, Int.reduceBEq, Int.reduceToNat, ↓reduceIte, lE, ldK_agg]
      refine (tableQ_ok stYE.2.1 (by simp) stYE.1 (by omega) (stYE.2.2 (b24, z3) (by simp)).1 ⟨#[116]⟩).mono ?_
      rintro r YF ⟨⟨nm4, cv4, a4, c4, rfl, hcv4⟩, sYF⟩
      have stYF := stYE.sub sYF
      have fNew : (findT st6 z3 [t1] ⟨#[116]⟩).isSome = decide (st6.getD 0 0 = 2) := by
        obtain ⟨u1, u2, u3, u4⟩ := z3; obtain ⟨w1, w2, w3, w4⟩ := z1; obtain ⟨v1, v2, v3⟩ := t1
        subst o3 p3 o1 q1' e4 e7 ht1; kernel_rfl
      have gNew : st6.getD 0 0 = 3 ∨ st6.getD 0 0 = 2 := by rw [e7]; first | exact .inl rfl | exact .inr rfl
      rw [fNew]
      simp -implicitDefEqProofs only [go_sem, Nat.reduceEqDiff, Nat.reduceLT, Nat.reduceAdd, Nat.reduceMul, Int.reduceEq, Int.reduceLT, Int.reduceLE, Int.reduceNe, Int.reduceBEq, Int.reduceToNat, ↓reduceIte]
      refine newK_of ?_
      intro b27 YG hb27 hn27 h27 s27 g27
      simp -implicitDefEqProofs only [go_sem, Nat.reduceEqDiff, Nat.reduceLT, Nat.reduceAdd, Nat.reduceMul, Int.reduceEq, Int.reduceLT, Int.reduceLE, Int.reduceNe, Int.reduceBEq, Int.reduceToNat, ↓reduceIte]
      refine store_all h27 rfl (by simp [cell1_int, cell1_string, hcv4]) rfl ?_
      intro YH h27' g27'
      have stYH := stYF.sub (Sub.ne2 hn27 g27 g27')
      have lH := ldc w0 (stYH.2.2 (b24, z3) (by simp)).2 4
      have nNew : st6.getD 0 0 = st6.headD 0 := by rw [e7]; rfl
      have dNew : decide (st6.getD 0 0 = 2) = decide (st6.headD 0 = 2) := by rw [nNew]
      rw [e7]
      have w3 : decide (([3, 1, 1] : List Nat).getD 0 0 = 2) = false := rfl
      have w2 : decide (([2, 1, 1] : List Nat).getD 0 0 = 2) = true := rfl
      have bb : (true == true) = true := rfl
      have bf : (false == false) = true := rfl
      simp -implicitDefEqProofs only [go_sem, Nat.reduceEqDiff, Nat.reduceLT, Nat.reduceAdd, Nat.reduceMul, Int.reduceEq, Int.reduceLT, Int.reduceLE, Int.reduceNe, Int.reduceBEq, Int.reduceToNat, ↓reduceIte, lH, ldK_agg, w2, w3, bb, bf]
      refine (indexes_ok stYH.2.1 (by simp) (by simp) stYH.1 (by omega) (stYH.2.2 (b24, z3) (by simp)).1 1).mono ?_
      rintro r YI ⟨⟨ia, ic, rfl⟩, sYI⟩
      have stYI := stYH.sub sYI
      have lI := ldc w0 (stYI.2.2 (b13, z2) (by simp)).2 4
      have fC3 := fCnt st6 z3 o3 p3 (by rw [e7]; first | exact .inl rfl | exact .inr rfl)
      rw [fC3]
      have c0 : ((0 : Nat) : Int) = 0 := rfl
      have c1' : ((1 : Nat) : Int) = 1 := rfl
      have gC : st6.headD 0 = st6.headD 0 := rfl
      have hd3 : decide ((st6.headD 0) = 2) = decide ((st6.headD 0) = 2) := rfl
      rw [e7]
      have k3 : cntI false [3, 1, 1] = 0 := rfl
      have k2 : cntI false [2, 1, 1] = 0 := rfl
      have k31 : cntI true [3, 1, 1] = 0 := rfl
      have k21 : cntI true [2, 1, 1] = 1 := rfl
      simp -implicitDefEqProofs only [go_sem, Nat.reduceEqDiff, Nat.reduceLT, Nat.reduceAdd, Nat.reduceMul, Int.reduceEq, Int.reduceLT, Int.reduceLE, Int.reduceNe, Int.reduceBEq, Int.reduceToNat, ↓reduceIte, lI, ldK_agg, k3, k2, k31, k21, c0, c1']
      refine (indexes_ok stYI.2.1 (by simp) (by simp) stYI.1 (by omega) (stYI.2.2 (b13, z2) (by simp)).1 1).mono ?_
      rintro r YJ ⟨⟨ja, jc, rfl⟩, sYJ⟩
      have fC2 := fCnt2 st6 z2 o2 q2 (by rw [e7]; first | exact .inl rfl | exact .inr rfl)
      rw [fC2]
      simp -implicitDefEqProofs only [go_sem, Nat.reduceEqDiff, Nat.reduceLT, Nat.reduceAdd, Nat.reduceMul, Int.reduceEq, Int.reduceLT, Int.reduceLE, Int.reduceNe, Int.reduceBEq, Int.reduceToNat, ↓reduceIte, c0]
    · simp -implicitDefEqProofs only [go_sem, Nat.reduceEqDiff, Nat.reduceLT, Nat.reduceAdd, Nat.reduceMul, Int.reduceEq, Int.reduceLT, Int.reduceLE, Int.reduceNe, Int.reduceBEq, Int.reduceToNat, ↓reduceIte, q1]
      refine (commit_log stY6.1 (by omega) (x := 1) (by omega)).mono ?_
      rintro r Y7 ⟨rfl, hlog7, hf7⟩
      obtain ⟨st5, e5⟩ : ∃ st5 : List Nat, st5 = [2, 1] := ⟨_, rfl⟩
      have e6 : endSts 1 st4 1 2 = st5 := by rw [e4, e5]; decide +kernel
      obtain ⟨st6, e7⟩ : ∃ st6 : List Nat, st6 = [2, 1, 1] := ⟨_, rfl⟩
      have e8 : st5 ++ [1] = st6 := by rw [e5, e7]; rfl
      rw [e6] at hlog7
      have stY7 := stY6.log hlog7 hf7
      have hl5 : st5.length = 2 := by rw [e5]; rfl
      have hl6 : st6.length = 3 := by rw [e7]; rfl
      simp -implicitDefEqProofs only [go_sem, Nat.reduceEqDiff, Nat.reduceLT, Nat.reduceAdd, Nat.reduceMul, Int.reduceEq, Int.reduceLT, Int.reduceLE, Int.reduceNe, Int.reduceBEq, Int.reduceToNat, ↓reduceIte]
      refine (begin_log stY7.1 (by omega)).mono ?_
      rintro r Y8 ⟨rfl, S8, hlog8, _, hf8⟩
      rw [e8] at hlog8
      have stY8 := stY7.log hlog8 hf8
      rw [hl5]
      have q3 : ((1 + 2 : Nat) : Int) = 3 := rfl
      simp -implicitDefEqProofs only [go_sem, Nat.reduceEqDiff, Nat.reduceLT, Nat.reduceAdd, Nat.reduceMul, Int.reduceEq, Int.reduceLT, Int.reduceLE, Int.reduceNe, Int.reduceBEq, Int.reduceToNat, ↓reduceIte, q3]
      refine (take_shot stY8.1 (by omega) 3).mono ?_
      rintro r Y9 ⟨z3, o3, p3, rfl, hz3, _, sY9⟩
      have stY9 := stY8.sub sY9
      have hc3 := hz3.cell
      simp -implicitDefEqProofs only [go_sem, Nat.reduceEqDiff, Nat.reduceLT, Nat.reduceAdd, Nat.reduceMul, Int.reduceEq, Int.reduceLT, Int.reduceLE, Int.reduceNe, Int.reduceBEq, Int.reduceToNat, ↓reduceIte]
      refine newK_of ?_
      intro b24 YA hb24 hn24 h24 s24 g24
      simp -implicitDefEqProofs only [go_sem, Nat.reduceEqDiff, Nat.reduceLT, Nat.reduceAdd, Nat.reduceMul, Int.reduceEq, Int.reduceLT, Int.reduceLE, Int.reduceNe, Int.reduceBEq, Int.reduceToNat, ↓reduceIte]
      refine store_all h24 rfl (by simp [cell1_int, hc3]) rfl ?_
      intro YB h24' g24'
      have sYB := Sub.ne2 hn24 g24 g24'
      have stYB := (stY9.sub sYB).add (hz3.sub sYB) h24'
      have lB := ldc w0 (stYB.2.2 (b13, z2) (by simp)).2 4
      simp -implicitDefEqProofs only [go_sem, Nat.reduceEqDiff, Nat.reduceLT, Nat.reduceAdd, Nat.reduceMul, Int.reduceEq, Int.reduceLT, Int.reduceLE, Int.reduceNe, Int.reduceBEq, Int.reduceToNat, ↓reduceIte, lB, ldK_agg]
      refine (tableQ_ok stYB.2.1 (by simp) stYB.1 (by omega) (stYB.2.2 (b13, z2) (by simp)).1 ⟨#[116]⟩).mono ?_
      rintro r YC ⟨⟨nm3, cv3, a3, c3, rfl, hcv3⟩, sYC⟩
      have stYC := stYB.sub sYC
      have fLate : (findT st6 z2 [t1] ⟨#[116]⟩).isSome = false := by
        obtain ⟨u1, u2, u3, u4⟩ := z2; obtain ⟨w1, w2, w3, w4⟩ := z1; obtain ⟨v1, v2, v3⟩ := t1
        subst o2 q2 o1 q1' e4 e7 ht1; kernel_rfl
      rw [fLate]
      simp -implicitDefEqProofs only [go_sem, Nat.reduceEqDiff, Nat.reduceLT, Nat.reduceAdd, Nat.reduceMul, Int.reduceEq, Int.reduceLT, Int.reduceLE, Int.reduceNe, Int.reduceBEq, Int.reduceToNat, ↓reduceIte]
      refine newK_of ?_
      intro b25 YD hb25 hn25 h25 s25 g25
      simp -implicitDefEqProofs only [go_sem, Nat.reduceEqDiff, Nat.reduceLT, Nat.reduceAdd, Nat.reduceMul, Int.reduceEq, Int.reduceLT, Int.reduceLE, Int.reduceNe, Int.reduceBEq, Int.reduceToNat, ↓reduceIte]
      refine store_all h25 rfl (by simp [cell1_int, cell1_string, hcv3]) rfl ?_
      intro YE h25' g25'
      have stYE := stYC.sub (Sub.ne2 hn25 g25 g25')
      have lE := ldc w0 (stYE.2.2 (b24, z3) (by simp)).2 4
      simp -implicitDefEqProofs only [go_sem, Nat.reduceEqDiff, Nat.reduceLT, Nat.reduceAdd, Nat.reduceMul, Int.reduceEq, Int.reduceLT, Int.reduceLE, Int.reduceNe, Int.reduceBEq, Int.reduceToNat, ↓reduceIte, lE, ldK_agg]
      refine (tableQ_ok stYE.2.1 (by simp) stYE.1 (by omega) (stYE.2.2 (b24, z3) (by simp)).1 ⟨#[116]⟩).mono ?_
      rintro r YF ⟨⟨nm4, cv4, a4, c4, rfl, hcv4⟩, sYF⟩
      have stYF := stYE.sub sYF
      have fNew : (findT st6 z3 [t1] ⟨#[116]⟩).isSome = decide (st6.getD 0 0 = 2) := by
        obtain ⟨u1, u2, u3, u4⟩ := z3; obtain ⟨w1, w2, w3, w4⟩ := z1; obtain ⟨v1, v2, v3⟩ := t1
        subst o3 p3 o1 q1' e4 e7 ht1; kernel_rfl
      have gNew : st6.getD 0 0 = 3 ∨ st6.getD 0 0 = 2 := by rw [e7]; first | exact .inl rfl | exact .inr rfl
      rw [fNew]
      simp -implicitDefEqProofs only [go_sem, Nat.reduceEqDiff, Nat.reduceLT, Nat.reduceAdd, Nat.reduceMul, Int.reduceEq, Int.reduceLT, Int.reduceLE, Int.reduceNe, Int.reduceBEq, Int.reduceToNat, ↓reduceIte]
      refine newK_of ?_
      intro b27 YG hb27 hn27 h27 s27 g27
      simp -implicitDefEqProofs only [go_sem, Nat.reduceEqDiff, Nat.reduceLT, Nat.reduceAdd, Nat.reduceMul, Int.reduceEq, Int.reduceLT, Int.reduceLE, Int.reduceNe, Int.reduceBEq, Int.reduceToNat, ↓reduceIte]
      refine store_all h27 rfl (by simp [cell1_int, cell1_string, hcv4]) rfl ?_
      intro YH h27' g27'
      have stYH := stYF.sub (Sub.ne2 hn27 g27 g27')
      have lH := ldc w0 (stYH.2.2 (b24, z3) (by simp)).2 4
      have nNew : st6.getD 0 0 = st6.headD 0 := by rw [e7]; rfl
      have dNew : decide (st6.getD 0 0 = 2) = decide (st6.headD 0 = 2) := by rw [nNew]
      rw [e7]
      have w3 : decide (([3, 1, 1] : List Nat).getD 0 0 = 2) = false := rfl
      have w2 : decide (([2, 1, 1] : List Nat).getD 0 0 = 2) = true := rfl
      have bb : (true == true) = true := rfl
      have bf : (false == false) = true := rfl
      simp -implicitDefEqProofs only [go_sem, Nat.reduceEqDiff, Nat.reduceLT, Nat.reduceAdd, Nat.reduceMul, Int.reduceEq, Int.reduceLT, Int.reduceLE, Int.reduceNe, Int.reduceBEq, Int.reduceToNat, ↓reduceIte, lH, ldK_agg, w2, w3, bb, bf]
      refine (indexes_ok stYH.2.1 (by simp) (by simp) stYH.1 (by omega) (stYH.2.2 (b24, z3) (by simp)).1 1).mono ?_
      rintro r YI ⟨⟨ia, ic, rfl⟩, sYI⟩
      have stYI := stYH.sub sYI
      have lI := ldc w0 (stYI.2.2 (b13, z2) (by simp)).2 4
      have fC3 := fCnt st6 z3 o3 p3 (by rw [e7]; first | exact .inl rfl | exact .inr rfl)
      rw [fC3]
      have c0 : ((0 : Nat) : Int) = 0 := rfl
      have c1' : ((1 : Nat) : Int) = 1 := rfl
      have gC : st6.headD 0 = st6.headD 0 := rfl
      have hd3 : decide ((st6.headD 0) = 2) = decide ((st6.headD 0) = 2) := rfl
      rw [e7]
      have k3 : cntI false [3, 1, 1] = 0 := rfl
      have k2 : cntI false [2, 1, 1] = 0 := rfl
      have k31 : cntI true [3, 1, 1] = 0 := rfl
      have k21 : cntI true [2, 1, 1] = 1 := rfl
      simp -implicitDefEqProofs only [go_sem, Nat.reduceEqDiff, Nat.reduceLT, Nat.reduceAdd, Nat.reduceMul, Int.reduceEq, Int.reduceLT, Int.reduceLE, Int.reduceNe, Int.reduceBEq, Int.reduceToNat, ↓reduceIte, lI, ldK_agg, k3, k2, k31, k21, c0, c1']
      refine (indexes_ok stYI.2.1 (by simp) (by simp) stYI.1 (by omega) (stYI.2.2 (b13, z2) (by simp)).1 1).mono ?_
      rintro r YJ ⟨⟨ja, jc, rfl⟩, sYJ⟩
      have fC2 := fCnt2 st6 z2 o2 q2 (by rw [e7]; first | exact .inl rfl | exact .inr rfl)
      rw [fC2]
      simp -implicitDefEqProofs only [go_sem, Nat.reduceEqDiff, Nat.reduceLT, Nat.reduceAdd, Nat.reduceMul, Int.reduceEq, Int.reduceLT, Int.reduceLE, Int.reduceNe, Int.reduceBEq, Int.reduceToNat, ↓reduceIte, c0]
end Go.Proofs.Ytcpeiejabbdeiaa
