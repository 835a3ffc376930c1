/-
  The document's horizon; the example of chapter 10.
  Conditions: as each theorem states them.
-/
import Derived.Test.YtmpepacfnckadaaRvs
namespace Go.Proofs.Ytmpepacfnckadaa
open Go Go.RowKit Go.Proofs.YtmpepacfnckadaaW
set_option maxRecDepth 100000
set_option linter.unusedSimpArgs false
set_option linter.unusedVariables false

theorem foldl_min_le : ∀ (xs : List Nat) (n : Nat), xs.foldl min n ≤ n ∧ ∀ x ∈ xs, xs.foldl min n ≤ x
  | [], n => ⟨Nat.le_refl _, by simp⟩
  | x :: xs, n => by
    obtain ⟨h1, h2⟩ := foldl_min_le xs (min n x)
    refine ⟨Nat.le_trans h1 (Nat.min_le_left _ _), fun y hy => ?_⟩
    simp only [List.mem_cons] at hy
    rcases hy with rfl | hy
    · exact Nat.le_trans h1 (Nat.min_le_right _ _)
    · exact h2 y hy
/-- The horizon as the document goes it: from the first one on, over all. -/
def hznR (x0 : Nat) (xs : List Nat) : Nat := xs.foldl min x0
theorem hznR_push (x0 x : Nat) (xs : List Nat) : hznR x0 (xs ++ [x]) = min (hznR x0 xs) x := by simp [hznR]
theorem hznR_eq (n x0 : Nat) (xs : List Nat) (h : xs[0]? = some x0) : hznR x0 xs = hzn n xs := by
  cases xs with
  | nil => simp at h
  | cons a xs => simp only [List.getElem?_cons_zero, Option.some.injEq] at h; subst h; simp [hznR, hzn]

def RHorI (w0 : World) (H : Hp) (x0 : Nat) (tt : Value) (zs : List Shot) (m : Nat) (F : Fr) (H1 : Hp) : Prop :=
  ∃ k : Nat, k + m = zs.length ∧ F 5 = .int .u64 (hznR x0 ((zs.take k).map Shot.xmin) : Nat) ∧ F 17 = tt ∧ F 18 = .int .i64 (zs.length : Int) ∧ F 19 = .int .i64 (k : Int) ∧ Sub H H1
theorem rhorizon_ref {w0 : World} {H : Hp} {l : Nat} {S : Nat → Prop} {f : Nat} {sts : List Nat} (h : RefAt H l S f sts) (hb : f + sts.length < 10000000000000) {tt : Value} {zs : List Shot}
    (hr : Row H 93 3 tt zs.length (zs.flatMap Shot.ct)) (hn : zs.length < 1000000)
    (hc : ∀ z ∈ zs, Row H 23 1 z.t z.run.length (u64s z.run) ∧ z.run.length < 10000000000000) :
    ACalls Try.prog w0 35 #[ptr l, tt] H fun r H' => r = .int .u64 (hzn (f + sts.length) (zs.map Shot.xmin) : Nat) ∧ H' = H := by
  refine ACalls.quiet ?_
  obtain ⟨sa, sc, hs⟩ := hr.slice
  refine acalls_of Try.func35 rfl Try.ntmps35 r35 (by simp) ?_
  by_cases c0 : zs.length = 0
  · have d0 : decide ((zs.length : Int) = 0) = true := by rw [dec_zero]; simp [c0]
    simp -implicitDefEqProofs only [go_sem, Nat.reduceEqDiff, Nat.reduceLT, Nat.reduceAdd, Nat.reduceMul, Int.reduceEq, Int.reduceLT, Int.reduceLE, Int.reduceNe, Int.reduceBEq, Int.reduceToNat, ↓reduceIte, hs, d0]
    refine (rnext_ref h (by omega)).mono ?_
    rintro r H' ⟨rfl, rfl⟩
    simp -implicitDefEqProofs only [go_sem, Nat.reduceEqDiff, Nat.reduceLT, Nat.reduceAdd, Nat.reduceMul, Int.reduceEq, Int.reduceLT, Int.reduceLE, Int.reduceNe, Int.reduceBEq, Int.reduceToNat, ↓reduceIte]
    have : zs = [] := List.eq_nil_of_length_eq_zero c0
    subst this
    exact ⟨rfl, Sub.refl _⟩
  · have d0 : decide ((zs.length : Int) = 0) = false := by rw [dec_zero]; simp [c0]
    have hz0 : zs[0]? = some (zs[0]'(by omega)) := List.getElem?_eq_getElem _
    generalize zs[0]'(by omega) = z0 at hz0
    obtain ⟨g, cap, hv, hl⟩ := hr.at w0 rfl (fun z _ => z.ct_len) hz0
    have d9 : decide ((0 : Int) < (zs.length : Int)) = true := by rw [dec_pos, decide_eq_true_eq]; omega
    have d9' : decide ((0 : Int) ≤ (0 : Int)) = true := by simp
    have hl' : ldCells w0 H ⟨g, 0, none⟩ 0 3 = some [.int .u64 (z0.own : Int), .int .u64 (z0.xmax : Int), z0.t] := by have := hl; rwa [Nat.zero_mul] at this
    have e0 : (0 : Int).toNat = 0 := rfl
    simp -implicitDefEqProofs only [go_sem, Nat.reduceEqDiff, Nat.reduceLT, Nat.reduceAdd, Nat.reduceMul, Int.reduceEq, Int.reduceLT, Int.reduceLE, Int.reduceNe, Int.reduceBEq, Int.reduceToNat, ↓reduceIte, hv, d0, d9, d9', hl', ldK_agg, e0, Nat.zero_mul, Nat.add_zero]
    obtain ⟨hr0, hn0⟩ := hc z0 (List.mem_of_getElem? hz0)
    refine (rleast_row hr0 hn0).mono ?_
    rintro r H' ⟨rfl, rfl⟩
    simp -implicitDefEqProofs only [go_sem, Nat.reduceEqDiff, Nat.reduceLT, Nat.reduceAdd, Nat.reduceMul, Int.reduceEq, Int.reduceLT, Int.reduceLE, Int.reduceNe, Int.reduceBEq, Int.reduceToNat, ↓reduceIte, hv]
    have hx0 : (least z0.xmax z0.run) = z0.xmin := rfl
    rw [hx0]
    refine AC.loop (RHorI w0 H' z0.xmin tt zs) (n := zs.length) ⟨0, by omega, rfl, hv.symm, rfl, rfl, Sub.refl _⟩ ?_
    clear hv hl' hl e0 hr0 hn0 g cap d0 d9 d9'
    rintro m F H1 ⟨k, hk, f5, f17, f18, f19, s1⟩
    by_cases c : k < zs.length
    · have d1 : decide ((k : Int) < (zs.length : Int)) = true := by simp; omega
      have d2 : IntKind.i64.wrap ((k : Int) + 1) = (k + 1 : Nat) := by rw [i64_in] <;> omega
      have d3 : decide ((0 : Int) ≤ (k : Int)) = true := by simp
      have hz : zs[k]? = some zs[k] := by simp [c]
      have htk := take_push hz
      generalize zs[k] = z at hz htk
      obtain ⟨g, cap, hv, hl⟩ := (hr.keep (H' := H1) fun b o _ hb => s1 b o hb).at w0 rfl (fun z _ => z.ct_len) hz
      rw [hv] at f17
      have hl' : ldCells w0 H1 ⟨g, k * 3, none⟩ 0 3 = some [.int .u64 (z.own : Int), .int .u64 (z.xmax : Int), z.t] := hl
      obtain ⟨hrz, hnz⟩ := hc z (List.mem_of_getElem? hz)
      have hv1 : cell1 z.t = true := by obtain ⟨q1, q2, q⟩ := hrz.slice; rw [q]; exact cell1_slice
      simp -implicitDefEqProofs only [go_sem, Nat.reduceEqDiff, Nat.reduceLT, Nat.reduceAdd, Nat.reduceMul, Int.reduceEq, Int.reduceLT, Int.reduceLE, Int.reduceNe, Int.reduceBEq, Int.reduceToNat, ↓reduceIte, f5, f17, f18, f19, d1, d3, hl', ldK_agg]
      refine newK_of ?_
      intro b7 H2 hb7 hn7 h7 s2 g2
      simp -implicitDefEqProofs only [go_sem, Nat.reduceEqDiff, Nat.reduceLT, Nat.reduceAdd, Nat.reduceMul, Int.reduceEq, Int.reduceLT, Int.reduceLE, Int.reduceNe, Int.reduceBEq, Int.reduceToNat, ↓reduceIte, f5, f17, f18, f19, d1, d3, hl', ldK_agg]
      refine store_all h7 rfl (by simp [cell1_int, hv1]) rfl ?_
      intro H3 h3 g3
      have l3 := ldc w0 h3 3
      have s3 : Sub H' H3 := s1.trans (Sub.ne2 hn7 g2 g3)
      have hrz3 := hrz.keep (H' := H3) fun b o _ hb => s3 b o hb
      simp -implicitDefEqProofs only [go_sem, Nat.reduceEqDiff, Nat.reduceLT, Nat.reduceAdd, Nat.reduceMul, Int.reduceEq, Int.reduceLT, Int.reduceLE, Int.reduceNe, Int.reduceBEq, Int.reduceToNat, ↓reduceIte, f5, f17, f18, f19, l3, ldK_agg]
      refine (rleast_row hrz3 hnz).mono ?_
      rintro r H4 ⟨rfl, rfl⟩
      have hx1 : (least z.xmax z.run) = z.xmin := rfl
      rw [hx1]
      have hgo : hznR z0.xmin ((zs.take (k + 1)).map Shot.xmin) = min (hznR z0.xmin ((zs.take k).map Shot.xmin)) z.xmin := by
        rw [htk, List.map_append, List.map_cons, List.map_nil, hznR_push]
      generalize hznR z0.xmin ((zs.take k).map Shot.xmin) = q at f5 hgo
      by_cases c1 : z.xmin < q
      · have d5 : decide ((z.xmin : Int) < (q : Int)) = true := by rw [dec_lt]; simp [c1]
        rw [Nat.min_eq_right (by omega)] at hgo
        simp -implicitDefEqProofs only [go_sem, Nat.reduceEqDiff, Nat.reduceLT, Nat.reduceAdd, Nat.reduceMul, Int.reduceEq, Int.reduceLT, Int.reduceLE, Int.reduceNe, Int.reduceBEq, Int.reduceToNat, ↓reduceIte, f5, f17, f18, f19, d2, d5, l3, ldK_agg]
        refine (rleast_row hrz3 hnz).mono ?_
        rintro r H5 ⟨rfl, rfl⟩
        rw [hx1]
        simp -implicitDefEqProofs only [go_sem, Nat.reduceEqDiff, Nat.reduceLT, Nat.reduceAdd, Nat.reduceMul, Int.reduceEq, Int.reduceLT, Int.reduceLE, Int.reduceNe, Int.reduceBEq, Int.reduceToNat, ↓reduceIte, f5, f17, f18, f19, d2, d5, l3, ldK_agg]
        exact ⟨m - 1, by omega, k + 1, by omega, by simp -implicitDefEqProofs only [go_sem, Nat.reduceEqDiff, Nat.reduceLT, Nat.reduceAdd, Nat.reduceMul, Int.reduceEq, Int.reduceLT, Int.reduceLE, Int.reduceNe, Int.reduceBEq, Int.reduceToNat, ↓reduceIte, hgo], by simp -implicitDefEqProofs only [go_sem, Nat.reduceEqDiff, Nat.reduceLT, Nat.reduceAdd, Nat.reduceMul, Int.reduceEq, Int.reduceLT, Int.reduceLE, Int.reduceNe, Int.reduceBEq, Int.reduceToNat, ↓reduceIte, f17, hv], by simp -implicitDefEqProofs only [go_sem, Nat.reduceEqDiff, Nat.reduceLT, Nat.reduceAdd, Nat.reduceMul, Int.reduceEq, Int.reduceLT, Int.reduceLE, Int.reduceNe, Int.reduceBEq, Int.reduceToNat, ↓reduceIte, f18], by simp -implicitDefEqProofs only [go_sem, Nat.reduceEqDiff, Nat.reduceLT, Nat.reduceAdd, Nat.reduceMul, Int.reduceEq, Int.reduceLT, Int.reduceLE, Int.reduceNe, Int.reduceBEq, Int.reduceToNat, ↓reduceIte], s3⟩
      · have d5 : decide ((z.xmin : Int) < (q : Int)) = false := by rw [dec_lt]; simp [c1]
        rw [Nat.min_eq_left (by omega)] at hgo
        simp -implicitDefEqProofs only [go_sem, Nat.reduceEqDiff, Nat.reduceLT, Nat.reduceAdd, Nat.reduceMul, Int.reduceEq, Int.reduceLT, Int.reduceLE, Int.reduceNe, Int.reduceBEq, Int.reduceToNat, ↓reduceIte, f5, f17, f18, f19, d2, d5, l3, ldK_agg]
        exact ⟨m - 1, by omega, k + 1, by omega, by simp -implicitDefEqProofs only [go_sem, Nat.reduceEqDiff, Nat.reduceLT, Nat.reduceAdd, Nat.reduceMul, Int.reduceEq, Int.reduceLT, Int.reduceLE, Int.reduceNe, Int.reduceBEq, Int.reduceToNat, ↓reduceIte, f5, hgo], by simp -implicitDefEqProofs only [go_sem, Nat.reduceEqDiff, Nat.reduceLT, Nat.reduceAdd, Nat.reduceMul, Int.reduceEq, Int.reduceLT, Int.reduceLE, Int.reduceNe, Int.reduceBEq, Int.reduceToNat, ↓reduceIte, f17, hv], by simp -implicitDefEqProofs only [go_sem, Nat.reduceEqDiff, Nat.reduceLT, Nat.reduceAdd, Nat.reduceMul, Int.reduceEq, Int.reduceLT, Int.reduceLE, Int.reduceNe, Int.reduceBEq, Int.reduceToNat, ↓reduceIte, f18], by simp -implicitDefEqProofs only [go_sem, Nat.reduceEqDiff, Nat.reduceLT, Nat.reduceAdd, Nat.reduceMul, Int.reduceEq, Int.reduceLT, Int.reduceLE, Int.reduceNe, Int.reduceBEq, Int.reduceToNat, ↓reduceIte], s3⟩
    · have d1 : decide ((k : Int) < (zs.length : Int)) = false := by simp; omega
      have : zs.take k = zs := List.take_of_length_le (by omega)
      rw [this] at f5
      simp -implicitDefEqProofs only [go_sem, Nat.reduceEqDiff, Nat.reduceLT, Nat.reduceAdd, Nat.reduceMul, Int.reduceEq, Int.reduceLT, Int.reduceLE, Int.reduceNe, Int.reduceBEq, Int.reduceToNat, ↓reduceIte, f5, f17, f18, f19, d1]
      refine ⟨?_, s1⟩
      rw [hznR_eq (f + sts.length) z0.xmin _ (by rw [List.getElem?_map, hz0]; rfl)]

theorem awake10_ok (w0 : World) (H : Hp) : ACalls Try.prog w0 27 #[] H fun r H' => r = .bool true ∧ H' = H := by
  refine ACalls.quiet ?_
  refine acalls_of Try.func27 rfl Try.ntmps27 r27 (by simp) ?_
  simp -implicitDefEqProofs only [go_sem, Nat.reduceEqDiff, Nat.reduceLT, Nat.reduceAdd, Nat.reduceMul, Int.reduceEq, Int.reduceLT, Int.reduceLE, Int.reduceNe, Int.reduceBEq, Int.reduceToNat, ↓reduceIte]
  refine (new_ok w0 1 H (by omega) (by omega)).mono ?_
  rintro r H1 ⟨l, rfl, hl, hl0, hlog, hsub⟩
  simp -implicitDefEqProofs only [go_sem, Nat.reduceEqDiff, Nat.reduceLT, Nat.reduceAdd, Nat.reduceMul, Int.reduceEq, Int.reduceLT, Int.reduceLE, Int.reduceNe, Int.reduceBEq, Int.reduceToNat, ↓reduceIte]
  refine (begin_log hlog (by simp)).mono ?_
  rintro r H2 ⟨rfl, S2, hlog2, hS2, hf2⟩
  simp -implicitDefEqProofs only [go_sem, Nat.reduceEqDiff, Nat.reduceLT, Nat.reduceAdd, Nat.reduceMul, Int.reduceEq, Int.reduceLT, Int.reduceLE, Int.reduceNe, Int.reduceBEq, Int.reduceToNat, ↓reduceIte]
  refine (begin_log hlog2 (by simp)).mono ?_
  rintro r H3 ⟨rfl, S3, hlog3, hS3, hf3⟩
  simp -implicitDefEqProofs only [go_sem, Nat.reduceEqDiff, Nat.reduceLT, Nat.reduceAdd, Nat.reduceMul, Int.reduceEq, Int.reduceLT, Int.reduceLE, Int.reduceNe, Int.reduceBEq, Int.reduceToNat, ↓reduceIte]
  refine (take_log hlog3 (by simp) 2).mono ?_
  rintro r H4 ⟨v4, rfl, hrow4, hfr4, hsub4⟩
  have hr4 : others 2 (runs 1 (([] ++ [1]) ++ [1])) = [1] := by decide +kernel
  rw [hr4] at hrow4
  have q1 : ((least (1 + (([] ++ [1]) ++ [1] : List Nat).length) (others 2 (runs 1 (([] ++ [1]) ++ [1]))) : Nat) : Int) = 1 := by decide +kernel
  have q2 : ((1 + (([] ++ [1]) ++ [1] : List Nat).length : Nat) : Int) = 3 := by decide +kernel
  have q3 : ((2 : Nat) : Int) = 2 := rfl
  rw [q1, q2, q3]
  have hc4 : cell1 v4 = true := by obtain ⟨a, c, rfl⟩ := hrow4.slice; exact cell1_slice
  simp -implicitDefEqProofs only [go_sem, Nat.reduceEqDiff, Nat.reduceLT, Nat.reduceAdd, Nat.reduceMul, Int.reduceEq, Int.reduceLT, Int.reduceLE, Int.reduceNe, Int.reduceBEq, Int.reduceToNat, ↓reduceIte]
  refine newK_of ?_
  intro b3 H5 hb3 hn3 h3 s3 g3
  simp -implicitDefEqProofs only [go_sem, Nat.reduceEqDiff, Nat.reduceLT, Nat.reduceAdd, Nat.reduceMul, Int.reduceEq, Int.reduceLT, Int.reduceLE, Int.reduceNe, Int.reduceBEq, Int.reduceToNat, ↓reduceIte]
  refine store_all h3 rfl (by simp [cell1_int, hc4]) rfl ?_
  intro H6 h6 g6
  have s6 : Sub H4 H6 := Sub.ne2 hn3 g3 g6
  simp -implicitDefEqProofs only [go_sem, Nat.reduceEqDiff, Nat.reduceLT, Nat.reduceAdd, Nat.reduceMul, Int.reduceEq, Int.reduceLT, Int.reduceLE, Int.reduceNe, Int.reduceBEq, Int.reduceToNat, ↓reduceIte]
  have hlog6 := (hlog3.keep (H' := H4) fun b o _ hb => hsub4 b o hb).keep (H' := H6) fun b o _ hb => s6 b o hb
  refine (commit_log hlog6 (by simp) (x := 1) (by omega)).mono ?_
  rintro r H7 ⟨rfl, hlog7, hf7⟩
  have hc : endCode 1 (([] ++ [1]) ++ [1]) 1 = 0 := by decide +kernel
  have hs : endSts 1 (([] ++ [1]) ++ [1]) 1 2 = [2, 1] := by decide +kernel
  rw [hc]
  rw [hs] at hlog7
  have k4 : ∀ b o, H4 b = some o → ¬ S3 b → H7 b = some o := fun b o hb hn => hf7 b o hn (s6 b o hb)
  have hS3n : ∀ b, H4 b = none → ¬ S3 b := fun b hb hs => by
    obtain ⟨o, ho⟩ := hlog3.own hs
    rw [hsub4 b o ho] at hb; cases hb
  have hS3v : ∀ b, blk v4 = some b → ¬ S3 b := fun b hb hs => by
    obtain ⟨o, ho⟩ := hlog3.own hs
    rw [(hfr4 b hb).1] at ho; cases ho
  have h7 := hf7 b3 _ (hS3n b3 hn3) h6
  have l7 := ld_own w0 h7
  have l7' := ldc w0 h7 4
  have hrow7 := hrow4.keep (H' := H7) fun b o hb ho => k4 b o ho (hS3v b hb)
  have hlen : ([1] : List Nat).length = 1 := rfl
  simp -implicitDefEqProofs only [go_sem, Nat.reduceEqDiff, Nat.reduceLT, Nat.reduceAdd, Nat.reduceMul, Int.reduceEq, Int.reduceLT, Int.reduceLE, Int.reduceNe, Int.reduceBEq, Int.reduceToNat, ↓reduceIte, l7, l7', ldK_agg]
  refine (sees_log (own := 2) (xmin := 1) (xmax := 3) hlog7 (by simp) hrow7 (by simp) 1).mono ?_
  rintro r H8 ⟨rfl, rfl⟩
  have z1 : seesB 1 [2, 1] 2 3 [1] 1 = false := by decide +kernel
  rw [z1]
  simp -implicitDefEqProofs only [go_sem, Nat.reduceEqDiff, Nat.reduceLT, Nat.reduceAdd, Nat.reduceMul, Int.reduceEq, Int.reduceLT, Int.reduceLE, Int.reduceNe, Int.reduceBEq, Int.reduceToNat, ↓reduceIte, l7, l7', ldK_agg]
  refine (take_log hlog7 (by simp) 2).mono ?_
  rintro r H9 ⟨v9, rfl, hrow9, hfr9, hsub9⟩
  have hr9 : others 2 (runs 1 [2, 1]) = [] := by decide +kernel
  rw [hr9] at hrow9
  have q4 : ((least (1 + ([2, 1] : List Nat).length) (others 2 (runs 1 [2, 1])) : Nat) : Int) = 3 := by decide +kernel
  have q5 : ((1 + ([2, 1] : List Nat).length : Nat) : Int) = 3 := by decide +kernel
  rw [q4, q5]
  simp -implicitDefEqProofs only [go_sem, Nat.reduceEqDiff, Nat.reduceLT, Nat.reduceAdd, Nat.reduceMul, Int.reduceEq, Int.reduceLT, Int.reduceLE, Int.reduceNe, Int.reduceBEq, Int.reduceToNat, ↓reduceIte]
  refine (sees_log (own := 2) (xmin := 3) (xmax := 3) (hlog7.keep fun b o _ hb => hsub9 b o hb) (by simp) hrow9 (by simp) 1).mono ?_
  rintro r H8 ⟨rfl, rfl⟩
  have z2 : seesB 1 [2, 1] 2 3 [] 1 = true := by decide +kernel
  rw [z2]
  simp -implicitDefEqProofs only [go_sem, Nat.reduceEqDiff, Nat.reduceLT, Nat.reduceAdd, Nat.reduceMul, Int.reduceEq, Int.reduceLT, Int.reduceLE, Int.reduceNe, Int.reduceBEq, Int.reduceToNat, ↓reduceIte]
  intro b o hb
  have h1 : ¬ (b = l) := fun e => by rw [e, hl] at hb; cases hb
  have g1 := hsub b o hb
  have h2 : ¬ S2 b := fun e => (hS2 b e).elim h1 fun e' => by rw [e'.1] at g1; cases g1
  have g2 := hf2 b o h1 g1
  have h3' : ¬ S3 b := fun e => (hS3 b e).elim h2 fun e' => by rw [e'.1] at g2; cases g2
  exact hsub9 b o (k4 b o (hsub4 b o (hf3 b o h2 g2)) h3')
end Go.Proofs.Ytmpepacfnckadaa
