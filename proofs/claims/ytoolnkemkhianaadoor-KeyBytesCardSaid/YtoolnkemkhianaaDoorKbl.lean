/-
  The law KeyBytes, walked.
  Conditions: as each theorem states them.
-/
import Derived.Test.YtoolnkemkhianaaDoorRkb
import Derived.Test.YtoolnkemkhianaaDoorKrd
import Derived.Test.YtoolnkemkhianaaDoorSmr
namespace Go.Proofs.YtoolnkemkhianaaDoor
open Go Go.RowKit Go.Proofs.YtoolnkemkhianaaDoorW
set_option maxRecDepth 100000
set_option maxHeartbeats 1000000
set_option linter.unusedSimpArgs false
set_option linter.unusedVariables false
section
variable {w0 : World} {H Hb : Hp}
theorem min12 (n : Nat) : (if (12 : Int) < (n : Int) then (12 : Int) else (n : Int)) = ((min 12 n : Nat) : Int) := by split <;> omega
theorem kb_case {l : List Va} {r : Value} {H1 H2 : Hp} (h : KbQ w0 H1 l r H2) : ∃ p e bs, r = .tuple #[p, .int .i64 e] ∧ Own H2 p bs ∧ ((l.all rightB = true ∧ e = 0 ∧ bs = encR l) ∨ (l.all rightB = false ∧ e = 3 ∧ bs = [])) := by
  rcases h.2 with ⟨h1, s, e, h2, _⟩ | ⟨h1, e⟩
  · exact ⟨s, 0, _, e, h2, .inl ⟨h1, rfl, rfl⟩⟩
  · exact ⟨_, 3, [], e, Own.nil _, .inr ⟨h1, rfl, rfl⟩⟩
theorem keyBytes_law {u : Value} {a0 : List Va} (ht : Tbl w0) (hu : Vs w0 (fun _ => none) u a0) (hwu : ∀ x ∈ a0, x.wf) :
    ACalls Tryd.prog w0 7 #[u] (fun _ => none) fun r H' => r = .bool true ∧ True := by
  obtain ⟨ua, uc, eu, hua⟩ := Rd.slice hu
  subst eu
  refine acalls_of Tryd.func7 rfl Tryd.ntmps7 r7 (by simp) ?_
  simp -implicitDefEqProofs only [go_sem, Nat.reduceEqDiff, Nat.reduceLT, Nat.reduceAdd, Nat.reduceMul, Int.reduceEq, Int.reduceLT, Int.reduceLE, Int.reduceNe, Int.reduceBEq, Int.reduceToNat, ↓reduceIte]
  refine (awake3_ok ht).mono ?_
  rintro r H ⟨rfl, rfl⟩
  simp -implicitDefEqProofs only [go_sem, Nat.reduceEqDiff, Nat.reduceLT, Nat.reduceAdd, Nat.reduceMul, Int.reduceEq, Int.reduceLT, Int.reduceLE, Int.reduceNe, Int.reduceBEq, Int.reduceToNat, ↓reduceIte]
  refine newK_of ?_
  intro b3 H3 hb3 hn3 h3 s3 g3
  have hh3 : Hi w0 H3 := Hi.ne (fun b o h => by cases h) hb3 g3
  simp -implicitDefEqProofs only [go_sem, Nat.reduceEqDiff, Nat.reduceLT, Nat.reduceAdd, Nat.reduceMul, Int.reduceEq, Int.reduceLT, Int.reduceLE, Int.reduceNe, Int.reduceBEq, Int.reduceToNat, ↓reduceIte]
  refine aop_min (k := .i64) (a := (a0.length : Int)) (b := 12) (by simp -implicitDefEqProofs only [go_sem, Nat.reduceEqDiff, Nat.reduceLT, Nat.reduceAdd, Nat.reduceMul, Int.reduceEq, Int.reduceLT, Int.reduceLE, Int.reduceNe, Int.reduceBEq, Int.reduceToNat, ↓reduceIte]) (by simp -implicitDefEqProofs only [go_sem, Nat.reduceEqDiff, Nat.reduceLT, Nat.reduceAdd, Nat.reduceMul, Int.reduceEq, Int.reduceLT, Int.reduceLE, Int.reduceNe, Int.reduceBEq, Int.reduceToNat, ↓reduceIte]) ?_
  rw [min12]
  simp -implicitDefEqProofs only [go_sem, Nat.reduceEqDiff, Nat.reduceLT, Nat.reduceAdd, Nat.reduceMul, Int.reduceEq, Int.reduceLT, Int.reduceLE, Int.reduceNe, Int.reduceBEq, Int.reduceToNat, ↓reduceIte]
  refine slice_hi (dst := none) (ty := 0) (pos := "") (after := #[]) (g := none) (a := ua) (n := a0.length) (c := uc) (l := min 12 a0.length) Tryd.underlying28 s36 (by simp -implicitDefEqProofs only [go_sem, Nat.reduceEqDiff, Nat.reduceLT, Nat.reduceAdd, Nat.reduceMul, Int.reduceEq, Int.reduceLT, Int.reduceLE, Int.reduceNe, Int.reduceBEq, Int.reduceToNat, ↓reduceIte]) (by simp -implicitDefEqProofs only [go_sem, Nat.reduceEqDiff, Nat.reduceLT, Nat.reduceAdd, Nat.reduceMul, Int.reduceEq, Int.reduceLT, Int.reduceLE, Int.reduceNe, Int.reduceBEq, Int.reduceToNat, ↓reduceIte]) (by omega) ?_
  simp -implicitDefEqProofs only [go_sem, Nat.reduceEqDiff, Nat.reduceLT, Nat.reduceAdd, Nat.reduceMul, Int.reduceEq, Int.reduceLT, Int.reduceLE, Int.reduceNe, Int.reduceBEq, Int.reduceToNat, ↓reduceIte]
  have hA := hu.front (k := min 12 a0.length) (Nat.min_le_right _ _)
  rw [take_min] at hA
  have lA : (a0.take 12).length = min 12 a0.length := List.length_take
  have wA : ∀ x ∈ a0.take 12, x.wf := fun x hx => hwu x (List.mem_of_mem_take hx)
  rw [← lA] at hA ⊢
  generalize a0.take 12 = A at hA lA wA ⊢
  have fr3 : Fsh w0 (fun _ => none) (.slice (some ⟨b3, 0, none⟩) 0 0) := fun b hb => by simp only [blk, Option.some.injEq] at hb; subst hb; exact ⟨rfl, hb3⟩
  refine app_v (Hb := fun _ => none) (by simp -implicitDefEqProofs only [go_sem, Nat.reduceEqDiff, Nat.reduceLT, Nat.reduceAdd, Nat.reduceMul, Int.reduceEq, Int.reduceLT, Int.reduceLE, Int.reduceNe, Int.reduceBEq, Int.reduceToNat, ↓reduceIte]) (OwnV.empty h3) (by simp -implicitDefEqProofs only [go_sem, Nat.reduceEqDiff, Nat.reduceLT, Nat.reduceAdd, Nat.reduceMul, Int.reduceEq, Int.reduceLT, Int.reduceLE, Int.reduceNe, Int.reduceBEq, Int.reduceToNat, ↓reduceIte]) (hA.sub s3 hh3) (by simp; omega) fr3 s3 ?_
  intro r4 H4 o4 f4 s4' a4
  rw [List.nil_append] at o4
  simp -implicitDefEqProofs only [go_sem, Nat.reduceEqDiff, Nat.reduceLT, Nat.reduceAdd, Nat.reduceMul, Int.reduceEq, Int.reduceLT, Int.reduceLE, Int.reduceNe, Int.reduceBEq, Int.reduceToNat, ↓reduceIte]
  refine (kbytes_ok ht o4.vs (by omega) wA).mono ?_
  rintro r5 H5 hq5
  have t5 := hq5.1
  obtain ⟨p, e, bs, rfl, ho5, hc5⟩ := kb_case hq5
  simp -implicitDefEqProofs only [go_sem, Nat.reduceEqDiff, Nat.reduceLT, Nat.reduceAdd, Nat.reduceMul, Int.reduceEq, Int.reduceLT, Int.reduceLE, Int.reduceNe, Int.reduceBEq, Int.reduceToNat, ↓reduceIte]
  refine (rbytes_ok (o4.sub t5).vs (by omega) wA).mono ?_
  rintro r6 H6 hq6
  have t6 := hq6.1
  obtain ⟨p', e', bs', rfl, ho6, hc6⟩ := kb_case hq6
  have o4' := (o4.sub t5).sub t6
  have hoe : bs' = bs ∧ e' = e := by
    rcases hc5 with ⟨h1, rfl, rfl⟩ | ⟨h1, rfl, rfl⟩ <;> rcases hc6 with ⟨h2, rfl, rfl⟩ | ⟨h2, rfl, rfl⟩
    · exact ⟨rfl, rfl⟩
    · rw [h1] at h2; cases h2
    · rw [h1] at h2; cases h2
    · exact ⟨rfl, rfl⟩
  obtain ⟨rfl, rfl⟩ := hoe
  simp -implicitDefEqProofs only [go_sem, Nat.reduceEqDiff, Nat.reduceLT, Nat.reduceAdd, Nat.reduceMul, Int.reduceEq, Int.reduceLT, Int.reduceLE, Int.reduceNe, Int.reduceBEq, Int.reduceToNat, ↓reduceIte]
  refine (same_ok (ho5.sub t6).bt ho6.bt).mono ?_
  rintro r H7 ⟨rfl, rfl⟩
  have bb : (bs' == bs') = true := by simp
  rcases hc5 with ⟨h1, rfl, rfl⟩ | ⟨h1, rfl, rfl⟩
  · simp -implicitDefEqProofs only [go_sem, Nat.reduceEqDiff, Nat.reduceLT, Nat.reduceAdd, Nat.reduceMul, Int.reduceEq, Int.reduceLT, Int.reduceLE, Int.reduceNe, Int.reduceBEq, Int.reduceToNat, ↓reduceIte, bb]
    have hlen := encR_len h1
    refine (kread_ok ht (ho5.sub t6).bt (by omega)).mono ?_
    rintro r8 H8 ⟨t8, o, hrd, ho⟩
    have := Rdd.det hrd (rdd_enc h1 wA)
    subst this
    obtain ⟨_, s, rfl, hov, _⟩ := ho
    simp -implicitDefEqProofs only [go_sem, Nat.reduceEqDiff, Nat.reduceLT, Nat.reduceAdd, Nat.reduceMul, Int.reduceEq, Int.reduceLT, Int.reduceLE, Int.reduceNe, Int.reduceBEq, Int.reduceToNat, ↓reduceIte]
    refine (samerow_ok hov.vs (o4'.sub t8).vs (by omega)).mono ?_
    rintro r H9 ⟨rfl, rfl⟩
    rw [sameR_refl]
    simp -implicitDefEqProofs only [go_sem, Nat.reduceEqDiff, Nat.reduceLT, Nat.reduceAdd, Nat.reduceMul, Int.reduceEq, Int.reduceLT, Int.reduceLE, Int.reduceNe, Int.reduceBEq, Int.reduceToNat, ↓reduceIte]
  · simp -implicitDefEqProofs only [go_sem, Nat.reduceEqDiff, Nat.reduceLT, Nat.reduceAdd, Nat.reduceMul, Int.reduceEq, Int.reduceLT, Int.reduceLE, Int.reduceNe, Int.reduceBEq, Int.reduceToNat, ↓reduceIte, bb]
    refine (kread_ok ht (ho5.sub t6).bt (by simp)).mono ?_
    rintro r8 H8 ⟨t8, o, hrd, ho⟩
    have hr8 : ∃ m g, r8 = .tuple #[m, .int .i64 g] := by
      cases o with
      | some l => obtain ⟨_, s, e, _⟩ := ho; exact ⟨_, _, e⟩
      | none => exact ⟨_, _, ho⟩
    obtain ⟨m, g, rfl⟩ := hr8
    simp -implicitDefEqProofs only [go_sem, Nat.reduceEqDiff, Nat.reduceLT, Nat.reduceAdd, Nat.reduceMul, Int.reduceEq, Int.reduceLT, Int.reduceLE, Int.reduceNe, Int.reduceBEq, Int.reduceToNat, ↓reduceIte]
end
end Go.Proofs.YtoolnkemkhianaaDoor
