/-
  The law KeyReads, walked.
  Conditions: as each theorem states them.
-/
import Derived.Test.YtoolnkemkhianaaDoorRrd
import Derived.Test.YtoolnkemkhianaaDoorSmr
namespace Go.Proofs.YtoolnkemkhianaaDoor
open Go Go.RowKit Go.Proofs.YtoolnkemkhianaaDoorW
set_option maxRecDepth 100000
set_option maxHeartbeats 1000000
set_option linter.unusedSimpArgs false
set_option linter.unusedVariables false
section
variable {w0 : World} {H Hb : Hp}
/-- What a reading gives, as its values: those of a row, or none. -/
theorem rd_case {p : List UInt8} {r : Value} {H1 H2 : Hp} (h : RdQ w0 H1 p r H2) : ∃ o s l e, Rdd p o ∧ r = .tuple #[s, .int .i64 e] ∧ OwnV H2 s l ∧ l = o.getD [] ∧ e = (if o.isSome = true then 0 else 3) ∧ l.length ≤ p.length := by
  obtain ⟨_, o, h1, h2⟩ := h
  cases o with
  | some l => obtain ⟨h3, s, e, h4, _⟩ := h2; exact ⟨_, s, l, 0, h1, e, h4, rfl, rfl, h3⟩
  | none => exact ⟨_, _, [], 3, h1, h2, Row.nil _ _ _, rfl, rfl, by simp⟩
theorem keyReads_law {u : Value} {p0 : List UInt8} (ht : Tbl w0) (hu : Bt w0 (fun _ => none) u p0) :
    ACalls Tryd.prog w0 8 #[u] (fun _ => none) fun r H' => r = .bool true ∧ True := by
  refine acalls_of Tryd.func8 rfl Tryd.ntmps8 r8 (by simp) ?_
  simp -implicitDefEqProofs only [go_sem, Nat.reduceEqDiff, Nat.reduceLT, Nat.reduceAdd, Nat.reduceMul, Int.reduceEq, Int.reduceLT, Int.reduceLE, Int.reduceNe, Int.reduceBEq, Int.reduceToNat, ↓reduceIte]
  refine (awake3_ok ht).mono ?_
  rintro r H ⟨rfl, rfl⟩
  simp -implicitDefEqProofs only [go_sem, Nat.reduceEqDiff, Nat.reduceLT, Nat.reduceAdd, Nat.reduceMul, Int.reduceEq, Int.reduceLT, Int.reduceLE, Int.reduceNe, Int.reduceBEq, Int.reduceToNat, ↓reduceIte]
  refine (cut_ok (k := 300) hu (by omega)).mono ?_
  rintro r1 H1 ⟨hp, fp, s1⟩
  have hpl : (p0.take 300).length ≤ 300 := by rw [List.length_take]; omega
  generalize p0.take 300 = p at hp hpl
  simp -implicitDefEqProofs only [go_sem, Nat.reduceEqDiff, Nat.reduceLT, Nat.reduceAdd, Nat.reduceMul, Int.reduceEq, Int.reduceLT, Int.reduceLE, Int.reduceNe, Int.reduceBEq, Int.reduceToNat, ↓reduceIte]
  refine (copy_ok hp.bt (by omega)).mono ?_
  rintro r2 H2 ⟨hc, fc, s2⟩
  simp -implicitDefEqProofs only [go_sem, Nat.reduceEqDiff, Nat.reduceLT, Nat.reduceAdd, Nat.reduceMul, Int.reduceEq, Int.reduceLT, Int.reduceLE, Int.reduceNe, Int.reduceBEq, Int.reduceToNat, ↓reduceIte]
  refine newK_of ?_
  intro b3 H3 hb3 hn3 h3 s3 g3
  simp -implicitDefEqProofs only [go_sem, Nat.reduceEqDiff, Nat.reduceLT, Nat.reduceAdd, Nat.reduceMul, Int.reduceEq, Int.reduceLT, Int.reduceLE, Int.reduceNe, Int.reduceBEq, Int.reduceToNat, ↓reduceIte]
  have fc3 : Fsh w0 H1 r2 := fc
  refine app_b (Hb := H1) (by simp -implicitDefEqProofs only [go_sem, Nat.reduceEqDiff, Nat.reduceLT, Nat.reduceAdd, Nat.reduceMul, Int.reduceEq, Int.reduceLT, Int.reduceLE, Int.reduceNe, Int.reduceBEq, Int.reduceToNat, ↓reduceIte]) (hc.sub s3) (by simp -implicitDefEqProofs only [go_sem, Nat.reduceEqDiff, Nat.reduceLT, Nat.reduceAdd, Nat.reduceMul, Int.reduceEq, Int.reduceLT, Int.reduceLE, Int.reduceNe, Int.reduceBEq, Int.reduceToNat, ↓reduceIte]) (Own.lit (p := [165]) h3 rfl).bt (by simp; omega) fc (s2.trans s3) ?_
  intro r4 H4 o4 f4 s4' a4
  have hp4 := hp.sub s4'
  obtain ⟨pa, pc, e1⟩ := Row.slice hp
  subst e1
  obtain ⟨g, cap, cur, hr, hg, hcap, hcs, hget, htk⟩ := Row.open1 o4 (by simp)
  subst hr
  have hl4 : (p ++ [165]).length = p.length + 1 := by simp
  have hcap' : p.length + 1 ≤ cap := by rw [← hl4]; exact hcap
  rw [hl4]
  simp -implicitDefEqProofs only [go_sem, Nat.reduceEqDiff, Nat.reduceLT, Nat.reduceAdd, Nat.reduceMul, Int.reduceEq, Int.reduceLT, Int.reduceLE, Int.reduceNe, Int.reduceBEq, Int.reduceToNat, ↓reduceIte]
  refine slice_hi (dst := none) (ty := 0) (pos := "") (after := #[]) (g := none) (a := some ⟨g, 0, none⟩) (n := p.length + 1) (c := cap) (l := p.length) Tryd.underlying22 s5 (by simp -implicitDefEqProofs only [go_sem, Nat.reduceEqDiff, Nat.reduceLT, Nat.reduceAdd, Nat.reduceMul, Int.reduceEq, Int.reduceLT, Int.reduceLE, Int.reduceNe, Int.reduceBEq, Int.reduceToNat, ↓reduceIte]) (by simp -implicitDefEqProofs only [go_sem, Nat.reduceEqDiff, Nat.reduceLT, Nat.reduceAdd, Nat.reduceMul, Int.reduceEq, Int.reduceLT, Int.reduceLE, Int.reduceNe, Int.reduceBEq, Int.reduceToNat, ↓reduceIte]) (by omega) ?_
  have hq : ∀ {HX : Hp}, Sub H4 HX → Bt w0 HX (.slice (some ⟨g, 0, none⟩) p.length cap) p := fun {HX} hs => by
    have h1 := Bt.front (w0 := w0) (k := p.length) (Own.bt (w0 := w0) (o4.sub hs)) (by simp)
    rw [List.take_left] at h1
    exact h1
  simp -implicitDefEqProofs only [go_sem, Nat.reduceEqDiff, Nat.reduceLT, Nat.reduceAdd, Nat.reduceMul, Int.reduceEq, Int.reduceLT, Int.reduceLE, Int.reduceNe, Int.reduceBEq, Int.reduceToNat, ↓reduceIte]
  refine (kread_ok ht (hq (Sub.refl _)) (by omega)).mono ?_
  rintro r5 H5 hq5
  have t5 := hq5.1
  obtain ⟨o, s, l, e, hrd, rfl, hov, hle, hee, hll⟩ := rd_case hq5
  simp -implicitDefEqProofs only [go_sem, Nat.reduceEqDiff, Nat.reduceLT, Nat.reduceAdd, Nat.reduceMul, Int.reduceEq, Int.reduceLT, Int.reduceLE, Int.reduceNe, Int.reduceBEq, Int.reduceToNat, ↓reduceIte]
  refine (rread_ok (hp4.sub t5).bt (by omega)).mono ?_
  rintro r6 H6 hq6
  have t6 := hq6.1
  obtain ⟨o', s', l', e', hrd', rfl, hov', hle', hee', hll'⟩ := rd_case hq6
  have hoo := Rdd.det hrd hrd'
  subst hoo
  have hl2 : l' = l := by rw [hle', hle]
  have he2 : e' = e := by rw [hee', hee]
  subst hl2 he2
  simp -implicitDefEqProofs only [go_sem, Nat.reduceEqDiff, Nat.reduceLT, Nat.reduceAdd, Nat.reduceMul, Int.reduceEq, Int.reduceLT, Int.reduceLE, Int.reduceNe, Int.reduceBEq, Int.reduceToNat, ↓reduceIte]
  refine (samerow_ok (hov.sub t6).vs hov'.vs (by omega)).mono ?_
  rintro r7 H7 ⟨rfl, rfl⟩
  rw [sameR_refl]
  have dee : decide ((e' : Int) = e') = true := decide_eq_true rfl
  simp -implicitDefEqProofs only [go_sem, Nat.reduceEqDiff, Nat.reduceLT, Nat.reduceAdd, Nat.reduceMul, Int.reduceEq, Int.reduceLT, Int.reduceLE, Int.reduceNe, Int.reduceBEq, Int.reduceToNat, ↓reduceIte, dee]
  refine (same_ok (hq (t5.trans t6)) ((hp4.sub t5).sub t6).bt).mono ?_
  rintro r8 H8 ⟨rfl, rfl⟩
  have bb : (p == p) = true := by simp
  have w1 : IntKind.i64.wrap ((p.length : Int) + 1) = ((p.length + 1 : Nat) : Int) := by rw [i64_in] <;> omega
  simp -implicitDefEqProofs only [go_sem, Nat.reduceEqDiff, Nat.reduceLT, Nat.reduceAdd, Nat.reduceMul, Int.reduceEq, Int.reduceLT, Int.reduceLE, Int.reduceNe, Int.reduceBEq, Int.reduceToNat, ↓reduceIte, bb, w1]
  refine slice_hi (dst := none) (ty := 0) (pos := "") (after := #[]) (g := none) (a := some ⟨g, 0, none⟩) (n := p.length) (c := cap) (l := p.length + 1) Tryd.underlying22 s5 (by simp -implicitDefEqProofs only [go_sem, Nat.reduceEqDiff, Nat.reduceLT, Nat.reduceAdd, Nat.reduceMul, Int.reduceEq, Int.reduceLT, Int.reduceLE, Int.reduceNe, Int.reduceBEq, Int.reduceToNat, ↓reduceIte]) (by simp -implicitDefEqProofs only [go_sem, Nat.reduceEqDiff, Nat.reduceLT, Nat.reduceAdd, Nat.reduceMul, Int.reduceEq, Int.reduceLT, Int.reduceLE, Int.reduceNe, Int.reduceBEq, Int.reduceToNat, ↓reduceIte]) (by omega) ?_
  have hg8 := (t5.trans t6) _ _ hg
  have lg := ld_own w0 hg8
  have hcur : cur[p.length]? = some (.int .u8 165) := by
    rw [hget _ (by rw [hl4]; omega)]
    exact u8s_get (b := 165) (by rw [List.getElem?_append_right (Nat.le_refl _)]; simp)
  have d0 : decide ((0 : Int) ≤ (p.length : Int)) = true := decide_eq_true (by omega)
  have d1 : decide ((p.length : Int) < ((p.length + 1 : Nat) : Int)) = true := decide_eq_true (by omega)
  simp -implicitDefEqProofs only [go_sem, Nat.reduceEqDiff, Nat.reduceLT, Nat.reduceAdd, Nat.reduceMul, Int.reduceEq, Int.reduceLT, Int.reduceLE, Int.reduceNe, Int.reduceBEq, Int.reduceToNat, ↓reduceIte, d0, d1, lg, hcur]
end
end Go.Proofs.YtoolnkemkhianaaDoor
