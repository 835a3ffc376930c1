/-
  Bytes: copied, cut, cloned; the least that stands behind.
  Conditions: as each theorem states them.
-/
import Derived.Test.YtoolnkemkhianaaDoorByt
namespace Go.Proofs.YtoolnkemkhianaaDoor
open Go Go.RowKit Go.Proofs.YtoolnkemkhianaaDoorW
set_option maxRecDepth 100000
set_option linter.unusedSimpArgs false
set_option linter.unusedVariables false
theorem xcmp_n : Extern.findNext Tryd.f51 = none := by kernel_rfl
theorem xcmp_f : Extern.find Tryd.f51 = some Extern.BytealgCompare.compare := by kernel_rfl
section
variable {w0 : World} {H : Hp} {u v : Value} {p q : List UInt8}
theorem copy_ok (hp : Bt w0 H u p) (hn : p.length < 1000000) : ACalls Tryd.prog w0 17 #[u] H fun r H' => Own H' r p ∧ Fsh w0 H r ∧ Sub H H' := by
  have bs : bsCells Tryd.prog 5 0 #[] = some #[] := by kernel_rfl
  refine acalls_hi fun hh => ?_
  refine acalls_of Tryd.func17 rfl Tryd.ntmps17 r17 (by simp) ?_
  simp -implicitDefEqProofs only [go_sem, Nat.reduceEqDiff, Nat.reduceLT, Nat.reduceAdd, Nat.reduceMul, Int.reduceEq, Int.reduceLT, Int.reduceLE, Int.reduceNe, Int.reduceBEq, Int.reduceToNat, ↓reduceIte, bs]
  refine newK_of ?_
  intro b H1 hb hbn h1 s1 g1
  simp -implicitDefEqProofs only [go_sem, Nat.reduceEqDiff, Nat.reduceLT, Nat.reduceAdd, Nat.reduceMul, Int.reduceEq, Int.reduceLT, Int.reduceLE, Int.reduceNe, Int.reduceBEq, Int.reduceToNat, ↓reduceIte]
  refine aop_app Tryd.underlying22 s5 b5 z5 rfl (v := .slice (some ⟨b, 0, none⟩) 0 0) (by simp -implicitDefEqProofs only [go_sem, Nat.reduceEqDiff, Nat.reduceLT, Nat.reduceAdd, Nat.reduceMul, Int.reduceEq, Int.reduceLT, Int.reduceLE, Int.reduceNe, Int.reduceBEq, Int.reduceToNat, ↓reduceIte]) (Own.empty h1) (u := u) (by simp -implicitDefEqProofs only [go_sem, Nat.reduceEqDiff, Nat.reduceLT, Nat.reduceAdd, Nat.reduceMul, Int.reduceEq, Int.reduceLT, Int.reduceLE, Int.reduceNe, Int.reduceBEq, Int.reduceToNat, ↓reduceIte]) (hp.sub s1 (hh.ne hb g1)) (u8s_cell p) (by simp; omega) (by simp; omega) ?_
  intro r H2 hrow happ
  obtain ⟨s2, hf⟩ := App.fresh happ s1 (fun b' hb' => by simp only [blk, Option.some.injEq] at hb'; subst hb'; exact ⟨hbn, hb⟩)
  simp only [List.length_nil, Nat.zero_add, List.nil_append, show u8s [] = [] from rfl] at hrow
  simp -implicitDefEqProofs only [go_sem, Nat.reduceEqDiff, Nat.reduceLT, Nat.reduceAdd, Nat.reduceMul, Int.reduceEq, Int.reduceLT, Int.reduceLE, Int.reduceNe, Int.reduceBEq, Int.reduceToNat, ↓reduceIte]
  exact ⟨hrow, hf, s2⟩
theorem clone_ok (hp : Bt w0 H u p) (hn : p.length < 1000000) : ACalls Tryd.prog w0 38 #[u] H fun r H' => Own H' r p ∧ Fsh w0 H r ∧ Sub H H' := by
  have bs : bsCells Tryd.prog 5 0 #[] = some #[] := by kernel_rfl
  refine acalls_hi fun hh => ?_
  refine acalls_of Tryd.func38 rfl Tryd.ntmps38 r38 (by simp) ?_
  have hp' := hp
  rcases hp with ⟨rfl, h0, _⟩ | ⟨a, c, rfl, h2, h3⟩
  · have : p = [] := List.eq_nil_of_length_eq_zero h0
    subst this
    simp -implicitDefEqProofs only [go_sem, Nat.reduceEqDiff, Nat.reduceLT, Nat.reduceAdd, Nat.reduceMul, Int.reduceEq, Int.reduceLT, Int.reduceLE, Int.reduceNe, Int.reduceBEq, Int.reduceToNat, ↓reduceIte]
    exact ⟨Own.nil _, fun b hb => by simp [blk] at hb, Sub.refl _⟩
  · simp -implicitDefEqProofs only [go_sem, Nat.reduceEqDiff, Nat.reduceLT, Nat.reduceAdd, Nat.reduceMul, Int.reduceEq, Int.reduceLT, Int.reduceLE, Int.reduceNe, Int.reduceBEq, Int.reduceToNat, ↓reduceIte, bs]
    refine newK_of ?_
    intro b H1 hb hbn h1 s1 g1
    simp -implicitDefEqProofs only [go_sem, Nat.reduceEqDiff, Nat.reduceLT, Nat.reduceAdd, Nat.reduceMul, Int.reduceEq, Int.reduceLT, Int.reduceLE, Int.reduceNe, Int.reduceBEq, Int.reduceToNat, ↓reduceIte]
    refine aop_app Tryd.underlying22 s5 b5 z5 rfl (v := .slice (some ⟨b, 0, none⟩) 0 0) (by simp -implicitDefEqProofs only [go_sem, Nat.reduceEqDiff, Nat.reduceLT, Nat.reduceAdd, Nat.reduceMul, Int.reduceEq, Int.reduceLT, Int.reduceLE, Int.reduceNe, Int.reduceBEq, Int.reduceToNat, ↓reduceIte]) (Own.empty h1) (u := .slice (some a) p.length c) (by simp -implicitDefEqProofs only [go_sem, Nat.reduceEqDiff, Nat.reduceLT, Nat.reduceAdd, Nat.reduceMul, Int.reduceEq, Int.reduceLT, Int.reduceLE, Int.reduceNe, Int.reduceBEq, Int.reduceToNat, ↓reduceIte]) (hp'.sub s1 (hh.ne hb g1)) (u8s_cell p) (by simp; omega) (by simp; omega) ?_
    intro r H2 hrow happ
    obtain ⟨s2, hf⟩ := App.fresh happ s1 (fun b' hb' => by simp only [blk, Option.some.injEq] at hb'; subst hb'; exact ⟨hbn, hb⟩)
    simp only [List.length_nil, Nat.zero_add, List.nil_append, show u8s [] = [] from rfl] at hrow
    simp -implicitDefEqProofs only [go_sem, Nat.reduceEqDiff, Nat.reduceLT, Nat.reduceAdd, Nat.reduceMul, Int.reduceEq, Int.reduceLT, Int.reduceLE, Int.reduceNe, Int.reduceBEq, Int.reduceToNat, ↓reduceIte]
    exact ⟨hrow, hf, s2⟩
theorem cut_ok {k : Nat} (hp : Bt w0 H u p) (hk : k < 1000000) : ACalls Tryd.prog w0 16 #[u, .int .i64 (k : Int)] H fun r H' => Own H' r (p.take k) ∧ Fsh w0 H r ∧ Sub H H' := by
  have bs : bsCells Tryd.prog 5 0 #[] = some #[] := by kernel_rfl
  refine acalls_hi fun hh => ?_
  obtain ⟨a, c, hu, hnc⟩ := Rd.slice hp
  subst hu
  refine acalls_of Tryd.func16 rfl Tryd.ntmps16 r16 (by simp) ?_
  simp -implicitDefEqProofs only [go_sem, Nat.reduceEqDiff, Nat.reduceLT, Nat.reduceAdd, Nat.reduceMul, Int.reduceEq, Int.reduceLT, Int.reduceLE, Int.reduceNe, Int.reduceBEq, Int.reduceToNat, ↓reduceIte, bs]
  refine newK_of ?_
  intro b H1 hb hbn h1 s1 g1
  simp -implicitDefEqProofs only [go_sem, Nat.reduceEqDiff, Nat.reduceLT, Nat.reduceAdd, Nat.reduceMul, Int.reduceEq, Int.reduceLT, Int.reduceLE, Int.reduceNe, Int.reduceBEq, Int.reduceToNat, ↓reduceIte]
  refine aop_min (k := .i64) (a := (p.length : Int)) (b := (k : Int)) (by simp -implicitDefEqProofs only [go_sem, Nat.reduceEqDiff, Nat.reduceLT, Nat.reduceAdd, Nat.reduceMul, Int.reduceEq, Int.reduceLT, Int.reduceLE, Int.reduceNe, Int.reduceBEq, Int.reduceToNat, ↓reduceIte]) (by simp -implicitDefEqProofs only [go_sem, Nat.reduceEqDiff, Nat.reduceLT, Nat.reduceAdd, Nat.reduceMul, Int.reduceEq, Int.reduceLT, Int.reduceLE, Int.reduceNe, Int.reduceBEq, Int.reduceToNat, ↓reduceIte]) ?_
  have em : (if (k : Int) < (p.length : Int) then (k : Int) else (p.length : Int)) = ((min k p.length : Nat) : Int) := by
    split <;> omega
  rw [em]
  simp -implicitDefEqProofs only [go_sem, Nat.reduceEqDiff, Nat.reduceLT, Nat.reduceAdd, Nat.reduceMul, Int.reduceEq, Int.reduceLT, Int.reduceLE, Int.reduceNe, Int.reduceBEq, Int.reduceToNat, ↓reduceIte]
  refine slice_hi (dst := none) (ty := 0) (pos := "") (after := #[]) (g := none) (a := a) (n := p.length) (c := c) (l := min k p.length) Tryd.underlying22 s5 (by simp -implicitDefEqProofs only [go_sem, Nat.reduceEqDiff, Nat.reduceLT, Nat.reduceAdd, Nat.reduceMul, Int.reduceEq, Int.reduceLT, Int.reduceLE, Int.reduceNe, Int.reduceBEq, Int.reduceToNat, ↓reduceIte]) (by simp -implicitDefEqProofs only [go_sem, Nat.reduceEqDiff, Nat.reduceLT, Nat.reduceAdd, Nat.reduceMul, Int.reduceEq, Int.reduceLT, Int.reduceLE, Int.reduceNe, Int.reduceBEq, Int.reduceToNat, ↓reduceIte]) (by omega) ?_
  have hfr := (hp.sub s1 (hh.ne hb g1)).front (k := min k p.length) (Nat.min_le_right _ _)
  have htk : p.take (min k p.length) = p.take k := by
    by_cases h : k ≤ p.length
    · rw [Nat.min_eq_left h]
    · rw [Nat.min_eq_right (by omega), List.take_of_length_le (Nat.le_refl _), List.take_of_length_le (by omega)]
  rw [htk] at hfr
  have hl : (p.take k).length = min k p.length := List.length_take
  simp -implicitDefEqProofs only [go_sem, Nat.reduceEqDiff, Nat.reduceLT, Nat.reduceAdd, Nat.reduceMul, Int.reduceEq, Int.reduceLT, Int.reduceLE, Int.reduceNe, Int.reduceBEq, Int.reduceToNat, ↓reduceIte]
  refine aop_app Tryd.underlying22 s5 b5 z5 rfl (v := .slice (some ⟨b, 0, none⟩) 0 0) (by simp -implicitDefEqProofs only [go_sem, Nat.reduceEqDiff, Nat.reduceLT, Nat.reduceAdd, Nat.reduceMul, Int.reduceEq, Int.reduceLT, Int.reduceLE, Int.reduceNe, Int.reduceBEq, Int.reduceToNat, ↓reduceIte]) (Own.empty h1) (u := .slice a (min k p.length) c) (by simp -implicitDefEqProofs only [go_sem, Nat.reduceEqDiff, Nat.reduceLT, Nat.reduceAdd, Nat.reduceMul, Int.reduceEq, Int.reduceLT, Int.reduceLE, Int.reduceNe, Int.reduceBEq, Int.reduceToNat, ↓reduceIte]) hfr (u8s_cell _) (by simp; omega) (by simp; omega) ?_
  intro r H2 hrow happ
  obtain ⟨s2, hf⟩ := App.fresh happ s1 (fun b' hb' => by simp only [blk, Option.some.injEq] at hb'; subst hb'; exact ⟨hbn, hb⟩)
  simp only [List.length_nil, Nat.zero_add, List.nil_append, show u8s [] = [] from rfl] at hrow
  simp -implicitDefEqProofs only [go_sem, Nat.reduceEqDiff, Nat.reduceLT, Nat.reduceAdd, Nat.reduceMul, Int.reduceEq, Int.reduceLT, Int.reduceLE, Int.reduceNe, Int.reduceBEq, Int.reduceToNat, ↓reduceIte]
  exact ⟨hrow, hf, s2⟩
def beginsB (p q : List UInt8) : Bool := decide (q.length ≤ p.length) && (p.take q.length == q)
theorem begins_ok (hp : Bt w0 H u p) (hq : Bt w0 H v q) : ACalls Tryd.prog w0 21 #[u, v] H fun r H' => r = .bool (beginsB p q) ∧ H' = H := by
  obtain ⟨a, c, hu, hnc⟩ := Rd.slice hp
  obtain ⟨a2, c2, hv, hnc2⟩ := Rd.slice hq
  subst hu hv
  refine acalls_of Tryd.func21 rfl Tryd.ntmps21 r21 (by simp) ?_
  unfold beginsB
  by_cases h : q.length ≤ p.length
  · have d1 : decide ((q.length : Int) ≤ (p.length : Int)) = true := decide_eq_true (by omega)
    simp -implicitDefEqProofs only [go_sem, Nat.reduceEqDiff, Nat.reduceLT, Nat.reduceAdd, Nat.reduceMul, Int.reduceEq, Int.reduceLT, Int.reduceLE, Int.reduceNe, Int.reduceBEq, Int.reduceToNat, ↓reduceIte, d1]
    refine slice_hi (dst := none) (ty := 0) (pos := "") (after := #[]) (g := none) (a := a) (n := p.length) (c := c) (l := q.length) Tryd.underlying22 s5 (by simp -implicitDefEqProofs only [go_sem, Nat.reduceEqDiff, Nat.reduceLT, Nat.reduceAdd, Nat.reduceMul, Int.reduceEq, Int.reduceLT, Int.reduceLE, Int.reduceNe, Int.reduceBEq, Int.reduceToNat, ↓reduceIte]) (by simp -implicitDefEqProofs only [go_sem, Nat.reduceEqDiff, Nat.reduceLT, Nat.reduceAdd, Nat.reduceMul, Int.reduceEq, Int.reduceLT, Int.reduceLE, Int.reduceNe, Int.reduceBEq, Int.reduceToNat, ↓reduceIte]) (by omega) ?_
    simp -implicitDefEqProofs only [go_sem, Nat.reduceEqDiff, Nat.reduceLT, Nat.reduceAdd, Nat.reduceMul, Int.reduceEq, Int.reduceLT, Int.reduceLE, Int.reduceNe, Int.reduceBEq, Int.reduceToNat, ↓reduceIte]
    refine (same_ok (hp.front h) hq).mono ?_
    rintro r H' ⟨rfl, rfl⟩
    rw [decide_eq_true h]
    simp -implicitDefEqProofs only [go_sem, Nat.reduceEqDiff, Nat.reduceLT, Nat.reduceAdd, Nat.reduceMul, Int.reduceEq, Int.reduceLT, Int.reduceLE, Int.reduceNe, Int.reduceBEq, Int.reduceToNat, ↓reduceIte]
  · have d1 : decide ((q.length : Int) ≤ (p.length : Int)) = false := decide_eq_false (by omega)
    rw [decide_eq_false h]
    simp -implicitDefEqProofs only [go_sem, Nat.reduceEqDiff, Nat.reduceLT, Nat.reduceAdd, Nat.reduceMul, Int.reduceEq, Int.reduceLT, Int.reduceLE, Int.reduceNe, Int.reduceBEq, Int.reduceToNat, ↓reduceIte, d1]
theorem bcompare_ok (hp : Bt w0 H u p) (hq : Bt w0 H v q) : ACalls Tryd.prog w0 41 #[u, v] H fun r H' => r = .int .i64 (Extern.BytealgCompare.cmp ⟨p.toArray⟩ ⟨q.toArray⟩) ∧ H' = H := by
  refine acalls_of Tryd.func41 rfl Tryd.ntmps41 r41 (by simp) ?_
  simp -implicitDefEqProofs only [go_sem, Nat.reduceEqDiff, Nat.reduceLT, Nat.reduceAdd, Nat.reduceMul, Int.reduceEq, Int.reduceLT, Int.reduceLE, Int.reduceNe, Int.reduceBEq, Int.reduceToNat, ↓reduceIte]
  refine aop_extern Tryd.func51 rfl rfl xcmp_n xcmp_f ?_
  simp -implicitDefEqProofs only [go_sem, Nat.reduceEqDiff, Nat.reduceLT, Nat.reduceAdd, Nat.reduceMul, Int.reduceEq, Int.reduceLT, Int.reduceLE, Int.reduceNe, Int.reduceBEq, Int.reduceToNat, ↓reduceIte]
  refine awp_compare hp hq ?_
  simp -implicitDefEqProofs only [go_sem, Nat.reduceEqDiff, Nat.reduceLT, Nat.reduceAdd, Nat.reduceMul, Int.reduceEq, Int.reduceLT, Int.reduceLE, Int.reduceNe, Int.reduceBEq, Int.reduceToNat, ↓reduceIte]
theorem kless_ok (hp : Bt w0 H u p) (hq : Bt w0 H v q) : ACalls Tryd.prog w0 25 #[u, v] H fun r H' => r = .bool (Op.bytesLess p q) ∧ H' = H := by
  refine acalls_of Tryd.func25 rfl Tryd.ntmps25 r25 (by simp) ?_
  simp -implicitDefEqProofs only [go_sem, Nat.reduceEqDiff, Nat.reduceLT, Nat.reduceAdd, Nat.reduceMul, Int.reduceEq, Int.reduceLT, Int.reduceLE, Int.reduceNe, Int.reduceBEq, Int.reduceToNat, ↓reduceIte]
  refine (bcompare_ok hp hq).mono ?_
  rintro r H' ⟨rfl, rfl⟩
  simp -implicitDefEqProofs only [go_sem, Nat.reduceEqDiff, Nat.reduceLT, Nat.reduceAdd, Nat.reduceMul, Int.reduceEq, Int.reduceLT, Int.reduceLE, Int.reduceNe, Int.reduceBEq, Int.reduceToNat, ↓reduceIte, cmp_lt]
end
end Go.Proofs.YtoolnkemkhianaaDoor
