/-
  key.Behind.
  Conditions: as each theorem states them.
-/
import Derived.Test.YtoolnkemkhianaaDoorByu
import Derived.Test.YtoolnkemkhianaaDoorPck
namespace Go.Proofs.YtoolnkemkhianaaDoor
open Go Go.RowKit Go.Proofs.YtoolnkemkhianaaDoorW
set_option maxRecDepth 100000
set_option linter.unusedSimpArgs false
set_option linter.unusedVariables false
/-- e is what stands behind all that begin with p. -/
def Beh (p e : List UInt8) : Prop :=
  ∃ k, k ≤ p.length ∧ (∀ i, k ≤ i → i < p.length → p[i]? = some 255) ∧ ((k = 0 ∧ e = []) ∨ ∃ b : UInt8, 0 < k ∧ p[k - 1]? = some b ∧ b ≠ 255 ∧ e = p.take (k - 1) ++ [b + 1])
theorem u8_inc {b : UInt8} (h : b ≠ 255) : IntKind.u8.wrap ((b.toNat : Int) + 1) = ((b + 1).toNat : Int) := by
  have h1 : b.toNat ≠ 255 := fun e => h (UInt8.toNat_inj.1 e)
  have h2 := UInt8.toNat_lt b
  have h3 : (b + 1).toNat = b.toNat + 1 := by
    rw [UInt8.toNat_add]
    show (b.toNat + 1) % 256 = _
    omega
  rw [h3]
  show ((b.toNat : Int) + 1) % 256 = _
  omega
def BehI (w0 : World) (p : List UInt8) (H1 : Hp) (g cap : Nat) (m : Nat) (F : Fr) (H : Hp) : Prop :=
  m ≤ p.length ∧ F 0 = .slice (some ⟨g, 0, none⟩) m cap ∧ H = H1 ∧ ∀ i, m ≤ i → i < p.length → p[i]? = some 255
theorem behind_ok {w0 : World} {H : Hp} {u : Value} {p : List UInt8} (hp : Bt w0 H u p) (hn : p.length < 1000000) : ACalls Tryd.prog w0 18 #[u] H fun r H' => ∃ e, Beh p e ∧ e.length ≤ p.length ∧ Own H' r e ∧ Fsh w0 H r ∧ Sub H H' := by
  refine acalls_of Tryd.func18 rfl Tryd.ntmps18 r18 (by simp) ?_
  simp -implicitDefEqProofs only [go_sem, Nat.reduceEqDiff, Nat.reduceLT, Nat.reduceAdd, Nat.reduceMul, Int.reduceEq, Int.reduceLT, Int.reduceLE, Int.reduceNe, Int.reduceBEq, Int.reduceToNat, ↓reduceIte]
  refine (ACalls.hi (clone_ok hp hn)).mono ?_
  rintro r H1 ⟨⟨hown, hf, s1⟩, hh1⟩
  rcases Nat.eq_zero_or_pos p.length with h0 | hpos
  · have hnil : p = [] := List.eq_nil_of_length_eq_zero h0
    subst hnil
    obtain ⟨ra, rc, hr⟩ := Row.slice hown
    subst hr
    simp -implicitDefEqProofs only [go_sem, Nat.reduceEqDiff, Nat.reduceLT, Nat.reduceAdd, Nat.reduceMul, Int.reduceEq, Int.reduceLT, Int.reduceLE, Int.reduceNe, Int.reduceBEq, Int.reduceToNat, ↓reduceIte]
    refine AC.loop (fun m F H => m = 0 ∧ F 0 = .slice ra 0 rc ∧ H = H1) (n := 0) ⟨rfl, by simp -implicitDefEqProofs only [go_sem, Nat.reduceEqDiff, Nat.reduceLT, Nat.reduceAdd, Nat.reduceMul, Int.reduceEq, Int.reduceLT, Int.reduceLE, Int.reduceNe, Int.reduceBEq, Int.reduceToNat, ↓reduceIte, List.length_nil], rfl⟩ ?_
    rintro m F H2 ⟨rfl, f0, rfl⟩
    have d1 : decide ((0 : Int) < ((0 : Nat) : Int)) = false := rfl
    have d2 : decide (((0 : Nat) : Int) = 0) = true := rfl
    simp -implicitDefEqProofs only [go_sem, Nat.reduceEqDiff, Nat.reduceLT, Nat.reduceAdd, Nat.reduceMul, Int.reduceEq, Int.reduceLT, Int.reduceLE, Int.reduceNe, Int.reduceBEq, Int.reduceToNat, ↓reduceIte, f0, d1, d2]
    exact ⟨[], ⟨0, Nat.le_refl _, fun i _ hi => by simp at hi, .inl ⟨rfl, rfl⟩⟩, Nat.le_refl _, Own.nil _, fun b hb => by simp [blk] at hb, s1⟩
  · obtain ⟨g, cap, cur, hr, hg, hc, hcs, hget, htk⟩ := Row.open1 hown hpos
    have hgH := hf g (by rw [hr]; rfl)
    subst hr
    have lg := ld_own w0 hg
    have hpl : ∀ i, i < p.length → cur[i]? = (u8s p)[i]? := hget
    simp -implicitDefEqProofs only [go_sem, Nat.reduceEqDiff, Nat.reduceLT, Nat.reduceAdd, Nat.reduceMul, Int.reduceEq, Int.reduceLT, Int.reduceLE, Int.reduceNe, Int.reduceBEq, Int.reduceToNat, ↓reduceIte]
    refine AC.loop (BehI w0 p H1 g cap) (n := p.length) ⟨Nat.le_refl _, by simp -implicitDefEqProofs only [go_sem, Nat.reduceEqDiff, Nat.reduceLT, Nat.reduceAdd, Nat.reduceMul, Int.reduceEq, Int.reduceLT, Int.reduceLE, Int.reduceNe, Int.reduceBEq, Int.reduceToNat, ↓reduceIte], rfl, fun i h1 h2 => by omega⟩ ?_
    rintro m F H2 ⟨hm, f0, rfl, hall⟩
    rcases Nat.eq_zero_or_pos m with hm0 | hmpos
    · subst hm0
      have d1 : decide ((0 : Int) < ((0 : Nat) : Int)) = false := rfl
      have d2 : decide (((0 : Nat) : Int) = 0) = true := rfl
      simp -implicitDefEqProofs only [go_sem, Nat.reduceEqDiff, Nat.reduceLT, Nat.reduceAdd, Nat.reduceMul, Int.reduceEq, Int.reduceLT, Int.reduceLE, Int.reduceNe, Int.reduceBEq, Int.reduceToNat, ↓reduceIte, f0, d1, d2]
      exact ⟨[], ⟨0, Nat.zero_le _, hall, .inl ⟨rfl, rfl⟩⟩, Nat.zero_le _, Own.nil _, fun b hb => by simp [blk] at hb, s1⟩
    · have d1 : decide ((0 : Int) < (m : Int)) = true := decide_eq_true (by omega)
      have e1 : IntKind.i64.wrap ((m : Int) - 1) = ((m - 1 : Nat) : Int) := by rw [i64_in] <;> omega
      have d3 : decide ((0 : Int) ≤ ((m - 1 : Nat) : Int)) = true := decide_eq_true (by omega)
      have d4 : decide (((m - 1 : Nat) : Int) < (m : Int)) = true := decide_eq_true (by omega)
      obtain ⟨b, hb⟩ : ∃ b, p[m - 1]? = some b := ⟨_, List.getElem?_eq_getElem (by omega)⟩
      have hcur : cur[m - 1]? = some (.int .u8 (b.toNat : Int)) := by rw [hpl _ (by omega)]; unfold u8s; rw [List.getElem?_map, hb]; rfl
      by_cases c : b = 255
      · have d5 : decide ((b.toNat : Int) = 255) = true := by rw [c]; rfl
        simp -implicitDefEqProofs only [go_sem, Nat.reduceEqDiff, Nat.reduceLT, Nat.reduceAdd, Nat.reduceMul, Int.reduceEq, Int.reduceLT, Int.reduceLE, Int.reduceNe, Int.reduceBEq, Int.reduceToNat, ↓reduceIte, f0, d1, e1, d3, d4, lg, hcur, d5]
        refine slice_hi (dst := none) (ty := 0) (pos := "") (after := #[]) (g := none) (a := some ⟨g, 0, none⟩) (n := m) (c := cap) (l := m - 1) Tryd.underlying22 s5 (by simp -implicitDefEqProofs only [go_sem, Nat.reduceEqDiff, Nat.reduceLT, Nat.reduceAdd, Nat.reduceMul, Int.reduceEq, Int.reduceLT, Int.reduceLE, Int.reduceNe, Int.reduceBEq, Int.reduceToNat, ↓reduceIte, f0]) (by simp -implicitDefEqProofs only [go_sem, Nat.reduceEqDiff, Nat.reduceLT, Nat.reduceAdd, Nat.reduceMul, Int.reduceEq, Int.reduceLT, Int.reduceLE, Int.reduceNe, Int.reduceBEq, Int.reduceToNat, ↓reduceIte]) (by omega) ?_
        simp -implicitDefEqProofs only [go_sem, Nat.reduceEqDiff, Nat.reduceLT, Nat.reduceAdd, Nat.reduceMul, Int.reduceEq, Int.reduceLT, Int.reduceLE, Int.reduceNe, Int.reduceBEq, Int.reduceToNat, ↓reduceIte, f0]
        refine ⟨m - 1, by omega, by omega, by simp -implicitDefEqProofs only [go_sem, Nat.reduceEqDiff, Nat.reduceLT, Nat.reduceAdd, Nat.reduceMul, Int.reduceEq, Int.reduceLT, Int.reduceLE, Int.reduceNe, Int.reduceBEq, Int.reduceToNat, ↓reduceIte], rfl, fun i h1 h2 => ?_⟩
        by_cases e : i = m - 1
        · rw [e, hb, c]
        · exact hall i (by omega) h2
      · have d5 : decide ((b.toNat : Int) = 255) = false := decide_eq_false fun e => c (UInt8.toNat_inj.1 (by show b.toNat = 255; omega))
        have d6 : decide ((m : Int) = 0) = false := decide_eq_false (by omega)
        have e2 := u8_inc c
        have hw := wr_own hg (m - 1) (by omega)
        simp -implicitDefEqProofs only [go_sem, Nat.reduceEqDiff, Nat.reduceLT, Nat.reduceAdd, Nat.reduceMul, Int.reduceEq, Int.reduceLT, Int.reduceLE, Int.reduceNe, Int.reduceBEq, Int.reduceToNat, ↓reduceIte, f0, d1, e1, d3, d4, lg, hcur, d5, d6, e2, hw]
        have h3 := Hp.set_same H2 g (.cells (cur.setIfInBounds (m - 1) (.int .u8 ((b + 1).toNat : Int))) 5 (0, 0))
        have g3 : ∀ i, i ≠ g → (H2.set g (.cells (cur.setIfInBounds (m - 1) (.int .u8 ((b + 1).toNat : Int))) 5 (0, 0))) i = H2 i := fun i hi => Hp.set_ne _ _ _ _ hi
        generalize H2.set g (.cells (cur.setIfInBounds (m - 1) (.int .u8 ((b + 1).toNat : Int))) 5 (0, 0)) = H3 at h3 g3 ⊢
        have s3 : Sub H H3 := fun i o hi => by rw [g3 i (fun e => by rw [e, hgH.1] at hi; cases hi)]; exact s1 i o hi
        have hrow3 : Own H3 (.slice (some ⟨g, 0, none⟩) m cap) (p.take (m - 1) ++ [b + 1]) := by
          have hl : (p.take (m - 1) ++ [b + 1]).length = m := by rw [List.length_append, List.length_take, List.length_singleton]; omega
          refine ⟨by rw [u8s_len]; omega, .inr ⟨g, cap, _, by rw [hl], h3, by omega, by simp [hcs], ?_⟩⟩
          rw [hl, Nat.mul_one, Array.toList_setIfInBounds, u8s_app]
          have hcl : cur.toList.take m = (u8s p).take m := by rw [← htk, List.take_take, Nat.min_eq_left (by omega)]
          have hm1 : m = m - 1 + 1 := by omega
          rw [hm1, List.take_add_one, List.take_set_of_le (by omega), show m - 1 + 1 - 1 = m - 1 by omega]
          rw [List.getElem?_set_self (by rw [Array.length_toList]; omega)]
          congr 1
          rw [u8s_take, ← htk, List.take_take, Nat.min_eq_left (by omega)]
        have hl : (p.take (m - 1) ++ [b + 1]).length = m := by rw [List.length_append, List.length_take, List.length_singleton]; omega
        refine (clone_ok hrow3.bt (by omega)).mono ?_
        rintro r H4 ⟨hown4, hf4, s4⟩
        simp -implicitDefEqProofs only [go_sem, Nat.reduceEqDiff, Nat.reduceLT, Nat.reduceAdd, Nat.reduceMul, Int.reduceEq, Int.reduceLT, Int.reduceLE, Int.reduceNe, Int.reduceBEq, Int.reduceToNat, ↓reduceIte]
        refine ⟨_, ⟨m, hm, hall, .inr ⟨b, hmpos, hb, c, rfl⟩⟩, by omega, hown4, fun b' hb' => ?_, s3.trans s4⟩
        obtain ⟨q1, q2⟩ := hf4 b' hb'
        exact ⟨s3.none q1, q2⟩
end Go.Proofs.YtoolnkemkhianaaDoor
