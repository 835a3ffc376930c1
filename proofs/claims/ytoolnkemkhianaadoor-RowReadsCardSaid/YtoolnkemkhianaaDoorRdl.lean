/-
  The law RowReads, walked.
  Conditions: as each theorem states them.
-/
import Derived.Test.YtoolnkemkhianaaDoorRws
namespace Go.Proofs.YtoolnkemkhianaaDoor
open Go Go.RowKit Go.Proofs.YtoolnkemkhianaaDoorW
set_option maxRecDepth 100000
set_option maxHeartbeats 1000000
set_option linter.unusedSimpArgs false
set_option linter.unusedVariables false
theorem rwd_len : ∀ (ks : List UInt8) (n : Nat) (p : List UInt8) (l : List Va), rwd ks n p = some l → l.length = ks.length
  | [], n, p, l, h => by
    unfold rwd at h
    split at h
    · cases h; rfl
    · cases h
  | k :: ks, n, p, l, h => by
    unfold rwd at h
    by_cases c : n % 2 = 1
    · rw [if_pos c] at h
      cases hr : rwd ks (n / 2) p with
      | none => rw [hr] at h; cases h
      | some l' => rw [hr] at h; cases h; rw [List.length_cons, List.length_cons, rwd_len ks _ _ _ hr]
    · rw [if_neg c] at h
      cases hk : tkW k p with
      | none => rw [hk] at h; cases h
      | some z =>
        obtain ⟨v, r⟩ := z
        rw [hk] at h
        simp only [] at h
        cases hr : rwd ks (n / 2) r with
        | none => rw [hr] at h; cases h
        | some l' => rw [hr] at h; cases h; rw [List.length_cons, List.length_cons, rwd_len ks _ _ _ hr]
theorem rdR_len (ks p : List UInt8) : (rdR ks p).2.length ≤ ks.length := by
  unfold rdR
  split
  · exact Nat.zero_le _
  · cases hr : rdW ks p with
    | none => exact Nat.zero_le _
    | some l =>
      show l.length ≤ _
      cases p with
      | nil => cases hr
      | cons b r =>
        unfold rdW at hr
        simp only [] at hr
        split at hr
        · cases hr
        · exact Nat.le_of_eq (rwd_len _ _ _ _ hr)
section
variable {w0 : World} {H Hb : Hp}
theorem rowReads_law {kv u : Value} {kl p0 : List UInt8} (ht : Tbl w0) (hk : Bt w0 (fun _ => none) kv kl) (hkn : kl.length ≤ 9223372036854775807) (hu : Bt w0 (fun _ => none) u p0) :
    ACalls Tryd.prog w0 13 #[kv, u] (fun _ => none) fun r H' => r = .bool true ∧ True := by
  refine acalls_of Tryd.func13 rfl Tryd.ntmps13 r13 (by simp) ?_
  simp -implicitDefEqProofs only [go_sem, Nat.reduceEqDiff, Nat.reduceLT, Nat.reduceAdd, Nat.reduceMul, Int.reduceEq, Int.reduceLT, Int.reduceLE, Int.reduceNe, Int.reduceBEq, Int.reduceToNat, ↓reduceIte]
  refine (awake4_ok ht).mono ?_
  rintro r H ⟨rfl, rfl⟩
  simp -implicitDefEqProofs only [go_sem, Nat.reduceEqDiff, Nat.reduceLT, Nat.reduceAdd, Nat.reduceMul, Int.reduceEq, Int.reduceLT, Int.reduceLE, Int.reduceNe, Int.reduceBEq, Int.reduceToNat, ↓reduceIte]
  refine (ACalls.hi (cut_ok (k := 300) hu (by omega))).mono ?_
  rintro r1 H1 ⟨⟨hp, fp, s1⟩, hh1⟩
  have hpl : (p0.take 300).length ≤ 300 := by rw [List.length_take]; omega
  generalize p0.take 300 = p at hp hpl
  have n12 : ∀ {X : Hp}, Sub (fun _ => none) X := fun _ _ h => by cases h
  simp -implicitDefEqProofs only [go_sem, Nat.reduceEqDiff, Nat.reduceLT, Nat.reduceAdd, Nat.reduceMul, Int.reduceEq, Int.reduceLT, Int.reduceLE, Int.reduceNe, Int.reduceBEq, Int.reduceToNat, ↓reduceIte]
  refine (ACalls.hi (copy_ok hp.bt (by omega))).mono ?_
  rintro r2 H2 ⟨⟨hc, fc, s2⟩, hh2⟩
  simp -implicitDefEqProofs only [go_sem, Nat.reduceEqDiff, Nat.reduceLT, Nat.reduceAdd, Nat.reduceMul, Int.reduceEq, Int.reduceLT, Int.reduceLE, Int.reduceNe, Int.reduceBEq, Int.reduceToNat, ↓reduceIte]
  refine newK_of ?_
  intro b3 H3 hb3 hn3 h3 s3 g3
  have hh3 : Hi w0 H3 := Hi.ne hh2 hb3 g3
  simp -implicitDefEqProofs only [go_sem, Nat.reduceEqDiff, Nat.reduceLT, Nat.reduceAdd, Nat.reduceMul, Int.reduceEq, Int.reduceLT, Int.reduceLE, Int.reduceNe, Int.reduceBEq, Int.reduceToNat, ↓reduceIte]
  refine app_b (Hb := H1) (by simp -implicitDefEqProofs only [go_sem, Nat.reduceEqDiff, Nat.reduceLT, Nat.reduceAdd, Nat.reduceMul, Int.reduceEq, Int.reduceLT, Int.reduceLE, Int.reduceNe, Int.reduceBEq, Int.reduceToNat, ↓reduceIte]) (hc.sub s3) (by simp -implicitDefEqProofs only [go_sem, Nat.reduceEqDiff, Nat.reduceLT, Nat.reduceAdd, Nat.reduceMul, Int.reduceEq, Int.reduceLT, Int.reduceLE, Int.reduceNe, Int.reduceBEq, Int.reduceToNat, ↓reduceIte]) (Own.lit (p := [165]) h3 rfl).bt (by simp; omega) fc (s2.trans s3) ?_
  intro r4 H4 o4 f4 s4' a4
  have hh4 : Hi w0 H4 := Hi.app hh3 a4 (fun b hb => (fc b hb).2)
  have hp4 := hp.sub s4'
  obtain ⟨pa, pc, e1⟩ := Row.slice hp
  subst e1
  obtain ⟨g, cap, cur, hr, hg, hcap, hcs, hget, htk⟩ := Row.open1 o4 (by simp)
  subst hr
  have hl4 : (p ++ [165]).length = p.length + 1 := by simp
  have hcap' : p.length + 1 ≤ cap := by rw [← hl4]; exact hcap
  rw [hl4]
  simp -implicitDefEqProofs only [go_sem, Nat.reduceEqDiff, Nat.reduceLT, Nat.reduceAdd, Nat.reduceMul, Int.reduceEq, Int.reduceLT, Int.reduceLE, Int.reduceNe, Int.reduceBEq, Int.reduceToNat, ↓reduceIte]
  refine slice_hi (dst := none) (ty := 0) (pos := "") (after := #[]) (g := none) (a := some ⟨g, 0, none⟩) (n := p.length + 1) (c := cap) (l := p.length) Tryd.underlying22 s5 (by simp -implicitDefEqProofs only [go_sem, Nat.reduceEqDiff, Nat.reduceLT, Nat.reduceAdd, Nat.reduceMul, Int.reduceEq, Int.reduceLT, Int.reduceLE, Int.reduceNe, Int.reduceBEq, Int.reduceToNat, ↓reduceIte]) (by simp -implicitDefEqProofs only [go_sem, Nat.reduceEqDiff, Nat.reduceLT, Nat.reduceAdd, Nat.reduceMul, Int.reduceEq, Int.reduceLT, Int.reduceLE, Int.reduceNe, Int.reduceBEq, Int.reduceToNat, ↓reduceIte]) (by omega) ?_
  have hq : ∀ {HX : Hp}, Sub H4 HX → Bt w0 HX (.slice (some ⟨g, 0, none⟩) p.length cap) p := fun {HX} hs => by
    have h1 := Bt.front (w0 := w0) (k := p.length) (Own.bt (w0 := w0) (o4.sub hs)) (by simp)
    rw [List.take_left] at h1
    exact h1
  simp -implicitDefEqProofs only [go_sem, Nat.reduceEqDiff, Nat.reduceLT, Nat.reduceAdd, Nat.reduceMul, Int.reduceEq, Int.reduceLT, Int.reduceLE, Int.reduceNe, Int.reduceBEq, Int.reduceToNat, ↓reduceIte]
  refine (ACalls.hi (kinds_ok (hk.sub n12 hh4) hkn)).mono ?_
  rintro k5 H5 ⟨⟨ok5, fk5, t5⟩, hh5⟩
  have lk : (kl.take 12).length ≤ 12 := by rw [List.length_take]; omega
  obtain ⟨K, hKe⟩ : ∃ K, kl.take 12 = K := ⟨_, rfl⟩
  rw [hKe] at ok5 lk
  have hrl := rdR_len K p
  simp -implicitDefEqProofs only [go_sem, Nat.reduceEqDiff, Nat.reduceLT, Nat.reduceAdd, Nat.reduceMul, Int.reduceEq, Int.reduceLT, Int.reduceLE, Int.reduceNe, Int.reduceBEq, Int.reduceToNat, ↓reduceIte]
  refine (ACalls.hi (wread_ok ht ok5.bt (hq t5) (by omega))).mono ?_
  rintro r6 H6 ⟨⟨t6, x6, hr6, ov6⟩, hh6⟩
  subst hr6
  simp -implicitDefEqProofs only [go_sem, Nat.reduceEqDiff, Nat.reduceLT, Nat.reduceAdd, Nat.reduceMul, Int.reduceEq, Int.reduceLT, Int.reduceLE, Int.reduceNe, Int.reduceBEq, Int.reduceToNat, ↓reduceIte]
  refine (ACalls.hi (kinds_ok (hk.sub n12 hh6) hkn)).mono ?_
  rintro k7 H7 ⟨⟨ok7, fk7, t7⟩, hh7⟩
  rw [hKe] at ok7
  simp -implicitDefEqProofs only [go_sem, Nat.reduceEqDiff, Nat.reduceLT, Nat.reduceAdd, Nat.reduceMul, Int.reduceEq, Int.reduceLT, Int.reduceLE, Int.reduceNe, Int.reduceBEq, Int.reduceToNat, ↓reduceIte]
  refine (ACalls.hi (brread_ok ok7.bt (((hp4.sub t5).sub t6).sub t7).bt (by omega))).mono ?_
  rintro r8 H8 ⟨⟨t8, x8, hr8, ov8⟩, hh8⟩
  subst hr8
  simp -implicitDefEqProofs only [go_sem, Nat.reduceEqDiff, Nat.reduceLT, Nat.reduceAdd, Nat.reduceMul, Int.reduceEq, Int.reduceLT, Int.reduceLE, Int.reduceNe, Int.reduceBEq, Int.reduceToNat, ↓reduceIte]
  refine (samerow_ok ((ov6.sub t7).sub t8).vs ov8.vs (by omega)).mono ?_
  rintro r9 H9 ⟨rfl, rfl⟩
  rw [sameR_refl]
  have dee : decide (((rdR K p).1 : Int) = ((rdR K p).1 : Int)) = true := decide_eq_true rfl
  simp -implicitDefEqProofs only [go_sem, Nat.reduceEqDiff, Nat.reduceLT, Nat.reduceAdd, Nat.reduceMul, Int.reduceEq, Int.reduceLT, Int.reduceLE, Int.reduceNe, Int.reduceBEq, Int.reduceToNat, ↓reduceIte, dee]
  have tt := t5.trans (t6.trans (t7.trans t8))
  refine (same_ok (hq tt) (hp4.sub tt).bt).mono ?_
  rintro r10 H10 ⟨rfl, rfl⟩
  have bb : (p == p) = true := by simp
  have w1 : IntKind.i64.wrap ((p.length : Int) + 1) = ((p.length + 1 : Nat) : Int) := by rw [i64_in] <;> omega
  simp -implicitDefEqProofs only [go_sem, Nat.reduceEqDiff, Nat.reduceLT, Nat.reduceAdd, Nat.reduceMul, Int.reduceEq, Int.reduceLT, Int.reduceLE, Int.reduceNe, Int.reduceBEq, Int.reduceToNat, ↓reduceIte, bb, w1]
  refine slice_hi (dst := none) (ty := 0) (pos := "") (after := #[]) (g := none) (a := some ⟨g, 0, none⟩) (n := p.length) (c := cap) (l := p.length + 1) Tryd.underlying22 s5 (by simp -implicitDefEqProofs only [go_sem, Nat.reduceEqDiff, Nat.reduceLT, Nat.reduceAdd, Nat.reduceMul, Int.reduceEq, Int.reduceLT, Int.reduceLE, Int.reduceNe, Int.reduceBEq, Int.reduceToNat, ↓reduceIte]) (by simp -implicitDefEqProofs only [go_sem, Nat.reduceEqDiff, Nat.reduceLT, Nat.reduceAdd, Nat.reduceMul, Int.reduceEq, Int.reduceLT, Int.reduceLE, Int.reduceNe, Int.reduceBEq, Int.reduceToNat, ↓reduceIte]) (by omega) ?_
  have hg8 := tt _ _ hg
  have lg := ld_own w0 hg8
  have hcur : cur[p.length]? = some (.int .u8 165) := by
    rw [hget _ (by rw [hl4]; omega)]
    exact u8s_ix (b := 165) (by rw [List.getElem?_append_right (Nat.le_refl _)]; simp)
  have d0 : decide ((0 : Int) ≤ (p.length : Int)) = true := decide_eq_true (by omega)
  have d1 : decide ((p.length : Int) < ((p.length + 1 : Nat) : Int)) = true := decide_eq_true (by omega)
  simp -implicitDefEqProofs only [go_sem, Nat.reduceEqDiff, Nat.reduceLT, Nat.reduceAdd, Nat.reduceMul, Int.reduceEq, Int.reduceLT, Int.reduceLE, Int.reduceNe, Int.reduceBEq, Int.reduceToNat, ↓reduceIte, d0, d1, lg, hcur]
end
end Go.Proofs.YtoolnkemkhianaaDoor
