/-
  The law RowBytes, walked.
  Conditions: as each theorem states them.
-/
import Derived.Test.YtoolnkemkhianaaDoorRwc
namespace Go.Proofs.YtoolnkemkhianaaDoor
open Go Go.RowKit Go.Proofs.YtoolnkemkhianaaDoorW
set_option maxRecDepth 100000
set_option maxHeartbeats 1000000
set_option linter.unusedSimpArgs false
set_option linter.unusedVariables false
def bwB (ks : List UInt8) (l : List Va) : List UInt8 := if fitN ks l = 0 then encW l else []
theorem minb (n : Nat) : (if (12 : Int) < (n : Int) then (12 : Int) else (n : Int)) = ((min 12 n : Nat) : Int) := by split <;> omega
section
variable {w0 : World} {H Hb : Hp}
theorem bw_case {ks : List UInt8} {l : List Va} {r : Value} {H1 H2 : Hp} (h : BwQ w0 H1 ks l r H2) : ∃ s, r = .tuple #[s, .int .i64 (fitN ks l : Int)] ∧ Own H2 s (bwB ks l) := by
  unfold bwB
  rcases h.2 with ⟨h1, s, e, h2, _⟩ | ⟨h1, e⟩
  · rw [if_pos h1, h1]; exact ⟨s, e, h2⟩
  · rw [if_neg h1]; exact ⟨_, e, Own.nil _⟩
def RyI (H0 : Hp) (kv l1 l5 s6 : Value) (e n : Nat) (m : Nat) (F : Fr) (H : Hp) : Prop :=
  ∃ k, k + m = n ∧ F 0 = kv ∧ F 1 = l1 ∧ F 5 = l5 ∧ F 6 = s6 ∧ F 7 = .int .i64 (e : Int) ∧ F 57 = .int .i64 (n : Int) ∧ F 58 = .int .i64 (k : Int) ∧ H = H0
theorem rowBytes_law {kv u : Value} {kl : List UInt8} {a0 : List Va} (ht : Tbl w0) (hk : Bt w0 (fun _ => none) kv kl) (hkn : kl.length ≤ 9223372036854775807) (hu : Vs w0 (fun _ => none) u a0) (hwu : ∀ x ∈ a0, x.wf) :
    ACalls Tryd.prog w0 12 #[kv, u] (fun _ => none) fun r H' => r = .bool true ∧ True := by
  obtain ⟨ua, uc, eu, hua⟩ := Rd.slice hu
  subst eu
  refine acalls_of Tryd.func12 rfl Tryd.ntmps12 r12 (by simp) ?_
  simp -implicitDefEqProofs only [go_sem, Nat.reduceEqDiff, Nat.reduceLT, Nat.reduceAdd, Nat.reduceMul, Int.reduceEq, Int.reduceLT, Int.reduceLE, Int.reduceNe, Int.reduceBEq, Int.reduceToNat, ↓reduceIte]
  refine (awake4_ok ht).mono ?_
  rintro r H ⟨rfl, rfl⟩
  simp -implicitDefEqProofs only [go_sem, Nat.reduceEqDiff, Nat.reduceLT, Nat.reduceAdd, Nat.reduceMul, Int.reduceEq, Int.reduceLT, Int.reduceLE, Int.reduceNe, Int.reduceBEq, Int.reduceToNat, ↓reduceIte]
  refine newK_of ?_
  intro b3 H3 hb3 hn3 h3 s3 g3
  have hh3 : Hi w0 H3 := Hi.ne (fun b o h => by cases h) hb3 g3
  simp -implicitDefEqProofs only [go_sem, Nat.reduceEqDiff, Nat.reduceLT, Nat.reduceAdd, Nat.reduceMul, Int.reduceEq, Int.reduceLT, Int.reduceLE, Int.reduceNe, Int.reduceBEq, Int.reduceToNat, ↓reduceIte]
  refine aop_min (k := .i64) (a := (a0.length : Int)) (b := 12) (by simp -implicitDefEqProofs only [go_sem, Nat.reduceEqDiff, Nat.reduceLT, Nat.reduceAdd, Nat.reduceMul, Int.reduceEq, Int.reduceLT, Int.reduceLE, Int.reduceNe, Int.reduceBEq, Int.reduceToNat, ↓reduceIte]) (by simp -implicitDefEqProofs only [go_sem, Nat.reduceEqDiff, Nat.reduceLT, Nat.reduceAdd, Nat.reduceMul, Int.reduceEq, Int.reduceLT, Int.reduceLE, Int.reduceNe, Int.reduceBEq, Int.reduceToNat, ↓reduceIte]) ?_
  rw [minb]
  simp -implicitDefEqProofs only [go_sem, Nat.reduceEqDiff, Nat.reduceLT, Nat.reduceAdd, Nat.reduceMul, Int.reduceEq, Int.reduceLT, Int.reduceLE, Int.reduceNe, Int.reduceBEq, Int.reduceToNat, ↓reduceIte]
  refine slice_hi (dst := none) (ty := 0) (pos := "") (after := #[]) (g := none) (a := ua) (n := a0.length) (c := uc) (l := min 12 a0.length) Tryd.underlying28 s36 (by simp -implicitDefEqProofs only [go_sem, Nat.reduceEqDiff, Nat.reduceLT, Nat.reduceAdd, Nat.reduceMul, Int.reduceEq, Int.reduceLT, Int.reduceLE, Int.reduceNe, Int.reduceBEq, Int.reduceToNat, ↓reduceIte]) (by simp -implicitDefEqProofs only [go_sem, Nat.reduceEqDiff, Nat.reduceLT, Nat.reduceAdd, Nat.reduceMul, Int.reduceEq, Int.reduceLT, Int.reduceLE, Int.reduceNe, Int.reduceBEq, Int.reduceToNat, ↓reduceIte]) (by omega) ?_
  simp -implicitDefEqProofs only [go_sem, Nat.reduceEqDiff, Nat.reduceLT, Nat.reduceAdd, Nat.reduceMul, Int.reduceEq, Int.reduceLT, Int.reduceLE, Int.reduceNe, Int.reduceBEq, Int.reduceToNat, ↓reduceIte]
  have hA := hu.front (k := min 12 a0.length) (Nat.min_le_right _ _)
  rw [take_min] at hA
  have lA : (a0.take 12).length = min 12 a0.length := List.length_take
  have wA : ∀ x ∈ a0.take 12, x.wf := fun x hx => hwu x (List.mem_of_mem_take hx)
  rw [← lA] at hA ⊢
  generalize a0.take 12 = A at hA lA wA ⊢
  have n12 : ∀ {X : Hp}, Sub (fun _ => none) X := fun _ _ h => by cases h
  have fr3 : Fsh w0 (fun _ => none) (.slice (some ⟨b3, 0, none⟩) 0 0) := fun b hb => by simp only [blk, Option.some.injEq] at hb; subst hb; exact ⟨rfl, hb3⟩
  refine app_v (Hb := fun _ => none) (by simp -implicitDefEqProofs only [go_sem, Nat.reduceEqDiff, Nat.reduceLT, Nat.reduceAdd, Nat.reduceMul, Int.reduceEq, Int.reduceLT, Int.reduceLE, Int.reduceNe, Int.reduceBEq, Int.reduceToNat, ↓reduceIte]) (OwnV.empty h3) (by simp -implicitDefEqProofs only [go_sem, Nat.reduceEqDiff, Nat.reduceLT, Nat.reduceAdd, Nat.reduceMul, Int.reduceEq, Int.reduceLT, Int.reduceLE, Int.reduceNe, Int.reduceBEq, Int.reduceToNat, ↓reduceIte]) (hA.sub s3 hh3) (by simp; omega) fr3 s3 ?_
  intro r4 H4 o4 f4 s4' a4
  rw [List.nil_append] at o4
  have hh4 : Hi w0 H4 := Hi.app hh3 a4 (fun b hb => (fr3 b hb).2)
  simp -implicitDefEqProofs only [go_sem, Nat.reduceEqDiff, Nat.reduceLT, Nat.reduceAdd, Nat.reduceMul, Int.reduceEq, Int.reduceLT, Int.reduceLE, Int.reduceNe, Int.reduceBEq, Int.reduceToNat, ↓reduceIte]
  refine newK_of ?_
  intro b5 H5 hb5 hn5 h5 s5 g5
  have hh5 : Hi w0 H5 := Hi.ne hh4 hb5 g5
  simp -implicitDefEqProofs only [go_sem, Nat.reduceEqDiff, Nat.reduceLT, Nat.reduceAdd, Nat.reduceMul, Int.reduceEq, Int.reduceLT, Int.reduceLE, Int.reduceNe, Int.reduceBEq, Int.reduceToNat, ↓reduceIte]
  have fr5 : Fsh w0 H4 (.slice (some ⟨b5, 0, none⟩) 0 0) := fun b hb => by simp only [blk, Option.some.injEq] at hb; subst hb; exact ⟨hn5, hb5⟩
  refine app_v (Hb := H4) (by simp -implicitDefEqProofs only [go_sem, Nat.reduceEqDiff, Nat.reduceLT, Nat.reduceAdd, Nat.reduceMul, Int.reduceEq, Int.reduceLT, Int.reduceLE, Int.reduceNe, Int.reduceBEq, Int.reduceToNat, ↓reduceIte]) (OwnV.empty h5) (by simp -implicitDefEqProofs only [go_sem, Nat.reduceEqDiff, Nat.reduceLT, Nat.reduceAdd, Nat.reduceMul, Int.reduceEq, Int.reduceLT, Int.reduceLE, Int.reduceNe, Int.reduceBEq, Int.reduceToNat, ↓reduceIte]) (o4.sub s5).vs (by simp; omega) fr5 s5 ?_
  intro r6 H6 o6 f6 s6 a6
  rw [List.nil_append] at o6
  have hh6 : Hi w0 H6 := Hi.app hh5 a6 (fun b hb => (fr5 b hb).2)
  simp -implicitDefEqProofs only [go_sem, Nat.reduceEqDiff, Nat.reduceLT, Nat.reduceAdd, Nat.reduceMul, Int.reduceEq, Int.reduceLT, Int.reduceLE, Int.reduceNe, Int.reduceBEq, Int.reduceToNat, ↓reduceIte]
  refine (ACalls.hi (kinds_ok (hk.sub n12 hh6) hkn)).mono ?_
  rintro k7 H7 ⟨⟨ok7, fk7, s7⟩, hh7⟩
  have lk : (kl.take 12).length ≤ 12 := by rw [List.length_take]; omega
  obtain ⟨K, hKe⟩ : ∃ K, kl.take 12 = K := ⟨_, rfl⟩
  rw [hKe] at ok7 lk
  simp -implicitDefEqProofs only [go_sem, Nat.reduceEqDiff, Nat.reduceLT, Nat.reduceAdd, Nat.reduceMul, Int.reduceEq, Int.reduceLT, Int.reduceLE, Int.reduceNe, Int.reduceBEq, Int.reduceToNat, ↓reduceIte]
  refine (ACalls.hi (wbytes_ok ht ok7.bt (o6.sub s7).vs (by omega) (by omega) wA)).mono ?_
  rintro r8 H8 ⟨hq8, hh8⟩
  have s8 := hq8.1
  obtain ⟨p8, rfl, o8⟩ := bw_case hq8
  simp -implicitDefEqProofs only [go_sem, Nat.reduceEqDiff, Nat.reduceLT, Nat.reduceAdd, Nat.reduceMul, Int.reduceEq, Int.reduceLT, Int.reduceLE, Int.reduceNe, Int.reduceBEq, Int.reduceToNat, ↓reduceIte]
  refine (ACalls.hi (kinds_ok (hk.sub n12 hh8) hkn)).mono ?_
  rintro k9 H9 ⟨⟨ok9, fk9, s9⟩, hh9⟩
  rw [hKe] at ok9
  have o49 : OwnV H9 r4 A := (((o4.sub s6).sub s7).sub s8).sub s9
  have o69 : OwnV H9 r6 A := ((o6.sub s7).sub s8).sub s9
  simp -implicitDefEqProofs only [go_sem, Nat.reduceEqDiff, Nat.reduceLT, Nat.reduceAdd, Nat.reduceMul, Int.reduceEq, Int.reduceLT, Int.reduceLE, Int.reduceNe, Int.reduceBEq, Int.reduceToNat, ↓reduceIte]
  refine (ACalls.hi (brbytes_ok ok9.bt o49.vs (by omega) (by omega) wA)).mono ?_
  rintro r10 H10 ⟨hq10, hh10⟩
  have s10 := hq10.1
  obtain ⟨p10, rfl, o10⟩ := bw_case hq10
  have o8' := (o8.sub s9).sub s10
  simp -implicitDefEqProofs only [go_sem, Nat.reduceEqDiff, Nat.reduceLT, Nat.reduceAdd, Nat.reduceMul, Int.reduceEq, Int.reduceLT, Int.reduceLE, Int.reduceNe, Int.reduceBEq, Int.reduceToNat, ↓reduceIte]
  refine (same_ok o8'.bt o10.bt).mono ?_
  rintro r H11 ⟨rfl, rfl⟩
  have bb : (bwB K A == bwB K A) = true := by simp
  have bf : decide ((fitN K A : Int) = (fitN K A : Int)) = true := by simp
  simp -implicitDefEqProofs only [go_sem, Nat.reduceEqDiff, Nat.reduceLT, Nat.reduceAdd, Nat.reduceMul, Int.reduceEq, Int.reduceLT, Int.reduceLE, Int.reduceNe, Int.reduceBEq, Int.reduceToNat, ↓reduceIte, bb, bf]
  refine (ACalls.hi (kinds_ok (hk.sub n12 hh10) hkn)).mono ?_
  rintro k12 H12 ⟨⟨ok12, fk12, s12⟩, hh12⟩
  rw [hKe] at ok12
  have o4c := (o49.sub s10).sub s12
  have o6c := (o69.sub s10).sub s12
  have o8c := o8'.sub s12
  simp -implicitDefEqProofs only [go_sem, Nat.reduceEqDiff, Nat.reduceLT, Nat.reduceAdd, Nat.reduceMul, Int.reduceEq, Int.reduceLT, Int.reduceLE, Int.reduceNe, Int.reduceBEq, Int.reduceToNat, ↓reduceIte]
  refine (fits_ok ht ok12.bt o4c.vs (by omega) (by omega)).mono ?_
  rintro r H13 ⟨rfl, rfl⟩
  simp -implicitDefEqProofs only [go_sem, Nat.reduceEqDiff, Nat.reduceLT, Nat.reduceAdd, Nat.reduceMul, Int.reduceEq, Int.reduceLT, Int.reduceLE, Int.reduceNe, Int.reduceBEq, Int.reduceToNat, ↓reduceIte, bf]
  obtain ⟨a4', c4', e4, _⟩ := Rd.slice (OwnV.vs (w0 := w0) o4c)
  obtain ⟨a6', c6', e6, _⟩ := Rd.slice (OwnV.vs (w0 := w0) o6c)
  subst e4 e6
  simp -implicitDefEqProofs only [go_sem, Nat.reduceEqDiff, Nat.reduceLT, Nat.reduceAdd, Nat.reduceMul, Int.reduceEq, Int.reduceLT, Int.reduceLE, Int.reduceNe, Int.reduceBEq, Int.reduceToNat, ↓reduceIte]
  refine AC.loop (RyI H13 kv (.slice a4' A.length c4') (.slice a6' A.length c6') p8 (fitN K A) A.length) (n := A.length) ⟨0, by omega, by simp -implicitDefEqProofs only [go_sem, Nat.reduceEqDiff, Nat.reduceLT, Nat.reduceAdd, Nat.reduceMul, Int.reduceEq, Int.reduceLT, Int.reduceLE, Int.reduceNe, Int.reduceBEq, Int.reduceToNat, ↓reduceIte], by simp -implicitDefEqProofs only [go_sem, Nat.reduceEqDiff, Nat.reduceLT, Nat.reduceAdd, Nat.reduceMul, Int.reduceEq, Int.reduceLT, Int.reduceLE, Int.reduceNe, Int.reduceBEq, Int.reduceToNat, ↓reduceIte], by simp -implicitDefEqProofs only [go_sem, Nat.reduceEqDiff, Nat.reduceLT, Nat.reduceAdd, Nat.reduceMul, Int.reduceEq, Int.reduceLT, Int.reduceLE, Int.reduceNe, Int.reduceBEq, Int.reduceToNat, ↓reduceIte], by simp -implicitDefEqProofs only [go_sem, Nat.reduceEqDiff, Nat.reduceLT, Nat.reduceAdd, Nat.reduceMul, Int.reduceEq, Int.reduceLT, Int.reduceLE, Int.reduceNe, Int.reduceBEq, Int.reduceToNat, ↓reduceIte], by simp -implicitDefEqProofs only [go_sem, Nat.reduceEqDiff, Nat.reduceLT, Nat.reduceAdd, Nat.reduceMul, Int.reduceEq, Int.reduceLT, Int.reduceLE, Int.reduceNe, Int.reduceBEq, Int.reduceToNat, ↓reduceIte], by simp -implicitDefEqProofs only [go_sem, Nat.reduceEqDiff, Nat.reduceLT, Nat.reduceAdd, Nat.reduceMul, Int.reduceEq, Int.reduceLT, Int.reduceLE, Int.reduceNe, Int.reduceBEq, Int.reduceToNat, ↓reduceIte], by simp -implicitDefEqProofs only [go_sem, Nat.reduceEqDiff, Nat.reduceLT, Nat.reduceAdd, Nat.reduceMul, Int.reduceEq, Int.reduceLT, Int.reduceLE, Int.reduceNe, Int.reduceBEq, Int.reduceToNat, ↓reduceIte] <;> rfl, rfl⟩ ?_
  rintro m F HL ⟨k, hkm, f0, f1, f5, f6', f7, f57, f58, rfl⟩
  by_cases ck : k < A.length
  · have d1 : decide ((k : Int) < (A.length : Int)) = true := decide_eq_true (by omega)
    have d0 : decide ((0 : Int) ≤ (k : Int)) = true := decide_eq_true (by omega)
    have d2 : IntKind.i64.wrap ((k : Int) + 1) = (k + 1 : Nat) := by rw [i64_in] <;> omega
    obtain ⟨x, hx⟩ : ∃ x, A[k]? = some x := ⟨_, List.getElem?_eq_getElem ck⟩
    obtain ⟨a1, c1, ea1, l1⟩ := (OwnV.vs (w0 := w0) o4c).at hx
    obtain ⟨a2, c2, ea2, l2⟩ := (OwnV.vs (w0 := w0) o6c).at hx
    have ea1' : a4' = some a1 := by injection ea1
    have ea2' : a6' = some a2 := by injection ea2
    have f1' := f1
    have f5' := f5
    rw [ea1'] at f1'
    rw [ea2'] at f5'
    simp -implicitDefEqProofs only [go_sem, Nat.reduceEqDiff, Nat.reduceLT, Nat.reduceAdd, Nat.reduceMul, Int.reduceEq, Int.reduceLT, Int.reduceLE, Int.reduceNe, Int.reduceBEq, Int.reduceToNat, ↓reduceIte, f57, f58, d1]
    refine vdraw_t [⟨0, .p, [], []⟩, ⟨1, .p, [], []⟩, ⟨2, .p, [], []⟩, ⟨3, .n, [], []⟩, ⟨4, .p, [], []⟩, ⟨5, .p, [], []⟩, ⟨6, .p, [], []⟩, ⟨7, .n, [], []⟩, ⟨8, .p, [], []⟩] [0, 0, 3, 7, 0, 0, 48, 112, 255] mixed (by kernel_rfl) ?_
    simp -implicitDefEqProofs only [go_sem, Nat.reduceEqDiff, Nat.reduceLT, Nat.reduceAdd, Nat.reduceMul, Int.reduceEq, Int.reduceLT, Int.reduceLE, Int.reduceNe, Int.reduceBEq, Int.reduceToNat, ↓reduceIte, f1', f5', d0, d1, l1, l2]
    have ee : eqV x x = true := eqV_iff.2 rfl
    refine ⟨.bool false, by intro HX; refine aop_nev (dst := none) (ty := 0) (pos := "") (after := #[]) (g := none) (t' := 36) (u := x) (v := x) (by simp -implicitDefEqProofs only [go_sem, Nat.reduceEqDiff, Nat.reduceLT, Nat.reduceAdd, Nat.reduceMul, Int.reduceEq, Int.reduceLT, Int.reduceLE, Int.reduceNe, Int.reduceBEq, Int.reduceToNat, ↓reduceIte]) (by simp -implicitDefEqProofs only [go_sem, Nat.reduceEqDiff, Nat.reduceLT, Nat.reduceAdd, Nat.reduceMul, Int.reduceEq, Int.reduceLT, Int.reduceLE, Int.reduceNe, Int.reduceBEq, Int.reduceToNat, ↓reduceIte]) ?_; rw [ee]; exact ⟨rfl, rfl⟩, ?_⟩
    simp -implicitDefEqProofs only [go_sem, Nat.reduceEqDiff, Nat.reduceLT, Nat.reduceAdd, Nat.reduceMul, Int.reduceEq, Int.reduceLT, Int.reduceLE, Int.reduceNe, Int.reduceBEq, Int.reduceToNat, ↓reduceIte, f58, d2]
    exact ⟨m - 1, by omega, k + 1, by omega, by simp -implicitDefEqProofs only [go_sem, Nat.reduceEqDiff, Nat.reduceLT, Nat.reduceAdd, Nat.reduceMul, Int.reduceEq, Int.reduceLT, Int.reduceLE, Int.reduceNe, Int.reduceBEq, Int.reduceToNat, ↓reduceIte, f0], by simp -implicitDefEqProofs only [go_sem, Nat.reduceEqDiff, Nat.reduceLT, Nat.reduceAdd, Nat.reduceMul, Int.reduceEq, Int.reduceLT, Int.reduceLE, Int.reduceNe, Int.reduceBEq, Int.reduceToNat, ↓reduceIte, f1], by simp -implicitDefEqProofs only [go_sem, Nat.reduceEqDiff, Nat.reduceLT, Nat.reduceAdd, Nat.reduceMul, Int.reduceEq, Int.reduceLT, Int.reduceLE, Int.reduceNe, Int.reduceBEq, Int.reduceToNat, ↓reduceIte, f5], by simp -implicitDefEqProofs only [go_sem, Nat.reduceEqDiff, Nat.reduceLT, Nat.reduceAdd, Nat.reduceMul, Int.reduceEq, Int.reduceLT, Int.reduceLE, Int.reduceNe, Int.reduceBEq, Int.reduceToNat, ↓reduceIte, f6'], by simp -implicitDefEqProofs only [go_sem, Nat.reduceEqDiff, Nat.reduceLT, Nat.reduceAdd, Nat.reduceMul, Int.reduceEq, Int.reduceLT, Int.reduceLE, Int.reduceNe, Int.reduceBEq, Int.reduceToNat, ↓reduceIte, f7], by simp -implicitDefEqProofs only [go_sem, Nat.reduceEqDiff, Nat.reduceLT, Nat.reduceAdd, Nat.reduceMul, Int.reduceEq, Int.reduceLT, Int.reduceLE, Int.reduceNe, Int.reduceBEq, Int.reduceToNat, ↓reduceIte, f57], by simp -implicitDefEqProofs only [go_sem, Nat.reduceEqDiff, Nat.reduceLT, Nat.reduceAdd, Nat.reduceMul, Int.reduceEq, Int.reduceLT, Int.reduceLE, Int.reduceNe, Int.reduceBEq, Int.reduceToNat, ↓reduceIte], rfl⟩
  · have d1 : decide ((k : Int) < (A.length : Int)) = false := decide_eq_false (by omega)
    simp -implicitDefEqProofs only [go_sem, Nat.reduceEqDiff, Nat.reduceLT, Nat.reduceAdd, Nat.reduceMul, Int.reduceEq, Int.reduceLT, Int.reduceLE, Int.reduceNe, Int.reduceBEq, Int.reduceToNat, ↓reduceIte, f0, f57, f58, d1]
    refine (kinds_ok (hk.sub n12 hh12) hkn).mono ?_
    rintro k14 H14 ⟨ok14, fk14, s14⟩
    rw [hKe] at ok14
    simp -implicitDefEqProofs only [go_sem, Nat.reduceEqDiff, Nat.reduceLT, Nat.reduceAdd, Nat.reduceMul, Int.reduceEq, Int.reduceLT, Int.reduceLE, Int.reduceNe, Int.reduceBEq, Int.reduceToNat, ↓reduceIte, f6']
    refine (wread_ok ht ok14.bt (o8c.sub s14).bt (by omega)).mono ?_
    rintro r15 H15 ⟨s15, x15, hr15, ov15⟩
    subst hr15
    have o4e := (o4c.sub s14).sub s15
    by_cases hfit : fitN K A = 0
    · have hrd := rdW_enc wA hfit
      have e1 : rdR K (bwB K A) = (0, A) := by
        unfold rdR bwB
        rw [if_pos hfit, if_neg (by rw [(fitN_zero hfit).1]; simp), hrd]
      rw [e1] at ov15 ⊢
      have d8 : decide ((fitN K A : Int) = 0) = true := decide_eq_true (by omega)
      have d9 : decide (((0 : Nat) : Int) = 0) = true := rfl
      simp -implicitDefEqProofs only [go_sem, Nat.reduceEqDiff, Nat.reduceLT, Nat.reduceAdd, Nat.reduceMul, Int.reduceEq, Int.reduceLT, Int.reduceLE, Int.reduceNe, Int.reduceBEq, Int.reduceToNat, ↓reduceIte, f1, f7, d8, d9]
      refine (samerow_ok ov15.vs o4e.vs (by show A.length < _; omega)).mono ?_
      rintro r H16 ⟨rfl, rfl⟩
      rw [sameR_refl]
      simp -implicitDefEqProofs only [go_sem, Nat.reduceEqDiff, Nat.reduceLT, Nat.reduceAdd, Nat.reduceMul, Int.reduceEq, Int.reduceLT, Int.reduceLE, Int.reduceNe, Int.reduceBEq, Int.reduceToNat, ↓reduceIte]
      first | done | rfl
    · have d8 : decide ((fitN K A : Int) = 0) = false := decide_eq_false (by omega)
      simp -implicitDefEqProofs only [go_sem, Nat.reduceEqDiff, Nat.reduceLT, Nat.reduceAdd, Nat.reduceMul, Int.reduceEq, Int.reduceLT, Int.reduceLE, Int.reduceNe, Int.reduceBEq, Int.reduceToNat, ↓reduceIte, f7, d8]
      first | done | rfl
end
end Go.Proofs.YtoolnkemkhianaaDoor
