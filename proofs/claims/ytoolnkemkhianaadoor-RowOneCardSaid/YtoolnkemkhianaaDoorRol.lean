/-
  The law RowOne, walked.
  Conditions: as each theorem states them.
-/
import Derived.Test.YtoolnkemkhianaaDoorRwb
namespace Go.Proofs.YtoolnkemkhianaaDoor
open Go Go.RowKit Go.Proofs.YtoolnkemkhianaaDoorW
set_option maxRecDepth 100000
set_option maxHeartbeats 1000000
set_option linter.unusedSimpArgs false
set_option linter.unusedVariables false
section
variable {w0 : World} {H Hb : Hp}
theorem minr (n : Nat) : (if (12 : Int) < (n : Int) then (12 : Int) else (n : Int)) = ((min 12 n : Nat) : Int) := by split <;> omega
theorem encW_inj {ks : List UInt8} {a b : List Va} (wa : ∀ x ∈ a, x.wf) (wb : ∀ x ∈ b, x.wf) (ha : fitN ks a = 0) (hb : fitN ks b = 0) : (encW a == encW b) = sameR a b := by
  obtain ⟨_, _, ra, _⟩ := fitN_zero ha
  obtain ⟨_, _, rb, _⟩ := fitN_zero hb
  cases h : sameR a b with
  | true => rw [sameR_eq ra rb h]; simp
  | false =>
    rw [beq_eq_false_iff_ne]
    intro e
    have h1 := rdW_enc wa ha
    rw [e, rdW_enc wb hb] at h1
    cases h1
    rw [sameR_refl] at h; cases h
theorem rowOne_law {kv u v : Value} {kl : List UInt8} {a0 b0 : List Va} (ht : Tbl w0) (hk : Bt w0 (fun _ => none) kv kl) (hkn : kl.length ≤ 9223372036854775807) (hu : Vs w0 (fun _ => none) u a0) (hwu : ∀ x ∈ a0, x.wf) (hv : Vs w0 (fun _ => none) v b0) (hwv : ∀ x ∈ b0, x.wf) :
    ACalls Tryd.prog w0 9 #[kv, u, v] (fun _ => none) fun r H' => r = .bool true ∧ True := by
  obtain ⟨ua, uc, eu, hua⟩ := Rd.slice hu
  obtain ⟨va', vc', ev, hva⟩ := Rd.slice hv
  subst eu ev
  refine acalls_of Tryd.func9 rfl Tryd.ntmps9 r9 (by simp) ?_
  simp -implicitDefEqProofs only [go_sem, Nat.reduceEqDiff, Nat.reduceLT, Nat.reduceAdd, Nat.reduceMul, Int.reduceEq, Int.reduceLT, Int.reduceLE, Int.reduceNe, Int.reduceBEq, Int.reduceToNat, ↓reduceIte]
  refine (awake4_ok ht).mono ?_
  rintro r H ⟨rfl, rfl⟩
  simp -implicitDefEqProofs only [go_sem, Nat.reduceEqDiff, Nat.reduceLT, Nat.reduceAdd, Nat.reduceMul, Int.reduceEq, Int.reduceLT, Int.reduceLE, Int.reduceNe, Int.reduceBEq, Int.reduceToNat, ↓reduceIte]
  refine vdraw_t [⟨0, .p, [], []⟩, ⟨1, .p, [], []⟩, ⟨2, .n, [], []⟩, ⟨3, .n, [], []⟩, ⟨4, .n, [], []⟩, ⟨5, .p, [], []⟩, ⟨6, .p, [], []⟩, ⟨7, .n, [], []⟩, ⟨8, .n, [], []⟩, ⟨9, .n, [], []⟩, ⟨10, .p, [], []⟩, ⟨11, .p, [], []⟩] [0, 0, 2, 6, 15, 0, 0, 64, 192, 480, 31, 2047] mixed (by kernel_rfl) ?_
  simp -implicitDefEqProofs only [go_sem, Nat.reduceEqDiff, Nat.reduceLT, Nat.reduceAdd, Nat.reduceMul, Int.reduceEq, Int.reduceLT, Int.reduceLE, Int.reduceNe, Int.reduceBEq, Int.reduceToNat, ↓reduceIte]
  refine ⟨.int .i64 ((min 12 a0.length : Nat) : Int), by refine aop_min (k := .i64) (a := (a0.length : Int)) (b := 12) (by simp -implicitDefEqProofs only [go_sem, Nat.reduceEqDiff, Nat.reduceLT, Nat.reduceAdd, Nat.reduceMul, Int.reduceEq, Int.reduceLT, Int.reduceLE, Int.reduceNe, Int.reduceBEq, Int.reduceToNat, ↓reduceIte]) (by simp -implicitDefEqProofs only [go_sem, Nat.reduceEqDiff, Nat.reduceLT, Nat.reduceAdd, Nat.reduceMul, Int.reduceEq, Int.reduceLT, Int.reduceLE, Int.reduceNe, Int.reduceBEq, Int.reduceToNat, ↓reduceIte]) ?_; rw [minr]; exact ⟨rfl, rfl⟩, ?_⟩
  simp -implicitDefEqProofs only [go_sem, Nat.reduceEqDiff, Nat.reduceLT, Nat.reduceAdd, Nat.reduceMul, Int.reduceEq, Int.reduceLT, Int.reduceLE, Int.reduceNe, Int.reduceBEq, Int.reduceToNat, ↓reduceIte]
  refine ⟨.slice ua (min 12 a0.length) uc, by refine slice_hi (dst := none) (ty := 0) (pos := "") (after := #[]) (g := none) (a := ua) (n := a0.length) (c := uc) (l := min 12 a0.length) Tryd.underlying28 s36 (by simp -implicitDefEqProofs only [go_sem, Nat.reduceEqDiff, Nat.reduceLT, Nat.reduceAdd, Nat.reduceMul, Int.reduceEq, Int.reduceLT, Int.reduceLE, Int.reduceNe, Int.reduceBEq, Int.reduceToNat, ↓reduceIte]) (by simp -implicitDefEqProofs only [go_sem, Nat.reduceEqDiff, Nat.reduceLT, Nat.reduceAdd, Nat.reduceMul, Int.reduceEq, Int.reduceLT, Int.reduceLE, Int.reduceNe, Int.reduceBEq, Int.reduceToNat, ↓reduceIte]) (by omega) ⟨rfl, rfl⟩, ?_⟩
  simp -implicitDefEqProofs only [go_sem, Nat.reduceEqDiff, Nat.reduceLT, Nat.reduceAdd, Nat.reduceMul, Int.reduceEq, Int.reduceLT, Int.reduceLE, Int.reduceNe, Int.reduceBEq, Int.reduceToNat, ↓reduceIte]
  refine ⟨.int .i64 ((min 12 b0.length : Nat) : Int), by refine aop_min (k := .i64) (a := (b0.length : Int)) (b := 12) (by simp -implicitDefEqProofs only [go_sem, Nat.reduceEqDiff, Nat.reduceLT, Nat.reduceAdd, Nat.reduceMul, Int.reduceEq, Int.reduceLT, Int.reduceLE, Int.reduceNe, Int.reduceBEq, Int.reduceToNat, ↓reduceIte]) (by simp -implicitDefEqProofs only [go_sem, Nat.reduceEqDiff, Nat.reduceLT, Nat.reduceAdd, Nat.reduceMul, Int.reduceEq, Int.reduceLT, Int.reduceLE, Int.reduceNe, Int.reduceBEq, Int.reduceToNat, ↓reduceIte]) ?_; rw [minr]; exact ⟨rfl, rfl⟩, ?_⟩
  simp -implicitDefEqProofs only [go_sem, Nat.reduceEqDiff, Nat.reduceLT, Nat.reduceAdd, Nat.reduceMul, Int.reduceEq, Int.reduceLT, Int.reduceLE, Int.reduceNe, Int.reduceBEq, Int.reduceToNat, ↓reduceIte]
  refine ⟨.slice va' (min 12 b0.length) vc', by refine slice_hi (dst := none) (ty := 0) (pos := "") (after := #[]) (g := none) (a := va') (n := b0.length) (c := vc') (l := min 12 b0.length) Tryd.underlying28 s36 (by simp -implicitDefEqProofs only [go_sem, Nat.reduceEqDiff, Nat.reduceLT, Nat.reduceAdd, Nat.reduceMul, Int.reduceEq, Int.reduceLT, Int.reduceLE, Int.reduceNe, Int.reduceBEq, Int.reduceToNat, ↓reduceIte]) (by simp -implicitDefEqProofs only [go_sem, Nat.reduceEqDiff, Nat.reduceLT, Nat.reduceAdd, Nat.reduceMul, Int.reduceEq, Int.reduceLT, Int.reduceLE, Int.reduceNe, Int.reduceBEq, Int.reduceToNat, ↓reduceIte]) (by omega) ⟨rfl, rfl⟩, ?_⟩
  simp -implicitDefEqProofs only [go_sem, Nat.reduceEqDiff, Nat.reduceLT, Nat.reduceAdd, Nat.reduceMul, Int.reduceEq, Int.reduceLT, Int.reduceLE, Int.reduceNe, Int.reduceBEq, Int.reduceToNat, ↓reduceIte]
  have hA := hu.front (k := min 12 a0.length) (Nat.min_le_right _ _)
  have hB := hv.front (k := min 12 b0.length) (Nat.min_le_right _ _)
  rw [take_min] at hA hB
  have lA : (a0.take 12).length = min 12 a0.length := List.length_take
  have lB : (b0.take 12).length = min 12 b0.length := List.length_take
  have wA : ∀ x ∈ a0.take 12, x.wf := fun x hx => hwu x (List.mem_of_mem_take hx)
  have wB : ∀ x ∈ b0.take 12, x.wf := fun x hx => hwv x (List.mem_of_mem_take hx)
  rw [← lA] at hA ⊢
  rw [← lB] at hB ⊢
  generalize a0.take 12 = A at hA lA wA ⊢
  generalize b0.take 12 = B at hB lB wB ⊢
  refine (ACalls.hi (kinds_ok hk hkn)).mono ?_
  rintro k1 H1 ⟨⟨ok1, fk1, s1⟩, hh1⟩
  have lk : (kl.take 12).length ≤ 12 := by rw [List.length_take]; omega
  simp -implicitDefEqProofs only [go_sem, Nat.reduceEqDiff, Nat.reduceLT, Nat.reduceAdd, Nat.reduceMul, Int.reduceEq, Int.reduceLT, Int.reduceLE, Int.reduceNe, Int.reduceBEq, Int.reduceToNat, ↓reduceIte]
  refine (ACalls.hi (wbytes_ok ht ok1.bt (hA.sub s1 hh1) (by omega) (by omega) wA)).mono ?_
  rintro r2 H2 ⟨⟨s2, h2⟩, hh2⟩
  have n12 : ∀ {X : Hp}, Sub (fun _ => none) X := fun _ _ h => by cases h
  have hr2 : ∃ p e, r2 = .tuple #[p, .int .i64 e] := by
    rcases h2 with ⟨_, s, e, _⟩ | ⟨_, e⟩
    · exact ⟨_, _, e⟩
    · exact ⟨_, _, e⟩
  obtain ⟨p, e, rfl⟩ := hr2
  simp -implicitDefEqProofs only [go_sem, Nat.reduceEqDiff, Nat.reduceLT, Nat.reduceAdd, Nat.reduceMul, Int.reduceEq, Int.reduceLT, Int.reduceLE, Int.reduceNe, Int.reduceBEq, Int.reduceToNat, ↓reduceIte]
  refine (ACalls.hi (kinds_ok (hk.sub n12 hh2) hkn)).mono ?_
  rintro k2 H3 ⟨⟨ok2, fk2, s3⟩, hh3⟩
  simp -implicitDefEqProofs only [go_sem, Nat.reduceEqDiff, Nat.reduceLT, Nat.reduceAdd, Nat.reduceMul, Int.reduceEq, Int.reduceLT, Int.reduceLE, Int.reduceNe, Int.reduceBEq, Int.reduceToNat, ↓reduceIte]
  refine (ACalls.hi (wbytes_ok ht ok2.bt (hB.sub n12 hh3) (by omega) (by omega) wB)).mono ?_
  rintro r4 H4 ⟨⟨s4', h4⟩, hh4⟩
  have hr4 : ∃ p e, r4 = .tuple #[p, .int .i64 e] := by
    rcases h4 with ⟨_, s, e, _⟩ | ⟨_, e⟩
    · exact ⟨_, _, e⟩
    · exact ⟨_, _, e⟩
  obtain ⟨q, f, rfl⟩ := hr4
  rcases h2 with ⟨fa, s, e2, own2, _⟩ | ⟨fa, e2⟩
  · cases e2
    rcases h4 with ⟨fb, s, e4, own4, _⟩ | ⟨fb, e4⟩
    · cases e4
      simp -implicitDefEqProofs only [go_sem, Nat.reduceEqDiff, Nat.reduceLT, Nat.reduceAdd, Nat.reduceMul, Int.reduceEq, Int.reduceLT, Int.reduceLE, Int.reduceNe, Int.reduceBEq, Int.reduceToNat, ↓reduceIte]
      refine (same_ok ((own2.sub s3).sub s4').bt own4.bt).mono ?_
      rintro r H5 ⟨rfl, rfl⟩
      simp -implicitDefEqProofs only [go_sem, Nat.reduceEqDiff, Nat.reduceLT, Nat.reduceAdd, Nat.reduceMul, Int.reduceEq, Int.reduceLT, Int.reduceLE, Int.reduceNe, Int.reduceBEq, Int.reduceToNat, ↓reduceIte]
      refine (samerow_ok (hA.sub n12 hh4) (hB.sub n12 hh4) (by omega)).mono ?_
      rintro r H6 ⟨rfl, rfl⟩
      rw [encW_inj wA wB fa fb]
      have bb : (sameR A B == sameR A B) = true := by simp
      simp -implicitDefEqProofs only [go_sem, Nat.reduceEqDiff, Nat.reduceLT, Nat.reduceAdd, Nat.reduceMul, Int.reduceEq, Int.reduceLT, Int.reduceLE, Int.reduceNe, Int.reduceBEq, Int.reduceToNat, ↓reduceIte, bb]
    · cases e4
      have d1 : decide ((fitN (kl.take 12) B : Int) = 0) = false := decide_eq_false (by omega)
      simp -implicitDefEqProofs only [go_sem, Nat.reduceEqDiff, Nat.reduceLT, Nat.reduceAdd, Nat.reduceMul, Int.reduceEq, Int.reduceLT, Int.reduceLE, Int.reduceNe, Int.reduceBEq, Int.reduceToNat, ↓reduceIte, d1]
  · cases e2
    have d1 : decide ((fitN (kl.take 12) A : Int) = 0) = false := decide_eq_false (by omega)
    simp -implicitDefEqProofs only [go_sem, Nat.reduceEqDiff, Nat.reduceLT, Nat.reduceAdd, Nat.reduceMul, Int.reduceEq, Int.reduceLT, Int.reduceLE, Int.reduceNe, Int.reduceBEq, Int.reduceToNat, ↓reduceIte, d1]
end
end Go.Proofs.YtoolnkemkhianaaDoor
