/-
  The law RowCuts, walked.
  Conditions: as each theorem states them.
-/
import Derived.Test.YtoolnkemkhianaaDoorRwt
namespace Go.Proofs.YtoolnkemkhianaaDoor
open Go Go.RowKit Go.Proofs.YtoolnkemkhianaaDoorW
set_option maxRecDepth 100000
set_option maxHeartbeats 1000000
set_option linter.unusedSimpArgs false
set_option linter.unusedVariables false
theorem rdW_more {ks p t : List UInt8} {l : List Va} (h : rdW ks p = some l) (ht : t ≠ []) : rdW ks (p ++ t) = none := by
  cases p with
  | nil => cases h
  | cons b r =>
    rw [List.cons_append]
    unfold rdW at h ⊢
    simp only [] at h ⊢
    split at h
    · cases h
    · split
      · rfl
      · exact rw_ext _ _ _ _ _ h ht
theorem rdW_cut {ks p : List UInt8} {l : List Va} {c : Nat} (h : rdW ks p = some l) (hc : c < p.length) : rdW ks (p.take c) = none := by
  cases hq : rdW ks (p.take c) with
  | none => rfl
  | some l' =>
    have := rdW_more hq (t := p.drop c) (by intro e; have := congrArg List.length e; simp at this; omega)
    rw [List.take_append_drop, h] at this; cases this
theorem rdR_bad {ks p : List UInt8} (hk : rightK ks = true) (h : rdW ks p = none) : rdR ks p = (3, []) := by unfold rdR; rw [if_neg (by rw [hk]; simp), h]
theorem minc (n : Nat) : (if (12 : Int) < (n : Int) then (12 : Int) else (n : Int)) = ((min 12 n : Nat) : Int) := by split <;> omega
section
variable {w0 : World} {H Hb : Hp}
theorem rowCuts_law {kv u v : Value} {kl q0 : List UInt8} {a0 : List Va} {n : Nat} (ht : Tbl w0) (hk : Bt w0 (fun _ => none) kv kl) (hkn : kl.length ≤ 9223372036854775807) (hu : Vs w0 (fun _ => none) u a0) (hwu : ∀ x ∈ a0, x.wf) (hn : n < 256) (hv : Bt w0 (fun _ => none) v q0) :
    ACalls Tryd.prog w0 14 #[kv, u, .int .u8 (n : Int), v] (fun _ => none) fun r H' => r = .bool true ∧ True := by
  obtain ⟨ua, uc, eu, hua⟩ := Rd.slice hu
  subst eu
  refine acalls_of Tryd.func14 rfl Tryd.ntmps14 r14 (by simp) ?_
  simp -implicitDefEqProofs only [go_sem, Nat.reduceEqDiff, Nat.reduceLT, Nat.reduceAdd, Nat.reduceMul, Int.reduceEq, Int.reduceLT, Int.reduceLE, Int.reduceNe, Int.reduceBEq, Int.reduceToNat, ↓reduceIte]
  refine (awake4_ok ht).mono ?_
  rintro r H ⟨rfl, rfl⟩
  simp -implicitDefEqProofs only [go_sem, Nat.reduceEqDiff, Nat.reduceLT, Nat.reduceAdd, Nat.reduceMul, Int.reduceEq, Int.reduceLT, Int.reduceLE, Int.reduceNe, Int.reduceBEq, Int.reduceToNat, ↓reduceIte]
  refine vdraw_t [⟨0, .p, [], []⟩, ⟨2, .p, [], []⟩, ⟨3, .p, [], []⟩, ⟨4, .n, [], []⟩, ⟨5, .n, [], []⟩, ⟨6, .n, [], []⟩, ⟨1, .c, [4, 5, 6], []⟩, ⟨7, .c, [], []⟩, ⟨8, .p, [], []⟩, ⟨9, .p, [], []⟩, ⟨10, .p, [], []⟩, ⟨11, .p, [], []⟩, ⟨12, .p, [], []⟩] [0, 1, 0, 0, 8, 24, 60, 127, 255, 511, 511, 1023, 4095] mixed (by kernel_rfl) ?_
  simp -implicitDefEqProofs only [go_sem, Nat.reduceEqDiff, Nat.reduceLT, Nat.reduceAdd, Nat.reduceMul, Int.reduceEq, Int.reduceLT, Int.reduceLE, Int.reduceNe, Int.reduceBEq, Int.reduceToNat, ↓reduceIte]
  refine ⟨.int .i64 ((min 12 a0.length : Nat) : Int), by refine aop_min (k := .i64) (a := (a0.length : Int)) (b := 12) (by simp -implicitDefEqProofs only [go_sem, Nat.reduceEqDiff, Nat.reduceLT, Nat.reduceAdd, Nat.reduceMul, Int.reduceEq, Int.reduceLT, Int.reduceLE, Int.reduceNe, Int.reduceBEq, Int.reduceToNat, ↓reduceIte]) (by simp -implicitDefEqProofs only [go_sem, Nat.reduceEqDiff, Nat.reduceLT, Nat.reduceAdd, Nat.reduceMul, Int.reduceEq, Int.reduceLT, Int.reduceLE, Int.reduceNe, Int.reduceBEq, Int.reduceToNat, ↓reduceIte]) ?_; rw [minc]; exact ⟨rfl, rfl⟩, ?_⟩
  simp -implicitDefEqProofs only [go_sem, Nat.reduceEqDiff, Nat.reduceLT, Nat.reduceAdd, Nat.reduceMul, Int.reduceEq, Int.reduceLT, Int.reduceLE, Int.reduceNe, Int.reduceBEq, Int.reduceToNat, ↓reduceIte]
  refine ⟨.slice ua (min 12 a0.length) uc, by refine slice_hi (dst := none) (ty := 0) (pos := "") (after := #[]) (g := none) (a := ua) (n := a0.length) (c := uc) (l := min 12 a0.length) Tryd.underlying28 s36 (by simp -implicitDefEqProofs only [go_sem, Nat.reduceEqDiff, Nat.reduceLT, Nat.reduceAdd, Nat.reduceMul, Int.reduceEq, Int.reduceLT, Int.reduceLE, Int.reduceNe, Int.reduceBEq, Int.reduceToNat, ↓reduceIte]) (by simp -implicitDefEqProofs only [go_sem, Nat.reduceEqDiff, Nat.reduceLT, Nat.reduceAdd, Nat.reduceMul, Int.reduceEq, Int.reduceLT, Int.reduceLE, Int.reduceNe, Int.reduceBEq, Int.reduceToNat, ↓reduceIte]) (by omega) ⟨rfl, rfl⟩, ?_⟩
  simp -implicitDefEqProofs only [go_sem, Nat.reduceEqDiff, Nat.reduceLT, Nat.reduceAdd, Nat.reduceMul, Int.reduceEq, Int.reduceLT, Int.reduceLE, Int.reduceNe, Int.reduceBEq, Int.reduceToNat, ↓reduceIte]
  have hA := hu.front (k := min 12 a0.length) (Nat.min_le_right _ _)
  rw [take_min] at hA
  have lA : (a0.take 12).length = min 12 a0.length := List.length_take
  have wA : ∀ x ∈ a0.take 12, x.wf := fun x hx => hwu x (List.mem_of_mem_take hx)
  have n12 : ∀ {X : Hp}, Sub (fun _ => none) X := fun _ _ h => by cases h
  refine (ACalls.hi (kinds_ok hk hkn)).mono ?_
  rintro k1 H1 ⟨⟨ok1, fk1, s1⟩, hh1⟩
  have lk : (kl.take 12).length ≤ 12 := by rw [List.length_take]; omega
  simp -implicitDefEqProofs only [go_sem, Nat.reduceEqDiff, Nat.reduceLT, Nat.reduceAdd, Nat.reduceMul, Int.reduceEq, Int.reduceLT, Int.reduceLE, Int.reduceNe, Int.reduceBEq, Int.reduceToNat, ↓reduceIte]
  refine ⟨⟨?_, ?_⟩, ?_⟩
  · refine aop_min (k := .i64) (a := (a0.length : Int)) (b := 12) (by simp -implicitDefEqProofs only [go_sem, Nat.reduceEqDiff, Nat.reduceLT, Nat.reduceAdd, Nat.reduceMul, Int.reduceEq, Int.reduceLT, Int.reduceLE, Int.reduceNe, Int.reduceBEq, Int.reduceToNat, ↓reduceIte]) (by simp -implicitDefEqProofs only [go_sem, Nat.reduceEqDiff, Nat.reduceLT, Nat.reduceAdd, Nat.reduceMul, Int.reduceEq, Int.reduceLT, Int.reduceLE, Int.reduceNe, Int.reduceBEq, Int.reduceToNat, ↓reduceIte]) ?_; rw [minc]; exact ⟨rfl, rfl⟩
  · refine slice_hi (dst := none) (ty := 0) (pos := "") (after := #[]) (g := none) (a := ua) (n := a0.length) (c := uc) (l := min 12 a0.length) Tryd.underlying28 s36 (by simp -implicitDefEqProofs only [go_sem, Nat.reduceEqDiff, Nat.reduceLT, Nat.reduceAdd, Nat.reduceMul, Int.reduceEq, Int.reduceLT, Int.reduceLE, Int.reduceNe, Int.reduceBEq, Int.reduceToNat, ↓reduceIte]) (by simp -implicitDefEqProofs only [go_sem, Nat.reduceEqDiff, Nat.reduceLT, Nat.reduceAdd, Nat.reduceMul, Int.reduceEq, Int.reduceLT, Int.reduceLE, Int.reduceNe, Int.reduceBEq, Int.reduceToNat, ↓reduceIte]) (by omega) ⟨rfl, rfl⟩
  generalize a0.take 12 = A at hA lA wA
  obtain ⟨K, hKe⟩ : ∃ K, kl.take 12 = K := ⟨_, rfl⟩
  rw [hKe] at ok1 lk
  refine (ACalls.hi (wbytes_ok ht ok1.bt (hA.sub s1 hh1) (by omega) (by omega) wA)).mono ?_
  rintro r2 H2 ⟨⟨s2, h2⟩, hh2⟩
  rcases h2 with ⟨fa, s, e2, own2, fs2⟩ | ⟨fa, e2⟩
  · subst e2
    obtain ⟨sa, sc, es, hsc⟩ := Rd.slice (Own.bt (w0 := w0) own2)
    subst es
    obtain ⟨L, hL⟩ : ∃ L, L = (encW A).length := ⟨_, rfl⟩
    have hLe : L = (encB A).length + 1 := by rw [hL]; rfl
    obtain ⟨hrk, _, _, _, hsum, _⟩ := fitN_zero fa
    rw [← hL] at own2 fs2 hsc ⊢
    have wn : IntKind.i64.wrap (n : Int) = (n : Int) := by rw [i64_in] <;> omega
    have dL : ((L : Int) == 0) = false := by rw [beq_eq_false_iff_ne]; omega
    have wt : ((n : Int).tmod (L : Int)) = ((n % L : Nat) : Int) := tmod_nat n L
    have hcl : n % L < L := Nat.mod_lt _ (by omega)
    simp -implicitDefEqProofs only [go_sem, Nat.reduceEqDiff, Nat.reduceLT, Nat.reduceAdd, Nat.reduceMul, Int.reduceEq, Int.reduceLT, Int.reduceLE, Int.reduceNe, Int.reduceBEq, Int.reduceToNat, ↓reduceIte]
    refine vdraw_t [⟨0, .p, [], []⟩, ⟨2, .p, [], []⟩, ⟨3, .p, [], []⟩, ⟨4, .n, [], []⟩, ⟨5, .p, [], []⟩, ⟨6, .n, [], []⟩, ⟨7, .p, [], []⟩, ⟨8, .n, [], []⟩, ⟨1, .c, [4, 6, 8], []⟩, ⟨9, .c, [], []⟩, ⟨10, .p, [], []⟩, ⟨11, .p, [], []⟩, ⟨12, .p, [], []⟩, ⟨13, .p, [], []⟩, ⟨14, .p, [], []⟩] [0, 1, 0, 0, 8, 0, 32, 120, 252, 511, 1023, 2047, 2047, 4095, 16383] mixed (by kernel_rfl) ?_
    simp -implicitDefEqProofs only [go_sem, Nat.reduceEqDiff, Nat.reduceLT, Nat.reduceAdd, Nat.reduceMul, Int.reduceEq, Int.reduceLT, Int.reduceLE, Int.reduceNe, Int.reduceBEq, Int.reduceToNat, ↓reduceIte, wn, dL, wt]
    refine ⟨.slice sa (n % L) sc, by refine slice_hi (dst := none) (ty := 0) (pos := "") (after := #[]) (g := none) (a := sa) (n := L) (c := sc) (l := n % L) Tryd.underlying22 s5 (by simp -implicitDefEqProofs only [go_sem, Nat.reduceEqDiff, Nat.reduceLT, Nat.reduceAdd, Nat.reduceMul, Int.reduceEq, Int.reduceLT, Int.reduceLE, Int.reduceNe, Int.reduceBEq, Int.reduceToNat, ↓reduceIte]) (by simp -implicitDefEqProofs only [go_sem, Nat.reduceEqDiff, Nat.reduceLT, Nat.reduceAdd, Nat.reduceMul, Int.reduceEq, Int.reduceLT, Int.reduceLE, Int.reduceNe, Int.reduceBEq, Int.reduceToNat, ↓reduceIte]) (by omega) ⟨rfl, rfl⟩, ?_⟩
    simp -implicitDefEqProofs only [go_sem, Nat.reduceEqDiff, Nat.reduceLT, Nat.reduceAdd, Nat.reduceMul, Int.reduceEq, Int.reduceLT, Int.reduceLE, Int.reduceNe, Int.reduceBEq, Int.reduceToNat, ↓reduceIte]
    refine (ACalls.hi (kinds_ok (hk.sub n12 hh2) hkn)).mono ?_
    rintro k3 H3 ⟨⟨ok3, fk3, s3⟩, hh3⟩
    rw [hKe] at ok3
    simp -implicitDefEqProofs only [go_sem, Nat.reduceEqDiff, Nat.reduceLT, Nat.reduceAdd, Nat.reduceMul, Int.reduceEq, Int.reduceLT, Int.reduceLE, Int.reduceNe, Int.reduceBEq, Int.reduceToNat, ↓reduceIte, wn, dL, wt]
    refine ⟨?_, ?_⟩
    · refine slice_hi (dst := none) (ty := 0) (pos := "") (after := #[]) (g := none) (a := sa) (n := L) (c := sc) (l := n % L) Tryd.underlying22 s5 (by simp -implicitDefEqProofs only [go_sem, Nat.reduceEqDiff, Nat.reduceLT, Nat.reduceAdd, Nat.reduceMul, Int.reduceEq, Int.reduceLT, Int.reduceLE, Int.reduceNe, Int.reduceBEq, Int.reduceToNat, ↓reduceIte]) (by simp -implicitDefEqProofs only [go_sem, Nat.reduceEqDiff, Nat.reduceLT, Nat.reduceAdd, Nat.reduceMul, Int.reduceEq, Int.reduceLT, Int.reduceLE, Int.reduceNe, Int.reduceBEq, Int.reduceToNat, ↓reduceIte]) (by omega) ⟨rfl, rfl⟩
    have hcut : Bt w0 H3 (.slice sa (n % L) sc) ((encW A).take (n % L)) := (Own.bt (w0 := w0) (own2.sub s3)).front (by omega)
    have hrd := rdW_enc wA fa
    have e1 := rdR_bad hrk (rdW_cut (c := n % L) hrd (by omega))
    have e2 := rdR_bad hrk (rdW_more (t := q0.take 20 ++ [0]) hrd (by simp))
    refine (ACalls.hi (wread_ok ht ok3.bt hcut (by omega))).mono ?_
    rintro r4 H4 ⟨⟨s4', x4, hr4, _⟩, hh4⟩
    rw [e1] at hr4
    subst hr4
    simp -implicitDefEqProofs only [go_sem, Nat.reduceEqDiff, Nat.reduceLT, Nat.reduceAdd, Nat.reduceMul, Int.reduceEq, Int.reduceLT, Int.reduceLE, Int.reduceNe, Int.reduceBEq, Int.reduceToNat, ↓reduceIte]
    refine (ACalls.hi (kinds_ok (hk.sub n12 hh4) hkn)).mono ?_
    rintro k5 H5 ⟨⟨ok5, fk5, t5⟩, hh5⟩
    rw [hKe] at ok5
    simp -implicitDefEqProofs only [go_sem, Nat.reduceEqDiff, Nat.reduceLT, Nat.reduceAdd, Nat.reduceMul, Int.reduceEq, Int.reduceLT, Int.reduceLE, Int.reduceNe, Int.reduceBEq, Int.reduceToNat, ↓reduceIte]
    refine (ACalls.hi (copy_ok (Own.bt (w0 := w0) (((own2.sub s3).sub s4').sub t5)) (by omega))).mono ?_
    rintro r6 H6 ⟨⟨hc, fc, t6⟩, hh6⟩
    simp -implicitDefEqProofs only [go_sem, Nat.reduceEqDiff, Nat.reduceLT, Nat.reduceAdd, Nat.reduceMul, Int.reduceEq, Int.reduceLT, Int.reduceLE, Int.reduceNe, Int.reduceBEq, Int.reduceToNat, ↓reduceIte]
    refine (ACalls.hi (cut_ok (k := 20) (hv.sub n12 hh6) (by omega))).mono ?_
    rintro r7 H7 ⟨⟨hp, fp, t7⟩, hh7⟩
    have hpl : (q0.take 20).length ≤ 20 := by rw [List.length_take]; omega
    simp -implicitDefEqProofs only [go_sem, Nat.reduceEqDiff, Nat.reduceLT, Nat.reduceAdd, Nat.reduceMul, Int.reduceEq, Int.reduceLT, Int.reduceLE, Int.reduceNe, Int.reduceBEq, Int.reduceToNat, ↓reduceIte]
    refine newK_of ?_
    intro b8 H8 hb8 hn8 h8 t8 g8
    simp -implicitDefEqProofs only [go_sem, Nat.reduceEqDiff, Nat.reduceLT, Nat.reduceAdd, Nat.reduceMul, Int.reduceEq, Int.reduceLT, Int.reduceLE, Int.reduceNe, Int.reduceBEq, Int.reduceToNat, ↓reduceIte]
    refine app_b (Hb := H6) (by simp -implicitDefEqProofs only [go_sem, Nat.reduceEqDiff, Nat.reduceLT, Nat.reduceAdd, Nat.reduceMul, Int.reduceEq, Int.reduceLT, Int.reduceLE, Int.reduceNe, Int.reduceBEq, Int.reduceToNat, ↓reduceIte]) (hp.sub t8) (by simp -implicitDefEqProofs only [go_sem, Nat.reduceEqDiff, Nat.reduceLT, Nat.reduceAdd, Nat.reduceMul, Int.reduceEq, Int.reduceLT, Int.reduceLE, Int.reduceNe, Int.reduceBEq, Int.reduceToNat, ↓reduceIte]) (Own.lit (p := [0]) h8 rfl).bt (by simp only [List.length_cons, List.length_nil]; omega) fp (t7.trans t8) ?_
    intro r9 H9 o9 f9 t9 a9
    simp -implicitDefEqProofs only [go_sem, Nat.reduceEqDiff, Nat.reduceLT, Nat.reduceAdd, Nat.reduceMul, Int.reduceEq, Int.reduceLT, Int.reduceLE, Int.reduceNe, Int.reduceBEq, Int.reduceToNat, ↓reduceIte]
    refine app_b (Hb := H5) (by simp -implicitDefEqProofs only [go_sem, Nat.reduceEqDiff, Nat.reduceLT, Nat.reduceAdd, Nat.reduceMul, Int.reduceEq, Int.reduceLT, Int.reduceLE, Int.reduceNe, Int.reduceBEq, Int.reduceToNat, ↓reduceIte]) (hc.sub t9) (by simp -implicitDefEqProofs only [go_sem, Nat.reduceEqDiff, Nat.reduceLT, Nat.reduceAdd, Nat.reduceMul, Int.reduceEq, Int.reduceLT, Int.reduceLE, Int.reduceNe, Int.reduceBEq, Int.reduceToNat, ↓reduceIte]) o9.bt (by simp only [List.length_append, List.length_cons, List.length_nil]; omega) fc (t6.trans t9) ?_
    intro r10 H10 o10 f10 t10 a10
    simp -implicitDefEqProofs only [go_sem, Nat.reduceEqDiff, Nat.reduceLT, Nat.reduceAdd, Nat.reduceMul, Int.reduceEq, Int.reduceLT, Int.reduceLE, Int.reduceNe, Int.reduceBEq, Int.reduceToNat, ↓reduceIte]
    refine (wread_ok ht (ok5.sub t10).bt o10.bt (by omega)).mono ?_
    rintro r11 H11 ⟨t11, x11, hr11, _⟩
    rw [e2] at hr11
    subst hr11
    simp -implicitDefEqProofs only [go_sem, Nat.reduceEqDiff, Nat.reduceLT, Nat.reduceAdd, Nat.reduceMul, Int.reduceEq, Int.reduceLT, Int.reduceLE, Int.reduceNe, Int.reduceBEq, Int.reduceToNat, ↓reduceIte]
    first | done | rfl
  · subst e2
    have d1 : decide ((fitN K A : Int) = 0) = false := decide_eq_false (by omega)
    simp -implicitDefEqProofs only [go_sem, Nat.reduceEqDiff, Nat.reduceLT, Nat.reduceAdd, Nat.reduceMul, Int.reduceEq, Int.reduceLT, Int.reduceLE, Int.reduceNe, Int.reduceBEq, Int.reduceToNat, ↓reduceIte, d1]
end
end Go.Proofs.YtoolnkemkhianaaDoor
