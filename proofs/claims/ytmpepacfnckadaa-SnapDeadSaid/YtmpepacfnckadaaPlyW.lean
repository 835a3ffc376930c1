/-
  A script of transactions and snapshots, played: walked.
  Conditions: the script's steps read as steps.
-/
import Derived.Test.YtmpepacfnckadaaPly
namespace Go.Proofs.Ytmpepacfnckadaa
open Go Go.RowKit Go.Proofs.YtmpepacfnckadaaW
set_option maxRecDepth 100000
set_option linter.unusedSimpArgs false
set_option linter.unusedVariables false

theorem allocOf_bs {P : Program} {F : Fr} {t e len : Nat} {parts : Array (Nat × Operand)} (ht : P.underlying t = some (.slice e)) :
    allocOf P F (.buildSlice t len parts) = (bsCells P e len (parts.map fun p => (p.1, evF F p.2))).map fun cs => (.cells cs e, fun b => .slice (some ⟨b, 0, none⟩) len len) := by
  unfold allocOf; simp only [ht]
theorem PlayAt.np {H : Hp} {p l x : Nat} {P : Nat → Prop} {sts : List Nat} {zs : List Shot} {ss tt : Value} (h : PlayAt H p l x P sts zs ss tt) : ¬ P p := fun hp => by
  have := h.2.1.ty hp
  rw [tyAt_of h.1] at this
  cases this

def PlyI (w0 : World) (most n : Nat) (a : Value) (p : Nat) (m : Nat) (F : Fr) (H : Hp) : Prop :=
  ∃ (k l x : Nat) (P : Nat → Prop) (sts : List Nat) (zs : List Shot) (ss tt : Value), k + m = n ∧ F 1 = .int .i64 (most : Int) ∧ F 6 = ptr p ∧ F 28 = a ∧ F 29 = .int .i64 (n : Int) ∧ F 30 = .int .i64 (k : Int) ∧
    PlayAt H p l x P sts zs ss tt ∧ sts.length ≤ k ∧ zs.length ≤ k ∧ sts.length ≤ most ∧ zs.length ≤ most ∧ Hi w0 H

theorem play_ok (w0 : World) (H : Hp) (most : Nat) (hmost : most ≤ 40) (a : Value) (n : Nat) (ha : Ops10Arg w0 a n) :
    ACalls Try.prog w0 28 #[a, .int .i64 (most : Int)] H fun r H' => ∃ p l x P sts zs ss tt, r = .tuple #[ptr p, .bool true] ∧ PlayAt H' p l x P sts zs ss tt ∧ sts.length ≤ most ∧ zs.length ≤ most ∧ Hi w0 H' := by
  obtain ⟨ad, c, rfl, hn, hops⟩ := ha
  have bd : bdCells Try.prog 64 #[] = some #[.pointer none, .pointer none, .slice none 0 0, .slice none 0 0] := by kernel_rfl
  refine acalls_of Try.func28 rfl Try.ntmps28 r28 (by simp) ?_
  simp -implicitDefEqProofs only [go_sem, Nat.reduceEqDiff, Nat.reduceLT, Nat.reduceAdd, Nat.reduceMul, Int.reduceEq, Int.reduceLT, Int.reduceLE, Int.reduceNe, Int.reduceBEq, Int.reduceToNat, ↓reduceIte, bd]
  intro p hp hpn
  simp -implicitDefEqProofs only [go_sem, Nat.reduceEqDiff, Nat.reduceLT, Nat.reduceAdd, Nat.reduceMul, Int.reduceEq, Int.reduceLT, Int.reduceLE, Int.reduceNe, Int.reduceBEq, Int.reduceToNat, ↓reduceIte]
  refine (new_ok w0 1 _ (by omega) (by omega)).mono ?_
  rintro r H1 ⟨l, rfl, hl, hl0, hlog, hsub⟩
  have hp1 := hsub _ _ (Hp.set_same H p (.cells #[.pointer none, .pointer none, .slice none 0 0, .slice none 0 0] 64 (0, 0)))
  have hlp : l ≠ p := fun e => by rw [e, Hp.set_same] at hl; cases hl
  have hw := wr_own hp1 0 (by simp)
  simp -implicitDefEqProofs only [go_sem, Nat.reduceEqDiff, Nat.reduceLT, Nat.reduceAdd, Nat.reduceMul, Int.reduceEq, Int.reduceLT, Int.reduceLE, Int.reduceNe, Int.reduceBEq, Int.reduceToNat, ↓reduceIte, hw]
  refine (ACalls.hi (rnew_ok w0 1 _ (by omega) (by omega))).mono ?_
  rintro r H2 ⟨⟨x, rfl, hx, hx0, href, hsub2⟩, hhi2⟩
  have hp2 := hsub2 _ _ (Hp.set_same H1 p (.cells #[ptr l, .pointer none, .slice none 0 0, .slice none 0 0] 64 (0, 0)))
  have hxp : x ≠ p := fun e => by rw [e, Hp.set_same] at hx; cases hx
  have hw2 := wr_own hp2 1 (by simp)
  simp -implicitDefEqProofs only [go_sem, Nat.reduceEqDiff, Nat.reduceLT, Nat.reduceAdd, Nat.reduceMul, Int.reduceEq, Int.reduceLT, Int.reduceLE, Int.reduceNe, Int.reduceBEq, Int.reduceToNat, ↓reduceIte, hw2]
  have hlog3 : LogAt (H2.set p (.cells #[ptr l, ptr x, .slice none 0 0, .slice none 0 0] 64 (0, 0))) l (fun b => b = l) 1 [] := hlog.keep fun b o hb ho => by
    have hb' : b = l := hb
    rw [Hp.set_ne _ _ _ _ (fun e => hlp (by rw [← hb', e]))]
    exact hsub2 _ _ (by rw [Hp.set_ne _ _ _ _ (fun e => hlp (by rw [← hb', e]))]; exact ho)
  have href3 : RefAt (H2.set p (.cells #[ptr l, ptr x, .slice none 0 0, .slice none 0 0] 64 (0, 0))) x (fun b => b = x) 1 [] := href.keep fun b o hb ho => by
    have hb' : b = x := hb
    rw [Hp.set_ne _ _ _ _ (fun e => hxp (by rw [← hb', e]))]; exact ho
  have hlx : ∀ b, b = l → ¬ b = x := by
    rintro b rfl rfl
    obtain ⟨o, ho⟩ := hlog.own rfl
    rw [Hp.set_ne _ _ _ _ hlp, ho] at hx; cases hx
  have hpl : PlayAt (H2.set p (.cells #[ptr l, ptr x, .slice none 0 0, .slice none 0 0] 64 (0, 0))) p l x (fun b => b = l ∨ b = x) [] [] (.slice none 0 0) (.slice none 0 0) :=
    ⟨Hp.set_same _ _ _, ⟨_, _, hlog3, href3, hlx, fun b => Iff.rfl⟩, ⟨by simp, .inl ⟨rfl, rfl⟩⟩, ⟨by simp, .inl ⟨rfl, rfl⟩⟩, by simp [Shots], by simp [Good]⟩
  refine AC.loop (PlyI w0 most n (.slice ad n c) p) (n := n) ⟨0, l, x, _, [], [], _, _, by omega, rfl, rfl, rfl, rfl, rfl, hpl, by simp, by simp, by simp, by simp, hhi2.set hp _⟩ ?_
  clear hpl hlx href3 hlog3 hw2 hxp hp2 hhi2 hsub2 href hx0 hx hw hlp hp1 hsub hlog hl0 hl bd
  rintro m F H3 ⟨k, l, x, P, sts, zs, ss, tt, hk, f1, f6, f28, f29, f30, hpl, hs1, hz1, hs2, hz2, hhi3⟩
  by_cases c1 : k < n
  · have d1 : decide ((k : Int) < (n : Int)) = true := by simp; omega
    have d0 : decide ((0 : Int) ≤ (k : Int)) = true := by simp
    obtain ⟨ab, rfl, d, x', hd, hx', hc0, hc1⟩ := hops k c1
    have l0 := ld_arg hhi3 hc0
    have l1 := ld_arg hhi3 hc1
    have hl3 : ldCells w0 H3 (ab.add (k * 2)) 0 2 = some [.int .u8 (d : Int), .int .u64 (x' : Int)] := by
      simp only [ldCells, l0, l1, Option.bind_some, Option.map_some]
    simp -implicitDefEqProofs only [go_sem, Nat.reduceEqDiff, Nat.reduceLT, Nat.reduceAdd, Nat.reduceMul, Int.reduceEq, Int.reduceLT, Int.reduceLE, Int.reduceNe, Int.reduceBEq, Int.reduceToNat, ↓reduceIte, f1, f6, f28, f29, f30, d1, d0, ldK_agg, hl3]
    intro b hb hnb
    simp -implicitDefEqProofs only [go_sem, Nat.reduceEqDiff, Nat.reduceLT, Nat.reduceAdd, Nat.reduceMul, Int.reduceEq, Int.reduceLT, Int.reduceLE, Int.reduceNe, Int.reduceBEq, Int.reduceToNat, ↓reduceIte, f1, f6, f28, f29, f30]
    rw [storeK_all (cs := #[.int .u8 (d : Int), .int .u64 (x' : Int)]) (Hp.set_same H3 b (.cells #[.int .u8 0, .int .u64 0] 70 (0, 0))) rfl (by simp [cell1_int])]
    rw [Hp.set_set]
    have hsub4 : Sub H3 (H3.set b (.cells #[.int .u8 (d : Int), .int .u64 (x' : Int)] 70 (0, 0))) := (Sub.refl H3).set hnb _
    have hlb := ld_own w0 (Hp.set_same H3 b (.cells #[.int .u8 (d : Int), .int .u64 (x' : Int)] 70 (0, 0)))
    have hhi4 := hhi3.set hb (.cells #[.int .u8 (d : Int), .int .u64 (x' : Int)] 70 (0, 0))
    have hpl4 := hpl.sub hsub4
    obtain ⟨H4, hH4⟩ : ∃ H4, H4 = H3.set b (.cells #[.int .u8 (d : Int), .int .u64 (x' : Int)] 70 (0, 0)) := ⟨_, rfl⟩
    rw [← hH4] at hsub4 hlb hhi4 hpl4 ⊢
    clear hH4
    have hl4 := ld_own w0 hpl4.1
    by_cases c6 : k < most
    · have d6 : decide ((most : Int) ≤ (k : Int)) = false := by simp; omega
      have d2 : IntKind.i64.wrap ((k : Int) + 1) = (k + 1 : Nat) := by rw [i64_in] <;> omega
      have dm : (d : Int).tmod 7 = ((d % 7 : Nat) : Int) := by rw [Int.tmod_eq_emod_of_nonneg (by omega)]; omega
      have xm : (x' : Int).tmod 40 = ((x' % 40 : Nat) : Int) := by rw [Int.tmod_eq_emod_of_nonneg (by omega)]; omega
      simp -implicitDefEqProofs only [go_sem, Nat.reduceEqDiff, Nat.reduceLT, Nat.reduceAdd, Nat.reduceMul, Int.reduceEq, Int.reduceLT, Int.reduceLE, Int.reduceNe, Int.reduceBEq, Int.reduceToNat, ↓reduceIte, f1, f6, f28, f29, f30, d6]
      by_cases c2 : d % 7 = 2
      · have d7 : decide (((d % 7 : Nat) : Int) = 2) = true := by simp [c2]
        have d8 : (0 + 0 : Nat) = 0 := rfl
        simp -implicitDefEqProofs only [go_sem, Nat.reduceEqDiff, Nat.reduceLT, Nat.reduceAdd, Nat.reduceMul, Int.reduceEq, Int.reduceLT, Int.reduceLE, Int.reduceNe, Int.reduceBEq, Int.reduceToNat, ↓reduceIte, f1, f6, f28, f29, f30, dm, d7, d8, hlb, hl4, xm]
        refine (hpl4.2.1.commitF (by omega) (y := ((x' % 40 : Nat) : Int)) (by omega) (by omega)).mono ?_
        rintro r5 H5 ⟨hst5, q⟩
        have hl5 := ld_own w0 (hst5 p _ hpl4.np hpl4.1)
        simp -implicitDefEqProofs only [go_sem, Nat.reduceEqDiff, Nat.reduceLT, Nat.reduceAdd, Nat.reduceMul, Int.reduceEq, Int.reduceLT, Int.reduceLE, Int.reduceNe, Int.reduceBEq, Int.reduceToNat, ↓reduceIte, f1, f6, f28, f29, f30, dm, d7, d8, hl5, xm]
        refine (ACalls.hi q).mono ?_
        rintro r6 H6 ⟨⟨hboth, hstep⟩, hhi6⟩
        have hpl6 := hpl4.step hstep hboth (fun a h => h.fin _ 2) (hpl4.2.2.2.2.2.fin _ (by omega))
        simp -implicitDefEqProofs only [go_sem, Nat.reduceEqDiff, Nat.reduceLT, Nat.reduceAdd, Nat.reduceMul, Int.reduceEq, Int.reduceLT, Int.reduceLE, Int.reduceNe, Int.reduceBEq, Int.reduceToNat, ↓reduceIte, f1, f6, f28, f29, f30, d2]
        exact ⟨m - 1, by omega, k + 1, l, x, _, _, zs, ss, tt, by omega, by simp only [go_sem, Nat.reduceEqDiff, Nat.reduceLT, Nat.reduceAdd, Nat.reduceMul, Int.reduceEq, Int.reduceLT, Int.reduceLE, Int.reduceNe, Int.reduceBEq, Int.reduceToNat, ↓reduceIte, f1], by simp only [go_sem, Nat.reduceEqDiff, Nat.reduceLT, Nat.reduceAdd, Nat.reduceMul, Int.reduceEq, Int.reduceLT, Int.reduceLE, Int.reduceNe, Int.reduceBEq, Int.reduceToNat, ↓reduceIte, f6], by simp only [go_sem, Nat.reduceEqDiff, Nat.reduceLT, Nat.reduceAdd, Nat.reduceMul, Int.reduceEq, Int.reduceLT, Int.reduceLE, Int.reduceNe, Int.reduceBEq, Int.reduceToNat, ↓reduceIte, f28], by simp only [go_sem, Nat.reduceEqDiff, Nat.reduceLT, Nat.reduceAdd, Nat.reduceMul, Int.reduceEq, Int.reduceLT, Int.reduceLE, Int.reduceNe, Int.reduceBEq, Int.reduceToNat, ↓reduceIte, f29], by simp only [go_sem, Nat.reduceEqDiff, Nat.reduceLT, Nat.reduceAdd, Nat.reduceMul, Int.reduceEq, Int.reduceLT, Int.reduceLE, Int.reduceNe, Int.reduceBEq, Int.reduceToNat, ↓reduceIte], hpl6, by first | (rw [endSts_len]; omega) | (rw [List.length_append]; simp only [List.length_cons, List.length_nil]; omega), by omega, by first | (rw [endSts_len]; omega) | (rw [List.length_append]; simp only [List.length_cons, List.length_nil]; omega), by omega, hhi6⟩
      · have d7 : decide (((d % 7 : Nat) : Int) = 2) = false := by simp; omega
        by_cases c3 : d % 7 = 3
        · have d8 : decide (((d % 7 : Nat) : Int) = 3) = true := by simp [c3]
          simp -implicitDefEqProofs only [go_sem, Nat.reduceEqDiff, Nat.reduceLT, Nat.reduceAdd, Nat.reduceMul, Int.reduceEq, Int.reduceLT, Int.reduceLE, Int.reduceNe, Int.reduceBEq, Int.reduceToNat, ↓reduceIte, f1, f6, f28, f29, f30, dm, d7, d8, hlb, hl4, xm]
          refine (hpl4.2.1.commitF (by omega) (y := ((x' % 40 : Nat) : Int)) (by omega) (by omega)).mono ?_
          rintro r5 H5 ⟨hst5, q⟩
          have hl5 := ld_own w0 (hst5 p _ hpl4.np hpl4.1)
          simp -implicitDefEqProofs only [go_sem, Nat.reduceEqDiff, Nat.reduceLT, Nat.reduceAdd, Nat.reduceMul, Int.reduceEq, Int.reduceLT, Int.reduceLE, Int.reduceNe, Int.reduceBEq, Int.reduceToNat, ↓reduceIte, f1, f6, f28, f29, f30, dm, d7, d8, hl5, xm]
          refine (ACalls.hi q).mono ?_
          rintro r6 H6 ⟨⟨hboth, hstep⟩, hhi6⟩
          have hpl6 := hpl4.step hstep hboth (fun a h => h.fin _ 2) (hpl4.2.2.2.2.2.fin _ (by omega))
          simp -implicitDefEqProofs only [go_sem, Nat.reduceEqDiff, Nat.reduceLT, Nat.reduceAdd, Nat.reduceMul, Int.reduceEq, Int.reduceLT, Int.reduceLE, Int.reduceNe, Int.reduceBEq, Int.reduceToNat, ↓reduceIte, f1, f6, f28, f29, f30, d2]
          exact ⟨m - 1, by omega, k + 1, l, x, _, _, zs, ss, tt, by omega, by simp only [go_sem, Nat.reduceEqDiff, Nat.reduceLT, Nat.reduceAdd, Nat.reduceMul, Int.reduceEq, Int.reduceLT, Int.reduceLE, Int.reduceNe, Int.reduceBEq, Int.reduceToNat, ↓reduceIte, f1], by simp only [go_sem, Nat.reduceEqDiff, Nat.reduceLT, Nat.reduceAdd, Nat.reduceMul, Int.reduceEq, Int.reduceLT, Int.reduceLE, Int.reduceNe, Int.reduceBEq, Int.reduceToNat, ↓reduceIte, f6], by simp only [go_sem, Nat.reduceEqDiff, Nat.reduceLT, Nat.reduceAdd, Nat.reduceMul, Int.reduceEq, Int.reduceLT, Int.reduceLE, Int.reduceNe, Int.reduceBEq, Int.reduceToNat, ↓reduceIte, f28], by simp only [go_sem, Nat.reduceEqDiff, Nat.reduceLT, Nat.reduceAdd, Nat.reduceMul, Int.reduceEq, Int.reduceLT, Int.reduceLE, Int.reduceNe, Int.reduceBEq, Int.reduceToNat, ↓reduceIte, f29], by simp only [go_sem, Nat.reduceEqDiff, Nat.reduceLT, Nat.reduceAdd, Nat.reduceMul, Int.reduceEq, Int.reduceLT, Int.reduceLE, Int.reduceNe, Int.reduceBEq, Int.reduceToNat, ↓reduceIte], hpl6, by first | (rw [endSts_len]; omega) | (rw [List.length_append]; simp only [List.length_cons, List.length_nil]; omega), by omega, by first | (rw [endSts_len]; omega) | (rw [List.length_append]; simp only [List.length_cons, List.length_nil]; omega), by omega, hhi6⟩
        · have d8 : decide (((d % 7 : Nat) : Int) = 3) = false := by simp; omega
          by_cases c4 : d % 7 = 4
          · have d9 : decide (((d % 7 : Nat) : Int) = 4) = true := by simp [c4]
            simp -implicitDefEqProofs only [go_sem, Nat.reduceEqDiff, Nat.reduceLT, Nat.reduceAdd, Nat.reduceMul, Int.reduceEq, Int.reduceLT, Int.reduceLE, Int.reduceNe, Int.reduceBEq, Int.reduceToNat, ↓reduceIte, f1, f6, f28, f29, f30, dm, d7, d8, d9, hlb, hl4, xm]
            refine (hpl4.2.1.abortF (by omega) (y := ((x' % 40 : Nat) : Int)) (by omega) (by omega)).mono ?_
            rintro r5 H5 ⟨hst5, q⟩
            have hl5 := ld_own w0 (hst5 p _ hpl4.np hpl4.1)
            simp -implicitDefEqProofs only [go_sem, Nat.reduceEqDiff, Nat.reduceLT, Nat.reduceAdd, Nat.reduceMul, Int.reduceEq, Int.reduceLT, Int.reduceLE, Int.reduceNe, Int.reduceBEq, Int.reduceToNat, ↓reduceIte, f1, f6, f28, f29, f30, dm, d7, d8, hl5, xm]
            refine (ACalls.hi q).mono ?_
            rintro r6 H6 ⟨⟨hboth, hstep⟩, hhi6⟩
            have hpl6 := hpl4.step hstep hboth (fun a h => h.fin _ 3) (hpl4.2.2.2.2.2.fin _ (by omega))
            simp -implicitDefEqProofs only [go_sem, Nat.reduceEqDiff, Nat.reduceLT, Nat.reduceAdd, Nat.reduceMul, Int.reduceEq, Int.reduceLT, Int.reduceLE, Int.reduceNe, Int.reduceBEq, Int.reduceToNat, ↓reduceIte, f1, f6, f28, f29, f30, d2]
            exact ⟨m - 1, by omega, k + 1, l, x, _, _, zs, ss, tt, by omega, by simp only [go_sem, Nat.reduceEqDiff, Nat.reduceLT, Nat.reduceAdd, Nat.reduceMul, Int.reduceEq, Int.reduceLT, Int.reduceLE, Int.reduceNe, Int.reduceBEq, Int.reduceToNat, ↓reduceIte, f1], by simp only [go_sem, Nat.reduceEqDiff, Nat.reduceLT, Nat.reduceAdd, Nat.reduceMul, Int.reduceEq, Int.reduceLT, Int.reduceLE, Int.reduceNe, Int.reduceBEq, Int.reduceToNat, ↓reduceIte, f6], by simp only [go_sem, Nat.reduceEqDiff, Nat.reduceLT, Nat.reduceAdd, Nat.reduceMul, Int.reduceEq, Int.reduceLT, Int.reduceLE, Int.reduceNe, Int.reduceBEq, Int.reduceToNat, ↓reduceIte, f28], by simp only [go_sem, Nat.reduceEqDiff, Nat.reduceLT, Nat.reduceAdd, Nat.reduceMul, Int.reduceEq, Int.reduceLT, Int.reduceLE, Int.reduceNe, Int.reduceBEq, Int.reduceToNat, ↓reduceIte, f29], by simp only [go_sem, Nat.reduceEqDiff, Nat.reduceLT, Nat.reduceAdd, Nat.reduceMul, Int.reduceEq, Int.reduceLT, Int.reduceLE, Int.reduceNe, Int.reduceBEq, Int.reduceToNat, ↓reduceIte], hpl6, by first | (rw [endSts_len]; omega) | (rw [List.length_append]; simp only [List.length_cons, List.length_nil]; omega), by omega, by first | (rw [endSts_len]; omega) | (rw [List.length_append]; simp only [List.length_cons, List.length_nil]; omega), by omega, hhi6⟩
          · have d9 : decide (((d % 7 : Nat) : Int) = 4) = false := by simp; omega
            by_cases c5 : d % 7 = 5 ∨ d % 7 = 6
            · have d13 : (decide (((d % 7 : Nat) : Int) = 5) || decide (((d % 7 : Nat) : Int) = 6)) = true := by rcases c5 with c | c <;> simp [c]
              rcases c5 with c5 | c5
              · have d10 : decide (((d % 7 : Nat) : Int) = 5) = true := by simp [c5]
                simp -implicitDefEqProofs only [go_sem, Nat.reduceEqDiff, Nat.reduceLT, Nat.reduceAdd, Nat.reduceMul, Int.reduceEq, Int.reduceLT, Int.reduceLE, Int.reduceNe, Int.reduceBEq, Int.reduceToNat, ↓reduceIte, f1, f6, f28, f29, f30, dm, d7, d8, d9, d10, hlb, hl4, xm]
                refine vdraw_of [⟨0, .p, [], []⟩, ⟨1, .p, [], []⟩, ⟨2, .p, [], []⟩, ⟨3, .n, [], []⟩, ⟨4, .p, [], []⟩, ⟨6, .p, [], []⟩, ⟨7, .p, [], []⟩, ⟨8, .p, [], []⟩, ⟨9, .n, [], []⟩, ⟨10, .p, [], []⟩, ⟨5, .c, [9], []⟩, ⟨11, .c, [], []⟩, ⟨12, .a, [], []⟩, ⟨13, .a, [], []⟩, ⟨14, .c, [], []⟩, ⟨15, .c, [], []⟩] mixed (by kernel_rfl) ?_
                simp -implicitDefEqProofs only [go_sem, Nat.reduceEqDiff, Nat.reduceLT, Nat.reduceAdd, Nat.reduceMul, Int.reduceEq, Int.reduceLT, Int.reduceLE, Int.reduceNe, Int.reduceBEq, Int.reduceToNat, ↓reduceIte, f1, f6, f28, f29, f30, dm, d7, d8, d9, d10, hlb, hl4, xm]
                obtain ⟨S4, hlog4⟩ := hpl4.2.1.log
                refine (take_log hlog4 (by omega) (x' % 40)).mono ?_
                rintro r5 H5 ⟨v5, rfl, hrow5, hfr5, hsub5⟩
                have hl5 := ld_own w0 (hsub5 _ _ hpl4.1)
                simp -implicitDefEqProofs only [go_sem, Nat.reduceEqDiff, Nat.reduceLT, Nat.reduceAdd, Nat.reduceMul, Int.reduceEq, Int.reduceLT, Int.reduceLE, Int.reduceNe, Int.reduceBEq, Int.reduceToNat, ↓reduceIte, f1, f6, f28, f29, f30, hl5]
                obtain ⟨T5, href5⟩ := (hpl4.sub hsub5).2.1.ref
                refine (ACalls.hi (rtake_ref href5 (by omega) (x' % 40))).mono ?_
                rintro r6 H6 ⟨⟨v6, rfl, hrow6, hfr6, hsub6⟩, hhi6⟩
                have hpl6 := (hpl4.sub hsub5).sub hsub6
                have hrow5' := hrow5.keep (H' := H6) fun b o _ hb => hsub6 b o hb
                have hl6 := ld_own w0 (hsub6 _ _ (hsub5 _ _ hpl4.1))
                simp -implicitDefEqProofs only [go_sem, Nat.reduceEqDiff, Nat.reduceLT, Nat.reduceAdd, Nat.reduceMul, Int.reduceEq, Int.reduceLT, Int.reduceLE, Int.reduceNe, Int.reduceBEq, Int.reduceToNat, ↓reduceIte, f1, f6, f28, f29, f30, hl6]
                intro b10 hb10 hn10
                simp -implicitDefEqProofs only [go_sem, Nat.reduceEqDiff, Nat.reduceLT, Nat.reduceAdd, Nat.reduceMul, Int.reduceEq, Int.reduceLT, Int.reduceLE, Int.reduceNe, Int.reduceBEq, Int.reduceToNat, ↓reduceIte, f1, f6, f28, f29, f30]
                intro b11 hb11 hn11
                simp -implicitDefEqProofs only [go_sem, Nat.reduceEqDiff, Nat.reduceLT, Nat.reduceAdd, Nat.reduceMul, Int.reduceEq, Int.reduceLT, Int.reduceLE, Int.reduceNe, Int.reduceBEq, Int.reduceToNat, ↓reduceIte, f1, f6, f28, f29, f30]
                have h1011 : b10 ≠ b11 := fun e => by rw [← e, Hp.set_same] at hn11; cases hn11
                have hc5 : cell1 v5 = true := by obtain ⟨q1, q2, rfl⟩ := hrow5.slice; exact cell1_slice
                have hc6 : cell1 v6 = true := by obtain ⟨q1, q2, rfl⟩ := hrow6.slice; exact cell1_slice
                have hz10 : ((H6.set b10 (.cells #[.int .u64 0, .int .u64 0, .int .u64 0, .slice none 0 0] 66 (0, 0))).set b11 (.cells #[.int .u64 0, .int .u64 0, .slice none 0 0] 93 (0, 0))) b10 = some (.cells #[.int .u64 0, .int .u64 0, .int .u64 0, .slice none 0 0] 66 (0, 0)) := by
                  rw [Hp.set_ne _ _ _ _ h1011]; exact Hp.set_same _ _ _
                rw [storeK_all (cs := #[.int .u64 ((x' % 40 : Nat) : Int), .int .u64 ((least (1 + sts.length) (others (x' % 40) (runs 1 sts)) : Nat) : Int), .int .u64 ((1 + sts.length : Nat) : Int), v5]) hz10 rfl (by simp [cell1_int, hc5])]
                simp -implicitDefEqProofs only [go_sem, Nat.reduceEqDiff, Nat.reduceLT, Nat.reduceAdd, Nat.reduceMul, Int.reduceEq, Int.reduceLT, Int.reduceLE, Int.reduceNe, Int.reduceBEq, Int.reduceToNat, ↓reduceIte, f1, f6, f28, f29, f30]
                have hz11 : (((H6.set b10 (.cells #[.int .u64 0, .int .u64 0, .int .u64 0, .slice none 0 0] 66 (0, 0))).set b11 (.cells #[.int .u64 0, .int .u64 0, .slice none 0 0] 93 (0, 0))).set b10 (.cells #[.int .u64 ((x' % 40 : Nat) : Int), .int .u64 ((least (1 + sts.length) (others (x' % 40) (runs 1 sts)) : Nat) : Int), .int .u64 ((1 + sts.length : Nat) : Int), v5] 66 (0, 0))) b11 = some (.cells #[.int .u64 0, .int .u64 0, .slice none 0 0] 93 (0, 0)) := by
                  rw [Hp.set_ne _ _ _ _ h1011.symm]; exact Hp.set_same _ _ _
                rw [storeK_all (cs := #[.int .u64 ((x' % 40 : Nat) : Int), .int .u64 ((1 + sts.length : Nat) : Int), v6]) hz11 rfl (by simp [cell1_int, hc6])]
                obtain ⟨H9, hH9⟩ : ∃ H9, H9 = (((H6.set b10 (.cells #[.int .u64 0, .int .u64 0, .int .u64 0, .slice none 0 0] 66 (0, 0))).set b11 (.cells #[.int .u64 0, .int .u64 0, .slice none 0 0] 93 (0, 0))).set b10 (.cells #[.int .u64 ((x' % 40 : Nat) : Int), .int .u64 ((least (1 + sts.length) (others (x' % 40) (runs 1 sts)) : Nat) : Int), .int .u64 ((1 + sts.length : Nat) : Int), v5] 66 (0, 0))).set b11 (.cells #[.int .u64 ((x' % 40 : Nat) : Int), .int .u64 ((1 + sts.length : Nat) : Int), v6] 93 (0, 0)) := ⟨_, rfl⟩
                rw [← hH9]
                have h9a : H9 b10 = some (.cells #[.int .u64 ((x' % 40 : Nat) : Int), .int .u64 ((least (1 + sts.length) (others (x' % 40) (runs 1 sts)) : Nat) : Int), .int .u64 ((1 + sts.length : Nat) : Int), v5] 66 (0, 0)) := by
                  rw [hH9, Hp.set_ne _ _ _ _ h1011]; exact Hp.set_same _ _ _
                have h9b : H9 b11 = some (.cells #[.int .u64 ((x' % 40 : Nat) : Int), .int .u64 ((1 + sts.length : Nat) : Int), v6] 93 (0, 0)) := by
                  rw [hH9]; exact Hp.set_same _ _ _
                have hsub9 : Sub H6 H9 := by
                  intro b o ho
                  have n10 : b ≠ b10 := fun e => by rw [e, hn10] at ho; cases ho
                  have n11 : b ≠ b11 := fun e => by
                    rw [e] at ho
                    rw [Hp.set_ne _ _ _ _ h1011.symm, ho] at hn11; cases hn11
                  rw [hH9, Hp.set_ne _ _ _ _ n11, Hp.set_ne _ _ _ _ n10, Hp.set_ne _ _ _ _ n11, Hp.set_ne _ _ _ _ n10]; exact ho
                have hhi9 : Hi w0 H9 := by rw [hH9]; exact (((hhi6.set hb10 _).set hb11 _).set hb10 _).set hb11 _
                clear hH9 hz10 hz11
                have hpl9 := hpl6.sub hsub9
                have hrow9a := hrow5'.keep (H' := H9) fun b o _ hb => hsub9 b o hb
                have hrow9b := hrow6.keep (H' := H9) fun b o _ hb => hsub9 b o hb
                have hl9a := ld_own w0 h9a
                have hl9b := ld_own w0 h9b
                have hl9c : ldCells w0 H9 ⟨b11, 0, none⟩ 0 3 = some [.int .u64 ((x' % 40 : Nat) : Int), .int .u64 ((1 + sts.length : Nat) : Int), v6] := by
                  simp only [ldCells, add_at, hl9b]; rfl
                simp -implicitDefEqProofs only [go_sem, Nat.reduceEqDiff, Nat.reduceLT, Nat.reduceAdd, Nat.reduceMul, Int.reduceEq, Int.reduceLT, Int.reduceLE, Int.reduceNe, Int.reduceBEq, Int.reduceToNat, ↓reduceIte, f1, f6, f28, f29, f30]
                refine vdraw_of [⟨0, .p, [], []⟩, ⟨1, .n, [], []⟩, ⟨2, .p, [], []⟩, ⟨3, .n, [], []⟩, ⟨4, .p, [], []⟩, ⟨5, .p, [], []⟩, ⟨6, .p, [], []⟩, ⟨7, .n, [], []⟩, ⟨8, .p, [], []⟩, ⟨9, .n, [], []⟩, ⟨10, .p, [], []⟩, ⟨11, .p, [], []⟩, ⟨12, .p, [], []⟩, ⟨13, .p, [], []⟩, ⟨14, .n, [], []⟩, ⟨15, .n, [], []⟩, ⟨16, .c, [14], []⟩, ⟨17, .p, [], []⟩, ⟨18, .p, [], []⟩, ⟨19, .p, [], []⟩, ⟨20, .p, [], []⟩, ⟨21, .n, [], []⟩, ⟨22, .p, [], []⟩, ⟨23, .n, [], []⟩, ⟨24, .c, [], []⟩, ⟨25, .p, [], []⟩, ⟨26, .p, [], []⟩] mixed (by kernel_rfl) ?_
                simp -implicitDefEqProofs only [go_sem, Nat.reduceEqDiff, Nat.reduceLT, Nat.reduceAdd, Nat.reduceMul, Int.reduceEq, Int.reduceLT, Int.reduceLE, Int.reduceNe, Int.reduceBEq, Int.reduceToNat, ↓reduceIte, f1, f6, f28, f29, f30, hl9a, hl9b, ldK_agg, hl9c]
                have hro := others_len (x' % 40) (runs 1 sts)
                have hrk : (runs 1 sts).length ≤ sts.length := runsK_len 1 sts sts.length
                refine (rleast_row hrow9b (by omega)).mono ?_
                rintro r9 H9' ⟨rfl, rfl⟩
                simp -implicitDefEqProofs only [go_sem, Nat.reduceEqDiff, Nat.reduceLT, Nat.reduceAdd, Nat.reduceMul, Int.reduceEq, Int.reduceLT, Int.reduceLE, Int.reduceNe, Int.reduceBEq, Int.reduceToNat, ↓reduceIte, f1, f6, f28, f29, f30, hl9a, hl9b, ldK_agg, hl9c]
                refine (rsame_row hrow9a hrow9b (by omega)).mono ?_
                rintro r9 H9'' ⟨rfl, rfl⟩
                have hl9d := ld_own w0 hpl9.1
                have hl9e : ldCells w0 H9'' ⟨b10, 0, none⟩ 0 4 = some [.int .u64 ((x' % 40 : Nat) : Int), .int .u64 ((least (1 + sts.length) (others (x' % 40) (runs 1 sts)) : Nat) : Int), .int .u64 ((1 + sts.length : Nat) : Int), v5] := by
                  simp only [ldCells, add_at, hl9a]; rfl
                simp -implicitDefEqProofs only [go_sem, Nat.reduceEqDiff, Nat.reduceLT, Nat.reduceAdd, Nat.reduceMul, Int.reduceEq, Int.reduceLT, Int.reduceLE, Int.reduceNe, Int.reduceBEq, Int.reduceToNat, ↓reduceIte, f1, f6, f28, f29, f30, hl9a, hl9b]
                refine vdraw_of [⟨0, .p, [], []⟩, ⟨1, .p, [], []⟩, ⟨2, .p, [], []⟩, ⟨3, .p, [], []⟩, ⟨4, .p, [], []⟩, ⟨5, .n, [], []⟩, ⟨6, .n, [], []⟩, ⟨9, .p, [], []⟩, ⟨10, .p, [], []⟩, ⟨11, .p, [], []⟩, ⟨12, .n, [], []⟩, ⟨13, .n, [], [14]⟩, ⟨7, .c, [5, 12, 13], []⟩, ⟨8, .c, [12, 13], []⟩, ⟨14, .a, [], []⟩, ⟨15, .c, [], []⟩, ⟨16, .p, [], []⟩, ⟨17, .p, [], []⟩, ⟨18, .c, [], []⟩, ⟨19, .p, [], []⟩, ⟨20, .p, [], []⟩, ⟨21, .c, [], []⟩] mixed (by kernel_rfl) ?_
                have bs4 : bsCells Try.prog 66 1 #[(0, .agg #[.int .u64 ((x' % 40 : Nat) : Int), .int .u64 ((least (1 + sts.length) (others (x' % 40) (runs 1 sts)) : Nat) : Int), .int .u64 ((1 + sts.length : Nat) : Int), v5])] = some #[.int .u64 ((x' % 40 : Nat) : Int), .int .u64 ((least (1 + sts.length) (others (x' % 40) (runs 1 sts)) : Nat) : Int), .int .u64 ((1 + sts.length : Nat) : Int), v5] := by kernel_rfl
                have bs3 : bsCells Try.prog 93 1 #[(0, .agg #[.int .u64 ((x' % 40 : Nat) : Int), .int .u64 ((1 + sts.length : Nat) : Int), v6])] = some #[.int .u64 ((x' % 40 : Nat) : Int), .int .u64 ((1 + sts.length : Nat) : Int), v6] := by kernel_rfl
                simp -implicitDefEqProofs only [go_sem, Nat.reduceEqDiff, Nat.reduceLT, Nat.reduceAdd, Nat.reduceMul, Int.reduceEq, Int.reduceLT, Int.reduceLE, Int.reduceNe, Int.reduceBEq, Int.reduceToNat, ↓reduceIte, f1, f6, f28, f29, f30, hl9d, ldK_agg, hl9c, hl9e, bs4, bs3, allocOf_bs Try.underlying61, allocOf_bs Try.underlying62]
                intro nb1 hnb1 hnn1
                have hsubA : Sub H9'' (H9''.set nb1 (.cells #[.int .u64 ((x' % 40 : Nat) : Int), .int .u64 ((least (1 + sts.length) (others (x' % 40) (runs 1 sts)) : Nat) : Int), .int .u64 ((1 + sts.length : Nat) : Int), v5] 66 (0, 0))) := (Sub.refl H9'').set hnn1 _
                have hnbA := Hp.set_same H9'' nb1 (.cells #[.int .u64 ((x' % 40 : Nat) : Int), .int .u64 ((least (1 + sts.length) (others (x' % 40) (runs 1 sts)) : Nat) : Int), .int .u64 ((1 + sts.length : Nat) : Int), v5] 66 (0, 0))
                have hhiA := hhi9.set hnb1 (.cells #[.int .u64 ((x' % 40 : Nat) : Int), .int .u64 ((least (1 + sts.length) (others (x' % 40) (runs 1 sts)) : Nat) : Int), .int .u64 ((1 + sts.length : Nat) : Int), v5] 66 (0, 0))
                obtain ⟨HA, hHA⟩ : ∃ HA, HA = H9''.set nb1 (.cells #[.int .u64 ((x' % 40 : Nat) : Int), .int .u64 ((least (1 + sts.length) (others (x' % 40) (runs 1 sts)) : Nat) : Int), .int .u64 ((1 + sts.length : Nat) : Int), v5] 66 (0, 0)) := ⟨_, rfl⟩
                rw [← hHA] at hsubA hnbA hhiA ⊢
                clear hHA
                have hplA := hpl9.sub hsubA
                have hlAd := ld_own w0 hplA.1
                have hlAb := ld_own w0 (hsubA _ _ h9b)
                have hlAc : ldCells w0 HA ⟨b11, 0, none⟩ 0 3 = some [.int .u64 ((x' % 40 : Nat) : Int), .int .u64 ((1 + sts.length : Nat) : Int), v6] := by
                  simp only [ldCells, add_at, hlAb]; rfl
                have hlAa := ld_own w0 (hsubA _ _ h9a)
                have hlAe : ldCells w0 HA ⟨b10, 0, none⟩ 0 4 = some [.int .u64 ((x' % 40 : Nat) : Int), .int .u64 ((least (1 + sts.length) (others (x' % 40) (runs 1 sts)) : Nat) : Int), .int .u64 ((1 + sts.length : Nat) : Int), v5] := by
                  simp only [ldCells, add_at, hlAa]; rfl
                simp -implicitDefEqProofs only [go_sem, Nat.reduceEqDiff, Nat.reduceLT, Nat.reduceAdd, Nat.reduceMul, Int.reduceEq, Int.reduceLT, Int.reduceLE, Int.reduceNe, Int.reduceBEq, Int.reduceToNat, ↓reduceIte, f1, f6, f28, f29, f30, hlAd, ldK_agg, hlAc, hlAe, bs4, bs3, allocOf_bs Try.underlying61, allocOf_bs Try.underlying62]
                refine aop_append_lit (t := 61) (x := .tmp 130) (y := .tmp 132) (c := 1) Try.underlying61 s66 b66 z66 rfl (v := ss) (by simp only [go_sem, Nat.reduceEqDiff, Nat.reduceLT, Nat.reduceAdd, Nat.reduceMul, Int.reduceEq, Int.reduceLT, Int.reduceLE, Int.reduceNe, Int.reduceBEq, Int.reduceToNat, ↓reduceIte]) hplA.2.2.1 hnbA (by simp only [go_sem, Nat.reduceEqDiff, Nat.reduceLT, Nat.reduceAdd, Nat.reduceMul, Int.reduceEq, Int.reduceLT, Int.reduceLE, Int.reduceNe, Int.reduceBEq, Int.reduceToNat, ↓reduceIte]) rfl (by simp [cell1_int, hc5]) (by omega) (by omega) (by omega) ?_
                intro gA HB hgA hHB capA hrowB
                have keepB : ∀ b o, HA b = some o → tyAt HA b ≠ some 66 → HB b = some o := by
                  intro b o ho ht
                  have : b ≠ gA := by
                    rintro rfl
                    rcases hgA with e | ⟨e, _⟩
                    · exact ht (Row.tyAt hplA.2.2.1 e.symm)
                    · rw [ho] at e; cases e
                  rw [hHB b this]; exact ho
                have hpB := keepB p _ hplA.1 (by rw [tyAt_of hplA.1]; decide)
                have hlBd := ld_own w0 hpB
                have h11B := keepB b11 _ (hsubA _ _ h9b) (by rw [tyAt_of (hsubA _ _ h9b)]; decide)
                have hlBb := ld_own w0 h11B
                have hlBc : ldCells w0 HB ⟨b11, 0, none⟩ 0 3 = some [.int .u64 ((x' % 40 : Nat) : Int), .int .u64 ((1 + sts.length : Nat) : Int), v6] := by
                  simp only [ldCells, add_at, hlBb]; rfl
                simp -implicitDefEqProofs only [go_sem, Nat.reduceEqDiff, Nat.reduceLT, Nat.reduceAdd, Nat.reduceMul, Int.reduceEq, Int.reduceLT, Int.reduceLE, Int.reduceNe, Int.reduceBEq, Int.reduceToNat, ↓reduceIte, f1, f6, f28, f29, f30, hlBd, ldK_agg, hlBc, bs4, bs3, allocOf_bs Try.underlying61, allocOf_bs Try.underlying62]
                intro nb2 hnb2 hnn2
                have hsubC : Sub HB (HB.set nb2 (.cells #[.int .u64 ((x' % 40 : Nat) : Int), .int .u64 ((1 + sts.length : Nat) : Int), v6] 93 (0, 0))) := (Sub.refl HB).set hnn2 _
                have hnbC := Hp.set_same HB nb2 (.cells #[.int .u64 ((x' % 40 : Nat) : Int), .int .u64 ((1 + sts.length : Nat) : Int), v6] 93 (0, 0))
                have hhiB : Hi w0 HB := fun b o ho => by
                  by_cases e : b = gA
                  · rw [e]
                    rcases hgA with e | ⟨_, hw⟩
                    · obtain ⟨q, hq⟩ := Row.ty hplA.2.2.1 e.symm
                      exact hhiA _ _ hq
                    · exact hw
                  · rw [hHB b e] at ho; exact hhiA _ _ ho
                have hhiC := hhiB.set hnb2 (.cells #[.int .u64 ((x' % 40 : Nat) : Int), .int .u64 ((1 + sts.length : Nat) : Int), v6] 93 (0, 0))
                obtain ⟨HC, hHC⟩ : ∃ HC, HC = HB.set nb2 (.cells #[.int .u64 ((x' % 40 : Nat) : Int), .int .u64 ((1 + sts.length : Nat) : Int), v6] 93 (0, 0)) := ⟨_, rfl⟩
                rw [← hHC] at hsubC hnbC hhiC ⊢
                clear hHC
                have hlCd := ld_own w0 (hsubC _ _ hpB)
                have hlCb := ld_own w0 (hsubC _ _ h11B)
                have hlCc : ldCells w0 HC ⟨b11, 0, none⟩ 0 3 = some [.int .u64 ((x' % 40 : Nat) : Int), .int .u64 ((1 + sts.length : Nat) : Int), v6] := by
                  simp only [ldCells, add_at, hlCb]; rfl
                have httB : Row HB 93 3 tt zs.length (zs.flatMap Shot.ct) := hplA.2.2.2.1.keep fun b o hb ho => keepB b o ho (by rw [Row.tyAt hplA.2.2.2.1 hb]; decide)
                have httC := httB.keep (H' := HC) fun b o _ hb => hsubC b o hb
                simp -implicitDefEqProofs only [go_sem, Nat.reduceEqDiff, Nat.reduceLT, Nat.reduceAdd, Nat.reduceMul, Int.reduceEq, Int.reduceLT, Int.reduceLE, Int.reduceNe, Int.reduceBEq, Int.reduceToNat, ↓reduceIte, f1, f6, f28, f29, f30, hlCd, ldK_agg, hlCc, bs4, bs3, allocOf_bs Try.underlying61, allocOf_bs Try.underlying62]
                refine aop_append_lit (t := 62) (x := .tmp 137) (y := .tmp 139) (c := 1) Try.underlying62 s93 b93 z93 rfl (v := tt) (by simp only [go_sem, Nat.reduceEqDiff, Nat.reduceLT, Nat.reduceAdd, Nat.reduceMul, Int.reduceEq, Int.reduceLT, Int.reduceLE, Int.reduceNe, Int.reduceBEq, Int.reduceToNat, ↓reduceIte]) httC hnbC (by simp only [go_sem, Nat.reduceEqDiff, Nat.reduceLT, Nat.reduceAdd, Nat.reduceMul, Int.reduceEq, Int.reduceLT, Int.reduceLE, Int.reduceNe, Int.reduceBEq, Int.reduceToNat, ↓reduceIte]) rfl (by simp [cell1_int, hc6]) (by omega) (by omega) (by omega) ?_
                intro gD HD hgD hHD capD hrowD
                have keepD : ∀ b o, HC b = some o → tyAt HC b ≠ some 93 → HD b = some o := by
                  intro b o ho ht
                  have : b ≠ gD := by
                    rintro rfl
                    rcases hgD with e | ⟨e, _⟩
                    · exact ht (Row.tyAt httC e.symm)
                    · rw [ho] at e; cases e
                  rw [hHD b this]; exact ho
                have hpC := hsubC _ _ hpB
                have hpD := keepD p _ hpC (by rw [tyAt_of hpC]; decide)
                have hlDd := ld_own w0 hpD
                have hwD := wr_own hpD 2 (by simp)
                have hwD2 := wr_own (Hp.set_same HD p (.cells #[ptr l, ptr x, .slice (some ⟨gA, 0, none⟩) (zs.length + 1) capA, tt] 64 (0, 0))) 3 (by simp)
                simp -implicitDefEqProofs only [go_sem, Nat.reduceEqDiff, Nat.reduceLT, Nat.reduceAdd, Nat.reduceMul, Int.reduceEq, Int.reduceLT, Int.reduceLE, Int.reduceNe, Int.reduceBEq, Int.reduceToNat, ↓reduceIte, f1, f6, f28, f29, f30, hlDd, hwD, hwD2, d2]
                have keepE : ∀ b o cs, HA b = some o → (tyAt HA b ≠ some 66 ∧ tyAt HA b ≠ some 93 ∧ tyAt HA b ≠ some 64) → (HD.set p cs) b = some o := by
                  intro b o cs ho ⟨t1, t2, t3⟩
                  have hB := keepB b o ho t1
                  have hC := hsubC _ _ hB
                  have hty : tyAt HC b = tyAt HA b := by unfold tyAt; rw [hC, ho]
                  rw [Hp.set_ne _ _ _ _ (fun e => t3 (by rw [e, tyAt_of hplA.1]))]
                  exact keepD b o hC (by rw [hty]; exact t2)
                have keep23 : ∀ {v n xs} cs, Row HA 23 1 v n xs → Row (HD.set p cs) 23 1 v n xs := fun cs hr => hr.keep fun b o hb ho => keepE b o cs ho (by rw [Row.tyAt hr hb]; decide)
                obtain ⟨hA1, hA2, hA3, hA4, hA5, hA6⟩ := hplA
                refine ⟨m - 1, by omega, k + 1, l, x, P, sts, zs ++ [⟨x' % 40, sts, v5, v6⟩], _, _, by omega, by simp only [go_sem, Nat.reduceEqDiff, Nat.reduceLT, Nat.reduceAdd, Nat.reduceMul, Int.reduceEq, Int.reduceLT, Int.reduceLE, Int.reduceNe, Int.reduceBEq, Int.reduceToNat, ↓reduceIte, f1], by simp only [go_sem, Nat.reduceEqDiff, Nat.reduceLT, Nat.reduceAdd, Nat.reduceMul, Int.reduceEq, Int.reduceLT, Int.reduceLE, Int.reduceNe, Int.reduceBEq, Int.reduceToNat, ↓reduceIte, f6], by simp only [go_sem, Nat.reduceEqDiff, Nat.reduceLT, Nat.reduceAdd, Nat.reduceMul, Int.reduceEq, Int.reduceLT, Int.reduceLE, Int.reduceNe, Int.reduceBEq, Int.reduceToNat, ↓reduceIte, f28], by simp only [go_sem, Nat.reduceEqDiff, Nat.reduceLT, Nat.reduceAdd, Nat.reduceMul, Int.reduceEq, Int.reduceLT, Int.reduceLE, Int.reduceNe, Int.reduceBEq, Int.reduceToNat, ↓reduceIte, f29], by simp only [go_sem, Nat.reduceEqDiff, Nat.reduceLT, Nat.reduceAdd, Nat.reduceMul, Int.reduceEq, Int.reduceLT, Int.reduceLE, Int.reduceNe, Int.reduceBEq, Int.reduceToNat, ↓reduceIte], ⟨Hp.set_same _ _ _, hA2.keep fun b o hb ho => keepE b o _ ho ?_, ?_, ?_, ?_, hA6⟩, by omega, by simp; omega, by omega, by simp; omega, ?_⟩
                · have ht := hA2.ty hb
                  refine ⟨?_, ?_, ?_⟩ <;> (intro e; rw [e] at ht; cases ht)
                · rw [List.length_append, List.flatMap_append]
                  have := hrowB.keep (H' := HD.set p (.cells #[ptr l, ptr x, .slice (some ⟨gA, 0, none⟩) (zs.length + 1) capA, .slice (some ⟨gD, 0, none⟩) (zs.length + 1) capD] 64 (0, 0))) fun b o hb ho => by
                    have hC := hsubC _ _ ho
                    have hty := Row.tyAt hrowB hb
                    have hty' : tyAt HC b = tyAt HB b := by unfold tyAt; rw [hC, ho]
                    rw [Hp.set_ne _ _ _ _ (fun e => by rw [e, tyAt_of hpB] at hty; cases hty)]
                    exact keepD b o hC (by rw [hty', hty]; decide)
                  simpa [Shot.cs, Shot.run, Shot.xmax] using this
                · rw [List.length_append, List.flatMap_append]
                  have := hrowD.keep (H' := HD.set p (.cells #[ptr l, ptr x, .slice (some ⟨gA, 0, none⟩) (zs.length + 1) capA, .slice (some ⟨gD, 0, none⟩) (zs.length + 1) capD] 64 (0, 0))) fun b o hb ho => by
                    have hty := Row.tyAt hrowD hb
                    rw [Hp.set_ne _ _ _ _ (fun e => by rw [e, tyAt_of hpD] at hty; cases hty)]
                    exact ho
                  simpa [Shot.ct, Shot.run, Shot.xmax] using this
                · intro z hz
                  simp only [List.mem_append, List.mem_singleton] at hz
                  rcases hz with hz | rfl
                  · obtain ⟨q1, q2, q3⟩ := hA5 z hz
                    exact ⟨keep23 _ q1, keep23 _ q2, q3⟩
                  · exact ⟨keep23 _ (hrow9a.keep fun b o _ hb => hsubA b o hb), keep23 _ (hrow9b.keep fun b o _ hb => hsubA b o hb), Later.refl _, hA6, by show sts.length ≤ 100; omega, by show x' % 40 < 100; omega⟩
                · refine Hi.set (fun b o ho => ?_) hp _
                  by_cases e : b = gD
                  · rw [e]
                    rcases hgD with e | ⟨_, hw⟩
                    · obtain ⟨q, hq⟩ := Row.ty httC e.symm
                      exact hhiC _ _ hq
                    · exact hw
                  · rw [hHD b e] at ho; exact hhiC _ _ ho
              · have d10 : decide (((d % 7 : Nat) : Int) = 5) = false := by simp [c5]
                have d11 : decide (((d % 7 : Nat) : Int) = 6) = true := by simp [c5]
                simp -implicitDefEqProofs only [go_sem, Nat.reduceEqDiff, Nat.reduceLT, Nat.reduceAdd, Nat.reduceMul, Int.reduceEq, Int.reduceLT, Int.reduceLE, Int.reduceNe, Int.reduceBEq, Int.reduceToNat, ↓reduceIte, f1, f6, f28, f29, f30, dm, d7, d8, d9, d10, d11, hlb, hl4, xm]
                refine vdraw_of [⟨0, .p, [], []⟩, ⟨1, .p, [], []⟩, ⟨2, .p, [], []⟩, ⟨3, .n, [], []⟩, ⟨4, .p, [], []⟩, ⟨6, .p, [], []⟩, ⟨7, .p, [], []⟩, ⟨8, .p, [], []⟩, ⟨9, .n, [], []⟩, ⟨10, .p, [], []⟩, ⟨5, .c, [9], []⟩, ⟨11, .c, [], []⟩, ⟨12, .a, [], []⟩, ⟨13, .a, [], []⟩, ⟨14, .c, [], []⟩, ⟨15, .c, [], []⟩] mixed (by kernel_rfl) ?_
                simp -implicitDefEqProofs only [go_sem, Nat.reduceEqDiff, Nat.reduceLT, Nat.reduceAdd, Nat.reduceMul, Int.reduceEq, Int.reduceLT, Int.reduceLE, Int.reduceNe, Int.reduceBEq, Int.reduceToNat, ↓reduceIte, f1, f6, f28, f29, f30, dm, d7, d8, d9, d10, d11, hlb, hl4, xm]
                obtain ⟨S4, hlog4⟩ := hpl4.2.1.log
                refine (take_log hlog4 (by omega) (x' % 40)).mono ?_
                rintro r5 H5 ⟨v5, rfl, hrow5, hfr5, hsub5⟩
                have hl5 := ld_own w0 (hsub5 _ _ hpl4.1)
                simp -implicitDefEqProofs only [go_sem, Nat.reduceEqDiff, Nat.reduceLT, Nat.reduceAdd, Nat.reduceMul, Int.reduceEq, Int.reduceLT, Int.reduceLE, Int.reduceNe, Int.reduceBEq, Int.reduceToNat, ↓reduceIte, f1, f6, f28, f29, f30, hl5]
                obtain ⟨T5, href5⟩ := (hpl4.sub hsub5).2.1.ref
                refine (ACalls.hi (rtake_ref href5 (by omega) (x' % 40))).mono ?_
                rintro r6 H6 ⟨⟨v6, rfl, hrow6, hfr6, hsub6⟩, hhi6⟩
                have hpl6 := (hpl4.sub hsub5).sub hsub6
                have hrow5' := hrow5.keep (H' := H6) fun b o _ hb => hsub6 b o hb
                have hl6 := ld_own w0 (hsub6 _ _ (hsub5 _ _ hpl4.1))
                simp -implicitDefEqProofs only [go_sem, Nat.reduceEqDiff, Nat.reduceLT, Nat.reduceAdd, Nat.reduceMul, Int.reduceEq, Int.reduceLT, Int.reduceLE, Int.reduceNe, Int.reduceBEq, Int.reduceToNat, ↓reduceIte, f1, f6, f28, f29, f30, hl6]
                intro b10 hb10 hn10
                simp -implicitDefEqProofs only [go_sem, Nat.reduceEqDiff, Nat.reduceLT, Nat.reduceAdd, Nat.reduceMul, Int.reduceEq, Int.reduceLT, Int.reduceLE, Int.reduceNe, Int.reduceBEq, Int.reduceToNat, ↓reduceIte, f1, f6, f28, f29, f30]
                intro b11 hb11 hn11
                simp -implicitDefEqProofs only [go_sem, Nat.reduceEqDiff, Nat.reduceLT, Nat.reduceAdd, Nat.reduceMul, Int.reduceEq, Int.reduceLT, Int.reduceLE, Int.reduceNe, Int.reduceBEq, Int.reduceToNat, ↓reduceIte, f1, f6, f28, f29, f30]
                have h1011 : b10 ≠ b11 := fun e => by rw [← e, Hp.set_same] at hn11; cases hn11
                have hc5 : cell1 v5 = true := by obtain ⟨q1, q2, rfl⟩ := hrow5.slice; exact cell1_slice
                have hc6 : cell1 v6 = true := by obtain ⟨q1, q2, rfl⟩ := hrow6.slice; exact cell1_slice
                have hz10 : ((H6.set b10 (.cells #[.int .u64 0, .int .u64 0, .int .u64 0, .slice none 0 0] 66 (0, 0))).set b11 (.cells #[.int .u64 0, .int .u64 0, .slice none 0 0] 93 (0, 0))) b10 = some (.cells #[.int .u64 0, .int .u64 0, .int .u64 0, .slice none 0 0] 66 (0, 0)) := by
                  rw [Hp.set_ne _ _ _ _ h1011]; exact Hp.set_same _ _ _
                rw [storeK_all (cs := #[.int .u64 ((x' % 40 : Nat) : Int), .int .u64 ((least (1 + sts.length) (others (x' % 40) (runs 1 sts)) : Nat) : Int), .int .u64 ((1 + sts.length : Nat) : Int), v5]) hz10 rfl (by simp [cell1_int, hc5])]
                simp -implicitDefEqProofs only [go_sem, Nat.reduceEqDiff, Nat.reduceLT, Nat.reduceAdd, Nat.reduceMul, Int.reduceEq, Int.reduceLT, Int.reduceLE, Int.reduceNe, Int.reduceBEq, Int.reduceToNat, ↓reduceIte, f1, f6, f28, f29, f30]
                have hz11 : (((H6.set b10 (.cells #[.int .u64 0, .int .u64 0, .int .u64 0, .slice none 0 0] 66 (0, 0))).set b11 (.cells #[.int .u64 0, .int .u64 0, .slice none 0 0] 93 (0, 0))).set b10 (.cells #[.int .u64 ((x' % 40 : Nat) : Int), .int .u64 ((least (1 + sts.length) (others (x' % 40) (runs 1 sts)) : Nat) : Int), .int .u64 ((1 + sts.length : Nat) : Int), v5] 66 (0, 0))) b11 = some (.cells #[.int .u64 0, .int .u64 0, .slice none 0 0] 93 (0, 0)) := by
                  rw [Hp.set_ne _ _ _ _ h1011.symm]; exact Hp.set_same _ _ _
                rw [storeK_all (cs := #[.int .u64 ((x' % 40 : Nat) : Int), .int .u64 ((1 + sts.length : Nat) : Int), v6]) hz11 rfl (by simp [cell1_int, hc6])]
                obtain ⟨H9, hH9⟩ : ∃ H9, H9 = (((H6.set b10 (.cells #[.int .u64 0, .int .u64 0, .int .u64 0, .slice none 0 0] 66 (0, 0))).set b11 (.cells #[.int .u64 0, .int .u64 0, .slice none 0 0] 93 (0, 0))).set b10 (.cells #[.int .u64 ((x' % 40 : Nat) : Int), .int .u64 ((least (1 + sts.length) (others (x' % 40) (runs 1 sts)) : Nat) : Int), .int .u64 ((1 + sts.length : Nat) : Int), v5] 66 (0, 0))).set b11 (.cells #[.int .u64 ((x' % 40 : Nat) : Int), .int .u64 ((1 + sts.length : Nat) : Int), v6] 93 (0, 0)) := ⟨_, rfl⟩
                rw [← hH9]
                have h9a : H9 b10 = some (.cells #[.int .u64 ((x' % 40 : Nat) : Int), .int .u64 ((least (1 + sts.length) (others (x' % 40) (runs 1 sts)) : Nat) : Int), .int .u64 ((1 + sts.length : Nat) : Int), v5] 66 (0, 0)) := by
                  rw [hH9, Hp.set_ne _ _ _ _ h1011]; exact Hp.set_same _ _ _
                have h9b : H9 b11 = some (.cells #[.int .u64 ((x' % 40 : Nat) : Int), .int .u64 ((1 + sts.length : Nat) : Int), v6] 93 (0, 0)) := by
                  rw [hH9]; exact Hp.set_same _ _ _
                have hsub9 : Sub H6 H9 := by
                  intro b o ho
                  have n10 : b ≠ b10 := fun e => by rw [e, hn10] at ho; cases ho
                  have n11 : b ≠ b11 := fun e => by
                    rw [e] at ho
                    rw [Hp.set_ne _ _ _ _ h1011.symm, ho] at hn11; cases hn11
                  rw [hH9, Hp.set_ne _ _ _ _ n11, Hp.set_ne _ _ _ _ n10, Hp.set_ne _ _ _ _ n11, Hp.set_ne _ _ _ _ n10]; exact ho
                have hhi9 : Hi w0 H9 := by rw [hH9]; exact (((hhi6.set hb10 _).set hb11 _).set hb10 _).set hb11 _
                clear hH9 hz10 hz11
                have hpl9 := hpl6.sub hsub9
                have hrow9a := hrow5'.keep (H' := H9) fun b o _ hb => hsub9 b o hb
                have hrow9b := hrow6.keep (H' := H9) fun b o _ hb => hsub9 b o hb
                have hl9a := ld_own w0 h9a
                have hl9b := ld_own w0 h9b
                have hl9c : ldCells w0 H9 ⟨b11, 0, none⟩ 0 3 = some [.int .u64 ((x' % 40 : Nat) : Int), .int .u64 ((1 + sts.length : Nat) : Int), v6] := by
                  simp only [ldCells, add_at, hl9b]; rfl
                simp -implicitDefEqProofs only [go_sem, Nat.reduceEqDiff, Nat.reduceLT, Nat.reduceAdd, Nat.reduceMul, Int.reduceEq, Int.reduceLT, Int.reduceLE, Int.reduceNe, Int.reduceBEq, Int.reduceToNat, ↓reduceIte, f1, f6, f28, f29, f30]
                refine vdraw_of [⟨0, .p, [], []⟩, ⟨1, .n, [], []⟩, ⟨2, .p, [], []⟩, ⟨3, .n, [], []⟩, ⟨4, .p, [], []⟩, ⟨5, .p, [], []⟩, ⟨6, .p, [], []⟩, ⟨7, .n, [], []⟩, ⟨8, .p, [], []⟩, ⟨9, .n, [], []⟩, ⟨10, .p, [], []⟩, ⟨11, .p, [], []⟩, ⟨12, .p, [], []⟩, ⟨13, .p, [], []⟩, ⟨14, .n, [], []⟩, ⟨15, .n, [], []⟩, ⟨16, .c, [14], []⟩, ⟨17, .p, [], []⟩, ⟨18, .p, [], []⟩, ⟨19, .p, [], []⟩, ⟨20, .p, [], []⟩, ⟨21, .n, [], []⟩, ⟨22, .p, [], []⟩, ⟨23, .n, [], []⟩, ⟨24, .c, [], []⟩, ⟨25, .p, [], []⟩, ⟨26, .p, [], []⟩] mixed (by kernel_rfl) ?_
                simp -implicitDefEqProofs only [go_sem, Nat.reduceEqDiff, Nat.reduceLT, Nat.reduceAdd, Nat.reduceMul, Int.reduceEq, Int.reduceLT, Int.reduceLE, Int.reduceNe, Int.reduceBEq, Int.reduceToNat, ↓reduceIte, f1, f6, f28, f29, f30, hl9a, hl9b, ldK_agg, hl9c]
                have hro := others_len (x' % 40) (runs 1 sts)
                have hrk : (runs 1 sts).length ≤ sts.length := runsK_len 1 sts sts.length
                refine (rleast_row hrow9b (by omega)).mono ?_
                rintro r9 H9' ⟨rfl, rfl⟩
                simp -implicitDefEqProofs only [go_sem, Nat.reduceEqDiff, Nat.reduceLT, Nat.reduceAdd, Nat.reduceMul, Int.reduceEq, Int.reduceLT, Int.reduceLE, Int.reduceNe, Int.reduceBEq, Int.reduceToNat, ↓reduceIte, f1, f6, f28, f29, f30, hl9a, hl9b, ldK_agg, hl9c]
                refine (rsame_row hrow9a hrow9b (by omega)).mono ?_
                rintro r9 H9'' ⟨rfl, rfl⟩
                have hl9d := ld_own w0 hpl9.1
                have hl9e : ldCells w0 H9'' ⟨b10, 0, none⟩ 0 4 = some [.int .u64 ((x' % 40 : Nat) : Int), .int .u64 ((least (1 + sts.length) (others (x' % 40) (runs 1 sts)) : Nat) : Int), .int .u64 ((1 + sts.length : Nat) : Int), v5] := by
                  simp only [ldCells, add_at, hl9a]; rfl
                simp -implicitDefEqProofs only [go_sem, Nat.reduceEqDiff, Nat.reduceLT, Nat.reduceAdd, Nat.reduceMul, Int.reduceEq, Int.reduceLT, Int.reduceLE, Int.reduceNe, Int.reduceBEq, Int.reduceToNat, ↓reduceIte, f1, f6, f28, f29, f30, hl9a, hl9b]
                refine vdraw_of [⟨0, .p, [], []⟩, ⟨1, .p, [], []⟩, ⟨2, .p, [], []⟩, ⟨3, .p, [], []⟩, ⟨4, .p, [], []⟩, ⟨5, .n, [], []⟩, ⟨6, .n, [], []⟩, ⟨9, .p, [], []⟩, ⟨10, .p, [], []⟩, ⟨11, .p, [], []⟩, ⟨12, .n, [], []⟩, ⟨13, .n, [], [14]⟩, ⟨7, .c, [5, 12, 13], []⟩, ⟨8, .c, [12, 13], []⟩, ⟨14, .a, [], []⟩, ⟨15, .c, [], []⟩, ⟨16, .p, [], []⟩, ⟨17, .p, [], []⟩, ⟨18, .c, [], []⟩, ⟨19, .p, [], []⟩, ⟨20, .p, [], []⟩, ⟨21, .c, [], []⟩] mixed (by kernel_rfl) ?_
                have bs4 : bsCells Try.prog 66 1 #[(0, .agg #[.int .u64 ((x' % 40 : Nat) : Int), .int .u64 ((least (1 + sts.length) (others (x' % 40) (runs 1 sts)) : Nat) : Int), .int .u64 ((1 + sts.length : Nat) : Int), v5])] = some #[.int .u64 ((x' % 40 : Nat) : Int), .int .u64 ((least (1 + sts.length) (others (x' % 40) (runs 1 sts)) : Nat) : Int), .int .u64 ((1 + sts.length : Nat) : Int), v5] := by kernel_rfl
                have bs3 : bsCells Try.prog 93 1 #[(0, .agg #[.int .u64 ((x' % 40 : Nat) : Int), .int .u64 ((1 + sts.length : Nat) : Int), v6])] = some #[.int .u64 ((x' % 40 : Nat) : Int), .int .u64 ((1 + sts.length : Nat) : Int), v6] := by kernel_rfl
                simp -implicitDefEqProofs only [go_sem, Nat.reduceEqDiff, Nat.reduceLT, Nat.reduceAdd, Nat.reduceMul, Int.reduceEq, Int.reduceLT, Int.reduceLE, Int.reduceNe, Int.reduceBEq, Int.reduceToNat, ↓reduceIte, f1, f6, f28, f29, f30, hl9d, ldK_agg, hl9c, hl9e, bs4, bs3, allocOf_bs Try.underlying61, allocOf_bs Try.underlying62]
                intro nb1 hnb1 hnn1
                have hsubA : Sub H9'' (H9''.set nb1 (.cells #[.int .u64 ((x' % 40 : Nat) : Int), .int .u64 ((least (1 + sts.length) (others (x' % 40) (runs 1 sts)) : Nat) : Int), .int .u64 ((1 + sts.length : Nat) : Int), v5] 66 (0, 0))) := (Sub.refl H9'').set hnn1 _
                have hnbA := Hp.set_same H9'' nb1 (.cells #[.int .u64 ((x' % 40 : Nat) : Int), .int .u64 ((least (1 + sts.length) (others (x' % 40) (runs 1 sts)) : Nat) : Int), .int .u64 ((1 + sts.length : Nat) : Int), v5] 66 (0, 0))
                have hhiA := hhi9.set hnb1 (.cells #[.int .u64 ((x' % 40 : Nat) : Int), .int .u64 ((least (1 + sts.length) (others (x' % 40) (runs 1 sts)) : Nat) : Int), .int .u64 ((1 + sts.length : Nat) : Int), v5] 66 (0, 0))
                obtain ⟨HA, hHA⟩ : ∃ HA, HA = H9''.set nb1 (.cells #[.int .u64 ((x' % 40 : Nat) : Int), .int .u64 ((least (1 + sts.length) (others (x' % 40) (runs 1 sts)) : Nat) : Int), .int .u64 ((1 + sts.length : Nat) : Int), v5] 66 (0, 0)) := ⟨_, rfl⟩
                rw [← hHA] at hsubA hnbA hhiA ⊢
                clear hHA
                have hplA := hpl9.sub hsubA
                have hlAd := ld_own w0 hplA.1
                have hlAb := ld_own w0 (hsubA _ _ h9b)
                have hlAc : ldCells w0 HA ⟨b11, 0, none⟩ 0 3 = some [.int .u64 ((x' % 40 : Nat) : Int), .int .u64 ((1 + sts.length : Nat) : Int), v6] := by
                  simp only [ldCells, add_at, hlAb]; rfl
                have hlAa := ld_own w0 (hsubA _ _ h9a)
                have hlAe : ldCells w0 HA ⟨b10, 0, none⟩ 0 4 = some [.int .u64 ((x' % 40 : Nat) : Int), .int .u64 ((least (1 + sts.length) (others (x' % 40) (runs 1 sts)) : Nat) : Int), .int .u64 ((1 + sts.length : Nat) : Int), v5] := by
                  simp only [ldCells, add_at, hlAa]; rfl
                simp -implicitDefEqProofs only [go_sem, Nat.reduceEqDiff, Nat.reduceLT, Nat.reduceAdd, Nat.reduceMul, Int.reduceEq, Int.reduceLT, Int.reduceLE, Int.reduceNe, Int.reduceBEq, Int.reduceToNat, ↓reduceIte, f1, f6, f28, f29, f30, hlAd, ldK_agg, hlAc, hlAe, bs4, bs3, allocOf_bs Try.underlying61, allocOf_bs Try.underlying62]
                refine aop_append_lit (t := 61) (x := .tmp 130) (y := .tmp 132) (c := 1) Try.underlying61 s66 b66 z66 rfl (v := ss) (by simp only [go_sem, Nat.reduceEqDiff, Nat.reduceLT, Nat.reduceAdd, Nat.reduceMul, Int.reduceEq, Int.reduceLT, Int.reduceLE, Int.reduceNe, Int.reduceBEq, Int.reduceToNat, ↓reduceIte]) hplA.2.2.1 hnbA (by simp only [go_sem, Nat.reduceEqDiff, Nat.reduceLT, Nat.reduceAdd, Nat.reduceMul, Int.reduceEq, Int.reduceLT, Int.reduceLE, Int.reduceNe, Int.reduceBEq, Int.reduceToNat, ↓reduceIte]) rfl (by simp [cell1_int, hc5]) (by omega) (by omega) (by omega) ?_
                intro gA HB hgA hHB capA hrowB
                have keepB : ∀ b o, HA b = some o → tyAt HA b ≠ some 66 → HB b = some o := by
                  intro b o ho ht
                  have : b ≠ gA := by
                    rintro rfl
                    rcases hgA with e | ⟨e, _⟩
                    · exact ht (Row.tyAt hplA.2.2.1 e.symm)
                    · rw [ho] at e; cases e
                  rw [hHB b this]; exact ho
                have hpB := keepB p _ hplA.1 (by rw [tyAt_of hplA.1]; decide)
                have hlBd := ld_own w0 hpB
                have h11B := keepB b11 _ (hsubA _ _ h9b) (by rw [tyAt_of (hsubA _ _ h9b)]; decide)
                have hlBb := ld_own w0 h11B
                have hlBc : ldCells w0 HB ⟨b11, 0, none⟩ 0 3 = some [.int .u64 ((x' % 40 : Nat) : Int), .int .u64 ((1 + sts.length : Nat) : Int), v6] := by
                  simp only [ldCells, add_at, hlBb]; rfl
                simp -implicitDefEqProofs only [go_sem, Nat.reduceEqDiff, Nat.reduceLT, Nat.reduceAdd, Nat.reduceMul, Int.reduceEq, Int.reduceLT, Int.reduceLE, Int.reduceNe, Int.reduceBEq, Int.reduceToNat, ↓reduceIte, f1, f6, f28, f29, f30, hlBd, ldK_agg, hlBc, bs4, bs3, allocOf_bs Try.underlying61, allocOf_bs Try.underlying62]
                intro nb2 hnb2 hnn2
                have hsubC : Sub HB (HB.set nb2 (.cells #[.int .u64 ((x' % 40 : Nat) : Int), .int .u64 ((1 + sts.length : Nat) : Int), v6] 93 (0, 0))) := (Sub.refl HB).set hnn2 _
                have hnbC := Hp.set_same HB nb2 (.cells #[.int .u64 ((x' % 40 : Nat) : Int), .int .u64 ((1 + sts.length : Nat) : Int), v6] 93 (0, 0))
                have hhiB : Hi w0 HB := fun b o ho => by
                  by_cases e : b = gA
                  · rw [e]
                    rcases hgA with e | ⟨_, hw⟩
                    · obtain ⟨q, hq⟩ := Row.ty hplA.2.2.1 e.symm
                      exact hhiA _ _ hq
                    · exact hw
                  · rw [hHB b e] at ho; exact hhiA _ _ ho
                have hhiC := hhiB.set hnb2 (.cells #[.int .u64 ((x' % 40 : Nat) : Int), .int .u64 ((1 + sts.length : Nat) : Int), v6] 93 (0, 0))
                obtain ⟨HC, hHC⟩ : ∃ HC, HC = HB.set nb2 (.cells #[.int .u64 ((x' % 40 : Nat) : Int), .int .u64 ((1 + sts.length : Nat) : Int), v6] 93 (0, 0)) := ⟨_, rfl⟩
                rw [← hHC] at hsubC hnbC hhiC ⊢
                clear hHC
                have hlCd := ld_own w0 (hsubC _ _ hpB)
                have hlCb := ld_own w0 (hsubC _ _ h11B)
                have hlCc : ldCells w0 HC ⟨b11, 0, none⟩ 0 3 = some [.int .u64 ((x' % 40 : Nat) : Int), .int .u64 ((1 + sts.length : Nat) : Int), v6] := by
                  simp only [ldCells, add_at, hlCb]; rfl
                have httB : Row HB 93 3 tt zs.length (zs.flatMap Shot.ct) := hplA.2.2.2.1.keep fun b o hb ho => keepB b o ho (by rw [Row.tyAt hplA.2.2.2.1 hb]; decide)
                have httC := httB.keep (H' := HC) fun b o _ hb => hsubC b o hb
                simp -implicitDefEqProofs only [go_sem, Nat.reduceEqDiff, Nat.reduceLT, Nat.reduceAdd, Nat.reduceMul, Int.reduceEq, Int.reduceLT, Int.reduceLE, Int.reduceNe, Int.reduceBEq, Int.reduceToNat, ↓reduceIte, f1, f6, f28, f29, f30, hlCd, ldK_agg, hlCc, bs4, bs3, allocOf_bs Try.underlying61, allocOf_bs Try.underlying62]
                refine aop_append_lit (t := 62) (x := .tmp 137) (y := .tmp 139) (c := 1) Try.underlying62 s93 b93 z93 rfl (v := tt) (by simp only [go_sem, Nat.reduceEqDiff, Nat.reduceLT, Nat.reduceAdd, Nat.reduceMul, Int.reduceEq, Int.reduceLT, Int.reduceLE, Int.reduceNe, Int.reduceBEq, Int.reduceToNat, ↓reduceIte]) httC hnbC (by simp only [go_sem, Nat.reduceEqDiff, Nat.reduceLT, Nat.reduceAdd, Nat.reduceMul, Int.reduceEq, Int.reduceLT, Int.reduceLE, Int.reduceNe, Int.reduceBEq, Int.reduceToNat, ↓reduceIte]) rfl (by simp [cell1_int, hc6]) (by omega) (by omega) (by omega) ?_
                intro gD HD hgD hHD capD hrowD
                have keepD : ∀ b o, HC b = some o → tyAt HC b ≠ some 93 → HD b = some o := by
                  intro b o ho ht
                  have : b ≠ gD := by
                    rintro rfl
                    rcases hgD with e | ⟨e, _⟩
                    · exact ht (Row.tyAt httC e.symm)
                    · rw [ho] at e; cases e
                  rw [hHD b this]; exact ho
                have hpC := hsubC _ _ hpB
                have hpD := keepD p _ hpC (by rw [tyAt_of hpC]; decide)
                have hlDd := ld_own w0 hpD
                have hwD := wr_own hpD 2 (by simp)
                have hwD2 := wr_own (Hp.set_same HD p (.cells #[ptr l, ptr x, .slice (some ⟨gA, 0, none⟩) (zs.length + 1) capA, tt] 64 (0, 0))) 3 (by simp)
                simp -implicitDefEqProofs only [go_sem, Nat.reduceEqDiff, Nat.reduceLT, Nat.reduceAdd, Nat.reduceMul, Int.reduceEq, Int.reduceLT, Int.reduceLE, Int.reduceNe, Int.reduceBEq, Int.reduceToNat, ↓reduceIte, f1, f6, f28, f29, f30, hlDd, hwD, hwD2, d2]
                have keepE : ∀ b o cs, HA b = some o → (tyAt HA b ≠ some 66 ∧ tyAt HA b ≠ some 93 ∧ tyAt HA b ≠ some 64) → (HD.set p cs) b = some o := by
                  intro b o cs ho ⟨t1, t2, t3⟩
                  have hB := keepB b o ho t1
                  have hC := hsubC _ _ hB
                  have hty : tyAt HC b = tyAt HA b := by unfold tyAt; rw [hC, ho]
                  rw [Hp.set_ne _ _ _ _ (fun e => t3 (by rw [e, tyAt_of hplA.1]))]
                  exact keepD b o hC (by rw [hty]; exact t2)
                have keep23 : ∀ {v n xs} cs, Row HA 23 1 v n xs → Row (HD.set p cs) 23 1 v n xs := fun cs hr => hr.keep fun b o hb ho => keepE b o cs ho (by rw [Row.tyAt hr hb]; decide)
                obtain ⟨hA1, hA2, hA3, hA4, hA5, hA6⟩ := hplA
                refine ⟨m - 1, by omega, k + 1, l, x, P, sts, zs ++ [⟨x' % 40, sts, v5, v6⟩], _, _, by omega, by simp only [go_sem, Nat.reduceEqDiff, Nat.reduceLT, Nat.reduceAdd, Nat.reduceMul, Int.reduceEq, Int.reduceLT, Int.reduceLE, Int.reduceNe, Int.reduceBEq, Int.reduceToNat, ↓reduceIte, f1], by simp only [go_sem, Nat.reduceEqDiff, Nat.reduceLT, Nat.reduceAdd, Nat.reduceMul, Int.reduceEq, Int.reduceLT, Int.reduceLE, Int.reduceNe, Int.reduceBEq, Int.reduceToNat, ↓reduceIte, f6], by simp only [go_sem, Nat.reduceEqDiff, Nat.reduceLT, Nat.reduceAdd, Nat.reduceMul, Int.reduceEq, Int.reduceLT, Int.reduceLE, Int.reduceNe, Int.reduceBEq, Int.reduceToNat, ↓reduceIte, f28], by simp only [go_sem, Nat.reduceEqDiff, Nat.reduceLT, Nat.reduceAdd, Nat.reduceMul, Int.reduceEq, Int.reduceLT, Int.reduceLE, Int.reduceNe, Int.reduceBEq, Int.reduceToNat, ↓reduceIte, f29], by simp only [go_sem, Nat.reduceEqDiff, Nat.reduceLT, Nat.reduceAdd, Nat.reduceMul, Int.reduceEq, Int.reduceLT, Int.reduceLE, Int.reduceNe, Int.reduceBEq, Int.reduceToNat, ↓reduceIte], ⟨Hp.set_same _ _ _, hA2.keep fun b o hb ho => keepE b o _ ho ?_, ?_, ?_, ?_, hA6⟩, by omega, by simp; omega, by omega, by simp; omega, ?_⟩
                · have ht := hA2.ty hb
                  refine ⟨?_, ?_, ?_⟩ <;> (intro e; rw [e] at ht; cases ht)
                · rw [List.length_append, List.flatMap_append]
                  have := hrowB.keep (H' := HD.set p (.cells #[ptr l, ptr x, .slice (some ⟨gA, 0, none⟩) (zs.length + 1) capA, .slice (some ⟨gD, 0, none⟩) (zs.length + 1) capD] 64 (0, 0))) fun b o hb ho => by
                    have hC := hsubC _ _ ho
                    have hty := Row.tyAt hrowB hb
                    have hty' : tyAt HC b = tyAt HB b := by unfold tyAt; rw [hC, ho]
                    rw [Hp.set_ne _ _ _ _ (fun e => by rw [e, tyAt_of hpB] at hty; cases hty)]
                    exact keepD b o hC (by rw [hty', hty]; decide)
                  simpa [Shot.cs, Shot.run, Shot.xmax] using this
                · rw [List.length_append, List.flatMap_append]
                  have := hrowD.keep (H' := HD.set p (.cells #[ptr l, ptr x, .slice (some ⟨gA, 0, none⟩) (zs.length + 1) capA, .slice (some ⟨gD, 0, none⟩) (zs.length + 1) capD] 64 (0, 0))) fun b o hb ho => by
                    have hty := Row.tyAt hrowD hb
                    rw [Hp.set_ne _ _ _ _ (fun e => by rw [e, tyAt_of hpD] at hty; cases hty)]
                    exact ho
                  simpa [Shot.ct, Shot.run, Shot.xmax] using this
                · intro z hz
                  simp only [List.mem_append, List.mem_singleton] at hz
                  rcases hz with hz | rfl
                  · obtain ⟨q1, q2, q3⟩ := hA5 z hz
                    exact ⟨keep23 _ q1, keep23 _ q2, q3⟩
                  · exact ⟨keep23 _ (hrow9a.keep fun b o _ hb => hsubA b o hb), keep23 _ (hrow9b.keep fun b o _ hb => hsubA b o hb), Later.refl _, hA6, by show sts.length ≤ 100; omega, by show x' % 40 < 100; omega⟩
                · refine Hi.set (fun b o ho => ?_) hp _
                  by_cases e : b = gD
                  · rw [e]
                    rcases hgD with e | ⟨_, hw⟩
                    · obtain ⟨q, hq⟩ := Row.ty httC e.symm
                      exact hhiC _ _ hq
                    · exact hw
                  · rw [hHD b e] at ho; exact hhiC _ _ ho
            · have d10 : decide (((d % 7 : Nat) : Int) = 5) = false := by simp; omega
              have d11 : decide (((d % 7 : Nat) : Int) = 6) = false := by simp; omega
              simp -implicitDefEqProofs only [go_sem, Nat.reduceEqDiff, Nat.reduceLT, Nat.reduceAdd, Nat.reduceMul, Int.reduceEq, Int.reduceLT, Int.reduceLE, Int.reduceNe, Int.reduceBEq, Int.reduceToNat, ↓reduceIte, f1, f6, f28, f29, f30, dm, d7, d8, d9, d10, d11, hlb, hl4, xm]
              refine (hpl4.2.1.beginF (by omega)).mono ?_
              rintro r5 H5 ⟨hst5, q⟩
              have hl5 := ld_own w0 (hst5 p _ hpl4.np hpl4.1)
              simp -implicitDefEqProofs only [go_sem, Nat.reduceEqDiff, Nat.reduceLT, Nat.reduceAdd, Nat.reduceMul, Int.reduceEq, Int.reduceLT, Int.reduceLE, Int.reduceNe, Int.reduceBEq, Int.reduceToNat, ↓reduceIte, f1, f6, f28, f29, f30, dm, d7, d8, hl5, xm]
              refine (ACalls.hi q).mono ?_
              rintro r6 H6 ⟨⟨P', hboth, hstep⟩, hhi6⟩
              have hpl6 := hpl4.step hstep hboth (fun a h => h.push 1) hpl4.2.2.2.2.2.push
              simp -implicitDefEqProofs only [go_sem, Nat.reduceEqDiff, Nat.reduceLT, Nat.reduceAdd, Nat.reduceMul, Int.reduceEq, Int.reduceLT, Int.reduceLE, Int.reduceNe, Int.reduceBEq, Int.reduceToNat, ↓reduceIte, f1, f6, f28, f29, f30, d2]
              exact ⟨m - 1, by omega, k + 1, l, x, _, _, zs, ss, tt, by omega, by simp only [go_sem, Nat.reduceEqDiff, Nat.reduceLT, Nat.reduceAdd, Nat.reduceMul, Int.reduceEq, Int.reduceLT, Int.reduceLE, Int.reduceNe, Int.reduceBEq, Int.reduceToNat, ↓reduceIte, f1], by simp only [go_sem, Nat.reduceEqDiff, Nat.reduceLT, Nat.reduceAdd, Nat.reduceMul, Int.reduceEq, Int.reduceLT, Int.reduceLE, Int.reduceNe, Int.reduceBEq, Int.reduceToNat, ↓reduceIte, f6], by simp only [go_sem, Nat.reduceEqDiff, Nat.reduceLT, Nat.reduceAdd, Nat.reduceMul, Int.reduceEq, Int.reduceLT, Int.reduceLE, Int.reduceNe, Int.reduceBEq, Int.reduceToNat, ↓reduceIte, f28], by simp only [go_sem, Nat.reduceEqDiff, Nat.reduceLT, Nat.reduceAdd, Nat.reduceMul, Int.reduceEq, Int.reduceLT, Int.reduceLE, Int.reduceNe, Int.reduceBEq, Int.reduceToNat, ↓reduceIte, f29], by simp only [go_sem, Nat.reduceEqDiff, Nat.reduceLT, Nat.reduceAdd, Nat.reduceMul, Int.reduceEq, Int.reduceLT, Int.reduceLE, Int.reduceNe, Int.reduceBEq, Int.reduceToNat, ↓reduceIte], hpl6, by first | (rw [endSts_len]; omega) | (rw [List.length_append]; simp only [List.length_cons, List.length_nil]; omega), by omega, by first | (rw [endSts_len]; omega) | (rw [List.length_append]; simp only [List.length_cons, List.length_nil]; omega), by omega, hhi6⟩
    · have d6 : decide ((most : Int) ≤ (k : Int)) = true := by simp; omega
      simp -implicitDefEqProofs only [go_sem, Nat.reduceEqDiff, Nat.reduceLT, Nat.reduceAdd, Nat.reduceMul, Int.reduceEq, Int.reduceLT, Int.reduceLE, Int.reduceNe, Int.reduceBEq, Int.reduceToNat, ↓reduceIte, f1, f6, f28, f29, f30, d6]
      exact ⟨p, l, x, P, sts, zs, ss, tt, rfl, hpl4, hs2, hz2, hhi4⟩
  · have d1 : decide ((k : Int) < (n : Int)) = false := by simp; omega
    simp -implicitDefEqProofs only [go_sem, Nat.reduceEqDiff, Nat.reduceLT, Nat.reduceAdd, Nat.reduceMul, Int.reduceEq, Int.reduceLT, Int.reduceLE, Int.reduceNe, Int.reduceBEq, Int.reduceToNat, ↓reduceIte, f1, f6, f28, f29, f30, d1]
    exact ⟨p, l, x, P, sts, zs, ss, tt, rfl, hpl, hs2, hz2, hhi3⟩
end Go.Proofs.Ytmpepacfnckadaa
