/-
  The document's reading of a row, walked.
  Conditions: as each theorem states them.
-/
import Derived.Test.YtoolnkemkhianaaDoorKrd
namespace Go.Proofs.YtoolnkemkhianaaDoor
open Go Go.RowKit Go.Proofs.YtoolnkemkhianaaDoorW
set_option maxRecDepth 100000
set_option maxHeartbeats 2000000
set_option linter.unusedSimpArgs false
set_option linter.unusedVariables false
section
variable {w0 : World} {H Hb : Hp}
def RrI (H0 : Hp) (v s : Value) (bx : Nat) (sl : Value) (l : List UInt8) (m : Nat) (F : Fr) (H : Hp) : Prop :=
  ∃ k, k + m = 8 ∧ F 0 = v ∧ F 4 = s ∧ F 5 = .pointer (some ⟨bx, 0, none⟩) ∧ F 7 = .int .u64 (val8 (l.take k) : Int) ∧ F 41 = sl ∧ F 42 = .int .i64 8 ∧ F 43 = .int .i64 (k : Int) ∧ H = H0
def RrJ (H0 : Hp) (v s : Value) (bx : Nat) (e : Nat) (m : Nat) (F : Fr) (H : Hp) : Prop :=
  ∃ k, k + m = e ∧ F 0 = v ∧ F 4 = s ∧ F 5 = .pointer (some ⟨bx, 0, none⟩) ∧ F 6 = .int .i64 ((k + 1 : Nat) : Int) ∧ H = H0
theorem truth_ok {b : Bool} : ACalls Tryd.prog w0 44 #[.bool b] H fun r H' => r = va ⟨3, 0, [], b⟩ ∧ H' = H := by
  refine ACalls.quiet ?_
  refine acalls_of Tryd.func44 rfl Tryd.ntmps44 r44 (by simp) ?_
  simp -implicitDefEqProofs only [go_sem, Nat.reduceEqDiff, Nat.reduceLT, Nat.reduceAdd, Nat.reduceMul, Int.reduceEq, Int.reduceLT, Int.reduceLE, Int.reduceNe, Int.reduceBEq, Int.reduceToNat, ↓reduceIte]
  refine newK_of ?_
  intro bx H2 hbx hnx hx sx gx
  simp -implicitDefEqProofs only [go_sem, Nat.reduceEqDiff, Nat.reduceLT, Nat.reduceAdd, Nat.reduceMul, Int.reduceEq, Int.reduceLT, Int.reduceLE, Int.reduceNe, Int.reduceBEq, Int.reduceToNat, ↓reduceIte]
  refine store_all (cs := (vc ⟨3, 0, [], b⟩).toArray) hx rfl rfl s36 ?_
  intro H3 h3 g3
  have l3 := ldc w0 (l := vc ⟨3, 0, [], b⟩) h3 4
  simp -implicitDefEqProofs only [go_sem, Nat.reduceEqDiff, Nat.reduceLT, Nat.reduceAdd, Nat.reduceMul, Int.reduceEq, Int.reduceLT, Int.reduceLE, Int.reduceNe, Int.reduceBEq, Int.reduceToNat, ↓reduceIte, l3]
  first | exact Sub.ne2 hnx gx g3 | exact ⟨rfl, Sub.ne2 hnx gx g3⟩
theorem rread_ok {u : Value} {p : List UInt8} (hp : Bt w0 H u p) (hn : p.length < 100000000) : ACalls Tryd.prog w0 30 #[u] H (RdQ w0 H p) := by
  refine acalls_of Tryd.func30 rfl Tryd.ntmps30 r30 (by simp) ?_
  simp -implicitDefEqProofs only [go_sem, Nat.reduceEqDiff, Nat.reduceLT, Nat.reduceAdd, Nat.reduceMul, Int.reduceEq, Int.reduceLT, Int.reduceLE, Int.reduceNe, Int.reduceBEq, Int.reduceToNat, ↓reduceIte]
  refine AC.loopH (KrI w0 p H) (n := p.length) ⟨u, .slice none 0 0, by simp -implicitDefEqProofs only [go_sem, Nat.reduceEqDiff, Nat.reduceLT, Nat.reduceAdd, Nat.reduceMul, Int.reduceEq, Int.reduceLT, Int.reduceLE, Int.reduceNe, Int.reduceBEq, Int.reduceToNat, ↓reduceIte], by simp -implicitDefEqProofs only [go_sem, Nat.reduceEqDiff, Nat.reduceLT, Nat.reduceAdd, Nat.reduceMul, Int.reduceEq, Int.reduceLT, Int.reduceLE, Int.reduceNe, Int.reduceBEq, Int.reduceToNat, ↓reduceIte], [], p, rfl, hp, Row.nil _ _ _, fun b hb => (by simp [blk] at hb), Sub.refl _, by simp, fun o ho => by simpa using ho⟩ ?_
  rintro m F H1 ⟨v, s, f0, f4, done, rest, hm, hb, hov, hf, hs, hl, hr⟩ hh
  obtain ⟨ra, rc, er, hrc⟩ := Rd.slice hb
  subst er
  cases rest with
  | nil =>
    have d1 : decide ((0 : Int) < ((0 : Nat) : Int)) = false := rfl
    have d1' : decide ((0 : Int) < 0) = false := rfl
    simp -implicitDefEqProofs only [go_sem, Nat.reduceEqDiff, Nat.reduceLT, Nat.reduceAdd, Nat.reduceMul, Int.reduceEq, Int.reduceLT, Int.reduceLE, Int.reduceNe, Int.reduceBEq, Int.reduceToNat, ↓reduceIte, f0, f4, List.length_nil, d1, d1']
    have := hr _ .nil
    refine ⟨hs, _, this, ?_⟩
    simp only [Option.map_some, List.append_nil]
    exact ⟨by simpa using hl, s, rfl, hov, hf⟩
  | cons h t =>
    obtain ⟨n, hnn⟩ : ∃ n, n = (h :: t).length := ⟨_, rfl⟩
    have hnn' : n = t.length + 1 := hnn
    rw [List.length_cons] at hl
    have d1 : decide ((0 : Int) < (n : Int)) = true := decide_eq_true (by omega)
    rw [← hnn] at f0
    rw [← hnn] at hb hrc
    simp -implicitDefEqProofs only [go_sem, Nat.reduceEqDiff, Nat.reduceLT, Nat.reduceAdd, Nat.reduceMul, Int.reduceEq, Int.reduceLT, Int.reduceLE, Int.reduceNe, Int.reduceBEq, Int.reduceToNat, ↓reduceIte, f0, f4, d1]
    refine newK_of ?_
    intro bx H2 hbx hnx hx sx gx
    simp -implicitDefEqProofs only [go_sem, Nat.reduceEqDiff, Nat.reduceLT, Nat.reduceAdd, Nat.reduceMul, Int.reduceEq, Int.reduceLT, Int.reduceLE, Int.reduceNe, Int.reduceBEq, Int.reduceToNat, ↓reduceIte]
    refine store_all (cs := (vc ⟨0, 0, [], false⟩).toArray) hx rfl rfl s36 ?_
    intro H3 h3 g3
    have t3 : Sub H1 H3 := Sub.ne2 hnx gx g3
    have st3 := hs.trans t3
    have hh3 : Hi w0 H3 := Hi.ne (Hi.ne hh hbx gx) hbx g3
    have hb3 := hb.sub st3 hh3
    have hov3 := hov.sub t3
    obtain ⟨pa, pc, ep, lp⟩ := Rd.at1 hb3 (k := 0) (show (u8s (h :: t))[0]? = some (.int .u8 (h.toNat : Int)) from rfl)
    have ea : ra = some pa := by injection ep
    subst ea
    have lp : ld w0 H3 pa = some (.int .u8 (h.toNat : Int)) := lp
    have l3 := ldc w0 (l := vc ⟨0, 0, [], false⟩) h3 4
    simp -implicitDefEqProofs only [go_sem, Nat.reduceEqDiff, Nat.reduceLT, Nat.reduceAdd, Nat.reduceMul, Int.reduceEq, Int.reduceLT, Int.reduceLE, Int.reduceNe, Int.reduceBEq, Int.reduceToNat, ↓reduceIte, f0, lp, d1]
    have stX := st3
    have hovX := hov3
    by_cases k1 : h.toNat = 1
    · have e1 : decide ((h.toNat : Int) = 1) = true := decide_eq_true (by omega)
      have lX := l3
      simp -implicitDefEqProofs only [go_sem, Nat.reduceEqDiff, Nat.reduceLT, Nat.reduceAdd, Nat.reduceMul, Int.reduceEq, Int.reduceLT, Int.reduceLE, Int.reduceNe, Int.reduceBEq, Int.reduceToNat, ↓reduceIte, e1]
      refine vdraw_t [⟨0, .p, [], []⟩, ⟨1, .n, [], []⟩, ⟨4, .p, [], []⟩, ⟨5, .p, [], []⟩, ⟨6, .n, [], []⟩, ⟨2, .c, [6], []⟩, ⟨3, .c, [6], []⟩, ⟨7, .p, [], []⟩, ⟨8, .p, [], []⟩] [0, 0, 2, 7, 0, 0, 48, 15, 255] mixed (by kernel_rfl) ?_
      simp -implicitDefEqProofs only [go_sem, Nat.reduceEqDiff, Nat.reduceLT, Nat.reduceAdd, Nat.reduceMul, Int.reduceEq, Int.reduceLT, Int.reduceLE, Int.reduceNe, Int.reduceBEq, Int.reduceToNat, ↓reduceIte, f0, f4, lX]
      obtain ⟨a2, n2, c2, r2, e3, en2, hk2, hnc2, er2, hr2⟩ := Bt.lo hb (k := 1) (by rw [List.length_cons]; omega)
      have ea2 : a2 = some pa := by injection e3 with e; exact e.symm
      have ec2 : rc = c2 := by injection e3
      have en2' : n = n2 := by injection e3
      subst ea2 ec2 en2'
      refine ⟨r2, ?_, ?_⟩
      · refine slice_lo (dst := none) (ty := 0) (pos := "") (after := #[]) (g := none) (a := some pa) (n := n) (c := rc) (l := 1) Tryd.underlying22 s5 (by simp -implicitDefEqProofs only [go_sem, Nat.reduceEqDiff, Nat.reduceLT, Nat.reduceAdd, Nat.reduceMul, Int.reduceEq, Int.reduceLT, Int.reduceLE, Int.reduceNe, Int.reduceBEq, Int.reduceToNat, ↓reduceIte, f0, f4]) (by first | rfl | simp -implicitDefEqProofs only [go_sem, Nat.reduceEqDiff, Nat.reduceLT, Nat.reduceAdd, Nat.reduceMul, Int.reduceEq, Int.reduceLT, Int.reduceLE, Int.reduceNe, Int.reduceBEq, Int.reduceToNat, ↓reduceIte, f0, f4]) (by omega) ?_
        rw [er2]
        exact ⟨rfl, rfl⟩
      simp -implicitDefEqProofs only [go_sem, Nat.reduceEqDiff, Nat.reduceLT, Nat.reduceAdd, Nat.reduceMul, Int.reduceEq, Int.reduceLT, Int.reduceLE, Int.reduceNe, Int.reduceBEq, Int.reduceToNat, ↓reduceIte, f0, f4]
      refine newK_of ?_
      intro bw H8 hbw hnw hw8 sw gw
      have hone : H8 bw = some (.cells ([⟨0, 0, [], false⟩].flatMap vc).toArray 36 (0, 0)) := by rw [hw8]; simp
      have hvs : Vs w0 H8 (.slice (some ⟨bw, 0, none⟩) 1 1) [⟨0, 0, [], false⟩] := by
        refine .inr ⟨_, _, rfl, Nat.le_refl _, ?_⟩
        rw [ldCells_row hone 0 _ 0 (by simp [vc])]
        rfl
      simp -implicitDefEqProofs only [go_sem, Nat.reduceEqDiff, Nat.reduceLT, Nat.reduceAdd, Nat.reduceMul, Int.reduceEq, Int.reduceLT, Int.reduceLE, Int.reduceNe, Int.reduceBEq, Int.reduceToNat, ↓reduceIte, f0, f4]
      refine ⟨?_, ?_⟩
      · refine slice_lo (dst := none) (ty := 0) (pos := "") (after := #[]) (g := none) (a := some pa) (n := n) (c := rc) (l := 1) Tryd.underlying22 s5 (by simp -implicitDefEqProofs only [go_sem, Nat.reduceEqDiff, Nat.reduceLT, Nat.reduceAdd, Nat.reduceMul, Int.reduceEq, Int.reduceLT, Int.reduceLE, Int.reduceNe, Int.reduceBEq, Int.reduceToNat, ↓reduceIte, f0, f4]) (by first | rfl | simp -implicitDefEqProofs only [go_sem, Nat.reduceEqDiff, Nat.reduceLT, Nat.reduceAdd, Nat.reduceMul, Int.reduceEq, Int.reduceLT, Int.reduceLE, Int.reduceNe, Int.reduceBEq, Int.reduceToNat, ↓reduceIte, f0, f4]) (by omega) ?_
        rw [er2]
        exact ⟨rfl, rfl⟩
      refine app_v (Hb := H) (by simp -implicitDefEqProofs only [go_sem, Nat.reduceEqDiff, Nat.reduceLT, Nat.reduceAdd, Nat.reduceMul, Int.reduceEq, Int.reduceLT, Int.reduceLE, Int.reduceNe, Int.reduceBEq, Int.reduceToNat, ↓reduceIte, f0, f4]) (hovX.sub sw) (by simp -implicitDefEqProofs only [go_sem, Nat.reduceEqDiff, Nat.reduceLT, Nat.reduceAdd, Nat.reduceMul, Int.reduceEq, Int.reduceLT, Int.reduceLE, Int.reduceNe, Int.reduceBEq, Int.reduceToNat, ↓reduceIte, f0, f4]) hvs (by simp; omega) hf (stX.trans sw) ?_
      intro r9 H9 o9 f9 s9 a9
      simp -implicitDefEqProofs only [go_sem, Nat.reduceEqDiff, Nat.reduceLT, Nat.reduceAdd, Nat.reduceMul, Int.reduceEq, Int.reduceLT, Int.reduceLE, Int.reduceNe, Int.reduceBEq, Int.reduceToNat, ↓reduceIte, f0, f4]
      refine ⟨?_, ?_⟩
      · refine slice_lo (dst := none) (ty := 0) (pos := "") (after := #[]) (g := none) (a := some pa) (n := n) (c := rc) (l := 1) Tryd.underlying22 s5 (by simp -implicitDefEqProofs only [go_sem, Nat.reduceEqDiff, Nat.reduceLT, Nat.reduceAdd, Nat.reduceMul, Int.reduceEq, Int.reduceLT, Int.reduceLE, Int.reduceNe, Int.reduceBEq, Int.reduceToNat, ↓reduceIte, f0, f4]) (by first | rfl | simp -implicitDefEqProofs only [go_sem, Nat.reduceEqDiff, Nat.reduceLT, Nat.reduceAdd, Nat.reduceMul, Int.reduceEq, Int.reduceLT, Int.reduceLE, Int.reduceNe, Int.reduceBEq, Int.reduceToNat, ↓reduceIte, f0, f4]) (by omega) ?_
        rw [er2]
        exact ⟨rfl, rfl⟩
      obtain ⟨m', hm', hrds⟩ := RdS.next hm (tk1 k1) hr2 o9 f9 s9 (by rw [List.length_cons]; exact hl) hr
      exact ⟨m', hm', r2, r9, by simp -implicitDefEqProofs only [go_sem, Nat.reduceEqDiff, Nat.reduceLT, Nat.reduceAdd, Nat.reduceMul, Int.reduceEq, Int.reduceLT, Int.reduceLE, Int.reduceNe, Int.reduceBEq, Int.reduceToNat, ↓reduceIte], by simp -implicitDefEqProofs only [go_sem, Nat.reduceEqDiff, Nat.reduceLT, Nat.reduceAdd, Nat.reduceMul, Int.reduceEq, Int.reduceLT, Int.reduceLE, Int.reduceNe, Int.reduceBEq, Int.reduceToNat, ↓reduceIte], hrds⟩
    have e1 : decide ((h.toNat : Int) = 1) = false := decide_eq_false (by omega)
    by_cases k2 : h.toNat = 2
    · have e2 : decide ((h.toNat : Int) = 2) = true := decide_eq_true (by omega)
      rcases Nat.eq_zero_or_pos t.length with hz | hz
      · have dz : decide ((n : Int) < 2) = true := decide_eq_true (by omega)
        simp -implicitDefEqProofs only [go_sem, Nat.reduceEqDiff, Nat.reduceLT, Nat.reduceAdd, Nat.reduceMul, Int.reduceEq, Int.reduceLT, Int.reduceLE, Int.reduceNe, Int.reduceBEq, Int.reduceToNat, ↓reduceIte, e1, e2, dz, f0]
        exact ⟨stX, none, hr _ (.bad (tk2n k2 hz)), rfl⟩
      · have dz : decide ((n : Int) < 2) = false := decide_eq_false (by omega)
        have dz' : decide ((1 : Int) < (n : Int)) = true := decide_eq_true (by omega)
        obtain ⟨b, hb0⟩ : ∃ b, t[0]? = some b := ⟨_, List.getElem?_eq_getElem hz⟩
        have hbp : (h :: t)[1]? = some b := by rw [List.getElem?_cons_succ]; exact hb0
        obtain ⟨qa, qc, eq, lq⟩ := Rd.at1 hb3 (k := 1) (u8s_get hbp)
        have eqa : pa = qa := by injection eq with e; exact Option.some.inj e
        subst eqa
        have lq1 : ld w0 H3 ⟨pa.block, pa.off + 1, none⟩ = some (.int .u8 (b.toNat : Int)) := lq
        have e2' := tk2 k2 hb0
        by_cases c1 : b.toNat ≤ 1
        · have db : decide ((1 : Int) < (b.toNat : Int)) = false := decide_eq_false (by omega)
          have de : decide ((b.toNat : Int) = 1) = decide (b.toNat = 1) := by
            by_cases q : b.toNat = 1
            · rw [decide_eq_true q, decide_eq_true (by omega)]
            · rw [decide_eq_false q, decide_eq_false (by omega)]
          simp -implicitDefEqProofs only [go_sem, Nat.reduceEqDiff, Nat.reduceLT, Nat.reduceAdd, Nat.reduceMul, Int.reduceEq, Int.reduceLT, Int.reduceLE, Int.reduceNe, Int.reduceBEq, Int.reduceToNat, ↓reduceIte, e1, e2, dz, dz', lq, lq1, db, de, f0]
          refine truth_ok.mono ?_
          rintro r H4 ⟨rfl, rfl⟩
          simp -implicitDefEqProofs only [go_sem, Nat.reduceEqDiff, Nat.reduceLT, Nat.reduceAdd, Nat.reduceMul, Int.reduceEq, Int.reduceLT, Int.reduceLE, Int.reduceNe, Int.reduceBEq, Int.reduceToNat, ↓reduceIte, f0]
          refine store_all (cs := (vc ⟨3, 0, [], decide (b.toNat = 1)⟩).toArray) h3 rfl rfl s36 ?_
          intro H5 h5' g5'
          have t5 : Sub H1 H5 := (fun i o hi => (g5' i fun e => by rw [e, hnx] at hi; cases hi).trans (t3 i o hi))
          have stX := hs.trans t5
          have hovX := hov.sub t5
          have lX := ldc w0 (l := vc ⟨3, 0, [], decide (b.toNat = 1)⟩) h5' 4
          simp -implicitDefEqProofs only [go_sem, Nat.reduceEqDiff, Nat.reduceLT, Nat.reduceAdd, Nat.reduceMul, Int.reduceEq, Int.reduceLT, Int.reduceLE, Int.reduceNe, Int.reduceBEq, Int.reduceToNat, ↓reduceIte, f0]
          refine vdraw_t [⟨0, .p, [], []⟩, ⟨1, .n, [], []⟩, ⟨4, .p, [], []⟩, ⟨5, .p, [], []⟩, ⟨6, .n, [], []⟩, ⟨2, .c, [6], []⟩, ⟨3, .c, [6], []⟩, ⟨7, .p, [], []⟩, ⟨8, .p, [], []⟩] [0, 0, 2, 7, 0, 0, 48, 15, 255] mixed (by kernel_rfl) ?_
          simp -implicitDefEqProofs only [go_sem, Nat.reduceEqDiff, Nat.reduceLT, Nat.reduceAdd, Nat.reduceMul, Int.reduceEq, Int.reduceLT, Int.reduceLE, Int.reduceNe, Int.reduceBEq, Int.reduceToNat, ↓reduceIte, f0, f4, lX]
          obtain ⟨a2, n2, c2, r2, e3, en2, hk2, hnc2, er2, hr2⟩ := Bt.lo hb (k := 2) (by rw [List.length_cons]; omega)
          have ea2 : a2 = some pa := by injection e3 with e; exact e.symm
          have ec2 : rc = c2 := by injection e3
          have en2' : n = n2 := by injection e3
          subst ea2 ec2 en2'
          refine ⟨r2, ?_, ?_⟩
          · refine slice_lo (dst := none) (ty := 0) (pos := "") (after := #[]) (g := none) (a := some pa) (n := n) (c := rc) (l := 2) Tryd.underlying22 s5 (by simp -implicitDefEqProofs only [go_sem, Nat.reduceEqDiff, Nat.reduceLT, Nat.reduceAdd, Nat.reduceMul, Int.reduceEq, Int.reduceLT, Int.reduceLE, Int.reduceNe, Int.reduceBEq, Int.reduceToNat, ↓reduceIte, f0, f4]) (by first | rfl | simp -implicitDefEqProofs only [go_sem, Nat.reduceEqDiff, Nat.reduceLT, Nat.reduceAdd, Nat.reduceMul, Int.reduceEq, Int.reduceLT, Int.reduceLE, Int.reduceNe, Int.reduceBEq, Int.reduceToNat, ↓reduceIte, f0, f4]) (by omega) ?_
            rw [er2]
            exact ⟨rfl, rfl⟩
          simp -implicitDefEqProofs only [go_sem, Nat.reduceEqDiff, Nat.reduceLT, Nat.reduceAdd, Nat.reduceMul, Int.reduceEq, Int.reduceLT, Int.reduceLE, Int.reduceNe, Int.reduceBEq, Int.reduceToNat, ↓reduceIte, f0, f4]
          refine newK_of ?_
          intro bw H8 hbw hnw hw8 sw gw
          have hone : H8 bw = some (.cells ([⟨3, 0, [], decide (b.toNat = 1)⟩].flatMap vc).toArray 36 (0, 0)) := by rw [hw8]; simp
          have hvs : Vs w0 H8 (.slice (some ⟨bw, 0, none⟩) 1 1) [⟨3, 0, [], decide (b.toNat = 1)⟩] := by
            refine .inr ⟨_, _, rfl, Nat.le_refl _, ?_⟩
            rw [ldCells_row hone 0 _ 0 (by simp [vc])]
            rfl
          simp -implicitDefEqProofs only [go_sem, Nat.reduceEqDiff, Nat.reduceLT, Nat.reduceAdd, Nat.reduceMul, Int.reduceEq, Int.reduceLT, Int.reduceLE, Int.reduceNe, Int.reduceBEq, Int.reduceToNat, ↓reduceIte, f0, f4]
          refine ⟨?_, ?_⟩
          · refine slice_lo (dst := none) (ty := 0) (pos := "") (after := #[]) (g := none) (a := some pa) (n := n) (c := rc) (l := 2) Tryd.underlying22 s5 (by simp -implicitDefEqProofs only [go_sem, Nat.reduceEqDiff, Nat.reduceLT, Nat.reduceAdd, Nat.reduceMul, Int.reduceEq, Int.reduceLT, Int.reduceLE, Int.reduceNe, Int.reduceBEq, Int.reduceToNat, ↓reduceIte, f0, f4]) (by first | rfl | simp -implicitDefEqProofs only [go_sem, Nat.reduceEqDiff, Nat.reduceLT, Nat.reduceAdd, Nat.reduceMul, Int.reduceEq, Int.reduceLT, Int.reduceLE, Int.reduceNe, Int.reduceBEq, Int.reduceToNat, ↓reduceIte, f0, f4]) (by omega) ?_
            rw [er2]
            exact ⟨rfl, rfl⟩
          refine app_v (Hb := H) (by simp -implicitDefEqProofs only [go_sem, Nat.reduceEqDiff, Nat.reduceLT, Nat.reduceAdd, Nat.reduceMul, Int.reduceEq, Int.reduceLT, Int.reduceLE, Int.reduceNe, Int.reduceBEq, Int.reduceToNat, ↓reduceIte, f0, f4]) (hovX.sub sw) (by simp -implicitDefEqProofs only [go_sem, Nat.reduceEqDiff, Nat.reduceLT, Nat.reduceAdd, Nat.reduceMul, Int.reduceEq, Int.reduceLT, Int.reduceLE, Int.reduceNe, Int.reduceBEq, Int.reduceToNat, ↓reduceIte, f0, f4]) hvs (by simp; omega) hf (stX.trans sw) ?_
          intro r9 H9 o9 f9 s9 a9
          simp -implicitDefEqProofs only [go_sem, Nat.reduceEqDiff, Nat.reduceLT, Nat.reduceAdd, Nat.reduceMul, Int.reduceEq, Int.reduceLT, Int.reduceLE, Int.reduceNe, Int.reduceBEq, Int.reduceToNat, ↓reduceIte, f0, f4]
          refine ⟨?_, ?_⟩
          · refine slice_lo (dst := none) (ty := 0) (pos := "") (after := #[]) (g := none) (a := some pa) (n := n) (c := rc) (l := 2) Tryd.underlying22 s5 (by simp -implicitDefEqProofs only [go_sem, Nat.reduceEqDiff, Nat.reduceLT, Nat.reduceAdd, Nat.reduceMul, Int.reduceEq, Int.reduceLT, Int.reduceLE, Int.reduceNe, Int.reduceBEq, Int.reduceToNat, ↓reduceIte, f0, f4]) (by first | rfl | simp -implicitDefEqProofs only [go_sem, Nat.reduceEqDiff, Nat.reduceLT, Nat.reduceAdd, Nat.reduceMul, Int.reduceEq, Int.reduceLT, Int.reduceLE, Int.reduceNe, Int.reduceBEq, Int.reduceToNat, ↓reduceIte, f0, f4]) (by omega) ?_
            rw [er2]
            exact ⟨rfl, rfl⟩
          obtain ⟨m', hm', hrds⟩ := RdS.next hm (by rw [e2', if_pos c1]; rfl) hr2 o9 f9 s9 (by rw [List.length_cons]; exact hl) hr
          exact ⟨m', hm', r2, r9, by simp -implicitDefEqProofs only [go_sem, Nat.reduceEqDiff, Nat.reduceLT, Nat.reduceAdd, Nat.reduceMul, Int.reduceEq, Int.reduceLT, Int.reduceLE, Int.reduceNe, Int.reduceBEq, Int.reduceToNat, ↓reduceIte], by simp -implicitDefEqProofs only [go_sem, Nat.reduceEqDiff, Nat.reduceLT, Nat.reduceAdd, Nat.reduceMul, Int.reduceEq, Int.reduceLT, Int.reduceLE, Int.reduceNe, Int.reduceBEq, Int.reduceToNat, ↓reduceIte], hrds⟩
        · have db : decide ((1 : Int) < (b.toNat : Int)) = true := decide_eq_true (by omega)
          simp -implicitDefEqProofs only [go_sem, Nat.reduceEqDiff, Nat.reduceLT, Nat.reduceAdd, Nat.reduceMul, Int.reduceEq, Int.reduceLT, Int.reduceLE, Int.reduceNe, Int.reduceBEq, Int.reduceToNat, ↓reduceIte, e1, e2, dz, dz', lq, lq1, db, f0]
          exact ⟨stX, none, hr _ (.bad (by rw [e2', if_neg c1])), rfl⟩
    have e2 : decide ((h.toNat : Int) = 2) = false := decide_eq_false (by omega)
    by_cases k3 : h.toNat = 3
    · have e3' : decide ((h.toNat : Int) = 3) = true := decide_eq_true (by omega)
      have et := tk3 (t := t) k3
      by_cases c8 : t.length < 8
      · have d8 : decide ((n : Int) < 9) = true := decide_eq_true (by omega)
        simp -implicitDefEqProofs only [go_sem, Nat.reduceEqDiff, Nat.reduceLT, Nat.reduceAdd, Nat.reduceMul, Int.reduceEq, Int.reduceLT, Int.reduceLE, Int.reduceNe, Int.reduceBEq, Int.reduceToNat, ↓reduceIte, e1, e2, e3', d8, f0]
        exact ⟨stX, none, hr _ (.bad (by rw [et, if_pos c8])), rfl⟩
      · have d8 : decide ((n : Int) < 9) = false := decide_eq_false (by omega)
        simp -implicitDefEqProofs only [go_sem, Nat.reduceEqDiff, Nat.reduceLT, Nat.reduceAdd, Nat.reduceMul, Int.reduceEq, Int.reduceLT, Int.reduceLE, Int.reduceNe, Int.reduceBEq, Int.reduceToNat, ↓reduceIte, e1, e2, e3', d8, f0]
        obtain ⟨sl, hsl⟩ : ∃ sl, sl = Value.slice (if rc = 1 then some pa else (some pa).map (·.add (1 * 1))) (9 - 1) (rc - 1) := ⟨_, rfl⟩
        have hsb : Bt w0 H3 sl (t.take 8) := by
          have h1 := (hb3.front (k := 9) (by rw [List.length_cons]; omega)).back (k := 1) (by rw [List.length_take, List.length_cons]; omega)
          rw [hsl]
          exact h1
        have hfl : (t.take 8).length = 8 := by rw [List.length_take]; omega
        refine slice_both (dst := none) (ty := 0) (pos := "") (after := #[]) (g := none) (a := some pa) (n := n) (c := rc) (l := 1) (h := 9) Tryd.underlying22 s5 (by simp -implicitDefEqProofs only [go_sem, Nat.reduceEqDiff, Nat.reduceLT, Nat.reduceAdd, Nat.reduceMul, Int.reduceEq, Int.reduceLT, Int.reduceLE, Int.reduceNe, Int.reduceBEq, Int.reduceToNat, ↓reduceIte, f0]) rfl rfl (by omega) (by omega) ?_
        rw [← hsl]
        obtain ⟨sa, sc, es, _⟩ := Rd.slice hsb
        rw [hfl] at es
        subst es
        simp -implicitDefEqProofs only [go_sem, Nat.reduceEqDiff, Nat.reduceLT, Nat.reduceAdd, Nat.reduceMul, Int.reduceEq, Int.reduceLT, Int.reduceLE, Int.reduceNe, Int.reduceBEq, Int.reduceToNat, ↓reduceIte, f0, f4]
        refine AC.loop (RrI H3 (.slice (some pa) n rc) s bx (.slice sa 8 sc) (t.take 8)) (n := 8) ⟨0, by omega, by simp -implicitDefEqProofs only [go_sem, Nat.reduceEqDiff, Nat.reduceLT, Nat.reduceAdd, Nat.reduceMul, Int.reduceEq, Int.reduceLT, Int.reduceLE, Int.reduceNe, Int.reduceBEq, Int.reduceToNat, ↓reduceIte, f0], by simp -implicitDefEqProofs only [go_sem, Nat.reduceEqDiff, Nat.reduceLT, Nat.reduceAdd, Nat.reduceMul, Int.reduceEq, Int.reduceLT, Int.reduceLE, Int.reduceNe, Int.reduceBEq, Int.reduceToNat, ↓reduceIte, f4], by simp -implicitDefEqProofs only [go_sem, Nat.reduceEqDiff, Nat.reduceLT, Nat.reduceAdd, Nat.reduceMul, Int.reduceEq, Int.reduceLT, Int.reduceLE, Int.reduceNe, Int.reduceBEq, Int.reduceToNat, ↓reduceIte], by simp -implicitDefEqProofs only [go_sem, Nat.reduceEqDiff, Nat.reduceLT, Nat.reduceAdd, Nat.reduceMul, Int.reduceEq, Int.reduceLT, Int.reduceLE, Int.reduceNe, Int.reduceBEq, Int.reduceToNat, ↓reduceIte] <;> rfl, by simp -implicitDefEqProofs only [go_sem, Nat.reduceEqDiff, Nat.reduceLT, Nat.reduceAdd, Nat.reduceMul, Int.reduceEq, Int.reduceLT, Int.reduceLE, Int.reduceNe, Int.reduceBEq, Int.reduceToNat, ↓reduceIte], by simp -implicitDefEqProofs only [go_sem, Nat.reduceEqDiff, Nat.reduceLT, Nat.reduceAdd, Nat.reduceMul, Int.reduceEq, Int.reduceLT, Int.reduceLE, Int.reduceNe, Int.reduceBEq, Int.reduceToNat, ↓reduceIte] <;> rfl, by simp -implicitDefEqProofs only [go_sem, Nat.reduceEqDiff, Nat.reduceLT, Nat.reduceAdd, Nat.reduceMul, Int.reduceEq, Int.reduceLT, Int.reduceLE, Int.reduceNe, Int.reduceBEq, Int.reduceToNat, ↓reduceIte] <;> rfl, rfl⟩ ?_
        clear f0 f4
        rintro m2 F HL ⟨k, hk, f0, f4, f5, f7, f41, f42, f43, rfl⟩
        have hv8 := val8_lt ((t.take 8).take k)
        by_cases ck : k < 8
        · have g1 : decide ((k : Int) < 8) = true := decide_eq_true (by omega)
          have g1' : decide ((k : Int) < ((8 : Nat) : Int)) = true := decide_eq_true (by omega)
          have g0 : decide ((0 : Int) ≤ (k : Int)) = true := decide_eq_true (by omega)
          have gw : IntKind.i64.wrap ((k : Int) + 1) = (k + 1 : Nat) := by rw [i64_in] <;> omega
          obtain ⟨b, hb'⟩ : ∃ b, (t.take 8)[k]? = some b := ⟨_, List.getElem?_eq_getElem (by omega)⟩
          obtain ⟨qa, qc, eq, lq⟩ := Rd.at1 hsb (k := k) (u8s_get hb')
          have eqa : sa = some qa := by injection eq
          rw [eqa] at f41
          have hb8 := UInt8.toNat_lt b
          have hn7 : val8 ((t.take 8).take k) < 72057594037927936 := by
            have h1 : ((t.take 8).take k).length = k := by rw [List.length_take]; omega
            rw [h1] at hv8
            have h2 : 256 ^ k ≤ 256 ^ 7 := Nat.pow_le_pow_right (by decide) (by omega)
            have h3 : 256 ^ 7 = 72057594037927936 := by decide
            omega
          have hsn : val8 ((t.take 8).take (k + 1)) = val8 ((t.take 8).take k) * 256 + b.toNat := by rw [List.take_add_one, hb']; exact val8_snoc _ _
          have wc : IntKind.u64.wrap (b.toNat : Int) = (b.toNat : Int) := u64_in (by omega) (by omega)
          have wm : IntKind.u64.wrap ((val8 ((t.take 8).take k) : Int) * 256) = ((val8 ((t.take 8).take k) * 256 : Nat) : Int) := by rw [u64_in] <;> omega
          have wa : IntKind.u64.wrap (((val8 ((t.take 8).take k) * 256 : Nat) : Int) + (b.toNat : Int)) = ((val8 ((t.take 8).take k) * 256 + b.toNat : Nat) : Int) := by rw [u64_in] <;> omega
          simp -implicitDefEqProofs only [go_sem, Nat.reduceEqDiff, Nat.reduceLT, Nat.reduceAdd, Nat.reduceMul, Int.reduceEq, Int.reduceLT, Int.reduceLE, Int.reduceNe, Int.reduceBEq, Int.reduceToNat, ↓reduceIte, f0, f4, f5, f7, f41, f42, f43, g0, g1, g1', lq, wc, wm, wa, gw]
          exact ⟨m2 - 1, by omega, k + 1, by omega, by simp -implicitDefEqProofs only [go_sem, Nat.reduceEqDiff, Nat.reduceLT, Nat.reduceAdd, Nat.reduceMul, Int.reduceEq, Int.reduceLT, Int.reduceLE, Int.reduceNe, Int.reduceBEq, Int.reduceToNat, ↓reduceIte, f0], by simp -implicitDefEqProofs only [go_sem, Nat.reduceEqDiff, Nat.reduceLT, Nat.reduceAdd, Nat.reduceMul, Int.reduceEq, Int.reduceLT, Int.reduceLE, Int.reduceNe, Int.reduceBEq, Int.reduceToNat, ↓reduceIte, f4], by simp -implicitDefEqProofs only [go_sem, Nat.reduceEqDiff, Nat.reduceLT, Nat.reduceAdd, Nat.reduceMul, Int.reduceEq, Int.reduceLT, Int.reduceLE, Int.reduceNe, Int.reduceBEq, Int.reduceToNat, ↓reduceIte, f5], by simp -implicitDefEqProofs only [go_sem, Nat.reduceEqDiff, Nat.reduceLT, Nat.reduceAdd, Nat.reduceMul, Int.reduceEq, Int.reduceLT, Int.reduceLE, Int.reduceNe, Int.reduceBEq, Int.reduceToNat, ↓reduceIte]; rw [hsn], by simp -implicitDefEqProofs only [go_sem, Nat.reduceEqDiff, Nat.reduceLT, Nat.reduceAdd, Nat.reduceMul, Int.reduceEq, Int.reduceLT, Int.reduceLE, Int.reduceNe, Int.reduceBEq, Int.reduceToNat, ↓reduceIte, f41]; rw [eqa], by simp -implicitDefEqProofs only [go_sem, Nat.reduceEqDiff, Nat.reduceLT, Nat.reduceAdd, Nat.reduceMul, Int.reduceEq, Int.reduceLT, Int.reduceLE, Int.reduceNe, Int.reduceBEq, Int.reduceToNat, ↓reduceIte, f42], by simp -implicitDefEqProofs only [go_sem, Nat.reduceEqDiff, Nat.reduceLT, Nat.reduceAdd, Nat.reduceMul, Int.reduceEq, Int.reduceLT, Int.reduceLE, Int.reduceNe, Int.reduceBEq, Int.reduceToNat, ↓reduceIte], rfl⟩
        · have hk8 : k = 8 := by omega
          subst hk8
          have g1 : decide (((8 : Nat) : Int) < 8) = false := rfl
          have g1' : decide ((8 : Int) < 8) = false := rfl
          have htt : (t.take 8).take 8 = t.take 8 := List.take_of_length_le (by omega)
          rw [htt] at f7 hv8
          have hlt : val8 (t.take 8) < 18446744073709551616 := by
            rw [hfl] at hv8
            have h3 : 256 ^ 8 = 18446744073709551616 := by decide
            omega
          have im := i64_sub hlt
          simp -implicitDefEqProofs only [go_sem, Nat.reduceEqDiff, Nat.reduceLT, Nat.reduceAdd, Nat.reduceMul, Int.reduceEq, Int.reduceLT, Int.reduceLE, Int.reduceNe, Int.reduceBEq, Int.reduceToNat, ↓reduceIte, f0, f4, f5, f7, f41, f42, f43, g1, g1', im]
          refine store_all (cs := (vc ⟨1, (val8 (t.take 8) : Int) - 9223372036854775808, [], false⟩).toArray) h3 rfl rfl s36 ?_
          intro H5 h5' g5'
          have t5 : Sub H1 H5 := (fun i o hi => (g5' i fun e => by rw [e, hnx] at hi; cases hi).trans (t3 i o hi))
          have stX := hs.trans t5
          have hovX := hov.sub t5
          have lX := ldc w0 (l := vc ⟨1, (val8 (t.take 8) : Int) - 9223372036854775808, [], false⟩) h5' 4
          simp -implicitDefEqProofs only [go_sem, Nat.reduceEqDiff, Nat.reduceLT, Nat.reduceAdd, Nat.reduceMul, Int.reduceEq, Int.reduceLT, Int.reduceLE, Int.reduceNe, Int.reduceBEq, Int.reduceToNat, ↓reduceIte, f0, f4, f5]
          refine vdraw_t [⟨0, .p, [], []⟩, ⟨1, .n, [], []⟩, ⟨4, .p, [], []⟩, ⟨5, .p, [], []⟩, ⟨6, .n, [], []⟩, ⟨2, .c, [6], []⟩, ⟨3, .c, [6], []⟩, ⟨7, .p, [], []⟩, ⟨8, .p, [], []⟩] [0, 0, 2, 7, 0, 0, 48, 15, 255] mixed (by kernel_rfl) ?_
          simp -implicitDefEqProofs only [go_sem, Nat.reduceEqDiff, Nat.reduceLT, Nat.reduceAdd, Nat.reduceMul, Int.reduceEq, Int.reduceLT, Int.reduceLE, Int.reduceNe, Int.reduceBEq, Int.reduceToNat, ↓reduceIte, f0, f4, f5, lX]
          obtain ⟨a2, n2, c2, r2, e3, en2, hk2, hnc2, er2, hr2⟩ := Bt.lo hb (k := 9) (by rw [List.length_cons]; omega)
          have ea2 : a2 = some pa := by injection e3 with e; exact e.symm
          have ec2 : rc = c2 := by injection e3
          have en2' : n = n2 := by injection e3
          subst ea2 ec2 en2'
          refine ⟨r2, ?_, ?_⟩
          · refine slice_lo (dst := none) (ty := 0) (pos := "") (after := #[]) (g := none) (a := some pa) (n := n) (c := rc) (l := 9) Tryd.underlying22 s5 (by simp -implicitDefEqProofs only [go_sem, Nat.reduceEqDiff, Nat.reduceLT, Nat.reduceAdd, Nat.reduceMul, Int.reduceEq, Int.reduceLT, Int.reduceLE, Int.reduceNe, Int.reduceBEq, Int.reduceToNat, ↓reduceIte, f0, f4, f5]) (by first | rfl | simp -implicitDefEqProofs only [go_sem, Nat.reduceEqDiff, Nat.reduceLT, Nat.reduceAdd, Nat.reduceMul, Int.reduceEq, Int.reduceLT, Int.reduceLE, Int.reduceNe, Int.reduceBEq, Int.reduceToNat, ↓reduceIte, f0, f4, f5]) (by omega) ?_
            rw [er2]
            exact ⟨rfl, rfl⟩
          simp -implicitDefEqProofs only [go_sem, Nat.reduceEqDiff, Nat.reduceLT, Nat.reduceAdd, Nat.reduceMul, Int.reduceEq, Int.reduceLT, Int.reduceLE, Int.reduceNe, Int.reduceBEq, Int.reduceToNat, ↓reduceIte, f0, f4, f5]
          refine newK_of ?_
          intro bw H8 hbw hnw hw8 sw gw
          have hone : H8 bw = some (.cells ([⟨1, (val8 (t.take 8) : Int) - 9223372036854775808, [], false⟩].flatMap vc).toArray 36 (0, 0)) := by rw [hw8]; simp
          have hvs : Vs w0 H8 (.slice (some ⟨bw, 0, none⟩) 1 1) [⟨1, (val8 (t.take 8) : Int) - 9223372036854775808, [], false⟩] := by
            refine .inr ⟨_, _, rfl, Nat.le_refl _, ?_⟩
            rw [ldCells_row hone 0 _ 0 (by simp [vc])]
            rfl
          simp -implicitDefEqProofs only [go_sem, Nat.reduceEqDiff, Nat.reduceLT, Nat.reduceAdd, Nat.reduceMul, Int.reduceEq, Int.reduceLT, Int.reduceLE, Int.reduceNe, Int.reduceBEq, Int.reduceToNat, ↓reduceIte, f0, f4, f5]
          refine ⟨?_, ?_⟩
          · refine slice_lo (dst := none) (ty := 0) (pos := "") (after := #[]) (g := none) (a := some pa) (n := n) (c := rc) (l := 9) Tryd.underlying22 s5 (by simp -implicitDefEqProofs only [go_sem, Nat.reduceEqDiff, Nat.reduceLT, Nat.reduceAdd, Nat.reduceMul, Int.reduceEq, Int.reduceLT, Int.reduceLE, Int.reduceNe, Int.reduceBEq, Int.reduceToNat, ↓reduceIte, f0, f4, f5]) (by first | rfl | simp -implicitDefEqProofs only [go_sem, Nat.reduceEqDiff, Nat.reduceLT, Nat.reduceAdd, Nat.reduceMul, Int.reduceEq, Int.reduceLT, Int.reduceLE, Int.reduceNe, Int.reduceBEq, Int.reduceToNat, ↓reduceIte, f0, f4, f5]) (by omega) ?_
            rw [er2]
            exact ⟨rfl, rfl⟩
          refine app_v (Hb := H) (by simp -implicitDefEqProofs only [go_sem, Nat.reduceEqDiff, Nat.reduceLT, Nat.reduceAdd, Nat.reduceMul, Int.reduceEq, Int.reduceLT, Int.reduceLE, Int.reduceNe, Int.reduceBEq, Int.reduceToNat, ↓reduceIte, f0, f4, f5]) (hovX.sub sw) (by simp -implicitDefEqProofs only [go_sem, Nat.reduceEqDiff, Nat.reduceLT, Nat.reduceAdd, Nat.reduceMul, Int.reduceEq, Int.reduceLT, Int.reduceLE, Int.reduceNe, Int.reduceBEq, Int.reduceToNat, ↓reduceIte, f0, f4, f5]) hvs (by simp; omega) hf (stX.trans sw) ?_
          intro r9 H9 o9 f9 s9 a9
          simp -implicitDefEqProofs only [go_sem, Nat.reduceEqDiff, Nat.reduceLT, Nat.reduceAdd, Nat.reduceMul, Int.reduceEq, Int.reduceLT, Int.reduceLE, Int.reduceNe, Int.reduceBEq, Int.reduceToNat, ↓reduceIte, f0, f4, f5]
          refine ⟨?_, ?_⟩
          · refine slice_lo (dst := none) (ty := 0) (pos := "") (after := #[]) (g := none) (a := some pa) (n := n) (c := rc) (l := 9) Tryd.underlying22 s5 (by simp -implicitDefEqProofs only [go_sem, Nat.reduceEqDiff, Nat.reduceLT, Nat.reduceAdd, Nat.reduceMul, Int.reduceEq, Int.reduceLT, Int.reduceLE, Int.reduceNe, Int.reduceBEq, Int.reduceToNat, ↓reduceIte, f0, f4, f5]) (by first | rfl | simp -implicitDefEqProofs only [go_sem, Nat.reduceEqDiff, Nat.reduceLT, Nat.reduceAdd, Nat.reduceMul, Int.reduceEq, Int.reduceLT, Int.reduceLE, Int.reduceNe, Int.reduceBEq, Int.reduceToNat, ↓reduceIte, f0, f4, f5]) (by omega) ?_
            rw [er2]
            exact ⟨rfl, rfl⟩
          obtain ⟨m', hm', hrds⟩ := RdS.next hm (by rw [et, if_neg c8]; rfl) hr2 o9 f9 s9 (by rw [List.length_cons]; exact hl) hr
          exact ⟨m', hm', r2, r9, by simp -implicitDefEqProofs only [go_sem, Nat.reduceEqDiff, Nat.reduceLT, Nat.reduceAdd, Nat.reduceMul, Int.reduceEq, Int.reduceLT, Int.reduceLE, Int.reduceNe, Int.reduceBEq, Int.reduceToNat, ↓reduceIte], by simp -implicitDefEqProofs only [go_sem, Nat.reduceEqDiff, Nat.reduceLT, Nat.reduceAdd, Nat.reduceMul, Int.reduceEq, Int.reduceLT, Int.reduceLE, Int.reduceNe, Int.reduceBEq, Int.reduceToNat, ↓reduceIte], hrds⟩
    have e3' : decide ((h.toNat : Int) = 3) = false := decide_eq_false (by omega)
    by_cases k4 : h.toNat = 4
    · have e4 : decide ((h.toNat : Int) = 4) = true := decide_eq_true (by omega)
      have et := tk4 (t := t) k4
      obtain ⟨ue1, ue2, ue3⟩ := upz_end t
      simp -implicitDefEqProofs only [go_sem, Nat.reduceEqDiff, Nat.reduceLT, Nat.reduceAdd, Nat.reduceMul, Int.reduceEq, Int.reduceLT, Int.reduceLE, Int.reduceNe, Int.reduceBEq, Int.reduceToNat, ↓reduceIte, e1, e2, e3', e4, f0]
      refine AC.loop (RrJ H3 (.slice (some pa) n rc) s bx (upz t).length) (n := (upz t).length) ⟨0, by omega, by simp -implicitDefEqProofs only [go_sem, Nat.reduceEqDiff, Nat.reduceLT, Nat.reduceAdd, Nat.reduceMul, Int.reduceEq, Int.reduceLT, Int.reduceLE, Int.reduceNe, Int.reduceBEq, Int.reduceToNat, ↓reduceIte, f0], by simp -implicitDefEqProofs only [go_sem, Nat.reduceEqDiff, Nat.reduceLT, Nat.reduceAdd, Nat.reduceMul, Int.reduceEq, Int.reduceLT, Int.reduceLE, Int.reduceNe, Int.reduceBEq, Int.reduceToNat, ↓reduceIte, f4], by simp -implicitDefEqProofs only [go_sem, Nat.reduceEqDiff, Nat.reduceLT, Nat.reduceAdd, Nat.reduceMul, Int.reduceEq, Int.reduceLT, Int.reduceLE, Int.reduceNe, Int.reduceBEq, Int.reduceToNat, ↓reduceIte], by simp -implicitDefEqProofs only [go_sem, Nat.reduceEqDiff, Nat.reduceLT, Nat.reduceAdd, Nat.reduceMul, Int.reduceEq, Int.reduceLT, Int.reduceLE, Int.reduceNe, Int.reduceBEq, Int.reduceToNat, ↓reduceIte] <;> rfl, rfl⟩ ?_
      clear f0 f4
      rintro m2 F HL ⟨k, hk, f0, f4, f5, f6, rfl⟩
      obtain ⟨e, he⟩ : ∃ e, e = (upz t).length := ⟨_, rfl⟩
      by_cases ck : k < e
      · obtain ⟨b, hb', hnz⟩ := upz_at t k (by omega)
        have hbp : (h :: t)[k + 1]? = some b := by rw [List.getElem?_cons_succ]; exact hb'
        obtain ⟨qa, qc, eq, lq⟩ := Rd.at1 hb3 (k := k + 1) (u8s_get hbp)
        have eqa : pa = qa := by injection eq with e; exact Option.some.inj e
        subst eqa
        have lq1 : ld w0 HL ⟨pa.block, pa.off + (k + 1), none⟩ = some (.int .u8 (b.toNat : Int)) := lq
        have g1 : decide (((k + 1 : Nat) : Int) < (n : Int)) = true := decide_eq_true (by omega)
        have g0 : decide ((0 : Int) ≤ ((k + 1 : Nat) : Int)) = true := decide_eq_true (by omega)
        have gb : decide ((b.toNat : Int) = 0) = false := decide_eq_false (by omega)
        have gw : IntKind.i64.wrap (((k + 1 : Nat) : Int) + 1) = ((k + 1 + 1 : Nat) : Int) := by rw [i64_in] <;> omega
        simp -implicitDefEqProofs only [go_sem, Nat.reduceEqDiff, Nat.reduceLT, Nat.reduceAdd, Nat.reduceMul, Int.reduceEq, Int.reduceLT, Int.reduceLE, Int.reduceNe, Int.reduceBEq, Int.reduceToNat, ↓reduceIte, f0, f4, f5, f6, g0, g1, lq, lq1, gb, gw]
        exact ⟨m2 - 1, by omega, k + 1, by omega, by simp -implicitDefEqProofs only [go_sem, Nat.reduceEqDiff, Nat.reduceLT, Nat.reduceAdd, Nat.reduceMul, Int.reduceEq, Int.reduceLT, Int.reduceLE, Int.reduceNe, Int.reduceBEq, Int.reduceToNat, ↓reduceIte, f0], by simp -implicitDefEqProofs only [go_sem, Nat.reduceEqDiff, Nat.reduceLT, Nat.reduceAdd, Nat.reduceMul, Int.reduceEq, Int.reduceLT, Int.reduceLE, Int.reduceNe, Int.reduceBEq, Int.reduceToNat, ↓reduceIte, f4], by simp -implicitDefEqProofs only [go_sem, Nat.reduceEqDiff, Nat.reduceLT, Nat.reduceAdd, Nat.reduceMul, Int.reduceEq, Int.reduceLT, Int.reduceLE, Int.reduceNe, Int.reduceBEq, Int.reduceToNat, ↓reduceIte, f5], by simp -implicitDefEqProofs only [go_sem, Nat.reduceEqDiff, Nat.reduceLT, Nat.reduceAdd, Nat.reduceMul, Int.reduceEq, Int.reduceLT, Int.reduceLE, Int.reduceNe, Int.reduceBEq, Int.reduceToNat, ↓reduceIte], rfl⟩
      have hke : k = e := by omega
      subst hke
      rw [← he] at et ue1 ue2 ue3
      by_cases cu : k = t.length
      · have g1 : decide (((k + 1 : Nat) : Int) < (n : Int)) = false := decide_eq_false (by omega)
        have g2 : decide (((k + 1 : Nat) : Int) = (n : Int)) = true := decide_eq_true (by omega)
        simp -implicitDefEqProofs only [go_sem, Nat.reduceEqDiff, Nat.reduceLT, Nat.reduceAdd, Nat.reduceMul, Int.reduceEq, Int.reduceLT, Int.reduceLE, Int.reduceNe, Int.reduceBEq, Int.reduceToNat, ↓reduceIte, f0, f4, f5, f6, g1, g2]
        exact ⟨stX, none, hr _ (.bad (by rw [et, if_pos cu])), rfl⟩
      · obtain ⟨b, hb', hz⟩ := ue3 (by omega)
        have hbp : (h :: t)[k + 1]? = some b := by rw [List.getElem?_cons_succ]; exact hb'
        obtain ⟨qa, qc, eq, lq⟩ := Rd.at1 hb3 (k := k + 1) (u8s_get hbp)
        have eqa : pa = qa := by injection eq with e; exact Option.some.inj e
        subst eqa
        have lq1 : ld w0 HL ⟨pa.block, pa.off + (k + 1), none⟩ = some (.int .u8 (b.toNat : Int)) := lq
        have g1 : decide (((k + 1 : Nat) : Int) < (n : Int)) = true := decide_eq_true (by omega)
        have g0 : decide ((0 : Int) ≤ ((k + 1 : Nat) : Int)) = true := decide_eq_true (by omega)
        have gb : decide ((b.toNat : Int) = 0) = true := decide_eq_true (by omega)
        have g2 : decide (((k + 1 : Nat) : Int) = (n : Int)) = false := decide_eq_false (by omega)
        have gw : IntKind.i64.wrap (((k + 1 : Nat) : Int) + 1) = ((k + 1 + 1 : Nat) : Int) := by rw [i64_in] <;> omega
        rw [if_neg cu] at et
        simp -implicitDefEqProofs only [go_sem, Nat.reduceEqDiff, Nat.reduceLT, Nat.reduceAdd, Nat.reduceMul, Int.reduceEq, Int.reduceLT, Int.reduceLE, Int.reduceNe, Int.reduceBEq, Int.reduceToNat, ↓reduceIte, f0, f4, f5, f6, g0, g1, lq, lq1, gb, g2]
        obtain ⟨sl, hsl⟩ : ∃ sl, sl = Value.slice (if rc = 1 then some pa else (some pa).map (·.add (1 * 1))) (k + 1 - 1) (rc - 1) := ⟨_, rfl⟩
        have hsb : Bt w0 HL sl (upz t) := by
          have h1 := (hb3.front (k := k + 1) (by rw [List.length_cons]; omega)).back (k := 1) (by rw [List.length_take, List.length_cons]; omega)
          rw [List.take_succ_cons, List.drop_succ_cons, List.drop_zero, ue2] at h1
          rw [hsl]
          exact h1
        refine slice_both (dst := none) (ty := 0) (pos := "") (after := #[]) (g := none) (a := some pa) (n := n) (c := rc) (l := 1) (h := k + 1) Tryd.underlying22 s5 (by simp -implicitDefEqProofs only [go_sem, Nat.reduceEqDiff, Nat.reduceLT, Nat.reduceAdd, Nat.reduceMul, Int.reduceEq, Int.reduceLT, Int.reduceLE, Int.reduceNe, Int.reduceBEq, Int.reduceToNat, ↓reduceIte, f0]) rfl (by simp -implicitDefEqProofs only [go_sem, Nat.reduceEqDiff, Nat.reduceLT, Nat.reduceAdd, Nat.reduceMul, Int.reduceEq, Int.reduceLT, Int.reduceLE, Int.reduceNe, Int.reduceBEq, Int.reduceToNat, ↓reduceIte, f6]) (by omega) (by omega) ?_
        rw [← hsl]
        simp -implicitDefEqProofs only [go_sem, Nat.reduceEqDiff, Nat.reduceLT, Nat.reduceAdd, Nat.reduceMul, Int.reduceEq, Int.reduceLT, Int.reduceLE, Int.reduceNe, Int.reduceBEq, Int.reduceToNat, ↓reduceIte, f0, f4]
        refine conv_bytes (dst := none) (ty := 0) (pos := "") (after := #[]) (g := none) Tryd.underlying22 Tryd.underlying5 Tryd.underlying9 (by simp -implicitDefEqProofs only [go_sem, Nat.reduceEqDiff, Nat.reduceLT, Nat.reduceAdd, Nat.reduceMul, Int.reduceEq, Int.reduceLT, Int.reduceLE, Int.reduceNe, Int.reduceBEq, Int.reduceToNat, ↓reduceIte]) hsb ?_
        simp -implicitDefEqProofs only [go_sem, Nat.reduceEqDiff, Nat.reduceLT, Nat.reduceAdd, Nat.reduceMul, Int.reduceEq, Int.reduceLT, Int.reduceLE, Int.reduceNe, Int.reduceBEq, Int.reduceToNat, ↓reduceIte, f5]
        refine store_all (cs := (vc ⟨2, 0, upz t, false⟩).toArray) h3 rfl rfl s36 ?_
        intro H5 h5' g5'
        have t5 : Sub H1 H5 := (fun i o hi => (g5' i fun e => by rw [e, hnx] at hi; cases hi).trans (t3 i o hi))
        have stX := hs.trans t5
        have hovX := hov.sub t5
        have lX := ldc w0 (l := vc ⟨2, 0, upz t, false⟩) h5' 4
        simp -implicitDefEqProofs only [go_sem, Nat.reduceEqDiff, Nat.reduceLT, Nat.reduceAdd, Nat.reduceMul, Int.reduceEq, Int.reduceLT, Int.reduceLE, Int.reduceNe, Int.reduceBEq, Int.reduceToNat, ↓reduceIte, f0, f4, f5, f6, gw, lX]
        refine rright_ok.mono ?_
        rintro r H6 ⟨rfl, rfl⟩
        cases hrb : rightB ⟨2, 0, upz t, false⟩ with
        | false =>
          rw [hrb] at et
          simp -implicitDefEqProofs only [go_sem, Nat.reduceEqDiff, Nat.reduceLT, Nat.reduceAdd, Nat.reduceMul, Int.reduceEq, Int.reduceLT, Int.reduceLE, Int.reduceNe, Int.reduceBEq, Int.reduceToNat, ↓reduceIte, f0, f4, f5, f6]
          exact ⟨stX, none, hr _ (.bad (by rw [et]; rfl)), rfl⟩
        | true =>
          rw [if_pos hrb] at et
          simp -implicitDefEqProofs only [go_sem, Nat.reduceEqDiff, Nat.reduceLT, Nat.reduceAdd, Nat.reduceMul, Int.reduceEq, Int.reduceLT, Int.reduceLE, Int.reduceNe, Int.reduceBEq, Int.reduceToNat, ↓reduceIte, f0, f4, f5, f6]
          refine vdraw_t [⟨0, .p, [], []⟩, ⟨1, .n, [], []⟩, ⟨4, .p, [], []⟩, ⟨5, .p, [], []⟩, ⟨6, .n, [], []⟩, ⟨2, .c, [6], []⟩, ⟨3, .c, [6], []⟩, ⟨7, .p, [], []⟩, ⟨8, .p, [], []⟩] [0, 0, 2, 7, 0, 0, 48, 15, 255] mixed (by kernel_rfl) ?_
          simp -implicitDefEqProofs only [go_sem, Nat.reduceEqDiff, Nat.reduceLT, Nat.reduceAdd, Nat.reduceMul, Int.reduceEq, Int.reduceLT, Int.reduceLE, Int.reduceNe, Int.reduceBEq, Int.reduceToNat, ↓reduceIte, f0, f4, f5, f6, lX]
          obtain ⟨a2, n2, c2, r2, e3, en2, hk2, hnc2, er2, hr2⟩ := Bt.lo hb (k := k + 1 + 1) (by rw [List.length_cons]; omega)
          have ea2 : a2 = some pa := by injection e3 with e; exact e.symm
          have ec2 : rc = c2 := by injection e3
          have en2' : n = n2 := by injection e3
          subst ea2 ec2 en2'
          refine ⟨r2, ?_, ?_⟩
          · refine slice_lo (dst := none) (ty := 0) (pos := "") (after := #[]) (g := none) (a := some pa) (n := n) (c := rc) (l := k + 1 + 1) Tryd.underlying22 s5 (by simp -implicitDefEqProofs only [go_sem, Nat.reduceEqDiff, Nat.reduceLT, Nat.reduceAdd, Nat.reduceMul, Int.reduceEq, Int.reduceLT, Int.reduceLE, Int.reduceNe, Int.reduceBEq, Int.reduceToNat, ↓reduceIte, f0, f4, f5, f6]) (by first | rfl | simp -implicitDefEqProofs only [go_sem, Nat.reduceEqDiff, Nat.reduceLT, Nat.reduceAdd, Nat.reduceMul, Int.reduceEq, Int.reduceLT, Int.reduceLE, Int.reduceNe, Int.reduceBEq, Int.reduceToNat, ↓reduceIte, f0, f4, f5, f6]) (by omega) ?_
            rw [er2]
            exact ⟨rfl, rfl⟩
          simp -implicitDefEqProofs only [go_sem, Nat.reduceEqDiff, Nat.reduceLT, Nat.reduceAdd, Nat.reduceMul, Int.reduceEq, Int.reduceLT, Int.reduceLE, Int.reduceNe, Int.reduceBEq, Int.reduceToNat, ↓reduceIte, f0, f4, f5, f6]
          refine newK_of ?_
          intro bw H8 hbw hnw hw8 sw gw
          have hone : H8 bw = some (.cells ([⟨2, 0, upz t, false⟩].flatMap vc).toArray 36 (0, 0)) := by rw [hw8]; simp
          have hvs : Vs w0 H8 (.slice (some ⟨bw, 0, none⟩) 1 1) [⟨2, 0, upz t, false⟩] := by
            refine .inr ⟨_, _, rfl, Nat.le_refl _, ?_⟩
            rw [ldCells_row hone 0 _ 0 (by simp [vc])]
            rfl
          simp -implicitDefEqProofs only [go_sem, Nat.reduceEqDiff, Nat.reduceLT, Nat.reduceAdd, Nat.reduceMul, Int.reduceEq, Int.reduceLT, Int.reduceLE, Int.reduceNe, Int.reduceBEq, Int.reduceToNat, ↓reduceIte, f0, f4, f5, f6]
          refine ⟨?_, ?_⟩
          · refine slice_lo (dst := none) (ty := 0) (pos := "") (after := #[]) (g := none) (a := some pa) (n := n) (c := rc) (l := k + 1 + 1) Tryd.underlying22 s5 (by simp -implicitDefEqProofs only [go_sem, Nat.reduceEqDiff, Nat.reduceLT, Nat.reduceAdd, Nat.reduceMul, Int.reduceEq, Int.reduceLT, Int.reduceLE, Int.reduceNe, Int.reduceBEq, Int.reduceToNat, ↓reduceIte, f0, f4, f5, f6]) (by first | rfl | simp -implicitDefEqProofs only [go_sem, Nat.reduceEqDiff, Nat.reduceLT, Nat.reduceAdd, Nat.reduceMul, Int.reduceEq, Int.reduceLT, Int.reduceLE, Int.reduceNe, Int.reduceBEq, Int.reduceToNat, ↓reduceIte, f0, f4, f5, f6]) (by omega) ?_
            rw [er2]
            exact ⟨rfl, rfl⟩
          refine app_v (Hb := H) (by simp -implicitDefEqProofs only [go_sem, Nat.reduceEqDiff, Nat.reduceLT, Nat.reduceAdd, Nat.reduceMul, Int.reduceEq, Int.reduceLT, Int.reduceLE, Int.reduceNe, Int.reduceBEq, Int.reduceToNat, ↓reduceIte, f0, f4, f5, f6]) (hovX.sub sw) (by simp -implicitDefEqProofs only [go_sem, Nat.reduceEqDiff, Nat.reduceLT, Nat.reduceAdd, Nat.reduceMul, Int.reduceEq, Int.reduceLT, Int.reduceLE, Int.reduceNe, Int.reduceBEq, Int.reduceToNat, ↓reduceIte, f0, f4, f5, f6]) hvs (by simp; omega) hf (stX.trans sw) ?_
          intro r9 H9 o9 f9 s9 a9
          simp -implicitDefEqProofs only [go_sem, Nat.reduceEqDiff, Nat.reduceLT, Nat.reduceAdd, Nat.reduceMul, Int.reduceEq, Int.reduceLT, Int.reduceLE, Int.reduceNe, Int.reduceBEq, Int.reduceToNat, ↓reduceIte, f0, f4, f5, f6]
          refine ⟨?_, ?_⟩
          · refine slice_lo (dst := none) (ty := 0) (pos := "") (after := #[]) (g := none) (a := some pa) (n := n) (c := rc) (l := k + 1 + 1) Tryd.underlying22 s5 (by simp -implicitDefEqProofs only [go_sem, Nat.reduceEqDiff, Nat.reduceLT, Nat.reduceAdd, Nat.reduceMul, Int.reduceEq, Int.reduceLT, Int.reduceLE, Int.reduceNe, Int.reduceBEq, Int.reduceToNat, ↓reduceIte, f0, f4, f5, f6]) (by first | rfl | simp -implicitDefEqProofs only [go_sem, Nat.reduceEqDiff, Nat.reduceLT, Nat.reduceAdd, Nat.reduceMul, Int.reduceEq, Int.reduceLT, Int.reduceLE, Int.reduceNe, Int.reduceBEq, Int.reduceToNat, ↓reduceIte, f0, f4, f5, f6]) (by omega) ?_
            rw [er2]
            exact ⟨rfl, rfl⟩
          obtain ⟨m', hm', hrds⟩ := RdS.next hm (by rw [et]; rfl) hr2 o9 f9 s9 (by rw [List.length_cons]; exact hl) hr
          exact ⟨m', hm', r2, r9, by simp -implicitDefEqProofs only [go_sem, Nat.reduceEqDiff, Nat.reduceLT, Nat.reduceAdd, Nat.reduceMul, Int.reduceEq, Int.reduceLT, Int.reduceLE, Int.reduceNe, Int.reduceBEq, Int.reduceToNat, ↓reduceIte], by simp -implicitDefEqProofs only [go_sem, Nat.reduceEqDiff, Nat.reduceLT, Nat.reduceAdd, Nat.reduceMul, Int.reduceEq, Int.reduceLT, Int.reduceLE, Int.reduceNe, Int.reduceBEq, Int.reduceToNat, ↓reduceIte], hrds⟩
    have e4 : decide ((h.toNat : Int) = 4) = false := decide_eq_false (by omega)
    simp -implicitDefEqProofs only [go_sem, Nat.reduceEqDiff, Nat.reduceLT, Nat.reduceAdd, Nat.reduceMul, Int.reduceEq, Int.reduceLT, Int.reduceLE, Int.reduceNe, Int.reduceBEq, Int.reduceToNat, ↓reduceIte, e1, e2, e3', e4, f0]
    exact ⟨stX, none, hr _ (.bad (tkn k1 k2 k3 k4)), rfl⟩
end
end Go.Proofs.YtoolnkemkhianaaDoor
