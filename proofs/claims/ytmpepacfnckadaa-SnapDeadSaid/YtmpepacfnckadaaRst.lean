/-
  The law SnapRests, walked.
  Conditions: the script's steps read as steps, the stamps as pairs.
-/
import Derived.Test.YtmpepacfnckadaaRsp
namespace Go.Proofs.Ytmpepacfnckadaa
open Go Go.RowKit Go.Proofs.YtmpepacfnckadaaW
set_option maxRecDepth 100000
set_option maxHeartbeats 1000000
set_option linter.unusedSimpArgs false
set_option linter.unusedVariables false

def RestAt (H : Hp) (l : Nat) (S : Nat → Prop) (sts : List Nat) (r : Nat) (ps : Ents) (lv : Live) (dv : Value) (ts : List (Nat × Nat)) : Prop :=
  LogAt H l S 1 sts ∧ IMap H r .u64 ps ∧ (∀ x z, lv x = some z → Row H 23 1 z.v z.run.length (u64s z.run)) ∧ Row H 76 6 dv ts.length (ts.flatMap tcs)
theorem imap_ty {H : Hp} {r : Nat} {ik : IntKind} {l : Ents} (h : IMap H r ik l) : tyAt H r = none := by
  obtain ⟨es, ck, q1, _⟩ := h
  unfold tyAt; rw [q1]
def restTy (o : Option Nat) : Bool := o == some 98 || o == some 5 || o == some 23 || o == some 76 || o == none
theorem RestAt.keep {H H' : Hp} {l : Nat} {S : Nat → Prop} {sts : List Nat} {r : Nat} {ps : Ents} {lv : Live} {dv : Value} {ts : List (Nat × Nat)} (h : RestAt H l S sts r ps lv dv ts) (hk : ∀ b o, restTy (tyAt H b) = true → H b = some o → H' b = some o) : RestAt H' l S sts r ps lv dv ts := by
  obtain ⟨h1, h2, h3, h4⟩ := h
  exact ⟨h1.keep fun b o hb ho => hk b o (by rcases h1.ty hb with e | e <;> rw [e] <;> rfl) ho, h2.keep fun o ho => hk r o (by rw [imap_ty h2]; rfl) ho, fun x z hz => (h3 x z hz).keep fun b o hb ho => hk b o (by rw [Row.tyAt (h3 x z hz) hb]; rfl) ho, h4.keep fun b o hb ho => hk b o (by rw [Row.tyAt h4 hb]; rfl) ho⟩
theorem RestAt.sub {H H' : Hp} {l : Nat} {S : Nat → Prop} {sts : List Nat} {r : Nat} {ps : Ents} {lv : Live} {dv : Value} {ts : List (Nat × Nat)} (h : RestAt H l S sts r ps lv dv ts) (hs : Sub H H') : RestAt H' l S sts r ps lv dv ts := h.keep fun b o _ hb => hs b o hb
theorem RestAt.step {H H' : Hp} {l : Nat} {S S' : Nat → Prop} {sts sts' : List Nat} {r : Nat} {ps : Ents} {lv : Live} {dv : Value} {ts : List (Nat × Nat)} (h : RestAt H l S sts r ps lv dv ts) (hl : LogAt H' l S' 1 sts') (hf : ∀ b o, ¬ S b → H b = some o → H' b = some o) : RestAt H' l S' sts' r ps lv dv ts := by
  obtain ⟨h1, h2, h3, h4⟩ := h
  exact ⟨hl, h2.keep fun o ho => log_out h1 hf ho (by rw [imap_ty h2]; exact fun e => by cases e) (by rw [imap_ty h2]; exact fun e => by cases e), fun x z hz => log_row h1 hf (h3 x z hz) (by decide) (by decide), log_row h1 hf h4 (by decide) (by decide)⟩
theorem RestAt.map {H H' : Hp} {l : Nat} {S : Nat → Prop} {sts : List Nat} {r : Nat} {ps ps' : Ents} {lv lv' : Live} {dv : Value} {ts : List (Nat × Nat)} (h : RestAt H l S sts r ps lv dv ts) (hm : IMap H' r .u64 ps') (hf : ∀ b, b ≠ r → H' b = H b)
    (hl : ∀ x z, lv' x = some z → Row H 23 1 z.v z.run.length (u64s z.run)) : RestAt H' l S sts r ps' lv' dv ts := by
  obtain ⟨h1, h2, h3, h4⟩ := h
  have k : ∀ b o, tyAt H b ≠ none → H b = some o → H' b = some o := fun b o ht ho => by rw [hf b (fun e => ht (by rw [e, imap_ty h2]))]; exact ho
  exact ⟨h1.keep fun b o hb ho => k b o (by rcases h1.ty hb with e | e <;> rw [e] <;> exact fun e => by cases e) ho, hm, fun x z hz => (hl x z hz).keep fun b o hb ho => k b o (by rw [Row.tyAt (hl x z hz) hb]; exact fun e => by cases e) ho, h4.keep fun b o hb ho => k b o (by rw [Row.tyAt h4 hb]; exact fun e => by cases e) ho⟩

def RstI (w0 : World) (l r n : Nat) (a sa : Value) (m : Nat) (F : Fr) (H : Hp) : Prop :=
  ∃ (i : Nat) (S : Nat → Prop) (sts : List Nat) (ps : Ents) (lv : Live) (dv : Value) (ts : List (Nat × Nat)), i + m = n ∧ F 1 = sa ∧ F 5 = ptr l ∧ F 7 = .map (some r) ∧ F 8 = dv ∧ F 29 = a ∧ F 30 = .int .i64 (n : Int) ∧ F 31 = .int .i64 (i : Int) ∧
    RestAt H l S sts r ps lv dv ts ∧ RestOk sts ps lv ts ∧ sts.length ≤ i ∧ ts.length ≤ i ∧ i ≤ 50
def RstJ (w0 : World) (Hb : Hp) (lv : Live) (l r i n : Nat) (a sa dv : Value) (m : Nat) (F : Fr) (H : Hp) : Prop :=
  ∃ (x : Nat) (av : Value), x + m = 60 ∧ F 1 = sa ∧ F 5 = ptr l ∧ F 7 = .map (some r) ∧ F 8 = dv ∧ F 9 = .int .i64 (i : Int) ∧ F 14 = av ∧ F 29 = a ∧ F 30 = .int .i64 (n : Int) ∧ F 31 = .int .i64 (i : Int) ∧ F 69 = .int .u64 (x : Int) ∧
    Row H 66 4 av (allOf lv x).length ((allOf lv x).flatMap Shot.cs) ∧ (∀ b, blk av = some b → Hb b = none ∧ w0.heap.size ≤ b) ∧ Sub Hb H
def RstK (w0 : World) (Hb : Hp) (l r i n hz tn : Nat) (a sa dv : Value) (m : Nat) (F : Fr) (H : Hp) : Prop :=
  ∃ (j : Nat), j + m = tn ∧ F 1 = sa ∧ F 5 = ptr l ∧ F 7 = .map (some r) ∧ F 8 = dv ∧ F 9 = .int .i64 (i : Int) ∧ F 18 = .int .u64 (hz : Int) ∧ F 29 = a ∧ F 30 = .int .i64 (n : Int) ∧ F 31 = .int .i64 (i : Int) ∧
    F 87 = dv ∧ F 88 = .int .i64 (tn : Int) ∧ F 89 = .int .i64 (j : Int) ∧ Sub Hb H

theorem rests_ok (w0 : World) (a : Value) (n : Nat) (ha : Ops10Arg w0 a n) (b : Value) (sn : Nat) (hb : PairsArg w0 b sn) :
    ACalls Try.prog w0 9 #[a, b] (fun _ => none) fun r H' => r = .bool true ∧ True := by
  obtain ⟨ad, c, rfl, hn, hops⟩ := ha
  obtain ⟨sd, sc, rfl, hsn, hst⟩ := hb
  refine acalls_of Try.func9 rfl Try.ntmps9 r9 (by simp) ?_
  simp -implicitDefEqProofs only [go_sem, Nat.reduceEqDiff, Nat.reduceLT, Nat.reduceAdd, Nat.reduceMul, Int.reduceEq, Int.reduceLT, Int.reduceLE, Int.reduceNe, Int.reduceBEq, Int.reduceToNat, ↓reduceIte]
  refine (awake10_ok w0 _).mono ?_
  rintro r H' ⟨rfl, rfl⟩
  simp -implicitDefEqProofs only [go_sem, Nat.reduceEqDiff, Nat.reduceLT, Nat.reduceAdd, Nat.reduceMul, Int.reduceEq, Int.reduceLT, Int.reduceLE, Int.reduceNe, Int.reduceBEq, Int.reduceToNat, ↓reduceIte]
  refine (new_ok w0 1 _ (by omega) (by omega)).mono ?_
  rintro r H1 ⟨l, rfl, hl, hl0, hlog, hsub⟩
  simp -implicitDefEqProofs only [go_sem, Nat.reduceEqDiff, Nat.reduceLT, Nat.reduceAdd, Nat.reduceMul, Int.reduceEq, Int.reduceLT, Int.reduceLE, Int.reduceNe, Int.reduceBEq, Int.reduceToNat, ↓reduceIte]
  refine newK_of ?_
  intro r H2 hbr hnr hr2 s2 g2
  simp -implicitDefEqProofs only [go_sem, Nat.reduceEqDiff, Nat.reduceLT, Nat.reduceAdd, Nat.reduceMul, Int.reduceEq, Int.reduceLT, Int.reduceLE, Int.reduceNe, Int.reduceBEq, Int.reduceToNat, ↓reduceIte]
  refine AC.loopH (RstI w0 l r n (.slice ad n c) (.slice sd sn sc)) (n := n) ⟨0, _, [], [], fun _ => none, .slice none 0 0, [], by omega, rfl, rfl, rfl, rfl, rfl, rfl, rfl,
    ⟨hlog.keep fun b o _ hb => s2 b o hb, ⟨_, _, hr2, rfl⟩, fun x z hz => (by cases hz), ⟨by simp, .inl ⟨rfl, rfl⟩⟩⟩, ⟨fun x => rfl, fun x z hz => (by cases hz), fun x hx => (by simp [stOf] at hx), by simp, by simp [Ents.keys]⟩, by simp, by simp, by omega⟩ ?_
  clear hlog hsub s2 g2 hr2 hnr hbr hl hl0
  rintro m F H3 ⟨i, S, sts, ps, lv, dv, ts, hi, f1, f5, f7, f8, f29, f30, f31, hat, hok, hsl, htl, hi50⟩ hhi3
  by_cases c1 : i < n
  · have d1 : decide ((i : Int) < (n : Int)) = true := by simp; omega
    have d0 : decide ((0 : Int) ≤ (i : Int)) = true := by simp
    have d2 : IntKind.i64.wrap ((i : Int) + 1) = (i + 1 : Nat) := by rw [i64_in] <;> omega
    obtain ⟨ab, rfl, d, x', hd, hx', hc0, hc1⟩ := hops i c1
    have l0 := ld_arg hhi3 hc0
    have l1 := ld_arg hhi3 hc1
    have hl3 : ldCells w0 H3 (ab.add (i * 2)) 0 2 = some [.int .u8 (d : Int), .int .u64 (x' : Int)] := by
      simp only [ldCells, l0, l1, Option.bind_some, Option.map_some]
    simp -implicitDefEqProofs only [go_sem, Nat.reduceEqDiff, Nat.reduceLT, Nat.reduceAdd, Nat.reduceMul, Int.reduceEq, Int.reduceLT, Int.reduceLE, Int.reduceNe, Int.reduceBEq, Int.reduceToNat, ↓reduceIte, f1, f5, f7, f8, f29, f30, f31, d1, d0, ldK_agg, hl3]
    refine newK_of ?_
    intro b10 H4 hb10 hn10 h10 s10 g10
    simp -implicitDefEqProofs only [go_sem, Nat.reduceEqDiff, Nat.reduceLT, Nat.reduceAdd, Nat.reduceMul, Int.reduceEq, Int.reduceLT, Int.reduceLE, Int.reduceNe, Int.reduceBEq, Int.reduceToNat, ↓reduceIte, f1, f5, f7, f8, f29, f30, f31]
    refine store_all h10 rfl (by simp [cell1_int]) rfl ?_
    intro H5 h10 g10'
    have s5 : Sub H3 H5 := Sub.ne2 hn10 g10 g10'
    clear g10 g10' s10
    have hat5 := hat.sub s5
    by_cases c6 : i < 50
    · have d6 : decide ((50 : Int) ≤ (i : Int)) = false := by simp; omega
      have dm : (d : Int).tmod 4 = ((d % 4 : Nat) : Int) := by rw [Int.tmod_eq_emod_of_nonneg (by omega)]; omega
      have xm : (x' : Int).tmod 50 = ((x' % 50 : Nat) : Int) := by rw [Int.tmod_eq_emod_of_nonneg (by omega)]; omega
      have l10 := ld_own w0 h10
      by_cases c7 : d % 4 = 0
      · have d7 : decide (((d % 4 : Nat) : Int) = 0) = true := by rw [dec_zero]; simp [c7]
        simp -implicitDefEqProofs only [go_sem, Nat.reduceEqDiff, Nat.reduceLT, Nat.reduceAdd, Nat.reduceMul, Int.reduceEq, Int.reduceLT, Int.reduceLE, Int.reduceNe, Int.reduceBEq, Int.reduceToNat, ↓reduceIte, f1, f5, f7, f8, f29, f30, f31, d6, dm, d7, l10, xm]
        refine (begin_log hat5.1 (by omega)).mono ?_
        rintro rr H6 ⟨rfl, S6, hlog6, _, hf6⟩
        have hat6 := hat5.step hlog6 hf6
        simp -implicitDefEqProofs only [go_sem, Nat.reduceEqDiff, Nat.reduceLT, Nat.reduceAdd, Nat.reduceMul, Int.reduceEq, Int.reduceLT, Int.reduceLE, Int.reduceNe, Int.reduceBEq, Int.reduceToNat, ↓reduceIte, f1, f5, f7, f8, f29, f30, f31]
        refine (take_log hat6.1 (by rw [List.length_append]; simp; omega) (1 + sts.length)).mono ?_
        rintro rr H7 ⟨v7, rfl, hrow7, hfr7, s7⟩
        have hat7 := hat6.sub s7
        simp -implicitDefEqProofs only [go_sem, Nat.reduceEqDiff, Nat.reduceLT, Nat.reduceAdd, Nat.reduceMul, Int.reduceEq, Int.reduceLT, Int.reduceLE, Int.reduceNe, Int.reduceBEq, Int.reduceToNat, ↓reduceIte, f1, f5, f7, f8, f29, f30, f31]
        refine aop_mapUpdate (n := ((1 + sts.length : Nat) : Int)) (v := cv ⟨1 + sts.length, sts ++ [1], v7, v7⟩) Try.underlying81 Try.underlying23 hat7.2.1 (by simp -implicitDefEqProofs only [go_sem, Nat.reduceEqDiff, Nat.reduceLT, Nat.reduceAdd, Nat.reduceMul, Int.reduceEq, Int.reduceLT, Int.reduceLE, Int.reduceNe, Int.reduceBEq, Int.reduceToNat, ↓reduceIte, f7]) (by simp -implicitDefEqProofs only [go_sem, Nat.reduceEqDiff, Nat.reduceLT, Nat.reduceAdd, Nat.reduceMul, Int.reduceEq, Int.reduceLT, Int.reduceLE, Int.reduceNe, Int.reduceBEq, Int.reduceToNat, ↓reduceIte]) (by simp -implicitDefEqProofs only [go_sem, Nat.reduceEqDiff, Nat.reduceLT, Nat.reduceAdd, Nat.reduceMul, Int.reduceEq, Int.reduceLT, Int.reduceLE, Int.reduceNe, Int.reduceBEq, Int.reduceToNat, ↓reduceIte]; rfl) ?_
        intro HG hmap7 hf7
        obtain ⟨lvG, hlvG⟩ : ∃ lvG : Live, lvG = fun y => if y = 1 + sts.length then some ⟨1 + sts.length, sts ++ [1], v7, v7⟩ else lv y := ⟨_, rfl⟩
        have hatG : RestAt HG l S6 (sts ++ [1]) r _ lvG dv ts := hat7.map hmap7 hf7 fun u z hz => by
          rw [hlvG] at hz; dsimp only at hz
          split at hz
          · cases hz; exact hrow7
          · exact hat7.2.2.1 u z hz
        have hokG := hok.begin v7 v7
        rw [← hlvG] at hokG
        have hlG : (sts ++ [1]).length ≤ i + 1 := by rw [List.length_append]; simp; omega
        generalize sts ++ [1] = stsG at hatG hokG hlG
        generalize ps.put ((1 + sts.length : Nat) : Int) _ = psG at hatG hokG
        clear hlvG hat6 hmap7 hf7 hlog6 hf6 hat7 hrow7 hfr7 s7
        simp -implicitDefEqProofs only [go_sem, Nat.reduceEqDiff, Nat.reduceLT, Nat.reduceAdd, Nat.reduceMul, Int.reduceEq, Int.reduceLT, Int.reduceLE, Int.reduceNe, Int.reduceBEq, Int.reduceToNat, ↓reduceIte, f1, f5, f7, f8, f29, f30, f31]
        have i7 : i < 50 := c6
        refine AC.loop (RstJ w0 HG lvG l r i n (.slice (some ab) n c) (.slice sd sn sc) dv) (n := 60) ⟨0, .slice none 0 0, by omega, by simp -implicitDefEqProofs only [go_sem, Nat.reduceEqDiff, Nat.reduceLT, Nat.reduceAdd, Nat.reduceMul, Int.reduceEq, Int.reduceLT, Int.reduceLE, Int.reduceNe, Int.reduceBEq, Int.reduceToNat, ↓reduceIte, f1], by simp -implicitDefEqProofs only [go_sem, Nat.reduceEqDiff, Nat.reduceLT, Nat.reduceAdd, Nat.reduceMul, Int.reduceEq, Int.reduceLT, Int.reduceLE, Int.reduceNe, Int.reduceBEq, Int.reduceToNat, ↓reduceIte, f5], by simp -implicitDefEqProofs only [go_sem, Nat.reduceEqDiff, Nat.reduceLT, Nat.reduceAdd, Nat.reduceMul, Int.reduceEq, Int.reduceLT, Int.reduceLE, Int.reduceNe, Int.reduceBEq, Int.reduceToNat, ↓reduceIte, f7], by simp -implicitDefEqProofs only [go_sem, Nat.reduceEqDiff, Nat.reduceLT, Nat.reduceAdd, Nat.reduceMul, Int.reduceEq, Int.reduceLT, Int.reduceLE, Int.reduceNe, Int.reduceBEq, Int.reduceToNat, ↓reduceIte, f8], by simp -implicitDefEqProofs only [go_sem, Nat.reduceEqDiff, Nat.reduceLT, Nat.reduceAdd, Nat.reduceMul, Int.reduceEq, Int.reduceLT, Int.reduceLE, Int.reduceNe, Int.reduceBEq, Int.reduceToNat, ↓reduceIte], by simp -implicitDefEqProofs only [go_sem, Nat.reduceEqDiff, Nat.reduceLT, Nat.reduceAdd, Nat.reduceMul, Int.reduceEq, Int.reduceLT, Int.reduceLE, Int.reduceNe, Int.reduceBEq, Int.reduceToNat, ↓reduceIte], by simp -implicitDefEqProofs only [go_sem, Nat.reduceEqDiff, Nat.reduceLT, Nat.reduceAdd, Nat.reduceMul, Int.reduceEq, Int.reduceLT, Int.reduceLE, Int.reduceNe, Int.reduceBEq, Int.reduceToNat, ↓reduceIte, f29], by simp -implicitDefEqProofs only [go_sem, Nat.reduceEqDiff, Nat.reduceLT, Nat.reduceAdd, Nat.reduceMul, Int.reduceEq, Int.reduceLT, Int.reduceLE, Int.reduceNe, Int.reduceBEq, Int.reduceToNat, ↓reduceIte, f30], by simp -implicitDefEqProofs only [go_sem, Nat.reduceEqDiff, Nat.reduceLT, Nat.reduceAdd, Nat.reduceMul, Int.reduceEq, Int.reduceLT, Int.reduceLE, Int.reduceNe, Int.reduceBEq, Int.reduceToNat, ↓reduceIte, f31], by simp -implicitDefEqProofs only [go_sem, Nat.reduceEqDiff, Nat.reduceLT, Nat.reduceAdd, Nat.reduceMul, Int.reduceEq, Int.reduceLT, Int.reduceLE, Int.reduceNe, Int.reduceBEq, Int.reduceToNat, ↓reduceIte], ⟨by simp [allOf], .inl ⟨rfl, rfl⟩⟩, by simp [blk], Sub.refl _⟩ ?_
        clear f1 f5 f7 f8 f29 f30 f31
        rintro m2 F HL ⟨x, av, hx, f1, f5, f7, f8, f9, f14, f29, f30, f31, f69, hrow, hfr, sL⟩
        have hatL := hatG.sub sL
        by_cases cx : x < 60
        · have e1 : decide ((x : Int) < 60) = true := by simp; omega
          have e2 : IntKind.u64.wrap ((x : Int) + 1) = (x + 1 : Nat) := by rw [u64_in] <;> omega
          have hget := hokG.get x
          have hsucc := allOf_succ lvG x
          cases hlx : lvG x with
          | none =>
            rw [hlx] at hget hsucc
            simp only [Option.map_none] at hget
            simp only [Option.toList_none, List.append_nil] at hsucc
            simp -implicitDefEqProofs only [go_sem, Nat.reduceEqDiff, Nat.reduceLT, Nat.reduceAdd, Nat.reduceMul, Int.reduceEq, Int.reduceLT, Int.reduceLE, Int.reduceNe, Int.reduceBEq, Int.reduceToNat, ↓reduceIte, f1, f5, f7, f8, f9, f14, f29, f30, f31, f69, e1, lookK_int Try.underlying81 Try.underlying23 z66 hatL.2.1, hget, Option.getD_none, Option.isSome_none]
            refine newK_of ?_
            intro b16 HM hb16 hn16 h16 s16 g16
            simp -implicitDefEqProofs only [go_sem, Nat.reduceEqDiff, Nat.reduceLT, Nat.reduceAdd, Nat.reduceMul, Int.reduceEq, Int.reduceLT, Int.reduceLE, Int.reduceNe, Int.reduceBEq, Int.reduceToNat, ↓reduceIte, f1, f5, f7, f8, f9, f14, f29, f30, f31, f69]
            refine store_all h16 rfl (by simp [cell1_int, cell1_slice]) rfl ?_
            intro HN h16 g16'
            have sN : Sub HL HN := Sub.ne2 hn16 g16 g16'
            simp -implicitDefEqProofs only [go_sem, Nat.reduceEqDiff, Nat.reduceLT, Nat.reduceAdd, Nat.reduceMul, Int.reduceEq, Int.reduceLT, Int.reduceLE, Int.reduceNe, Int.reduceBEq, Int.reduceToNat, ↓reduceIte, f1, f5, f7, f8, f9, f14, f29, f30, f31, f69, e2]
            exact ⟨m2 - 1, by omega, x + 1, av, by omega, by simp -implicitDefEqProofs only [go_sem, Nat.reduceEqDiff, Nat.reduceLT, Nat.reduceAdd, Nat.reduceMul, Int.reduceEq, Int.reduceLT, Int.reduceLE, Int.reduceNe, Int.reduceBEq, Int.reduceToNat, ↓reduceIte, f1], by simp -implicitDefEqProofs only [go_sem, Nat.reduceEqDiff, Nat.reduceLT, Nat.reduceAdd, Nat.reduceMul, Int.reduceEq, Int.reduceLT, Int.reduceLE, Int.reduceNe, Int.reduceBEq, Int.reduceToNat, ↓reduceIte, f5], by simp -implicitDefEqProofs only [go_sem, Nat.reduceEqDiff, Nat.reduceLT, Nat.reduceAdd, Nat.reduceMul, Int.reduceEq, Int.reduceLT, Int.reduceLE, Int.reduceNe, Int.reduceBEq, Int.reduceToNat, ↓reduceIte, f7], by simp -implicitDefEqProofs only [go_sem, Nat.reduceEqDiff, Nat.reduceLT, Nat.reduceAdd, Nat.reduceMul, Int.reduceEq, Int.reduceLT, Int.reduceLE, Int.reduceNe, Int.reduceBEq, Int.reduceToNat, ↓reduceIte, f8], by simp -implicitDefEqProofs only [go_sem, Nat.reduceEqDiff, Nat.reduceLT, Nat.reduceAdd, Nat.reduceMul, Int.reduceEq, Int.reduceLT, Int.reduceLE, Int.reduceNe, Int.reduceBEq, Int.reduceToNat, ↓reduceIte, f9], by simp -implicitDefEqProofs only [go_sem, Nat.reduceEqDiff, Nat.reduceLT, Nat.reduceAdd, Nat.reduceMul, Int.reduceEq, Int.reduceLT, Int.reduceLE, Int.reduceNe, Int.reduceBEq, Int.reduceToNat, ↓reduceIte, f14], by simp -implicitDefEqProofs only [go_sem, Nat.reduceEqDiff, Nat.reduceLT, Nat.reduceAdd, Nat.reduceMul, Int.reduceEq, Int.reduceLT, Int.reduceLE, Int.reduceNe, Int.reduceBEq, Int.reduceToNat, ↓reduceIte, f29], by simp -implicitDefEqProofs only [go_sem, Nat.reduceEqDiff, Nat.reduceLT, Nat.reduceAdd, Nat.reduceMul, Int.reduceEq, Int.reduceLT, Int.reduceLE, Int.reduceNe, Int.reduceBEq, Int.reduceToNat, ↓reduceIte, f30], by simp -implicitDefEqProofs only [go_sem, Nat.reduceEqDiff, Nat.reduceLT, Nat.reduceAdd, Nat.reduceMul, Int.reduceEq, Int.reduceLT, Int.reduceLE, Int.reduceNe, Int.reduceBEq, Int.reduceToNat, ↓reduceIte, f31], by simp -implicitDefEqProofs only [go_sem, Nat.reduceEqDiff, Nat.reduceLT, Nat.reduceAdd, Nat.reduceMul, Int.reduceEq, Int.reduceLT, Int.reduceLE, Int.reduceNe, Int.reduceBEq, Int.reduceToNat, ↓reduceIte], by rw [hsucc]; exact hrow.keep fun b o _ hb => sN b o hb, hfr, sL.trans sN⟩
          | some z =>
            rw [hlx] at hget hsucc
            simp only [Option.map_some, cv] at hget
            simp only [Option.toList_some] at hsucc
            have hzr := hatL.2.2.1 x z hlx
            have hc1 : cell1 z.v = true := by obtain ⟨u1, u2, u⟩ := hzr.slice; rw [u]; exact cell1_slice
            simp -implicitDefEqProofs only [go_sem, Nat.reduceEqDiff, Nat.reduceLT, Nat.reduceAdd, Nat.reduceMul, Int.reduceEq, Int.reduceLT, Int.reduceLE, Int.reduceNe, Int.reduceBEq, Int.reduceToNat, ↓reduceIte, f1, f5, f7, f8, f9, f14, f29, f30, f31, f69, e1, lookK_int Try.underlying81 Try.underlying23 z66 hatL.2.1, hget, Option.getD_some]
            refine newK_of ?_
            intro b16 HM hb16 hn16 h16 s16 g16
            simp -implicitDefEqProofs only [go_sem, Nat.reduceEqDiff, Nat.reduceLT, Nat.reduceAdd, Nat.reduceMul, Int.reduceEq, Int.reduceLT, Int.reduceLE, Int.reduceNe, Int.reduceBEq, Int.reduceToNat, ↓reduceIte, f1, f5, f7, f8, f9, f14, f29, f30, f31, f69]
            refine store_all h16 rfl (by simp [cell1_int, hc1]) rfl ?_
            intro HN h16 g16'
            have sN : Sub HL HN := Sub.ne2 hn16 g16 g16'
            have l16 := ldc w0 h16 4
            have bs1 : bsCells Try.prog 66 1 #[(0, .agg #[.int .u64 (z.own : Int), .int .u64 (z.xmin : Int), .int .u64 (z.xmax : Int), z.v])] = some #[.int .u64 (z.own : Int), .int .u64 (z.xmin : Int), .int .u64 (z.xmax : Int), z.v] := by kernel_rfl
            simp -implicitDefEqProofs only [go_sem, Nat.reduceEqDiff, Nat.reduceLT, Nat.reduceAdd, Nat.reduceMul, Int.reduceEq, Int.reduceLT, Int.reduceLE, Int.reduceNe, Int.reduceBEq, Int.reduceToNat, ↓reduceIte, f1, f5, f7, f8, f9, f14, f29, f30, f31, f69, l16, ldK_agg, bs1]
            refine newK_of ?_
            intro nb HO hnb hnn h4 s4 g4
            simp -implicitDefEqProofs only [go_sem, Nat.reduceEqDiff, Nat.reduceLT, Nat.reduceAdd, Nat.reduceMul, Int.reduceEq, Int.reduceLT, Int.reduceLE, Int.reduceNe, Int.reduceBEq, Int.reduceToNat, ↓reduceIte, f1, f5, f7, f8, f9, f14, f29, f30, f31, f69]
            have hal := allOf_len lvG x
            refine aop_append_lit (t := 61) (x := .tmp 79) (y := .tmp 81) (c := 1) Try.underlying61 s66 b66 z66 rfl (v := av) (by simp -implicitDefEqProofs only [go_sem, Nat.reduceEqDiff, Nat.reduceLT, Nat.reduceAdd, Nat.reduceMul, Int.reduceEq, Int.reduceLT, Int.reduceLE, Int.reduceNe, Int.reduceBEq, Int.reduceToNat, ↓reduceIte]) ((hrow.keep (H' := HN) fun b o _ hb => sN b o hb).keep (H' := HO) fun b o _ hb => s4 b o hb) h4 (by simp -implicitDefEqProofs only [go_sem, Nat.reduceEqDiff, Nat.reduceLT, Nat.reduceAdd, Nat.reduceMul, Int.reduceEq, Int.reduceLT, Int.reduceLE, Int.reduceNe, Int.reduceBEq, Int.reduceToNat, ↓reduceIte]) rfl (by simp [cell1_int, hc1]) (by omega) (by omega) (by omega) ?_
            intro g HP hg hHP cap hrowP
            obtain ⟨sP, hgn, hgw⟩ := app_fresh (sL.trans (sN.trans s4)) hfr hg hHP
            simp -implicitDefEqProofs only [go_sem, Nat.reduceEqDiff, Nat.reduceLT, Nat.reduceAdd, Nat.reduceMul, Int.reduceEq, Int.reduceLT, Int.reduceLE, Int.reduceNe, Int.reduceBEq, Int.reduceToNat, ↓reduceIte, f1, f5, f7, f8, f9, f14, f29, f30, f31, f69, e2]
            refine ⟨m2 - 1, by omega, x + 1, .slice (some ⟨g, 0, none⟩) ((allOf lvG x).length + 1) cap, by omega, by simp -implicitDefEqProofs only [go_sem, Nat.reduceEqDiff, Nat.reduceLT, Nat.reduceAdd, Nat.reduceMul, Int.reduceEq, Int.reduceLT, Int.reduceLE, Int.reduceNe, Int.reduceBEq, Int.reduceToNat, ↓reduceIte, f1], by simp -implicitDefEqProofs only [go_sem, Nat.reduceEqDiff, Nat.reduceLT, Nat.reduceAdd, Nat.reduceMul, Int.reduceEq, Int.reduceLT, Int.reduceLE, Int.reduceNe, Int.reduceBEq, Int.reduceToNat, ↓reduceIte, f5], by simp -implicitDefEqProofs only [go_sem, Nat.reduceEqDiff, Nat.reduceLT, Nat.reduceAdd, Nat.reduceMul, Int.reduceEq, Int.reduceLT, Int.reduceLE, Int.reduceNe, Int.reduceBEq, Int.reduceToNat, ↓reduceIte, f7], by simp -implicitDefEqProofs only [go_sem, Nat.reduceEqDiff, Nat.reduceLT, Nat.reduceAdd, Nat.reduceMul, Int.reduceEq, Int.reduceLT, Int.reduceLE, Int.reduceNe, Int.reduceBEq, Int.reduceToNat, ↓reduceIte, f8], by simp -implicitDefEqProofs only [go_sem, Nat.reduceEqDiff, Nat.reduceLT, Nat.reduceAdd, Nat.reduceMul, Int.reduceEq, Int.reduceLT, Int.reduceLE, Int.reduceNe, Int.reduceBEq, Int.reduceToNat, ↓reduceIte, f9], by simp -implicitDefEqProofs only [go_sem, Nat.reduceEqDiff, Nat.reduceLT, Nat.reduceAdd, Nat.reduceMul, Int.reduceEq, Int.reduceLT, Int.reduceLE, Int.reduceNe, Int.reduceBEq, Int.reduceToNat, ↓reduceIte], by simp -implicitDefEqProofs only [go_sem, Nat.reduceEqDiff, Nat.reduceLT, Nat.reduceAdd, Nat.reduceMul, Int.reduceEq, Int.reduceLT, Int.reduceLE, Int.reduceNe, Int.reduceBEq, Int.reduceToNat, ↓reduceIte, f29], by simp -implicitDefEqProofs only [go_sem, Nat.reduceEqDiff, Nat.reduceLT, Nat.reduceAdd, Nat.reduceMul, Int.reduceEq, Int.reduceLT, Int.reduceLE, Int.reduceNe, Int.reduceBEq, Int.reduceToNat, ↓reduceIte, f30], by simp -implicitDefEqProofs only [go_sem, Nat.reduceEqDiff, Nat.reduceLT, Nat.reduceAdd, Nat.reduceMul, Int.reduceEq, Int.reduceLT, Int.reduceLE, Int.reduceNe, Int.reduceBEq, Int.reduceToNat, ↓reduceIte, f31], by simp -implicitDefEqProofs only [go_sem, Nat.reduceEqDiff, Nat.reduceLT, Nat.reduceAdd, Nat.reduceMul, Int.reduceEq, Int.reduceLT, Int.reduceLE, Int.reduceNe, Int.reduceBEq, Int.reduceToNat, ↓reduceIte], ?_, ?_, sP⟩
            · rw [hsucc, List.length_append, List.length_singleton, List.flatMap_append, List.flatMap_cons, List.flatMap_nil, List.append_nil]
              exact hrowP
            · intro b hb
              simp only [blk, Option.some.injEq] at hb
              subst hb; exact ⟨hgn, hgw⟩
        · have e1 : decide ((x : Int) < 60) = false := by simp; omega
          have hx60 : x = 60 := by omega
          subst hx60
          have hal := allOf_len lvG 60
          obtain ⟨td, tc, htd⟩ := hatL.2.2.2.slice
          simp -implicitDefEqProofs only [go_sem, Nat.reduceEqDiff, Nat.reduceLT, Nat.reduceAdd, Nat.reduceMul, Int.reduceEq, Int.reduceLT, Int.reduceLE, Int.reduceNe, Int.reduceBEq, Int.reduceToNat, ↓reduceIte, f1, f5, f7, f8, f9, f14, f29, f30, f31, f69, e1]
          refine (horizon_log hatL.1 (by omega) hrow (by omega) (fun z hz => by
            obtain ⟨u, _, hu⟩ := mem_allOf.1 hz
            obtain ⟨u1, u2, u3⟩ := (hatL.2.2.1 u z hu).slice
            rw [u3]; exact cell1_slice)).mono ?_
          rintro rr HL' ⟨rfl, rfl⟩
          have hchk : ∀ {t : Nat × Nat}, t ∈ ts → deadB 1 stsG t.1 t.2 (hzn (1 + stsG.length) ((allOf lvG 60).map Shot.xmin)) = true := fun ht => hokG.check ht 60
          have hmore : ∀ {a b : Nat}, deadB 1 stsG a b (hzn (1 + stsG.length) ((allOf lvG 60).map Shot.xmin)) = true → RestOk stsG psG lvG (ts ++ [(a, b)]) := fun hd => hokG.more (by omega) hd
          generalize hzn (1 + stsG.length) ((allOf lvG 60).map Shot.xmin) = hz at hchk hmore ⊢
          simp -implicitDefEqProofs only [go_sem, Nat.reduceEqDiff, Nat.reduceLT, Nat.reduceAdd, Nat.reduceMul, Int.reduceEq, Int.reduceLT, Int.reduceLE, Int.reduceNe, Int.reduceBEq, Int.reduceToNat, ↓reduceIte, f1, f5, f7, f8, f9, f14, f29, f30, f31, f69, htd]
          rw [← htd]
          refine AC.loopH (RstK w0 HL' l r i n hz ts.length (.slice (some ab) n c) (.slice sd sn sc) dv) (n := ts.length) ⟨0, by omega, by simp -implicitDefEqProofs only [go_sem, Nat.reduceEqDiff, Nat.reduceLT, Nat.reduceAdd, Nat.reduceMul, Int.reduceEq, Int.reduceLT, Int.reduceLE, Int.reduceNe, Int.reduceBEq, Int.reduceToNat, ↓reduceIte, f1], by simp -implicitDefEqProofs only [go_sem, Nat.reduceEqDiff, Nat.reduceLT, Nat.reduceAdd, Nat.reduceMul, Int.reduceEq, Int.reduceLT, Int.reduceLE, Int.reduceNe, Int.reduceBEq, Int.reduceToNat, ↓reduceIte, f5], by simp -implicitDefEqProofs only [go_sem, Nat.reduceEqDiff, Nat.reduceLT, Nat.reduceAdd, Nat.reduceMul, Int.reduceEq, Int.reduceLT, Int.reduceLE, Int.reduceNe, Int.reduceBEq, Int.reduceToNat, ↓reduceIte, f7], by simp -implicitDefEqProofs only [go_sem, Nat.reduceEqDiff, Nat.reduceLT, Nat.reduceAdd, Nat.reduceMul, Int.reduceEq, Int.reduceLT, Int.reduceLE, Int.reduceNe, Int.reduceBEq, Int.reduceToNat, ↓reduceIte, f8, htd], by simp -implicitDefEqProofs only [go_sem, Nat.reduceEqDiff, Nat.reduceLT, Nat.reduceAdd, Nat.reduceMul, Int.reduceEq, Int.reduceLT, Int.reduceLE, Int.reduceNe, Int.reduceBEq, Int.reduceToNat, ↓reduceIte, f9], by simp -implicitDefEqProofs only [go_sem, Nat.reduceEqDiff, Nat.reduceLT, Nat.reduceAdd, Nat.reduceMul, Int.reduceEq, Int.reduceLT, Int.reduceLE, Int.reduceNe, Int.reduceBEq, Int.reduceToNat, ↓reduceIte], by simp -implicitDefEqProofs only [go_sem, Nat.reduceEqDiff, Nat.reduceLT, Nat.reduceAdd, Nat.reduceMul, Int.reduceEq, Int.reduceLT, Int.reduceLE, Int.reduceNe, Int.reduceBEq, Int.reduceToNat, ↓reduceIte, f29], by simp -implicitDefEqProofs only [go_sem, Nat.reduceEqDiff, Nat.reduceLT, Nat.reduceAdd, Nat.reduceMul, Int.reduceEq, Int.reduceLT, Int.reduceLE, Int.reduceNe, Int.reduceBEq, Int.reduceToNat, ↓reduceIte, f30], by simp -implicitDefEqProofs only [go_sem, Nat.reduceEqDiff, Nat.reduceLT, Nat.reduceAdd, Nat.reduceMul, Int.reduceEq, Int.reduceLT, Int.reduceLE, Int.reduceNe, Int.reduceBEq, Int.reduceToNat, ↓reduceIte, f31], by simp -implicitDefEqProofs only [go_sem, Nat.reduceEqDiff, Nat.reduceLT, Nat.reduceAdd, Nat.reduceMul, Int.reduceEq, Int.reduceLT, Int.reduceLE, Int.reduceNe, Int.reduceBEq, Int.reduceToNat, ↓reduceIte, htd], by simp -implicitDefEqProofs only [go_sem, Nat.reduceEqDiff, Nat.reduceLT, Nat.reduceAdd, Nat.reduceMul, Int.reduceEq, Int.reduceLT, Int.reduceLE, Int.reduceNe, Int.reduceBEq, Int.reduceToNat, ↓reduceIte], by simp -implicitDefEqProofs only [go_sem, Nat.reduceEqDiff, Nat.reduceLT, Nat.reduceAdd, Nat.reduceMul, Int.reduceEq, Int.reduceLT, Int.reduceLE, Int.reduceNe, Int.reduceBEq, Int.reduceToNat, ↓reduceIte], Sub.refl _⟩ ?_
          clear f1 f5 f7 f8 f9 f14 f29 f30 f31 f69 hrow hfr htd td tc
          rintro m3 F HM ⟨j, hj, f1, f5, f7, f8, f9, f18, f29, f30, f31, f87, f88, f89, sM⟩ hhiM
          have hatM := hatL.sub sM
          by_cases cj : j < ts.length
          · have g1 : decide ((j : Int) < (ts.length : Int)) = true := by simp; omega
            have g0 : decide ((0 : Int) ≤ (j : Int)) = true := by simp
            have g2 : IntKind.i64.wrap ((j : Int) + 1) = (j + 1 : Nat) := by rw [i64_in] <;> omega
            have htj : ts[j]? = some ts[j] := by simp [cj]
            generalize ts[j] = t at htj
            obtain ⟨gt, capt, hvt, hlt, _⟩ := hatM.2.2.2.atc w0 rfl (fun t _ => tcs_len t) htj
            have hlt' : ldCells w0 HM ⟨gt, j * 6, none⟩ 0 6 = some [.int .u64 0, .int .u64 (t.1 : Int), .int .u64 (t.2 : Int), .int .i64 0, .int .i64 0, .slice none 0 0] := hlt
            simp -implicitDefEqProofs only [go_sem, Nat.reduceEqDiff, Nat.reduceLT, Nat.reduceAdd, Nat.reduceMul, Int.reduceEq, Int.reduceLT, Int.reduceLE, Int.reduceNe, Int.reduceBEq, Int.reduceToNat, ↓reduceIte, f1, f5, f7, f8, f9, f18, f29, f30, f31, f87, f88, f89, g1, g0, hvt, hlt', ldK_agg]
            refine newK_of ?_
            intro b20 HO hb20 hn20 h20 s20 g20
            simp -implicitDefEqProofs only [go_sem, Nat.reduceEqDiff, Nat.reduceLT, Nat.reduceAdd, Nat.reduceMul, Int.reduceEq, Int.reduceLT, Int.reduceLE, Int.reduceNe, Int.reduceBEq, Int.reduceToNat, ↓reduceIte, f1, f5, f7, f8, f9, f18, f29, f30, f31, f87, f88, f89]
            refine store_all h20 rfl (by simp [cell1_int, cell1_slice]) rfl ?_
            intro HP h20 g20'
            have sP : Sub HM HP := Sub.ne2 hn20 g20 g20'
            have l20 := ldc w0 h20 6
            simp -implicitDefEqProofs only [go_sem, Nat.reduceEqDiff, Nat.reduceLT, Nat.reduceAdd, Nat.reduceMul, Int.reduceEq, Int.reduceLT, Int.reduceLE, Int.reduceNe, Int.reduceBEq, Int.reduceToNat, ↓reduceIte, f1, f5, f7, f8, f9, f18, f29, f30, f31, f87, f88, f89, l20, ldK_agg]
            refine (dead_log (hatM.sub sP).1 (by omega) t.1 t.2 hz).mono ?_
            rintro rr HQ ⟨rfl, rfl⟩
            rw [hchk (List.mem_of_getElem? htj)]
            simp -implicitDefEqProofs only [go_sem, Nat.reduceEqDiff, Nat.reduceLT, Nat.reduceAdd, Nat.reduceMul, Int.reduceEq, Int.reduceLT, Int.reduceLE, Int.reduceNe, Int.reduceBEq, Int.reduceToNat, ↓reduceIte, f1, f5, f7, f8, f9, f18, f29, f30, f31, f87, f88, f89, g2]
            exact ⟨m3 - 1, by omega, j + 1, by omega, by simp -implicitDefEqProofs only [go_sem, Nat.reduceEqDiff, Nat.reduceLT, Nat.reduceAdd, Nat.reduceMul, Int.reduceEq, Int.reduceLT, Int.reduceLE, Int.reduceNe, Int.reduceBEq, Int.reduceToNat, ↓reduceIte, f1], by simp -implicitDefEqProofs only [go_sem, Nat.reduceEqDiff, Nat.reduceLT, Nat.reduceAdd, Nat.reduceMul, Int.reduceEq, Int.reduceLT, Int.reduceLE, Int.reduceNe, Int.reduceBEq, Int.reduceToNat, ↓reduceIte, f5], by simp -implicitDefEqProofs only [go_sem, Nat.reduceEqDiff, Nat.reduceLT, Nat.reduceAdd, Nat.reduceMul, Int.reduceEq, Int.reduceLT, Int.reduceLE, Int.reduceNe, Int.reduceBEq, Int.reduceToNat, ↓reduceIte, f7], by simp -implicitDefEqProofs only [go_sem, Nat.reduceEqDiff, Nat.reduceLT, Nat.reduceAdd, Nat.reduceMul, Int.reduceEq, Int.reduceLT, Int.reduceLE, Int.reduceNe, Int.reduceBEq, Int.reduceToNat, ↓reduceIte, f8, hvt], by simp -implicitDefEqProofs only [go_sem, Nat.reduceEqDiff, Nat.reduceLT, Nat.reduceAdd, Nat.reduceMul, Int.reduceEq, Int.reduceLT, Int.reduceLE, Int.reduceNe, Int.reduceBEq, Int.reduceToNat, ↓reduceIte, f9], by simp -implicitDefEqProofs only [go_sem, Nat.reduceEqDiff, Nat.reduceLT, Nat.reduceAdd, Nat.reduceMul, Int.reduceEq, Int.reduceLT, Int.reduceLE, Int.reduceNe, Int.reduceBEq, Int.reduceToNat, ↓reduceIte, f18], by simp -implicitDefEqProofs only [go_sem, Nat.reduceEqDiff, Nat.reduceLT, Nat.reduceAdd, Nat.reduceMul, Int.reduceEq, Int.reduceLT, Int.reduceLE, Int.reduceNe, Int.reduceBEq, Int.reduceToNat, ↓reduceIte, f29], by simp -implicitDefEqProofs only [go_sem, Nat.reduceEqDiff, Nat.reduceLT, Nat.reduceAdd, Nat.reduceMul, Int.reduceEq, Int.reduceLT, Int.reduceLE, Int.reduceNe, Int.reduceBEq, Int.reduceToNat, ↓reduceIte, f30], by simp -implicitDefEqProofs only [go_sem, Nat.reduceEqDiff, Nat.reduceLT, Nat.reduceAdd, Nat.reduceMul, Int.reduceEq, Int.reduceLT, Int.reduceLE, Int.reduceNe, Int.reduceBEq, Int.reduceToNat, ↓reduceIte, f31], by simp -implicitDefEqProofs only [go_sem, Nat.reduceEqDiff, Nat.reduceLT, Nat.reduceAdd, Nat.reduceMul, Int.reduceEq, Int.reduceLT, Int.reduceLE, Int.reduceNe, Int.reduceBEq, Int.reduceToNat, ↓reduceIte, f87, hvt], by simp -implicitDefEqProofs only [go_sem, Nat.reduceEqDiff, Nat.reduceLT, Nat.reduceAdd, Nat.reduceMul, Int.reduceEq, Int.reduceLT, Int.reduceLE, Int.reduceNe, Int.reduceBEq, Int.reduceToNat, ↓reduceIte, f88], by simp -implicitDefEqProofs only [go_sem, Nat.reduceEqDiff, Nat.reduceLT, Nat.reduceAdd, Nat.reduceMul, Int.reduceEq, Int.reduceLT, Int.reduceLE, Int.reduceNe, Int.reduceBEq, Int.reduceToNat, ↓reduceIte], sM.trans sP⟩
          · have g1 : decide ((j : Int) < (ts.length : Int)) = false := by simp; omega
            by_cases ci : i < sn
            · have g3 : decide ((i : Int) < (sn : Int)) = true := by rw [dec_lt]; simp [ci]
              have g4 : decide ((i : Int) < 50) = true := by simp; omega
              obtain ⟨sb, hsb, A0, B0, hA0, hB0, hd0, hd1⟩ := hst i ci
              have la0 : (sb.add (i * 2)).add 0 = sb.add (i * 2) := rfl
              have la := ld_arg hhiM hd0
              rw [la0] at la
              have lb0 : (sb.add (i * 2)).add 1 = ⟨(sb.add (i * 2)).block, (sb.add (i * 2)).off + 1, none⟩ := rfl
              have lb := ld_arg hhiM hd1
              rw [lb0] at lb
              have i0 : (0 : Int).toNat = 0 := rfl
              have i1 : (1 : Int).toNat = 1 := rfl
              have mA : (A0 : Int).tmod 50 = ((A0 % 50 : Nat) : Int) := by rw [Int.tmod_eq_emod_of_nonneg (by omega)]; omega
              have mB : (B0 : Int).tmod 50 = ((B0 % 50 : Nat) : Int) := by rw [Int.tmod_eq_emod_of_nonneg (by omega)]; omega
              simp -implicitDefEqProofs only [go_sem, Nat.reduceEqDiff, Nat.reduceLT, Nat.reduceAdd, Nat.reduceMul, Int.reduceEq, Int.reduceLT, Int.reduceLE, Int.reduceNe, Int.reduceBEq, Int.reduceToNat, ↓reduceIte, f1, f5, f7, f8, f9, f18, f29, f30, f31, f87, f88, f89, g1, g3, g4]
              refine vdraw_t [⟨0, .p, [], []⟩, ⟨1, .p, [], []⟩, ⟨2, .p, [], []⟩, ⟨3, .p, [], []⟩, ⟨4, .n, [], []⟩, ⟨5, .p, [], []⟩, ⟨6, .p, [], []⟩, ⟨7, .p, [], []⟩, ⟨8, .p, [], []⟩, ⟨9, .p, [], []⟩, ⟨10, .n, [], []⟩, ⟨11, .p, [], []⟩, ⟨12, .c, [], []⟩, ⟨13, .a, [], []⟩, ⟨14, .c, [], []⟩] [0, 0, 3, 7, 15, 31, 0, 0, 192, 448, 960, 1984, 4095, 0, 16383] mixed (by kernel_rfl) ?_
              simp -implicitDefEqProofs only [go_sem, Nat.reduceEqDiff, Nat.reduceLT, Nat.reduceAdd, Nat.reduceMul, Int.reduceEq, Int.reduceLT, Int.reduceLE, Int.reduceNe, Int.reduceBEq, Int.reduceToNat, ↓reduceIte, f1, f5, f7, f8, f9, f18, f29, f30, f31, f87, f88, f89, g3, d0, hsb, la, lb, i0, i1, Nat.zero_mul, Nat.one_mul, mA, mB]
              refine (tuple_ok w0 _ (A0 % 50) (B0 % 50)).mono ?_
              rintro rr HM' ⟨rfl, rfl⟩
              simp -implicitDefEqProofs only [go_sem, Nat.reduceEqDiff, Nat.reduceLT, Nat.reduceAdd, Nat.reduceMul, Int.reduceEq, Int.reduceLT, Int.reduceLE, Int.reduceNe, Int.reduceBEq, Int.reduceToNat, ↓reduceIte, f1, f5, f7, f8, f9, f18, f29, f30, f31, f87, f88, f89, g3, d0, hsb, la, lb, i0, i1, Nat.zero_mul, Nat.one_mul, mA, mB]
              refine newK_of ?_
              intro b21 HO hb21 hn21 h21 s21 g21
              simp -implicitDefEqProofs only [go_sem, Nat.reduceEqDiff, Nat.reduceLT, Nat.reduceAdd, Nat.reduceMul, Int.reduceEq, Int.reduceLT, Int.reduceLE, Int.reduceNe, Int.reduceBEq, Int.reduceToNat, ↓reduceIte, f1, f5, f7, f8, f9, f18, f29, f30, f31, f87, f88, f89]
              refine store_all h21 rfl (by simp [cell1_int, cell1_slice]) rfl ?_
              intro HP h21 g21'
              have sP : Sub HM' HP := Sub.ne2 hn21 g21 g21'
              have l21 := ldc w0 h21 6
              obtain ⟨A, eA⟩ : ∃ A, A = A0 % 50 := ⟨_, rfl⟩
              obtain ⟨B, eB⟩ : ∃ B, B = B0 % 50 := ⟨_, rfl⟩
              rw [← eA, ← eB] at l21
              simp -implicitDefEqProofs only [go_sem, Nat.reduceEqDiff, Nat.reduceLT, Nat.reduceAdd, Nat.reduceMul, Int.reduceEq, Int.reduceLT, Int.reduceLE, Int.reduceNe, Int.reduceBEq, Int.reduceToNat, ↓reduceIte, f1, f5, f7, f8, f9, f18, f29, f30, f31, f87, f88, f89, l21, ldK_agg]
              have hatP := hatM.sub sP
              refine (dead_log hatP.1 (by omega) A B hz).mono ?_
              rintro rr HQ ⟨rfl, rfl⟩
              cases hd : deadB 1 stsG A B hz
              · simp -implicitDefEqProofs only [go_sem, Nat.reduceEqDiff, Nat.reduceLT, Nat.reduceAdd, Nat.reduceMul, Int.reduceEq, Int.reduceLT, Int.reduceLE, Int.reduceNe, Int.reduceBEq, Int.reduceToNat, ↓reduceIte, f1, f5, f7, f8, f9, f18, f29, f30, f31, f87, f88, f89, d2]
                exact ⟨m - 1, by omega, i + 1, _, stsG, psG, lvG, dv, ts, by omega, by simp -implicitDefEqProofs only [go_sem, Nat.reduceEqDiff, Nat.reduceLT, Nat.reduceAdd, Nat.reduceMul, Int.reduceEq, Int.reduceLT, Int.reduceLE, Int.reduceNe, Int.reduceBEq, Int.reduceToNat, ↓reduceIte, f1, hsb], by simp -implicitDefEqProofs only [go_sem, Nat.reduceEqDiff, Nat.reduceLT, Nat.reduceAdd, Nat.reduceMul, Int.reduceEq, Int.reduceLT, Int.reduceLE, Int.reduceNe, Int.reduceBEq, Int.reduceToNat, ↓reduceIte, f5], by simp -implicitDefEqProofs only [go_sem, Nat.reduceEqDiff, Nat.reduceLT, Nat.reduceAdd, Nat.reduceMul, Int.reduceEq, Int.reduceLT, Int.reduceLE, Int.reduceNe, Int.reduceBEq, Int.reduceToNat, ↓reduceIte, f7], by simp -implicitDefEqProofs only [go_sem, Nat.reduceEqDiff, Nat.reduceLT, Nat.reduceAdd, Nat.reduceMul, Int.reduceEq, Int.reduceLT, Int.reduceLE, Int.reduceNe, Int.reduceBEq, Int.reduceToNat, ↓reduceIte, f8], by simp -implicitDefEqProofs only [go_sem, Nat.reduceEqDiff, Nat.reduceLT, Nat.reduceAdd, Nat.reduceMul, Int.reduceEq, Int.reduceLT, Int.reduceLE, Int.reduceNe, Int.reduceBEq, Int.reduceToNat, ↓reduceIte, f29], by simp -implicitDefEqProofs only [go_sem, Nat.reduceEqDiff, Nat.reduceLT, Nat.reduceAdd, Nat.reduceMul, Int.reduceEq, Int.reduceLT, Int.reduceLE, Int.reduceNe, Int.reduceBEq, Int.reduceToNat, ↓reduceIte, f30], by simp -implicitDefEqProofs only [go_sem, Nat.reduceEqDiff, Nat.reduceLT, Nat.reduceAdd, Nat.reduceMul, Int.reduceEq, Int.reduceLT, Int.reduceLE, Int.reduceNe, Int.reduceBEq, Int.reduceToNat, ↓reduceIte], hatP, hokG, by omega, by omega, by omega⟩
              · have bs1 : bsCells Try.prog 76 1 #[(0, .agg #[.int .u64 0, .int .u64 (A : Int), .int .u64 (B : Int), .int .i64 0, .int .i64 0, .slice none 0 0])] = some (tcs (A, B)).toArray := by kernel_rfl
                simp -implicitDefEqProofs only [go_sem, Nat.reduceEqDiff, Nat.reduceLT, Nat.reduceAdd, Nat.reduceMul, Int.reduceEq, Int.reduceLT, Int.reduceLE, Int.reduceNe, Int.reduceBEq, Int.reduceToNat, ↓reduceIte, f1, f5, f7, f8, f9, f18, f29, f30, f31, f87, f88, f89, l21, ldK_agg, bs1]
                refine newK_of ?_
                intro nb HR hnb hnn h4 s4 g4
                simp -implicitDefEqProofs only [go_sem, Nat.reduceEqDiff, Nat.reduceLT, Nat.reduceAdd, Nat.reduceMul, Int.reduceEq, Int.reduceLT, Int.reduceLE, Int.reduceNe, Int.reduceBEq, Int.reduceToNat, ↓reduceIte, f1, f5, f7, f8, f9, f18, f29, f30, f31, f87, f88, f89]
                have hrowR := hatP.2.2.2.keep (H' := HR) fun b o _ hb => s4 b o hb
                refine aop_append_lit (t := 72) (x := .tmp 124) (y := .tmp 126) (c := 1) Try.underlying72 s76 b76 z76 rfl (v := dv) (by simp -implicitDefEqProofs only [go_sem, Nat.reduceEqDiff, Nat.reduceLT, Nat.reduceAdd, Nat.reduceMul, Int.reduceEq, Int.reduceLT, Int.reduceLE, Int.reduceNe, Int.reduceBEq, Int.reduceToNat, ↓reduceIte]) hrowR h4 (by simp -implicitDefEqProofs only [go_sem, Nat.reduceEqDiff, Nat.reduceLT, Nat.reduceAdd, Nat.reduceMul, Int.reduceEq, Int.reduceLT, Int.reduceLE, Int.reduceNe, Int.reduceBEq, Int.reduceToNat, ↓reduceIte]) rfl (by simp [tcs, cell1_int, cell1_slice]) (by omega) (by omega) (by omega) ?_
                intro g HT hg hHT cap hrowT
                have kT : ∀ b o, tyAt HQ b ≠ some 76 → HQ b = some o → HT b = some o := by
                  intro b o ht ho
                  have : b ≠ g := by
                    rintro rfl
                    rcases hg with e | ⟨e, _⟩
                    · exact ht (Row.tyAt hatP.2.2.2 e.symm)
                    · rw [s4 _ _ ho] at e; cases e
                  rw [hHT b this]; exact s4 b o ho
                obtain ⟨u1, u2, u3, u4⟩ := hatP
                simp -implicitDefEqProofs only [go_sem, Nat.reduceEqDiff, Nat.reduceLT, Nat.reduceAdd, Nat.reduceMul, Int.reduceEq, Int.reduceLT, Int.reduceLE, Int.reduceNe, Int.reduceBEq, Int.reduceToNat, ↓reduceIte, f1, f5, f7, f8, f9, f18, f29, f30, f31, f87, f88, f89, d2]
                refine ⟨m - 1, by omega, i + 1, _, stsG, psG, lvG, .slice (some ⟨g, 0, none⟩) (ts.length + 1) cap, ts ++ [(A, B)], by omega, by simp -implicitDefEqProofs only [go_sem, Nat.reduceEqDiff, Nat.reduceLT, Nat.reduceAdd, Nat.reduceMul, Int.reduceEq, Int.reduceLT, Int.reduceLE, Int.reduceNe, Int.reduceBEq, Int.reduceToNat, ↓reduceIte, f1, hsb], by simp -implicitDefEqProofs only [go_sem, Nat.reduceEqDiff, Nat.reduceLT, Nat.reduceAdd, Nat.reduceMul, Int.reduceEq, Int.reduceLT, Int.reduceLE, Int.reduceNe, Int.reduceBEq, Int.reduceToNat, ↓reduceIte, f5], by simp -implicitDefEqProofs only [go_sem, Nat.reduceEqDiff, Nat.reduceLT, Nat.reduceAdd, Nat.reduceMul, Int.reduceEq, Int.reduceLT, Int.reduceLE, Int.reduceNe, Int.reduceBEq, Int.reduceToNat, ↓reduceIte, f7], by simp -implicitDefEqProofs only [go_sem, Nat.reduceEqDiff, Nat.reduceLT, Nat.reduceAdd, Nat.reduceMul, Int.reduceEq, Int.reduceLT, Int.reduceLE, Int.reduceNe, Int.reduceBEq, Int.reduceToNat, ↓reduceIte], by simp -implicitDefEqProofs only [go_sem, Nat.reduceEqDiff, Nat.reduceLT, Nat.reduceAdd, Nat.reduceMul, Int.reduceEq, Int.reduceLT, Int.reduceLE, Int.reduceNe, Int.reduceBEq, Int.reduceToNat, ↓reduceIte, f29], by simp -implicitDefEqProofs only [go_sem, Nat.reduceEqDiff, Nat.reduceLT, Nat.reduceAdd, Nat.reduceMul, Int.reduceEq, Int.reduceLT, Int.reduceLE, Int.reduceNe, Int.reduceBEq, Int.reduceToNat, ↓reduceIte, f30], by simp -implicitDefEqProofs only [go_sem, Nat.reduceEqDiff, Nat.reduceLT, Nat.reduceAdd, Nat.reduceMul, Int.reduceEq, Int.reduceLT, Int.reduceLE, Int.reduceNe, Int.reduceBEq, Int.reduceToNat, ↓reduceIte], ⟨u1.keep fun b o hb ho => kT b o (by rcases u1.ty hb with e | e <;> rw [e] <;> decide) ho, u2.keep fun o ho => kT r o (by rw [imap_ty u2]; exact fun e => by cases e) ho, fun x z hz => (u3 x z hz).keep fun b o hb ho => kT b o (by rw [Row.tyAt (u3 x z hz) hb]; decide) ho, ?_⟩, hmore hd, by omega, by rw [List.length_append, List.length_singleton]; omega, by omega⟩
                rw [List.length_append, List.length_singleton, List.flatMap_append, List.flatMap_cons, List.flatMap_nil, List.append_nil]
                exact hrowT
            · have g3 : decide ((i : Int) < (sn : Int)) = false := by rw [dec_lt]; simp; omega
              simp -implicitDefEqProofs only [go_sem, Nat.reduceEqDiff, Nat.reduceLT, Nat.reduceAdd, Nat.reduceMul, Int.reduceEq, Int.reduceLT, Int.reduceLE, Int.reduceNe, Int.reduceBEq, Int.reduceToNat, ↓reduceIte, f1, f5, f7, f8, f9, f18, f29, f30, f31, f87, f88, f89, g1, g3, d2]
              exact ⟨m - 1, by omega, i + 1, _, stsG, psG, lvG, dv, ts, by omega, by simp -implicitDefEqProofs only [go_sem, Nat.reduceEqDiff, Nat.reduceLT, Nat.reduceAdd, Nat.reduceMul, Int.reduceEq, Int.reduceLT, Int.reduceLE, Int.reduceNe, Int.reduceBEq, Int.reduceToNat, ↓reduceIte, f1], by simp -implicitDefEqProofs only [go_sem, Nat.reduceEqDiff, Nat.reduceLT, Nat.reduceAdd, Nat.reduceMul, Int.reduceEq, Int.reduceLT, Int.reduceLE, Int.reduceNe, Int.reduceBEq, Int.reduceToNat, ↓reduceIte, f5], by simp -implicitDefEqProofs only [go_sem, Nat.reduceEqDiff, Nat.reduceLT, Nat.reduceAdd, Nat.reduceMul, Int.reduceEq, Int.reduceLT, Int.reduceLE, Int.reduceNe, Int.reduceBEq, Int.reduceToNat, ↓reduceIte, f7], by simp -implicitDefEqProofs only [go_sem, Nat.reduceEqDiff, Nat.reduceLT, Nat.reduceAdd, Nat.reduceMul, Int.reduceEq, Int.reduceLT, Int.reduceLE, Int.reduceNe, Int.reduceBEq, Int.reduceToNat, ↓reduceIte, f8], by simp -implicitDefEqProofs only [go_sem, Nat.reduceEqDiff, Nat.reduceLT, Nat.reduceAdd, Nat.reduceMul, Int.reduceEq, Int.reduceLT, Int.reduceLE, Int.reduceNe, Int.reduceBEq, Int.reduceToNat, ↓reduceIte, f29], by simp -implicitDefEqProofs only [go_sem, Nat.reduceEqDiff, Nat.reduceLT, Nat.reduceAdd, Nat.reduceMul, Int.reduceEq, Int.reduceLT, Int.reduceLE, Int.reduceNe, Int.reduceBEq, Int.reduceToNat, ↓reduceIte, f30], by simp -implicitDefEqProofs only [go_sem, Nat.reduceEqDiff, Nat.reduceLT, Nat.reduceAdd, Nat.reduceMul, Int.reduceEq, Int.reduceLT, Int.reduceLE, Int.reduceNe, Int.reduceBEq, Int.reduceToNat, ↓reduceIte], hatM, hokG, by omega, by omega, by omega⟩
      · by_cases c9 : d % 4 = 1
        · have d7 : decide (((d % 4 : Nat) : Int) = 0) = false := by rw [dec_zero]; simp [c7]
          have d8 : decide (((d % 4 : Nat) : Int) = 1) = true := by rw [dec_one]; simp [c9]
          simp -implicitDefEqProofs only [go_sem, Nat.reduceEqDiff, Nat.reduceLT, Nat.reduceAdd, Nat.reduceMul, Int.reduceEq, Int.reduceLT, Int.reduceLE, Int.reduceNe, Int.reduceBEq, Int.reduceToNat, ↓reduceIte, f1, f5, f7, f8, f29, f30, f31, d6, dm, d7, d8, l10, xm]
          refine (begin_log hat5.1 (by omega)).mono ?_
          rintro rr H6 ⟨rfl, S6, hlog6, _, hf6⟩
          have hat6 := hat5.step hlog6 hf6
          simp -implicitDefEqProofs only [go_sem, Nat.reduceEqDiff, Nat.reduceLT, Nat.reduceAdd, Nat.reduceMul, Int.reduceEq, Int.reduceLT, Int.reduceLE, Int.reduceNe, Int.reduceBEq, Int.reduceToNat, ↓reduceIte, f1, f5, f7, f8, f29, f30, f31]
          refine (take_log hat6.1 (by rw [List.length_append]; simp; omega) (1 + sts.length)).mono ?_
          rintro rr H7 ⟨v7, rfl, hrow7, hfr7, s7⟩
          have hat7 := hat6.sub s7
          simp -implicitDefEqProofs only [go_sem, Nat.reduceEqDiff, Nat.reduceLT, Nat.reduceAdd, Nat.reduceMul, Int.reduceEq, Int.reduceLT, Int.reduceLE, Int.reduceNe, Int.reduceBEq, Int.reduceToNat, ↓reduceIte, f1, f5, f7, f8, f29, f30, f31]
          refine aop_mapUpdate (n := ((1 + sts.length : Nat) : Int)) (v := cv ⟨1 + sts.length, sts ++ [1], v7, v7⟩) Try.underlying81 Try.underlying23 hat7.2.1 (by simp -implicitDefEqProofs only [go_sem, Nat.reduceEqDiff, Nat.reduceLT, Nat.reduceAdd, Nat.reduceMul, Int.reduceEq, Int.reduceLT, Int.reduceLE, Int.reduceNe, Int.reduceBEq, Int.reduceToNat, ↓reduceIte, f7]) (by simp -implicitDefEqProofs only [go_sem, Nat.reduceEqDiff, Nat.reduceLT, Nat.reduceAdd, Nat.reduceMul, Int.reduceEq, Int.reduceLT, Int.reduceLE, Int.reduceNe, Int.reduceBEq, Int.reduceToNat, ↓reduceIte]) (by simp -implicitDefEqProofs only [go_sem, Nat.reduceEqDiff, Nat.reduceLT, Nat.reduceAdd, Nat.reduceMul, Int.reduceEq, Int.reduceLT, Int.reduceLE, Int.reduceNe, Int.reduceBEq, Int.reduceToNat, ↓reduceIte]; rfl) ?_
          intro HG hmap7 hf7
          obtain ⟨lvG, hlvG⟩ : ∃ lvG : Live, lvG = fun y => if y = 1 + sts.length then some ⟨1 + sts.length, sts ++ [1], v7, v7⟩ else lv y := ⟨_, rfl⟩
          have hatG : RestAt HG l S6 (sts ++ [1]) r _ lvG dv ts := hat7.map hmap7 hf7 fun u z hz => by
            rw [hlvG] at hz; dsimp only at hz
            split at hz
            · cases hz; exact hrow7
            · exact hat7.2.2.1 u z hz
          have hokG := hok.begin v7 v7
          rw [← hlvG] at hokG
          have hlG : (sts ++ [1]).length ≤ i + 1 := by rw [List.length_append]; simp; omega
          generalize sts ++ [1] = stsG at hatG hokG hlG
          generalize ps.put ((1 + sts.length : Nat) : Int) _ = psG at hatG hokG
          clear hlvG hat6 hmap7 hf7 hlog6 hf6 hat7 hrow7 hfr7 s7
          simp -implicitDefEqProofs only [go_sem, Nat.reduceEqDiff, Nat.reduceLT, Nat.reduceAdd, Nat.reduceMul, Int.reduceEq, Int.reduceLT, Int.reduceLE, Int.reduceNe, Int.reduceBEq, Int.reduceToNat, ↓reduceIte, f1, f5, f7, f8, f29, f30, f31]
          have i7 : i < 50 := c6
          refine AC.loop (RstJ w0 HG lvG l r i n (.slice (some ab) n c) (.slice sd sn sc) dv) (n := 60) ⟨0, .slice none 0 0, by omega, by simp -implicitDefEqProofs only [go_sem, Nat.reduceEqDiff, Nat.reduceLT, Nat.reduceAdd, Nat.reduceMul, Int.reduceEq, Int.reduceLT, Int.reduceLE, Int.reduceNe, Int.reduceBEq, Int.reduceToNat, ↓reduceIte, f1], by simp -implicitDefEqProofs only [go_sem, Nat.reduceEqDiff, Nat.reduceLT, Nat.reduceAdd, Nat.reduceMul, Int.reduceEq, Int.reduceLT, Int.reduceLE, Int.reduceNe, Int.reduceBEq, Int.reduceToNat, ↓reduceIte, f5], by simp -implicitDefEqProofs only [go_sem, Nat.reduceEqDiff, Nat.reduceLT, Nat.reduceAdd, Nat.reduceMul, Int.reduceEq, Int.reduceLT, Int.reduceLE, Int.reduceNe, Int.reduceBEq, Int.reduceToNat, ↓reduceIte, f7], by simp -implicitDefEqProofs only [go_sem, Nat.reduceEqDiff, Nat.reduceLT, Nat.reduceAdd, Nat.reduceMul, Int.reduceEq, Int.reduceLT, Int.reduceLE, Int.reduceNe, Int.reduceBEq, Int.reduceToNat, ↓reduceIte, f8], by simp -implicitDefEqProofs only [go_sem, Nat.reduceEqDiff, Nat.reduceLT, Nat.reduceAdd, Nat.reduceMul, Int.reduceEq, Int.reduceLT, Int.reduceLE, Int.reduceNe, Int.reduceBEq, Int.reduceToNat, ↓reduceIte], by simp -implicitDefEqProofs only [go_sem, Nat.reduceEqDiff, Nat.reduceLT, Nat.reduceAdd, Nat.reduceMul, Int.reduceEq, Int.reduceLT, Int.reduceLE, Int.reduceNe, Int.reduceBEq, Int.reduceToNat, ↓reduceIte], by simp -implicitDefEqProofs only [go_sem, Nat.reduceEqDiff, Nat.reduceLT, Nat.reduceAdd, Nat.reduceMul, Int.reduceEq, Int.reduceLT, Int.reduceLE, Int.reduceNe, Int.reduceBEq, Int.reduceToNat, ↓reduceIte, f29], by simp -implicitDefEqProofs only [go_sem, Nat.reduceEqDiff, Nat.reduceLT, Nat.reduceAdd, Nat.reduceMul, Int.reduceEq, Int.reduceLT, Int.reduceLE, Int.reduceNe, Int.reduceBEq, Int.reduceToNat, ↓reduceIte, f30], by simp -implicitDefEqProofs only [go_sem, Nat.reduceEqDiff, Nat.reduceLT, Nat.reduceAdd, Nat.reduceMul, Int.reduceEq, Int.reduceLT, Int.reduceLE, Int.reduceNe, Int.reduceBEq, Int.reduceToNat, ↓reduceIte, f31], by simp -implicitDefEqProofs only [go_sem, Nat.reduceEqDiff, Nat.reduceLT, Nat.reduceAdd, Nat.reduceMul, Int.reduceEq, Int.reduceLT, Int.reduceLE, Int.reduceNe, Int.reduceBEq, Int.reduceToNat, ↓reduceIte], ⟨by simp [allOf], .inl ⟨rfl, rfl⟩⟩, by simp [blk], Sub.refl _⟩ ?_
          clear f1 f5 f7 f8 f29 f30 f31
          rintro m2 F HL ⟨x, av, hx, f1, f5, f7, f8, f9, f14, f29, f30, f31, f69, hrow, hfr, sL⟩
          have hatL := hatG.sub sL
          by_cases cx : x < 60
          · have e1 : decide ((x : Int) < 60) = true := by simp; omega
            have e2 : IntKind.u64.wrap ((x : Int) + 1) = (x + 1 : Nat) := by rw [u64_in] <;> omega
            have hget := hokG.get x
            have hsucc := allOf_succ lvG x
            cases hlx : lvG x with
            | none =>
              rw [hlx] at hget hsucc
              simp only [Option.map_none] at hget
              simp only [Option.toList_none, List.append_nil] at hsucc
              simp -implicitDefEqProofs only [go_sem, Nat.reduceEqDiff, Nat.reduceLT, Nat.reduceAdd, Nat.reduceMul, Int.reduceEq, Int.reduceLT, Int.reduceLE, Int.reduceNe, Int.reduceBEq, Int.reduceToNat, ↓reduceIte, f1, f5, f7, f8, f9, f14, f29, f30, f31, f69, e1, lookK_int Try.underlying81 Try.underlying23 z66 hatL.2.1, hget, Option.getD_none, Option.isSome_none]
              refine newK_of ?_
              intro b16 HM hb16 hn16 h16 s16 g16
              simp -implicitDefEqProofs only [go_sem, Nat.reduceEqDiff, Nat.reduceLT, Nat.reduceAdd, Nat.reduceMul, Int.reduceEq, Int.reduceLT, Int.reduceLE, Int.reduceNe, Int.reduceBEq, Int.reduceToNat, ↓reduceIte, f1, f5, f7, f8, f9, f14, f29, f30, f31, f69]
              refine store_all h16 rfl (by simp [cell1_int, cell1_slice]) rfl ?_
              intro HN h16 g16'
              have sN : Sub HL HN := Sub.ne2 hn16 g16 g16'
              simp -implicitDefEqProofs only [go_sem, Nat.reduceEqDiff, Nat.reduceLT, Nat.reduceAdd, Nat.reduceMul, Int.reduceEq, Int.reduceLT, Int.reduceLE, Int.reduceNe, Int.reduceBEq, Int.reduceToNat, ↓reduceIte, f1, f5, f7, f8, f9, f14, f29, f30, f31, f69, e2]
              exact ⟨m2 - 1, by omega, x + 1, av, by omega, by simp -implicitDefEqProofs only [go_sem, Nat.reduceEqDiff, Nat.reduceLT, Nat.reduceAdd, Nat.reduceMul, Int.reduceEq, Int.reduceLT, Int.reduceLE, Int.reduceNe, Int.reduceBEq, Int.reduceToNat, ↓reduceIte, f1], by simp -implicitDefEqProofs only [go_sem, Nat.reduceEqDiff, Nat.reduceLT, Nat.reduceAdd, Nat.reduceMul, Int.reduceEq, Int.reduceLT, Int.reduceLE, Int.reduceNe, Int.reduceBEq, Int.reduceToNat, ↓reduceIte, f5], by simp -implicitDefEqProofs only [go_sem, Nat.reduceEqDiff, Nat.reduceLT, Nat.reduceAdd, Nat.reduceMul, Int.reduceEq, Int.reduceLT, Int.reduceLE, Int.reduceNe, Int.reduceBEq, Int.reduceToNat, ↓reduceIte, f7], by simp -implicitDefEqProofs only [go_sem, Nat.reduceEqDiff, Nat.reduceLT, Nat.reduceAdd, Nat.reduceMul, Int.reduceEq, Int.reduceLT, Int.reduceLE, Int.reduceNe, Int.reduceBEq, Int.reduceToNat, ↓reduceIte, f8], by simp -implicitDefEqProofs only [go_sem, Nat.reduceEqDiff, Nat.reduceLT, Nat.reduceAdd, Nat.reduceMul, Int.reduceEq, Int.reduceLT, Int.reduceLE, Int.reduceNe, Int.reduceBEq, Int.reduceToNat, ↓reduceIte, f9], by simp -implicitDefEqProofs only [go_sem, Nat.reduceEqDiff, Nat.reduceLT, Nat.reduceAdd, Nat.reduceMul, Int.reduceEq, Int.reduceLT, Int.reduceLE, Int.reduceNe, Int.reduceBEq, Int.reduceToNat, ↓reduceIte, f14], by simp -implicitDefEqProofs only [go_sem, Nat.reduceEqDiff, Nat.reduceLT, Nat.reduceAdd, Nat.reduceMul, Int.reduceEq, Int.reduceLT, Int.reduceLE, Int.reduceNe, Int.reduceBEq, Int.reduceToNat, ↓reduceIte, f29], by simp -implicitDefEqProofs only [go_sem, Nat.reduceEqDiff, Nat.reduceLT, Nat.reduceAdd, Nat.reduceMul, Int.reduceEq, Int.reduceLT, Int.reduceLE, Int.reduceNe, Int.reduceBEq, Int.reduceToNat, ↓reduceIte, f30], by simp -implicitDefEqProofs only [go_sem, Nat.reduceEqDiff, Nat.reduceLT, Nat.reduceAdd, Nat.reduceMul, Int.reduceEq, Int.reduceLT, Int.reduceLE, Int.reduceNe, Int.reduceBEq, Int.reduceToNat, ↓reduceIte, f31], by simp -implicitDefEqProofs only [go_sem, Nat.reduceEqDiff, Nat.reduceLT, Nat.reduceAdd, Nat.reduceMul, Int.reduceEq, Int.reduceLT, Int.reduceLE, Int.reduceNe, Int.reduceBEq, Int.reduceToNat, ↓reduceIte], by rw [hsucc]; exact hrow.keep fun b o _ hb => sN b o hb, hfr, sL.trans sN⟩
            | some z =>
              rw [hlx] at hget hsucc
              simp only [Option.map_some, cv] at hget
              simp only [Option.toList_some] at hsucc
              have hzr := hatL.2.2.1 x z hlx
              have hc1 : cell1 z.v = true := by obtain ⟨u1, u2, u⟩ := hzr.slice; rw [u]; exact cell1_slice
              simp -implicitDefEqProofs only [go_sem, Nat.reduceEqDiff, Nat.reduceLT, Nat.reduceAdd, Nat.reduceMul, Int.reduceEq, Int.reduceLT, Int.reduceLE, Int.reduceNe, Int.reduceBEq, Int.reduceToNat, ↓reduceIte, f1, f5, f7, f8, f9, f14, f29, f30, f31, f69, e1, lookK_int Try.underlying81 Try.underlying23 z66 hatL.2.1, hget, Option.getD_some]
              refine newK_of ?_
              intro b16 HM hb16 hn16 h16 s16 g16
              simp -implicitDefEqProofs only [go_sem, Nat.reduceEqDiff, Nat.reduceLT, Nat.reduceAdd, Nat.reduceMul, Int.reduceEq, Int.reduceLT, Int.reduceLE, Int.reduceNe, Int.reduceBEq, Int.reduceToNat, ↓reduceIte, f1, f5, f7, f8, f9, f14, f29, f30, f31, f69]
              refine store_all h16 rfl (by simp [cell1_int, hc1]) rfl ?_
              intro HN h16 g16'
              have sN : Sub HL HN := Sub.ne2 hn16 g16 g16'
              have l16 := ldc w0 h16 4
              have bs1 : bsCells Try.prog 66 1 #[(0, .agg #[.int .u64 (z.own : Int), .int .u64 (z.xmin : Int), .int .u64 (z.xmax : Int), z.v])] = some #[.int .u64 (z.own : Int), .int .u64 (z.xmin : Int), .int .u64 (z.xmax : Int), z.v] := by kernel_rfl
              simp -implicitDefEqProofs only [go_sem, Nat.reduceEqDiff, Nat.reduceLT, Nat.reduceAdd, Nat.reduceMul, Int.reduceEq, Int.reduceLT, Int.reduceLE, Int.reduceNe, Int.reduceBEq, Int.reduceToNat, ↓reduceIte, f1, f5, f7, f8, f9, f14, f29, f30, f31, f69, l16, ldK_agg, bs1]
              refine newK_of ?_
              intro nb HO hnb hnn h4 s4 g4
              simp -implicitDefEqProofs only [go_sem, Nat.reduceEqDiff, Nat.reduceLT, Nat.reduceAdd, Nat.reduceMul, Int.reduceEq, Int.reduceLT, Int.reduceLE, Int.reduceNe, Int.reduceBEq, Int.reduceToNat, ↓reduceIte, f1, f5, f7, f8, f9, f14, f29, f30, f31, f69]
              have hal := allOf_len lvG x
              refine aop_append_lit (t := 61) (x := .tmp 79) (y := .tmp 81) (c := 1) Try.underlying61 s66 b66 z66 rfl (v := av) (by simp -implicitDefEqProofs only [go_sem, Nat.reduceEqDiff, Nat.reduceLT, Nat.reduceAdd, Nat.reduceMul, Int.reduceEq, Int.reduceLT, Int.reduceLE, Int.reduceNe, Int.reduceBEq, Int.reduceToNat, ↓reduceIte]) ((hrow.keep (H' := HN) fun b o _ hb => sN b o hb).keep (H' := HO) fun b o _ hb => s4 b o hb) h4 (by simp -implicitDefEqProofs only [go_sem, Nat.reduceEqDiff, Nat.reduceLT, Nat.reduceAdd, Nat.reduceMul, Int.reduceEq, Int.reduceLT, Int.reduceLE, Int.reduceNe, Int.reduceBEq, Int.reduceToNat, ↓reduceIte]) rfl (by simp [cell1_int, hc1]) (by omega) (by omega) (by omega) ?_
              intro g HP hg hHP cap hrowP
              obtain ⟨sP, hgn, hgw⟩ := app_fresh (sL.trans (sN.trans s4)) hfr hg hHP
              simp -implicitDefEqProofs only [go_sem, Nat.reduceEqDiff, Nat.reduceLT, Nat.reduceAdd, Nat.reduceMul, Int.reduceEq, Int.reduceLT, Int.reduceLE, Int.reduceNe, Int.reduceBEq, Int.reduceToNat, ↓reduceIte, f1, f5, f7, f8, f9, f14, f29, f30, f31, f69, e2]
              refine ⟨m2 - 1, by omega, x + 1, .slice (some ⟨g, 0, none⟩) ((allOf lvG x).length + 1) cap, by omega, by simp -implicitDefEqProofs only [go_sem, Nat.reduceEqDiff, Nat.reduceLT, Nat.reduceAdd, Nat.reduceMul, Int.reduceEq, Int.reduceLT, Int.reduceLE, Int.reduceNe, Int.reduceBEq, Int.reduceToNat, ↓reduceIte, f1], by simp -implicitDefEqProofs only [go_sem, Nat.reduceEqDiff, Nat.reduceLT, Nat.reduceAdd, Nat.reduceMul, Int.reduceEq, Int.reduceLT, Int.reduceLE, Int.reduceNe, Int.reduceBEq, Int.reduceToNat, ↓reduceIte, f5], by simp -implicitDefEqProofs only [go_sem, Nat.reduceEqDiff, Nat.reduceLT, Nat.reduceAdd, Nat.reduceMul, Int.reduceEq, Int.reduceLT, Int.reduceLE, Int.reduceNe, Int.reduceBEq, Int.reduceToNat, ↓reduceIte, f7], by simp -implicitDefEqProofs only [go_sem, Nat.reduceEqDiff, Nat.reduceLT, Nat.reduceAdd, Nat.reduceMul, Int.reduceEq, Int.reduceLT, Int.reduceLE, Int.reduceNe, Int.reduceBEq, Int.reduceToNat, ↓reduceIte, f8], by simp -implicitDefEqProofs only [go_sem, Nat.reduceEqDiff, Nat.reduceLT, Nat.reduceAdd, Nat.reduceMul, Int.reduceEq, Int.reduceLT, Int.reduceLE, Int.reduceNe, Int.reduceBEq, Int.reduceToNat, ↓reduceIte, f9], by simp -implicitDefEqProofs only [go_sem, Nat.reduceEqDiff, Nat.reduceLT, Nat.reduceAdd, Nat.reduceMul, Int.reduceEq, Int.reduceLT, Int.reduceLE, Int.reduceNe, Int.reduceBEq, Int.reduceToNat, ↓reduceIte], by simp -implicitDefEqProofs only [go_sem, Nat.reduceEqDiff, Nat.reduceLT, Nat.reduceAdd, Nat.reduceMul, Int.reduceEq, Int.reduceLT, Int.reduceLE, Int.reduceNe, Int.reduceBEq, Int.reduceToNat, ↓reduceIte, f29], by simp -implicitDefEqProofs only [go_sem, Nat.reduceEqDiff, Nat.reduceLT, Nat.reduceAdd, Nat.reduceMul, Int.reduceEq, Int.reduceLT, Int.reduceLE, Int.reduceNe, Int.reduceBEq, Int.reduceToNat, ↓reduceIte, f30], by simp -implicitDefEqProofs only [go_sem, Nat.reduceEqDiff, Nat.reduceLT, Nat.reduceAdd, Nat.reduceMul, Int.reduceEq, Int.reduceLT, Int.reduceLE, Int.reduceNe, Int.reduceBEq, Int.reduceToNat, ↓reduceIte, f31], by simp -implicitDefEqProofs only [go_sem, Nat.reduceEqDiff, Nat.reduceLT, Nat.reduceAdd, Nat.reduceMul, Int.reduceEq, Int.reduceLT, Int.reduceLE, Int.reduceNe, Int.reduceBEq, Int.reduceToNat, ↓reduceIte], ?_, ?_, sP⟩
              · rw [hsucc, List.length_append, List.length_singleton, List.flatMap_append, List.flatMap_cons, List.flatMap_nil, List.append_nil]
                exact hrowP
              · intro b hb
                simp only [blk, Option.some.injEq] at hb
                subst hb; exact ⟨hgn, hgw⟩
          · have e1 : decide ((x : Int) < 60) = false := by simp; omega
            have hx60 : x = 60 := by omega
            subst hx60
            have hal := allOf_len lvG 60
            obtain ⟨td, tc, htd⟩ := hatL.2.2.2.slice
            simp -implicitDefEqProofs only [go_sem, Nat.reduceEqDiff, Nat.reduceLT, Nat.reduceAdd, Nat.reduceMul, Int.reduceEq, Int.reduceLT, Int.reduceLE, Int.reduceNe, Int.reduceBEq, Int.reduceToNat, ↓reduceIte, f1, f5, f7, f8, f9, f14, f29, f30, f31, f69, e1]
            refine (horizon_log hatL.1 (by omega) hrow (by omega) (fun z hz => by
              obtain ⟨u, _, hu⟩ := mem_allOf.1 hz
              obtain ⟨u1, u2, u3⟩ := (hatL.2.2.1 u z hu).slice
              rw [u3]; exact cell1_slice)).mono ?_
            rintro rr HL' ⟨rfl, rfl⟩
            have hchk : ∀ {t : Nat × Nat}, t ∈ ts → deadB 1 stsG t.1 t.2 (hzn (1 + stsG.length) ((allOf lvG 60).map Shot.xmin)) = true := fun ht => hokG.check ht 60
            have hmore : ∀ {a b : Nat}, deadB 1 stsG a b (hzn (1 + stsG.length) ((allOf lvG 60).map Shot.xmin)) = true → RestOk stsG psG lvG (ts ++ [(a, b)]) := fun hd => hokG.more (by omega) hd
            generalize hzn (1 + stsG.length) ((allOf lvG 60).map Shot.xmin) = hz at hchk hmore ⊢
            simp -implicitDefEqProofs only [go_sem, Nat.reduceEqDiff, Nat.reduceLT, Nat.reduceAdd, Nat.reduceMul, Int.reduceEq, Int.reduceLT, Int.reduceLE, Int.reduceNe, Int.reduceBEq, Int.reduceToNat, ↓reduceIte, f1, f5, f7, f8, f9, f14, f29, f30, f31, f69, htd]
            rw [← htd]
            refine AC.loopH (RstK w0 HL' l r i n hz ts.length (.slice (some ab) n c) (.slice sd sn sc) dv) (n := ts.length) ⟨0, by omega, by simp -implicitDefEqProofs only [go_sem, Nat.reduceEqDiff, Nat.reduceLT, Nat.reduceAdd, Nat.reduceMul, Int.reduceEq, Int.reduceLT, Int.reduceLE, Int.reduceNe, Int.reduceBEq, Int.reduceToNat, ↓reduceIte, f1], by simp -implicitDefEqProofs only [go_sem, Nat.reduceEqDiff, Nat.reduceLT, Nat.reduceAdd, Nat.reduceMul, Int.reduceEq, Int.reduceLT, Int.reduceLE, Int.reduceNe, Int.reduceBEq, Int.reduceToNat, ↓reduceIte, f5], by simp -implicitDefEqProofs only [go_sem, Nat.reduceEqDiff, Nat.reduceLT, Nat.reduceAdd, Nat.reduceMul, Int.reduceEq, Int.reduceLT, Int.reduceLE, Int.reduceNe, Int.reduceBEq, Int.reduceToNat, ↓reduceIte, f7], by simp -implicitDefEqProofs only [go_sem, Nat.reduceEqDiff, Nat.reduceLT, Nat.reduceAdd, Nat.reduceMul, Int.reduceEq, Int.reduceLT, Int.reduceLE, Int.reduceNe, Int.reduceBEq, Int.reduceToNat, ↓reduceIte, f8, htd], by simp -implicitDefEqProofs only [go_sem, Nat.reduceEqDiff, Nat.reduceLT, Nat.reduceAdd, Nat.reduceMul, Int.reduceEq, Int.reduceLT, Int.reduceLE, Int.reduceNe, Int.reduceBEq, Int.reduceToNat, ↓reduceIte, f9], by simp -implicitDefEqProofs only [go_sem, Nat.reduceEqDiff, Nat.reduceLT, Nat.reduceAdd, Nat.reduceMul, Int.reduceEq, Int.reduceLT, Int.reduceLE, Int.reduceNe, Int.reduceBEq, Int.reduceToNat, ↓reduceIte], by simp -implicitDefEqProofs only [go_sem, Nat.reduceEqDiff, Nat.reduceLT, Nat.reduceAdd, Nat.reduceMul, Int.reduceEq, Int.reduceLT, Int.reduceLE, Int.reduceNe, Int.reduceBEq, Int.reduceToNat, ↓reduceIte, f29], by simp -implicitDefEqProofs only [go_sem, Nat.reduceEqDiff, Nat.reduceLT, Nat.reduceAdd, Nat.reduceMul, Int.reduceEq, Int.reduceLT, Int.reduceLE, Int.reduceNe, Int.reduceBEq, Int.reduceToNat, ↓reduceIte, f30], by simp -implicitDefEqProofs only [go_sem, Nat.reduceEqDiff, Nat.reduceLT, Nat.reduceAdd, Nat.reduceMul, Int.reduceEq, Int.reduceLT, Int.reduceLE, Int.reduceNe, Int.reduceBEq, Int.reduceToNat, ↓reduceIte, f31], by simp -implicitDefEqProofs only [go_sem, Nat.reduceEqDiff, Nat.reduceLT, Nat.reduceAdd, Nat.reduceMul, Int.reduceEq, Int.reduceLT, Int.reduceLE, Int.reduceNe, Int.reduceBEq, Int.reduceToNat, ↓reduceIte, htd], by simp -implicitDefEqProofs only [go_sem, Nat.reduceEqDiff, Nat.reduceLT, Nat.reduceAdd, Nat.reduceMul, Int.reduceEq, Int.reduceLT, Int.reduceLE, Int.reduceNe, Int.reduceBEq, Int.reduceToNat, ↓reduceIte], by simp -implicitDefEqProofs only [go_sem, Nat.reduceEqDiff, Nat.reduceLT, Nat.reduceAdd, Nat.reduceMul, Int.reduceEq, Int.reduceLT, Int.reduceLE, Int.reduceNe, Int.reduceBEq, Int.reduceToNat, ↓reduceIte], Sub.refl _⟩ ?_
            clear f1 f5 f7 f8 f9 f14 f29 f30 f31 f69 hrow hfr htd td tc
            rintro m3 F HM ⟨j, hj, f1, f5, f7, f8, f9, f18, f29, f30, f31, f87, f88, f89, sM⟩ hhiM
            have hatM := hatL.sub sM
            by_cases cj : j < ts.length
            · have g1 : decide ((j : Int) < (ts.length : Int)) = true := by simp; omega
              have g0 : decide ((0 : Int) ≤ (j : Int)) = true := by simp
              have g2 : IntKind.i64.wrap ((j : Int) + 1) = (j + 1 : Nat) := by rw [i64_in] <;> omega
              have htj : ts[j]? = some ts[j] := by simp [cj]
              generalize ts[j] = t at htj
              obtain ⟨gt, capt, hvt, hlt, _⟩ := hatM.2.2.2.atc w0 rfl (fun t _ => tcs_len t) htj
              have hlt' : ldCells w0 HM ⟨gt, j * 6, none⟩ 0 6 = some [.int .u64 0, .int .u64 (t.1 : Int), .int .u64 (t.2 : Int), .int .i64 0, .int .i64 0, .slice none 0 0] := hlt
              simp -implicitDefEqProofs only [go_sem, Nat.reduceEqDiff, Nat.reduceLT, Nat.reduceAdd, Nat.reduceMul, Int.reduceEq, Int.reduceLT, Int.reduceLE, Int.reduceNe, Int.reduceBEq, Int.reduceToNat, ↓reduceIte, f1, f5, f7, f8, f9, f18, f29, f30, f31, f87, f88, f89, g1, g0, hvt, hlt', ldK_agg]
              refine newK_of ?_
              intro b20 HO hb20 hn20 h20 s20 g20
              simp -implicitDefEqProofs only [go_sem, Nat.reduceEqDiff, Nat.reduceLT, Nat.reduceAdd, Nat.reduceMul, Int.reduceEq, Int.reduceLT, Int.reduceLE, Int.reduceNe, Int.reduceBEq, Int.reduceToNat, ↓reduceIte, f1, f5, f7, f8, f9, f18, f29, f30, f31, f87, f88, f89]
              refine store_all h20 rfl (by simp [cell1_int, cell1_slice]) rfl ?_
              intro HP h20 g20'
              have sP : Sub HM HP := Sub.ne2 hn20 g20 g20'
              have l20 := ldc w0 h20 6
              simp -implicitDefEqProofs only [go_sem, Nat.reduceEqDiff, Nat.reduceLT, Nat.reduceAdd, Nat.reduceMul, Int.reduceEq, Int.reduceLT, Int.reduceLE, Int.reduceNe, Int.reduceBEq, Int.reduceToNat, ↓reduceIte, f1, f5, f7, f8, f9, f18, f29, f30, f31, f87, f88, f89, l20, ldK_agg]
              refine (dead_log (hatM.sub sP).1 (by omega) t.1 t.2 hz).mono ?_
              rintro rr HQ ⟨rfl, rfl⟩
              rw [hchk (List.mem_of_getElem? htj)]
              simp -implicitDefEqProofs only [go_sem, Nat.reduceEqDiff, Nat.reduceLT, Nat.reduceAdd, Nat.reduceMul, Int.reduceEq, Int.reduceLT, Int.reduceLE, Int.reduceNe, Int.reduceBEq, Int.reduceToNat, ↓reduceIte, f1, f5, f7, f8, f9, f18, f29, f30, f31, f87, f88, f89, g2]
              exact ⟨m3 - 1, by omega, j + 1, by omega, by simp -implicitDefEqProofs only [go_sem, Nat.reduceEqDiff, Nat.reduceLT, Nat.reduceAdd, Nat.reduceMul, Int.reduceEq, Int.reduceLT, Int.reduceLE, Int.reduceNe, Int.reduceBEq, Int.reduceToNat, ↓reduceIte, f1], by simp -implicitDefEqProofs only [go_sem, Nat.reduceEqDiff, Nat.reduceLT, Nat.reduceAdd, Nat.reduceMul, Int.reduceEq, Int.reduceLT, Int.reduceLE, Int.reduceNe, Int.reduceBEq, Int.reduceToNat, ↓reduceIte, f5], by simp -implicitDefEqProofs only [go_sem, Nat.reduceEqDiff, Nat.reduceLT, Nat.reduceAdd, Nat.reduceMul, Int.reduceEq, Int.reduceLT, Int.reduceLE, Int.reduceNe, Int.reduceBEq, Int.reduceToNat, ↓reduceIte, f7], by simp -implicitDefEqProofs only [go_sem, Nat.reduceEqDiff, Nat.reduceLT, Nat.reduceAdd, Nat.reduceMul, Int.reduceEq, Int.reduceLT, Int.reduceLE, Int.reduceNe, Int.reduceBEq, Int.reduceToNat, ↓reduceIte, f8, hvt], by simp -implicitDefEqProofs only [go_sem, Nat.reduceEqDiff, Nat.reduceLT, Nat.reduceAdd, Nat.reduceMul, Int.reduceEq, Int.reduceLT, Int.reduceLE, Int.reduceNe, Int.reduceBEq, Int.reduceToNat, ↓reduceIte, f9], by simp -implicitDefEqProofs only [go_sem, Nat.reduceEqDiff, Nat.reduceLT, Nat.reduceAdd, Nat.reduceMul, Int.reduceEq, Int.reduceLT, Int.reduceLE, Int.reduceNe, Int.reduceBEq, Int.reduceToNat, ↓reduceIte, f18], by simp -implicitDefEqProofs only [go_sem, Nat.reduceEqDiff, Nat.reduceLT, Nat.reduceAdd, Nat.reduceMul, Int.reduceEq, Int.reduceLT, Int.reduceLE, Int.reduceNe, Int.reduceBEq, Int.reduceToNat, ↓reduceIte, f29], by simp -implicitDefEqProofs only [go_sem, Nat.reduceEqDiff, Nat.reduceLT, Nat.reduceAdd, Nat.reduceMul, Int.reduceEq, Int.reduceLT, Int.reduceLE, Int.reduceNe, Int.reduceBEq, Int.reduceToNat, ↓reduceIte, f30], by simp -implicitDefEqProofs only [go_sem, Nat.reduceEqDiff, Nat.reduceLT, Nat.reduceAdd, Nat.reduceMul, Int.reduceEq, Int.reduceLT, Int.reduceLE, Int.reduceNe, Int.reduceBEq, Int.reduceToNat, ↓reduceIte, f31], by simp -implicitDefEqProofs only [go_sem, Nat.reduceEqDiff, Nat.reduceLT, Nat.reduceAdd, Nat.reduceMul, Int.reduceEq, Int.reduceLT, Int.reduceLE, Int.reduceNe, Int.reduceBEq, Int.reduceToNat, ↓reduceIte, f87, hvt], by simp -implicitDefEqProofs only [go_sem, Nat.reduceEqDiff, Nat.reduceLT, Nat.reduceAdd, Nat.reduceMul, Int.reduceEq, Int.reduceLT, Int.reduceLE, Int.reduceNe, Int.reduceBEq, Int.reduceToNat, ↓reduceIte, f88], by simp -implicitDefEqProofs only [go_sem, Nat.reduceEqDiff, Nat.reduceLT, Nat.reduceAdd, Nat.reduceMul, Int.reduceEq, Int.reduceLT, Int.reduceLE, Int.reduceNe, Int.reduceBEq, Int.reduceToNat, ↓reduceIte], sM.trans sP⟩
            · have g1 : decide ((j : Int) < (ts.length : Int)) = false := by simp; omega
              by_cases ci : i < sn
              · have g3 : decide ((i : Int) < (sn : Int)) = true := by rw [dec_lt]; simp [ci]
                have g4 : decide ((i : Int) < 50) = true := by simp; omega
                obtain ⟨sb, hsb, A0, B0, hA0, hB0, hd0, hd1⟩ := hst i ci
                have la0 : (sb.add (i * 2)).add 0 = sb.add (i * 2) := rfl
                have la := ld_arg hhiM hd0
                rw [la0] at la
                have lb0 : (sb.add (i * 2)).add 1 = ⟨(sb.add (i * 2)).block, (sb.add (i * 2)).off + 1, none⟩ := rfl
                have lb := ld_arg hhiM hd1
                rw [lb0] at lb
                have i0 : (0 : Int).toNat = 0 := rfl
                have i1 : (1 : Int).toNat = 1 := rfl
                have mA : (A0 : Int).tmod 50 = ((A0 % 50 : Nat) : Int) := by rw [Int.tmod_eq_emod_of_nonneg (by omega)]; omega
                have mB : (B0 : Int).tmod 50 = ((B0 % 50 : Nat) : Int) := by rw [Int.tmod_eq_emod_of_nonneg (by omega)]; omega
                simp -implicitDefEqProofs only [go_sem, Nat.reduceEqDiff, Nat.reduceLT, Nat.reduceAdd, Nat.reduceMul, Int.reduceEq, Int.reduceLT, Int.reduceLE, Int.reduceNe, Int.reduceBEq, Int.reduceToNat, ↓reduceIte, f1, f5, f7, f8, f9, f18, f29, f30, f31, f87, f88, f89, g1, g3, g4]
                refine vdraw_t [⟨0, .p, [], []⟩, ⟨1, .p, [], []⟩, ⟨2, .p, [], []⟩, ⟨3, .p, [], []⟩, ⟨4, .n, [], []⟩, ⟨5, .p, [], []⟩, ⟨6, .p, [], []⟩, ⟨7, .p, [], []⟩, ⟨8, .p, [], []⟩, ⟨9, .p, [], []⟩, ⟨10, .n, [], []⟩, ⟨11, .p, [], []⟩, ⟨12, .c, [], []⟩, ⟨13, .a, [], []⟩, ⟨14, .c, [], []⟩] [0, 0, 3, 7, 15, 31, 0, 0, 192, 448, 960, 1984, 4095, 0, 16383] mixed (by kernel_rfl) ?_
                simp -implicitDefEqProofs only [go_sem, Nat.reduceEqDiff, Nat.reduceLT, Nat.reduceAdd, Nat.reduceMul, Int.reduceEq, Int.reduceLT, Int.reduceLE, Int.reduceNe, Int.reduceBEq, Int.reduceToNat, ↓reduceIte, f1, f5, f7, f8, f9, f18, f29, f30, f31, f87, f88, f89, g3, d0, hsb, la, lb, i0, i1, Nat.zero_mul, Nat.one_mul, mA, mB]
                refine (tuple_ok w0 _ (A0 % 50) (B0 % 50)).mono ?_
                rintro rr HM' ⟨rfl, rfl⟩
                simp -implicitDefEqProofs only [go_sem, Nat.reduceEqDiff, Nat.reduceLT, Nat.reduceAdd, Nat.reduceMul, Int.reduceEq, Int.reduceLT, Int.reduceLE, Int.reduceNe, Int.reduceBEq, Int.reduceToNat, ↓reduceIte, f1, f5, f7, f8, f9, f18, f29, f30, f31, f87, f88, f89, g3, d0, hsb, la, lb, i0, i1, Nat.zero_mul, Nat.one_mul, mA, mB]
                refine newK_of ?_
                intro b21 HO hb21 hn21 h21 s21 g21
                simp -implicitDefEqProofs only [go_sem, Nat.reduceEqDiff, Nat.reduceLT, Nat.reduceAdd, Nat.reduceMul, Int.reduceEq, Int.reduceLT, Int.reduceLE, Int.reduceNe, Int.reduceBEq, Int.reduceToNat, ↓reduceIte, f1, f5, f7, f8, f9, f18, f29, f30, f31, f87, f88, f89]
                refine store_all h21 rfl (by simp [cell1_int, cell1_slice]) rfl ?_
                intro HP h21 g21'
                have sP : Sub HM' HP := Sub.ne2 hn21 g21 g21'
                have l21 := ldc w0 h21 6
                obtain ⟨A, eA⟩ : ∃ A, A = A0 % 50 := ⟨_, rfl⟩
                obtain ⟨B, eB⟩ : ∃ B, B = B0 % 50 := ⟨_, rfl⟩
                rw [← eA, ← eB] at l21
                simp -implicitDefEqProofs only [go_sem, Nat.reduceEqDiff, Nat.reduceLT, Nat.reduceAdd, Nat.reduceMul, Int.reduceEq, Int.reduceLT, Int.reduceLE, Int.reduceNe, Int.reduceBEq, Int.reduceToNat, ↓reduceIte, f1, f5, f7, f8, f9, f18, f29, f30, f31, f87, f88, f89, l21, ldK_agg]
                have hatP := hatM.sub sP
                refine (dead_log hatP.1 (by omega) A B hz).mono ?_
                rintro rr HQ ⟨rfl, rfl⟩
                cases hd : deadB 1 stsG A B hz
                · simp -implicitDefEqProofs only [go_sem, Nat.reduceEqDiff, Nat.reduceLT, Nat.reduceAdd, Nat.reduceMul, Int.reduceEq, Int.reduceLT, Int.reduceLE, Int.reduceNe, Int.reduceBEq, Int.reduceToNat, ↓reduceIte, f1, f5, f7, f8, f9, f18, f29, f30, f31, f87, f88, f89, d2]
                  exact ⟨m - 1, by omega, i + 1, _, stsG, psG, lvG, dv, ts, by omega, by simp -implicitDefEqProofs only [go_sem, Nat.reduceEqDiff, Nat.reduceLT, Nat.reduceAdd, Nat.reduceMul, Int.reduceEq, Int.reduceLT, Int.reduceLE, Int.reduceNe, Int.reduceBEq, Int.reduceToNat, ↓reduceIte, f1, hsb], by simp -implicitDefEqProofs only [go_sem, Nat.reduceEqDiff, Nat.reduceLT, Nat.reduceAdd, Nat.reduceMul, Int.reduceEq, Int.reduceLT, Int.reduceLE, Int.reduceNe, Int.reduceBEq, Int.reduceToNat, ↓reduceIte, f5], by simp -implicitDefEqProofs only [go_sem, Nat.reduceEqDiff, Nat.reduceLT, Nat.reduceAdd, Nat.reduceMul, Int.reduceEq, Int.reduceLT, Int.reduceLE, Int.reduceNe, Int.reduceBEq, Int.reduceToNat, ↓reduceIte, f7], by simp -implicitDefEqProofs only [go_sem, Nat.reduceEqDiff, Nat.reduceLT, Nat.reduceAdd, Nat.reduceMul, Int.reduceEq, Int.reduceLT, Int.reduceLE, Int.reduceNe, Int.reduceBEq, Int.reduceToNat, ↓reduceIte, f8], by simp -implicitDefEqProofs only [go_sem, Nat.reduceEqDiff, Nat.reduceLT, Nat.reduceAdd, Nat.reduceMul, Int.reduceEq, Int.reduceLT, Int.reduceLE, Int.reduceNe, Int.reduceBEq, Int.reduceToNat, ↓reduceIte, f29], by simp -implicitDefEqProofs only [go_sem, Nat.reduceEqDiff, Nat.reduceLT, Nat.reduceAdd, Nat.reduceMul, Int.reduceEq, Int.reduceLT, Int.reduceLE, Int.reduceNe, Int.reduceBEq, Int.reduceToNat, ↓reduceIte, f30], by simp -implicitDefEqProofs only [go_sem, Nat.reduceEqDiff, Nat.reduceLT, Nat.reduceAdd, Nat.reduceMul, Int.reduceEq, Int.reduceLT, Int.reduceLE, Int.reduceNe, Int.reduceBEq, Int.reduceToNat, ↓reduceIte], hatP, hokG, by omega, by omega, by omega⟩
                · have bs1 : bsCells Try.prog 76 1 #[(0, .agg #[.int .u64 0, .int .u64 (A : Int), .int .u64 (B : Int), .int .i64 0, .int .i64 0, .slice none 0 0])] = some (tcs (A, B)).toArray := by kernel_rfl
                  simp -implicitDefEqProofs only [go_sem, Nat.reduceEqDiff, Nat.reduceLT, Nat.reduceAdd, Nat.reduceMul, Int.reduceEq, Int.reduceLT, Int.reduceLE, Int.reduceNe, Int.reduceBEq, Int.reduceToNat, ↓reduceIte, f1, f5, f7, f8, f9, f18, f29, f30, f31, f87, f88, f89, l21, ldK_agg, bs1]
                  refine newK_of ?_
                  intro nb HR hnb hnn h4 s4 g4
                  simp -implicitDefEqProofs only [go_sem, Nat.reduceEqDiff, Nat.reduceLT, Nat.reduceAdd, Nat.reduceMul, Int.reduceEq, Int.reduceLT, Int.reduceLE, Int.reduceNe, Int.reduceBEq, Int.reduceToNat, ↓reduceIte, f1, f5, f7, f8, f9, f18, f29, f30, f31, f87, f88, f89]
                  have hrowR := hatP.2.2.2.keep (H' := HR) fun b o _ hb => s4 b o hb
                  refine aop_append_lit (t := 72) (x := .tmp 124) (y := .tmp 126) (c := 1) Try.underlying72 s76 b76 z76 rfl (v := dv) (by simp -implicitDefEqProofs only [go_sem, Nat.reduceEqDiff, Nat.reduceLT, Nat.reduceAdd, Nat.reduceMul, Int.reduceEq, Int.reduceLT, Int.reduceLE, Int.reduceNe, Int.reduceBEq, Int.reduceToNat, ↓reduceIte]) hrowR h4 (by simp -implicitDefEqProofs only [go_sem, Nat.reduceEqDiff, Nat.reduceLT, Nat.reduceAdd, Nat.reduceMul, Int.reduceEq, Int.reduceLT, Int.reduceLE, Int.reduceNe, Int.reduceBEq, Int.reduceToNat, ↓reduceIte]) rfl (by simp [tcs, cell1_int, cell1_slice]) (by omega) (by omega) (by omega) ?_
                  intro g HT hg hHT cap hrowT
                  have kT : ∀ b o, tyAt HQ b ≠ some 76 → HQ b = some o → HT b = some o := by
                    intro b o ht ho
                    have : b ≠ g := by
                      rintro rfl
                      rcases hg with e | ⟨e, _⟩
                      · exact ht (Row.tyAt hatP.2.2.2 e.symm)
                      · rw [s4 _ _ ho] at e; cases e
                    rw [hHT b this]; exact s4 b o ho
                  obtain ⟨u1, u2, u3, u4⟩ := hatP
                  simp -implicitDefEqProofs only [go_sem, Nat.reduceEqDiff, Nat.reduceLT, Nat.reduceAdd, Nat.reduceMul, Int.reduceEq, Int.reduceLT, Int.reduceLE, Int.reduceNe, Int.reduceBEq, Int.reduceToNat, ↓reduceIte, f1, f5, f7, f8, f9, f18, f29, f30, f31, f87, f88, f89, d2]
                  refine ⟨m - 1, by omega, i + 1, _, stsG, psG, lvG, .slice (some ⟨g, 0, none⟩) (ts.length + 1) cap, ts ++ [(A, B)], by omega, by simp -implicitDefEqProofs only [go_sem, Nat.reduceEqDiff, Nat.reduceLT, Nat.reduceAdd, Nat.reduceMul, Int.reduceEq, Int.reduceLT, Int.reduceLE, Int.reduceNe, Int.reduceBEq, Int.reduceToNat, ↓reduceIte, f1, hsb], by simp -implicitDefEqProofs only [go_sem, Nat.reduceEqDiff, Nat.reduceLT, Nat.reduceAdd, Nat.reduceMul, Int.reduceEq, Int.reduceLT, Int.reduceLE, Int.reduceNe, Int.reduceBEq, Int.reduceToNat, ↓reduceIte, f5], by simp -implicitDefEqProofs only [go_sem, Nat.reduceEqDiff, Nat.reduceLT, Nat.reduceAdd, Nat.reduceMul, Int.reduceEq, Int.reduceLT, Int.reduceLE, Int.reduceNe, Int.reduceBEq, Int.reduceToNat, ↓reduceIte, f7], by simp -implicitDefEqProofs only [go_sem, Nat.reduceEqDiff, Nat.reduceLT, Nat.reduceAdd, Nat.reduceMul, Int.reduceEq, Int.reduceLT, Int.reduceLE, Int.reduceNe, Int.reduceBEq, Int.reduceToNat, ↓reduceIte], by simp -implicitDefEqProofs only [go_sem, Nat.reduceEqDiff, Nat.reduceLT, Nat.reduceAdd, Nat.reduceMul, Int.reduceEq, Int.reduceLT, Int.reduceLE, Int.reduceNe, Int.reduceBEq, Int.reduceToNat, ↓reduceIte, f29], by simp -implicitDefEqProofs only [go_sem, Nat.reduceEqDiff, Nat.reduceLT, Nat.reduceAdd, Nat.reduceMul, Int.reduceEq, Int.reduceLT, Int.reduceLE, Int.reduceNe, Int.reduceBEq, Int.reduceToNat, ↓reduceIte, f30], by simp -implicitDefEqProofs only [go_sem, Nat.reduceEqDiff, Nat.reduceLT, Nat.reduceAdd, Nat.reduceMul, Int.reduceEq, Int.reduceLT, Int.reduceLE, Int.reduceNe, Int.reduceBEq, Int.reduceToNat, ↓reduceIte], ⟨u1.keep fun b o hb ho => kT b o (by rcases u1.ty hb with e | e <;> rw [e] <;> decide) ho, u2.keep fun o ho => kT r o (by rw [imap_ty u2]; exact fun e => by cases e) ho, fun x z hz => (u3 x z hz).keep fun b o hb ho => kT b o (by rw [Row.tyAt (u3 x z hz) hb]; decide) ho, ?_⟩, hmore hd, by omega, by rw [List.length_append, List.length_singleton]; omega, by omega⟩
                  rw [List.length_append, List.length_singleton, List.flatMap_append, List.flatMap_cons, List.flatMap_nil, List.append_nil]
                  exact hrowT
              · have g3 : decide ((i : Int) < (sn : Int)) = false := by rw [dec_lt]; simp; omega
                simp -implicitDefEqProofs only [go_sem, Nat.reduceEqDiff, Nat.reduceLT, Nat.reduceAdd, Nat.reduceMul, Int.reduceEq, Int.reduceLT, Int.reduceLE, Int.reduceNe, Int.reduceBEq, Int.reduceToNat, ↓reduceIte, f1, f5, f7, f8, f9, f18, f29, f30, f31, f87, f88, f89, g1, g3, d2]
                exact ⟨m - 1, by omega, i + 1, _, stsG, psG, lvG, dv, ts, by omega, by simp -implicitDefEqProofs only [go_sem, Nat.reduceEqDiff, Nat.reduceLT, Nat.reduceAdd, Nat.reduceMul, Int.reduceEq, Int.reduceLT, Int.reduceLE, Int.reduceNe, Int.reduceBEq, Int.reduceToNat, ↓reduceIte, f1], by simp -implicitDefEqProofs only [go_sem, Nat.reduceEqDiff, Nat.reduceLT, Nat.reduceAdd, Nat.reduceMul, Int.reduceEq, Int.reduceLT, Int.reduceLE, Int.reduceNe, Int.reduceBEq, Int.reduceToNat, ↓reduceIte, f5], by simp -implicitDefEqProofs only [go_sem, Nat.reduceEqDiff, Nat.reduceLT, Nat.reduceAdd, Nat.reduceMul, Int.reduceEq, Int.reduceLT, Int.reduceLE, Int.reduceNe, Int.reduceBEq, Int.reduceToNat, ↓reduceIte, f7], by simp -implicitDefEqProofs only [go_sem, Nat.reduceEqDiff, Nat.reduceLT, Nat.reduceAdd, Nat.reduceMul, Int.reduceEq, Int.reduceLT, Int.reduceLE, Int.reduceNe, Int.reduceBEq, Int.reduceToNat, ↓reduceIte, f8], by simp -implicitDefEqProofs only [go_sem, Nat.reduceEqDiff, Nat.reduceLT, Nat.reduceAdd, Nat.reduceMul, Int.reduceEq, Int.reduceLT, Int.reduceLE, Int.reduceNe, Int.reduceBEq, Int.reduceToNat, ↓reduceIte, f29], by simp -implicitDefEqProofs only [go_sem, Nat.reduceEqDiff, Nat.reduceLT, Nat.reduceAdd, Nat.reduceMul, Int.reduceEq, Int.reduceLT, Int.reduceLE, Int.reduceNe, Int.reduceBEq, Int.reduceToNat, ↓reduceIte, f30], by simp -implicitDefEqProofs only [go_sem, Nat.reduceEqDiff, Nat.reduceLT, Nat.reduceAdd, Nat.reduceMul, Int.reduceEq, Int.reduceLT, Int.reduceLE, Int.reduceNe, Int.reduceBEq, Int.reduceToNat, ↓reduceIte], hatM, hokG, by omega, by omega, by omega⟩
        have d7 : decide (((d % 4 : Nat) : Int) = 0) = false := by rw [dec_zero]; simp; omega
        have d8 : decide (((d % 4 : Nat) : Int) = 1) = false := by rw [dec_one]; simp; omega
        by_cases c8 : d % 4 = 2
        · have d9 : decide (((d % 4 : Nat) : Int) = 2) = true := by rw [dec_two]; simp [c8]
          simp -implicitDefEqProofs only [go_sem, Nat.reduceEqDiff, Nat.reduceLT, Nat.reduceAdd, Nat.reduceMul, Int.reduceEq, Int.reduceLT, Int.reduceLE, Int.reduceNe, Int.reduceBEq, Int.reduceToNat, ↓reduceIte, f1, f5, f7, f8, f29, f30, f31, d6, dm, d7, d8, d9, l10, xm]
          refine (commit_log hat5.1 (by omega) (x := ((x' % 50 : Nat) : Int)) (by omega)).mono ?_
          rintro rr H6 ⟨rfl, hlog6, hf6⟩
          have hat6 := hat5.step hlog6 hf6
          simp -implicitDefEqProofs only [go_sem, Nat.reduceEqDiff, Nat.reduceLT, Nat.reduceAdd, Nat.reduceMul, Int.reduceEq, Int.reduceLT, Int.reduceLE, Int.reduceNe, Int.reduceBEq, Int.reduceToNat, ↓reduceIte, f1, f5, f7, f8, f29, f30, f31]
          refine aop_delete (n := ((x' % 50 : Nat) : Int)) Try.underlying81 Try.underlying23 hat6.2.1 (by simp -implicitDefEqProofs only [go_sem, Nat.reduceEqDiff, Nat.reduceLT, Nat.reduceAdd, Nat.reduceMul, Int.reduceEq, Int.reduceLT, Int.reduceLE, Int.reduceNe, Int.reduceBEq, Int.reduceToNat, ↓reduceIte, f7]) (by simp -implicitDefEqProofs only [go_sem, Nat.reduceEqDiff, Nat.reduceLT, Nat.reduceAdd, Nat.reduceMul, Int.reduceEq, Int.reduceLT, Int.reduceLE, Int.reduceNe, Int.reduceBEq, Int.reduceToNat, ↓reduceIte]) ?_
          intro HG hmap7 hf7
          obtain ⟨lvG, hlvG⟩ : ∃ lvG : Live, lvG = fun u => if u = x' % 50 then none else lv u := ⟨_, rfl⟩
          have hatG : RestAt HG l S (endSts 1 sts ((x' % 50 : Nat) : Int) 2) r _ lvG dv ts := hat6.map hmap7 hf7 fun u z hz => by
            rw [hlvG] at hz; dsimp only at hz
            split at hz
            · cases hz
            · exact hat6.2.2.1 u z hz
          have hokG := hok.fin (x' % 50) 2 (by omega)
          rw [← hlvG] at hokG
          have hlG : (endSts 1 sts ((x' % 50 : Nat) : Int) 2).length ≤ i + 1 := by rw [endSts_len]; omega
          generalize endSts 1 sts ((x' % 50 : Nat) : Int) 2 = stsG at hatG hokG hlG
          generalize ps.del ((x' % 50 : Nat) : Int) = psG at hatG hokG
          clear hlvG hat6 hmap7 hf7 hlog6 hf6
          simp -implicitDefEqProofs only [go_sem, Nat.reduceEqDiff, Nat.reduceLT, Nat.reduceAdd, Nat.reduceMul, Int.reduceEq, Int.reduceLT, Int.reduceLE, Int.reduceNe, Int.reduceBEq, Int.reduceToNat, ↓reduceIte, f1, f5, f7, f8, f29, f30, f31]
          have i7 : i < 50 := c6
          refine AC.loop (RstJ w0 HG lvG l r i n (.slice (some ab) n c) (.slice sd sn sc) dv) (n := 60) ⟨0, .slice none 0 0, by omega, by simp -implicitDefEqProofs only [go_sem, Nat.reduceEqDiff, Nat.reduceLT, Nat.reduceAdd, Nat.reduceMul, Int.reduceEq, Int.reduceLT, Int.reduceLE, Int.reduceNe, Int.reduceBEq, Int.reduceToNat, ↓reduceIte, f1], by simp -implicitDefEqProofs only [go_sem, Nat.reduceEqDiff, Nat.reduceLT, Nat.reduceAdd, Nat.reduceMul, Int.reduceEq, Int.reduceLT, Int.reduceLE, Int.reduceNe, Int.reduceBEq, Int.reduceToNat, ↓reduceIte, f5], by simp -implicitDefEqProofs only [go_sem, Nat.reduceEqDiff, Nat.reduceLT, Nat.reduceAdd, Nat.reduceMul, Int.reduceEq, Int.reduceLT, Int.reduceLE, Int.reduceNe, Int.reduceBEq, Int.reduceToNat, ↓reduceIte, f7], by simp -implicitDefEqProofs only [go_sem, Nat.reduceEqDiff, Nat.reduceLT, Nat.reduceAdd, Nat.reduceMul, Int.reduceEq, Int.reduceLT, Int.reduceLE, Int.reduceNe, Int.reduceBEq, Int.reduceToNat, ↓reduceIte, f8], by simp -implicitDefEqProofs only [go_sem, Nat.reduceEqDiff, Nat.reduceLT, Nat.reduceAdd, Nat.reduceMul, Int.reduceEq, Int.reduceLT, Int.reduceLE, Int.reduceNe, Int.reduceBEq, Int.reduceToNat, ↓reduceIte], by simp -implicitDefEqProofs only [go_sem, Nat.reduceEqDiff, Nat.reduceLT, Nat.reduceAdd, Nat.reduceMul, Int.reduceEq, Int.reduceLT, Int.reduceLE, Int.reduceNe, Int.reduceBEq, Int.reduceToNat, ↓reduceIte], by simp -implicitDefEqProofs only [go_sem, Nat.reduceEqDiff, Nat.reduceLT, Nat.reduceAdd, Nat.reduceMul, Int.reduceEq, Int.reduceLT, Int.reduceLE, Int.reduceNe, Int.reduceBEq, Int.reduceToNat, ↓reduceIte, f29], by simp -implicitDefEqProofs only [go_sem, Nat.reduceEqDiff, Nat.reduceLT, Nat.reduceAdd, Nat.reduceMul, Int.reduceEq, Int.reduceLT, Int.reduceLE, Int.reduceNe, Int.reduceBEq, Int.reduceToNat, ↓reduceIte, f30], by simp -implicitDefEqProofs only [go_sem, Nat.reduceEqDiff, Nat.reduceLT, Nat.reduceAdd, Nat.reduceMul, Int.reduceEq, Int.reduceLT, Int.reduceLE, Int.reduceNe, Int.reduceBEq, Int.reduceToNat, ↓reduceIte, f31], by simp -implicitDefEqProofs only [go_sem, Nat.reduceEqDiff, Nat.reduceLT, Nat.reduceAdd, Nat.reduceMul, Int.reduceEq, Int.reduceLT, Int.reduceLE, Int.reduceNe, Int.reduceBEq, Int.reduceToNat, ↓reduceIte], ⟨by simp [allOf], .inl ⟨rfl, rfl⟩⟩, by simp [blk], Sub.refl _⟩ ?_
          clear f1 f5 f7 f8 f29 f30 f31
          rintro m2 F HL ⟨x, av, hx, f1, f5, f7, f8, f9, f14, f29, f30, f31, f69, hrow, hfr, sL⟩
          have hatL := hatG.sub sL
          by_cases cx : x < 60
          · have e1 : decide ((x : Int) < 60) = true := by simp; omega
            have e2 : IntKind.u64.wrap ((x : Int) + 1) = (x + 1 : Nat) := by rw [u64_in] <;> omega
            have hget := hokG.get x
            have hsucc := allOf_succ lvG x
            cases hlx : lvG x with
            | none =>
              rw [hlx] at hget hsucc
              simp only [Option.map_none] at hget
              simp only [Option.toList_none, List.append_nil] at hsucc
              simp -implicitDefEqProofs only [go_sem, Nat.reduceEqDiff, Nat.reduceLT, Nat.reduceAdd, Nat.reduceMul, Int.reduceEq, Int.reduceLT, Int.reduceLE, Int.reduceNe, Int.reduceBEq, Int.reduceToNat, ↓reduceIte, f1, f5, f7, f8, f9, f14, f29, f30, f31, f69, e1, lookK_int Try.underlying81 Try.underlying23 z66 hatL.2.1, hget, Option.getD_none, Option.isSome_none]
              refine newK_of ?_
              intro b16 HM hb16 hn16 h16 s16 g16
              simp -implicitDefEqProofs only [go_sem, Nat.reduceEqDiff, Nat.reduceLT, Nat.reduceAdd, Nat.reduceMul, Int.reduceEq, Int.reduceLT, Int.reduceLE, Int.reduceNe, Int.reduceBEq, Int.reduceToNat, ↓reduceIte, f1, f5, f7, f8, f9, f14, f29, f30, f31, f69]
              refine store_all h16 rfl (by simp [cell1_int, cell1_slice]) rfl ?_
              intro HN h16 g16'
              have sN : Sub HL HN := Sub.ne2 hn16 g16 g16'
              simp -implicitDefEqProofs only [go_sem, Nat.reduceEqDiff, Nat.reduceLT, Nat.reduceAdd, Nat.reduceMul, Int.reduceEq, Int.reduceLT, Int.reduceLE, Int.reduceNe, Int.reduceBEq, Int.reduceToNat, ↓reduceIte, f1, f5, f7, f8, f9, f14, f29, f30, f31, f69, e2]
              exact ⟨m2 - 1, by omega, x + 1, av, by omega, by simp -implicitDefEqProofs only [go_sem, Nat.reduceEqDiff, Nat.reduceLT, Nat.reduceAdd, Nat.reduceMul, Int.reduceEq, Int.reduceLT, Int.reduceLE, Int.reduceNe, Int.reduceBEq, Int.reduceToNat, ↓reduceIte, f1], by simp -implicitDefEqProofs only [go_sem, Nat.reduceEqDiff, Nat.reduceLT, Nat.reduceAdd, Nat.reduceMul, Int.reduceEq, Int.reduceLT, Int.reduceLE, Int.reduceNe, Int.reduceBEq, Int.reduceToNat, ↓reduceIte, f5], by simp -implicitDefEqProofs only [go_sem, Nat.reduceEqDiff, Nat.reduceLT, Nat.reduceAdd, Nat.reduceMul, Int.reduceEq, Int.reduceLT, Int.reduceLE, Int.reduceNe, Int.reduceBEq, Int.reduceToNat, ↓reduceIte, f7], by simp -implicitDefEqProofs only [go_sem, Nat.reduceEqDiff, Nat.reduceLT, Nat.reduceAdd, Nat.reduceMul, Int.reduceEq, Int.reduceLT, Int.reduceLE, Int.reduceNe, Int.reduceBEq, Int.reduceToNat, ↓reduceIte, f8], by simp -implicitDefEqProofs only [go_sem, Nat.reduceEqDiff, Nat.reduceLT, Nat.reduceAdd, Nat.reduceMul, Int.reduceEq, Int.reduceLT, Int.reduceLE, Int.reduceNe, Int.reduceBEq, Int.reduceToNat, ↓reduceIte, f9], by simp -implicitDefEqProofs only [go_sem, Nat.reduceEqDiff, Nat.reduceLT, Nat.reduceAdd, Nat.reduceMul, Int.reduceEq, Int.reduceLT, Int.reduceLE, Int.reduceNe, Int.reduceBEq, Int.reduceToNat, ↓reduceIte, f14], by simp -implicitDefEqProofs only [go_sem, Nat.reduceEqDiff, Nat.reduceLT, Nat.reduceAdd, Nat.reduceMul, Int.reduceEq, Int.reduceLT, Int.reduceLE, Int.reduceNe, Int.reduceBEq, Int.reduceToNat, ↓reduceIte, f29], by simp -implicitDefEqProofs only [go_sem, Nat.reduceEqDiff, Nat.reduceLT, Nat.reduceAdd, Nat.reduceMul, Int.reduceEq, Int.reduceLT, Int.reduceLE, Int.reduceNe, Int.reduceBEq, Int.reduceToNat, ↓reduceIte, f30], by simp -implicitDefEqProofs only [go_sem, Nat.reduceEqDiff, Nat.reduceLT, Nat.reduceAdd, Nat.reduceMul, Int.reduceEq, Int.reduceLT, Int.reduceLE, Int.reduceNe, Int.reduceBEq, Int.reduceToNat, ↓reduceIte, f31], by simp -implicitDefEqProofs only [go_sem, Nat.reduceEqDiff, Nat.reduceLT, Nat.reduceAdd, Nat.reduceMul, Int.reduceEq, Int.reduceLT, Int.reduceLE, Int.reduceNe, Int.reduceBEq, Int.reduceToNat, ↓reduceIte], by rw [hsucc]; exact hrow.keep fun b o _ hb => sN b o hb, hfr, sL.trans sN⟩
            | some z =>
              rw [hlx] at hget hsucc
              simp only [Option.map_some, cv] at hget
              simp only [Option.toList_some] at hsucc
              have hzr := hatL.2.2.1 x z hlx
              have hc1 : cell1 z.v = true := by obtain ⟨u1, u2, u⟩ := hzr.slice; rw [u]; exact cell1_slice
              simp -implicitDefEqProofs only [go_sem, Nat.reduceEqDiff, Nat.reduceLT, Nat.reduceAdd, Nat.reduceMul, Int.reduceEq, Int.reduceLT, Int.reduceLE, Int.reduceNe, Int.reduceBEq, Int.reduceToNat, ↓reduceIte, f1, f5, f7, f8, f9, f14, f29, f30, f31, f69, e1, lookK_int Try.underlying81 Try.underlying23 z66 hatL.2.1, hget, Option.getD_some]
              refine newK_of ?_
              intro b16 HM hb16 hn16 h16 s16 g16
              simp -implicitDefEqProofs only [go_sem, Nat.reduceEqDiff, Nat.reduceLT, Nat.reduceAdd, Nat.reduceMul, Int.reduceEq, Int.reduceLT, Int.reduceLE, Int.reduceNe, Int.reduceBEq, Int.reduceToNat, ↓reduceIte, f1, f5, f7, f8, f9, f14, f29, f30, f31, f69]
              refine store_all h16 rfl (by simp [cell1_int, hc1]) rfl ?_
              intro HN h16 g16'
              have sN : Sub HL HN := Sub.ne2 hn16 g16 g16'
              have l16 := ldc w0 h16 4
              have bs1 : bsCells Try.prog 66 1 #[(0, .agg #[.int .u64 (z.own : Int), .int .u64 (z.xmin : Int), .int .u64 (z.xmax : Int), z.v])] = some #[.int .u64 (z.own : Int), .int .u64 (z.xmin : Int), .int .u64 (z.xmax : Int), z.v] := by kernel_rfl
              simp -implicitDefEqProofs only [go_sem, Nat.reduceEqDiff, Nat.reduceLT, Nat.reduceAdd, Nat.reduceMul, Int.reduceEq, Int.reduceLT, Int.reduceLE, Int.reduceNe, Int.reduceBEq, Int.reduceToNat, ↓reduceIte, f1, f5, f7, f8, f9, f14, f29, f30, f31, f69, l16, ldK_agg, bs1]
              refine newK_of ?_
              intro nb HO hnb hnn h4 s4 g4
              simp -implicitDefEqProofs only [go_sem, Nat.reduceEqDiff, Nat.reduceLT, Nat.reduceAdd, Nat.reduceMul, Int.reduceEq, Int.reduceLT, Int.reduceLE, Int.reduceNe, Int.reduceBEq, Int.reduceToNat, ↓reduceIte, f1, f5, f7, f8, f9, f14, f29, f30, f31, f69]
              have hal := allOf_len lvG x
              refine aop_append_lit (t := 61) (x := .tmp 79) (y := .tmp 81) (c := 1) Try.underlying61 s66 b66 z66 rfl (v := av) (by simp -implicitDefEqProofs only [go_sem, Nat.reduceEqDiff, Nat.reduceLT, Nat.reduceAdd, Nat.reduceMul, Int.reduceEq, Int.reduceLT, Int.reduceLE, Int.reduceNe, Int.reduceBEq, Int.reduceToNat, ↓reduceIte]) ((hrow.keep (H' := HN) fun b o _ hb => sN b o hb).keep (H' := HO) fun b o _ hb => s4 b o hb) h4 (by simp -implicitDefEqProofs only [go_sem, Nat.reduceEqDiff, Nat.reduceLT, Nat.reduceAdd, Nat.reduceMul, Int.reduceEq, Int.reduceLT, Int.reduceLE, Int.reduceNe, Int.reduceBEq, Int.reduceToNat, ↓reduceIte]) rfl (by simp [cell1_int, hc1]) (by omega) (by omega) (by omega) ?_
              intro g HP hg hHP cap hrowP
              obtain ⟨sP, hgn, hgw⟩ := app_fresh (sL.trans (sN.trans s4)) hfr hg hHP
              simp -implicitDefEqProofs only [go_sem, Nat.reduceEqDiff, Nat.reduceLT, Nat.reduceAdd, Nat.reduceMul, Int.reduceEq, Int.reduceLT, Int.reduceLE, Int.reduceNe, Int.reduceBEq, Int.reduceToNat, ↓reduceIte, f1, f5, f7, f8, f9, f14, f29, f30, f31, f69, e2]
              refine ⟨m2 - 1, by omega, x + 1, .slice (some ⟨g, 0, none⟩) ((allOf lvG x).length + 1) cap, by omega, by simp -implicitDefEqProofs only [go_sem, Nat.reduceEqDiff, Nat.reduceLT, Nat.reduceAdd, Nat.reduceMul, Int.reduceEq, Int.reduceLT, Int.reduceLE, Int.reduceNe, Int.reduceBEq, Int.reduceToNat, ↓reduceIte, f1], by simp -implicitDefEqProofs only [go_sem, Nat.reduceEqDiff, Nat.reduceLT, Nat.reduceAdd, Nat.reduceMul, Int.reduceEq, Int.reduceLT, Int.reduceLE, Int.reduceNe, Int.reduceBEq, Int.reduceToNat, ↓reduceIte, f5], by simp -implicitDefEqProofs only [go_sem, Nat.reduceEqDiff, Nat.reduceLT, Nat.reduceAdd, Nat.reduceMul, Int.reduceEq, Int.reduceLT, Int.reduceLE, Int.reduceNe, Int.reduceBEq, Int.reduceToNat, ↓reduceIte, f7], by simp -implicitDefEqProofs only [go_sem, Nat.reduceEqDiff, Nat.reduceLT, Nat.reduceAdd, Nat.reduceMul, Int.reduceEq, Int.reduceLT, Int.reduceLE, Int.reduceNe, Int.reduceBEq, Int.reduceToNat, ↓reduceIte, f8], by simp -implicitDefEqProofs only [go_sem, Nat.reduceEqDiff, Nat.reduceLT, Nat.reduceAdd, Nat.reduceMul, Int.reduceEq, Int.reduceLT, Int.reduceLE, Int.reduceNe, Int.reduceBEq, Int.reduceToNat, ↓reduceIte, f9], by simp -implicitDefEqProofs only [go_sem, Nat.reduceEqDiff, Nat.reduceLT, Nat.reduceAdd, Nat.reduceMul, Int.reduceEq, Int.reduceLT, Int.reduceLE, Int.reduceNe, Int.reduceBEq, Int.reduceToNat, ↓reduceIte], by simp -implicitDefEqProofs only [go_sem, Nat.reduceEqDiff, Nat.reduceLT, Nat.reduceAdd, Nat.reduceMul, Int.reduceEq, Int.reduceLT, Int.reduceLE, Int.reduceNe, Int.reduceBEq, Int.reduceToNat, ↓reduceIte, f29], by simp -implicitDefEqProofs only [go_sem, Nat.reduceEqDiff, Nat.reduceLT, Nat.reduceAdd, Nat.reduceMul, Int.reduceEq, Int.reduceLT, Int.reduceLE, Int.reduceNe, Int.reduceBEq, Int.reduceToNat, ↓reduceIte, f30], by simp -implicitDefEqProofs only [go_sem, Nat.reduceEqDiff, Nat.reduceLT, Nat.reduceAdd, Nat.reduceMul, Int.reduceEq, Int.reduceLT, Int.reduceLE, Int.reduceNe, Int.reduceBEq, Int.reduceToNat, ↓reduceIte, f31], by simp -implicitDefEqProofs only [go_sem, Nat.reduceEqDiff, Nat.reduceLT, Nat.reduceAdd, Nat.reduceMul, Int.reduceEq, Int.reduceLT, Int.reduceLE, Int.reduceNe, Int.reduceBEq, Int.reduceToNat, ↓reduceIte], ?_, ?_, sP⟩
              · rw [hsucc, List.length_append, List.length_singleton, List.flatMap_append, List.flatMap_cons, List.flatMap_nil, List.append_nil]
                exact hrowP
              · intro b hb
                simp only [blk, Option.some.injEq] at hb
                subst hb; exact ⟨hgn, hgw⟩
          · have e1 : decide ((x : Int) < 60) = false := by simp; omega
            have hx60 : x = 60 := by omega
            subst hx60
            have hal := allOf_len lvG 60
            obtain ⟨td, tc, htd⟩ := hatL.2.2.2.slice
            simp -implicitDefEqProofs only [go_sem, Nat.reduceEqDiff, Nat.reduceLT, Nat.reduceAdd, Nat.reduceMul, Int.reduceEq, Int.reduceLT, Int.reduceLE, Int.reduceNe, Int.reduceBEq, Int.reduceToNat, ↓reduceIte, f1, f5, f7, f8, f9, f14, f29, f30, f31, f69, e1]
            refine (horizon_log hatL.1 (by omega) hrow (by omega) (fun z hz => by
              obtain ⟨u, _, hu⟩ := mem_allOf.1 hz
              obtain ⟨u1, u2, u3⟩ := (hatL.2.2.1 u z hu).slice
              rw [u3]; exact cell1_slice)).mono ?_
            rintro rr HL' ⟨rfl, rfl⟩
            have hchk : ∀ {t : Nat × Nat}, t ∈ ts → deadB 1 stsG t.1 t.2 (hzn (1 + stsG.length) ((allOf lvG 60).map Shot.xmin)) = true := fun ht => hokG.check ht 60
            have hmore : ∀ {a b : Nat}, deadB 1 stsG a b (hzn (1 + stsG.length) ((allOf lvG 60).map Shot.xmin)) = true → RestOk stsG psG lvG (ts ++ [(a, b)]) := fun hd => hokG.more (by omega) hd
            generalize hzn (1 + stsG.length) ((allOf lvG 60).map Shot.xmin) = hz at hchk hmore ⊢
            simp -implicitDefEqProofs only [go_sem, Nat.reduceEqDiff, Nat.reduceLT, Nat.reduceAdd, Nat.reduceMul, Int.reduceEq, Int.reduceLT, Int.reduceLE, Int.reduceNe, Int.reduceBEq, Int.reduceToNat, ↓reduceIte, f1, f5, f7, f8, f9, f14, f29, f30, f31, f69, htd]
            rw [← htd]
            refine AC.loopH (RstK w0 HL' l r i n hz ts.length (.slice (some ab) n c) (.slice sd sn sc) dv) (n := ts.length) ⟨0, by omega, by simp -implicitDefEqProofs only [go_sem, Nat.reduceEqDiff, Nat.reduceLT, Nat.reduceAdd, Nat.reduceMul, Int.reduceEq, Int.reduceLT, Int.reduceLE, Int.reduceNe, Int.reduceBEq, Int.reduceToNat, ↓reduceIte, f1], by simp -implicitDefEqProofs only [go_sem, Nat.reduceEqDiff, Nat.reduceLT, Nat.reduceAdd, Nat.reduceMul, Int.reduceEq, Int.reduceLT, Int.reduceLE, Int.reduceNe, Int.reduceBEq, Int.reduceToNat, ↓reduceIte, f5], by simp -implicitDefEqProofs only [go_sem, Nat.reduceEqDiff, Nat.reduceLT, Nat.reduceAdd, Nat.reduceMul, Int.reduceEq, Int.reduceLT, Int.reduceLE, Int.reduceNe, Int.reduceBEq, Int.reduceToNat, ↓reduceIte, f7], by simp -implicitDefEqProofs only [go_sem, Nat.reduceEqDiff, Nat.reduceLT, Nat.reduceAdd, Nat.reduceMul, Int.reduceEq, Int.reduceLT, Int.reduceLE, Int.reduceNe, Int.reduceBEq, Int.reduceToNat, ↓reduceIte, f8, htd], by simp -implicitDefEqProofs only [go_sem, Nat.reduceEqDiff, Nat.reduceLT, Nat.reduceAdd, Nat.reduceMul, Int.reduceEq, Int.reduceLT, Int.reduceLE, Int.reduceNe, Int.reduceBEq, Int.reduceToNat, ↓reduceIte, f9], by simp -implicitDefEqProofs only [go_sem, Nat.reduceEqDiff, Nat.reduceLT, Nat.reduceAdd, Nat.reduceMul, Int.reduceEq, Int.reduceLT, Int.reduceLE, Int.reduceNe, Int.reduceBEq, Int.reduceToNat, ↓reduceIte], by simp -implicitDefEqProofs only [go_sem, Nat.reduceEqDiff, Nat.reduceLT, Nat.reduceAdd, Nat.reduceMul, Int.reduceEq, Int.reduceLT, Int.reduceLE, Int.reduceNe, Int.reduceBEq, Int.reduceToNat, ↓reduceIte, f29], by simp -implicitDefEqProofs only [go_sem, Nat.reduceEqDiff, Nat.reduceLT, Nat.reduceAdd, Nat.reduceMul, Int.reduceEq, Int.reduceLT, Int.reduceLE, Int.reduceNe, Int.reduceBEq, Int.reduceToNat, ↓reduceIte, f30], by simp -implicitDefEqProofs only [go_sem, Nat.reduceEqDiff, Nat.reduceLT, Nat.reduceAdd, Nat.reduceMul, Int.reduceEq, Int.reduceLT, Int.reduceLE, Int.reduceNe, Int.reduceBEq, Int.reduceToNat, ↓reduceIte, f31], by simp -implicitDefEqProofs only [go_sem, Nat.reduceEqDiff, Nat.reduceLT, Nat.reduceAdd, Nat.reduceMul, Int.reduceEq, Int.reduceLT, Int.reduceLE, Int.reduceNe, Int.reduceBEq, Int.reduceToNat, ↓reduceIte, htd], by simp -implicitDefEqProofs only [go_sem, Nat.reduceEqDiff, Nat.reduceLT, Nat.reduceAdd, Nat.reduceMul, Int.reduceEq, Int.reduceLT, Int.reduceLE, Int.reduceNe, Int.reduceBEq, Int.reduceToNat, ↓reduceIte], by simp -implicitDefEqProofs only [go_sem, Nat.reduceEqDiff, Nat.reduceLT, Nat.reduceAdd, Nat.reduceMul, Int.reduceEq, Int.reduceLT, Int.reduceLE, Int.reduceNe, Int.reduceBEq, Int.reduceToNat, ↓reduceIte], Sub.refl _⟩ ?_
            clear f1 f5 f7 f8 f9 f14 f29 f30 f31 f69 hrow hfr htd td tc
            rintro m3 F HM ⟨j, hj, f1, f5, f7, f8, f9, f18, f29, f30, f31, f87, f88, f89, sM⟩ hhiM
            have hatM := hatL.sub sM
            by_cases cj : j < ts.length
            · have g1 : decide ((j : Int) < (ts.length : Int)) = true := by simp; omega
              have g0 : decide ((0 : Int) ≤ (j : Int)) = true := by simp
              have g2 : IntKind.i64.wrap ((j : Int) + 1) = (j + 1 : Nat) := by rw [i64_in] <;> omega
              have htj : ts[j]? = some ts[j] := by simp [cj]
              generalize ts[j] = t at htj
              obtain ⟨gt, capt, hvt, hlt, _⟩ := hatM.2.2.2.atc w0 rfl (fun t _ => tcs_len t) htj
              have hlt' : ldCells w0 HM ⟨gt, j * 6, none⟩ 0 6 = some [.int .u64 0, .int .u64 (t.1 : Int), .int .u64 (t.2 : Int), .int .i64 0, .int .i64 0, .slice none 0 0] := hlt
              simp -implicitDefEqProofs only [go_sem, Nat.reduceEqDiff, Nat.reduceLT, Nat.reduceAdd, Nat.reduceMul, Int.reduceEq, Int.reduceLT, Int.reduceLE, Int.reduceNe, Int.reduceBEq, Int.reduceToNat, ↓reduceIte, f1, f5, f7, f8, f9, f18, f29, f30, f31, f87, f88, f89, g1, g0, hvt, hlt', ldK_agg]
              refine newK_of ?_
              intro b20 HO hb20 hn20 h20 s20 g20
              simp -implicitDefEqProofs only [go_sem, Nat.reduceEqDiff, Nat.reduceLT, Nat.reduceAdd, Nat.reduceMul, Int.reduceEq, Int.reduceLT, Int.reduceLE, Int.reduceNe, Int.reduceBEq, Int.reduceToNat, ↓reduceIte, f1, f5, f7, f8, f9, f18, f29, f30, f31, f87, f88, f89]
              refine store_all h20 rfl (by simp [cell1_int, cell1_slice]) rfl ?_
              intro HP h20 g20'
              have sP : Sub HM HP := Sub.ne2 hn20 g20 g20'
              have l20 := ldc w0 h20 6
              simp -implicitDefEqProofs only [go_sem, Nat.reduceEqDiff, Nat.reduceLT, Nat.reduceAdd, Nat.reduceMul, Int.reduceEq, Int.reduceLT, Int.reduceLE, Int.reduceNe, Int.reduceBEq, Int.reduceToNat, ↓reduceIte, f1, f5, f7, f8, f9, f18, f29, f30, f31, f87, f88, f89, l20, ldK_agg]
              refine (dead_log (hatM.sub sP).1 (by omega) t.1 t.2 hz).mono ?_
              rintro rr HQ ⟨rfl, rfl⟩
              rw [hchk (List.mem_of_getElem? htj)]
              simp -implicitDefEqProofs only [go_sem, Nat.reduceEqDiff, Nat.reduceLT, Nat.reduceAdd, Nat.reduceMul, Int.reduceEq, Int.reduceLT, Int.reduceLE, Int.reduceNe, Int.reduceBEq, Int.reduceToNat, ↓reduceIte, f1, f5, f7, f8, f9, f18, f29, f30, f31, f87, f88, f89, g2]
              exact ⟨m3 - 1, by omega, j + 1, by omega, by simp -implicitDefEqProofs only [go_sem, Nat.reduceEqDiff, Nat.reduceLT, Nat.reduceAdd, Nat.reduceMul, Int.reduceEq, Int.reduceLT, Int.reduceLE, Int.reduceNe, Int.reduceBEq, Int.reduceToNat, ↓reduceIte, f1], by simp -implicitDefEqProofs only [go_sem, Nat.reduceEqDiff, Nat.reduceLT, Nat.reduceAdd, Nat.reduceMul, Int.reduceEq, Int.reduceLT, Int.reduceLE, Int.reduceNe, Int.reduceBEq, Int.reduceToNat, ↓reduceIte, f5], by simp -implicitDefEqProofs only [go_sem, Nat.reduceEqDiff, Nat.reduceLT, Nat.reduceAdd, Nat.reduceMul, Int.reduceEq, Int.reduceLT, Int.reduceLE, Int.reduceNe, Int.reduceBEq, Int.reduceToNat, ↓reduceIte, f7], by simp -implicitDefEqProofs only [go_sem, Nat.reduceEqDiff, Nat.reduceLT, Nat.reduceAdd, Nat.reduceMul, Int.reduceEq, Int.reduceLT, Int.reduceLE, Int.reduceNe, Int.reduceBEq, Int.reduceToNat, ↓reduceIte, f8, hvt], by simp -implicitDefEqProofs only [go_sem, Nat.reduceEqDiff, Nat.reduceLT, Nat.reduceAdd, Nat.reduceMul, Int.reduceEq, Int.reduceLT, Int.reduceLE, Int.reduceNe, Int.reduceBEq, Int.reduceToNat, ↓reduceIte, f9], by simp -implicitDefEqProofs only [go_sem, Nat.reduceEqDiff, Nat.reduceLT, Nat.reduceAdd, Nat.reduceMul, Int.reduceEq, Int.reduceLT, Int.reduceLE, Int.reduceNe, Int.reduceBEq, Int.reduceToNat, ↓reduceIte, f18], by simp -implicitDefEqProofs only [go_sem, Nat.reduceEqDiff, Nat.reduceLT, Nat.reduceAdd, Nat.reduceMul, Int.reduceEq, Int.reduceLT, Int.reduceLE, Int.reduceNe, Int.reduceBEq, Int.reduceToNat, ↓reduceIte, f29], by simp -implicitDefEqProofs only [go_sem, Nat.reduceEqDiff, Nat.reduceLT, Nat.reduceAdd, Nat.reduceMul, Int.reduceEq, Int.reduceLT, Int.reduceLE, Int.reduceNe, Int.reduceBEq, Int.reduceToNat, ↓reduceIte, f30], by simp -implicitDefEqProofs only [go_sem, Nat.reduceEqDiff, Nat.reduceLT, Nat.reduceAdd, Nat.reduceMul, Int.reduceEq, Int.reduceLT, Int.reduceLE, Int.reduceNe, Int.reduceBEq, Int.reduceToNat, ↓reduceIte, f31], by simp -implicitDefEqProofs only [go_sem, Nat.reduceEqDiff, Nat.reduceLT, Nat.reduceAdd, Nat.reduceMul, Int.reduceEq, Int.reduceLT, Int.reduceLE, Int.reduceNe, Int.reduceBEq, Int.reduceToNat, ↓reduceIte, f87, hvt], by simp -implicitDefEqProofs only [go_sem, Nat.reduceEqDiff, Nat.reduceLT, Nat.reduceAdd, Nat.reduceMul, Int.reduceEq, Int.reduceLT, Int.reduceLE, Int.reduceNe, Int.reduceBEq, Int.reduceToNat, ↓reduceIte, f88], by simp -implicitDefEqProofs only [go_sem, Nat.reduceEqDiff, Nat.reduceLT, Nat.reduceAdd, Nat.reduceMul, Int.reduceEq, Int.reduceLT, Int.reduceLE, Int.reduceNe, Int.reduceBEq, Int.reduceToNat, ↓reduceIte], sM.trans sP⟩
            · have g1 : decide ((j : Int) < (ts.length : Int)) = false := by simp; omega
              by_cases ci : i < sn
              · have g3 : decide ((i : Int) < (sn : Int)) = true := by rw [dec_lt]; simp [ci]
                have g4 : decide ((i : Int) < 50) = true := by simp; omega
                obtain ⟨sb, hsb, A0, B0, hA0, hB0, hd0, hd1⟩ := hst i ci
                have la0 : (sb.add (i * 2)).add 0 = sb.add (i * 2) := rfl
                have la := ld_arg hhiM hd0
                rw [la0] at la
                have lb0 : (sb.add (i * 2)).add 1 = ⟨(sb.add (i * 2)).block, (sb.add (i * 2)).off + 1, none⟩ := rfl
                have lb := ld_arg hhiM hd1
                rw [lb0] at lb
                have i0 : (0 : Int).toNat = 0 := rfl
                have i1 : (1 : Int).toNat = 1 := rfl
                have mA : (A0 : Int).tmod 50 = ((A0 % 50 : Nat) : Int) := by rw [Int.tmod_eq_emod_of_nonneg (by omega)]; omega
                have mB : (B0 : Int).tmod 50 = ((B0 % 50 : Nat) : Int) := by rw [Int.tmod_eq_emod_of_nonneg (by omega)]; omega
                simp -implicitDefEqProofs only [go_sem, Nat.reduceEqDiff, Nat.reduceLT, Nat.reduceAdd, Nat.reduceMul, Int.reduceEq, Int.reduceLT, Int.reduceLE, Int.reduceNe, Int.reduceBEq, Int.reduceToNat, ↓reduceIte, f1, f5, f7, f8, f9, f18, f29, f30, f31, f87, f88, f89, g1, g3, g4]
                refine vdraw_t [⟨0, .p, [], []⟩, ⟨1, .p, [], []⟩, ⟨2, .p, [], []⟩, ⟨3, .p, [], []⟩, ⟨4, .n, [], []⟩, ⟨5, .p, [], []⟩, ⟨6, .p, [], []⟩, ⟨7, .p, [], []⟩, ⟨8, .p, [], []⟩, ⟨9, .p, [], []⟩, ⟨10, .n, [], []⟩, ⟨11, .p, [], []⟩, ⟨12, .c, [], []⟩, ⟨13, .a, [], []⟩, ⟨14, .c, [], []⟩] [0, 0, 3, 7, 15, 31, 0, 0, 192, 448, 960, 1984, 4095, 0, 16383] mixed (by kernel_rfl) ?_
                simp -implicitDefEqProofs only [go_sem, Nat.reduceEqDiff, Nat.reduceLT, Nat.reduceAdd, Nat.reduceMul, Int.reduceEq, Int.reduceLT, Int.reduceLE, Int.reduceNe, Int.reduceBEq, Int.reduceToNat, ↓reduceIte, f1, f5, f7, f8, f9, f18, f29, f30, f31, f87, f88, f89, g3, d0, hsb, la, lb, i0, i1, Nat.zero_mul, Nat.one_mul, mA, mB]
                refine (tuple_ok w0 _ (A0 % 50) (B0 % 50)).mono ?_
                rintro rr HM' ⟨rfl, rfl⟩
                simp -implicitDefEqProofs only [go_sem, Nat.reduceEqDiff, Nat.reduceLT, Nat.reduceAdd, Nat.reduceMul, Int.reduceEq, Int.reduceLT, Int.reduceLE, Int.reduceNe, Int.reduceBEq, Int.reduceToNat, ↓reduceIte, f1, f5, f7, f8, f9, f18, f29, f30, f31, f87, f88, f89, g3, d0, hsb, la, lb, i0, i1, Nat.zero_mul, Nat.one_mul, mA, mB]
                refine newK_of ?_
                intro b21 HO hb21 hn21 h21 s21 g21
                simp -implicitDefEqProofs only [go_sem, Nat.reduceEqDiff, Nat.reduceLT, Nat.reduceAdd, Nat.reduceMul, Int.reduceEq, Int.reduceLT, Int.reduceLE, Int.reduceNe, Int.reduceBEq, Int.reduceToNat, ↓reduceIte, f1, f5, f7, f8, f9, f18, f29, f30, f31, f87, f88, f89]
                refine store_all h21 rfl (by simp [cell1_int, cell1_slice]) rfl ?_
                intro HP h21 g21'
                have sP : Sub HM' HP := Sub.ne2 hn21 g21 g21'
                have l21 := ldc w0 h21 6
                obtain ⟨A, eA⟩ : ∃ A, A = A0 % 50 := ⟨_, rfl⟩
                obtain ⟨B, eB⟩ : ∃ B, B = B0 % 50 := ⟨_, rfl⟩
                rw [← eA, ← eB] at l21
                simp -implicitDefEqProofs only [go_sem, Nat.reduceEqDiff, Nat.reduceLT, Nat.reduceAdd, Nat.reduceMul, Int.reduceEq, Int.reduceLT, Int.reduceLE, Int.reduceNe, Int.reduceBEq, Int.reduceToNat, ↓reduceIte, f1, f5, f7, f8, f9, f18, f29, f30, f31, f87, f88, f89, l21, ldK_agg]
                have hatP := hatM.sub sP
                refine (dead_log hatP.1 (by omega) A B hz).mono ?_
                rintro rr HQ ⟨rfl, rfl⟩
                cases hd : deadB 1 stsG A B hz
                · simp -implicitDefEqProofs only [go_sem, Nat.reduceEqDiff, Nat.reduceLT, Nat.reduceAdd, Nat.reduceMul, Int.reduceEq, Int.reduceLT, Int.reduceLE, Int.reduceNe, Int.reduceBEq, Int.reduceToNat, ↓reduceIte, f1, f5, f7, f8, f9, f18, f29, f30, f31, f87, f88, f89, d2]
                  exact ⟨m - 1, by omega, i + 1, _, stsG, psG, lvG, dv, ts, by omega, by simp -implicitDefEqProofs only [go_sem, Nat.reduceEqDiff, Nat.reduceLT, Nat.reduceAdd, Nat.reduceMul, Int.reduceEq, Int.reduceLT, Int.reduceLE, Int.reduceNe, Int.reduceBEq, Int.reduceToNat, ↓reduceIte, f1, hsb], by simp -implicitDefEqProofs only [go_sem, Nat.reduceEqDiff, Nat.reduceLT, Nat.reduceAdd, Nat.reduceMul, Int.reduceEq, Int.reduceLT, Int.reduceLE, Int.reduceNe, Int.reduceBEq, Int.reduceToNat, ↓reduceIte, f5], by simp -implicitDefEqProofs only [go_sem, Nat.reduceEqDiff, Nat.reduceLT, Nat.reduceAdd, Nat.reduceMul, Int.reduceEq, Int.reduceLT, Int.reduceLE, Int.reduceNe, Int.reduceBEq, Int.reduceToNat, ↓reduceIte, f7], by simp -implicitDefEqProofs only [go_sem, Nat.reduceEqDiff, Nat.reduceLT, Nat.reduceAdd, Nat.reduceMul, Int.reduceEq, Int.reduceLT, Int.reduceLE, Int.reduceNe, Int.reduceBEq, Int.reduceToNat, ↓reduceIte, f8], by simp -implicitDefEqProofs only [go_sem, Nat.reduceEqDiff, Nat.reduceLT, Nat.reduceAdd, Nat.reduceMul, Int.reduceEq, Int.reduceLT, Int.reduceLE, Int.reduceNe, Int.reduceBEq, Int.reduceToNat, ↓reduceIte, f29], by simp -implicitDefEqProofs only [go_sem, Nat.reduceEqDiff, Nat.reduceLT, Nat.reduceAdd, Nat.reduceMul, Int.reduceEq, Int.reduceLT, Int.reduceLE, Int.reduceNe, Int.reduceBEq, Int.reduceToNat, ↓reduceIte, f30], by simp -implicitDefEqProofs only [go_sem, Nat.reduceEqDiff, Nat.reduceLT, Nat.reduceAdd, Nat.reduceMul, Int.reduceEq, Int.reduceLT, Int.reduceLE, Int.reduceNe, Int.reduceBEq, Int.reduceToNat, ↓reduceIte], hatP, hokG, by omega, by omega, by omega⟩
                · have bs1 : bsCells Try.prog 76 1 #[(0, .agg #[.int .u64 0, .int .u64 (A : Int), .int .u64 (B : Int), .int .i64 0, .int .i64 0, .slice none 0 0])] = some (tcs (A, B)).toArray := by kernel_rfl
                  simp -implicitDefEqProofs only [go_sem, Nat.reduceEqDiff, Nat.reduceLT, Nat.reduceAdd, Nat.reduceMul, Int.reduceEq, Int.reduceLT, Int.reduceLE, Int.reduceNe, Int.reduceBEq, Int.reduceToNat, ↓reduceIte, f1, f5, f7, f8, f9, f18, f29, f30, f31, f87, f88, f89, l21, ldK_agg, bs1]
                  refine newK_of ?_
                  intro nb HR hnb hnn h4 s4 g4
                  simp -implicitDefEqProofs only [go_sem, Nat.reduceEqDiff, Nat.reduceLT, Nat.reduceAdd, Nat.reduceMul, Int.reduceEq, Int.reduceLT, Int.reduceLE, Int.reduceNe, Int.reduceBEq, Int.reduceToNat, ↓reduceIte, f1, f5, f7, f8, f9, f18, f29, f30, f31, f87, f88, f89]
                  have hrowR := hatP.2.2.2.keep (H' := HR) fun b o _ hb => s4 b o hb
                  refine aop_append_lit (t := 72) (x := .tmp 124) (y := .tmp 126) (c := 1) Try.underlying72 s76 b76 z76 rfl (v := dv) (by simp -implicitDefEqProofs only [go_sem, Nat.reduceEqDiff, Nat.reduceLT, Nat.reduceAdd, Nat.reduceMul, Int.reduceEq, Int.reduceLT, Int.reduceLE, Int.reduceNe, Int.reduceBEq, Int.reduceToNat, ↓reduceIte]) hrowR h4 (by simp -implicitDefEqProofs only [go_sem, Nat.reduceEqDiff, Nat.reduceLT, Nat.reduceAdd, Nat.reduceMul, Int.reduceEq, Int.reduceLT, Int.reduceLE, Int.reduceNe, Int.reduceBEq, Int.reduceToNat, ↓reduceIte]) rfl (by simp [tcs, cell1_int, cell1_slice]) (by omega) (by omega) (by omega) ?_
                  intro g HT hg hHT cap hrowT
                  have kT : ∀ b o, tyAt HQ b ≠ some 76 → HQ b = some o → HT b = some o := by
                    intro b o ht ho
                    have : b ≠ g := by
                      rintro rfl
                      rcases hg with e | ⟨e, _⟩
                      · exact ht (Row.tyAt hatP.2.2.2 e.symm)
                      · rw [s4 _ _ ho] at e; cases e
                    rw [hHT b this]; exact s4 b o ho
                  obtain ⟨u1, u2, u3, u4⟩ := hatP
                  simp -implicitDefEqProofs only [go_sem, Nat.reduceEqDiff, Nat.reduceLT, Nat.reduceAdd, Nat.reduceMul, Int.reduceEq, Int.reduceLT, Int.reduceLE, Int.reduceNe, Int.reduceBEq, Int.reduceToNat, ↓reduceIte, f1, f5, f7, f8, f9, f18, f29, f30, f31, f87, f88, f89, d2]
                  refine ⟨m - 1, by omega, i + 1, _, stsG, psG, lvG, .slice (some ⟨g, 0, none⟩) (ts.length + 1) cap, ts ++ [(A, B)], by omega, by simp -implicitDefEqProofs only [go_sem, Nat.reduceEqDiff, Nat.reduceLT, Nat.reduceAdd, Nat.reduceMul, Int.reduceEq, Int.reduceLT, Int.reduceLE, Int.reduceNe, Int.reduceBEq, Int.reduceToNat, ↓reduceIte, f1, hsb], by simp -implicitDefEqProofs only [go_sem, Nat.reduceEqDiff, Nat.reduceLT, Nat.reduceAdd, Nat.reduceMul, Int.reduceEq, Int.reduceLT, Int.reduceLE, Int.reduceNe, Int.reduceBEq, Int.reduceToNat, ↓reduceIte, f5], by simp -implicitDefEqProofs only [go_sem, Nat.reduceEqDiff, Nat.reduceLT, Nat.reduceAdd, Nat.reduceMul, Int.reduceEq, Int.reduceLT, Int.reduceLE, Int.reduceNe, Int.reduceBEq, Int.reduceToNat, ↓reduceIte, f7], by simp -implicitDefEqProofs only [go_sem, Nat.reduceEqDiff, Nat.reduceLT, Nat.reduceAdd, Nat.reduceMul, Int.reduceEq, Int.reduceLT, Int.reduceLE, Int.reduceNe, Int.reduceBEq, Int.reduceToNat, ↓reduceIte], by simp -implicitDefEqProofs only [go_sem, Nat.reduceEqDiff, Nat.reduceLT, Nat.reduceAdd, Nat.reduceMul, Int.reduceEq, Int.reduceLT, Int.reduceLE, Int.reduceNe, Int.reduceBEq, Int.reduceToNat, ↓reduceIte, f29], by simp -implicitDefEqProofs only [go_sem, Nat.reduceEqDiff, Nat.reduceLT, Nat.reduceAdd, Nat.reduceMul, Int.reduceEq, Int.reduceLT, Int.reduceLE, Int.reduceNe, Int.reduceBEq, Int.reduceToNat, ↓reduceIte, f30], by simp -implicitDefEqProofs only [go_sem, Nat.reduceEqDiff, Nat.reduceLT, Nat.reduceAdd, Nat.reduceMul, Int.reduceEq, Int.reduceLT, Int.reduceLE, Int.reduceNe, Int.reduceBEq, Int.reduceToNat, ↓reduceIte], ⟨u1.keep fun b o hb ho => kT b o (by rcases u1.ty hb with e | e <;> rw [e] <;> decide) ho, u2.keep fun o ho => kT r o (by rw [imap_ty u2]; exact fun e => by cases e) ho, fun x z hz => (u3 x z hz).keep fun b o hb ho => kT b o (by rw [Row.tyAt (u3 x z hz) hb]; decide) ho, ?_⟩, hmore hd, by omega, by rw [List.length_append, List.length_singleton]; omega, by omega⟩
                  rw [List.length_append, List.length_singleton, List.flatMap_append, List.flatMap_cons, List.flatMap_nil, List.append_nil]
                  exact hrowT
              · have g3 : decide ((i : Int) < (sn : Int)) = false := by rw [dec_lt]; simp; omega
                simp -implicitDefEqProofs only [go_sem, Nat.reduceEqDiff, Nat.reduceLT, Nat.reduceAdd, Nat.reduceMul, Int.reduceEq, Int.reduceLT, Int.reduceLE, Int.reduceNe, Int.reduceBEq, Int.reduceToNat, ↓reduceIte, f1, f5, f7, f8, f9, f18, f29, f30, f31, f87, f88, f89, g1, g3, d2]
                exact ⟨m - 1, by omega, i + 1, _, stsG, psG, lvG, dv, ts, by omega, by simp -implicitDefEqProofs only [go_sem, Nat.reduceEqDiff, Nat.reduceLT, Nat.reduceAdd, Nat.reduceMul, Int.reduceEq, Int.reduceLT, Int.reduceLE, Int.reduceNe, Int.reduceBEq, Int.reduceToNat, ↓reduceIte, f1], by simp -implicitDefEqProofs only [go_sem, Nat.reduceEqDiff, Nat.reduceLT, Nat.reduceAdd, Nat.reduceMul, Int.reduceEq, Int.reduceLT, Int.reduceLE, Int.reduceNe, Int.reduceBEq, Int.reduceToNat, ↓reduceIte, f5], by simp -implicitDefEqProofs only [go_sem, Nat.reduceEqDiff, Nat.reduceLT, Nat.reduceAdd, Nat.reduceMul, Int.reduceEq, Int.reduceLT, Int.reduceLE, Int.reduceNe, Int.reduceBEq, Int.reduceToNat, ↓reduceIte, f7], by simp -implicitDefEqProofs only [go_sem, Nat.reduceEqDiff, Nat.reduceLT, Nat.reduceAdd, Nat.reduceMul, Int.reduceEq, Int.reduceLT, Int.reduceLE, Int.reduceNe, Int.reduceBEq, Int.reduceToNat, ↓reduceIte, f8], by simp -implicitDefEqProofs only [go_sem, Nat.reduceEqDiff, Nat.reduceLT, Nat.reduceAdd, Nat.reduceMul, Int.reduceEq, Int.reduceLT, Int.reduceLE, Int.reduceNe, Int.reduceBEq, Int.reduceToNat, ↓reduceIte, f29], by simp -implicitDefEqProofs only [go_sem, Nat.reduceEqDiff, Nat.reduceLT, Nat.reduceAdd, Nat.reduceMul, Int.reduceEq, Int.reduceLT, Int.reduceLE, Int.reduceNe, Int.reduceBEq, Int.reduceToNat, ↓reduceIte, f30], by simp -implicitDefEqProofs only [go_sem, Nat.reduceEqDiff, Nat.reduceLT, Nat.reduceAdd, Nat.reduceMul, Int.reduceEq, Int.reduceLT, Int.reduceLE, Int.reduceNe, Int.reduceBEq, Int.reduceToNat, ↓reduceIte], hatM, hokG, by omega, by omega, by omega⟩
        · have d9 : decide (((d % 4 : Nat) : Int) = 2) = false := by rw [dec_two]; simp [c8]
          simp -implicitDefEqProofs only [go_sem, Nat.reduceEqDiff, Nat.reduceLT, Nat.reduceAdd, Nat.reduceMul, Int.reduceEq, Int.reduceLT, Int.reduceLE, Int.reduceNe, Int.reduceBEq, Int.reduceToNat, ↓reduceIte, f1, f5, f7, f8, f29, f30, f31, d6, dm, d7, d8, d9, l10, xm]
          refine (abort_log hat5.1 (by omega) (x := ((x' % 50 : Nat) : Int)) (by omega)).mono ?_
          rintro rr H6 ⟨rfl, hlog6, hf6⟩
          have hat6 := hat5.step hlog6 hf6
          simp -implicitDefEqProofs only [go_sem, Nat.reduceEqDiff, Nat.reduceLT, Nat.reduceAdd, Nat.reduceMul, Int.reduceEq, Int.reduceLT, Int.reduceLE, Int.reduceNe, Int.reduceBEq, Int.reduceToNat, ↓reduceIte, f1, f5, f7, f8, f29, f30, f31]
          refine aop_delete (n := ((x' % 50 : Nat) : Int)) Try.underlying81 Try.underlying23 hat6.2.1 (by simp -implicitDefEqProofs only [go_sem, Nat.reduceEqDiff, Nat.reduceLT, Nat.reduceAdd, Nat.reduceMul, Int.reduceEq, Int.reduceLT, Int.reduceLE, Int.reduceNe, Int.reduceBEq, Int.reduceToNat, ↓reduceIte, f7]) (by simp -implicitDefEqProofs only [go_sem, Nat.reduceEqDiff, Nat.reduceLT, Nat.reduceAdd, Nat.reduceMul, Int.reduceEq, Int.reduceLT, Int.reduceLE, Int.reduceNe, Int.reduceBEq, Int.reduceToNat, ↓reduceIte]) ?_
          intro HG hmap7 hf7
          obtain ⟨lvG, hlvG⟩ : ∃ lvG : Live, lvG = fun u => if u = x' % 50 then none else lv u := ⟨_, rfl⟩
          have hatG : RestAt HG l S (endSts 1 sts ((x' % 50 : Nat) : Int) 3) r _ lvG dv ts := hat6.map hmap7 hf7 fun u z hz => by
            rw [hlvG] at hz; dsimp only at hz
            split at hz
            · cases hz
            · exact hat6.2.2.1 u z hz
          have hokG := hok.fin (x' % 50) 3 (by omega)
          rw [← hlvG] at hokG
          have hlG : (endSts 1 sts ((x' % 50 : Nat) : Int) 3).length ≤ i + 1 := by rw [endSts_len]; omega
          generalize endSts 1 sts ((x' % 50 : Nat) : Int) 3 = stsG at hatG hokG hlG
          generalize ps.del ((x' % 50 : Nat) : Int) = psG at hatG hokG
          clear hlvG hat6 hmap7 hf7 hlog6 hf6
          simp -implicitDefEqProofs only [go_sem, Nat.reduceEqDiff, Nat.reduceLT, Nat.reduceAdd, Nat.reduceMul, Int.reduceEq, Int.reduceLT, Int.reduceLE, Int.reduceNe, Int.reduceBEq, Int.reduceToNat, ↓reduceIte, f1, f5, f7, f8, f29, f30, f31]
          have i7 : i < 50 := c6
          refine AC.loop (RstJ w0 HG lvG l r i n (.slice (some ab) n c) (.slice sd sn sc) dv) (n := 60) ⟨0, .slice none 0 0, by omega, by simp -implicitDefEqProofs only [go_sem, Nat.reduceEqDiff, Nat.reduceLT, Nat.reduceAdd, Nat.reduceMul, Int.reduceEq, Int.reduceLT, Int.reduceLE, Int.reduceNe, Int.reduceBEq, Int.reduceToNat, ↓reduceIte, f1], by simp -implicitDefEqProofs only [go_sem, Nat.reduceEqDiff, Nat.reduceLT, Nat.reduceAdd, Nat.reduceMul, Int.reduceEq, Int.reduceLT, Int.reduceLE, Int.reduceNe, Int.reduceBEq, Int.reduceToNat, ↓reduceIte, f5], by simp -implicitDefEqProofs only [go_sem, Nat.reduceEqDiff, Nat.reduceLT, Nat.reduceAdd, Nat.reduceMul, Int.reduceEq, Int.reduceLT, Int.reduceLE, Int.reduceNe, Int.reduceBEq, Int.reduceToNat, ↓reduceIte, f7], by simp -implicitDefEqProofs only [go_sem, Nat.reduceEqDiff, Nat.reduceLT, Nat.reduceAdd, Nat.reduceMul, Int.reduceEq, Int.reduceLT, Int.reduceLE, Int.reduceNe, Int.reduceBEq, Int.reduceToNat, ↓reduceIte, f8], by simp -implicitDefEqProofs only [go_sem, Nat.reduceEqDiff, Nat.reduceLT, Nat.reduceAdd, Nat.reduceMul, Int.reduceEq, Int.reduceLT, Int.reduceLE, Int.reduceNe, Int.reduceBEq, Int.reduceToNat, ↓reduceIte], by simp -implicitDefEqProofs only [go_sem, Nat.reduceEqDiff, Nat.reduceLT, Nat.reduceAdd, Nat.reduceMul, Int.reduceEq, Int.reduceLT, Int.reduceLE, Int.reduceNe, Int.reduceBEq, Int.reduceToNat, ↓reduceIte], by simp -implicitDefEqProofs only [go_sem, Nat.reduceEqDiff, Nat.reduceLT, Nat.reduceAdd, Nat.reduceMul, Int.reduceEq, Int.reduceLT, Int.reduceLE, Int.reduceNe, Int.reduceBEq, Int.reduceToNat, ↓reduceIte, f29], by simp -implicitDefEqProofs only [go_sem, Nat.reduceEqDiff, Nat.reduceLT, Nat.reduceAdd, Nat.reduceMul, Int.reduceEq, Int.reduceLT, Int.reduceLE, Int.reduceNe, Int.reduceBEq, Int.reduceToNat, ↓reduceIte, f30], by simp -implicitDefEqProofs only [go_sem, Nat.reduceEqDiff, Nat.reduceLT, Nat.reduceAdd, Nat.reduceMul, Int.reduceEq, Int.reduceLT, Int.reduceLE, Int.reduceNe, Int.reduceBEq, Int.reduceToNat, ↓reduceIte, f31], by simp -implicitDefEqProofs only [go_sem, Nat.reduceEqDiff, Nat.reduceLT, Nat.reduceAdd, Nat.reduceMul, Int.reduceEq, Int.reduceLT, Int.reduceLE, Int.reduceNe, Int.reduceBEq, Int.reduceToNat, ↓reduceIte], ⟨by simp [allOf], .inl ⟨rfl, rfl⟩⟩, by simp [blk], Sub.refl _⟩ ?_
          clear f1 f5 f7 f8 f29 f30 f31
          rintro m2 F HL ⟨x, av, hx, f1, f5, f7, f8, f9, f14, f29, f30, f31, f69, hrow, hfr, sL⟩
          have hatL := hatG.sub sL
          by_cases cx : x < 60
          · have e1 : decide ((x : Int) < 60) = true := by simp; omega
            have e2 : IntKind.u64.wrap ((x : Int) + 1) = (x + 1 : Nat) := by rw [u64_in] <;> omega
            have hget := hokG.get x
            have hsucc := allOf_succ lvG x
            cases hlx : lvG x with
            | none =>
              rw [hlx] at hget hsucc
              simp only [Option.map_none] at hget
              simp only [Option.toList_none, List.append_nil] at hsucc
              simp -implicitDefEqProofs only [go_sem, Nat.reduceEqDiff, Nat.reduceLT, Nat.reduceAdd, Nat.reduceMul, Int.reduceEq, Int.reduceLT, Int.reduceLE, Int.reduceNe, Int.reduceBEq, Int.reduceToNat, ↓reduceIte, f1, f5, f7, f8, f9, f14, f29, f30, f31, f69, e1, lookK_int Try.underlying81 Try.underlying23 z66 hatL.2.1, hget, Option.getD_none, Option.isSome_none]
              refine newK_of ?_
              intro b16 HM hb16 hn16 h16 s16 g16
              simp -implicitDefEqProofs only [go_sem, Nat.reduceEqDiff, Nat.reduceLT, Nat.reduceAdd, Nat.reduceMul, Int.reduceEq, Int.reduceLT, Int.reduceLE, Int.reduceNe, Int.reduceBEq, Int.reduceToNat, ↓reduceIte, f1, f5, f7, f8, f9, f14, f29, f30, f31, f69]
              refine store_all h16 rfl (by simp [cell1_int, cell1_slice]) rfl ?_
              intro HN h16 g16'
              have sN : Sub HL HN := Sub.ne2 hn16 g16 g16'
              simp -implicitDefEqProofs only [go_sem, Nat.reduceEqDiff, Nat.reduceLT, Nat.reduceAdd, Nat.reduceMul, Int.reduceEq, Int.reduceLT, Int.reduceLE, Int.reduceNe, Int.reduceBEq, Int.reduceToNat, ↓reduceIte, f1, f5, f7, f8, f9, f14, f29, f30, f31, f69, e2]
              exact ⟨m2 - 1, by omega, x + 1, av, by omega, by simp -implicitDefEqProofs only [go_sem, Nat.reduceEqDiff, Nat.reduceLT, Nat.reduceAdd, Nat.reduceMul, Int.reduceEq, Int.reduceLT, Int.reduceLE, Int.reduceNe, Int.reduceBEq, Int.reduceToNat, ↓reduceIte, f1], by simp -implicitDefEqProofs only [go_sem, Nat.reduceEqDiff, Nat.reduceLT, Nat.reduceAdd, Nat.reduceMul, Int.reduceEq, Int.reduceLT, Int.reduceLE, Int.reduceNe, Int.reduceBEq, Int.reduceToNat, ↓reduceIte, f5], by simp -implicitDefEqProofs only [go_sem, Nat.reduceEqDiff, Nat.reduceLT, Nat.reduceAdd, Nat.reduceMul, Int.reduceEq, Int.reduceLT, Int.reduceLE, Int.reduceNe, Int.reduceBEq, Int.reduceToNat, ↓reduceIte, f7], by simp -implicitDefEqProofs only [go_sem, Nat.reduceEqDiff, Nat.reduceLT, Nat.reduceAdd, Nat.reduceMul, Int.reduceEq, Int.reduceLT, Int.reduceLE, Int.reduceNe, Int.reduceBEq, Int.reduceToNat, ↓reduceIte, f8], by simp -implicitDefEqProofs only [go_sem, Nat.reduceEqDiff, Nat.reduceLT, Nat.reduceAdd, Nat.reduceMul, Int.reduceEq, Int.reduceLT, Int.reduceLE, Int.reduceNe, Int.reduceBEq, Int.reduceToNat, ↓reduceIte, f9], by simp -implicitDefEqProofs only [go_sem, Nat.reduceEqDiff, Nat.reduceLT, Nat.reduceAdd, Nat.reduceMul, Int.reduceEq, Int.reduceLT, Int.reduceLE, Int.reduceNe, Int.reduceBEq, Int.reduceToNat, ↓reduceIte, f14], by simp -implicitDefEqProofs only [go_sem, Nat.reduceEqDiff, Nat.reduceLT, Nat.reduceAdd, Nat.reduceMul, Int.reduceEq, Int.reduceLT, Int.reduceLE, Int.reduceNe, Int.reduceBEq, Int.reduceToNat, ↓reduceIte, f29], by simp -implicitDefEqProofs only [go_sem, Nat.reduceEqDiff, Nat.reduceLT, Nat.reduceAdd, Nat.reduceMul, Int.reduceEq, Int.reduceLT, Int.reduceLE, Int.reduceNe, Int.reduceBEq, Int.reduceToNat, ↓reduceIte, f30], by simp -implicitDefEqProofs only [go_sem, Nat.reduceEqDiff, Nat.reduceLT, Nat.reduceAdd, Nat.reduceMul, Int.reduceEq, Int.reduceLT, Int.reduceLE, Int.reduceNe, Int.reduceBEq, Int.reduceToNat, ↓reduceIte, f31], by simp -implicitDefEqProofs only [go_sem, Nat.reduceEqDiff, Nat.reduceLT, Nat.reduceAdd, Nat.reduceMul, Int.reduceEq, Int.reduceLT, Int.reduceLE, Int.reduceNe, Int.reduceBEq, Int.reduceToNat, ↓reduceIte], by rw [hsucc]; exact hrow.keep fun b o _ hb => sN b o hb, hfr, sL.trans sN⟩
            | some z =>
              rw [hlx] at hget hsucc
              simp only [Option.map_some, cv] at hget
              simp only [Option.toList_some] at hsucc
              have hzr := hatL.2.2.1 x z hlx
              have hc1 : cell1 z.v = true := by obtain ⟨u1, u2, u⟩ := hzr.slice; rw [u]; exact cell1_slice
              simp -implicitDefEqProofs only [go_sem, Nat.reduceEqDiff, Nat.reduceLT, Nat.reduceAdd, Nat.reduceMul, Int.reduceEq, Int.reduceLT, Int.reduceLE, Int.reduceNe, Int.reduceBEq, Int.reduceToNat, ↓reduceIte, f1, f5, f7, f8, f9, f14, f29, f30, f31, f69, e1, lookK_int Try.underlying81 Try.underlying23 z66 hatL.2.1, hget, Option.getD_some]
              refine newK_of ?_
              intro b16 HM hb16 hn16 h16 s16 g16
              simp -implicitDefEqProofs only [go_sem, Nat.reduceEqDiff, Nat.reduceLT, Nat.reduceAdd, Nat.reduceMul, Int.reduceEq, Int.reduceLT, Int.reduceLE, Int.reduceNe, Int.reduceBEq, Int.reduceToNat, ↓reduceIte, f1, f5, f7, f8, f9, f14, f29, f30, f31, f69]
              refine store_all h16 rfl (by simp [cell1_int, hc1]) rfl ?_
              intro HN h16 g16'
              have sN : Sub HL HN := Sub.ne2 hn16 g16 g16'
              have l16 := ldc w0 h16 4
              have bs1 : bsCells Try.prog 66 1 #[(0, .agg #[.int .u64 (z.own : Int), .int .u64 (z.xmin : Int), .int .u64 (z.xmax : Int), z.v])] = some #[.int .u64 (z.own : Int), .int .u64 (z.xmin : Int), .int .u64 (z.xmax : Int), z.v] := by kernel_rfl
              simp -implicitDefEqProofs only [go_sem, Nat.reduceEqDiff, Nat.reduceLT, Nat.reduceAdd, Nat.reduceMul, Int.reduceEq, Int.reduceLT, Int.reduceLE, Int.reduceNe, Int.reduceBEq, Int.reduceToNat, ↓reduceIte, f1, f5, f7, f8, f9, f14, f29, f30, f31, f69, l16, ldK_agg, bs1]
              refine newK_of ?_
              intro nb HO hnb hnn h4 s4 g4
              simp -implicitDefEqProofs only [go_sem, Nat.reduceEqDiff, Nat.reduceLT, Nat.reduceAdd, Nat.reduceMul, Int.reduceEq, Int.reduceLT, Int.reduceLE, Int.reduceNe, Int.reduceBEq, Int.reduceToNat, ↓reduceIte, f1, f5, f7, f8, f9, f14, f29, f30, f31, f69]
              have hal := allOf_len lvG x
              refine aop_append_lit (t := 61) (x := .tmp 79) (y := .tmp 81) (c := 1) Try.underlying61 s66 b66 z66 rfl (v := av) (by simp -implicitDefEqProofs only [go_sem, Nat.reduceEqDiff, Nat.reduceLT, Nat.reduceAdd, Nat.reduceMul, Int.reduceEq, Int.reduceLT, Int.reduceLE, Int.reduceNe, Int.reduceBEq, Int.reduceToNat, ↓reduceIte]) ((hrow.keep (H' := HN) fun b o _ hb => sN b o hb).keep (H' := HO) fun b o _ hb => s4 b o hb) h4 (by simp -implicitDefEqProofs only [go_sem, Nat.reduceEqDiff, Nat.reduceLT, Nat.reduceAdd, Nat.reduceMul, Int.reduceEq, Int.reduceLT, Int.reduceLE, Int.reduceNe, Int.reduceBEq, Int.reduceToNat, ↓reduceIte]) rfl (by simp [cell1_int, hc1]) (by omega) (by omega) (by omega) ?_
              intro g HP hg hHP cap hrowP
              obtain ⟨sP, hgn, hgw⟩ := app_fresh (sL.trans (sN.trans s4)) hfr hg hHP
              simp -implicitDefEqProofs only [go_sem, Nat.reduceEqDiff, Nat.reduceLT, Nat.reduceAdd, Nat.reduceMul, Int.reduceEq, Int.reduceLT, Int.reduceLE, Int.reduceNe, Int.reduceBEq, Int.reduceToNat, ↓reduceIte, f1, f5, f7, f8, f9, f14, f29, f30, f31, f69, e2]
              refine ⟨m2 - 1, by omega, x + 1, .slice (some ⟨g, 0, none⟩) ((allOf lvG x).length + 1) cap, by omega, by simp -implicitDefEqProofs only [go_sem, Nat.reduceEqDiff, Nat.reduceLT, Nat.reduceAdd, Nat.reduceMul, Int.reduceEq, Int.reduceLT, Int.reduceLE, Int.reduceNe, Int.reduceBEq, Int.reduceToNat, ↓reduceIte, f1], by simp -implicitDefEqProofs only [go_sem, Nat.reduceEqDiff, Nat.reduceLT, Nat.reduceAdd, Nat.reduceMul, Int.reduceEq, Int.reduceLT, Int.reduceLE, Int.reduceNe, Int.reduceBEq, Int.reduceToNat, ↓reduceIte, f5], by simp -implicitDefEqProofs only [go_sem, Nat.reduceEqDiff, Nat.reduceLT, Nat.reduceAdd, Nat.reduceMul, Int.reduceEq, Int.reduceLT, Int.reduceLE, Int.reduceNe, Int.reduceBEq, Int.reduceToNat, ↓reduceIte, f7], by simp -implicitDefEqProofs only [go_sem, Nat.reduceEqDiff, Nat.reduceLT, Nat.reduceAdd, Nat.reduceMul, Int.reduceEq, Int.reduceLT, Int.reduceLE, Int.reduceNe, Int.reduceBEq, Int.reduceToNat, ↓reduceIte, f8], by simp -implicitDefEqProofs only [go_sem, Nat.reduceEqDiff, Nat.reduceLT, Nat.reduceAdd, Nat.reduceMul, Int.reduceEq, Int.reduceLT, Int.reduceLE, Int.reduceNe, Int.reduceBEq, Int.reduceToNat, ↓reduceIte, f9], by simp -implicitDefEqProofs only [go_sem, Nat.reduceEqDiff, Nat.reduceLT, Nat.reduceAdd, Nat.reduceMul, Int.reduceEq, Int.reduceLT, Int.reduceLE, Int.reduceNe, Int.reduceBEq, Int.reduceToNat, ↓reduceIte], by simp -implicitDefEqProofs only [go_sem, Nat.reduceEqDiff, Nat.reduceLT, Nat.reduceAdd, Nat.reduceMul, Int.reduceEq, Int.reduceLT, Int.reduceLE, Int.reduceNe, Int.reduceBEq, Int.reduceToNat, ↓reduceIte, f29], by simp -implicitDefEqProofs only [go_sem, Nat.reduceEqDiff, Nat.reduceLT, Nat.reduceAdd, Nat.reduceMul, Int.reduceEq, Int.reduceLT, Int.reduceLE, Int.reduceNe, Int.reduceBEq, Int.reduceToNat, ↓reduceIte, f30], by simp -implicitDefEqProofs only [go_sem, Nat.reduceEqDiff, Nat.reduceLT, Nat.reduceAdd, Nat.reduceMul, Int.reduceEq, Int.reduceLT, Int.reduceLE, Int.reduceNe, Int.reduceBEq, Int.reduceToNat, ↓reduceIte, f31], by simp -implicitDefEqProofs only [go_sem, Nat.reduceEqDiff, Nat.reduceLT, Nat.reduceAdd, Nat.reduceMul, Int.reduceEq, Int.reduceLT, Int.reduceLE, Int.reduceNe, Int.reduceBEq, Int.reduceToNat, ↓reduceIte], ?_, ?_, sP⟩
              · rw [hsucc, List.length_append, List.length_singleton, List.flatMap_append, List.flatMap_cons, List.flatMap_nil, List.append_nil]
                exact hrowP
              · intro b hb
                simp only [blk, Option.some.injEq] at hb
                subst hb; exact ⟨hgn, hgw⟩
          · have e1 : decide ((x : Int) < 60) = false := by simp; omega
            have hx60 : x = 60 := by omega
            subst hx60
            have hal := allOf_len lvG 60
            obtain ⟨td, tc, htd⟩ := hatL.2.2.2.slice
            simp -implicitDefEqProofs only [go_sem, Nat.reduceEqDiff, Nat.reduceLT, Nat.reduceAdd, Nat.reduceMul, Int.reduceEq, Int.reduceLT, Int.reduceLE, Int.reduceNe, Int.reduceBEq, Int.reduceToNat, ↓reduceIte, f1, f5, f7, f8, f9, f14, f29, f30, f31, f69, e1]
            refine (horizon_log hatL.1 (by omega) hrow (by omega) (fun z hz => by
              obtain ⟨u, _, hu⟩ := mem_allOf.1 hz
              obtain ⟨u1, u2, u3⟩ := (hatL.2.2.1 u z hu).slice
              rw [u3]; exact cell1_slice)).mono ?_
            rintro rr HL' ⟨rfl, rfl⟩
            have hchk : ∀ {t : Nat × Nat}, t ∈ ts → deadB 1 stsG t.1 t.2 (hzn (1 + stsG.length) ((allOf lvG 60).map Shot.xmin)) = true := fun ht => hokG.check ht 60
            have hmore : ∀ {a b : Nat}, deadB 1 stsG a b (hzn (1 + stsG.length) ((allOf lvG 60).map Shot.xmin)) = true → RestOk stsG psG lvG (ts ++ [(a, b)]) := fun hd => hokG.more (by omega) hd
            generalize hzn (1 + stsG.length) ((allOf lvG 60).map Shot.xmin) = hz at hchk hmore ⊢
            simp -implicitDefEqProofs only [go_sem, Nat.reduceEqDiff, Nat.reduceLT, Nat.reduceAdd, Nat.reduceMul, Int.reduceEq, Int.reduceLT, Int.reduceLE, Int.reduceNe, Int.reduceBEq, Int.reduceToNat, ↓reduceIte, f1, f5, f7, f8, f9, f14, f29, f30, f31, f69, htd]
            rw [← htd]
            refine AC.loopH (RstK w0 HL' l r i n hz ts.length (.slice (some ab) n c) (.slice sd sn sc) dv) (n := ts.length) ⟨0, by omega, by simp -implicitDefEqProofs only [go_sem, Nat.reduceEqDiff, Nat.reduceLT, Nat.reduceAdd, Nat.reduceMul, Int.reduceEq, Int.reduceLT, Int.reduceLE, Int.reduceNe, Int.reduceBEq, Int.reduceToNat, ↓reduceIte, f1], by simp -implicitDefEqProofs only [go_sem, Nat.reduceEqDiff, Nat.reduceLT, Nat.reduceAdd, Nat.reduceMul, Int.reduceEq, Int.reduceLT, Int.reduceLE, Int.reduceNe, Int.reduceBEq, Int.reduceToNat, ↓reduceIte, f5], by simp -implicitDefEqProofs only [go_sem, Nat.reduceEqDiff, Nat.reduceLT, Nat.reduceAdd, Nat.reduceMul, Int.reduceEq, Int.reduceLT, Int.reduceLE, Int.reduceNe, Int.reduceBEq, Int.reduceToNat, ↓reduceIte, f7], by simp -implicitDefEqProofs only [go_sem, Nat.reduceEqDiff, Nat.reduceLT, Nat.reduceAdd, Nat.reduceMul, Int.reduceEq, Int.reduceLT, Int.reduceLE, Int.reduceNe, Int.reduceBEq, Int.reduceToNat, ↓reduceIte, f8, htd], by simp -implicitDefEqProofs only [go_sem, Nat.reduceEqDiff, Nat.reduceLT, Nat.reduceAdd, Nat.reduceMul, Int.reduceEq, Int.reduceLT, Int.reduceLE, Int.reduceNe, Int.reduceBEq, Int.reduceToNat, ↓reduceIte, f9], by simp -implicitDefEqProofs only [go_sem, Nat.reduceEqDiff, Nat.reduceLT, Nat.reduceAdd, Nat.reduceMul, Int.reduceEq, Int.reduceLT, Int.reduceLE, Int.reduceNe, Int.reduceBEq, Int.reduceToNat, ↓reduceIte], by simp -implicitDefEqProofs only [go_sem, Nat.reduceEqDiff, Nat.reduceLT, Nat.reduceAdd, Nat.reduceMul, Int.reduceEq, Int.reduceLT, Int.reduceLE, Int.reduceNe, Int.reduceBEq, Int.reduceToNat, ↓reduceIte, f29], by simp -implicitDefEqProofs only [go_sem, Nat.reduceEqDiff, Nat.reduceLT, Nat.reduceAdd, Nat.reduceMul, Int.reduceEq, Int.reduceLT, Int.reduceLE, Int.reduceNe, Int.reduceBEq, Int.reduceToNat, ↓reduceIte, f30], by simp -implicitDefEqProofs only [go_sem, Nat.reduceEqDiff, Nat.reduceLT, Nat.reduceAdd, Nat.reduceMul, Int.reduceEq, Int.reduceLT, Int.reduceLE, Int.reduceNe, Int.reduceBEq, Int.reduceToNat, ↓reduceIte, f31], by simp -implicitDefEqProofs only [go_sem, Nat.reduceEqDiff, Nat.reduceLT, Nat.reduceAdd, Nat.reduceMul, Int.reduceEq, Int.reduceLT, Int.reduceLE, Int.reduceNe, Int.reduceBEq, Int.reduceToNat, ↓reduceIte, htd], by simp -implicitDefEqProofs only [go_sem, Nat.reduceEqDiff, Nat.reduceLT, Nat.reduceAdd, Nat.reduceMul, Int.reduceEq, Int.reduceLT, Int.reduceLE, Int.reduceNe, Int.reduceBEq, Int.reduceToNat, ↓reduceIte], by simp -implicitDefEqProofs only [go_sem, Nat.reduceEqDiff, Nat.reduceLT, Nat.reduceAdd, Nat.reduceMul, Int.reduceEq, Int.reduceLT, Int.reduceLE, Int.reduceNe, Int.reduceBEq, Int.reduceToNat, ↓reduceIte], Sub.refl _⟩ ?_
            clear f1 f5 f7 f8 f9 f14 f29 f30 f31 f69 hrow hfr htd td tc
            rintro m3 F HM ⟨j, hj, f1, f5, f7, f8, f9, f18, f29, f30, f31, f87, f88, f89, sM⟩ hhiM
            have hatM := hatL.sub sM
            by_cases cj : j < ts.length
            · have g1 : decide ((j : Int) < (ts.length : Int)) = true := by simp; omega
              have g0 : decide ((0 : Int) ≤ (j : Int)) = true := by simp
              have g2 : IntKind.i64.wrap ((j : Int) + 1) = (j + 1 : Nat) := by rw [i64_in] <;> omega
              have htj : ts[j]? = some ts[j] := by simp [cj]
              generalize ts[j] = t at htj
              obtain ⟨gt, capt, hvt, hlt, _⟩ := hatM.2.2.2.atc w0 rfl (fun t _ => tcs_len t) htj
              have hlt' : ldCells w0 HM ⟨gt, j * 6, none⟩ 0 6 = some [.int .u64 0, .int .u64 (t.1 : Int), .int .u64 (t.2 : Int), .int .i64 0, .int .i64 0, .slice none 0 0] := hlt
              simp -implicitDefEqProofs only [go_sem, Nat.reduceEqDiff, Nat.reduceLT, Nat.reduceAdd, Nat.reduceMul, Int.reduceEq, Int.reduceLT, Int.reduceLE, Int.reduceNe, Int.reduceBEq, Int.reduceToNat, ↓reduceIte, f1, f5, f7, f8, f9, f18, f29, f30, f31, f87, f88, f89, g1, g0, hvt, hlt', ldK_agg]
              refine newK_of ?_
              intro b20 HO hb20 hn20 h20 s20 g20
              simp -implicitDefEqProofs only [go_sem, Nat.reduceEqDiff, Nat.reduceLT, Nat.reduceAdd, Nat.reduceMul, Int.reduceEq, Int.reduceLT, Int.reduceLE, Int.reduceNe, Int.reduceBEq, Int.reduceToNat, ↓reduceIte, f1, f5, f7, f8, f9, f18, f29, f30, f31, f87, f88, f89]
              refine store_all h20 rfl (by simp [cell1_int, cell1_slice]) rfl ?_
              intro HP h20 g20'
              have sP : Sub HM HP := Sub.ne2 hn20 g20 g20'
              have l20 := ldc w0 h20 6
              simp -implicitDefEqProofs only [go_sem, Nat.reduceEqDiff, Nat.reduceLT, Nat.reduceAdd, Nat.reduceMul, Int.reduceEq, Int.reduceLT, Int.reduceLE, Int.reduceNe, Int.reduceBEq, Int.reduceToNat, ↓reduceIte, f1, f5, f7, f8, f9, f18, f29, f30, f31, f87, f88, f89, l20, ldK_agg]
              refine (dead_log (hatM.sub sP).1 (by omega) t.1 t.2 hz).mono ?_
              rintro rr HQ ⟨rfl, rfl⟩
              rw [hchk (List.mem_of_getElem? htj)]
              simp -implicitDefEqProofs only [go_sem, Nat.reduceEqDiff, Nat.reduceLT, Nat.reduceAdd, Nat.reduceMul, Int.reduceEq, Int.reduceLT, Int.reduceLE, Int.reduceNe, Int.reduceBEq, Int.reduceToNat, ↓reduceIte, f1, f5, f7, f8, f9, f18, f29, f30, f31, f87, f88, f89, g2]
              exact ⟨m3 - 1, by omega, j + 1, by omega, by simp -implicitDefEqProofs only [go_sem, Nat.reduceEqDiff, Nat.reduceLT, Nat.reduceAdd, Nat.reduceMul, Int.reduceEq, Int.reduceLT, Int.reduceLE, Int.reduceNe, Int.reduceBEq, Int.reduceToNat, ↓reduceIte, f1], by simp -implicitDefEqProofs only [go_sem, Nat.reduceEqDiff, Nat.reduceLT, Nat.reduceAdd, Nat.reduceMul, Int.reduceEq, Int.reduceLT, Int.reduceLE, Int.reduceNe, Int.reduceBEq, Int.reduceToNat, ↓reduceIte, f5], by simp -implicitDefEqProofs only [go_sem, Nat.reduceEqDiff, Nat.reduceLT, Nat.reduceAdd, Nat.reduceMul, Int.reduceEq, Int.reduceLT, Int.reduceLE, Int.reduceNe, Int.reduceBEq, Int.reduceToNat, ↓reduceIte, f7], by simp -implicitDefEqProofs only [go_sem, Nat.reduceEqDiff, Nat.reduceLT, Nat.reduceAdd, Nat.reduceMul, Int.reduceEq, Int.reduceLT, Int.reduceLE, Int.reduceNe, Int.reduceBEq, Int.reduceToNat, ↓reduceIte, f8, hvt], by simp -implicitDefEqProofs only [go_sem, Nat.reduceEqDiff, Nat.reduceLT, Nat.reduceAdd, Nat.reduceMul, Int.reduceEq, Int.reduceLT, Int.reduceLE, Int.reduceNe, Int.reduceBEq, Int.reduceToNat, ↓reduceIte, f9], by simp -implicitDefEqProofs only [go_sem, Nat.reduceEqDiff, Nat.reduceLT, Nat.reduceAdd, Nat.reduceMul, Int.reduceEq, Int.reduceLT, Int.reduceLE, Int.reduceNe, Int.reduceBEq, Int.reduceToNat, ↓reduceIte, f18], by simp -implicitDefEqProofs only [go_sem, Nat.reduceEqDiff, Nat.reduceLT, Nat.reduceAdd, Nat.reduceMul, Int.reduceEq, Int.reduceLT, Int.reduceLE, Int.reduceNe, Int.reduceBEq, Int.reduceToNat, ↓reduceIte, f29], by simp -implicitDefEqProofs only [go_sem, Nat.reduceEqDiff, Nat.reduceLT, Nat.reduceAdd, Nat.reduceMul, Int.reduceEq, Int.reduceLT, Int.reduceLE, Int.reduceNe, Int.reduceBEq, Int.reduceToNat, ↓reduceIte, f30], by simp -implicitDefEqProofs only [go_sem, Nat.reduceEqDiff, Nat.reduceLT, Nat.reduceAdd, Nat.reduceMul, Int.reduceEq, Int.reduceLT, Int.reduceLE, Int.reduceNe, Int.reduceBEq, Int.reduceToNat, ↓reduceIte, f31], by simp -implicitDefEqProofs only [go_sem, Nat.reduceEqDiff, Nat.reduceLT, Nat.reduceAdd, Nat.reduceMul, Int.reduceEq, Int.reduceLT, Int.reduceLE, Int.reduceNe, Int.reduceBEq, Int.reduceToNat, ↓reduceIte, f87, hvt], by simp -implicitDefEqProofs only [go_sem, Nat.reduceEqDiff, Nat.reduceLT, Nat.reduceAdd, Nat.reduceMul, Int.reduceEq, Int.reduceLT, Int.reduceLE, Int.reduceNe, Int.reduceBEq, Int.reduceToNat, ↓reduceIte, f88], by simp -implicitDefEqProofs only [go_sem, Nat.reduceEqDiff, Nat.reduceLT, Nat.reduceAdd, Nat.reduceMul, Int.reduceEq, Int.reduceLT, Int.reduceLE, Int.reduceNe, Int.reduceBEq, Int.reduceToNat, ↓reduceIte], sM.trans sP⟩
            · have g1 : decide ((j : Int) < (ts.length : Int)) = false := by simp; omega
              by_cases ci : i < sn
              · have g3 : decide ((i : Int) < (sn : Int)) = true := by rw [dec_lt]; simp [ci]
                have g4 : decide ((i : Int) < 50) = true := by simp; omega
                obtain ⟨sb, hsb, A0, B0, hA0, hB0, hd0, hd1⟩ := hst i ci
                have la0 : (sb.add (i * 2)).add 0 = sb.add (i * 2) := rfl
                have la := ld_arg hhiM hd0
                rw [la0] at la
                have lb0 : (sb.add (i * 2)).add 1 = ⟨(sb.add (i * 2)).block, (sb.add (i * 2)).off + 1, none⟩ := rfl
                have lb := ld_arg hhiM hd1
                rw [lb0] at lb
                have i0 : (0 : Int).toNat = 0 := rfl
                have i1 : (1 : Int).toNat = 1 := rfl
                have mA : (A0 : Int).tmod 50 = ((A0 % 50 : Nat) : Int) := by rw [Int.tmod_eq_emod_of_nonneg (by omega)]; omega
                have mB : (B0 : Int).tmod 50 = ((B0 % 50 : Nat) : Int) := by rw [Int.tmod_eq_emod_of_nonneg (by omega)]; omega
                simp -implicitDefEqProofs only [go_sem, Nat.reduceEqDiff, Nat.reduceLT, Nat.reduceAdd, Nat.reduceMul, Int.reduceEq, Int.reduceLT, Int.reduceLE, Int.reduceNe, Int.reduceBEq, Int.reduceToNat, ↓reduceIte, f1, f5, f7, f8, f9, f18, f29, f30, f31, f87, f88, f89, g1, g3, g4]
                refine vdraw_t [⟨0, .p, [], []⟩, ⟨1, .p, [], []⟩, ⟨2, .p, [], []⟩, ⟨3, .p, [], []⟩, ⟨4, .n, [], []⟩, ⟨5, .p, [], []⟩, ⟨6, .p, [], []⟩, ⟨7, .p, [], []⟩, ⟨8, .p, [], []⟩, ⟨9, .p, [], []⟩, ⟨10, .n, [], []⟩, ⟨11, .p, [], []⟩, ⟨12, .c, [], []⟩, ⟨13, .a, [], []⟩, ⟨14, .c, [], []⟩] [0, 0, 3, 7, 15, 31, 0, 0, 192, 448, 960, 1984, 4095, 0, 16383] mixed (by kernel_rfl) ?_
                simp -implicitDefEqProofs only [go_sem, Nat.reduceEqDiff, Nat.reduceLT, Nat.reduceAdd, Nat.reduceMul, Int.reduceEq, Int.reduceLT, Int.reduceLE, Int.reduceNe, Int.reduceBEq, Int.reduceToNat, ↓reduceIte, f1, f5, f7, f8, f9, f18, f29, f30, f31, f87, f88, f89, g3, d0, hsb, la, lb, i0, i1, Nat.zero_mul, Nat.one_mul, mA, mB]
                refine (tuple_ok w0 _ (A0 % 50) (B0 % 50)).mono ?_
                rintro rr HM' ⟨rfl, rfl⟩
                simp -implicitDefEqProofs only [go_sem, Nat.reduceEqDiff, Nat.reduceLT, Nat.reduceAdd, Nat.reduceMul, Int.reduceEq, Int.reduceLT, Int.reduceLE, Int.reduceNe, Int.reduceBEq, Int.reduceToNat, ↓reduceIte, f1, f5, f7, f8, f9, f18, f29, f30, f31, f87, f88, f89, g3, d0, hsb, la, lb, i0, i1, Nat.zero_mul, Nat.one_mul, mA, mB]
                refine newK_of ?_
                intro b21 HO hb21 hn21 h21 s21 g21
                simp -implicitDefEqProofs only [go_sem, Nat.reduceEqDiff, Nat.reduceLT, Nat.reduceAdd, Nat.reduceMul, Int.reduceEq, Int.reduceLT, Int.reduceLE, Int.reduceNe, Int.reduceBEq, Int.reduceToNat, ↓reduceIte, f1, f5, f7, f8, f9, f18, f29, f30, f31, f87, f88, f89]
                refine store_all h21 rfl (by simp [cell1_int, cell1_slice]) rfl ?_
                intro HP h21 g21'
                have sP : Sub HM' HP := Sub.ne2 hn21 g21 g21'
                have l21 := ldc w0 h21 6
                obtain ⟨A, eA⟩ : ∃ A, A = A0 % 50 := ⟨_, rfl⟩
                obtain ⟨B, eB⟩ : ∃ B, B = B0 % 50 := ⟨_, rfl⟩
                rw [← eA, ← eB] at l21
                simp -implicitDefEqProofs only [go_sem, Nat.reduceEqDiff, Nat.reduceLT, Nat.reduceAdd, Nat.reduceMul, Int.reduceEq, Int.reduceLT, Int.reduceLE, Int.reduceNe, Int.reduceBEq, Int.reduceToNat, ↓reduceIte, f1, f5, f7, f8, f9, f18, f29, f30, f31, f87, f88, f89, l21, ldK_agg]
                have hatP := hatM.sub sP
                refine (dead_log hatP.1 (by omega) A B hz).mono ?_
                rintro rr HQ ⟨rfl, rfl⟩
                cases hd : deadB 1 stsG A B hz
                · simp -implicitDefEqProofs only [go_sem, Nat.reduceEqDiff, Nat.reduceLT, Nat.reduceAdd, Nat.reduceMul, Int.reduceEq, Int.reduceLT, Int.reduceLE, Int.reduceNe, Int.reduceBEq, Int.reduceToNat, ↓reduceIte, f1, f5, f7, f8, f9, f18, f29, f30, f31, f87, f88, f89, d2]
                  exact ⟨m - 1, by omega, i + 1, _, stsG, psG, lvG, dv, ts, by omega, by simp -implicitDefEqProofs only [go_sem, Nat.reduceEqDiff, Nat.reduceLT, Nat.reduceAdd, Nat.reduceMul, Int.reduceEq, Int.reduceLT, Int.reduceLE, Int.reduceNe, Int.reduceBEq, Int.reduceToNat, ↓reduceIte, f1, hsb], by simp -implicitDefEqProofs only [go_sem, Nat.reduceEqDiff, Nat.reduceLT, Nat.reduceAdd, Nat.reduceMul, Int.reduceEq, Int.reduceLT, Int.reduceLE, Int.reduceNe, Int.reduceBEq, Int.reduceToNat, ↓reduceIte, f5], by simp -implicitDefEqProofs only [go_sem, Nat.reduceEqDiff, Nat.reduceLT, Nat.reduceAdd, Nat.reduceMul, Int.reduceEq, Int.reduceLT, Int.reduceLE, Int.reduceNe, Int.reduceBEq, Int.reduceToNat, ↓reduceIte, f7], by simp -implicitDefEqProofs only [go_sem, Nat.reduceEqDiff, Nat.reduceLT, Nat.reduceAdd, Nat.reduceMul, Int.reduceEq, Int.reduceLT, Int.reduceLE, Int.reduceNe, Int.reduceBEq, Int.reduceToNat, ↓reduceIte, f8], by simp -implicitDefEqProofs only [go_sem, Nat.reduceEqDiff, Nat.reduceLT, Nat.reduceAdd, Nat.reduceMul, Int.reduceEq, Int.reduceLT, Int.reduceLE, Int.reduceNe, Int.reduceBEq, Int.reduceToNat, ↓reduceIte, f29], by simp -implicitDefEqProofs only [go_sem, Nat.reduceEqDiff, Nat.reduceLT, Nat.reduceAdd, Nat.reduceMul, Int.reduceEq, Int.reduceLT, Int.reduceLE, Int.reduceNe, Int.reduceBEq, Int.reduceToNat, ↓reduceIte, f30], by simp -implicitDefEqProofs only [go_sem, Nat.reduceEqDiff, Nat.reduceLT, Nat.reduceAdd, Nat.reduceMul, Int.reduceEq, Int.reduceLT, Int.reduceLE, Int.reduceNe, Int.reduceBEq, Int.reduceToNat, ↓reduceIte], hatP, hokG, by omega, by omega, by omega⟩
                · have bs1 : bsCells Try.prog 76 1 #[(0, .agg #[.int .u64 0, .int .u64 (A : Int), .int .u64 (B : Int), .int .i64 0, .int .i64 0, .slice none 0 0])] = some (tcs (A, B)).toArray := by kernel_rfl
                  simp -implicitDefEqProofs only [go_sem, Nat.reduceEqDiff, Nat.reduceLT, Nat.reduceAdd, Nat.reduceMul, Int.reduceEq, Int.reduceLT, Int.reduceLE, Int.reduceNe, Int.reduceBEq, Int.reduceToNat, ↓reduceIte, f1, f5, f7, f8, f9, f18, f29, f30, f31, f87, f88, f89, l21, ldK_agg, bs1]
                  refine newK_of ?_
                  intro nb HR hnb hnn h4 s4 g4
                  simp -implicitDefEqProofs only [go_sem, Nat.reduceEqDiff, Nat.reduceLT, Nat.reduceAdd, Nat.reduceMul, Int.reduceEq, Int.reduceLT, Int.reduceLE, Int.reduceNe, Int.reduceBEq, Int.reduceToNat, ↓reduceIte, f1, f5, f7, f8, f9, f18, f29, f30, f31, f87, f88, f89]
                  have hrowR := hatP.2.2.2.keep (H' := HR) fun b o _ hb => s4 b o hb
                  refine aop_append_lit (t := 72) (x := .tmp 124) (y := .tmp 126) (c := 1) Try.underlying72 s76 b76 z76 rfl (v := dv) (by simp -implicitDefEqProofs only [go_sem, Nat.reduceEqDiff, Nat.reduceLT, Nat.reduceAdd, Nat.reduceMul, Int.reduceEq, Int.reduceLT, Int.reduceLE, Int.reduceNe, Int.reduceBEq, Int.reduceToNat, ↓reduceIte]) hrowR h4 (by simp -implicitDefEqProofs only [go_sem, Nat.reduceEqDiff, Nat.reduceLT, Nat.reduceAdd, Nat.reduceMul, Int.reduceEq, Int.reduceLT, Int.reduceLE, Int.reduceNe, Int.reduceBEq, Int.reduceToNat, ↓reduceIte]) rfl (by simp [tcs, cell1_int, cell1_slice]) (by omega) (by omega) (by omega) ?_
                  intro g HT hg hHT cap hrowT
                  have kT : ∀ b o, tyAt HQ b ≠ some 76 → HQ b = some o → HT b = some o := by
                    intro b o ht ho
                    have : b ≠ g := by
                      rintro rfl
                      rcases hg with e | ⟨e, _⟩
                      · exact ht (Row.tyAt hatP.2.2.2 e.symm)
                      · rw [s4 _ _ ho] at e; cases e
                    rw [hHT b this]; exact s4 b o ho
                  obtain ⟨u1, u2, u3, u4⟩ := hatP
                  simp -implicitDefEqProofs only [go_sem, Nat.reduceEqDiff, Nat.reduceLT, Nat.reduceAdd, Nat.reduceMul, Int.reduceEq, Int.reduceLT, Int.reduceLE, Int.reduceNe, Int.reduceBEq, Int.reduceToNat, ↓reduceIte, f1, f5, f7, f8, f9, f18, f29, f30, f31, f87, f88, f89, d2]
                  refine ⟨m - 1, by omega, i + 1, _, stsG, psG, lvG, .slice (some ⟨g, 0, none⟩) (ts.length + 1) cap, ts ++ [(A, B)], by omega, by simp -implicitDefEqProofs only [go_sem, Nat.reduceEqDiff, Nat.reduceLT, Nat.reduceAdd, Nat.reduceMul, Int.reduceEq, Int.reduceLT, Int.reduceLE, Int.reduceNe, Int.reduceBEq, Int.reduceToNat, ↓reduceIte, f1, hsb], by simp -implicitDefEqProofs only [go_sem, Nat.reduceEqDiff, Nat.reduceLT, Nat.reduceAdd, Nat.reduceMul, Int.reduceEq, Int.reduceLT, Int.reduceLE, Int.reduceNe, Int.reduceBEq, Int.reduceToNat, ↓reduceIte, f5], by simp -implicitDefEqProofs only [go_sem, Nat.reduceEqDiff, Nat.reduceLT, Nat.reduceAdd, Nat.reduceMul, Int.reduceEq, Int.reduceLT, Int.reduceLE, Int.reduceNe, Int.reduceBEq, Int.reduceToNat, ↓reduceIte, f7], by simp -implicitDefEqProofs only [go_sem, Nat.reduceEqDiff, Nat.reduceLT, Nat.reduceAdd, Nat.reduceMul, Int.reduceEq, Int.reduceLT, Int.reduceLE, Int.reduceNe, Int.reduceBEq, Int.reduceToNat, ↓reduceIte], by simp -implicitDefEqProofs only [go_sem, Nat.reduceEqDiff, Nat.reduceLT, Nat.reduceAdd, Nat.reduceMul, Int.reduceEq, Int.reduceLT, Int.reduceLE, Int.reduceNe, Int.reduceBEq, Int.reduceToNat, ↓reduceIte, f29], by simp -implicitDefEqProofs only [go_sem, Nat.reduceEqDiff, Nat.reduceLT, Nat.reduceAdd, Nat.reduceMul, Int.reduceEq, Int.reduceLT, Int.reduceLE, Int.reduceNe, Int.reduceBEq, Int.reduceToNat, ↓reduceIte, f30], by simp -implicitDefEqProofs only [go_sem, Nat.reduceEqDiff, Nat.reduceLT, Nat.reduceAdd, Nat.reduceMul, Int.reduceEq, Int.reduceLT, Int.reduceLE, Int.reduceNe, Int.reduceBEq, Int.reduceToNat, ↓reduceIte], ⟨u1.keep fun b o hb ho => kT b o (by rcases u1.ty hb with e | e <;> rw [e] <;> decide) ho, u2.keep fun o ho => kT r o (by rw [imap_ty u2]; exact fun e => by cases e) ho, fun x z hz => (u3 x z hz).keep fun b o hb ho => kT b o (by rw [Row.tyAt (u3 x z hz) hb]; decide) ho, ?_⟩, hmore hd, by omega, by rw [List.length_append, List.length_singleton]; omega, by omega⟩
                  rw [List.length_append, List.length_singleton, List.flatMap_append, List.flatMap_cons, List.flatMap_nil, List.append_nil]
                  exact hrowT
              · have g3 : decide ((i : Int) < (sn : Int)) = false := by rw [dec_lt]; simp; omega
                simp -implicitDefEqProofs only [go_sem, Nat.reduceEqDiff, Nat.reduceLT, Nat.reduceAdd, Nat.reduceMul, Int.reduceEq, Int.reduceLT, Int.reduceLE, Int.reduceNe, Int.reduceBEq, Int.reduceToNat, ↓reduceIte, f1, f5, f7, f8, f9, f18, f29, f30, f31, f87, f88, f89, g1, g3, d2]
                exact ⟨m - 1, by omega, i + 1, _, stsG, psG, lvG, dv, ts, by omega, by simp -implicitDefEqProofs only [go_sem, Nat.reduceEqDiff, Nat.reduceLT, Nat.reduceAdd, Nat.reduceMul, Int.reduceEq, Int.reduceLT, Int.reduceLE, Int.reduceNe, Int.reduceBEq, Int.reduceToNat, ↓reduceIte, f1], by simp -implicitDefEqProofs only [go_sem, Nat.reduceEqDiff, Nat.reduceLT, Nat.reduceAdd, Nat.reduceMul, Int.reduceEq, Int.reduceLT, Int.reduceLE, Int.reduceNe, Int.reduceBEq, Int.reduceToNat, ↓reduceIte, f5], by simp -implicitDefEqProofs only [go_sem, Nat.reduceEqDiff, Nat.reduceLT, Nat.reduceAdd, Nat.reduceMul, Int.reduceEq, Int.reduceLT, Int.reduceLE, Int.reduceNe, Int.reduceBEq, Int.reduceToNat, ↓reduceIte, f7], by simp -implicitDefEqProofs only [go_sem, Nat.reduceEqDiff, Nat.reduceLT, Nat.reduceAdd, Nat.reduceMul, Int.reduceEq, Int.reduceLT, Int.reduceLE, Int.reduceNe, Int.reduceBEq, Int.reduceToNat, ↓reduceIte, f8], by simp -implicitDefEqProofs only [go_sem, Nat.reduceEqDiff, Nat.reduceLT, Nat.reduceAdd, Nat.reduceMul, Int.reduceEq, Int.reduceLT, Int.reduceLE, Int.reduceNe, Int.reduceBEq, Int.reduceToNat, ↓reduceIte, f29], by simp -implicitDefEqProofs only [go_sem, Nat.reduceEqDiff, Nat.reduceLT, Nat.reduceAdd, Nat.reduceMul, Int.reduceEq, Int.reduceLT, Int.reduceLE, Int.reduceNe, Int.reduceBEq, Int.reduceToNat, ↓reduceIte, f30], by simp -implicitDefEqProofs only [go_sem, Nat.reduceEqDiff, Nat.reduceLT, Nat.reduceAdd, Nat.reduceMul, Int.reduceEq, Int.reduceLT, Int.reduceLE, Int.reduceNe, Int.reduceBEq, Int.reduceToNat, ↓reduceIte], hatM, hokG, by omega, by omega, by omega⟩
    · have d6 : decide ((50 : Int) ≤ (i : Int)) = true := by simp; omega
      simp -implicitDefEqProofs only [go_sem, Nat.reduceEqDiff, Nat.reduceLT, Nat.reduceAdd, Nat.reduceMul, Int.reduceEq, Int.reduceLT, Int.reduceLE, Int.reduceNe, Int.reduceBEq, Int.reduceToNat, ↓reduceIte, f1, f5, f7, f8, f29, f30, f31, d6]
  · have d1 : decide ((i : Int) < (n : Int)) = false := by simp; omega
    simp -implicitDefEqProofs only [go_sem, Nat.reduceEqDiff, Nat.reduceLT, Nat.reduceAdd, Nat.reduceMul, Int.reduceEq, Int.reduceLT, Int.reduceLE, Int.reduceNe, Int.reduceBEq, Int.reduceToNat, ↓reduceIte, f1, f5, f7, f8, f29, f30, f31, d1]
end Go.Proofs.Ytmpepacfnckadaa
