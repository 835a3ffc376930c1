/-
  Package book: a new one; the example of chapter 11.
  Conditions: as each theorem states them.
-/
import Derived.Test.YtcpeiejabbdeiaaBkr
namespace Go.Proofs.Ytcpeiejabbdeiaa
open Go Go.RowKit Go.Proofs.YtcpeiejabbdeiaaW
set_option maxRecDepth 100000
set_option linter.unusedSimpArgs false
set_option linter.unusedVariables false

/-! ### The log, the book and snapshots apart -/
theorem LogAt.ty {H : Hp} {l : Nat} {S : Nat → Prop} {f : Nat} {sts : List Nat} (h : LogAt H l S f sts) {b : Nat} (hb : S b) : tyAt H b = some 69 ∨ tyAt H b = some 5 := by
  obtain ⟨sl, bs, g1, g2, g3, g4, g5⟩ := h
  rcases (g5 b).1 hb with rfl | hb
  · exact .inl (tyAt_of g1)
  · exact .inr (Row.tyAt g2 hb)
theorem log_out {H H' : Hp} {l : Nat} {S : Nat → Prop} {f : Nat} {sts : List Nat} (h : LogAt H l S f sts) (hf : ∀ b o, ¬ S b → H b = some o → H' b = some o) {b : Nat} {o : Obj} (hb : H b = some o) (h1 : tyAt H b ≠ some 69) (h2 : tyAt H b ≠ some 5) : H' b = some o :=
  hf b o (fun hs => (h.ty hs).elim h1 h2) hb
theorem log_row {H H' : Hp} {l : Nat} {S : Nat → Prop} {f : Nat} {sts : List Nat} (h : LogAt H l S f sts) (hf : ∀ b o, ¬ S b → H b = some o → H' b = some o) {e sz : Nat} {v : Value} {n : Nat} {xs : List Value} (hr : Row H e sz v n xs) (h1 : e ≠ 69) (h2 : e ≠ 5) : Row H' e sz v n xs :=
  hr.keep fun b o hb ho => log_out h hf ho (by rw [Row.tyAt hr hb]; exact fun c => h1 (Option.some.inj c)) (by rw [Row.tyAt hr hb]; exact fun c => h2 (Option.some.inj c))
section
variable {H H' : Hp} {l : Nat} {S : Nat → Prop} {sts : List Nat} {z : Shot} {bk : Nat} {ts : List Tb} {xs : List Ix} {last : Nat}
theorem LogAt.outB (h : LogAt H l S 1 sts) (ho : Out H H') : LogAt H' l S 1 sts := h.keep fun b o hb hh => ho b o (by rcases h.ty hb with e | e <;> rw [e] <;> rfl) hh
theorem ShotAt.outB (h : ShotAt H z) (ho : Out H H') : ShotAt H' z := ⟨h.1.keep fun b o hb hh => ho b o (by rw [Row.tyAt h.1 hb]; rfl) hh, h.2⟩
theorem ShotAt.log (h : ShotAt H z) (hl : LogAt H l S 1 sts) (hf : ∀ b o, ¬ S b → H b = some o → H' b = some o) : ShotAt H' z := ⟨log_row hl hf h.1 (by decide) (by decide), h.2⟩
theorem BookAt.log (h : BookAt H bk ts xs last) (hl : LogAt H l S 1 sts) (hf : ∀ b o, ¬ S b → H b = some o → H' b = some o) : BookAt H' bk ts xs last :=
  h.keep fun b o ht ho => log_out hl hf ho (fun e => by rw [e] at ht; cases ht) (fun e => by rw [e] at ht; cases ht)
theorem Out.trans {A B C : Hp} (h : Out A B) (h' : Out B C) : Out A C := fun b o ht ho => by
  have h1 := h b o ht ho
  exact h' b o (by unfold tyAt at ht ⊢; rw [h1]; rw [ho] at ht; exact ht) h1
end
theorem endSts_len (f : Nat) (sts : List Nat) (x : Int) (v : Nat) : (endSts f sts x v).length = sts.length := by
  unfold endSts; split
  · rw [List.length_set]
  · rfl
theorem bnew_ok (w0 : World) (H : Hp) : ACalls Try.prog w0 9 #[] H fun r H' => ∃ bk, r = ptr bk ∧ H bk = none ∧ BookAt H' bk [] [] 0 ∧ Sub H H' := by
  have bd : bdCells Try.prog 73 #[] = some #[.slice none 0 0, .slice none 0 0, .int .u64 0] := by kernel_rfl
  refine acalls_of Try.func9 rfl Try.ntmps9 r9 (by simp) ?_
  simp -implicitDefEqProofs only [go_sem, Nat.reduceEqDiff, Nat.reduceLT, Nat.reduceAdd, Nat.reduceMul, Int.reduceEq, Int.reduceLT, Int.reduceLE, Int.reduceNe, Int.reduceBEq, Int.reduceToNat, ↓reduceIte, bd]
  refine newK_of ?_
  intro b H1 hb hn h1 s1 g1
  simp -implicitDefEqProofs only [go_sem, Nat.reduceEqDiff, Nat.reduceLT, Nat.reduceAdd, Nat.reduceMul, Int.reduceEq, Int.reduceLT, Int.reduceLE, Int.reduceNe, Int.reduceBEq, Int.reduceToNat, ↓reduceIte]
  exact ⟨b, rfl, hn, ⟨_, _, h1, ⟨by simp, .inl ⟨rfl, rfl⟩⟩, ⟨by simp, .inl ⟨rfl, rfl⟩⟩, by simp, by simp⟩, s1⟩
theorem few_ok (w0 : World) (H : Hp) (s : ByteArray) (hs : s.size ≤ 9223372036854775807) : ACalls Try.prog w0 19 #[.string s] H fun r H' => r = .string (s.extract 0 (min s.size 30)) ∧ H' = H := by
  refine acalls_of Try.func19 rfl Try.ntmps19 r19 (by simp) ?_
  have e1 : (if (30 : Int) < (s.size : Int) then (30 : Int) else (s.size : Int)) = ((min s.size 30 : Nat) : Int) := by split <;> omega
  have e2 : decide ((0 : Int) ≤ ((min s.size 30 : Nat) : Int)) = true := by simp
  have e3 : decide (((min s.size 30 : Nat) : Int) ≤ (s.size : Int)) = true := by simp; omega
  have e4 : (0 : Int).toNat = 0 := rfl
  simp -implicitDefEqProofs only [go_sem, Nat.reduceEqDiff, Nat.reduceLT, Nat.reduceAdd, Nat.reduceMul, Int.reduceEq, Int.reduceLT, Int.reduceLE, Int.reduceNe, Int.reduceBEq, Int.reduceToNat, ↓reduceIte, e1, e2, e3, e4]

theorem take_shot {w0 : World} {H : Hp} {l : Nat} {S : Nat → Prop} {sts : List Nat} (h : LogAt H l S 1 sts) (hb : 1 + sts.length < 10000000000000) (own : Nat) :
    ACalls Try.prog w0 11 #[ptr l, .int .u64 (own : Int)] H fun r H' => ∃ z : Shot, z.own = own ∧ z.old = sts ∧ r = .agg #[.int .u64 (z.own : Int), .int .u64 (z.xmin : Int), .int .u64 (z.xmax : Int), z.v] ∧ ShotAt H' z ∧ (∀ b, blk z.v = some b → H b = none ∧ w0.heap.size ≤ b) ∧ Sub H H' := by
  refine (take_log h hb own).mono ?_
  rintro r H' ⟨v, rfl, hr, hf, hs⟩
  refine ⟨⟨own, sts, v, v⟩, rfl, rfl, rfl, ⟨hr, ?_⟩, hf, hs⟩
  show (others own (runs 1 sts)).length < 10000000000000
  have := others_len own (runs 1 sts); have := runsK_len 1 sts sts.length
  unfold runs at *; omega
theorem awake11_ok (w0 : World) : ACalls Try.prog w0 7 #[] (fun _ => none) fun r H' => r = .bool true ∧ H' = fun _ => none := by
  refine ACalls.quiet ?_
  refine acalls_of Try.func7 rfl Try.ntmps7 r7 (by simp) ?_
  simp -implicitDefEqProofs only [go_sem, Nat.reduceEqDiff, Nat.reduceLT, Nat.reduceAdd, Nat.reduceMul, Int.reduceEq, Int.reduceLT, Int.reduceLE, Int.reduceNe, Int.reduceBEq, Int.reduceToNat, ↓reduceIte]
  refine (new_ok w0 1 _ (by omega) (by omega)).mono ?_
  rintro r H1 ⟨l, rfl, hl, hl0, hlog, hsub⟩
  simp -implicitDefEqProofs only [go_sem, Nat.reduceEqDiff, Nat.reduceLT, Nat.reduceAdd, Nat.reduceMul, Int.reduceEq, Int.reduceLT, Int.reduceLE, Int.reduceNe, Int.reduceBEq, Int.reduceToNat, ↓reduceIte]
  refine (bnew_ok w0 H1).mono ?_
  rintro r H2 ⟨bk, rfl, hbk, hbook, s2⟩
  have hlog := hlog.keep (H' := H2) fun b o _ hb => s2 b o hb
  simp -implicitDefEqProofs only [go_sem, Nat.reduceEqDiff, Nat.reduceLT, Nat.reduceAdd, Nat.reduceMul, Int.reduceEq, Int.reduceLT, Int.reduceLE, Int.reduceNe, Int.reduceBEq, Int.reduceToNat, ↓reduceIte]
  refine (begin_log hlog (by simp)).mono ?_
  rintro r H3 ⟨rfl, S3, hlog3, hS3, hf3⟩
  have hbook3 := hbook.log hlog hf3
  simp -implicitDefEqProofs only [go_sem, Nat.reduceEqDiff, Nat.reduceLT, Nat.reduceAdd, Nat.reduceMul, Int.reduceEq, Int.reduceLT, Int.reduceLE, Int.reduceNe, Int.reduceBEq, Int.reduceToNat, ↓reduceIte]
  refine (begin_log hlog3 (by simp)).mono ?_
  rintro r H4 ⟨rfl, S4, hlog4, hS4, hf4⟩
  have hbook4 := hbook3.log hlog3 hf4
  simp -implicitDefEqProofs only [go_sem, Nat.reduceEqDiff, Nat.reduceLT, Nat.reduceAdd, Nat.reduceMul, Int.reduceEq, Int.reduceLT, Int.reduceLE, Int.reduceNe, Int.reduceBEq, Int.reduceToNat, ↓reduceIte]
  obtain ⟨st4, e4⟩ : ∃ st4 : List Nat, st4 = [1, 1] := ⟨_, rfl⟩
  have hlog4 : LogAt H4 l S4 1 st4 := by rw [e4]; exact hlog4
  have hl4 : st4.length = 2 := by rw [e4]; rfl
  refine (take_shot hlog4 (by omega) 1).mono ?_
  rintro r H5 ⟨z1, o1, q1, rfl, hz1, hfr5, s5⟩
  have hlog5 := hlog4.keep (H' := H5) fun b o _ hb => s5 b o hb
  simp -implicitDefEqProofs only [go_sem, Nat.reduceEqDiff, Nat.reduceLT, Nat.reduceAdd, Nat.reduceMul, Int.reduceEq, Int.reduceLT, Int.reduceLE, Int.reduceNe, Int.reduceBEq, Int.reduceToNat, ↓reduceIte]
  refine (take_shot hlog5 (by omega) 2).mono ?_
  rintro r H6 ⟨z2, o2, q2, rfl, hz2, hfr6, s6⟩
  have hlog6 := hlog5.keep (H' := H6) fun b o _ hb => s6 b o hb
  have hz1 := hz1.sub s6
  have hc1 := hz1.cell
  have hc2 := hz2.cell
  simp -implicitDefEqProofs only [go_sem, Nat.reduceEqDiff, Nat.reduceLT, Nat.reduceAdd, Nat.reduceMul, Int.reduceEq, Int.reduceLT, Int.reduceLE, Int.reduceNe, Int.reduceBEq, Int.reduceToNat, ↓reduceIte]
  refine newK_of ?_
  intro b4 H7 hb4 hn4 h4 s7 g7
  simp -implicitDefEqProofs only [go_sem, Nat.reduceEqDiff, Nat.reduceLT, Nat.reduceAdd, Nat.reduceMul, Int.reduceEq, Int.reduceLT, Int.reduceLE, Int.reduceNe, Int.reduceBEq, Int.reduceToNat, ↓reduceIte]
  refine newK_of ?_
  intro b5 H8 hb5 hn5 h5 s8 g8
  have h48 := s8 _ _ h4
  simp -implicitDefEqProofs only [go_sem, Nat.reduceEqDiff, Nat.reduceLT, Nat.reduceAdd, Nat.reduceMul, Int.reduceEq, Int.reduceLT, Int.reduceLE, Int.reduceNe, Int.reduceBEq, Int.reduceToNat, ↓reduceIte]
  refine store_all h48 rfl (by simp [cell1_int, hc1]) rfl ?_
  intro H9 h49 g9
  have n45 : b5 ≠ b4 := fun e => by rw [e] at hn5; rw [h4] at hn5; cases hn5
  have h59 := (g9 b5 n45).trans h5
  simp -implicitDefEqProofs only [go_sem, Nat.reduceEqDiff, Nat.reduceLT, Nat.reduceAdd, Nat.reduceMul, Int.reduceEq, Int.reduceLT, Int.reduceLE, Int.reduceNe, Int.reduceBEq, Int.reduceToNat, ↓reduceIte]
  refine store_all h59 rfl (by simp [cell1_int, hc2]) rfl ?_
  intro HA h5A gA
  have h4A := (gA b4 n45.symm).trans h49
  have sA : Sub H6 HA := fun b o hb => by
    have n4 : b ≠ b4 := fun e => by rw [e, hn4] at hb; cases hb
    have n5 : b ≠ b5 := fun e => by rw [e] at hb; rw [s7 _ _ hb] at hn5; cases hn5
    rw [gA b n5, g9 b n4]; exact s8 _ _ (s7 _ _ hb)
  have hlogA := hlog6.keep (H' := HA) fun b o _ hb => sA b o hb
  have hbookA := ((hbook4.sub s5).sub s6).sub sA
  have hz1A := hz1.sub sA
  have hz2A := hz2.sub sA
  have l4 := ldc w0 h4A 4
  clear h4 h48 h49 h59 h5 s7 s8 g7 g8 g9 gA
  simp -implicitDefEqProofs only [go_sem, Nat.reduceEqDiff, Nat.reduceLT, Nat.reduceAdd, Nat.reduceMul, Int.reduceEq, Int.reduceLT, Int.reduceLE, Int.reduceNe, Int.reduceBEq, Int.reduceToNat, ↓reduceIte]
  refine vdraw_t [⟨0, .p, [], []⟩, ⟨1, .p, [], []⟩, ⟨2, .n, [], []⟩, ⟨3, .c, [2], []⟩, ⟨4, .c, [], []⟩, ⟨5, .p, [], []⟩, ⟨6, .p, [], []⟩, ⟨7, .p, [], []⟩, ⟨8, .p, [], []⟩, ⟨9, .p, [], []⟩] [0, 0, 0, 0, 15, 31, 63, 63, 127, 511] mixed (by kernel_rfl) ?_
  simp -implicitDefEqProofs only [go_sem, Nat.reduceEqDiff, Nat.reduceLT, Nat.reduceAdd, Nat.reduceMul, Int.reduceEq, Int.reduceLT, Int.reduceLE, Int.reduceNe, Int.reduceBEq, Int.reduceToNat, ↓reduceIte, l4, ldK_agg]
  refine (one_cols w0 HA).mono ?_
  rintro c1 HB ⟨hrc1, hfc1, sB⟩
  have l4B := ldc w0 (sB _ _ h4A) 4
  simp -implicitDefEqProofs only [go_sem, Nat.reduceEqDiff, Nat.reduceLT, Nat.reduceAdd, Nat.reduceMul, Int.reduceEq, Int.reduceLT, Int.reduceLE, Int.reduceNe, Int.reduceBEq, Int.reduceToNat, ↓reduceIte, l4B, ldK_agg]
  refine (create_ok (hbookA.sub sB) (by simp) (by simp) (by omega) (hlogA.keep (H' := HB) fun b o _ hb => sB b o hb) (by omega) (hz1A.sub sB) ⟨#[116]⟩ (by decide) hrc1).mono ?_
  rintro r HC ⟨oC, fC, hC⟩
  have cC : createC st4 z1 [] [] ⟨#[116]⟩ = 0 := by obtain ⟨u1, u2, u3, u4⟩ := z1; subst o1 q1 e4; kernel_rfl
  rcases hC with ⟨hC, _⟩ | ⟨_, rfl, t1, ht1, _, hbookC⟩
  · exact absurd cC hC
  have hbookC : BookAt HC bk [t1] [] 1 := hbookC
  have hlogC := (hlogA.keep (H' := HB) fun b o _ hb => sB b o hb).outB oC
  have hz2C := (hz2A.sub sB).outB oC
  have h5C := oC _ _ (by rw [tyAt_of (sB _ _ h5A)]; rfl) (sB _ _ h5A)
  have l5 := ldc w0 h5C 4
  simp -implicitDefEqProofs only [go_sem, Nat.reduceEqDiff, Nat.reduceLT, Nat.reduceAdd, Nat.reduceMul, Int.reduceEq, Int.reduceLT, Int.reduceLE, Int.reduceNe, Int.reduceBEq, Int.reduceToNat, ↓reduceIte, l4B, ldK_agg]
  refine vdraw_t [⟨0, .p, [], []⟩, ⟨1, .p, [], []⟩, ⟨2, .n, [], []⟩, ⟨3, .c, [2], []⟩, ⟨4, .c, [], []⟩, ⟨5, .p, [], []⟩, ⟨6, .p, [], []⟩, ⟨7, .p, [], []⟩, ⟨8, .p, [], []⟩, ⟨9, .p, [], []⟩] [0, 0, 0, 0, 15, 31, 63, 63, 127, 511] mixed (by kernel_rfl) ?_
  simp -implicitDefEqProofs only [go_sem, Nat.reduceEqDiff, Nat.reduceLT, Nat.reduceAdd, Nat.reduceMul, Int.reduceEq, Int.reduceLT, Int.reduceLE, Int.reduceNe, Int.reduceBEq, Int.reduceToNat, ↓reduceIte, l5, ldK_agg]
  refine (one_cols w0 HC).mono ?_
  rintro c2 HD ⟨hrc2, hfc2, sD⟩
  have l5D := ldc w0 (sD _ _ h5C) 4
  have hlogD := hlogC.keep (H' := HD) fun b o _ hb => sD b o hb
  simp -implicitDefEqProofs only [go_sem, Nat.reduceEqDiff, Nat.reduceLT, Nat.reduceAdd, Nat.reduceMul, Int.reduceEq, Int.reduceLT, Int.reduceLE, Int.reduceNe, Int.reduceBEq, Int.reduceToNat, ↓reduceIte, l5D, ldK_agg]
  refine (create_ok (hbookC.sub sD) (by simp) (by simp) (by omega) hlogD (by omega) (hz2C.sub sD) ⟨#[116]⟩ (by decide) hrc2).mono ?_
  rintro r HE ⟨oE, fE, hE⟩
  have cE : createC st4 z2 [t1] [] ⟨#[116]⟩ = 11 := by
    obtain ⟨u1, u2, u3, u4⟩ := z2; obtain ⟨p1, p2, p3, p4⟩ := z1; obtain ⟨v1, v2, v3⟩ := t1
    subst o2 q2 o1 q1 e4 ht1; kernel_rfl
  rcases hE with ⟨_, rfl, hbookE⟩ | ⟨hE, _⟩
  rotate_left
  · rw [cE] at hE; cases hE
  have hlogE := hlogD.outB oE
  rw [cE]
  simp -implicitDefEqProofs only [go_sem, Nat.reduceEqDiff, Nat.reduceLT, Nat.reduceAdd, Nat.reduceMul, Int.reduceEq, Int.reduceLT, Int.reduceLE, Int.reduceNe, Int.reduceBEq, Int.reduceToNat, ↓reduceIte]
  refine (commit_log hlogE (by omega) (x := 1) (by omega)).mono ?_
  rintro r HF ⟨rfl, hlogF, hfF⟩
  have hbookF := hbookE.log hlogE hfF
  obtain ⟨st5, e5⟩ : ∃ st5 : List Nat, st5 = [2, 1, 1] := ⟨_, rfl⟩
  have e6 : endSts 1 st4 1 2 ++ [1] = st5 := by rw [e4, e5]; decide +kernel
  have e7 : (endSts 1 st4 1 2).length = 2 := by rw [endSts_len]; exact hl4
  simp -implicitDefEqProofs only [go_sem, Nat.reduceEqDiff, Nat.reduceLT, Nat.reduceAdd, Nat.reduceMul, Int.reduceEq, Int.reduceLT, Int.reduceLE, Int.reduceNe, Int.reduceBEq, Int.reduceToNat, ↓reduceIte]
  refine (begin_log hlogF (by omega)).mono ?_
  rintro r HG ⟨rfl, S5, hlogG, hSG, hfG⟩
  have hbookG := hbookF.log hlogF hfG
  rw [e6] at hlogG
  have hl5 : st5.length = 3 := by rw [e5]; rfl
  simp -implicitDefEqProofs only [go_sem, Nat.reduceEqDiff, Nat.reduceLT, Nat.reduceAdd, Nat.reduceMul, Int.reduceEq, Int.reduceLT, Int.reduceLE, Int.reduceNe, Int.reduceBEq, Int.reduceToNat, ↓reduceIte]
  refine (take_shot hlogG (by omega) 3).mono ?_
  rintro r HI ⟨z3, o3, q3, rfl, hz3, hfr3, sI⟩
  simp -implicitDefEqProofs only [go_sem, Nat.reduceEqDiff, Nat.reduceLT, Nat.reduceAdd, Nat.reduceMul, Int.reduceEq, Int.reduceLT, Int.reduceLE, Int.reduceNe, Int.reduceBEq, Int.reduceToNat, ↓reduceIte]
  refine (one_cols w0 HI).mono ?_
  rintro c3 HJ ⟨hrc3, hfc3, sJ⟩
  simp -implicitDefEqProofs only [go_sem, Nat.reduceEqDiff, Nat.reduceLT, Nat.reduceAdd, Nat.reduceMul, Int.reduceEq, Int.reduceLT, Int.reduceLE, Int.reduceNe, Int.reduceBEq, Int.reduceToNat, ↓reduceIte]
  refine (create_ok ((hbookG.sub sI).sub sJ) (by simp) (by simp) (by omega) ((hlogG.keep (H' := HI) fun b o _ hb => sI b o hb).keep (H' := HJ) fun b o _ hb => sJ b o hb) (by omega) (hz3.sub sJ) ⟨#[116]⟩ (by decide) hrc3).mono ?_
  rintro r HK ⟨oK, fK, hK⟩
  have cK : createC st5 z3 [t1] [] ⟨#[116]⟩ = 7 := by
    obtain ⟨u1, u2, u3, u4⟩ := z3; obtain ⟨p1, p2, p3, p4⟩ := z1; obtain ⟨v1, v2, v3⟩ := t1
    subst o3 q3 o1 q1 e4 e5 ht1; kernel_rfl
  rcases hK with ⟨_, rfl, hbookK⟩ | ⟨hK, _⟩
  rotate_left
  · rw [cK] at hK; cases hK
  rw [cK]
  simp -implicitDefEqProofs only [go_sem, Nat.reduceEqDiff, Nat.reduceLT, Nat.reduceAdd, Nat.reduceMul, Int.reduceEq, Int.reduceLT, Int.reduceLE, Int.reduceNe, Int.reduceBEq, Int.reduceToNat, ↓reduceIte]
  exact fun b o hb => by cases hb
end Go.Proofs.Ytcpeiejabbdeiaa
