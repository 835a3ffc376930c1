/-
  The law SnapDead, walked.
  Conditions: the scripts' steps read as steps, the stamps as pairs.
-/
import Derived.Test.YtmpepacfnckadaaRst
namespace Go.Proofs.Ytmpepacfnckadaa
open Go Go.RowKit Go.Proofs.YtmpepacfnckadaaW
set_option maxRecDepth 100000
set_option maxHeartbeats 1000000
set_option linter.unusedSimpArgs false
set_option linter.unusedVariables false

/-! ### The plain law -/
/-- Who was committed below the horizon is seen by a snapshot. -/
def DZ (sts : List Nat) (h : Nat) (z : Shot) : Prop := ∀ b : Nat, stOf 1 sts (b : Int) = 2 → b < h → b < z.xmax ∧ z.run.contains b = false
theorem least_mem_le {n : Nat} {xs : List Nat} {x : Nat} (h : x ∈ xs) : least n xs ≤ x := (foldl_min_le xs n).2 x h
theorem DZ.live {sts : List Nat} {n : Nat} {ls : List Shot} {z : Shot} (hz : z ∈ ls) : DZ sts (hzn n (ls.map Shot.xmin)) z := by
  intro b _ hb
  have h1 : hzn n (ls.map Shot.xmin) ≤ z.xmin := hzn_le (List.mem_map.2 ⟨z, hz, rfl⟩)
  have h2 := z.xmin_le
  refine ⟨by omega, ?_⟩
  have : ¬ b ∈ z.run := fun hm => by
    have h3 : z.xmin ≤ b := least_mem_le (n := z.xmax) hm
    omega
  simpa using this
theorem Later.two {a b : List Nat} (h : Later a b) {y v : Nat} (hv : 1 < v) (hy : stOf 1 a (y : Int) = v) : stOf 1 b (y : Int) = v := by
  obtain ⟨k, hk, hl, h1⟩ := stOf_one (by omega) hy
  have e : y = 1 + k := by omega
  have hle := h.1
  have := h.2 k hl (by rw [h1]; omega)
  rw [stOf, if_pos (by omega), show ((y : Int) - ((1 : Nat) : Int)).toNat = k by omega, this, h1]
theorem DZ.fresh {sts now : List Nat} {h : Nat} (hl : Later sts now) (own : Nat) (v t : Value) : DZ sts h ⟨own, now, v, t⟩ := by
  intro b hb _
  have h2 := hl.two (by omega) hb
  have := stOf_lt (by omega) h2
  refine ⟨by unfold Shot.xmax; simp only []; omega, ?_⟩
  have : ¬ b ∈ (Shot.mk own now v t).run := fun hm => by
    unfold Shot.run at hm
    simp only [] at hm
    have := runs_st (others_mem.1 hm).1
    omega
  simpa using this
theorem dead_unseen {sts now : List Nat} {h a b : Nat} {z : Shot} (hl : Later sts now) (hz : DZ sts h z) (hd : deadB 1 sts a b h = true) (ha : a ≠ z.own) : visB 1 now z.own z.xmax z.run a b = false := by
  unfold deadB at hd
  simp only [Bool.or_eq_true, Bool.and_eq_true, decide_eq_true_eq] at hd
  unfold visB
  rcases hd with hd | ⟨⟨h0, h2⟩, h3⟩
  · have := hl.two (by omega) hd
    have e : seesB 1 now z.own z.xmax z.run a = false := by unfold seesB; rw [this]; simp [ha]
    rw [e]; rfl
  · have g := hl.two (by omega) h2
    obtain ⟨q1, q2⟩ := hz b h2 h3
    have e : seesB 1 now z.own z.xmax z.run b = true := by unfold seesB; rw [g, q2]; simp [q1]
    rw [e]; simp [h0]

/-! ### The walk -/
def DedAt (H : Hp) (p l x : Nat) (S : Nat → Prop) (sts : List Nat) (ls : List Shot) (lv dv : Value) (ts : List (Nat × Nat)) (ss tt : Value) : Prop :=
  H p = some (.cells #[ptr l, ptr x, ss, tt] 64 (0, 0)) ∧ LogAt H l S 1 sts ∧ Row H 66 4 lv ls.length (ls.flatMap Shot.cs) ∧
  (∀ z ∈ ls, Row H 23 1 z.v z.run.length (u64s z.run) ∧ z.old.length ≤ 100) ∧ Row H 76 6 dv ts.length (ts.flatMap tcs)
section
variable {H H' : Hp} {p l x : Nat} {S S' : Nat → Prop} {sts sts' : List Nat} {ls : List Shot} {lv dv : Value} {ts : List (Nat × Nat)} {ss tt : Value}
def dedTy (o : Option Nat) : Bool := halfTy o || o == some 76
theorem DedAt.run (h : DedAt H p l x S sts ls lv dv ts ss tt) {z : Shot} (hz : z ∈ ls) : z.run.length < 10000000000000 := by
  obtain ⟨q1, q3⟩ := h.2.2.2.1 z hz
  have := others_len z.own (runs 1 z.old); have := runsK_len 1 z.old z.old.length
  unfold runs at *; unfold Shot.run runs; omega
theorem DedAt.cell (h : DedAt H p l x S sts ls lv dv ts ss tt) {z : Shot} (hz : z ∈ ls) : cell1 z.v = true := by
  obtain ⟨u1, u2, u⟩ := (h.2.2.2.1 z hz).1.slice; rw [u]; exact cell1_slice
theorem DedAt.keep (h : DedAt H p l x S sts ls lv dv ts ss tt) (hk : ∀ b o, dedTy (tyAt H b) = true → H b = some o → H' b = some o) : DedAt H' p l x S sts ls lv dv ts ss tt := by
  obtain ⟨h1, h2, h3, h4, h5⟩ := h
  exact ⟨hk p _ (by rw [tyAt_of h1]; rfl) h1, h2.keep fun b o hb ho => hk b o (by rcases h2.ty hb with e | e <;> rw [e] <;> rfl) ho, h3.keep fun b o hb ho => hk b o (by rw [Row.tyAt h3 hb]; rfl) ho,
    fun z hz => ⟨(h4 z hz).1.keep fun b o hb ho => hk b o (by rw [Row.tyAt (h4 z hz).1 hb]; rfl) ho, (h4 z hz).2⟩, h5.keep fun b o hb ho => hk b o (by rw [Row.tyAt h5 hb]; rfl) ho⟩
theorem DedAt.sub (h : DedAt H p l x S sts ls lv dv ts ss tt) (hs : Sub H H') : DedAt H' p l x S sts ls lv dv ts ss tt := h.keep fun b o _ hb => hs b o hb
theorem DedAt.step (h : DedAt H p l x S sts ls lv dv ts ss tt) (hl : LogAt H' l S' 1 sts') (hf : ∀ b o, ¬ S b → H b = some o → H' b = some o) : DedAt H' p l x S' sts' ls lv dv ts ss tt := by
  obtain ⟨h1, h2, h3, h4, h5⟩ := h
  exact ⟨log_out h2 hf h1 (by rw [tyAt_of h1]; decide) (by rw [tyAt_of h1]; decide), hl, log_row h2 hf h3 (by decide) (by decide), fun z hz => ⟨log_row h2 hf (h4 z hz).1 (by decide) (by decide), (h4 z hz).2⟩, log_row h2 hf h5 (by decide) (by decide)⟩
end
def DedI (w0 : World) (Hb : Hp) (p : Nat) (zs : List Shot) (ss ba sa : Value) (m : Nat) (F : Fr) (H : Hp) : Prop :=
  ∃ (i : Nat) (lv : Value) (ls : List Shot), i + m = zs.length ∧ F 1 = ba ∧ F 2 = sa ∧ F 7 = ptr p ∧ F 9 = lv ∧ F 37 = ss ∧ F 38 = .int .i64 (zs.length : Int) ∧ F 39 = .int .i64 (i : Int) ∧
    Row H 66 4 lv ls.length (ls.flatMap Shot.cs) ∧ (∀ b, blk lv = some b → Hb b = none ∧ w0.heap.size ≤ b) ∧ Sub Hb H ∧ (∀ z ∈ ls, z ∈ zs) ∧ ls.length ≤ i
def DedJ (w0 : World) (p l x : Nat) (S : Nat → Prop) (sts : List Nat) (ls : List Shot) (hz sn : Nat) (lv ss tt ba sa : Value) (m : Nat) (F : Fr) (H : Hp) : Prop :=
  ∃ (k : Nat) (dv : Value) (ts : List (Nat × Nat)), k + m = sn ∧ F 1 = ba ∧ F 7 = ptr p ∧ F 9 = lv ∧ F 12 = .int .u64 (hz : Int) ∧ F 13 = dv ∧ F 62 = sa ∧ F 63 = .int .i64 (sn : Int) ∧ F 64 = .int .i64 (k : Int) ∧
    DedAt H p l x S sts ls lv dv ts ss tt ∧ (∀ t ∈ ts, deadB 1 sts t.1 t.2 hz = true) ∧ ts.length ≤ k ∧ ts.length ≤ 20
def DedK (w0 : World) (p l x : Nat) (sts : List Nat) (hz n : Nat) (dv ss tt ba : Value) (ts : List (Nat × Nat)) (m : Nat) (F : Fr) (H : Hp) : Prop :=
  ∃ (k : Nat) (S : Nat → Prop) (now : List Nat) (ls : List Shot) (lv : Value), k + m = n ∧ F 7 = ptr p ∧ F 9 = lv ∧ F 13 = dv ∧ F 92 = ba ∧ F 93 = .int .i64 (n : Int) ∧ F 94 = .int .i64 (k : Int) ∧
    DedAt H p l x S now ls lv dv ts ss tt ∧ Later sts now ∧ (∀ z ∈ ls, DZ sts hz z) ∧ k ≤ 30 ∧ now.length ≤ 30 + k ∧ ls.length ≤ 30 + k
def DedL (w0 : World) (Hb : Hp) (p : Nat) (ls : List Shot) (lv dv : Value) (m : Nat) (F : Fr) (H : Hp) : Prop :=
  ∃ j, j + m = ls.length ∧ F 7 = ptr p ∧ F 13 = dv ∧ F 144 = lv ∧ F 145 = .int .i64 (ls.length : Int) ∧ F 146 = .int .i64 (j : Int) ∧ Sub Hb H
def DedM (w0 : World) (Hb : Hp) (p j b22 ln tn : Nat) (lv dv : Value) (m : Nat) (F : Fr) (H : Hp) : Prop :=
  ∃ q, q + m = tn ∧ F 7 = ptr p ∧ F 13 = dv ∧ F 22 = ptr b22 ∧ F 144 = lv ∧ F 145 = .int .i64 (ln : Int) ∧ F 146 = .int .i64 (j : Int) ∧ F 150 = dv ∧ F 151 = .int .i64 (tn : Int) ∧ F 152 = .int .i64 (q : Int) ∧ Sub Hb H

theorem dead_ok (w0 : World) (a : Value) (n0 : Nat) (ha : Ops10Arg w0 a n0) (b : Value) (n : Nat) (hb : Ops10Arg w0 b n) (s : Value) (sn : Nat) (hs : PairsArg w0 s sn) :
    ACalls Try.prog w0 10 #[a, b, s] (fun _ => none) fun r H' => r = .bool true ∧ True := by
  obtain ⟨ad, c, rfl, hn, hops⟩ := hb
  obtain ⟨sd, sc, rfl, hsn, hst⟩ := hs
  refine acalls_of Try.func10 rfl Try.ntmps10 r10 (by simp) ?_
  simp -implicitDefEqProofs only [go_sem, Nat.reduceEqDiff, Nat.reduceLT, Nat.reduceAdd, Nat.reduceMul, Int.reduceEq, Int.reduceLT, Int.reduceLE, Int.reduceNe, Int.reduceBEq, Int.reduceToNat, ↓reduceIte]
  refine (awake10_ok w0 _).mono ?_
  rintro r H' ⟨rfl, rfl⟩
  simp -implicitDefEqProofs only [go_sem, Nat.reduceEqDiff, Nat.reduceLT, Nat.reduceAdd, Nat.reduceMul, Int.reduceEq, Int.reduceLT, Int.reduceLE, Int.reduceNe, Int.reduceBEq, Int.reduceToNat, ↓reduceIte]
  refine (play_ok w0 _ 30 (by omega) a n0 ha).mono ?_
  rintro r H0 ⟨p, l, x, P, sts, zs, ss, tt, rfl, hpl, hs2, hz2, hhi⟩
  obtain ⟨S, hhf⟩ := hpl.half
  clear hpl hhi
  have lp := ld_own w0 hhf.1
  obtain ⟨sa, sc', hss⟩ := hhf.2.2.1.slice
  simp -implicitDefEqProofs only [go_sem, Nat.reduceEqDiff, Nat.reduceLT, Nat.reduceAdd, Nat.reduceMul, Int.reduceEq, Int.reduceLT, Int.reduceLE, Int.reduceNe, Int.reduceBEq, Int.reduceToNat, ↓reduceIte, lp, hss]
  rw [← hss]
  refine AC.loopH (DedI w0 H0 p zs ss (.slice ad n c) (.slice sd sn sc)) (n := zs.length) ⟨0, .slice none 0 0, [], by omega, rfl, rfl, rfl, rfl, by simp -implicitDefEqProofs only [go_sem, Nat.reduceEqDiff, Nat.reduceLT, Nat.reduceAdd, Nat.reduceMul, Int.reduceEq, Int.reduceLT, Int.reduceLE, Int.reduceNe, Int.reduceBEq, Int.reduceToNat, ↓reduceIte, hss], rfl, rfl, ⟨by simp, .inl ⟨rfl, rfl⟩⟩, by simp [blk], Sub.refl _, by simp, by simp⟩ ?_
  clear lp
  rintro m F H1 ⟨i, lv, ls, hi, f1, f2, f7, f9, f37, f38, f39, hrow, hfr, s1, hlm, hll⟩ hhi1
  have hhf1 := hhf.sub s1
  have lp := ld_own w0 hhf1.1
  by_cases c1 : i < zs.length
  · have d1 : decide ((i : Int) < (zs.length : Int)) = true := by simp; omega
    have d0 : decide ((0 : Int) ≤ (i : Int)) = true := by simp
    have d2 : IntKind.i64.wrap ((i : Int) + 1) = (i + 1 : Nat) := by rw [i64_in] <;> omega
    have hz : zs[i]? = some zs[i] := by simp [c1]
    generalize zs[i] = z at hz
    have hzm := List.mem_of_getElem? hz
    obtain ⟨g1, cap1, hv1, hl1⟩ := hhf1.2.2.1.at w0 rfl (fun z _ => z.cs_len) hz
    have hl1' : ldCells w0 H1 ⟨g1, i * 4, none⟩ 0 4 = some [.int .u64 (z.own : Int), .int .u64 (z.xmin : Int), .int .u64 (z.xmax : Int), z.v] := hl1
    rw [hv1] at f37
    have hc1 := hhf1.2.2.2.cell hzm
    simp -implicitDefEqProofs only [go_sem, Nat.reduceEqDiff, Nat.reduceLT, Nat.reduceAdd, Nat.reduceMul, Int.reduceEq, Int.reduceLT, Int.reduceLE, Int.reduceNe, Int.reduceBEq, Int.reduceToNat, ↓reduceIte, f1, f2, f7, f9, f37, f38, f39, d1, d0, hl1', ldK_agg]
    refine newK_of ?_
    intro b11 H2 hb11 hn11 h11 s11 g11
    simp -implicitDefEqProofs only [go_sem, Nat.reduceEqDiff, Nat.reduceLT, Nat.reduceAdd, Nat.reduceMul, Int.reduceEq, Int.reduceLT, Int.reduceLE, Int.reduceNe, Int.reduceBEq, Int.reduceToNat, ↓reduceIte, f1, f2, f7, f9, f37, f38, f39]
    refine store_all h11 rfl (by simp [cell1_int, hc1]) rfl ?_
    intro H3 h11 g11'
    have s3 : Sub H1 H3 := Sub.ne2 hn11 g11 g11'
    clear g11 g11' s11
    have hhf3 := hhf1.sub s3
    have lp3 := ld_own w0 hhf3.1
    have l11 := ld_own w0 h11
    have l11' := ldc w0 h11 4
    simp -implicitDefEqProofs only [go_sem, Nat.reduceEqDiff, Nat.reduceLT, Nat.reduceAdd, Nat.reduceMul, Int.reduceEq, Int.reduceLT, Int.reduceLE, Int.reduceNe, Int.reduceBEq, Int.reduceToNat, ↓reduceIte, f1, f2, f7, f9, f37, f38, f39]
    refine vdraw_t [⟨0, .p, [], []⟩, ⟨1, .p, [], []⟩, ⟨2, .p, [], []⟩, ⟨3, .n, [], []⟩, ⟨4, .p, [], []⟩, ⟨5, .n, [], []⟩, ⟨6, .c, [], []⟩, ⟨7, .p, [], []⟩] [0, 1, 3, 7, 0, 16, 63, 127] mixed (by kernel_rfl) ?_
    simp -implicitDefEqProofs only [go_sem, Nat.reduceEqDiff, Nat.reduceLT, Nat.reduceAdd, Nat.reduceMul, Int.reduceEq, Int.reduceLT, Int.reduceLE, Int.reduceNe, Int.reduceBEq, Int.reduceToNat, ↓reduceIte, f1, f2, f7, f9, f37, f38, f39, lp3, l11]
    refine (state_log hhf3.2.1 (by omega) (x := (z.own : Int)) (by omega)).mono ?_
    rintro rr H4 ⟨rfl, rfl⟩
    by_cases cr : stOf 1 sts (z.own : Int) = 1
    · have d3 : decide (((stOf 1 sts (z.own : Int) : Nat) : Int) = 1) = true := by rw [dec_one]; simp [cr]
      have bs1 : bsCells Try.prog 66 1 #[(0, .agg #[.int .u64 (z.own : Int), .int .u64 (z.xmin : Int), .int .u64 (z.xmax : Int), z.v])] = some #[.int .u64 (z.own : Int), .int .u64 (z.xmin : Int), .int .u64 (z.xmax : Int), z.v] := by kernel_rfl
      simp -implicitDefEqProofs only [go_sem, Nat.reduceEqDiff, Nat.reduceLT, Nat.reduceAdd, Nat.reduceMul, Int.reduceEq, Int.reduceLT, Int.reduceLE, Int.reduceNe, Int.reduceBEq, Int.reduceToNat, ↓reduceIte, f1, f2, f7, f9, f37, f38, f39, lp3, l11', ldK_agg, d3, bs1]
      refine newK_of ?_
      intro nb H5 hnb hnn h4 s4 g4
      simp -implicitDefEqProofs only [go_sem, Nat.reduceEqDiff, Nat.reduceLT, Nat.reduceAdd, Nat.reduceMul, Int.reduceEq, Int.reduceLT, Int.reduceLE, Int.reduceNe, Int.reduceBEq, Int.reduceToNat, ↓reduceIte, f1, f2, f7, f9, f37, f38, f39]
      refine aop_append_lit (t := 61) (x := .tmp 51) (y := .tmp 53) (c := 1) Try.underlying61 s66 b66 z66 rfl (v := lv) (by simp -implicitDefEqProofs only [go_sem, Nat.reduceEqDiff, Nat.reduceLT, Nat.reduceAdd, Nat.reduceMul, Int.reduceEq, Int.reduceLT, Int.reduceLE, Int.reduceNe, Int.reduceBEq, Int.reduceToNat, ↓reduceIte]) ((hrow.keep (H' := H4) fun b o _ hb => s3 b o hb).keep (H' := H5) fun b o _ hb => s4 b o hb) h4 (by simp -implicitDefEqProofs only [go_sem, Nat.reduceEqDiff, Nat.reduceLT, Nat.reduceAdd, Nat.reduceMul, Int.reduceEq, Int.reduceLT, Int.reduceLE, Int.reduceNe, Int.reduceBEq, Int.reduceToNat, ↓reduceIte]) rfl (by simp [cell1_int, hc1]) (by omega) (by omega) (by omega) ?_
      intro g H6 hg hH6 cap hrow6
      obtain ⟨s6, hgn, hgw⟩ := app_fresh (s1.trans (s3.trans s4)) hfr hg hH6
      simp -implicitDefEqProofs only [go_sem, Nat.reduceEqDiff, Nat.reduceLT, Nat.reduceAdd, Nat.reduceMul, Int.reduceEq, Int.reduceLT, Int.reduceLE, Int.reduceNe, Int.reduceBEq, Int.reduceToNat, ↓reduceIte, f1, f2, f7, f9, f37, f38, f39, d2]
      refine ⟨m - 1, by omega, i + 1, .slice (some ⟨g, 0, none⟩) (ls.length + 1) cap, ls ++ [z], by omega, by simp -implicitDefEqProofs only [go_sem, Nat.reduceEqDiff, Nat.reduceLT, Nat.reduceAdd, Nat.reduceMul, Int.reduceEq, Int.reduceLT, Int.reduceLE, Int.reduceNe, Int.reduceBEq, Int.reduceToNat, ↓reduceIte, f1], by simp -implicitDefEqProofs only [go_sem, Nat.reduceEqDiff, Nat.reduceLT, Nat.reduceAdd, Nat.reduceMul, Int.reduceEq, Int.reduceLT, Int.reduceLE, Int.reduceNe, Int.reduceBEq, Int.reduceToNat, ↓reduceIte, f2], by simp -implicitDefEqProofs only [go_sem, Nat.reduceEqDiff, Nat.reduceLT, Nat.reduceAdd, Nat.reduceMul, Int.reduceEq, Int.reduceLT, Int.reduceLE, Int.reduceNe, Int.reduceBEq, Int.reduceToNat, ↓reduceIte, f7], by simp -implicitDefEqProofs only [go_sem, Nat.reduceEqDiff, Nat.reduceLT, Nat.reduceAdd, Nat.reduceMul, Int.reduceEq, Int.reduceLT, Int.reduceLE, Int.reduceNe, Int.reduceBEq, Int.reduceToNat, ↓reduceIte], by simp -implicitDefEqProofs only [go_sem, Nat.reduceEqDiff, Nat.reduceLT, Nat.reduceAdd, Nat.reduceMul, Int.reduceEq, Int.reduceLT, Int.reduceLE, Int.reduceNe, Int.reduceBEq, Int.reduceToNat, ↓reduceIte, f37, hv1], by simp -implicitDefEqProofs only [go_sem, Nat.reduceEqDiff, Nat.reduceLT, Nat.reduceAdd, Nat.reduceMul, Int.reduceEq, Int.reduceLT, Int.reduceLE, Int.reduceNe, Int.reduceBEq, Int.reduceToNat, ↓reduceIte, f38], by simp -implicitDefEqProofs only [go_sem, Nat.reduceEqDiff, Nat.reduceLT, Nat.reduceAdd, Nat.reduceMul, Int.reduceEq, Int.reduceLT, Int.reduceLE, Int.reduceNe, Int.reduceBEq, Int.reduceToNat, ↓reduceIte], ?_, ?_, s6, ?_, by rw [List.length_append, List.length_singleton]; omega⟩
      · rw [List.length_append, List.length_singleton, List.flatMap_append, List.flatMap_cons, List.flatMap_nil, List.append_nil]
        exact hrow6
      · intro b hb
        simp only [blk, Option.some.injEq] at hb
        subst hb; exact ⟨hgn, hgw⟩
      · intro z' hz'
        simp only [List.mem_append, List.mem_singleton] at hz'
        rcases hz' with hz' | rfl
        · exact hlm z' hz'
        · exact hzm
    · have d3 : decide (((stOf 1 sts (z.own : Int) : Nat) : Int) = 1) = false := by rw [dec_one]; simp [cr]
      simp -implicitDefEqProofs only [go_sem, Nat.reduceEqDiff, Nat.reduceLT, Nat.reduceAdd, Nat.reduceMul, Int.reduceEq, Int.reduceLT, Int.reduceLE, Int.reduceNe, Int.reduceBEq, Int.reduceToNat, ↓reduceIte, f1, f2, f7, f9, f37, f38, f39, lp3, d3, d2]
      exact ⟨m - 1, by omega, i + 1, lv, ls, by omega, by simp -implicitDefEqProofs only [go_sem, Nat.reduceEqDiff, Nat.reduceLT, Nat.reduceAdd, Nat.reduceMul, Int.reduceEq, Int.reduceLT, Int.reduceLE, Int.reduceNe, Int.reduceBEq, Int.reduceToNat, ↓reduceIte, f1], by simp -implicitDefEqProofs only [go_sem, Nat.reduceEqDiff, Nat.reduceLT, Nat.reduceAdd, Nat.reduceMul, Int.reduceEq, Int.reduceLT, Int.reduceLE, Int.reduceNe, Int.reduceBEq, Int.reduceToNat, ↓reduceIte, f2], by simp -implicitDefEqProofs only [go_sem, Nat.reduceEqDiff, Nat.reduceLT, Nat.reduceAdd, Nat.reduceMul, Int.reduceEq, Int.reduceLT, Int.reduceLE, Int.reduceNe, Int.reduceBEq, Int.reduceToNat, ↓reduceIte, f7], by simp -implicitDefEqProofs only [go_sem, Nat.reduceEqDiff, Nat.reduceLT, Nat.reduceAdd, Nat.reduceMul, Int.reduceEq, Int.reduceLT, Int.reduceLE, Int.reduceNe, Int.reduceBEq, Int.reduceToNat, ↓reduceIte, f9], by simp -implicitDefEqProofs only [go_sem, Nat.reduceEqDiff, Nat.reduceLT, Nat.reduceAdd, Nat.reduceMul, Int.reduceEq, Int.reduceLT, Int.reduceLE, Int.reduceNe, Int.reduceBEq, Int.reduceToNat, ↓reduceIte, f37, hv1], by simp -implicitDefEqProofs only [go_sem, Nat.reduceEqDiff, Nat.reduceLT, Nat.reduceAdd, Nat.reduceMul, Int.reduceEq, Int.reduceLT, Int.reduceLE, Int.reduceNe, Int.reduceBEq, Int.reduceToNat, ↓reduceIte, f38], by simp -implicitDefEqProofs only [go_sem, Nat.reduceEqDiff, Nat.reduceLT, Nat.reduceAdd, Nat.reduceMul, Int.reduceEq, Int.reduceLT, Int.reduceLE, Int.reduceNe, Int.reduceBEq, Int.reduceToNat, ↓reduceIte], hrow.keep fun b o _ hb => s3 b o hb, hfr, s1.trans s3, hlm, by omega⟩
  · have d1 : decide ((i : Int) < (zs.length : Int)) = false := by simp; omega
    simp -implicitDefEqProofs only [go_sem, Nat.reduceEqDiff, Nat.reduceLT, Nat.reduceAdd, Nat.reduceMul, Int.reduceEq, Int.reduceLT, Int.reduceLE, Int.reduceNe, Int.reduceBEq, Int.reduceToNat, ↓reduceIte, f1, f2, f7, f9, f37, f38, f39, d1, lp]
    refine (horizon_log hhf1.2.1 (by omega) hrow (by omega) (fun z hz => hhf1.2.2.2.cell (hlm z hz))).mono ?_
    rintro rr H1' ⟨rfl, rfl⟩
    have hdz0 : ∀ z ∈ ls, DZ sts (hzn (1 + sts.length) (ls.map Shot.xmin)) z := fun z hz => DZ.live hz
    have hat1 : DedAt H1' p l x S sts ls lv (.slice none 0 0) [] ss tt := ⟨hhf1.1, hhf1.2.1, hrow, fun z hz => ⟨(hhf1.2.2.2 z (hlm z hz)).1, (hhf1.2.2.2 z (hlm z hz)).2.2⟩, ⟨by simp, .inl ⟨rfl, rfl⟩⟩⟩
    generalize hzn (1 + sts.length) (ls.map Shot.xmin) = hz at hdz0 ⊢
    have hl30 : ls.length ≤ 30 := by omega
    simp -implicitDefEqProofs only [go_sem, Nat.reduceEqDiff, Nat.reduceLT, Nat.reduceAdd, Nat.reduceMul, Int.reduceEq, Int.reduceLT, Int.reduceLE, Int.reduceNe, Int.reduceBEq, Int.reduceToNat, ↓reduceIte, f1, f2, f7, f9, f37, f38, f39]
    refine AC.loopH (DedJ w0 p l x S sts ls hz sn lv ss tt (.slice ad n c) (.slice sd sn sc)) (n := sn) ⟨0, .slice none 0 0, [], by omega, by simp -implicitDefEqProofs only [go_sem, Nat.reduceEqDiff, Nat.reduceLT, Nat.reduceAdd, Nat.reduceMul, Int.reduceEq, Int.reduceLT, Int.reduceLE, Int.reduceNe, Int.reduceBEq, Int.reduceToNat, ↓reduceIte, f1], by simp -implicitDefEqProofs only [go_sem, Nat.reduceEqDiff, Nat.reduceLT, Nat.reduceAdd, Nat.reduceMul, Int.reduceEq, Int.reduceLT, Int.reduceLE, Int.reduceNe, Int.reduceBEq, Int.reduceToNat, ↓reduceIte, f7], by simp -implicitDefEqProofs only [go_sem, Nat.reduceEqDiff, Nat.reduceLT, Nat.reduceAdd, Nat.reduceMul, Int.reduceEq, Int.reduceLT, Int.reduceLE, Int.reduceNe, Int.reduceBEq, Int.reduceToNat, ↓reduceIte, f9], by simp -implicitDefEqProofs only [go_sem, Nat.reduceEqDiff, Nat.reduceLT, Nat.reduceAdd, Nat.reduceMul, Int.reduceEq, Int.reduceLT, Int.reduceLE, Int.reduceNe, Int.reduceBEq, Int.reduceToNat, ↓reduceIte], by simp -implicitDefEqProofs only [go_sem, Nat.reduceEqDiff, Nat.reduceLT, Nat.reduceAdd, Nat.reduceMul, Int.reduceEq, Int.reduceLT, Int.reduceLE, Int.reduceNe, Int.reduceBEq, Int.reduceToNat, ↓reduceIte], by simp -implicitDefEqProofs only [go_sem, Nat.reduceEqDiff, Nat.reduceLT, Nat.reduceAdd, Nat.reduceMul, Int.reduceEq, Int.reduceLT, Int.reduceLE, Int.reduceNe, Int.reduceBEq, Int.reduceToNat, ↓reduceIte], by simp -implicitDefEqProofs only [go_sem, Nat.reduceEqDiff, Nat.reduceLT, Nat.reduceAdd, Nat.reduceMul, Int.reduceEq, Int.reduceLT, Int.reduceLE, Int.reduceNe, Int.reduceBEq, Int.reduceToNat, ↓reduceIte], by simp -implicitDefEqProofs only [go_sem, Nat.reduceEqDiff, Nat.reduceLT, Nat.reduceAdd, Nat.reduceMul, Int.reduceEq, Int.reduceLT, Int.reduceLE, Int.reduceNe, Int.reduceBEq, Int.reduceToNat, ↓reduceIte], hat1, by simp, by simp, by simp⟩ ?_
    clear f1 f2 f7 f9 f37 f38 f39 hat1 hrow hfr s1 hlm hll hhf hhf1 lp hhi1 d1 c1 hi hss
    rintro m F H2 ⟨k, dv, ts, hk, f1, f7, f9, f12, f13, f62, f63, f64, hat, hdead, htk, ht20⟩ hhi2
    by_cases c2 : k < sn
    · have d1 : decide ((k : Int) < (sn : Int)) = true := by simp; omega
      have d0 : decide ((0 : Int) ≤ (k : Int)) = true := by simp
      have d2 : IntKind.i64.wrap ((k : Int) + 1) = (k + 1 : Nat) := by rw [i64_in] <;> omega
      obtain ⟨ab, hsd, A0, B0, hA0, hB0, hc0, hc1⟩ := hst k c2
      have l0 := ld_arg hhi2 hc0
      have l1 := ld_arg hhi2 hc1
      have hl3 : ldCells w0 H2 (ab.add (k * 2)) 0 2 = some [.int .u64 (A0 : Int), .int .u64 (B0 : Int)] := by
        simp only [ldCells, l0, l1, Option.bind_some, Option.map_some]
      simp -implicitDefEqProofs only [go_sem, Nat.reduceEqDiff, Nat.reduceLT, Nat.reduceAdd, Nat.reduceMul, Int.reduceEq, Int.reduceLT, Int.reduceLE, Int.reduceNe, Int.reduceBEq, Int.reduceToNat, ↓reduceIte, f1, f7, f9, f12, f13, f62, f63, f64, d1, d0, hsd, ldK_agg, hl3]
      refine newK_of ?_
      intro b15 H3 hb15 hn15 h15 s15 g15
      simp -implicitDefEqProofs only [go_sem, Nat.reduceEqDiff, Nat.reduceLT, Nat.reduceAdd, Nat.reduceMul, Int.reduceEq, Int.reduceLT, Int.reduceLE, Int.reduceNe, Int.reduceBEq, Int.reduceToNat, ↓reduceIte, f1, f7, f9, f12, f13, f62, f63, f64]
      refine store_all h15 rfl (by simp [cell1_int]) rfl ?_
      intro H4 h15 g15'
      have s4 : Sub H2 H4 := Sub.ne2 hn15 g15 g15'
      clear g15 g15' s15
      have l15 := ld_own w0 h15
      have i0 : (0 : Int).toNat = 0 := rfl
      have i1 : (1 : Int).toNat = 1 := rfl
      have mA : (A0 : Int).tmod 40 = ((A0 % 40 : Nat) : Int) := by rw [Int.tmod_eq_emod_of_nonneg (by omega)]; omega
      have mB : (B0 : Int).tmod 40 = ((B0 % 40 : Nat) : Int) := by rw [Int.tmod_eq_emod_of_nonneg (by omega)]; omega
      simp -implicitDefEqProofs only [go_sem, Nat.reduceEqDiff, Nat.reduceLT, Nat.reduceAdd, Nat.reduceMul, Int.reduceEq, Int.reduceLT, Int.reduceLE, Int.reduceNe, Int.reduceBEq, Int.reduceToNat, ↓reduceIte, f1, f7, f9, f12, f13, f62, f63, f64, l15, i0, i1, Nat.zero_mul, Nat.one_mul, mA, mB]
      refine (tuple_ok w0 _ (A0 % 40) (B0 % 40)).mono ?_
      rintro rr H4' ⟨rfl, rfl⟩
      simp -implicitDefEqProofs only [go_sem, Nat.reduceEqDiff, Nat.reduceLT, Nat.reduceAdd, Nat.reduceMul, Int.reduceEq, Int.reduceLT, Int.reduceLE, Int.reduceNe, Int.reduceBEq, Int.reduceToNat, ↓reduceIte, f1, f7, f9, f12, f13, f62, f63, f64]
      refine newK_of ?_
      intro b16 H5 hb16 hn16 h16 s16 g16
      simp -implicitDefEqProofs only [go_sem, Nat.reduceEqDiff, Nat.reduceLT, Nat.reduceAdd, Nat.reduceMul, Int.reduceEq, Int.reduceLT, Int.reduceLE, Int.reduceNe, Int.reduceBEq, Int.reduceToNat, ↓reduceIte, f1, f7, f9, f12, f13, f62, f63, f64]
      refine store_all h16 rfl (by simp [cell1_int, cell1_slice]) rfl ?_
      intro H6 h16 g16'
      have s6 : Sub H2 H6 := s4.trans (Sub.ne2 hn16 g16 g16')
      clear g16 g16' s16
      obtain ⟨A, eA⟩ : ∃ A, A = A0 % 40 := ⟨_, rfl⟩
      obtain ⟨B, eB⟩ : ∃ B, B = B0 % 40 := ⟨_, rfl⟩
      rw [← eA, ← eB] at h16
      have l16 := ldc w0 h16 6
      have hat6 := hat.sub s6
      have lp := ld_own w0 hat6.1
      simp -implicitDefEqProofs only [go_sem, Nat.reduceEqDiff, Nat.reduceLT, Nat.reduceAdd, Nat.reduceMul, Int.reduceEq, Int.reduceLT, Int.reduceLE, Int.reduceNe, Int.reduceBEq, Int.reduceToNat, ↓reduceIte, f1, f7, f9, f12, f13, f62, f63, f64]
      refine vdraw_t [⟨0, .p, [], []⟩, ⟨1, .p, [], []⟩, ⟨2, .p, [], []⟩, ⟨3, .p, [], []⟩, ⟨4, .p, [], []⟩, ⟨5, .p, [], []⟩, ⟨6, .n, [], []⟩, ⟨7, .n, [], []⟩, ⟨8, .p, [], []⟩, ⟨9, .c, [], []⟩, ⟨10, .p, [], []⟩] [0, 1, 3, 7, 15, 31, 63, 7, 7, 511, 1023] mixed (by kernel_rfl) ?_
      by_cases c20 : k < 20
      · have d3 : decide ((k : Int) < 20) = true := by simp; omega
        simp -implicitDefEqProofs only [go_sem, Nat.reduceEqDiff, Nat.reduceLT, Nat.reduceAdd, Nat.reduceMul, Int.reduceEq, Int.reduceLT, Int.reduceLE, Int.reduceNe, Int.reduceBEq, Int.reduceToNat, ↓reduceIte, f1, f7, f9, f12, f13, f62, f63, f64, d3, lp, l16, ldK_agg]
        refine (dead_log hat6.2.1 (by omega) A B hz).mono ?_
        rintro rr H7 ⟨rfl, rfl⟩
        cases hd : deadB 1 sts A B hz
        · simp -implicitDefEqProofs only [go_sem, Nat.reduceEqDiff, Nat.reduceLT, Nat.reduceAdd, Nat.reduceMul, Int.reduceEq, Int.reduceLT, Int.reduceLE, Int.reduceNe, Int.reduceBEq, Int.reduceToNat, ↓reduceIte, f1, f7, f9, f12, f13, f62, f63, f64, d2, lp, l16, ldK_agg]
          exact ⟨m - 1, by omega, k + 1, dv, ts, by omega, by simp -implicitDefEqProofs only [go_sem, Nat.reduceEqDiff, Nat.reduceLT, Nat.reduceAdd, Nat.reduceMul, Int.reduceEq, Int.reduceLT, Int.reduceLE, Int.reduceNe, Int.reduceBEq, Int.reduceToNat, ↓reduceIte, f1], by simp -implicitDefEqProofs only [go_sem, Nat.reduceEqDiff, Nat.reduceLT, Nat.reduceAdd, Nat.reduceMul, Int.reduceEq, Int.reduceLT, Int.reduceLE, Int.reduceNe, Int.reduceBEq, Int.reduceToNat, ↓reduceIte, f7], by simp -implicitDefEqProofs only [go_sem, Nat.reduceEqDiff, Nat.reduceLT, Nat.reduceAdd, Nat.reduceMul, Int.reduceEq, Int.reduceLT, Int.reduceLE, Int.reduceNe, Int.reduceBEq, Int.reduceToNat, ↓reduceIte, f9], by simp -implicitDefEqProofs only [go_sem, Nat.reduceEqDiff, Nat.reduceLT, Nat.reduceAdd, Nat.reduceMul, Int.reduceEq, Int.reduceLT, Int.reduceLE, Int.reduceNe, Int.reduceBEq, Int.reduceToNat, ↓reduceIte, f12], by simp -implicitDefEqProofs only [go_sem, Nat.reduceEqDiff, Nat.reduceLT, Nat.reduceAdd, Nat.reduceMul, Int.reduceEq, Int.reduceLT, Int.reduceLE, Int.reduceNe, Int.reduceBEq, Int.reduceToNat, ↓reduceIte, f13], by simp -implicitDefEqProofs only [go_sem, Nat.reduceEqDiff, Nat.reduceLT, Nat.reduceAdd, Nat.reduceMul, Int.reduceEq, Int.reduceLT, Int.reduceLE, Int.reduceNe, Int.reduceBEq, Int.reduceToNat, ↓reduceIte, f62, hsd], by simp -implicitDefEqProofs only [go_sem, Nat.reduceEqDiff, Nat.reduceLT, Nat.reduceAdd, Nat.reduceMul, Int.reduceEq, Int.reduceLT, Int.reduceLE, Int.reduceNe, Int.reduceBEq, Int.reduceToNat, ↓reduceIte, f63], by simp -implicitDefEqProofs only [go_sem, Nat.reduceEqDiff, Nat.reduceLT, Nat.reduceAdd, Nat.reduceMul, Int.reduceEq, Int.reduceLT, Int.reduceLE, Int.reduceNe, Int.reduceBEq, Int.reduceToNat, ↓reduceIte], hat6, hdead, by omega, ht20⟩
        · have bs1 : bsCells Try.prog 76 1 #[(0, .agg #[.int .u64 0, .int .u64 (A : Int), .int .u64 (B : Int), .int .i64 0, .int .i64 0, .slice none 0 0])] = some (tcs (A, B)).toArray := by kernel_rfl
          simp -implicitDefEqProofs only [go_sem, Nat.reduceEqDiff, Nat.reduceLT, Nat.reduceAdd, Nat.reduceMul, Int.reduceEq, Int.reduceLT, Int.reduceLE, Int.reduceNe, Int.reduceBEq, Int.reduceToNat, ↓reduceIte, f1, f7, f9, f12, f13, f62, f63, f64, lp, l16, ldK_agg, bs1]
          refine newK_of ?_
          intro nb H8 hnb hnn h8 s8 g8
          simp -implicitDefEqProofs only [go_sem, Nat.reduceEqDiff, Nat.reduceLT, Nat.reduceAdd, Nat.reduceMul, Int.reduceEq, Int.reduceLT, Int.reduceLE, Int.reduceNe, Int.reduceBEq, Int.reduceToNat, ↓reduceIte, f1, f7, f9, f12, f13, f62, f63, f64]
          refine aop_append_lit (t := 72) (x := .tmp 87) (y := .tmp 89) (c := 1) Try.underlying72 s76 b76 z76 rfl (v := dv) (by simp -implicitDefEqProofs only [go_sem, Nat.reduceEqDiff, Nat.reduceLT, Nat.reduceAdd, Nat.reduceMul, Int.reduceEq, Int.reduceLT, Int.reduceLE, Int.reduceNe, Int.reduceBEq, Int.reduceToNat, ↓reduceIte]) (hat6.2.2.2.2.keep (H' := H8) fun b o _ hb => s8 b o hb) h8 (by simp -implicitDefEqProofs only [go_sem, Nat.reduceEqDiff, Nat.reduceLT, Nat.reduceAdd, Nat.reduceMul, Int.reduceEq, Int.reduceLT, Int.reduceLE, Int.reduceNe, Int.reduceBEq, Int.reduceToNat, ↓reduceIte]) rfl (by simp [tcs, cell1_int, cell1_slice]) (by omega) (by omega) (by omega) ?_
          intro g H9 hg hH9 cap hrow9
          have k9 : ∀ b o, tyAt H7 b ≠ some 76 → H7 b = some o → H9 b = some o := by
            intro b o ht ho
            have : b ≠ g := by
              rintro rfl
              rcases hg with e | ⟨e, _⟩
              · exact ht (Row.tyAt hat6.2.2.2.2 e.symm)
              · rw [s8 _ _ ho] at e; cases e
            rw [hH9 b this]; exact s8 b o ho
          obtain ⟨u1, u2, u3, u4, u5⟩ := hat6
          simp -implicitDefEqProofs only [go_sem, Nat.reduceEqDiff, Nat.reduceLT, Nat.reduceAdd, Nat.reduceMul, Int.reduceEq, Int.reduceLT, Int.reduceLE, Int.reduceNe, Int.reduceBEq, Int.reduceToNat, ↓reduceIte, f1, f7, f9, f12, f13, f62, f63, f64, d2]
          refine ⟨m - 1, by omega, k + 1, .slice (some ⟨g, 0, none⟩) (ts.length + 1) cap, ts ++ [(A, B)], by omega, by simp -implicitDefEqProofs only [go_sem, Nat.reduceEqDiff, Nat.reduceLT, Nat.reduceAdd, Nat.reduceMul, Int.reduceEq, Int.reduceLT, Int.reduceLE, Int.reduceNe, Int.reduceBEq, Int.reduceToNat, ↓reduceIte, f1], by simp -implicitDefEqProofs only [go_sem, Nat.reduceEqDiff, Nat.reduceLT, Nat.reduceAdd, Nat.reduceMul, Int.reduceEq, Int.reduceLT, Int.reduceLE, Int.reduceNe, Int.reduceBEq, Int.reduceToNat, ↓reduceIte, f7], by simp -implicitDefEqProofs only [go_sem, Nat.reduceEqDiff, Nat.reduceLT, Nat.reduceAdd, Nat.reduceMul, Int.reduceEq, Int.reduceLT, Int.reduceLE, Int.reduceNe, Int.reduceBEq, Int.reduceToNat, ↓reduceIte, f9], by simp -implicitDefEqProofs only [go_sem, Nat.reduceEqDiff, Nat.reduceLT, Nat.reduceAdd, Nat.reduceMul, Int.reduceEq, Int.reduceLT, Int.reduceLE, Int.reduceNe, Int.reduceBEq, Int.reduceToNat, ↓reduceIte, f12], by simp -implicitDefEqProofs only [go_sem, Nat.reduceEqDiff, Nat.reduceLT, Nat.reduceAdd, Nat.reduceMul, Int.reduceEq, Int.reduceLT, Int.reduceLE, Int.reduceNe, Int.reduceBEq, Int.reduceToNat, ↓reduceIte], by simp -implicitDefEqProofs only [go_sem, Nat.reduceEqDiff, Nat.reduceLT, Nat.reduceAdd, Nat.reduceMul, Int.reduceEq, Int.reduceLT, Int.reduceLE, Int.reduceNe, Int.reduceBEq, Int.reduceToNat, ↓reduceIte, f62, hsd], by simp -implicitDefEqProofs only [go_sem, Nat.reduceEqDiff, Nat.reduceLT, Nat.reduceAdd, Nat.reduceMul, Int.reduceEq, Int.reduceLT, Int.reduceLE, Int.reduceNe, Int.reduceBEq, Int.reduceToNat, ↓reduceIte, f63], by simp -implicitDefEqProofs only [go_sem, Nat.reduceEqDiff, Nat.reduceLT, Nat.reduceAdd, Nat.reduceMul, Int.reduceEq, Int.reduceLT, Int.reduceLE, Int.reduceNe, Int.reduceBEq, Int.reduceToNat, ↓reduceIte],
            ⟨k9 p _ (by rw [tyAt_of u1]; decide) u1, u2.keep fun b o hb ho => k9 b o (by rcases u2.ty hb with e | e <;> rw [e] <;> decide) ho, u3.keep fun b o hb ho => k9 b o (by rw [Row.tyAt u3 hb]; decide) ho, fun z hz => ⟨(u4 z hz).1.keep fun b o hb ho => k9 b o (by rw [Row.tyAt (u4 z hz).1 hb]; decide) ho, (u4 z hz).2⟩, ?_⟩, ?_, by rw [List.length_append, List.length_singleton]; omega, by rw [List.length_append, List.length_singleton]; omega⟩
          · rw [List.length_append, List.length_singleton, List.flatMap_append, List.flatMap_cons, List.flatMap_nil, List.append_nil]
            exact hrow9
          · intro t ht
            simp only [List.mem_append, List.mem_singleton] at ht
            rcases ht with ht | rfl
            · exact hdead t ht
            · exact hd
      · have d3 : decide ((k : Int) < 20) = false := by simp; omega
        simp -implicitDefEqProofs only [go_sem, Nat.reduceEqDiff, Nat.reduceLT, Nat.reduceAdd, Nat.reduceMul, Int.reduceEq, Int.reduceLT, Int.reduceLE, Int.reduceNe, Int.reduceBEq, Int.reduceToNat, ↓reduceIte, f1, f7, f9, f12, f13, f62, f63, f64, d3, d2, lp, l16, ldK_agg]
        exact ⟨m - 1, by omega, k + 1, dv, ts, by omega, by simp -implicitDefEqProofs only [go_sem, Nat.reduceEqDiff, Nat.reduceLT, Nat.reduceAdd, Nat.reduceMul, Int.reduceEq, Int.reduceLT, Int.reduceLE, Int.reduceNe, Int.reduceBEq, Int.reduceToNat, ↓reduceIte, f1], by simp -implicitDefEqProofs only [go_sem, Nat.reduceEqDiff, Nat.reduceLT, Nat.reduceAdd, Nat.reduceMul, Int.reduceEq, Int.reduceLT, Int.reduceLE, Int.reduceNe, Int.reduceBEq, Int.reduceToNat, ↓reduceIte, f7], by simp -implicitDefEqProofs only [go_sem, Nat.reduceEqDiff, Nat.reduceLT, Nat.reduceAdd, Nat.reduceMul, Int.reduceEq, Int.reduceLT, Int.reduceLE, Int.reduceNe, Int.reduceBEq, Int.reduceToNat, ↓reduceIte, f9], by simp -implicitDefEqProofs only [go_sem, Nat.reduceEqDiff, Nat.reduceLT, Nat.reduceAdd, Nat.reduceMul, Int.reduceEq, Int.reduceLT, Int.reduceLE, Int.reduceNe, Int.reduceBEq, Int.reduceToNat, ↓reduceIte, f12], by simp -implicitDefEqProofs only [go_sem, Nat.reduceEqDiff, Nat.reduceLT, Nat.reduceAdd, Nat.reduceMul, Int.reduceEq, Int.reduceLT, Int.reduceLE, Int.reduceNe, Int.reduceBEq, Int.reduceToNat, ↓reduceIte, f13], by simp -implicitDefEqProofs only [go_sem, Nat.reduceEqDiff, Nat.reduceLT, Nat.reduceAdd, Nat.reduceMul, Int.reduceEq, Int.reduceLT, Int.reduceLE, Int.reduceNe, Int.reduceBEq, Int.reduceToNat, ↓reduceIte, f62, hsd], by simp -implicitDefEqProofs only [go_sem, Nat.reduceEqDiff, Nat.reduceLT, Nat.reduceAdd, Nat.reduceMul, Int.reduceEq, Int.reduceLT, Int.reduceLE, Int.reduceNe, Int.reduceBEq, Int.reduceToNat, ↓reduceIte, f63], by simp -implicitDefEqProofs only [go_sem, Nat.reduceEqDiff, Nat.reduceLT, Nat.reduceAdd, Nat.reduceMul, Int.reduceEq, Int.reduceLT, Int.reduceLE, Int.reduceNe, Int.reduceBEq, Int.reduceToNat, ↓reduceIte], hat6, hdead, by omega, ht20⟩
    · have d1 : decide ((k : Int) < (sn : Int)) = false := by simp; omega
      simp -implicitDefEqProofs only [go_sem, Nat.reduceEqDiff, Nat.reduceLT, Nat.reduceAdd, Nat.reduceMul, Int.reduceEq, Int.reduceLT, Int.reduceLE, Int.reduceNe, Int.reduceBEq, Int.reduceToNat, ↓reduceIte, f1, f7, f9, f12, f13, f62, f63, f64, d1]
      refine AC.loopH (DedK w0 p l x sts hz n dv ss tt (.slice ad n c) ts) (n := n) ⟨0, S, sts, ls, lv, by omega, by simp -implicitDefEqProofs only [go_sem, Nat.reduceEqDiff, Nat.reduceLT, Nat.reduceAdd, Nat.reduceMul, Int.reduceEq, Int.reduceLT, Int.reduceLE, Int.reduceNe, Int.reduceBEq, Int.reduceToNat, ↓reduceIte, f7], by simp -implicitDefEqProofs only [go_sem, Nat.reduceEqDiff, Nat.reduceLT, Nat.reduceAdd, Nat.reduceMul, Int.reduceEq, Int.reduceLT, Int.reduceLE, Int.reduceNe, Int.reduceBEq, Int.reduceToNat, ↓reduceIte, f9], by simp -implicitDefEqProofs only [go_sem, Nat.reduceEqDiff, Nat.reduceLT, Nat.reduceAdd, Nat.reduceMul, Int.reduceEq, Int.reduceLT, Int.reduceLE, Int.reduceNe, Int.reduceBEq, Int.reduceToNat, ↓reduceIte, f13], by simp -implicitDefEqProofs only [go_sem, Nat.reduceEqDiff, Nat.reduceLT, Nat.reduceAdd, Nat.reduceMul, Int.reduceEq, Int.reduceLT, Int.reduceLE, Int.reduceNe, Int.reduceBEq, Int.reduceToNat, ↓reduceIte, f1], by simp -implicitDefEqProofs only [go_sem, Nat.reduceEqDiff, Nat.reduceLT, Nat.reduceAdd, Nat.reduceMul, Int.reduceEq, Int.reduceLT, Int.reduceLE, Int.reduceNe, Int.reduceBEq, Int.reduceToNat, ↓reduceIte], by simp -implicitDefEqProofs only [go_sem, Nat.reduceEqDiff, Nat.reduceLT, Nat.reduceAdd, Nat.reduceMul, Int.reduceEq, Int.reduceLT, Int.reduceLE, Int.reduceNe, Int.reduceBEq, Int.reduceToNat, ↓reduceIte], hat, Later.refl _, hdz0, by omega, by omega, by omega⟩ ?_
      clear f1 f7 f9 f12 f13 f62 f63 f64 hat hdz0 hhi2 d1 c2 hk htk hl30
      clear hs2 hst
      clear ls lv
      rintro m F H3 ⟨k, S3, now, ls, lv, hk, f7, f9, f13, f92, f93, f94, hat, hlat, hdz, hk30, hnow, hlsl⟩ hhi3
      by_cases c1 : k < n
      · have d1 : decide ((k : Int) < (n : Int)) = true := by simp; omega
        have d0 : decide ((0 : Int) ≤ (k : Int)) = true := by simp
        have d2 : IntKind.i64.wrap ((k : Int) + 1) = (k + 1 : Nat) := by rw [i64_in] <;> omega
        obtain ⟨ab, had, d, x', hd, hx', hc0, hc1⟩ := hops k c1
        have l0 := ld_arg hhi3 hc0
        have l1 := ld_arg hhi3 hc1
        have hl3 : ldCells w0 H3 (ab.add (k * 2)) 0 2 = some [.int .u8 (d : Int), .int .u64 (x' : Int)] := by
          simp only [ldCells, l0, l1, Option.bind_some, Option.map_some]
        simp -implicitDefEqProofs only [go_sem, Nat.reduceEqDiff, Nat.reduceLT, Nat.reduceAdd, Nat.reduceMul, Int.reduceEq, Int.reduceLT, Int.reduceLE, Int.reduceNe, Int.reduceBEq, Int.reduceToNat, ↓reduceIte, f7, f9, f13, f92, f93, f94, d1, d0, had, ldK_agg, hl3]
        refine newK_of ?_
        intro b18 H4 hb18 hn18 h18 s18 g18
        simp -implicitDefEqProofs only [go_sem, Nat.reduceEqDiff, Nat.reduceLT, Nat.reduceAdd, Nat.reduceMul, Int.reduceEq, Int.reduceLT, Int.reduceLE, Int.reduceNe, Int.reduceBEq, Int.reduceToNat, ↓reduceIte, f7, f9, f13, f92, f93, f94]
        refine store_all h18 rfl (by simp [cell1_int]) rfl ?_
        intro H5 h18 g18'
        have s5 : Sub H3 H5 := Sub.ne2 hn18 g18 g18'
        clear g18 g18' s18
        have hat5 := hat.sub s5
        by_cases c6 : k < 30
        · have d6 : decide ((30 : Int) ≤ (k : Int)) = false := by simp; omega
          have dm : (d : Int).tmod 4 = ((d % 4 : Nat) : Int) := by rw [Int.tmod_eq_emod_of_nonneg (by omega)]; omega
          have xm : (x' : Int).tmod 60 = ((x' % 60 : Nat) : Int) := by rw [Int.tmod_eq_emod_of_nonneg (by omega)]; omega
          have l18 := ld_own w0 h18
          have lp := ld_own w0 hat5.1
          by_cases c7 : d % 4 = 0
          · have d7 : decide (((d % 4 : Nat) : Int) = 0) = true := by rw [dec_zero]; simp [c7]
            simp -implicitDefEqProofs only [go_sem, Nat.reduceEqDiff, Nat.reduceLT, Nat.reduceAdd, Nat.reduceMul, Int.reduceEq, Int.reduceLT, Int.reduceLE, Int.reduceNe, Int.reduceBEq, Int.reduceToNat, ↓reduceIte, f7, f9, f13, f92, f93, f94, d6, dm, d7, l18, lp]
            refine (begin_log hat5.2.1 (by omega)).mono ?_
            rintro rr H6 ⟨rfl, S6, hlog6, _, hf6⟩
            have hat6 := hat5.step hlog6 hf6
            have lp6 := ld_own w0 hat6.1
            simp -implicitDefEqProofs only [go_sem, Nat.reduceEqDiff, Nat.reduceLT, Nat.reduceAdd, Nat.reduceMul, Int.reduceEq, Int.reduceLT, Int.reduceLE, Int.reduceNe, Int.reduceBEq, Int.reduceToNat, ↓reduceIte, f7, f9, f13, f92, f93, f94, lp6]
            refine (take_log hat6.2.1 (by rw [List.length_append]; simp; omega) (1 + now.length)).mono ?_
            rintro rr H7 ⟨v7, rfl, hrow7, hfr7, s7⟩
            have hat7 := hat6.sub s7
            have hc7 : cell1 v7 = true := by obtain ⟨u1, u2, u⟩ := hrow7.slice; rw [u]; exact cell1_slice
            obtain ⟨z, ez⟩ : ∃ z : Shot, z = ⟨1 + now.length, now ++ [1], v7, v7⟩ := ⟨_, rfl⟩
            have bs1 : bsCells Try.prog 66 1 #[(0, .agg #[.int .u64 ((1 + now.length : Nat) : Int), .int .u64 (least (1 + (now ++ [1]).length) (others (1 + now.length) (runs 1 (now ++ [1]))) : Nat), .int .u64 ((1 + (now ++ [1]).length : Nat) : Int), v7])] = some z.cs.toArray := by rw [ez]; kernel_rfl
            simp -implicitDefEqProofs only [go_sem, Nat.reduceEqDiff, Nat.reduceLT, Nat.reduceAdd, Nat.reduceMul, Int.reduceEq, Int.reduceLT, Int.reduceLE, Int.reduceNe, Int.reduceBEq, Int.reduceToNat, ↓reduceIte, f7, f9, f13, f92, f93, f94, bs1]
            refine newK_of ?_
            intro nb H8 hnb hnn h8 s8 g8
            simp -implicitDefEqProofs only [go_sem, Nat.reduceEqDiff, Nat.reduceLT, Nat.reduceAdd, Nat.reduceMul, Int.reduceEq, Int.reduceLT, Int.reduceLE, Int.reduceNe, Int.reduceBEq, Int.reduceToNat, ↓reduceIte, f7, f9, f13, f92, f93, f94]
            have hzc : z.cs.toArray.toList.all cell1 = true := by rw [ez]; simp [Shot.cs, cell1_int, hc7]
            refine aop_append_lit (t := 61) (x := .tmp 124) (y := .tmp 131) (c := 1) Try.underlying61 s66 b66 z66 rfl (v := lv) (by simp -implicitDefEqProofs only [go_sem, Nat.reduceEqDiff, Nat.reduceLT, Nat.reduceAdd, Nat.reduceMul, Int.reduceEq, Int.reduceLT, Int.reduceLE, Int.reduceNe, Int.reduceBEq, Int.reduceToNat, ↓reduceIte]) (hat7.2.2.1.keep (H' := H8) fun b o _ hb => s8 b o hb) h8 (by simp -implicitDefEqProofs only [go_sem, Nat.reduceEqDiff, Nat.reduceLT, Nat.reduceAdd, Nat.reduceMul, Int.reduceEq, Int.reduceLT, Int.reduceLE, Int.reduceNe, Int.reduceBEq, Int.reduceToNat, ↓reduceIte]) rfl hzc (by omega) (by omega) (by omega) ?_
            intro g H9 hg hH9 cap hrow9
            have k9 : ∀ b o, tyAt H7 b ≠ some 66 → H7 b = some o → H9 b = some o := by
              intro b o ht ho
              have : b ≠ g := by
                rintro rfl
                rcases hg with e | ⟨e, _⟩
                · exact ht (Row.tyAt hat7.2.2.1 e.symm)
                · rw [s8 _ _ ho] at e; cases e
              rw [hH9 b this]; exact s8 b o ho
            obtain ⟨u1, u2, u3, u4, u5⟩ := hat7
            simp -implicitDefEqProofs only [go_sem, Nat.reduceEqDiff, Nat.reduceLT, Nat.reduceAdd, Nat.reduceMul, Int.reduceEq, Int.reduceLT, Int.reduceLE, Int.reduceNe, Int.reduceBEq, Int.reduceToNat, ↓reduceIte, f7, f9, f13, f92, f93, f94, d2]
            refine ⟨m - 1, by omega, k + 1, S6, now ++ [1], ls ++ [z], .slice (some ⟨g, 0, none⟩) (ls.length + 1) cap, by omega, by simp -implicitDefEqProofs only [go_sem, Nat.reduceEqDiff, Nat.reduceLT, Nat.reduceAdd, Nat.reduceMul, Int.reduceEq, Int.reduceLT, Int.reduceLE, Int.reduceNe, Int.reduceBEq, Int.reduceToNat, ↓reduceIte, f7], by simp -implicitDefEqProofs only [go_sem, Nat.reduceEqDiff, Nat.reduceLT, Nat.reduceAdd, Nat.reduceMul, Int.reduceEq, Int.reduceLT, Int.reduceLE, Int.reduceNe, Int.reduceBEq, Int.reduceToNat, ↓reduceIte], by simp -implicitDefEqProofs only [go_sem, Nat.reduceEqDiff, Nat.reduceLT, Nat.reduceAdd, Nat.reduceMul, Int.reduceEq, Int.reduceLT, Int.reduceLE, Int.reduceNe, Int.reduceBEq, Int.reduceToNat, ↓reduceIte, f13], by simp -implicitDefEqProofs only [go_sem, Nat.reduceEqDiff, Nat.reduceLT, Nat.reduceAdd, Nat.reduceMul, Int.reduceEq, Int.reduceLT, Int.reduceLE, Int.reduceNe, Int.reduceBEq, Int.reduceToNat, ↓reduceIte, f92, had], by simp -implicitDefEqProofs only [go_sem, Nat.reduceEqDiff, Nat.reduceLT, Nat.reduceAdd, Nat.reduceMul, Int.reduceEq, Int.reduceLT, Int.reduceLE, Int.reduceNe, Int.reduceBEq, Int.reduceToNat, ↓reduceIte, f93], by simp -implicitDefEqProofs only [go_sem, Nat.reduceEqDiff, Nat.reduceLT, Nat.reduceAdd, Nat.reduceMul, Int.reduceEq, Int.reduceLT, Int.reduceLE, Int.reduceNe, Int.reduceBEq, Int.reduceToNat, ↓reduceIte],
              ⟨k9 p _ (by rw [tyAt_of u1]; decide) u1, u2.keep fun b o hb ho => k9 b o (by rcases u2.ty hb with e | e <;> rw [e] <;> decide) ho, ?_, ?_, u5.keep fun b o hb ho => k9 b o (by rw [Row.tyAt u5 hb]; decide) ho⟩, hlat.push 1, ?_, by omega, by rw [List.length_append, List.length_singleton]; omega, by rw [List.length_append, List.length_singleton]; omega⟩
            · rw [List.length_append, List.length_singleton, List.flatMap_append, List.flatMap_cons, List.flatMap_nil, List.append_nil]
              exact hrow9
            · intro z' hz'
              simp only [List.mem_append, List.mem_singleton] at hz'
              rcases hz' with hz' | rfl
              · exact ⟨(u4 z' hz').1.keep fun b o hb ho => k9 b o (by rw [Row.tyAt (u4 z' hz').1 hb]; decide) ho, (u4 z' hz').2⟩
              · rw [ez]
                refine ⟨hrow7.keep fun b o hb ho => k9 b o (by rw [Row.tyAt hrow7 hb]; decide) ho, ?_⟩
                show (now ++ [1]).length ≤ 100
                rw [List.length_append, List.length_singleton]; omega
            · intro z' hz'
              simp only [List.mem_append, List.mem_singleton] at hz'
              rcases hz' with hz' | rfl
              · exact hdz z' hz'
              · rw [ez]; exact DZ.fresh (hlat.push 1) _ _ _
          · have d7 : decide (((d % 4 : Nat) : Int) = 0) = false := by rw [dec_zero]; simp [c7]
            by_cases c8 : d % 4 = 1
            · have d8 : decide (((d % 4 : Nat) : Int) = 1) = true := by rw [dec_one]; simp [c8]
              simp -implicitDefEqProofs only [go_sem, Nat.reduceEqDiff, Nat.reduceLT, Nat.reduceAdd, Nat.reduceMul, Int.reduceEq, Int.reduceLT, Int.reduceLE, Int.reduceNe, Int.reduceBEq, Int.reduceToNat, ↓reduceIte, f7, f9, f13, f92, f93, f94, d6, dm, d7, d8, l18, lp]
              refine vdraw_t [⟨0, .p, [], []⟩, ⟨1, .p, [], []⟩, ⟨2, .p, [], []⟩, ⟨3, .n, [], []⟩, ⟨4, .p, [], []⟩, ⟨5, .n, [], []⟩, ⟨6, .p, [], []⟩, ⟨7, .c, [], []⟩] [0, 1, 3, 7, 0, 16, 48, 127] mixed (by kernel_rfl) ?_
              simp -implicitDefEqProofs only [go_sem, Nat.reduceEqDiff, Nat.reduceLT, Nat.reduceAdd, Nat.reduceMul, Int.reduceEq, Int.reduceLT, Int.reduceLE, Int.reduceNe, Int.reduceBEq, Int.reduceToNat, ↓reduceIte, f7, f9, f13, f92, f93, f94, xm, l18, lp]
              refine (abort_log hat5.2.1 (by omega) (x := ((x' % 60 : Nat) : Int)) (by omega)).mono ?_
              rintro rr H6 ⟨rfl, hlog6, hf6⟩
              simp -implicitDefEqProofs only [go_sem, Nat.reduceEqDiff, Nat.reduceLT, Nat.reduceAdd, Nat.reduceMul, Int.reduceEq, Int.reduceLT, Int.reduceLE, Int.reduceNe, Int.reduceBEq, Int.reduceToNat, ↓reduceIte, f7, f9, f13, f92, f93, f94, d2]
              exact ⟨m - 1, by omega, k + 1, S3, _, ls, lv, by omega, by simp -implicitDefEqProofs only [go_sem, Nat.reduceEqDiff, Nat.reduceLT, Nat.reduceAdd, Nat.reduceMul, Int.reduceEq, Int.reduceLT, Int.reduceLE, Int.reduceNe, Int.reduceBEq, Int.reduceToNat, ↓reduceIte, f7], by simp -implicitDefEqProofs only [go_sem, Nat.reduceEqDiff, Nat.reduceLT, Nat.reduceAdd, Nat.reduceMul, Int.reduceEq, Int.reduceLT, Int.reduceLE, Int.reduceNe, Int.reduceBEq, Int.reduceToNat, ↓reduceIte, f9], by simp -implicitDefEqProofs only [go_sem, Nat.reduceEqDiff, Nat.reduceLT, Nat.reduceAdd, Nat.reduceMul, Int.reduceEq, Int.reduceLT, Int.reduceLE, Int.reduceNe, Int.reduceBEq, Int.reduceToNat, ↓reduceIte, f13], by simp -implicitDefEqProofs only [go_sem, Nat.reduceEqDiff, Nat.reduceLT, Nat.reduceAdd, Nat.reduceMul, Int.reduceEq, Int.reduceLT, Int.reduceLE, Int.reduceNe, Int.reduceBEq, Int.reduceToNat, ↓reduceIte, f92, had], by simp -implicitDefEqProofs only [go_sem, Nat.reduceEqDiff, Nat.reduceLT, Nat.reduceAdd, Nat.reduceMul, Int.reduceEq, Int.reduceLT, Int.reduceLE, Int.reduceNe, Int.reduceBEq, Int.reduceToNat, ↓reduceIte, f93], by simp -implicitDefEqProofs only [go_sem, Nat.reduceEqDiff, Nat.reduceLT, Nat.reduceAdd, Nat.reduceMul, Int.reduceEq, Int.reduceLT, Int.reduceLE, Int.reduceNe, Int.reduceBEq, Int.reduceToNat, ↓reduceIte], hat5.step hlog6 hf6, hlat.fin _ 3, hdz, by omega, by rw [endSts_len]; omega, by omega⟩
            · have d8 : decide (((d % 4 : Nat) : Int) = 1) = false := by rw [dec_one]; simp [c8]
              simp -implicitDefEqProofs only [go_sem, Nat.reduceEqDiff, Nat.reduceLT, Nat.reduceAdd, Nat.reduceMul, Int.reduceEq, Int.reduceLT, Int.reduceLE, Int.reduceNe, Int.reduceBEq, Int.reduceToNat, ↓reduceIte, f7, f9, f13, f92, f93, f94, d6, dm, d7, d8, l18, lp]
              refine vdraw_t [⟨0, .p, [], []⟩, ⟨1, .p, [], []⟩, ⟨2, .p, [], []⟩, ⟨3, .n, [], []⟩, ⟨4, .p, [], []⟩, ⟨5, .n, [], []⟩, ⟨6, .p, [], []⟩, ⟨7, .c, [], []⟩] [0, 1, 3, 7, 0, 16, 48, 127] mixed (by kernel_rfl) ?_
              simp -implicitDefEqProofs only [go_sem, Nat.reduceEqDiff, Nat.reduceLT, Nat.reduceAdd, Nat.reduceMul, Int.reduceEq, Int.reduceLT, Int.reduceLE, Int.reduceNe, Int.reduceBEq, Int.reduceToNat, ↓reduceIte, f7, f9, f13, f92, f93, f94, xm, l18, lp]
              refine (commit_log hat5.2.1 (by omega) (x := ((x' % 60 : Nat) : Int)) (by omega)).mono ?_
              rintro rr H6 ⟨rfl, hlog6, hf6⟩
              simp -implicitDefEqProofs only [go_sem, Nat.reduceEqDiff, Nat.reduceLT, Nat.reduceAdd, Nat.reduceMul, Int.reduceEq, Int.reduceLT, Int.reduceLE, Int.reduceNe, Int.reduceBEq, Int.reduceToNat, ↓reduceIte, f7, f9, f13, f92, f93, f94, d2]
              exact ⟨m - 1, by omega, k + 1, S3, _, ls, lv, by omega, by simp -implicitDefEqProofs only [go_sem, Nat.reduceEqDiff, Nat.reduceLT, Nat.reduceAdd, Nat.reduceMul, Int.reduceEq, Int.reduceLT, Int.reduceLE, Int.reduceNe, Int.reduceBEq, Int.reduceToNat, ↓reduceIte, f7], by simp -implicitDefEqProofs only [go_sem, Nat.reduceEqDiff, Nat.reduceLT, Nat.reduceAdd, Nat.reduceMul, Int.reduceEq, Int.reduceLT, Int.reduceLE, Int.reduceNe, Int.reduceBEq, Int.reduceToNat, ↓reduceIte, f9], by simp -implicitDefEqProofs only [go_sem, Nat.reduceEqDiff, Nat.reduceLT, Nat.reduceAdd, Nat.reduceMul, Int.reduceEq, Int.reduceLT, Int.reduceLE, Int.reduceNe, Int.reduceBEq, Int.reduceToNat, ↓reduceIte, f13], by simp -implicitDefEqProofs only [go_sem, Nat.reduceEqDiff, Nat.reduceLT, Nat.reduceAdd, Nat.reduceMul, Int.reduceEq, Int.reduceLT, Int.reduceLE, Int.reduceNe, Int.reduceBEq, Int.reduceToNat, ↓reduceIte, f92, had], by simp -implicitDefEqProofs only [go_sem, Nat.reduceEqDiff, Nat.reduceLT, Nat.reduceAdd, Nat.reduceMul, Int.reduceEq, Int.reduceLT, Int.reduceLE, Int.reduceNe, Int.reduceBEq, Int.reduceToNat, ↓reduceIte, f93], by simp -implicitDefEqProofs only [go_sem, Nat.reduceEqDiff, Nat.reduceLT, Nat.reduceAdd, Nat.reduceMul, Int.reduceEq, Int.reduceLT, Int.reduceLE, Int.reduceNe, Int.reduceBEq, Int.reduceToNat, ↓reduceIte], hat5.step hlog6 hf6, hlat.fin _ 2, hdz, by omega, by rw [endSts_len]; omega, by omega⟩
        · have d6 : decide ((30 : Int) ≤ (k : Int)) = true := by simp; omega
          simp -implicitDefEqProofs only [go_sem, Nat.reduceEqDiff, Nat.reduceLT, Nat.reduceAdd, Nat.reduceMul, Int.reduceEq, Int.reduceLT, Int.reduceLE, Int.reduceNe, Int.reduceBEq, Int.reduceToNat, ↓reduceIte, f7, f9, f13, f92, f93, f94, d6]
          have hatR := hat5
          clear d1 d0 d2 c1
          obtain ⟨la, lc, hla⟩ := hatR.2.2.1.slice
          obtain ⟨da, dc, hda⟩ := hatR.2.2.2.2.slice
          simp -implicitDefEqProofs only [go_sem, Nat.reduceEqDiff, Nat.reduceLT, Nat.reduceAdd, Nat.reduceMul, Int.reduceEq, Int.reduceLT, Int.reduceLE, Int.reduceNe, Int.reduceBEq, Int.reduceToNat, ↓reduceIte, f7, f9, f13, f92, f93, f94, hla]
          rw [← hla]
          refine AC.loop (DedL w0 _ p ls lv dv) (n := ls.length) ⟨0, by omega, by simp -implicitDefEqProofs only [go_sem, Nat.reduceEqDiff, Nat.reduceLT, Nat.reduceAdd, Nat.reduceMul, Int.reduceEq, Int.reduceLT, Int.reduceLE, Int.reduceNe, Int.reduceBEq, Int.reduceToNat, ↓reduceIte, f7], by simp -implicitDefEqProofs only [go_sem, Nat.reduceEqDiff, Nat.reduceLT, Nat.reduceAdd, Nat.reduceMul, Int.reduceEq, Int.reduceLT, Int.reduceLE, Int.reduceNe, Int.reduceBEq, Int.reduceToNat, ↓reduceIte, f13], by simp -implicitDefEqProofs only [go_sem, Nat.reduceEqDiff, Nat.reduceLT, Nat.reduceAdd, Nat.reduceMul, Int.reduceEq, Int.reduceLT, Int.reduceLE, Int.reduceNe, Int.reduceBEq, Int.reduceToNat, ↓reduceIte, f9, hla], by simp -implicitDefEqProofs only [go_sem, Nat.reduceEqDiff, Nat.reduceLT, Nat.reduceAdd, Nat.reduceMul, Int.reduceEq, Int.reduceLT, Int.reduceLE, Int.reduceNe, Int.reduceBEq, Int.reduceToNat, ↓reduceIte], by simp -implicitDefEqProofs only [go_sem, Nat.reduceEqDiff, Nat.reduceLT, Nat.reduceAdd, Nat.reduceMul, Int.reduceEq, Int.reduceLT, Int.reduceLE, Int.reduceNe, Int.reduceBEq, Int.reduceToNat, ↓reduceIte], Sub.refl _⟩ ?_
          clear f7 f9 f13 f92 f93 f94 hla
          rintro m F HA ⟨j, hj, f7, f13, f144, f145, f146, sA⟩
          have hatA := hatR.sub sA
          by_cases cj : j < ls.length
          · have e1 : decide ((j : Int) < (ls.length : Int)) = true := by simp; omega
            have e0 : decide ((0 : Int) ≤ (j : Int)) = true := by simp
            have e2 : IntKind.i64.wrap ((j : Int) + 1) = (j + 1 : Nat) := by rw [i64_in] <;> omega
            have hzj : ls[j]? = some ls[j] := by simp [cj]
            generalize ls[j] = z at hzj
            have hzm := List.mem_of_getElem? hzj
            obtain ⟨g1, cap1, hv1, hl1⟩ := hatA.2.2.1.at w0 rfl (fun z _ => z.cs_len) hzj
            have hl1' : ldCells w0 HA ⟨g1, j * 4, none⟩ 0 4 = some [.int .u64 (z.own : Int), .int .u64 (z.xmin : Int), .int .u64 (z.xmax : Int), z.v] := hl1
            rw [hv1] at f144
            have hc1 := hatA.cell hzm
            have hzl := hatA.run hzm
            simp -implicitDefEqProofs only [go_sem, Nat.reduceEqDiff, Nat.reduceLT, Nat.reduceAdd, Nat.reduceMul, Int.reduceEq, Int.reduceLT, Int.reduceLE, Int.reduceNe, Int.reduceBEq, Int.reduceToNat, ↓reduceIte, f7, f13, f144, f145, f146, e1, e0, hl1', ldK_agg]
            refine newK_of ?_
            intro b22 HB hb22 hn22 h22 s22 g22
            simp -implicitDefEqProofs only [go_sem, Nat.reduceEqDiff, Nat.reduceLT, Nat.reduceAdd, Nat.reduceMul, Int.reduceEq, Int.reduceLT, Int.reduceLE, Int.reduceNe, Int.reduceBEq, Int.reduceToNat, ↓reduceIte, f7, f13, f144, f145, f146]
            refine store_all h22 rfl (by simp [cell1_int, hc1]) rfl ?_
            intro HC h22 g22'
            have sC : Sub HA HC := Sub.ne2 hn22 g22 g22'
            clear g22 g22' s22
            have hatC := hatA.sub sC
            simp -implicitDefEqProofs only [go_sem, Nat.reduceEqDiff, Nat.reduceLT, Nat.reduceAdd, Nat.reduceMul, Int.reduceEq, Int.reduceLT, Int.reduceLE, Int.reduceNe, Int.reduceBEq, Int.reduceToNat, ↓reduceIte, f7, f13, f144, f145, f146, hda]
            rw [← hda]
            refine AC.loop (DedM w0 HC p j b22 ls.length ts.length lv dv) (n := ts.length) ⟨0, by omega, by simp -implicitDefEqProofs only [go_sem, Nat.reduceEqDiff, Nat.reduceLT, Nat.reduceAdd, Nat.reduceMul, Int.reduceEq, Int.reduceLT, Int.reduceLE, Int.reduceNe, Int.reduceBEq, Int.reduceToNat, ↓reduceIte, f7], by simp -implicitDefEqProofs only [go_sem, Nat.reduceEqDiff, Nat.reduceLT, Nat.reduceAdd, Nat.reduceMul, Int.reduceEq, Int.reduceLT, Int.reduceLE, Int.reduceNe, Int.reduceBEq, Int.reduceToNat, ↓reduceIte, f13, hda], by simp -implicitDefEqProofs only [go_sem, Nat.reduceEqDiff, Nat.reduceLT, Nat.reduceAdd, Nat.reduceMul, Int.reduceEq, Int.reduceLT, Int.reduceLE, Int.reduceNe, Int.reduceBEq, Int.reduceToNat, ↓reduceIte], by simp -implicitDefEqProofs only [go_sem, Nat.reduceEqDiff, Nat.reduceLT, Nat.reduceAdd, Nat.reduceMul, Int.reduceEq, Int.reduceLT, Int.reduceLE, Int.reduceNe, Int.reduceBEq, Int.reduceToNat, ↓reduceIte, f144, hv1], by simp -implicitDefEqProofs only [go_sem, Nat.reduceEqDiff, Nat.reduceLT, Nat.reduceAdd, Nat.reduceMul, Int.reduceEq, Int.reduceLT, Int.reduceLE, Int.reduceNe, Int.reduceBEq, Int.reduceToNat, ↓reduceIte, f145], by simp -implicitDefEqProofs only [go_sem, Nat.reduceEqDiff, Nat.reduceLT, Nat.reduceAdd, Nat.reduceMul, Int.reduceEq, Int.reduceLT, Int.reduceLE, Int.reduceNe, Int.reduceBEq, Int.reduceToNat, ↓reduceIte, f146], by simp -implicitDefEqProofs only [go_sem, Nat.reduceEqDiff, Nat.reduceLT, Nat.reduceAdd, Nat.reduceMul, Int.reduceEq, Int.reduceLT, Int.reduceLE, Int.reduceNe, Int.reduceBEq, Int.reduceToNat, ↓reduceIte, hda], by simp -implicitDefEqProofs only [go_sem, Nat.reduceEqDiff, Nat.reduceLT, Nat.reduceAdd, Nat.reduceMul, Int.reduceEq, Int.reduceLT, Int.reduceLE, Int.reduceNe, Int.reduceBEq, Int.reduceToNat, ↓reduceIte], by simp -implicitDefEqProofs only [go_sem, Nat.reduceEqDiff, Nat.reduceLT, Nat.reduceAdd, Nat.reduceMul, Int.reduceEq, Int.reduceLT, Int.reduceLE, Int.reduceNe, Int.reduceBEq, Int.reduceToNat, ↓reduceIte], Sub.refl _⟩ ?_
            clear f7 f13 f144 f145 f146
            rintro m2 F HD ⟨q, hq, f7, f13, f22, f144, f145, f146, f150, f151, f152, sD⟩
            have hatD := hatC.sub sD
            by_cases cq : q < ts.length
            · have d1 : decide ((q : Int) < (ts.length : Int)) = true := by simp; omega
              have d0 : decide ((0 : Int) ≤ (q : Int)) = true := by simp
              have d2 : IntKind.i64.wrap ((q : Int) + 1) = (q + 1 : Nat) := by rw [i64_in] <;> omega
              have htq : ts[q]? = some ts[q] := by simp [cq]
              generalize ts[q] = t at htq
              obtain ⟨gt, capt, hvt, hlt, _⟩ := hatD.2.2.2.2.atc w0 rfl (fun t _ => tcs_len t) htq
              have hlt' : ldCells w0 HD ⟨gt, q * 6, none⟩ 0 6 = some [.int .u64 0, .int .u64 (t.1 : Int), .int .u64 (t.2 : Int), .int .i64 0, .int .i64 0, .slice none 0 0] := hlt
              simp -implicitDefEqProofs only [go_sem, Nat.reduceEqDiff, Nat.reduceLT, Nat.reduceAdd, Nat.reduceMul, Int.reduceEq, Int.reduceLT, Int.reduceLE, Int.reduceNe, Int.reduceBEq, Int.reduceToNat, ↓reduceIte, f7, f13, f22, f144, f145, f146, f150, f151, f152, d1, d0, hvt, hlt', ldK_agg]
              refine newK_of ?_
              intro b24 HE hb24 hn24 h24 s24 g24
              simp -implicitDefEqProofs only [go_sem, Nat.reduceEqDiff, Nat.reduceLT, Nat.reduceAdd, Nat.reduceMul, Int.reduceEq, Int.reduceLT, Int.reduceLE, Int.reduceNe, Int.reduceBEq, Int.reduceToNat, ↓reduceIte, f7, f13, f22, f144, f145, f146, f150, f151, f152]
              refine store_all h24 rfl (by simp [cell1_int, cell1_slice]) rfl ?_
              intro HF h24 g24'
              have sF : Sub HD HF := Sub.ne2 hn24 g24 g24'
              clear g24 g24' s24
              have hatF := hatD.sub sF
              have l24 := ld_own w0 h24
              have l24' := ldc w0 h24 6
              have h22F := sF _ _ (sD _ _ h22)
              have l22 := ld_own w0 h22F
              have l22' := ldc w0 h22F 4
              have lp := ld_own w0 hatF.1
              simp -implicitDefEqProofs only [go_sem, Nat.reduceEqDiff, Nat.reduceLT, Nat.reduceAdd, Nat.reduceMul, Int.reduceEq, Int.reduceLT, Int.reduceLE, Int.reduceNe, Int.reduceBEq, Int.reduceToNat, ↓reduceIte, f7, f13, f22, f144, f145, f146, f150, f151, f152]
              refine vdraw_t [⟨0, .p, [], []⟩, ⟨1, .n, [], []⟩, ⟨2, .p, [], []⟩, ⟨3, .n, [], []⟩, ⟨4, .p, [], []⟩, ⟨5, .p, [], []⟩, ⟨6, .p, [], []⟩, ⟨7, .n, [], []⟩, ⟨8, .p, [], []⟩, ⟨9, .n, [], []⟩, ⟨10, .p, [], []⟩, ⟨11, .p, [], []⟩, ⟨12, .p, [], []⟩, ⟨13, .p, [], []⟩, ⟨14, .p, [], []⟩, ⟨15, .p, [], []⟩, ⟨16, .n, [], []⟩, ⟨17, .n, [], []⟩, ⟨18, .n, [], []⟩, ⟨19, .c, [], []⟩, ⟨20, .p, [], []⟩] [0, 1, 0, 4, 15, 31, 63, 127, 63, 319, 1023, 2047, 4095, 8191, 16383, 32767, 65535, 8191, 8191, 524287, 1048575] mixed (by kernel_rfl) ?_
              by_cases ca : t.1 = z.own
              · have e3 : decide ((t.1 : Int) = (z.own : Int)) = true := by rw [dec_nat]; simp [ca]
                simp -implicitDefEqProofs only [go_sem, Nat.reduceEqDiff, Nat.reduceLT, Nat.reduceAdd, Nat.reduceMul, Int.reduceEq, Int.reduceLT, Int.reduceLE, Int.reduceNe, Int.reduceBEq, Int.reduceToNat, ↓reduceIte, f7, f13, f22, f144, f145, f146, f150, f151, f152, l24, l22, lp, e3, d2]
                exact ⟨m2 - 1, by omega, q + 1, by omega, by simp -implicitDefEqProofs only [go_sem, Nat.reduceEqDiff, Nat.reduceLT, Nat.reduceAdd, Nat.reduceMul, Int.reduceEq, Int.reduceLT, Int.reduceLE, Int.reduceNe, Int.reduceBEq, Int.reduceToNat, ↓reduceIte, f7], by simp -implicitDefEqProofs only [go_sem, Nat.reduceEqDiff, Nat.reduceLT, Nat.reduceAdd, Nat.reduceMul, Int.reduceEq, Int.reduceLT, Int.reduceLE, Int.reduceNe, Int.reduceBEq, Int.reduceToNat, ↓reduceIte, f13, hvt], by simp -implicitDefEqProofs only [go_sem, Nat.reduceEqDiff, Nat.reduceLT, Nat.reduceAdd, Nat.reduceMul, Int.reduceEq, Int.reduceLT, Int.reduceLE, Int.reduceNe, Int.reduceBEq, Int.reduceToNat, ↓reduceIte, f22], by simp -implicitDefEqProofs only [go_sem, Nat.reduceEqDiff, Nat.reduceLT, Nat.reduceAdd, Nat.reduceMul, Int.reduceEq, Int.reduceLT, Int.reduceLE, Int.reduceNe, Int.reduceBEq, Int.reduceToNat, ↓reduceIte, f144], by simp -implicitDefEqProofs only [go_sem, Nat.reduceEqDiff, Nat.reduceLT, Nat.reduceAdd, Nat.reduceMul, Int.reduceEq, Int.reduceLT, Int.reduceLE, Int.reduceNe, Int.reduceBEq, Int.reduceToNat, ↓reduceIte, f145], by simp -implicitDefEqProofs only [go_sem, Nat.reduceEqDiff, Nat.reduceLT, Nat.reduceAdd, Nat.reduceMul, Int.reduceEq, Int.reduceLT, Int.reduceLE, Int.reduceNe, Int.reduceBEq, Int.reduceToNat, ↓reduceIte, f146], by simp -implicitDefEqProofs only [go_sem, Nat.reduceEqDiff, Nat.reduceLT, Nat.reduceAdd, Nat.reduceMul, Int.reduceEq, Int.reduceLT, Int.reduceLE, Int.reduceNe, Int.reduceBEq, Int.reduceToNat, ↓reduceIte, f150, hvt], by simp -implicitDefEqProofs only [go_sem, Nat.reduceEqDiff, Nat.reduceLT, Nat.reduceAdd, Nat.reduceMul, Int.reduceEq, Int.reduceLT, Int.reduceLE, Int.reduceNe, Int.reduceBEq, Int.reduceToNat, ↓reduceIte, f151], by simp -implicitDefEqProofs only [go_sem, Nat.reduceEqDiff, Nat.reduceLT, Nat.reduceAdd, Nat.reduceMul, Int.reduceEq, Int.reduceLT, Int.reduceLE, Int.reduceNe, Int.reduceBEq, Int.reduceToNat, ↓reduceIte], sD.trans sF⟩
              · have e3 : decide ((t.1 : Int) = (z.own : Int)) = false := by rw [dec_nat]; simp [ca]
                by_cases cb : t.2 = z.own
                · have e4 : decide ((t.2 : Int) = (z.own : Int)) = true := by rw [dec_nat]; simp [cb]
                  simp -implicitDefEqProofs only [go_sem, Nat.reduceEqDiff, Nat.reduceLT, Nat.reduceAdd, Nat.reduceMul, Int.reduceEq, Int.reduceLT, Int.reduceLE, Int.reduceNe, Int.reduceBEq, Int.reduceToNat, ↓reduceIte, f7, f13, f22, f144, f145, f146, f150, f151, f152, l24, l22, lp, e3, e4, d2]
                  exact ⟨m2 - 1, by omega, q + 1, by omega, by simp -implicitDefEqProofs only [go_sem, Nat.reduceEqDiff, Nat.reduceLT, Nat.reduceAdd, Nat.reduceMul, Int.reduceEq, Int.reduceLT, Int.reduceLE, Int.reduceNe, Int.reduceBEq, Int.reduceToNat, ↓reduceIte, f7], by simp -implicitDefEqProofs only [go_sem, Nat.reduceEqDiff, Nat.reduceLT, Nat.reduceAdd, Nat.reduceMul, Int.reduceEq, Int.reduceLT, Int.reduceLE, Int.reduceNe, Int.reduceBEq, Int.reduceToNat, ↓reduceIte, f13, hvt], by simp -implicitDefEqProofs only [go_sem, Nat.reduceEqDiff, Nat.reduceLT, Nat.reduceAdd, Nat.reduceMul, Int.reduceEq, Int.reduceLT, Int.reduceLE, Int.reduceNe, Int.reduceBEq, Int.reduceToNat, ↓reduceIte, f22], by simp -implicitDefEqProofs only [go_sem, Nat.reduceEqDiff, Nat.reduceLT, Nat.reduceAdd, Nat.reduceMul, Int.reduceEq, Int.reduceLT, Int.reduceLE, Int.reduceNe, Int.reduceBEq, Int.reduceToNat, ↓reduceIte, f144], by simp -implicitDefEqProofs only [go_sem, Nat.reduceEqDiff, Nat.reduceLT, Nat.reduceAdd, Nat.reduceMul, Int.reduceEq, Int.reduceLT, Int.reduceLE, Int.reduceNe, Int.reduceBEq, Int.reduceToNat, ↓reduceIte, f145], by simp -implicitDefEqProofs only [go_sem, Nat.reduceEqDiff, Nat.reduceLT, Nat.reduceAdd, Nat.reduceMul, Int.reduceEq, Int.reduceLT, Int.reduceLE, Int.reduceNe, Int.reduceBEq, Int.reduceToNat, ↓reduceIte, f146], by simp -implicitDefEqProofs only [go_sem, Nat.reduceEqDiff, Nat.reduceLT, Nat.reduceAdd, Nat.reduceMul, Int.reduceEq, Int.reduceLT, Int.reduceLE, Int.reduceNe, Int.reduceBEq, Int.reduceToNat, ↓reduceIte, f150, hvt], by simp -implicitDefEqProofs only [go_sem, Nat.reduceEqDiff, Nat.reduceLT, Nat.reduceAdd, Nat.reduceMul, Int.reduceEq, Int.reduceLT, Int.reduceLE, Int.reduceNe, Int.reduceBEq, Int.reduceToNat, ↓reduceIte, f151], by simp -implicitDefEqProofs only [go_sem, Nat.reduceEqDiff, Nat.reduceLT, Nat.reduceAdd, Nat.reduceMul, Int.reduceEq, Int.reduceLT, Int.reduceLE, Int.reduceNe, Int.reduceBEq, Int.reduceToNat, ↓reduceIte], sD.trans sF⟩
                · have e4 : decide ((t.2 : Int) = (z.own : Int)) = false := by rw [dec_nat]; simp [cb]
                  simp -implicitDefEqProofs only [go_sem, Nat.reduceEqDiff, Nat.reduceLT, Nat.reduceAdd, Nat.reduceMul, Int.reduceEq, Int.reduceLT, Int.reduceLE, Int.reduceNe, Int.reduceBEq, Int.reduceToNat, ↓reduceIte, f7, f13, f22, f144, f145, f146, f150, f151, f152, l24, l24', l22, l22', ldK_agg, lp, e3, e4, d2]
                  refine (vis_log hatF.2.1 (by omega) (hatF.2.2.2.1 z hzm).1 hzl t.1 t.2).mono ?_
                  rintro rr HG ⟨rfl, rfl⟩
                  rw [dead_unseen hlat (hdz z hzm) (hdead t (List.mem_of_getElem? htq)) ca]
                  simp -implicitDefEqProofs only [go_sem, Nat.reduceEqDiff, Nat.reduceLT, Nat.reduceAdd, Nat.reduceMul, Int.reduceEq, Int.reduceLT, Int.reduceLE, Int.reduceNe, Int.reduceBEq, Int.reduceToNat, ↓reduceIte, f7, f13, f22, f144, f145, f146, f150, f151, f152, l24, l24', l22, l22', ldK_agg, lp, e3, e4, d2]
                  exact ⟨m2 - 1, by omega, q + 1, by omega, by simp -implicitDefEqProofs only [go_sem, Nat.reduceEqDiff, Nat.reduceLT, Nat.reduceAdd, Nat.reduceMul, Int.reduceEq, Int.reduceLT, Int.reduceLE, Int.reduceNe, Int.reduceBEq, Int.reduceToNat, ↓reduceIte, f7], by simp -implicitDefEqProofs only [go_sem, Nat.reduceEqDiff, Nat.reduceLT, Nat.reduceAdd, Nat.reduceMul, Int.reduceEq, Int.reduceLT, Int.reduceLE, Int.reduceNe, Int.reduceBEq, Int.reduceToNat, ↓reduceIte, f13, hvt], by simp -implicitDefEqProofs only [go_sem, Nat.reduceEqDiff, Nat.reduceLT, Nat.reduceAdd, Nat.reduceMul, Int.reduceEq, Int.reduceLT, Int.reduceLE, Int.reduceNe, Int.reduceBEq, Int.reduceToNat, ↓reduceIte, f22], by simp -implicitDefEqProofs only [go_sem, Nat.reduceEqDiff, Nat.reduceLT, Nat.reduceAdd, Nat.reduceMul, Int.reduceEq, Int.reduceLT, Int.reduceLE, Int.reduceNe, Int.reduceBEq, Int.reduceToNat, ↓reduceIte, f144], by simp -implicitDefEqProofs only [go_sem, Nat.reduceEqDiff, Nat.reduceLT, Nat.reduceAdd, Nat.reduceMul, Int.reduceEq, Int.reduceLT, Int.reduceLE, Int.reduceNe, Int.reduceBEq, Int.reduceToNat, ↓reduceIte, f145], by simp -implicitDefEqProofs only [go_sem, Nat.reduceEqDiff, Nat.reduceLT, Nat.reduceAdd, Nat.reduceMul, Int.reduceEq, Int.reduceLT, Int.reduceLE, Int.reduceNe, Int.reduceBEq, Int.reduceToNat, ↓reduceIte, f146], by simp -implicitDefEqProofs only [go_sem, Nat.reduceEqDiff, Nat.reduceLT, Nat.reduceAdd, Nat.reduceMul, Int.reduceEq, Int.reduceLT, Int.reduceLE, Int.reduceNe, Int.reduceBEq, Int.reduceToNat, ↓reduceIte, f150, hvt], by simp -implicitDefEqProofs only [go_sem, Nat.reduceEqDiff, Nat.reduceLT, Nat.reduceAdd, Nat.reduceMul, Int.reduceEq, Int.reduceLT, Int.reduceLE, Int.reduceNe, Int.reduceBEq, Int.reduceToNat, ↓reduceIte, f151], by simp -implicitDefEqProofs only [go_sem, Nat.reduceEqDiff, Nat.reduceLT, Nat.reduceAdd, Nat.reduceMul, Int.reduceEq, Int.reduceLT, Int.reduceLE, Int.reduceNe, Int.reduceBEq, Int.reduceToNat, ↓reduceIte], sD.trans sF⟩
            · have d1 : decide ((q : Int) < (ts.length : Int)) = false := by simp; omega
              simp -implicitDefEqProofs only [go_sem, Nat.reduceEqDiff, Nat.reduceLT, Nat.reduceAdd, Nat.reduceMul, Int.reduceEq, Int.reduceLT, Int.reduceLE, Int.reduceNe, Int.reduceBEq, Int.reduceToNat, ↓reduceIte, f7, f13, f22, f144, f145, f146, f150, f151, f152, d1, e2]
              exact ⟨m - 1, by omega, j + 1, by omega, by simp -implicitDefEqProofs only [go_sem, Nat.reduceEqDiff, Nat.reduceLT, Nat.reduceAdd, Nat.reduceMul, Int.reduceEq, Int.reduceLT, Int.reduceLE, Int.reduceNe, Int.reduceBEq, Int.reduceToNat, ↓reduceIte, f7], by simp -implicitDefEqProofs only [go_sem, Nat.reduceEqDiff, Nat.reduceLT, Nat.reduceAdd, Nat.reduceMul, Int.reduceEq, Int.reduceLT, Int.reduceLE, Int.reduceNe, Int.reduceBEq, Int.reduceToNat, ↓reduceIte, f13], by simp -implicitDefEqProofs only [go_sem, Nat.reduceEqDiff, Nat.reduceLT, Nat.reduceAdd, Nat.reduceMul, Int.reduceEq, Int.reduceLT, Int.reduceLE, Int.reduceNe, Int.reduceBEq, Int.reduceToNat, ↓reduceIte, f144], by simp -implicitDefEqProofs only [go_sem, Nat.reduceEqDiff, Nat.reduceLT, Nat.reduceAdd, Nat.reduceMul, Int.reduceEq, Int.reduceLT, Int.reduceLE, Int.reduceNe, Int.reduceBEq, Int.reduceToNat, ↓reduceIte, f145], by simp -implicitDefEqProofs only [go_sem, Nat.reduceEqDiff, Nat.reduceLT, Nat.reduceAdd, Nat.reduceMul, Int.reduceEq, Int.reduceLT, Int.reduceLE, Int.reduceNe, Int.reduceBEq, Int.reduceToNat, ↓reduceIte], sA.trans (sC.trans sD)⟩
          · have e1 : decide ((j : Int) < (ls.length : Int)) = false := by simp; omega
            simp -implicitDefEqProofs only [go_sem, Nat.reduceEqDiff, Nat.reduceLT, Nat.reduceAdd, Nat.reduceMul, Int.reduceEq, Int.reduceLT, Int.reduceLE, Int.reduceNe, Int.reduceBEq, Int.reduceToNat, ↓reduceIte, f7, f13, f144, f145, f146, e1]
      · have d1 : decide ((k : Int) < (n : Int)) = false := by simp; omega
        simp -implicitDefEqProofs only [go_sem, Nat.reduceEqDiff, Nat.reduceLT, Nat.reduceAdd, Nat.reduceMul, Int.reduceEq, Int.reduceLT, Int.reduceLE, Int.reduceNe, Int.reduceBEq, Int.reduceToNat, ↓reduceIte, f7, f9, f13, f92, f93, f94, d1]
        have hatR := hat
        clear d1 c1
        obtain ⟨la, lc, hla⟩ := hatR.2.2.1.slice
        obtain ⟨da, dc, hda⟩ := hatR.2.2.2.2.slice
        simp -implicitDefEqProofs only [go_sem, Nat.reduceEqDiff, Nat.reduceLT, Nat.reduceAdd, Nat.reduceMul, Int.reduceEq, Int.reduceLT, Int.reduceLE, Int.reduceNe, Int.reduceBEq, Int.reduceToNat, ↓reduceIte, f7, f9, f13, f92, f93, f94, hla]
        rw [← hla]
        refine AC.loop (DedL w0 _ p ls lv dv) (n := ls.length) ⟨0, by omega, by simp -implicitDefEqProofs only [go_sem, Nat.reduceEqDiff, Nat.reduceLT, Nat.reduceAdd, Nat.reduceMul, Int.reduceEq, Int.reduceLT, Int.reduceLE, Int.reduceNe, Int.reduceBEq, Int.reduceToNat, ↓reduceIte, f7], by simp -implicitDefEqProofs only [go_sem, Nat.reduceEqDiff, Nat.reduceLT, Nat.reduceAdd, Nat.reduceMul, Int.reduceEq, Int.reduceLT, Int.reduceLE, Int.reduceNe, Int.reduceBEq, Int.reduceToNat, ↓reduceIte, f13], by simp -implicitDefEqProofs only [go_sem, Nat.reduceEqDiff, Nat.reduceLT, Nat.reduceAdd, Nat.reduceMul, Int.reduceEq, Int.reduceLT, Int.reduceLE, Int.reduceNe, Int.reduceBEq, Int.reduceToNat, ↓reduceIte, f9, hla], by simp -implicitDefEqProofs only [go_sem, Nat.reduceEqDiff, Nat.reduceLT, Nat.reduceAdd, Nat.reduceMul, Int.reduceEq, Int.reduceLT, Int.reduceLE, Int.reduceNe, Int.reduceBEq, Int.reduceToNat, ↓reduceIte], by simp -implicitDefEqProofs only [go_sem, Nat.reduceEqDiff, Nat.reduceLT, Nat.reduceAdd, Nat.reduceMul, Int.reduceEq, Int.reduceLT, Int.reduceLE, Int.reduceNe, Int.reduceBEq, Int.reduceToNat, ↓reduceIte], Sub.refl _⟩ ?_
        clear f7 f9 f13 f92 f93 f94 hla
        rintro m F HA ⟨j, hj, f7, f13, f144, f145, f146, sA⟩
        have hatA := hatR.sub sA
        by_cases cj : j < ls.length
        · have e1 : decide ((j : Int) < (ls.length : Int)) = true := by simp; omega
          have e0 : decide ((0 : Int) ≤ (j : Int)) = true := by simp
          have e2 : IntKind.i64.wrap ((j : Int) + 1) = (j + 1 : Nat) := by rw [i64_in] <;> omega
          have hzj : ls[j]? = some ls[j] := by simp [cj]
          generalize ls[j] = z at hzj
          have hzm := List.mem_of_getElem? hzj
          obtain ⟨g1, cap1, hv1, hl1⟩ := hatA.2.2.1.at w0 rfl (fun z _ => z.cs_len) hzj
          have hl1' : ldCells w0 HA ⟨g1, j * 4, none⟩ 0 4 = some [.int .u64 (z.own : Int), .int .u64 (z.xmin : Int), .int .u64 (z.xmax : Int), z.v] := hl1
          rw [hv1] at f144
          have hc1 := hatA.cell hzm
          have hzl := hatA.run hzm
          simp -implicitDefEqProofs only [go_sem, Nat.reduceEqDiff, Nat.reduceLT, Nat.reduceAdd, Nat.reduceMul, Int.reduceEq, Int.reduceLT, Int.reduceLE, Int.reduceNe, Int.reduceBEq, Int.reduceToNat, ↓reduceIte, f7, f13, f144, f145, f146, e1, e0, hl1', ldK_agg]
          refine newK_of ?_
          intro b22 HB hb22 hn22 h22 s22 g22
          simp -implicitDefEqProofs only [go_sem, Nat.reduceEqDiff, Nat.reduceLT, Nat.reduceAdd, Nat.reduceMul, Int.reduceEq, Int.reduceLT, Int.reduceLE, Int.reduceNe, Int.reduceBEq, Int.reduceToNat, ↓reduceIte, f7, f13, f144, f145, f146]
          refine store_all h22 rfl (by simp [cell1_int, hc1]) rfl ?_
          intro HC h22 g22'
          have sC : Sub HA HC := Sub.ne2 hn22 g22 g22'
          clear g22 g22' s22
          have hatC := hatA.sub sC
          simp -implicitDefEqProofs only [go_sem, Nat.reduceEqDiff, Nat.reduceLT, Nat.reduceAdd, Nat.reduceMul, Int.reduceEq, Int.reduceLT, Int.reduceLE, Int.reduceNe, Int.reduceBEq, Int.reduceToNat, ↓reduceIte, f7, f13, f144, f145, f146, hda]
          rw [← hda]
          refine AC.loop (DedM w0 HC p j b22 ls.length ts.length lv dv) (n := ts.length) ⟨0, by omega, by simp -implicitDefEqProofs only [go_sem, Nat.reduceEqDiff, Nat.reduceLT, Nat.reduceAdd, Nat.reduceMul, Int.reduceEq, Int.reduceLT, Int.reduceLE, Int.reduceNe, Int.reduceBEq, Int.reduceToNat, ↓reduceIte, f7], by simp -implicitDefEqProofs only [go_sem, Nat.reduceEqDiff, Nat.reduceLT, Nat.reduceAdd, Nat.reduceMul, Int.reduceEq, Int.reduceLT, Int.reduceLE, Int.reduceNe, Int.reduceBEq, Int.reduceToNat, ↓reduceIte, f13, hda], by simp -implicitDefEqProofs only [go_sem, Nat.reduceEqDiff, Nat.reduceLT, Nat.reduceAdd, Nat.reduceMul, Int.reduceEq, Int.reduceLT, Int.reduceLE, Int.reduceNe, Int.reduceBEq, Int.reduceToNat, ↓reduceIte], by simp -implicitDefEqProofs only [go_sem, Nat.reduceEqDiff, Nat.reduceLT, Nat.reduceAdd, Nat.reduceMul, Int.reduceEq, Int.reduceLT, Int.reduceLE, Int.reduceNe, Int.reduceBEq, Int.reduceToNat, ↓reduceIte, f144, hv1], by simp -implicitDefEqProofs only [go_sem, Nat.reduceEqDiff, Nat.reduceLT, Nat.reduceAdd, Nat.reduceMul, Int.reduceEq, Int.reduceLT, Int.reduceLE, Int.reduceNe, Int.reduceBEq, Int.reduceToNat, ↓reduceIte, f145], by simp -implicitDefEqProofs only [go_sem, Nat.reduceEqDiff, Nat.reduceLT, Nat.reduceAdd, Nat.reduceMul, Int.reduceEq, Int.reduceLT, Int.reduceLE, Int.reduceNe, Int.reduceBEq, Int.reduceToNat, ↓reduceIte, f146], by simp -implicitDefEqProofs only [go_sem, Nat.reduceEqDiff, Nat.reduceLT, Nat.reduceAdd, Nat.reduceMul, Int.reduceEq, Int.reduceLT, Int.reduceLE, Int.reduceNe, Int.reduceBEq, Int.reduceToNat, ↓reduceIte, hda], by simp -implicitDefEqProofs only [go_sem, Nat.reduceEqDiff, Nat.reduceLT, Nat.reduceAdd, Nat.reduceMul, Int.reduceEq, Int.reduceLT, Int.reduceLE, Int.reduceNe, Int.reduceBEq, Int.reduceToNat, ↓reduceIte], by simp -implicitDefEqProofs only [go_sem, Nat.reduceEqDiff, Nat.reduceLT, Nat.reduceAdd, Nat.reduceMul, Int.reduceEq, Int.reduceLT, Int.reduceLE, Int.reduceNe, Int.reduceBEq, Int.reduceToNat, ↓reduceIte], Sub.refl _⟩ ?_
          clear f7 f13 f144 f145 f146
          rintro m2 F HD ⟨q, hq, f7, f13, f22, f144, f145, f146, f150, f151, f152, sD⟩
          have hatD := hatC.sub sD
          by_cases cq : q < ts.length
          · have d1 : decide ((q : Int) < (ts.length : Int)) = true := by simp; omega
            have d0 : decide ((0 : Int) ≤ (q : Int)) = true := by simp
            have d2 : IntKind.i64.wrap ((q : Int) + 1) = (q + 1 : Nat) := by rw [i64_in] <;> omega
            have htq : ts[q]? = some ts[q] := by simp [cq]
            generalize ts[q] = t at htq
            obtain ⟨gt, capt, hvt, hlt, _⟩ := hatD.2.2.2.2.atc w0 rfl (fun t _ => tcs_len t) htq
            have hlt' : ldCells w0 HD ⟨gt, q * 6, none⟩ 0 6 = some [.int .u64 0, .int .u64 (t.1 : Int), .int .u64 (t.2 : Int), .int .i64 0, .int .i64 0, .slice none 0 0] := hlt
            simp -implicitDefEqProofs only [go_sem, Nat.reduceEqDiff, Nat.reduceLT, Nat.reduceAdd, Nat.reduceMul, Int.reduceEq, Int.reduceLT, Int.reduceLE, Int.reduceNe, Int.reduceBEq, Int.reduceToNat, ↓reduceIte, f7, f13, f22, f144, f145, f146, f150, f151, f152, d1, d0, hvt, hlt', ldK_agg]
            refine newK_of ?_
            intro b24 HE hb24 hn24 h24 s24 g24
            simp -implicitDefEqProofs only [go_sem, Nat.reduceEqDiff, Nat.reduceLT, Nat.reduceAdd, Nat.reduceMul, Int.reduceEq, Int.reduceLT, Int.reduceLE, Int.reduceNe, Int.reduceBEq, Int.reduceToNat, ↓reduceIte, f7, f13, f22, f144, f145, f146, f150, f151, f152]
            refine store_all h24 rfl (by simp [cell1_int, cell1_slice]) rfl ?_
            intro HF h24 g24'
            have sF : Sub HD HF := Sub.ne2 hn24 g24 g24'
            clear g24 g24' s24
            have hatF := hatD.sub sF
            have l24 := ld_own w0 h24
            have l24' := ldc w0 h24 6
            have h22F := sF _ _ (sD _ _ h22)
            have l22 := ld_own w0 h22F
            have l22' := ldc w0 h22F 4
            have lp := ld_own w0 hatF.1
            simp -implicitDefEqProofs only [go_sem, Nat.reduceEqDiff, Nat.reduceLT, Nat.reduceAdd, Nat.reduceMul, Int.reduceEq, Int.reduceLT, Int.reduceLE, Int.reduceNe, Int.reduceBEq, Int.reduceToNat, ↓reduceIte, f7, f13, f22, f144, f145, f146, f150, f151, f152]
            refine vdraw_t [⟨0, .p, [], []⟩, ⟨1, .n, [], []⟩, ⟨2, .p, [], []⟩, ⟨3, .n, [], []⟩, ⟨4, .p, [], []⟩, ⟨5, .p, [], []⟩, ⟨6, .p, [], []⟩, ⟨7, .n, [], []⟩, ⟨8, .p, [], []⟩, ⟨9, .n, [], []⟩, ⟨10, .p, [], []⟩, ⟨11, .p, [], []⟩, ⟨12, .p, [], []⟩, ⟨13, .p, [], []⟩, ⟨14, .p, [], []⟩, ⟨15, .p, [], []⟩, ⟨16, .n, [], []⟩, ⟨17, .n, [], []⟩, ⟨18, .n, [], []⟩, ⟨19, .c, [], []⟩, ⟨20, .p, [], []⟩] [0, 1, 0, 4, 15, 31, 63, 127, 63, 319, 1023, 2047, 4095, 8191, 16383, 32767, 65535, 8191, 8191, 524287, 1048575] mixed (by kernel_rfl) ?_
            by_cases ca : t.1 = z.own
            · have e3 : decide ((t.1 : Int) = (z.own : Int)) = true := by rw [dec_nat]; simp [ca]
              simp -implicitDefEqProofs only [go_sem, Nat.reduceEqDiff, Nat.reduceLT, Nat.reduceAdd, Nat.reduceMul, Int.reduceEq, Int.reduceLT, Int.reduceLE, Int.reduceNe, Int.reduceBEq, Int.reduceToNat, ↓reduceIte, f7, f13, f22, f144, f145, f146, f150, f151, f152, l24, l22, lp, e3, d2]
              exact ⟨m2 - 1, by omega, q + 1, by omega, by simp -implicitDefEqProofs only [go_sem, Nat.reduceEqDiff, Nat.reduceLT, Nat.reduceAdd, Nat.reduceMul, Int.reduceEq, Int.reduceLT, Int.reduceLE, Int.reduceNe, Int.reduceBEq, Int.reduceToNat, ↓reduceIte, f7], by simp -implicitDefEqProofs only [go_sem, Nat.reduceEqDiff, Nat.reduceLT, Nat.reduceAdd, Nat.reduceMul, Int.reduceEq, Int.reduceLT, Int.reduceLE, Int.reduceNe, Int.reduceBEq, Int.reduceToNat, ↓reduceIte, f13, hvt], by simp -implicitDefEqProofs only [go_sem, Nat.reduceEqDiff, Nat.reduceLT, Nat.reduceAdd, Nat.reduceMul, Int.reduceEq, Int.reduceLT, Int.reduceLE, Int.reduceNe, Int.reduceBEq, Int.reduceToNat, ↓reduceIte, f22], by simp -implicitDefEqProofs only [go_sem, Nat.reduceEqDiff, Nat.reduceLT, Nat.reduceAdd, Nat.reduceMul, Int.reduceEq, Int.reduceLT, Int.reduceLE, Int.reduceNe, Int.reduceBEq, Int.reduceToNat, ↓reduceIte, f144], by simp -implicitDefEqProofs only [go_sem, Nat.reduceEqDiff, Nat.reduceLT, Nat.reduceAdd, Nat.reduceMul, Int.reduceEq, Int.reduceLT, Int.reduceLE, Int.reduceNe, Int.reduceBEq, Int.reduceToNat, ↓reduceIte, f145], by simp -implicitDefEqProofs only [go_sem, Nat.reduceEqDiff, Nat.reduceLT, Nat.reduceAdd, Nat.reduceMul, Int.reduceEq, Int.reduceLT, Int.reduceLE, Int.reduceNe, Int.reduceBEq, Int.reduceToNat, ↓reduceIte, f146], by simp -implicitDefEqProofs only [go_sem, Nat.reduceEqDiff, Nat.reduceLT, Nat.reduceAdd, Nat.reduceMul, Int.reduceEq, Int.reduceLT, Int.reduceLE, Int.reduceNe, Int.reduceBEq, Int.reduceToNat, ↓reduceIte, f150, hvt], by simp -implicitDefEqProofs only [go_sem, Nat.reduceEqDiff, Nat.reduceLT, Nat.reduceAdd, Nat.reduceMul, Int.reduceEq, Int.reduceLT, Int.reduceLE, Int.reduceNe, Int.reduceBEq, Int.reduceToNat, ↓reduceIte, f151], by simp -implicitDefEqProofs only [go_sem, Nat.reduceEqDiff, Nat.reduceLT, Nat.reduceAdd, Nat.reduceMul, Int.reduceEq, Int.reduceLT, Int.reduceLE, Int.reduceNe, Int.reduceBEq, Int.reduceToNat, ↓reduceIte], sD.trans sF⟩
            · have e3 : decide ((t.1 : Int) = (z.own : Int)) = false := by rw [dec_nat]; simp [ca]
              by_cases cb : t.2 = z.own
              · have e4 : decide ((t.2 : Int) = (z.own : Int)) = true := by rw [dec_nat]; simp [cb]
                simp -implicitDefEqProofs only [go_sem, Nat.reduceEqDiff, Nat.reduceLT, Nat.reduceAdd, Nat.reduceMul, Int.reduceEq, Int.reduceLT, Int.reduceLE, Int.reduceNe, Int.reduceBEq, Int.reduceToNat, ↓reduceIte, f7, f13, f22, f144, f145, f146, f150, f151, f152, l24, l22, lp, e3, e4, d2]
                exact ⟨m2 - 1, by omega, q + 1, by omega, by simp -implicitDefEqProofs only [go_sem, Nat.reduceEqDiff, Nat.reduceLT, Nat.reduceAdd, Nat.reduceMul, Int.reduceEq, Int.reduceLT, Int.reduceLE, Int.reduceNe, Int.reduceBEq, Int.reduceToNat, ↓reduceIte, f7], by simp -implicitDefEqProofs only [go_sem, Nat.reduceEqDiff, Nat.reduceLT, Nat.reduceAdd, Nat.reduceMul, Int.reduceEq, Int.reduceLT, Int.reduceLE, Int.reduceNe, Int.reduceBEq, Int.reduceToNat, ↓reduceIte, f13, hvt], by simp -implicitDefEqProofs only [go_sem, Nat.reduceEqDiff, Nat.reduceLT, Nat.reduceAdd, Nat.reduceMul, Int.reduceEq, Int.reduceLT, Int.reduceLE, Int.reduceNe, Int.reduceBEq, Int.reduceToNat, ↓reduceIte, f22], by simp -implicitDefEqProofs only [go_sem, Nat.reduceEqDiff, Nat.reduceLT, Nat.reduceAdd, Nat.reduceMul, Int.reduceEq, Int.reduceLT, Int.reduceLE, Int.reduceNe, Int.reduceBEq, Int.reduceToNat, ↓reduceIte, f144], by simp -implicitDefEqProofs only [go_sem, Nat.reduceEqDiff, Nat.reduceLT, Nat.reduceAdd, Nat.reduceMul, Int.reduceEq, Int.reduceLT, Int.reduceLE, Int.reduceNe, Int.reduceBEq, Int.reduceToNat, ↓reduceIte, f145], by simp -implicitDefEqProofs only [go_sem, Nat.reduceEqDiff, Nat.reduceLT, Nat.reduceAdd, Nat.reduceMul, Int.reduceEq, Int.reduceLT, Int.reduceLE, Int.reduceNe, Int.reduceBEq, Int.reduceToNat, ↓reduceIte, f146], by simp -implicitDefEqProofs only [go_sem, Nat.reduceEqDiff, Nat.reduceLT, Nat.reduceAdd, Nat.reduceMul, Int.reduceEq, Int.reduceLT, Int.reduceLE, Int.reduceNe, Int.reduceBEq, Int.reduceToNat, ↓reduceIte, f150, hvt], by simp -implicitDefEqProofs only [go_sem, Nat.reduceEqDiff, Nat.reduceLT, Nat.reduceAdd, Nat.reduceMul, Int.reduceEq, Int.reduceLT, Int.reduceLE, Int.reduceNe, Int.reduceBEq, Int.reduceToNat, ↓reduceIte, f151], by simp -implicitDefEqProofs only [go_sem, Nat.reduceEqDiff, Nat.reduceLT, Nat.reduceAdd, Nat.reduceMul, Int.reduceEq, Int.reduceLT, Int.reduceLE, Int.reduceNe, Int.reduceBEq, Int.reduceToNat, ↓reduceIte], sD.trans sF⟩
              · have e4 : decide ((t.2 : Int) = (z.own : Int)) = false := by rw [dec_nat]; simp [cb]
                simp -implicitDefEqProofs only [go_sem, Nat.reduceEqDiff, Nat.reduceLT, Nat.reduceAdd, Nat.reduceMul, Int.reduceEq, Int.reduceLT, Int.reduceLE, Int.reduceNe, Int.reduceBEq, Int.reduceToNat, ↓reduceIte, f7, f13, f22, f144, f145, f146, f150, f151, f152, l24, l24', l22, l22', ldK_agg, lp, e3, e4, d2]
                refine (vis_log hatF.2.1 (by omega) (hatF.2.2.2.1 z hzm).1 hzl t.1 t.2).mono ?_
                rintro rr HG ⟨rfl, rfl⟩
                rw [dead_unseen hlat (hdz z hzm) (hdead t (List.mem_of_getElem? htq)) ca]
                simp -implicitDefEqProofs only [go_sem, Nat.reduceEqDiff, Nat.reduceLT, Nat.reduceAdd, Nat.reduceMul, Int.reduceEq, Int.reduceLT, Int.reduceLE, Int.reduceNe, Int.reduceBEq, Int.reduceToNat, ↓reduceIte, f7, f13, f22, f144, f145, f146, f150, f151, f152, l24, l24', l22, l22', ldK_agg, lp, e3, e4, d2]
                exact ⟨m2 - 1, by omega, q + 1, by omega, by simp -implicitDefEqProofs only [go_sem, Nat.reduceEqDiff, Nat.reduceLT, Nat.reduceAdd, Nat.reduceMul, Int.reduceEq, Int.reduceLT, Int.reduceLE, Int.reduceNe, Int.reduceBEq, Int.reduceToNat, ↓reduceIte, f7], by simp -implicitDefEqProofs only [go_sem, Nat.reduceEqDiff, Nat.reduceLT, Nat.reduceAdd, Nat.reduceMul, Int.reduceEq, Int.reduceLT, Int.reduceLE, Int.reduceNe, Int.reduceBEq, Int.reduceToNat, ↓reduceIte, f13, hvt], by simp -implicitDefEqProofs only [go_sem, Nat.reduceEqDiff, Nat.reduceLT, Nat.reduceAdd, Nat.reduceMul, Int.reduceEq, Int.reduceLT, Int.reduceLE, Int.reduceNe, Int.reduceBEq, Int.reduceToNat, ↓reduceIte, f22], by simp -implicitDefEqProofs only [go_sem, Nat.reduceEqDiff, Nat.reduceLT, Nat.reduceAdd, Nat.reduceMul, Int.reduceEq, Int.reduceLT, Int.reduceLE, Int.reduceNe, Int.reduceBEq, Int.reduceToNat, ↓reduceIte, f144], by simp -implicitDefEqProofs only [go_sem, Nat.reduceEqDiff, Nat.reduceLT, Nat.reduceAdd, Nat.reduceMul, Int.reduceEq, Int.reduceLT, Int.reduceLE, Int.reduceNe, Int.reduceBEq, Int.reduceToNat, ↓reduceIte, f145], by simp -implicitDefEqProofs only [go_sem, Nat.reduceEqDiff, Nat.reduceLT, Nat.reduceAdd, Nat.reduceMul, Int.reduceEq, Int.reduceLT, Int.reduceLE, Int.reduceNe, Int.reduceBEq, Int.reduceToNat, ↓reduceIte, f146], by simp -implicitDefEqProofs only [go_sem, Nat.reduceEqDiff, Nat.reduceLT, Nat.reduceAdd, Nat.reduceMul, Int.reduceEq, Int.reduceLT, Int.reduceLE, Int.reduceNe, Int.reduceBEq, Int.reduceToNat, ↓reduceIte, f150, hvt], by simp -implicitDefEqProofs only [go_sem, Nat.reduceEqDiff, Nat.reduceLT, Nat.reduceAdd, Nat.reduceMul, Int.reduceEq, Int.reduceLT, Int.reduceLE, Int.reduceNe, Int.reduceBEq, Int.reduceToNat, ↓reduceIte, f151], by simp -implicitDefEqProofs only [go_sem, Nat.reduceEqDiff, Nat.reduceLT, Nat.reduceAdd, Nat.reduceMul, Int.reduceEq, Int.reduceLT, Int.reduceLE, Int.reduceNe, Int.reduceBEq, Int.reduceToNat, ↓reduceIte], sD.trans sF⟩
          · have d1 : decide ((q : Int) < (ts.length : Int)) = false := by simp; omega
            simp -implicitDefEqProofs only [go_sem, Nat.reduceEqDiff, Nat.reduceLT, Nat.reduceAdd, Nat.reduceMul, Int.reduceEq, Int.reduceLT, Int.reduceLE, Int.reduceNe, Int.reduceBEq, Int.reduceToNat, ↓reduceIte, f7, f13, f22, f144, f145, f146, f150, f151, f152, d1, e2]
            exact ⟨m - 1, by omega, j + 1, by omega, by simp -implicitDefEqProofs only [go_sem, Nat.reduceEqDiff, Nat.reduceLT, Nat.reduceAdd, Nat.reduceMul, Int.reduceEq, Int.reduceLT, Int.reduceLE, Int.reduceNe, Int.reduceBEq, Int.reduceToNat, ↓reduceIte, f7], by simp -implicitDefEqProofs only [go_sem, Nat.reduceEqDiff, Nat.reduceLT, Nat.reduceAdd, Nat.reduceMul, Int.reduceEq, Int.reduceLT, Int.reduceLE, Int.reduceNe, Int.reduceBEq, Int.reduceToNat, ↓reduceIte, f13], by simp -implicitDefEqProofs only [go_sem, Nat.reduceEqDiff, Nat.reduceLT, Nat.reduceAdd, Nat.reduceMul, Int.reduceEq, Int.reduceLT, Int.reduceLE, Int.reduceNe, Int.reduceBEq, Int.reduceToNat, ↓reduceIte, f144], by simp -implicitDefEqProofs only [go_sem, Nat.reduceEqDiff, Nat.reduceLT, Nat.reduceAdd, Nat.reduceMul, Int.reduceEq, Int.reduceLT, Int.reduceLE, Int.reduceNe, Int.reduceBEq, Int.reduceToNat, ↓reduceIte, f145], by simp -implicitDefEqProofs only [go_sem, Nat.reduceEqDiff, Nat.reduceLT, Nat.reduceAdd, Nat.reduceMul, Int.reduceEq, Int.reduceLT, Int.reduceLE, Int.reduceNe, Int.reduceBEq, Int.reduceToNat, ↓reduceIte], sA.trans (sC.trans sD)⟩
        · have e1 : decide ((j : Int) < (ls.length : Int)) = false := by simp; omega
          simp -implicitDefEqProofs only [go_sem, Nat.reduceEqDiff, Nat.reduceLT, Nat.reduceAdd, Nat.reduceMul, Int.reduceEq, Int.reduceLT, Int.reduceLE, Int.reduceNe, Int.reduceBEq, Int.reduceToNat, ↓reduceIte, f7, f13, f144, f145, f146, e1]
end Go.Proofs.Ytmpepacfnckadaa
