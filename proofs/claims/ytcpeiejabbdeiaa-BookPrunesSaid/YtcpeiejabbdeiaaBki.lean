/-
  Package book: an index is made.
  Conditions: as each theorem states them.
-/
import Derived.Test.YtcpeiejabbdeiaaBka
namespace Go.Proofs.Ytcpeiejabbdeiaa
open Go Go.RowKit Go.Proofs.YtcpeiejabbdeiaaW
set_option maxRecDepth 100000
set_option maxHeartbeats 1000000
set_option linter.unusedSimpArgs false
set_option linter.unusedVariables false

theorem eqA_ok {w0 : World} {H : Hp} {b : Nat} (hb : H b = some (.cells #[.string ⟨#[97]⟩] 9 (0, 0))) :
    ACalls Try.prog w0 35 #[.agg #[.string ⟨#[97]⟩, .int .u8 1], ptr b] H fun r H' => r = .bool true ∧ H' = H := by
  refine ACalls.quiet ?_
  refine acalls_of Try.func35 rfl Try.ntmps35 r35 (by simp) ?_
  simp -implicitDefEqProofs only [go_sem, Nat.reduceEqDiff, Nat.reduceLT, Nat.reduceAdd, Nat.reduceMul, Int.reduceEq, Int.reduceLT, Int.reduceLE, Int.reduceNe, Int.reduceBEq, Int.reduceToNat, ↓reduceIte]
  refine newK_of ?_
  intro b2 H1 hb2 hn2 h2 s1 g1
  have l2 := ld_own w0 h2
  have lb := ld_own w0 (s1 _ _ hb)
  simp -implicitDefEqProofs only [go_sem, Nat.reduceEqDiff, Nat.reduceLT, Nat.reduceAdd, Nat.reduceMul, Int.reduceEq, Int.reduceLT, Int.reduceLE, Int.reduceNe, Int.reduceBEq, Int.reduceToNat, ↓reduceIte, l2, lb]
  exact s1
theorem indexCol_ok {w0 : World} {H : Hp} {v : Value} (h : Row H 86 2 v 1 oneCol) {b : Nat} (hb : H b = some (.cells #[.string ⟨#[97]⟩] 9 (0, 0))) :
    ACalls Try.prog w0 34 #[v, .func (.func 35) #[] #[ptr b]] H fun r H' => r = .int .i64 0 ∧ H' = H := by
  obtain ⟨g, cap, hv, hc⟩ := row_cells (w0 := w0) h (by omega)
  have hc2 : ldCells w0 H ⟨g, 0, none⟩ 0 2 = some [.string ⟨#[97]⟩, .int .u8 1] := hc
  refine acalls_of Try.func34 rfl Try.ntmps34 r34 (by simp) ?_
  simp -implicitDefEqProofs only [go_sem, Nat.reduceEqDiff, Nat.reduceLT, Nat.reduceAdd, Nat.reduceMul, Int.reduceEq, Int.reduceLT, Int.reduceLE, Int.reduceNe, Int.reduceBEq, Int.reduceToNat, ↓reduceIte, hv]
  refine AC.loop (fun m F H1 => m = 1 ∧ F 0 = v ∧ F 1 = .func (.func 35) #[] #[ptr b] ∧ F 7 = .int .i64 1 ∧ F 8 = .int .i64 0 ∧ H1 = H) (n := 1) ⟨rfl, by simp -implicitDefEqProofs only [go_sem, Nat.reduceEqDiff, Nat.reduceLT, Nat.reduceAdd, Nat.reduceMul, Int.reduceEq, Int.reduceLT, Int.reduceLE, Int.reduceNe, Int.reduceBEq, Int.reduceToNat, ↓reduceIte, hv], by simp -implicitDefEqProofs only [go_sem, Nat.reduceEqDiff, Nat.reduceLT, Nat.reduceAdd, Nat.reduceMul, Int.reduceEq, Int.reduceLT, Int.reduceLE, Int.reduceNe, Int.reduceBEq, Int.reduceToNat, ↓reduceIte], by simp -implicitDefEqProofs only [go_sem, Nat.reduceEqDiff, Nat.reduceLT, Nat.reduceAdd, Nat.reduceMul, Int.reduceEq, Int.reduceLT, Int.reduceLE, Int.reduceNe, Int.reduceBEq, Int.reduceToNat, ↓reduceIte], by simp -implicitDefEqProofs only [go_sem, Nat.reduceEqDiff, Nat.reduceLT, Nat.reduceAdd, Nat.reduceMul, Int.reduceEq, Int.reduceLT, Int.reduceLE, Int.reduceNe, Int.reduceBEq, Int.reduceToNat, ↓reduceIte], rfl⟩ ?_
  rintro m F H1 ⟨rfl, f0, f1, f7, f8, rfl⟩
  have d1 : decide ((0 : Int) < 1) = true := rfl
  have d2 : decide ((0 : Int) ≤ 0) = true := rfl
  have d3 : decide ((0 : Int) < ((1 : Nat) : Int)) = true := rfl
  have i0 : (0 : Int).toNat = 0 := rfl
  rw [hv] at f0
  simp -implicitDefEqProofs only [go_sem, Nat.reduceEqDiff, Nat.reduceLT, Nat.reduceAdd, Nat.reduceMul, Int.reduceEq, Int.reduceLT, Int.reduceLE, Int.reduceNe, Int.reduceBEq, Int.reduceToNat, ↓reduceIte, f0, f1, f7, f8, d1, d2, d3, i0, Nat.zero_mul, hc2, ldK_agg, aop_call, callK_fn ok35]
  refine (eqA_ok hb).mono ?_
  rintro r H2 ⟨rfl, rfl⟩
  simp -implicitDefEqProofs only [go_sem, Nat.reduceEqDiff, Nat.reduceLT, Nat.reduceAdd, Nat.reduceMul, Int.reduceEq, Int.reduceLT, Int.reduceLE, Int.reduceNe, Int.reduceBEq, Int.reduceToNat, ↓reduceIte, f0, f1, f7, f8]

section
variable {w0 : World} {H : Hp} {l : Nat} {S : Nat → Prop} {sts : List Nat} {z : Shot} {bk : Nat} {ts : List Tb} {xs : List Ix} {last : Nat}
def createX (sts : List Nat) (z : Shot) (ts : List Tb) (xs : List Ix) (name of : ByteArray) : Nat :=
  if nameB name = false then 3 else if findT sts z ts of = none then 6 else if takenC sts z ts xs name ≠ 0 then takenC sts z ts xs name else if 16 ≤ xs.length then 12 else 0
def zeroIx : List Value := [.int .u64 0, .string ⟨#[]⟩, .int .u64 0, .int .i64 0, .int .u64 0, .int .u64 0]

theorem createX_ok (h : BookAt H bk ts xs last) (hn : ts.length < 1000000) (hnx : xs.length < 1000000) (hlast : last < 1000000) (hl : LogAt H l S 1 sts) (hb : 1 + sts.length < 10000000000000) (hz : ShotAt H z) (name of : ByteArray) (hname : name.size < 1000000) :
    ACalls Try.prog w0 14 #[ptr bk, ptr l, .agg #[.int .u64 (z.own : Int), .int .u64 (z.xmin : Int), .int .u64 (z.xmax : Int), z.v], .string name, .string of, .string ⟨#[97]⟩] H fun r H' => Out H H' ∧
      (createX sts z ts xs name of ≠ 0 ∧ r = .tuple #[.agg zeroIx.toArray, .int .i64 (createX sts z ts xs name of : Nat)] ∧ BookAt H' bk ts xs last ∨
       createX sts z ts xs name of = 0 ∧ ∃ (x : Ix) (t : Tb), findT sts z ts of = some t ∧ x.e = ⟨last + 1, name, z.own, 0⟩ ∧ x.tab = t.e.id ∧ x.col = 0 ∧ r = .tuple #[.agg x.told.toArray, .int .i64 0] ∧ H x.b = none ∧ BookAt H' bk ts (xs ++ [x]) (last + 1)) := by
  refine acalls_of Try.func14 rfl Try.ntmps14 r14 (by simp) ?_
  have bd0 : bdCells Try.prog 40 #[] = some #[.int .u64 0, .string ⟨#[]⟩, .int .u64 0, .int .i64 0, .int .u64 0, .int .u64 0] := by kernel_rfl
  simp -implicitDefEqProofs only [go_sem, Nat.reduceEqDiff, Nat.reduceLT, Nat.reduceAdd, Nat.reduceMul, Int.reduceEq, Int.reduceLT, Int.reduceLE, Int.reduceNe, Int.reduceBEq, Int.reduceToNat, ↓reduceIte]
  refine newK_of ?_
  intro b8 H1 hb8 hn8 h8 s1 g1
  simp -implicitDefEqProofs only [go_sem, Nat.reduceEqDiff, Nat.reduceLT, Nat.reduceAdd, Nat.reduceMul, Int.reduceEq, Int.reduceLT, Int.reduceLE, Int.reduceNe, Int.reduceBEq, Int.reduceToNat, ↓reduceIte]
  refine newK_of ?_
  intro b11 H2 hb11 hn11 h11 s2 g2
  simp -implicitDefEqProofs only [go_sem, Nat.reduceEqDiff, Nat.reduceLT, Nat.reduceAdd, Nat.reduceMul, Int.reduceEq, Int.reduceLT, Int.reduceLE, Int.reduceNe, Int.reduceBEq, Int.reduceToNat, ↓reduceIte]
  refine newK_of ?_
  intro b12 H3 hb12 hn12 h12 s3 g3
  have h11' := s3 _ _ h11
  have l8 := ldc w0 (s3 _ _ (s2 _ _ h8)) 4
  have s := (s1.trans s2).trans s3
  have h' := h.sub s
  have hl' := hl.keep (H' := H3) fun b o _ hb => s b o hb
  have hz' := hz.sub s
  simp -implicitDefEqProofs only [go_sem, Nat.reduceEqDiff, Nat.reduceLT, Nat.reduceAdd, Nat.reduceMul, Int.reduceEq, Int.reduceLT, Int.reduceLE, Int.reduceNe, Int.reduceBEq, Int.reduceToNat, ↓reduceIte, bd0]
  refine (name_ok w0 H3 name hname).mono ?_
  rintro rr H3 ⟨rfl, rfl⟩
  cases hnb : nameB name
  · have hcc : createX sts z ts xs name of = 3 := by unfold createX; rw [if_pos hnb]
    simp -implicitDefEqProofs only [go_sem, Nat.reduceEqDiff, Nat.reduceLT, Nat.reduceAdd, Nat.reduceMul, Int.reduceEq, Int.reduceLT, Int.reduceLE, Int.reduceNe, Int.reduceBEq, Int.reduceToNat, ↓reduceIte, bd0]
    refine store_all h12 rfl (by simp [cell1_int, cell1_string]) rfl ?_
    intro HZ hZ gZ
    have lZ := ldc w0 hZ 6
    simp -implicitDefEqProofs only [go_sem, Nat.reduceEqDiff, Nat.reduceLT, Nat.reduceAdd, Nat.reduceMul, Int.reduceEq, Int.reduceLT, Int.reduceLE, Int.reduceNe, Int.reduceBEq, Int.reduceToNat, ↓reduceIte, lZ, ldK_agg]
    have sZ : Sub H HZ := fun b o hb => by rw [gZ b (fun e => by rw [e] at hb; rw [s2 _ _ (s1 _ _ hb)] at hn12; cases hn12)]; exact s3 _ _ (s2 _ _ (s1 _ _ hb))
    have sZ3 : ∀ b o, bookTy (tyAt H3 b) = true → H3 b = some o → HZ b = some o := fun b o ht ho => by rw [gZ b (fun e => by rw [e, tyAt_of h12] at ht; cases ht)]; exact ho
    exact ⟨Out.sub sZ, .inl ⟨by omega, by rw [hcc]; rfl, h'.keep sZ3⟩⟩
  · simp -implicitDefEqProofs only [go_sem, Nat.reduceEqDiff, Nat.reduceLT, Nat.reduceAdd, Nat.reduceMul, Int.reduceEq, Int.reduceLT, Int.reduceLE, Int.reduceNe, Int.reduceBEq, Int.reduceToNat, ↓reduceIte, l8, ldK_agg]
    refine (table_ok h' hn hl' hb hz' of).mono ?_
    rintro rr H3 ⟨rfl, rfl⟩
    cases hf : findT sts z ts of with
    | none =>
      have hcc : createX sts z ts xs name of = 6 := by unfold createX; rw [if_neg (by rw [hnb]; simp), if_pos hf]
      simp -implicitDefEqProofs only [go_sem, Nat.reduceEqDiff, Nat.reduceLT, Nat.reduceAdd, Nat.reduceMul, Int.reduceEq, Int.reduceLT, Int.reduceLE, Int.reduceNe, Int.reduceBEq, Int.reduceToNat, ↓reduceIte, optPtr, bd0]
      refine store_all h12 rfl (by simp [cell1_int, cell1_string]) rfl ?_
      intro HZ hZ gZ
      have lZ := ldc w0 hZ 6
      simp -implicitDefEqProofs only [go_sem, Nat.reduceEqDiff, Nat.reduceLT, Nat.reduceAdd, Nat.reduceMul, Int.reduceEq, Int.reduceLT, Int.reduceLE, Int.reduceNe, Int.reduceBEq, Int.reduceToNat, ↓reduceIte, lZ, ldK_agg]
      have sZ : Sub H HZ := fun b o hb => by rw [gZ b (fun e => by rw [e] at hb; rw [s2 _ _ (s1 _ _ hb)] at hn12; cases hn12)]; exact s3 _ _ (s2 _ _ (s1 _ _ hb))
      have sZ3 : ∀ b o, bookTy (tyAt H3 b) = true → H3 b = some o → HZ b = some o := fun b o ht ho => by rw [gZ b (fun e => by rw [e, tyAt_of h12] at ht; cases ht)]; exact ho
      exact ⟨Out.sub sZ, .inl ⟨by omega, by rw [hcc]; rfl, h'.keep sZ3⟩⟩
    | some t =>
      have htm : t ∈ ts := List.mem_of_find?_eq_some hf
      obtain ⟨ht1, ht2⟩ := h'.tab htm
      have lt := ld_own w0 ht1
      have t0 : t.cells.toArray[0]? = some (.int .u64 (t.e.id : Int)) := rfl
      have t4 : t.cells.toArray[4]? = some t.cv := rfl
      have dz : decide ((0 : Int) < 0) = false := rfl
      simp -implicitDefEqProofs only [go_sem, Nat.reduceEqDiff, Nat.reduceLT, Nat.reduceAdd, Nat.reduceMul, Int.reduceEq, Int.reduceLT, Int.reduceLE, Int.reduceNe, Int.reduceBEq, Int.reduceToNat, ↓reduceIte, optPtr, lt, t4]
      refine (indexCol_ok ht2 h11').mono ?_
      rintro rr H4 ⟨rfl, rfl⟩
      simp -implicitDefEqProofs only [go_sem, Nat.reduceEqDiff, Nat.reduceLT, Nat.reduceAdd, Nat.reduceMul, Int.reduceEq, Int.reduceLT, Int.reduceLE, Int.reduceNe, Int.reduceBEq, Int.reduceToNat, ↓reduceIte, dz, l8, ldK_agg]
      refine (taken_ok h' hn hnx hl' hb hz' name).mono ?_
      rintro rr H5 ⟨rfl, rfl⟩
      by_cases ct : takenC sts z ts xs name = 0
      · have e1 : decide (((takenC sts z ts xs name : Nat) : Int) = 0) = true := by rw [dec_zero]; simp [ct]
        have h'' := h'
        obtain ⟨tv, iv, h1, h2, h3, h4, h5⟩ := h'
        have lb := ld_own w0 h1
        obtain ⟨ia, ic, hiv⟩ := h3.slice
        by_cases c16 : 16 ≤ xs.length
        · have e2 : decide ((16 : Int) ≤ (xs.length : Int)) = true := by rw [decide_eq_true_eq]; omega
          have hcc : createX sts z ts xs name of = 12 := by unfold createX; rw [if_neg (by rw [hnb]; simp), if_neg (by rw [hf]; simp), if_neg (by simp [ct]), if_pos c16]
          simp -implicitDefEqProofs only [go_sem, Nat.reduceEqDiff, Nat.reduceLT, Nat.reduceAdd, Nat.reduceMul, Int.reduceEq, Int.reduceLT, Int.reduceLE, Int.reduceNe, Int.reduceBEq, Int.reduceToNat, ↓reduceIte, e1, lb, hiv, e2, List.length_map, bd0]
          refine store_all h12 rfl (by simp [cell1_int, cell1_string]) rfl ?_
          intro HZ hZ gZ
          have lZ := ldc w0 hZ 6
          simp -implicitDefEqProofs only [go_sem, Nat.reduceEqDiff, Nat.reduceLT, Nat.reduceAdd, Nat.reduceMul, Int.reduceEq, Int.reduceLT, Int.reduceLE, Int.reduceNe, Int.reduceBEq, Int.reduceToNat, ↓reduceIte, lZ, ldK_agg]
          have sZ : Sub H HZ := fun b o hb => by rw [gZ b (fun e => by rw [e] at hb; rw [s2 _ _ (s1 _ _ hb)] at hn12; cases hn12)]; exact s3 _ _ (s2 _ _ (s1 _ _ hb))
          have sZ3 : ∀ b o, bookTy (tyAt H5 b) = true → H5 b = some o → HZ b = some o := fun b o ht ho => by rw [gZ b (fun e => by rw [e, tyAt_of h12] at ht; cases ht)]; exact ho
          exact ⟨Out.sub sZ, .inl ⟨by rw [hcc]; first | exact ct | decide, by rw [hcc]; rfl, h''.keep sZ3⟩⟩
        · have e2 : decide ((16 : Int) ≤ (xs.length : Int)) = false := by rw [decide_eq_false_iff_not]; omega
          have hcc : createX sts z ts xs name of = 0 := by unfold createX; rw [if_neg (by rw [hnb]; simp), if_neg (by rw [hf]; simp), if_neg (by simp [ct]), if_neg c16]
          simp -implicitDefEqProofs only [go_sem, Nat.reduceEqDiff, Nat.reduceLT, Nat.reduceAdd, Nat.reduceMul, Int.reduceEq, Int.reduceLT, Int.reduceLE, Int.reduceNe, Int.reduceBEq, Int.reduceToNat, ↓reduceIte, e1, lb, hiv, e2, List.length_map]
          refine vdraw_t [⟨0, .p, [], []⟩, ⟨1, .n, [], []⟩, ⟨2, .p, [], []⟩, ⟨4, .p, [], []⟩, ⟨5, .p, [], []⟩, ⟨6, .p, [], []⟩, ⟨7, .p, [], []⟩, ⟨8, .n, [], []⟩, ⟨9, .p, [], []⟩, ⟨3, .c, [8], []⟩, ⟨10, .p, [], []⟩, ⟨11, .c, [], []⟩, ⟨12, .p, [], []⟩] [0, 0, 0, 7, 0, 16, 48, 112, 240, 0, 1023, 2047, 4095] mixed (by kernel_rfl) ?_
          simp -implicitDefEqProofs only [go_sem, Nat.reduceEqDiff, Nat.reduceLT, Nat.reduceAdd, Nat.reduceMul, Int.reduceEq, Int.reduceLT, Int.reduceLE, Int.reduceNe, Int.reduceBEq, Int.reduceToNat, ↓reduceIte, l8, ldK_agg, lt, t0]
          refine (fresh_ok h'' hlast name hz.cell).mono ?_
          rintro rr H6 ⟨rfl, hb6, k6⟩
          have hk0 : tyAt H5 bk = some 73 := tyAt_of h1
          have ht6 := k6 _ _ (fun e => by rw [e] at ht1; have := tyAt_of ht1; rw [hk0] at this; cases this) ht1
          have lt6 := ld_own w0 ht6
          have bd : bdCells Try.prog 94 #[(0, .agg #[.int .u64 ((last + 1 : Nat) : Int), .string name, .int .u64 (z.own : Int), .int .u64 0]), (1, .int .u64 (t.e.id : Int)), (2, .int .i64 0)] = some #[.int .u64 ((last + 1 : Nat) : Int), .string name, .int .u64 (z.own : Int), .int .u64 0, .int .u64 (t.e.id : Int), .int .i64 0] := by kernel_rfl
          simp -implicitDefEqProofs only [go_sem, Nat.reduceEqDiff, Nat.reduceLT, Nat.reduceAdd, Nat.reduceMul, Int.reduceEq, Int.reduceLT, Int.reduceLE, Int.reduceNe, Int.reduceBEq, Int.reduceToNat, ↓reduceIte, lt6, t0, bd]
          refine newK_of ?_
          intro b17 H7 hb17 hn17 h17 s7 g7
          have hb7 := hb6.sub s7
          obtain ⟨tv7, iv7, q1, q2, q3, q4, q5⟩ := hb7
          have lb7 := ld_own w0 q1
          have bs1 : bsCells Try.prog 92 1 #[(0, ptr b17)] = some #[ptr b17] := by kernel_rfl
          simp -implicitDefEqProofs only [go_sem, Nat.reduceEqDiff, Nat.reduceLT, Nat.reduceAdd, Nat.reduceMul, Int.reduceEq, Int.reduceLT, Int.reduceLE, Int.reduceNe, Int.reduceBEq, Int.reduceToNat, ↓reduceIte, lb7, bs1]
          refine newK_of ?_
          intro nb H8 hnb8 hnn8 h8b s8 g8
          simp -implicitDefEqProofs only [go_sem, Nat.reduceEqDiff, Nat.reduceLT, Nat.reduceAdd, Nat.reduceMul, Int.reduceEq, Int.reduceLT, Int.reduceLE, Int.reduceNe, Int.reduceBEq, Int.reduceToNat, ↓reduceIte]
          refine aop_append_lit (t := 71) (x := .tmp 76) (y := .tmp 78) (c := 1) Try.underlying71 s92 b92 z92 rfl (v := iv7) (by simp -implicitDefEqProofs only [go_sem, Nat.reduceEqDiff, Nat.reduceLT, Nat.reduceAdd, Nat.reduceMul, Int.reduceEq, Int.reduceLT, Int.reduceLE, Int.reduceNe, Int.reduceBEq, Int.reduceToNat, ↓reduceIte]) (q3.keep (H' := H8) fun b o _ hb => s8 b o hb) h8b (by simp -implicitDefEqProofs only [go_sem, Nat.reduceEqDiff, Nat.reduceLT, Nat.reduceAdd, Nat.reduceMul, Int.reduceEq, Int.reduceLT, Int.reduceLE, Int.reduceNe, Int.reduceBEq, Int.reduceToNat, ↓reduceIte]) rfl (by simp [cell1_ptr]) (by omega) (by omega) (by omega) ?_
          intro g9 H9 hg9 hH9 cap9 hrow9
          have k9 : ∀ b o, tyAt H7 b ≠ some 92 → H7 b = some o → H9 b = some o := by
            intro b o ht ho
            have : b ≠ g9 := by
              rintro rfl
              rcases hg9 with e | ⟨e, _⟩
              · exact ht (Row.tyAt q3 e.symm)
              · rw [s8 _ _ ho] at e; cases e
            rw [hH9 b this]; exact s8 b o ho
          have hk9 := k9 _ _ (by rw [tyAt_of q1]; decide) q1
          have hw9 := wr_own hk9 1 (by simp)
          have n17 : b17 ≠ bk := fun e => by rw [e] at h17; rw [q1] at h17; simp at h17
          have h179 := k9 _ _ (by rw [tyAt_of h17]; decide) h17
          simp -implicitDefEqProofs only [go_sem, Nat.reduceEqDiff, Nat.reduceLT, Nat.reduceAdd, Nat.reduceMul, Int.reduceEq, Int.reduceLT, Int.reduceLE, Int.reduceNe, Int.reduceBEq, Int.reduceToNat, ↓reduceIte, hw9]
          have hAk := Hp.set_same H9 bk (.cells #[tv7, .slice (some ⟨g9, 0, none⟩) (xs.length + 1) cap9, .int .u64 ((last + 1 : Nat) : Int)] 73 (0, 0))
          have gA : ∀ i, i ≠ bk → (H9.set bk (.cells #[tv7, .slice (some ⟨g9, 0, none⟩) (xs.length + 1) cap9, .int .u64 ((last + 1 : Nat) : Int)] 73 (0, 0))) i = H9 i := fun i hi => Hp.set_ne _ _ _ _ hi
          generalize H9.set bk (.cells #[tv7, .slice (some ⟨g9, 0, none⟩) (xs.length + 1) cap9, .int .u64 ((last + 1 : Nat) : Int)] 73 (0, 0)) = HA at *
          obtain ⟨x, ex⟩ : ∃ x : Ix, x = ⟨⟨last + 1, name, z.own, 0⟩, b17, t.e.id, 0⟩ := ⟨_, rfl⟩
          have hxA : HA x.b = some (.cells x.cells.toArray 94 (0, 0)) := by rw [ex]; exact (gA b17 n17).trans h179
          have exb : b17 = x.b := by rw [ex]
          rw [exb]
          refine (told_ix hxA).mono ?_
          rintro rr HB ⟨rfl, rfl⟩
          simp -implicitDefEqProofs only [go_sem, Nat.reduceEqDiff, Nat.reduceLT, Nat.reduceAdd, Nat.reduceMul, Int.reduceEq, Int.reduceLT, Int.reduceLE, Int.reduceNe, Int.reduceBEq, Int.reduceToNat, ↓reduceIte]
          have kA : ∀ b o, tyAt H7 b ≠ some 92 → tyAt H7 b ≠ some 73 → H7 b = some o → HB b = some o := fun b o t1 t2 ho => by
            rw [gA b (fun e => t2 (by rw [e, tyAt_of q1]))]; exact k9 b o t1 ho
          have up : ∀ b o, b ≠ bk → H b = some o → H7 b = some o ∧ tyAt H7 b = tyAt H b := fun b o hne ho => by
            have a2 := s7 _ _ (k6 b o hne (s _ _ ho))
            exact ⟨a2, by unfold tyAt; rw [a2, ho]⟩
          have h12A : HB b12 = some (.cells #[.int .u64 0, .string ⟨#[]⟩, .int .u64 0, .int .i64 0, .int .u64 0, .int .u64 0] 40 (0, 0)) := by
            have n12 : b12 ≠ bk := fun e => by rw [e, h1] at h12; simp at h12
            have a1 := s7 _ _ (k6 b12 _ n12 h12)
            exact kA b12 _ (by rw [tyAt_of a1]; decide) (by rw [tyAt_of a1]; decide) a1
          refine store_all h12A rfl (by simp [Ix.told, cell1_int, cell1_string]) rfl ?_
          intro HC hC gC
          have lC := ldc w0 hC 6
          simp -implicitDefEqProofs only [go_sem, Nat.reduceEqDiff, Nat.reduceLT, Nat.reduceAdd, Nat.reduceMul, Int.reduceEq, Int.reduceLT, Int.reduceLE, Int.reduceNe, Int.reduceBEq, Int.reduceToNat, ↓reduceIte, lC, ldK_agg]
          have hkH : tyAt H bk = some 73 := by obtain ⟨_, _, w1, _⟩ := h; exact tyAt_of w1
          have n12H : ∀ b o, H b = some o → b ≠ b12 := fun b o ho e => by rw [e] at ho; rw [s2 _ _ (s1 _ _ ho)] at hn12; cases hn12
          have hn0 : H x.b = none := by
            rw [← exb]
            cases e : H b17 with
            | none => rfl
            | some o =>
              rw [(k6 b17 o n17 (s _ _ e))] at hn17; cases hn17
          have kB : ∀ b o, tyAt HB b ≠ some 40 → HB b = some o → HC b = some o := fun b o ht ho => by
            rw [gC b (fun e => ht (by rw [e, tyAt_of h12A]))]; exact ho
          refine ⟨fun b o ht ho => ?_, .inr ⟨hcc, x, t, rfl, by rw [ex], by rw [ex], by rw [ex], ?_, hn0, ?_⟩⟩
          · have hne : b ≠ bk := fun e => by rw [e, hkH] at ht; cases ht
            obtain ⟨a1, a2⟩ := up b o hne ho
            rw [gC b (n12H b o ho)]
            exact kA b o (by rw [a2]; intro e; rw [e] at ht; cases ht) (by rw [a2]; intro e; rw [e] at ht; cases ht) a1
          · rfl
          · have kr : ∀ {e sz v n xs}, Row H7 e sz v n xs → e ≠ 92 → e ≠ 73 → e ≠ 40 → Row HC e sz v n xs := fun hr t1 t2 t3 => by
              have hr1 := hr.keep (H' := HB) fun b o hb ho => kA b o (by rw [Row.tyAt hr hb]; exact fun c => t1 (Option.some.inj c)) (by rw [Row.tyAt hr hb]; exact fun c => t2 (Option.some.inj c)) ho
              exact hr1.keep fun b o hb ho => kB b o (by rw [Row.tyAt hr1 hb]; exact fun c => t3 (Option.some.inj c)) ho
            have kc : ∀ b o e c, o = .cells c e (0, 0) → e ≠ 92 → e ≠ 73 → e ≠ 40 → H7 b = some o → HC b = some o := fun b o e c ho t1 t2 t3 hb => by
              subst ho
              have a1 := kA b _ (by rw [tyAt_of hb]; exact fun c => t1 (Option.some.inj c)) (by rw [tyAt_of hb]; exact fun c => t2 (Option.some.inj c)) hb
              exact kB b _ (by rw [tyAt_of a1]; exact fun c => t3 (Option.some.inj c)) a1
            refine ⟨tv7, _, kB _ _ (by rw [tyAt_of hAk]; decide) hAk, kr q2 (by decide) (by decide) (by decide), ?_, fun t' ht' => ?_, fun x' hx' => ?_⟩
            · rw [List.length_append, List.length_singleton, List.map_append, List.map_cons, List.map_nil, ← exb]
              have hr1 := hrow9.keep (H' := HB) fun b o hb ho => by rw [gA b (fun e => by have := Row.tyAt hrow9 hb; rw [e, tyAt_of hk9] at this; cases this)]; exact ho
              exact hr1.keep fun b o hb ho => kB b o (by rw [Row.tyAt hr1 hb]; decide) ho
            · obtain ⟨u1, u2⟩ := q4 t' ht'
              exact ⟨kc _ _ _ _ rfl (by decide) (by decide) (by decide) u1, kr u2 (by decide) (by decide) (by decide)⟩
            · simp only [List.mem_append, List.mem_singleton] at hx'
              rcases hx' with hx' | rfl
              · exact kc _ _ _ _ rfl (by decide) (by decide) (by decide) (q5 x' hx')
              · exact kB _ _ (by rw [tyAt_of hxA]; decide) hxA
      · have e1 : decide (((takenC sts z ts xs name : Nat) : Int) = 0) = false := by rw [dec_zero]; simp [ct]
        have hcc : createX sts z ts xs name of = takenC sts z ts xs name := by unfold createX; rw [if_neg (by rw [hnb]; simp), if_neg (by rw [hf]; simp), if_pos ct]
        simp -implicitDefEqProofs only [go_sem, Nat.reduceEqDiff, Nat.reduceLT, Nat.reduceAdd, Nat.reduceMul, Int.reduceEq, Int.reduceLT, Int.reduceLE, Int.reduceNe, Int.reduceBEq, Int.reduceToNat, ↓reduceIte, e1, bd0]
        have h'' := h'
        refine store_all h12 rfl (by simp [cell1_int, cell1_string]) rfl ?_
        intro HZ hZ gZ
        have lZ := ldc w0 hZ 6
        simp -implicitDefEqProofs only [go_sem, Nat.reduceEqDiff, Nat.reduceLT, Nat.reduceAdd, Nat.reduceMul, Int.reduceEq, Int.reduceLT, Int.reduceLE, Int.reduceNe, Int.reduceBEq, Int.reduceToNat, ↓reduceIte, lZ, ldK_agg]
        have sZ : Sub H HZ := fun b o hb => by rw [gZ b (fun e => by rw [e] at hb; rw [s2 _ _ (s1 _ _ hb)] at hn12; cases hn12)]; exact s3 _ _ (s2 _ _ (s1 _ _ hb))
        have sZ3 : ∀ b o, bookTy (tyAt H5 b) = true → H5 b = some o → HZ b = some o := fun b o ht ho => by rw [gZ b (fun e => by rw [e, tyAt_of h12] at ht; cases ht)]; exact ho
        exact ⟨Out.sub sZ, .inl ⟨by rw [hcc]; first | exact ct | decide, by rw [hcc]; rfl, h''.keep sZ3⟩⟩
end
end Go.Proofs.Ytcpeiejabbdeiaa
