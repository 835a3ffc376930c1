/-
  Package book: a table is made.
  Conditions: as each theorem states them.
-/
import Derived.Test.YtcpeiejabbdeiaaBks
namespace Go.Proofs.Ytcpeiejabbdeiaa
open Go Go.RowKit Go.Proofs.YtcpeiejabbdeiaaW
set_option maxRecDepth 100000
set_option linter.unusedSimpArgs false
set_option linter.unusedVariables false

theorem one_cols (w0 : World) (H : Hp) : ACalls Try.prog w0 13 #[] H fun r H' => Row H' 86 2 r 1 oneCol ∧ (∀ b, blk r = some b → H b = none ∧ w0.heap.size ≤ b) ∧ Sub H H' := by
  have bd : bdCells Try.prog 86 #[(0, .string ⟨#[97]⟩), (1, .int .u8 1)] = some #[.string ⟨#[97]⟩, .int .u8 1] := by kernel_rfl
  have bs : bsCells Try.prog 86 1 #[(0, .agg #[.string ⟨#[97]⟩, .int .u8 1])] = some #[.string ⟨#[97]⟩, .int .u8 1] := by kernel_rfl
  refine acalls_of Try.func13 rfl Try.ntmps13 r13 (by simp) ?_
  simp -implicitDefEqProofs only [go_sem, Nat.reduceEqDiff, Nat.reduceLT, Nat.reduceAdd, Nat.reduceMul, Int.reduceEq, Int.reduceLT, Int.reduceLE, Int.reduceNe, Int.reduceBEq, Int.reduceToNat, ↓reduceIte, bd, bs]
  refine newK_of ?_
  intro b H1 hb hn h1 s1 g1
  simp -implicitDefEqProofs only [go_sem, Nat.reduceEqDiff, Nat.reduceLT, Nat.reduceAdd, Nat.reduceMul, Int.reduceEq, Int.reduceLT, Int.reduceLE, Int.reduceNe, Int.reduceBEq, Int.reduceToNat, ↓reduceIte]
  refine ⟨⟨rfl, .inr ⟨b, 1, _, rfl, h1, by omega, rfl, rfl⟩⟩, fun b' hb' => ?_, s1⟩
  simp only [blk, Option.some.injEq] at hb'
  subst hb'; exact ⟨hn, hb⟩
theorem clone_cols {w0 : World} {H : Hp} {v : Value} (h : Row H 86 2 v 1 oneCol) : ACalls Try.prog w0 32 #[v] H fun r H' => Row H' 86 2 r 1 oneCol ∧ (∀ b, blk r = some b → H b = none ∧ w0.heap.size ≤ b) ∧ Sub H H' := by
  have bs : bsCells Try.prog 86 0 #[] = some #[] := by kernel_rfl
  obtain ⟨g, cap, cur, hv, hg, _⟩ := h.open (by omega)
  refine acalls_of Try.func32 rfl Try.ntmps32 r32 (by simp) ?_
  simp -implicitDefEqProofs only [go_sem, Nat.reduceEqDiff, Nat.reduceLT, Nat.reduceAdd, Nat.reduceMul, Int.reduceEq, Int.reduceLT, Int.reduceLE, Int.reduceNe, Int.reduceBEq, Int.reduceToNat, ↓reduceIte, hv, bs]
  refine newK_of ?_
  intro b H1 hb hn h1 s1 g1
  simp -implicitDefEqProofs only [go_sem, Nat.reduceEqDiff, Nat.reduceLT, Nat.reduceAdd, Nat.reduceMul, Int.reduceEq, Int.reduceLT, Int.reduceLE, Int.reduceNe, Int.reduceBEq, Int.reduceToNat, ↓reduceIte, hv]
  have hr1 : Row H1 86 2 (.slice (some ⟨b, 0, none⟩) 0 0) 0 [] := ⟨rfl, .inr ⟨b, 0, _, rfl, h1, by omega, rfl, rfl⟩⟩
  have hrv := h.keep (H' := H1) fun b o _ hb => s1 b o hb
  refine aop_append_row (t := 37) (x := .tmp 5) (y := .tmp 6) Try.underlying37 s86 b86 z86 rfl (v := .slice (some ⟨b, 0, none⟩) 0 0) (by simp -implicitDefEqProofs only [go_sem, Nat.reduceEqDiff, Nat.reduceLT, Nat.reduceAdd, Nat.reduceMul, Int.reduceEq, Int.reduceLT, Int.reduceLE, Int.reduceNe, Int.reduceBEq, Int.reduceToNat, ↓reduceIte]) hr1 (u := v) (m := 1) hrv (by simp -implicitDefEqProofs only [go_sem, Nat.reduceEqDiff, Nat.reduceLT, Nat.reduceAdd, Nat.reduceMul, Int.reduceEq, Int.reduceLT, Int.reduceLE, Int.reduceNe, Int.reduceBEq, Int.reduceToNat, ↓reduceIte, hv]) (by simp [oneCol, cell1_int, cell1_string]) (by omega) (by omega) (by omega) ?_
  intro g2 H2 hg2 hH2 cap2 hrow2
  obtain ⟨s2, hgn, hgw⟩ := app_fresh (v := .slice (some ⟨b, 0, none⟩) 0 0) s1 (fun b' hb' => by simp only [blk, Option.some.injEq] at hb'; subst hb'; exact ⟨hn, hb⟩) hg2 hH2
  simp -implicitDefEqProofs only [go_sem, Nat.reduceEqDiff, Nat.reduceLT, Nat.reduceAdd, Nat.reduceMul, Int.reduceEq, Int.reduceLT, Int.reduceLE, Int.reduceNe, Int.reduceBEq, Int.reduceToNat, ↓reduceIte]
  refine ⟨hrow2, fun b' hb' => ?_, s2⟩
  simp only [blk, Option.some.injEq] at hb'
  subst hb'; exact ⟨hgn, hgw⟩

def RgtI (w0 : World) (H : Hp) (v : Value) (r : Nat) (m : Nat) (F : Fr) (H1 : Hp) : Prop :=
  ∃ k, k + m = 1 ∧ F 0 = v ∧ F 3 = .map (some r) ∧ F 7 = v ∧ F 8 = .int .i64 1 ∧ F 9 = .int .i64 (k : Int) ∧ Sub H H1 ∧ H r = none ∧ (k = 0 → H1 r = some (.map #[] 0))
theorem nameB_a : nameB ⟨#[97]⟩ = true := by decide +kernel
theorem right_one {w0 : World} {H : Hp} {v : Value} (h : Row H 86 2 v 1 oneCol) : ACalls Try.prog w0 29 #[v] H fun r H' => r = .bool true ∧ H' = H := by
  refine ACalls.quiet ?_
  obtain ⟨g, cap, hv, hc⟩ := row_cells (w0 := w0) h (by omega)
  refine acalls_of Try.func29 rfl Try.ntmps29 r29 (by simp) ?_
  simp -implicitDefEqProofs only [go_sem, Nat.reduceEqDiff, Nat.reduceLT, Nat.reduceAdd, Nat.reduceMul, Int.reduceEq, Int.reduceLT, Int.reduceLE, Int.reduceNe, Int.reduceBEq, Int.reduceToNat, ↓reduceIte]
  refine newK_of ?_
  intro r H1 hr hn h1 s1 g1
  simp -implicitDefEqProofs only [go_sem, Nat.reduceEqDiff, Nat.reduceLT, Nat.reduceAdd, Nat.reduceMul, Int.reduceEq, Int.reduceLT, Int.reduceLE, Int.reduceNe, Int.reduceBEq, Int.reduceToNat, ↓reduceIte, hv]
  refine AC.loop (RgtI w0 H v r) (n := 1) ⟨0, by omega, by simp -implicitDefEqProofs only [go_sem, Nat.reduceEqDiff, Nat.reduceLT, Nat.reduceAdd, Nat.reduceMul, Int.reduceEq, Int.reduceLT, Int.reduceLE, Int.reduceNe, Int.reduceBEq, Int.reduceToNat, ↓reduceIte, hv], by simp -implicitDefEqProofs only [go_sem, Nat.reduceEqDiff, Nat.reduceLT, Nat.reduceAdd, Nat.reduceMul, Int.reduceEq, Int.reduceLT, Int.reduceLE, Int.reduceNe, Int.reduceBEq, Int.reduceToNat, ↓reduceIte], by simp -implicitDefEqProofs only [go_sem, Nat.reduceEqDiff, Nat.reduceLT, Nat.reduceAdd, Nat.reduceMul, Int.reduceEq, Int.reduceLT, Int.reduceLE, Int.reduceNe, Int.reduceBEq, Int.reduceToNat, ↓reduceIte, hv], by simp -implicitDefEqProofs only [go_sem, Nat.reduceEqDiff, Nat.reduceLT, Nat.reduceAdd, Nat.reduceMul, Int.reduceEq, Int.reduceLT, Int.reduceLE, Int.reduceNe, Int.reduceBEq, Int.reduceToNat, ↓reduceIte], by simp -implicitDefEqProofs only [go_sem, Nat.reduceEqDiff, Nat.reduceLT, Nat.reduceAdd, Nat.reduceMul, Int.reduceEq, Int.reduceLT, Int.reduceLE, Int.reduceNe, Int.reduceBEq, Int.reduceToNat, ↓reduceIte], s1, hn, fun _ => h1⟩ ?_
  rintro m F H2 ⟨k, hk, f0, f3, f7, f8, f9, s2, hn2, h2⟩
  rw [hv] at f0 f7
  by_cases c : k = 0
  · subst c
    have h2 := h2 rfl
    have d1 : decide (((0 : Nat) : Int) < 1) = true := by decide
    have d2 : IntKind.i64.wrap (((0 : Nat) : Int) + 1) = 1 := by decide +kernel
    have d3 : decide ((0 : Int) ≤ ((0 : Nat) : Int)) = true := by decide
    have d2' : IntKind.i64.wrap (0 + 1) = 1 := by decide +kernel
    have d4 : decide (((0 : Nat) : Int) < ((1 : Nat) : Int)) = true := by decide
    have hrow2 := h.keep (H' := H2) fun b o _ hb => s2 b o hb
    obtain ⟨g', cap', hv', hc2⟩ := row_cells (w0 := w0) hrow2 (by omega)
    rw [hv] at hv'
    cases hv'
    have i0 : ((0 : Nat) : Int).toNat = 0 := rfl
    have hc2' : ldCells w0 H2 ⟨g, 0, none⟩ 0 2 = some [.string ⟨#[97]⟩, .int .u8 1] := hc2
    simp -implicitDefEqProofs only [go_sem, Nat.reduceEqDiff, Nat.reduceLT, Nat.reduceAdd, Nat.reduceMul, Int.reduceEq, Int.reduceLT, Int.reduceLE, Int.reduceNe, Int.reduceBEq, Int.reduceToNat, ↓reduceIte, f0, f3, f7, f8, f9, d1, d3, d4, i0, Nat.zero_mul, hc2', ldK_agg]
    refine newK_of ?_
    intro b5 H3 hb5 hn5 h5 s5 g5
    simp -implicitDefEqProofs only [go_sem, Nat.reduceEqDiff, Nat.reduceLT, Nat.reduceAdd, Nat.reduceMul, Int.reduceEq, Int.reduceLT, Int.reduceLE, Int.reduceNe, Int.reduceBEq, Int.reduceToNat, ↓reduceIte, f0, f3, f7, f8, f9]
    refine store_all h5 rfl (by simp [cell1_int, cell1_string]) rfl ?_
    intro H4 h5 g5'
    have s4 := Sub.ne2 hn5 g5 g5'
    have l5 := ld_own w0 h5
    simp -implicitDefEqProofs only [go_sem, Nat.reduceEqDiff, Nat.reduceLT, Nat.reduceAdd, Nat.reduceMul, Int.reduceEq, Int.reduceLT, Int.reduceLE, Int.reduceNe, Int.reduceBEq, Int.reduceToNat, ↓reduceIte, f0, f3, f7, f8, f9, l5]
    refine (name_ok w0 H4 ⟨#[97]⟩ (by decide)).mono ?_
    rintro rr H5 ⟨rfl, rfl⟩
    rw [nameB_a]
    have h4 := s4 _ _ h2
    simp -implicitDefEqProofs only [go_sem, Nat.reduceEqDiff, Nat.reduceLT, Nat.reduceAdd, Nat.reduceMul, Int.reduceEq, Int.reduceLT, Int.reduceLE, Int.reduceNe, Int.reduceBEq, Int.reduceToNat, ↓reduceIte, f0, f3, f7, f8, f9, l5, lookK_str0 Try.underlying110 Try.underlying9 z4 h4, Option.getD_none]
    refine aop_mapUpdate0 (s := ⟨#[97]⟩) (v := .bool true) Try.underlying110 Try.underlying9 h4 (by simp -implicitDefEqProofs only [go_sem, Nat.reduceEqDiff, Nat.reduceLT, Nat.reduceAdd, Nat.reduceMul, Int.reduceEq, Int.reduceLT, Int.reduceLE, Int.reduceNe, Int.reduceBEq, Int.reduceToNat, ↓reduceIte, f3]) (by simp -implicitDefEqProofs only [go_sem, Nat.reduceEqDiff, Nat.reduceLT, Nat.reduceAdd, Nat.reduceMul, Int.reduceEq, Int.reduceLT, Int.reduceLE, Int.reduceNe, Int.reduceBEq, Int.reduceToNat, ↓reduceIte]) (by simp -implicitDefEqProofs only [go_sem, Nat.reduceEqDiff, Nat.reduceLT, Nat.reduceAdd, Nat.reduceMul, Int.reduceEq, Int.reduceLT, Int.reduceLE, Int.reduceNe, Int.reduceBEq, Int.reduceToNat, ↓reduceIte]) ?_
    intro H6 hf6
    simp -implicitDefEqProofs only [go_sem, Nat.reduceEqDiff, Nat.reduceLT, Nat.reduceAdd, Nat.reduceMul, Int.reduceEq, Int.reduceLT, Int.reduceLE, Int.reduceNe, Int.reduceBEq, Int.reduceToNat, ↓reduceIte, f0, f3, f7, f8, f9, d2]
    refine ⟨0, by omega, 1, by omega, by simp -implicitDefEqProofs only [go_sem, Nat.reduceEqDiff, Nat.reduceLT, Nat.reduceAdd, Nat.reduceMul, Int.reduceEq, Int.reduceLT, Int.reduceLE, Int.reduceNe, Int.reduceBEq, Int.reduceToNat, ↓reduceIte, f0, hv], by simp -implicitDefEqProofs only [go_sem, Nat.reduceEqDiff, Nat.reduceLT, Nat.reduceAdd, Nat.reduceMul, Int.reduceEq, Int.reduceLT, Int.reduceLE, Int.reduceNe, Int.reduceBEq, Int.reduceToNat, ↓reduceIte, f3], by simp -implicitDefEqProofs only [go_sem, Nat.reduceEqDiff, Nat.reduceLT, Nat.reduceAdd, Nat.reduceMul, Int.reduceEq, Int.reduceLT, Int.reduceLE, Int.reduceNe, Int.reduceBEq, Int.reduceToNat, ↓reduceIte, f7, hv], by simp -implicitDefEqProofs only [go_sem, Nat.reduceEqDiff, Nat.reduceLT, Nat.reduceAdd, Nat.reduceMul, Int.reduceEq, Int.reduceLT, Int.reduceLE, Int.reduceNe, Int.reduceBEq, Int.reduceToNat, ↓reduceIte, f8], by simp -implicitDefEqProofs only [go_sem, Nat.reduceEqDiff, Nat.reduceLT, Nat.reduceAdd, Nat.reduceMul, Int.reduceEq, Int.reduceLT, Int.reduceLE, Int.reduceNe, Int.reduceBEq, Int.reduceToNat, ↓reduceIte, d2', Int.natCast_one], fun b o hb => ?_, hn2, fun h => by omega⟩
    rw [hf6 b (fun e => by rw [e, hn2] at hb; cases hb)]
    exact s4 _ _ (s2 _ _ hb)
  · have hk1 : k = 1 := by omega
    subst hk1
    have d1 : decide (((1 : Nat) : Int) < 1) = false := by decide
    simp -implicitDefEqProofs only [go_sem, Nat.reduceEqDiff, Nat.reduceLT, Nat.reduceAdd, Nat.reduceMul, Int.reduceEq, Int.reduceLT, Int.reduceLE, Int.reduceNe, Int.reduceBEq, Int.reduceToNat, ↓reduceIte, f0, f3, f7, f8, f9, d1]
    exact s2

section
variable {w0 : World} {H : Hp} {l : Nat} {S : Nat → Prop} {sts : List Nat} {z : Shot} {bk : Nat} {ts : List Tb} {xs : List Ix} {last : Nat}
theorem fresh_ok (h : BookAt H bk ts xs last) (hlast : last < 1000000) (name : ByteArray) (hc : cell1 z.v = true) :
    ACalls Try.prog w0 31 #[ptr bk, .agg #[.int .u64 (z.own : Int), .int .u64 (z.xmin : Int), .int .u64 (z.xmax : Int), z.v], .string name] H fun r H' => r = .agg #[.int .u64 ((last + 1 : Nat) : Int), .string name, .int .u64 (z.own : Int), .int .u64 0] ∧
      BookAt H' bk ts xs (last + 1) ∧ ∀ b o, b ≠ bk → H b = some o → H' b = some o := by
  obtain ⟨tv, iv, h1, h2, h3, h4, h5⟩ := h
  refine acalls_of Try.func31 rfl Try.ntmps31 r31 (by simp) ?_
  simp -implicitDefEqProofs only [go_sem, Nat.reduceEqDiff, Nat.reduceLT, Nat.reduceAdd, Nat.reduceMul, Int.reduceEq, Int.reduceLT, Int.reduceLE, Int.reduceNe, Int.reduceBEq, Int.reduceToNat, ↓reduceIte]
  refine newK_of ?_
  intro b4 H1 hb4 hn4 h4c s1 g1
  simp -implicitDefEqProofs only [go_sem, Nat.reduceEqDiff, Nat.reduceLT, Nat.reduceAdd, Nat.reduceMul, Int.reduceEq, Int.reduceLT, Int.reduceLE, Int.reduceNe, Int.reduceBEq, Int.reduceToNat, ↓reduceIte]
  refine newK_of ?_
  intro b6 H2 hb6 hn6 h6c s2 g2
  have hk2 := s2 _ _ (s1 _ _ h1)
  have lb := ld_own w0 hk2
  have hw := wr_own hk2 2 (by simp)
  have e1 : IntKind.u64.wrap ((last : Int) + 1) = ((last + 1 : Nat) : Int) := by rw [u64_in] <;> omega
  simp -implicitDefEqProofs only [go_sem, Nat.reduceEqDiff, Nat.reduceLT, Nat.reduceAdd, Nat.reduceMul, Int.reduceEq, Int.reduceLT, Int.reduceLE, Int.reduceNe, Int.reduceBEq, Int.reduceToNat, ↓reduceIte, lb, hw, e1]
  have nbk : b6 ≠ bk := fun e => by rw [e] at hn6; rw [s1 _ _ h1] at hn6; cases hn6
  have n4bk : b4 ≠ bk := fun e => by rw [e, h1] at hn4; cases hn4
  have h3bk := Hp.set_same H2 bk (.cells #[tv, iv, .int .u64 ((last + 1 : Nat) : Int)] 73 (0, 0))
  have g3 : ∀ i, i ≠ bk → (H2.set bk (.cells #[tv, iv, .int .u64 ((last + 1 : Nat) : Int)] 73 (0, 0))) i = H2 i := fun i hi => Hp.set_ne _ _ _ _ hi
  generalize H2.set bk (.cells #[tv, iv, .int .u64 ((last + 1 : Nat) : Int)] 73 (0, 0)) = H3 at *
  have lb3 := ld_own w0 h3bk
  have l4 := ld_own w0 ((g3 b4 n4bk).trans (s2 _ _ h4c))
  have h63 := (g3 b6 nbk).trans h6c
  have bd : bdCells Try.prog 81 #[(0, .int .u64 ((last + 1 : Nat) : Int)), (1, .string name), (2, .int .u64 (z.own : Int))] = some #[.int .u64 ((last + 1 : Nat) : Int), .string name, .int .u64 (z.own : Int), .int .u64 0] := by kernel_rfl
  refine vdraw_t [⟨0, .p, [], []⟩, ⟨1, .p, [], []⟩, ⟨2, .p, [], []⟩, ⟨3, .n, [], []⟩, ⟨4, .p, [], []⟩, ⟨5, .p, [], []⟩, ⟨6, .n, [], []⟩, ⟨7, .p, [], []⟩, ⟨8, .c, [], []⟩] [0, 1, 3, 7, 0, 0, 32, 127, 255] mixed (by kernel_rfl) ?_
  simp -implicitDefEqProofs only [go_sem, Nat.reduceEqDiff, Nat.reduceLT, Nat.reduceAdd, Nat.reduceMul, Int.reduceEq, Int.reduceLT, Int.reduceLE, Int.reduceNe, Int.reduceBEq, Int.reduceToNat, ↓reduceIte, lb3, l4, bd]
  refine store_all h63 rfl (by simp [cell1_int, cell1_string]) rfl ?_
  intro H4 h6d g4
  have l6 := ldc w0 h6d 4
  simp -implicitDefEqProofs only [go_sem, Nat.reduceEqDiff, Nat.reduceLT, Nat.reduceAdd, Nat.reduceMul, Int.reduceEq, Int.reduceLT, Int.reduceLE, Int.reduceNe, Int.reduceBEq, Int.reduceToNat, ↓reduceIte, l6, ldK_agg]
  have keep0 : ∀ b o, b ≠ bk → H b = some o → H4 b = some o := fun b o n1 ho => by
    have n2 : b ≠ b6 := fun e => by rw [e] at ho; rw [s1 _ _ ho] at hn6; cases hn6
    rw [g4 b n2, g3 b n1]
    exact s2 _ _ (s1 _ _ ho)
  have keep : ∀ b o, tyAt H b ≠ some 73 → H b = some o → H4 b = some o := fun b o ht ho => keep0 b o (fun e => ht (by rw [e, tyAt_of h1])) ho
  refine ⟨⟨tv, iv, (g4 bk nbk.symm).trans h3bk, h2.keep fun b o hb ho => keep b o (by rw [Row.tyAt h2 hb]; decide) ho, h3.keep fun b o hb ho => keep b o (by rw [Row.tyAt h3 hb]; decide) ho, fun t ht => ?_, fun x hx => keep _ _ (by rw [tyAt_of (h5 x hx)]; decide) (h5 x hx)⟩, keep0⟩
  obtain ⟨q1, q2⟩ := h4 t ht
  exact ⟨keep _ _ (by rw [tyAt_of q1]; decide) q1, q2.keep fun b o hb ho => keep b o (by rw [Row.tyAt q2 hb]; decide) ho⟩

def createC (sts : List Nat) (z : Shot) (ts : List Tb) (xs : List Ix) (name : ByteArray) : Nat :=
  if nameB name = false then 3 else if takenC sts z ts xs name ≠ 0 then takenC sts z ts xs name else if 16 ≤ ts.length then 12 else 0
/-- What isn't the book's stays. -/
def Out (H H' : Hp) : Prop := ∀ b o, bookTy (tyAt H b) = false → H b = some o → H' b = some o
theorem Out.sub {H H' : Hp} (h : Sub H H') : Out H H' := fun b o _ hb => h b o hb
theorem create_ok (h : BookAt H bk ts xs last) (hn : ts.length < 1000000) (hnx : xs.length < 1000000) (hlast : last < 1000000) (hl : LogAt H l S 1 sts) (hb : 1 + sts.length < 10000000000000) (hz : ShotAt H z) (name : ByteArray) (hname : name.size < 1000000)
    {cv : Value} (hcv : Row H 86 2 cv 1 oneCol) :
    ACalls Try.prog w0 12 #[ptr bk, ptr l, .agg #[.int .u64 (z.own : Int), .int .u64 (z.xmin : Int), .int .u64 (z.xmax : Int), z.v], .string name, cv] H fun r H' => Out H H' ∧ (∀ b o, tyAt H b ≠ some 73 → tyAt H b ≠ some 79 → H b = some o → H' b = some o) ∧
      (createC sts z ts xs name ≠ 0 ∧ r = .tuple #[.int .u64 0, .int .i64 (createC sts z ts xs name : Nat)] ∧ BookAt H' bk ts xs last ∨
       createC sts z ts xs name = 0 ∧ r = .tuple #[.int .u64 ((last + 1 : Nat) : Int), .int .i64 0] ∧ ∃ t : Tb, t.e = ⟨last + 1, name, z.own, 0⟩ ∧ H t.b = none ∧ BookAt H' bk (ts ++ [t]) xs (last + 1)) := by
  refine acalls_of Try.func12 rfl Try.ntmps12 r12 (by simp) ?_
  simp -implicitDefEqProofs only [go_sem, Nat.reduceEqDiff, Nat.reduceLT, Nat.reduceAdd, Nat.reduceMul, Int.reduceEq, Int.reduceLT, Int.reduceLE, Int.reduceNe, Int.reduceBEq, Int.reduceToNat, ↓reduceIte]
  refine newK_of ?_
  intro b7 H1 hb7 hn7 h7 s1 g1
  have l7 := ldc w0 h7 4
  have h' := h.sub s1
  have hl' := hl.keep (H' := H1) fun b o _ hb => s1 b o hb
  have hz' := hz.sub s1
  have hcv' := hcv.keep (H' := H1) fun b o _ hb => s1 b o hb
  simp -implicitDefEqProofs only [go_sem, Nat.reduceEqDiff, Nat.reduceLT, Nat.reduceAdd, Nat.reduceMul, Int.reduceEq, Int.reduceLT, Int.reduceLE, Int.reduceNe, Int.reduceBEq, Int.reduceToNat, ↓reduceIte]
  refine (name_ok w0 H1 name hname).mono ?_
  rintro rr H2 ⟨rfl, rfl⟩
  cases hnb : nameB name
  · have hcc : createC sts z ts xs name = 3 := by unfold createC; rw [if_pos hnb]
    simp -implicitDefEqProofs only [go_sem, Nat.reduceEqDiff, Nat.reduceLT, Nat.reduceAdd, Nat.reduceMul, Int.reduceEq, Int.reduceLT, Int.reduceLE, Int.reduceNe, Int.reduceBEq, Int.reduceToNat, ↓reduceIte]
    exact ⟨Out.sub s1, fun b o _ _ hb => s1 b o hb, .inl ⟨by omega, by rw [hcc]; rfl, h'⟩⟩
  · simp -implicitDefEqProofs only [go_sem, Nat.reduceEqDiff, Nat.reduceLT, Nat.reduceAdd, Nat.reduceMul, Int.reduceEq, Int.reduceLT, Int.reduceLE, Int.reduceNe, Int.reduceBEq, Int.reduceToNat, ↓reduceIte]
    refine (right_one hcv').mono ?_
    rintro rr H2' ⟨rfl, rfl⟩
    simp -implicitDefEqProofs only [go_sem, Nat.reduceEqDiff, Nat.reduceLT, Nat.reduceAdd, Nat.reduceMul, Int.reduceEq, Int.reduceLT, Int.reduceLE, Int.reduceNe, Int.reduceBEq, Int.reduceToNat, ↓reduceIte, l7, ldK_agg]
    refine (taken_ok h' hn hnx hl' hb hz' name).mono ?_
    rintro rr H3 ⟨rfl, rfl⟩
    by_cases ct : takenC sts z ts xs name = 0
    · have e1 : decide (((takenC sts z ts xs name : Nat) : Int) = 0) = true := by rw [dec_zero]; simp [ct]
      have h'' := h'
      obtain ⟨tv, iv, h1, h2, h3, h4, h5⟩ := h'
      have lb := ld_own w0 h1
      obtain ⟨ta, tc, htv⟩ := h2.slice
      by_cases c16 : 16 ≤ ts.length
      · have e2 : decide ((16 : Int) ≤ (ts.length : Int)) = true := by simp; omega
        have hcc : createC sts z ts xs name = 12 := by unfold createC; rw [if_neg (by rw [hnb]; simp), if_neg (by simp [ct]), if_pos c16]
        simp -implicitDefEqProofs only [go_sem, Nat.reduceEqDiff, Nat.reduceLT, Nat.reduceAdd, Nat.reduceMul, Int.reduceEq, Int.reduceLT, Int.reduceLE, Int.reduceNe, Int.reduceBEq, Int.reduceToNat, ↓reduceIte, e1, lb, htv, e2, List.length_map]
        exact ⟨Out.sub s1, fun b o _ _ hb => s1 b o hb, .inl ⟨by omega, by rw [hcc]; rfl, h''⟩⟩
      · have e2 : decide ((16 : Int) ≤ (ts.length : Int)) = false := by rw [decide_eq_false_iff_not]; omega
        have hcc : createC sts z ts xs name = 0 := by unfold createC; rw [if_neg (by rw [hnb]; simp), if_neg (by simp [ct]), if_neg c16]
        simp -implicitDefEqProofs only [go_sem, Nat.reduceEqDiff, Nat.reduceLT, Nat.reduceAdd, Nat.reduceMul, Int.reduceEq, Int.reduceLT, Int.reduceLE, Int.reduceNe, Int.reduceBEq, Int.reduceToNat, ↓reduceIte, e1, lb, htv, e2, l7, ldK_agg, List.length_map]
        refine (fresh_ok h'' hlast name hz.cell).mono ?_
        rintro rr H4 ⟨rfl, hb4, k4⟩
        have hcv4 := hcv'.keep (H' := H4) fun b o hb ho => k4 b o (fun e => by have := Row.tyAt hcv' hb; rw [e, tyAt_of h1] at this; cases this) ho
        simp -implicitDefEqProofs only [go_sem, Nat.reduceEqDiff, Nat.reduceLT, Nat.reduceAdd, Nat.reduceMul, Int.reduceEq, Int.reduceLT, Int.reduceLE, Int.reduceNe, Int.reduceBEq, Int.reduceToNat, ↓reduceIte]
        refine (clone_cols hcv4).mono ?_
        rintro v5 H5 ⟨hr5, hf5, s5⟩
        obtain ⟨va, vc, hv5⟩ := hr5.slice
        have bd : bdCells Try.prog 88 #[(0, .agg #[.int .u64 ((last + 1 : Nat) : Int), .string name, .int .u64 (z.own : Int), .int .u64 0]), (1, v5)] = some #[.int .u64 ((last + 1 : Nat) : Int), .string name, .int .u64 (z.own : Int), .int .u64 0, v5] := by rw [hv5]; kernel_rfl
        simp -implicitDefEqProofs only [go_sem, Nat.reduceEqDiff, Nat.reduceLT, Nat.reduceAdd, Nat.reduceMul, Int.reduceEq, Int.reduceLT, Int.reduceLE, Int.reduceNe, Int.reduceBEq, Int.reduceToNat, ↓reduceIte, bd]
        refine newK_of ?_
        intro b13 H6 hb13 hn13 h13 s6 g6
        have hb6 := (hb4.sub s5).sub s6
        obtain ⟨tv6, iv6, q1, q2, q3, q4, q5⟩ := hb6
        have lb6 := ld_own w0 q1
        have bs1 : bsCells Try.prog 79 1 #[(0, ptr b13)] = some #[ptr b13] := by kernel_rfl
        simp -implicitDefEqProofs only [go_sem, Nat.reduceEqDiff, Nat.reduceLT, Nat.reduceAdd, Nat.reduceMul, Int.reduceEq, Int.reduceLT, Int.reduceLE, Int.reduceNe, Int.reduceBEq, Int.reduceToNat, ↓reduceIte, lb6, bs1]
        refine newK_of ?_
        intro nb H7 hnb hnn h7b s7 g7
        simp -implicitDefEqProofs only [go_sem, Nat.reduceEqDiff, Nat.reduceLT, Nat.reduceAdd, Nat.reduceMul, Int.reduceEq, Int.reduceLT, Int.reduceLE, Int.reduceNe, Int.reduceBEq, Int.reduceToNat, ↓reduceIte]
        have q2' := q2.keep (H' := H7) fun b o _ hb => s7 b o hb
        refine aop_append_lit (t := 70) (x := .tmp 52) (y := .tmp 54) (c := 1) Try.underlying70 s79 b79 z79 rfl (v := tv6) (by simp -implicitDefEqProofs only [go_sem, Nat.reduceEqDiff, Nat.reduceLT, Nat.reduceAdd, Nat.reduceMul, Int.reduceEq, Int.reduceLT, Int.reduceLE, Int.reduceNe, Int.reduceBEq, Int.reduceToNat, ↓reduceIte]) q2' h7b (by simp -implicitDefEqProofs only [go_sem, Nat.reduceEqDiff, Nat.reduceLT, Nat.reduceAdd, Nat.reduceMul, Int.reduceEq, Int.reduceLT, Int.reduceLE, Int.reduceNe, Int.reduceBEq, Int.reduceToNat, ↓reduceIte]) rfl (by simp [cell1_ptr]) (by omega) (by omega) (by omega) ?_
        intro g8 H8 hg8 hH8 cap8 hrow8
        have k8 : ∀ b o, tyAt H6 b ≠ some 79 → H6 b = some o → H8 b = some o := by
          intro b o ht ho
          have : b ≠ g8 := by
            rintro rfl
            rcases hg8 with e | ⟨e, _⟩
            · exact ht (Row.tyAt q2 e.symm)
            · rw [s7 _ _ ho] at e; cases e
          rw [hH8 b this]; exact s7 b o ho
        have hk8 := k8 _ _ (by rw [tyAt_of q1]; decide) q1
        have hw8 := wr_own hk8 0 (by simp)
        have n13 : b13 ≠ bk := fun e => by rw [e] at h13; rw [q1] at h13; simp at h13
        have h138 := k8 _ _ (by rw [tyAt_of h13]; decide) h13
        simp -implicitDefEqProofs only [go_sem, Nat.reduceEqDiff, Nat.reduceLT, Nat.reduceAdd, Nat.reduceMul, Int.reduceEq, Int.reduceLT, Int.reduceLE, Int.reduceNe, Int.reduceBEq, Int.reduceToNat, ↓reduceIte, hw8]
        have h9k := Hp.set_same H8 bk (.cells #[.slice (some ⟨g8, 0, none⟩) (ts.length + 1) cap8, iv6, .int .u64 ((last + 1 : Nat) : Int)] 73 (0, 0))
        have g9 : ∀ i, i ≠ bk → (H8.set bk (.cells #[.slice (some ⟨g8, 0, none⟩) (ts.length + 1) cap8, iv6, .int .u64 ((last + 1 : Nat) : Int)] 73 (0, 0))) i = H8 i := fun i hi => Hp.set_ne _ _ _ _ hi
        generalize H8.set bk (.cells #[.slice (some ⟨g8, 0, none⟩) (ts.length + 1) cap8, iv6, .int .u64 ((last + 1 : Nat) : Int)] 73 (0, 0)) = H9 at *
        have h139 := (g9 b13 n13).trans h138
        have l13 := ld_own w0 h139
        simp -implicitDefEqProofs only [go_sem, Nat.reduceEqDiff, Nat.reduceLT, Nat.reduceAdd, Nat.reduceMul, Int.reduceEq, Int.reduceLT, Int.reduceLE, Int.reduceNe, Int.reduceBEq, Int.reduceToNat, ↓reduceIte, l13]
        have k9 : ∀ b o, tyAt H6 b ≠ some 79 → tyAt H6 b ≠ some 73 → H6 b = some o → H9 b = some o := fun b o t1 t2 ho => by
          rw [g9 b (fun e => t2 (by rw [e, tyAt_of q1]))]; exact k8 b o t1 ho
        have hk0 : tyAt H bk = some 73 := by obtain ⟨_, _, w1, _⟩ := h; exact tyAt_of w1
        have ty6 : ∀ b o, H b = some o → tyAt H b ≠ some 73 → tyAt H6 b = tyAt H b ∧ H6 b = some o := fun b o ho t1 => by
          have a2 := s6 _ _ (s5 _ _ (k4 b o (fun e => t1 (by rw [e]; exact hk0)) (s1 _ _ ho)))
          exact ⟨by unfold tyAt; rw [a2, ho], a2⟩
        have kk : ∀ b o, tyAt H b ≠ some 73 → tyAt H b ≠ some 79 → H b = some o → H9 b = some o := fun b o t1 t2 ho => by
          obtain ⟨a1, a2⟩ := ty6 b o ho t1
          exact k9 b o (by rw [a1]; exact t2) (by rw [a1]; exact t1) a2
        have hn0 : H b13 = none := by
          cases e : H b13 with
          | none => rfl
          | some o => rw [s5 _ _ (k4 b13 o n13 (s1 _ _ e))] at hn13; cases hn13
        refine ⟨fun b o ht ho => kk b o (fun e => by rw [e] at ht; cases ht) (fun e => by rw [e] at ht; cases ht) ho, kk, .inr ⟨hcc, ⟨⟨last + 1, name, z.own, 0⟩, b13, v5⟩, rfl, hn0, ?_⟩⟩
        · have kr : ∀ {e sz v n xs}, Row H6 e sz v n xs → e ≠ 79 → e ≠ 73 → Row H9 e sz v n xs := fun hr t1 t2 => hr.keep fun b o hb ho => k9 b o (by rw [Row.tyAt hr hb]; exact fun c => t1 (Option.some.inj c)) (by rw [Row.tyAt hr hb]; exact fun c => t2 (Option.some.inj c)) ho
          refine ⟨_, iv6, h9k, ?_, kr q3 (by decide) (by decide), fun t ht => ?_, fun x hx => k9 _ _ (by rw [tyAt_of (q5 x hx)]; decide) (by rw [tyAt_of (q5 x hx)]; decide) (q5 x hx)⟩
          · rw [List.length_append, List.length_singleton, List.map_append, List.map_cons, List.map_nil]
            exact hrow8.keep fun b o hb ho => by rw [g9 b (fun e => by have := Row.tyAt hrow8 hb; rw [e, tyAt_of hk8] at this; cases this)]; exact ho
          · simp only [List.mem_append, List.mem_singleton] at ht
            rcases ht with ht | rfl
            · obtain ⟨u1, u2⟩ := q4 t ht
              exact ⟨k9 _ _ (by rw [tyAt_of u1]; decide) (by rw [tyAt_of u1]; decide) u1, kr u2 (by decide) (by decide)⟩
            · exact ⟨h139, kr (hr5.keep fun b o _ hb => s6 b o hb) (by decide) (by decide)⟩
    · have e1 : decide (((takenC sts z ts xs name : Nat) : Int) = 0) = false := by rw [dec_zero]; simp [ct]
      have hcc : createC sts z ts xs name = takenC sts z ts xs name := by unfold createC; rw [if_neg (by rw [hnb]; simp), if_pos ct]
      simp -implicitDefEqProofs only [go_sem, Nat.reduceEqDiff, Nat.reduceLT, Nat.reduceAdd, Nat.reduceMul, Int.reduceEq, Int.reduceLT, Int.reduceLE, Int.reduceNe, Int.reduceBEq, Int.reduceToNat, ↓reduceIte, e1]
      exact ⟨Out.sub s1, fun b o _ _ hb => s1 b o hb, .inl ⟨by rw [hcc]; exact ct, by rw [hcc], h'⟩⟩
end
end Go.Proofs.Ytcpeiejabbdeiaa
