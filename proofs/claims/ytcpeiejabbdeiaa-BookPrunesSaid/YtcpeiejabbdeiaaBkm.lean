/-
  Package book: its memory, and what only reads it.
  Conditions: as each theorem states them.
-/
import Derived.Test.YtcpeiejabbdeiaaNam
namespace Go.Proofs.Ytcpeiejabbdeiaa
open Go Go.RowKit Go.Proofs.YtcpeiejabbdeiaaW
set_option maxRecDepth 100000
set_option linter.unusedSimpArgs false
set_option linter.unusedVariables false

theorem row_at1 {w0 : World} {H : Hp} {e : Nat} {v : Value} {n : Nat} {xs : List Value} (h : Row H e 1 v n xs) {k : Nat} {y : Value} (hy : xs[k]? = some y) : ∃ g cap, v = .slice (some ⟨g, 0, none⟩) n cap ∧ ld w0 H ⟨g, k, none⟩ = some y := by
  have hk : k < xs.length := by
    rcases Nat.lt_or_ge k xs.length with h | h
    · exact h
    · rw [List.getElem?_eq_none h] at hy; cases hy
  have hn : k < n := by rw [h.1] at hk; omega
  obtain ⟨g, cap, cur, hv, hg, hc1, hc2, hc3, hc4⟩ := h.open1 (by omega)
  exact ⟨g, cap, hv, by rw [ld_own w0 hg, hc3 _ hn]; exact hy⟩

/-! ### Snapshots -/
def ShotAt (H : Hp) (z : Shot) : Prop := Row H 27 1 z.v z.run.length (u64s z.run) ∧ z.run.length < 10000000000000
theorem ShotAt.sub {H H' : Hp} {z : Shot} (h : ShotAt H z) (hs : Sub H H') : ShotAt H' z := ⟨h.1.keep fun b o _ hb => hs b o hb, h.2⟩
theorem ShotAt.cell {H : Hp} {z : Shot} (h : ShotAt H z) : cell1 z.v = true := by obtain ⟨u1, u2, u⟩ := h.1.slice; rw [u]; exact cell1_slice

/-! ### Entries -/
structure En where
  id : Nat
  name : ByteArray
  xmin : Nat
  xmax : Nat
structure Tb where
  e : En
  b : Nat
  cv : Value
structure Ix where
  e : En
  b : Nat
  tab : Nat
  col : Nat
def Tb.cells (t : Tb) : List Value := [.int .u64 (t.e.id : Int), .string t.e.name, .int .u64 (t.e.xmin : Int), .int .u64 (t.e.xmax : Int), t.cv]
def Ix.cells (x : Ix) : List Value := [.int .u64 (x.e.id : Int), .string x.e.name, .int .u64 (x.e.xmin : Int), .int .u64 (x.e.xmax : Int), .int .u64 (x.tab : Int), .int .i64 (x.col : Int)]
def oneCol : List Value := [.string ⟨#[97]⟩, .int .u8 1]
def visE (sts : List Nat) (z : Shot) (e : En) : Bool := visB 1 sts z.own z.xmax z.run e.xmin e.xmax
def aliveE (sts : List Nat) (e : En) : Bool := decide (¬ stOf 1 sts (e.xmin : Int) = 3) && decide (¬ stOf 1 sts (e.xmax : Int) = 2)
def deadE (sts : List Nat) (h : Nat) (e : En) : Bool := deadB 1 sts e.xmin e.xmax h
/-- An entry's cells at a block. -/
def EnAt (w0 : World) (H : Hp) (b : Nat) (e : En) : Prop :=
  ld w0 H ⟨b, 0, none⟩ = some (.int .u64 (e.id : Int)) ∧ ld w0 H ⟨b, 1, none⟩ = some (.string e.name) ∧ ld w0 H ⟨b, 2, none⟩ = some (.int .u64 (e.xmin : Int)) ∧ ld w0 H ⟨b, 3, none⟩ = some (.int .u64 (e.xmax : Int)) ∧ ∃ o, H b = some o
theorem EnAt.sub {w0 : World} {H H' : Hp} {b : Nat} {e : En} (h : EnAt w0 H b e) (hs : Sub H H') : EnAt w0 H' b e := by
  obtain ⟨h1, h2, h3, h4, o, h5⟩ := h
  have q : ∀ i, ld w0 H' ⟨b, i, none⟩ = ld w0 H ⟨b, i, none⟩ := fun i => by unfold ld; simp only []; rw [hs b o h5, h5]
  exact ⟨by rw [q]; exact h1, by rw [q]; exact h2, by rw [q]; exact h3, by rw [q]; exact h4, o, hs b o h5⟩
theorem Tb.en {w0 : World} {H : Hp} {t : Tb} (h : H t.b = some (.cells t.cells.toArray 88 (0, 0))) : EnAt w0 H t.b t.e := by
  have q := ld_own w0 h
  exact ⟨by rw [q]; rfl, by rw [q]; rfl, by rw [q]; rfl, by rw [q]; rfl, _, h⟩
theorem Ix.en {w0 : World} {H : Hp} {x : Ix} (h : H x.b = some (.cells x.cells.toArray 94 (0, 0))) : EnAt w0 H x.b x.e := by
  have q := ld_own w0 h
  exact ⟨by rw [q]; rfl, by rw [q]; rfl, by rw [q]; rfl, by rw [q]; rfl, _, h⟩

theorem ent_tuple {w0 : World} {H : Hp} {b : Nat} {e : En} (h : EnAt w0 H b e) : ACalls Try.prog w0 53 #[ptr b] H fun r H' => r = .agg #[.int .u64 0, .int .u64 (e.xmin : Int), .int .u64 (e.xmax : Int), .int .i64 0, .int .i64 0, .slice none 0 0] ∧ H' = H := by
  refine ACalls.quiet ?_
  have bd : bdCells Try.prog 119 #[(1, .int .u64 (e.xmin : Int)), (2, .int .u64 (e.xmax : Int))] = some #[.int .u64 0, .int .u64 (e.xmin : Int), .int .u64 (e.xmax : Int), .int .i64 0, .int .i64 0, .slice none 0 0] := by kernel_rfl
  refine acalls_of Try.func53 rfl Try.ntmps53 r53 (by simp) ?_
  simp -implicitDefEqProofs only [go_sem, Nat.reduceEqDiff, Nat.reduceLT, Nat.reduceAdd, Nat.reduceMul, Int.reduceEq, Int.reduceLT, Int.reduceLE, Int.reduceNe, Int.reduceBEq, Int.reduceToNat, ↓reduceIte]
  refine newK_of ?_
  intro b4 H1 hb4 hn4 h4 s1 g1
  obtain ⟨_, _, l2, l3, _⟩ := h.sub s1
  simp -implicitDefEqProofs only [go_sem, Nat.reduceEqDiff, Nat.reduceLT, Nat.reduceAdd, Nat.reduceMul, Int.reduceEq, Int.reduceLT, Int.reduceLE, Int.reduceNe, Int.reduceBEq, Int.reduceToNat, ↓reduceIte]
  refine vdraw_t [⟨0, .p, [], []⟩, ⟨1, .p, [], []⟩, ⟨2, .p, [], []⟩, ⟨3, .n, [], []⟩, ⟨4, .p, [], []⟩, ⟨5, .p, [], []⟩, ⟨6, .p, [], []⟩, ⟨7, .n, [], []⟩, ⟨8, .p, [], []⟩, ⟨9, .c, [], []⟩] [0, 1, 3, 7, 0, 16, 48, 112, 255, 511] mixed (by kernel_rfl) ?_
  simp -implicitDefEqProofs only [go_sem, Nat.reduceEqDiff, Nat.reduceLT, Nat.reduceAdd, Nat.reduceMul, Int.reduceEq, Int.reduceLT, Int.reduceLE, Int.reduceNe, Int.reduceBEq, Int.reduceToNat, ↓reduceIte, bd, l2, l3]
  refine store_all h4 rfl (by simp [cell1_int, cell1_slice]) rfl ?_
  intro H2 h2 g2
  have l4 := ldc w0 h2 6
  simp -implicitDefEqProofs only [go_sem, Nat.reduceEqDiff, Nat.reduceLT, Nat.reduceAdd, Nat.reduceMul, Int.reduceEq, Int.reduceLT, Int.reduceLE, Int.reduceNe, Int.reduceBEq, Int.reduceToNat, ↓reduceIte, l4, ldK_agg]
  exact Sub.ne2 hn4 g1 g2
section
variable {w0 : World} {H : Hp} {l : Nat} {S : Nat → Prop} {sts : List Nat} {z : Shot}
theorem ent_vis {b : Nat} {e : En} (h : EnAt w0 H b e) (hl : LogAt H l S 1 sts) (hb : 1 + sts.length < 10000000000000) (hz : ShotAt H z) :
    ACalls Try.prog w0 48 #[ptr b, ptr l, .agg #[.int .u64 (z.own : Int), .int .u64 (z.xmin : Int), .int .u64 (z.xmax : Int), z.v]] H fun r H' => r = .bool (visE sts z e) ∧ H' = H := by
  refine ACalls.quiet ?_
  refine acalls_of Try.func48 rfl Try.ntmps48 r48 (by simp) ?_
  simp -implicitDefEqProofs only [go_sem, Nat.reduceEqDiff, Nat.reduceLT, Nat.reduceAdd, Nat.reduceMul, Int.reduceEq, Int.reduceLT, Int.reduceLE, Int.reduceNe, Int.reduceBEq, Int.reduceToNat, ↓reduceIte]
  refine newK_of ?_
  intro b5 H1 hb5 hn5 h5 s1 _
  have l5 := ldc w0 h5 4
  simp -implicitDefEqProofs only [go_sem, Nat.reduceEqDiff, Nat.reduceLT, Nat.reduceAdd, Nat.reduceMul, Int.reduceEq, Int.reduceLT, Int.reduceLE, Int.reduceNe, Int.reduceBEq, Int.reduceToNat, ↓reduceIte]
  refine vdraw_t [⟨0, .p, [], []⟩, ⟨1, .n, [], []⟩, ⟨2, .p, [], []⟩, ⟨3, .c, [1], []⟩, ⟨4, .c, [], []⟩, ⟨5, .p, [], []⟩] [0, 0, 0, 4, 15, 31] mixed (by kernel_rfl) ?_
  simp -implicitDefEqProofs only [go_sem, Nat.reduceEqDiff, Nat.reduceLT, Nat.reduceAdd, Nat.reduceMul, Int.reduceEq, Int.reduceLT, Int.reduceLE, Int.reduceNe, Int.reduceBEq, Int.reduceToNat, ↓reduceIte, l5, ldK_agg]
  refine (ent_tuple (h.sub s1)).mono ?_
  rintro r H2 ⟨rfl, rfl⟩
  simp -implicitDefEqProofs only [go_sem, Nat.reduceEqDiff, Nat.reduceLT, Nat.reduceAdd, Nat.reduceMul, Int.reduceEq, Int.reduceLT, Int.reduceLE, Int.reduceNe, Int.reduceBEq, Int.reduceToNat, ↓reduceIte, l5, ldK_agg]
  refine (vis_log (hl.keep fun b o _ hb => s1 b o hb) (by omega) (hz.sub s1).1 hz.2 e.xmin e.xmax).mono ?_
  rintro r H3 ⟨rfl, rfl⟩
  simp -implicitDefEqProofs only [go_sem, Nat.reduceEqDiff, Nat.reduceLT, Nat.reduceAdd, Nat.reduceMul, Int.reduceEq, Int.reduceLT, Int.reduceLE, Int.reduceNe, Int.reduceBEq, Int.reduceToNat, ↓reduceIte]
  exact ⟨rfl, s1⟩
theorem ent_alive {b : Nat} {e : En} (h : EnAt w0 H b e) (hl : LogAt H l S 1 sts) (hb : 1 + sts.length < 10000000000000) :
    ACalls Try.prog w0 49 #[ptr b, ptr l] H fun r H' => r = .bool (aliveE sts e) ∧ H' = H := by
  refine acalls_of Try.func49 rfl Try.ntmps49 r49 (by simp) ?_
  obtain ⟨_, _, l2, l3, _⟩ := h
  simp -implicitDefEqProofs only [go_sem, Nat.reduceEqDiff, Nat.reduceLT, Nat.reduceAdd, Nat.reduceMul, Int.reduceEq, Int.reduceLT, Int.reduceLE, Int.reduceNe, Int.reduceBEq, Int.reduceToNat, ↓reduceIte, l2]
  refine (state_log hl (by omega) (x := (e.xmin : Int)) (by omega)).mono ?_
  rintro r H2 ⟨rfl, rfl⟩
  unfold aliveE
  by_cases c : stOf 1 sts (e.xmin : Int) = 3
  · have e1 : decide (((stOf 1 sts (e.xmin : Int) : Nat) : Int) = 3) = true := by rw [dec_three]; simp [c]
    have e2 : decide (¬ stOf 1 sts (e.xmin : Int) = 3) = false := by simp [c]
    simp -implicitDefEqProofs only [go_sem, Nat.reduceEqDiff, Nat.reduceLT, Nat.reduceAdd, Nat.reduceMul, Int.reduceEq, Int.reduceLT, Int.reduceLE, Int.reduceNe, Int.reduceBEq, Int.reduceToNat, ↓reduceIte, l2, l3, e1, e2]
  · have e1 : decide (((stOf 1 sts (e.xmin : Int) : Nat) : Int) = 3) = false := by rw [dec_three]; simp [c]
    have e2 : decide (¬ stOf 1 sts (e.xmin : Int) = 3) = true := by simp [c]
    simp -implicitDefEqProofs only [go_sem, Nat.reduceEqDiff, Nat.reduceLT, Nat.reduceAdd, Nat.reduceMul, Int.reduceEq, Int.reduceLT, Int.reduceLE, Int.reduceNe, Int.reduceBEq, Int.reduceToNat, ↓reduceIte, l2, l3, e1, e2]
    refine (state_log hl (by omega) (x := (e.xmax : Int)) (by omega)).mono ?_
    rintro r H2 ⟨rfl, rfl⟩
    have e3 : (!decide (((stOf 1 sts (e.xmax : Int) : Nat) : Int) = 2)) = decide (¬ stOf 1 sts (e.xmax : Int) = 2) := by rw [dec_two]; simp
    simp -implicitDefEqProofs only [go_sem, Nat.reduceEqDiff, Nat.reduceLT, Nat.reduceAdd, Nat.reduceMul, Int.reduceEq, Int.reduceLT, Int.reduceLE, Int.reduceNe, Int.reduceBEq, Int.reduceToNat, ↓reduceIte, l2, l3, e1, e2, e3]

/-! ### The book -/
def BookAt (H : Hp) (bk : Nat) (ts : List Tb) (xs : List Ix) (last : Nat) : Prop :=
  ∃ tv iv, H bk = some (.cells #[tv, iv, .int .u64 (last : Int)] 73 (0, 0)) ∧ Row H 79 1 tv ts.length (ts.map fun t => ptr t.b) ∧ Row H 92 1 iv xs.length (xs.map fun x => ptr x.b) ∧
    (∀ t ∈ ts, H t.b = some (.cells t.cells.toArray 88 (0, 0)) ∧ Row H 86 2 t.cv 1 oneCol) ∧ (∀ x ∈ xs, H x.b = some (.cells x.cells.toArray 94 (0, 0)))
def bookTy (o : Option Nat) : Bool := o == some 73 || o == some 79 || o == some 92 || o == some 88 || o == some 94 || o == some 86
theorem BookAt.keep {H H' : Hp} {bk : Nat} {ts : List Tb} {xs : List Ix} {last : Nat} (h : BookAt H bk ts xs last) (hk : ∀ b o, bookTy (tyAt H b) = true → H b = some o → H' b = some o) : BookAt H' bk ts xs last := by
  obtain ⟨tv, iv, h1, h2, h3, h4, h5⟩ := h
  refine ⟨tv, iv, hk _ _ (by rw [tyAt_of h1]; rfl) h1, h2.keep fun b o hb ho => hk b o (by rw [Row.tyAt h2 hb]; rfl) ho, h3.keep fun b o hb ho => hk b o (by rw [Row.tyAt h3 hb]; rfl) ho, fun t ht => ?_, fun x hx => hk _ _ (by rw [tyAt_of (h5 x hx)]; rfl) (h5 x hx)⟩
  obtain ⟨q1, q2⟩ := h4 t ht
  exact ⟨hk _ _ (by rw [tyAt_of q1]; rfl) q1, q2.keep fun b o hb ho => hk b o (by rw [Row.tyAt q2 hb]; rfl) ho⟩
theorem BookAt.sub {H H' : Hp} {bk : Nat} {ts : List Tb} {xs : List Ix} {last : Nat} (h : BookAt H bk ts xs last) (hs : Sub H H') : BookAt H' bk ts xs last := h.keep fun b o _ hb => hs b o hb

def ofB (ts : List Tb) (id : Nat) : Option Tb := ts.find? fun t => decide (t.e.id = id)
def optPtr : Option Tb → Value
  | some t => ptr t.b
  | none => .pointer none
def OfI (H : Hp) (ts : List Tb) (x : Ix) (tv : Value) (m : Nat) (F : Fr) (H1 : Hp) : Prop :=
  ∃ k, k + m = ts.length ∧ F 1 = ptr x.b ∧ F 10 = tv ∧ F 11 = .int .i64 (ts.length : Int) ∧ F 12 = .int .i64 (k : Int) ∧ H1 = H ∧ ∀ i t, i < k → ts[i]? = some t → t.e.id ≠ x.tab
theorem find_none {α : Type} {p : α → Bool} {l : List α} (h : ∀ i t, i < l.length → l[i]? = some t → p t = false) : l.find? p = none := by
  rw [List.find?_eq_none]
  intro x hx
  obtain ⟨i, hi, he⟩ := List.mem_iff_getElem.1 hx
  simpa using h i x hi (by rw [List.getElem?_eq_getElem hi, he])
theorem find_some {α : Type} {p : α → Bool} {l : List α} {k : Nat} {y : α} (h : ∀ i t, i < k → l[i]? = some t → p t = false) (hk : l[k]? = some y) (hy : p y = true) : l.find? p = some y := by
  induction l generalizing k with
  | nil => simp at hk
  | cons a l ih =>
    cases k with
    | zero =>
      simp only [List.getElem?_cons_zero, Option.some.injEq] at hk
      subst hk
      rw [List.find?_cons_of_pos hy]
    | succ k =>
      rw [List.find?_cons_of_neg (by simpa using h 0 a (by omega) rfl)]
      simp only [List.getElem?_cons_succ] at hk
      exact ih (fun i t hi ht => h (i + 1) t (by omega) (by rw [List.getElem?_cons_succ]; exact ht)) hk
theorem of_ok {bk : Nat} {ts : List Tb} {xs : List Ix} {last : Nat} (h : BookAt H bk ts xs last) (hn : ts.length < 1000000) {x : Ix} (hx : H x.b = some (.cells x.cells.toArray 94 (0, 0))) :
    ACalls Try.prog w0 51 #[ptr bk, ptr x.b] H fun r H' => r = optPtr (ofB ts x.tab) ∧ H' = H := by
  obtain ⟨tv, iv, h1, h2, h3, h4, h5⟩ := h
  have lb := ld_own w0 h1
  have lx := ld_own w0 hx
  obtain ⟨ta, tc, htv⟩ := h2.slice
  refine acalls_of Try.func51 rfl Try.ntmps51 r51 (by simp) ?_
  simp -implicitDefEqProofs only [go_sem, Nat.reduceEqDiff, Nat.reduceLT, Nat.reduceAdd, Nat.reduceMul, Int.reduceEq, Int.reduceLT, Int.reduceLE, Int.reduceNe, Int.reduceBEq, Int.reduceToNat, ↓reduceIte, lb, htv]
  refine AC.loop (OfI H ts x tv) (n := ts.length) ⟨0, by omega, rfl, by simp -implicitDefEqProofs only [go_sem, Nat.reduceEqDiff, Nat.reduceLT, Nat.reduceAdd, Nat.reduceMul, Int.reduceEq, Int.reduceLT, Int.reduceLE, Int.reduceNe, Int.reduceBEq, Int.reduceToNat, ↓reduceIte, htv], by simp -implicitDefEqProofs only [go_sem, Nat.reduceEqDiff, Nat.reduceLT, Nat.reduceAdd, Nat.reduceMul, Int.reduceEq, Int.reduceLT, Int.reduceLE, Int.reduceNe, Int.reduceBEq, Int.reduceToNat, ↓reduceIte, List.length_map], rfl, rfl, fun i t hi => by omega⟩ ?_
  rintro m F H1 ⟨k, hk, f1, f10, f11, f12, rfl, hno⟩
  by_cases c : k < ts.length
  · have d1 : decide ((k : Int) < (ts.length : Int)) = true := by simp; omega
    have d2 : IntKind.i64.wrap ((k : Int) + 1) = (k + 1 : Nat) := by rw [i64_in] <;> omega
    have d3 : decide ((0 : Int) ≤ (k : Int)) = true := by simp
    have hz : ts[k]? = some ts[k] := by simp [c]
    generalize ts[k] = t at hz
    obtain ⟨g, cap, hv, hl⟩ := row_at1 (w0 := w0) h2 (k := k) (y := ptr t.b) (by rw [List.getElem?_map, hz]; rfl)
    obtain ⟨l0, _⟩ := Tb.en (w0 := w0) (h4 t (List.mem_of_getElem? hz)).1
    have lxt : x.cells.toArray[4]? = some (.int .u64 (x.tab : Int)) := rfl
    rw [hv] at f10
    simp -implicitDefEqProofs only [go_sem, Nat.reduceEqDiff, Nat.reduceLT, Nat.reduceAdd, Nat.reduceMul, Int.reduceEq, Int.reduceLT, Int.reduceLE, Int.reduceNe, Int.reduceBEq, Int.reduceToNat, ↓reduceIte, f1, f10, f11, f12, d1, d3, hl]
    refine vdraw_t [⟨0, .p, [], []⟩, ⟨1, .p, [], []⟩, ⟨2, .p, [], []⟩, ⟨3, .p, [], []⟩, ⟨4, .n, [], []⟩, ⟨5, .p, [], []⟩, ⟨6, .p, [], []⟩, ⟨7, .p, [], []⟩, ⟨8, .n, [], []⟩, ⟨9, .p, [], []⟩] [0, 1, 3, 7, 15, 0, 32, 96, 224, 511] mixed (by kernel_rfl) ?_
    by_cases c2 : t.e.id = x.tab
    · have d4 : decide ((t.e.id : Int) = (x.tab : Int)) = true := by rw [dec_nat]; simp [c2]
      simp -implicitDefEqProofs only [go_sem, Nat.reduceEqDiff, Nat.reduceLT, Nat.reduceAdd, Nat.reduceMul, Int.reduceEq, Int.reduceLT, Int.reduceLE, Int.reduceNe, Int.reduceBEq, Int.reduceToNat, ↓reduceIte, f1, f10, f11, f12, l0, lx, lxt, d4]
      unfold ofB
      rw [find_some (p := fun t => decide (t.e.id = x.tab)) (fun i t hi ht => by simpa using hno i t hi ht) hz (by simp [c2])]
      rfl
    · have d4 : decide ((t.e.id : Int) = (x.tab : Int)) = false := by rw [dec_nat]; simp [c2]
      simp -implicitDefEqProofs only [go_sem, Nat.reduceEqDiff, Nat.reduceLT, Nat.reduceAdd, Nat.reduceMul, Int.reduceEq, Int.reduceLT, Int.reduceLE, Int.reduceNe, Int.reduceBEq, Int.reduceToNat, ↓reduceIte, f1, f10, f11, f12, d2, l0, lx, lxt, d4]
      refine ⟨m - 1, by omega, k + 1, by omega, by simp -implicitDefEqProofs only [go_sem, Nat.reduceEqDiff, Nat.reduceLT, Nat.reduceAdd, Nat.reduceMul, Int.reduceEq, Int.reduceLT, Int.reduceLE, Int.reduceNe, Int.reduceBEq, Int.reduceToNat, ↓reduceIte, f1], by simp -implicitDefEqProofs only [go_sem, Nat.reduceEqDiff, Nat.reduceLT, Nat.reduceAdd, Nat.reduceMul, Int.reduceEq, Int.reduceLT, Int.reduceLE, Int.reduceNe, Int.reduceBEq, Int.reduceToNat, ↓reduceIte, f10, hv], by simp -implicitDefEqProofs only [go_sem, Nat.reduceEqDiff, Nat.reduceLT, Nat.reduceAdd, Nat.reduceMul, Int.reduceEq, Int.reduceLT, Int.reduceLE, Int.reduceNe, Int.reduceBEq, Int.reduceToNat, ↓reduceIte, f11], by simp -implicitDefEqProofs only [go_sem, Nat.reduceEqDiff, Nat.reduceLT, Nat.reduceAdd, Nat.reduceMul, Int.reduceEq, Int.reduceLT, Int.reduceLE, Int.reduceNe, Int.reduceBEq, Int.reduceToNat, ↓reduceIte], rfl, fun i t' hi ht => ?_⟩
      by_cases e : i = k
      · rw [e, hz] at ht; cases ht; exact c2
      · exact hno i t' (by omega) ht
  · have d1 : decide ((k : Int) < (ts.length : Int)) = false := by simp; omega
    simp -implicitDefEqProofs only [go_sem, Nat.reduceEqDiff, Nat.reduceLT, Nat.reduceAdd, Nat.reduceMul, Int.reduceEq, Int.reduceLT, Int.reduceLE, Int.reduceNe, Int.reduceBEq, Int.reduceToNat, ↓reduceIte, f1, f10, f11, f12, d1]
    unfold ofB
    rw [find_none (p := fun t : Tb => decide (t.e.id = x.tab)) (fun i t hi ht => by simpa using hno i t (by omega) ht)]
    rfl
end
end Go.Proofs.Ytcpeiejabbdeiaa
