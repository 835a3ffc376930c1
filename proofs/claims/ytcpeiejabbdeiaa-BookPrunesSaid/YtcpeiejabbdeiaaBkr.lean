/-
  Package book: tables and indexes told.
  Conditions: as each theorem states them.
-/
import Derived.Test.YtcpeiejabbdeiaaBkt
namespace Go.Proofs.Ytcpeiejabbdeiaa
open Go Go.RowKit Go.Proofs.YtcpeiejabbdeiaaW
set_option maxRecDepth 100000
set_option linter.unusedSimpArgs false
set_option linter.unusedVariables false

def Ix.told (x : Ix) : List Value := [.int .u64 (x.e.id : Int), .string x.e.name, .int .u64 (x.tab : Int), .int .i64 (x.col : Int), .int .u64 (x.e.xmin : Int), .int .u64 (x.e.xmax : Int)]
theorem told_ix {w0 : World} {H : Hp} {x : Ix} (hx : H x.b = some (.cells x.cells.toArray 94 (0, 0))) :
    ACalls Try.prog w0 36 #[ptr x.b] H fun r H' => r = .agg x.told.toArray ∧ H' = H := by
  refine ACalls.quiet ?_
  have bd : bdCells Try.prog 40 #[(0, .int .u64 (x.e.id : Int)), (1, .string x.e.name), (2, .int .u64 (x.tab : Int)), (3, .int .i64 (x.col : Int)), (4, .int .u64 (x.e.xmin : Int)), (5, .int .u64 (x.e.xmax : Int))] = some #[.int .u64 (x.e.id : Int), .string x.e.name, .int .u64 (x.tab : Int), .int .i64 (x.col : Int), .int .u64 (x.e.xmin : Int), .int .u64 (x.e.xmax : Int)] := by kernel_rfl
  refine acalls_of Try.func36 rfl Try.ntmps36 r36 (by simp) ?_
  simp -implicitDefEqProofs only [go_sem, Nat.reduceEqDiff, Nat.reduceLT, Nat.reduceAdd, Nat.reduceMul, Int.reduceEq, Int.reduceLT, Int.reduceLE, Int.reduceNe, Int.reduceBEq, Int.reduceToNat, ↓reduceIte]
  refine newK_of ?_
  intro b2 H1 hb2 hn2 h2 s1 g1
  have lx := ld_own w0 (s1 _ _ hx)
  have x0 : x.cells.toArray[0]? = some (.int .u64 (x.e.id : Int)) := rfl
  have x1 : x.cells.toArray[1]? = some (.string x.e.name) := rfl
  have x2 : x.cells.toArray[2]? = some (.int .u64 (x.e.xmin : Int)) := rfl
  have x3 : x.cells.toArray[3]? = some (.int .u64 (x.e.xmax : Int)) := rfl
  have x4 : x.cells.toArray[4]? = some (.int .u64 (x.tab : Int)) := rfl
  have x5 : x.cells.toArray[5]? = some (.int .i64 (x.col : Int)) := rfl
  simp -implicitDefEqProofs only [go_sem, Nat.reduceEqDiff, Nat.reduceLT, Nat.reduceAdd, Nat.reduceMul, Int.reduceEq, Int.reduceLT, Int.reduceLE, Int.reduceNe, Int.reduceBEq, Int.reduceToNat, ↓reduceIte]
  refine vdraw_t [⟨0, .p, [], []⟩, ⟨1, .p, [], []⟩, ⟨2, .p, [], []⟩, ⟨3, .p, [], []⟩, ⟨4, .n, [], []⟩, ⟨5, .p, [], []⟩, ⟨6, .p, [], []⟩, ⟨7, .p, [], []⟩, ⟨8, .p, [], []⟩, ⟨9, .n, [], []⟩, ⟨10, .p, [], []⟩, ⟨11, .p, [], []⟩, ⟨12, .p, [], []⟩, ⟨13, .n, [], []⟩, ⟨14, .p, [], []⟩, ⟨15, .p, [], []⟩, ⟨16, .p, [], []⟩, ⟨17, .n, [], []⟩, ⟨18, .p, [], []⟩, ⟨19, .p, [], []⟩, ⟨20, .p, [], []⟩, ⟨21, .p, [], []⟩, ⟨22, .n, [], []⟩, ⟨23, .p, [], []⟩, ⟨24, .p, [], []⟩, ⟨25, .p, [], []⟩, ⟨26, .p, [], []⟩, ⟨27, .n, [], []⟩, ⟨28, .p, [], []⟩, ⟨29, .c, [], []⟩] [0, 1, 3, 7, 15, 0, 32, 96, 224, 480, 0, 1024, 3072, 7168, 0, 16384, 49152, 114688, 0, 262144, 786432, 1835008, 3932160, 0, 8388608, 25165824, 58720256, 125829120, 268435455, 536870911] mixed (by kernel_rfl) ?_
  simp -implicitDefEqProofs only [go_sem, Nat.reduceEqDiff, Nat.reduceLT, Nat.reduceAdd, Nat.reduceMul, Int.reduceEq, Int.reduceLT, Int.reduceLE, Int.reduceNe, Int.reduceBEq, Int.reduceToNat, ↓reduceIte, bd, lx, x0, x1, x2, x3, x4, x5]
  refine store_all h2 rfl (by simp [cell1_int, cell1_string]) rfl ?_
  intro H2 h2' g2
  have l2 := ldc w0 h2' 6
  simp -implicitDefEqProofs only [go_sem, Nat.reduceEqDiff, Nat.reduceLT, Nat.reduceAdd, Nat.reduceMul, Int.reduceEq, Int.reduceLT, Int.reduceLE, Int.reduceNe, Int.reduceBEq, Int.reduceToNat, ↓reduceIte, l2, ldK_agg]
  exact ⟨rfl, Sub.ne2 hn2 g1 g2⟩
theorem told_tb {w0 : World} {H : Hp} {t : Tb} (ht : H t.b = some (.cells t.cells.toArray 88 (0, 0))) (hc : Row H 86 2 t.cv 1 oneCol) :
    ACalls Try.prog w0 37 #[ptr t.b] H fun r H' => (∃ cv, r = .agg #[.int .u64 (t.e.id : Int), .string t.e.name, cv, .int .u64 (t.e.xmin : Int), .int .u64 (t.e.xmax : Int)] ∧ cell1 cv = true) ∧ Sub H H' := by
  refine acalls_of Try.func37 rfl Try.ntmps37 r37 (by simp) ?_
  simp -implicitDefEqProofs only [go_sem, Nat.reduceEqDiff, Nat.reduceLT, Nat.reduceAdd, Nat.reduceMul, Int.reduceEq, Int.reduceLT, Int.reduceLE, Int.reduceNe, Int.reduceBEq, Int.reduceToNat, ↓reduceIte]
  refine newK_of ?_
  intro b2 H1 hb2 hn2 h2 s1 g1
  have lx := ld_own w0 (s1 _ _ ht)
  have x0 : t.cells.toArray[0]? = some (.int .u64 (t.e.id : Int)) := rfl
  have x1 : t.cells.toArray[1]? = some (.string t.e.name) := rfl
  have x2 : t.cells.toArray[2]? = some (.int .u64 (t.e.xmin : Int)) := rfl
  have x3 : t.cells.toArray[3]? = some (.int .u64 (t.e.xmax : Int)) := rfl
  have x4 : t.cells.toArray[4]? = some t.cv := rfl
  simp -implicitDefEqProofs only [go_sem, Nat.reduceEqDiff, Nat.reduceLT, Nat.reduceAdd, Nat.reduceMul, Int.reduceEq, Int.reduceLT, Int.reduceLE, Int.reduceNe, Int.reduceBEq, Int.reduceToNat, ↓reduceIte]
  refine vdraw_t [⟨0, .p, [], []⟩, ⟨1, .p, [], []⟩, ⟨2, .p, [], []⟩, ⟨3, .p, [], []⟩, ⟨4, .n, [], []⟩, ⟨5, .p, [], []⟩, ⟨6, .p, [], []⟩, ⟨7, .p, [], []⟩, ⟨8, .p, [], []⟩, ⟨9, .n, [], []⟩, ⟨10, .p, [], []⟩, ⟨11, .p, [], []⟩, ⟨12, .p, [], []⟩, ⟨13, .n, [], []⟩, ⟨15, .p, [], []⟩, ⟨16, .p, [], []⟩, ⟨17, .p, [], []⟩, ⟨18, .p, [], []⟩, ⟨19, .n, [], []⟩, ⟨20, .p, [], []⟩, ⟨21, .p, [], []⟩, ⟨22, .p, [], []⟩, ⟨23, .p, [], []⟩, ⟨24, .n, [], []⟩, ⟨14, .c, [4, 9, 19, 24], []⟩, ⟨25, .p, [], []⟩, ⟨26, .c, [], []⟩] [0, 1, 3, 7, 15, 0, 32, 96, 224, 480, 0, 1024, 3072, 7168, 15360, 0, 32768, 98304, 229376, 491520, 0, 1048576, 3145728, 7340032, 15728640, 33554431, 67108863] mixed (by kernel_rfl) ?_
  simp -implicitDefEqProofs only [go_sem, Nat.reduceEqDiff, Nat.reduceLT, Nat.reduceAdd, Nat.reduceMul, Int.reduceEq, Int.reduceLT, Int.reduceLE, Int.reduceNe, Int.reduceBEq, Int.reduceToNat, ↓reduceIte, lx, x0, x1, x2, x3, x4]
  refine (clone_cols (hc.keep (H' := H1) fun b o _ hb => s1 b o hb)).mono ?_
  rintro cv H2 ⟨hr, hf, s2⟩
  obtain ⟨ca, cc, hcv⟩ := hr.slice
  have hc1 : cell1 cv = true := by rw [hcv]; exact cell1_slice
  have lx2 := ld_own w0 (s2 _ _ (s1 _ _ ht))
  have bd : bdCells Try.prog 44 #[(0, .int .u64 (t.e.id : Int)), (1, .string t.e.name), (2, cv), (3, .int .u64 (t.e.xmin : Int)), (4, .int .u64 (t.e.xmax : Int))] = some #[.int .u64 (t.e.id : Int), .string t.e.name, cv, .int .u64 (t.e.xmin : Int), .int .u64 (t.e.xmax : Int)] := by rw [hcv]; kernel_rfl
  simp -implicitDefEqProofs only [go_sem, Nat.reduceEqDiff, Nat.reduceLT, Nat.reduceAdd, Nat.reduceMul, Int.reduceEq, Int.reduceLT, Int.reduceLE, Int.reduceNe, Int.reduceBEq, Int.reduceToNat, ↓reduceIte, lx2, x0, x1, x2, x3, x4, bd]
  refine store_all (s2 _ _ h2) rfl (by simp [cell1_int, cell1_string, hc1]) rfl ?_
  intro H3 h3 g3
  have l3 := ldc w0 h3 5
  simp -implicitDefEqProofs only [go_sem, Nat.reduceEqDiff, Nat.reduceLT, Nat.reduceAdd, Nat.reduceMul, Int.reduceEq, Int.reduceLT, Int.reduceLE, Int.reduceNe, Int.reduceBEq, Int.reduceToNat, ↓reduceIte, l3, ldK_agg]
  refine ⟨⟨cv, rfl, hc1⟩, fun b o hb => ?_⟩
  rw [g3 b (fun e => by rw [e, hn2] at hb; cases hb)]
  exact s2 _ _ (s1 _ _ hb)
section
variable {w0 : World} {H : Hp} {l : Nat} {S : Nat → Prop} {sts : List Nat} {z : Shot} {bk : Nat} {ts : List Tb} {xs : List Ix} {last : Nat}
/-- What Table tells. -/
def tabId (o : Option Tb) : Nat := match o with | some t => t.e.id | none => 0
theorem tableQ_ok (h : BookAt H bk ts xs last) (hn : ts.length < 1000000) (hl : LogAt H l S 1 sts) (hb : 1 + sts.length < 10000000000000) (hz : ShotAt H z) (name : ByteArray) :
    ACalls Try.prog w0 15 #[ptr bk, ptr l, .agg #[.int .u64 (z.own : Int), .int .u64 (z.xmin : Int), .int .u64 (z.xmax : Int), z.v], .string name] H fun r H' => (∃ nm cv a b, r = .tuple #[.agg #[.int .u64 (tabId (findT sts z ts name) : Nat), .string nm, cv, .int .u64 a, .int .u64 b], .bool (findT sts z ts name).isSome] ∧ cell1 cv = true) ∧ Sub H H' := by
  refine acalls_of Try.func15 rfl Try.ntmps15 r15 (by simp) ?_
  simp -implicitDefEqProofs only [go_sem, Nat.reduceEqDiff, Nat.reduceLT, Nat.reduceAdd, Nat.reduceMul, Int.reduceEq, Int.reduceLT, Int.reduceLE, Int.reduceNe, Int.reduceBEq, Int.reduceToNat, ↓reduceIte]
  refine newK_of ?_
  intro b6 H1 hb6 hn6 h6 s1 g1
  simp -implicitDefEqProofs only [go_sem, Nat.reduceEqDiff, Nat.reduceLT, Nat.reduceAdd, Nat.reduceMul, Int.reduceEq, Int.reduceLT, Int.reduceLE, Int.reduceNe, Int.reduceBEq, Int.reduceToNat, ↓reduceIte]
  refine newK_of ?_
  intro b8 H2 hb8 hn8 h8 s2 g2
  have l6 := ldc w0 (s2 _ _ h6) 4
  have s := s1.trans s2
  have h' := h.sub s
  simp -implicitDefEqProofs only [go_sem, Nat.reduceEqDiff, Nat.reduceLT, Nat.reduceAdd, Nat.reduceMul, Int.reduceEq, Int.reduceLT, Int.reduceLE, Int.reduceNe, Int.reduceBEq, Int.reduceToNat, ↓reduceIte, l6, ldK_agg]
  refine (table_ok h' hn (hl.keep fun b o _ hb => s b o hb) hb (hz.sub s) name).mono ?_
  rintro rr H3 ⟨rfl, rfl⟩
  cases hf : findT sts z ts name with
  | none =>
    have bd : bdCells Try.prog 44 #[] = some #[.int .u64 0, .string ⟨#[]⟩, .slice none 0 0, .int .u64 0, .int .u64 0] := by kernel_rfl
    simp -implicitDefEqProofs only [go_sem, Nat.reduceEqDiff, Nat.reduceLT, Nat.reduceAdd, Nat.reduceMul, Int.reduceEq, Int.reduceLT, Int.reduceLE, Int.reduceNe, Int.reduceBEq, Int.reduceToNat, ↓reduceIte, optPtr, bd]
    refine store_all h8 rfl (by simp [cell1_int, cell1_string, cell1_slice]) rfl ?_
    intro H4 h4 g4
    have l4 := ldc w0 h4 5
    simp -implicitDefEqProofs only [go_sem, Nat.reduceEqDiff, Nat.reduceLT, Nat.reduceAdd, Nat.reduceMul, Int.reduceEq, Int.reduceLT, Int.reduceLE, Int.reduceNe, Int.reduceBEq, Int.reduceToNat, ↓reduceIte, l4, ldK_agg]
    exact ⟨⟨_, _, _, _, rfl, cell1_slice⟩, fun b o hb => by rw [g4 b (fun e => by rw [e] at hb; rw [s1 _ _ hb] at hn8; cases hn8)]; exact s _ _ hb⟩
  | some t =>
    have htm : t ∈ ts := List.mem_of_find?_eq_some hf
    obtain ⟨q1, q2⟩ := h'.tab htm
    simp -implicitDefEqProofs only [go_sem, Nat.reduceEqDiff, Nat.reduceLT, Nat.reduceAdd, Nat.reduceMul, Int.reduceEq, Int.reduceLT, Int.reduceLE, Int.reduceNe, Int.reduceBEq, Int.reduceToNat, ↓reduceIte, optPtr]
    refine (told_tb q1 q2).mono ?_
    rintro rr H4 ⟨⟨cv, rfl, hc1⟩, s4⟩
    simp -implicitDefEqProofs only [go_sem, Nat.reduceEqDiff, Nat.reduceLT, Nat.reduceAdd, Nat.reduceMul, Int.reduceEq, Int.reduceLT, Int.reduceLE, Int.reduceNe, Int.reduceBEq, Int.reduceToNat, ↓reduceIte]
    refine store_all (s4 _ _ h8) rfl (by simp [cell1_int, cell1_string, hc1]) rfl ?_
    intro H5 h5 g5
    have l5 := ldc w0 h5 5
    simp -implicitDefEqProofs only [go_sem, Nat.reduceEqDiff, Nat.reduceLT, Nat.reduceAdd, Nat.reduceMul, Int.reduceEq, Int.reduceLT, Int.reduceLE, Int.reduceNe, Int.reduceBEq, Int.reduceToNat, ↓reduceIte, l5, ldK_agg]
    exact ⟨⟨_, cv, _, _, rfl, hc1⟩, fun b o hb => by rw [g5 b (fun e => by rw [e] at hb; rw [s1 _ _ hb] at hn8; cases hn8)]; exact s4 _ _ (s _ _ hb)⟩

/-! ### Indexes of a table -/
def idxP (sts : List Nat) (z : Shot) (ts : List Tb) (of : Nat) (x : Ix) : Bool := decide (x.tab = of) && shownB sts z ts x
def IdxsI (w0 : World) (H : Hp) (bk l b6 of : Nat) (ts : List Tb) (xs : List Ix) (sts : List Nat) (z : Shot) (iv : Value) (m : Nat) (F : Fr) (H1 : Hp) : Prop :=
  ∃ (k : Nat) (v : Value), k + m = xs.length ∧ F 0 = ptr bk ∧ F 1 = ptr l ∧ F 3 = .int .u64 (of : Int) ∧ F 6 = ptr b6 ∧ F 9 = v ∧ F 17 = iv ∧ F 18 = .int .i64 (xs.length : Int) ∧ F 19 = .int .i64 (k : Int) ∧
    Row H1 40 6 v ((xs.take k).filter (idxP sts z ts of)).length (((xs.take k).filter (idxP sts z ts of)).flatMap Ix.told) ∧ (∀ b, blk v = some b → H b = none ∧ w0.heap.size ≤ b) ∧ Sub H H1
theorem filter_take {α : Type} {p : α → Bool} {l : List α} {k : Nat} {x : α} (h : l[k]? = some x) : (l.take (k + 1)).filter p = (l.take k).filter p ++ (if p x = true then [x] else []) := by
  rw [take_push h, List.filter_append]
  congr 1
  by_cases c : p x = true
  · rw [List.filter_cons_of_pos c, if_pos c, List.filter_nil]
  · rw [List.filter_cons_of_neg c, if_neg c, List.filter_nil]
theorem indexes_ok (h : BookAt H bk ts xs last) (hn : ts.length < 1000000) (hnx : xs.length < 1000000) (hl : LogAt H l S 1 sts) (hb : 1 + sts.length < 10000000000000) (hz : ShotAt H z) (of : Nat) :
    ACalls Try.prog w0 18 #[ptr bk, ptr l, .agg #[.int .u64 (z.own : Int), .int .u64 (z.xmin : Int), .int .u64 (z.xmax : Int), z.v], .int .u64 (of : Int)] H fun r H' => (∃ a c, r = .slice a (xs.filter (idxP sts z ts of)).length c) ∧ Sub H H' := by
  refine acalls_of Try.func18 rfl Try.ntmps18 r18 (by simp) ?_
  simp -implicitDefEqProofs only [go_sem, Nat.reduceEqDiff, Nat.reduceLT, Nat.reduceAdd, Nat.reduceMul, Int.reduceEq, Int.reduceLT, Int.reduceLE, Int.reduceNe, Int.reduceBEq, Int.reduceToNat, ↓reduceIte]
  refine newK_of ?_
  intro b6 H1 hb6 hn6 h6 s1 g1
  have h' := h.sub s1
  have hbk := h'
  obtain ⟨tv, iv, h1, h2, h3, h4, h5⟩ := h'
  have lb := ld_own w0 h1
  obtain ⟨ia, ic, hiv⟩ := h3.slice
  simp -implicitDefEqProofs only [go_sem, Nat.reduceEqDiff, Nat.reduceLT, Nat.reduceAdd, Nat.reduceMul, Int.reduceEq, Int.reduceLT, Int.reduceLE, Int.reduceNe, Int.reduceBEq, Int.reduceToNat, ↓reduceIte, lb, hiv]
  refine AC.loop (IdxsI w0 H1 bk l b6 of ts xs sts z iv) (n := xs.length) ⟨0, .slice none 0 0, by omega, rfl, rfl, rfl, rfl, rfl, by simp -implicitDefEqProofs only [go_sem, Nat.reduceEqDiff, Nat.reduceLT, Nat.reduceAdd, Nat.reduceMul, Int.reduceEq, Int.reduceLT, Int.reduceLE, Int.reduceNe, Int.reduceBEq, Int.reduceToNat, ↓reduceIte, hiv], by simp -implicitDefEqProofs only [go_sem, Nat.reduceEqDiff, Nat.reduceLT, Nat.reduceAdd, Nat.reduceMul, Int.reduceEq, Int.reduceLT, Int.reduceLE, Int.reduceNe, Int.reduceBEq, Int.reduceToNat, ↓reduceIte, List.length_map], rfl, ⟨by simp, .inl ⟨rfl, rfl⟩⟩, by simp [blk], Sub.refl _⟩ ?_
  rintro m F H2 ⟨k, v, hk, f0, f1, f3, f6, f9, f17, f18, f19, hrow, hfr, s2⟩
  by_cases c : k < xs.length
  · have d1 : decide ((k : Int) < (xs.length : Int)) = true := by simp; omega
    have d2 : IntKind.i64.wrap ((k : Int) + 1) = (k + 1 : Nat) := by rw [i64_in] <;> omega
    have d3 : decide ((0 : Int) ≤ (k : Int)) = true := by simp
    have hxt : xs[k]? = some xs[k] := by simp [c]
    generalize xs[k] = x at hxt
    have hft := filter_take (p := idxP sts z ts of) hxt
    obtain ⟨g, cap, hv, hlg⟩ := row_at1 (w0 := w0) (h3.keep (H' := H2) fun b o _ hb => s2 b o hb) (k := k) (y := ptr x.b) (by rw [List.getElem?_map, hxt]; rfl)
    have hxc := s2 _ _ (h5 x (List.mem_of_getElem? hxt))
    have lx := ld_own w0 hxc
    have x4 : x.cells.toArray[4]? = some (.int .u64 (x.tab : Int)) := rfl
    have l6 := ldc w0 (s2 _ _ h6) 4
    rw [hv] at f17
    by_cases co : x.tab = of
    · have d4 : decide ((x.tab : Int) = (of : Int)) = true := by rw [dec_nat]; simp [co]
      simp -implicitDefEqProofs only [go_sem, Nat.reduceEqDiff, Nat.reduceLT, Nat.reduceAdd, Nat.reduceMul, Int.reduceEq, Int.reduceLT, Int.reduceLE, Int.reduceNe, Int.reduceBEq, Int.reduceToNat, ↓reduceIte, f0, f1, f3, f6, f9, f17, f18, f19, d1, d3, hlg, lx, x4, d4, l6, ldK_agg]
      refine (shown_ok (hbk.sub s2) hn hxc ((hl.keep (H' := H1) fun b o _ hb => s1 b o hb).keep (H' := H2) fun b o _ hb => s2 b o hb) hb ((hz.sub s1).sub s2)).mono ?_
      rintro rr H3 ⟨rfl, rfl⟩
      cases hsh : shownB sts z ts x
      · have hp : idxP sts z ts of x = false := by unfold idxP; rw [hsh, Bool.and_false]
        rw [hp] at hft
        simp only [Bool.false_eq_true, if_false, List.append_nil] at hft
        simp -implicitDefEqProofs only [go_sem, Nat.reduceEqDiff, Nat.reduceLT, Nat.reduceAdd, Nat.reduceMul, Int.reduceEq, Int.reduceLT, Int.reduceLE, Int.reduceNe, Int.reduceBEq, Int.reduceToNat, ↓reduceIte, f0, f1, f3, f6, f9, f17, f18, f19, d2]
        exact ⟨m - 1, by omega, k + 1, v, by omega, by simp -implicitDefEqProofs only [go_sem, Nat.reduceEqDiff, Nat.reduceLT, Nat.reduceAdd, Nat.reduceMul, Int.reduceEq, Int.reduceLT, Int.reduceLE, Int.reduceNe, Int.reduceBEq, Int.reduceToNat, ↓reduceIte, f0], by simp -implicitDefEqProofs only [go_sem, Nat.reduceEqDiff, Nat.reduceLT, Nat.reduceAdd, Nat.reduceMul, Int.reduceEq, Int.reduceLT, Int.reduceLE, Int.reduceNe, Int.reduceBEq, Int.reduceToNat, ↓reduceIte, f1], by simp -implicitDefEqProofs only [go_sem, Nat.reduceEqDiff, Nat.reduceLT, Nat.reduceAdd, Nat.reduceMul, Int.reduceEq, Int.reduceLT, Int.reduceLE, Int.reduceNe, Int.reduceBEq, Int.reduceToNat, ↓reduceIte, f3], by simp -implicitDefEqProofs only [go_sem, Nat.reduceEqDiff, Nat.reduceLT, Nat.reduceAdd, Nat.reduceMul, Int.reduceEq, Int.reduceLT, Int.reduceLE, Int.reduceNe, Int.reduceBEq, Int.reduceToNat, ↓reduceIte, f6], by simp -implicitDefEqProofs only [go_sem, Nat.reduceEqDiff, Nat.reduceLT, Nat.reduceAdd, Nat.reduceMul, Int.reduceEq, Int.reduceLT, Int.reduceLE, Int.reduceNe, Int.reduceBEq, Int.reduceToNat, ↓reduceIte, f9], by simp -implicitDefEqProofs only [go_sem, Nat.reduceEqDiff, Nat.reduceLT, Nat.reduceAdd, Nat.reduceMul, Int.reduceEq, Int.reduceLT, Int.reduceLE, Int.reduceNe, Int.reduceBEq, Int.reduceToNat, ↓reduceIte, f17, hv], by simp -implicitDefEqProofs only [go_sem, Nat.reduceEqDiff, Nat.reduceLT, Nat.reduceAdd, Nat.reduceMul, Int.reduceEq, Int.reduceLT, Int.reduceLE, Int.reduceNe, Int.reduceBEq, Int.reduceToNat, ↓reduceIte, f18], by simp -implicitDefEqProofs only [go_sem, Nat.reduceEqDiff, Nat.reduceLT, Nat.reduceAdd, Nat.reduceMul, Int.reduceEq, Int.reduceLT, Int.reduceLE, Int.reduceNe, Int.reduceBEq, Int.reduceToNat, ↓reduceIte], by rw [hft]; exact hrow, hfr, s2⟩
      · have hp : idxP sts z ts of x = true := by unfold idxP; rw [hsh, decide_eq_true co]; rfl
        rw [hp] at hft
        simp only [if_true] at hft
        simp -implicitDefEqProofs only [go_sem, Nat.reduceEqDiff, Nat.reduceLT, Nat.reduceAdd, Nat.reduceMul, Int.reduceEq, Int.reduceLT, Int.reduceLE, Int.reduceNe, Int.reduceBEq, Int.reduceToNat, ↓reduceIte, f0, f1, f3, f6, f9, f17, f18, f19]
        refine (told_ix hxc).mono ?_
        rintro rr H4 ⟨rfl, rfl⟩
        have bs1 : bsCells Try.prog 40 1 #[(0, .agg x.told.toArray)] = some x.told.toArray := by kernel_rfl
        simp -implicitDefEqProofs only [go_sem, Nat.reduceEqDiff, Nat.reduceLT, Nat.reduceAdd, Nat.reduceMul, Int.reduceEq, Int.reduceLT, Int.reduceLE, Int.reduceNe, Int.reduceBEq, Int.reduceToNat, ↓reduceIte, bs1]
        refine newK_of ?_
        intro nb H5 hnb hnn h5n s5 g5
        simp -implicitDefEqProofs only [go_sem, Nat.reduceEqDiff, Nat.reduceLT, Nat.reduceAdd, Nat.reduceMul, Int.reduceEq, Int.reduceLT, Int.reduceLE, Int.reduceNe, Int.reduceBEq, Int.reduceToNat, ↓reduceIte]
        have hfl : ((xs.take k).filter (idxP sts z ts of)).length ≤ k := Nat.le_trans (List.length_filter_le _ _) (by rw [List.length_take]; omega)
        refine aop_append_lit (t := 48) (x := .tmp 36) (y := .tmp 39) (c := 1) Try.underlying48 s40 b40 z40 rfl (v := v) (by simp -implicitDefEqProofs only [go_sem, Nat.reduceEqDiff, Nat.reduceLT, Nat.reduceAdd, Nat.reduceMul, Int.reduceEq, Int.reduceLT, Int.reduceLE, Int.reduceNe, Int.reduceBEq, Int.reduceToNat, ↓reduceIte, f9]) (hrow.keep (H' := H5) fun b o _ hb => s5 b o hb) h5n (by simp -implicitDefEqProofs only [go_sem, Nat.reduceEqDiff, Nat.reduceLT, Nat.reduceAdd, Nat.reduceMul, Int.reduceEq, Int.reduceLT, Int.reduceLE, Int.reduceNe, Int.reduceBEq, Int.reduceToNat, ↓reduceIte]) rfl (by simp [Ix.told, cell1_int, cell1_string]) (by omega) (by omega) (by omega) ?_
        intro g6 H6 hg6 hH6 cap6 hrow6
        obtain ⟨s6, hgn, hgw⟩ := app_fresh (s2.trans s5) hfr hg6 hH6
        simp -implicitDefEqProofs only [go_sem, Nat.reduceEqDiff, Nat.reduceLT, Nat.reduceAdd, Nat.reduceMul, Int.reduceEq, Int.reduceLT, Int.reduceLE, Int.reduceNe, Int.reduceBEq, Int.reduceToNat, ↓reduceIte, f0, f1, f3, f6, f9, f17, f18, f19, d2]
        refine ⟨m - 1, by omega, k + 1, .slice (some ⟨g6, 0, none⟩) (((xs.take k).filter (idxP sts z ts of)).length + 1) cap6, by omega, by simp -implicitDefEqProofs only [go_sem, Nat.reduceEqDiff, Nat.reduceLT, Nat.reduceAdd, Nat.reduceMul, Int.reduceEq, Int.reduceLT, Int.reduceLE, Int.reduceNe, Int.reduceBEq, Int.reduceToNat, ↓reduceIte, f0], by simp -implicitDefEqProofs only [go_sem, Nat.reduceEqDiff, Nat.reduceLT, Nat.reduceAdd, Nat.reduceMul, Int.reduceEq, Int.reduceLT, Int.reduceLE, Int.reduceNe, Int.reduceBEq, Int.reduceToNat, ↓reduceIte, f1], by simp -implicitDefEqProofs only [go_sem, Nat.reduceEqDiff, Nat.reduceLT, Nat.reduceAdd, Nat.reduceMul, Int.reduceEq, Int.reduceLT, Int.reduceLE, Int.reduceNe, Int.reduceBEq, Int.reduceToNat, ↓reduceIte, f3], by simp -implicitDefEqProofs only [go_sem, Nat.reduceEqDiff, Nat.reduceLT, Nat.reduceAdd, Nat.reduceMul, Int.reduceEq, Int.reduceLT, Int.reduceLE, Int.reduceNe, Int.reduceBEq, Int.reduceToNat, ↓reduceIte, f6], by simp -implicitDefEqProofs only [go_sem, Nat.reduceEqDiff, Nat.reduceLT, Nat.reduceAdd, Nat.reduceMul, Int.reduceEq, Int.reduceLT, Int.reduceLE, Int.reduceNe, Int.reduceBEq, Int.reduceToNat, ↓reduceIte], by simp -implicitDefEqProofs only [go_sem, Nat.reduceEqDiff, Nat.reduceLT, Nat.reduceAdd, Nat.reduceMul, Int.reduceEq, Int.reduceLT, Int.reduceLE, Int.reduceNe, Int.reduceBEq, Int.reduceToNat, ↓reduceIte, f17, hv], by simp -implicitDefEqProofs only [go_sem, Nat.reduceEqDiff, Nat.reduceLT, Nat.reduceAdd, Nat.reduceMul, Int.reduceEq, Int.reduceLT, Int.reduceLE, Int.reduceNe, Int.reduceBEq, Int.reduceToNat, ↓reduceIte, f18], by simp -implicitDefEqProofs only [go_sem, Nat.reduceEqDiff, Nat.reduceLT, Nat.reduceAdd, Nat.reduceMul, Int.reduceEq, Int.reduceLT, Int.reduceLE, Int.reduceNe, Int.reduceBEq, Int.reduceToNat, ↓reduceIte], ?_, ?_, s6⟩
        · rw [hft, List.length_append, List.length_singleton, List.flatMap_append, List.flatMap_cons, List.flatMap_nil, List.append_nil]
          exact hrow6
        · intro b hb
          simp only [blk, Option.some.injEq] at hb
          subst hb; exact ⟨hgn, hgw⟩
    · have d4 : decide ((x.tab : Int) = (of : Int)) = false := by rw [dec_nat]; simp [co]
      have hp : idxP sts z ts of x = false := by unfold idxP; rw [decide_eq_false co]; rfl
      rw [hp] at hft
      simp only [Bool.false_eq_true, if_false, List.append_nil] at hft
      simp -implicitDefEqProofs only [go_sem, Nat.reduceEqDiff, Nat.reduceLT, Nat.reduceAdd, Nat.reduceMul, Int.reduceEq, Int.reduceLT, Int.reduceLE, Int.reduceNe, Int.reduceBEq, Int.reduceToNat, ↓reduceIte, f0, f1, f3, f6, f9, f17, f18, f19, d1, d2, d3, hlg, lx, x4, d4, l6, ldK_agg]
      exact ⟨m - 1, by omega, k + 1, v, by omega, by simp -implicitDefEqProofs only [go_sem, Nat.reduceEqDiff, Nat.reduceLT, Nat.reduceAdd, Nat.reduceMul, Int.reduceEq, Int.reduceLT, Int.reduceLE, Int.reduceNe, Int.reduceBEq, Int.reduceToNat, ↓reduceIte, f0], by simp -implicitDefEqProofs only [go_sem, Nat.reduceEqDiff, Nat.reduceLT, Nat.reduceAdd, Nat.reduceMul, Int.reduceEq, Int.reduceLT, Int.reduceLE, Int.reduceNe, Int.reduceBEq, Int.reduceToNat, ↓reduceIte, f1], by simp -implicitDefEqProofs only [go_sem, Nat.reduceEqDiff, Nat.reduceLT, Nat.reduceAdd, Nat.reduceMul, Int.reduceEq, Int.reduceLT, Int.reduceLE, Int.reduceNe, Int.reduceBEq, Int.reduceToNat, ↓reduceIte, f3], by simp -implicitDefEqProofs only [go_sem, Nat.reduceEqDiff, Nat.reduceLT, Nat.reduceAdd, Nat.reduceMul, Int.reduceEq, Int.reduceLT, Int.reduceLE, Int.reduceNe, Int.reduceBEq, Int.reduceToNat, ↓reduceIte, f6], by simp -implicitDefEqProofs only [go_sem, Nat.reduceEqDiff, Nat.reduceLT, Nat.reduceAdd, Nat.reduceMul, Int.reduceEq, Int.reduceLT, Int.reduceLE, Int.reduceNe, Int.reduceBEq, Int.reduceToNat, ↓reduceIte, f9], by simp -implicitDefEqProofs only [go_sem, Nat.reduceEqDiff, Nat.reduceLT, Nat.reduceAdd, Nat.reduceMul, Int.reduceEq, Int.reduceLT, Int.reduceLE, Int.reduceNe, Int.reduceBEq, Int.reduceToNat, ↓reduceIte, f17, hv], by simp -implicitDefEqProofs only [go_sem, Nat.reduceEqDiff, Nat.reduceLT, Nat.reduceAdd, Nat.reduceMul, Int.reduceEq, Int.reduceLT, Int.reduceLE, Int.reduceNe, Int.reduceBEq, Int.reduceToNat, ↓reduceIte, f18], by simp -implicitDefEqProofs only [go_sem, Nat.reduceEqDiff, Nat.reduceLT, Nat.reduceAdd, Nat.reduceMul, Int.reduceEq, Int.reduceLT, Int.reduceLE, Int.reduceNe, Int.reduceBEq, Int.reduceToNat, ↓reduceIte], by rw [hft]; exact hrow, hfr, s2⟩
  · have d1 : decide ((k : Int) < (xs.length : Int)) = false := by simp; omega
    have htk : xs.take k = xs := List.take_of_length_le (by omega)
    rw [htk] at hrow
    simp -implicitDefEqProofs only [go_sem, Nat.reduceEqDiff, Nat.reduceLT, Nat.reduceAdd, Nat.reduceMul, Int.reduceEq, Int.reduceLT, Int.reduceLE, Int.reduceNe, Int.reduceBEq, Int.reduceToNat, ↓reduceIte, f0, f1, f3, f6, f9, f17, f18, f19, d1]
    exact ⟨hrow.slice, s1.trans s2⟩
end
end Go.Proofs.Ytcpeiejabbdeiaa
