/-
  Package book: what a snapshot is shown, what lives, which names are taken, which table is found.
  Conditions: as each theorem states them.
-/
import Derived.Test.YtcpeiejabbdeiaaBkm
namespace Go.Proofs.Ytcpeiejabbdeiaa
open Go Go.RowKit Go.Proofs.YtcpeiejabbdeiaaW
set_option maxRecDepth 100000
set_option linter.unusedSimpArgs false
set_option linter.unusedVariables false

def shownB (sts : List Nat) (z : Shot) (ts : List Tb) (x : Ix) : Bool :=
  match ofB ts x.tab with
  | none => false
  | some t => visE sts z x.e && visE sts z t.e
def livingB (sts : List Nat) (ts : List Tb) (x : Ix) : Bool :=
  match ofB ts x.tab with
  | none => false
  | some t => aliveE sts x.e && aliveE sts t.e
theorem ofB_mem {ts : List Tb} {id : Nat} {t : Tb} (h : ofB ts id = some t) : t ∈ ts ∧ t.e.id = id := by
  unfold ofB at h
  exact ⟨List.mem_of_find?_eq_some h, by simpa using List.find?_some h⟩
section
variable {w0 : World} {H : Hp} {l : Nat} {S : Nat → Prop} {sts : List Nat} {z : Shot} {bk : Nat} {ts : List Tb} {xs : List Ix} {last : Nat}
theorem BookAt.tab (h : BookAt H bk ts xs last) {t : Tb} (ht : t ∈ ts) : H t.b = some (.cells t.cells.toArray 88 (0, 0)) ∧ Row H 86 2 t.cv 1 oneCol := by
  obtain ⟨tv, iv, h1, h2, h3, h4, h5⟩ := h
  exact h4 t ht
theorem BookAt.idx (h : BookAt H bk ts xs last) {x : Ix} (hx : x ∈ xs) : H x.b = some (.cells x.cells.toArray 94 (0, 0)) := by
  obtain ⟨tv, iv, h1, h2, h3, h4, h5⟩ := h
  exact h5 x hx
theorem shown_ok (h : BookAt H bk ts xs last) (hn : ts.length < 1000000) {x : Ix} (hx : H x.b = some (.cells x.cells.toArray 94 (0, 0))) (hl : LogAt H l S 1 sts) (hb : 1 + sts.length < 10000000000000) (hz : ShotAt H z) :
    ACalls Try.prog w0 39 #[ptr bk, ptr x.b, ptr l, .agg #[.int .u64 (z.own : Int), .int .u64 (z.xmin : Int), .int .u64 (z.xmax : Int), z.v]] H fun r H' => r = .bool (shownB sts z ts x) ∧ H' = H := by
  refine ACalls.quiet ?_
  refine acalls_of Try.func39 rfl Try.ntmps39 r39 (by simp) ?_
  simp -implicitDefEqProofs only [go_sem, Nat.reduceEqDiff, Nat.reduceLT, Nat.reduceAdd, Nat.reduceMul, Int.reduceEq, Int.reduceLT, Int.reduceLE, Int.reduceNe, Int.reduceBEq, Int.reduceToNat, ↓reduceIte]
  refine newK_of ?_
  intro b7 H1 hb7 hn7 h7 s1 _
  have l7 := ldc w0 h7 4
  simp -implicitDefEqProofs only [go_sem, Nat.reduceEqDiff, Nat.reduceLT, Nat.reduceAdd, Nat.reduceMul, Int.reduceEq, Int.reduceLT, Int.reduceLE, Int.reduceNe, Int.reduceBEq, Int.reduceToNat, ↓reduceIte]
  refine (of_ok (h.sub s1) hn (s1 _ _ hx)).mono ?_
  rintro r H2 ⟨rfl, rfl⟩
  unfold shownB
  cases ho : ofB ts x.tab with
  | none =>
    simp -implicitDefEqProofs only [go_sem, Nat.reduceEqDiff, Nat.reduceLT, Nat.reduceAdd, Nat.reduceMul, Int.reduceEq, Int.reduceLT, Int.reduceLE, Int.reduceNe, Int.reduceBEq, Int.reduceToNat, ↓reduceIte, optPtr]
    refine vdraw_t [⟨0, .p, [], []⟩, ⟨1, .p, [], []⟩, ⟨2, .p, [], []⟩, ⟨3, .p, [], []⟩, ⟨4, .p, [], []⟩, ⟨5, .p, [], []⟩, ⟨6, .p, [], []⟩, ⟨7, .n, [], []⟩, ⟨8, .c, [], []⟩, ⟨9, .p, [], []⟩, ⟨10, .p, [], []⟩, ⟨11, .p, [], []⟩, ⟨12, .p, [], []⟩, ⟨13, .p, [], []⟩, ⟨14, .p, [], []⟩, ⟨15, .n, [], []⟩, ⟨16, .c, [], []⟩, ⟨17, .p, [], []⟩, ⟨18, .p, [], []⟩] [0, 1, 3, 7, 15, 31, 7, 7, 255, 511, 1023, 2047, 4095, 8191, 2047, 2047, 65535, 131071, 262143] mixed (by kernel_rfl) ?_
    simp -implicitDefEqProofs only [go_sem, Nat.reduceEqDiff, Nat.reduceLT, Nat.reduceAdd, Nat.reduceMul, Int.reduceEq, Int.reduceLT, Int.reduceLE, Int.reduceNe, Int.reduceBEq, Int.reduceToNat, ↓reduceIte, l7, ldK_agg]
    exact s1
  | some t =>
    simp -implicitDefEqProofs only [go_sem, Nat.reduceEqDiff, Nat.reduceLT, Nat.reduceAdd, Nat.reduceMul, Int.reduceEq, Int.reduceLT, Int.reduceLE, Int.reduceNe, Int.reduceBEq, Int.reduceToNat, ↓reduceIte, optPtr]
    refine vdraw_t [⟨0, .p, [], []⟩, ⟨1, .p, [], []⟩, ⟨2, .p, [], []⟩, ⟨3, .p, [], []⟩, ⟨4, .p, [], []⟩, ⟨5, .p, [], []⟩, ⟨6, .p, [], []⟩, ⟨7, .n, [], []⟩, ⟨8, .c, [], []⟩, ⟨9, .p, [], []⟩, ⟨10, .p, [], []⟩, ⟨11, .p, [], []⟩, ⟨12, .p, [], []⟩, ⟨13, .p, [], []⟩, ⟨14, .p, [], []⟩, ⟨15, .n, [], []⟩, ⟨16, .c, [], []⟩, ⟨17, .p, [], []⟩, ⟨18, .p, [], []⟩] [0, 1, 3, 7, 15, 31, 7, 7, 255, 511, 1023, 2047, 4095, 8191, 2047, 2047, 65535, 131071, 262143] mixed (by kernel_rfl) ?_
    simp -implicitDefEqProofs only [go_sem, Nat.reduceEqDiff, Nat.reduceLT, Nat.reduceAdd, Nat.reduceMul, Int.reduceEq, Int.reduceLT, Int.reduceLE, Int.reduceNe, Int.reduceBEq, Int.reduceToNat, ↓reduceIte, l7, ldK_agg]
    refine (ent_vis ((Ix.en hx).sub s1) (hl.keep fun b o _ hb => s1 b o hb) hb (hz.sub s1)).mono ?_
    rintro r H2' ⟨rfl, rfl⟩
    cases visE sts z x.e
    · simp -implicitDefEqProofs only [go_sem, Nat.reduceEqDiff, Nat.reduceLT, Nat.reduceAdd, Nat.reduceMul, Int.reduceEq, Int.reduceLT, Int.reduceLE, Int.reduceNe, Int.reduceBEq, Int.reduceToNat, ↓reduceIte, l7, ldK_agg]
      exact s1
    · simp -implicitDefEqProofs only [go_sem, Nat.reduceEqDiff, Nat.reduceLT, Nat.reduceAdd, Nat.reduceMul, Int.reduceEq, Int.reduceLT, Int.reduceLE, Int.reduceNe, Int.reduceBEq, Int.reduceToNat, ↓reduceIte, l7, ldK_agg]
      refine (ent_vis ((Tb.en (h.tab (ofB_mem ho).1).1).sub s1) (hl.keep fun b o _ hb => s1 b o hb) hb (hz.sub s1)).mono ?_
      rintro r H3 ⟨rfl, rfl⟩
      simp -implicitDefEqProofs only [go_sem, Nat.reduceEqDiff, Nat.reduceLT, Nat.reduceAdd, Nat.reduceMul, Int.reduceEq, Int.reduceLT, Int.reduceLE, Int.reduceNe, Int.reduceBEq, Int.reduceToNat, ↓reduceIte, l7, ldK_agg]
      exact s1
theorem living_ok (h : BookAt H bk ts xs last) (hn : ts.length < 1000000) {x : Ix} (hx : H x.b = some (.cells x.cells.toArray 94 (0, 0))) (hl : LogAt H l S 1 sts) (hb : 1 + sts.length < 10000000000000) :
    ACalls Try.prog w0 50 #[ptr bk, ptr x.b, ptr l] H fun r H' => r = .bool (livingB sts ts x) ∧ H' = H := by
  refine acalls_of Try.func50 rfl Try.ntmps50 r50 (by simp) ?_
  simp -implicitDefEqProofs only [go_sem, Nat.reduceEqDiff, Nat.reduceLT, Nat.reduceAdd, Nat.reduceMul, Int.reduceEq, Int.reduceLT, Int.reduceLE, Int.reduceNe, Int.reduceBEq, Int.reduceToNat, ↓reduceIte]
  refine (of_ok h hn hx).mono ?_
  rintro r H2 ⟨rfl, rfl⟩
  unfold livingB
  cases ho : ofB ts x.tab with
  | none => simp -implicitDefEqProofs only [go_sem, Nat.reduceEqDiff, Nat.reduceLT, Nat.reduceAdd, Nat.reduceMul, Int.reduceEq, Int.reduceLT, Int.reduceLE, Int.reduceNe, Int.reduceBEq, Int.reduceToNat, ↓reduceIte, optPtr]
  | some t =>
    simp -implicitDefEqProofs only [go_sem, Nat.reduceEqDiff, Nat.reduceLT, Nat.reduceAdd, Nat.reduceMul, Int.reduceEq, Int.reduceLT, Int.reduceLE, Int.reduceNe, Int.reduceBEq, Int.reduceToNat, ↓reduceIte, optPtr]
    refine (ent_alive (Ix.en hx) hl hb).mono ?_
    rintro r H2' ⟨rfl, rfl⟩
    cases aliveE sts x.e
    · simp -implicitDefEqProofs only [go_sem, Nat.reduceEqDiff, Nat.reduceLT, Nat.reduceAdd, Nat.reduceMul, Int.reduceEq, Int.reduceLT, Int.reduceLE, Int.reduceNe, Int.reduceBEq, Int.reduceToNat, ↓reduceIte]
    · simp -implicitDefEqProofs only [go_sem, Nat.reduceEqDiff, Nat.reduceLT, Nat.reduceAdd, Nat.reduceMul, Int.reduceEq, Int.reduceLT, Int.reduceLE, Int.reduceNe, Int.reduceBEq, Int.reduceToNat, ↓reduceIte]
      refine (ent_alive (Tb.en (h.tab (ofB_mem ho).1).1) hl hb).mono ?_
      rintro r H3 ⟨rfl, rfl⟩
      simp -implicitDefEqProofs only [go_sem, Nat.reduceEqDiff, Nat.reduceLT, Nat.reduceAdd, Nat.reduceMul, Int.reduceEq, Int.reduceLT, Int.reduceLE, Int.reduceNe, Int.reduceBEq, Int.reduceToNat, ↓reduceIte]

/-! ### Which table is found -/
def findT (sts : List Nat) (z : Shot) (ts : List Tb) (name : ByteArray) : Option Tb := ts.find? fun t => (t.e.name.toList == name.toList) && visE sts z t.e
def FindI (w0 : World) (H : Hp) (ts : List Tb) (sts : List Nat) (z : Shot) (name : ByteArray) (l b6 : Nat) (tv : Value) (m : Nat) (F : Fr) (H1 : Hp) : Prop :=
  ∃ k, k + m = ts.length ∧ F 1 = ptr l ∧ F 3 = .string name ∧ F 6 = ptr b6 ∧ F 14 = tv ∧ F 15 = .int .i64 (ts.length : Int) ∧ F 16 = .int .i64 (k : Int) ∧ H1 = H ∧ ∀ i t, i < k → ts[i]? = some t → ((t.e.name.toList == name.toList) && visE sts z t.e) = false
theorem table_ok (h : BookAt H bk ts xs last) (hn : ts.length < 1000000) (hl : LogAt H l S 1 sts) (hb : 1 + sts.length < 10000000000000) (hz : ShotAt H z) (name : ByteArray) :
    ACalls Try.prog w0 33 #[ptr bk, ptr l, .agg #[.int .u64 (z.own : Int), .int .u64 (z.xmin : Int), .int .u64 (z.xmax : Int), z.v], .string name] H fun r H' => r = optPtr (findT sts z ts name) ∧ H' = H := by
  refine ACalls.quiet ?_
  refine acalls_of Try.func33 rfl Try.ntmps33 r33 (by simp) ?_
  simp -implicitDefEqProofs only [go_sem, Nat.reduceEqDiff, Nat.reduceLT, Nat.reduceAdd, Nat.reduceMul, Int.reduceEq, Int.reduceLT, Int.reduceLE, Int.reduceNe, Int.reduceBEq, Int.reduceToNat, ↓reduceIte]
  refine newK_of ?_
  intro b6 H1 hb6 hn6 h6 s1 _
  have l6 := ldc w0 h6 4
  have h' := h.sub s1
  have hl' := hl.keep (H' := H1) fun b o _ hb => s1 b o hb
  have hz' := hz.sub s1
  obtain ⟨tv, iv, h1, h2, h3, h4, h5⟩ := h'
  have lb := ld_own w0 h1
  obtain ⟨ta, tc, htv⟩ := h2.slice
  simp -implicitDefEqProofs only [go_sem, Nat.reduceEqDiff, Nat.reduceLT, Nat.reduceAdd, Nat.reduceMul, Int.reduceEq, Int.reduceLT, Int.reduceLE, Int.reduceNe, Int.reduceBEq, Int.reduceToNat, ↓reduceIte, lb, htv]
  refine AC.loop (FindI w0 H1 ts sts z name l b6 tv) (n := ts.length) ⟨0, by omega, rfl, rfl, rfl, by simp -implicitDefEqProofs only [go_sem, Nat.reduceEqDiff, Nat.reduceLT, Nat.reduceAdd, Nat.reduceMul, Int.reduceEq, Int.reduceLT, Int.reduceLE, Int.reduceNe, Int.reduceBEq, Int.reduceToNat, ↓reduceIte, htv], by simp -implicitDefEqProofs only [go_sem, Nat.reduceEqDiff, Nat.reduceLT, Nat.reduceAdd, Nat.reduceMul, Int.reduceEq, Int.reduceLT, Int.reduceLE, Int.reduceNe, Int.reduceBEq, Int.reduceToNat, ↓reduceIte, List.length_map], rfl, rfl, fun i t hi => by omega⟩ ?_
  rintro m F H2 ⟨k, hk, f1, f3, f6, f14, f15, f16, rfl, hno⟩
  by_cases c : k < ts.length
  · have d1 : decide ((k : Int) < (ts.length : Int)) = true := by simp; omega
    have d2 : IntKind.i64.wrap ((k : Int) + 1) = (k + 1 : Nat) := by rw [i64_in] <;> omega
    have d3 : decide ((0 : Int) ≤ (k : Int)) = true := by simp
    have hzt : ts[k]? = some ts[k] := by simp [c]
    generalize ts[k] = t at hzt
    obtain ⟨g, cap, hv, hlg⟩ := row_at1 (w0 := w0) h2 (k := k) (y := ptr t.b) (by rw [List.getElem?_map, hzt]; rfl)
    have hen := Tb.en (w0 := w0) (h4 t (List.mem_of_getElem? hzt)).1
    obtain ⟨_, l1, _⟩ := id hen
    rw [hv] at f14
    simp -implicitDefEqProofs only [go_sem, Nat.reduceEqDiff, Nat.reduceLT, Nat.reduceAdd, Nat.reduceMul, Int.reduceEq, Int.reduceLT, Int.reduceLE, Int.reduceNe, Int.reduceBEq, Int.reduceToNat, ↓reduceIte, f1, f3, f6, f14, f15, f16, d1, d3, hlg]
    refine vdraw_t [⟨0, .p, [], []⟩, ⟨1, .p, [], []⟩, ⟨2, .p, [], []⟩, ⟨3, .p, [], []⟩, ⟨4, .n, [], []⟩, ⟨5, .p, [], []⟩, ⟨6, .p, [], []⟩, ⟨7, .p, [], []⟩, ⟨8, .p, [], []⟩, ⟨9, .p, [], []⟩, ⟨10, .p, [], []⟩, ⟨11, .p, [], []⟩, ⟨12, .n, [], []⟩, ⟨13, .c, [], []⟩, ⟨14, .p, [], []⟩] [0, 1, 3, 7, 15, 0, 63, 127, 255, 511, 1023, 255, 255, 8191, 16383] mixed (by kernel_rfl) ?_
    cases hnm : (t.e.name.toList == name.toList)
    · simp -implicitDefEqProofs only [go_sem, Nat.reduceEqDiff, Nat.reduceLT, Nat.reduceAdd, Nat.reduceMul, Int.reduceEq, Int.reduceLT, Int.reduceLE, Int.reduceNe, Int.reduceBEq, Int.reduceToNat, ↓reduceIte, f1, f3, f6, f14, f15, f16, d2, l1, l6, ldK_agg, hnm]
      refine ⟨m - 1, by omega, k + 1, by omega, by simp -implicitDefEqProofs only [go_sem, Nat.reduceEqDiff, Nat.reduceLT, Nat.reduceAdd, Nat.reduceMul, Int.reduceEq, Int.reduceLT, Int.reduceLE, Int.reduceNe, Int.reduceBEq, Int.reduceToNat, ↓reduceIte, f1], by simp -implicitDefEqProofs only [go_sem, Nat.reduceEqDiff, Nat.reduceLT, Nat.reduceAdd, Nat.reduceMul, Int.reduceEq, Int.reduceLT, Int.reduceLE, Int.reduceNe, Int.reduceBEq, Int.reduceToNat, ↓reduceIte, f3], by simp -implicitDefEqProofs only [go_sem, Nat.reduceEqDiff, Nat.reduceLT, Nat.reduceAdd, Nat.reduceMul, Int.reduceEq, Int.reduceLT, Int.reduceLE, Int.reduceNe, Int.reduceBEq, Int.reduceToNat, ↓reduceIte, f6], by simp -implicitDefEqProofs only [go_sem, Nat.reduceEqDiff, Nat.reduceLT, Nat.reduceAdd, Nat.reduceMul, Int.reduceEq, Int.reduceLT, Int.reduceLE, Int.reduceNe, Int.reduceBEq, Int.reduceToNat, ↓reduceIte, f14, hv], by simp -implicitDefEqProofs only [go_sem, Nat.reduceEqDiff, Nat.reduceLT, Nat.reduceAdd, Nat.reduceMul, Int.reduceEq, Int.reduceLT, Int.reduceLE, Int.reduceNe, Int.reduceBEq, Int.reduceToNat, ↓reduceIte, f15], by simp -implicitDefEqProofs only [go_sem, Nat.reduceEqDiff, Nat.reduceLT, Nat.reduceAdd, Nat.reduceMul, Int.reduceEq, Int.reduceLT, Int.reduceLE, Int.reduceNe, Int.reduceBEq, Int.reduceToNat, ↓reduceIte], rfl, fun i t' hi ht => ?_⟩
      by_cases e : i = k
      · rw [e, hzt] at ht; cases ht; rw [hnm]; rfl
      · exact hno i t' (by omega) ht
    · simp -implicitDefEqProofs only [go_sem, Nat.reduceEqDiff, Nat.reduceLT, Nat.reduceAdd, Nat.reduceMul, Int.reduceEq, Int.reduceLT, Int.reduceLE, Int.reduceNe, Int.reduceBEq, Int.reduceToNat, ↓reduceIte, f1, f3, f6, f14, f15, f16, d2, l1, l6, ldK_agg, hnm]
      refine (ent_vis hen hl' hb hz').mono ?_
      rintro r H3 ⟨rfl, rfl⟩
      cases hvs : visE sts z t.e
      · simp -implicitDefEqProofs only [go_sem, Nat.reduceEqDiff, Nat.reduceLT, Nat.reduceAdd, Nat.reduceMul, Int.reduceEq, Int.reduceLT, Int.reduceLE, Int.reduceNe, Int.reduceBEq, Int.reduceToNat, ↓reduceIte, f1, f3, f6, f14, f15, f16, d2, l1, l6, ldK_agg, hnm]
        refine ⟨m - 1, by omega, k + 1, by omega, by simp -implicitDefEqProofs only [go_sem, Nat.reduceEqDiff, Nat.reduceLT, Nat.reduceAdd, Nat.reduceMul, Int.reduceEq, Int.reduceLT, Int.reduceLE, Int.reduceNe, Int.reduceBEq, Int.reduceToNat, ↓reduceIte, f1], by simp -implicitDefEqProofs only [go_sem, Nat.reduceEqDiff, Nat.reduceLT, Nat.reduceAdd, Nat.reduceMul, Int.reduceEq, Int.reduceLT, Int.reduceLE, Int.reduceNe, Int.reduceBEq, Int.reduceToNat, ↓reduceIte, f3], by simp -implicitDefEqProofs only [go_sem, Nat.reduceEqDiff, Nat.reduceLT, Nat.reduceAdd, Nat.reduceMul, Int.reduceEq, Int.reduceLT, Int.reduceLE, Int.reduceNe, Int.reduceBEq, Int.reduceToNat, ↓reduceIte, f6], by simp -implicitDefEqProofs only [go_sem, Nat.reduceEqDiff, Nat.reduceLT, Nat.reduceAdd, Nat.reduceMul, Int.reduceEq, Int.reduceLT, Int.reduceLE, Int.reduceNe, Int.reduceBEq, Int.reduceToNat, ↓reduceIte, f14, hv], by simp -implicitDefEqProofs only [go_sem, Nat.reduceEqDiff, Nat.reduceLT, Nat.reduceAdd, Nat.reduceMul, Int.reduceEq, Int.reduceLT, Int.reduceLE, Int.reduceNe, Int.reduceBEq, Int.reduceToNat, ↓reduceIte, f15], by simp -implicitDefEqProofs only [go_sem, Nat.reduceEqDiff, Nat.reduceLT, Nat.reduceAdd, Nat.reduceMul, Int.reduceEq, Int.reduceLT, Int.reduceLE, Int.reduceNe, Int.reduceBEq, Int.reduceToNat, ↓reduceIte], rfl, fun i t' hi ht => ?_⟩
        by_cases e : i = k
        · rw [e, hzt] at ht; cases ht; rw [hvs, Bool.and_false]
        · exact hno i t' (by omega) ht
      · simp -implicitDefEqProofs only [go_sem, Nat.reduceEqDiff, Nat.reduceLT, Nat.reduceAdd, Nat.reduceMul, Int.reduceEq, Int.reduceLT, Int.reduceLE, Int.reduceNe, Int.reduceBEq, Int.reduceToNat, ↓reduceIte, f1, f3, f6, f14, f15, f16, d2, l1, l6, ldK_agg, hnm]
        unfold findT
        rw [find_some (p := fun t : Tb => (t.e.name.toList == name.toList) && visE sts z t.e) (fun i t hi ht => hno i t hi ht) hzt (by simp only [hnm, hvs, Bool.and_self])]
        exact ⟨rfl, s1⟩
  · have d1 : decide ((k : Int) < (ts.length : Int)) = false := by simp; omega
    simp -implicitDefEqProofs only [go_sem, Nat.reduceEqDiff, Nat.reduceLT, Nat.reduceAdd, Nat.reduceMul, Int.reduceEq, Int.reduceLT, Int.reduceLE, Int.reduceNe, Int.reduceBEq, Int.reduceToNat, ↓reduceIte, f1, f3, f6, f14, f15, f16, d1]
    unfold findT
    rw [find_none (p := fun t : Tb => (t.e.name.toList == name.toList) && visE sts z t.e) (fun i t hi ht => hno i t (by omega) ht)]
    exact ⟨rfl, s1⟩

/-! ### Is a name taken? -/
def nmE (e : En) (name : ByteArray) : Bool := e.name.toList == name.toList
def hitT (sts : List Nat) (z : Shot) (name : ByteArray) (t : Tb) : Bool := nmE t.e name && visE sts z t.e
def confT (sts : List Nat) (z : Shot) (name : ByteArray) (t : Tb) : Bool := nmE t.e name && (aliveE sts t.e && decide (¬ t.e.xmax = z.own))
def hitX (sts : List Nat) (z : Shot) (ts : List Tb) (name : ByteArray) (x : Ix) : Bool := nmE x.e name && shownB sts z ts x
def confX (sts : List Nat) (z : Shot) (ts : List Tb) (name : ByteArray) (x : Ix) : Bool := nmE x.e name && (livingB sts ts x && decide (¬ x.e.xmax = z.own))
def takenC (sts : List Nat) (z : Shot) (ts : List Tb) (xs : List Ix) (name : ByteArray) : Nat :=
  if ts.any (hitT sts z name) || xs.any (hitX sts z ts name) then 7 else if ts.any (confT sts z name) || xs.any (confX sts z ts name) then 11 else 0
theorem any_take {α : Type} {p : α → Bool} {l : List α} {k : Nat} {x : α} (h : l[k]? = some x) : (l.take (k + 1)).any p = ((l.take k).any p || p x) := by
  rw [take_push h, List.any_append, List.any_cons, List.any_nil, Bool.or_false]
theorem any_at {α : Type} {p : α → Bool} {l : List α} {k : Nat} {x : α} (h : l[k]? = some x) (hp : p x = true) : l.any p = true := by
  rw [List.any_eq_true]; exact ⟨x, List.mem_of_getElem? h, hp⟩
def cod (b : Bool) : Int := if b = true then 11 else 0
def TakI (H : Hp) (bk l b6 : Nat) (ts : List Tb) (sts : List Nat) (z : Shot) (name : ByteArray) (tv : Value) (m : Nat) (F : Fr) (H1 : Hp) : Prop :=
  ∃ k, k + m = ts.length ∧ F 0 = ptr bk ∧ F 1 = ptr l ∧ F 3 = .string name ∧ F 6 = ptr b6 ∧ F 9 = .int .i64 (cod ((ts.take k).any (confT sts z name))) ∧ F 17 = tv ∧ F 18 = .int .i64 (ts.length : Int) ∧ F 19 = .int .i64 (k : Int) ∧ H1 = H ∧ (ts.take k).any (hitT sts z name) = false
def TakJ (H : Hp) (bk l b6 : Nat) (ts : List Tb) (xs : List Ix) (sts : List Nat) (z : Shot) (name : ByteArray) (iv : Value) (m : Nat) (F : Fr) (H1 : Hp) : Prop :=
  ∃ k, k + m = xs.length ∧ F 0 = ptr bk ∧ F 1 = ptr l ∧ F 3 = .string name ∧ F 6 = ptr b6 ∧ F 9 = .int .i64 (cod (ts.any (confT sts z name) || (xs.take k).any (confX sts z ts name))) ∧ F 58 = iv ∧ F 59 = .int .i64 (xs.length : Int) ∧ F 60 = .int .i64 (k : Int) ∧ H1 = H ∧ (xs.take k).any (hitX sts z ts name) = false

theorem taken_ok (h : BookAt H bk ts xs last) (hn : ts.length < 1000000) (hnx : xs.length < 1000000) (hl : LogAt H l S 1 sts) (hb : 1 + sts.length < 10000000000000) (hz : ShotAt H z) (name : ByteArray) :
    ACalls Try.prog w0 30 #[ptr bk, ptr l, .agg #[.int .u64 (z.own : Int), .int .u64 (z.xmin : Int), .int .u64 (z.xmax : Int), z.v], .string name] H fun r H' => r = .int .i64 (takenC sts z ts xs name : Nat) ∧ H' = H := by
  refine ACalls.quiet ?_
  refine acalls_of Try.func30 rfl Try.ntmps30 r30 (by simp) ?_
  simp -implicitDefEqProofs only [go_sem, Nat.reduceEqDiff, Nat.reduceLT, Nat.reduceAdd, Nat.reduceMul, Int.reduceEq, Int.reduceLT, Int.reduceLE, Int.reduceNe, Int.reduceBEq, Int.reduceToNat, ↓reduceIte]
  refine newK_of ?_
  intro b6 H1 hb6 hn6 h6 s1 _
  have l6 := ldc w0 h6 4
  have l6' := ld_own w0 h6
  have h' := h.sub s1
  have hl' := hl.keep (H' := H1) fun b o _ hb => s1 b o hb
  have hz' := hz.sub s1
  have hbk := h'
  obtain ⟨tv, iv, h1, h2, h3, h4, h5⟩ := h'
  have lb := ld_own w0 h1
  obtain ⟨ta, tc, htv⟩ := h2.slice
  simp -implicitDefEqProofs only [go_sem, Nat.reduceEqDiff, Nat.reduceLT, Nat.reduceAdd, Nat.reduceMul, Int.reduceEq, Int.reduceLT, Int.reduceLE, Int.reduceNe, Int.reduceBEq, Int.reduceToNat, ↓reduceIte, lb, htv]
  refine AC.loop (TakI H1 bk l b6 ts sts z name tv) (n := ts.length) ⟨0, by omega, rfl, rfl, rfl, rfl, rfl, by simp -implicitDefEqProofs only [go_sem, Nat.reduceEqDiff, Nat.reduceLT, Nat.reduceAdd, Nat.reduceMul, Int.reduceEq, Int.reduceLT, Int.reduceLE, Int.reduceNe, Int.reduceBEq, Int.reduceToNat, ↓reduceIte, htv], by simp -implicitDefEqProofs only [go_sem, Nat.reduceEqDiff, Nat.reduceLT, Nat.reduceAdd, Nat.reduceMul, Int.reduceEq, Int.reduceLT, Int.reduceLE, Int.reduceNe, Int.reduceBEq, Int.reduceToNat, ↓reduceIte, List.length_map], rfl, rfl, rfl⟩ ?_
  rintro m F H2 ⟨k, hk, f0, f1, f3, f6, f9, f17, f18, f19, rfl, hno⟩
  by_cases c : k < ts.length
  · have d1 : decide ((k : Int) < (ts.length : Int)) = true := by simp; omega
    have d2 : IntKind.i64.wrap ((k : Int) + 1) = (k + 1 : Nat) := by rw [i64_in] <;> omega
    have d3 : decide ((0 : Int) ≤ (k : Int)) = true := by simp
    have hzt : ts[k]? = some ts[k] := by simp [c]
    generalize ts[k] = t at hzt
    have hat := any_take (p := confT sts z name) hzt
    have hht := any_take (p := hitT sts z name) hzt
    obtain ⟨g, cap, hv, hlg⟩ := row_at1 (w0 := w0) h2 (k := k) (y := ptr t.b) (by rw [List.getElem?_map, hzt]; rfl)
    have hen := Tb.en (w0 := w0) (h4 t (List.mem_of_getElem? hzt)).1
    obtain ⟨_, l1, _, l3, _⟩ := id hen
    rw [hv] at f17
    cases hnm : nmE t.e name
    · have hcf : confT sts z name t = false := by unfold confT; rw [hnm]; rfl
      have hhf : hitT sts z name t = false := by unfold hitT; rw [hnm]; rfl
      unfold nmE at hnm
      simp -implicitDefEqProofs only [go_sem, Nat.reduceEqDiff, Nat.reduceLT, Nat.reduceAdd, Nat.reduceMul, Int.reduceEq, Int.reduceLT, Int.reduceLE, Int.reduceNe, Int.reduceBEq, Int.reduceToNat, ↓reduceIte, f0, f1, f3, f6, f9, f17, f18, f19, d1, d2, d3, hlg, l1, hnm]
      rw [hcf, Bool.or_false] at hat
      exact ⟨m - 1, by omega, k + 1, by omega, by simp -implicitDefEqProofs only [go_sem, Nat.reduceEqDiff, Nat.reduceLT, Nat.reduceAdd, Nat.reduceMul, Int.reduceEq, Int.reduceLT, Int.reduceLE, Int.reduceNe, Int.reduceBEq, Int.reduceToNat, ↓reduceIte, f0], by simp -implicitDefEqProofs only [go_sem, Nat.reduceEqDiff, Nat.reduceLT, Nat.reduceAdd, Nat.reduceMul, Int.reduceEq, Int.reduceLT, Int.reduceLE, Int.reduceNe, Int.reduceBEq, Int.reduceToNat, ↓reduceIte, f1], by simp -implicitDefEqProofs only [go_sem, Nat.reduceEqDiff, Nat.reduceLT, Nat.reduceAdd, Nat.reduceMul, Int.reduceEq, Int.reduceLT, Int.reduceLE, Int.reduceNe, Int.reduceBEq, Int.reduceToNat, ↓reduceIte, f3], by simp -implicitDefEqProofs only [go_sem, Nat.reduceEqDiff, Nat.reduceLT, Nat.reduceAdd, Nat.reduceMul, Int.reduceEq, Int.reduceLT, Int.reduceLE, Int.reduceNe, Int.reduceBEq, Int.reduceToNat, ↓reduceIte, f6], by simp -implicitDefEqProofs only [go_sem, Nat.reduceEqDiff, Nat.reduceLT, Nat.reduceAdd, Nat.reduceMul, Int.reduceEq, Int.reduceLT, Int.reduceLE, Int.reduceNe, Int.reduceBEq, Int.reduceToNat, ↓reduceIte, f9, hat], by simp -implicitDefEqProofs only [go_sem, Nat.reduceEqDiff, Nat.reduceLT, Nat.reduceAdd, Nat.reduceMul, Int.reduceEq, Int.reduceLT, Int.reduceLE, Int.reduceNe, Int.reduceBEq, Int.reduceToNat, ↓reduceIte, f17, hv], by simp -implicitDefEqProofs only [go_sem, Nat.reduceEqDiff, Nat.reduceLT, Nat.reduceAdd, Nat.reduceMul, Int.reduceEq, Int.reduceLT, Int.reduceLE, Int.reduceNe, Int.reduceBEq, Int.reduceToNat, ↓reduceIte, f18], by simp -implicitDefEqProofs only [go_sem, Nat.reduceEqDiff, Nat.reduceLT, Nat.reduceAdd, Nat.reduceMul, Int.reduceEq, Int.reduceLT, Int.reduceLE, Int.reduceNe, Int.reduceBEq, Int.reduceToNat, ↓reduceIte], rfl, by rw [hht, hno, hhf]; rfl⟩
    · have hnm' := hnm
      unfold nmE at hnm'
      simp -implicitDefEqProofs only [go_sem, Nat.reduceEqDiff, Nat.reduceLT, Nat.reduceAdd, Nat.reduceMul, Int.reduceEq, Int.reduceLT, Int.reduceLE, Int.reduceNe, Int.reduceBEq, Int.reduceToNat, ↓reduceIte, f0, f1, f3, f6, f9, f17, f18, f19, d1, d3, hlg, l1, hnm']
      refine vdraw_t [⟨0, .p, [], []⟩, ⟨1, .p, [], []⟩, ⟨2, .p, [], []⟩, ⟨3, .p, [], []⟩, ⟨4, .n, [], []⟩, ⟨5, .c, [], []⟩, ⟨6, .p, [], []⟩] [0, 1, 3, 0, 0, 31, 63] mixed (by kernel_rfl) ?_
      simp -implicitDefEqProofs only [go_sem, Nat.reduceEqDiff, Nat.reduceLT, Nat.reduceAdd, Nat.reduceMul, Int.reduceEq, Int.reduceLT, Int.reduceLE, Int.reduceNe, Int.reduceBEq, Int.reduceToNat, ↓reduceIte, f0, f1, f3, f6, f9, f17, f18, f19, l6, ldK_agg]
      refine (ent_vis hen hl' hb hz').mono ?_
      rintro r H3 ⟨rfl, rfl⟩
      cases hvs : visE sts z t.e
      · have hhf : hitT sts z name t = false := by unfold hitT; rw [hnm, hvs]; rfl
        simp -implicitDefEqProofs only [go_sem, Nat.reduceEqDiff, Nat.reduceLT, Nat.reduceAdd, Nat.reduceMul, Int.reduceEq, Int.reduceLT, Int.reduceLE, Int.reduceNe, Int.reduceBEq, Int.reduceToNat, ↓reduceIte, f0, f1, f3, f6, f9, f17, f18, f19]
        refine vdraw_t [⟨0, .p, [], []⟩, ⟨1, .p, [], []⟩, ⟨2, .p, [], []⟩, ⟨3, .p, [], []⟩, ⟨4, .c, [], []⟩, ⟨5, .p, [], []⟩, ⟨6, .p, [], []⟩, ⟨7, .p, [], []⟩, ⟨8, .p, [], []⟩, ⟨9, .p, [], []⟩, ⟨10, .n, [], []⟩, ⟨11, .p, [], []⟩, ⟨12, .n, [], []⟩, ⟨13, .p, [], []⟩, ⟨14, .p, [], []⟩, ⟨15, .p, [], []⟩] [0, 1, 3, 0, 15, 31, 63, 127, 255, 511, 1023, 63, 2111, 8191, 16383, 32767] mixed (by kernel_rfl) ?_
        simp -implicitDefEqProofs only [go_sem, Nat.reduceEqDiff, Nat.reduceLT, Nat.reduceAdd, Nat.reduceMul, Int.reduceEq, Int.reduceLT, Int.reduceLE, Int.reduceNe, Int.reduceBEq, Int.reduceToNat, ↓reduceIte, f0, f1, f3, f6, f9, f17, f18, f19, l6', l3]
        refine (ent_alive hen hl' hb).mono ?_
        rintro r H3' ⟨rfl, rfl⟩
        cases hal : aliveE sts t.e
        · have hcf : confT sts z name t = false := by unfold confT; rw [hnm, hal]; rfl
          simp -implicitDefEqProofs only [go_sem, Nat.reduceEqDiff, Nat.reduceLT, Nat.reduceAdd, Nat.reduceMul, Int.reduceEq, Int.reduceLT, Int.reduceLE, Int.reduceNe, Int.reduceBEq, Int.reduceToNat, ↓reduceIte, f0, f1, f3, f6, f9, f17, f18, f19, d2, l6', l3]
          rw [hcf, Bool.or_false] at hat
          exact ⟨m - 1, by omega, k + 1, by omega, by simp -implicitDefEqProofs only [go_sem, Nat.reduceEqDiff, Nat.reduceLT, Nat.reduceAdd, Nat.reduceMul, Int.reduceEq, Int.reduceLT, Int.reduceLE, Int.reduceNe, Int.reduceBEq, Int.reduceToNat, ↓reduceIte, f0], by simp -implicitDefEqProofs only [go_sem, Nat.reduceEqDiff, Nat.reduceLT, Nat.reduceAdd, Nat.reduceMul, Int.reduceEq, Int.reduceLT, Int.reduceLE, Int.reduceNe, Int.reduceBEq, Int.reduceToNat, ↓reduceIte, f1], by simp -implicitDefEqProofs only [go_sem, Nat.reduceEqDiff, Nat.reduceLT, Nat.reduceAdd, Nat.reduceMul, Int.reduceEq, Int.reduceLT, Int.reduceLE, Int.reduceNe, Int.reduceBEq, Int.reduceToNat, ↓reduceIte, f3], by simp -implicitDefEqProofs only [go_sem, Nat.reduceEqDiff, Nat.reduceLT, Nat.reduceAdd, Nat.reduceMul, Int.reduceEq, Int.reduceLT, Int.reduceLE, Int.reduceNe, Int.reduceBEq, Int.reduceToNat, ↓reduceIte, f6], by simp -implicitDefEqProofs only [go_sem, Nat.reduceEqDiff, Nat.reduceLT, Nat.reduceAdd, Nat.reduceMul, Int.reduceEq, Int.reduceLT, Int.reduceLE, Int.reduceNe, Int.reduceBEq, Int.reduceToNat, ↓reduceIte, f9, hat], by simp -implicitDefEqProofs only [go_sem, Nat.reduceEqDiff, Nat.reduceLT, Nat.reduceAdd, Nat.reduceMul, Int.reduceEq, Int.reduceLT, Int.reduceLE, Int.reduceNe, Int.reduceBEq, Int.reduceToNat, ↓reduceIte, f17, hv], by simp -implicitDefEqProofs only [go_sem, Nat.reduceEqDiff, Nat.reduceLT, Nat.reduceAdd, Nat.reduceMul, Int.reduceEq, Int.reduceLT, Int.reduceLE, Int.reduceNe, Int.reduceBEq, Int.reduceToNat, ↓reduceIte, f18], by simp -implicitDefEqProofs only [go_sem, Nat.reduceEqDiff, Nat.reduceLT, Nat.reduceAdd, Nat.reduceMul, Int.reduceEq, Int.reduceLT, Int.reduceLE, Int.reduceNe, Int.reduceBEq, Int.reduceToNat, ↓reduceIte], rfl, by rw [hht, hno, hhf]; rfl⟩
        · by_cases co : t.e.xmax = z.own
          · have d4 : decide ((t.e.xmax : Int) = (z.own : Int)) = true := by rw [dec_nat]; simp [co]
            have hcf : confT sts z name t = false := by unfold confT; rw [hnm, hal]; simp [co]
            simp -implicitDefEqProofs only [go_sem, Nat.reduceEqDiff, Nat.reduceLT, Nat.reduceAdd, Nat.reduceMul, Int.reduceEq, Int.reduceLT, Int.reduceLE, Int.reduceNe, Int.reduceBEq, Int.reduceToNat, ↓reduceIte, f0, f1, f3, f6, f9, f17, f18, f19, d2, l6', l3, d4]
            rw [hcf, Bool.or_false] at hat
            exact ⟨m - 1, by omega, k + 1, by omega, by simp -implicitDefEqProofs only [go_sem, Nat.reduceEqDiff, Nat.reduceLT, Nat.reduceAdd, Nat.reduceMul, Int.reduceEq, Int.reduceLT, Int.reduceLE, Int.reduceNe, Int.reduceBEq, Int.reduceToNat, ↓reduceIte, f0], by simp -implicitDefEqProofs only [go_sem, Nat.reduceEqDiff, Nat.reduceLT, Nat.reduceAdd, Nat.reduceMul, Int.reduceEq, Int.reduceLT, Int.reduceLE, Int.reduceNe, Int.reduceBEq, Int.reduceToNat, ↓reduceIte, f1], by simp -implicitDefEqProofs only [go_sem, Nat.reduceEqDiff, Nat.reduceLT, Nat.reduceAdd, Nat.reduceMul, Int.reduceEq, Int.reduceLT, Int.reduceLE, Int.reduceNe, Int.reduceBEq, Int.reduceToNat, ↓reduceIte, f3], by simp -implicitDefEqProofs only [go_sem, Nat.reduceEqDiff, Nat.reduceLT, Nat.reduceAdd, Nat.reduceMul, Int.reduceEq, Int.reduceLT, Int.reduceLE, Int.reduceNe, Int.reduceBEq, Int.reduceToNat, ↓reduceIte, f6], by simp -implicitDefEqProofs only [go_sem, Nat.reduceEqDiff, Nat.reduceLT, Nat.reduceAdd, Nat.reduceMul, Int.reduceEq, Int.reduceLT, Int.reduceLE, Int.reduceNe, Int.reduceBEq, Int.reduceToNat, ↓reduceIte, f9, hat], by simp -implicitDefEqProofs only [go_sem, Nat.reduceEqDiff, Nat.reduceLT, Nat.reduceAdd, Nat.reduceMul, Int.reduceEq, Int.reduceLT, Int.reduceLE, Int.reduceNe, Int.reduceBEq, Int.reduceToNat, ↓reduceIte, f17, hv], by simp -implicitDefEqProofs only [go_sem, Nat.reduceEqDiff, Nat.reduceLT, Nat.reduceAdd, Nat.reduceMul, Int.reduceEq, Int.reduceLT, Int.reduceLE, Int.reduceNe, Int.reduceBEq, Int.reduceToNat, ↓reduceIte, f18], by simp -implicitDefEqProofs only [go_sem, Nat.reduceEqDiff, Nat.reduceLT, Nat.reduceAdd, Nat.reduceMul, Int.reduceEq, Int.reduceLT, Int.reduceLE, Int.reduceNe, Int.reduceBEq, Int.reduceToNat, ↓reduceIte], rfl, by rw [hht, hno, hhf]; rfl⟩
          · have d4 : decide ((t.e.xmax : Int) = (z.own : Int)) = false := by rw [dec_nat]; simp [co]
            have hcf : confT sts z name t = true := by unfold confT; rw [hnm, hal]; simp [co]
            simp -implicitDefEqProofs only [go_sem, Nat.reduceEqDiff, Nat.reduceLT, Nat.reduceAdd, Nat.reduceMul, Int.reduceEq, Int.reduceLT, Int.reduceLE, Int.reduceNe, Int.reduceBEq, Int.reduceToNat, ↓reduceIte, f0, f1, f3, f6, f9, f17, f18, f19, d2, l6', l3, d4]
            rw [hcf, Bool.or_true] at hat
            exact ⟨m - 1, by omega, k + 1, by omega, by simp -implicitDefEqProofs only [go_sem, Nat.reduceEqDiff, Nat.reduceLT, Nat.reduceAdd, Nat.reduceMul, Int.reduceEq, Int.reduceLT, Int.reduceLE, Int.reduceNe, Int.reduceBEq, Int.reduceToNat, ↓reduceIte, f0], by simp -implicitDefEqProofs only [go_sem, Nat.reduceEqDiff, Nat.reduceLT, Nat.reduceAdd, Nat.reduceMul, Int.reduceEq, Int.reduceLT, Int.reduceLE, Int.reduceNe, Int.reduceBEq, Int.reduceToNat, ↓reduceIte, f1], by simp -implicitDefEqProofs only [go_sem, Nat.reduceEqDiff, Nat.reduceLT, Nat.reduceAdd, Nat.reduceMul, Int.reduceEq, Int.reduceLT, Int.reduceLE, Int.reduceNe, Int.reduceBEq, Int.reduceToNat, ↓reduceIte, f3], by simp -implicitDefEqProofs only [go_sem, Nat.reduceEqDiff, Nat.reduceLT, Nat.reduceAdd, Nat.reduceMul, Int.reduceEq, Int.reduceLT, Int.reduceLE, Int.reduceNe, Int.reduceBEq, Int.reduceToNat, ↓reduceIte, f6], by rw [hat]; simp -implicitDefEqProofs only [go_sem, Nat.reduceEqDiff, Nat.reduceLT, Nat.reduceAdd, Nat.reduceMul, Int.reduceEq, Int.reduceLT, Int.reduceLE, Int.reduceNe, Int.reduceBEq, Int.reduceToNat, ↓reduceIte]; rfl, by simp -implicitDefEqProofs only [go_sem, Nat.reduceEqDiff, Nat.reduceLT, Nat.reduceAdd, Nat.reduceMul, Int.reduceEq, Int.reduceLT, Int.reduceLE, Int.reduceNe, Int.reduceBEq, Int.reduceToNat, ↓reduceIte, f17, hv], by simp -implicitDefEqProofs only [go_sem, Nat.reduceEqDiff, Nat.reduceLT, Nat.reduceAdd, Nat.reduceMul, Int.reduceEq, Int.reduceLT, Int.reduceLE, Int.reduceNe, Int.reduceBEq, Int.reduceToNat, ↓reduceIte, f18], by simp -implicitDefEqProofs only [go_sem, Nat.reduceEqDiff, Nat.reduceLT, Nat.reduceAdd, Nat.reduceMul, Int.reduceEq, Int.reduceLT, Int.reduceLE, Int.reduceNe, Int.reduceBEq, Int.reduceToNat, ↓reduceIte], rfl, by rw [hht, hno, hhf]; rfl⟩
      · simp -implicitDefEqProofs only [go_sem, Nat.reduceEqDiff, Nat.reduceLT, Nat.reduceAdd, Nat.reduceMul, Int.reduceEq, Int.reduceLT, Int.reduceLE, Int.reduceNe, Int.reduceBEq, Int.reduceToNat, ↓reduceIte, f0, f1, f3, f6, f9, f17, f18, f19]
        have hh := any_at (p := hitT sts z name) hzt (by unfold hitT; rw [hnm, hvs]; rfl)
        unfold takenC
        rw [hh]
        exact ⟨rfl, s1⟩
  · have d1 : decide ((k : Int) < (ts.length : Int)) = false := by simp; omega
    have htk : ts.take k = ts := List.take_of_length_le (by omega)
    rw [htk] at f9 hno
    obtain ⟨ia, ic, hiv⟩ := h3.slice
    simp -implicitDefEqProofs only [go_sem, Nat.reduceEqDiff, Nat.reduceLT, Nat.reduceAdd, Nat.reduceMul, Int.reduceEq, Int.reduceLT, Int.reduceLE, Int.reduceNe, Int.reduceBEq, Int.reduceToNat, ↓reduceIte, f0, f1, f3, f6, f9, f17, f18, f19, d1, lb, hiv]
    refine AC.loop (TakJ H2 bk l b6 ts xs sts z name iv) (n := xs.length) ⟨0, by omega, by simp -implicitDefEqProofs only [go_sem, Nat.reduceEqDiff, Nat.reduceLT, Nat.reduceAdd, Nat.reduceMul, Int.reduceEq, Int.reduceLT, Int.reduceLE, Int.reduceNe, Int.reduceBEq, Int.reduceToNat, ↓reduceIte, f0], by simp -implicitDefEqProofs only [go_sem, Nat.reduceEqDiff, Nat.reduceLT, Nat.reduceAdd, Nat.reduceMul, Int.reduceEq, Int.reduceLT, Int.reduceLE, Int.reduceNe, Int.reduceBEq, Int.reduceToNat, ↓reduceIte, f1], by simp -implicitDefEqProofs only [go_sem, Nat.reduceEqDiff, Nat.reduceLT, Nat.reduceAdd, Nat.reduceMul, Int.reduceEq, Int.reduceLT, Int.reduceLE, Int.reduceNe, Int.reduceBEq, Int.reduceToNat, ↓reduceIte, f3], by simp -implicitDefEqProofs only [go_sem, Nat.reduceEqDiff, Nat.reduceLT, Nat.reduceAdd, Nat.reduceMul, Int.reduceEq, Int.reduceLT, Int.reduceLE, Int.reduceNe, Int.reduceBEq, Int.reduceToNat, ↓reduceIte, f6], by simp -implicitDefEqProofs only [go_sem, Nat.reduceEqDiff, Nat.reduceLT, Nat.reduceAdd, Nat.reduceMul, Int.reduceEq, Int.reduceLT, Int.reduceLE, Int.reduceNe, Int.reduceBEq, Int.reduceToNat, ↓reduceIte, f9, List.take_zero, List.any_nil], by simp -implicitDefEqProofs only [go_sem, Nat.reduceEqDiff, Nat.reduceLT, Nat.reduceAdd, Nat.reduceMul, Int.reduceEq, Int.reduceLT, Int.reduceLE, Int.reduceNe, Int.reduceBEq, Int.reduceToNat, ↓reduceIte, hiv], by simp -implicitDefEqProofs only [go_sem, Nat.reduceEqDiff, Nat.reduceLT, Nat.reduceAdd, Nat.reduceMul, Int.reduceEq, Int.reduceLT, Int.reduceLE, Int.reduceNe, Int.reduceBEq, Int.reduceToNat, ↓reduceIte, List.length_map], by simp -implicitDefEqProofs only [go_sem, Nat.reduceEqDiff, Nat.reduceLT, Nat.reduceAdd, Nat.reduceMul, Int.reduceEq, Int.reduceLT, Int.reduceLE, Int.reduceNe, Int.reduceBEq, Int.reduceToNat, ↓reduceIte], rfl, rfl⟩ ?_
    have hnoT := hno
    clear f0 f1 f3 f6 f9 f17 f18 f19 hno d1 c
    rintro m F H3 ⟨k, hk, f0, f1, f3, f6, f9, f58, f59, f60, rfl, hno⟩
    by_cases c : k < xs.length
    · have d1 : decide ((k : Int) < (xs.length : Int)) = true := by simp; omega
      have d2 : IntKind.i64.wrap ((k : Int) + 1) = (k + 1 : Nat) := by rw [i64_in] <;> omega
      have d3 : decide ((0 : Int) ≤ (k : Int)) = true := by simp
      have hzt : xs[k]? = some xs[k] := by simp [c]
      generalize xs[k] = x at hzt
      have hat : (ts.any (confT sts z name) || (xs.take (k + 1)).any (confX sts z ts name)) = ((ts.any (confT sts z name) || (xs.take k).any (confX sts z ts name)) || confX sts z ts name x) := by rw [any_take hzt, Bool.or_assoc]
      have hht := any_take (p := hitX sts z ts name) hzt
      obtain ⟨g, cap, hv, hlg⟩ := row_at1 (w0 := w0) h3 (k := k) (y := ptr x.b) (by rw [List.getElem?_map, hzt]; rfl)
      have hxc := h5 x (List.mem_of_getElem? hzt)
      have hen := Ix.en (w0 := w0) hxc
      obtain ⟨_, l1, _, l3, _⟩ := id hen
      rw [hv] at f58
      cases hnm : nmE x.e name
      · have hcf : confX sts z ts name x = false := by unfold confX; rw [hnm]; rfl
        have hhf : hitX sts z ts name x = false := by unfold hitX; rw [hnm]; rfl
        unfold nmE at hnm
        simp -implicitDefEqProofs only [go_sem, Nat.reduceEqDiff, Nat.reduceLT, Nat.reduceAdd, Nat.reduceMul, Int.reduceEq, Int.reduceLT, Int.reduceLE, Int.reduceNe, Int.reduceBEq, Int.reduceToNat, ↓reduceIte, f0, f1, f3, f6, f9, f58, f59, f60, d1, d2, d3, hlg, l1, hnm]
        rw [hcf, Bool.or_false] at hat
        exact ⟨m - 1, by omega, k + 1, by omega, by simp -implicitDefEqProofs only [go_sem, Nat.reduceEqDiff, Nat.reduceLT, Nat.reduceAdd, Nat.reduceMul, Int.reduceEq, Int.reduceLT, Int.reduceLE, Int.reduceNe, Int.reduceBEq, Int.reduceToNat, ↓reduceIte, f0], by simp -implicitDefEqProofs only [go_sem, Nat.reduceEqDiff, Nat.reduceLT, Nat.reduceAdd, Nat.reduceMul, Int.reduceEq, Int.reduceLT, Int.reduceLE, Int.reduceNe, Int.reduceBEq, Int.reduceToNat, ↓reduceIte, f1], by simp -implicitDefEqProofs only [go_sem, Nat.reduceEqDiff, Nat.reduceLT, Nat.reduceAdd, Nat.reduceMul, Int.reduceEq, Int.reduceLT, Int.reduceLE, Int.reduceNe, Int.reduceBEq, Int.reduceToNat, ↓reduceIte, f3], by simp -implicitDefEqProofs only [go_sem, Nat.reduceEqDiff, Nat.reduceLT, Nat.reduceAdd, Nat.reduceMul, Int.reduceEq, Int.reduceLT, Int.reduceLE, Int.reduceNe, Int.reduceBEq, Int.reduceToNat, ↓reduceIte, f6], by simp -implicitDefEqProofs only [go_sem, Nat.reduceEqDiff, Nat.reduceLT, Nat.reduceAdd, Nat.reduceMul, Int.reduceEq, Int.reduceLT, Int.reduceLE, Int.reduceNe, Int.reduceBEq, Int.reduceToNat, ↓reduceIte, f9, hat], by simp -implicitDefEqProofs only [go_sem, Nat.reduceEqDiff, Nat.reduceLT, Nat.reduceAdd, Nat.reduceMul, Int.reduceEq, Int.reduceLT, Int.reduceLE, Int.reduceNe, Int.reduceBEq, Int.reduceToNat, ↓reduceIte, f58, hv], by simp -implicitDefEqProofs only [go_sem, Nat.reduceEqDiff, Nat.reduceLT, Nat.reduceAdd, Nat.reduceMul, Int.reduceEq, Int.reduceLT, Int.reduceLE, Int.reduceNe, Int.reduceBEq, Int.reduceToNat, ↓reduceIte, f59], by simp -implicitDefEqProofs only [go_sem, Nat.reduceEqDiff, Nat.reduceLT, Nat.reduceAdd, Nat.reduceMul, Int.reduceEq, Int.reduceLT, Int.reduceLE, Int.reduceNe, Int.reduceBEq, Int.reduceToNat, ↓reduceIte], rfl, by rw [hht, hno, hhf]; rfl⟩
      · have hnm' := hnm
        unfold nmE at hnm'
        simp -implicitDefEqProofs only [go_sem, Nat.reduceEqDiff, Nat.reduceLT, Nat.reduceAdd, Nat.reduceMul, Int.reduceEq, Int.reduceLT, Int.reduceLE, Int.reduceNe, Int.reduceBEq, Int.reduceToNat, ↓reduceIte, f0, f1, f3, f6, f9, f58, f59, f60, d1, d3, hlg, l1, hnm', l6, ldK_agg]
        refine (shown_ok hbk hn hxc hl' hb hz').mono ?_
        rintro r H4 ⟨rfl, rfl⟩
        cases hvs : shownB sts z ts x
        · have hhf : hitX sts z ts name x = false := by unfold hitX; rw [hnm, hvs]; rfl
          simp -implicitDefEqProofs only [go_sem, Nat.reduceEqDiff, Nat.reduceLT, Nat.reduceAdd, Nat.reduceMul, Int.reduceEq, Int.reduceLT, Int.reduceLE, Int.reduceNe, Int.reduceBEq, Int.reduceToNat, ↓reduceIte, f0, f1, f3, f6, f9, f58, f59, f60]
          refine vdraw_t [⟨0, .p, [], []⟩, ⟨1, .p, [], []⟩, ⟨2, .p, [], []⟩, ⟨3, .c, [], []⟩, ⟨4, .p, [], []⟩, ⟨5, .p, [], []⟩, ⟨6, .p, [], []⟩, ⟨7, .p, [], []⟩, ⟨8, .p, [], []⟩, ⟨9, .n, [], []⟩, ⟨10, .p, [], []⟩, ⟨11, .n, [], []⟩, ⟨12, .p, [], []⟩, ⟨13, .p, [], []⟩, ⟨14, .p, [], []⟩] [0, 0, 0, 7, 15, 31, 63, 127, 255, 511, 31, 1055, 4095, 8191, 16383] mixed (by kernel_rfl) ?_
          simp -implicitDefEqProofs only [go_sem, Nat.reduceEqDiff, Nat.reduceLT, Nat.reduceAdd, Nat.reduceMul, Int.reduceEq, Int.reduceLT, Int.reduceLE, Int.reduceNe, Int.reduceBEq, Int.reduceToNat, ↓reduceIte, f0, f1, f3, f6, f9, f58, f59, f60, l6', l3]
          refine (living_ok hbk hn hxc hl' hb).mono ?_
          rintro r H3' ⟨rfl, rfl⟩
          cases hal : livingB sts ts x
          · have hcf : confX sts z ts name x = false := by unfold confX; rw [hnm, hal]; rfl
            simp -implicitDefEqProofs only [go_sem, Nat.reduceEqDiff, Nat.reduceLT, Nat.reduceAdd, Nat.reduceMul, Int.reduceEq, Int.reduceLT, Int.reduceLE, Int.reduceNe, Int.reduceBEq, Int.reduceToNat, ↓reduceIte, f0, f1, f3, f6, f9, f58, f59, f60, d2, l6', l3]
            rw [hcf, Bool.or_false] at hat
            exact ⟨m - 1, by omega, k + 1, by omega, by simp -implicitDefEqProofs only [go_sem, Nat.reduceEqDiff, Nat.reduceLT, Nat.reduceAdd, Nat.reduceMul, Int.reduceEq, Int.reduceLT, Int.reduceLE, Int.reduceNe, Int.reduceBEq, Int.reduceToNat, ↓reduceIte, f0], by simp -implicitDefEqProofs only [go_sem, Nat.reduceEqDiff, Nat.reduceLT, Nat.reduceAdd, Nat.reduceMul, Int.reduceEq, Int.reduceLT, Int.reduceLE, Int.reduceNe, Int.reduceBEq, Int.reduceToNat, ↓reduceIte, f1], by simp -implicitDefEqProofs only [go_sem, Nat.reduceEqDiff, Nat.reduceLT, Nat.reduceAdd, Nat.reduceMul, Int.reduceEq, Int.reduceLT, Int.reduceLE, Int.reduceNe, Int.reduceBEq, Int.reduceToNat, ↓reduceIte, f3], by simp -implicitDefEqProofs only [go_sem, Nat.reduceEqDiff, Nat.reduceLT, Nat.reduceAdd, Nat.reduceMul, Int.reduceEq, Int.reduceLT, Int.reduceLE, Int.reduceNe, Int.reduceBEq, Int.reduceToNat, ↓reduceIte, f6], by simp -implicitDefEqProofs only [go_sem, Nat.reduceEqDiff, Nat.reduceLT, Nat.reduceAdd, Nat.reduceMul, Int.reduceEq, Int.reduceLT, Int.reduceLE, Int.reduceNe, Int.reduceBEq, Int.reduceToNat, ↓reduceIte, f9, hat], by simp -implicitDefEqProofs only [go_sem, Nat.reduceEqDiff, Nat.reduceLT, Nat.reduceAdd, Nat.reduceMul, Int.reduceEq, Int.reduceLT, Int.reduceLE, Int.reduceNe, Int.reduceBEq, Int.reduceToNat, ↓reduceIte, f58, hv], by simp -implicitDefEqProofs only [go_sem, Nat.reduceEqDiff, Nat.reduceLT, Nat.reduceAdd, Nat.reduceMul, Int.reduceEq, Int.reduceLT, Int.reduceLE, Int.reduceNe, Int.reduceBEq, Int.reduceToNat, ↓reduceIte, f59], by simp -implicitDefEqProofs only [go_sem, Nat.reduceEqDiff, Nat.reduceLT, Nat.reduceAdd, Nat.reduceMul, Int.reduceEq, Int.reduceLT, Int.reduceLE, Int.reduceNe, Int.reduceBEq, Int.reduceToNat, ↓reduceIte], rfl, by rw [hht, hno, hhf]; rfl⟩
          · by_cases co : x.e.xmax = z.own
            · have d4 : decide ((x.e.xmax : Int) = (z.own : Int)) = true := by rw [dec_nat]; simp [co]
              have hcf : confX sts z ts name x = false := by unfold confX; rw [hnm, hal]; simp [co]
              simp -implicitDefEqProofs only [go_sem, Nat.reduceEqDiff, Nat.reduceLT, Nat.reduceAdd, Nat.reduceMul, Int.reduceEq, Int.reduceLT, Int.reduceLE, Int.reduceNe, Int.reduceBEq, Int.reduceToNat, ↓reduceIte, f0, f1, f3, f6, f9, f58, f59, f60, d2, l6', l3, d4]
              rw [hcf, Bool.or_false] at hat
              exact ⟨m - 1, by omega, k + 1, by omega, by simp -implicitDefEqProofs only [go_sem, Nat.reduceEqDiff, Nat.reduceLT, Nat.reduceAdd, Nat.reduceMul, Int.reduceEq, Int.reduceLT, Int.reduceLE, Int.reduceNe, Int.reduceBEq, Int.reduceToNat, ↓reduceIte, f0], by simp -implicitDefEqProofs only [go_sem, Nat.reduceEqDiff, Nat.reduceLT, Nat.reduceAdd, Nat.reduceMul, Int.reduceEq, Int.reduceLT, Int.reduceLE, Int.reduceNe, Int.reduceBEq, Int.reduceToNat, ↓reduceIte, f1], by simp -implicitDefEqProofs only [go_sem, Nat.reduceEqDiff, Nat.reduceLT, Nat.reduceAdd, Nat.reduceMul, Int.reduceEq, Int.reduceLT, Int.reduceLE, Int.reduceNe, Int.reduceBEq, Int.reduceToNat, ↓reduceIte, f3], by simp -implicitDefEqProofs only [go_sem, Nat.reduceEqDiff, Nat.reduceLT, Nat.reduceAdd, Nat.reduceMul, Int.reduceEq, Int.reduceLT, Int.reduceLE, Int.reduceNe, Int.reduceBEq, Int.reduceToNat, ↓reduceIte, f6], by simp -implicitDefEqProofs only [go_sem, Nat.reduceEqDiff, Nat.reduceLT, Nat.reduceAdd, Nat.reduceMul, Int.reduceEq, Int.reduceLT, Int.reduceLE, Int.reduceNe, Int.reduceBEq, Int.reduceToNat, ↓reduceIte, f9, hat], by simp -implicitDefEqProofs only [go_sem, Nat.reduceEqDiff, Nat.reduceLT, Nat.reduceAdd, Nat.reduceMul, Int.reduceEq, Int.reduceLT, Int.reduceLE, Int.reduceNe, Int.reduceBEq, Int.reduceToNat, ↓reduceIte, f58, hv], by simp -implicitDefEqProofs only [go_sem, Nat.reduceEqDiff, Nat.reduceLT, Nat.reduceAdd, Nat.reduceMul, Int.reduceEq, Int.reduceLT, Int.reduceLE, Int.reduceNe, Int.reduceBEq, Int.reduceToNat, ↓reduceIte, f59], by simp -implicitDefEqProofs only [go_sem, Nat.reduceEqDiff, Nat.reduceLT, Nat.reduceAdd, Nat.reduceMul, Int.reduceEq, Int.reduceLT, Int.reduceLE, Int.reduceNe, Int.reduceBEq, Int.reduceToNat, ↓reduceIte], rfl, by rw [hht, hno, hhf]; rfl⟩
            · have d4 : decide ((x.e.xmax : Int) = (z.own : Int)) = false := by rw [dec_nat]; simp [co]
              have hcf : confX sts z ts name x = true := by unfold confX; rw [hnm, hal]; simp [co]
              simp -implicitDefEqProofs only [go_sem, Nat.reduceEqDiff, Nat.reduceLT, Nat.reduceAdd, Nat.reduceMul, Int.reduceEq, Int.reduceLT, Int.reduceLE, Int.reduceNe, Int.reduceBEq, Int.reduceToNat, ↓reduceIte, f0, f1, f3, f6, f9, f58, f59, f60, d2, l6', l3, d4]
              rw [hcf, Bool.or_true] at hat
              exact ⟨m - 1, by omega, k + 1, by omega, by simp -implicitDefEqProofs only [go_sem, Nat.reduceEqDiff, Nat.reduceLT, Nat.reduceAdd, Nat.reduceMul, Int.reduceEq, Int.reduceLT, Int.reduceLE, Int.reduceNe, Int.reduceBEq, Int.reduceToNat, ↓reduceIte, f0], by simp -implicitDefEqProofs only [go_sem, Nat.reduceEqDiff, Nat.reduceLT, Nat.reduceAdd, Nat.reduceMul, Int.reduceEq, Int.reduceLT, Int.reduceLE, Int.reduceNe, Int.reduceBEq, Int.reduceToNat, ↓reduceIte, f1], by simp -implicitDefEqProofs only [go_sem, Nat.reduceEqDiff, Nat.reduceLT, Nat.reduceAdd, Nat.reduceMul, Int.reduceEq, Int.reduceLT, Int.reduceLE, Int.reduceNe, Int.reduceBEq, Int.reduceToNat, ↓reduceIte, f3], by simp -implicitDefEqProofs only [go_sem, Nat.reduceEqDiff, Nat.reduceLT, Nat.reduceAdd, Nat.reduceMul, Int.reduceEq, Int.reduceLT, Int.reduceLE, Int.reduceNe, Int.reduceBEq, Int.reduceToNat, ↓reduceIte, f6], by rw [hat]; simp -implicitDefEqProofs only [go_sem, Nat.reduceEqDiff, Nat.reduceLT, Nat.reduceAdd, Nat.reduceMul, Int.reduceEq, Int.reduceLT, Int.reduceLE, Int.reduceNe, Int.reduceBEq, Int.reduceToNat, ↓reduceIte]; rfl, by simp -implicitDefEqProofs only [go_sem, Nat.reduceEqDiff, Nat.reduceLT, Nat.reduceAdd, Nat.reduceMul, Int.reduceEq, Int.reduceLT, Int.reduceLE, Int.reduceNe, Int.reduceBEq, Int.reduceToNat, ↓reduceIte, f58, hv], by simp -implicitDefEqProofs only [go_sem, Nat.reduceEqDiff, Nat.reduceLT, Nat.reduceAdd, Nat.reduceMul, Int.reduceEq, Int.reduceLT, Int.reduceLE, Int.reduceNe, Int.reduceBEq, Int.reduceToNat, ↓reduceIte, f59], by simp -implicitDefEqProofs only [go_sem, Nat.reduceEqDiff, Nat.reduceLT, Nat.reduceAdd, Nat.reduceMul, Int.reduceEq, Int.reduceLT, Int.reduceLE, Int.reduceNe, Int.reduceBEq, Int.reduceToNat, ↓reduceIte], rfl, by rw [hht, hno, hhf]; rfl⟩
        · simp -implicitDefEqProofs only [go_sem, Nat.reduceEqDiff, Nat.reduceLT, Nat.reduceAdd, Nat.reduceMul, Int.reduceEq, Int.reduceLT, Int.reduceLE, Int.reduceNe, Int.reduceBEq, Int.reduceToNat, ↓reduceIte, f0, f1, f3, f6, f9, f58, f59, f60]
          have hh := any_at (p := hitX sts z ts name) hzt (by unfold hitX; rw [hnm, hvs]; rfl)
          unfold takenC
          rw [hh, Bool.or_true]
          exact ⟨rfl, s1⟩
    · have d1 : decide ((k : Int) < (xs.length : Int)) = false := by simp; omega
      have htk : xs.take k = xs := List.take_of_length_le (by omega)
      rw [htk] at f9 hno
      simp -implicitDefEqProofs only [go_sem, Nat.reduceEqDiff, Nat.reduceLT, Nat.reduceAdd, Nat.reduceMul, Int.reduceEq, Int.reduceLT, Int.reduceLE, Int.reduceNe, Int.reduceBEq, Int.reduceToNat, ↓reduceIte, f0, f1, f3, f6, f9, f58, f59, f60, d1]
      unfold takenC cod
      rw [hnoT, hno]
      cases (ts.any (confT sts z name) || xs.any (confX sts z ts name)) <;> exact ⟨rfl, s1⟩
end
end Go.Proofs.Ytcpeiejabbdeiaa
