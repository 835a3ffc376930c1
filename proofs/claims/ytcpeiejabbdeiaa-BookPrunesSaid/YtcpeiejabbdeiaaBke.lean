/-
  Package book: DropTable, DropIndex.
  Conditions: as each theorem states them.
-/
import Derived.Test.YtcpeiejabbdeiaaBkd
namespace Go.Proofs.Ytcpeiejabbdeiaa
open Go Go.RowKit Go.Proofs.YtcpeiejabbdeiaaW
set_option maxRecDepth 100000
set_option maxHeartbeats 1000000
set_option linter.unusedSimpArgs false
set_option linter.unusedVariables false

def mkT (bs : List Nat) (own : Nat) (t : Tb) : Tb := if t.b ∈ bs then ⟨⟨t.e.id, t.e.name, t.e.xmin, own⟩, t.b, t.cv⟩ else t
def mkX (bs : List Nat) (own : Nat) (x : Ix) : Ix := if x.b ∈ bs then ⟨⟨x.e.id, x.e.name, x.e.xmin, own⟩, x.b, x.tab, x.col⟩ else x
theorem mkT_b (bs : List Nat) (own : Nat) (t : Tb) : (mkT bs own t).b = t.b := by unfold mkT; split <;> rfl
theorem mkX_b (bs : List Nat) (own : Nat) (x : Ix) : (mkX bs own x).b = x.b := by unfold mkX; split <;> rfl
theorem mkT_cv (bs : List Nat) (own : Nat) (t : Tb) : (mkT bs own t).cv = t.cv := by unfold mkT; split <;> rfl
theorem mkT_id (bs : List Nat) (own : Nat) (t : Tb) : (mkT bs own t).e.id = t.e.id := by unfold mkT; split <;> rfl
theorem mkX_tab (bs : List Nat) (own : Nat) (x : Ix) : (mkX bs own x).tab = x.tab := by unfold mkX; split <;> rfl
section
variable {w0 : World} {H H' : Hp} {l : Nat} {S : Nat → Prop} {sts : List Nat} {z : Shot} {bk : Nat} {ts : List Tb} {xs : List Ix} {last : Nat}
theorem BookAt.marked {bs : List Nat} {own : Nat} (h : BookAt H bk ts xs last) (hm : Marked H H' bs (.int .u64 (own : Int))) (hty : ∀ b ∈ bs, tyAt H b = some 88 ∨ tyAt H b = some 94) :
    BookAt H' bk (ts.map (mkT bs own)) (xs.map (mkX bs own)) last := by
  obtain ⟨tv, iv, h1, h2, h3, h4, h5⟩ := h
  have hn : ∀ b, tyAt H b ≠ some 88 → tyAt H b ≠ some 94 → b ∉ bs := fun b t1 t2 hb => (hty b hb).elim t1 t2
  have kr : ∀ {e sz v n xs}, Row H e sz v n xs → e ≠ 88 → e ≠ 94 → Row H' e sz v n xs := fun hr t1 t2 => hr.keep fun b o hb ho => hm.1 b o (hn b (by rw [Row.tyAt hr hb]; exact fun c => t1 (Option.some.inj c)) (by rw [Row.tyAt hr hb]; exact fun c => t2 (Option.some.inj c))) ho
  refine ⟨tv, iv, hm.1 _ _ (hn _ (by rw [tyAt_of h1]; decide) (by rw [tyAt_of h1]; decide)) h1, ?_, ?_, fun t ht => ?_, fun x hx => ?_⟩
  · have e : (ts.map (mkT bs own)).map (fun t => ptr t.b) = ts.map fun t => ptr t.b := by rw [List.map_map]; congr 1; funext t; simp only [Function.comp_apply, mkT_b]
    rw [e, List.length_map]; exact kr h2 (by decide) (by decide)
  · have e : (xs.map (mkX bs own)).map (fun t => ptr t.b) = xs.map fun t => ptr t.b := by rw [List.map_map]; congr 1; funext t; simp only [Function.comp_apply, mkX_b]
    rw [e, List.length_map]; exact kr h3 (by decide) (by decide)
  · obtain ⟨t0, ht0, rfl⟩ := List.mem_map.1 ht
    obtain ⟨q1, q2⟩ := h4 t0 ht0
    refine ⟨?_, by rw [mkT_cv]; exact kr q2 (by decide) (by decide)⟩
    rw [mkT_b]
    by_cases c : t0.b ∈ bs
    · have := hm.2 _ c _ _ q1
      rw [this]
      unfold mkT
      rw [if_pos c]; rfl
    · rw [hm.1 _ _ c q1]
      unfold mkT
      rw [if_neg c]
  · obtain ⟨x0, hx0, rfl⟩ := List.mem_map.1 hx
    have q1 := h5 x0 hx0
    rw [mkX_b]
    by_cases c : x0.b ∈ bs
    · have := hm.2 _ c _ _ q1
      rw [this]
      unfold mkX
      rw [if_pos c]; rfl
    · rw [hm.1 _ _ c q1]
      unfold mkX
      rw [if_neg c]
theorem Marked.outB {bs : List Nat} {v : Value} (hm : Marked H H' bs v) (hty : ∀ b ∈ bs, tyAt H b = some 88 ∨ tyAt H b = some 94) : Out H H' := fun b o ht ho =>
  hm.1 b o (fun hb => by rcases hty b hb with e | e <;> (rw [e] at ht; cases ht)) ho

theorem allocOf_bs {P : Program} {F : Fr} {t e len : Nat} {parts : Array (Nat × Operand)} (ht : P.underlying t = some (.slice e)) :
    allocOf P F (.buildSlice t len parts) = (bsCells P e len (parts.map fun p => (p.1, evF F p.2))).map fun cs => (.cells cs e, fun b => .slice (some ⟨b, 0, none⟩) len len) := by
  unfold allocOf; simp only [ht]
/-! ### DropTable -/
def esT (sts : List Nat) (z : Shot) (ts : List Tb) (xs : List Ix) (t : Tb) : List (Nat × En) := (t.b, t.e) :: (xs.filter (idxP sts z ts t.e.id)).map fun x => (x.b, x.e)
def dropTC (sts : List Nat) (z : Shot) (ts : List Tb) (xs : List Ix) (name : ByteArray) : Nat := match findT sts z ts name with | none => 6 | some t => endC sts z (esT sts z ts xs t)
def DtbI (w0 : World) (H : Hp) (bk l b6 : Nat) (ts : List Tb) (xs : List Ix) (sts : List Nat) (z : Shot) (t : Tb) (iv : Value) (m : Nat) (F : Fr) (H1 : Hp) : Prop :=
  ∃ (k : Nat) (v : Value), k + m = xs.length ∧ F 0 = ptr bk ∧ F 1 = ptr l ∧ F 6 = ptr b6 ∧ F 10 = ptr t.b ∧ F 11 = v ∧ F 31 = iv ∧ F 32 = .int .i64 (xs.length : Int) ∧ F 33 = .int .i64 (k : Int) ∧
    Row H1 99 1 v (esT sts z ts (xs.take k) t).length ((esT sts z ts (xs.take k) t).map fun p => ptr p.1) ∧ (∀ b, blk v = some b → H b = none ∧ w0.heap.size ≤ b) ∧ Sub H H1
theorem endC_or (sts : List Nat) (z : Shot) (es : List (Nat × En)) : endC sts z es = 0 ∨ endC sts z es = 11 := by
  unfold endC; split
  · exact .inr rfl
  · exact .inl rfl
theorem esT_take {k : Nat} {x : Ix} (h : xs[k]? = some x) {t : Tb} : esT sts z ts (xs.take (k + 1)) t = esT sts z ts (xs.take k) t ++ (if idxP sts z ts t.e.id x = true then [(x.b, x.e)] else []) := by
  unfold esT
  rw [filter_take h, List.map_append]
  by_cases c : idxP sts z ts t.e.id x = true
  · rw [if_pos c, if_pos c]; rfl
  · rw [if_neg c, if_neg c]; rfl
theorem esT_len {t : Tb} : (esT sts z ts xs t).length ≤ xs.length + 1 := by
  unfold esT
  have := List.length_filter_le (idxP sts z ts t.e.id) xs
  simp; omega
theorem dropT_ok (h : BookAt H bk ts xs last) (hn : ts.length < 1000000) (hnx : xs.length < 100000) (hl : LogAt H l S 1 sts) (hb : 1 + sts.length < 10000000000000) (hz : ShotAt H z) (name : ByteArray) :
    ACalls Try.prog w0 20 #[ptr bk, ptr l, .agg #[.int .u64 (z.own : Int), .int .u64 (z.xmin : Int), .int .u64 (z.xmax : Int), z.v], .string name] H fun r H' => Out H H' ∧ ∃ id : Nat, r = .tuple #[.int .u64 (id : Int), .int .i64 (dropTC sts z ts xs name : Nat)] ∧
      (dropTC sts z ts xs name ≠ 0 ∧ BookAt H' bk ts xs last ∨ dropTC sts z ts xs name = 0 ∧ ∃ t bs, findT sts z ts name = some t ∧ bs = (esT sts z ts xs t).map (·.1) ∧ BookAt H' bk (ts.map (mkT bs z.own)) (xs.map (mkX bs z.own)) last) := by
  refine acalls_of Try.func20 rfl Try.ntmps20 r20 (by simp) ?_
  simp -implicitDefEqProofs only [go_sem, Nat.reduceEqDiff, Nat.reduceLT, Nat.reduceAdd, Nat.reduceMul, Int.reduceEq, Int.reduceLT, Int.reduceLE, Int.reduceNe, Int.reduceBEq, Int.reduceToNat, ↓reduceIte]
  refine newK_of ?_
  intro b6 H1 hb6 hn6 h6 s1 g1
  have l6 := ldc w0 h6 4
  have h' := h.sub s1
  have hl' := hl.keep (H' := H1) fun b o _ hb => s1 b o hb
  have hz' := hz.sub s1
  simp -implicitDefEqProofs only [go_sem, Nat.reduceEqDiff, Nat.reduceLT, Nat.reduceAdd, Nat.reduceMul, Int.reduceEq, Int.reduceLT, Int.reduceLE, Int.reduceNe, Int.reduceBEq, Int.reduceToNat, ↓reduceIte, l6, ldK_agg]
  refine (table_ok h' hn hl' hb hz' name).mono ?_
  rintro rr H1 ⟨rfl, rfl⟩
  cases hf : findT sts z ts name with
  | none =>
    have hc : dropTC sts z ts xs name = 6 := by unfold dropTC; rw [hf]
    simp -implicitDefEqProofs only [go_sem, Nat.reduceEqDiff, Nat.reduceLT, Nat.reduceAdd, Nat.reduceMul, Int.reduceEq, Int.reduceLT, Int.reduceLE, Int.reduceNe, Int.reduceBEq, Int.reduceToNat, ↓reduceIte, optPtr]
    exact ⟨Out.sub s1, 0, by rw [hc]; rfl, .inl ⟨by omega, h'⟩⟩
  | some t =>
    have htm : t ∈ ts := List.mem_of_find?_eq_some hf
    have hc : dropTC sts z ts xs name = endC sts z (esT sts z ts xs t) := by unfold dropTC; rw [hf]
    have bs1 : ∀ b : Nat, bsCells Try.prog 99 1 #[(0, ptr b)] = some #[ptr b] := fun b => by kernel_rfl
    simp -implicitDefEqProofs only [go_sem, Nat.reduceEqDiff, Nat.reduceLT, Nat.reduceAdd, Nat.reduceMul, Int.reduceEq, Int.reduceLT, Int.reduceLE, Int.reduceNe, Int.reduceBEq, Int.reduceToNat, ↓reduceIte, optPtr, bs1]
    refine newK_of ?_
    intro b11 H2 hb11 hn11 h11 s2 g2
    have h2 := h'.sub s2
    have h2' := h2
    obtain ⟨tv, iv, q1, q2, q3, q4, q5⟩ := h2'
    have lb := ld_own w0 q1
    obtain ⟨ia, ic, hiv⟩ := q3.slice
    have hl2 := hl'.keep (H' := H2) fun b o _ hb => s2 b o hb
    have hz2 := hz'.sub s2
    simp -implicitDefEqProofs only [go_sem, Nat.reduceEqDiff, Nat.reduceLT, Nat.reduceAdd, Nat.reduceMul, Int.reduceEq, Int.reduceLT, Int.reduceLE, Int.reduceNe, Int.reduceBEq, Int.reduceToNat, ↓reduceIte, lb, hiv]
    refine AC.loop (DtbI w0 H1 bk l b6 ts xs sts z t iv) (n := xs.length) ⟨0, .slice (some ⟨b11, 0, none⟩) 1 1, by omega, rfl, rfl, rfl, by simp -implicitDefEqProofs only [go_sem, Nat.reduceEqDiff, Nat.reduceLT, Nat.reduceAdd, Nat.reduceMul, Int.reduceEq, Int.reduceLT, Int.reduceLE, Int.reduceNe, Int.reduceBEq, Int.reduceToNat, ↓reduceIte], by simp -implicitDefEqProofs only [go_sem, Nat.reduceEqDiff, Nat.reduceLT, Nat.reduceAdd, Nat.reduceMul, Int.reduceEq, Int.reduceLT, Int.reduceLE, Int.reduceNe, Int.reduceBEq, Int.reduceToNat, ↓reduceIte], by simp -implicitDefEqProofs only [go_sem, Nat.reduceEqDiff, Nat.reduceLT, Nat.reduceAdd, Nat.reduceMul, Int.reduceEq, Int.reduceLT, Int.reduceLE, Int.reduceNe, Int.reduceBEq, Int.reduceToNat, ↓reduceIte, hiv], by simp -implicitDefEqProofs only [go_sem, Nat.reduceEqDiff, Nat.reduceLT, Nat.reduceAdd, Nat.reduceMul, Int.reduceEq, Int.reduceLT, Int.reduceLE, Int.reduceNe, Int.reduceBEq, Int.reduceToNat, ↓reduceIte, List.length_map], rfl, ⟨rfl, .inr ⟨b11, 1, _, rfl, h11, by simp [esT], by simp, by simp [esT]⟩⟩, fun b hb => by simp only [blk, Option.some.injEq] at hb; subst hb; exact ⟨hn11, hb11⟩, s2⟩ ?_
    rintro m F H3 ⟨k, v, hk, f0, f1, f6, f10, f11, f31, f32, f33, hrow, hfr, s3⟩
    have h3 := h'.sub s3
    have h3' := h3
    have hl3 := hl'.keep (H' := H3) fun b o _ hb => s3 b o hb
    have hz3 := hz'.sub s3
    have l6' := ldc w0 (s3 _ _ h6) 4
    by_cases c : k < xs.length
    · have d1 : decide ((k : Int) < (xs.length : Int)) = true := by simp; omega
      have d2 : IntKind.i64.wrap ((k : Int) + 1) = (k + 1 : Nat) := by rw [i64_in] <;> omega
      have d3 : decide ((0 : Int) ≤ (k : Int)) = true := by simp
      have hxt : xs[k]? = some xs[k] := by simp [c]
      generalize xs[k] = x at hxt
      have hft := esT_take (sts := sts) (z := z) (ts := ts) hxt (t := t)
      have hq3 : Row H3 92 1 iv xs.length (xs.map fun x => ptr x.b) := by
        obtain ⟨tv', iv', w1, w2, w3, w4, w5⟩ := h'
        have e := s2 _ _ w1
        rw [q1] at e
        simp only [Option.some.injEq, Obj.cells.injEq, Array.mk.injEq, List.cons.injEq] at e
        obtain ⟨⟨_, rfl, _⟩, _⟩ := e
        exact w3.keep fun b o _ hb => s3 b o hb
      obtain ⟨g, cap, hv, hlg⟩ := row_at1 (w0 := w0) hq3 (k := k) (y := ptr x.b) (by rw [List.getElem?_map, hxt]; rfl)
      have hxc := h3.idx (List.mem_of_getElem? hxt)
      have lx := ld_own w0 hxc
      have x4 : x.cells.toArray[4]? = some (.int .u64 (x.tab : Int)) := rfl
      have htc := (h3.tab htm).1
      have lt := ld_own w0 htc
      have t0 : t.cells.toArray[0]? = some (.int .u64 (t.e.id : Int)) := rfl
      rw [hv] at f31
      simp -implicitDefEqProofs only [go_sem, Nat.reduceEqDiff, Nat.reduceLT, Nat.reduceAdd, Nat.reduceMul, Int.reduceEq, Int.reduceLT, Int.reduceLE, Int.reduceNe, Int.reduceBEq, Int.reduceToNat, ↓reduceIte, f0, f1, f6, f10, f11, f31, f32, f33, d1, d3, hlg]
      refine vdraw_t [⟨0, .p, [], []⟩, ⟨1, .p, [], []⟩, ⟨2, .p, [], []⟩, ⟨3, .n, [], []⟩, ⟨4, .p, [], []⟩, ⟨5, .p, [], []⟩, ⟨6, .p, [], []⟩, ⟨7, .p, [], []⟩, ⟨8, .n, [], []⟩, ⟨9, .p, [], []⟩, ⟨10, .p, [], []⟩, ⟨11, .p, [], []⟩, ⟨12, .p, [], []⟩, ⟨13, .p, [], []⟩, ⟨14, .n, [], []⟩, ⟨15, .c, [], []⟩, ⟨16, .p, [], []⟩] [0, 1, 3, 7, 0, 16, 48, 112, 240, 511, 1023, 2047, 2047, 2047, 2047, 32767, 65535] mixed (by kernel_rfl) ?_
      by_cases co : x.tab = t.e.id
      · have d4 : decide ((x.tab : Int) = (t.e.id : Int)) = true := by rw [dec_nat]; simp [co]
        simp -implicitDefEqProofs only [go_sem, Nat.reduceEqDiff, Nat.reduceLT, Nat.reduceAdd, Nat.reduceMul, Int.reduceEq, Int.reduceLT, Int.reduceLE, Int.reduceNe, Int.reduceBEq, Int.reduceToNat, ↓reduceIte, f0, f1, f6, f10, f11, f31, f32, f33, lx, x4, lt, t0, d4, l6', ldK_agg]
        refine (shown_ok h3 hn hxc hl3 hb hz3).mono ?_
        rintro rr H4 ⟨rfl, rfl⟩
        cases hsh : shownB sts z ts x
        · have hp : idxP sts z ts t.e.id x = false := by unfold idxP; rw [hsh, Bool.and_false]
          rw [hp] at hft
          simp only [Bool.false_eq_true, if_false, List.append_nil] at hft
          simp -implicitDefEqProofs only [go_sem, Nat.reduceEqDiff, Nat.reduceLT, Nat.reduceAdd, Nat.reduceMul, Int.reduceEq, Int.reduceLT, Int.reduceLE, Int.reduceNe, Int.reduceBEq, Int.reduceToNat, ↓reduceIte, f0, f1, f6, f10, f11, f31, f32, f33, d2, lx, x4, lt, t0, d4, l6', ldK_agg]
          exact ⟨m - 1, by omega, k + 1, v, by omega, by simp -implicitDefEqProofs only [go_sem, Nat.reduceEqDiff, Nat.reduceLT, Nat.reduceAdd, Nat.reduceMul, Int.reduceEq, Int.reduceLT, Int.reduceLE, Int.reduceNe, Int.reduceBEq, Int.reduceToNat, ↓reduceIte, f0], by simp -implicitDefEqProofs only [go_sem, Nat.reduceEqDiff, Nat.reduceLT, Nat.reduceAdd, Nat.reduceMul, Int.reduceEq, Int.reduceLT, Int.reduceLE, Int.reduceNe, Int.reduceBEq, Int.reduceToNat, ↓reduceIte, f1], by simp -implicitDefEqProofs only [go_sem, Nat.reduceEqDiff, Nat.reduceLT, Nat.reduceAdd, Nat.reduceMul, Int.reduceEq, Int.reduceLT, Int.reduceLE, Int.reduceNe, Int.reduceBEq, Int.reduceToNat, ↓reduceIte, f6], by simp -implicitDefEqProofs only [go_sem, Nat.reduceEqDiff, Nat.reduceLT, Nat.reduceAdd, Nat.reduceMul, Int.reduceEq, Int.reduceLT, Int.reduceLE, Int.reduceNe, Int.reduceBEq, Int.reduceToNat, ↓reduceIte, f10], by simp -implicitDefEqProofs only [go_sem, Nat.reduceEqDiff, Nat.reduceLT, Nat.reduceAdd, Nat.reduceMul, Int.reduceEq, Int.reduceLT, Int.reduceLE, Int.reduceNe, Int.reduceBEq, Int.reduceToNat, ↓reduceIte, f11], by simp -implicitDefEqProofs only [go_sem, Nat.reduceEqDiff, Nat.reduceLT, Nat.reduceAdd, Nat.reduceMul, Int.reduceEq, Int.reduceLT, Int.reduceLE, Int.reduceNe, Int.reduceBEq, Int.reduceToNat, ↓reduceIte, f31, hv], by simp -implicitDefEqProofs only [go_sem, Nat.reduceEqDiff, Nat.reduceLT, Nat.reduceAdd, Nat.reduceMul, Int.reduceEq, Int.reduceLT, Int.reduceLE, Int.reduceNe, Int.reduceBEq, Int.reduceToNat, ↓reduceIte, f32], by simp -implicitDefEqProofs only [go_sem, Nat.reduceEqDiff, Nat.reduceLT, Nat.reduceAdd, Nat.reduceMul, Int.reduceEq, Int.reduceLT, Int.reduceLE, Int.reduceNe, Int.reduceBEq, Int.reduceToNat, ↓reduceIte], by rw [hft]; exact hrow, hfr, s3⟩
        · have hp : idxP sts z ts t.e.id x = true := by unfold idxP; rw [hsh, decide_eq_true co]; rfl
          rw [hp] at hft
          simp only [if_true] at hft
          simp -implicitDefEqProofs only [go_sem, Nat.reduceEqDiff, Nat.reduceLT, Nat.reduceAdd, Nat.reduceMul, Int.reduceEq, Int.reduceLT, Int.reduceLE, Int.reduceNe, Int.reduceBEq, Int.reduceToNat, ↓reduceIte, f0, f1, f6, f10, f11, f31, f32, f33, lx, x4, lt, t0, d4, l6', ldK_agg, bs1]
          refine newK_of ?_
          intro nb H5 hnb hnn h5n s5 g5
          simp -implicitDefEqProofs only [go_sem, Nat.reduceEqDiff, Nat.reduceLT, Nat.reduceAdd, Nat.reduceMul, Int.reduceEq, Int.reduceLT, Int.reduceLE, Int.reduceNe, Int.reduceBEq, Int.reduceToNat, ↓reduceIte, f0, f1, f6, f10, f11, f31, f32, f33]
          have hel : (esT sts z ts (xs.take k) t).length ≤ k + 1 := Nat.le_trans esT_len (by rw [List.length_take]; omega)
          refine aop_append_lit (t := 100) (x := .tmp 54) (y := .tmp 58) (c := 1) Try.underlying100 s99 b99 z99 rfl (v := v) (by simp -implicitDefEqProofs only [go_sem, Nat.reduceEqDiff, Nat.reduceLT, Nat.reduceAdd, Nat.reduceMul, Int.reduceEq, Int.reduceLT, Int.reduceLE, Int.reduceNe, Int.reduceBEq, Int.reduceToNat, ↓reduceIte]) (hrow.keep (H' := H5) fun b o _ hb => s5 b o hb) h5n (by simp -implicitDefEqProofs only [go_sem, Nat.reduceEqDiff, Nat.reduceLT, Nat.reduceAdd, Nat.reduceMul, Int.reduceEq, Int.reduceLT, Int.reduceLE, Int.reduceNe, Int.reduceBEq, Int.reduceToNat, ↓reduceIte]) rfl (by simp [cell1_ptr]) (by omega) (by omega) (by omega) ?_
          intro g6 H6 hg6 hH6 cap6 hrow6
          obtain ⟨s6, hgn, hgw⟩ := app_fresh (s3.trans s5) hfr hg6 hH6
          simp -implicitDefEqProofs only [go_sem, Nat.reduceEqDiff, Nat.reduceLT, Nat.reduceAdd, Nat.reduceMul, Int.reduceEq, Int.reduceLT, Int.reduceLE, Int.reduceNe, Int.reduceBEq, Int.reduceToNat, ↓reduceIte, f0, f1, f6, f10, f11, f31, f32, f33, d2]
          refine ⟨m - 1, by omega, k + 1, .slice (some ⟨g6, 0, none⟩) ((esT sts z ts (xs.take k) t).length + 1) cap6, by omega, by simp -implicitDefEqProofs only [go_sem, Nat.reduceEqDiff, Nat.reduceLT, Nat.reduceAdd, Nat.reduceMul, Int.reduceEq, Int.reduceLT, Int.reduceLE, Int.reduceNe, Int.reduceBEq, Int.reduceToNat, ↓reduceIte, f0], by simp -implicitDefEqProofs only [go_sem, Nat.reduceEqDiff, Nat.reduceLT, Nat.reduceAdd, Nat.reduceMul, Int.reduceEq, Int.reduceLT, Int.reduceLE, Int.reduceNe, Int.reduceBEq, Int.reduceToNat, ↓reduceIte, f1], by simp -implicitDefEqProofs only [go_sem, Nat.reduceEqDiff, Nat.reduceLT, Nat.reduceAdd, Nat.reduceMul, Int.reduceEq, Int.reduceLT, Int.reduceLE, Int.reduceNe, Int.reduceBEq, Int.reduceToNat, ↓reduceIte, f6], by simp -implicitDefEqProofs only [go_sem, Nat.reduceEqDiff, Nat.reduceLT, Nat.reduceAdd, Nat.reduceMul, Int.reduceEq, Int.reduceLT, Int.reduceLE, Int.reduceNe, Int.reduceBEq, Int.reduceToNat, ↓reduceIte, f10], by simp -implicitDefEqProofs only [go_sem, Nat.reduceEqDiff, Nat.reduceLT, Nat.reduceAdd, Nat.reduceMul, Int.reduceEq, Int.reduceLT, Int.reduceLE, Int.reduceNe, Int.reduceBEq, Int.reduceToNat, ↓reduceIte], by simp -implicitDefEqProofs only [go_sem, Nat.reduceEqDiff, Nat.reduceLT, Nat.reduceAdd, Nat.reduceMul, Int.reduceEq, Int.reduceLT, Int.reduceLE, Int.reduceNe, Int.reduceBEq, Int.reduceToNat, ↓reduceIte, f31, hv], by simp -implicitDefEqProofs only [go_sem, Nat.reduceEqDiff, Nat.reduceLT, Nat.reduceAdd, Nat.reduceMul, Int.reduceEq, Int.reduceLT, Int.reduceLE, Int.reduceNe, Int.reduceBEq, Int.reduceToNat, ↓reduceIte, f32], by simp -implicitDefEqProofs only [go_sem, Nat.reduceEqDiff, Nat.reduceLT, Nat.reduceAdd, Nat.reduceMul, Int.reduceEq, Int.reduceLT, Int.reduceLE, Int.reduceNe, Int.reduceBEq, Int.reduceToNat, ↓reduceIte], ?_, ?_, s6⟩
          · rw [hft, List.length_append, List.length_singleton, List.map_append, List.map_cons, List.map_nil]
            exact hrow6
          · intro b hb
            simp only [blk, Option.some.injEq] at hb
            subst hb; exact ⟨hgn, hgw⟩
      · have d4 : decide ((x.tab : Int) = (t.e.id : Int)) = false := by rw [dec_nat]; simp [co]
        have hp : idxP sts z ts t.e.id x = false := by unfold idxP; rw [decide_eq_false co]; rfl
        rw [hp] at hft
        simp only [Bool.false_eq_true, if_false, List.append_nil] at hft
        simp -implicitDefEqProofs only [go_sem, Nat.reduceEqDiff, Nat.reduceLT, Nat.reduceAdd, Nat.reduceMul, Int.reduceEq, Int.reduceLT, Int.reduceLE, Int.reduceNe, Int.reduceBEq, Int.reduceToNat, ↓reduceIte, f0, f1, f6, f10, f11, f31, f32, f33, d2, lx, x4, lt, t0, d4, l6', ldK_agg]
        exact ⟨m - 1, by omega, k + 1, v, by omega, by simp -implicitDefEqProofs only [go_sem, Nat.reduceEqDiff, Nat.reduceLT, Nat.reduceAdd, Nat.reduceMul, Int.reduceEq, Int.reduceLT, Int.reduceLE, Int.reduceNe, Int.reduceBEq, Int.reduceToNat, ↓reduceIte, f0], by simp -implicitDefEqProofs only [go_sem, Nat.reduceEqDiff, Nat.reduceLT, Nat.reduceAdd, Nat.reduceMul, Int.reduceEq, Int.reduceLT, Int.reduceLE, Int.reduceNe, Int.reduceBEq, Int.reduceToNat, ↓reduceIte, f1], by simp -implicitDefEqProofs only [go_sem, Nat.reduceEqDiff, Nat.reduceLT, Nat.reduceAdd, Nat.reduceMul, Int.reduceEq, Int.reduceLT, Int.reduceLE, Int.reduceNe, Int.reduceBEq, Int.reduceToNat, ↓reduceIte, f6], by simp -implicitDefEqProofs only [go_sem, Nat.reduceEqDiff, Nat.reduceLT, Nat.reduceAdd, Nat.reduceMul, Int.reduceEq, Int.reduceLT, Int.reduceLE, Int.reduceNe, Int.reduceBEq, Int.reduceToNat, ↓reduceIte, f10], by simp -implicitDefEqProofs only [go_sem, Nat.reduceEqDiff, Nat.reduceLT, Nat.reduceAdd, Nat.reduceMul, Int.reduceEq, Int.reduceLT, Int.reduceLE, Int.reduceNe, Int.reduceBEq, Int.reduceToNat, ↓reduceIte, f11], by simp -implicitDefEqProofs only [go_sem, Nat.reduceEqDiff, Nat.reduceLT, Nat.reduceAdd, Nat.reduceMul, Int.reduceEq, Int.reduceLT, Int.reduceLE, Int.reduceNe, Int.reduceBEq, Int.reduceToNat, ↓reduceIte, f31, hv], by simp -implicitDefEqProofs only [go_sem, Nat.reduceEqDiff, Nat.reduceLT, Nat.reduceAdd, Nat.reduceMul, Int.reduceEq, Int.reduceLT, Int.reduceLE, Int.reduceNe, Int.reduceBEq, Int.reduceToNat, ↓reduceIte, f32], by simp -implicitDefEqProofs only [go_sem, Nat.reduceEqDiff, Nat.reduceLT, Nat.reduceAdd, Nat.reduceMul, Int.reduceEq, Int.reduceLT, Int.reduceLE, Int.reduceNe, Int.reduceBEq, Int.reduceToNat, ↓reduceIte], by rw [hft]; exact hrow, hfr, s3⟩
    · have d1 : decide ((k : Int) < (xs.length : Int)) = false := by simp; omega
      have htk : xs.take k = xs := List.take_of_length_le (by omega)
      rw [htk] at hrow
      simp -implicitDefEqProofs only [go_sem, Nat.reduceEqDiff, Nat.reduceLT, Nat.reduceAdd, Nat.reduceMul, Int.reduceEq, Int.reduceLT, Int.reduceLE, Int.reduceNe, Int.reduceBEq, Int.reduceToNat, ↓reduceIte, f0, f1, f6, f10, f11, f31, f32, f33, d1, l6', ldK_agg]
      have hel : (esT sts z ts xs t).length ≤ xs.length + 1 := esT_len
      have hmem : ∀ p ∈ esT sts z ts xs t, EnAt w0 H3 p.1 p.2 ∧ ∃ c e, H3 p.1 = some (.cells c e (0, 0)) ∧ 3 < c.size ∧ (e = 88 ∨ e = 94) := by
        intro p hp
        unfold esT at hp
        rcases List.mem_cons.1 hp with rfl | hp
        · have := (h3.tab htm).1
          exact ⟨Tb.en this, _, _, this, by simp [Tb.cells], .inl rfl⟩
        · obtain ⟨x, hx, rfl⟩ := List.mem_map.1 hp
          have := h3.idx (List.mem_filter.1 hx).1
          exact ⟨Ix.en this, _, _, this, by simp [Ix.cells], .inr rfl⟩
      refine (end11_ok hl3 hb hz3 (by omega) hrow (fun p hp => by
        obtain ⟨a1, c, e, a2, a3, a4⟩ := hmem p hp
        exact ⟨a1, c, e, a2, a3, by rcases a4 with rfl | rfl <;> decide⟩)).mono ?_
      rintro rr H7 ⟨rfl, he11, he0⟩
      have hty : ∀ b ∈ (esT sts z ts xs t).map (·.1), tyAt H3 b = some 88 ∨ tyAt H3 b = some 94 := fun b hb => by
        obtain ⟨p, hp, rfl⟩ := List.mem_map.1 hb
        obtain ⟨_, c, e, a2, _, a4⟩ := hmem p hp
        rw [tyAt_of a2]
        rcases a4 with rfl | rfl
        · exact .inl rfl
        · exact .inr rfl
      have s03 := s1.trans s3
      by_cases ce : endC sts z (esT sts z ts xs t) = 0
      · have e1 : decide (((endC sts z (esT sts z ts xs t) : Nat) : Int) = 0) = true := by rw [dec_zero]; simp [ce]
        have hm := he0 ce
        have hbm := h3.marked hm hty
        have lt7 := (hbm.tab (List.mem_map.2 ⟨t, htm, rfl⟩)).1
        rw [mkT_b] at lt7
        have lt7' := ld_own w0 lt7
        have t0 : (mkT ((esT sts z ts xs t).map (·.1)) z.own t).cells.toArray[0]? = some (.int .u64 (t.e.id : Int)) := by rw [← mkT_id ((esT sts z ts xs t).map (·.1)) z.own t]; rfl
        simp -implicitDefEqProofs only [go_sem, Nat.reduceEqDiff, Nat.reduceLT, Nat.reduceAdd, Nat.reduceMul, Int.reduceEq, Int.reduceLT, Int.reduceLE, Int.reduceNe, Int.reduceBEq, Int.reduceToNat, ↓reduceIte, f0, f1, f6, f10, f11, f31, f32, f33, e1, lt7', t0]
        refine ⟨fun b o ht ho => (hm.outB hty) b o (by unfold tyAt at ht ⊢; rw [s03 _ _ ho]; rw [ho] at ht; exact ht) (s03 _ _ ho), t.e.id, by rw [hc, ce]; rfl, .inr ⟨by rw [hc, ce], t, _, rfl, rfl, hbm⟩⟩
      · have hc11 : endC sts z (esT sts z ts xs t) = 11 := (endC_or _ _ _).resolve_left ce
        have e1 : decide (((endC sts z (esT sts z ts xs t) : Nat) : Int) = 0) = false := by rw [dec_zero]; simp [ce]
        have s7 := he11 hc11
        simp -implicitDefEqProofs only [go_sem, Nat.reduceEqDiff, Nat.reduceLT, Nat.reduceAdd, Nat.reduceMul, Int.reduceEq, Int.reduceLT, Int.reduceLE, Int.reduceNe, Int.reduceBEq, Int.reduceToNat, ↓reduceIte, f0, f1, f6, f10, f11, f31, f32, f33, e1]
        exact ⟨Out.sub (s03.trans s7), 0, by rw [hc]; rfl, .inl ⟨by rw [hc]; exact ce, h3.sub s7⟩⟩

/-! ### DropIndex -/
def findX (sts : List Nat) (z : Shot) (ts : List Tb) (xs : List Ix) (name : ByteArray) : Option Ix := xs.find? (hitX sts z ts name)
def dropXC (sts : List Nat) (z : Shot) (ts : List Tb) (xs : List Ix) (name : ByteArray) : Nat := match findX sts z ts xs name with | none => 6 | some x => endC sts z [(x.b, x.e)]
def DixI (H : Hp) (bk l b6 : Nat) (ts : List Tb) (xs : List Ix) (sts : List Nat) (z : Shot) (name : ByteArray) (iv : Value) (m : Nat) (F : Fr) (H1 : Hp) : Prop :=
  ∃ k, k + m = xs.length ∧ F 0 = ptr bk ∧ F 1 = ptr l ∧ F 3 = .string name ∧ F 6 = ptr b6 ∧ F 18 = iv ∧ F 19 = .int .i64 (xs.length : Int) ∧ F 20 = .int .i64 (k : Int) ∧ H1 = H ∧ ∀ i x, i < k → xs[i]? = some x → hitX sts z ts name x = false
theorem dropX_ok (h : BookAt H bk ts xs last) (hn : ts.length < 1000000) (hnx : xs.length < 100000) (hl : LogAt H l S 1 sts) (hb : 1 + sts.length < 10000000000000) (hz : ShotAt H z) (name : ByteArray) :
    ACalls Try.prog w0 21 #[ptr bk, ptr l, .agg #[.int .u64 (z.own : Int), .int .u64 (z.xmin : Int), .int .u64 (z.xmax : Int), z.v], .string name] H fun r H' => Out H H' ∧ ∃ id : Nat, r = .tuple #[.int .u64 (id : Int), .int .i64 (dropXC sts z ts xs name : Nat)] ∧
      (BookAt H' bk ts xs last ∨ ∃ bs, BookAt H' bk (ts.map (mkT bs z.own)) (xs.map (mkX bs z.own)) last) := by
  refine acalls_of Try.func21 rfl Try.ntmps21 r21 (by simp) ?_
  simp -implicitDefEqProofs only [go_sem, Nat.reduceEqDiff, Nat.reduceLT, Nat.reduceAdd, Nat.reduceMul, Int.reduceEq, Int.reduceLT, Int.reduceLE, Int.reduceNe, Int.reduceBEq, Int.reduceToNat, ↓reduceIte]
  refine newK_of ?_
  intro b6 H1 hb6 hn6 h6 s1 g1
  have l6 := ldc w0 h6 4
  have h' := h.sub s1
  have hbk := h'
  have hl' := hl.keep (H' := H1) fun b o _ hb => s1 b o hb
  have hz' := hz.sub s1
  obtain ⟨tv, iv, q1, q2, q3, q4, q5⟩ := h'
  have lb := ld_own w0 q1
  obtain ⟨ia, ic, hiv⟩ := q3.slice
  simp -implicitDefEqProofs only [go_sem, Nat.reduceEqDiff, Nat.reduceLT, Nat.reduceAdd, Nat.reduceMul, Int.reduceEq, Int.reduceLT, Int.reduceLE, Int.reduceNe, Int.reduceBEq, Int.reduceToNat, ↓reduceIte, lb, hiv]
  refine AC.loop (DixI H1 bk l b6 ts xs sts z name iv) (n := xs.length) ⟨0, by omega, rfl, rfl, rfl, rfl, by simp -implicitDefEqProofs only [go_sem, Nat.reduceEqDiff, Nat.reduceLT, Nat.reduceAdd, Nat.reduceMul, Int.reduceEq, Int.reduceLT, Int.reduceLE, Int.reduceNe, Int.reduceBEq, Int.reduceToNat, ↓reduceIte, hiv], by simp -implicitDefEqProofs only [go_sem, Nat.reduceEqDiff, Nat.reduceLT, Nat.reduceAdd, Nat.reduceMul, Int.reduceEq, Int.reduceLT, Int.reduceLE, Int.reduceNe, Int.reduceBEq, Int.reduceToNat, ↓reduceIte, List.length_map], rfl, rfl, fun i x hi => by omega⟩ ?_
  rintro m F H2 ⟨k, hk, f0, f1, f3, f6, f18, f19, f20, rfl, hno⟩
  by_cases c : k < xs.length
  · have d1 : decide ((k : Int) < (xs.length : Int)) = true := by simp; omega
    have d2 : IntKind.i64.wrap ((k : Int) + 1) = (k + 1 : Nat) := by rw [i64_in] <;> omega
    have d3 : decide ((0 : Int) ≤ (k : Int)) = true := by simp
    have hxt : xs[k]? = some xs[k] := by simp [c]
    generalize xs[k] = x at hxt
    obtain ⟨g, cap, hv, hlg⟩ := row_at1 (w0 := w0) q3 (k := k) (y := ptr x.b) (by rw [List.getElem?_map, hxt]; rfl)
    have hxc := q5 x (List.mem_of_getElem? hxt)
    have hen := Ix.en (w0 := w0) hxc
    obtain ⟨l0, l1, _⟩ := id hen
    rw [hv] at f18
    have next : hitX sts z ts name x = false → ∀ i x', i < k + 1 → xs[i]? = some x' → hitX sts z ts name x' = false := fun hx i x' hi hx' => by
      by_cases e : i = k
      · rw [e, hxt] at hx'; cases hx'; exact hx
      · exact hno i x' (by omega) hx'
    cases hnm : nmE x.e name
    · have hhf : hitX sts z ts name x = false := by unfold hitX; rw [hnm]; rfl
      unfold nmE at hnm
      simp -implicitDefEqProofs only [go_sem, Nat.reduceEqDiff, Nat.reduceLT, Nat.reduceAdd, Nat.reduceMul, Int.reduceEq, Int.reduceLT, Int.reduceLE, Int.reduceNe, Int.reduceBEq, Int.reduceToNat, ↓reduceIte, f0, f1, f3, f6, f18, f19, f20, d1, d2, d3, hlg, l1, hnm]
      exact ⟨m - 1, by omega, k + 1, by omega, by simp -implicitDefEqProofs only [go_sem, Nat.reduceEqDiff, Nat.reduceLT, Nat.reduceAdd, Nat.reduceMul, Int.reduceEq, Int.reduceLT, Int.reduceLE, Int.reduceNe, Int.reduceBEq, Int.reduceToNat, ↓reduceIte, f0], by simp -implicitDefEqProofs only [go_sem, Nat.reduceEqDiff, Nat.reduceLT, Nat.reduceAdd, Nat.reduceMul, Int.reduceEq, Int.reduceLT, Int.reduceLE, Int.reduceNe, Int.reduceBEq, Int.reduceToNat, ↓reduceIte, f1], by simp -implicitDefEqProofs only [go_sem, Nat.reduceEqDiff, Nat.reduceLT, Nat.reduceAdd, Nat.reduceMul, Int.reduceEq, Int.reduceLT, Int.reduceLE, Int.reduceNe, Int.reduceBEq, Int.reduceToNat, ↓reduceIte, f3], by simp -implicitDefEqProofs only [go_sem, Nat.reduceEqDiff, Nat.reduceLT, Nat.reduceAdd, Nat.reduceMul, Int.reduceEq, Int.reduceLT, Int.reduceLE, Int.reduceNe, Int.reduceBEq, Int.reduceToNat, ↓reduceIte, f6], by simp -implicitDefEqProofs only [go_sem, Nat.reduceEqDiff, Nat.reduceLT, Nat.reduceAdd, Nat.reduceMul, Int.reduceEq, Int.reduceLT, Int.reduceLE, Int.reduceNe, Int.reduceBEq, Int.reduceToNat, ↓reduceIte, f18, hv], by simp -implicitDefEqProofs only [go_sem, Nat.reduceEqDiff, Nat.reduceLT, Nat.reduceAdd, Nat.reduceMul, Int.reduceEq, Int.reduceLT, Int.reduceLE, Int.reduceNe, Int.reduceBEq, Int.reduceToNat, ↓reduceIte, f19], by simp -implicitDefEqProofs only [go_sem, Nat.reduceEqDiff, Nat.reduceLT, Nat.reduceAdd, Nat.reduceMul, Int.reduceEq, Int.reduceLT, Int.reduceLE, Int.reduceNe, Int.reduceBEq, Int.reduceToNat, ↓reduceIte], rfl, next hhf⟩
    · have hnm' := hnm
      unfold nmE at hnm'
      simp -implicitDefEqProofs only [go_sem, Nat.reduceEqDiff, Nat.reduceLT, Nat.reduceAdd, Nat.reduceMul, Int.reduceEq, Int.reduceLT, Int.reduceLE, Int.reduceNe, Int.reduceBEq, Int.reduceToNat, ↓reduceIte, f0, f1, f3, f6, f18, f19, f20, d1, d3, hlg, l1, hnm', l6, ldK_agg]
      refine (shown_ok hbk hn hxc hl' hb hz').mono ?_
      rintro rr H3 ⟨rfl, rfl⟩
      cases hvs : shownB sts z ts x
      · have hhf : hitX sts z ts name x = false := by unfold hitX; rw [hnm, hvs]; rfl
        simp -implicitDefEqProofs only [go_sem, Nat.reduceEqDiff, Nat.reduceLT, Nat.reduceAdd, Nat.reduceMul, Int.reduceEq, Int.reduceLT, Int.reduceLE, Int.reduceNe, Int.reduceBEq, Int.reduceToNat, ↓reduceIte, f0, f1, f3, f6, f18, f19, f20, d2]
        exact ⟨m - 1, by omega, k + 1, by omega, by simp -implicitDefEqProofs only [go_sem, Nat.reduceEqDiff, Nat.reduceLT, Nat.reduceAdd, Nat.reduceMul, Int.reduceEq, Int.reduceLT, Int.reduceLE, Int.reduceNe, Int.reduceBEq, Int.reduceToNat, ↓reduceIte, f0], by simp -implicitDefEqProofs only [go_sem, Nat.reduceEqDiff, Nat.reduceLT, Nat.reduceAdd, Nat.reduceMul, Int.reduceEq, Int.reduceLT, Int.reduceLE, Int.reduceNe, Int.reduceBEq, Int.reduceToNat, ↓reduceIte, f1], by simp -implicitDefEqProofs only [go_sem, Nat.reduceEqDiff, Nat.reduceLT, Nat.reduceAdd, Nat.reduceMul, Int.reduceEq, Int.reduceLT, Int.reduceLE, Int.reduceNe, Int.reduceBEq, Int.reduceToNat, ↓reduceIte, f3], by simp -implicitDefEqProofs only [go_sem, Nat.reduceEqDiff, Nat.reduceLT, Nat.reduceAdd, Nat.reduceMul, Int.reduceEq, Int.reduceLT, Int.reduceLE, Int.reduceNe, Int.reduceBEq, Int.reduceToNat, ↓reduceIte, f6], by simp -implicitDefEqProofs only [go_sem, Nat.reduceEqDiff, Nat.reduceLT, Nat.reduceAdd, Nat.reduceMul, Int.reduceEq, Int.reduceLT, Int.reduceLE, Int.reduceNe, Int.reduceBEq, Int.reduceToNat, ↓reduceIte, f18, hv], by simp -implicitDefEqProofs only [go_sem, Nat.reduceEqDiff, Nat.reduceLT, Nat.reduceAdd, Nat.reduceMul, Int.reduceEq, Int.reduceLT, Int.reduceLE, Int.reduceNe, Int.reduceBEq, Int.reduceToNat, ↓reduceIte, f19], by simp -implicitDefEqProofs only [go_sem, Nat.reduceEqDiff, Nat.reduceLT, Nat.reduceAdd, Nat.reduceMul, Int.reduceEq, Int.reduceLT, Int.reduceLE, Int.reduceNe, Int.reduceBEq, Int.reduceToNat, ↓reduceIte], rfl, next hhf⟩
      · have hff : findX sts z ts xs name = some x := by
          unfold findX
          exact find_some (fun i t hi ht => hno i t hi ht) hxt (by unfold hitX; rw [hnm, hvs]; rfl)
        have hc : dropXC sts z ts xs name = endC sts z [(x.b, x.e)] := by unfold dropXC; rw [hff]
        have bs1 : ∀ b : Nat, bsCells Try.prog 99 1 #[(0, ptr b)] = some #[ptr b] := fun b => by kernel_rfl
        simp -implicitDefEqProofs only [go_sem, Nat.reduceEqDiff, Nat.reduceLT, Nat.reduceAdd, Nat.reduceMul, Int.reduceEq, Int.reduceLT, Int.reduceLE, Int.reduceNe, Int.reduceBEq, Int.reduceToNat, ↓reduceIte, f0, f1, f3, f6, f18, f19, f20]
        refine vdraw_t [⟨0, .p, [], []⟩, ⟨1, .n, [], []⟩, ⟨2, .p, [], []⟩, ⟨3, .p, [], []⟩, ⟨4, .p, [], []⟩, ⟨5, .c, [1], []⟩, ⟨6, .c, [], []⟩, ⟨7, .p, [], []⟩] [0, 0, 0, 4, 12, 28, 63, 127] mixed (by kernel_rfl) ?_
        simp -implicitDefEqProofs only [go_sem, Nat.reduceEqDiff, Nat.reduceLT, Nat.reduceAdd, Nat.reduceMul, Int.reduceEq, Int.reduceLT, Int.reduceLE, Int.reduceNe, Int.reduceBEq, Int.reduceToNat, ↓reduceIte, f0, f1, f3, f6, f18, f19, f20, l6, ldK_agg, bs1, allocOf_bs Try.underlying100]
        refine newK_of ?_
        intro nb H4 hnb hnn h4n s4 g4
        have hrow : Row H4 99 1 (.slice (some ⟨nb, 0, none⟩) 1 1) 1 [ptr x.b] := ⟨rfl, .inr ⟨nb, 1, _, rfl, h4n, by omega, rfl, rfl⟩⟩
        have h4 := hbk.sub s4
        have hx4 := s4 _ _ hxc
        have l6' := ldc w0 (s4 _ _ h6) 4
        simp -implicitDefEqProofs only [go_sem, Nat.reduceEqDiff, Nat.reduceLT, Nat.reduceAdd, Nat.reduceMul, Int.reduceEq, Int.reduceLT, Int.reduceLE, Int.reduceNe, Int.reduceBEq, Int.reduceToNat, ↓reduceIte, f0, f1, f3, f6, f18, f19, f20, l6', ldK_agg]
        refine (end11_ok (es := [(x.b, x.e)]) (hl'.keep fun b o _ hb => s4 b o hb) hb (hz'.sub s4) (by simp) hrow (fun p hp => by
          simp only [List.mem_singleton] at hp
          subst hp
          exact ⟨Ix.en hx4, _, _, hx4, by simp [Ix.cells], by decide⟩)).mono ?_
        rintro rr H7 ⟨rfl, he11, he0⟩
        have hty : ∀ b ∈ [x.b], tyAt H4 b = some 88 ∨ tyAt H4 b = some 94 := fun b hb => by
          simp only [List.mem_singleton] at hb
          subst hb; exact .inr (tyAt_of hx4)
        have s04 := s1.trans s4
        by_cases ce : endC sts z [(x.b, x.e)] = 0
        · have e1 : decide (((endC sts z [(x.b, x.e)] : Nat) : Int) = 0) = true := by rw [dec_zero]; simp [ce]
          have hm := he0 ce
          have hbm := h4.marked hm hty
          have lx7 := hbm.idx (List.mem_map.2 ⟨x, List.mem_of_getElem? hxt, rfl⟩)
          rw [mkX_b] at lx7
          have lx7' := ld_own w0 lx7
          have x0 : (mkX [x.b] z.own x).cells.toArray[0]? = some (.int .u64 (x.e.id : Int)) := by
            have : (mkX [x.b] z.own x).e.id = x.e.id := by unfold mkX; split <;> rfl
            rw [← this]; rfl
          simp -implicitDefEqProofs only [go_sem, Nat.reduceEqDiff, Nat.reduceLT, Nat.reduceAdd, Nat.reduceMul, Int.reduceEq, Int.reduceLT, Int.reduceLE, Int.reduceNe, Int.reduceBEq, Int.reduceToNat, ↓reduceIte, f0, f1, f3, f6, f18, f19, f20, e1, lx7', x0]
          exact ⟨fun b o ht ho => (hm.outB hty) b o (by unfold tyAt at ht ⊢; rw [s04 _ _ ho]; rw [ho] at ht; exact ht) (s04 _ _ ho), x.e.id, by rw [hc, ce]; rfl, .inr ⟨_, hbm⟩⟩
        · have e1 : decide (((endC sts z [(x.b, x.e)] : Nat) : Int) = 0) = false := by rw [dec_zero]; simp [ce]
          have s7 := he11 ((endC_or _ _ _).resolve_left ce)
          simp -implicitDefEqProofs only [go_sem, Nat.reduceEqDiff, Nat.reduceLT, Nat.reduceAdd, Nat.reduceMul, Int.reduceEq, Int.reduceLT, Int.reduceLE, Int.reduceNe, Int.reduceBEq, Int.reduceToNat, ↓reduceIte, f0, f1, f3, f6, f18, f19, f20, e1]
          exact ⟨Out.sub (s04.trans s7), 0, by rw [hc]; rfl, .inl (h4.sub s7)⟩
  · have d1 : decide ((k : Int) < (xs.length : Int)) = false := by simp; omega
    have hc : dropXC sts z ts xs name = 6 := by
      unfold dropXC findX
      rw [find_none (fun i x hi hx => hno i x (by omega) hx)]
    simp -implicitDefEqProofs only [go_sem, Nat.reduceEqDiff, Nat.reduceLT, Nat.reduceAdd, Nat.reduceMul, Int.reduceEq, Int.reduceLT, Int.reduceLE, Int.reduceNe, Int.reduceBEq, Int.reduceToNat, ↓reduceIte, f0, f1, f3, f6, f18, f19, f20, d1]
    exact ⟨Out.sub s1, 0, by rw [hc]; rfl, .inl hbk⟩
end
end Go.Proofs.Ytcpeiejabbdeiaa
