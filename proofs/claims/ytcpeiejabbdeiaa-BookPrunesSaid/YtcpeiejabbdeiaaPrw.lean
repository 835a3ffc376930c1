/-
  Prune.
  Conditions: as each theorem states them.
-/
import Derived.Test.YtcpeiejabbdeiaaPrv
namespace Go.Proofs.Ytcpeiejabbdeiaa
open Go Go.RowKit Go.Proofs.YtcpeiejabbdeiaaW
set_option maxRecDepth 100000
set_option maxHeartbeats 1000000
set_option linter.unusedSimpArgs false
set_option linter.unusedVariables false

theorem keptOf_map {α : Type} (f : α → Nat) (d : α → Bool) (ts : List α) : keptOf (ts.map fun t => (f t, d t)) = (ts.filter fun t => !d t).map fun t => ptr (f t) := by
  unfold keptOf
  rw [List.filter_map, List.map_map]
  rfl
theorem map_at {α β : Type} {f : α → β} {ts : List α} {k : Nat} {e : β} (h : (ts.map f)[k]? = some e) : ∃ t, ts[k]? = some t ∧ e = f t := by
  rw [List.getElem?_map] at h
  cases q : ts[k]? with
  | none => rw [q] at h; cases h
  | some t => rw [q] at h; exact ⟨t, rfl, by simpa using h.symm⟩
theorem PJ.first {w0 : World} {H : Hp} {T bt : Nat} {ids : Nat → List Nat} (h : H bt = some (.cells #[.slice none 0 0] 32 (0, 0))) (h0 : ids 0 = []) : PJ w0 H T bt ids 0 H :=
  ⟨_, h, by rw [h0]; exact Row.nil _ _ _, fun b hb => by simp [blk] at hb, fun b o ho _ _ => ho, fun b hb => hb⟩
section
variable {w0 : World} {H : Hp} {l : Nat} {S : Nat → Prop} {sts : List Nat} {bk : Nat} {ts : List Tb} {xs : List Ix} {last : Nat}
def tabsOf (sts : List Nat) (hz : Nat) (ts : List Tb) : List Nat := (ts.filter fun t => deadE sts hz t.e).map fun t => t.e.id
theorem prune_ok (h : BookAt H bk ts xs last) (hn : ts.length < 1000000) (hnx : xs.length < 1000000) (hl : LogAt H l S 1 sts) (hb : 1 + sts.length < 10000000000000) (hz : Nat) :
    ACalls Try.prog w0 22 #[ptr bk, ptr l, .int .u64 (hz : Int)] H fun r H' => Out H H' ∧ BookAt H' bk (ts.filter fun t => !deadE sts hz t.e) (xs.filter fun x => !dX sts hz (tabsOf sts hz ts) x) last := by
  refine acalls_of Try.func22 rfl Try.ntmps22 r22 (by simp) ?_
  simp -implicitDefEqProofs only [go_sem, Nat.reduceEqDiff, Nat.reduceLT, Nat.reduceAdd, Nat.reduceMul, Int.reduceEq, Int.reduceLT, Int.reduceLE, Int.reduceNe, Int.reduceBEq, Int.reduceToNat, ↓reduceIte]
  refine newK_of ?_
  intro bl H1 hbl0 hnl hbl s1 g1
  simp -implicitDefEqProofs only [go_sem, Nat.reduceEqDiff, Nat.reduceLT, Nat.reduceAdd, Nat.reduceMul, Int.reduceEq, Int.reduceLT, Int.reduceLE, Int.reduceNe, Int.reduceBEq, Int.reduceToNat, ↓reduceIte]
  refine newK_of ?_
  intro bh H2 hbh0 hnh hbh s2 g2
  simp -implicitDefEqProofs only [go_sem, Nat.reduceEqDiff, Nat.reduceLT, Nat.reduceAdd, Nat.reduceMul, Int.reduceEq, Int.reduceLT, Int.reduceLE, Int.reduceNe, Int.reduceBEq, Int.reduceToNat, ↓reduceIte]
  refine newK_of ?_
  intro bt H3 hbt0 hnt hbt s3 g3
  simp -implicitDefEqProofs only [go_sem, Nat.reduceEqDiff, Nat.reduceLT, Nat.reduceAdd, Nat.reduceMul, Int.reduceEq, Int.reduceLT, Int.reduceLE, Int.reduceNe, Int.reduceBEq, Int.reduceToNat, ↓reduceIte]
  refine newK_of ?_
  intro bx H4 hbx0 hnx0 hbx s4 g4
  have s04 : Sub H H4 := ((s1.trans s2).trans s3).trans s4
  have h' := h.sub s04
  have hl4 := hl.keep (H' := H4) fun b o _ ho => s04 b o ho
  have hbl4 := s4 _ _ (s3 _ _ (s2 _ _ hbl))
  have hbh4 := s4 _ _ (s3 _ _ hbh)
  have hbt4 := s4 _ _ hbt
  obtain ⟨tv, iv, q1, q2, q3, q4, q5⟩ := h'
  have lb4 := ld_own w0 q1
  have f42 : callOk Try.prog 42 = true := by kernel_rfl
  have f45 : callOk Try.prog 45 = true := by kernel_rfl
  simp -implicitDefEqProofs only [go_sem, Nat.reduceEqDiff, Nat.reduceLT, Nat.reduceAdd, Nat.reduceMul, Int.reduceEq, Int.reduceLT, Int.reduceLE, Int.reduceNe, Int.reduceBEq, Int.reduceToNat, ↓reduceIte, lb4]
  have hnt4 : H bt = none := (s1.trans s2).none hnt
  have hnx4 : H bx = none := ((s1.trans s2).trans s3).none hnx0
  have nbxt : bx ≠ bt := fun e => by rw [e, hbt] at hnx0; cases hnx0
  have hel : (ts.map fun t => (t.b, deadE sts hz t.e)).length = ts.length := List.length_map _
  have hT1 : Tests w0 79 42 #[ptr bl, ptr bh, ptr bt] (ts.map fun t => (t.b, deadE sts hz t.e)) (PJ w0 H4 79 bt (idsT sts hz ts)) := by
    refine ⟨fun k e H' hk hJ => ?_, fun k A B c hJ hc hf hc' => hJ.stay (by decide) (by decide) hc hf hc'⟩
    obtain ⟨t, ht, rfl⟩ := map_at hk
    exact prune1_ok (fun t ht => (q4 t ht).1) hn hl4 hb hbl4 hbh4 (tyAt_of hbt4) ht hJ
  refine (delT_ok f42 hT1 (by rw [hel, List.map_map]; exact q2) (by rw [hel]; exact hn) (PJ.first hbt4 rfl)).mono ?_
  rw [keptOf_map, hel]
  rintro r1 H5 ⟨hr1, hJ1⟩
  obtain ⟨vt, j1, j2, j3, j4, j5⟩ := hJ1
  have eids : idsT sts hz ts ts.length = tabsOf sts hz ts := by unfold idsT tabsOf; rw [List.take_length]
  rw [eids] at j2
  have hlen1 : (tabsOf sts hz ts).length ≤ ts.length := by rw [← eids]; exact idsT_len ts _
  obtain ⟨ra, rc, hrv1⟩ := hr1.slice
  have c1 : cell1 r1 = true := by rw [hrv1]; exact cell1_slice
  have k5 : ∀ b o, H4 b = some o → tyAt H4 b ≠ some 32 → tyAt H4 b ≠ some 79 → H5 b = some o := fun b o ho h1 h2 => j4 b o ho (fun e => h1 (by rw [e, tyAt_of hbt4])) h2
  have q15 := k5 _ _ q1 (by rw [tyAt_of q1]; decide) (by rw [tyAt_of q1]; decide)
  have lb5 := ld_own w0 q15
  have hw5 := wr_own q15 0 (by simp)
  simp -implicitDefEqProofs only [go_sem, Nat.reduceEqDiff, Nat.reduceLT, Nat.reduceAdd, Nat.reduceMul, Int.reduceEq, Int.reduceLT, Int.reduceLE, Int.reduceNe, Int.reduceBEq, Int.reduceToNat, ↓reduceIte, lb5, hw5, c1]
  have g6 : ∀ i, i ≠ bk → (H5.set bk (.cells #[r1, iv, .int .u64 (last : Int)] 73 (0, 0))) i = H5 i := fun i hi => Hp.set_ne _ _ _ _ hi
  have h6 := Hp.set_same H5 bk (.cells #[r1, iv, .int .u64 (last : Int)] 73 (0, 0))
  generalize H5.set bk (.cells #[r1, iv, .int .u64 (last : Int)] 73 (0, 0)) = H6 at g6 h6 ⊢
  have lb6 := ld_own w0 h6
  have k56 : ∀ b o, tyAt H5 b ≠ some 73 → H5 b = some o → H6 b = some o := fun b o ht ho => by rw [g6 b (fun e => ht (by rw [e, tyAt_of q15]))]; exact ho
  have k46 : ∀ b o, H4 b = some o → tyAt H4 b ≠ some 32 → tyAt H4 b ≠ some 79 → tyAt H4 b ≠ some 73 → H6 b = some o := fun b o ho h1 h2 h3 => by
    rw [g6 b (fun e => h3 (by rw [e, tyAt_of q1]))]; exact k5 b o ho h1 h2
  have hbl6 := k46 _ _ hbl4 (by rw [tyAt_of hbl4]; decide) (by rw [tyAt_of hbl4]; decide) (by rw [tyAt_of hbl4]; decide)
  have hbh6 := k46 _ _ hbh4 (by rw [tyAt_of hbh4]; decide) (by rw [tyAt_of hbh4]; decide) (by rw [tyAt_of hbh4]; decide)
  have hbt6 := k56 _ _ (by rw [tyAt_of j1]; decide) j1
  have hbx5 : H5 bx = some (.cells #[.slice none 0 0] 32 (0, 0)) := j4 bx _ hbx nbxt (by rw [tyAt_of hbx]; decide)
  have hbx6 := k56 _ _ (by rw [tyAt_of hbx5]; decide) hbx5
  have hvt6 := j2.keep (H' := H6) fun b o hb ho => k56 b o (by rw [Row.tyAt j2 hb]; decide) ho
  have hl6 := hl4.keep (H' := H6) fun b o hb ho => k46 b o ho (by rcases hl4.ty hb with e | e <;> rw [e] <;> decide) (by rcases hl4.ty hb with e | e <;> rw [e] <;> decide) (by rcases hl4.ty hb with e | e <;> rw [e] <;> decide)
  have hix6 : ∀ x ∈ xs, H6 x.b = some (.cells x.cells.toArray 94 (0, 0)) := fun x hx => k46 _ _ (q5 x hx) (by rw [tyAt_of (q5 x hx)]; decide) (by rw [tyAt_of (q5 x hx)]; decide) (by rw [tyAt_of (q5 x hx)]; decide)
  have hiv6 := q3.keep (H' := H6) fun b o hb ho => k46 b o ho (by rw [Row.tyAt q3 hb]; decide) (by rw [Row.tyAt q3 hb]; decide) (by rw [Row.tyAt q3 hb]; decide)
  simp -implicitDefEqProofs only [go_sem, Nat.reduceEqDiff, Nat.reduceLT, Nat.reduceAdd, Nat.reduceMul, Int.reduceEq, Int.reduceLT, Int.reduceLE, Int.reduceNe, Int.reduceBEq, Int.reduceToNat, ↓reduceIte, lb6]
  have hex : (xs.map fun x => (x.b, dX sts hz (tabsOf sts hz ts) x)).length = xs.length := List.length_map _
  have hT2 : Tests w0 92 45 #[ptr bl, ptr bh, ptr bt, ptr bx] (xs.map fun x => (x.b, dX sts hz (tabsOf sts hz ts) x)) (PJ w0 H6 92 bx (idsX sts hz (tabsOf sts hz ts) xs)) := by
    refine ⟨fun k e H' hk hJ => ?_, fun k A B c hJ hc hf hc' => hJ.stay (by decide) (by decide) hc hf hc'⟩
    obtain ⟨x, hx, rfl⟩ := map_at hk
    exact prune2_ok hix6 hnx hl6 hb hbl6 hbh6 hbt6 nbxt.symm hvt6 (by omega) (tyAt_of hbx6) hx hJ
  refine (delX_ok f45 hT2 (by rw [hex, List.map_map]; exact hiv6) (by rw [hex]; exact hnx) (PJ.first hbx6 rfl)).mono ?_
  rw [keptOf_map, hex]
  rintro r2 H7 ⟨hr2, vx, i1, i2, i3, i4, i5⟩
  obtain ⟨rb, rd, hrv2⟩ := hr2.slice
  have c2 : cell1 r2 = true := by rw [hrv2]; exact cell1_slice
  have k67 : ∀ b o, b ≠ bx → tyAt H6 b ≠ some 92 → H6 b = some o → H7 b = some o := fun b o h1 h2 ho => i4 b o ho h1 h2
  have nbkx : bk ≠ bx := fun e => by have := tyAt_of h6; rw [e, tyAt_of hbx6] at this; exact absurd this (by decide)
  have q17 := k67 _ _ nbkx (by rw [tyAt_of h6]; decide) h6
  have lb7 := ld_own w0 q17
  have hw7 := wr_own q17 1 (by simp)
  simp -implicitDefEqProofs only [go_sem, Nat.reduceEqDiff, Nat.reduceLT, Nat.reduceAdd, Nat.reduceMul, Int.reduceEq, Int.reduceLT, Int.reduceLE, Int.reduceNe, Int.reduceBEq, Int.reduceToNat, ↓reduceIte, lb7, hw7, c2]
  have g8 : ∀ i, i ≠ bk → (H7.set bk (.cells #[r1, r2, .int .u64 (last : Int)] 73 (0, 0))) i = H7 i := fun i hi => Hp.set_ne _ _ _ _ hi
  have h8 := Hp.set_same H7 bk (.cells #[r1, r2, .int .u64 (last : Int)] 73 (0, 0))
  generalize H7.set bk (.cells #[r1, r2, .int .u64 (last : Int)] 73 (0, 0)) = H8 at g8 h8 ⊢
  have nbkt : bk ≠ bt := fun e => by have := tyAt_of q1; rw [e, tyAt_of hbt4] at this; exact absurd this (by decide)
  have l8t := ld_own w0 ((g8 bt nbkt.symm).trans (k67 _ _ nbxt.symm (by rw [tyAt_of hbt6]; decide) hbt6))
  have l8x := ld_own w0 ((g8 bx nbkx.symm).trans i1)
  refine vdraw_t [⟨0, .n, [], []⟩, ⟨1, .n, [], []⟩, ⟨2, .p, [], []⟩, ⟨3, .p, [], []⟩] [0, 0, 1, 7] mixed (by kernel_rfl) ?_
  simp -implicitDefEqProofs only [go_sem, Nat.reduceEqDiff, Nat.reduceLT, Nat.reduceAdd, Nat.reduceMul, Int.reduceEq, Int.reduceLT, Int.reduceLE, Int.reduceNe, Int.reduceBEq, Int.reduceToNat, ↓reduceIte, l8t, l8x]
  have k68 : ∀ b o, b ≠ bx → tyAt H6 b ≠ some 92 → tyAt H6 b ≠ some 73 → H6 b = some o → H8 b = some o := fun b o h1 h2 h3 ho => by
    rw [g8 b (fun e => h3 (by rw [e, tyAt_of h6]))]; exact k67 b o h1 h2 ho
  have k58 : ∀ b o, tyAt H5 b ≠ some 32 → tyAt H5 b ≠ some 92 → tyAt H5 b ≠ some 73 → H5 b = some o → H8 b = some o := fun b o h1 h2 h3 ho => by
    have h6b := k56 b o h3 ho
    have e6 : tyAt H6 b = tyAt H5 b := by unfold tyAt; rw [h6b, ho]
    exact k68 b o (fun e => h1 (by rw [e, tyAt_of hbx5])) (by rw [e6]; exact h2) (by rw [e6]; exact h3) h6b
  have k48 : ∀ b o, H4 b = some o → tyAt H4 b ≠ some 32 → tyAt H4 b ≠ some 79 → tyAt H4 b ≠ some 92 → tyAt H4 b ≠ some 73 → H8 b = some o := fun b o ho h1 h2 h3 h4 => by
    have h5b := k5 b o ho h1 h2
    have e5 : tyAt H5 b = tyAt H4 b := by unfold tyAt; rw [h5b, ho]
    exact k58 b o (by rw [e5]; exact h1) (by rw [e5]; exact h3) (by rw [e5]; exact h4) h5b
  refine ⟨fun b o ht ho => ?_, r1, r2, h8, ?_, ?_, fun t ht => ?_, fun x hx => ?_⟩
  · have ho4 := s04 _ _ ho
    have e4 : tyAt H4 b = tyAt H b := by unfold tyAt; rw [ho4, ho]
    have hne : ∀ n, bookTy (some n) = true → tyAt H b ≠ some n := fun n hn e => by rw [e, hn] at ht; cases ht
    have ho5 := j4 b o ho4 (fun e => by rw [e, hnt4] at ho; cases ho) (by rw [e4]; exact hne _ (by decide))
    have e5 : tyAt H5 b = tyAt H b := by unfold tyAt; rw [ho5, ho]
    have ho6 := k56 b o (by rw [e5]; exact hne _ (by decide)) ho5
    have e6 : tyAt H6 b = tyAt H b := by unfold tyAt; rw [ho6, ho]
    exact k68 b o (fun e => by rw [e, hnx4] at ho; cases ho) (by rw [e6]; exact hne _ (by decide)) (by rw [e6]; exact hne _ (by decide)) ho6
  · rw [List.length_map] at hr1
    exact hr1.keep fun b o hb ho => k58 b o (by rw [Row.tyAt hr1 hb]; decide) (by rw [Row.tyAt hr1 hb]; decide) (by rw [Row.tyAt hr1 hb]; decide) ho
  · rw [List.length_map] at hr2
    exact hr2.keep fun b o hb ho => by
      rw [g8 b (fun e => by have := Row.tyAt hr2 hb; rw [e, tyAt_of q17] at this; exact absurd this (by decide))]; exact ho
  · obtain ⟨u1, u2⟩ := q4 t (List.mem_filter.1 ht).1
    exact ⟨k48 _ _ u1 (by rw [tyAt_of u1]; decide) (by rw [tyAt_of u1]; decide) (by rw [tyAt_of u1]; decide) (by rw [tyAt_of u1]; decide),
      u2.keep fun b o hb ho => k48 b o ho (by rw [Row.tyAt u2 hb]; decide) (by rw [Row.tyAt u2 hb]; decide) (by rw [Row.tyAt u2 hb]; decide) (by rw [Row.tyAt u2 hb]; decide)⟩
  · have u1 := q5 x (List.mem_filter.1 hx).1
    exact k48 _ _ u1 (by rw [tyAt_of u1]; decide) (by rw [tyAt_of u1]; decide) (by rw [tyAt_of u1]; decide) (by rw [tyAt_of u1]; decide)
end
end Go.Proofs.Ytcpeiejabbdeiaa
