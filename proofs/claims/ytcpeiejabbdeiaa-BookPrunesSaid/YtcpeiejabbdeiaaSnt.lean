/-
  Snapshots taken.
  Conditions: as each theorem states them.
-/
import Derived.Test.YtcpeiejabbdeiaaSnp
namespace Go.Proofs.Ytcpeiejabbdeiaa
open Go Go.RowKit Go.Proofs.YtcpeiejabbdeiaaW
set_option maxRecDepth 100000
set_option linter.unusedSimpArgs false
set_option linter.unusedVariables false

/-- Who else ran. -/
def others (own : Nat) (xs : List Nat) : List Nat := xs.filter fun x => !decide (x = own)
def least (n : Nat) (xs : List Nat) : Nat := xs.foldl min n
theorem others_take (own : Nat) (xs : List Nat) (k : Nat) (h : k < xs.length) : others own (xs.take (k + 1)) = if xs.getD k 0 = own then others own (xs.take k) else others own (xs.take k) ++ [xs.getD k 0] := by
  have hk : xs[k]? = some (xs.getD k 0) := by simp [h]
  unfold others
  rw [List.take_add_one, hk, List.filter_append]
  split
  · rename_i e
    simp only [Option.toList_some, List.filter_cons, e, decide_true, Bool.not_true, Bool.false_eq_true, if_false, List.filter_nil, List.append_nil]
  · rename_i e
    simp only [Option.toList_some, List.filter_cons, e, decide_false, Bool.not_false, if_true, List.filter_nil]
theorem least_push (n : Nat) (xs : List Nat) (x : Nat) : least n (xs ++ [x]) = min (least n xs) x := by simp [least]
theorem others_len (own : Nat) (xs : List Nat) : (others own xs).length ≤ xs.length := List.length_filter_le _ _
theorem least_le (n : Nat) : ∀ (xs : List Nat), least n xs ≤ n := by
  intro xs
  unfold least
  induction xs generalizing n with
  | nil => exact Nat.le_refl _
  | cons x xs ih => exact Nat.le_trans (ih (min n x)) (Nat.min_le_left _ _)

def TakeI (w0 : World) (H : Hp) (own xmax b4 b5 : Nat) (xs : List Nat) (a : Value) (m : Nat) (F : Fr) (H1 : Hp) : Prop :=
  ∃ (k : Nat) (v : Value), k + m = xs.length ∧ F 1 = .int .u64 (own : Int) ∧ F 4 = ptr b4 ∧ F 5 = ptr b5 ∧ F 15 = a ∧ F 16 = .int .i64 (xs.length : Int) ∧ F 17 = .int .i64 (k : Int) ∧
    H1 b5 = some (.cells #[.int .u64 (own : Int), .int .u64 (least xmax (others own (xs.take k)) : Nat), .int .u64 (xmax : Int), v] 34 (0, 0)) ∧
    H1 b4 = some (.cells #[.int .u64 0, .int .u64 0, .int .u64 0, .slice none 0 0] 34 (0, 0)) ∧
    Row H1 27 1 v (others own (xs.take k)).length (u64s (others own (xs.take k))) ∧ (∀ b, blk v = some b → H b = none ∧ w0.heap.size ≤ b ∧ b ≠ b4 ∧ b ≠ b5 ∧ blk a ≠ some b) ∧
    Row H1 27 1 a xs.length (u64s xs) ∧ Sub H H1

theorem take_log {w0 : World} {H : Hp} {l : Nat} {S : Nat → Prop} {f : Nat} {sts : List Nat} (h : LogAt H l S f sts) (hb : f + sts.length < 10000000000000) (own : Nat) :
    ACalls Try.prog w0 11 #[ptr l, .int .u64 (own : Int)] H fun r H' => ∃ v, r = .agg #[.int .u64 (own : Int), .int .u64 (least (f + sts.length) (others own (runs f sts)) : Nat), .int .u64 ((f + sts.length : Nat) : Int), v] ∧
      Row H' 27 1 v (others own (runs f sts)).length (u64s (others own (runs f sts))) ∧ (∀ b, blk v = some b → H b = none ∧ w0.heap.size ≤ b) ∧ Sub H H' := by
  refine acalls_of Try.func11 rfl Try.ntmps11 r11 (by simp) ?_
  simp only [go_sem, Nat.reduceEqDiff, Nat.reduceLT, Nat.reduceAdd, Nat.reduceMul, Int.reduceEq, Int.reduceLT, Int.reduceLE, Int.reduceNe, Int.reduceBEq, Int.reduceToNat, ↓reduceIte]
  intro b4 hb4 hn4
  have hsub1 : Sub H (H.set b4 (.cells #[.int .u64 0, .int .u64 0, .int .u64 0, .slice none 0 0] 34 (0, 0))) := (Sub.refl H).set hn4 _
  have bd : ∀ a b c : Int, bdCells Try.prog 34 #[(0, .int .u64 a), (1, .int .u64 b), (2, .int .u64 c)] = some #[.int .u64 a, .int .u64 b, .int .u64 c, .slice none 0 0] := fun a b c => by kernel_rfl
  simp only [go_sem, Nat.reduceEqDiff, Nat.reduceLT, Nat.reduceAdd, Nat.reduceMul, Int.reduceEq, Int.reduceLT, Int.reduceLE, Int.reduceNe, Int.reduceBEq, Int.reduceToNat, ↓reduceIte]
  refine (next_log (h.keep fun b o _ hb => hsub1 b o hb) (by omega)).mono ?_
  rintro r H1 ⟨rfl, rfl⟩
  simp only [go_sem, Nat.reduceEqDiff, Nat.reduceLT, Nat.reduceAdd, Nat.reduceMul, Int.reduceEq, Int.reduceLT, Int.reduceLE, Int.reduceNe, Int.reduceBEq, Int.reduceToNat, ↓reduceIte]
  refine (next_log (h.keep fun b o _ hb => hsub1 b o hb) (by omega)).mono ?_
  rintro r H1 ⟨rfl, rfl⟩
  simp only [go_sem, Nat.reduceEqDiff, Nat.reduceLT, Nat.reduceAdd, Nat.reduceMul, Int.reduceEq, Int.reduceLT, Int.reduceLE, Int.reduceNe, Int.reduceBEq, Int.reduceToNat, ↓reduceIte, bd]
  intro b5 hb5 hn5
  have h45 : b5 ≠ b4 := fun e => by rw [e, Hp.set_same] at hn5; cases hn5
  simp only [go_sem, Nat.reduceEqDiff, Nat.reduceLT, Nat.reduceAdd, Nat.reduceMul, Int.reduceEq, Int.reduceLT, Int.reduceLE, Int.reduceNe, Int.reduceBEq, Int.reduceToNat, ↓reduceIte]
  rw [storeK_all (cs := #[.int .u64 (own : Int), .int .u64 ((f + sts.length : Nat) : Int), .int .u64 ((f + sts.length : Nat) : Int), .slice none 0 0]) (Hp.set_same _ b5 (.cells #[.int .u64 0, .int .u64 0, .int .u64 0, .slice none 0 0] 34 (0, 0))) rfl (by simp [cell1_int, cell1_slice])]
  have hsub2 : Sub H ((H.set b4 (.cells #[.int .u64 0, .int .u64 0, .int .u64 0, .slice none 0 0] 34 (0, 0))).set b5 (.cells #[.int .u64 (own : Int), .int .u64 ((f + sts.length : Nat) : Int), .int .u64 ((f + sts.length : Nat) : Int), .slice none 0 0] 34 (0, 0))) := hsub1.set (by
    cases e : H b5 with
    | none => rfl
    | some o => rw [hsub1 _ _ e] at hn5; cases hn5) _
  simp only [go_sem, Nat.reduceEqDiff, Nat.reduceLT, Nat.reduceAdd, Nat.reduceMul, Int.reduceEq, Int.reduceLT, Int.reduceLE, Int.reduceNe, Int.reduceBEq, Int.reduceToNat, ↓reduceIte]
  refine (all_log (h.keep fun b o _ hb => hsub2 b o hb) hb).mono ?_
  rintro a H3 ⟨hrow, hfr, hsub3⟩
  obtain ⟨aa, ac, ha⟩ := hrow.slice
  have hrl : (runs f sts).length ≤ sts.length := runsK_len f sts sts.length
  simp only [go_sem, Nat.reduceEqDiff, Nat.reduceLT, Nat.reduceAdd, Nat.reduceMul, Int.reduceEq, Int.reduceLT, Int.reduceLE, Int.reduceNe, Int.reduceBEq, Int.reduceToNat, ↓reduceIte, ha]
  rw [← ha]
  refine AC.loop (TakeI w0 H own (f + sts.length) b4 b5 (runs f sts) a) (n := (runs f sts).length) ⟨0, .slice none 0 0, by omega, rfl, rfl, rfl, rfl, rfl, rfl, hsub3 _ _ (Hp.set_same _ _ _), hsub3 _ _ (by rw [Hp.set_ne _ _ _ _ h45.symm]; exact Hp.set_same _ _ _), ⟨by simp [others, u64s], .inl ⟨rfl, rfl⟩⟩, by simp [blk], hrow, hsub2.trans hsub3⟩ ?_
  have hb' : (runs f sts).length < 10000000000000 := by omega
  have hb'' : f + sts.length < 10000000000000 := hb
  generalize f + sts.length = xmax at *
  generalize runs f sts = xs at *
  clear hrow hfr hsub3 hsub2 hsub1 ha bd
  rintro m F H1 ⟨k, v, hk, f1, f4, f5, f15, f16, f17, h5c, h4c, hrow, hfr, hall, hsub⟩
  by_cases c : k < xs.length
  · have d1 : decide ((k : Int) < (xs.length : Int)) = true := by simp; omega
    have d2 : IntKind.i64.wrap ((k : Int) + 1) = (k + 1 : Nat) := by rw [i64_in] <;> omega
    have d3 : decide ((0 : Int) ≤ (k : Int)) = true := by simp
    obtain ⟨ga, capa, cura, rfl, hga, hca1, hca2, hca3, hca4⟩ := hall.open1 (by omega)
    have hgl := ld_own w0 hga
    have hcv : cura[k]? = some (.int .u64 (xs.getD k 0 : Nat)) := by rw [hca3 _ c]; simp [u64s, c]
    have hot := others_take own xs k c
    by_cases c2 : xs.getD k 0 = own
    · have d4 : decide (((xs.getD k 0 : Nat) : Int) = (own : Int)) = true := by rw [decide_eq_true_eq]; omega
      simp only [go_sem, Nat.reduceEqDiff, Nat.reduceLT, Nat.reduceAdd, Nat.reduceMul, Int.reduceEq, Int.reduceLT, Int.reduceLE, Int.reduceNe, Int.reduceBEq, Int.reduceToNat, ↓reduceIte, f1, f4, f5, f15, f16, f17, d1, d2, d3, d4, hgl, hcv]
      rw [if_pos c2] at hot
      refine ⟨m - 1, by omega, k + 1, v, by omega, by simp only [go_sem, Nat.reduceEqDiff, Nat.reduceLT, Nat.reduceAdd, Nat.reduceMul, Int.reduceEq, Int.reduceLT, Int.reduceLE, Int.reduceNe, Int.reduceBEq, Int.reduceToNat, ↓reduceIte, f1], by simp only [go_sem, Nat.reduceEqDiff, Nat.reduceLT, Nat.reduceAdd, Nat.reduceMul, Int.reduceEq, Int.reduceLT, Int.reduceLE, Int.reduceNe, Int.reduceBEq, Int.reduceToNat, ↓reduceIte, f4], by simp only [go_sem, Nat.reduceEqDiff, Nat.reduceLT, Nat.reduceAdd, Nat.reduceMul, Int.reduceEq, Int.reduceLT, Int.reduceLE, Int.reduceNe, Int.reduceBEq, Int.reduceToNat, ↓reduceIte, f5], by simp only [go_sem, Nat.reduceEqDiff, Nat.reduceLT, Nat.reduceAdd, Nat.reduceMul, Int.reduceEq, Int.reduceLT, Int.reduceLE, Int.reduceNe, Int.reduceBEq, Int.reduceToNat, ↓reduceIte, f15], by simp only [go_sem, Nat.reduceEqDiff, Nat.reduceLT, Nat.reduceAdd, Nat.reduceMul, Int.reduceEq, Int.reduceLT, Int.reduceLE, Int.reduceNe, Int.reduceBEq, Int.reduceToNat, ↓reduceIte, f16], by simp only [go_sem, Nat.reduceEqDiff, Nat.reduceLT, Nat.reduceAdd, Nat.reduceMul, Int.reduceEq, Int.reduceLT, Int.reduceLE, Int.reduceNe, Int.reduceBEq, Int.reduceToNat, ↓reduceIte], ?_, h4c, ?_, hfr, hall, hsub⟩
      · rw [hot]; exact h5c
      · rw [hot]; exact hrow
    · have d4 : decide (((xs.getD k 0 : Nat) : Int) = (own : Int)) = false := by rw [decide_eq_false_iff_not]; omega
      have hl5 := ld_own w0 h5c
      have bs1 : ∀ x : Int, bsCells Try.prog 27 1 #[(0, .int .u64 x)] = some #[.int .u64 x] := fun x => by kernel_rfl
      simp only [go_sem, Nat.reduceEqDiff, Nat.reduceLT, Nat.reduceAdd, Nat.reduceMul, Int.reduceEq, Int.reduceLT, Int.reduceLE, Int.reduceNe, Int.reduceBEq, Int.reduceToNat, ↓reduceIte, f1, f4, f5, f15, f16, f17, d1, d2, d3, d4, hgl, hcv, hl5, bs1]
      intro nb hnb hnn
      simp only [go_sem, Nat.reduceEqDiff, Nat.reduceLT, Nat.reduceAdd, Nat.reduceMul, Int.reduceEq, Int.reduceLT, Int.reduceLE, Int.reduceNe, Int.reduceBEq, Int.reduceToNat, ↓reduceIte]
      rw [if_neg c2] at hot
      have hol := others_len own (xs.take k)
      have hsub1 : Sub H1 (H1.set nb (.cells #[.int .u64 ((xs.getD k 0 : Nat) : Int)] 27)) := (Sub.refl H1).set hnn _
      refine aop_append_lit (t := 32) (x := .tmp 25) (y := .tmp 27) (c := 1) Try.underlying32 s27 b27 z27 rfl (v := v) (by simp only [go_sem, Nat.reduceEqDiff, Nat.reduceLT, Nat.reduceAdd, Nat.reduceMul, Int.reduceEq, Int.reduceLT, Int.reduceLE, Int.reduceNe, Int.reduceBEq, Int.reduceToNat, ↓reduceIte]) (hrow.keep fun b o _ hb => hsub1 b o hb) (Hp.set_same _ _ _) (by simp only [go_sem, Nat.reduceEqDiff, Nat.reduceLT, Nat.reduceAdd, Nat.reduceMul, Int.reduceEq, Int.reduceLT, Int.reduceLE, Int.reduceNe, Int.reduceBEq, Int.reduceToNat, ↓reduceIte]) rfl (by simp [cell1_int]) (by omega) (by rw [List.length_take] at hol; omega) (by rw [List.length_take] at hol; omega) ?_
      intro g H2 hg hH2 cap' hrow2
      have hgno : ∀ b o, H1 b = some o → blk v ≠ some b → b ≠ g := by
        rintro b o hb hv rfl
        rcases hg with hg | ⟨hg, _⟩
        · exact hv hg.symm
        · rw [hsub1 _ _ hb] at hg; cases hg
      have hv5 : blk v ≠ some b5 := fun e => (hfr _ e).2.2.2.1 rfl
      have hv4 : blk v ≠ some b4 := fun e => (hfr _ e).2.2.1 rfl
      have hva : blk v ≠ some ga := fun e => (hfr _ e).2.2.2.2 rfl
      have hg5 := hgno b5 _ h5c hv5
      have hg4 := hgno b4 _ h4c hv4
      have hg6 := hgno ga _ hga hva
      have hgn : H g = none ∧ w0.heap.size ≤ g := by
        rcases hg with hg | ⟨hg, hw⟩
        · exact ⟨(hfr g hg.symm).1, (hfr g hg.symm).2.1⟩
        · refine ⟨?_, hw⟩
          cases e : H g with
          | none => rfl
          | some o => have := hsub1 _ _ (hsub _ _ e); rw [this] at hg; cases hg
      have h5' := (hH2 b5 hg5).trans (hsub1 _ _ h5c)
      have hw := wr_own h5' 3 (by simp)
      have hl6 := ld_own w0 (Hp.set_same H2 b5 (.cells #[.int .u64 (own : Int), .int .u64 (least xmax (others own (xs.take k)) : Nat), .int .u64 (xmax : Int), .slice (some ⟨g, 0, none⟩) ((others own (xs.take k)).length + 1) cap'] 34 (0, 0)))
      have hw2 := wr_own (Hp.set_same H2 b5 (.cells #[.int .u64 (own : Int), .int .u64 (least xmax (others own (xs.take k)) : Nat), .int .u64 (xmax : Int), .slice (some ⟨g, 0, none⟩) ((others own (xs.take k)).length + 1) cap'] 34 (0, 0))) 1 (by simp)
      have hmin : (if ((xs.getD k 0 : Nat) : Int) < ((least xmax (others own (xs.take k)) : Nat) : Int) then ((xs.getD k 0 : Nat) : Int) else ((least xmax (others own (xs.take k)) : Nat) : Int)) = ((least xmax (others own (xs.take (k + 1))) : Nat) : Int) := by
        rw [hot, least_push]; split <;> omega
      simp only [go_sem, Nat.reduceEqDiff, Nat.reduceLT, Nat.reduceAdd, Nat.reduceMul, Int.reduceEq, Int.reduceLT, Int.reduceLE, Int.reduceNe, Int.reduceBEq, Int.reduceToNat, ↓reduceIte, f1, f4, f5, f15, f16, f17, hw, hl6, hw2, hmin, d2]
      refine ⟨m - 1, by omega, k + 1, .slice (some ⟨g, 0, none⟩) ((others own (xs.take k)).length + 1) cap', by omega, by simp only [go_sem, Nat.reduceEqDiff, Nat.reduceLT, Nat.reduceAdd, Nat.reduceMul, Int.reduceEq, Int.reduceLT, Int.reduceLE, Int.reduceNe, Int.reduceBEq, Int.reduceToNat, ↓reduceIte, f1], by simp only [go_sem, Nat.reduceEqDiff, Nat.reduceLT, Nat.reduceAdd, Nat.reduceMul, Int.reduceEq, Int.reduceLT, Int.reduceLE, Int.reduceNe, Int.reduceBEq, Int.reduceToNat, ↓reduceIte, f4], by simp only [go_sem, Nat.reduceEqDiff, Nat.reduceLT, Nat.reduceAdd, Nat.reduceMul, Int.reduceEq, Int.reduceLT, Int.reduceLE, Int.reduceNe, Int.reduceBEq, Int.reduceToNat, ↓reduceIte, f5], by simp only [go_sem, Nat.reduceEqDiff, Nat.reduceLT, Nat.reduceAdd, Nat.reduceMul, Int.reduceEq, Int.reduceLT, Int.reduceLE, Int.reduceNe, Int.reduceBEq, Int.reduceToNat, ↓reduceIte, f15], by simp only [go_sem, Nat.reduceEqDiff, Nat.reduceLT, Nat.reduceAdd, Nat.reduceMul, Int.reduceEq, Int.reduceLT, Int.reduceLE, Int.reduceNe, Int.reduceBEq, Int.reduceToNat, ↓reduceIte, f16], by simp only [go_sem, Nat.reduceEqDiff, Nat.reduceLT, Nat.reduceAdd, Nat.reduceMul, Int.reduceEq, Int.reduceLT, Int.reduceLE, Int.reduceNe, Int.reduceBEq, Int.reduceToNat, ↓reduceIte], Hp.set_same _ _ _, ?_, ?_, ?_, ?_, ?_⟩
      · rw [Hp.set_ne _ _ _ _ h45.symm, hH2 b4 hg4]; exact hsub1 _ _ h4c
      · rw [hot, List.length_append]
        simp only [u64s, List.map_append]
        refine hrow2.keep fun b o hb ho => ?_
        simp only [blk, Option.some.injEq] at hb
        rw [Hp.set_ne _ _ _ _ (fun e => hg5 (by rw [← e, hb]))]; exact ho
      · intro b hb
        simp only [blk, Option.some.injEq] at hb
        subst hb
        exact ⟨hgn.1, hgn.2, hg4.symm, hg5.symm, fun e => hg6 (by simp only [blk, Option.some.injEq] at e; exact e)⟩
      · refine hall.keep fun b o hb ho => ?_
        simp only [blk, Option.some.injEq] at hb
        subst hb
        have hga5 : ga ≠ b5 := fun e => by
          rw [e, h5c] at hga
          simp only [Option.some.injEq, Obj.cells.injEq] at hga
          exact absurd hga.2.1 (by decide)
        rw [Hp.set_ne _ _ _ _ hga5, hH2 ga hg6]; exact hsub1 _ _ ho
      · intro b o hb
        have n5 : b ≠ b5 := fun e => by
          rw [e] at hb
          have : H.set b4 (.cells #[.int .u64 0, .int .u64 0, .int .u64 0, .slice none 0 0] 34 (0, 0)) b5 = some o := by rw [Hp.set_ne _ _ _ _ h45]; exact hb
          rw [this] at hn5; cases hn5
        rw [Hp.set_ne _ _ _ _ n5, hH2 b (fun e => by rw [e, hgn.1] at hb; cases hb)]
        exact hsub1 _ _ (hsub _ _ hb)
  · have d1 : decide ((k : Int) < (xs.length : Int)) = false := by simp; omega
    have hkx : xs.take k = xs := List.take_of_length_le (by omega)
    rw [hkx] at h5c hrow
    have hl5 := ld_own w0 h5c
    have hl4 : ldCells w0 H1 ⟨b5, 0, none⟩ 0 4 = some [.int .u64 (own : Int), .int .u64 (least xmax (others own xs) : Nat), .int .u64 (xmax : Int), v] := by
      simp only [ldCells, add_at, hl5]; rfl
    have hv1 : cell1 v = true := by obtain ⟨q1, q2, rfl⟩ := hrow.slice; exact cell1_slice
    simp only [go_sem, Nat.reduceEqDiff, Nat.reduceLT, Nat.reduceAdd, Nat.reduceMul, Int.reduceEq, Int.reduceLT, Int.reduceLE, Int.reduceNe, Int.reduceBEq, Int.reduceToNat, ↓reduceIte, f1, f4, f5, f15, f16, f17, d1, ldK_agg, hl4]
    rw [storeK_all (cs := #[.int .u64 (own : Int), .int .u64 (least xmax (others own xs) : Nat), .int .u64 (xmax : Int), v]) h4c rfl (by simp [cell1_int, hv1])]
    have hl7 := ld_own w0 (Hp.set_same H1 b4 (.cells #[.int .u64 (own : Int), .int .u64 (least xmax (others own xs) : Nat), .int .u64 (xmax : Int), v] 34 (0, 0)))
    have hl8 : ldCells w0 (H1.set b4 (.cells #[.int .u64 (own : Int), .int .u64 (least xmax (others own xs) : Nat), .int .u64 (xmax : Int), v] 34 (0, 0))) ⟨b4, 0, none⟩ 0 4 = some [.int .u64 (own : Int), .int .u64 (least xmax (others own xs) : Nat), .int .u64 (xmax : Int), v] := by
      simp only [ldCells, add_at, hl7]; rfl
    simp only [go_sem, Nat.reduceEqDiff, Nat.reduceLT, Nat.reduceAdd, Nat.reduceMul, Int.reduceEq, Int.reduceLT, Int.reduceLE, Int.reduceNe, Int.reduceBEq, Int.reduceToNat, ↓reduceIte, f1, f4, f5, f15, f16, f17, ldK_agg, hl8]
    refine ⟨v, rfl, hrow.keep fun b o hb ho => ?_, fun b hb => ⟨(hfr b hb).1, (hfr b hb).2.1⟩, fun b o hb => ?_⟩
    · rw [Hp.set_ne _ _ _ _ ((hfr b hb).2.2.1)]; exact ho
    · rw [Hp.set_ne _ _ _ _ (fun e => by rw [e, hn4] at hb; cases hb)]; exact hsub _ _ hb
end Go.Proofs.Ytcpeiejabbdeiaa
