/-
  The document's log: those that run; whether two lists are alike.
  Conditions: as each theorem states them.
-/
import Derived.Test.YtmpepacfnckadaaRf9
namespace Go.Proofs.Ytmpepacfnckadaa
open Go Go.RowKit Go.Proofs.YtmpepacfnckadaaW
set_option maxRecDepth 100000
set_option linter.unusedSimpArgs false
set_option linter.unusedVariables false

theorem rall_nil (w0 : World) (H : Hp) : ACalls Try.prog w0 26 #[.pointer none] H fun r H' => r = .slice none 0 0 ∧ H' = H := by
  refine acalls_of Try.func26 rfl Try.ntmps26 r26 (by simp) ?_
  simp only [go_sem, Nat.reduceEqDiff, Nat.reduceLT, Nat.reduceAdd, Nat.reduceMul, Int.reduceEq, Int.reduceLT, Int.reduceLE, Int.reduceNe, Int.reduceBEq, Int.reduceToNat, ↓reduceIte]

def RAllI (w0 : World) (H : Hp) (l first : Nat) (sts : List Nat) (sl : Value) (m : Nat) (F : Fr) (H1 : Hp) : Prop :=
  ∃ k v, k + m = sts.length ∧ F 0 = .pointer (some ⟨l, 0, none⟩) ∧ F 11 = sl ∧ F 12 = .int .i64 (sts.length : Int) ∧ F 13 = .int .i64 (k : Int) ∧ F 3 = v ∧ Row H1 23 1 v (runsK first sts k).length (u64s (runsK first sts k)) ∧
    (∀ b, blk v = some b → H b = none ∧ w0.heap.size ≤ b) ∧ Sub H H1

theorem rall_ref {w0 : World} {H : Hp} {l : Nat} {S : Nat → Prop} {first : Nat} {sts : List Nat} (h : RefAt H l S first sts) (hb : first + sts.length < 10000000000000) :
    ACalls Try.prog w0 26 #[.pointer (some ⟨l, 0, none⟩)] H fun r H' => Row H' 23 1 r (runs first sts).length (u64s (runs first sts)) ∧ (∀ b, blk r = some b → H b = none ∧ w0.heap.size ≤ b) ∧ Sub H H' := by
  have h0 := h
  obtain ⟨sl, h1, h2, h4, h5⟩ := h
  have hl := ld_own w0 h1
  obtain ⟨sa, sc, hsl⟩ := h2.slice
  refine acalls_of Try.func26 rfl Try.ntmps26 r26 (by simp) ?_
  simp only [go_sem, Nat.reduceEqDiff, Nat.reduceLT, Nat.reduceAdd, Nat.reduceMul, Int.reduceEq, Int.reduceLT, Int.reduceLE, Int.reduceNe, Int.reduceBEq, Int.reduceToNat, ↓reduceIte, hl, hsl]
  refine AC.loop (RAllI w0 H l first sts sl) (n := sts.length) ⟨0, .slice none 0 0, by omega, rfl, hsl.symm, rfl, rfl, rfl, ⟨by simp [runsK, u64s], .inl ⟨rfl, rfl⟩⟩, by simp [blk], Sub.refl H⟩ ?_
  rintro m F H1 ⟨k, v, hk, f0, f11, f12, f13, f3, hrow, hfr, hsub⟩
  by_cases c : k < sts.length
  · have e1 : decide ((k : Int) < (sts.length : Int)) = true := by simp; omega
    have hl1 := ld_own w0 (hsub _ _ h1)
    obtain ⟨g, cap, cur, rfl, hg, hc1, hc2, hc3, hc4⟩ := h2.open1 (by omega)
    have hgl := ld_own w0 (hsub _ _ hg)
    have hcv : cur[k]? = some (.int .i64 (sts.getD k 0 : Nat)) := by
      rw [hc3 _ c]; simp [i64s, c]
    have e2 : IntKind.u64.wrap ((first : Int) + (k : Int)) = (first + k : Nat) := by rw [u64_in] <;> omega
    have e2' : IntKind.u64.wrap (k : Int) = (k : Int) := by rw [u64_in] <;> omega
    have e3 : IntKind.i64.wrap ((k : Int) + 1) = (k + 1 : Nat) := by rw [i64_in] <;> omega
    have e6 : decide ((0 : Int) ≤ (k : Int)) = true := by simp
    by_cases c2 : sts.getD k 0 = 1
    · have e4 : decide (((sts.getD k 0 : Nat) : Int) = 1) = true := by simp only [c2]; decide
      have bs1 : ∀ x : Int, bsCells Try.prog 23 1 #[(0, .int .u64 x)] = some #[.int .u64 x] := fun x => by kernel_rfl
      simp only [go_sem, Nat.reduceEqDiff, Nat.reduceLT, Nat.reduceAdd, Nat.reduceMul, Int.reduceEq, Int.reduceLT, Int.reduceLE, Int.reduceNe, Int.reduceBEq, Int.reduceToNat, ↓reduceIte, f0, f11, f12, f13, f3, e1, e6, hgl, hcv, hl1, e2, e2', e3, e4, bs1]
      intro nb hnb hnn
      simp only [go_sem, Nat.reduceEqDiff, Nat.reduceLT, Nat.reduceAdd, Nat.reduceMul, Int.reduceEq, Int.reduceLT, Int.reduceLE, Int.reduceNe, Int.reduceBEq, Int.reduceToNat, ↓reduceIte]
      have hlen := runsK_len first sts k
      have hsub1 : Sub H1 (H1.set nb (.cells #[.int .u64 ((first + k : Nat) : Int)] 23)) := (Sub.refl H1).set hnn _
      refine aop_append_lit (t := 30) (x := .tmp 20) (y := .tmp 28) (c := 1) Try.underlying30 s23 b23 z23 rfl (v := v) (by simp only [go_sem, Nat.reduceEqDiff, Nat.reduceLT, Nat.reduceAdd, Nat.reduceMul, Int.reduceEq, Int.reduceLT, Int.reduceLE, Int.reduceNe, Int.reduceBEq, Int.reduceToNat, ↓reduceIte, f3]) (hrow.keep fun b o _ hb => hsub1 b o hb) (Hp.set_same _ _ _) (by simp only [go_sem, Nat.reduceEqDiff, Nat.reduceLT, Nat.reduceAdd, Nat.reduceMul, Int.reduceEq, Int.reduceLT, Int.reduceLE, Int.reduceNe, Int.reduceBEq, Int.reduceToNat, ↓reduceIte]) rfl (by simp [cell1_int]) (by omega) (by omega) (by omega) ?_
      intro g' H2 hg' hH2 cap' hrow2
      simp only [go_sem, Nat.reduceEqDiff, Nat.reduceLT, Nat.reduceAdd, Nat.reduceMul, Int.reduceEq, Int.reduceLT, Int.reduceLE, Int.reduceNe, Int.reduceBEq, Int.reduceToNat, ↓reduceIte, f13, e3]
      have hgn : H g' = none ∧ w0.heap.size ≤ g' := by
        rcases hg' with hg' | ⟨hg', hw⟩
        · exact hfr g' hg'.symm
        · refine ⟨?_, hw⟩
          cases e : H g' with
          | none => rfl
          | some o => have := hsub1 _ _ (hsub _ _ e); rw [this] at hg'; cases hg'
      refine ⟨m - 1, by omega, k + 1, .slice (some ⟨g', 0, none⟩) ((runsK first sts k).length + 1) cap', by omega, by simp only [go_sem, Nat.reduceEqDiff, Nat.reduceLT, Nat.reduceAdd, Nat.reduceMul, Int.reduceEq, Int.reduceLT, Int.reduceLE, Int.reduceNe, Int.reduceBEq, Int.reduceToNat, ↓reduceIte, f0], by simp only [go_sem, Nat.reduceEqDiff, Nat.reduceLT, Nat.reduceAdd, Nat.reduceMul, Int.reduceEq, Int.reduceLT, Int.reduceLE, Int.reduceNe, Int.reduceBEq, Int.reduceToNat, ↓reduceIte, f11], by simp only [go_sem, Nat.reduceEqDiff, Nat.reduceLT, Nat.reduceAdd, Nat.reduceMul, Int.reduceEq, Int.reduceLT, Int.reduceLE, Int.reduceNe, Int.reduceBEq, Int.reduceToNat, ↓reduceIte, f12], by simp only [go_sem, Nat.reduceEqDiff, Nat.reduceLT, Nat.reduceAdd, Nat.reduceMul, Int.reduceEq, Int.reduceLT, Int.reduceLE, Int.reduceNe, Int.reduceBEq, Int.reduceToNat, ↓reduceIte], by simp only [go_sem, Nat.reduceEqDiff, Nat.reduceLT, Nat.reduceAdd, Nat.reduceMul, Int.reduceEq, Int.reduceLT, Int.reduceLE, Int.reduceNe, Int.reduceBEq, Int.reduceToNat, ↓reduceIte], ?_, ?_, ?_⟩
      · rw [runsK_succ, if_pos c2]
        simp only [u64s, List.map_append, List.length_append]
        exact hrow2
      · intro b hb
        simp only [blk, Option.some.injEq] at hb
        subst hb; exact hgn
      · intro b o hb
        have hne : b ≠ g' := fun e => by rw [e, hgn.1] at hb; cases hb
        rw [hH2 b hne]
        exact hsub1 b o (hsub b o hb)
    · have e4 : decide (((sts.getD k 0 : Nat) : Int) = 1) = false := by simp; simp at c2; omega
      simp only [go_sem, Nat.reduceEqDiff, Nat.reduceLT, Nat.reduceAdd, Nat.reduceMul, Int.reduceEq, Int.reduceLT, Int.reduceLE, Int.reduceNe, Int.reduceBEq, Int.reduceToNat, ↓reduceIte, f0, f11, f12, f13, f3, e1, e6, hgl, hcv, hl1, e2, e2', e3, e4]
      refine ⟨m - 1, by omega, k + 1, v, by omega, by simp only [go_sem, Nat.reduceEqDiff, Nat.reduceLT, Nat.reduceAdd, Nat.reduceMul, Int.reduceEq, Int.reduceLT, Int.reduceLE, Int.reduceNe, Int.reduceBEq, Int.reduceToNat, ↓reduceIte, f0], by simp only [go_sem, Nat.reduceEqDiff, Nat.reduceLT, Nat.reduceAdd, Nat.reduceMul, Int.reduceEq, Int.reduceLT, Int.reduceLE, Int.reduceNe, Int.reduceBEq, Int.reduceToNat, ↓reduceIte, f11], by simp only [go_sem, Nat.reduceEqDiff, Nat.reduceLT, Nat.reduceAdd, Nat.reduceMul, Int.reduceEq, Int.reduceLT, Int.reduceLE, Int.reduceNe, Int.reduceBEq, Int.reduceToNat, ↓reduceIte, f12], by simp only [go_sem, Nat.reduceEqDiff, Nat.reduceLT, Nat.reduceAdd, Nat.reduceMul, Int.reduceEq, Int.reduceLT, Int.reduceLE, Int.reduceNe, Int.reduceBEq, Int.reduceToNat, ↓reduceIte], by simp only [go_sem, Nat.reduceEqDiff, Nat.reduceLT, Nat.reduceAdd, Nat.reduceMul, Int.reduceEq, Int.reduceLT, Int.reduceLE, Int.reduceNe, Int.reduceBEq, Int.reduceToNat, ↓reduceIte, f3], ?_, hfr, hsub⟩
      rw [runsK_succ, if_neg c2]
      exact hrow
  · have e1 : decide ((k : Int) < (sts.length : Int)) = false := by simp; omega
    simp only [go_sem, Nat.reduceEqDiff, Nat.reduceLT, Nat.reduceAdd, Nat.reduceMul, Int.reduceEq, Int.reduceLT, Int.reduceLE, Int.reduceNe, Int.reduceBEq, Int.reduceToNat, ↓reduceIte, f0, f11, f12, f13, f3, e1]
    have : k = sts.length := by omega
    subst this
    exact ⟨hrow, hfr, hsub⟩

def SameI (n : Nat) (a b : Value) (H : Hp) (m : Nat) (F : Fr) (H1 : Hp) : Prop :=
  ∃ k : Nat, k + m = n ∧ F 0 = a ∧ F 1 = b ∧ F 12 = .int .i64 (n : Int) ∧ F 13 = .int .i64 (k : Int) ∧ H1 = H
/-- Two lists that are alike. -/
theorem rsame_row {w0 : World} {H : Hp} {a b : Value} {xs : List Nat} (ha : Row H 23 1 a xs.length (u64s xs)) (hb : Row H 23 1 b xs.length (u64s xs)) (hn : xs.length < 10000000000000) :
    ACalls Try.prog w0 25 #[a, b] H fun r H' => r = .bool true ∧ H' = H := by
  obtain ⟨aa, ac, ea⟩ := ha.slice
  obtain ⟨ba, bc, eb⟩ := hb.slice
  have e0 : decide ((xs.length : Int) = (xs.length : Int)) = true := by simp
  refine acalls_of Try.func25 rfl Try.ntmps25 r25 (by simp) ?_
  simp only [go_sem, Nat.reduceEqDiff, Nat.reduceLT, Nat.reduceAdd, Nat.reduceMul, Int.reduceEq, Int.reduceLT, Int.reduceLE, Int.reduceNe, Int.reduceBEq, Int.reduceToNat, ↓reduceIte, ea, eb]
  refine AC.loop (SameI xs.length a b H) (n := xs.length) ⟨0, by omega, ea.symm, eb.symm, rfl, rfl, rfl⟩ ?_
  rintro m F H1 ⟨k, hk, f0, f1, f12, f13, rfl⟩
  by_cases c : k < xs.length
  · have e1 : decide ((k : Int) < (xs.length : Int)) = true := by simp; omega
    have e3 : IntKind.i64.wrap ((k : Int) + 1) = (k + 1 : Nat) := by rw [i64_in] <;> omega
    have e6 : decide ((0 : Int) ≤ (k : Int)) = true := by simp
    obtain ⟨g, cap, cur, rfl, hg, hc1, hc2, hc3, hc4⟩ := ha.open1 (by omega)
    obtain ⟨g', cap', cur', rfl, hg', hc1', hc2', hc3', hc4'⟩ := hb.open1 (by omega)
    have hgl := ld_own w0 hg
    have hgl' := ld_own w0 hg'
    have hcv : cur[k]? = some (.int .u64 (xs.getD k 0 : Nat)) := by
      rw [hc3 _ c]; simp [u64s, c]
    have hcv' : cur'[k]? = some (.int .u64 (xs.getD k 0 : Nat)) := by
      rw [hc3' _ c]; simp [u64s, c]
    simp only [go_sem, Nat.reduceEqDiff, Nat.reduceLT, Nat.reduceAdd, Nat.reduceMul, Int.reduceEq, Int.reduceLT, Int.reduceLE, Int.reduceNe, Int.reduceBEq, Int.reduceToNat, ↓reduceIte, f0, f1, f12, f13, e1, e6]
    refine vdraw_of [⟨0, .p, [], []⟩, ⟨1, .p, [], []⟩, ⟨2, .p, [], []⟩, ⟨3, .n, [], []⟩, ⟨4, .p, [], []⟩, ⟨5, .p, [], []⟩, ⟨6, .p, [], []⟩, ⟨7, .n, [], []⟩, ⟨8, .p, [], []⟩] mixed (by kernel_rfl) ?_
    simp only [go_sem, Nat.reduceEqDiff, Nat.reduceLT, Nat.reduceAdd, Nat.reduceMul, Int.reduceEq, Int.reduceLT, Int.reduceLE, Int.reduceNe, Int.reduceBEq, Int.reduceToNat, ↓reduceIte, f0, f1, f12, f13, e1, e3, e6, hgl, hgl', hcv, hcv']
    exact ⟨m - 1, by omega, k + 1, by omega, by simp only [go_sem, Nat.reduceEqDiff, Nat.reduceLT, Nat.reduceAdd, Nat.reduceMul, Int.reduceEq, Int.reduceLT, Int.reduceLE, Int.reduceNe, Int.reduceBEq, Int.reduceToNat, ↓reduceIte, f0], by simp only [go_sem, Nat.reduceEqDiff, Nat.reduceLT, Nat.reduceAdd, Nat.reduceMul, Int.reduceEq, Int.reduceLT, Int.reduceLE, Int.reduceNe, Int.reduceBEq, Int.reduceToNat, ↓reduceIte, f1], by simp only [go_sem, Nat.reduceEqDiff, Nat.reduceLT, Nat.reduceAdd, Nat.reduceMul, Int.reduceEq, Int.reduceLT, Int.reduceLE, Int.reduceNe, Int.reduceBEq, Int.reduceToNat, ↓reduceIte, f12], by simp only [go_sem, Nat.reduceEqDiff, Nat.reduceLT, Nat.reduceAdd, Nat.reduceMul, Int.reduceEq, Int.reduceLT, Int.reduceLE, Int.reduceNe, Int.reduceBEq, Int.reduceToNat, ↓reduceIte], rfl⟩
  · have e1 : decide ((k : Int) < (xs.length : Int)) = false := by simp; omega
    simp only [go_sem, Nat.reduceEqDiff, Nat.reduceLT, Nat.reduceAdd, Nat.reduceMul, Int.reduceEq, Int.reduceLT, Int.reduceLE, Int.reduceNe, Int.reduceBEq, Int.reduceToNat, ↓reduceIte, f0, f1, f12, f13, e1]
end Go.Proofs.Ytmpepacfnckadaa
