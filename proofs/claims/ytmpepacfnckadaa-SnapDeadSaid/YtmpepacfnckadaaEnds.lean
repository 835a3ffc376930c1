/-
  The law ClogEnds: numbers end where they end.
  Conditions: none.
-/
import Derived.Test.YtmpepacfnckadaaClg
namespace Go.Proofs.Ytmpepacfnckadaa
open Go Go.RowKit Go.Proofs.YtmpepacfnckadaaW
set_option maxRecDepth 100000
set_option linter.unusedSimpArgs false
set_option linter.unusedVariables false

theorem awake09 (w0 : World) (H : Hp) : ACalls Try.prog w0 12 #[] H fun r H' => r = .bool true ∧ H' = H := by
  refine ACalls.quiet ?_
  refine acalls_of Try.func12 rfl Try.ntmps12 r12 (by simp) ?_
  simp only [go_sem, Nat.reduceEqDiff, Nat.reduceLT, Nat.reduceAdd, Nat.reduceMul, Int.reduceEq, Int.reduceLT, Int.reduceLE, Int.reduceNe, Int.reduceBEq, Int.reduceToNat, ↓reduceIte]
  refine (new_ok w0 5 H (by omega) (by omega)).mono ?_
  rintro r H1 ⟨l, rfl, hl, hl0, hlog, hsub⟩
  simp only [go_sem, Nat.reduceEqDiff, Nat.reduceLT, Nat.reduceAdd, Nat.reduceMul, Int.reduceEq, Int.reduceLT, Int.reduceLE, Int.reduceNe, Int.reduceBEq, Int.reduceToNat, ↓reduceIte]
  refine (begin_log hlog (by simp)).mono ?_
  rintro r H2 ⟨rfl, S2, hlog2, hS2, hf2⟩
  simp only [go_sem, Nat.reduceEqDiff, Nat.reduceLT, Nat.reduceAdd, Nat.reduceMul, Int.reduceEq, Int.reduceLT, Int.reduceLE, Int.reduceNe, Int.reduceBEq, Int.reduceToNat, ↓reduceIte]
  refine (begin_log hlog2 (by simp)).mono ?_
  rintro r H3 ⟨rfl, S3, hlog3, hS3, hf3⟩
  simp only [go_sem, Nat.reduceEqDiff, Nat.reduceLT, Nat.reduceAdd, Nat.reduceMul, Int.reduceEq, Int.reduceLT, Int.reduceLE, Int.reduceNe, Int.reduceBEq, Int.reduceToNat, ↓reduceIte]
  refine (commit_log hlog3 (by simp) (x := 5) (by omega)).mono ?_
  rintro r H4 ⟨rfl, hlog4, hf4⟩
  have hc : endCode 5 (([] ++ [1]) ++ [1]) 5 = 0 := by decide +kernel
  have hs : endSts 5 (([] ++ [1]) ++ [1]) 5 2 = [2, 1] := by decide +kernel
  rw [hc]
  rw [hs] at hlog4
  simp only [go_sem, Nat.reduceEqDiff, Nat.reduceLT, Nat.reduceAdd, Nat.reduceMul, Int.reduceEq, Int.reduceLT, Int.reduceLE, Int.reduceNe, Int.reduceBEq, Int.reduceToNat, ↓reduceIte]
  refine (all_log hlog4 (by simp)).mono ?_
  rintro r H5 ⟨hrow, hfr, hsub5⟩
  have hlog5 := hlog4.keep fun b o _ hb => hsub5 b o hb
  have hr : runs 5 [2, 1] = [6] := by decide +kernel
  rw [hr] at hrow
  obtain ⟨g, cap, cur, rfl, hg, hc1, hc2, hc3, _⟩ := hrow.open1 (by simp)
  have hgl := ld_own w0 hg
  have hv := hc3 0 (by simp)
  simp only [u64s, List.map_cons, List.map_nil, List.getElem?_cons_zero] at hv
  have hsub' : Sub H H5 := by
    intro b o hb
    have h1 : ¬ (b = l) := fun e => by rw [e, hl] at hb; cases hb
    have g1 := hsub b o hb
    have h2 : ¬ S2 b := fun e => (hS2 b e).elim h1 fun e' => by rw [e'.1] at g1; cases g1
    have g2 := hf2 b o h1 g1
    have h3 : ¬ S3 b := fun e => (hS3 b e).elim h2 fun e' => by rw [e'.1] at g2; cases g2
    exact hsub5 b o (hf4 b o h3 (hf3 b o h2 g2))
  have q1 : ((5 + ([] : List Nat).length : Nat) : Int) = 5 := rfl
  have q2 : (([6] : List Nat).length : Int) = 1 := rfl
  have q3 : ((6 : Nat) : Int) = 6 := rfl
  simp only [go_sem, Nat.reduceEqDiff, Nat.reduceLT, Nat.reduceAdd, Nat.reduceMul, Int.reduceEq, Int.reduceLT, Int.reduceLE, Int.reduceNe, Int.reduceBEq, Int.reduceToNat, ↓reduceIte, hgl, hv, q1, q2, q3]
  refine (state_log hlog5 (by simp) (x := 5) (by omega)).mono ?_
  rintro r H6 ⟨rfl, rfl⟩
  have q4 : ((stOf 5 [2, 1] 5 : Nat) : Int) = 2 := by decide +kernel
  simp only [go_sem, Nat.reduceEqDiff, Nat.reduceLT, Nat.reduceAdd, Nat.reduceMul, Int.reduceEq, Int.reduceLT, Int.reduceLE, Int.reduceNe, Int.reduceBEq, Int.reduceToNat, ↓reduceIte, q4]
  refine (next_log hlog5 (by simp)).mono ?_
  rintro r H6 ⟨rfl, rfl⟩
  have q5 : ((5 + ([2, 1] : List Nat).length : Nat) : Int) = 7 := rfl
  simp only [go_sem, Nat.reduceEqDiff, Nat.reduceLT, Nat.reduceAdd, Nat.reduceMul, Int.reduceEq, Int.reduceLT, Int.reduceLE, Int.reduceNe, Int.reduceBEq, Int.reduceToNat, ↓reduceIte, q5]
  exact hsub'

theorem runs_rep (first k : Nat) : (runs first (List.replicate k 1)).length = k := by
  unfold runs runsK
  rw [List.length_map, List.length_replicate]
  have : (List.range k).filter (fun i => (List.replicate k 1).getD i 0 == 1) = List.range k := by
    rw [List.filter_eq_self]
    intro i hi
    have := List.mem_range.1 hi
    simp [this]
  rw [this, List.length_range]

def EndI (w0 : World) (H : Hp) (l n c : Nat) (m : Nat) (F : Fr) (H1 : Hp) : Prop :=
  ∃ k S, k + m = n + 1 + c ∧ F 6 = .pointer (some ⟨l, 0, none⟩) ∧ F 5 = .int .u64 (n : Int) ∧ F 29 = .int .u64 ((n + 1 + c : Nat) : Int) ∧ F 30 = .int .u64 (k : Int) ∧
    LogAt H1 l S (1099511627776 - n) (List.replicate (min k (n + 1)) 1) ∧ (∀ b, S b → H b = none) ∧ Sub H H1

theorem ends_ok (w0 : World) (H : Hp) (left more : Nat) (h1 : left < 256) (h2 : more < 256) :
    ACalls Try.prog w0 3 #[.int .u8 (left : Int), .int .u8 (more : Int)] H fun r H' => r = .bool true ∧ H' = H := by
  refine ACalls.quiet ?_
  obtain ⟨n, hn⟩ : ∃ n, n = left % 20 := ⟨_, rfl⟩
  obtain ⟨c, hc⟩ : ∃ c, c = more % 5 := ⟨_, rfl⟩
  have hn2 : n < 20 := by omega
  have hc2 : c < 5 := by omega
  have e1 : (left : Int).tmod 20 = (n : Int) := by rw [Int.tmod_eq_emod_of_nonneg (by omega), hn]; omega
  have e2 : (more : Int).tmod 5 = (c : Int) := by rw [Int.tmod_eq_emod_of_nonneg (by omega), hc]; omega
  have e3 : IntKind.u64.wrap (n : Int) = (n : Int) := by rw [u64_in] <;> omega
  have e3' : IntKind.u64.wrap (c : Int) = (c : Int) := by rw [u64_in] <;> omega
  have e4 : IntKind.u64.wrap (1099511627776 - (n : Int)) = ((1099511627776 - n : Nat) : Int) := by rw [u64_in] <;> omega
  have e5 : IntKind.u64.wrap ((n : Int) + 1) = ((n + 1 : Nat) : Int) := by rw [u64_in] <;> omega
  have e6 : IntKind.u64.wrap (((n + 1 : Nat) : Int) + (c : Int)) = ((n + 1 + c : Nat) : Int) := by rw [u64_in] <;> omega
  refine acalls_of Try.func3 rfl Try.ntmps3 r3 (by simp) ?_
  simp only [go_sem, Nat.reduceEqDiff, Nat.reduceLT, Nat.reduceAdd, Nat.reduceMul, Int.reduceEq, Int.reduceLT, Int.reduceLE, Int.reduceNe, Int.reduceBEq, Int.reduceToNat, ↓reduceIte]
  refine (awake09 w0 H).mono ?_
  rintro r H' ⟨rfl, rfl⟩
  simp only [go_sem, Nat.reduceEqDiff, Nat.reduceLT, Nat.reduceAdd, Nat.reduceMul, Int.reduceEq, Int.reduceLT, Int.reduceLE, Int.reduceNe, Int.reduceBEq, Int.reduceToNat, ↓reduceIte, e1, e2, e3, e4]
  refine (new_ok w0 (1099511627776 - n) H' (by omega) (by omega)).mono ?_
  rintro r H1 ⟨l, rfl, hl, hl0, hlog, hsub⟩
  simp only [go_sem, Nat.reduceEqDiff, Nat.reduceLT, Nat.reduceAdd, Nat.reduceMul, Int.reduceEq, Int.reduceLT, Int.reduceLE, Int.reduceNe, Int.reduceBEq, Int.reduceToNat, ↓reduceIte, e1, e2, e3, e3', e5, e6]
  refine AC.loop (EndI w0 H' l n c) (n := n + 1 + c) ⟨0, _, by omega, rfl, rfl, rfl, rfl, by simpa using hlog, fun b hb => by rw [hb]; exact hl, hsub⟩ ?_
  rintro m F H2 ⟨k, S, hk, f6, f5, f29, f30, hlog2, hS, hsub2⟩
  by_cases ck : k < n + 1 + c
  · have d1 : decide ((k : Int) < ((n + 1 + c : Nat) : Int)) = true := by simp; omega
    have d2 : IntKind.u64.wrap ((k : Int) + 1) = ((k + 1 : Nat) : Int) := by rw [u64_in] <;> omega
    simp only [go_sem, Nat.reduceEqDiff, Nat.reduceLT, Nat.reduceAdd, Nat.reduceMul, Int.reduceEq, Int.reduceLT, Int.reduceLE, Int.reduceNe, Int.reduceBEq, Int.reduceToNat, ↓reduceIte, f6, f5, f29, f30, d1]
    by_cases cn : k ≤ n
    · have hmin : min k (n + 1) = k := by omega
      rw [hmin] at hlog2
      refine (begin_log hlog2 (by simp; omega)).mono ?_
      rintro r H3 ⟨rfl, S3, hlog3, hS3, hf3⟩
      have d3 : decide ((k : Int) ≤ (n : Int)) = true := by simp; omega
      have d4 : IntKind.u64.wrap (((1099511627776 - n : Nat) : Int) + (k : Int)) = ((1099511627776 - n + k : Nat) : Int) := by rw [u64_in] <;> omega
      have d5 : decide ((n : Int) < (k : Int)) = false := by simp; omega
      have d6 : (1099511627776 - n + (List.replicate k 1).length) = (1099511627776 - n + k) := by simp
      simp only [go_sem, Nat.reduceEqDiff, Nat.reduceLT, Nat.reduceAdd, Nat.reduceMul, Int.reduceEq, Int.reduceLT, Int.reduceLE, Int.reduceNe, Int.reduceBEq, Int.reduceToNat, ↓reduceIte, f6, f5, f29, f30, d1, d2, d3, d4, d5, d6, e4]
      refine ⟨m - 1, by omega, k + 1, S3, by omega, by simp only [go_sem, Nat.reduceEqDiff, Nat.reduceLT, Nat.reduceAdd, Nat.reduceMul, Int.reduceEq, Int.reduceLT, Int.reduceLE, Int.reduceNe, Int.reduceBEq, Int.reduceToNat, ↓reduceIte, f6], by simp only [go_sem, Nat.reduceEqDiff, Nat.reduceLT, Nat.reduceAdd, Nat.reduceMul, Int.reduceEq, Int.reduceLT, Int.reduceLE, Int.reduceNe, Int.reduceBEq, Int.reduceToNat, ↓reduceIte, f5], by simp only [go_sem, Nat.reduceEqDiff, Nat.reduceLT, Nat.reduceAdd, Nat.reduceMul, Int.reduceEq, Int.reduceLT, Int.reduceLE, Int.reduceNe, Int.reduceBEq, Int.reduceToNat, ↓reduceIte, f29], by simp only [go_sem, Nat.reduceEqDiff, Nat.reduceLT, Nat.reduceAdd, Nat.reduceMul, Int.reduceEq, Int.reduceLT, Int.reduceLE, Int.reduceNe, Int.reduceBEq, Int.reduceToNat, ↓reduceIte], ?_, ?_, ?_⟩
      · rw [show min (k + 1) (n + 1) = k + 1 by omega, List.replicate_succ']; exact hlog3
      · intro b hb
        rcases hS3 b hb with h | ⟨h, _⟩
        · exact hS b h
        · cases e : H' b with
          | none => rfl
          | some o => rw [hsub2 b o e] at h; cases h
      · intro b o hb
        exact hf3 b o (fun e => by rw [hS b e] at hb; cases hb) (hsub2 b o hb)
    · have hmin : min k (n + 1) = n + 1 := by omega
      have hmin' : min (k + 1) (n + 1) = n + 1 := by omega
      rw [hmin] at hlog2
      refine (begin_full hlog2 (by simp; omega) (by simp; omega)).mono ?_
      rintro r H3 ⟨rfl, rfl⟩
      have d3 : decide ((k : Int) ≤ (n : Int)) = false := by simp; omega
      have d5 : decide ((n : Int) < (k : Int)) = true := by simp; omega
      simp only [go_sem, Nat.reduceEqDiff, Nat.reduceLT, Nat.reduceAdd, Nat.reduceMul, Int.reduceEq, Int.reduceLT, Int.reduceLE, Int.reduceNe, Int.reduceBEq, Int.reduceToNat, ↓reduceIte, f6, f5, f29, f30, d1, d2, d3, d5]
      refine ⟨m - 1, by omega, k + 1, S, by omega, by simp only [go_sem, Nat.reduceEqDiff, Nat.reduceLT, Nat.reduceAdd, Nat.reduceMul, Int.reduceEq, Int.reduceLT, Int.reduceLE, Int.reduceNe, Int.reduceBEq, Int.reduceToNat, ↓reduceIte, f6], by simp only [go_sem, Nat.reduceEqDiff, Nat.reduceLT, Nat.reduceAdd, Nat.reduceMul, Int.reduceEq, Int.reduceLT, Int.reduceLE, Int.reduceNe, Int.reduceBEq, Int.reduceToNat, ↓reduceIte, f5], by simp only [go_sem, Nat.reduceEqDiff, Nat.reduceLT, Nat.reduceAdd, Nat.reduceMul, Int.reduceEq, Int.reduceLT, Int.reduceLE, Int.reduceNe, Int.reduceBEq, Int.reduceToNat, ↓reduceIte, f29], by simp only [go_sem, Nat.reduceEqDiff, Nat.reduceLT, Nat.reduceAdd, Nat.reduceMul, Int.reduceEq, Int.reduceLT, Int.reduceLE, Int.reduceNe, Int.reduceBEq, Int.reduceToNat, ↓reduceIte], ?_, hS, hsub2⟩
      rw [hmin']; exact hlog2
  · have d1 : decide ((k : Int) < ((n + 1 + c : Nat) : Int)) = false := by simp; omega
    have hmin : min k (n + 1) = n + 1 := by omega
    rw [hmin] at hlog2
    simp only [go_sem, Nat.reduceEqDiff, Nat.reduceLT, Nat.reduceAdd, Nat.reduceMul, Int.reduceEq, Int.reduceLT, Int.reduceLE, Int.reduceNe, Int.reduceBEq, Int.reduceToNat, ↓reduceIte, f6, f5, f29, f30, d1]
    refine (all_log hlog2 (by simp; omega)).mono ?_
    rintro r H5 ⟨hrow, hfr, hsub5⟩
    have hlog5 := hlog2.keep fun b o _ hb => hsub5 b o hb
    rw [runs_rep] at hrow
    obtain ⟨g, cap, cur, rfl, _⟩ := hrow.open1 (by omega)
    have e7 : IntKind.u64.wrap ((n + 1 : Nat) : Int) = ((n + 1 : Nat) : Int) := by rw [u64_in] <;> omega
    simp only [go_sem, Nat.reduceEqDiff, Nat.reduceLT, Nat.reduceAdd, Nat.reduceMul, Int.reduceEq, Int.reduceLT, Int.reduceLE, Int.reduceNe, Int.reduceBEq, Int.reduceToNat, ↓reduceIte, f6, f5, e5, e7]
    refine (next_log hlog5 (by simp; omega)).mono ?_
    rintro r H6 ⟨rfl, rfl⟩
    have q1 : (((1099511627776 - n + (List.replicate (n + 1) 1).length) : Nat) : Int) = 1099511627777 := by simp; omega
    rw [q1]
    simp only [go_sem, Nat.reduceEqDiff, Nat.reduceLT, Nat.reduceAdd, Nat.reduceMul, Int.reduceEq, Int.reduceLT, Int.reduceLE, Int.reduceNe, Int.reduceBEq, Int.reduceToNat, ↓reduceIte, f6, f5, e5]
    refine (state_log hlog5 (by simp; omega) (x := 1099511627776) (by omega)).mono ?_
    rintro r H6 ⟨rfl, rfl⟩
    have q2 : stOf (1099511627776 - n) (List.replicate (n + 1) 1) 1099511627776 = 1 := by
      rw [stOf, if_pos (by simp; omega)]
      have : (1099511627776 - ((1099511627776 - n : Nat) : Int)).toNat = n := by omega
      rw [this]; simp
    rw [q2]
    simp only [go_sem, Nat.reduceEqDiff, Nat.reduceLT, Nat.reduceAdd, Nat.reduceMul, Int.reduceEq, Int.reduceLT, Int.reduceLE, Int.reduceNe, Int.reduceBEq, Int.reduceToNat, ↓reduceIte, f6, f5]
    refine (state_log hlog5 (by simp; omega) (x := 1099511627777) (by omega)).mono ?_
    rintro r H6 ⟨rfl, rfl⟩
    have q3 : stOf (1099511627776 - n) (List.replicate (n + 1) 1) 1099511627777 = 0 := by
      rw [stOf, if_neg (by simp; omega)]
    rw [q3]
    simp only [go_sem, Nat.reduceEqDiff, Nat.reduceLT, Nat.reduceAdd, Nat.reduceMul, Int.reduceEq, Int.reduceLT, Int.reduceLE, Int.reduceNe, Int.reduceBEq, Int.reduceToNat, ↓reduceIte, f6, f5]
    exact hsub2.trans hsub5
end Go.Proofs.Ytmpepacfnckadaa
