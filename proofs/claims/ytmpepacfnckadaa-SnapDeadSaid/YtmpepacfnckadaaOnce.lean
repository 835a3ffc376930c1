/-
  The law ClogOnce: what became of a transaction stays so.
  Conditions: the bytes read as bytes.
-/
import Derived.Test.YtmpepacfnckadaaPlaysW
import Derived.Test.YtmpepacfnckadaaAwn
namespace Go.Proofs.Ytmpepacfnckadaa
open Go Go.RowKit Go.Proofs.YtmpepacfnckadaaW
set_option maxRecDepth 100000
set_option linter.unusedSimpArgs false
set_option linter.unusedVariables false

theorem runsK_count (f : Nat) (sts : List Nat) : ∀ k, k ≤ sts.length → (runsK f sts k).length = (sts.take k).count 1
  | 0, _ => by simp [runsK]
  | k + 1, h => by
    have ih := runsK_count f sts k (by omega)
    rw [runsK_succ, List.take_add_one, List.count_append, ← ih]
    have hk : sts[k]? = some (sts.getD k 0) := by simp [show k < sts.length by omega]
    rw [hk]
    split
    · rename_i c
      rw [c, List.length_append]; simp
    · rename_i c
      simp only [Option.toList_some, List.count_cons, List.count_nil, beq_iff_eq, c, if_false, Nat.add_zero]
theorem runs_count (f : Nat) (sts : List Nat) : (runs f sts).length = sts.count 1 := by
  unfold runs
  rw [runsK_count f sts sts.length (Nat.le_refl _), List.take_length]
theorem count_end (f : Nat) (sts : List Nat) (k v : Nat) (hk : k < sts.length) (h1 : sts.getD k 0 = 1) (hv : v ≠ 1) : (sts.set k v).count 1 + 1 = sts.count 1 := by
  have hg : sts[k] = 1 := by simpa [hk] using h1
  have hm : (1 : Nat) ∈ sts := hg ▸ List.getElem_mem hk
  have := List.count_pos_iff.2 hm
  rw [List.count_set hk]
  simp [hg, hv]
  omega

theorem and1 : ∀ b : Fin 256, andI .u8 (b.val : Int) 1 = ((b.val % 2 : Nat) : Int) := by decide +kernel

def OnceI (w0 : World) (l k : Nat) (n : Value) (a : Value) (m : Nat) (F : Fr) (H : Hp) : Prop :=
  ∃ i S, i + m = k ∧ F 1 = a ∧ F 5 = ptr l ∧ F 7 = .int .u64 (k : Int) ∧ F 24 = .int .u64 (k : Int) ∧ F 25 = .int .u64 (i : Int) ∧ LogAt H l S 1 (List.replicate i 1) ∧ Hi w0 H
def OnceJ (w0 : World) (l k r n : Nat) (a : Value) (m : Nat) (F : Fr) (H : Hp) : Prop :=
  ∃ j S sts ps, j + m = n ∧ F 5 = ptr l ∧ F 7 = .int .u64 (k : Int) ∧ F 8 = .map (some r) ∧ F 31 = a ∧ F 32 = .int .i64 (n : Int) ∧ F 33 = .int .i64 (j : Int) ∧ LogAt H l S 1 sts ∧ IMap H r .u64 ps ∧ ¬ S r ∧
    sts.length = k ∧ ps.keys.Nodup ∧ (∀ i, i < k → 1 ≤ sts.getD i 0 ∧ sts.getD i 0 < 4 ∧ ps.get ((i + 1 : Nat) : Int) = if sts.getD i 0 = 1 then none else some (.int .i64 (sts.getD i 0 : Nat))) ∧
    sts.count 1 + ps.length = k ∧ Hi w0 H

theorem once_ok (w0 : World) (n0 : Nat) (hn0 : n0 < 256) (a : Value) (n : Nat) (ha : BytesArg w0 a n) :
    ACalls Try.prog w0 5 #[.int .u8 (n0 : Int), a] (fun _ => none) fun r H' => r = .bool true ∧ True := by
  obtain ⟨ad, c, rfl, hn, hops⟩ := ha
  obtain ⟨k, hk⟩ : ∃ k, k = 1 + n0 % 40 := ⟨_, rfl⟩
  have e1 : (n0 : Int).tmod 40 = ((n0 % 40 : Nat) : Int) := by rw [Int.tmod_eq_emod_of_nonneg (by omega)]; omega
  have e2 : IntKind.u64.wrap ((n0 % 40 : Nat) : Int) = ((n0 % 40 : Nat) : Int) := by rw [u64_in] <;> omega
  have e3 : IntKind.u64.wrap (1 + ((n0 % 40 : Nat) : Int)) = (k : Nat) := by rw [u64_in] <;> omega
  refine acalls_of Try.func5 rfl Try.ntmps5 r5 (by simp) ?_
  simp only [go_sem, Nat.reduceEqDiff, Nat.reduceLT, Nat.reduceAdd, Nat.reduceMul, Int.reduceEq, Int.reduceLT, Int.reduceLE, Int.reduceNe, Int.reduceBEq, Int.reduceToNat, ↓reduceIte]
  refine (awake09 w0 _).mono ?_
  rintro r H' ⟨rfl, rfl⟩
  simp only [go_sem, Nat.reduceEqDiff, Nat.reduceLT, Nat.reduceAdd, Nat.reduceMul, Int.reduceEq, Int.reduceLT, Int.reduceLE, Int.reduceNe, Int.reduceBEq, Int.reduceToNat, ↓reduceIte]
  refine (ACalls.hi (new_ok w0 1 _ (by omega) (by omega))).mono ?_
  rintro r H1 ⟨⟨l, rfl, hl, hl0, hlog, hsub⟩, hhi⟩
  simp only [go_sem, Nat.reduceEqDiff, Nat.reduceLT, Nat.reduceAdd, Nat.reduceMul, Int.reduceEq, Int.reduceLT, Int.reduceLE, Int.reduceNe, Int.reduceBEq, Int.reduceToNat, ↓reduceIte, e1, e2, e3]
  refine AC.loop (OnceI w0 l k (.int .u8 (n0 : Int)) (.slice ad n c)) (n := k) ⟨0, _, by omega, rfl, rfl, rfl, rfl, rfl, hlog, hhi⟩ ?_
  rintro m F H2 ⟨i, S, hi, f1, f5, f7, f24, f25, hlog2, hhi2⟩
  by_cases ck : i < k
  · have d1 : decide ((i : Int) < (k : Int)) = true := by simp; omega
    have d2 : IntKind.u64.wrap ((i : Int) + 1) = (i + 1 : Nat) := by rw [u64_in] <;> omega
    simp only [go_sem, Nat.reduceEqDiff, Nat.reduceLT, Nat.reduceAdd, Nat.reduceMul, Int.reduceEq, Int.reduceLT, Int.reduceLE, Int.reduceNe, Int.reduceBEq, Int.reduceToNat, ↓reduceIte, f1, f5, f7, f24, f25, d1]
    refine (ACalls.hi (begin_log hlog2 (by simp; omega))).mono ?_
    rintro r H3 ⟨⟨rfl, S3, hlog3, hS3, hf3⟩, hhi3⟩
    simp only [go_sem, Nat.reduceEqDiff, Nat.reduceLT, Nat.reduceAdd, Nat.reduceMul, Int.reduceEq, Int.reduceLT, Int.reduceLE, Int.reduceNe, Int.reduceBEq, Int.reduceToNat, ↓reduceIte, f1, f5, f7, f24, f25, d1, d2]
    refine ⟨m - 1, by omega, i + 1, S3, by omega, by simp only [go_sem, Nat.reduceEqDiff, Nat.reduceLT, Nat.reduceAdd, Nat.reduceMul, Int.reduceEq, Int.reduceLT, Int.reduceLE, Int.reduceNe, Int.reduceBEq, Int.reduceToNat, ↓reduceIte, f1], by simp only [go_sem, Nat.reduceEqDiff, Nat.reduceLT, Nat.reduceAdd, Nat.reduceMul, Int.reduceEq, Int.reduceLT, Int.reduceLE, Int.reduceNe, Int.reduceBEq, Int.reduceToNat, ↓reduceIte, f5], by simp only [go_sem, Nat.reduceEqDiff, Nat.reduceLT, Nat.reduceAdd, Nat.reduceMul, Int.reduceEq, Int.reduceLT, Int.reduceLE, Int.reduceNe, Int.reduceBEq, Int.reduceToNat, ↓reduceIte, f7], by simp only [go_sem, Nat.reduceEqDiff, Nat.reduceLT, Nat.reduceAdd, Nat.reduceMul, Int.reduceEq, Int.reduceLT, Int.reduceLE, Int.reduceNe, Int.reduceBEq, Int.reduceToNat, ↓reduceIte, f24], by simp only [go_sem, Nat.reduceEqDiff, Nat.reduceLT, Nat.reduceAdd, Nat.reduceMul, Int.reduceEq, Int.reduceLT, Int.reduceLE, Int.reduceNe, Int.reduceBEq, Int.reduceToNat, ↓reduceIte], ?_⟩
    rw [List.replicate_succ']; exact ⟨hlog3, hhi3⟩
  · have d1 : decide ((i : Int) < (k : Int)) = false := by simp; omega
    have hik : i = k := by omega
    subst hik
    simp only [go_sem, Nat.reduceEqDiff, Nat.reduceLT, Nat.reduceAdd, Nat.reduceMul, Int.reduceEq, Int.reduceLT, Int.reduceLE, Int.reduceNe, Int.reduceBEq, Int.reduceToNat, ↓reduceIte, f1, f5, f7, f24, f25, d1]
    intro r hr hrn
    have hSr : ¬ S r := fun hs => by obtain ⟨o, ho⟩ := hlog2.own hs; rw [ho] at hrn; cases hrn
    have hlog3 : LogAt (H2.set r (.map #[] 0)) l S 1 (List.replicate i 1) := hlog2.keep fun b o hb ho => by
      rw [Hp.set_ne _ _ _ _ (fun e => hSr (by rw [← e]; exact hb))]; exact ho
    simp only [go_sem, Nat.reduceEqDiff, Nat.reduceLT, Nat.reduceAdd, Nat.reduceMul, Int.reduceEq, Int.reduceLT, Int.reduceLE, Int.reduceNe, Int.reduceBEq, Int.reduceToNat, ↓reduceIte, f1, f5, f7, f24, f25]
    refine AC.loop (OnceJ w0 l i r n (.slice ad n c)) (n := n) ⟨0, S, _, [], by omega, by simp only [go_sem, Nat.reduceEqDiff, Nat.reduceLT, Nat.reduceAdd, Nat.reduceMul, Int.reduceEq, Int.reduceLT, Int.reduceLE, Int.reduceNe, Int.reduceBEq, Int.reduceToNat, ↓reduceIte, f5], by simp only [go_sem, Nat.reduceEqDiff, Nat.reduceLT, Nat.reduceAdd, Nat.reduceMul, Int.reduceEq, Int.reduceLT, Int.reduceLE, Int.reduceNe, Int.reduceBEq, Int.reduceToNat, ↓reduceIte, f7], by simp only [go_sem, Nat.reduceEqDiff, Nat.reduceLT, Nat.reduceAdd, Nat.reduceMul, Int.reduceEq, Int.reduceLT, Int.reduceLE, Int.reduceNe, Int.reduceBEq, Int.reduceToNat, ↓reduceIte], by simp only [go_sem, Nat.reduceEqDiff, Nat.reduceLT, Nat.reduceAdd, Nat.reduceMul, Int.reduceEq, Int.reduceLT, Int.reduceLE, Int.reduceNe, Int.reduceBEq, Int.reduceToNat, ↓reduceIte, f1], by simp only [go_sem, Nat.reduceEqDiff, Nat.reduceLT, Nat.reduceAdd, Nat.reduceMul, Int.reduceEq, Int.reduceLT, Int.reduceLE, Int.reduceNe, Int.reduceBEq, Int.reduceToNat, ↓reduceIte], by simp only [go_sem, Nat.reduceEqDiff, Nat.reduceLT, Nat.reduceAdd, Nat.reduceMul, Int.reduceEq, Int.reduceLT, Int.reduceLE, Int.reduceNe, Int.reduceBEq, Int.reduceToNat, ↓reduceIte], hlog3, IMap.empty _ _ _ _, hSr, by simp, by simp [Ents.keys], ?_, by simp, hhi2.set hr _⟩ ?_
    · intro q hq
      simp [hq, Ents.get]
    clear hlog3 hSr hlog2 f1 f5 f7 f24 f25 hhi2
    rintro m F H3 ⟨j, S, sts, ps, hj, f5, f7, f8, f31, f32, f33, hlog, hmap, hSr, hlen, hnd, hinv, hcnt, hhi3⟩
    by_cases c1 : j < n
    · have d1 : decide ((j : Int) < (n : Int)) = true := by simp; omega
      have d0 : decide ((0 : Int) ≤ (j : Int)) = true := by simp
      obtain ⟨ab, rfl, b, hb, hc0⟩ := hops j c1
      have l0 := ld_arg hhi3 hc0
      simp only [go_sem, Nat.reduceEqDiff, Nat.reduceLT, Nat.reduceAdd, Nat.reduceMul, Int.reduceEq, Int.reduceLT, Int.reduceLE, Int.reduceNe, Int.reduceBEq, Int.reduceToNat, ↓reduceIte, f5, f7, f8, f31, f32, f33, d1, d0, l0]
      by_cases c2 : j < 80
      · have d2 : decide (80 ≤ (j : Int)) = false := by simp; omega
        have d3 : ((i : Int) == 0) = false := by simp; omega
        simp only [go_sem, Nat.reduceEqDiff, Nat.reduceLT, Nat.reduceAdd, Nat.reduceMul, Int.reduceEq, Int.reduceLT, Int.reduceLE, Int.reduceNe, Int.reduceBEq, Int.reduceToNat, ↓reduceIte, f5, f7, f8, f31, f32, f33, d2, d3]
        obtain ⟨q, hq⟩ : ∃ q, q = b / 2 % i := ⟨_, rfl⟩
        have hqi : q < i := by rw [hq]; exact Nat.mod_lt _ (by omega)
        have g1 : (b : Int).fdiv (2 ^ min 1 8) = ((b / 2 : Nat) : Int) := by
          show (b : Int).fdiv 2 = _
          rw [Int.fdiv_eq_ediv_of_nonneg _ (by omega)]; omega
        have g2 : IntKind.u64.wrap ((b / 2 : Nat) : Int) = ((b / 2 : Nat) : Int) := by rw [u64_in] <;> omega
        have g3 : ((b / 2 : Nat) : Int).tmod (i : Int) = (q : Int) := by
          rw [Int.tmod_eq_emod_of_nonneg (by omega), hq, Int.natCast_emod]
        have g4 : IntKind.u64.wrap (1 + (q : Int)) = ((q + 1 : Nat) : Int) := by rw [u64_in] <;> omega
        have g5 := and1 ⟨b, hb⟩
        simp only [] at g5
        have hst : stOf 1 sts ((q + 1 : Nat) : Int) = sts.getD q 0 := by
          rw [stOf, if_pos (by omega), show (((q + 1 : Nat) : Int) - ((1 : Nat) : Int)).toNat = q by omega]
        have e3 : IntKind.i64.wrap ((j : Int) + 1) = (j + 1 : Nat) := by rw [i64_in] <;> omega
        have h00 : decide ((0 : Int) = 0) = true := by decide
        obtain ⟨hi1, hi4, hget⟩ := hinv q hqi
        rcases Nat.mod_two_eq_zero_or_one b with hb2 | hb2
        · have g6 : decide (((b % 2 : Nat) : Int) = 1) = false := by simp [hb2]
          simp only [go_sem, Nat.reduceEqDiff, Nat.reduceLT, Nat.reduceAdd, Nat.reduceMul, Int.reduceEq, Int.reduceLT, Int.reduceLE, Int.reduceNe, Int.reduceBEq, Int.reduceToNat, ↓reduceIte, f5, f7, f8, f31, f32, f33, g1, g2, g3, g4, g5, g6]
          refine (ACalls.hi (commit_log hlog (by omega) (x := ((q + 1 : Nat) : Int)) (by omega))).mono ?_
          rintro r' H5 ⟨⟨rfl, hlog5, hf5⟩, hhi5⟩
          have hmap5 := hmap.keep fun o ho => hf5 _ o hSr ho
          by_cases hrun : sts.getD q 0 = 1
          · have hv : (((2 : Nat) : Int)) = 2 := rfl
            obtain ⟨vv, hvv⟩ : ∃ vv : Nat, vv = 2 := ⟨_, rfl⟩
            rw [hrun] at hst
            rw [if_pos hrun] at hget
            have hc : endCode 1 sts ((q + 1 : Nat) : Int) = 0 := by rw [endCode, if_pos hst]
            have hs : ∀ v, endSts 1 sts ((q + 1 : Nat) : Int) v = sts.set q v := fun v => by
              rw [endSts, if_pos hst, show (((q + 1 : Nat) : Int) - ((1 : Nat) : Int)).toNat = q by omega]
            rw [hs, ← hvv] at hlog5
            rw [hc]
            have hvd : decide ((vv : Int) = (vv : Int)) = true := by simp
            simp only [go_sem, Nat.reduceEqDiff, Nat.reduceLT, Nat.reduceAdd, Nat.reduceMul, Int.reduceEq, Int.reduceLT, Int.reduceLE, Int.reduceNe, Int.reduceBEq, Int.reduceToNat, ↓reduceIte, f5, f7, f8, f31, f32, f33, g1, g2, g3, g4, g5, lookK_int Try.underlying51 Try.underlying23 z3 hmap5, hget, Option.getD_none, h00]
            refine aop_mapUpdate (n := ((q + 1 : Nat) : Int)) (v := .int .i64 (vv : Int)) Try.underlying51 Try.underlying23 hmap5 (by simp only [go_sem, Nat.reduceEqDiff, Nat.reduceLT, Nat.reduceAdd, Nat.reduceMul, Int.reduceEq, Int.reduceLT, Int.reduceLE, Int.reduceNe, Int.reduceBEq, Int.reduceToNat, ↓reduceIte, f8]) (by simp only [go_sem, Nat.reduceEqDiff, Nat.reduceLT, Nat.reduceAdd, Nat.reduceMul, Int.reduceEq, Int.reduceLT, Int.reduceLE, Int.reduceNe, Int.reduceBEq, Int.reduceToNat, ↓reduceIte]) (by rw [hvv]; simp only [go_sem, Nat.reduceEqDiff, Nat.reduceLT, Nat.reduceAdd, Nat.reduceMul, Int.reduceEq, Int.reduceLT, Int.reduceLE, Int.reduceNe, Int.reduceBEq, Int.reduceToNat, ↓reduceIte]) ?_
            intro H6 hmap6 hf6
            have hlog6 := hlog5.keep (H' := H6) fun b o hb ho => by rw [hf6 b (fun e => hSr (by rw [← e]; exact hb))]; exact ho
            simp only [go_sem, Nat.reduceEqDiff, Nat.reduceLT, Nat.reduceAdd, Nat.reduceMul, Int.reduceEq, Int.reduceLT, Int.reduceLE, Int.reduceNe, Int.reduceBEq, Int.reduceToNat, ↓reduceIte, f5, f7, f8, f31, f32, f33, g1, g2, g3, g4, g5]
            have hget7 : (ps.put ((q + 1 : Nat) : Int) (.int .i64 (vv : Int))).get ((q + 1 : Nat) : Int) = some (.int .i64 (vv : Int)) := by rw [Ents.get_put, if_pos rfl]
            refine vdraw_of [⟨0, .p, [], []⟩, ⟨1, .p, [], []⟩, ⟨3, .p, [], []⟩, ⟨4, .p, [], []⟩, ⟨5, .n, [], []⟩, ⟨2, .c, [5], []⟩, ⟨6, .p, [], []⟩] mixed (by kernel_rfl) ?_
            simp only [go_sem, Nat.reduceEqDiff, Nat.reduceLT, Nat.reduceAdd, Nat.reduceMul, Int.reduceEq, Int.reduceLT, Int.reduceLE, Int.reduceNe, Int.reduceBEq, Int.reduceToNat, ↓reduceIte, f5, f7, f8, f31, f32, f33, g1, g2, g3, g4, g5, lookK_int Try.underlying51 Try.underlying23 z3 hmap6, hget7]
            refine (ACalls.hi (state_log hlog6 (by rw [List.length_set]; omega) (x := ((q + 1 : Nat) : Int)) (by omega))).mono ?_
            rintro r' H7 ⟨⟨rfl, rfl⟩, hhi7⟩
            have hst7 : stOf 1 (sts.set q vv) ((q + 1 : Nat) : Int) = vv := by
              rw [stOf, if_pos (by rw [List.length_set]; omega), show (((q + 1 : Nat) : Int) - ((1 : Nat) : Int)).toNat = q by omega]
              simp [show q < sts.length by omega]
            rw [hst7]
            simp only [go_sem, Nat.reduceEqDiff, Nat.reduceLT, Nat.reduceAdd, Nat.reduceMul, Int.reduceEq, Int.reduceLT, Int.reduceLE, Int.reduceNe, Int.reduceBEq, Int.reduceToNat, ↓reduceIte, f5, f7, f8, f31, f32, f33, g1, g2, g3, g4, g5, e3, lookK_int Try.underlying51 Try.underlying23 z3 hmap6, hget7, hvd]
            refine ⟨m - 1, by omega, j + 1, S, sts.set q vv, ps.put ((q + 1 : Nat) : Int) (.int .i64 (vv : Int)), by omega, by simp only [go_sem, Nat.reduceEqDiff, Nat.reduceLT, Nat.reduceAdd, Nat.reduceMul, Int.reduceEq, Int.reduceLT, Int.reduceLE, Int.reduceNe, Int.reduceBEq, Int.reduceToNat, ↓reduceIte, f5], by simp only [go_sem, Nat.reduceEqDiff, Nat.reduceLT, Nat.reduceAdd, Nat.reduceMul, Int.reduceEq, Int.reduceLT, Int.reduceLE, Int.reduceNe, Int.reduceBEq, Int.reduceToNat, ↓reduceIte, f7], by simp only [go_sem, Nat.reduceEqDiff, Nat.reduceLT, Nat.reduceAdd, Nat.reduceMul, Int.reduceEq, Int.reduceLT, Int.reduceLE, Int.reduceNe, Int.reduceBEq, Int.reduceToNat, ↓reduceIte, f8], by simp only [go_sem, Nat.reduceEqDiff, Nat.reduceLT, Nat.reduceAdd, Nat.reduceMul, Int.reduceEq, Int.reduceLT, Int.reduceLE, Int.reduceNe, Int.reduceBEq, Int.reduceToNat, ↓reduceIte, f31], by simp only [go_sem, Nat.reduceEqDiff, Nat.reduceLT, Nat.reduceAdd, Nat.reduceMul, Int.reduceEq, Int.reduceLT, Int.reduceLE, Int.reduceNe, Int.reduceBEq, Int.reduceToNat, ↓reduceIte, f32], by simp only [go_sem, Nat.reduceEqDiff, Nat.reduceLT, Nat.reduceAdd, Nat.reduceMul, Int.reduceEq, Int.reduceLT, Int.reduceLE, Int.reduceNe, Int.reduceBEq, Int.reduceToNat, ↓reduceIte], hlog6, hmap6, hSr, by rw [List.length_set]; exact hlen, Ents.nodup_put _ _ hnd, ?_, ?_, hhi7⟩
            · intro y hy
              obtain ⟨y1, y4, yg⟩ := hinv y hy
              rw [Ents.get_put]
              by_cases e : y = q
              · subst e
                have : (sts.set y vv).getD y 0 = vv := by simp [show y < sts.length by omega]
                rw [this, if_pos rfl, if_neg (by omega)]
                exact ⟨by omega, by omega, rfl⟩
              · have : (sts.set q vv).getD y 0 = sts.getD y 0 := by
                  rw [List.getD_eq_getElem?_getD, List.getD_eq_getElem?_getD, List.getElem?_set_ne (fun c => e c.symm)]
                rw [this, if_neg (by omega)]
                exact ⟨y1, y4, yg⟩
            · rw [Ents.len_put, if_pos hget]
              have := count_end 1 sts q vv (by omega) hrun (by omega)
              omega
          · have hnr := hrun
            rw [if_neg hrun] at hget
            have hc : endCode 1 sts ((q + 1 : Nat) : Int) = 15 := by rw [endCode, if_neg (by rw [hst]; exact hrun)]
            have hs : ∀ v, endSts 1 sts ((q + 1 : Nat) : Int) v = sts := fun v => by rw [endSts, if_neg (by rw [hst]; exact hrun)]
            rw [hs] at hlog5
            rw [hc]
            have h15 : decide ((15 : Int) = 0) = false := by decide
            have hz0 : decide (((sts.getD q 0 : Nat) : Int) = 0) = false := by simp; simp at hi1; omega
            have hvd : decide (((sts.getD q 0 : Nat) : Int) = ((sts.getD q 0 : Nat) : Int)) = true := by simp
            simp only [go_sem, Nat.reduceEqDiff, Nat.reduceLT, Nat.reduceAdd, Nat.reduceMul, Int.reduceEq, Int.reduceLT, Int.reduceLE, Int.reduceNe, Int.reduceBEq, Int.reduceToNat, ↓reduceIte, f5, f7, f8, f31, f32, f33, g1, g2, g3, g4, g5, lookK_int Try.underlying51 Try.underlying23 z3 hmap5, hget, h15, hz0]
            refine vdraw_of [⟨0, .p, [], []⟩, ⟨1, .p, [], []⟩, ⟨3, .p, [], []⟩, ⟨4, .p, [], []⟩, ⟨5, .n, [], []⟩, ⟨2, .c, [5], []⟩, ⟨6, .p, [], []⟩] mixed (by kernel_rfl) ?_
            simp only [go_sem, Nat.reduceEqDiff, Nat.reduceLT, Nat.reduceAdd, Nat.reduceMul, Int.reduceEq, Int.reduceLT, Int.reduceLE, Int.reduceNe, Int.reduceBEq, Int.reduceToNat, ↓reduceIte, f5, f7, f8, f31, f32, f33, g1, g2, g3, g4, g5, lookK_int Try.underlying51 Try.underlying23 z3 hmap5, hget, h15, hz0]
            refine (ACalls.hi (state_log hlog5 (by omega) (x := ((q + 1 : Nat) : Int)) (by omega))).mono ?_
            rintro r' H7 ⟨⟨rfl, rfl⟩, hhi7⟩
            rw [hst]
            simp only [go_sem, Nat.reduceEqDiff, Nat.reduceLT, Nat.reduceAdd, Nat.reduceMul, Int.reduceEq, Int.reduceLT, Int.reduceLE, Int.reduceNe, Int.reduceBEq, Int.reduceToNat, ↓reduceIte, f5, f7, f8, f31, f32, f33, g1, g2, g3, g4, g5, e3, lookK_int Try.underlying51 Try.underlying23 z3 hmap5, hget, hvd]
            exact ⟨m - 1, by omega, j + 1, S, sts, ps, by omega, by simp only [go_sem, Nat.reduceEqDiff, Nat.reduceLT, Nat.reduceAdd, Nat.reduceMul, Int.reduceEq, Int.reduceLT, Int.reduceLE, Int.reduceNe, Int.reduceBEq, Int.reduceToNat, ↓reduceIte, f5], by simp only [go_sem, Nat.reduceEqDiff, Nat.reduceLT, Nat.reduceAdd, Nat.reduceMul, Int.reduceEq, Int.reduceLT, Int.reduceLE, Int.reduceNe, Int.reduceBEq, Int.reduceToNat, ↓reduceIte, f7], by simp only [go_sem, Nat.reduceEqDiff, Nat.reduceLT, Nat.reduceAdd, Nat.reduceMul, Int.reduceEq, Int.reduceLT, Int.reduceLE, Int.reduceNe, Int.reduceBEq, Int.reduceToNat, ↓reduceIte, f8], by simp only [go_sem, Nat.reduceEqDiff, Nat.reduceLT, Nat.reduceAdd, Nat.reduceMul, Int.reduceEq, Int.reduceLT, Int.reduceLE, Int.reduceNe, Int.reduceBEq, Int.reduceToNat, ↓reduceIte, f31], by simp only [go_sem, Nat.reduceEqDiff, Nat.reduceLT, Nat.reduceAdd, Nat.reduceMul, Int.reduceEq, Int.reduceLT, Int.reduceLE, Int.reduceNe, Int.reduceBEq, Int.reduceToNat, ↓reduceIte, f32], by simp only [go_sem, Nat.reduceEqDiff, Nat.reduceLT, Nat.reduceAdd, Nat.reduceMul, Int.reduceEq, Int.reduceLT, Int.reduceLE, Int.reduceNe, Int.reduceBEq, Int.reduceToNat, ↓reduceIte], hlog5, hmap5, hSr, hlen, hnd, hinv, hcnt, hhi7⟩
        · have g6 : decide (((b % 2 : Nat) : Int) = 1) = true := by simp [hb2]
          simp only [go_sem, Nat.reduceEqDiff, Nat.reduceLT, Nat.reduceAdd, Nat.reduceMul, Int.reduceEq, Int.reduceLT, Int.reduceLE, Int.reduceNe, Int.reduceBEq, Int.reduceToNat, ↓reduceIte, f5, f7, f8, f31, f32, f33, g1, g2, g3, g4, g5, g6]
          refine (ACalls.hi (abort_log hlog (by omega) (x := ((q + 1 : Nat) : Int)) (by omega))).mono ?_
          rintro r' H5 ⟨⟨rfl, hlog5, hf5⟩, hhi5⟩
          have hmap5 := hmap.keep fun o ho => hf5 _ o hSr ho
          by_cases hrun : sts.getD q 0 = 1
          · have hv : (((3 : Nat) : Int)) = 3 := rfl
            obtain ⟨vv, hvv⟩ : ∃ vv : Nat, vv = 3 := ⟨_, rfl⟩
            rw [hrun] at hst
            rw [if_pos hrun] at hget
            have hc : endCode 1 sts ((q + 1 : Nat) : Int) = 0 := by rw [endCode, if_pos hst]
            have hs : ∀ v, endSts 1 sts ((q + 1 : Nat) : Int) v = sts.set q v := fun v => by
              rw [endSts, if_pos hst, show (((q + 1 : Nat) : Int) - ((1 : Nat) : Int)).toNat = q by omega]
            rw [hs, ← hvv] at hlog5
            rw [hc]
            have hvd : decide ((vv : Int) = (vv : Int)) = true := by simp
            simp only [go_sem, Nat.reduceEqDiff, Nat.reduceLT, Nat.reduceAdd, Nat.reduceMul, Int.reduceEq, Int.reduceLT, Int.reduceLE, Int.reduceNe, Int.reduceBEq, Int.reduceToNat, ↓reduceIte, f5, f7, f8, f31, f32, f33, g1, g2, g3, g4, g5, lookK_int Try.underlying51 Try.underlying23 z3 hmap5, hget, Option.getD_none, h00]
            refine aop_mapUpdate (n := ((q + 1 : Nat) : Int)) (v := .int .i64 (vv : Int)) Try.underlying51 Try.underlying23 hmap5 (by simp only [go_sem, Nat.reduceEqDiff, Nat.reduceLT, Nat.reduceAdd, Nat.reduceMul, Int.reduceEq, Int.reduceLT, Int.reduceLE, Int.reduceNe, Int.reduceBEq, Int.reduceToNat, ↓reduceIte, f8]) (by simp only [go_sem, Nat.reduceEqDiff, Nat.reduceLT, Nat.reduceAdd, Nat.reduceMul, Int.reduceEq, Int.reduceLT, Int.reduceLE, Int.reduceNe, Int.reduceBEq, Int.reduceToNat, ↓reduceIte]) (by rw [hvv]; simp only [go_sem, Nat.reduceEqDiff, Nat.reduceLT, Nat.reduceAdd, Nat.reduceMul, Int.reduceEq, Int.reduceLT, Int.reduceLE, Int.reduceNe, Int.reduceBEq, Int.reduceToNat, ↓reduceIte]) ?_
            intro H6 hmap6 hf6
            have hlog6 := hlog5.keep (H' := H6) fun b o hb ho => by rw [hf6 b (fun e => hSr (by rw [← e]; exact hb))]; exact ho
            simp only [go_sem, Nat.reduceEqDiff, Nat.reduceLT, Nat.reduceAdd, Nat.reduceMul, Int.reduceEq, Int.reduceLT, Int.reduceLE, Int.reduceNe, Int.reduceBEq, Int.reduceToNat, ↓reduceIte, f5, f7, f8, f31, f32, f33, g1, g2, g3, g4, g5]
            have hget7 : (ps.put ((q + 1 : Nat) : Int) (.int .i64 (vv : Int))).get ((q + 1 : Nat) : Int) = some (.int .i64 (vv : Int)) := by rw [Ents.get_put, if_pos rfl]
            refine vdraw_of [⟨0, .p, [], []⟩, ⟨1, .p, [], []⟩, ⟨3, .p, [], []⟩, ⟨4, .p, [], []⟩, ⟨5, .n, [], []⟩, ⟨2, .c, [5], []⟩, ⟨6, .p, [], []⟩] mixed (by kernel_rfl) ?_
            simp only [go_sem, Nat.reduceEqDiff, Nat.reduceLT, Nat.reduceAdd, Nat.reduceMul, Int.reduceEq, Int.reduceLT, Int.reduceLE, Int.reduceNe, Int.reduceBEq, Int.reduceToNat, ↓reduceIte, f5, f7, f8, f31, f32, f33, g1, g2, g3, g4, g5, lookK_int Try.underlying51 Try.underlying23 z3 hmap6, hget7]
            refine (ACalls.hi (state_log hlog6 (by rw [List.length_set]; omega) (x := ((q + 1 : Nat) : Int)) (by omega))).mono ?_
            rintro r' H7 ⟨⟨rfl, rfl⟩, hhi7⟩
            have hst7 : stOf 1 (sts.set q vv) ((q + 1 : Nat) : Int) = vv := by
              rw [stOf, if_pos (by rw [List.length_set]; omega), show (((q + 1 : Nat) : Int) - ((1 : Nat) : Int)).toNat = q by omega]
              simp [show q < sts.length by omega]
            rw [hst7]
            simp only [go_sem, Nat.reduceEqDiff, Nat.reduceLT, Nat.reduceAdd, Nat.reduceMul, Int.reduceEq, Int.reduceLT, Int.reduceLE, Int.reduceNe, Int.reduceBEq, Int.reduceToNat, ↓reduceIte, f5, f7, f8, f31, f32, f33, g1, g2, g3, g4, g5, e3, lookK_int Try.underlying51 Try.underlying23 z3 hmap6, hget7, hvd]
            refine ⟨m - 1, by omega, j + 1, S, sts.set q vv, ps.put ((q + 1 : Nat) : Int) (.int .i64 (vv : Int)), by omega, by simp only [go_sem, Nat.reduceEqDiff, Nat.reduceLT, Nat.reduceAdd, Nat.reduceMul, Int.reduceEq, Int.reduceLT, Int.reduceLE, Int.reduceNe, Int.reduceBEq, Int.reduceToNat, ↓reduceIte, f5], by simp only [go_sem, Nat.reduceEqDiff, Nat.reduceLT, Nat.reduceAdd, Nat.reduceMul, Int.reduceEq, Int.reduceLT, Int.reduceLE, Int.reduceNe, Int.reduceBEq, Int.reduceToNat, ↓reduceIte, f7], by simp only [go_sem, Nat.reduceEqDiff, Nat.reduceLT, Nat.reduceAdd, Nat.reduceMul, Int.reduceEq, Int.reduceLT, Int.reduceLE, Int.reduceNe, Int.reduceBEq, Int.reduceToNat, ↓reduceIte, f8], by simp only [go_sem, Nat.reduceEqDiff, Nat.reduceLT, Nat.reduceAdd, Nat.reduceMul, Int.reduceEq, Int.reduceLT, Int.reduceLE, Int.reduceNe, Int.reduceBEq, Int.reduceToNat, ↓reduceIte, f31], by simp only [go_sem, Nat.reduceEqDiff, Nat.reduceLT, Nat.reduceAdd, Nat.reduceMul, Int.reduceEq, Int.reduceLT, Int.reduceLE, Int.reduceNe, Int.reduceBEq, Int.reduceToNat, ↓reduceIte, f32], by simp only [go_sem, Nat.reduceEqDiff, Nat.reduceLT, Nat.reduceAdd, Nat.reduceMul, Int.reduceEq, Int.reduceLT, Int.reduceLE, Int.reduceNe, Int.reduceBEq, Int.reduceToNat, ↓reduceIte], hlog6, hmap6, hSr, by rw [List.length_set]; exact hlen, Ents.nodup_put _ _ hnd, ?_, ?_, hhi7⟩
            · intro y hy
              obtain ⟨y1, y4, yg⟩ := hinv y hy
              rw [Ents.get_put]
              by_cases e : y = q
              · subst e
                have : (sts.set y vv).getD y 0 = vv := by simp [show y < sts.length by omega]
                rw [this, if_pos rfl, if_neg (by omega)]
                exact ⟨by omega, by omega, rfl⟩
              · have : (sts.set q vv).getD y 0 = sts.getD y 0 := by
                  rw [List.getD_eq_getElem?_getD, List.getD_eq_getElem?_getD, List.getElem?_set_ne (fun c => e c.symm)]
                rw [this, if_neg (by omega)]
                exact ⟨y1, y4, yg⟩
            · rw [Ents.len_put, if_pos hget]
              have := count_end 1 sts q vv (by omega) hrun (by omega)
              omega
          · have hnr := hrun
            rw [if_neg hrun] at hget
            have hc : endCode 1 sts ((q + 1 : Nat) : Int) = 15 := by rw [endCode, if_neg (by rw [hst]; exact hrun)]
            have hs : ∀ v, endSts 1 sts ((q + 1 : Nat) : Int) v = sts := fun v => by rw [endSts, if_neg (by rw [hst]; exact hrun)]
            rw [hs] at hlog5
            rw [hc]
            have h15 : decide ((15 : Int) = 0) = false := by decide
            have hz0 : decide (((sts.getD q 0 : Nat) : Int) = 0) = false := by simp; simp at hi1; omega
            have hvd : decide (((sts.getD q 0 : Nat) : Int) = ((sts.getD q 0 : Nat) : Int)) = true := by simp
            simp only [go_sem, Nat.reduceEqDiff, Nat.reduceLT, Nat.reduceAdd, Nat.reduceMul, Int.reduceEq, Int.reduceLT, Int.reduceLE, Int.reduceNe, Int.reduceBEq, Int.reduceToNat, ↓reduceIte, f5, f7, f8, f31, f32, f33, g1, g2, g3, g4, g5, lookK_int Try.underlying51 Try.underlying23 z3 hmap5, hget, h15, hz0]
            refine vdraw_of [⟨0, .p, [], []⟩, ⟨1, .p, [], []⟩, ⟨3, .p, [], []⟩, ⟨4, .p, [], []⟩, ⟨5, .n, [], []⟩, ⟨2, .c, [5], []⟩, ⟨6, .p, [], []⟩] mixed (by kernel_rfl) ?_
            simp only [go_sem, Nat.reduceEqDiff, Nat.reduceLT, Nat.reduceAdd, Nat.reduceMul, Int.reduceEq, Int.reduceLT, Int.reduceLE, Int.reduceNe, Int.reduceBEq, Int.reduceToNat, ↓reduceIte, f5, f7, f8, f31, f32, f33, g1, g2, g3, g4, g5, lookK_int Try.underlying51 Try.underlying23 z3 hmap5, hget, h15, hz0]
            refine (ACalls.hi (state_log hlog5 (by omega) (x := ((q + 1 : Nat) : Int)) (by omega))).mono ?_
            rintro r' H7 ⟨⟨rfl, rfl⟩, hhi7⟩
            rw [hst]
            simp only [go_sem, Nat.reduceEqDiff, Nat.reduceLT, Nat.reduceAdd, Nat.reduceMul, Int.reduceEq, Int.reduceLT, Int.reduceLE, Int.reduceNe, Int.reduceBEq, Int.reduceToNat, ↓reduceIte, f5, f7, f8, f31, f32, f33, g1, g2, g3, g4, g5, e3, lookK_int Try.underlying51 Try.underlying23 z3 hmap5, hget, hvd]
            exact ⟨m - 1, by omega, j + 1, S, sts, ps, by omega, by simp only [go_sem, Nat.reduceEqDiff, Nat.reduceLT, Nat.reduceAdd, Nat.reduceMul, Int.reduceEq, Int.reduceLT, Int.reduceLE, Int.reduceNe, Int.reduceBEq, Int.reduceToNat, ↓reduceIte, f5], by simp only [go_sem, Nat.reduceEqDiff, Nat.reduceLT, Nat.reduceAdd, Nat.reduceMul, Int.reduceEq, Int.reduceLT, Int.reduceLE, Int.reduceNe, Int.reduceBEq, Int.reduceToNat, ↓reduceIte, f7], by simp only [go_sem, Nat.reduceEqDiff, Nat.reduceLT, Nat.reduceAdd, Nat.reduceMul, Int.reduceEq, Int.reduceLT, Int.reduceLE, Int.reduceNe, Int.reduceBEq, Int.reduceToNat, ↓reduceIte, f8], by simp only [go_sem, Nat.reduceEqDiff, Nat.reduceLT, Nat.reduceAdd, Nat.reduceMul, Int.reduceEq, Int.reduceLT, Int.reduceLE, Int.reduceNe, Int.reduceBEq, Int.reduceToNat, ↓reduceIte, f31], by simp only [go_sem, Nat.reduceEqDiff, Nat.reduceLT, Nat.reduceAdd, Nat.reduceMul, Int.reduceEq, Int.reduceLT, Int.reduceLE, Int.reduceNe, Int.reduceBEq, Int.reduceToNat, ↓reduceIte, f32], by simp only [go_sem, Nat.reduceEqDiff, Nat.reduceLT, Nat.reduceAdd, Nat.reduceMul, Int.reduceEq, Int.reduceLT, Int.reduceLE, Int.reduceNe, Int.reduceBEq, Int.reduceToNat, ↓reduceIte], hlog5, hmap5, hSr, hlen, hnd, hinv, hcnt, hhi7⟩
      · have d2 : decide (80 ≤ (j : Int)) = true := by simp; omega
        simp only [go_sem, Nat.reduceEqDiff, Nat.reduceLT, Nat.reduceAdd, Nat.reduceMul, Int.reduceEq, Int.reduceLT, Int.reduceLE, Int.reduceNe, Int.reduceBEq, Int.reduceToNat, ↓reduceIte, f5, f7, f8, f31, f32, f33, d2]
        refine (all_log hlog (by omega)).mono ?_
        rintro r5 H5 ⟨hrow, hfr, hsub5⟩
        have hmap5 := hmap.keep fun o ho => hsub5 _ o ho
        obtain ⟨ra, rc, rfl⟩ := hrow.slice
        have hrl := runs_count 1 sts
        have w1 : IntKind.u64.wrap ((runs 1 sts).length : Int) = ((runs 1 sts).length : Int) := by rw [u64_in] <;> omega
        have w2 : IntKind.u64.wrap (ps.length : Int) = (ps.length : Int) := by rw [u64_in] <;> omega
        have w3 : IntKind.u64.wrap ((i : Int) - (ps.length : Int)) = ((runs 1 sts).length : Int) := by rw [u64_in] <;> omega
        have w4 : decide (((runs 1 sts).length : Int) = ((runs 1 sts).length : Int)) = true := by simp
        simp only [go_sem, Nat.reduceEqDiff, Nat.reduceLT, Nat.reduceAdd, Nat.reduceMul, Int.reduceEq, Int.reduceLT, Int.reduceLE, Int.reduceNe, Int.reduceBEq, Int.reduceToNat, ↓reduceIte, f5, f7, f8, f31, f32, f33, lenK_map hmap5, w1, w2, w3, w4]
    · have d1 : decide ((j : Int) < (n : Int)) = false := by simp; omega
      simp only [go_sem, Nat.reduceEqDiff, Nat.reduceLT, Nat.reduceAdd, Nat.reduceMul, Int.reduceEq, Int.reduceLT, Int.reduceLE, Int.reduceNe, Int.reduceBEq, Int.reduceToNat, ↓reduceIte, f5, f7, f8, f31, f32, f33, d1]
      refine (all_log hlog (by omega)).mono ?_
      rintro r5 H5 ⟨hrow, hfr, hsub5⟩
      have hmap5 := hmap.keep fun o ho => hsub5 _ o ho
      obtain ⟨ra, rc, rfl⟩ := hrow.slice
      have hrl := runs_count 1 sts
      have w1 : IntKind.u64.wrap ((runs 1 sts).length : Int) = ((runs 1 sts).length : Int) := by rw [u64_in] <;> omega
      have w2 : IntKind.u64.wrap (ps.length : Int) = (ps.length : Int) := by rw [u64_in] <;> omega
      have w3 : IntKind.u64.wrap ((i : Int) - (ps.length : Int)) = ((runs 1 sts).length : Int) := by rw [u64_in] <;> omega
      have w4 : decide (((runs 1 sts).length : Int) = ((runs 1 sts).length : Int)) = true := by simp
      simp only [go_sem, Nat.reduceEqDiff, Nat.reduceLT, Nat.reduceAdd, Nat.reduceMul, Int.reduceEq, Int.reduceLT, Int.reduceLE, Int.reduceNe, Int.reduceBEq, Int.reduceToNat, ↓reduceIte, f5, f7, f8, f31, f32, f33, lenK_map hmap5, w1, w2, w3, w4]
end Go.Proofs.Ytmpepacfnckadaa
