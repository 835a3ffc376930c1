/-
  The law ClogRuns: those that run are those that have begun and are neither committed nor aborted, rising.
  Conditions: the script's steps read as steps.
-/
import Derived.Test.YtmpepacfnckadaaOnce
namespace Go.Proofs.Ytmpepacfnckadaa
open Go Go.RowKit Go.Proofs.YtmpepacfnckadaaW
set_option maxRecDepth 100000
set_option linter.unusedSimpArgs false
set_option linter.unusedVariables false

/-- The states of a log in which each number has begun. -/
def RunsM (ps : Ents) (f : Nat) (sts : List Nat) : Prop :=
  ps.keys.Nodup ∧ (∀ x : Nat, ps.get (x : Int) = if stOf f sts (x : Int) = 1 then some (.bool true) else none) ∧ ps.length = sts.count 1

theorem runs_mem {f : Nat} {sts : List Nat} {i : Nat} (h : i < (runs f sts).length) : ∃ k, k < sts.length ∧ (runs f sts)[i]? = some (f + k) ∧ sts.getD k 0 = 1 := by
  have hm := List.getElem_mem h
  unfold runs runsK at hm
  simp only [List.mem_map, List.mem_filter, List.mem_range, beq_iff_eq] at hm
  obtain ⟨k, ⟨hk, h1⟩, he⟩ := hm
  refine ⟨k, hk, ?_, h1⟩
  rw [List.getElem?_eq_getElem h, Option.some.injEq]
  exact he.symm
theorem runs_rise (f : Nat) (sts : List Nat) {i : Nat} (h : i + 1 < (runs f sts).length) : (runs f sts)[i]'(by omega) < (runs f sts)[i + 1] := by
  have hp : (runs f sts).Pairwise (· < ·) := by
    unfold runs runsK
    rw [List.pairwise_map]
    exact (List.pairwise_lt_range.filter _).imp (by intro a b h; omega)
  exact (List.pairwise_iff_getElem.1 hp) i (i + 1) (by omega) h (by omega)
theorem stOf_set {f : Nat} {sts : List Nat} {k v : Nat} (hk : k < sts.length) (x : Nat) : stOf f (sts.set k v) (x : Int) = if x = f + k then v else stOf f sts (x : Int) := by
  by_cases e : x = f + k
  · rw [if_pos e, e, stOf, if_pos (by rw [List.length_set]; omega), show (((f + k : Nat) : Int) - (f : Int)).toNat = k by omega]
    simp [hk]
  · rw [if_neg e]
    unfold stOf
    rw [List.length_set]
    split
    · rw [List.getD_eq_getElem?_getD, List.getD_eq_getElem?_getD, List.getElem?_set_ne (by omega)]
    · rfl
theorem stOf_push {f : Nat} {sts : List Nat} {v : Nat} (x : Nat) : stOf f (sts ++ [v]) (x : Int) = if x = f + sts.length then v else stOf f sts (x : Int) := by
  by_cases e : x = f + sts.length
  · rw [if_pos e, e, stOf, if_pos (by rw [List.length_append]; simp; omega), show (((f + sts.length : Nat) : Int) - (f : Int)).toNat = sts.length by omega]
    simp
  · rw [if_neg e]
    unfold stOf
    rw [List.length_append]
    by_cases c : (f : Int) ≤ (x : Int) ∧ (x : Int) < (f : Int) + (sts.length : Int)
    · rw [if_pos c, if_pos (by simp; omega), List.getD_eq_getElem?_getD, List.getD_eq_getElem?_getD, List.getElem?_append_left (by omega)]
    · rw [if_neg c, if_neg (by simp; omega)]
theorem RunsM.push {ps : Ents} {f : Nat} {sts : List Nat} (h : RunsM ps f sts) : RunsM (ps.put ((f + sts.length : Nat) : Int) (.bool true)) f (sts ++ [1]) := by
  obtain ⟨h1, h2, h3⟩ := h
  have hn : ps.get ((f + sts.length : Nat) : Int) = none := by
    rw [h2, if_neg]; unfold stOf; rw [if_neg (by omega)]; omega
  refine ⟨Ents.nodup_put _ _ h1, fun x => ?_, ?_⟩
  · rw [Ents.get_put, stOf_push]
    by_cases e : x = f + sts.length
    · rw [if_pos (by rw [e]), if_pos e, if_pos rfl]
    · rw [if_neg (by omega), if_neg e]; exact h2 x
  · rw [Ents.len_put, if_pos hn, List.count_append, h3]; simp
theorem RunsM.fin {ps : Ents} {f : Nat} {sts : List Nat} (h : RunsM ps f sts) (x : Nat) {v : Nat} (hv : v ≠ 1) : RunsM (ps.del (x : Int)) f (endSts f sts (x : Int) v) := by
  obtain ⟨h1, h2, h3⟩ := h
  by_cases c : stOf f sts (x : Int) = 1
  · obtain ⟨k, hx, hk, hk1⟩ := stOf_one (by omega) c
    have hx' : x = f + k := by omega
    subst hx'
    have he : endSts f sts ((f + k : Nat) : Int) v = sts.set k v := by
      rw [endSts, if_pos c, show (((f + k : Nat) : Int) - (f : Int)).toNat = k by omega]
    have hg : ps.get ((f + k : Nat) : Int) = some (.bool true) := by rw [h2, if_pos c]
    rw [he]
    refine ⟨Ents.nodup_del _ h1, fun y => ?_, ?_⟩
    · rw [Ents.get_del _ _ h1, stOf_set hk]
      by_cases e : y = f + k
      · rw [if_pos (by rw [e]), if_pos e, if_neg hv]
      · rw [if_neg (by omega), if_neg e]; exact h2 y
    · rw [Ents.len_del, if_neg (by rw [hg]; simp)]
      have := count_end f sts k v hk hk1 hv
      omega
  · have hg : ps.get (x : Int) = none := by rw [h2, if_neg c]
    rw [endSts, if_neg c, Ents.del_none hg]
    exact ⟨h1, h2, h3⟩
def RunsI (w0 : World) (f l r n : Nat) (a : Value) (m : Nat) (F : Fr) (H : Hp) : Prop :=
  ∃ k S sts ps, k + m = n ∧ F 0 = .int .u64 (f : Int) ∧ F 5 = ptr l ∧ F 7 = .map (some r) ∧ F 8 = .int .i64 (sts.length : Int) ∧ F 30 = a ∧ F 31 = .int .i64 (n : Int) ∧ F 32 = .int .i64 (k : Int) ∧
    LogAt H l S f sts ∧ IMap H r .u64 ps ∧ ¬ S r ∧ RunsM ps f sts ∧ sts.length ≤ k ∧ sts.length ≤ 60 ∧ Hi w0 H
def RunsJ (f l r n k nn : Nat) (a b : Value) (xs : List Nat) (H0 : Hp) (m : Nat) (F : Fr) (H : Hp) : Prop :=
  ∃ i : Nat, i + m = xs.length ∧ F 0 = .int .u64 (f : Int) ∧ F 5 = ptr l ∧ F 7 = .map (some r) ∧ F 8 = .int .i64 (nn : Int) ∧ F 30 = a ∧ F 31 = .int .i64 (n : Int) ∧ F 32 = .int .i64 (k : Int) ∧
    F 14 = b ∧ F 101 = b ∧ F 102 = .int .i64 (xs.length : Int) ∧ F 103 = .int .i64 (i : Int) ∧ H = H0

theorem runs_ok (w0 : World) (first : Nat) (hf : first < 18446744073709551616) (a : Value) (n : Nat) (ha : OpsArg w0 a n) :
    ACalls Try.prog w0 6 #[.int .u64 (first : Int), a] (fun _ => none) fun r H' => r = .bool true ∧ True := by
  obtain ⟨ad, c, rfl, hn, hops⟩ := ha
  obtain ⟨f, hfd⟩ : ∃ f, f = 1 + first % 1000000 := ⟨_, rfl⟩
  have e1 : (first : Int).tmod 1000000 = ((first % 1000000 : Nat) : Int) := by rw [Int.tmod_eq_emod_of_nonneg (by omega)]; omega
  have e2 : IntKind.u64.wrap (1 + ((first % 1000000 : Nat) : Int)) = (f : Int) := by rw [u64_in] <;> omega
  refine acalls_of Try.func6 rfl Try.ntmps6 r6 (by simp) ?_
  simp only [go_sem, Nat.reduceEqDiff, Nat.reduceLT, Nat.reduceAdd, Nat.reduceMul, Int.reduceEq, Int.reduceLT, Int.reduceLE, Int.reduceNe, Int.reduceBEq, Int.reduceToNat, ↓reduceIte]
  refine (awake09 w0 _).mono ?_
  rintro r H' ⟨rfl, rfl⟩
  simp only [go_sem, Nat.reduceEqDiff, Nat.reduceLT, Nat.reduceAdd, Nat.reduceMul, Int.reduceEq, Int.reduceLT, Int.reduceLE, Int.reduceNe, Int.reduceBEq, Int.reduceToNat, ↓reduceIte, e1, e2]
  refine (ACalls.hi (new_ok w0 f _ (by omega) (by omega))).mono ?_
  rintro r H1 ⟨⟨l, rfl, hl, hl0, hlog, hsub⟩, hhi⟩
  simp only [go_sem, Nat.reduceEqDiff, Nat.reduceLT, Nat.reduceAdd, Nat.reduceMul, Int.reduceEq, Int.reduceLT, Int.reduceLE, Int.reduceNe, Int.reduceBEq, Int.reduceToNat, ↓reduceIte]
  intro r hr hrn
  have hlr : r ≠ l := fun e => by obtain ⟨o, ho⟩ := hlog.own (b := l) rfl; rw [e, ho] at hrn; cases hrn
  have hlog3 : LogAt (H1.set r (.map #[] 0)) l (fun b => b = l) f [] := hlog.keep fun b o hb ho => by
    rw [Hp.set_ne _ _ _ _ (fun e => hlr (by rw [← e]; exact hb))]; exact ho
  have hM0 : RunsM [] f [] := ⟨by simp [Ents.keys], fun x => by
    have h0 : stOf f [] (x : Int) = 0 := by unfold stOf; split <;> simp
    rw [h0]; rfl, rfl⟩
  simp only [go_sem, Nat.reduceEqDiff, Nat.reduceLT, Nat.reduceAdd, Nat.reduceMul, Int.reduceEq, Int.reduceLT, Int.reduceLE, Int.reduceNe, Int.reduceBEq, Int.reduceToNat, ↓reduceIte]
  refine AC.loop (RunsI w0 f l r n (.slice ad n c)) (n := n) ⟨0, _, [], [], by omega, rfl, rfl, rfl, rfl, rfl, rfl, rfl, hlog3, IMap.empty _ _ _ _, hlr, hM0, by simp, by simp, hhi.set hr _⟩ ?_
  clear hlog3 hlog hsub hhi
  rintro m F H3 ⟨k, S, sts, ps, hk, f0, f5, f7, f8, f30, f31, f32, hlog, hmap, hSr, hM, hlen, hlen2, hhi3⟩
  by_cases c1 : k < n
  · have d1 : decide ((k : Int) < (n : Int)) = true := by simp; omega
    have d0 : decide ((0 : Int) ≤ (k : Int)) = true := by simp
    obtain ⟨ab, rfl, d, x, nr, hd, hx, hc0, hc1, hc2⟩ := hops k c1
    have l0 := ld_arg hhi3 hc0
    have l1 := ld_arg hhi3 hc1
    have l2 := ld_arg hhi3 hc2
    have hl3 : ldCells w0 H3 (ab.add (k * 3)) 0 3 = some [.int .u8 (d : Int), .int .u64 (x : Int), .bool nr] := by
      simp only [ldCells, l0, l1, l2, Option.bind_some, Option.map_some]
    simp only [go_sem, Nat.reduceEqDiff, Nat.reduceLT, Nat.reduceAdd, Nat.reduceMul, Int.reduceEq, Int.reduceLT, Int.reduceLE, Int.reduceNe, Int.reduceBEq, Int.reduceToNat, ↓reduceIte, f0, f5, f7, f8, f30, f31, f32, d1, d0, ldK_agg, hl3]
    intro b hb hnb
    have hlog4 : LogAt (H3.set b (.cells #[.int .u8 (d : Int), .int .u64 (x : Int), .bool nr] 40 (0, 0))) l S f sts := hlog.keep fun i o _ hi => by
      rw [Hp.set_ne _ _ _ _ (fun e => by rw [e, hnb] at hi; cases hi)]; exact hi
    have hmap4 : IMap (H3.set b (.cells #[.int .u8 (d : Int), .int .u64 (x : Int), .bool nr] 40 (0, 0))) r .u64 ps := hmap.keep fun o hi => by
      rw [Hp.set_ne _ _ _ _ (fun e => by rw [e, hnb] at hi; cases hi)]; exact hi
    have hbl := ld_own w0 (Hp.set_same H3 b (.cells #[.int .u8 (d : Int), .int .u64 (x : Int), .bool nr] 40 (0, 0)))
    simp only [go_sem, Nat.reduceEqDiff, Nat.reduceLT, Nat.reduceAdd, Nat.reduceMul, Int.reduceEq, Int.reduceLT, Int.reduceLE, Int.reduceNe, Int.reduceBEq, Int.reduceToNat, ↓reduceIte, f0, f5, f7, f8, f30, f31, f32]
    rw [storeK_all (cs := #[.int .u8 (d : Int), .int .u64 (x : Int), .bool nr]) (Hp.set_same H3 b (.cells #[.int .u8 0, .int .u64 0, .bool false] 40 (0, 0))) rfl (by simp [cell1_int, cell1_bool])]
    by_cases c6 : k < 60
    · have d6 : decide (60 ≤ (k : Int)) = false := by simp; omega
      have dm : (d : Int).tmod 5 = ((d % 5 : Nat) : Int) := by rw [Int.tmod_eq_emod_of_nonneg (by omega)]; omega
      have g1 : (x : Int).tmod 64 = ((x % 64 : Nat) : Int) := by rw [Int.tmod_eq_emod_of_nonneg (by omega)]; omega
      have g2 : IntKind.u64.wrap ((f : Int) + ((x % 64 : Nat) : Int)) = ((f + x % 64 : Nat) : Int) := by rw [u64_in] <;> omega
      by_cases c3 : d % 5 = 3
      · have d5 : decide (((d % 5 : Nat) : Int) = 3) = true := by simp [c3]
        simp only [go_sem, Nat.reduceEqDiff, Nat.reduceLT, Nat.reduceAdd, Nat.reduceMul, Int.reduceEq, Int.reduceLT, Int.reduceLE, Int.reduceNe, Int.reduceBEq, Int.reduceToNat, ↓reduceIte, f0, f5, f7, f8, f30, f31, f32, d6, hbl, dm, g1, g2, d5]
        obtain ⟨vv, hvv⟩ : ∃ vv : Nat, 2 = vv := ⟨_, rfl⟩
        refine (commit_log hlog4 (by omega) (x := ((f + x % 64 : Nat) : Int)) (by omega)).mono ?_
        rintro r5 H5 ⟨rfl, hlog5, hf5⟩
        have hmap5 := hmap4.keep fun o ho => hf5 _ o hSr ho
        simp only [go_sem, Nat.reduceEqDiff, Nat.reduceLT, Nat.reduceAdd, Nat.reduceMul, Int.reduceEq, Int.reduceLT, Int.reduceLE, Int.reduceNe, Int.reduceBEq, Int.reduceToNat, ↓reduceIte, f0, f5, f7, f8, f30, f31, f32, g2]
        refine aop_delete (n := ((f + x % 64 : Nat) : Int)) Try.underlying54 Try.underlying23 hmap5 (by simp only [go_sem, Nat.reduceEqDiff, Nat.reduceLT, Nat.reduceAdd, Nat.reduceMul, Int.reduceEq, Int.reduceLT, Int.reduceLE, Int.reduceNe, Int.reduceBEq, Int.reduceToNat, ↓reduceIte, f7]) (by simp only [go_sem, Nat.reduceEqDiff, Nat.reduceLT, Nat.reduceAdd, Nat.reduceMul, Int.reduceEq, Int.reduceLT, Int.reduceLE, Int.reduceNe, Int.reduceBEq, Int.reduceToNat, ↓reduceIte]) ?_
        intro H6 hmap6 hf6
        have hlog6 := hlog5.keep (H' := H6) fun b o hb ho => by rw [hf6 b (fun e => hSr (by rw [← e]; exact hb))]; exact ho
        have hl6 := endSts_len f sts ((f + x % 64 : Nat) : Int) vv
        obtain ⟨S6, hS6⟩ : ∃ S6, S6 = S := ⟨_, rfl⟩
        have hSr6 := hSr
        rw [← hS6] at hSr6
        obtain ⟨nn, hnn⟩ : ∃ nn, nn = sts.length := ⟨_, rfl⟩
        have d8 : (0 + 0 : Nat) = 0 := rfl
        rw [← hnn] at f8 hl6
        obtain ⟨sts6, hs6⟩ : ∃ s, s = endSts f sts ((f + x % 64 : Nat) : Int) vv := ⟨_, rfl⟩
        obtain ⟨ps6, hp6⟩ : ∃ p, p = ps.del ((f + x % 64 : Nat) : Int) := ⟨_, rfl⟩
        have hM6 : RunsM ps6 f sts6 := by rw [hs6, hp6]; exact hM.fin _ (by omega)
        rw [hvv, ← hs6] at hlog6
        rw [← hs6] at hl6
        rw [← hp6] at hmap6
        rw [← hS6] at hlog6
        clear hs6 hp6
        simp only [go_sem, Nat.reduceEqDiff, Nat.reduceLT, Nat.reduceAdd, Nat.reduceMul, Int.reduceEq, Int.reduceLT, Int.reduceLE, Int.reduceNe, Int.reduceBEq, Int.reduceToNat, ↓reduceIte, f0, f5, f7, f8, f30, f31, f32]
        refine (ACalls.hi (all_log hlog6 (by omega))).mono ?_
        rintro r7 H7 ⟨⟨hrow, hfr, hsub7⟩, hhi7⟩
        have hmap7 := hmap6.keep fun o ho => hsub7 _ o ho
        have hlog7 := hlog6.keep fun b o _ ho => hsub7 b o ho
        have hrl := runs_count f sts6
        have hps := hM6.2.2
        have hrb : (runs f sts6).length ≤ sts6.length := runsK_len f sts6 sts6.length
        have w1 : decide (((runs f sts6).length : Int) = (ps6.length : Int)) = true := by simp; omega
        have w2 : IntKind.u64.wrap (nn : Int) = (nn : Int) := by rw [u64_in] <;> omega
        have w3 : IntKind.u64.wrap ((f : Int) + (nn : Int)) = ((f + nn : Nat) : Int) := by rw [u64_in] <;> omega
        have w4 : decide (((f + nn : Nat) : Int) = ((f + nn : Nat) : Int)) = true := by simp
        obtain ⟨ra, rc, hr7⟩ := hrow.slice
        simp only [go_sem, Nat.reduceEqDiff, Nat.reduceLT, Nat.reduceAdd, Nat.reduceMul, Int.reduceEq, Int.reduceLT, Int.reduceLE, Int.reduceNe, Int.reduceBEq, Int.reduceToNat, ↓reduceIte, f0, f5, f7, f8, f30, f31, f32, d8, hr7, lenK_map hmap7, w1]
        refine (next_log hlog7 (by omega)).mono ?_
        rintro r8 H8 ⟨rfl, rfl⟩
        rw [hl6]
        simp only [go_sem, Nat.reduceEqDiff, Nat.reduceLT, Nat.reduceAdd, Nat.reduceMul, Int.reduceEq, Int.reduceLT, Int.reduceLE, Int.reduceNe, Int.reduceBEq, Int.reduceToNat, ↓reduceIte, f0, f5, f7, f8, f30, f31, f32, d8, hr7, w2, w3, w4]
        refine AC.loop (RunsJ f l r n k nn (.slice (some ab) n c) r7 (runs f sts6) H8) (n := (runs f sts6).length) ⟨0, by omega, by simp only [go_sem, Nat.reduceEqDiff, Nat.reduceLT, Nat.reduceAdd, Nat.reduceMul, Int.reduceEq, Int.reduceLT, Int.reduceLE, Int.reduceNe, Int.reduceBEq, Int.reduceToNat, ↓reduceIte, f0], by simp only [go_sem, Nat.reduceEqDiff, Nat.reduceLT, Nat.reduceAdd, Nat.reduceMul, Int.reduceEq, Int.reduceLT, Int.reduceLE, Int.reduceNe, Int.reduceBEq, Int.reduceToNat, ↓reduceIte, f5], by simp only [go_sem, Nat.reduceEqDiff, Nat.reduceLT, Nat.reduceAdd, Nat.reduceMul, Int.reduceEq, Int.reduceLT, Int.reduceLE, Int.reduceNe, Int.reduceBEq, Int.reduceToNat, ↓reduceIte, f7], by simp only [go_sem, Nat.reduceEqDiff, Nat.reduceLT, Nat.reduceAdd, Nat.reduceMul, Int.reduceEq, Int.reduceLT, Int.reduceLE, Int.reduceNe, Int.reduceBEq, Int.reduceToNat, ↓reduceIte, f8, d8], by simp only [go_sem, Nat.reduceEqDiff, Nat.reduceLT, Nat.reduceAdd, Nat.reduceMul, Int.reduceEq, Int.reduceLT, Int.reduceLE, Int.reduceNe, Int.reduceBEq, Int.reduceToNat, ↓reduceIte, f30], by simp only [go_sem, Nat.reduceEqDiff, Nat.reduceLT, Nat.reduceAdd, Nat.reduceMul, Int.reduceEq, Int.reduceLT, Int.reduceLE, Int.reduceNe, Int.reduceBEq, Int.reduceToNat, ↓reduceIte, f31], by simp only [go_sem, Nat.reduceEqDiff, Nat.reduceLT, Nat.reduceAdd, Nat.reduceMul, Int.reduceEq, Int.reduceLT, Int.reduceLE, Int.reduceNe, Int.reduceBEq, Int.reduceToNat, ↓reduceIte, f32], by rw [hr7]; simp only [go_sem, Nat.reduceEqDiff, Nat.reduceLT, Nat.reduceAdd, Nat.reduceMul, Int.reduceEq, Int.reduceLT, Int.reduceLE, Int.reduceNe, Int.reduceBEq, Int.reduceToNat, ↓reduceIte], by rw [hr7]; simp only [go_sem, Nat.reduceEqDiff, Nat.reduceLT, Nat.reduceAdd, Nat.reduceMul, Int.reduceEq, Int.reduceLT, Int.reduceLE, Int.reduceNe, Int.reduceBEq, Int.reduceToNat, ↓reduceIte], by simp only [go_sem, Nat.reduceEqDiff, Nat.reduceLT, Nat.reduceAdd, Nat.reduceMul, Int.reduceEq, Int.reduceLT, Int.reduceLE, Int.reduceNe, Int.reduceBEq, Int.reduceToNat, ↓reduceIte], by simp only [go_sem, Nat.reduceEqDiff, Nat.reduceLT, Nat.reduceAdd, Nat.reduceMul, Int.reduceEq, Int.reduceLT, Int.reduceLE, Int.reduceNe, Int.reduceBEq, Int.reduceToNat, ↓reduceIte], rfl⟩ ?_
        clear f0 f5 f7 f8 f30 f31 f32
        rintro m9 F9 H9 ⟨i, hi, f0, f5, f7, f8, f30, f31, f32, f14, f101, f102, f103, rfl⟩
        by_cases ci : i < (runs f sts6).length
        · have v1 : decide ((i : Int) < ((runs f sts6).length : Int)) = true := by simp; omega
          have v2 : decide ((0 : Int) ≤ (i : Int)) = true := by simp
          have v3 : IntKind.i64.wrap ((i : Int) + 1) = (i + 1 : Nat) := by rw [i64_in] <;> omega
          obtain ⟨y, hy, hyv, hy1⟩ := runs_mem ci
          obtain ⟨g, cap, cur, hr7', hg, hc1, hc2, hc3, hc4⟩ := hrow.open1 (by omega)
          have hgl := ld_own w0 hg
          have hcv : cur[i]? = some (.int .u64 ((f + y : Nat) : Int)) := by rw [hc3 _ ci]; simp only [u64s, List.getElem?_map, hyv, Option.map_some]
          have hsy : stOf f sts6 ((f + y : Nat) : Int) = 1 := by rw [stOf, if_pos (by omega), show (((f + y : Nat) : Int) - (f : Int)).toNat = y by omega]; exact hy1
          have hgy : ps6.get ((f + y : Nat) : Int) = some (.bool true) := by rw [hM6.2.1, if_pos hsy]
          have hb1 : (((1 : Nat) : Int)) = 1 := rfl
          have v5 : decide ((1 : Int) = 1) = true := by decide
          rw [hr7'] at f14 f101
          simp only [go_sem, Nat.reduceEqDiff, Nat.reduceLT, Nat.reduceAdd, Nat.reduceMul, Int.reduceEq, Int.reduceLT, Int.reduceLE, Int.reduceNe, Int.reduceBEq, Int.reduceToNat, ↓reduceIte, f0, f5, f7, f8, f30, f31, f32, f14, f101, f102, f103, v1, v2, hgl, hcv, lookK_int Try.underlying54 Try.underlying23 z4 hmap7, hgy]
          refine (state_log hlog7 (by omega) (x := ((f + y : Nat) : Int)) (by omega)).mono ?_
          rintro r10 H10 ⟨rfl, rfl⟩
          rw [hsy]
          by_cases c0 : 0 < i
          · have v4 : decide ((0 : Int) < (i : Int)) = true := by simp; omega
            obtain ⟨j, rfl⟩ : ∃ j, i = j + 1 := ⟨i - 1, by omega⟩
            have v6 : IntKind.i64.wrap (((j + 1 : Nat) : Int) - 1) = (j : Int) := by rw [i64_in] <;> omega
            have v7 : decide ((0 : Int) ≤ (j : Int)) = true := by simp
            have v8 : decide ((j : Int) < ((runs f sts6).length : Int)) = true := by simp; omega
            obtain ⟨y', hy', hyv', hy1'⟩ := runs_mem (f := f) (sts := sts6) (i := j) (by omega)
            have hcv' : cur[j]? = some (.int .u64 ((f + y' : Nat) : Int)) := by rw [hc3 _ (by omega)]; simp only [u64s, List.getElem?_map, hyv', Option.map_some]
            have hlt : f + y' < f + y := by
              have h1 := runs_rise f sts6 ci
              rw [List.getElem?_eq_getElem (by omega), Option.some.injEq] at hyv hyv'
              omega
            have v9 : decide (((f + y : Nat) : Int) ≤ ((f + y' : Nat) : Int)) = false := by simp; omega
            simp only [go_sem, Nat.reduceEqDiff, Nat.reduceLT, Nat.reduceAdd, Nat.reduceMul, Int.reduceEq, Int.reduceLT, Int.reduceLE, Int.reduceNe, Int.reduceBEq, Int.reduceToNat, ↓reduceIte, f0, f5, f7, f8, f30, f31, f32, f14, f101, f102, f103, v1, v2, v3, v4, v5, v6, v7, v8, v9, hb1, hgl, hcv']
            exact ⟨m9 - 1, by omega, j + 1 + 1, by omega, by simp only [go_sem, Nat.reduceEqDiff, Nat.reduceLT, Nat.reduceAdd, Nat.reduceMul, Int.reduceEq, Int.reduceLT, Int.reduceLE, Int.reduceNe, Int.reduceBEq, Int.reduceToNat, ↓reduceIte, f0], by simp only [go_sem, Nat.reduceEqDiff, Nat.reduceLT, Nat.reduceAdd, Nat.reduceMul, Int.reduceEq, Int.reduceLT, Int.reduceLE, Int.reduceNe, Int.reduceBEq, Int.reduceToNat, ↓reduceIte, f5], by simp only [go_sem, Nat.reduceEqDiff, Nat.reduceLT, Nat.reduceAdd, Nat.reduceMul, Int.reduceEq, Int.reduceLT, Int.reduceLE, Int.reduceNe, Int.reduceBEq, Int.reduceToNat, ↓reduceIte, f7], by simp only [go_sem, Nat.reduceEqDiff, Nat.reduceLT, Nat.reduceAdd, Nat.reduceMul, Int.reduceEq, Int.reduceLT, Int.reduceLE, Int.reduceNe, Int.reduceBEq, Int.reduceToNat, ↓reduceIte, f8], by simp only [go_sem, Nat.reduceEqDiff, Nat.reduceLT, Nat.reduceAdd, Nat.reduceMul, Int.reduceEq, Int.reduceLT, Int.reduceLE, Int.reduceNe, Int.reduceBEq, Int.reduceToNat, ↓reduceIte, f30], by simp only [go_sem, Nat.reduceEqDiff, Nat.reduceLT, Nat.reduceAdd, Nat.reduceMul, Int.reduceEq, Int.reduceLT, Int.reduceLE, Int.reduceNe, Int.reduceBEq, Int.reduceToNat, ↓reduceIte, f31], by simp only [go_sem, Nat.reduceEqDiff, Nat.reduceLT, Nat.reduceAdd, Nat.reduceMul, Int.reduceEq, Int.reduceLT, Int.reduceLE, Int.reduceNe, Int.reduceBEq, Int.reduceToNat, ↓reduceIte, f32], by rw [hr7']; simp only [go_sem, Nat.reduceEqDiff, Nat.reduceLT, Nat.reduceAdd, Nat.reduceMul, Int.reduceEq, Int.reduceLT, Int.reduceLE, Int.reduceNe, Int.reduceBEq, Int.reduceToNat, ↓reduceIte, f14], by rw [hr7']; simp only [go_sem, Nat.reduceEqDiff, Nat.reduceLT, Nat.reduceAdd, Nat.reduceMul, Int.reduceEq, Int.reduceLT, Int.reduceLE, Int.reduceNe, Int.reduceBEq, Int.reduceToNat, ↓reduceIte, f101], by simp only [go_sem, Nat.reduceEqDiff, Nat.reduceLT, Nat.reduceAdd, Nat.reduceMul, Int.reduceEq, Int.reduceLT, Int.reduceLE, Int.reduceNe, Int.reduceBEq, Int.reduceToNat, ↓reduceIte, f102], by simp only [go_sem, Nat.reduceEqDiff, Nat.reduceLT, Nat.reduceAdd, Nat.reduceMul, Int.reduceEq, Int.reduceLT, Int.reduceLE, Int.reduceNe, Int.reduceBEq, Int.reduceToNat, ↓reduceIte], rfl⟩
          · have v4 : decide ((0 : Int) < (i : Int)) = false := by simp; omega
            simp only [go_sem, Nat.reduceEqDiff, Nat.reduceLT, Nat.reduceAdd, Nat.reduceMul, Int.reduceEq, Int.reduceLT, Int.reduceLE, Int.reduceNe, Int.reduceBEq, Int.reduceToNat, ↓reduceIte, f0, f5, f7, f8, f30, f31, f32, f14, f101, f102, f103, v1, v2, v3, v4, v5, hb1, hgl]
            exact ⟨m9 - 1, by omega, i + 1, by omega, by simp only [go_sem, Nat.reduceEqDiff, Nat.reduceLT, Nat.reduceAdd, Nat.reduceMul, Int.reduceEq, Int.reduceLT, Int.reduceLE, Int.reduceNe, Int.reduceBEq, Int.reduceToNat, ↓reduceIte, f0], by simp only [go_sem, Nat.reduceEqDiff, Nat.reduceLT, Nat.reduceAdd, Nat.reduceMul, Int.reduceEq, Int.reduceLT, Int.reduceLE, Int.reduceNe, Int.reduceBEq, Int.reduceToNat, ↓reduceIte, f5], by simp only [go_sem, Nat.reduceEqDiff, Nat.reduceLT, Nat.reduceAdd, Nat.reduceMul, Int.reduceEq, Int.reduceLT, Int.reduceLE, Int.reduceNe, Int.reduceBEq, Int.reduceToNat, ↓reduceIte, f7], by simp only [go_sem, Nat.reduceEqDiff, Nat.reduceLT, Nat.reduceAdd, Nat.reduceMul, Int.reduceEq, Int.reduceLT, Int.reduceLE, Int.reduceNe, Int.reduceBEq, Int.reduceToNat, ↓reduceIte, f8], by simp only [go_sem, Nat.reduceEqDiff, Nat.reduceLT, Nat.reduceAdd, Nat.reduceMul, Int.reduceEq, Int.reduceLT, Int.reduceLE, Int.reduceNe, Int.reduceBEq, Int.reduceToNat, ↓reduceIte, f30], by simp only [go_sem, Nat.reduceEqDiff, Nat.reduceLT, Nat.reduceAdd, Nat.reduceMul, Int.reduceEq, Int.reduceLT, Int.reduceLE, Int.reduceNe, Int.reduceBEq, Int.reduceToNat, ↓reduceIte, f31], by simp only [go_sem, Nat.reduceEqDiff, Nat.reduceLT, Nat.reduceAdd, Nat.reduceMul, Int.reduceEq, Int.reduceLT, Int.reduceLE, Int.reduceNe, Int.reduceBEq, Int.reduceToNat, ↓reduceIte, f32], by rw [hr7']; simp only [go_sem, Nat.reduceEqDiff, Nat.reduceLT, Nat.reduceAdd, Nat.reduceMul, Int.reduceEq, Int.reduceLT, Int.reduceLE, Int.reduceNe, Int.reduceBEq, Int.reduceToNat, ↓reduceIte, f14], by rw [hr7']; simp only [go_sem, Nat.reduceEqDiff, Nat.reduceLT, Nat.reduceAdd, Nat.reduceMul, Int.reduceEq, Int.reduceLT, Int.reduceLE, Int.reduceNe, Int.reduceBEq, Int.reduceToNat, ↓reduceIte, f101], by simp only [go_sem, Nat.reduceEqDiff, Nat.reduceLT, Nat.reduceAdd, Nat.reduceMul, Int.reduceEq, Int.reduceLT, Int.reduceLE, Int.reduceNe, Int.reduceBEq, Int.reduceToNat, ↓reduceIte, f102], by simp only [go_sem, Nat.reduceEqDiff, Nat.reduceLT, Nat.reduceAdd, Nat.reduceMul, Int.reduceEq, Int.reduceLT, Int.reduceLE, Int.reduceNe, Int.reduceBEq, Int.reduceToNat, ↓reduceIte], rfl⟩
        · have v1 : decide ((i : Int) < ((runs f sts6).length : Int)) = false := by simp; omega
          have e3 : IntKind.i64.wrap ((k : Int) + 1) = (k + 1 : Nat) := by rw [i64_in] <;> omega
          simp only [go_sem, Nat.reduceEqDiff, Nat.reduceLT, Nat.reduceAdd, Nat.reduceMul, Int.reduceEq, Int.reduceLT, Int.reduceLE, Int.reduceNe, Int.reduceBEq, Int.reduceToNat, ↓reduceIte, f0, f5, f7, f8, f30, f31, f32, f14, f101, f102, f103, v1, e3]
          exact ⟨m - 1, by omega, k + 1, S6, sts6, ps6, by omega, by simp only [go_sem, Nat.reduceEqDiff, Nat.reduceLT, Nat.reduceAdd, Nat.reduceMul, Int.reduceEq, Int.reduceLT, Int.reduceLE, Int.reduceNe, Int.reduceBEq, Int.reduceToNat, ↓reduceIte, f0], by simp only [go_sem, Nat.reduceEqDiff, Nat.reduceLT, Nat.reduceAdd, Nat.reduceMul, Int.reduceEq, Int.reduceLT, Int.reduceLE, Int.reduceNe, Int.reduceBEq, Int.reduceToNat, ↓reduceIte, f5], by simp only [go_sem, Nat.reduceEqDiff, Nat.reduceLT, Nat.reduceAdd, Nat.reduceMul, Int.reduceEq, Int.reduceLT, Int.reduceLE, Int.reduceNe, Int.reduceBEq, Int.reduceToNat, ↓reduceIte, f7], by rw [hl6]; simp only [go_sem, Nat.reduceEqDiff, Nat.reduceLT, Nat.reduceAdd, Nat.reduceMul, Int.reduceEq, Int.reduceLT, Int.reduceLE, Int.reduceNe, Int.reduceBEq, Int.reduceToNat, ↓reduceIte, f8], by simp only [go_sem, Nat.reduceEqDiff, Nat.reduceLT, Nat.reduceAdd, Nat.reduceMul, Int.reduceEq, Int.reduceLT, Int.reduceLE, Int.reduceNe, Int.reduceBEq, Int.reduceToNat, ↓reduceIte, f30], by simp only [go_sem, Nat.reduceEqDiff, Nat.reduceLT, Nat.reduceAdd, Nat.reduceMul, Int.reduceEq, Int.reduceLT, Int.reduceLE, Int.reduceNe, Int.reduceBEq, Int.reduceToNat, ↓reduceIte, f31], by simp only [go_sem, Nat.reduceEqDiff, Nat.reduceLT, Nat.reduceAdd, Nat.reduceMul, Int.reduceEq, Int.reduceLT, Int.reduceLE, Int.reduceNe, Int.reduceBEq, Int.reduceToNat, ↓reduceIte], hlog7, hmap7, hSr6, hM6, by omega, by omega, hhi7⟩
      · by_cases c4 : d % 5 = 4
        · have d5 : decide (((d % 5 : Nat) : Int) = 3) = false := by simp [c4]
          have d5' : decide (((d % 5 : Nat) : Int) = 4) = true := by simp [c4]
          simp only [go_sem, Nat.reduceEqDiff, Nat.reduceLT, Nat.reduceAdd, Nat.reduceMul, Int.reduceEq, Int.reduceLT, Int.reduceLE, Int.reduceNe, Int.reduceBEq, Int.reduceToNat, ↓reduceIte, f0, f5, f7, f8, f30, f31, f32, d6, hbl, dm, g1, g2, d5, d5']
          obtain ⟨vv, hvv⟩ : ∃ vv : Nat, 3 = vv := ⟨_, rfl⟩
          refine (abort_log hlog4 (by omega) (x := ((f + x % 64 : Nat) : Int)) (by omega)).mono ?_
          rintro r5 H5 ⟨rfl, hlog5, hf5⟩
          have hmap5 := hmap4.keep fun o ho => hf5 _ o hSr ho
          simp only [go_sem, Nat.reduceEqDiff, Nat.reduceLT, Nat.reduceAdd, Nat.reduceMul, Int.reduceEq, Int.reduceLT, Int.reduceLE, Int.reduceNe, Int.reduceBEq, Int.reduceToNat, ↓reduceIte, f0, f5, f7, f8, f30, f31, f32, g2]
          refine aop_delete (n := ((f + x % 64 : Nat) : Int)) Try.underlying54 Try.underlying23 hmap5 (by simp only [go_sem, Nat.reduceEqDiff, Nat.reduceLT, Nat.reduceAdd, Nat.reduceMul, Int.reduceEq, Int.reduceLT, Int.reduceLE, Int.reduceNe, Int.reduceBEq, Int.reduceToNat, ↓reduceIte, f7]) (by simp only [go_sem, Nat.reduceEqDiff, Nat.reduceLT, Nat.reduceAdd, Nat.reduceMul, Int.reduceEq, Int.reduceLT, Int.reduceLE, Int.reduceNe, Int.reduceBEq, Int.reduceToNat, ↓reduceIte]) ?_
          intro H6 hmap6 hf6
          have hlog6 := hlog5.keep (H' := H6) fun b o hb ho => by rw [hf6 b (fun e => hSr (by rw [← e]; exact hb))]; exact ho
          have hl6 := endSts_len f sts ((f + x % 64 : Nat) : Int) vv
          obtain ⟨S6, hS6⟩ : ∃ S6, S6 = S := ⟨_, rfl⟩
          have hSr6 := hSr
          rw [← hS6] at hSr6
          obtain ⟨nn, hnn⟩ : ∃ nn, nn = sts.length := ⟨_, rfl⟩
          have d8 : (0 + 0 : Nat) = 0 := rfl
          rw [← hnn] at f8 hl6
          obtain ⟨sts6, hs6⟩ : ∃ s, s = endSts f sts ((f + x % 64 : Nat) : Int) vv := ⟨_, rfl⟩
          obtain ⟨ps6, hp6⟩ : ∃ p, p = ps.del ((f + x % 64 : Nat) : Int) := ⟨_, rfl⟩
          have hM6 : RunsM ps6 f sts6 := by rw [hs6, hp6]; exact hM.fin _ (by omega)
          rw [hvv, ← hs6] at hlog6
          rw [← hs6] at hl6
          rw [← hp6] at hmap6
          rw [← hS6] at hlog6
          clear hs6 hp6
          simp only [go_sem, Nat.reduceEqDiff, Nat.reduceLT, Nat.reduceAdd, Nat.reduceMul, Int.reduceEq, Int.reduceLT, Int.reduceLE, Int.reduceNe, Int.reduceBEq, Int.reduceToNat, ↓reduceIte, f0, f5, f7, f8, f30, f31, f32]
          refine (ACalls.hi (all_log hlog6 (by omega))).mono ?_
          rintro r7 H7 ⟨⟨hrow, hfr, hsub7⟩, hhi7⟩
          have hmap7 := hmap6.keep fun o ho => hsub7 _ o ho
          have hlog7 := hlog6.keep fun b o _ ho => hsub7 b o ho
          have hrl := runs_count f sts6
          have hps := hM6.2.2
          have hrb : (runs f sts6).length ≤ sts6.length := runsK_len f sts6 sts6.length
          have w1 : decide (((runs f sts6).length : Int) = (ps6.length : Int)) = true := by simp; omega
          have w2 : IntKind.u64.wrap (nn : Int) = (nn : Int) := by rw [u64_in] <;> omega
          have w3 : IntKind.u64.wrap ((f : Int) + (nn : Int)) = ((f + nn : Nat) : Int) := by rw [u64_in] <;> omega
          have w4 : decide (((f + nn : Nat) : Int) = ((f + nn : Nat) : Int)) = true := by simp
          obtain ⟨ra, rc, hr7⟩ := hrow.slice
          simp only [go_sem, Nat.reduceEqDiff, Nat.reduceLT, Nat.reduceAdd, Nat.reduceMul, Int.reduceEq, Int.reduceLT, Int.reduceLE, Int.reduceNe, Int.reduceBEq, Int.reduceToNat, ↓reduceIte, f0, f5, f7, f8, f30, f31, f32, d8, hr7, lenK_map hmap7, w1]
          refine (next_log hlog7 (by omega)).mono ?_
          rintro r8 H8 ⟨rfl, rfl⟩
          rw [hl6]
          simp only [go_sem, Nat.reduceEqDiff, Nat.reduceLT, Nat.reduceAdd, Nat.reduceMul, Int.reduceEq, Int.reduceLT, Int.reduceLE, Int.reduceNe, Int.reduceBEq, Int.reduceToNat, ↓reduceIte, f0, f5, f7, f8, f30, f31, f32, d8, hr7, w2, w3, w4]
          refine AC.loop (RunsJ f l r n k nn (.slice (some ab) n c) r7 (runs f sts6) H8) (n := (runs f sts6).length) ⟨0, by omega, by simp only [go_sem, Nat.reduceEqDiff, Nat.reduceLT, Nat.reduceAdd, Nat.reduceMul, Int.reduceEq, Int.reduceLT, Int.reduceLE, Int.reduceNe, Int.reduceBEq, Int.reduceToNat, ↓reduceIte, f0], by simp only [go_sem, Nat.reduceEqDiff, Nat.reduceLT, Nat.reduceAdd, Nat.reduceMul, Int.reduceEq, Int.reduceLT, Int.reduceLE, Int.reduceNe, Int.reduceBEq, Int.reduceToNat, ↓reduceIte, f5], by simp only [go_sem, Nat.reduceEqDiff, Nat.reduceLT, Nat.reduceAdd, Nat.reduceMul, Int.reduceEq, Int.reduceLT, Int.reduceLE, Int.reduceNe, Int.reduceBEq, Int.reduceToNat, ↓reduceIte, f7], by simp only [go_sem, Nat.reduceEqDiff, Nat.reduceLT, Nat.reduceAdd, Nat.reduceMul, Int.reduceEq, Int.reduceLT, Int.reduceLE, Int.reduceNe, Int.reduceBEq, Int.reduceToNat, ↓reduceIte, f8, d8], by simp only [go_sem, Nat.reduceEqDiff, Nat.reduceLT, Nat.reduceAdd, Nat.reduceMul, Int.reduceEq, Int.reduceLT, Int.reduceLE, Int.reduceNe, Int.reduceBEq, Int.reduceToNat, ↓reduceIte, f30], by simp only [go_sem, Nat.reduceEqDiff, Nat.reduceLT, Nat.reduceAdd, Nat.reduceMul, Int.reduceEq, Int.reduceLT, Int.reduceLE, Int.reduceNe, Int.reduceBEq, Int.reduceToNat, ↓reduceIte, f31], by simp only [go_sem, Nat.reduceEqDiff, Nat.reduceLT, Nat.reduceAdd, Nat.reduceMul, Int.reduceEq, Int.reduceLT, Int.reduceLE, Int.reduceNe, Int.reduceBEq, Int.reduceToNat, ↓reduceIte, f32], by rw [hr7]; simp only [go_sem, Nat.reduceEqDiff, Nat.reduceLT, Nat.reduceAdd, Nat.reduceMul, Int.reduceEq, Int.reduceLT, Int.reduceLE, Int.reduceNe, Int.reduceBEq, Int.reduceToNat, ↓reduceIte], by rw [hr7]; simp only [go_sem, Nat.reduceEqDiff, Nat.reduceLT, Nat.reduceAdd, Nat.reduceMul, Int.reduceEq, Int.reduceLT, Int.reduceLE, Int.reduceNe, Int.reduceBEq, Int.reduceToNat, ↓reduceIte], by simp only [go_sem, Nat.reduceEqDiff, Nat.reduceLT, Nat.reduceAdd, Nat.reduceMul, Int.reduceEq, Int.reduceLT, Int.reduceLE, Int.reduceNe, Int.reduceBEq, Int.reduceToNat, ↓reduceIte], by simp only [go_sem, Nat.reduceEqDiff, Nat.reduceLT, Nat.reduceAdd, Nat.reduceMul, Int.reduceEq, Int.reduceLT, Int.reduceLE, Int.reduceNe, Int.reduceBEq, Int.reduceToNat, ↓reduceIte], rfl⟩ ?_
          clear f0 f5 f7 f8 f30 f31 f32
          rintro m9 F9 H9 ⟨i, hi, f0, f5, f7, f8, f30, f31, f32, f14, f101, f102, f103, rfl⟩
          by_cases ci : i < (runs f sts6).length
          · have v1 : decide ((i : Int) < ((runs f sts6).length : Int)) = true := by simp; omega
            have v2 : decide ((0 : Int) ≤ (i : Int)) = true := by simp
            have v3 : IntKind.i64.wrap ((i : Int) + 1) = (i + 1 : Nat) := by rw [i64_in] <;> omega
            obtain ⟨y, hy, hyv, hy1⟩ := runs_mem ci
            obtain ⟨g, cap, cur, hr7', hg, hc1, hc2, hc3, hc4⟩ := hrow.open1 (by omega)
            have hgl := ld_own w0 hg
            have hcv : cur[i]? = some (.int .u64 ((f + y : Nat) : Int)) := by rw [hc3 _ ci]; simp only [u64s, List.getElem?_map, hyv, Option.map_some]
            have hsy : stOf f sts6 ((f + y : Nat) : Int) = 1 := by rw [stOf, if_pos (by omega), show (((f + y : Nat) : Int) - (f : Int)).toNat = y by omega]; exact hy1
            have hgy : ps6.get ((f + y : Nat) : Int) = some (.bool true) := by rw [hM6.2.1, if_pos hsy]
            have hb1 : (((1 : Nat) : Int)) = 1 := rfl
            have v5 : decide ((1 : Int) = 1) = true := by decide
            rw [hr7'] at f14 f101
            simp only [go_sem, Nat.reduceEqDiff, Nat.reduceLT, Nat.reduceAdd, Nat.reduceMul, Int.reduceEq, Int.reduceLT, Int.reduceLE, Int.reduceNe, Int.reduceBEq, Int.reduceToNat, ↓reduceIte, f0, f5, f7, f8, f30, f31, f32, f14, f101, f102, f103, v1, v2, hgl, hcv, lookK_int Try.underlying54 Try.underlying23 z4 hmap7, hgy]
            refine (state_log hlog7 (by omega) (x := ((f + y : Nat) : Int)) (by omega)).mono ?_
            rintro r10 H10 ⟨rfl, rfl⟩
            rw [hsy]
            by_cases c0 : 0 < i
            · have v4 : decide ((0 : Int) < (i : Int)) = true := by simp; omega
              obtain ⟨j, rfl⟩ : ∃ j, i = j + 1 := ⟨i - 1, by omega⟩
              have v6 : IntKind.i64.wrap (((j + 1 : Nat) : Int) - 1) = (j : Int) := by rw [i64_in] <;> omega
              have v7 : decide ((0 : Int) ≤ (j : Int)) = true := by simp
              have v8 : decide ((j : Int) < ((runs f sts6).length : Int)) = true := by simp; omega
              obtain ⟨y', hy', hyv', hy1'⟩ := runs_mem (f := f) (sts := sts6) (i := j) (by omega)
              have hcv' : cur[j]? = some (.int .u64 ((f + y' : Nat) : Int)) := by rw [hc3 _ (by omega)]; simp only [u64s, List.getElem?_map, hyv', Option.map_some]
              have hlt : f + y' < f + y := by
                have h1 := runs_rise f sts6 ci
                rw [List.getElem?_eq_getElem (by omega), Option.some.injEq] at hyv hyv'
                omega
              have v9 : decide (((f + y : Nat) : Int) ≤ ((f + y' : Nat) : Int)) = false := by simp; omega
              simp only [go_sem, Nat.reduceEqDiff, Nat.reduceLT, Nat.reduceAdd, Nat.reduceMul, Int.reduceEq, Int.reduceLT, Int.reduceLE, Int.reduceNe, Int.reduceBEq, Int.reduceToNat, ↓reduceIte, f0, f5, f7, f8, f30, f31, f32, f14, f101, f102, f103, v1, v2, v3, v4, v5, v6, v7, v8, v9, hb1, hgl, hcv']
              exact ⟨m9 - 1, by omega, j + 1 + 1, by omega, by simp only [go_sem, Nat.reduceEqDiff, Nat.reduceLT, Nat.reduceAdd, Nat.reduceMul, Int.reduceEq, Int.reduceLT, Int.reduceLE, Int.reduceNe, Int.reduceBEq, Int.reduceToNat, ↓reduceIte, f0], by simp only [go_sem, Nat.reduceEqDiff, Nat.reduceLT, Nat.reduceAdd, Nat.reduceMul, Int.reduceEq, Int.reduceLT, Int.reduceLE, Int.reduceNe, Int.reduceBEq, Int.reduceToNat, ↓reduceIte, f5], by simp only [go_sem, Nat.reduceEqDiff, Nat.reduceLT, Nat.reduceAdd, Nat.reduceMul, Int.reduceEq, Int.reduceLT, Int.reduceLE, Int.reduceNe, Int.reduceBEq, Int.reduceToNat, ↓reduceIte, f7], by simp only [go_sem, Nat.reduceEqDiff, Nat.reduceLT, Nat.reduceAdd, Nat.reduceMul, Int.reduceEq, Int.reduceLT, Int.reduceLE, Int.reduceNe, Int.reduceBEq, Int.reduceToNat, ↓reduceIte, f8], by simp only [go_sem, Nat.reduceEqDiff, Nat.reduceLT, Nat.reduceAdd, Nat.reduceMul, Int.reduceEq, Int.reduceLT, Int.reduceLE, Int.reduceNe, Int.reduceBEq, Int.reduceToNat, ↓reduceIte, f30], by simp only [go_sem, Nat.reduceEqDiff, Nat.reduceLT, Nat.reduceAdd, Nat.reduceMul, Int.reduceEq, Int.reduceLT, Int.reduceLE, Int.reduceNe, Int.reduceBEq, Int.reduceToNat, ↓reduceIte, f31], by simp only [go_sem, Nat.reduceEqDiff, Nat.reduceLT, Nat.reduceAdd, Nat.reduceMul, Int.reduceEq, Int.reduceLT, Int.reduceLE, Int.reduceNe, Int.reduceBEq, Int.reduceToNat, ↓reduceIte, f32], by rw [hr7']; simp only [go_sem, Nat.reduceEqDiff, Nat.reduceLT, Nat.reduceAdd, Nat.reduceMul, Int.reduceEq, Int.reduceLT, Int.reduceLE, Int.reduceNe, Int.reduceBEq, Int.reduceToNat, ↓reduceIte, f14], by rw [hr7']; simp only [go_sem, Nat.reduceEqDiff, Nat.reduceLT, Nat.reduceAdd, Nat.reduceMul, Int.reduceEq, Int.reduceLT, Int.reduceLE, Int.reduceNe, Int.reduceBEq, Int.reduceToNat, ↓reduceIte, f101], by simp only [go_sem, Nat.reduceEqDiff, Nat.reduceLT, Nat.reduceAdd, Nat.reduceMul, Int.reduceEq, Int.reduceLT, Int.reduceLE, Int.reduceNe, Int.reduceBEq, Int.reduceToNat, ↓reduceIte, f102], by simp only [go_sem, Nat.reduceEqDiff, Nat.reduceLT, Nat.reduceAdd, Nat.reduceMul, Int.reduceEq, Int.reduceLT, Int.reduceLE, Int.reduceNe, Int.reduceBEq, Int.reduceToNat, ↓reduceIte], rfl⟩
            · have v4 : decide ((0 : Int) < (i : Int)) = false := by simp; omega
              simp only [go_sem, Nat.reduceEqDiff, Nat.reduceLT, Nat.reduceAdd, Nat.reduceMul, Int.reduceEq, Int.reduceLT, Int.reduceLE, Int.reduceNe, Int.reduceBEq, Int.reduceToNat, ↓reduceIte, f0, f5, f7, f8, f30, f31, f32, f14, f101, f102, f103, v1, v2, v3, v4, v5, hb1, hgl]
              exact ⟨m9 - 1, by omega, i + 1, by omega, by simp only [go_sem, Nat.reduceEqDiff, Nat.reduceLT, Nat.reduceAdd, Nat.reduceMul, Int.reduceEq, Int.reduceLT, Int.reduceLE, Int.reduceNe, Int.reduceBEq, Int.reduceToNat, ↓reduceIte, f0], by simp only [go_sem, Nat.reduceEqDiff, Nat.reduceLT, Nat.reduceAdd, Nat.reduceMul, Int.reduceEq, Int.reduceLT, Int.reduceLE, Int.reduceNe, Int.reduceBEq, Int.reduceToNat, ↓reduceIte, f5], by simp only [go_sem, Nat.reduceEqDiff, Nat.reduceLT, Nat.reduceAdd, Nat.reduceMul, Int.reduceEq, Int.reduceLT, Int.reduceLE, Int.reduceNe, Int.reduceBEq, Int.reduceToNat, ↓reduceIte, f7], by simp only [go_sem, Nat.reduceEqDiff, Nat.reduceLT, Nat.reduceAdd, Nat.reduceMul, Int.reduceEq, Int.reduceLT, Int.reduceLE, Int.reduceNe, Int.reduceBEq, Int.reduceToNat, ↓reduceIte, f8], by simp only [go_sem, Nat.reduceEqDiff, Nat.reduceLT, Nat.reduceAdd, Nat.reduceMul, Int.reduceEq, Int.reduceLT, Int.reduceLE, Int.reduceNe, Int.reduceBEq, Int.reduceToNat, ↓reduceIte, f30], by simp only [go_sem, Nat.reduceEqDiff, Nat.reduceLT, Nat.reduceAdd, Nat.reduceMul, Int.reduceEq, Int.reduceLT, Int.reduceLE, Int.reduceNe, Int.reduceBEq, Int.reduceToNat, ↓reduceIte, f31], by simp only [go_sem, Nat.reduceEqDiff, Nat.reduceLT, Nat.reduceAdd, Nat.reduceMul, Int.reduceEq, Int.reduceLT, Int.reduceLE, Int.reduceNe, Int.reduceBEq, Int.reduceToNat, ↓reduceIte, f32], by rw [hr7']; simp only [go_sem, Nat.reduceEqDiff, Nat.reduceLT, Nat.reduceAdd, Nat.reduceMul, Int.reduceEq, Int.reduceLT, Int.reduceLE, Int.reduceNe, Int.reduceBEq, Int.reduceToNat, ↓reduceIte, f14], by rw [hr7']; simp only [go_sem, Nat.reduceEqDiff, Nat.reduceLT, Nat.reduceAdd, Nat.reduceMul, Int.reduceEq, Int.reduceLT, Int.reduceLE, Int.reduceNe, Int.reduceBEq, Int.reduceToNat, ↓reduceIte, f101], by simp only [go_sem, Nat.reduceEqDiff, Nat.reduceLT, Nat.reduceAdd, Nat.reduceMul, Int.reduceEq, Int.reduceLT, Int.reduceLE, Int.reduceNe, Int.reduceBEq, Int.reduceToNat, ↓reduceIte, f102], by simp only [go_sem, Nat.reduceEqDiff, Nat.reduceLT, Nat.reduceAdd, Nat.reduceMul, Int.reduceEq, Int.reduceLT, Int.reduceLE, Int.reduceNe, Int.reduceBEq, Int.reduceToNat, ↓reduceIte], rfl⟩
          · have v1 : decide ((i : Int) < ((runs f sts6).length : Int)) = false := by simp; omega
            have e3 : IntKind.i64.wrap ((k : Int) + 1) = (k + 1 : Nat) := by rw [i64_in] <;> omega
            simp only [go_sem, Nat.reduceEqDiff, Nat.reduceLT, Nat.reduceAdd, Nat.reduceMul, Int.reduceEq, Int.reduceLT, Int.reduceLE, Int.reduceNe, Int.reduceBEq, Int.reduceToNat, ↓reduceIte, f0, f5, f7, f8, f30, f31, f32, f14, f101, f102, f103, v1, e3]
            exact ⟨m - 1, by omega, k + 1, S6, sts6, ps6, by omega, by simp only [go_sem, Nat.reduceEqDiff, Nat.reduceLT, Nat.reduceAdd, Nat.reduceMul, Int.reduceEq, Int.reduceLT, Int.reduceLE, Int.reduceNe, Int.reduceBEq, Int.reduceToNat, ↓reduceIte, f0], by simp only [go_sem, Nat.reduceEqDiff, Nat.reduceLT, Nat.reduceAdd, Nat.reduceMul, Int.reduceEq, Int.reduceLT, Int.reduceLE, Int.reduceNe, Int.reduceBEq, Int.reduceToNat, ↓reduceIte, f5], by simp only [go_sem, Nat.reduceEqDiff, Nat.reduceLT, Nat.reduceAdd, Nat.reduceMul, Int.reduceEq, Int.reduceLT, Int.reduceLE, Int.reduceNe, Int.reduceBEq, Int.reduceToNat, ↓reduceIte, f7], by rw [hl6]; simp only [go_sem, Nat.reduceEqDiff, Nat.reduceLT, Nat.reduceAdd, Nat.reduceMul, Int.reduceEq, Int.reduceLT, Int.reduceLE, Int.reduceNe, Int.reduceBEq, Int.reduceToNat, ↓reduceIte, f8], by simp only [go_sem, Nat.reduceEqDiff, Nat.reduceLT, Nat.reduceAdd, Nat.reduceMul, Int.reduceEq, Int.reduceLT, Int.reduceLE, Int.reduceNe, Int.reduceBEq, Int.reduceToNat, ↓reduceIte, f30], by simp only [go_sem, Nat.reduceEqDiff, Nat.reduceLT, Nat.reduceAdd, Nat.reduceMul, Int.reduceEq, Int.reduceLT, Int.reduceLE, Int.reduceNe, Int.reduceBEq, Int.reduceToNat, ↓reduceIte, f31], by simp only [go_sem, Nat.reduceEqDiff, Nat.reduceLT, Nat.reduceAdd, Nat.reduceMul, Int.reduceEq, Int.reduceLT, Int.reduceLE, Int.reduceNe, Int.reduceBEq, Int.reduceToNat, ↓reduceIte], hlog7, hmap7, hSr6, hM6, by omega, by omega, hhi7⟩
        · have d5 : decide (((d % 5 : Nat) : Int) = 3) = false := by simp; omega
          have d5' : decide (((d % 5 : Nat) : Int) = 4) = false := by simp; omega
          simp only [go_sem, Nat.reduceEqDiff, Nat.reduceLT, Nat.reduceAdd, Nat.reduceMul, Int.reduceEq, Int.reduceLT, Int.reduceLE, Int.reduceNe, Int.reduceBEq, Int.reduceToNat, ↓reduceIte, f0, f5, f7, f8, f30, f31, f32, d6, hbl, dm, g1, g2, d5, d5']
          refine (begin_log hlog4 (by omega)).mono ?_
          rintro r5 H5 ⟨rfl, S6, hlog5, hS5, hf5⟩
          have hmap5 := hmap4.keep fun o ho => hf5 _ o hSr ho
          have hSr6 : ¬ S6 r := fun hs => by
            rcases hS5 r hs with e | ⟨e, _⟩
            · exact hSr e
            · obtain ⟨o, ho⟩ := hmap4.own; rw [e] at ho; cases ho
          have w0' : IntKind.u64.wrap (sts.length : Int) = (sts.length : Int) := by rw [u64_in] <;> omega
          have w1' : IntKind.u64.wrap ((f : Int) + (sts.length : Int)) = ((f + sts.length : Nat) : Int) := by rw [u64_in] <;> omega
          have w2' : decide (((f + sts.length : Nat) : Int) = ((f + sts.length : Nat) : Int)) = true := by simp
          have hgn : ps.get ((f + sts.length : Nat) : Int) = none := by
            rw [hM.2.1, if_neg]; unfold stOf; rw [if_neg (by omega)]; omega
          obtain ⟨nn, hnn⟩ : ∃ nn, nn = sts.length + 1 := ⟨_, rfl⟩
          have d8 : IntKind.i64.wrap ((sts.length : Int) + 1) = (nn : Int) := by rw [i64_in] <;> omega
          simp only [go_sem, Nat.reduceEqDiff, Nat.reduceLT, Nat.reduceAdd, Nat.reduceMul, Int.reduceEq, Int.reduceLT, Int.reduceLE, Int.reduceNe, Int.reduceBEq, Int.reduceToNat, ↓reduceIte, f0, f5, f7, f8, f30, f31, f32, w0', w1', w2', lookK_int Try.underlying54 Try.underlying23 z4 hmap5, hgn, Option.getD_none]
          refine aop_mapUpdate (n := ((f + sts.length : Nat) : Int)) (v := .bool true) Try.underlying54 Try.underlying23 hmap5 (by simp only [go_sem, Nat.reduceEqDiff, Nat.reduceLT, Nat.reduceAdd, Nat.reduceMul, Int.reduceEq, Int.reduceLT, Int.reduceLE, Int.reduceNe, Int.reduceBEq, Int.reduceToNat, ↓reduceIte, f7]) (by simp only [go_sem, Nat.reduceEqDiff, Nat.reduceLT, Nat.reduceAdd, Nat.reduceMul, Int.reduceEq, Int.reduceLT, Int.reduceLE, Int.reduceNe, Int.reduceBEq, Int.reduceToNat, ↓reduceIte]) (by simp only [go_sem, Nat.reduceEqDiff, Nat.reduceLT, Nat.reduceAdd, Nat.reduceMul, Int.reduceEq, Int.reduceLT, Int.reduceLE, Int.reduceNe, Int.reduceBEq, Int.reduceToNat, ↓reduceIte]) ?_
          intro H6 hmap6 hf6
          have hlog6 := hlog5.keep (H' := H6) fun b o hb ho => by rw [hf6 b (fun e => hSr6 (by rw [← e]; exact hb))]; exact ho
          obtain ⟨sts6, hs6⟩ : ∃ s, s = sts ++ [1] := ⟨_, rfl⟩
          obtain ⟨ps6, hp6⟩ : ∃ p, p = ps.put ((f + sts.length : Nat) : Int) (.bool true) := ⟨_, rfl⟩
          have hM6 : RunsM ps6 f sts6 := by rw [hs6, hp6]; exact hM.push
          have hl6 : sts6.length = nn := by rw [hs6, hnn]; simp
          rw [← hs6] at hlog6
          rw [← hp6] at hmap6
          clear hs6 hp6
          simp only [go_sem, Nat.reduceEqDiff, Nat.reduceLT, Nat.reduceAdd, Nat.reduceMul, Int.reduceEq, Int.reduceLT, Int.reduceLE, Int.reduceNe, Int.reduceBEq, Int.reduceToNat, ↓reduceIte, f0, f5, f7, f8, f30, f31, f32, d8]
          refine (ACalls.hi (all_log hlog6 (by omega))).mono ?_
          rintro r7 H7 ⟨⟨hrow, hfr, hsub7⟩, hhi7⟩
          have hmap7 := hmap6.keep fun o ho => hsub7 _ o ho
          have hlog7 := hlog6.keep fun b o _ ho => hsub7 b o ho
          have hrl := runs_count f sts6
          have hps := hM6.2.2
          have hrb : (runs f sts6).length ≤ sts6.length := runsK_len f sts6 sts6.length
          have w1 : decide (((runs f sts6).length : Int) = (ps6.length : Int)) = true := by simp; omega
          have w2 : IntKind.u64.wrap (nn : Int) = (nn : Int) := by rw [u64_in] <;> omega
          have w3 : IntKind.u64.wrap ((f : Int) + (nn : Int)) = ((f + nn : Nat) : Int) := by rw [u64_in] <;> omega
          have w4 : decide (((f + nn : Nat) : Int) = ((f + nn : Nat) : Int)) = true := by simp
          obtain ⟨ra, rc, hr7⟩ := hrow.slice
          simp only [go_sem, Nat.reduceEqDiff, Nat.reduceLT, Nat.reduceAdd, Nat.reduceMul, Int.reduceEq, Int.reduceLT, Int.reduceLE, Int.reduceNe, Int.reduceBEq, Int.reduceToNat, ↓reduceIte, f0, f5, f7, f8, f30, f31, f32, d8, hr7, lenK_map hmap7, w1]
          refine (next_log hlog7 (by omega)).mono ?_
          rintro r8 H8 ⟨rfl, rfl⟩
          rw [hl6]
          simp only [go_sem, Nat.reduceEqDiff, Nat.reduceLT, Nat.reduceAdd, Nat.reduceMul, Int.reduceEq, Int.reduceLT, Int.reduceLE, Int.reduceNe, Int.reduceBEq, Int.reduceToNat, ↓reduceIte, f0, f5, f7, f8, f30, f31, f32, d8, hr7, w2, w3, w4]
          refine AC.loop (RunsJ f l r n k nn (.slice (some ab) n c) r7 (runs f sts6) H8) (n := (runs f sts6).length) ⟨0, by omega, by simp only [go_sem, Nat.reduceEqDiff, Nat.reduceLT, Nat.reduceAdd, Nat.reduceMul, Int.reduceEq, Int.reduceLT, Int.reduceLE, Int.reduceNe, Int.reduceBEq, Int.reduceToNat, ↓reduceIte, f0], by simp only [go_sem, Nat.reduceEqDiff, Nat.reduceLT, Nat.reduceAdd, Nat.reduceMul, Int.reduceEq, Int.reduceLT, Int.reduceLE, Int.reduceNe, Int.reduceBEq, Int.reduceToNat, ↓reduceIte, f5], by simp only [go_sem, Nat.reduceEqDiff, Nat.reduceLT, Nat.reduceAdd, Nat.reduceMul, Int.reduceEq, Int.reduceLT, Int.reduceLE, Int.reduceNe, Int.reduceBEq, Int.reduceToNat, ↓reduceIte, f7], by simp only [go_sem, Nat.reduceEqDiff, Nat.reduceLT, Nat.reduceAdd, Nat.reduceMul, Int.reduceEq, Int.reduceLT, Int.reduceLE, Int.reduceNe, Int.reduceBEq, Int.reduceToNat, ↓reduceIte, f8, d8], by simp only [go_sem, Nat.reduceEqDiff, Nat.reduceLT, Nat.reduceAdd, Nat.reduceMul, Int.reduceEq, Int.reduceLT, Int.reduceLE, Int.reduceNe, Int.reduceBEq, Int.reduceToNat, ↓reduceIte, f30], by simp only [go_sem, Nat.reduceEqDiff, Nat.reduceLT, Nat.reduceAdd, Nat.reduceMul, Int.reduceEq, Int.reduceLT, Int.reduceLE, Int.reduceNe, Int.reduceBEq, Int.reduceToNat, ↓reduceIte, f31], by simp only [go_sem, Nat.reduceEqDiff, Nat.reduceLT, Nat.reduceAdd, Nat.reduceMul, Int.reduceEq, Int.reduceLT, Int.reduceLE, Int.reduceNe, Int.reduceBEq, Int.reduceToNat, ↓reduceIte, f32], by rw [hr7]; simp only [go_sem, Nat.reduceEqDiff, Nat.reduceLT, Nat.reduceAdd, Nat.reduceMul, Int.reduceEq, Int.reduceLT, Int.reduceLE, Int.reduceNe, Int.reduceBEq, Int.reduceToNat, ↓reduceIte], by rw [hr7]; simp only [go_sem, Nat.reduceEqDiff, Nat.reduceLT, Nat.reduceAdd, Nat.reduceMul, Int.reduceEq, Int.reduceLT, Int.reduceLE, Int.reduceNe, Int.reduceBEq, Int.reduceToNat, ↓reduceIte], by simp only [go_sem, Nat.reduceEqDiff, Nat.reduceLT, Nat.reduceAdd, Nat.reduceMul, Int.reduceEq, Int.reduceLT, Int.reduceLE, Int.reduceNe, Int.reduceBEq, Int.reduceToNat, ↓reduceIte], by simp only [go_sem, Nat.reduceEqDiff, Nat.reduceLT, Nat.reduceAdd, Nat.reduceMul, Int.reduceEq, Int.reduceLT, Int.reduceLE, Int.reduceNe, Int.reduceBEq, Int.reduceToNat, ↓reduceIte], rfl⟩ ?_
          clear f0 f5 f7 f8 f30 f31 f32
          rintro m9 F9 H9 ⟨i, hi, f0, f5, f7, f8, f30, f31, f32, f14, f101, f102, f103, rfl⟩
          by_cases ci : i < (runs f sts6).length
          · have v1 : decide ((i : Int) < ((runs f sts6).length : Int)) = true := by simp; omega
            have v2 : decide ((0 : Int) ≤ (i : Int)) = true := by simp
            have v3 : IntKind.i64.wrap ((i : Int) + 1) = (i + 1 : Nat) := by rw [i64_in] <;> omega
            obtain ⟨y, hy, hyv, hy1⟩ := runs_mem ci
            obtain ⟨g, cap, cur, hr7', hg, hc1, hc2, hc3, hc4⟩ := hrow.open1 (by omega)
            have hgl := ld_own w0 hg
            have hcv : cur[i]? = some (.int .u64 ((f + y : Nat) : Int)) := by rw [hc3 _ ci]; simp only [u64s, List.getElem?_map, hyv, Option.map_some]
            have hsy : stOf f sts6 ((f + y : Nat) : Int) = 1 := by rw [stOf, if_pos (by omega), show (((f + y : Nat) : Int) - (f : Int)).toNat = y by omega]; exact hy1
            have hgy : ps6.get ((f + y : Nat) : Int) = some (.bool true) := by rw [hM6.2.1, if_pos hsy]
            have hb1 : (((1 : Nat) : Int)) = 1 := rfl
            have v5 : decide ((1 : Int) = 1) = true := by decide
            rw [hr7'] at f14 f101
            simp only [go_sem, Nat.reduceEqDiff, Nat.reduceLT, Nat.reduceAdd, Nat.reduceMul, Int.reduceEq, Int.reduceLT, Int.reduceLE, Int.reduceNe, Int.reduceBEq, Int.reduceToNat, ↓reduceIte, f0, f5, f7, f8, f30, f31, f32, f14, f101, f102, f103, v1, v2, hgl, hcv, lookK_int Try.underlying54 Try.underlying23 z4 hmap7, hgy]
            refine (state_log hlog7 (by omega) (x := ((f + y : Nat) : Int)) (by omega)).mono ?_
            rintro r10 H10 ⟨rfl, rfl⟩
            rw [hsy]
            by_cases c0 : 0 < i
            · have v4 : decide ((0 : Int) < (i : Int)) = true := by simp; omega
              obtain ⟨j, rfl⟩ : ∃ j, i = j + 1 := ⟨i - 1, by omega⟩
              have v6 : IntKind.i64.wrap (((j + 1 : Nat) : Int) - 1) = (j : Int) := by rw [i64_in] <;> omega
              have v7 : decide ((0 : Int) ≤ (j : Int)) = true := by simp
              have v8 : decide ((j : Int) < ((runs f sts6).length : Int)) = true := by simp; omega
              obtain ⟨y', hy', hyv', hy1'⟩ := runs_mem (f := f) (sts := sts6) (i := j) (by omega)
              have hcv' : cur[j]? = some (.int .u64 ((f + y' : Nat) : Int)) := by rw [hc3 _ (by omega)]; simp only [u64s, List.getElem?_map, hyv', Option.map_some]
              have hlt : f + y' < f + y := by
                have h1 := runs_rise f sts6 ci
                rw [List.getElem?_eq_getElem (by omega), Option.some.injEq] at hyv hyv'
                omega
              have v9 : decide (((f + y : Nat) : Int) ≤ ((f + y' : Nat) : Int)) = false := by simp; omega
              simp only [go_sem, Nat.reduceEqDiff, Nat.reduceLT, Nat.reduceAdd, Nat.reduceMul, Int.reduceEq, Int.reduceLT, Int.reduceLE, Int.reduceNe, Int.reduceBEq, Int.reduceToNat, ↓reduceIte, f0, f5, f7, f8, f30, f31, f32, f14, f101, f102, f103, v1, v2, v3, v4, v5, v6, v7, v8, v9, hb1, hgl, hcv']
              exact ⟨m9 - 1, by omega, j + 1 + 1, by omega, by simp only [go_sem, Nat.reduceEqDiff, Nat.reduceLT, Nat.reduceAdd, Nat.reduceMul, Int.reduceEq, Int.reduceLT, Int.reduceLE, Int.reduceNe, Int.reduceBEq, Int.reduceToNat, ↓reduceIte, f0], by simp only [go_sem, Nat.reduceEqDiff, Nat.reduceLT, Nat.reduceAdd, Nat.reduceMul, Int.reduceEq, Int.reduceLT, Int.reduceLE, Int.reduceNe, Int.reduceBEq, Int.reduceToNat, ↓reduceIte, f5], by simp only [go_sem, Nat.reduceEqDiff, Nat.reduceLT, Nat.reduceAdd, Nat.reduceMul, Int.reduceEq, Int.reduceLT, Int.reduceLE, Int.reduceNe, Int.reduceBEq, Int.reduceToNat, ↓reduceIte, f7], by simp only [go_sem, Nat.reduceEqDiff, Nat.reduceLT, Nat.reduceAdd, Nat.reduceMul, Int.reduceEq, Int.reduceLT, Int.reduceLE, Int.reduceNe, Int.reduceBEq, Int.reduceToNat, ↓reduceIte, f8], by simp only [go_sem, Nat.reduceEqDiff, Nat.reduceLT, Nat.reduceAdd, Nat.reduceMul, Int.reduceEq, Int.reduceLT, Int.reduceLE, Int.reduceNe, Int.reduceBEq, Int.reduceToNat, ↓reduceIte, f30], by simp only [go_sem, Nat.reduceEqDiff, Nat.reduceLT, Nat.reduceAdd, Nat.reduceMul, Int.reduceEq, Int.reduceLT, Int.reduceLE, Int.reduceNe, Int.reduceBEq, Int.reduceToNat, ↓reduceIte, f31], by simp only [go_sem, Nat.reduceEqDiff, Nat.reduceLT, Nat.reduceAdd, Nat.reduceMul, Int.reduceEq, Int.reduceLT, Int.reduceLE, Int.reduceNe, Int.reduceBEq, Int.reduceToNat, ↓reduceIte, f32], by rw [hr7']; simp only [go_sem, Nat.reduceEqDiff, Nat.reduceLT, Nat.reduceAdd, Nat.reduceMul, Int.reduceEq, Int.reduceLT, Int.reduceLE, Int.reduceNe, Int.reduceBEq, Int.reduceToNat, ↓reduceIte, f14], by rw [hr7']; simp only [go_sem, Nat.reduceEqDiff, Nat.reduceLT, Nat.reduceAdd, Nat.reduceMul, Int.reduceEq, Int.reduceLT, Int.reduceLE, Int.reduceNe, Int.reduceBEq, Int.reduceToNat, ↓reduceIte, f101], by simp only [go_sem, Nat.reduceEqDiff, Nat.reduceLT, Nat.reduceAdd, Nat.reduceMul, Int.reduceEq, Int.reduceLT, Int.reduceLE, Int.reduceNe, Int.reduceBEq, Int.reduceToNat, ↓reduceIte, f102], by simp only [go_sem, Nat.reduceEqDiff, Nat.reduceLT, Nat.reduceAdd, Nat.reduceMul, Int.reduceEq, Int.reduceLT, Int.reduceLE, Int.reduceNe, Int.reduceBEq, Int.reduceToNat, ↓reduceIte], rfl⟩
            · have v4 : decide ((0 : Int) < (i : Int)) = false := by simp; omega
              simp only [go_sem, Nat.reduceEqDiff, Nat.reduceLT, Nat.reduceAdd, Nat.reduceMul, Int.reduceEq, Int.reduceLT, Int.reduceLE, Int.reduceNe, Int.reduceBEq, Int.reduceToNat, ↓reduceIte, f0, f5, f7, f8, f30, f31, f32, f14, f101, f102, f103, v1, v2, v3, v4, v5, hb1, hgl]
              exact ⟨m9 - 1, by omega, i + 1, by omega, by simp only [go_sem, Nat.reduceEqDiff, Nat.reduceLT, Nat.reduceAdd, Nat.reduceMul, Int.reduceEq, Int.reduceLT, Int.reduceLE, Int.reduceNe, Int.reduceBEq, Int.reduceToNat, ↓reduceIte, f0], by simp only [go_sem, Nat.reduceEqDiff, Nat.reduceLT, Nat.reduceAdd, Nat.reduceMul, Int.reduceEq, Int.reduceLT, Int.reduceLE, Int.reduceNe, Int.reduceBEq, Int.reduceToNat, ↓reduceIte, f5], by simp only [go_sem, Nat.reduceEqDiff, Nat.reduceLT, Nat.reduceAdd, Nat.reduceMul, Int.reduceEq, Int.reduceLT, Int.reduceLE, Int.reduceNe, Int.reduceBEq, Int.reduceToNat, ↓reduceIte, f7], by simp only [go_sem, Nat.reduceEqDiff, Nat.reduceLT, Nat.reduceAdd, Nat.reduceMul, Int.reduceEq, Int.reduceLT, Int.reduceLE, Int.reduceNe, Int.reduceBEq, Int.reduceToNat, ↓reduceIte, f8], by simp only [go_sem, Nat.reduceEqDiff, Nat.reduceLT, Nat.reduceAdd, Nat.reduceMul, Int.reduceEq, Int.reduceLT, Int.reduceLE, Int.reduceNe, Int.reduceBEq, Int.reduceToNat, ↓reduceIte, f30], by simp only [go_sem, Nat.reduceEqDiff, Nat.reduceLT, Nat.reduceAdd, Nat.reduceMul, Int.reduceEq, Int.reduceLT, Int.reduceLE, Int.reduceNe, Int.reduceBEq, Int.reduceToNat, ↓reduceIte, f31], by simp only [go_sem, Nat.reduceEqDiff, Nat.reduceLT, Nat.reduceAdd, Nat.reduceMul, Int.reduceEq, Int.reduceLT, Int.reduceLE, Int.reduceNe, Int.reduceBEq, Int.reduceToNat, ↓reduceIte, f32], by rw [hr7']; simp only [go_sem, Nat.reduceEqDiff, Nat.reduceLT, Nat.reduceAdd, Nat.reduceMul, Int.reduceEq, Int.reduceLT, Int.reduceLE, Int.reduceNe, Int.reduceBEq, Int.reduceToNat, ↓reduceIte, f14], by rw [hr7']; simp only [go_sem, Nat.reduceEqDiff, Nat.reduceLT, Nat.reduceAdd, Nat.reduceMul, Int.reduceEq, Int.reduceLT, Int.reduceLE, Int.reduceNe, Int.reduceBEq, Int.reduceToNat, ↓reduceIte, f101], by simp only [go_sem, Nat.reduceEqDiff, Nat.reduceLT, Nat.reduceAdd, Nat.reduceMul, Int.reduceEq, Int.reduceLT, Int.reduceLE, Int.reduceNe, Int.reduceBEq, Int.reduceToNat, ↓reduceIte, f102], by simp only [go_sem, Nat.reduceEqDiff, Nat.reduceLT, Nat.reduceAdd, Nat.reduceMul, Int.reduceEq, Int.reduceLT, Int.reduceLE, Int.reduceNe, Int.reduceBEq, Int.reduceToNat, ↓reduceIte], rfl⟩
          · have v1 : decide ((i : Int) < ((runs f sts6).length : Int)) = false := by simp; omega
            have e3 : IntKind.i64.wrap ((k : Int) + 1) = (k + 1 : Nat) := by rw [i64_in] <;> omega
            simp only [go_sem, Nat.reduceEqDiff, Nat.reduceLT, Nat.reduceAdd, Nat.reduceMul, Int.reduceEq, Int.reduceLT, Int.reduceLE, Int.reduceNe, Int.reduceBEq, Int.reduceToNat, ↓reduceIte, f0, f5, f7, f8, f30, f31, f32, f14, f101, f102, f103, v1, e3]
            exact ⟨m - 1, by omega, k + 1, S6, sts6, ps6, by omega, by simp only [go_sem, Nat.reduceEqDiff, Nat.reduceLT, Nat.reduceAdd, Nat.reduceMul, Int.reduceEq, Int.reduceLT, Int.reduceLE, Int.reduceNe, Int.reduceBEq, Int.reduceToNat, ↓reduceIte, f0], by simp only [go_sem, Nat.reduceEqDiff, Nat.reduceLT, Nat.reduceAdd, Nat.reduceMul, Int.reduceEq, Int.reduceLT, Int.reduceLE, Int.reduceNe, Int.reduceBEq, Int.reduceToNat, ↓reduceIte, f5], by simp only [go_sem, Nat.reduceEqDiff, Nat.reduceLT, Nat.reduceAdd, Nat.reduceMul, Int.reduceEq, Int.reduceLT, Int.reduceLE, Int.reduceNe, Int.reduceBEq, Int.reduceToNat, ↓reduceIte, f7], by rw [hl6]; simp only [go_sem, Nat.reduceEqDiff, Nat.reduceLT, Nat.reduceAdd, Nat.reduceMul, Int.reduceEq, Int.reduceLT, Int.reduceLE, Int.reduceNe, Int.reduceBEq, Int.reduceToNat, ↓reduceIte, f8], by simp only [go_sem, Nat.reduceEqDiff, Nat.reduceLT, Nat.reduceAdd, Nat.reduceMul, Int.reduceEq, Int.reduceLT, Int.reduceLE, Int.reduceNe, Int.reduceBEq, Int.reduceToNat, ↓reduceIte, f30], by simp only [go_sem, Nat.reduceEqDiff, Nat.reduceLT, Nat.reduceAdd, Nat.reduceMul, Int.reduceEq, Int.reduceLT, Int.reduceLE, Int.reduceNe, Int.reduceBEq, Int.reduceToNat, ↓reduceIte, f31], by simp only [go_sem, Nat.reduceEqDiff, Nat.reduceLT, Nat.reduceAdd, Nat.reduceMul, Int.reduceEq, Int.reduceLT, Int.reduceLE, Int.reduceNe, Int.reduceBEq, Int.reduceToNat, ↓reduceIte], hlog7, hmap7, hSr6, hM6, by omega, by omega, hhi7⟩
    · have d6 : decide (60 ≤ (k : Int)) = true := by simp; omega
      simp only [go_sem, Nat.reduceEqDiff, Nat.reduceLT, Nat.reduceAdd, Nat.reduceMul, Int.reduceEq, Int.reduceLT, Int.reduceLE, Int.reduceNe, Int.reduceBEq, Int.reduceToNat, ↓reduceIte, f0, f5, f7, f8, f30, f31, f32, d6]
  · have d1 : decide ((k : Int) < (n : Int)) = false := by simp; omega
    simp only [go_sem, Nat.reduceEqDiff, Nat.reduceLT, Nat.reduceAdd, Nat.reduceMul, Int.reduceEq, Int.reduceLT, Int.reduceLE, Int.reduceNe, Int.reduceBEq, Int.reduceToNat, ↓reduceIte, f0, f5, f7, f8, f30, f31, f32, d1]
end Go.Proofs.Ytmpepacfnckadaa
