/-
  The law BookFirst, walked.
  Conditions: the truth values read as such.
-/
import Derived.Test.YtcpeiejabbdeiaaBfp
import Derived.Test.YtcpeiejabbdeiaaArgs
namespace Go.Proofs.Ytcpeiejabbdeiaa
open Go Go.RowKit Go.Proofs.YtcpeiejabbdeiaaW
set_option maxRecDepth 100000
set_option maxHeartbeats 2000000
set_option linter.unusedSimpArgs false
set_option linter.unusedVariables false

theorem Shot.cs_len' (z : Shot) : z.cs.length = 4 := rfl
/-- The row of snapshots: each one's, as it began. -/
def SnapRow (H : Hp) (sv : Value) (zs : List Shot) : Prop := Row H 34 4 sv zs.length (zs.flatMap Shot.cs) ∧ ∀ z ∈ zs, ShotAt H z
theorem SnapRow.sub {H H' : Hp} {sv : Value} {zs : List Shot} (h : SnapRow H sv zs) (hs : Sub H H') : SnapRow H' sv zs := ⟨h.1.keep fun b o _ hb => hs b o hb, fun z hz => (h.2 z hz).sub hs⟩
theorem SnapRow.out {H H' : Hp} {sv : Value} {zs : List Shot} (h : SnapRow H sv zs) (ho : Out H H') : SnapRow H' sv zs := ⟨h.1.keep fun b o hb hh => ho b o (by rw [Row.tyAt h.1 hb]; rfl) hh, fun z hz => (h.2 z hz).outB ho⟩
theorem SnapRow.log {H H' : Hp} {l : Nat} {S : Nat → Prop} {st : List Nat} {sv : Value} {zs : List Shot} (h : SnapRow H sv zs) (hl : LogAt H l S 1 st) (hf : ∀ b o, ¬ S b → H b = some o → H' b = some o) : SnapRow H' sv zs :=
  ⟨log_row hl hf h.1 (by decide) (by decide), fun z hz => (h.2 z hz).log hl hf⟩
def ShotsOk (zs : List Shot) : Prop := ∀ i z, zs[i]? = some z → z.own = 2 + i ∧ stOf 1 z.old ((1 : Nat) : Int) = 2 ∧ 1 ≤ z.old.length
def FirI (w0 : World) (l bk k : Nat) (drop : Bool) (ab : Value) (ts : List Tb) (last : Nat) (m : Nat) (F : Fr) (H : Hp) : Prop :=
  ∃ (j : Nat) (S : Nat → Prop) (sv : Value) (zs : List Shot), j + m = k ∧ F 1 = .bool drop ∧ F 2 = ab ∧ F 7 = ptr l ∧ F 9 = ptr bk ∧ F 13 = sv ∧ F 46 = .int .i64 (k : Int) ∧ F 47 = .int .i64 (j : Int) ∧
    St H l S (2 :: List.replicate j 1) bk ts [] last [] ∧ SnapRow H sv zs ∧ zs.length = j ∧ ShotsOk zs
def FirJ (w0 : World) (l bk k : Nat) (drop : Bool) (ab sv : Value) (zs : List Shot) (m : Nat) (F : Fr) (H : Hp) : Prop :=
  ∃ (i : Nat) (S : Nat → Prop) (st : List Nat) (ts : List Tb) (last : Nat) (first : Bool), i + m = k ∧ F 1 = .bool drop ∧ F 2 = ab ∧ F 7 = ptr l ∧ F 9 = ptr bk ∧ F 13 = sv ∧ F 16 = .bool first ∧ F 61 = sv ∧ F 62 = .int .i64 (k : Int) ∧ F 63 = .int .i64 (i : Int) ∧
    St H l S st bk ts [] last [] ∧ SnapRow H sv zs ∧ FInv first drop i k st ts ∧ last < 1000 + i
theorem st_ones (j : Nat) : stOf 1 (2 :: List.replicate j 1) ((1 : Nat) : Int) = 2 := by
  rw [stOf, if_pos (by simp; omega)]; rfl
theorem st_rep {j i : Nat} (h : i < j) : stOf 1 (2 :: List.replicate j 1) ((2 + i : Nat) : Int) = 1 := by
  rw [stOf, if_pos (by simp; omega), show (((2 + i : Nat) : Int) - ((1 : Nat) : Int)).toNat = i + 1 by omega]
  simp [h]

theorem first_ok (w0 : World) (n : Nat) (hn : n < 256) (drop : Bool) (a : Value) (an : Nat) (ha : BoolsArg w0 a an) :
    ACalls Try.prog w0 6 #[.int .u8 (n : Int), .bool drop, a] (fun _ => none) fun r H' => r = .bool true ∧ True := by
  obtain ⟨ad, ac, rfl, han, hab⟩ := ha
  refine acalls_of Try.func6 rfl Try.ntmps6 r6 (by simp) ?_
  simp -implicitDefEqProofs only [go_sem, Nat.reduceEqDiff, Nat.reduceLT, Nat.reduceAdd, Nat.reduceMul, Int.reduceEq, Int.reduceLT, Int.reduceLE, Int.reduceNe, Int.reduceBEq, Int.reduceToNat, ↓reduceIte]
  refine (awake11_ok w0).mono ?_
  rintro r H' ⟨rfl, rfl⟩
  simp -implicitDefEqProofs only [go_sem, Nat.reduceEqDiff, Nat.reduceLT, Nat.reduceAdd, Nat.reduceMul, Int.reduceEq, Int.reduceLT, Int.reduceLE, Int.reduceNe, Int.reduceBEq, Int.reduceToNat, ↓reduceIte]
  refine (new_ok w0 1 _ (by omega) (by omega)).mono ?_
  rintro r H1 ⟨l, rfl, hl, hl0, hlog, hsub⟩
  simp -implicitDefEqProofs only [go_sem, Nat.reduceEqDiff, Nat.reduceLT, Nat.reduceAdd, Nat.reduceMul, Int.reduceEq, Int.reduceLT, Int.reduceLE, Int.reduceNe, Int.reduceBEq, Int.reduceToNat, ↓reduceIte]
  refine (bnew_ok w0 H1).mono ?_
  rintro r H2 ⟨bk, rfl, hbk, hbook, s2⟩
  have st2 : St H2 l (fun b => b = l) [] bk [] [] 0 [] := ⟨hlog.keep fun b o _ hb => s2 b o hb, hbook, fun p hp => by cases hp⟩
  simp -implicitDefEqProofs only [go_sem, Nat.reduceEqDiff, Nat.reduceLT, Nat.reduceAdd, Nat.reduceMul, Int.reduceEq, Int.reduceLT, Int.reduceLE, Int.reduceNe, Int.reduceBEq, Int.reduceToNat, ↓reduceIte]
  refine (begin_log st2.1 (by simp)).mono ?_
  rintro r H3 ⟨rfl, S3, hlog3, _, hf3⟩
  obtain ⟨st3l, e3⟩ : ∃ x : List Nat, x = [1] := ⟨_, rfl⟩
  have hlog3 : LogAt H3 l S3 1 st3l := by rw [e3]; exact hlog3
  have hl3 : st3l.length = 1 := by rw [e3]; rfl
  have stA := st2.log hlog3 hf3
  have nm : (n : Int).tmod 8 = ((n % 8 : Nat) : Int) := by rw [Int.tmod_eq_emod_of_nonneg (by omega)]; omega
  have nw : IntKind.i64.wrap ((n % 8 : Nat) : Int) = ((n % 8 : Nat) : Int) := by rw [i64_in] <;> omega
  obtain ⟨k, ek⟩ : ∃ k, k = 2 + n % 8 := ⟨_, rfl⟩
  have kw : IntKind.i64.wrap (2 + ((n % 8 : Nat) : Int)) = (k : Int) := by rw [i64_in] <;> omega
  have hk9 : k ≤ 9 := by omega
  cases drop
  · simp -implicitDefEqProofs only [go_sem, Nat.reduceEqDiff, Nat.reduceLT, Nat.reduceAdd, Nat.reduceMul, Int.reduceEq, Int.reduceLT, Int.reduceLE, Int.reduceNe, Int.reduceBEq, Int.reduceToNat, ↓reduceIte]
    refine (commit_log stA.1 (by omega) (x := 1) (by omega)).mono ?_
    rintro r H4 ⟨rfl, hlog4, hf4⟩
    have e4 : endSts 1 st3l 1 2 = 2 :: List.replicate 0 1 := by rw [e3]; decide +kernel
    rw [e4] at hlog4
    have stB := stA.log hlog4 hf4
    have hgd : ∀ st : List Nat, st = 2 :: List.replicate k 1 → FInv true false 0 k st [] := fun st e => by
      rw [e]
      exact ⟨by simp; omega, st_ones k, fun j _ hj => st_rep hj, fun j hj => (by omega), fun _ => ⟨by simp, fun h => (by cases h), by simp⟩, fun h => (by cases h)⟩
    simp -implicitDefEqProofs only [go_sem, Nat.reduceEqDiff, Nat.reduceLT, Nat.reduceAdd, Nat.reduceMul, Int.reduceEq, Int.reduceLT, Int.reduceLE, Int.reduceNe, Int.reduceBEq, Int.reduceToNat, ↓reduceIte, nm, nw, kw]
    refine AC.loopH (FirI w0 l bk k false (.slice ad an ac) [] 0) (n := k) ⟨0, _, .slice none 0 0, [], by omega, by simp -implicitDefEqProofs only [go_sem, Nat.reduceEqDiff, Nat.reduceLT, Nat.reduceAdd, Nat.reduceMul, Int.reduceEq, Int.reduceLT, Int.reduceLE, Int.reduceNe, Int.reduceBEq, Int.reduceToNat, ↓reduceIte], by simp -implicitDefEqProofs only [go_sem, Nat.reduceEqDiff, Nat.reduceLT, Nat.reduceAdd, Nat.reduceMul, Int.reduceEq, Int.reduceLT, Int.reduceLE, Int.reduceNe, Int.reduceBEq, Int.reduceToNat, ↓reduceIte], by simp -implicitDefEqProofs only [go_sem, Nat.reduceEqDiff, Nat.reduceLT, Nat.reduceAdd, Nat.reduceMul, Int.reduceEq, Int.reduceLT, Int.reduceLE, Int.reduceNe, Int.reduceBEq, Int.reduceToNat, ↓reduceIte], by simp -implicitDefEqProofs only [go_sem, Nat.reduceEqDiff, Nat.reduceLT, Nat.reduceAdd, Nat.reduceMul, Int.reduceEq, Int.reduceLT, Int.reduceLE, Int.reduceNe, Int.reduceBEq, Int.reduceToNat, ↓reduceIte], by simp -implicitDefEqProofs only [go_sem, Nat.reduceEqDiff, Nat.reduceLT, Nat.reduceAdd, Nat.reduceMul, Int.reduceEq, Int.reduceLT, Int.reduceLE, Int.reduceNe, Int.reduceBEq, Int.reduceToNat, ↓reduceIte], by simp -implicitDefEqProofs only [go_sem, Nat.reduceEqDiff, Nat.reduceLT, Nat.reduceAdd, Nat.reduceMul, Int.reduceEq, Int.reduceLT, Int.reduceLE, Int.reduceNe, Int.reduceBEq, Int.reduceToNat, ↓reduceIte], by simp -implicitDefEqProofs only [go_sem, Nat.reduceEqDiff, Nat.reduceLT, Nat.reduceAdd, Nat.reduceMul, Int.reduceEq, Int.reduceLT, Int.reduceLE, Int.reduceNe, Int.reduceBEq, Int.reduceToNat, ↓reduceIte], stB, ⟨⟨by simp, .inl ⟨rfl, rfl⟩⟩, by simp⟩, rfl, fun i z h => by simp at h⟩ ?_
    rintro m F HA ⟨j, SA, sv, zs, hj, f1, f2, f7, f9, f13, f46, f47, stC, hsr, hzl, hso⟩ hhiA
    by_cases cj : j < k
    · have d1 : decide ((j : Int) < (k : Int)) = true := by rw [dec_lt]; simp [cj]
      have d2 : IntKind.i64.wrap ((j : Int) + 1) = (j + 1 : Nat) := by rw [i64_in] <;> omega
      simp -implicitDefEqProofs only [go_sem, Nat.reduceEqDiff, Nat.reduceLT, Nat.reduceAdd, Nat.reduceMul, Int.reduceEq, Int.reduceLT, Int.reduceLE, Int.reduceNe, Int.reduceBEq, Int.reduceToNat, ↓reduceIte, f1, f2, f7, f9, f13, f46, f47, d1]
      refine (begin_log stC.1 (by simp; omega)).mono ?_
      rintro rr HB ⟨rfl, SB, hlogB, _, hfB⟩
      have hsrB := hsr.log stC.1 hfB
      have eL : (2 :: List.replicate j 1 : List Nat) ++ [1] = 2 :: List.replicate (j + 1) 1 := by rw [List.replicate_succ']; rfl
      rw [eL] at hlogB
      have stD := stC.log hlogB hfB
      have q2 : ((1 + (2 :: List.replicate j 1 : List Nat).length : Nat) : Int) = ((2 + j : Nat) : Int) := by simp; omega
      rw [q2]
      simp -implicitDefEqProofs only [go_sem, Nat.reduceEqDiff, Nat.reduceLT, Nat.reduceAdd, Nat.reduceMul, Int.reduceEq, Int.reduceLT, Int.reduceLE, Int.reduceNe, Int.reduceBEq, Int.reduceToNat, ↓reduceIte, f1, f2, f7, f9, f13, f46, f47]
      refine (take_shot stD.1 (by simp; omega) (2 + j)).mono ?_
      rintro rr HC ⟨z, oz, qz, rfl, hz, _, sC⟩
      have stE := stD.sub sC
      have hsrC := hsrB.sub sC
      have hc1 := hz.cell
      have bs1 : bsCells Try.prog 34 1 #[(0, .agg #[.int .u64 (z.own : Int), .int .u64 (z.xmin : Int), .int .u64 (z.xmax : Int), z.v])] = some #[.int .u64 (z.own : Int), .int .u64 (z.xmin : Int), .int .u64 (z.xmax : Int), z.v] := by kernel_rfl
      simp -implicitDefEqProofs only [go_sem, Nat.reduceEqDiff, Nat.reduceLT, Nat.reduceAdd, Nat.reduceMul, Int.reduceEq, Int.reduceLT, Int.reduceLE, Int.reduceNe, Int.reduceBEq, Int.reduceToNat, ↓reduceIte, f1, f2, f7, f9, f13, f46, f47, bs1]
      refine newK_of ?_
      intro nb HD hnb hnn h4 s4 g4
      simp -implicitDefEqProofs only [go_sem, Nat.reduceEqDiff, Nat.reduceLT, Nat.reduceAdd, Nat.reduceMul, Int.reduceEq, Int.reduceLT, Int.reduceLE, Int.reduceNe, Int.reduceBEq, Int.reduceToNat, ↓reduceIte, f1, f2, f7, f9, f13, f46, f47]
      refine aop_append_lit (t := 58) (x := .tmp 54) (y := .tmp 58) (c := 1) Try.underlying58 s34 b34 z34 rfl (v := sv) (by simp -implicitDefEqProofs only [go_sem, Nat.reduceEqDiff, Nat.reduceLT, Nat.reduceAdd, Nat.reduceMul, Int.reduceEq, Int.reduceLT, Int.reduceLE, Int.reduceNe, Int.reduceBEq, Int.reduceToNat, ↓reduceIte, f13]) ((hsrC.sub s4).1) h4 (by simp -implicitDefEqProofs only [go_sem, Nat.reduceEqDiff, Nat.reduceLT, Nat.reduceAdd, Nat.reduceMul, Int.reduceEq, Int.reduceLT, Int.reduceLE, Int.reduceNe, Int.reduceBEq, Int.reduceToNat, ↓reduceIte]) rfl (by simp [cell1_int, hc1]) (by omega) (by omega) (by omega) ?_
      intro g HE hg hHE cap hrowE
      have kE : ∀ b o, tyAt HC b ≠ some 34 → HC b = some o → HE b = some o := by
        intro b o ht ho
        have : b ≠ g := by
          rintro rfl
          rcases hg with e | ⟨e, _⟩
          · exact ht (Row.tyAt hsrC.1 e.symm)
          · rw [s4 _ _ ho] at e; cases e
        rw [hHE b this]; exact s4 b o ho
      have kS : ∀ z', ShotAt HC z' → ShotAt HE z' := fun z' hz' => ⟨hz'.1.keep fun b o hb ho => kE b o (by rw [Row.tyAt hz'.1 hb]; decide) ho, hz'.2⟩
      have stF : St HE l SB (2 :: List.replicate (j + 1) 1) bk _ [] _ [] := ⟨stE.1.keep fun b o hb ho => kE b o (by rcases stE.1.ty hb with e | e <;> rw [e] <;> decide) ho, stE.2.1.keep fun b o ht ho => kE b o (fun e => by rw [e] at ht; cases ht) ho, fun p hp => by cases hp⟩
      simp -implicitDefEqProofs only [go_sem, Nat.reduceEqDiff, Nat.reduceLT, Nat.reduceAdd, Nat.reduceMul, Int.reduceEq, Int.reduceLT, Int.reduceLE, Int.reduceNe, Int.reduceBEq, Int.reduceToNat, ↓reduceIte, f1, f2, f7, f9, f13, f46, f47, d2]
      refine ⟨m - 1, by omega, j + 1, SB, .slice (some ⟨g, 0, none⟩) (zs.length + 1) cap, zs ++ [z], by omega, by simp -implicitDefEqProofs only [go_sem, Nat.reduceEqDiff, Nat.reduceLT, Nat.reduceAdd, Nat.reduceMul, Int.reduceEq, Int.reduceLT, Int.reduceLE, Int.reduceNe, Int.reduceBEq, Int.reduceToNat, ↓reduceIte, f1], by simp -implicitDefEqProofs only [go_sem, Nat.reduceEqDiff, Nat.reduceLT, Nat.reduceAdd, Nat.reduceMul, Int.reduceEq, Int.reduceLT, Int.reduceLE, Int.reduceNe, Int.reduceBEq, Int.reduceToNat, ↓reduceIte, f2], by simp -implicitDefEqProofs only [go_sem, Nat.reduceEqDiff, Nat.reduceLT, Nat.reduceAdd, Nat.reduceMul, Int.reduceEq, Int.reduceLT, Int.reduceLE, Int.reduceNe, Int.reduceBEq, Int.reduceToNat, ↓reduceIte, f7], by simp -implicitDefEqProofs only [go_sem, Nat.reduceEqDiff, Nat.reduceLT, Nat.reduceAdd, Nat.reduceMul, Int.reduceEq, Int.reduceLT, Int.reduceLE, Int.reduceNe, Int.reduceBEq, Int.reduceToNat, ↓reduceIte, f9], by simp -implicitDefEqProofs only [go_sem, Nat.reduceEqDiff, Nat.reduceLT, Nat.reduceAdd, Nat.reduceMul, Int.reduceEq, Int.reduceLT, Int.reduceLE, Int.reduceNe, Int.reduceBEq, Int.reduceToNat, ↓reduceIte], by simp -implicitDefEqProofs only [go_sem, Nat.reduceEqDiff, Nat.reduceLT, Nat.reduceAdd, Nat.reduceMul, Int.reduceEq, Int.reduceLT, Int.reduceLE, Int.reduceNe, Int.reduceBEq, Int.reduceToNat, ↓reduceIte, f46], by simp -implicitDefEqProofs only [go_sem, Nat.reduceEqDiff, Nat.reduceLT, Nat.reduceAdd, Nat.reduceMul, Int.reduceEq, Int.reduceLT, Int.reduceLE, Int.reduceNe, Int.reduceBEq, Int.reduceToNat, ↓reduceIte], stF, ⟨?_, fun z' hz' => ?_⟩, by simp [hzl], fun i z' hi => ?_⟩
      · rw [List.length_append, List.length_singleton, List.flatMap_append, List.flatMap_cons, List.flatMap_nil, List.append_nil]
        exact hrowE
      · simp only [List.mem_append, List.mem_singleton] at hz'
        rcases hz' with hz' | rfl
        · exact kS z' (hsrC.2 z' hz')
        · exact kS z' hz
      · by_cases ei : i < zs.length
        · rw [List.getElem?_append_left ei] at hi; exact hso i z' hi
        · rw [List.getElem?_append_right (by omega)] at hi
          have hi0 : i - zs.length = 0 := by
            rcases Nat.eq_zero_or_pos (i - zs.length) with e | e
            · exact e
            · rw [List.getElem?_eq_none (by simp; omega)] at hi; cases hi
          rw [hi0] at hi
          simp only [List.getElem?_cons_zero, Option.some.injEq] at hi
          subst hi
          exact ⟨by rw [oz]; omega, by rw [qz]; exact st_ones _, by rw [qz]; simp⟩
    · have d1 : decide ((j : Int) < (k : Int)) = false := by rw [dec_lt]; simp; omega
      have hjk : j = k := by omega
      subst hjk
      obtain ⟨sa, sc, hsv⟩ := hsr.1.slice
      simp -implicitDefEqProofs only [go_sem, Nat.reduceEqDiff, Nat.reduceLT, Nat.reduceAdd, Nat.reduceMul, Int.reduceEq, Int.reduceLT, Int.reduceLE, Int.reduceNe, Int.reduceBEq, Int.reduceToNat, ↓reduceIte, f1, f2, f7, f9, f13, f46, f47, d1, hsv]
      rw [← hsv]
      refine AC.loopH (FirJ w0 l bk j false (.slice ad an ac) sv zs) (n := j) ⟨0, _, _, _, _, true, by omega, by simp -implicitDefEqProofs only [go_sem, Nat.reduceEqDiff, Nat.reduceLT, Nat.reduceAdd, Nat.reduceMul, Int.reduceEq, Int.reduceLT, Int.reduceLE, Int.reduceNe, Int.reduceBEq, Int.reduceToNat, ↓reduceIte, f1], by simp -implicitDefEqProofs only [go_sem, Nat.reduceEqDiff, Nat.reduceLT, Nat.reduceAdd, Nat.reduceMul, Int.reduceEq, Int.reduceLT, Int.reduceLE, Int.reduceNe, Int.reduceBEq, Int.reduceToNat, ↓reduceIte, f2], by simp -implicitDefEqProofs only [go_sem, Nat.reduceEqDiff, Nat.reduceLT, Nat.reduceAdd, Nat.reduceMul, Int.reduceEq, Int.reduceLT, Int.reduceLE, Int.reduceNe, Int.reduceBEq, Int.reduceToNat, ↓reduceIte, f7], by simp -implicitDefEqProofs only [go_sem, Nat.reduceEqDiff, Nat.reduceLT, Nat.reduceAdd, Nat.reduceMul, Int.reduceEq, Int.reduceLT, Int.reduceLE, Int.reduceNe, Int.reduceBEq, Int.reduceToNat, ↓reduceIte, f9], by simp -implicitDefEqProofs only [go_sem, Nat.reduceEqDiff, Nat.reduceLT, Nat.reduceAdd, Nat.reduceMul, Int.reduceEq, Int.reduceLT, Int.reduceLE, Int.reduceNe, Int.reduceBEq, Int.reduceToNat, ↓reduceIte, f13, hsv], by simp -implicitDefEqProofs only [go_sem, Nat.reduceEqDiff, Nat.reduceLT, Nat.reduceAdd, Nat.reduceMul, Int.reduceEq, Int.reduceLT, Int.reduceLE, Int.reduceNe, Int.reduceBEq, Int.reduceToNat, ↓reduceIte], by simp -implicitDefEqProofs only [go_sem, Nat.reduceEqDiff, Nat.reduceLT, Nat.reduceAdd, Nat.reduceMul, Int.reduceEq, Int.reduceLT, Int.reduceLE, Int.reduceNe, Int.reduceBEq, Int.reduceToNat, ↓reduceIte, hsv], by simp -implicitDefEqProofs only [go_sem, Nat.reduceEqDiff, Nat.reduceLT, Nat.reduceAdd, Nat.reduceMul, Int.reduceEq, Int.reduceLT, Int.reduceLE, Int.reduceNe, Int.reduceBEq, Int.reduceToNat, ↓reduceIte, hzl], by simp -implicitDefEqProofs only [go_sem, Nat.reduceEqDiff, Nat.reduceLT, Nat.reduceAdd, Nat.reduceMul, Int.reduceEq, Int.reduceLT, Int.reduceLE, Int.reduceNe, Int.reduceBEq, Int.reduceToNat, ↓reduceIte], stC, hsr, hgd _ rfl, by omega⟩ ?_
      clear f1 f2 f7 f9 f13 f46 f47 d1 cj stC hsr hhiA
      rintro m F HA ⟨i, SA, st, ts, last, first, hi, f1, f2, f7, f9, f13, f16, f61, f62, f63, stC, hsr, hinv, hlast⟩ hhiA
      by_cases ci : i < j
      · have d1 : decide ((i : Int) < (j : Int)) = true := by rw [dec_lt]; simp [ci]
        have d2 : IntKind.i64.wrap ((i : Int) + 1) = (i + 1 : Nat) := by rw [i64_in] <;> omega
        have d3 : decide ((0 : Int) ≤ (i : Int)) = true := by simp
        have hzi : zs[i]? = some zs[i] := by simp [hzl, ci]
        generalize zs[i] = z at hzi
        obtain ⟨oz, qz, lz⟩ := hso i z hzi
        have hzm := List.mem_of_getElem? hzi
        obtain ⟨g1, cap1, hv1, hl1, hl1c⟩ := hsr.1.atc w0 rfl (fun z _ => z.cs_len') hzi
        have hl1' : ldCells w0 HA ⟨g1, i * 4, none⟩ 0 4 = some [.int .u64 (z.own : Int), .int .u64 (z.xmin : Int), .int .u64 (z.xmax : Int), z.v] := hl1
        have hll := hinv.len
        simp -implicitDefEqProofs only [go_sem, Nat.reduceEqDiff, Nat.reduceLT, Nat.reduceAdd, Nat.reduceMul, Int.reduceEq, Int.reduceLT, Int.reduceLE, Int.reduceNe, Int.reduceBEq, Int.reduceToNat, ↓reduceIte, f1, f2, f7, f9, f13, f16, f61, f62, f63, d1]
        refine vdraw_t [⟨0, .p, [], []⟩, ⟨1, .p, [], []⟩, ⟨2, .p, [], []⟩, ⟨3, .p, [], []⟩, ⟨4, .p, [], []⟩, ⟨5, .n, [], []⟩, ⟨6, .c, [5], []⟩, ⟨7, .c, [], []⟩, ⟨8, .p, [], []⟩, ⟨9, .p, [], []⟩, ⟨10, .p, [], []⟩, ⟨11, .p, [], []⟩] [0, 0, 0, 0, 12, 28, 0, 127, 255, 511, 511, 2047] mixed (by kernel_rfl) ?_
        have dz : decide ((i : Int) < (zs.length : Int)) = true := by rw [hzl]; exact d1
        simp -implicitDefEqProofs only [go_sem, Nat.reduceEqDiff, Nat.reduceLT, Nat.reduceAdd, Nat.reduceMul, Int.reduceEq, Int.reduceLT, Int.reduceLE, Int.reduceNe, Int.reduceBEq, Int.reduceToNat, ↓reduceIte, f1, f2, f7, f9, f13, f16, f61, f62, f63, hv1, dz, d3, hl1', ldK_agg]
        refine (one_cols w0 HA).mono ?_
        rintro c1 HB ⟨hrc1, hfc1, sB⟩
        have stD := stC.sub sB
        have hsrB := hsr.sub sB
        obtain ⟨g2, cap2, hv2, hl2, _⟩ := hsrB.1.atc w0 rfl (fun z _ => z.cs_len') hzi
        have hl2' : ldCells w0 HB ⟨g2, i * 4, none⟩ 0 4 = some [.int .u64 (z.own : Int), .int .u64 (z.xmin : Int), .int .u64 (z.xmax : Int), z.v] := hl2
        rw [hv1] at hv2
        cases hv2
        simp -implicitDefEqProofs only [go_sem, Nat.reduceEqDiff, Nat.reduceLT, Nat.reduceAdd, Nat.reduceMul, Int.reduceEq, Int.reduceLT, Int.reduceLE, Int.reduceNe, Int.reduceBEq, Int.reduceToNat, ↓reduceIte, f1, f2, f7, f9, f13, f16, f61, f62, f63, hv1, dz, d3, hl2', ldK_agg]
        have hlts : ts.length < 1000000 := by have := (hinv.made rfl).2.2; omega
        refine (ACalls.hi (create_ok stD.2.1 hlts (by simp) (by omega) stD.1 (by omega) (hsrB.2 z hzm) nT (by decide) hrc1)).mono ?_
        rintro rr HC ⟨⟨oC, fC, hC⟩, hhiC⟩
        have hcc := hinv.create oz ci hk9
        rw [hcc] at hC
        have hsrC := hsrB.out oC
        cases first
        · simp only [Bool.false_eq_true, if_false] at hC
          rcases hC with ⟨_, rfl, hbC⟩ | ⟨hC, _⟩
          · have stE := stD.out oC hbC
            have e11 : decide ((11 : Int) = 0) = false := rfl
            have e12 : decide ((11 : Int) = 11) = true := rfl
            have c11 : (((if false = true then 0 else 11 : Nat) : Nat) : Int) = 11 := rfl
            have c11' : ((11 : Nat) : Int) = 11 := rfl
            have bb : (!(false == false)) = false := rfl
            simp -implicitDefEqProofs only [go_sem, Nat.reduceEqDiff, Nat.reduceLT, Nat.reduceAdd, Nat.reduceMul, Int.reduceEq, Int.reduceLT, Int.reduceLE, Int.reduceNe, Int.reduceBEq, Int.reduceToNat, ↓reduceIte, f1, f2, f7, f9, f13, f16, f61, f62, f63, d2, c11, c11', e11, e12, bb]
            exact ⟨m - 1, by omega, i + 1, SA, st, ts, last, false, by omega, by simp -implicitDefEqProofs only [go_sem, Nat.reduceEqDiff, Nat.reduceLT, Nat.reduceAdd, Nat.reduceMul, Int.reduceEq, Int.reduceLT, Int.reduceLE, Int.reduceNe, Int.reduceBEq, Int.reduceToNat, ↓reduceIte, f1], by simp -implicitDefEqProofs only [go_sem, Nat.reduceEqDiff, Nat.reduceLT, Nat.reduceAdd, Nat.reduceMul, Int.reduceEq, Int.reduceLT, Int.reduceLE, Int.reduceNe, Int.reduceBEq, Int.reduceToNat, ↓reduceIte, f2], by simp -implicitDefEqProofs only [go_sem, Nat.reduceEqDiff, Nat.reduceLT, Nat.reduceAdd, Nat.reduceMul, Int.reduceEq, Int.reduceLT, Int.reduceLE, Int.reduceNe, Int.reduceBEq, Int.reduceToNat, ↓reduceIte, f7], by simp -implicitDefEqProofs only [go_sem, Nat.reduceEqDiff, Nat.reduceLT, Nat.reduceAdd, Nat.reduceMul, Int.reduceEq, Int.reduceLT, Int.reduceLE, Int.reduceNe, Int.reduceBEq, Int.reduceToNat, ↓reduceIte, f9], by simp -implicitDefEqProofs only [go_sem, Nat.reduceEqDiff, Nat.reduceLT, Nat.reduceAdd, Nat.reduceMul, Int.reduceEq, Int.reduceLT, Int.reduceLE, Int.reduceNe, Int.reduceBEq, Int.reduceToNat, ↓reduceIte, f13, hv1], by simp -implicitDefEqProofs only [go_sem, Nat.reduceEqDiff, Nat.reduceLT, Nat.reduceAdd, Nat.reduceMul, Int.reduceEq, Int.reduceLT, Int.reduceLE, Int.reduceNe, Int.reduceBEq, Int.reduceToNat, ↓reduceIte, f16], by simp -implicitDefEqProofs only [go_sem, Nat.reduceEqDiff, Nat.reduceLT, Nat.reduceAdd, Nat.reduceMul, Int.reduceEq, Int.reduceLT, Int.reduceLE, Int.reduceNe, Int.reduceBEq, Int.reduceToNat, ↓reduceIte, f61, hv1], by simp -implicitDefEqProofs only [go_sem, Nat.reduceEqDiff, Nat.reduceLT, Nat.reduceAdd, Nat.reduceMul, Int.reduceEq, Int.reduceLT, Int.reduceLE, Int.reduceNe, Int.reduceBEq, Int.reduceToNat, ↓reduceIte, f62], by simp -implicitDefEqProofs only [go_sem, Nat.reduceEqDiff, Nat.reduceLT, Nat.reduceAdd, Nat.reduceMul, Int.reduceEq, Int.reduceLT, Int.reduceLE, Int.reduceNe, Int.reduceBEq, Int.reduceToNat, ↓reduceIte], stE, by first | exact hsrC | (rw [← hv1]; exact hsrC), hinv.fail ci, by omega⟩
          · cases hC
        · simp only [if_true] at hC
          rcases hC with ⟨hC, _⟩ | ⟨_, rfl, t, ht, _, hbC⟩
          · exact absurd rfl hC
          · have stE := stD.out oC hbC
            have hstep : FStep false i ts (ts ++ [t]) := ⟨fun _ => ⟨t, rfl, by rw [ht], by rw [ht]; exact oz, by rw [ht]⟩, fun h => by cases h⟩
            have bb : (!(true == true)) = false := rfl
            have z0' : decide ((0 : Int) = 0) = true := rfl
            have c00 : (((if true = true then 0 else 11 : Nat) : Nat) : Int) = 0 := rfl
            obtain ⟨g4, cap4, hv4, hl4, hl4c⟩ := hsrC.1.atc w0 rfl (fun z _ => z.cs_len') hzi
            rw [hv1] at hv4
            cases hv4
            have hl40 : ld w0 HC ⟨g1, i * 4, none⟩ = some (.int .u64 (z.own : Int)) := hl4c 0 (by omega)
            have dz' : decide ((i : Int) < (zs.length : Int)) = true := by rw [hzl]; exact d1
            by_cases ca : i < an
            · have da : decide ((i : Int) < (an : Int)) = true := by rw [dec_lt]; simp [ca]
              obtain ⟨ab, hadd, bv, hbv⟩ := hab i ca
              have lbv := ld_arg (fun b o hb => hhiC b o hb) hbv
              cases bv
              · simp -implicitDefEqProofs only [go_sem, Nat.reduceEqDiff, Nat.reduceLT, Nat.reduceAdd, Nat.reduceMul, Int.reduceEq, Int.reduceLT, Int.reduceLE, Int.reduceNe, Int.reduceBEq, Int.reduceToNat, ↓reduceIte, f1, f2, f7, f9, f13, f16, f61, f62, f63, d2, bb, z0', c00, da, d3, hadd, lbv]
                exact ⟨m - 1, by omega, i + 1, SA, st, _, _, false, by omega, by simp -implicitDefEqProofs only [go_sem, Nat.reduceEqDiff, Nat.reduceLT, Nat.reduceAdd, Nat.reduceMul, Int.reduceEq, Int.reduceLT, Int.reduceLE, Int.reduceNe, Int.reduceBEq, Int.reduceToNat, ↓reduceIte, f1], by simp -implicitDefEqProofs only [go_sem, Nat.reduceEqDiff, Nat.reduceLT, Nat.reduceAdd, Nat.reduceMul, Int.reduceEq, Int.reduceLT, Int.reduceLE, Int.reduceNe, Int.reduceBEq, Int.reduceToNat, ↓reduceIte, f2, hadd], by simp -implicitDefEqProofs only [go_sem, Nat.reduceEqDiff, Nat.reduceLT, Nat.reduceAdd, Nat.reduceMul, Int.reduceEq, Int.reduceLT, Int.reduceLE, Int.reduceNe, Int.reduceBEq, Int.reduceToNat, ↓reduceIte, f7], by simp -implicitDefEqProofs only [go_sem, Nat.reduceEqDiff, Nat.reduceLT, Nat.reduceAdd, Nat.reduceMul, Int.reduceEq, Int.reduceLT, Int.reduceLE, Int.reduceNe, Int.reduceBEq, Int.reduceToNat, ↓reduceIte, f9], by simp -implicitDefEqProofs only [go_sem, Nat.reduceEqDiff, Nat.reduceLT, Nat.reduceAdd, Nat.reduceMul, Int.reduceEq, Int.reduceLT, Int.reduceLE, Int.reduceNe, Int.reduceBEq, Int.reduceToNat, ↓reduceIte, f13, hv1], by simp -implicitDefEqProofs only [go_sem, Nat.reduceEqDiff, Nat.reduceLT, Nat.reduceAdd, Nat.reduceMul, Int.reduceEq, Int.reduceLT, Int.reduceLE, Int.reduceNe, Int.reduceBEq, Int.reduceToNat, ↓reduceIte], by simp -implicitDefEqProofs only [go_sem, Nat.reduceEqDiff, Nat.reduceLT, Nat.reduceAdd, Nat.reduceMul, Int.reduceEq, Int.reduceLT, Int.reduceLE, Int.reduceNe, Int.reduceBEq, Int.reduceToNat, ↓reduceIte, f61, hv1], by simp -implicitDefEqProofs only [go_sem, Nat.reduceEqDiff, Nat.reduceLT, Nat.reduceAdd, Nat.reduceMul, Int.reduceEq, Int.reduceLT, Int.reduceLE, Int.reduceNe, Int.reduceBEq, Int.reduceToNat, ↓reduceIte, f62], by simp -implicitDefEqProofs only [go_sem, Nat.reduceEqDiff, Nat.reduceLT, Nat.reduceAdd, Nat.reduceMul, Int.reduceEq, Int.reduceLT, Int.reduceLE, Int.reduceNe, Int.reduceBEq, Int.reduceToNat, ↓reduceIte], stE, by first | exact hsrC | (rw [← hv1]; exact hsrC), hinv.win ci hstep, by omega⟩
              · simp -implicitDefEqProofs only [go_sem, Nat.reduceEqDiff, Nat.reduceLT, Nat.reduceAdd, Nat.reduceMul, Int.reduceEq, Int.reduceLT, Int.reduceLE, Int.reduceNe, Int.reduceBEq, Int.reduceToNat, ↓reduceIte, f1, f2, f7, f9, f13, f16, f61, f62, f63, d2, bb, z0', c00, da, d3, hadd, lbv, hv1, dz', hl40]
                refine (abort_log stE.1 (by omega) (x := (z.own : Int)) (by omega)).mono ?_
                rintro rr HD ⟨rfl, hlogD, hfD⟩
                have stF := stE.log hlogD hfD
                have hsrD := hsrC.log stE.1 hfD
                have hlose := hinv.lose ci hstep
                rw [← oz] at hlose
                simp -implicitDefEqProofs only [go_sem, Nat.reduceEqDiff, Nat.reduceLT, Nat.reduceAdd, Nat.reduceMul, Int.reduceEq, Int.reduceLT, Int.reduceLE, Int.reduceNe, Int.reduceBEq, Int.reduceToNat, ↓reduceIte, f1, f2, f7, f9, f13, f16, f61, f62, f63, d2]
                exact ⟨m - 1, by omega, i + 1, SA, _, _, _, true, by omega, by simp -implicitDefEqProofs only [go_sem, Nat.reduceEqDiff, Nat.reduceLT, Nat.reduceAdd, Nat.reduceMul, Int.reduceEq, Int.reduceLT, Int.reduceLE, Int.reduceNe, Int.reduceBEq, Int.reduceToNat, ↓reduceIte, f1], by simp -implicitDefEqProofs only [go_sem, Nat.reduceEqDiff, Nat.reduceLT, Nat.reduceAdd, Nat.reduceMul, Int.reduceEq, Int.reduceLT, Int.reduceLE, Int.reduceNe, Int.reduceBEq, Int.reduceToNat, ↓reduceIte, f2, hadd], by simp -implicitDefEqProofs only [go_sem, Nat.reduceEqDiff, Nat.reduceLT, Nat.reduceAdd, Nat.reduceMul, Int.reduceEq, Int.reduceLT, Int.reduceLE, Int.reduceNe, Int.reduceBEq, Int.reduceToNat, ↓reduceIte, f7], by simp -implicitDefEqProofs only [go_sem, Nat.reduceEqDiff, Nat.reduceLT, Nat.reduceAdd, Nat.reduceMul, Int.reduceEq, Int.reduceLT, Int.reduceLE, Int.reduceNe, Int.reduceBEq, Int.reduceToNat, ↓reduceIte, f9], by simp -implicitDefEqProofs only [go_sem, Nat.reduceEqDiff, Nat.reduceLT, Nat.reduceAdd, Nat.reduceMul, Int.reduceEq, Int.reduceLT, Int.reduceLE, Int.reduceNe, Int.reduceBEq, Int.reduceToNat, ↓reduceIte, f13, hv1], by simp -implicitDefEqProofs only [go_sem, Nat.reduceEqDiff, Nat.reduceLT, Nat.reduceAdd, Nat.reduceMul, Int.reduceEq, Int.reduceLT, Int.reduceLE, Int.reduceNe, Int.reduceBEq, Int.reduceToNat, ↓reduceIte], by simp -implicitDefEqProofs only [go_sem, Nat.reduceEqDiff, Nat.reduceLT, Nat.reduceAdd, Nat.reduceMul, Int.reduceEq, Int.reduceLT, Int.reduceLE, Int.reduceNe, Int.reduceBEq, Int.reduceToNat, ↓reduceIte, f61, hv1], by simp -implicitDefEqProofs only [go_sem, Nat.reduceEqDiff, Nat.reduceLT, Nat.reduceAdd, Nat.reduceMul, Int.reduceEq, Int.reduceLT, Int.reduceLE, Int.reduceNe, Int.reduceBEq, Int.reduceToNat, ↓reduceIte, f62], by simp -implicitDefEqProofs only [go_sem, Nat.reduceEqDiff, Nat.reduceLT, Nat.reduceAdd, Nat.reduceMul, Int.reduceEq, Int.reduceLT, Int.reduceLE, Int.reduceNe, Int.reduceBEq, Int.reduceToNat, ↓reduceIte], stF, by first | exact hsrD | (rw [← hv1]; exact hsrD), hlose, by omega⟩
            · have da : decide ((i : Int) < (an : Int)) = false := by rw [dec_lt]; simp; omega
              simp -implicitDefEqProofs only [go_sem, Nat.reduceEqDiff, Nat.reduceLT, Nat.reduceAdd, Nat.reduceMul, Int.reduceEq, Int.reduceLT, Int.reduceLE, Int.reduceNe, Int.reduceBEq, Int.reduceToNat, ↓reduceIte, f1, f2, f7, f9, f13, f16, f61, f62, f63, d2, bb, z0', c00, da]
              exact ⟨m - 1, by omega, i + 1, SA, st, _, _, false, by omega, by simp -implicitDefEqProofs only [go_sem, Nat.reduceEqDiff, Nat.reduceLT, Nat.reduceAdd, Nat.reduceMul, Int.reduceEq, Int.reduceLT, Int.reduceLE, Int.reduceNe, Int.reduceBEq, Int.reduceToNat, ↓reduceIte, f1], by simp -implicitDefEqProofs only [go_sem, Nat.reduceEqDiff, Nat.reduceLT, Nat.reduceAdd, Nat.reduceMul, Int.reduceEq, Int.reduceLT, Int.reduceLE, Int.reduceNe, Int.reduceBEq, Int.reduceToNat, ↓reduceIte, f2], by simp -implicitDefEqProofs only [go_sem, Nat.reduceEqDiff, Nat.reduceLT, Nat.reduceAdd, Nat.reduceMul, Int.reduceEq, Int.reduceLT, Int.reduceLE, Int.reduceNe, Int.reduceBEq, Int.reduceToNat, ↓reduceIte, f7], by simp -implicitDefEqProofs only [go_sem, Nat.reduceEqDiff, Nat.reduceLT, Nat.reduceAdd, Nat.reduceMul, Int.reduceEq, Int.reduceLT, Int.reduceLE, Int.reduceNe, Int.reduceBEq, Int.reduceToNat, ↓reduceIte, f9], by simp -implicitDefEqProofs only [go_sem, Nat.reduceEqDiff, Nat.reduceLT, Nat.reduceAdd, Nat.reduceMul, Int.reduceEq, Int.reduceLT, Int.reduceLE, Int.reduceNe, Int.reduceBEq, Int.reduceToNat, ↓reduceIte, f13, hv1], by simp -implicitDefEqProofs only [go_sem, Nat.reduceEqDiff, Nat.reduceLT, Nat.reduceAdd, Nat.reduceMul, Int.reduceEq, Int.reduceLT, Int.reduceLE, Int.reduceNe, Int.reduceBEq, Int.reduceToNat, ↓reduceIte], by simp -implicitDefEqProofs only [go_sem, Nat.reduceEqDiff, Nat.reduceLT, Nat.reduceAdd, Nat.reduceMul, Int.reduceEq, Int.reduceLT, Int.reduceLE, Int.reduceNe, Int.reduceBEq, Int.reduceToNat, ↓reduceIte, f61, hv1], by simp -implicitDefEqProofs only [go_sem, Nat.reduceEqDiff, Nat.reduceLT, Nat.reduceAdd, Nat.reduceMul, Int.reduceEq, Int.reduceLT, Int.reduceLE, Int.reduceNe, Int.reduceBEq, Int.reduceToNat, ↓reduceIte, f62], by simp -implicitDefEqProofs only [go_sem, Nat.reduceEqDiff, Nat.reduceLT, Nat.reduceAdd, Nat.reduceMul, Int.reduceEq, Int.reduceLT, Int.reduceLE, Int.reduceNe, Int.reduceBEq, Int.reduceToNat, ↓reduceIte], stE, by first | exact hsrC | (rw [← hv1]; exact hsrC), hinv.win ci hstep, by omega⟩
      · have d1 : decide ((i : Int) < (j : Int)) = false := by rw [dec_lt]; simp; omega
        simp -implicitDefEqProofs only [go_sem, Nat.reduceEqDiff, Nat.reduceLT, Nat.reduceAdd, Nat.reduceMul, Int.reduceEq, Int.reduceLT, Int.reduceLE, Int.reduceNe, Int.reduceBEq, Int.reduceToNat, ↓reduceIte, f1, f2, f7, f9, f13, f16, f61, f62, f63, d1]
  · simp -implicitDefEqProofs only [go_sem, Nat.reduceEqDiff, Nat.reduceLT, Nat.reduceAdd, Nat.reduceMul, Int.reduceEq, Int.reduceLT, Int.reduceLE, Int.reduceNe, Int.reduceBEq, Int.reduceToNat, ↓reduceIte]
    refine (take_shot stA.1 (by omega) 1).mono ?_
    rintro r H5 ⟨z0, o0, q0, rfl, hz0, _, s5⟩
    have stA5 := stA.sub s5
    simp -implicitDefEqProofs only [go_sem, Nat.reduceEqDiff, Nat.reduceLT, Nat.reduceAdd, Nat.reduceMul, Int.reduceEq, Int.reduceLT, Int.reduceLE, Int.reduceNe, Int.reduceBEq, Int.reduceToNat, ↓reduceIte]
    refine (one_cols w0 H5).mono ?_
    rintro c1 H6 ⟨hrc1, hfc1, s6⟩
    have stA6 := stA5.sub s6
    simp -implicitDefEqProofs only [go_sem, Nat.reduceEqDiff, Nat.reduceLT, Nat.reduceAdd, Nat.reduceMul, Int.reduceEq, Int.reduceLT, Int.reduceLE, Int.reduceNe, Int.reduceBEq, Int.reduceToNat, ↓reduceIte]
    refine (create_ok stA6.2.1 (by simp) (by simp) (by omega) stA6.1 (by omega) (hz0.sub s6) ⟨#[116]⟩ (by decide) hrc1).mono ?_
    rintro r H7 ⟨oC, fC, hC⟩
    have cC : createC st3l z0 [] [] ⟨#[116]⟩ = 0 := by obtain ⟨u1, u2, u3, u4⟩ := z0; subst o0 q0 e3; kernel_rfl
    rcases hC with ⟨hC, _⟩ | ⟨_, rfl, t1, ht1, _, hbookC⟩
    · exact absurd cC hC
    have hbookC : BookAt H7 bk [t1] [] 1 := hbookC
    have stA7 := stA6.out oC hbookC
    simp -implicitDefEqProofs only [go_sem, Nat.reduceEqDiff, Nat.reduceLT, Nat.reduceAdd, Nat.reduceMul, Int.reduceEq, Int.reduceLT, Int.reduceLE, Int.reduceNe, Int.reduceBEq, Int.reduceToNat, ↓reduceIte]
    refine (commit_log stA7.1 (by omega) (x := 1) (by omega)).mono ?_
    rintro r H4 ⟨rfl, hlog4, hf4⟩
    have e4 : endSts 1 st3l 1 2 = 2 :: List.replicate 0 1 := by rw [e3]; decide +kernel
    rw [e4] at hlog4
    have stB := stA7.log hlog4 hf4
    have hgd : ∀ st : List Nat, st = 2 :: List.replicate k 1 → FInv true true 0 k st [t1] := fun st e => by
      rw [e]
      exact ⟨by simp; omega, st_ones k, fun j _ hj => st_rep hj, fun j hj => (by omega), fun h => (by cases h), fun _ => ⟨t1, rfl, by rw [ht1], by rw [ht1]; exact o0, .inl ⟨by rw [ht1], rfl⟩⟩⟩
    simp -implicitDefEqProofs only [go_sem, Nat.reduceEqDiff, Nat.reduceLT, Nat.reduceAdd, Nat.reduceMul, Int.reduceEq, Int.reduceLT, Int.reduceLE, Int.reduceNe, Int.reduceBEq, Int.reduceToNat, ↓reduceIte, nm, nw, kw]
    refine AC.loopH (FirI w0 l bk k true (.slice ad an ac) [t1] 1) (n := k) ⟨0, _, .slice none 0 0, [], by omega, by simp -implicitDefEqProofs only [go_sem, Nat.reduceEqDiff, Nat.reduceLT, Nat.reduceAdd, Nat.reduceMul, Int.reduceEq, Int.reduceLT, Int.reduceLE, Int.reduceNe, Int.reduceBEq, Int.reduceToNat, ↓reduceIte], by simp -implicitDefEqProofs only [go_sem, Nat.reduceEqDiff, Nat.reduceLT, Nat.reduceAdd, Nat.reduceMul, Int.reduceEq, Int.reduceLT, Int.reduceLE, Int.reduceNe, Int.reduceBEq, Int.reduceToNat, ↓reduceIte], by simp -implicitDefEqProofs only [go_sem, Nat.reduceEqDiff, Nat.reduceLT, Nat.reduceAdd, Nat.reduceMul, Int.reduceEq, Int.reduceLT, Int.reduceLE, Int.reduceNe, Int.reduceBEq, Int.reduceToNat, ↓reduceIte], by simp -implicitDefEqProofs only [go_sem, Nat.reduceEqDiff, Nat.reduceLT, Nat.reduceAdd, Nat.reduceMul, Int.reduceEq, Int.reduceLT, Int.reduceLE, Int.reduceNe, Int.reduceBEq, Int.reduceToNat, ↓reduceIte], by simp -implicitDefEqProofs only [go_sem, Nat.reduceEqDiff, Nat.reduceLT, Nat.reduceAdd, Nat.reduceMul, Int.reduceEq, Int.reduceLT, Int.reduceLE, Int.reduceNe, Int.reduceBEq, Int.reduceToNat, ↓reduceIte], by simp -implicitDefEqProofs only [go_sem, Nat.reduceEqDiff, Nat.reduceLT, Nat.reduceAdd, Nat.reduceMul, Int.reduceEq, Int.reduceLT, Int.reduceLE, Int.reduceNe, Int.reduceBEq, Int.reduceToNat, ↓reduceIte], by simp -implicitDefEqProofs only [go_sem, Nat.reduceEqDiff, Nat.reduceLT, Nat.reduceAdd, Nat.reduceMul, Int.reduceEq, Int.reduceLT, Int.reduceLE, Int.reduceNe, Int.reduceBEq, Int.reduceToNat, ↓reduceIte], stB, ⟨⟨by simp, .inl ⟨rfl, rfl⟩⟩, by simp⟩, rfl, fun i z h => by simp at h⟩ ?_
    rintro m F HA ⟨j, SA, sv, zs, hj, f1, f2, f7, f9, f13, f46, f47, stC, hsr, hzl, hso⟩ hhiA
    by_cases cj : j < k
    · have d1 : decide ((j : Int) < (k : Int)) = true := by rw [dec_lt]; simp [cj]
      have d2 : IntKind.i64.wrap ((j : Int) + 1) = (j + 1 : Nat) := by rw [i64_in] <;> omega
      simp -implicitDefEqProofs only [go_sem, Nat.reduceEqDiff, Nat.reduceLT, Nat.reduceAdd, Nat.reduceMul, Int.reduceEq, Int.reduceLT, Int.reduceLE, Int.reduceNe, Int.reduceBEq, Int.reduceToNat, ↓reduceIte, f1, f2, f7, f9, f13, f46, f47, d1]
      refine (begin_log stC.1 (by simp; omega)).mono ?_
      rintro rr HB ⟨rfl, SB, hlogB, _, hfB⟩
      have hsrB := hsr.log stC.1 hfB
      have eL : (2 :: List.replicate j 1 : List Nat) ++ [1] = 2 :: List.replicate (j + 1) 1 := by rw [List.replicate_succ']; rfl
      rw [eL] at hlogB
      have stD := stC.log hlogB hfB
      have q2 : ((1 + (2 :: List.replicate j 1 : List Nat).length : Nat) : Int) = ((2 + j : Nat) : Int) := by simp; omega
      rw [q2]
      simp -implicitDefEqProofs only [go_sem, Nat.reduceEqDiff, Nat.reduceLT, Nat.reduceAdd, Nat.reduceMul, Int.reduceEq, Int.reduceLT, Int.reduceLE, Int.reduceNe, Int.reduceBEq, Int.reduceToNat, ↓reduceIte, f1, f2, f7, f9, f13, f46, f47]
      refine (take_shot stD.1 (by simp; omega) (2 + j)).mono ?_
      rintro rr HC ⟨z, oz, qz, rfl, hz, _, sC⟩
      have stE := stD.sub sC
      have hsrC := hsrB.sub sC
      have hc1 := hz.cell
      have bs1 : bsCells Try.prog 34 1 #[(0, .agg #[.int .u64 (z.own : Int), .int .u64 (z.xmin : Int), .int .u64 (z.xmax : Int), z.v])] = some #[.int .u64 (z.own : Int), .int .u64 (z.xmin : Int), .int .u64 (z.xmax : Int), z.v] := by kernel_rfl
      simp -implicitDefEqProofs only [go_sem, Nat.reduceEqDiff, Nat.reduceLT, Nat.reduceAdd, Nat.reduceMul, Int.reduceEq, Int.reduceLT, Int.reduceLE, Int.reduceNe, Int.reduceBEq, Int.reduceToNat, ↓reduceIte, f1, f2, f7, f9, f13, f46, f47, bs1]
      refine newK_of ?_
      intro nb HD hnb hnn h4 s4 g4
      simp -implicitDefEqProofs only [go_sem, Nat.reduceEqDiff, Nat.reduceLT, Nat.reduceAdd, Nat.reduceMul, Int.reduceEq, Int.reduceLT, Int.reduceLE, Int.reduceNe, Int.reduceBEq, Int.reduceToNat, ↓reduceIte, f1, f2, f7, f9, f13, f46, f47]
      refine aop_append_lit (t := 58) (x := .tmp 54) (y := .tmp 58) (c := 1) Try.underlying58 s34 b34 z34 rfl (v := sv) (by simp -implicitDefEqProofs only [go_sem, Nat.reduceEqDiff, Nat.reduceLT, Nat.reduceAdd, Nat.reduceMul, Int.reduceEq, Int.reduceLT, Int.reduceLE, Int.reduceNe, Int.reduceBEq, Int.reduceToNat, ↓reduceIte, f13]) ((hsrC.sub s4).1) h4 (by simp -implicitDefEqProofs only [go_sem, Nat.reduceEqDiff, Nat.reduceLT, Nat.reduceAdd, Nat.reduceMul, Int.reduceEq, Int.reduceLT, Int.reduceLE, Int.reduceNe, Int.reduceBEq, Int.reduceToNat, ↓reduceIte]) rfl (by simp [cell1_int, hc1]) (by omega) (by omega) (by omega) ?_
      intro g HE hg hHE cap hrowE
      have kE : ∀ b o, tyAt HC b ≠ some 34 → HC b = some o → HE b = some o := by
        intro b o ht ho
        have : b ≠ g := by
          rintro rfl
          rcases hg with e | ⟨e, _⟩
          · exact ht (Row.tyAt hsrC.1 e.symm)
          · rw [s4 _ _ ho] at e; cases e
        rw [hHE b this]; exact s4 b o ho
      have kS : ∀ z', ShotAt HC z' → ShotAt HE z' := fun z' hz' => ⟨hz'.1.keep fun b o hb ho => kE b o (by rw [Row.tyAt hz'.1 hb]; decide) ho, hz'.2⟩
      have stF : St HE l SB (2 :: List.replicate (j + 1) 1) bk _ [] _ [] := ⟨stE.1.keep fun b o hb ho => kE b o (by rcases stE.1.ty hb with e | e <;> rw [e] <;> decide) ho, stE.2.1.keep fun b o ht ho => kE b o (fun e => by rw [e] at ht; cases ht) ho, fun p hp => by cases hp⟩
      simp -implicitDefEqProofs only [go_sem, Nat.reduceEqDiff, Nat.reduceLT, Nat.reduceAdd, Nat.reduceMul, Int.reduceEq, Int.reduceLT, Int.reduceLE, Int.reduceNe, Int.reduceBEq, Int.reduceToNat, ↓reduceIte, f1, f2, f7, f9, f13, f46, f47, d2]
      refine ⟨m - 1, by omega, j + 1, SB, .slice (some ⟨g, 0, none⟩) (zs.length + 1) cap, zs ++ [z], by omega, by simp -implicitDefEqProofs only [go_sem, Nat.reduceEqDiff, Nat.reduceLT, Nat.reduceAdd, Nat.reduceMul, Int.reduceEq, Int.reduceLT, Int.reduceLE, Int.reduceNe, Int.reduceBEq, Int.reduceToNat, ↓reduceIte, f1], by simp -implicitDefEqProofs only [go_sem, Nat.reduceEqDiff, Nat.reduceLT, Nat.reduceAdd, Nat.reduceMul, Int.reduceEq, Int.reduceLT, Int.reduceLE, Int.reduceNe, Int.reduceBEq, Int.reduceToNat, ↓reduceIte, f2], by simp -implicitDefEqProofs only [go_sem, Nat.reduceEqDiff, Nat.reduceLT, Nat.reduceAdd, Nat.reduceMul, Int.reduceEq, Int.reduceLT, Int.reduceLE, Int.reduceNe, Int.reduceBEq, Int.reduceToNat, ↓reduceIte, f7], by simp -implicitDefEqProofs only [go_sem, Nat.reduceEqDiff, Nat.reduceLT, Nat.reduceAdd, Nat.reduceMul, Int.reduceEq, Int.reduceLT, Int.reduceLE, Int.reduceNe, Int.reduceBEq, Int.reduceToNat, ↓reduceIte, f9], by simp -implicitDefEqProofs only [go_sem, Nat.reduceEqDiff, Nat.reduceLT, Nat.reduceAdd, Nat.reduceMul, Int.reduceEq, Int.reduceLT, Int.reduceLE, Int.reduceNe, Int.reduceBEq, Int.reduceToNat, ↓reduceIte], by simp -implicitDefEqProofs only [go_sem, Nat.reduceEqDiff, Nat.reduceLT, Nat.reduceAdd, Nat.reduceMul, Int.reduceEq, Int.reduceLT, Int.reduceLE, Int.reduceNe, Int.reduceBEq, Int.reduceToNat, ↓reduceIte, f46], by simp -implicitDefEqProofs only [go_sem, Nat.reduceEqDiff, Nat.reduceLT, Nat.reduceAdd, Nat.reduceMul, Int.reduceEq, Int.reduceLT, Int.reduceLE, Int.reduceNe, Int.reduceBEq, Int.reduceToNat, ↓reduceIte], stF, ⟨?_, fun z' hz' => ?_⟩, by simp [hzl], fun i z' hi => ?_⟩
      · rw [List.length_append, List.length_singleton, List.flatMap_append, List.flatMap_cons, List.flatMap_nil, List.append_nil]
        exact hrowE
      · simp only [List.mem_append, List.mem_singleton] at hz'
        rcases hz' with hz' | rfl
        · exact kS z' (hsrC.2 z' hz')
        · exact kS z' hz
      · by_cases ei : i < zs.length
        · rw [List.getElem?_append_left ei] at hi; exact hso i z' hi
        · rw [List.getElem?_append_right (by omega)] at hi
          have hi0 : i - zs.length = 0 := by
            rcases Nat.eq_zero_or_pos (i - zs.length) with e | e
            · exact e
            · rw [List.getElem?_eq_none (by simp; omega)] at hi; cases hi
          rw [hi0] at hi
          simp only [List.getElem?_cons_zero, Option.some.injEq] at hi
          subst hi
          exact ⟨by rw [oz]; omega, by rw [qz]; exact st_ones _, by rw [qz]; simp⟩
    · have d1 : decide ((j : Int) < (k : Int)) = false := by rw [dec_lt]; simp; omega
      have hjk : j = k := by omega
      subst hjk
      obtain ⟨sa, sc, hsv⟩ := hsr.1.slice
      simp -implicitDefEqProofs only [go_sem, Nat.reduceEqDiff, Nat.reduceLT, Nat.reduceAdd, Nat.reduceMul, Int.reduceEq, Int.reduceLT, Int.reduceLE, Int.reduceNe, Int.reduceBEq, Int.reduceToNat, ↓reduceIte, f1, f2, f7, f9, f13, f46, f47, d1, hsv]
      rw [← hsv]
      refine AC.loopH (FirJ w0 l bk j true (.slice ad an ac) sv zs) (n := j) ⟨0, _, _, _, _, true, by omega, by simp -implicitDefEqProofs only [go_sem, Nat.reduceEqDiff, Nat.reduceLT, Nat.reduceAdd, Nat.reduceMul, Int.reduceEq, Int.reduceLT, Int.reduceLE, Int.reduceNe, Int.reduceBEq, Int.reduceToNat, ↓reduceIte, f1], by simp -implicitDefEqProofs only [go_sem, Nat.reduceEqDiff, Nat.reduceLT, Nat.reduceAdd, Nat.reduceMul, Int.reduceEq, Int.reduceLT, Int.reduceLE, Int.reduceNe, Int.reduceBEq, Int.reduceToNat, ↓reduceIte, f2], by simp -implicitDefEqProofs only [go_sem, Nat.reduceEqDiff, Nat.reduceLT, Nat.reduceAdd, Nat.reduceMul, Int.reduceEq, Int.reduceLT, Int.reduceLE, Int.reduceNe, Int.reduceBEq, Int.reduceToNat, ↓reduceIte, f7], by simp -implicitDefEqProofs only [go_sem, Nat.reduceEqDiff, Nat.reduceLT, Nat.reduceAdd, Nat.reduceMul, Int.reduceEq, Int.reduceLT, Int.reduceLE, Int.reduceNe, Int.reduceBEq, Int.reduceToNat, ↓reduceIte, f9], by simp -implicitDefEqProofs only [go_sem, Nat.reduceEqDiff, Nat.reduceLT, Nat.reduceAdd, Nat.reduceMul, Int.reduceEq, Int.reduceLT, Int.reduceLE, Int.reduceNe, Int.reduceBEq, Int.reduceToNat, ↓reduceIte, f13, hsv], by simp -implicitDefEqProofs only [go_sem, Nat.reduceEqDiff, Nat.reduceLT, Nat.reduceAdd, Nat.reduceMul, Int.reduceEq, Int.reduceLT, Int.reduceLE, Int.reduceNe, Int.reduceBEq, Int.reduceToNat, ↓reduceIte], by simp -implicitDefEqProofs only [go_sem, Nat.reduceEqDiff, Nat.reduceLT, Nat.reduceAdd, Nat.reduceMul, Int.reduceEq, Int.reduceLT, Int.reduceLE, Int.reduceNe, Int.reduceBEq, Int.reduceToNat, ↓reduceIte, hsv], by simp -implicitDefEqProofs only [go_sem, Nat.reduceEqDiff, Nat.reduceLT, Nat.reduceAdd, Nat.reduceMul, Int.reduceEq, Int.reduceLT, Int.reduceLE, Int.reduceNe, Int.reduceBEq, Int.reduceToNat, ↓reduceIte, hzl], by simp -implicitDefEqProofs only [go_sem, Nat.reduceEqDiff, Nat.reduceLT, Nat.reduceAdd, Nat.reduceMul, Int.reduceEq, Int.reduceLT, Int.reduceLE, Int.reduceNe, Int.reduceBEq, Int.reduceToNat, ↓reduceIte], stC, hsr, hgd _ rfl, by omega⟩ ?_
      clear f1 f2 f7 f9 f13 f46 f47 d1 cj stC hsr hhiA
      rintro m F HA ⟨i, SA, st, ts, last, first, hi, f1, f2, f7, f9, f13, f16, f61, f62, f63, stC, hsr, hinv, hlast⟩ hhiA
      by_cases ci : i < j
      · have d1 : decide ((i : Int) < (j : Int)) = true := by rw [dec_lt]; simp [ci]
        have d2 : IntKind.i64.wrap ((i : Int) + 1) = (i + 1 : Nat) := by rw [i64_in] <;> omega
        have d3 : decide ((0 : Int) ≤ (i : Int)) = true := by simp
        have hzi : zs[i]? = some zs[i] := by simp [hzl, ci]
        generalize zs[i] = z at hzi
        obtain ⟨oz, qz, lz⟩ := hso i z hzi
        have hzm := List.mem_of_getElem? hzi
        obtain ⟨g1, cap1, hv1, hl1, hl1c⟩ := hsr.1.atc w0 rfl (fun z _ => z.cs_len') hzi
        have hl1' : ldCells w0 HA ⟨g1, i * 4, none⟩ 0 4 = some [.int .u64 (z.own : Int), .int .u64 (z.xmin : Int), .int .u64 (z.xmax : Int), z.v] := hl1
        have hll := hinv.len
        have dz : decide ((i : Int) < (zs.length : Int)) = true := by rw [hzl]; exact d1
        simp -implicitDefEqProofs only [go_sem, Nat.reduceEqDiff, Nat.reduceLT, Nat.reduceAdd, Nat.reduceMul, Int.reduceEq, Int.reduceLT, Int.reduceLE, Int.reduceNe, Int.reduceBEq, Int.reduceToNat, ↓reduceIte, f1, f2, f7, f9, f13, f16, f61, f62, f63, d1, hv1, dz, d3, hl1', ldK_agg]
        obtain ⟨t, hts, hft, hdc⟩ := hinv.drop oz qz lz ci
        refine (ACalls.hi (dropT_ok stC.2.1 (by rw [hts]; simp) (by simp) stC.1 (by omega) (hsr.2 z hzm) nT)).mono ?_
        rintro rr HC ⟨⟨oC, id, rfl, hC⟩, hhiC⟩
        rw [hdc] at hC ⊢
        have hsrC := hsr.out oC
        cases first
        · simp only [Bool.false_eq_true, if_false] at hC
          rcases hC with ⟨_, hbC⟩ | ⟨hC, _⟩
          · have stE := stC.out oC hbC
            have e11 : decide ((11 : Int) = 0) = false := rfl
            have e12 : decide ((11 : Int) = 11) = true := rfl
            have c11 : (((if false = true then 0 else 11 : Nat) : Nat) : Int) = 11 := rfl
            have c11' : ((11 : Nat) : Int) = 11 := rfl
            have bb : (!(false == false)) = false := rfl
            simp -implicitDefEqProofs only [go_sem, Nat.reduceEqDiff, Nat.reduceLT, Nat.reduceAdd, Nat.reduceMul, Int.reduceEq, Int.reduceLT, Int.reduceLE, Int.reduceNe, Int.reduceBEq, Int.reduceToNat, ↓reduceIte, f1, f2, f7, f9, f13, f16, f61, f62, f63, d2, c11, c11', e11, e12, bb]
            exact ⟨m - 1, by omega, i + 1, SA, st, ts, last, false, by omega, by simp -implicitDefEqProofs only [go_sem, Nat.reduceEqDiff, Nat.reduceLT, Nat.reduceAdd, Nat.reduceMul, Int.reduceEq, Int.reduceLT, Int.reduceLE, Int.reduceNe, Int.reduceBEq, Int.reduceToNat, ↓reduceIte, f1], by simp -implicitDefEqProofs only [go_sem, Nat.reduceEqDiff, Nat.reduceLT, Nat.reduceAdd, Nat.reduceMul, Int.reduceEq, Int.reduceLT, Int.reduceLE, Int.reduceNe, Int.reduceBEq, Int.reduceToNat, ↓reduceIte, f2], by simp -implicitDefEqProofs only [go_sem, Nat.reduceEqDiff, Nat.reduceLT, Nat.reduceAdd, Nat.reduceMul, Int.reduceEq, Int.reduceLT, Int.reduceLE, Int.reduceNe, Int.reduceBEq, Int.reduceToNat, ↓reduceIte, f7], by simp -implicitDefEqProofs only [go_sem, Nat.reduceEqDiff, Nat.reduceLT, Nat.reduceAdd, Nat.reduceMul, Int.reduceEq, Int.reduceLT, Int.reduceLE, Int.reduceNe, Int.reduceBEq, Int.reduceToNat, ↓reduceIte, f9], by simp -implicitDefEqProofs only [go_sem, Nat.reduceEqDiff, Nat.reduceLT, Nat.reduceAdd, Nat.reduceMul, Int.reduceEq, Int.reduceLT, Int.reduceLE, Int.reduceNe, Int.reduceBEq, Int.reduceToNat, ↓reduceIte, f13, hv1], by simp -implicitDefEqProofs only [go_sem, Nat.reduceEqDiff, Nat.reduceLT, Nat.reduceAdd, Nat.reduceMul, Int.reduceEq, Int.reduceLT, Int.reduceLE, Int.reduceNe, Int.reduceBEq, Int.reduceToNat, ↓reduceIte, f16], by simp -implicitDefEqProofs only [go_sem, Nat.reduceEqDiff, Nat.reduceLT, Nat.reduceAdd, Nat.reduceMul, Int.reduceEq, Int.reduceLT, Int.reduceLE, Int.reduceNe, Int.reduceBEq, Int.reduceToNat, ↓reduceIte, f61, hv1], by simp -implicitDefEqProofs only [go_sem, Nat.reduceEqDiff, Nat.reduceLT, Nat.reduceAdd, Nat.reduceMul, Int.reduceEq, Int.reduceLT, Int.reduceLE, Int.reduceNe, Int.reduceBEq, Int.reduceToNat, ↓reduceIte, f62], by simp -implicitDefEqProofs only [go_sem, Nat.reduceEqDiff, Nat.reduceLT, Nat.reduceAdd, Nat.reduceMul, Int.reduceEq, Int.reduceLT, Int.reduceLE, Int.reduceNe, Int.reduceBEq, Int.reduceToNat, ↓reduceIte], stE, by first | exact hsrC | (rw [← hv1]; exact hsrC), hinv.fail ci, by omega⟩
          · cases hC
        · simp only [if_true] at hC
          rcases hC with ⟨hC, _⟩ | ⟨_, t', bs, hft', hbs, hbC⟩
          · exact absurd rfl hC
          · have stE : St HC l SA st bk (ts.map (mkT bs z.own)) [] last [] := stC.out oC hbC
            rw [hft] at hft'
            obtain rfl := Option.some.inj hft'
            have hmk : mkT bs z.own t = ⟨⟨t.e.id, t.e.name, t.e.xmin, z.own⟩, t.b, t.cv⟩ := by
              unfold mkT; rw [if_pos (by rw [hbs]; simp [esT])]
            have hstep : FStep true i ts (ts.map (mkT bs z.own)) := ⟨fun h => (by cases h), fun _ => ⟨t, mkT bs z.own t, hts, by rw [hts]; rfl, by rw [hmk], by rw [hmk], by rw [hmk]; exact oz⟩⟩
            have bb : (!(true == true)) = false := rfl
            have z0' : decide ((0 : Int) = 0) = true := rfl
            have c00 : (((if true = true then 0 else 11 : Nat) : Nat) : Int) = 0 := rfl
            obtain ⟨g4, cap4, hv4, hl4, hl4c⟩ := hsrC.1.atc w0 rfl (fun z _ => z.cs_len') hzi
            rw [hv1] at hv4
            cases hv4
            have hl40 : ld w0 HC ⟨g1, i * 4, none⟩ = some (.int .u64 (z.own : Int)) := hl4c 0 (by omega)
            have dz' : decide ((i : Int) < (zs.length : Int)) = true := by rw [hzl]; exact d1
            by_cases ca : i < an
            · have da : decide ((i : Int) < (an : Int)) = true := by rw [dec_lt]; simp [ca]
              obtain ⟨ab, hadd, bv, hbv⟩ := hab i ca
              have lbv := ld_arg (fun b o hb => hhiC b o hb) hbv
              cases bv
              · simp -implicitDefEqProofs only [go_sem, Nat.reduceEqDiff, Nat.reduceLT, Nat.reduceAdd, Nat.reduceMul, Int.reduceEq, Int.reduceLT, Int.reduceLE, Int.reduceNe, Int.reduceBEq, Int.reduceToNat, ↓reduceIte, f1, f2, f7, f9, f13, f16, f61, f62, f63, d2, bb, z0', c00, da, d3, hadd, lbv]
                exact ⟨m - 1, by omega, i + 1, SA, st, _, _, false, by omega, by simp -implicitDefEqProofs only [go_sem, Nat.reduceEqDiff, Nat.reduceLT, Nat.reduceAdd, Nat.reduceMul, Int.reduceEq, Int.reduceLT, Int.reduceLE, Int.reduceNe, Int.reduceBEq, Int.reduceToNat, ↓reduceIte, f1], by simp -implicitDefEqProofs only [go_sem, Nat.reduceEqDiff, Nat.reduceLT, Nat.reduceAdd, Nat.reduceMul, Int.reduceEq, Int.reduceLT, Int.reduceLE, Int.reduceNe, Int.reduceBEq, Int.reduceToNat, ↓reduceIte, f2, hadd], by simp -implicitDefEqProofs only [go_sem, Nat.reduceEqDiff, Nat.reduceLT, Nat.reduceAdd, Nat.reduceMul, Int.reduceEq, Int.reduceLT, Int.reduceLE, Int.reduceNe, Int.reduceBEq, Int.reduceToNat, ↓reduceIte, f7], by simp -implicitDefEqProofs only [go_sem, Nat.reduceEqDiff, Nat.reduceLT, Nat.reduceAdd, Nat.reduceMul, Int.reduceEq, Int.reduceLT, Int.reduceLE, Int.reduceNe, Int.reduceBEq, Int.reduceToNat, ↓reduceIte, f9], by simp -implicitDefEqProofs only [go_sem, Nat.reduceEqDiff, Nat.reduceLT, Nat.reduceAdd, Nat.reduceMul, Int.reduceEq, Int.reduceLT, Int.reduceLE, Int.reduceNe, Int.reduceBEq, Int.reduceToNat, ↓reduceIte, f13, hv1], by simp -implicitDefEqProofs only [go_sem, Nat.reduceEqDiff, Nat.reduceLT, Nat.reduceAdd, Nat.reduceMul, Int.reduceEq, Int.reduceLT, Int.reduceLE, Int.reduceNe, Int.reduceBEq, Int.reduceToNat, ↓reduceIte], by simp -implicitDefEqProofs only [go_sem, Nat.reduceEqDiff, Nat.reduceLT, Nat.reduceAdd, Nat.reduceMul, Int.reduceEq, Int.reduceLT, Int.reduceLE, Int.reduceNe, Int.reduceBEq, Int.reduceToNat, ↓reduceIte, f61, hv1], by simp -implicitDefEqProofs only [go_sem, Nat.reduceEqDiff, Nat.reduceLT, Nat.reduceAdd, Nat.reduceMul, Int.reduceEq, Int.reduceLT, Int.reduceLE, Int.reduceNe, Int.reduceBEq, Int.reduceToNat, ↓reduceIte, f62], by simp -implicitDefEqProofs only [go_sem, Nat.reduceEqDiff, Nat.reduceLT, Nat.reduceAdd, Nat.reduceMul, Int.reduceEq, Int.reduceLT, Int.reduceLE, Int.reduceNe, Int.reduceBEq, Int.reduceToNat, ↓reduceIte], stE, by first | exact hsrC | (rw [← hv1]; exact hsrC), hinv.win ci hstep, by omega⟩
              · simp -implicitDefEqProofs only [go_sem, Nat.reduceEqDiff, Nat.reduceLT, Nat.reduceAdd, Nat.reduceMul, Int.reduceEq, Int.reduceLT, Int.reduceLE, Int.reduceNe, Int.reduceBEq, Int.reduceToNat, ↓reduceIte, f1, f2, f7, f9, f13, f16, f61, f62, f63, d2, bb, z0', c00, da, d3, hadd, lbv, hv1, dz', hl40]
                refine (abort_log stE.1 (by omega) (x := (z.own : Int)) (by omega)).mono ?_
                rintro rr HD ⟨rfl, hlogD, hfD⟩
                have stF := stE.log hlogD hfD
                have hsrD := hsrC.log stE.1 hfD
                have hlose := hinv.lose ci hstep
                rw [← oz] at hlose
                simp -implicitDefEqProofs only [go_sem, Nat.reduceEqDiff, Nat.reduceLT, Nat.reduceAdd, Nat.reduceMul, Int.reduceEq, Int.reduceLT, Int.reduceLE, Int.reduceNe, Int.reduceBEq, Int.reduceToNat, ↓reduceIte, f1, f2, f7, f9, f13, f16, f61, f62, f63, d2]
                exact ⟨m - 1, by omega, i + 1, SA, _, _, _, true, by omega, by simp -implicitDefEqProofs only [go_sem, Nat.reduceEqDiff, Nat.reduceLT, Nat.reduceAdd, Nat.reduceMul, Int.reduceEq, Int.reduceLT, Int.reduceLE, Int.reduceNe, Int.reduceBEq, Int.reduceToNat, ↓reduceIte, f1], by simp -implicitDefEqProofs only [go_sem, Nat.reduceEqDiff, Nat.reduceLT, Nat.reduceAdd, Nat.reduceMul, Int.reduceEq, Int.reduceLT, Int.reduceLE, Int.reduceNe, Int.reduceBEq, Int.reduceToNat, ↓reduceIte, f2, hadd], by simp -implicitDefEqProofs only [go_sem, Nat.reduceEqDiff, Nat.reduceLT, Nat.reduceAdd, Nat.reduceMul, Int.reduceEq, Int.reduceLT, Int.reduceLE, Int.reduceNe, Int.reduceBEq, Int.reduceToNat, ↓reduceIte, f7], by simp -implicitDefEqProofs only [go_sem, Nat.reduceEqDiff, Nat.reduceLT, Nat.reduceAdd, Nat.reduceMul, Int.reduceEq, Int.reduceLT, Int.reduceLE, Int.reduceNe, Int.reduceBEq, Int.reduceToNat, ↓reduceIte, f9], by simp -implicitDefEqProofs only [go_sem, Nat.reduceEqDiff, Nat.reduceLT, Nat.reduceAdd, Nat.reduceMul, Int.reduceEq, Int.reduceLT, Int.reduceLE, Int.reduceNe, Int.reduceBEq, Int.reduceToNat, ↓reduceIte, f13, hv1], by simp -implicitDefEqProofs only [go_sem, Nat.reduceEqDiff, Nat.reduceLT, Nat.reduceAdd, Nat.reduceMul, Int.reduceEq, Int.reduceLT, Int.reduceLE, Int.reduceNe, Int.reduceBEq, Int.reduceToNat, ↓reduceIte], by simp -implicitDefEqProofs only [go_sem, Nat.reduceEqDiff, Nat.reduceLT, Nat.reduceAdd, Nat.reduceMul, Int.reduceEq, Int.reduceLT, Int.reduceLE, Int.reduceNe, Int.reduceBEq, Int.reduceToNat, ↓reduceIte, f61, hv1], by simp -implicitDefEqProofs only [go_sem, Nat.reduceEqDiff, Nat.reduceLT, Nat.reduceAdd, Nat.reduceMul, Int.reduceEq, Int.reduceLT, Int.reduceLE, Int.reduceNe, Int.reduceBEq, Int.reduceToNat, ↓reduceIte, f62], by simp -implicitDefEqProofs only [go_sem, Nat.reduceEqDiff, Nat.reduceLT, Nat.reduceAdd, Nat.reduceMul, Int.reduceEq, Int.reduceLT, Int.reduceLE, Int.reduceNe, Int.reduceBEq, Int.reduceToNat, ↓reduceIte], stF, by first | exact hsrD | (rw [← hv1]; exact hsrD), hlose, by omega⟩
            · have da : decide ((i : Int) < (an : Int)) = false := by rw [dec_lt]; simp; omega
              simp -implicitDefEqProofs only [go_sem, Nat.reduceEqDiff, Nat.reduceLT, Nat.reduceAdd, Nat.reduceMul, Int.reduceEq, Int.reduceLT, Int.reduceLE, Int.reduceNe, Int.reduceBEq, Int.reduceToNat, ↓reduceIte, f1, f2, f7, f9, f13, f16, f61, f62, f63, d2, bb, z0', c00, da]
              exact ⟨m - 1, by omega, i + 1, SA, st, _, _, false, by omega, by simp -implicitDefEqProofs only [go_sem, Nat.reduceEqDiff, Nat.reduceLT, Nat.reduceAdd, Nat.reduceMul, Int.reduceEq, Int.reduceLT, Int.reduceLE, Int.reduceNe, Int.reduceBEq, Int.reduceToNat, ↓reduceIte, f1], by simp -implicitDefEqProofs only [go_sem, Nat.reduceEqDiff, Nat.reduceLT, Nat.reduceAdd, Nat.reduceMul, Int.reduceEq, Int.reduceLT, Int.reduceLE, Int.reduceNe, Int.reduceBEq, Int.reduceToNat, ↓reduceIte, f2], by simp -implicitDefEqProofs only [go_sem, Nat.reduceEqDiff, Nat.reduceLT, Nat.reduceAdd, Nat.reduceMul, Int.reduceEq, Int.reduceLT, Int.reduceLE, Int.reduceNe, Int.reduceBEq, Int.reduceToNat, ↓reduceIte, f7], by simp -implicitDefEqProofs only [go_sem, Nat.reduceEqDiff, Nat.reduceLT, Nat.reduceAdd, Nat.reduceMul, Int.reduceEq, Int.reduceLT, Int.reduceLE, Int.reduceNe, Int.reduceBEq, Int.reduceToNat, ↓reduceIte, f9], by simp -implicitDefEqProofs only [go_sem, Nat.reduceEqDiff, Nat.reduceLT, Nat.reduceAdd, Nat.reduceMul, Int.reduceEq, Int.reduceLT, Int.reduceLE, Int.reduceNe, Int.reduceBEq, Int.reduceToNat, ↓reduceIte, f13, hv1], by simp -implicitDefEqProofs only [go_sem, Nat.reduceEqDiff, Nat.reduceLT, Nat.reduceAdd, Nat.reduceMul, Int.reduceEq, Int.reduceLT, Int.reduceLE, Int.reduceNe, Int.reduceBEq, Int.reduceToNat, ↓reduceIte], by simp -implicitDefEqProofs only [go_sem, Nat.reduceEqDiff, Nat.reduceLT, Nat.reduceAdd, Nat.reduceMul, Int.reduceEq, Int.reduceLT, Int.reduceLE, Int.reduceNe, Int.reduceBEq, Int.reduceToNat, ↓reduceIte, f61, hv1], by simp -implicitDefEqProofs only [go_sem, Nat.reduceEqDiff, Nat.reduceLT, Nat.reduceAdd, Nat.reduceMul, Int.reduceEq, Int.reduceLT, Int.reduceLE, Int.reduceNe, Int.reduceBEq, Int.reduceToNat, ↓reduceIte, f62], by simp -implicitDefEqProofs only [go_sem, Nat.reduceEqDiff, Nat.reduceLT, Nat.reduceAdd, Nat.reduceMul, Int.reduceEq, Int.reduceLT, Int.reduceLE, Int.reduceNe, Int.reduceBEq, Int.reduceToNat, ↓reduceIte], stE, by first | exact hsrC | (rw [← hv1]; exact hsrC), hinv.win ci hstep, by omega⟩
      · have d1 : decide ((i : Int) < (j : Int)) = false := by rw [dec_lt]; simp; omega
        simp -implicitDefEqProofs only [go_sem, Nat.reduceEqDiff, Nat.reduceLT, Nat.reduceAdd, Nat.reduceMul, Int.reduceEq, Int.reduceLT, Int.reduceLE, Int.reduceNe, Int.reduceBEq, Int.reduceToNat, ↓reduceIte, f1, f2, f7, f9, f13, f16, f61, f62, f63, d1]
end Go.Proofs.Ytcpeiejabbdeiaa
