/-
  The law BookPrunes, walked.
  Conditions: the script's steps read as steps.
-/
import Derived.Test.YtcpeiejabbdeiaaPrs
namespace Go.Proofs.Ytcpeiejabbdeiaa
open Go Go.RowKit Go.Proofs.YtcpeiejabbdeiaaW
set_option maxRecDepth 100000
set_option maxHeartbeats 2000000
set_option linter.unusedSimpArgs false
set_option linter.unusedVariables false

def PrnI (w0 : World) (l bk r n : Nat) (a : Value) (m : Nat) (F : Fr) (H : Hp) : Prop :=
  ∃ (i : Nat) (S : Nat → Prop) (st : List Nat) (ts : List Tb) (xs : List Ix) (last : Nat) (ps : Ents) (lv : Live) (ov : Value) (os : List Nat), i + m = n ∧ F 3 = ptr l ∧ F 5 = ptr bk ∧ F 6 = .map (some r) ∧ F 7 = ov ∧ F 37 = a ∧ F 38 = .int .i64 (n : Int) ∧ F 39 = .int .i64 (i : Int) ∧
    PrAt H l S st bk ts xs last r ps lv ov os ∧ PrOk st ts xs last ps lv os i ∧ i ≤ 40
def LivI (w0 : World) (Hb : Hp) (l bk r w n i : Nat) (st : List Nat) (ts : List Tb) (xs : List Ix) (lv : Live) (nm : ByteArray) (a ov : Value) (os : List Nat) (m : Nat) (F : Fr) (H : Hp) : Prop :=
  ∃ (j : Nat) (sv : Value) (wm : Ents), j + m = os.length ∧ F 3 = ptr l ∧ F 5 = ptr bk ∧ F 6 = .map (some r) ∧ F 7 = ov ∧ F 15 = .string nm ∧ F 17 = sv ∧ F 18 = .map (some w) ∧ F 37 = a ∧ F 38 = .int .i64 (n : Int) ∧ F 39 = .int .i64 (i : Int) ∧ F 96 = ov ∧ F 97 = .int .i64 (os.length : Int) ∧ F 98 = .int .i64 (j : Int) ∧
    Sub Hb H ∧ Row H 34 4 sv (zsOf lv os j).length ((zsOf lv os j).flatMap Shot.cs) ∧ (∀ b, blk sv = some b → Hb b = none ∧ w0.heap.size ≤ b) ∧ BMap H w .u64 wm ∧ WasOk st ts xs lv nm (zsOf lv os j) wm
def RnI (l bk r w it ck n i : Nat) (es : Array MapEntry) (nm : ByteArray) (a ov : Value) (P : Hp → Prop) (m : Nat) (F : Fr) (H : Hp) : Prop :=
  ∃ seen, unseenN es seen = m ∧ F 3 = ptr l ∧ F 5 = ptr bk ∧ F 6 = .map (some r) ∧ F 7 = ov ∧ F 15 = .string nm ∧ F 37 = a ∧ F 38 = .int .i64 (n : Int) ∧ F 39 = .int .i64 (i : Int) ∧ F 143 = ptr it ∧ H it = some (.mapIter (some w) ck seen ck) ∧ H w = some (.map es ck) ∧ P H
theorem prunes_ok (w0 : World) (a : Value) (n : Nat) (ha : Ops11Arg w0 a n) :
    ACalls Try.prog w0 4 #[a] (fun _ => none) fun r H' => r = .bool true ∧ True := by
  obtain ⟨ad, c, rfl, hn, hops⟩ := ha
  refine acalls_of Try.func4 rfl Try.ntmps4 r4 (by simp) ?_
  simp -implicitDefEqProofs only [go_sem, Nat.reduceEqDiff, Nat.reduceLT, Nat.reduceAdd, Nat.reduceMul, Int.reduceEq, Int.reduceLT, Int.reduceLE, Int.reduceNe, Int.reduceBEq, Int.reduceToNat, ↓reduceIte]
  refine (awake11_ok w0).mono ?_
  rintro r H' ⟨rfl, rfl⟩
  simp -implicitDefEqProofs only [go_sem, Nat.reduceEqDiff, Nat.reduceLT, Nat.reduceAdd, Nat.reduceMul, Int.reduceEq, Int.reduceLT, Int.reduceLE, Int.reduceNe, Int.reduceBEq, Int.reduceToNat, ↓reduceIte]
  refine (new_ok w0 1 _ (by omega) (by omega)).mono ?_
  rintro r H1 ⟨l, rfl, hl, hl0, hlog, hsub⟩
  simp -implicitDefEqProofs only [go_sem, Nat.reduceEqDiff, Nat.reduceLT, Nat.reduceAdd, Nat.reduceMul, Int.reduceEq, Int.reduceLT, Int.reduceLE, Int.reduceNe, Int.reduceBEq, Int.reduceToNat, ↓reduceIte]
  refine (bnew_ok w0 H1).mono ?_
  rintro r H2 ⟨bk, rfl, hbk, hbook, s2⟩
  simp -implicitDefEqProofs only [go_sem, Nat.reduceEqDiff, Nat.reduceLT, Nat.reduceAdd, Nat.reduceMul, Int.reduceEq, Int.reduceLT, Int.reduceLE, Int.reduceNe, Int.reduceBEq, Int.reduceToNat, ↓reduceIte]
  refine newK_of ?_
  intro r H3 hbr hnr hr3 s3 g3
  simp -implicitDefEqProofs only [go_sem, Nat.reduceEqDiff, Nat.reduceLT, Nat.reduceAdd, Nat.reduceMul, Int.reduceEq, Int.reduceLT, Int.reduceLE, Int.reduceNe, Int.reduceBEq, Int.reduceToNat, ↓reduceIte]
  refine AC.loopH (PrnI w0 l bk r n (.slice ad n c)) (n := n) ⟨0, _, [], [], [], 0, [], fun _ => none, .slice none 0 0, [], by omega, rfl, rfl, rfl, rfl, rfl, rfl, rfl,
    ⟨hlog.keep fun b o _ hb => s3 b o (s2 b o hb), hbook.sub s3, ⟨_, _, hr3, rfl⟩, fun x z hz => (by cases hz), ⟨by simp [u64s], .inl ⟨rfl, rfl⟩⟩, fun x z b hz => (by cases hz)⟩, ⟨fun x => rfl, fun x z hz => (by cases hz), by simp [Ents.keys], by simp, by simp, by simp, by simp, by simp, by simp, by omega⟩, by omega⟩ ?_
  clear hlog hsub hbook s2 s3 g3 hr3 hnr hbr hl hl0 hbk
  rintro m F H3 ⟨i, S, st, ts, xs, last, ps, lv, ov, os, hi, f3, f5, f6, f7, f37, f38, f39, hat, hok, hi40⟩ hhi3
  by_cases c1 : i < n
  · have d1 : decide ((i : Int) < (n : Int)) = true := by simp; omega
    have d0 : decide ((0 : Int) ≤ (i : Int)) = true := by simp
    have d2 : IntKind.i64.wrap ((i : Int) + 1) = (i + 1 : Nat) := by rw [i64_in] <;> omega
    obtain ⟨ab, rfl, d, x', t1, t2, t3, sa, sn, sc, hd, hx', ht1, ht2, hc0, hc1, hc2, hc3, hc4, hc5⟩ := hops i c1
    have l0 := ld_arg hhi3 hc0
    have l1 := ld_arg hhi3 hc1
    have l2 := ld_arg hhi3 hc2
    have l3 := ld_arg hhi3 hc3
    have l4 := ld_arg hhi3 hc4
    have l5 := ld_arg hhi3 hc5
    have hl6 : ldCells w0 H3 (ab.add (i * 6)) 0 6 = some [.int .u8 (d : Int), .int .u8 (x' : Int), .string t1, .string t2, .string t3, .slice sa sn sc] := by
      simp only [ldCells, l0, l1, l2, l3, l4, l5, Option.bind_some, Option.map_some]
    simp -implicitDefEqProofs only [go_sem, Nat.reduceEqDiff, Nat.reduceLT, Nat.reduceAdd, Nat.reduceMul, Int.reduceEq, Int.reduceLT, Int.reduceLE, Int.reduceNe, Int.reduceBEq, Int.reduceToNat, ↓reduceIte, f3, f5, f6, f7, f37, f38, f39, d1, d0, ldK_agg, hl6]
    refine newK_of ?_
    intro b9 H4 hb9 hn9 h9 s9 g9
    simp -implicitDefEqProofs only [go_sem, Nat.reduceEqDiff, Nat.reduceLT, Nat.reduceAdd, Nat.reduceMul, Int.reduceEq, Int.reduceLT, Int.reduceLE, Int.reduceNe, Int.reduceBEq, Int.reduceToNat, ↓reduceIte, f3, f5, f6, f7, f37, f38, f39]
    refine store_all h9 rfl (by simp [cell1_int, cell1_string, cell1_slice]) rfl ?_
    intro H5 h9 g9'
    have s5 : Sub H3 H5 := Sub.ne2 hn9 g9 g9'
    clear g9 g9' s9
    have hat5 := hat.sub s5
    by_cases c6 : i < 40
    · have d6 : decide ((40 : Int) ≤ (i : Int)) = false := by simp; omega
      have dm : (d : Int).tmod 10 = ((d % 10 : Nat) : Int) := by rw [Int.tmod_eq_emod_of_nonneg (by omega)]; omega
      have l9 := ld_own w0 h9
      obtain ⟨oa, oc, hov⟩ := hat5.2.2.2.2.1.slice
      by_cases c7 : d % 10 = 0
      · have d7 : decide (((d % 10 : Nat) : Int) = 0) = true := by rw [dec_zero]; simp [c7]
        simp -implicitDefEqProofs only [go_sem, Nat.reduceEqDiff, Nat.reduceLT, Nat.reduceAdd, Nat.reduceMul, Int.reduceEq, Int.reduceLT, Int.reduceLE, Int.reduceNe, Int.reduceBEq, Int.reduceToNat, ↓reduceIte, f3, f5, f6, f7, f37, f38, f39, d6, dm, d7, l9]
        refine (begin_log hat5.1 (by have := hok.l1; omega)).mono ?_
        rintro rr H6 ⟨rfl, S6, hlog6, _, hf6⟩
        have hat6 := hat5.log hlog6 hf6
        simp -implicitDefEqProofs only [go_sem, Nat.reduceEqDiff, Nat.reduceLT, Nat.reduceAdd, Nat.reduceMul, Int.reduceEq, Int.reduceLT, Int.reduceLE, Int.reduceNe, Int.reduceBEq, Int.reduceToNat, ↓reduceIte, f3, f5, f6, f7, f37, f38, f39]
        refine (take_shot hat6.1 (by rw [List.length_append]; simp; have := hok.l1; omega) (1 + st.length)).mono ?_
        rintro rr H7 ⟨z, oz, qz, rfl, hz, hzf, s7⟩
        have hat7 := hat6.sub s7
        simp -implicitDefEqProofs only [go_sem, Nat.reduceEqDiff, Nat.reduceLT, Nat.reduceAdd, Nat.reduceMul, Int.reduceEq, Int.reduceLT, Int.reduceLE, Int.reduceNe, Int.reduceBEq, Int.reduceToNat, ↓reduceIte, f3, f5, f6, f7, f37, f38, f39]
        refine aop_mapUpdate (n := ((1 + st.length : Nat) : Int)) (v := cv z) Try.underlying52 Try.underlying27 hat7.2.2.1 (by simp -implicitDefEqProofs only [go_sem, Nat.reduceEqDiff, Nat.reduceLT, Nat.reduceAdd, Nat.reduceMul, Int.reduceEq, Int.reduceLT, Int.reduceLE, Int.reduceNe, Int.reduceBEq, Int.reduceToNat, ↓reduceIte, f6]) (by simp -implicitDefEqProofs only [go_sem, Nat.reduceEqDiff, Nat.reduceLT, Nat.reduceAdd, Nat.reduceMul, Int.reduceEq, Int.reduceLT, Int.reduceLE, Int.reduceNe, Int.reduceBEq, Int.reduceToNat, ↓reduceIte]) (by simp -implicitDefEqProofs only [go_sem, Nat.reduceEqDiff, Nat.reduceLT, Nat.reduceAdd, Nat.reduceMul, Int.reduceEq, Int.reduceLT, Int.reduceLE, Int.reduceNe, Int.reduceBEq, Int.reduceToNat, ↓reduceIte]; rfl) ?_
        intro H8 hmap8 hf8
        have hat8 : PrAt H8 l S6 (st ++ [1]) bk ts xs last r _ (fun y => if y = 1 + st.length then some z else lv y) ov os := hat7.odd (imap_ty hat7.2.2.1) hf8 hmap8 fun u z' hz' => by
          split at hz'
          · cases hz'
            refine ⟨hz, fun b hb e => ?_⟩
            obtain ⟨o, ho⟩ := Row.own hat6.2.2.2.2.1 hb
            rw [(hzf b e).1] at ho; cases ho
          · exact ⟨hat7.2.2.2.1 u z' hz', fun b hb => hat7.2.2.2.2.2 u z' b hz' hb⟩
        have bs1 : bsCells Try.prog 27 1 #[(0, .int .u64 ((1 + st.length : Nat) : Int))] = some #[.int .u64 ((1 + st.length : Nat) : Int)] := by kernel_rfl
        simp -implicitDefEqProofs only [go_sem, Nat.reduceEqDiff, Nat.reduceLT, Nat.reduceAdd, Nat.reduceMul, Int.reduceEq, Int.reduceLT, Int.reduceLE, Int.reduceNe, Int.reduceBEq, Int.reduceToNat, ↓reduceIte, f3, f5, f6, f7, f37, f38, f39, bs1]
        refine newK_of ?_
        intro nb H9 hnb hnn h9n s9 g9
        have hat9 := hat8.sub s9
        have hol := hok.l4
        simp -implicitDefEqProofs only [go_sem, Nat.reduceEqDiff, Nat.reduceLT, Nat.reduceAdd, Nat.reduceMul, Int.reduceEq, Int.reduceLT, Int.reduceLE, Int.reduceNe, Int.reduceBEq, Int.reduceToNat, ↓reduceIte, f3, f5, f6, f7, f37, f38, f39]
        refine aop_append_lit (t := 32) (x := .tmp 65) (y := .tmp 67) (c := 1) Try.underlying32 s27 b27 z27 rfl (v := ov) (by simp -implicitDefEqProofs only [go_sem, Nat.reduceEqDiff, Nat.reduceLT, Nat.reduceAdd, Nat.reduceMul, Int.reduceEq, Int.reduceLT, Int.reduceLE, Int.reduceNe, Int.reduceBEq, Int.reduceToNat, ↓reduceIte, f7]) hat9.2.2.2.2.1 h9n (by simp -implicitDefEqProofs only [go_sem, Nat.reduceEqDiff, Nat.reduceLT, Nat.reduceAdd, Nat.reduceMul, Int.reduceEq, Int.reduceLT, Int.reduceLE, Int.reduceNe, Int.reduceBEq, Int.reduceToNat, ↓reduceIte]) rfl (by simp [cell1_int]) (by omega) (by omega) (by omega) ?_
        intro g HA hg hHA cap hrowA
        have hatA : PrAt HA l S6 (st ++ [1]) bk ts xs last r _ (fun y => if y = 1 + st.length then some z else lv y) (.slice (some ⟨g, 0, none⟩) (os.length + 1) cap) (os ++ [1 + st.length]) := hat9.app (hg.imp id (·.1)) hHA (by rw [u64s_push, List.length_append, List.length_singleton]; exact hrowA) rfl
        have hokA := hok.begin oz
        simp -implicitDefEqProofs only [go_sem, Nat.reduceEqDiff, Nat.reduceLT, Nat.reduceAdd, Nat.reduceMul, Int.reduceEq, Int.reduceLT, Int.reduceLE, Int.reduceNe, Int.reduceBEq, Int.reduceToNat, ↓reduceIte, f3, f5, f6, f7, f37, f38, f39, d2]
        exact ⟨m - 1, by omega, i + 1, _, _, _, _, _, _, _, _, _, by omega, by simp -implicitDefEqProofs only [go_sem, Nat.reduceEqDiff, Nat.reduceLT, Nat.reduceAdd, Nat.reduceMul, Int.reduceEq, Int.reduceLT, Int.reduceLE, Int.reduceNe, Int.reduceBEq, Int.reduceToNat, ↓reduceIte, f3], by simp -implicitDefEqProofs only [go_sem, Nat.reduceEqDiff, Nat.reduceLT, Nat.reduceAdd, Nat.reduceMul, Int.reduceEq, Int.reduceLT, Int.reduceLE, Int.reduceNe, Int.reduceBEq, Int.reduceToNat, ↓reduceIte, f5], by simp -implicitDefEqProofs only [go_sem, Nat.reduceEqDiff, Nat.reduceLT, Nat.reduceAdd, Nat.reduceMul, Int.reduceEq, Int.reduceLT, Int.reduceLE, Int.reduceNe, Int.reduceBEq, Int.reduceToNat, ↓reduceIte, f6], by simp -implicitDefEqProofs only [go_sem, Nat.reduceEqDiff, Nat.reduceLT, Nat.reduceAdd, Nat.reduceMul, Int.reduceEq, Int.reduceLT, Int.reduceLE, Int.reduceNe, Int.reduceBEq, Int.reduceToNat, ↓reduceIte], by simp -implicitDefEqProofs only [go_sem, Nat.reduceEqDiff, Nat.reduceLT, Nat.reduceAdd, Nat.reduceMul, Int.reduceEq, Int.reduceLT, Int.reduceLE, Int.reduceNe, Int.reduceBEq, Int.reduceToNat, ↓reduceIte, f37], by simp -implicitDefEqProofs only [go_sem, Nat.reduceEqDiff, Nat.reduceLT, Nat.reduceAdd, Nat.reduceMul, Int.reduceEq, Int.reduceLT, Int.reduceLE, Int.reduceNe, Int.reduceBEq, Int.reduceToNat, ↓reduceIte, f38], by simp -implicitDefEqProofs only [go_sem, Nat.reduceEqDiff, Nat.reduceLT, Nat.reduceAdd, Nat.reduceMul, Int.reduceEq, Int.reduceLT, Int.reduceLE, Int.reduceNe, Int.reduceBEq, Int.reduceToNat, ↓reduceIte], hatA, hokA, by omega⟩
      · have d7 : decide (((d % 10 : Nat) : Int) = 0) = false := by rw [dec_zero]; simp [c7]
        by_cases c8 : os.length = 0
        · have d8 : decide ((os.length : Int) = 0) = true := by rw [dec_zero]; simp [c8]
          rw [hov] at f7
          simp -implicitDefEqProofs only [go_sem, Nat.reduceEqDiff, Nat.reduceLT, Nat.reduceAdd, Nat.reduceMul, Int.reduceEq, Int.reduceLT, Int.reduceLE, Int.reduceNe, Int.reduceBEq, Int.reduceToNat, ↓reduceIte, f3, f5, f6, f7, f37, f38, f39, d6, dm, d7, d8, l9]
          rw [← hov] at f7
          refine (begin_log hat5.1 (by have := hok.l1; omega)).mono ?_
          rintro rr H6 ⟨rfl, S6, hlog6, _, hf6⟩
          have hat6 := hat5.log hlog6 hf6
          simp -implicitDefEqProofs only [go_sem, Nat.reduceEqDiff, Nat.reduceLT, Nat.reduceAdd, Nat.reduceMul, Int.reduceEq, Int.reduceLT, Int.reduceLE, Int.reduceNe, Int.reduceBEq, Int.reduceToNat, ↓reduceIte, f3, f5, f6, f7, f37, f38, f39]
          refine (take_shot hat6.1 (by rw [List.length_append]; simp; have := hok.l1; omega) (1 + st.length)).mono ?_
          rintro rr H7 ⟨z, oz, qz, rfl, hz, hzf, s7⟩
          have hat7 := hat6.sub s7
          simp -implicitDefEqProofs only [go_sem, Nat.reduceEqDiff, Nat.reduceLT, Nat.reduceAdd, Nat.reduceMul, Int.reduceEq, Int.reduceLT, Int.reduceLE, Int.reduceNe, Int.reduceBEq, Int.reduceToNat, ↓reduceIte, f3, f5, f6, f7, f37, f38, f39]
          refine aop_mapUpdate (n := ((1 + st.length : Nat) : Int)) (v := cv z) Try.underlying52 Try.underlying27 hat7.2.2.1 (by simp -implicitDefEqProofs only [go_sem, Nat.reduceEqDiff, Nat.reduceLT, Nat.reduceAdd, Nat.reduceMul, Int.reduceEq, Int.reduceLT, Int.reduceLE, Int.reduceNe, Int.reduceBEq, Int.reduceToNat, ↓reduceIte, f6]) (by simp -implicitDefEqProofs only [go_sem, Nat.reduceEqDiff, Nat.reduceLT, Nat.reduceAdd, Nat.reduceMul, Int.reduceEq, Int.reduceLT, Int.reduceLE, Int.reduceNe, Int.reduceBEq, Int.reduceToNat, ↓reduceIte]) (by simp -implicitDefEqProofs only [go_sem, Nat.reduceEqDiff, Nat.reduceLT, Nat.reduceAdd, Nat.reduceMul, Int.reduceEq, Int.reduceLT, Int.reduceLE, Int.reduceNe, Int.reduceBEq, Int.reduceToNat, ↓reduceIte]; rfl) ?_
          intro H8 hmap8 hf8
          have hat8 : PrAt H8 l S6 (st ++ [1]) bk ts xs last r _ (fun y => if y = 1 + st.length then some z else lv y) ov os := hat7.odd (imap_ty hat7.2.2.1) hf8 hmap8 fun u z' hz' => by
            split at hz'
            · cases hz'
              refine ⟨hz, fun b hb e => ?_⟩
              obtain ⟨o, ho⟩ := Row.own hat6.2.2.2.2.1 hb
              rw [(hzf b e).1] at ho; cases ho
            · exact ⟨hat7.2.2.2.1 u z' hz', fun b hb => hat7.2.2.2.2.2 u z' b hz' hb⟩
          have bs1 : bsCells Try.prog 27 1 #[(0, .int .u64 ((1 + st.length : Nat) : Int))] = some #[.int .u64 ((1 + st.length : Nat) : Int)] := by kernel_rfl
          simp -implicitDefEqProofs only [go_sem, Nat.reduceEqDiff, Nat.reduceLT, Nat.reduceAdd, Nat.reduceMul, Int.reduceEq, Int.reduceLT, Int.reduceLE, Int.reduceNe, Int.reduceBEq, Int.reduceToNat, ↓reduceIte, f3, f5, f6, f7, f37, f38, f39, bs1]
          refine newK_of ?_
          intro nb H9 hnb hnn h9n s9 g9
          have hat9 := hat8.sub s9
          have hol := hok.l4
          simp -implicitDefEqProofs only [go_sem, Nat.reduceEqDiff, Nat.reduceLT, Nat.reduceAdd, Nat.reduceMul, Int.reduceEq, Int.reduceLT, Int.reduceLE, Int.reduceNe, Int.reduceBEq, Int.reduceToNat, ↓reduceIte, f3, f5, f6, f7, f37, f38, f39]
          refine aop_append_lit (t := 32) (x := .tmp 65) (y := .tmp 67) (c := 1) Try.underlying32 s27 b27 z27 rfl (v := ov) (by simp -implicitDefEqProofs only [go_sem, Nat.reduceEqDiff, Nat.reduceLT, Nat.reduceAdd, Nat.reduceMul, Int.reduceEq, Int.reduceLT, Int.reduceLE, Int.reduceNe, Int.reduceBEq, Int.reduceToNat, ↓reduceIte, f7]) hat9.2.2.2.2.1 h9n (by simp -implicitDefEqProofs only [go_sem, Nat.reduceEqDiff, Nat.reduceLT, Nat.reduceAdd, Nat.reduceMul, Int.reduceEq, Int.reduceLT, Int.reduceLE, Int.reduceNe, Int.reduceBEq, Int.reduceToNat, ↓reduceIte]) rfl (by simp [cell1_int]) (by omega) (by omega) (by omega) ?_
          intro g HA hg hHA cap hrowA
          have hatA : PrAt HA l S6 (st ++ [1]) bk ts xs last r _ (fun y => if y = 1 + st.length then some z else lv y) (.slice (some ⟨g, 0, none⟩) (os.length + 1) cap) (os ++ [1 + st.length]) := hat9.app (hg.imp id (·.1)) hHA (by rw [u64s_push, List.length_append, List.length_singleton]; exact hrowA) rfl
          have hokA := hok.begin oz
          simp -implicitDefEqProofs only [go_sem, Nat.reduceEqDiff, Nat.reduceLT, Nat.reduceAdd, Nat.reduceMul, Int.reduceEq, Int.reduceLT, Int.reduceLE, Int.reduceNe, Int.reduceBEq, Int.reduceToNat, ↓reduceIte, f3, f5, f6, f7, f37, f38, f39, d2]
          exact ⟨m - 1, by omega, i + 1, _, _, _, _, _, _, _, _, _, by omega, by simp -implicitDefEqProofs only [go_sem, Nat.reduceEqDiff, Nat.reduceLT, Nat.reduceAdd, Nat.reduceMul, Int.reduceEq, Int.reduceLT, Int.reduceLE, Int.reduceNe, Int.reduceBEq, Int.reduceToNat, ↓reduceIte, f3], by simp -implicitDefEqProofs only [go_sem, Nat.reduceEqDiff, Nat.reduceLT, Nat.reduceAdd, Nat.reduceMul, Int.reduceEq, Int.reduceLT, Int.reduceLE, Int.reduceNe, Int.reduceBEq, Int.reduceToNat, ↓reduceIte, f5], by simp -implicitDefEqProofs only [go_sem, Nat.reduceEqDiff, Nat.reduceLT, Nat.reduceAdd, Nat.reduceMul, Int.reduceEq, Int.reduceLT, Int.reduceLE, Int.reduceNe, Int.reduceBEq, Int.reduceToNat, ↓reduceIte, f6], by simp -implicitDefEqProofs only [go_sem, Nat.reduceEqDiff, Nat.reduceLT, Nat.reduceAdd, Nat.reduceMul, Int.reduceEq, Int.reduceLT, Int.reduceLE, Int.reduceNe, Int.reduceBEq, Int.reduceToNat, ↓reduceIte], by simp -implicitDefEqProofs only [go_sem, Nat.reduceEqDiff, Nat.reduceLT, Nat.reduceAdd, Nat.reduceMul, Int.reduceEq, Int.reduceLT, Int.reduceLE, Int.reduceNe, Int.reduceBEq, Int.reduceToNat, ↓reduceIte, f37], by simp -implicitDefEqProofs only [go_sem, Nat.reduceEqDiff, Nat.reduceLT, Nat.reduceAdd, Nat.reduceMul, Int.reduceEq, Int.reduceLT, Int.reduceLE, Int.reduceNe, Int.reduceBEq, Int.reduceToNat, ↓reduceIte, f38], by simp -implicitDefEqProofs only [go_sem, Nat.reduceEqDiff, Nat.reduceLT, Nat.reduceAdd, Nat.reduceMul, Int.reduceEq, Int.reduceLT, Int.reduceLE, Int.reduceNe, Int.reduceBEq, Int.reduceToNat, ↓reduceIte], hatA, hokA, by omega⟩
        · have d8 : decide ((os.length : Int) = 0) = false := by rw [dec_zero]; simp [c8]
          obtain ⟨who, hwho⟩ : ∃ who, os[x' % os.length]? = some who := ⟨_, List.getElem?_eq_getElem (Nat.mod_lt _ (by omega))⟩
          have xm : (x' : Int).tmod (os.length : Int) = ((x' % os.length : Nat) : Int) := by rw [Int.tmod_eq_emod_of_nonneg (by omega)]; exact (Int.natCast_emod _ _).symm
          have hlz : ((os.length : Int) == 0) = false := beq_eq_false_iff_ne.2 (by omega)
          have xw : IntKind.i64.wrap (x' : Int) = (x' : Int) := by rw [i64_in] <;> omega
          have xw2 : IntKind.i64.wrap ((x' % os.length : Nat) : Int) = ((x' % os.length : Nat) : Int) := by
            have := Nat.mod_lt x' (show 0 < os.length by omega)
            have := hok.l4
            rw [i64_in] <;> omega
          have xi : decide (((x' % os.length : Nat) : Int) < (os.length : Int)) = true := by rw [dec_lt]; simp; exact Nat.mod_lt _ (by omega)
          have x0 : decide ((0 : Int) ≤ ((x' % os.length : Nat) : Int)) = true := decide_eq_true (Int.natCast_nonneg _)
          obtain ⟨og, ocap, hov', hlo⟩ := row_at1 (w0 := w0) hat5.2.2.2.2.1 (k := x' % os.length) (y := .int .u64 (who : Int)) (by unfold u64s; rw [List.getElem?_map, hwho]; rfl)
          rw [hov'] at f7
          have hget := hok.get who
          cases hlw : lv who with
          | none =>
            rw [hlw] at hget
            simp only [Option.map_none] at hget
            simp -implicitDefEqProofs only [go_sem, Nat.reduceEqDiff, Nat.reduceLT, Nat.reduceAdd, Nat.reduceMul, Int.reduceEq, Int.reduceLT, Int.reduceLE, Int.reduceNe, Int.reduceBEq, Int.reduceToNat, ↓reduceIte, f3, f5, f6, f7, f37, f38, f39, d6, dm, d7, d8, l9, xm, hlz, xw, xw2, xi, x0, hlo, lookK_int Try.underlying52 Try.underlying27 z34 hat5.2.2.1, hget, Option.getD_none, Option.isSome_none]
            refine newK_of ?_
            intro b13 H6 hb13 hn13 h13 s13 g13
            simp -implicitDefEqProofs only [go_sem, Nat.reduceEqDiff, Nat.reduceLT, Nat.reduceAdd, Nat.reduceMul, Int.reduceEq, Int.reduceLT, Int.reduceLE, Int.reduceNe, Int.reduceBEq, Int.reduceToNat, ↓reduceIte, f3, f5, f6, f7, f37, f38, f39]
            refine store_all h13 rfl (by simp [cell1_int, cell1_slice]) rfl ?_
            intro H7 h13 g13'
            have s7 : Sub H5 H7 := Sub.ne2 hn13 g13 g13'
            simp -implicitDefEqProofs only [go_sem, Nat.reduceEqDiff, Nat.reduceLT, Nat.reduceAdd, Nat.reduceMul, Int.reduceEq, Int.reduceLT, Int.reduceLE, Int.reduceNe, Int.reduceBEq, Int.reduceToNat, ↓reduceIte, f3, f5, f6, f7, f37, f38, f39, d2]
            exact ⟨m - 1, by omega, i + 1, _, _, _, _, _, _, _, _, _, by omega, by simp -implicitDefEqProofs only [go_sem, Nat.reduceEqDiff, Nat.reduceLT, Nat.reduceAdd, Nat.reduceMul, Int.reduceEq, Int.reduceLT, Int.reduceLE, Int.reduceNe, Int.reduceBEq, Int.reduceToNat, ↓reduceIte, f3], by simp -implicitDefEqProofs only [go_sem, Nat.reduceEqDiff, Nat.reduceLT, Nat.reduceAdd, Nat.reduceMul, Int.reduceEq, Int.reduceLT, Int.reduceLE, Int.reduceNe, Int.reduceBEq, Int.reduceToNat, ↓reduceIte, f5], by simp -implicitDefEqProofs only [go_sem, Nat.reduceEqDiff, Nat.reduceLT, Nat.reduceAdd, Nat.reduceMul, Int.reduceEq, Int.reduceLT, Int.reduceLE, Int.reduceNe, Int.reduceBEq, Int.reduceToNat, ↓reduceIte, f6], by simp -implicitDefEqProofs only [go_sem, Nat.reduceEqDiff, Nat.reduceLT, Nat.reduceAdd, Nat.reduceMul, Int.reduceEq, Int.reduceLT, Int.reduceLE, Int.reduceNe, Int.reduceBEq, Int.reduceToNat, ↓reduceIte, f7, hov'], by simp -implicitDefEqProofs only [go_sem, Nat.reduceEqDiff, Nat.reduceLT, Nat.reduceAdd, Nat.reduceMul, Int.reduceEq, Int.reduceLT, Int.reduceLE, Int.reduceNe, Int.reduceBEq, Int.reduceToNat, ↓reduceIte, f37], by simp -implicitDefEqProofs only [go_sem, Nat.reduceEqDiff, Nat.reduceLT, Nat.reduceAdd, Nat.reduceMul, Int.reduceEq, Int.reduceLT, Int.reduceLE, Int.reduceNe, Int.reduceBEq, Int.reduceToNat, ↓reduceIte, f38], by simp -implicitDefEqProofs only [go_sem, Nat.reduceEqDiff, Nat.reduceLT, Nat.reduceAdd, Nat.reduceMul, Int.reduceEq, Int.reduceLT, Int.reduceLE, Int.reduceNe, Int.reduceBEq, Int.reduceToNat, ↓reduceIte], hat5.sub s7, hok.next, by omega⟩
          | some z =>
            rw [hlw] at hget
            simp only [Option.map_some, cv] at hget
            have hzo := hok.live who z hlw
            have hc1 := (hat5.2.2.2.1 who z hlw).cell
            simp -implicitDefEqProofs only [go_sem, Nat.reduceEqDiff, Nat.reduceLT, Nat.reduceAdd, Nat.reduceMul, Int.reduceEq, Int.reduceLT, Int.reduceLE, Int.reduceNe, Int.reduceBEq, Int.reduceToNat, ↓reduceIte, f3, f5, f6, f7, f37, f38, f39, d6, dm, d7, d8, l9, xm, hlz, xw, xw2, xi, x0, hlo, lookK_int Try.underlying52 Try.underlying27 z34 hat5.2.2.1, hget, Option.getD_some, Option.isSome_some]
            refine newK_of ?_
            intro b13 H6 hb13 hn13 h13 s13 g13
            simp -implicitDefEqProofs only [go_sem, Nat.reduceEqDiff, Nat.reduceLT, Nat.reduceAdd, Nat.reduceMul, Int.reduceEq, Int.reduceLT, Int.reduceLE, Int.reduceNe, Int.reduceBEq, Int.reduceToNat, ↓reduceIte, f3, f5, f6, f7, f37, f38, f39]
            refine store_all h13 rfl (by simp [cell1_int, hc1]) rfl ?_
            intro H7 h13 g13'
            have s7 : Sub H5 H7 := Sub.ne2 hn13 g13 g13'
            have l9' := ld_own w0 (s7 _ _ h9)
            have l13 := ldc w0 h13 4
            have hat7 := hat5.sub s7
            clear g13 g13' s13 s7
            simp -implicitDefEqProofs only [go_sem, Nat.reduceEqDiff, Nat.reduceLT, Nat.reduceAdd, Nat.reduceMul, Int.reduceEq, Int.reduceLT, Int.reduceLE, Int.reduceNe, Int.reduceBEq, Int.reduceToNat, ↓reduceIte, f3, f5, f6, f7, f37, f38, f39]
            refine vdraw_t [⟨0, .p, [], []⟩, ⟨1, .n, [], []⟩, ⟨3, .p, [], []⟩, ⟨4, .n, [], []⟩, ⟨2, .c, [4], []⟩, ⟨5, .c, [], []⟩, ⟨6, .p, [], []⟩, ⟨7, .p, [], []⟩] [0, 1, 3, 0, 8, 31, 63, 127] mixed (by kernel_rfl) ?_
            simp -implicitDefEqProofs only [go_sem, Nat.reduceEqDiff, Nat.reduceLT, Nat.reduceAdd, Nat.reduceMul, Int.reduceEq, Int.reduceLT, Int.reduceLE, Int.reduceNe, Int.reduceBEq, Int.reduceToNat, ↓reduceIte, f3, f5, f6, f7, f37, f38, f39, l9']
            refine (few_ok w0 H7 t1 ht1).mono ?_
            rintro rr H8 ⟨rfl, rfl⟩
            simp -implicitDefEqProofs only [go_sem, Nat.reduceEqDiff, Nat.reduceLT, Nat.reduceAdd, Nat.reduceMul, Int.reduceEq, Int.reduceLT, Int.reduceLE, Int.reduceNe, Int.reduceBEq, Int.reduceToNat, ↓reduceIte, f3, f5, f6, f7, f37, f38, f39, l9']
            refine (few_ok w0 H8 t2 ht2).mono ?_
            rintro rr H7 ⟨rfl, rfl⟩
            obtain ⟨nm, hnm⟩ : ∃ nm, nm = t1.extract 0 (min t1.size 30) := ⟨_, rfl⟩
            obtain ⟨nt, hnt⟩ : ∃ nt, nt = t2.extract 0 (min t2.size 30) := ⟨_, rfl⟩
            have hns : nm.size < 1000000 := by rw [hnm]; exact few_size t1
            rw [← hnm, ← hnt]
            obtain ⟨D, hD⟩ : ∃ D, D = d % 10 := ⟨_, rfl⟩
            rw [← hD] at dm
            have hb1 : 1 + st.length < 10000000000000 := by have := hok.l1; omega
            have hb2 : ts.length < 100000 := by have := hok.l2; omega
            have hb3 : xs.length < 100000 := by have := hok.l3; omega
            have hb5 : last < 1000000 := by have := hok.l5; omega
            have hzs := hat7.2.2.2.1 who z hlw
            by_cases e1 : D = 1
            · have q1 : decide ((D : Int) = 1) = true := decide_eq_true (by omega)
              simp -implicitDefEqProofs only [go_sem, Nat.reduceEqDiff, Nat.reduceLT, Nat.reduceAdd, Nat.reduceMul, Int.reduceEq, Int.reduceLT, Int.reduceLE, Int.reduceNe, Int.reduceBEq, Int.reduceToNat, ↓reduceIte, f3, f5, f6, f7, f37, f38, f39, l9', dm, q1]
              refine (commit_log hat7.1 (by omega) (x := (who : Int)) (by omega)).mono ?_
              rintro rr H8 ⟨rfl, hlog8, hf8⟩
              have hat8 := hat7.log hlog8 hf8
              simp -implicitDefEqProofs only [go_sem, Nat.reduceEqDiff, Nat.reduceLT, Nat.reduceAdd, Nat.reduceMul, Int.reduceEq, Int.reduceLT, Int.reduceLE, Int.reduceNe, Int.reduceBEq, Int.reduceToNat, ↓reduceIte, f3, f5, f6, f7, f37, f38, f39]
              refine aop_delete (n := (who : Int)) Try.underlying52 Try.underlying27 hat8.2.2.1 (by simp -implicitDefEqProofs only [go_sem, Nat.reduceEqDiff, Nat.reduceLT, Nat.reduceAdd, Nat.reduceMul, Int.reduceEq, Int.reduceLT, Int.reduceLE, Int.reduceNe, Int.reduceBEq, Int.reduceToNat, ↓reduceIte, f6]) (by simp -implicitDefEqProofs only [go_sem, Nat.reduceEqDiff, Nat.reduceLT, Nat.reduceAdd, Nat.reduceMul, Int.reduceEq, Int.reduceLT, Int.reduceLE, Int.reduceNe, Int.reduceBEq, Int.reduceToNat, ↓reduceIte]) ?_
              intro HG hmap hf
              have hatG : PrAt HG l S (endSts 1 st (who : Int) 2) bk ts xs last r _ (fun u => if u = who then none else lv u) _ os := hat8.odd (imap_ty hat8.2.2.1) hf hmap fun u z' hz' => by
                split at hz'
                · cases hz'
                · exact ⟨hat8.2.2.2.1 u z' hz', fun b hb => hat8.2.2.2.2.2 u z' b hz' hb⟩
              simp -implicitDefEqProofs only [go_sem, Nat.reduceEqDiff, Nat.reduceLT, Nat.reduceAdd, Nat.reduceMul, Int.reduceEq, Int.reduceLT, Int.reduceLE, Int.reduceNe, Int.reduceBEq, Int.reduceToNat, ↓reduceIte, f3, f5, f6, f7, f37, f38, f39, d2]
              exact ⟨m - 1, by omega, i + 1, _, _, _, _, _, _, _, _, _, by omega, by simp -implicitDefEqProofs only [go_sem, Nat.reduceEqDiff, Nat.reduceLT, Nat.reduceAdd, Nat.reduceMul, Int.reduceEq, Int.reduceLT, Int.reduceLE, Int.reduceNe, Int.reduceBEq, Int.reduceToNat, ↓reduceIte, f3], by simp -implicitDefEqProofs only [go_sem, Nat.reduceEqDiff, Nat.reduceLT, Nat.reduceAdd, Nat.reduceMul, Int.reduceEq, Int.reduceLT, Int.reduceLE, Int.reduceNe, Int.reduceBEq, Int.reduceToNat, ↓reduceIte, f5], by simp -implicitDefEqProofs only [go_sem, Nat.reduceEqDiff, Nat.reduceLT, Nat.reduceAdd, Nat.reduceMul, Int.reduceEq, Int.reduceLT, Int.reduceLE, Int.reduceNe, Int.reduceBEq, Int.reduceToNat, ↓reduceIte, f6], by simp -implicitDefEqProofs only [go_sem, Nat.reduceEqDiff, Nat.reduceLT, Nat.reduceAdd, Nat.reduceMul, Int.reduceEq, Int.reduceLT, Int.reduceLE, Int.reduceNe, Int.reduceBEq, Int.reduceToNat, ↓reduceIte, f7, hov'], by simp -implicitDefEqProofs only [go_sem, Nat.reduceEqDiff, Nat.reduceLT, Nat.reduceAdd, Nat.reduceMul, Int.reduceEq, Int.reduceLT, Int.reduceLE, Int.reduceNe, Int.reduceBEq, Int.reduceToNat, ↓reduceIte, f37], by simp -implicitDefEqProofs only [go_sem, Nat.reduceEqDiff, Nat.reduceLT, Nat.reduceAdd, Nat.reduceMul, Int.reduceEq, Int.reduceLT, Int.reduceLE, Int.reduceNe, Int.reduceBEq, Int.reduceToNat, ↓reduceIte, f38], by simp -implicitDefEqProofs only [go_sem, Nat.reduceEqDiff, Nat.reduceLT, Nat.reduceAdd, Nat.reduceMul, Int.reduceEq, Int.reduceLT, Int.reduceLE, Int.reduceNe, Int.reduceBEq, Int.reduceToNat, ↓reduceIte], hatG, hok.fin who 2, by omega⟩
            · have q1 : decide ((D : Int) = 1) = false := decide_eq_false (by omega)
              by_cases e2 : D = 2
              · have q2 : decide ((D : Int) = 2) = true := decide_eq_true (by omega)
                simp -implicitDefEqProofs only [go_sem, Nat.reduceEqDiff, Nat.reduceLT, Nat.reduceAdd, Nat.reduceMul, Int.reduceEq, Int.reduceLT, Int.reduceLE, Int.reduceNe, Int.reduceBEq, Int.reduceToNat, ↓reduceIte, f3, f5, f6, f7, f37, f38, f39, l9', dm, q1, q2]
                refine (abort_log hat7.1 (by omega) (x := (who : Int)) (by omega)).mono ?_
                rintro rr H8 ⟨rfl, hlog8, hf8⟩
                have hat8 := hat7.log hlog8 hf8
                simp -implicitDefEqProofs only [go_sem, Nat.reduceEqDiff, Nat.reduceLT, Nat.reduceAdd, Nat.reduceMul, Int.reduceEq, Int.reduceLT, Int.reduceLE, Int.reduceNe, Int.reduceBEq, Int.reduceToNat, ↓reduceIte, f3, f5, f6, f7, f37, f38, f39]
                refine aop_delete (n := (who : Int)) Try.underlying52 Try.underlying27 hat8.2.2.1 (by simp -implicitDefEqProofs only [go_sem, Nat.reduceEqDiff, Nat.reduceLT, Nat.reduceAdd, Nat.reduceMul, Int.reduceEq, Int.reduceLT, Int.reduceLE, Int.reduceNe, Int.reduceBEq, Int.reduceToNat, ↓reduceIte, f6]) (by simp -implicitDefEqProofs only [go_sem, Nat.reduceEqDiff, Nat.reduceLT, Nat.reduceAdd, Nat.reduceMul, Int.reduceEq, Int.reduceLT, Int.reduceLE, Int.reduceNe, Int.reduceBEq, Int.reduceToNat, ↓reduceIte]) ?_
                intro HG hmap hf
                have hatG : PrAt HG l S (endSts 1 st (who : Int) 3) bk ts xs last r _ (fun u => if u = who then none else lv u) _ os := hat8.odd (imap_ty hat8.2.2.1) hf hmap fun u z' hz' => by
                  split at hz'
                  · cases hz'
                  · exact ⟨hat8.2.2.2.1 u z' hz', fun b hb => hat8.2.2.2.2.2 u z' b hz' hb⟩
                simp -implicitDefEqProofs only [go_sem, Nat.reduceEqDiff, Nat.reduceLT, Nat.reduceAdd, Nat.reduceMul, Int.reduceEq, Int.reduceLT, Int.reduceLE, Int.reduceNe, Int.reduceBEq, Int.reduceToNat, ↓reduceIte, f3, f5, f6, f7, f37, f38, f39, d2]
                exact ⟨m - 1, by omega, i + 1, _, _, _, _, _, _, _, _, _, by omega, by simp -implicitDefEqProofs only [go_sem, Nat.reduceEqDiff, Nat.reduceLT, Nat.reduceAdd, Nat.reduceMul, Int.reduceEq, Int.reduceLT, Int.reduceLE, Int.reduceNe, Int.reduceBEq, Int.reduceToNat, ↓reduceIte, f3], by simp -implicitDefEqProofs only [go_sem, Nat.reduceEqDiff, Nat.reduceLT, Nat.reduceAdd, Nat.reduceMul, Int.reduceEq, Int.reduceLT, Int.reduceLE, Int.reduceNe, Int.reduceBEq, Int.reduceToNat, ↓reduceIte, f5], by simp -implicitDefEqProofs only [go_sem, Nat.reduceEqDiff, Nat.reduceLT, Nat.reduceAdd, Nat.reduceMul, Int.reduceEq, Int.reduceLT, Int.reduceLE, Int.reduceNe, Int.reduceBEq, Int.reduceToNat, ↓reduceIte, f6], by simp -implicitDefEqProofs only [go_sem, Nat.reduceEqDiff, Nat.reduceLT, Nat.reduceAdd, Nat.reduceMul, Int.reduceEq, Int.reduceLT, Int.reduceLE, Int.reduceNe, Int.reduceBEq, Int.reduceToNat, ↓reduceIte, f7, hov'], by simp -implicitDefEqProofs only [go_sem, Nat.reduceEqDiff, Nat.reduceLT, Nat.reduceAdd, Nat.reduceMul, Int.reduceEq, Int.reduceLT, Int.reduceLE, Int.reduceNe, Int.reduceBEq, Int.reduceToNat, ↓reduceIte, f37], by simp -implicitDefEqProofs only [go_sem, Nat.reduceEqDiff, Nat.reduceLT, Nat.reduceAdd, Nat.reduceMul, Int.reduceEq, Int.reduceLT, Int.reduceLE, Int.reduceNe, Int.reduceBEq, Int.reduceToNat, ↓reduceIte, f38], by simp -implicitDefEqProofs only [go_sem, Nat.reduceEqDiff, Nat.reduceLT, Nat.reduceAdd, Nat.reduceMul, Int.reduceEq, Int.reduceLT, Int.reduceLE, Int.reduceNe, Int.reduceBEq, Int.reduceToNat, ↓reduceIte], hatG, hok.fin who 3, by omega⟩
              · have q2 : decide ((D : Int) = 2) = false := decide_eq_false (by omega)
                by_cases e3 : D = 3
                · have q3 : decide ((D : Int) = 3) = true := decide_eq_true (by omega)
                  simp -implicitDefEqProofs only [go_sem, Nat.reduceEqDiff, Nat.reduceLT, Nat.reduceAdd, Nat.reduceMul, Int.reduceEq, Int.reduceLT, Int.reduceLE, Int.reduceNe, Int.reduceBEq, Int.reduceToNat, ↓reduceIte, f3, f5, f6, f7, f37, f38, f39, l9', dm, q1, q2, q3]
                  refine vdraw_t [⟨0, .p, [], []⟩, ⟨1, .p, [], []⟩, ⟨2, .n, [], []⟩, ⟨3, .p, [], []⟩, ⟨4, .c, [2], []⟩, ⟨5, .c, [], []⟩] [0, 0, 0, 0, 0, 31] mixed (by kernel_rfl) ?_
                  simp -implicitDefEqProofs only [go_sem, Nat.reduceEqDiff, Nat.reduceLT, Nat.reduceAdd, Nat.reduceMul, Int.reduceEq, Int.reduceLT, Int.reduceLE, Int.reduceNe, Int.reduceBEq, Int.reduceToNat, ↓reduceIte, f3, f5, f6, f7, f37, f38, f39, l13, ldK_agg]
                  refine (one_cols w0 _).mono ?_
                  rintro c1 H8 ⟨hrc1, hfc1, s8⟩
                  have hat8 := hat7.sub s8
                  have l13' := ldc w0 (s8 _ _ h13) 4
                  simp -implicitDefEqProofs only [go_sem, Nat.reduceEqDiff, Nat.reduceLT, Nat.reduceAdd, Nat.reduceMul, Int.reduceEq, Int.reduceLT, Int.reduceLE, Int.reduceNe, Int.reduceBEq, Int.reduceToNat, ↓reduceIte, f3, f5, f6, f7, f37, f38, f39, l13', ldK_agg]
                  refine (create_ok hat8.2.1 (by omega) (by omega) hb5 hat8.1 hb1 (hzs.sub s8) nm hns hrc1).mono ?_
                  rintro rr H9 ⟨oC, fC, hC⟩
                  rcases hC with ⟨_, rfl, hbC⟩ | ⟨_, rfl, t, ht, _, hbC⟩
                  · have hatG := hat8.out oC hbC
                    simp -implicitDefEqProofs only [go_sem, Nat.reduceEqDiff, Nat.reduceLT, Nat.reduceAdd, Nat.reduceMul, Int.reduceEq, Int.reduceLT, Int.reduceLE, Int.reduceNe, Int.reduceBEq, Int.reduceToNat, ↓reduceIte, f3, f5, f6, f7, f37, f38, f39, d2]
                    exact ⟨m - 1, by omega, i + 1, _, _, _, _, _, _, _, _, _, by omega, by simp -implicitDefEqProofs only [go_sem, Nat.reduceEqDiff, Nat.reduceLT, Nat.reduceAdd, Nat.reduceMul, Int.reduceEq, Int.reduceLT, Int.reduceLE, Int.reduceNe, Int.reduceBEq, Int.reduceToNat, ↓reduceIte, f3], by simp -implicitDefEqProofs only [go_sem, Nat.reduceEqDiff, Nat.reduceLT, Nat.reduceAdd, Nat.reduceMul, Int.reduceEq, Int.reduceLT, Int.reduceLE, Int.reduceNe, Int.reduceBEq, Int.reduceToNat, ↓reduceIte, f5], by simp -implicitDefEqProofs only [go_sem, Nat.reduceEqDiff, Nat.reduceLT, Nat.reduceAdd, Nat.reduceMul, Int.reduceEq, Int.reduceLT, Int.reduceLE, Int.reduceNe, Int.reduceBEq, Int.reduceToNat, ↓reduceIte, f6], by simp -implicitDefEqProofs only [go_sem, Nat.reduceEqDiff, Nat.reduceLT, Nat.reduceAdd, Nat.reduceMul, Int.reduceEq, Int.reduceLT, Int.reduceLE, Int.reduceNe, Int.reduceBEq, Int.reduceToNat, ↓reduceIte, f7, hov'], by simp -implicitDefEqProofs only [go_sem, Nat.reduceEqDiff, Nat.reduceLT, Nat.reduceAdd, Nat.reduceMul, Int.reduceEq, Int.reduceLT, Int.reduceLE, Int.reduceNe, Int.reduceBEq, Int.reduceToNat, ↓reduceIte, f37], by simp -implicitDefEqProofs only [go_sem, Nat.reduceEqDiff, Nat.reduceLT, Nat.reduceAdd, Nat.reduceMul, Int.reduceEq, Int.reduceLT, Int.reduceLE, Int.reduceNe, Int.reduceBEq, Int.reduceToNat, ↓reduceIte, f38], by simp -implicitDefEqProofs only [go_sem, Nat.reduceEqDiff, Nat.reduceLT, Nat.reduceAdd, Nat.reduceMul, Int.reduceEq, Int.reduceLT, Int.reduceLE, Int.reduceNe, Int.reduceBEq, Int.reduceToNat, ↓reduceIte], hatG, hok.next, by omega⟩
                  · have hatG := hat8.out oC hbC
                    simp -implicitDefEqProofs only [go_sem, Nat.reduceEqDiff, Nat.reduceLT, Nat.reduceAdd, Nat.reduceMul, Int.reduceEq, Int.reduceLT, Int.reduceLE, Int.reduceNe, Int.reduceBEq, Int.reduceToNat, ↓reduceIte, f3, f5, f6, f7, f37, f38, f39, d2]
                    exact ⟨m - 1, by omega, i + 1, _, _, _, _, _, _, _, _, _, by omega, by simp -implicitDefEqProofs only [go_sem, Nat.reduceEqDiff, Nat.reduceLT, Nat.reduceAdd, Nat.reduceMul, Int.reduceEq, Int.reduceLT, Int.reduceLE, Int.reduceNe, Int.reduceBEq, Int.reduceToNat, ↓reduceIte, f3], by simp -implicitDefEqProofs only [go_sem, Nat.reduceEqDiff, Nat.reduceLT, Nat.reduceAdd, Nat.reduceMul, Int.reduceEq, Int.reduceLT, Int.reduceLE, Int.reduceNe, Int.reduceBEq, Int.reduceToNat, ↓reduceIte, f5], by simp -implicitDefEqProofs only [go_sem, Nat.reduceEqDiff, Nat.reduceLT, Nat.reduceAdd, Nat.reduceMul, Int.reduceEq, Int.reduceLT, Int.reduceLE, Int.reduceNe, Int.reduceBEq, Int.reduceToNat, ↓reduceIte, f6], by simp -implicitDefEqProofs only [go_sem, Nat.reduceEqDiff, Nat.reduceLT, Nat.reduceAdd, Nat.reduceMul, Int.reduceEq, Int.reduceLT, Int.reduceLE, Int.reduceNe, Int.reduceBEq, Int.reduceToNat, ↓reduceIte, f7, hov'], by simp -implicitDefEqProofs only [go_sem, Nat.reduceEqDiff, Nat.reduceLT, Nat.reduceAdd, Nat.reduceMul, Int.reduceEq, Int.reduceLT, Int.reduceLE, Int.reduceNe, Int.reduceBEq, Int.reduceToNat, ↓reduceIte, f37], by simp -implicitDefEqProofs only [go_sem, Nat.reduceEqDiff, Nat.reduceLT, Nat.reduceAdd, Nat.reduceMul, Int.reduceEq, Int.reduceLT, Int.reduceLE, Int.reduceNe, Int.reduceBEq, Int.reduceToNat, ↓reduceIte, f38], by simp -implicitDefEqProofs only [go_sem, Nat.reduceEqDiff, Nat.reduceLT, Nat.reduceAdd, Nat.reduceMul, Int.reduceEq, Int.reduceLT, Int.reduceLE, Int.reduceNe, Int.reduceBEq, Int.reduceToNat, ↓reduceIte], hatG, hok.addT (by rw [ht]), by omega⟩
                · have q3 : decide ((D : Int) = 3) = false := decide_eq_false (by omega)
                  by_cases e4 : D = 4
                  · have q4 : decide ((D : Int) = 4) = true := decide_eq_true (by omega)
                    simp -implicitDefEqProofs only [go_sem, Nat.reduceEqDiff, Nat.reduceLT, Nat.reduceAdd, Nat.reduceMul, Int.reduceEq, Int.reduceLT, Int.reduceLE, Int.reduceNe, Int.reduceBEq, Int.reduceToNat, ↓reduceIte, f3, f5, f6, f7, f37, f38, f39, l9', dm, q1, q2, q3, q4]
                    refine vdraw_t [⟨0, .p, [], []⟩, ⟨1, .p, [], []⟩, ⟨2, .n, [], []⟩, ⟨3, .p, [], []⟩, ⟨4, .c, [2], []⟩, ⟨5, .c, [], []⟩] [0, 0, 0, 0, 0, 31] mixed (by kernel_rfl) ?_
                    simp -implicitDefEqProofs only [go_sem, Nat.reduceEqDiff, Nat.reduceLT, Nat.reduceAdd, Nat.reduceMul, Int.reduceEq, Int.reduceLT, Int.reduceLE, Int.reduceNe, Int.reduceBEq, Int.reduceToNat, ↓reduceIte, f3, f5, f6, f7, f37, f38, f39, l13, ldK_agg]
                    refine (one_cols w0 _).mono ?_
                    rintro c1 H8 ⟨hrc1, hfc1, s8⟩
                    have hat8 := hat7.sub s8
                    have l13' := ldc w0 (s8 _ _ h13) 4
                    simp -implicitDefEqProofs only [go_sem, Nat.reduceEqDiff, Nat.reduceLT, Nat.reduceAdd, Nat.reduceMul, Int.reduceEq, Int.reduceLT, Int.reduceLE, Int.reduceNe, Int.reduceBEq, Int.reduceToNat, ↓reduceIte, f3, f5, f6, f7, f37, f38, f39, l13', ldK_agg]
                    refine (create_ok hat8.2.1 (by omega) (by omega) hb5 hat8.1 hb1 (hzs.sub s8) nm hns hrc1).mono ?_
                    rintro rr H9 ⟨oC, fC, hC⟩
                    rcases hC with ⟨_, rfl, hbC⟩ | ⟨_, rfl, t, ht, _, hbC⟩
                    · have hatG := hat8.out oC hbC
                      simp -implicitDefEqProofs only [go_sem, Nat.reduceEqDiff, Nat.reduceLT, Nat.reduceAdd, Nat.reduceMul, Int.reduceEq, Int.reduceLT, Int.reduceLE, Int.reduceNe, Int.reduceBEq, Int.reduceToNat, ↓reduceIte, f3, f5, f6, f7, f37, f38, f39, d2]
                      exact ⟨m - 1, by omega, i + 1, _, _, _, _, _, _, _, _, _, by omega, by simp -implicitDefEqProofs only [go_sem, Nat.reduceEqDiff, Nat.reduceLT, Nat.reduceAdd, Nat.reduceMul, Int.reduceEq, Int.reduceLT, Int.reduceLE, Int.reduceNe, Int.reduceBEq, Int.reduceToNat, ↓reduceIte, f3], by simp -implicitDefEqProofs only [go_sem, Nat.reduceEqDiff, Nat.reduceLT, Nat.reduceAdd, Nat.reduceMul, Int.reduceEq, Int.reduceLT, Int.reduceLE, Int.reduceNe, Int.reduceBEq, Int.reduceToNat, ↓reduceIte, f5], by simp -implicitDefEqProofs only [go_sem, Nat.reduceEqDiff, Nat.reduceLT, Nat.reduceAdd, Nat.reduceMul, Int.reduceEq, Int.reduceLT, Int.reduceLE, Int.reduceNe, Int.reduceBEq, Int.reduceToNat, ↓reduceIte, f6], by simp -implicitDefEqProofs only [go_sem, Nat.reduceEqDiff, Nat.reduceLT, Nat.reduceAdd, Nat.reduceMul, Int.reduceEq, Int.reduceLT, Int.reduceLE, Int.reduceNe, Int.reduceBEq, Int.reduceToNat, ↓reduceIte, f7, hov'], by simp -implicitDefEqProofs only [go_sem, Nat.reduceEqDiff, Nat.reduceLT, Nat.reduceAdd, Nat.reduceMul, Int.reduceEq, Int.reduceLT, Int.reduceLE, Int.reduceNe, Int.reduceBEq, Int.reduceToNat, ↓reduceIte, f37], by simp -implicitDefEqProofs only [go_sem, Nat.reduceEqDiff, Nat.reduceLT, Nat.reduceAdd, Nat.reduceMul, Int.reduceEq, Int.reduceLT, Int.reduceLE, Int.reduceNe, Int.reduceBEq, Int.reduceToNat, ↓reduceIte, f38], by simp -implicitDefEqProofs only [go_sem, Nat.reduceEqDiff, Nat.reduceLT, Nat.reduceAdd, Nat.reduceMul, Int.reduceEq, Int.reduceLT, Int.reduceLE, Int.reduceNe, Int.reduceBEq, Int.reduceToNat, ↓reduceIte], hatG, hok.next, by omega⟩
                    · have hatG := hat8.out oC hbC
                      simp -implicitDefEqProofs only [go_sem, Nat.reduceEqDiff, Nat.reduceLT, Nat.reduceAdd, Nat.reduceMul, Int.reduceEq, Int.reduceLT, Int.reduceLE, Int.reduceNe, Int.reduceBEq, Int.reduceToNat, ↓reduceIte, f3, f5, f6, f7, f37, f38, f39, d2]
                      exact ⟨m - 1, by omega, i + 1, _, _, _, _, _, _, _, _, _, by omega, by simp -implicitDefEqProofs only [go_sem, Nat.reduceEqDiff, Nat.reduceLT, Nat.reduceAdd, Nat.reduceMul, Int.reduceEq, Int.reduceLT, Int.reduceLE, Int.reduceNe, Int.reduceBEq, Int.reduceToNat, ↓reduceIte, f3], by simp -implicitDefEqProofs only [go_sem, Nat.reduceEqDiff, Nat.reduceLT, Nat.reduceAdd, Nat.reduceMul, Int.reduceEq, Int.reduceLT, Int.reduceLE, Int.reduceNe, Int.reduceBEq, Int.reduceToNat, ↓reduceIte, f5], by simp -implicitDefEqProofs only [go_sem, Nat.reduceEqDiff, Nat.reduceLT, Nat.reduceAdd, Nat.reduceMul, Int.reduceEq, Int.reduceLT, Int.reduceLE, Int.reduceNe, Int.reduceBEq, Int.reduceToNat, ↓reduceIte, f6], by simp -implicitDefEqProofs only [go_sem, Nat.reduceEqDiff, Nat.reduceLT, Nat.reduceAdd, Nat.reduceMul, Int.reduceEq, Int.reduceLT, Int.reduceLE, Int.reduceNe, Int.reduceBEq, Int.reduceToNat, ↓reduceIte, f7, hov'], by simp -implicitDefEqProofs only [go_sem, Nat.reduceEqDiff, Nat.reduceLT, Nat.reduceAdd, Nat.reduceMul, Int.reduceEq, Int.reduceLT, Int.reduceLE, Int.reduceNe, Int.reduceBEq, Int.reduceToNat, ↓reduceIte, f37], by simp -implicitDefEqProofs only [go_sem, Nat.reduceEqDiff, Nat.reduceLT, Nat.reduceAdd, Nat.reduceMul, Int.reduceEq, Int.reduceLT, Int.reduceLE, Int.reduceNe, Int.reduceBEq, Int.reduceToNat, ↓reduceIte, f38], by simp -implicitDefEqProofs only [go_sem, Nat.reduceEqDiff, Nat.reduceLT, Nat.reduceAdd, Nat.reduceMul, Int.reduceEq, Int.reduceLT, Int.reduceLE, Int.reduceNe, Int.reduceBEq, Int.reduceToNat, ↓reduceIte], hatG, hok.addT (by rw [ht]), by omega⟩
                  · have q4 : decide ((D : Int) = 4) = false := decide_eq_false (by omega)
                    by_cases e5 : D = 5
                    · have q5 : decide ((D : Int) = 5) = true := decide_eq_true (by omega)
                      simp -implicitDefEqProofs only [go_sem, Nat.reduceEqDiff, Nat.reduceLT, Nat.reduceAdd, Nat.reduceMul, Int.reduceEq, Int.reduceLT, Int.reduceLE, Int.reduceNe, Int.reduceBEq, Int.reduceToNat, ↓reduceIte, f3, f5, f6, f7, f37, f38, f39, l9', dm, l13, ldK_agg, q1, q2, q3, q4, q5]
                      refine (createX_ok hat7.2.1 (by omega) (by omega) hb5 hat7.1 hb1 hzs nm nt hns).mono ?_
                      rintro rr H9 ⟨oC, hC⟩
                      rcases hC with ⟨_, rfl, hbC⟩ | ⟨_, x, t, _, _, _, _, rfl, _, hbC⟩
                      · have hatG := hat7.out oC hbC
                        simp -implicitDefEqProofs only [go_sem, Nat.reduceEqDiff, Nat.reduceLT, Nat.reduceAdd, Nat.reduceMul, Int.reduceEq, Int.reduceLT, Int.reduceLE, Int.reduceNe, Int.reduceBEq, Int.reduceToNat, ↓reduceIte, f3, f5, f6, f7, f37, f38, f39, d2]
                        exact ⟨m - 1, by omega, i + 1, _, _, _, _, _, _, _, _, _, by omega, by simp -implicitDefEqProofs only [go_sem, Nat.reduceEqDiff, Nat.reduceLT, Nat.reduceAdd, Nat.reduceMul, Int.reduceEq, Int.reduceLT, Int.reduceLE, Int.reduceNe, Int.reduceBEq, Int.reduceToNat, ↓reduceIte, f3], by simp -implicitDefEqProofs only [go_sem, Nat.reduceEqDiff, Nat.reduceLT, Nat.reduceAdd, Nat.reduceMul, Int.reduceEq, Int.reduceLT, Int.reduceLE, Int.reduceNe, Int.reduceBEq, Int.reduceToNat, ↓reduceIte, f5], by simp -implicitDefEqProofs only [go_sem, Nat.reduceEqDiff, Nat.reduceLT, Nat.reduceAdd, Nat.reduceMul, Int.reduceEq, Int.reduceLT, Int.reduceLE, Int.reduceNe, Int.reduceBEq, Int.reduceToNat, ↓reduceIte, f6], by simp -implicitDefEqProofs only [go_sem, Nat.reduceEqDiff, Nat.reduceLT, Nat.reduceAdd, Nat.reduceMul, Int.reduceEq, Int.reduceLT, Int.reduceLE, Int.reduceNe, Int.reduceBEq, Int.reduceToNat, ↓reduceIte, f7, hov'], by simp -implicitDefEqProofs only [go_sem, Nat.reduceEqDiff, Nat.reduceLT, Nat.reduceAdd, Nat.reduceMul, Int.reduceEq, Int.reduceLT, Int.reduceLE, Int.reduceNe, Int.reduceBEq, Int.reduceToNat, ↓reduceIte, f37], by simp -implicitDefEqProofs only [go_sem, Nat.reduceEqDiff, Nat.reduceLT, Nat.reduceAdd, Nat.reduceMul, Int.reduceEq, Int.reduceLT, Int.reduceLE, Int.reduceNe, Int.reduceBEq, Int.reduceToNat, ↓reduceIte, f38], by simp -implicitDefEqProofs only [go_sem, Nat.reduceEqDiff, Nat.reduceLT, Nat.reduceAdd, Nat.reduceMul, Int.reduceEq, Int.reduceLT, Int.reduceLE, Int.reduceNe, Int.reduceBEq, Int.reduceToNat, ↓reduceIte], hatG, hok.next, by omega⟩
                      · have hatG := hat7.out oC hbC
                        simp -implicitDefEqProofs only [go_sem, Nat.reduceEqDiff, Nat.reduceLT, Nat.reduceAdd, Nat.reduceMul, Int.reduceEq, Int.reduceLT, Int.reduceLE, Int.reduceNe, Int.reduceBEq, Int.reduceToNat, ↓reduceIte, f3, f5, f6, f7, f37, f38, f39, d2]
                        exact ⟨m - 1, by omega, i + 1, _, _, _, _, _, _, _, _, _, by omega, by simp -implicitDefEqProofs only [go_sem, Nat.reduceEqDiff, Nat.reduceLT, Nat.reduceAdd, Nat.reduceMul, Int.reduceEq, Int.reduceLT, Int.reduceLE, Int.reduceNe, Int.reduceBEq, Int.reduceToNat, ↓reduceIte, f3], by simp -implicitDefEqProofs only [go_sem, Nat.reduceEqDiff, Nat.reduceLT, Nat.reduceAdd, Nat.reduceMul, Int.reduceEq, Int.reduceLT, Int.reduceLE, Int.reduceNe, Int.reduceBEq, Int.reduceToNat, ↓reduceIte, f5], by simp -implicitDefEqProofs only [go_sem, Nat.reduceEqDiff, Nat.reduceLT, Nat.reduceAdd, Nat.reduceMul, Int.reduceEq, Int.reduceLT, Int.reduceLE, Int.reduceNe, Int.reduceBEq, Int.reduceToNat, ↓reduceIte, f6], by simp -implicitDefEqProofs only [go_sem, Nat.reduceEqDiff, Nat.reduceLT, Nat.reduceAdd, Nat.reduceMul, Int.reduceEq, Int.reduceLT, Int.reduceLE, Int.reduceNe, Int.reduceBEq, Int.reduceToNat, ↓reduceIte, f7, hov'], by simp -implicitDefEqProofs only [go_sem, Nat.reduceEqDiff, Nat.reduceLT, Nat.reduceAdd, Nat.reduceMul, Int.reduceEq, Int.reduceLT, Int.reduceLE, Int.reduceNe, Int.reduceBEq, Int.reduceToNat, ↓reduceIte, f37], by simp -implicitDefEqProofs only [go_sem, Nat.reduceEqDiff, Nat.reduceLT, Nat.reduceAdd, Nat.reduceMul, Int.reduceEq, Int.reduceLT, Int.reduceLE, Int.reduceNe, Int.reduceBEq, Int.reduceToNat, ↓reduceIte, f38], by simp -implicitDefEqProofs only [go_sem, Nat.reduceEqDiff, Nat.reduceLT, Nat.reduceAdd, Nat.reduceMul, Int.reduceEq, Int.reduceLT, Int.reduceLE, Int.reduceNe, Int.reduceBEq, Int.reduceToNat, ↓reduceIte], hatG, hok.addX, by omega⟩
                    · have q5 : decide ((D : Int) = 5) = false := decide_eq_false (by omega)
                      by_cases e6 : D = 6
                      · have q6 : decide ((D : Int) = 6) = true := decide_eq_true (by omega)
                        simp -implicitDefEqProofs only [go_sem, Nat.reduceEqDiff, Nat.reduceLT, Nat.reduceAdd, Nat.reduceMul, Int.reduceEq, Int.reduceLT, Int.reduceLE, Int.reduceNe, Int.reduceBEq, Int.reduceToNat, ↓reduceIte, f3, f5, f6, f7, f37, f38, f39, l9', dm, l13, ldK_agg, q1, q2, q3, q4, q5, q6]
                        refine (createX_ok hat7.2.1 (by omega) (by omega) hb5 hat7.1 hb1 hzs nm nt hns).mono ?_
                        rintro rr H9 ⟨oC, hC⟩
                        rcases hC with ⟨_, rfl, hbC⟩ | ⟨_, x, t, _, _, _, _, rfl, _, hbC⟩
                        · have hatG := hat7.out oC hbC
                          simp -implicitDefEqProofs only [go_sem, Nat.reduceEqDiff, Nat.reduceLT, Nat.reduceAdd, Nat.reduceMul, Int.reduceEq, Int.reduceLT, Int.reduceLE, Int.reduceNe, Int.reduceBEq, Int.reduceToNat, ↓reduceIte, f3, f5, f6, f7, f37, f38, f39, d2]
                          exact ⟨m - 1, by omega, i + 1, _, _, _, _, _, _, _, _, _, by omega, by simp -implicitDefEqProofs only [go_sem, Nat.reduceEqDiff, Nat.reduceLT, Nat.reduceAdd, Nat.reduceMul, Int.reduceEq, Int.reduceLT, Int.reduceLE, Int.reduceNe, Int.reduceBEq, Int.reduceToNat, ↓reduceIte, f3], by simp -implicitDefEqProofs only [go_sem, Nat.reduceEqDiff, Nat.reduceLT, Nat.reduceAdd, Nat.reduceMul, Int.reduceEq, Int.reduceLT, Int.reduceLE, Int.reduceNe, Int.reduceBEq, Int.reduceToNat, ↓reduceIte, f5], by simp -implicitDefEqProofs only [go_sem, Nat.reduceEqDiff, Nat.reduceLT, Nat.reduceAdd, Nat.reduceMul, Int.reduceEq, Int.reduceLT, Int.reduceLE, Int.reduceNe, Int.reduceBEq, Int.reduceToNat, ↓reduceIte, f6], by simp -implicitDefEqProofs only [go_sem, Nat.reduceEqDiff, Nat.reduceLT, Nat.reduceAdd, Nat.reduceMul, Int.reduceEq, Int.reduceLT, Int.reduceLE, Int.reduceNe, Int.reduceBEq, Int.reduceToNat, ↓reduceIte, f7, hov'], by simp -implicitDefEqProofs only [go_sem, Nat.reduceEqDiff, Nat.reduceLT, Nat.reduceAdd, Nat.reduceMul, Int.reduceEq, Int.reduceLT, Int.reduceLE, Int.reduceNe, Int.reduceBEq, Int.reduceToNat, ↓reduceIte, f37], by simp -implicitDefEqProofs only [go_sem, Nat.reduceEqDiff, Nat.reduceLT, Nat.reduceAdd, Nat.reduceMul, Int.reduceEq, Int.reduceLT, Int.reduceLE, Int.reduceNe, Int.reduceBEq, Int.reduceToNat, ↓reduceIte, f38], by simp -implicitDefEqProofs only [go_sem, Nat.reduceEqDiff, Nat.reduceLT, Nat.reduceAdd, Nat.reduceMul, Int.reduceEq, Int.reduceLT, Int.reduceLE, Int.reduceNe, Int.reduceBEq, Int.reduceToNat, ↓reduceIte], hatG, hok.next, by omega⟩
                        · have hatG := hat7.out oC hbC
                          simp -implicitDefEqProofs only [go_sem, Nat.reduceEqDiff, Nat.reduceLT, Nat.reduceAdd, Nat.reduceMul, Int.reduceEq, Int.reduceLT, Int.reduceLE, Int.reduceNe, Int.reduceBEq, Int.reduceToNat, ↓reduceIte, f3, f5, f6, f7, f37, f38, f39, d2]
                          exact ⟨m - 1, by omega, i + 1, _, _, _, _, _, _, _, _, _, by omega, by simp -implicitDefEqProofs only [go_sem, Nat.reduceEqDiff, Nat.reduceLT, Nat.reduceAdd, Nat.reduceMul, Int.reduceEq, Int.reduceLT, Int.reduceLE, Int.reduceNe, Int.reduceBEq, Int.reduceToNat, ↓reduceIte, f3], by simp -implicitDefEqProofs only [go_sem, Nat.reduceEqDiff, Nat.reduceLT, Nat.reduceAdd, Nat.reduceMul, Int.reduceEq, Int.reduceLT, Int.reduceLE, Int.reduceNe, Int.reduceBEq, Int.reduceToNat, ↓reduceIte, f5], by simp -implicitDefEqProofs only [go_sem, Nat.reduceEqDiff, Nat.reduceLT, Nat.reduceAdd, Nat.reduceMul, Int.reduceEq, Int.reduceLT, Int.reduceLE, Int.reduceNe, Int.reduceBEq, Int.reduceToNat, ↓reduceIte, f6], by simp -implicitDefEqProofs only [go_sem, Nat.reduceEqDiff, Nat.reduceLT, Nat.reduceAdd, Nat.reduceMul, Int.reduceEq, Int.reduceLT, Int.reduceLE, Int.reduceNe, Int.reduceBEq, Int.reduceToNat, ↓reduceIte, f7, hov'], by simp -implicitDefEqProofs only [go_sem, Nat.reduceEqDiff, Nat.reduceLT, Nat.reduceAdd, Nat.reduceMul, Int.reduceEq, Int.reduceLT, Int.reduceLE, Int.reduceNe, Int.reduceBEq, Int.reduceToNat, ↓reduceIte, f37], by simp -implicitDefEqProofs only [go_sem, Nat.reduceEqDiff, Nat.reduceLT, Nat.reduceAdd, Nat.reduceMul, Int.reduceEq, Int.reduceLT, Int.reduceLE, Int.reduceNe, Int.reduceBEq, Int.reduceToNat, ↓reduceIte, f38], by simp -implicitDefEqProofs only [go_sem, Nat.reduceEqDiff, Nat.reduceLT, Nat.reduceAdd, Nat.reduceMul, Int.reduceEq, Int.reduceLT, Int.reduceLE, Int.reduceNe, Int.reduceBEq, Int.reduceToNat, ↓reduceIte], hatG, hok.addX, by omega⟩
                      · have q6 : decide ((D : Int) = 6) = false := decide_eq_false (by omega)
                        by_cases e7 : D = 7
                        · have q7 : decide ((D : Int) = 7) = true := decide_eq_true (by omega)
                          simp -implicitDefEqProofs only [go_sem, Nat.reduceEqDiff, Nat.reduceLT, Nat.reduceAdd, Nat.reduceMul, Int.reduceEq, Int.reduceLT, Int.reduceLE, Int.reduceNe, Int.reduceBEq, Int.reduceToNat, ↓reduceIte, f3, f5, f6, f7, f37, f38, f39, l9', dm, l13, ldK_agg, q1, q2, q3, q4, q5, q6, q7]
                          refine (dropT_ok hat7.2.1 (by omega) hb3 hat7.1 hb1 hzs nm).mono ?_
                          rintro rr H9 ⟨oC, id, rfl, hC⟩
                          rcases hC with ⟨_, hbC⟩ | ⟨_, t, bs, _, _, hbC⟩
                          · have hatG := hat7.out oC hbC
                            simp -implicitDefEqProofs only [go_sem, Nat.reduceEqDiff, Nat.reduceLT, Nat.reduceAdd, Nat.reduceMul, Int.reduceEq, Int.reduceLT, Int.reduceLE, Int.reduceNe, Int.reduceBEq, Int.reduceToNat, ↓reduceIte, f3, f5, f6, f7, f37, f38, f39, d2]
                            exact ⟨m - 1, by omega, i + 1, _, _, _, _, _, _, _, _, _, by omega, by simp -implicitDefEqProofs only [go_sem, Nat.reduceEqDiff, Nat.reduceLT, Nat.reduceAdd, Nat.reduceMul, Int.reduceEq, Int.reduceLT, Int.reduceLE, Int.reduceNe, Int.reduceBEq, Int.reduceToNat, ↓reduceIte, f3], by simp -implicitDefEqProofs only [go_sem, Nat.reduceEqDiff, Nat.reduceLT, Nat.reduceAdd, Nat.reduceMul, Int.reduceEq, Int.reduceLT, Int.reduceLE, Int.reduceNe, Int.reduceBEq, Int.reduceToNat, ↓reduceIte, f5], by simp -implicitDefEqProofs only [go_sem, Nat.reduceEqDiff, Nat.reduceLT, Nat.reduceAdd, Nat.reduceMul, Int.reduceEq, Int.reduceLT, Int.reduceLE, Int.reduceNe, Int.reduceBEq, Int.reduceToNat, ↓reduceIte, f6], by simp -implicitDefEqProofs only [go_sem, Nat.reduceEqDiff, Nat.reduceLT, Nat.reduceAdd, Nat.reduceMul, Int.reduceEq, Int.reduceLT, Int.reduceLE, Int.reduceNe, Int.reduceBEq, Int.reduceToNat, ↓reduceIte, f7, hov'], by simp -implicitDefEqProofs only [go_sem, Nat.reduceEqDiff, Nat.reduceLT, Nat.reduceAdd, Nat.reduceMul, Int.reduceEq, Int.reduceLT, Int.reduceLE, Int.reduceNe, Int.reduceBEq, Int.reduceToNat, ↓reduceIte, f37], by simp -implicitDefEqProofs only [go_sem, Nat.reduceEqDiff, Nat.reduceLT, Nat.reduceAdd, Nat.reduceMul, Int.reduceEq, Int.reduceLT, Int.reduceLE, Int.reduceNe, Int.reduceBEq, Int.reduceToNat, ↓reduceIte, f38], by simp -implicitDefEqProofs only [go_sem, Nat.reduceEqDiff, Nat.reduceLT, Nat.reduceAdd, Nat.reduceMul, Int.reduceEq, Int.reduceLT, Int.reduceLE, Int.reduceNe, Int.reduceBEq, Int.reduceToNat, ↓reduceIte], hatG, hok.next, by omega⟩
                          · have hatG := hat7.out oC hbC
                            simp -implicitDefEqProofs only [go_sem, Nat.reduceEqDiff, Nat.reduceLT, Nat.reduceAdd, Nat.reduceMul, Int.reduceEq, Int.reduceLT, Int.reduceLE, Int.reduceNe, Int.reduceBEq, Int.reduceToNat, ↓reduceIte, f3, f5, f6, f7, f37, f38, f39, d2]
                            exact ⟨m - 1, by omega, i + 1, _, _, _, _, _, _, _, _, _, by omega, by simp -implicitDefEqProofs only [go_sem, Nat.reduceEqDiff, Nat.reduceLT, Nat.reduceAdd, Nat.reduceMul, Int.reduceEq, Int.reduceLT, Int.reduceLE, Int.reduceNe, Int.reduceBEq, Int.reduceToNat, ↓reduceIte, f3], by simp -implicitDefEqProofs only [go_sem, Nat.reduceEqDiff, Nat.reduceLT, Nat.reduceAdd, Nat.reduceMul, Int.reduceEq, Int.reduceLT, Int.reduceLE, Int.reduceNe, Int.reduceBEq, Int.reduceToNat, ↓reduceIte, f5], by simp -implicitDefEqProofs only [go_sem, Nat.reduceEqDiff, Nat.reduceLT, Nat.reduceAdd, Nat.reduceMul, Int.reduceEq, Int.reduceLT, Int.reduceLE, Int.reduceNe, Int.reduceBEq, Int.reduceToNat, ↓reduceIte, f6], by simp -implicitDefEqProofs only [go_sem, Nat.reduceEqDiff, Nat.reduceLT, Nat.reduceAdd, Nat.reduceMul, Int.reduceEq, Int.reduceLT, Int.reduceLE, Int.reduceNe, Int.reduceBEq, Int.reduceToNat, ↓reduceIte, f7, hov'], by simp -implicitDefEqProofs only [go_sem, Nat.reduceEqDiff, Nat.reduceLT, Nat.reduceAdd, Nat.reduceMul, Int.reduceEq, Int.reduceLT, Int.reduceLE, Int.reduceNe, Int.reduceBEq, Int.reduceToNat, ↓reduceIte, f37], by simp -implicitDefEqProofs only [go_sem, Nat.reduceEqDiff, Nat.reduceLT, Nat.reduceAdd, Nat.reduceMul, Int.reduceEq, Int.reduceLT, Int.reduceLE, Int.reduceNe, Int.reduceBEq, Int.reduceToNat, ↓reduceIte, f38], by simp -implicitDefEqProofs only [go_sem, Nat.reduceEqDiff, Nat.reduceLT, Nat.reduceAdd, Nat.reduceMul, Int.reduceEq, Int.reduceLT, Int.reduceLE, Int.reduceNe, Int.reduceBEq, Int.reduceToNat, ↓reduceIte], hatG, hok.mark bs _, by omega⟩
                        · have q7 : decide ((D : Int) = 7) = false := decide_eq_false (by omega)
                          by_cases e8 : D = 8
                          · have q8 : decide ((D : Int) = 8) = true := decide_eq_true (by omega)
                            simp -implicitDefEqProofs only [go_sem, Nat.reduceEqDiff, Nat.reduceLT, Nat.reduceAdd, Nat.reduceMul, Int.reduceEq, Int.reduceLT, Int.reduceLE, Int.reduceNe, Int.reduceBEq, Int.reduceToNat, ↓reduceIte, f3, f5, f6, f7, f37, f38, f39, l9', dm, l13, ldK_agg, q1, q2, q3, q4, q5, q6, q7, q8]
                            refine (dropX_ok hat7.2.1 (by omega) hb3 hat7.1 hb1 hzs nm).mono ?_
                            rintro rr H9 ⟨oC, id, rfl, hC⟩
                            rcases hC with hbC | ⟨bs, hbC⟩
                            · have hatG := hat7.out oC hbC
                              simp -implicitDefEqProofs only [go_sem, Nat.reduceEqDiff, Nat.reduceLT, Nat.reduceAdd, Nat.reduceMul, Int.reduceEq, Int.reduceLT, Int.reduceLE, Int.reduceNe, Int.reduceBEq, Int.reduceToNat, ↓reduceIte, f3, f5, f6, f7, f37, f38, f39, d2]
                              exact ⟨m - 1, by omega, i + 1, _, _, _, _, _, _, _, _, _, by omega, by simp -implicitDefEqProofs only [go_sem, Nat.reduceEqDiff, Nat.reduceLT, Nat.reduceAdd, Nat.reduceMul, Int.reduceEq, Int.reduceLT, Int.reduceLE, Int.reduceNe, Int.reduceBEq, Int.reduceToNat, ↓reduceIte, f3], by simp -implicitDefEqProofs only [go_sem, Nat.reduceEqDiff, Nat.reduceLT, Nat.reduceAdd, Nat.reduceMul, Int.reduceEq, Int.reduceLT, Int.reduceLE, Int.reduceNe, Int.reduceBEq, Int.reduceToNat, ↓reduceIte, f5], by simp -implicitDefEqProofs only [go_sem, Nat.reduceEqDiff, Nat.reduceLT, Nat.reduceAdd, Nat.reduceMul, Int.reduceEq, Int.reduceLT, Int.reduceLE, Int.reduceNe, Int.reduceBEq, Int.reduceToNat, ↓reduceIte, f6], by simp -implicitDefEqProofs only [go_sem, Nat.reduceEqDiff, Nat.reduceLT, Nat.reduceAdd, Nat.reduceMul, Int.reduceEq, Int.reduceLT, Int.reduceLE, Int.reduceNe, Int.reduceBEq, Int.reduceToNat, ↓reduceIte, f7, hov'], by simp -implicitDefEqProofs only [go_sem, Nat.reduceEqDiff, Nat.reduceLT, Nat.reduceAdd, Nat.reduceMul, Int.reduceEq, Int.reduceLT, Int.reduceLE, Int.reduceNe, Int.reduceBEq, Int.reduceToNat, ↓reduceIte, f37], by simp -implicitDefEqProofs only [go_sem, Nat.reduceEqDiff, Nat.reduceLT, Nat.reduceAdd, Nat.reduceMul, Int.reduceEq, Int.reduceLT, Int.reduceLE, Int.reduceNe, Int.reduceBEq, Int.reduceToNat, ↓reduceIte, f38], by simp -implicitDefEqProofs only [go_sem, Nat.reduceEqDiff, Nat.reduceLT, Nat.reduceAdd, Nat.reduceMul, Int.reduceEq, Int.reduceLT, Int.reduceLE, Int.reduceNe, Int.reduceBEq, Int.reduceToNat, ↓reduceIte], hatG, hok.next, by omega⟩
                            · have hatG := hat7.out oC hbC
                              simp -implicitDefEqProofs only [go_sem, Nat.reduceEqDiff, Nat.reduceLT, Nat.reduceAdd, Nat.reduceMul, Int.reduceEq, Int.reduceLT, Int.reduceLE, Int.reduceNe, Int.reduceBEq, Int.reduceToNat, ↓reduceIte, f3, f5, f6, f7, f37, f38, f39, d2]
                              exact ⟨m - 1, by omega, i + 1, _, _, _, _, _, _, _, _, _, by omega, by simp -implicitDefEqProofs only [go_sem, Nat.reduceEqDiff, Nat.reduceLT, Nat.reduceAdd, Nat.reduceMul, Int.reduceEq, Int.reduceLT, Int.reduceLE, Int.reduceNe, Int.reduceBEq, Int.reduceToNat, ↓reduceIte, f3], by simp -implicitDefEqProofs only [go_sem, Nat.reduceEqDiff, Nat.reduceLT, Nat.reduceAdd, Nat.reduceMul, Int.reduceEq, Int.reduceLT, Int.reduceLE, Int.reduceNe, Int.reduceBEq, Int.reduceToNat, ↓reduceIte, f5], by simp -implicitDefEqProofs only [go_sem, Nat.reduceEqDiff, Nat.reduceLT, Nat.reduceAdd, Nat.reduceMul, Int.reduceEq, Int.reduceLT, Int.reduceLE, Int.reduceNe, Int.reduceBEq, Int.reduceToNat, ↓reduceIte, f6], by simp -implicitDefEqProofs only [go_sem, Nat.reduceEqDiff, Nat.reduceLT, Nat.reduceAdd, Nat.reduceMul, Int.reduceEq, Int.reduceLT, Int.reduceLE, Int.reduceNe, Int.reduceBEq, Int.reduceToNat, ↓reduceIte, f7, hov'], by simp -implicitDefEqProofs only [go_sem, Nat.reduceEqDiff, Nat.reduceLT, Nat.reduceAdd, Nat.reduceMul, Int.reduceEq, Int.reduceLT, Int.reduceLE, Int.reduceNe, Int.reduceBEq, Int.reduceToNat, ↓reduceIte, f37], by simp -implicitDefEqProofs only [go_sem, Nat.reduceEqDiff, Nat.reduceLT, Nat.reduceAdd, Nat.reduceMul, Int.reduceEq, Int.reduceLT, Int.reduceLE, Int.reduceNe, Int.reduceBEq, Int.reduceToNat, ↓reduceIte, f38], by simp -implicitDefEqProofs only [go_sem, Nat.reduceEqDiff, Nat.reduceLT, Nat.reduceAdd, Nat.reduceMul, Int.reduceEq, Int.reduceLT, Int.reduceLE, Int.reduceNe, Int.reduceBEq, Int.reduceToNat, ↓reduceIte], hatG, hok.mark bs _, by omega⟩
                          · have q8 : decide ((D : Int) = 8) = false := decide_eq_false (by omega)
                            simp -implicitDefEqProofs only [go_sem, Nat.reduceEqDiff, Nat.reduceLT, Nat.reduceAdd, Nat.reduceMul, Int.reduceEq, Int.reduceLT, Int.reduceLE, Int.reduceNe, Int.reduceBEq, Int.reduceToNat, ↓reduceIte, f3, f5, f6, f7, f37, f38, f39, l9', dm, q1, q2, q3, q4, q5, q6, q7, q8]
                            refine newK_of ?_
                            intro w H8 hbw hnw hw8 s8 g8
                            simp -implicitDefEqProofs only [go_sem, Nat.reduceEqDiff, Nat.reduceLT, Nat.reduceAdd, Nat.reduceMul, Int.reduceEq, Int.reduceLT, Int.reduceLE, Int.reduceNe, Int.reduceBEq, Int.reduceToNat, ↓reduceIte, f3, f5, f6, f7, f37, f38, f39]
                            have hol := hok.l4
                            have hf7 : ov = .slice (some ⟨og, 0, none⟩) os.length ocap := hov'
                            refine AC.loop (LivI w0 H7 l bk r w n i st ts xs lv nm (.slice (some ab) n c) (.slice (some ⟨og, 0, none⟩) os.length ocap) os) (n := os.length) ⟨0, .slice none 0 0, [], by omega, by simp -implicitDefEqProofs only [go_sem, Nat.reduceEqDiff, Nat.reduceLT, Nat.reduceAdd, Nat.reduceMul, Int.reduceEq, Int.reduceLT, Int.reduceLE, Int.reduceNe, Int.reduceBEq, Int.reduceToNat, ↓reduceIte, f3], by simp -implicitDefEqProofs only [go_sem, Nat.reduceEqDiff, Nat.reduceLT, Nat.reduceAdd, Nat.reduceMul, Int.reduceEq, Int.reduceLT, Int.reduceLE, Int.reduceNe, Int.reduceBEq, Int.reduceToNat, ↓reduceIte, f5], by simp -implicitDefEqProofs only [go_sem, Nat.reduceEqDiff, Nat.reduceLT, Nat.reduceAdd, Nat.reduceMul, Int.reduceEq, Int.reduceLT, Int.reduceLE, Int.reduceNe, Int.reduceBEq, Int.reduceToNat, ↓reduceIte, f6], by simp -implicitDefEqProofs only [go_sem, Nat.reduceEqDiff, Nat.reduceLT, Nat.reduceAdd, Nat.reduceMul, Int.reduceEq, Int.reduceLT, Int.reduceLE, Int.reduceNe, Int.reduceBEq, Int.reduceToNat, ↓reduceIte, f7], by simp -implicitDefEqProofs only [go_sem, Nat.reduceEqDiff, Nat.reduceLT, Nat.reduceAdd, Nat.reduceMul, Int.reduceEq, Int.reduceLT, Int.reduceLE, Int.reduceNe, Int.reduceBEq, Int.reduceToNat, ↓reduceIte], by simp -implicitDefEqProofs only [go_sem, Nat.reduceEqDiff, Nat.reduceLT, Nat.reduceAdd, Nat.reduceMul, Int.reduceEq, Int.reduceLT, Int.reduceLE, Int.reduceNe, Int.reduceBEq, Int.reduceToNat, ↓reduceIte], by simp -implicitDefEqProofs only [go_sem, Nat.reduceEqDiff, Nat.reduceLT, Nat.reduceAdd, Nat.reduceMul, Int.reduceEq, Int.reduceLT, Int.reduceLE, Int.reduceNe, Int.reduceBEq, Int.reduceToNat, ↓reduceIte], by simp -implicitDefEqProofs only [go_sem, Nat.reduceEqDiff, Nat.reduceLT, Nat.reduceAdd, Nat.reduceMul, Int.reduceEq, Int.reduceLT, Int.reduceLE, Int.reduceNe, Int.reduceBEq, Int.reduceToNat, ↓reduceIte, f37], by simp -implicitDefEqProofs only [go_sem, Nat.reduceEqDiff, Nat.reduceLT, Nat.reduceAdd, Nat.reduceMul, Int.reduceEq, Int.reduceLT, Int.reduceLE, Int.reduceNe, Int.reduceBEq, Int.reduceToNat, ↓reduceIte, f38], by simp -implicitDefEqProofs only [go_sem, Nat.reduceEqDiff, Nat.reduceLT, Nat.reduceAdd, Nat.reduceMul, Int.reduceEq, Int.reduceLT, Int.reduceLE, Int.reduceNe, Int.reduceBEq, Int.reduceToNat, ↓reduceIte, f39], by simp -implicitDefEqProofs only [go_sem, Nat.reduceEqDiff, Nat.reduceLT, Nat.reduceAdd, Nat.reduceMul, Int.reduceEq, Int.reduceLT, Int.reduceLE, Int.reduceNe, Int.reduceBEq, Int.reduceToNat, ↓reduceIte, f7], by simp -implicitDefEqProofs only [go_sem, Nat.reduceEqDiff, Nat.reduceLT, Nat.reduceAdd, Nat.reduceMul, Int.reduceEq, Int.reduceLT, Int.reduceLE, Int.reduceNe, Int.reduceBEq, Int.reduceToNat, ↓reduceIte], by simp -implicitDefEqProofs only [go_sem, Nat.reduceEqDiff, Nat.reduceLT, Nat.reduceAdd, Nat.reduceMul, Int.reduceEq, Int.reduceLT, Int.reduceLE, Int.reduceNe, Int.reduceBEq, Int.reduceToNat, ↓reduceIte], s8, ⟨by simp [zsOf], .inl ⟨rfl, rfl⟩⟩, by simp [blk], BMap.empty hw8, fun p hp => by cases hp⟩ ?_
                            clear f3 f5 f6 f7 f37 f38 f39
                            rintro m2 F H9 ⟨j, sv, wm, hj, f3, f5, f6, f7, f15, f17, f18, f37, f38, f39, f96, f97, f98, sH, hrow, hfr, hbm, hwas⟩
                            have hat9 := hat7.sub sH
                            have hzl := zsOf_len lv os j
                            by_cases cj : j < os.length
                            · have j1 : decide ((j : Int) < (os.length : Int)) = true := by rw [dec_lt]; simp [cj]
                              have j2 : IntKind.i64.wrap ((j : Int) + 1) = (j + 1 : Nat) := by rw [i64_in] <;> omega
                              have j3 : decide ((0 : Int) ≤ (j : Int)) = true := by simp
                              obtain ⟨y, hy⟩ : ∃ y, os[j]? = some y := ⟨_, List.getElem?_eq_getElem cj⟩
                              obtain ⟨og2, ocap2, hov2, hlo2⟩ := row_at1 (w0 := w0) hat9.2.2.2.2.1 (k := j) (y := .int .u64 (y : Int)) (by unfold u64s; rw [List.getElem?_map, hy]; rfl)
                              rw [hf7] at hov2
                              cases hov2
                              have hget2 := hok.get y
                              have hpush := zsOf_push (lv := lv) hy
                              cases hly : lv y with
                              | none =>
                                rw [hly] at hget2 hpush
                                simp only [Option.map_none] at hget2
                                simp only [Option.toList_none, List.append_nil] at hpush
                                simp -implicitDefEqProofs only [go_sem, Nat.reduceEqDiff, Nat.reduceLT, Nat.reduceAdd, Nat.reduceMul, Int.reduceEq, Int.reduceLT, Int.reduceLE, Int.reduceNe, Int.reduceBEq, Int.reduceToNat, ↓reduceIte, f3, f5, f6, f7, f15, f17, f18, f37, f38, f39, f96, f97, f98, j1, j3, hlo2, lookK_int Try.underlying52 Try.underlying27 z34 hat9.2.2.1, hget2, Option.getD_none, Option.isSome_none]
                                refine newK_of ?_
                                intro b21 HA hb21 hn21 h21 s21 g21
                                simp -implicitDefEqProofs only [go_sem, Nat.reduceEqDiff, Nat.reduceLT, Nat.reduceAdd, Nat.reduceMul, Int.reduceEq, Int.reduceLT, Int.reduceLE, Int.reduceNe, Int.reduceBEq, Int.reduceToNat, ↓reduceIte, f3, f5, f6, f7, f15, f17, f18, f37, f38, f39, f96, f97, f98]
                                refine store_all h21 rfl (by simp [cell1_int, cell1_slice]) rfl ?_
                                intro HB h21 g21'
                                have sB : Sub H9 HB := Sub.ne2 hn21 g21 g21'
                                simp -implicitDefEqProofs only [go_sem, Nat.reduceEqDiff, Nat.reduceLT, Nat.reduceAdd, Nat.reduceMul, Int.reduceEq, Int.reduceLT, Int.reduceLE, Int.reduceNe, Int.reduceBEq, Int.reduceToNat, ↓reduceIte, f3, f5, f6, f7, f15, f17, f18, f37, f38, f39, f96, f97, f98, j2]
                                exact ⟨m2 - 1, by omega, j + 1, sv, wm, by omega, by simp -implicitDefEqProofs only [go_sem, Nat.reduceEqDiff, Nat.reduceLT, Nat.reduceAdd, Nat.reduceMul, Int.reduceEq, Int.reduceLT, Int.reduceLE, Int.reduceNe, Int.reduceBEq, Int.reduceToNat, ↓reduceIte, f3], by simp -implicitDefEqProofs only [go_sem, Nat.reduceEqDiff, Nat.reduceLT, Nat.reduceAdd, Nat.reduceMul, Int.reduceEq, Int.reduceLT, Int.reduceLE, Int.reduceNe, Int.reduceBEq, Int.reduceToNat, ↓reduceIte, f5], by simp -implicitDefEqProofs only [go_sem, Nat.reduceEqDiff, Nat.reduceLT, Nat.reduceAdd, Nat.reduceMul, Int.reduceEq, Int.reduceLT, Int.reduceLE, Int.reduceNe, Int.reduceBEq, Int.reduceToNat, ↓reduceIte, f6], by simp -implicitDefEqProofs only [go_sem, Nat.reduceEqDiff, Nat.reduceLT, Nat.reduceAdd, Nat.reduceMul, Int.reduceEq, Int.reduceLT, Int.reduceLE, Int.reduceNe, Int.reduceBEq, Int.reduceToNat, ↓reduceIte, f7], by simp -implicitDefEqProofs only [go_sem, Nat.reduceEqDiff, Nat.reduceLT, Nat.reduceAdd, Nat.reduceMul, Int.reduceEq, Int.reduceLT, Int.reduceLE, Int.reduceNe, Int.reduceBEq, Int.reduceToNat, ↓reduceIte, f15], by simp -implicitDefEqProofs only [go_sem, Nat.reduceEqDiff, Nat.reduceLT, Nat.reduceAdd, Nat.reduceMul, Int.reduceEq, Int.reduceLT, Int.reduceLE, Int.reduceNe, Int.reduceBEq, Int.reduceToNat, ↓reduceIte, f17], by simp -implicitDefEqProofs only [go_sem, Nat.reduceEqDiff, Nat.reduceLT, Nat.reduceAdd, Nat.reduceMul, Int.reduceEq, Int.reduceLT, Int.reduceLE, Int.reduceNe, Int.reduceBEq, Int.reduceToNat, ↓reduceIte, f18], by simp -implicitDefEqProofs only [go_sem, Nat.reduceEqDiff, Nat.reduceLT, Nat.reduceAdd, Nat.reduceMul, Int.reduceEq, Int.reduceLT, Int.reduceLE, Int.reduceNe, Int.reduceBEq, Int.reduceToNat, ↓reduceIte, f37], by simp -implicitDefEqProofs only [go_sem, Nat.reduceEqDiff, Nat.reduceLT, Nat.reduceAdd, Nat.reduceMul, Int.reduceEq, Int.reduceLT, Int.reduceLE, Int.reduceNe, Int.reduceBEq, Int.reduceToNat, ↓reduceIte, f38], by simp -implicitDefEqProofs only [go_sem, Nat.reduceEqDiff, Nat.reduceLT, Nat.reduceAdd, Nat.reduceMul, Int.reduceEq, Int.reduceLT, Int.reduceLE, Int.reduceNe, Int.reduceBEq, Int.reduceToNat, ↓reduceIte, f39], by simp -implicitDefEqProofs only [go_sem, Nat.reduceEqDiff, Nat.reduceLT, Nat.reduceAdd, Nat.reduceMul, Int.reduceEq, Int.reduceLT, Int.reduceLE, Int.reduceNe, Int.reduceBEq, Int.reduceToNat, ↓reduceIte, f96], by simp -implicitDefEqProofs only [go_sem, Nat.reduceEqDiff, Nat.reduceLT, Nat.reduceAdd, Nat.reduceMul, Int.reduceEq, Int.reduceLT, Int.reduceLE, Int.reduceNe, Int.reduceBEq, Int.reduceToNat, ↓reduceIte, f97], by simp -implicitDefEqProofs only [go_sem, Nat.reduceEqDiff, Nat.reduceLT, Nat.reduceAdd, Nat.reduceMul, Int.reduceEq, Int.reduceLT, Int.reduceLE, Int.reduceNe, Int.reduceBEq, Int.reduceToNat, ↓reduceIte], sH.trans sB, by rw [hpush]; exact hrow.keep fun b o _ ho => sB b o ho, hfr, hbm.keep fun o ho => sB w o ho, by rw [hpush]; exact hwas⟩
                              | some u =>
                                rw [hly] at hget2 hpush
                                simp only [Option.map_some, cv] at hget2
                                simp only [Option.toList_some] at hpush
                                have huc := (hat9.2.2.2.1 y u hly).cell
                                simp -implicitDefEqProofs only [go_sem, Nat.reduceEqDiff, Nat.reduceLT, Nat.reduceAdd, Nat.reduceMul, Int.reduceEq, Int.reduceLT, Int.reduceLE, Int.reduceNe, Int.reduceBEq, Int.reduceToNat, ↓reduceIte, f3, f5, f6, f7, f15, f17, f18, f37, f38, f39, f96, f97, f98, j1, j3, hlo2, lookK_int Try.underlying52 Try.underlying27 z34 hat9.2.2.1, hget2, Option.getD_some, Option.isSome_some]
                                refine newK_of ?_
                                intro b21 HA hb21 hn21 h21 s21 g21
                                simp -implicitDefEqProofs only [go_sem, Nat.reduceEqDiff, Nat.reduceLT, Nat.reduceAdd, Nat.reduceMul, Int.reduceEq, Int.reduceLT, Int.reduceLE, Int.reduceNe, Int.reduceBEq, Int.reduceToNat, ↓reduceIte, f3, f5, f6, f7, f15, f17, f18, f37, f38, f39, f96, f97, f98]
                                refine store_all h21 rfl (by simp [cell1_int, huc]) rfl ?_
                                intro HB h21 g21'
                                have sB : Sub H9 HB := Sub.ne2 hn21 g21 g21'
                                have l21 := ldc w0 h21 4
                                have bs1 : bsCells Try.prog 34 1 #[(0, .agg #[.int .u64 (u.own : Int), .int .u64 (u.xmin : Int), .int .u64 (u.xmax : Int), u.v])] = some #[.int .u64 (u.own : Int), .int .u64 (u.xmin : Int), .int .u64 (u.xmax : Int), u.v] := by kernel_rfl
                                simp -implicitDefEqProofs only [go_sem, Nat.reduceEqDiff, Nat.reduceLT, Nat.reduceAdd, Nat.reduceMul, Int.reduceEq, Int.reduceLT, Int.reduceLE, Int.reduceNe, Int.reduceBEq, Int.reduceToNat, ↓reduceIte, f3, f5, f6, f7, f15, f17, f18, f37, f38, f39, f96, f97, f98, l21, ldK_agg, bs1]
                                refine newK_of ?_
                                intro nb HC hnb hnn hCn sC gC
                                simp -implicitDefEqProofs only [go_sem, Nat.reduceEqDiff, Nat.reduceLT, Nat.reduceAdd, Nat.reduceMul, Int.reduceEq, Int.reduceLT, Int.reduceLE, Int.reduceNe, Int.reduceBEq, Int.reduceToNat, ↓reduceIte, f3, f5, f6, f7, f15, f17, f18, f37, f38, f39, f96, f97, f98]
                                refine aop_append_lit (t := 58) (x := .tmp 109) (y := .tmp 111) (c := 1) Try.underlying58 s34 b34 z34 rfl (v := sv) (by simp -implicitDefEqProofs only [go_sem, Nat.reduceEqDiff, Nat.reduceLT, Nat.reduceAdd, Nat.reduceMul, Int.reduceEq, Int.reduceLT, Int.reduceLE, Int.reduceNe, Int.reduceBEq, Int.reduceToNat, ↓reduceIte]) ((hrow.keep (H' := HB) fun b o _ ho => sB b o ho).keep (H' := HC) fun b o _ ho => sC b o ho) hCn (by simp -implicitDefEqProofs only [go_sem, Nat.reduceEqDiff, Nat.reduceLT, Nat.reduceAdd, Nat.reduceMul, Int.reduceEq, Int.reduceLT, Int.reduceLE, Int.reduceNe, Int.reduceBEq, Int.reduceToNat, ↓reduceIte]) rfl (by simp [cell1_int, huc]) (by omega) (by omega) (by omega) ?_
                                intro g HD hg hHD cap hrowD
                                obtain ⟨sD, hgn, hgw⟩ := app_fresh (sH.trans (sB.trans sC)) hfr hg hHD
                                have ngt : ∀ b o, HC b = some o → (some b = blk sv → False) → HD b = some o := fun b o ho hn => by
                                  rw [hHD b (fun e => ?_)]
                                  · exact ho
                                  · rcases hg with e1 | ⟨e1, _⟩
                                    · exact hn (by rw [e]; exact e1)
                                    · rw [e, e1] at ho; cases ho
                                have h21D := ngt b21 _ (sC _ _ h21) (fun e => by
                                  obtain ⟨o, ho⟩ := Row.own hrow e.symm
                                  rw [hn21] at ho; cases ho)
                                have hbmD : BMap HD w .u64 wm := hbm.keep fun o ho => ngt w o (sC _ _ (sB _ _ ho)) (fun e => by
                                  have := Row.tyAt hrow e.symm
                                  rw [imap_ty hbm.imap] at this; cases this)
                                have hatD := hat7.sub sD
                                have l21D := ldc w0 h21D 4
                                simp -implicitDefEqProofs only [go_sem, Nat.reduceEqDiff, Nat.reduceLT, Nat.reduceAdd, Nat.reduceMul, Int.reduceEq, Int.reduceLT, Int.reduceLE, Int.reduceNe, Int.reduceBEq, Int.reduceToNat, ↓reduceIte, f3, f5, f6, f7, f15, f17, f18, f37, f38, f39, f96, f97, f98, l21D, ldK_agg]
                                refine (tableQ_ok hatD.2.1 (by omega) hatD.1 hb1 (hatD.2.2.2.1 y u hly) nm).mono ?_
                                rintro rr HE ⟨⟨nm', cv', a', b', rfl, hcv'⟩, sE⟩
                                obtain ⟨tid, htid⟩ : ∃ tid, tid = tabId (findT st u ts nm) := ⟨_, rfl⟩
                                have htl : tid ≤ i := by rw [htid]; exact tabId_le hok u nm
                                rw [← htid]
                                simp -implicitDefEqProofs only [go_sem, Nat.reduceEqDiff, Nat.reduceLT, Nat.reduceAdd, Nat.reduceMul, Int.reduceEq, Int.reduceLT, Int.reduceLE, Int.reduceNe, Int.reduceBEq, Int.reduceToNat, ↓reduceIte, f3, f5, f6, f7, f15, f17, f18, f37, f38, f39, f96, f97, f98]
                                refine newK_of ?_
                                intro b23 HFa hb23 hn23 h23 s23 g23
                                simp -implicitDefEqProofs only [go_sem, Nat.reduceEqDiff, Nat.reduceLT, Nat.reduceAdd, Nat.reduceMul, Int.reduceEq, Int.reduceLT, Int.reduceLE, Int.reduceNe, Int.reduceBEq, Int.reduceToNat, ↓reduceIte, f3, f5, f6, f7, f15, f17, f18, f37, f38, f39, f96, f97, f98]
                                refine store_all h23 rfl (by simp [cell1_int, cell1_string, hcv']) rfl ?_
                                intro HG h23 g23'
                                have sG : Sub HE HG := Sub.ne2 hn23 g23 g23'
                                have hatG := (hatD.sub sE).sub sG
                                have h21G := sG _ _ (sE _ _ h21D)
                                have l21G := ldc w0 h21G 4
                                have l23 := ld_own w0 h23
                                simp -implicitDefEqProofs only [go_sem, Nat.reduceEqDiff, Nat.reduceLT, Nat.reduceAdd, Nat.reduceMul, Int.reduceEq, Int.reduceLT, Int.reduceLE, Int.reduceNe, Int.reduceBEq, Int.reduceToNat, ↓reduceIte, f3, f5, f6, f7, f15, f17, f18, f37, f38, f39, f96, f97, f98]
                                refine vdraw_t [⟨0, .p, [], []⟩, ⟨1, .p, [], []⟩, ⟨2, .p, [], []⟩, ⟨3, .n, [], []⟩, ⟨4, .p, [], []⟩, ⟨5, .p, [], []⟩, ⟨6, .n, [], []⟩, ⟨7, .p, [], []⟩, ⟨8, .n, [], []⟩, ⟨9, .c, [3], []⟩, ⟨10, .n, [], []⟩, ⟨11, .n, [], []⟩, ⟨12, .p, [], []⟩, ⟨13, .p, [], []⟩, ⟨14, .c, [], []⟩] [0, 0, 0, 4, 0, 0, 0, 0, 128, 496, 1008, 2032, 4080, 8188, 16383] mixed (by kernel_rfl) ?_
                                simp -implicitDefEqProofs only [go_sem, Nat.reduceEqDiff, Nat.reduceLT, Nat.reduceAdd, Nat.reduceMul, Int.reduceEq, Int.reduceLT, Int.reduceLE, Int.reduceNe, Int.reduceBEq, Int.reduceToNat, ↓reduceIte, f3, f5, f6, f7, f15, f17, f18, f37, f38, f39, f96, f97, f98, l21G, l23, ldK_agg]
                                refine (indexes_ok hatG.2.1 (by omega) (by omega) hatG.1 hb1 (hatG.2.2.2.1 y u hly) tid).mono ?_
                                rintro rr HJ ⟨⟨ia, ic, rfl⟩, sJ⟩
                                obtain ⟨cnt, hcnt⟩ : ∃ cnt, cnt = (xs.filter (idxP st u ts tid)).length := ⟨_, rfl⟩
                                have hcl : cnt ≤ xs.length := by rw [hcnt]; exact List.length_filter_le _ _
                                rw [← hcnt]
                                have hpv : pvOf st u ts xs nm = tid + 1000 * cnt := by rw [hcnt, htid]; rfl
                                have v1 : IntKind.u64.wrap (cnt : Int) = (cnt : Int) := by rw [u64_in] <;> omega
                                have v2 : IntKind.u64.wrap (1000 * (cnt : Int)) = ((1000 * cnt : Nat) : Int) := by rw [u64_in] <;> omega
                                have v3 : IntKind.u64.wrap ((tid : Int) + ((1000 * cnt : Nat) : Int)) = ((tid + 1000 * cnt : Nat) : Int) := by rw [u64_in] <;> omega
                                have l21J := ldc w0 (sJ _ _ h21G) 4
                                have l23J := ld_own w0 (sJ _ _ h23)
                                simp -implicitDefEqProofs only [go_sem, Nat.reduceEqDiff, Nat.reduceLT, Nat.reduceAdd, Nat.reduceMul, Int.reduceEq, Int.reduceLT, Int.reduceLE, Int.reduceNe, Int.reduceBEq, Int.reduceToNat, ↓reduceIte, f3, f5, f6, f7, f15, f17, f18, f37, f38, f39, f96, f97, f98, l21J, l23J, ldK_agg, v1, v2, v3]
                                have hbmJ : BMap HJ w .u64 wm := hbmD.keep fun o ho => sJ w o (sG _ _ (sE _ _ ho))
                                refine aop_mapUpdateB (r := w) (n := (y : Int)) (v := .int .u64 ((tid + 1000 * cnt : Nat) : Int)) Try.underlying59 Try.underlying27 hbmJ (by simp -implicitDefEqProofs only [go_sem, Nat.reduceEqDiff, Nat.reduceLT, Nat.reduceAdd, Nat.reduceMul, Int.reduceEq, Int.reduceLT, Int.reduceLE, Int.reduceNe, Int.reduceBEq, Int.reduceToNat, ↓reduceIte, f18]) (by simp -implicitDefEqProofs only [go_sem, Nat.reduceEqDiff, Nat.reduceLT, Nat.reduceAdd, Nat.reduceMul, Int.reduceEq, Int.reduceLT, Int.reduceLE, Int.reduceNe, Int.reduceBEq, Int.reduceToNat, ↓reduceIte]) (by simp -implicitDefEqProofs only [go_sem, Nat.reduceEqDiff, Nat.reduceLT, Nat.reduceAdd, Nat.reduceMul, Int.reduceEq, Int.reduceLT, Int.reduceLE, Int.reduceNe, Int.reduceBEq, Int.reduceToNat, ↓reduceIte]) ?_
                                intro HK hbmK hfK
                                have sK : ∀ b o, b ≠ w → HD b = some o → HK b = some o := fun b o hn ho => by rw [hfK b hn]; exact sJ _ _ (sG _ _ (sE _ _ ho))
                                have nwg : w ≠ g := by
                                  rintro rfl
                                  rcases hg with e | ⟨e, _⟩
                                  · have := Row.tyAt hrow e.symm
                                    rw [imap_ty hbm.imap] at this; cases this
                                  · obtain ⟨o, ho⟩ := IMap.own hbm.imap
                                    rw [sC _ _ (sB _ _ ho)] at e; cases e
                                simp -implicitDefEqProofs only [go_sem, Nat.reduceEqDiff, Nat.reduceLT, Nat.reduceAdd, Nat.reduceMul, Int.reduceEq, Int.reduceLT, Int.reduceLE, Int.reduceNe, Int.reduceBEq, Int.reduceToNat, ↓reduceIte, f3, f5, f6, f7, f15, f17, f18, f37, f38, f39, f96, f97, f98, j2]
                                refine ⟨m2 - 1, by omega, j + 1, .slice (some ⟨g, 0, none⟩) ((zsOf lv os j).length + 1) cap, _, by omega, by simp -implicitDefEqProofs only [go_sem, Nat.reduceEqDiff, Nat.reduceLT, Nat.reduceAdd, Nat.reduceMul, Int.reduceEq, Int.reduceLT, Int.reduceLE, Int.reduceNe, Int.reduceBEq, Int.reduceToNat, ↓reduceIte, f3], by simp -implicitDefEqProofs only [go_sem, Nat.reduceEqDiff, Nat.reduceLT, Nat.reduceAdd, Nat.reduceMul, Int.reduceEq, Int.reduceLT, Int.reduceLE, Int.reduceNe, Int.reduceBEq, Int.reduceToNat, ↓reduceIte, f5], by simp -implicitDefEqProofs only [go_sem, Nat.reduceEqDiff, Nat.reduceLT, Nat.reduceAdd, Nat.reduceMul, Int.reduceEq, Int.reduceLT, Int.reduceLE, Int.reduceNe, Int.reduceBEq, Int.reduceToNat, ↓reduceIte, f6], by simp -implicitDefEqProofs only [go_sem, Nat.reduceEqDiff, Nat.reduceLT, Nat.reduceAdd, Nat.reduceMul, Int.reduceEq, Int.reduceLT, Int.reduceLE, Int.reduceNe, Int.reduceBEq, Int.reduceToNat, ↓reduceIte, f7], by simp -implicitDefEqProofs only [go_sem, Nat.reduceEqDiff, Nat.reduceLT, Nat.reduceAdd, Nat.reduceMul, Int.reduceEq, Int.reduceLT, Int.reduceLE, Int.reduceNe, Int.reduceBEq, Int.reduceToNat, ↓reduceIte, f15], by simp -implicitDefEqProofs only [go_sem, Nat.reduceEqDiff, Nat.reduceLT, Nat.reduceAdd, Nat.reduceMul, Int.reduceEq, Int.reduceLT, Int.reduceLE, Int.reduceNe, Int.reduceBEq, Int.reduceToNat, ↓reduceIte], by simp -implicitDefEqProofs only [go_sem, Nat.reduceEqDiff, Nat.reduceLT, Nat.reduceAdd, Nat.reduceMul, Int.reduceEq, Int.reduceLT, Int.reduceLE, Int.reduceNe, Int.reduceBEq, Int.reduceToNat, ↓reduceIte, f18], by simp -implicitDefEqProofs only [go_sem, Nat.reduceEqDiff, Nat.reduceLT, Nat.reduceAdd, Nat.reduceMul, Int.reduceEq, Int.reduceLT, Int.reduceLE, Int.reduceNe, Int.reduceBEq, Int.reduceToNat, ↓reduceIte, f37], by simp -implicitDefEqProofs only [go_sem, Nat.reduceEqDiff, Nat.reduceLT, Nat.reduceAdd, Nat.reduceMul, Int.reduceEq, Int.reduceLT, Int.reduceLE, Int.reduceNe, Int.reduceBEq, Int.reduceToNat, ↓reduceIte, f38], by simp -implicitDefEqProofs only [go_sem, Nat.reduceEqDiff, Nat.reduceLT, Nat.reduceAdd, Nat.reduceMul, Int.reduceEq, Int.reduceLT, Int.reduceLE, Int.reduceNe, Int.reduceBEq, Int.reduceToNat, ↓reduceIte, f39], by simp -implicitDefEqProofs only [go_sem, Nat.reduceEqDiff, Nat.reduceLT, Nat.reduceAdd, Nat.reduceMul, Int.reduceEq, Int.reduceLT, Int.reduceLE, Int.reduceNe, Int.reduceBEq, Int.reduceToNat, ↓reduceIte, f96], by simp -implicitDefEqProofs only [go_sem, Nat.reduceEqDiff, Nat.reduceLT, Nat.reduceAdd, Nat.reduceMul, Int.reduceEq, Int.reduceLT, Int.reduceLE, Int.reduceNe, Int.reduceBEq, Int.reduceToNat, ↓reduceIte, f97], by simp -implicitDefEqProofs only [go_sem, Nat.reduceEqDiff, Nat.reduceLT, Nat.reduceAdd, Nat.reduceMul, Int.reduceEq, Int.reduceLT, Int.reduceLE, Int.reduceNe, Int.reduceBEq, Int.reduceToNat, ↓reduceIte], fun b o ho => sK b o (fun e => by rw [e, hnw] at ho; cases ho) (sD b o ho), ?_, ?_, hbmK, ?_⟩
                                · rw [hpush, List.length_append, List.length_singleton, List.flatMap_append, List.flatMap_cons, List.flatMap_nil, List.append_nil]
                                  refine Row.keep (H := HD) hrowD fun b o hb ho => sK b o (fun e => ?_) ho
                                  simp only [blk, Option.some.injEq] at hb
                                  exact nwg (by rw [← e, hb])
                                · intro b hb
                                  simp only [blk, Option.some.injEq] at hb
                                  subst hb; exact ⟨hgn, hgw⟩
                                · rw [hpush, ← hpv]
                                  exact hwas.put hly
                            · have j1 : decide ((j : Int) < (os.length : Int)) = false := by rw [dec_lt]; simp; omega
                              have hjn : j = os.length := by omega
                              subst hjn
                              have hzc : ∀ z ∈ zsOf lv os os.length, cell1 z.v = true := fun z hz => by
                                unfold zsOf at hz
                                obtain ⟨y, _, hy⟩ := List.mem_filterMap.1 hz
                                exact (hat9.2.2.2.1 y z hy).cell
                              simp -implicitDefEqProofs only [go_sem, Nat.reduceEqDiff, Nat.reduceLT, Nat.reduceAdd, Nat.reduceMul, Int.reduceEq, Int.reduceLT, Int.reduceLE, Int.reduceNe, Int.reduceBEq, Int.reduceToNat, ↓reduceIte, f3, f5, f6, f7, f15, f17, f18, f37, f38, f39, f96, f97, f98, j1]
                              refine (horizon_log hat9.1 (by omega) hrow (by omega) hzc).mono ?_
                              rintro rr HA ⟨rfl, rfl⟩
                              simp -implicitDefEqProofs only [go_sem, Nat.reduceEqDiff, Nat.reduceLT, Nat.reduceAdd, Nat.reduceMul, Int.reduceEq, Int.reduceLT, Int.reduceLE, Int.reduceNe, Int.reduceBEq, Int.reduceToNat, ↓reduceIte, f3, f5, f6, f7, f15, f17, f18, f37, f38, f39, f96, f97, f98]
                              refine (prune_ok hat9.2.1 (by omega) (by omega) hat9.1 (by omega) (hzn (1 + st.length) ((zsOf lv os os.length).map Shot.xmin))).mono ?_
                              rintro rr HB ⟨oB, hbB⟩
                              have hatB := hat9.out oB hbB
                              have hokB := hok.prune (hzn (1 + st.length) ((zsOf lv os os.length).map Shot.xmin))
                              have hpv : ∀ z ∈ zsOf lv os os.length, stOf 1 st (z.own : Int) = 1 → pvOf st z (keepT st (hzn (1 + st.length) ((zsOf lv os os.length).map Shot.xmin)) ts) (keepX st (hzn (1 + st.length) ((zsOf lv os os.length).map Shot.xmin)) ts xs) nm = pvOf st z ts xs nm := fun z hz ho => prune_pv hz ho hok.ids nm
                              obtain ⟨ts', hts'⟩ : ∃ ts', ts' = keepT st (hzn (1 + st.length) ((zsOf lv os os.length).map Shot.xmin)) ts := ⟨_, rfl⟩
                              obtain ⟨xs', hxs'⟩ : ∃ xs', xs' = keepX st (hzn (1 + st.length) ((zsOf lv os os.length).map Shot.xmin)) ts xs := ⟨_, rfl⟩
                              rw [← hts', ← hxs'] at hokB hpv
                              have hatB : PrAt HB l S st bk ts' xs' last r ps lv ov os := by rw [hts', hxs']; exact hatB
                              have hbmB : BMap HB w .u64 wm := hbm.keep fun o ho => oB w o (by rw [imap_ty hbm.imap]; rfl) ho
                              obtain ⟨es, ck, hwB, hwe, hwb⟩ := hbmB
                              simp -implicitDefEqProofs only [go_sem, Nat.reduceEqDiff, Nat.reduceLT, Nat.reduceAdd, Nat.reduceMul, Int.reduceEq, Int.reduceLT, Int.reduceLE, Int.reduceNe, Int.reduceBEq, Int.reduceToNat, ↓reduceIte, f3, f5, f6, f7, f15, f17, f18, f37, f38, f39, f96, f97, f98]
                              refine rng_map (r := w) (dst := none) (ty := 0) (pos := "") (after := #[]) (g := none) Try.underlying59 (by simp -implicitDefEqProofs only [go_sem, Nat.reduceEqDiff, Nat.reduceLT, Nat.reduceAdd, Nat.reduceMul, Int.reduceEq, Int.reduceLT, Int.reduceLE, Int.reduceNe, Int.reduceBEq, Int.reduceToNat, ↓reduceIte, f18]) hwB ?_
                              refine newK_of ?_
                              intro it HC hbit hnit hit sC gC
                              have hatC := hatB.sub sC
                              simp -implicitDefEqProofs only [go_sem, Nat.reduceEqDiff, Nat.reduceLT, Nat.reduceAdd, Nat.reduceMul, Int.reduceEq, Int.reduceLT, Int.reduceLE, Int.reduceNe, Int.reduceBEq, Int.reduceToNat, ↓reduceIte, f3, f5, f6, f7, f15, f17, f18, f37, f38, f39, f96, f97, f98]
                              refine AC.loop (RnI l bk r w it ck n i es nm (.slice (some ab) n c) (.slice (some ⟨og, 0, none⟩) os.length ocap) fun H => PrAt H l S st bk ts' xs' last r ps lv ov os) (n := unseenN es #[]) ⟨#[], rfl, by simp -implicitDefEqProofs only [go_sem, Nat.reduceEqDiff, Nat.reduceLT, Nat.reduceAdd, Nat.reduceMul, Int.reduceEq, Int.reduceLT, Int.reduceLE, Int.reduceNe, Int.reduceBEq, Int.reduceToNat, ↓reduceIte, f3], by simp -implicitDefEqProofs only [go_sem, Nat.reduceEqDiff, Nat.reduceLT, Nat.reduceAdd, Nat.reduceMul, Int.reduceEq, Int.reduceLT, Int.reduceLE, Int.reduceNe, Int.reduceBEq, Int.reduceToNat, ↓reduceIte, f5], by simp -implicitDefEqProofs only [go_sem, Nat.reduceEqDiff, Nat.reduceLT, Nat.reduceAdd, Nat.reduceMul, Int.reduceEq, Int.reduceLT, Int.reduceLE, Int.reduceNe, Int.reduceBEq, Int.reduceToNat, ↓reduceIte, f6], by simp -implicitDefEqProofs only [go_sem, Nat.reduceEqDiff, Nat.reduceLT, Nat.reduceAdd, Nat.reduceMul, Int.reduceEq, Int.reduceLT, Int.reduceLE, Int.reduceNe, Int.reduceBEq, Int.reduceToNat, ↓reduceIte, f7], by simp -implicitDefEqProofs only [go_sem, Nat.reduceEqDiff, Nat.reduceLT, Nat.reduceAdd, Nat.reduceMul, Int.reduceEq, Int.reduceLT, Int.reduceLE, Int.reduceNe, Int.reduceBEq, Int.reduceToNat, ↓reduceIte, f15], by simp -implicitDefEqProofs only [go_sem, Nat.reduceEqDiff, Nat.reduceLT, Nat.reduceAdd, Nat.reduceMul, Int.reduceEq, Int.reduceLT, Int.reduceLE, Int.reduceNe, Int.reduceBEq, Int.reduceToNat, ↓reduceIte, f37], by simp -implicitDefEqProofs only [go_sem, Nat.reduceEqDiff, Nat.reduceLT, Nat.reduceAdd, Nat.reduceMul, Int.reduceEq, Int.reduceLT, Int.reduceLE, Int.reduceNe, Int.reduceBEq, Int.reduceToNat, ↓reduceIte, f38], by simp -implicitDefEqProofs only [go_sem, Nat.reduceEqDiff, Nat.reduceLT, Nat.reduceAdd, Nat.reduceMul, Int.reduceEq, Int.reduceLT, Int.reduceLE, Int.reduceNe, Int.reduceBEq, Int.reduceToNat, ↓reduceIte, f39], by simp -implicitDefEqProofs only [go_sem, Nat.reduceEqDiff, Nat.reduceLT, Nat.reduceAdd, Nat.reduceMul, Int.reduceEq, Int.reduceLT, Int.reduceLE, Int.reduceNe, Int.reduceBEq, Int.reduceToNat, ↓reduceIte], hit, sC _ _ hwB, hatC⟩ ?_
                              clear f3 f5 f6 f7 f15 f17 f18 f37 f38 f39 f96 f97 f98
                              have l1' := hokB.l2
                              have l2' := hokB.l3
                              rintro m3 F HD ⟨seen, hm3, f3, f5, f6, f7, f15, f37, f38, f39, f143, hit, hw, hatD⟩
                              simp -implicitDefEqProofs only [go_sem, Nat.reduceEqDiff, Nat.reduceLT, Nat.reduceAdd, Nat.reduceMul, Int.reduceEq, Int.reduceLT, Int.reduceLE, Int.reduceNe, Int.reduceBEq, Int.reduceToNat, ↓reduceIte, f3, f5, f6, f7, f15, f37, f38, f39, f143]
                              refine aop_next_map (it := it) (c := ck) (es := es) (seen := seen) (by simp -implicitDefEqProofs only [go_sem, Nat.reduceEqDiff, Nat.reduceLT, Nat.reduceAdd, Nat.reduceMul, Int.reduceEq, Int.reduceLT, Int.reduceLE, Int.reduceNe, Int.reduceBEq, Int.reduceToNat, ↓reduceIte, f143]) hit hw hwb (fun hall => ?_) (fun e he hs => ?_)
                              · simp -implicitDefEqProofs only [go_sem, Nat.reduceEqDiff, Nat.reduceLT, Nat.reduceAdd, Nat.reduceMul, Int.reduceEq, Int.reduceLT, Int.reduceLE, Int.reduceNe, Int.reduceBEq, Int.reduceToNat, ↓reduceIte, f3, f5, f6, f7, f15, f37, f38, f39, f143, d2]
                                exact ⟨m - 1, by omega, i + 1, _, _, _, _, _, _, _, _, _, by omega, by simp -implicitDefEqProofs only [go_sem, Nat.reduceEqDiff, Nat.reduceLT, Nat.reduceAdd, Nat.reduceMul, Int.reduceEq, Int.reduceLT, Int.reduceLE, Int.reduceNe, Int.reduceBEq, Int.reduceToNat, ↓reduceIte, f3], by simp -implicitDefEqProofs only [go_sem, Nat.reduceEqDiff, Nat.reduceLT, Nat.reduceAdd, Nat.reduceMul, Int.reduceEq, Int.reduceLT, Int.reduceLE, Int.reduceNe, Int.reduceBEq, Int.reduceToNat, ↓reduceIte, f5], by simp -implicitDefEqProofs only [go_sem, Nat.reduceEqDiff, Nat.reduceLT, Nat.reduceAdd, Nat.reduceMul, Int.reduceEq, Int.reduceLT, Int.reduceLE, Int.reduceNe, Int.reduceBEq, Int.reduceToNat, ↓reduceIte, f6], by simp -implicitDefEqProofs only [go_sem, Nat.reduceEqDiff, Nat.reduceLT, Nat.reduceAdd, Nat.reduceMul, Int.reduceEq, Int.reduceLT, Int.reduceLE, Int.reduceNe, Int.reduceBEq, Int.reduceToNat, ↓reduceIte, f7, hf7], by simp -implicitDefEqProofs only [go_sem, Nat.reduceEqDiff, Nat.reduceLT, Nat.reduceAdd, Nat.reduceMul, Int.reduceEq, Int.reduceLT, Int.reduceLE, Int.reduceNe, Int.reduceBEq, Int.reduceToNat, ↓reduceIte, f37], by simp -implicitDefEqProofs only [go_sem, Nat.reduceEqDiff, Nat.reduceLT, Nat.reduceAdd, Nat.reduceMul, Int.reduceEq, Int.reduceLT, Int.reduceLE, Int.reduceNe, Int.reduceBEq, Int.reduceToNat, ↓reduceIte, f38], by simp -implicitDefEqProofs only [go_sem, Nat.reduceEqDiff, Nat.reduceLT, Nat.reduceAdd, Nat.reduceMul, Int.reduceEq, Int.reduceLT, Int.reduceLE, Int.reduceNe, Int.reduceBEq, Int.reduceToNat, ↓reduceIte], hatD, hokB, by omega⟩
                              · have nit : ∀ b, b ≠ it → (HD.set it (.mapIter (some w) ck (seen.push e.born) ck)) b = HD b := fun b hb => Hp.set_ne _ _ _ _ hb
                                have hit2 := Hp.set_same HD it (.mapIter (some w) ck (seen.push e.born) ck)
                                have tit : tyAt HD it = none := by unfold tyAt; rw [hit]
                                generalize HD.set it (.mapIter (some w) ck (seen.push e.born) ck) = HE at nit hit2 ⊢
                                have nwi : w ≠ it := fun e => by rw [e, hit] at hw; cases hw
                                have nri : r ≠ it := fun e => by
                                  obtain ⟨es', ck', q1, _⟩ := hatD.2.2.1
                                  rw [e, hit] at q1; cases q1
                                have hwE : HE w = some (.map es ck) := by rw [nit w nwi]; exact hw
                                have hatE : PrAt HE l S st bk ts' xs' last r ps lv ov os := hatD.odd tit nit (hatD.2.2.1.keep fun o ho => by rw [nit r nri]; exact ho) fun x z hz => ⟨hatD.2.2.2.1 x z hz, fun b hb => hatD.2.2.2.2.2 x z b hz hb⟩
                                simp -implicitDefEqProofs only [go_sem, Nat.reduceEqDiff, Nat.reduceLT, Nat.reduceAdd, Nat.reduceMul, Int.reduceEq, Int.reduceLT, Int.reduceLE, Int.reduceNe, Int.reduceBEq, Int.reduceToNat, ↓reduceIte, f3, f5, f6, f7, f15, f37, f38, f39, f143]
                                refine aop_entry (it := it) (c := ck) (s := ck) (b := e.born) (es := es) (seen := seen) (by simp -implicitDefEqProofs only [go_sem, Nat.reduceEqDiff, Nat.reduceLT, Nat.reduceAdd, Nat.reduceMul, Int.reduceEq, Int.reduceLT, Int.reduceLE, Int.reduceNe, Int.reduceBEq, Int.reduceToNat, ↓reduceIte, f143]) hit2 hwE ⟨e, he, rfl⟩ (fun e2 he2 => ?_)
                                obtain ⟨y, u, hly, huz, hke, hve⟩ : ∃ (y : Nat) (u : Shot), lv y = some u ∧ u ∈ zsOf lv os os.length ∧ e2.key = .int .u64 (y : Int) ∧ e2.val = .int .u64 (pvOf st u ts xs nm : Nat) := by
                                  have h1 : (e2.key, e2.val) ∈ wm.map (fun p => (Value.int IntKind.u64 p.1, p.2)) := by rw [← hwe]; exact List.mem_map.2 ⟨e2, he2, rfl⟩
                                  obtain ⟨p, hp, hpe⟩ := List.mem_map.1 h1
                                  obtain ⟨y, u, g1, g2, g3⟩ := hwas p hp
                                  rw [g3] at hpe
                                  simp only [Prod.mk.injEq] at hpe
                                  exact ⟨y, u, g1, g2, hpe.1.symm, hpe.2.symm⟩
                                rw [hke, hve]
                                have hget2 := hok.get y
                                rw [hly] at hget2
                                simp only [Option.map_some, cv] at hget2
                                have huo := hok.live y u hly
                                have hpu := hpv u huz (by rw [huo.2]; exact huo.1)
                                have huE := hatE.2.2.2.1 y u hly
                                simp -implicitDefEqProofs only [go_sem, Nat.reduceEqDiff, Nat.reduceLT, Nat.reduceAdd, Nat.reduceMul, Int.reduceEq, Int.reduceLT, Int.reduceLE, Int.reduceNe, Int.reduceBEq, Int.reduceToNat, ↓reduceIte, f3, f5, f6, f7, f15, f37, f38, f39, f143, lookK_int Try.underlying52 Try.underlying27 z34 hatE.2.2.1, hget2, Option.getD_some]
                                refine (tableQ_ok hatE.2.1 (by omega) hatE.1 hb1 huE nm).mono ?_
                                rintro rr HG ⟨⟨nm', cv', a', b', rfl, hcv'⟩, sG⟩
                                obtain ⟨tid, htid⟩ : ∃ tid, tid = tabId (findT st u ts' nm) := ⟨_, rfl⟩
                                have htl : tid ≤ i + 1 := by rw [htid]; exact tabId_le hokB u nm
                                rw [← htid]
                                simp -implicitDefEqProofs only [go_sem, Nat.reduceEqDiff, Nat.reduceLT, Nat.reduceAdd, Nat.reduceMul, Int.reduceEq, Int.reduceLT, Int.reduceLE, Int.reduceNe, Int.reduceBEq, Int.reduceToNat, ↓reduceIte, f3, f5, f6, f7, f15, f37, f38, f39, f143]
                                refine newK_of ?_
                                intro b27 HI hb27 hn27 h27 s27 g27
                                simp -implicitDefEqProofs only [go_sem, Nat.reduceEqDiff, Nat.reduceLT, Nat.reduceAdd, Nat.reduceMul, Int.reduceEq, Int.reduceLT, Int.reduceLE, Int.reduceNe, Int.reduceBEq, Int.reduceToNat, ↓reduceIte, f3, f5, f6, f7, f15, f37, f38, f39, f143]
                                refine store_all h27 rfl (by simp [cell1_int, cell1_string, hcv']) rfl ?_
                                intro HJ h27 g27'
                                have sJ : Sub HG HJ := Sub.ne2 hn27 g27 g27'
                                have hatJ := (hatE.sub sG).sub sJ
                                have l27 := ld_own w0 h27
                                simp -implicitDefEqProofs only [go_sem, Nat.reduceEqDiff, Nat.reduceLT, Nat.reduceAdd, Nat.reduceMul, Int.reduceEq, Int.reduceLT, Int.reduceLE, Int.reduceNe, Int.reduceBEq, Int.reduceToNat, ↓reduceIte, f3, f5, f6, f7, f15, f37, f38, f39, f143]
                                refine vdraw_t [⟨0, .p, [], []⟩, ⟨1, .n, [], []⟩, ⟨2, .p, [], []⟩, ⟨3, .p, [], []⟩, ⟨4, .p, [], []⟩, ⟨5, .p, [], []⟩, ⟨6, .n, [], []⟩, ⟨7, .p, [], []⟩, ⟨8, .n, [], []⟩, ⟨14, .p, [], []⟩, ⟨9, .c, [1], []⟩, ⟨10, .n, [], []⟩, ⟨11, .n, [], []⟩, ⟨12, .p, [], []⟩, ⟨13, .p, [], []⟩, ⟨15, .p, [], []⟩] [0, 1, 0, 0, 0, 0, 48, 0, 128, 508, 1020, 2044, 4092, 8191, 0, 32767] mixed (by kernel_rfl) ?_
                                simp -implicitDefEqProofs only [go_sem, Nat.reduceEqDiff, Nat.reduceLT, Nat.reduceAdd, Nat.reduceMul, Int.reduceEq, Int.reduceLT, Int.reduceLE, Int.reduceNe, Int.reduceBEq, Int.reduceToNat, ↓reduceIte, f3, f5, f6, f7, f15, f37, f38, f39, f143, l27, ldK_agg, lookK_int Try.underlying52 Try.underlying27 z34 hatJ.2.2.1, hget2, Option.getD_some]
                                refine (indexes_ok hatJ.2.1 (by omega) (by omega) hatJ.1 hb1 (hatJ.2.2.2.1 y u hly) tid).mono ?_
                                rintro rr HK ⟨⟨ia, ic, rfl⟩, sK⟩
                                obtain ⟨cnt, hcnt⟩ : ∃ cnt, cnt = (xs'.filter (idxP st u ts' tid)).length := ⟨_, rfl⟩
                                have hcl : cnt ≤ xs'.length := by rw [hcnt]; exact List.length_filter_le _ _
                                rw [← hcnt]
                                have hpv2 : pvOf st u ts xs nm = tid + 1000 * cnt := by rw [← hpu, hcnt, htid]; rfl
                                rw [hpv2]
                                have v1 : IntKind.u64.wrap (cnt : Int) = (cnt : Int) := by rw [u64_in] <;> omega
                                have v2 : IntKind.u64.wrap (1000 * (cnt : Int)) = ((1000 * cnt : Nat) : Int) := by rw [u64_in] <;> omega
                                have v3 : IntKind.u64.wrap ((tid : Int) + ((1000 * cnt : Nat) : Int)) = ((tid + 1000 * cnt : Nat) : Int) := by rw [u64_in] <;> omega
                                have v4 : decide (((tid + 1000 * cnt : Nat) : Int) = ((tid + 1000 * cnt : Nat) : Int)) = true := decide_eq_true rfl
                                have hatK := hatJ.sub sK
                                have l27K := ld_own w0 (sK _ _ h27)
                                simp -implicitDefEqProofs only [go_sem, Nat.reduceEqDiff, Nat.reduceLT, Nat.reduceAdd, Nat.reduceMul, Int.reduceEq, Int.reduceLT, Int.reduceLE, Int.reduceNe, Int.reduceBEq, Int.reduceToNat, ↓reduceIte, f3, f5, f6, f7, f15, f37, f38, f39, f143, l27K, ldK_agg, v1, v2, v3, v4, lookK_int Try.underlying52 Try.underlying27 z34 hatK.2.2.1, hget2, Option.getD_some]
                                have hun := unseenN_push he hs
                                exact ⟨unseenN es (seen.push e.born), by omega, seen.push e.born, rfl, by simp -implicitDefEqProofs only [go_sem, Nat.reduceEqDiff, Nat.reduceLT, Nat.reduceAdd, Nat.reduceMul, Int.reduceEq, Int.reduceLT, Int.reduceLE, Int.reduceNe, Int.reduceBEq, Int.reduceToNat, ↓reduceIte, f3], by simp -implicitDefEqProofs only [go_sem, Nat.reduceEqDiff, Nat.reduceLT, Nat.reduceAdd, Nat.reduceMul, Int.reduceEq, Int.reduceLT, Int.reduceLE, Int.reduceNe, Int.reduceBEq, Int.reduceToNat, ↓reduceIte, f5], by simp -implicitDefEqProofs only [go_sem, Nat.reduceEqDiff, Nat.reduceLT, Nat.reduceAdd, Nat.reduceMul, Int.reduceEq, Int.reduceLT, Int.reduceLE, Int.reduceNe, Int.reduceBEq, Int.reduceToNat, ↓reduceIte, f6], by simp -implicitDefEqProofs only [go_sem, Nat.reduceEqDiff, Nat.reduceLT, Nat.reduceAdd, Nat.reduceMul, Int.reduceEq, Int.reduceLT, Int.reduceLE, Int.reduceNe, Int.reduceBEq, Int.reduceToNat, ↓reduceIte, f7], by simp -implicitDefEqProofs only [go_sem, Nat.reduceEqDiff, Nat.reduceLT, Nat.reduceAdd, Nat.reduceMul, Int.reduceEq, Int.reduceLT, Int.reduceLE, Int.reduceNe, Int.reduceBEq, Int.reduceToNat, ↓reduceIte, f15], by simp -implicitDefEqProofs only [go_sem, Nat.reduceEqDiff, Nat.reduceLT, Nat.reduceAdd, Nat.reduceMul, Int.reduceEq, Int.reduceLT, Int.reduceLE, Int.reduceNe, Int.reduceBEq, Int.reduceToNat, ↓reduceIte, f37], by simp -implicitDefEqProofs only [go_sem, Nat.reduceEqDiff, Nat.reduceLT, Nat.reduceAdd, Nat.reduceMul, Int.reduceEq, Int.reduceLT, Int.reduceLE, Int.reduceNe, Int.reduceBEq, Int.reduceToNat, ↓reduceIte, f38], by simp -implicitDefEqProofs only [go_sem, Nat.reduceEqDiff, Nat.reduceLT, Nat.reduceAdd, Nat.reduceMul, Int.reduceEq, Int.reduceLT, Int.reduceLE, Int.reduceNe, Int.reduceBEq, Int.reduceToNat, ↓reduceIte, f39], by simp -implicitDefEqProofs only [go_sem, Nat.reduceEqDiff, Nat.reduceLT, Nat.reduceAdd, Nat.reduceMul, Int.reduceEq, Int.reduceLT, Int.reduceLE, Int.reduceNe, Int.reduceBEq, Int.reduceToNat, ↓reduceIte, f143], sK _ _ (sJ _ _ (sG _ _ hit2)), sK _ _ (sJ _ _ (sG _ _ hwE)), hatK⟩
    · have d6 : decide ((40 : Int) ≤ (i : Int)) = true := by simp; omega
      simp -implicitDefEqProofs only [go_sem, Nat.reduceEqDiff, Nat.reduceLT, Nat.reduceAdd, Nat.reduceMul, Int.reduceEq, Int.reduceLT, Int.reduceLE, Int.reduceNe, Int.reduceBEq, Int.reduceToNat, ↓reduceIte, f3, f5, f6, f7, f37, f38, f39, d6]
  · have d1 : decide ((i : Int) < (n : Int)) = false := by simp; omega
    simp -implicitDefEqProofs only [go_sem, Nat.reduceEqDiff, Nat.reduceLT, Nat.reduceAdd, Nat.reduceMul, Int.reduceEq, Int.reduceLT, Int.reduceLE, Int.reduceNe, Int.reduceBEq, Int.reduceToNat, ↓reduceIte, f3, f5, f6, f7, f37, f38, f39, d1]
end Go.Proofs.Ytcpeiejabbdeiaa
