/-
  The law ClogPlays, walked.
  Conditions: the script's steps read as steps.
-/
import Derived.Test.YtmpepacfnckadaaPlays
import Derived.Test.YtmpepacfnckadaaArgs
namespace Go.Proofs.Ytmpepacfnckadaa
open Go Go.RowKit Go.Proofs.YtmpepacfnckadaaW
set_option maxRecDepth 100000
set_option linter.unusedSimpArgs false
set_option linter.unusedVariables false

theorem u64_range (z : Int) : 0 ≤ IntKind.u64.wrap z ∧ IntKind.u64.wrap z < 18446744073709551616 := by
  have h : IntKind.u64.wrap z = z % 18446744073709551616 := by
    simp [IntKind.wrap, IntKind.signed, IntKind.bits]
  rw [h]; omega

def PlayI (w0 : World) (first n : Nat) (a lv xv : Value) (m : Nat) (F : Fr) (H : Hp) : Prop :=
  ∃ k P, k + m = n ∧ F 1 = .int .u64 (first : Int) ∧ F 7 = lv ∧ F 9 = xv ∧ F 43 = a ∧ F 44 = .int .i64 (n : Int) ∧ F 45 = .int .i64 (k : Int) ∧ Duo H lv xv P first ∧ Hi w0 H
def PlayJ (w0 : World) (first : Nat) (lv xv : Value) (m : Nat) (F : Fr) (H : Hp) : Prop :=
  ∃ k P, k + m = 62 ∧ F 1 = .int .u64 (first : Int) ∧ F 7 = lv ∧ F 9 = xv ∧ F 127 = .int .u64 (k : Int) ∧ Duo H lv xv P first

theorem plays_ok (w0 : World) (non : Bool) (first : Nat) (hf : first < 18446744073709551616) (a : Value) (n : Nat) (ha : OpsArg w0 a n) :
    ACalls Try.prog w0 4 #[.bool non, .int .u64 (first : Int), a] (fun _ => none) fun r H' => r = .bool true ∧ True := by
  obtain ⟨ad, c, rfl, hn, hops⟩ := ha
  refine acalls_of Try.func4 rfl Try.ntmps4 r4 (by simp) ?_
  simp only [go_sem, Nat.reduceEqDiff, Nat.reduceLT, Nat.reduceAdd, Nat.reduceMul, Int.reduceEq, Int.reduceLT, Int.reduceLE, Int.reduceNe, Int.reduceBEq, Int.reduceToNat, ↓reduceIte]
  refine (awake09 w0 _).mono ?_
  rintro r H' ⟨rfl, rfl⟩
  simp only [go_sem, Nat.reduceEqDiff, Nat.reduceLT, Nat.reduceAdd, Nat.reduceMul, Int.reduceEq, Int.reduceLT, Int.reduceLE, Int.reduceNe, Int.reduceBEq, Int.reduceToNat, ↓reduceIte]
  obtain ⟨co, z, hnew⟩ := duo_new w0 (fun _ => none) first hf
  refine hnew.mono ?_
  rintro r H1 ⟨lv, rfl, hlv, hnew⟩
  simp only [go_sem, Nat.reduceEqDiff, Nat.reduceLT, Nat.reduceAdd, Nat.reduceMul, Int.reduceEq, Int.reduceLT, Int.reduceLE, Int.reduceNe, Int.reduceBEq, Int.reduceToNat, ↓reduceIte]
  refine (ACalls.hi hnew).mono ?_
  rintro r H2 ⟨⟨xv, rfl, hxv, ⟨P, hduo, hfr⟩, hsub⟩, hhi⟩
  have e1 : decide (co = co) = true := by simp
  have z1 : ∀ e, bin (some (.pointer e)) .eql lv (.pointer none) = some (.bool z) := by
    rcases hlv with ⟨rfl, rfl⟩ | ⟨⟨l, rfl⟩, rfl⟩ <;> exact fun e => rfl
  have z2 : ∀ e, bin (some (.pointer e)) .eql xv (.pointer none) = some (.bool z) := by
    rcases hxv with ⟨rfl, rfl⟩ | ⟨⟨l, rfl⟩, rfl⟩ <;> exact fun e => rfl
  have hgo : ∃ lv' xv' P', (lv' = if non then .pointer none else lv) ∧ (xv' = if non then .pointer none else xv) ∧ Duo H2 lv' xv' P' first := by
    cases non
    · exact ⟨_, _, P, rfl, rfl, hduo⟩
    · exact ⟨_, _, fun _ => False, rfl, rfl, .inl ⟨rfl, rfl, fun _ h => h⟩⟩
  obtain ⟨lv', xv', P', hl', hx', hduo'⟩ := hgo
  cases non
  · simp only [go_sem, Nat.reduceEqDiff, Nat.reduceLT, Nat.reduceAdd, Nat.reduceMul, Int.reduceEq, Int.reduceLT, Int.reduceLE, Int.reduceNe, Int.reduceBEq, Int.reduceToNat, ↓reduceIte, e1, z1, z2]
    refine AC.loop (PlayI w0 first n (.slice ad n c) lv' xv') (n := n) ⟨0, P', by omega, rfl, hl'.symm, hx'.symm, rfl, rfl, rfl, hduo', hhi⟩ ?_
    rintro m F H3 ⟨k, PP, hk, f1, f7, f9, f43, f44, f45, hduo3, hhi3⟩
    by_cases c1 : k < n
    · have d1 : decide ((k : Int) < (n : Int)) = true := by simp; omega
      have d0 : decide ((0 : Int) ≤ (k : Int)) = true := by simp
      obtain ⟨ab, rfl, d, x, nr, hd, hx, hc0, hc1, hc2⟩ := hops k c1
      have l0 := ld_arg hhi3 hc0
      have l1 := ld_arg hhi3 hc1
      have l2 := ld_arg hhi3 hc2
      have hl3 : ldCells w0 H3 (ab.add (k * 3)) 0 3 = some [.int .u8 (d : Int), .int .u64 (x : Int), .bool nr] := by
        simp only [ldCells, l0, l1, l2, Option.bind_some, Option.map_some]
      simp only [go_sem, Nat.reduceEqDiff, Nat.reduceLT, Nat.reduceAdd, Nat.reduceMul, Int.reduceEq, Int.reduceLT, Int.reduceLE, Int.reduceNe, Int.reduceBEq, Int.reduceToNat, ↓reduceIte, f1, f7, f9, f43, f44, f45, d1, d0, ldK_agg, hl3]
      intro b hb hnb
      have hhi4 : Hi w0 (H3.set b (.cells #[.int .u8 (d : Int), .int .u64 (x : Int), .bool nr] 40 (0, 0))) := hhi3.set hb _
      have hduo4 : Duo (H3.set b (.cells #[.int .u8 (d : Int), .int .u64 (x : Int), .bool nr] 40 (0, 0))) lv' xv' PP first := hduo3.keep fun i o _ hi => by
        rw [Hp.set_ne _ _ _ _ (fun e => by rw [e, hnb] at hi; cases hi)]; exact hi
      have hbl := ld_own w0 (Hp.set_same H3 b (.cells #[.int .u8 (d : Int), .int .u64 (x : Int), .bool nr] 40 (0, 0)))
      simp only [go_sem, Nat.reduceEqDiff, Nat.reduceLT, Nat.reduceAdd, Nat.reduceMul, Int.reduceEq, Int.reduceLT, Int.reduceLE, Int.reduceNe, Int.reduceBEq, Int.reduceToNat, ↓reduceIte, f1, f7, f9, f43, f44, f45]
      rw [storeK_all (cs := #[.int .u8 (d : Int), .int .u64 (x : Int), .bool nr]) (Hp.set_same H3 b (.cells #[.int .u8 0, .int .u64 0, .bool false] 40 (0, 0))) rfl (by simp [cell1_int, cell1_bool])]
      have dm : (d : Int).tmod 5 = ((d % 5 : Nat) : Int) := by rw [Int.tmod_eq_emod_of_nonneg (by omega)]; omega
      by_cases c6 : k < 60
      · have d6 : decide (60 ≤ (k : Int)) = false := by simp; omega
        obtain ⟨X, hX⟩ : ∃ X, X = if nr = true then IntKind.u64.wrap ((first : Int) + (x : Int).tmod 64) else (x : Int) := ⟨_, rfl⟩
        have x0 : 0 ≤ X ∧ X < 18446744073709551616 := by
          rw [hX]; split
          · exact u64_range _
          · omega
        obtain ⟨x0, x1⟩ := x0
        cases nr
        · obtain rfl : X = (x : Int) := by simpa using hX
          have xr : (0 + 0 : Nat) = 0 := rfl
          simp only [go_sem, Nat.reduceEqDiff, Nat.reduceLT, Nat.reduceAdd, Nat.reduceMul, Int.reduceEq, Int.reduceLT, Int.reduceLE, Int.reduceNe, Int.reduceBEq, Int.reduceToNat, ↓reduceIte, f1, f7, f9, f43, f44, f45, d6, hbl]
          by_cases c3 : d % 5 = 3
          · have d5 : decide (((d % 5 : Nat) : Int) = 3) = true := by simp [c3]
            obtain ⟨co4, g4⟩ := hduo4.commit (w0 := w0) x0 x1
            simp only [go_sem, Nat.reduceEqDiff, Nat.reduceLT, Nat.reduceAdd, Nat.reduceMul, Int.reduceEq, Int.reduceLT, Int.reduceLE, Int.reduceNe, Int.reduceBEq, Int.reduceToNat, ↓reduceIte, f1, f7, f9, f43, f44, f45, xr, hbl, dm, d5]
            refine g4.mono ?_
            rintro r H5 ⟨rfl, g4⟩
            simp only [go_sem, Nat.reduceEqDiff, Nat.reduceLT, Nat.reduceAdd, Nat.reduceMul, Int.reduceEq, Int.reduceLT, Int.reduceLE, Int.reduceNe, Int.reduceBEq, Int.reduceToNat, ↓reduceIte, f1, f7, f9, f43, f44, f45]
            refine g4.mono ?_
            rintro r H6 ⟨rfl, hduo5, hstep⟩
            have d2 : decide (co4 = co4) = true := by simp
            try simp only [go_sem, Nat.reduceEqDiff, Nat.reduceLT, Nat.reduceAdd, Nat.reduceMul, Int.reduceEq, Int.reduceLT, Int.reduceLE, Int.reduceNe, Int.reduceBEq, Int.reduceToNat, ↓reduceIte, f1, f7, f9, f43, f44, f45, d2]
            obtain ⟨s5, g1, g2⟩ := hduo5.state (w0 := w0) x0 x1
            have d3 : decide (s5 = s5) = true := by simp
            refine g1.mono ?_
            rintro r H' ⟨rfl, rfl⟩
            simp only [go_sem, Nat.reduceEqDiff, Nat.reduceLT, Nat.reduceAdd, Nat.reduceMul, Int.reduceEq, Int.reduceLT, Int.reduceLE, Int.reduceNe, Int.reduceBEq, Int.reduceToNat, ↓reduceIte, f1, f7, f9, f43, f44, f45]
            refine g2.mono ?_
            rintro r H' ⟨rfl, rfl⟩
            simp only [go_sem, Nat.reduceEqDiff, Nat.reduceLT, Nat.reduceAdd, Nat.reduceMul, Int.reduceEq, Int.reduceLT, Int.reduceLE, Int.reduceNe, Int.reduceBEq, Int.reduceToNat, ↓reduceIte, f1, f7, f9, f43, f44, f45, d3]
            obtain ⟨n5, g1, g2⟩ := hduo5.next (w0 := w0)
            have d4 : decide (n5 = n5) = true := by simp
            refine g1.mono ?_
            rintro r H' ⟨rfl, rfl⟩
            simp only [go_sem, Nat.reduceEqDiff, Nat.reduceLT, Nat.reduceAdd, Nat.reduceMul, Int.reduceEq, Int.reduceLT, Int.reduceLE, Int.reduceNe, Int.reduceBEq, Int.reduceToNat, ↓reduceIte, f1, f7, f9, f43, f44, f45]
            refine g2.mono ?_
            rintro r H' ⟨rfl, rfl⟩
            simp only [go_sem, Nat.reduceEqDiff, Nat.reduceLT, Nat.reduceAdd, Nat.reduceMul, Int.reduceEq, Int.reduceLT, Int.reduceLE, Int.reduceNe, Int.reduceBEq, Int.reduceToNat, ↓reduceIte, f1, f7, f9, f43, f44, f45, d4]
            refine (hduo5.all (w0 := w0)).mono ?_
            rintro r6 H6 ⟨s6, g6⟩
            simp only [go_sem, Nat.reduceEqDiff, Nat.reduceLT, Nat.reduceAdd, Nat.reduceMul, Int.reduceEq, Int.reduceLT, Int.reduceLE, Int.reduceNe, Int.reduceBEq, Int.reduceToNat, ↓reduceIte, f1, f7, f9, f43, f44, f45]
            refine g6.mono ?_
            rintro r7 H7 ⟨s7, g7⟩
            simp only [go_sem, Nat.reduceEqDiff, Nat.reduceLT, Nat.reduceAdd, Nat.reduceMul, Int.reduceEq, Int.reduceLT, Int.reduceLE, Int.reduceNe, Int.reduceBEq, Int.reduceToNat, ↓reduceIte, f1, f7, f9, f43, f44, f45]
            refine (ACalls.hi g7).mono ?_
            rintro r H8 ⟨⟨rfl, rfl⟩, hhi8⟩
            have e3 : IntKind.i64.wrap ((k : Int) + 1) = (k + 1 : Nat) := by rw [i64_in] <;> omega
            simp only [go_sem, Nat.reduceEqDiff, Nat.reduceLT, Nat.reduceAdd, Nat.reduceMul, Int.reduceEq, Int.reduceLT, Int.reduceLE, Int.reduceNe, Int.reduceBEq, Int.reduceToNat, ↓reduceIte, f1, f7, f9, f43, f44, f45, e3]
            exact ⟨m - 1, by omega, k + 1, _, by omega, by simp only [go_sem, Nat.reduceEqDiff, Nat.reduceLT, Nat.reduceAdd, Nat.reduceMul, Int.reduceEq, Int.reduceLT, Int.reduceLE, Int.reduceNe, Int.reduceBEq, Int.reduceToNat, ↓reduceIte, f1], by simp only [go_sem, Nat.reduceEqDiff, Nat.reduceLT, Nat.reduceAdd, Nat.reduceMul, Int.reduceEq, Int.reduceLT, Int.reduceLE, Int.reduceNe, Int.reduceBEq, Int.reduceToNat, ↓reduceIte, f7], by simp only [go_sem, Nat.reduceEqDiff, Nat.reduceLT, Nat.reduceAdd, Nat.reduceMul, Int.reduceEq, Int.reduceLT, Int.reduceLE, Int.reduceNe, Int.reduceBEq, Int.reduceToNat, ↓reduceIte, f9], by simp only [go_sem, Nat.reduceEqDiff, Nat.reduceLT, Nat.reduceAdd, Nat.reduceMul, Int.reduceEq, Int.reduceLT, Int.reduceLE, Int.reduceNe, Int.reduceBEq, Int.reduceToNat, ↓reduceIte, f43], by simp only [go_sem, Nat.reduceEqDiff, Nat.reduceLT, Nat.reduceAdd, Nat.reduceMul, Int.reduceEq, Int.reduceLT, Int.reduceLE, Int.reduceNe, Int.reduceBEq, Int.reduceToNat, ↓reduceIte, f44], by simp only [go_sem, Nat.reduceEqDiff, Nat.reduceLT, Nat.reduceAdd, Nat.reduceMul, Int.reduceEq, Int.reduceLT, Int.reduceLE, Int.reduceNe, Int.reduceBEq, Int.reduceToNat, ↓reduceIte], hduo5.keep fun b o _ hb => s7 b o (s6 b o hb), hhi8⟩
          · by_cases c4 : d % 5 = 4
            · have d5 : decide (((d % 5 : Nat) : Int) = 3) = false := by simp [c4]
              have d6 : decide (((d % 5 : Nat) : Int) = 4) = true := by simp [c4]
              obtain ⟨co4, g4⟩ := hduo4.abort (w0 := w0) x0 x1
              simp only [go_sem, Nat.reduceEqDiff, Nat.reduceLT, Nat.reduceAdd, Nat.reduceMul, Int.reduceEq, Int.reduceLT, Int.reduceLE, Int.reduceNe, Int.reduceBEq, Int.reduceToNat, ↓reduceIte, f1, f7, f9, f43, f44, f45, xr, hbl, dm, d5, d6]
              refine g4.mono ?_
              rintro r H5 ⟨rfl, g4⟩
              simp only [go_sem, Nat.reduceEqDiff, Nat.reduceLT, Nat.reduceAdd, Nat.reduceMul, Int.reduceEq, Int.reduceLT, Int.reduceLE, Int.reduceNe, Int.reduceBEq, Int.reduceToNat, ↓reduceIte, f1, f7, f9, f43, f44, f45]
              refine g4.mono ?_
              rintro r H6 ⟨rfl, hduo5, hstep⟩
              have d2 : decide (co4 = co4) = true := by simp
              try simp only [go_sem, Nat.reduceEqDiff, Nat.reduceLT, Nat.reduceAdd, Nat.reduceMul, Int.reduceEq, Int.reduceLT, Int.reduceLE, Int.reduceNe, Int.reduceBEq, Int.reduceToNat, ↓reduceIte, f1, f7, f9, f43, f44, f45, d2]
              obtain ⟨s5, g1, g2⟩ := hduo5.state (w0 := w0) x0 x1
              have d3 : decide (s5 = s5) = true := by simp
              refine g1.mono ?_
              rintro r H' ⟨rfl, rfl⟩
              simp only [go_sem, Nat.reduceEqDiff, Nat.reduceLT, Nat.reduceAdd, Nat.reduceMul, Int.reduceEq, Int.reduceLT, Int.reduceLE, Int.reduceNe, Int.reduceBEq, Int.reduceToNat, ↓reduceIte, f1, f7, f9, f43, f44, f45]
              refine g2.mono ?_
              rintro r H' ⟨rfl, rfl⟩
              simp only [go_sem, Nat.reduceEqDiff, Nat.reduceLT, Nat.reduceAdd, Nat.reduceMul, Int.reduceEq, Int.reduceLT, Int.reduceLE, Int.reduceNe, Int.reduceBEq, Int.reduceToNat, ↓reduceIte, f1, f7, f9, f43, f44, f45, d3]
              obtain ⟨n5, g1, g2⟩ := hduo5.next (w0 := w0)
              have d4 : decide (n5 = n5) = true := by simp
              refine g1.mono ?_
              rintro r H' ⟨rfl, rfl⟩
              simp only [go_sem, Nat.reduceEqDiff, Nat.reduceLT, Nat.reduceAdd, Nat.reduceMul, Int.reduceEq, Int.reduceLT, Int.reduceLE, Int.reduceNe, Int.reduceBEq, Int.reduceToNat, ↓reduceIte, f1, f7, f9, f43, f44, f45]
              refine g2.mono ?_
              rintro r H' ⟨rfl, rfl⟩
              simp only [go_sem, Nat.reduceEqDiff, Nat.reduceLT, Nat.reduceAdd, Nat.reduceMul, Int.reduceEq, Int.reduceLT, Int.reduceLE, Int.reduceNe, Int.reduceBEq, Int.reduceToNat, ↓reduceIte, f1, f7, f9, f43, f44, f45, d4]
              refine (hduo5.all (w0 := w0)).mono ?_
              rintro r6 H6 ⟨s6, g6⟩
              simp only [go_sem, Nat.reduceEqDiff, Nat.reduceLT, Nat.reduceAdd, Nat.reduceMul, Int.reduceEq, Int.reduceLT, Int.reduceLE, Int.reduceNe, Int.reduceBEq, Int.reduceToNat, ↓reduceIte, f1, f7, f9, f43, f44, f45]
              refine g6.mono ?_
              rintro r7 H7 ⟨s7, g7⟩
              simp only [go_sem, Nat.reduceEqDiff, Nat.reduceLT, Nat.reduceAdd, Nat.reduceMul, Int.reduceEq, Int.reduceLT, Int.reduceLE, Int.reduceNe, Int.reduceBEq, Int.reduceToNat, ↓reduceIte, f1, f7, f9, f43, f44, f45]
              refine (ACalls.hi g7).mono ?_
              rintro r H8 ⟨⟨rfl, rfl⟩, hhi8⟩
              have e3 : IntKind.i64.wrap ((k : Int) + 1) = (k + 1 : Nat) := by rw [i64_in] <;> omega
              simp only [go_sem, Nat.reduceEqDiff, Nat.reduceLT, Nat.reduceAdd, Nat.reduceMul, Int.reduceEq, Int.reduceLT, Int.reduceLE, Int.reduceNe, Int.reduceBEq, Int.reduceToNat, ↓reduceIte, f1, f7, f9, f43, f44, f45, e3]
              exact ⟨m - 1, by omega, k + 1, _, by omega, by simp only [go_sem, Nat.reduceEqDiff, Nat.reduceLT, Nat.reduceAdd, Nat.reduceMul, Int.reduceEq, Int.reduceLT, Int.reduceLE, Int.reduceNe, Int.reduceBEq, Int.reduceToNat, ↓reduceIte, f1], by simp only [go_sem, Nat.reduceEqDiff, Nat.reduceLT, Nat.reduceAdd, Nat.reduceMul, Int.reduceEq, Int.reduceLT, Int.reduceLE, Int.reduceNe, Int.reduceBEq, Int.reduceToNat, ↓reduceIte, f7], by simp only [go_sem, Nat.reduceEqDiff, Nat.reduceLT, Nat.reduceAdd, Nat.reduceMul, Int.reduceEq, Int.reduceLT, Int.reduceLE, Int.reduceNe, Int.reduceBEq, Int.reduceToNat, ↓reduceIte, f9], by simp only [go_sem, Nat.reduceEqDiff, Nat.reduceLT, Nat.reduceAdd, Nat.reduceMul, Int.reduceEq, Int.reduceLT, Int.reduceLE, Int.reduceNe, Int.reduceBEq, Int.reduceToNat, ↓reduceIte, f43], by simp only [go_sem, Nat.reduceEqDiff, Nat.reduceLT, Nat.reduceAdd, Nat.reduceMul, Int.reduceEq, Int.reduceLT, Int.reduceLE, Int.reduceNe, Int.reduceBEq, Int.reduceToNat, ↓reduceIte, f44], by simp only [go_sem, Nat.reduceEqDiff, Nat.reduceLT, Nat.reduceAdd, Nat.reduceMul, Int.reduceEq, Int.reduceLT, Int.reduceLE, Int.reduceNe, Int.reduceBEq, Int.reduceToNat, ↓reduceIte], hduo5.keep fun b o _ hb => s7 b o (s6 b o hb), hhi8⟩
            · have d5 : decide (((d % 5 : Nat) : Int) = 3) = false := by simp; omega
              have d6 : decide (((d % 5 : Nat) : Int) = 4) = false := by simp; omega
              obtain ⟨nn, co4, g4⟩ := hduo4.begin (w0 := w0)
              have d7 : decide (nn = nn) = true := by simp
              have d2 : decide (co4 = co4) = true := by simp
              simp only [go_sem, Nat.reduceEqDiff, Nat.reduceLT, Nat.reduceAdd, Nat.reduceMul, Int.reduceEq, Int.reduceLT, Int.reduceLE, Int.reduceNe, Int.reduceBEq, Int.reduceToNat, ↓reduceIte, f1, f7, f9, f43, f44, f45, xr, hbl, dm, d5, d6]
              refine g4.mono ?_
              rintro r H5 ⟨rfl, g4⟩
              simp only [go_sem, Nat.reduceEqDiff, Nat.reduceLT, Nat.reduceAdd, Nat.reduceMul, Int.reduceEq, Int.reduceLT, Int.reduceLE, Int.reduceNe, Int.reduceBEq, Int.reduceToNat, ↓reduceIte, f1, f7, f9, f43, f44, f45]
              refine g4.mono ?_
              rintro r H6 ⟨rfl, P5, hduo5, hstep⟩
              simp only [go_sem, Nat.reduceEqDiff, Nat.reduceLT, Nat.reduceAdd, Nat.reduceMul, Int.reduceEq, Int.reduceLT, Int.reduceLE, Int.reduceNe, Int.reduceBEq, Int.reduceToNat, ↓reduceIte, f1, f7, f9, f43, f44, f45, d7, d2]
              have d2 : decide (co4 = co4) = true := by simp
              try simp only [go_sem, Nat.reduceEqDiff, Nat.reduceLT, Nat.reduceAdd, Nat.reduceMul, Int.reduceEq, Int.reduceLT, Int.reduceLE, Int.reduceNe, Int.reduceBEq, Int.reduceToNat, ↓reduceIte, f1, f7, f9, f43, f44, f45, d2]
              obtain ⟨s5, g1, g2⟩ := hduo5.state (w0 := w0) x0 x1
              have d3 : decide (s5 = s5) = true := by simp
              refine g1.mono ?_
              rintro r H' ⟨rfl, rfl⟩
              simp only [go_sem, Nat.reduceEqDiff, Nat.reduceLT, Nat.reduceAdd, Nat.reduceMul, Int.reduceEq, Int.reduceLT, Int.reduceLE, Int.reduceNe, Int.reduceBEq, Int.reduceToNat, ↓reduceIte, f1, f7, f9, f43, f44, f45]
              refine g2.mono ?_
              rintro r H' ⟨rfl, rfl⟩
              simp only [go_sem, Nat.reduceEqDiff, Nat.reduceLT, Nat.reduceAdd, Nat.reduceMul, Int.reduceEq, Int.reduceLT, Int.reduceLE, Int.reduceNe, Int.reduceBEq, Int.reduceToNat, ↓reduceIte, f1, f7, f9, f43, f44, f45, d3]
              obtain ⟨n5, g1, g2⟩ := hduo5.next (w0 := w0)
              have d4 : decide (n5 = n5) = true := by simp
              refine g1.mono ?_
              rintro r H' ⟨rfl, rfl⟩
              simp only [go_sem, Nat.reduceEqDiff, Nat.reduceLT, Nat.reduceAdd, Nat.reduceMul, Int.reduceEq, Int.reduceLT, Int.reduceLE, Int.reduceNe, Int.reduceBEq, Int.reduceToNat, ↓reduceIte, f1, f7, f9, f43, f44, f45]
              refine g2.mono ?_
              rintro r H' ⟨rfl, rfl⟩
              simp only [go_sem, Nat.reduceEqDiff, Nat.reduceLT, Nat.reduceAdd, Nat.reduceMul, Int.reduceEq, Int.reduceLT, Int.reduceLE, Int.reduceNe, Int.reduceBEq, Int.reduceToNat, ↓reduceIte, f1, f7, f9, f43, f44, f45, d4]
              refine (hduo5.all (w0 := w0)).mono ?_
              rintro r6 H6 ⟨s6, g6⟩
              simp only [go_sem, Nat.reduceEqDiff, Nat.reduceLT, Nat.reduceAdd, Nat.reduceMul, Int.reduceEq, Int.reduceLT, Int.reduceLE, Int.reduceNe, Int.reduceBEq, Int.reduceToNat, ↓reduceIte, f1, f7, f9, f43, f44, f45]
              refine g6.mono ?_
              rintro r7 H7 ⟨s7, g7⟩
              simp only [go_sem, Nat.reduceEqDiff, Nat.reduceLT, Nat.reduceAdd, Nat.reduceMul, Int.reduceEq, Int.reduceLT, Int.reduceLE, Int.reduceNe, Int.reduceBEq, Int.reduceToNat, ↓reduceIte, f1, f7, f9, f43, f44, f45]
              refine (ACalls.hi g7).mono ?_
              rintro r H8 ⟨⟨rfl, rfl⟩, hhi8⟩
              have e3 : IntKind.i64.wrap ((k : Int) + 1) = (k + 1 : Nat) := by rw [i64_in] <;> omega
              simp only [go_sem, Nat.reduceEqDiff, Nat.reduceLT, Nat.reduceAdd, Nat.reduceMul, Int.reduceEq, Int.reduceLT, Int.reduceLE, Int.reduceNe, Int.reduceBEq, Int.reduceToNat, ↓reduceIte, f1, f7, f9, f43, f44, f45, e3]
              exact ⟨m - 1, by omega, k + 1, _, by omega, by simp only [go_sem, Nat.reduceEqDiff, Nat.reduceLT, Nat.reduceAdd, Nat.reduceMul, Int.reduceEq, Int.reduceLT, Int.reduceLE, Int.reduceNe, Int.reduceBEq, Int.reduceToNat, ↓reduceIte, f1], by simp only [go_sem, Nat.reduceEqDiff, Nat.reduceLT, Nat.reduceAdd, Nat.reduceMul, Int.reduceEq, Int.reduceLT, Int.reduceLE, Int.reduceNe, Int.reduceBEq, Int.reduceToNat, ↓reduceIte, f7], by simp only [go_sem, Nat.reduceEqDiff, Nat.reduceLT, Nat.reduceAdd, Nat.reduceMul, Int.reduceEq, Int.reduceLT, Int.reduceLE, Int.reduceNe, Int.reduceBEq, Int.reduceToNat, ↓reduceIte, f9], by simp only [go_sem, Nat.reduceEqDiff, Nat.reduceLT, Nat.reduceAdd, Nat.reduceMul, Int.reduceEq, Int.reduceLT, Int.reduceLE, Int.reduceNe, Int.reduceBEq, Int.reduceToNat, ↓reduceIte, f43], by simp only [go_sem, Nat.reduceEqDiff, Nat.reduceLT, Nat.reduceAdd, Nat.reduceMul, Int.reduceEq, Int.reduceLT, Int.reduceLE, Int.reduceNe, Int.reduceBEq, Int.reduceToNat, ↓reduceIte, f44], by simp only [go_sem, Nat.reduceEqDiff, Nat.reduceLT, Nat.reduceAdd, Nat.reduceMul, Int.reduceEq, Int.reduceLT, Int.reduceLE, Int.reduceNe, Int.reduceBEq, Int.reduceToNat, ↓reduceIte], hduo5.keep fun b o _ hb => s7 b o (s6 b o hb), hhi8⟩
        · have xr : IntKind.u64.wrap ((first : Int) + (x : Int).tmod 64) = X := by rw [hX]; simp
          simp only [go_sem, Nat.reduceEqDiff, Nat.reduceLT, Nat.reduceAdd, Nat.reduceMul, Int.reduceEq, Int.reduceLT, Int.reduceLE, Int.reduceNe, Int.reduceBEq, Int.reduceToNat, ↓reduceIte, f1, f7, f9, f43, f44, f45, d6, hbl, xr]
          by_cases c3 : d % 5 = 3
          · have d5 : decide (((d % 5 : Nat) : Int) = 3) = true := by simp [c3]
            obtain ⟨co4, g4⟩ := hduo4.commit (w0 := w0) x0 x1
            simp only [go_sem, Nat.reduceEqDiff, Nat.reduceLT, Nat.reduceAdd, Nat.reduceMul, Int.reduceEq, Int.reduceLT, Int.reduceLE, Int.reduceNe, Int.reduceBEq, Int.reduceToNat, ↓reduceIte, f1, f7, f9, f43, f44, f45, xr, hbl, dm, d5]
            refine g4.mono ?_
            rintro r H5 ⟨rfl, g4⟩
            simp only [go_sem, Nat.reduceEqDiff, Nat.reduceLT, Nat.reduceAdd, Nat.reduceMul, Int.reduceEq, Int.reduceLT, Int.reduceLE, Int.reduceNe, Int.reduceBEq, Int.reduceToNat, ↓reduceIte, f1, f7, f9, f43, f44, f45]
            refine g4.mono ?_
            rintro r H6 ⟨rfl, hduo5, hstep⟩
            have d2 : decide (co4 = co4) = true := by simp
            try simp only [go_sem, Nat.reduceEqDiff, Nat.reduceLT, Nat.reduceAdd, Nat.reduceMul, Int.reduceEq, Int.reduceLT, Int.reduceLE, Int.reduceNe, Int.reduceBEq, Int.reduceToNat, ↓reduceIte, f1, f7, f9, f43, f44, f45, d2]
            obtain ⟨s5, g1, g2⟩ := hduo5.state (w0 := w0) x0 x1
            have d3 : decide (s5 = s5) = true := by simp
            refine g1.mono ?_
            rintro r H' ⟨rfl, rfl⟩
            simp only [go_sem, Nat.reduceEqDiff, Nat.reduceLT, Nat.reduceAdd, Nat.reduceMul, Int.reduceEq, Int.reduceLT, Int.reduceLE, Int.reduceNe, Int.reduceBEq, Int.reduceToNat, ↓reduceIte, f1, f7, f9, f43, f44, f45]
            refine g2.mono ?_
            rintro r H' ⟨rfl, rfl⟩
            simp only [go_sem, Nat.reduceEqDiff, Nat.reduceLT, Nat.reduceAdd, Nat.reduceMul, Int.reduceEq, Int.reduceLT, Int.reduceLE, Int.reduceNe, Int.reduceBEq, Int.reduceToNat, ↓reduceIte, f1, f7, f9, f43, f44, f45, d3]
            obtain ⟨n5, g1, g2⟩ := hduo5.next (w0 := w0)
            have d4 : decide (n5 = n5) = true := by simp
            refine g1.mono ?_
            rintro r H' ⟨rfl, rfl⟩
            simp only [go_sem, Nat.reduceEqDiff, Nat.reduceLT, Nat.reduceAdd, Nat.reduceMul, Int.reduceEq, Int.reduceLT, Int.reduceLE, Int.reduceNe, Int.reduceBEq, Int.reduceToNat, ↓reduceIte, f1, f7, f9, f43, f44, f45]
            refine g2.mono ?_
            rintro r H' ⟨rfl, rfl⟩
            simp only [go_sem, Nat.reduceEqDiff, Nat.reduceLT, Nat.reduceAdd, Nat.reduceMul, Int.reduceEq, Int.reduceLT, Int.reduceLE, Int.reduceNe, Int.reduceBEq, Int.reduceToNat, ↓reduceIte, f1, f7, f9, f43, f44, f45, d4]
            refine (hduo5.all (w0 := w0)).mono ?_
            rintro r6 H6 ⟨s6, g6⟩
            simp only [go_sem, Nat.reduceEqDiff, Nat.reduceLT, Nat.reduceAdd, Nat.reduceMul, Int.reduceEq, Int.reduceLT, Int.reduceLE, Int.reduceNe, Int.reduceBEq, Int.reduceToNat, ↓reduceIte, f1, f7, f9, f43, f44, f45]
            refine g6.mono ?_
            rintro r7 H7 ⟨s7, g7⟩
            simp only [go_sem, Nat.reduceEqDiff, Nat.reduceLT, Nat.reduceAdd, Nat.reduceMul, Int.reduceEq, Int.reduceLT, Int.reduceLE, Int.reduceNe, Int.reduceBEq, Int.reduceToNat, ↓reduceIte, f1, f7, f9, f43, f44, f45]
            refine (ACalls.hi g7).mono ?_
            rintro r H8 ⟨⟨rfl, rfl⟩, hhi8⟩
            have e3 : IntKind.i64.wrap ((k : Int) + 1) = (k + 1 : Nat) := by rw [i64_in] <;> omega
            simp only [go_sem, Nat.reduceEqDiff, Nat.reduceLT, Nat.reduceAdd, Nat.reduceMul, Int.reduceEq, Int.reduceLT, Int.reduceLE, Int.reduceNe, Int.reduceBEq, Int.reduceToNat, ↓reduceIte, f1, f7, f9, f43, f44, f45, e3]
            exact ⟨m - 1, by omega, k + 1, _, by omega, by simp only [go_sem, Nat.reduceEqDiff, Nat.reduceLT, Nat.reduceAdd, Nat.reduceMul, Int.reduceEq, Int.reduceLT, Int.reduceLE, Int.reduceNe, Int.reduceBEq, Int.reduceToNat, ↓reduceIte, f1], by simp only [go_sem, Nat.reduceEqDiff, Nat.reduceLT, Nat.reduceAdd, Nat.reduceMul, Int.reduceEq, Int.reduceLT, Int.reduceLE, Int.reduceNe, Int.reduceBEq, Int.reduceToNat, ↓reduceIte, f7], by simp only [go_sem, Nat.reduceEqDiff, Nat.reduceLT, Nat.reduceAdd, Nat.reduceMul, Int.reduceEq, Int.reduceLT, Int.reduceLE, Int.reduceNe, Int.reduceBEq, Int.reduceToNat, ↓reduceIte, f9], by simp only [go_sem, Nat.reduceEqDiff, Nat.reduceLT, Nat.reduceAdd, Nat.reduceMul, Int.reduceEq, Int.reduceLT, Int.reduceLE, Int.reduceNe, Int.reduceBEq, Int.reduceToNat, ↓reduceIte, f43], by simp only [go_sem, Nat.reduceEqDiff, Nat.reduceLT, Nat.reduceAdd, Nat.reduceMul, Int.reduceEq, Int.reduceLT, Int.reduceLE, Int.reduceNe, Int.reduceBEq, Int.reduceToNat, ↓reduceIte, f44], by simp only [go_sem, Nat.reduceEqDiff, Nat.reduceLT, Nat.reduceAdd, Nat.reduceMul, Int.reduceEq, Int.reduceLT, Int.reduceLE, Int.reduceNe, Int.reduceBEq, Int.reduceToNat, ↓reduceIte], hduo5.keep fun b o _ hb => s7 b o (s6 b o hb), hhi8⟩
          · by_cases c4 : d % 5 = 4
            · have d5 : decide (((d % 5 : Nat) : Int) = 3) = false := by simp [c4]
              have d6 : decide (((d % 5 : Nat) : Int) = 4) = true := by simp [c4]
              obtain ⟨co4, g4⟩ := hduo4.abort (w0 := w0) x0 x1
              simp only [go_sem, Nat.reduceEqDiff, Nat.reduceLT, Nat.reduceAdd, Nat.reduceMul, Int.reduceEq, Int.reduceLT, Int.reduceLE, Int.reduceNe, Int.reduceBEq, Int.reduceToNat, ↓reduceIte, f1, f7, f9, f43, f44, f45, xr, hbl, dm, d5, d6]
              refine g4.mono ?_
              rintro r H5 ⟨rfl, g4⟩
              simp only [go_sem, Nat.reduceEqDiff, Nat.reduceLT, Nat.reduceAdd, Nat.reduceMul, Int.reduceEq, Int.reduceLT, Int.reduceLE, Int.reduceNe, Int.reduceBEq, Int.reduceToNat, ↓reduceIte, f1, f7, f9, f43, f44, f45]
              refine g4.mono ?_
              rintro r H6 ⟨rfl, hduo5, hstep⟩
              have d2 : decide (co4 = co4) = true := by simp
              try simp only [go_sem, Nat.reduceEqDiff, Nat.reduceLT, Nat.reduceAdd, Nat.reduceMul, Int.reduceEq, Int.reduceLT, Int.reduceLE, Int.reduceNe, Int.reduceBEq, Int.reduceToNat, ↓reduceIte, f1, f7, f9, f43, f44, f45, d2]
              obtain ⟨s5, g1, g2⟩ := hduo5.state (w0 := w0) x0 x1
              have d3 : decide (s5 = s5) = true := by simp
              refine g1.mono ?_
              rintro r H' ⟨rfl, rfl⟩
              simp only [go_sem, Nat.reduceEqDiff, Nat.reduceLT, Nat.reduceAdd, Nat.reduceMul, Int.reduceEq, Int.reduceLT, Int.reduceLE, Int.reduceNe, Int.reduceBEq, Int.reduceToNat, ↓reduceIte, f1, f7, f9, f43, f44, f45]
              refine g2.mono ?_
              rintro r H' ⟨rfl, rfl⟩
              simp only [go_sem, Nat.reduceEqDiff, Nat.reduceLT, Nat.reduceAdd, Nat.reduceMul, Int.reduceEq, Int.reduceLT, Int.reduceLE, Int.reduceNe, Int.reduceBEq, Int.reduceToNat, ↓reduceIte, f1, f7, f9, f43, f44, f45, d3]
              obtain ⟨n5, g1, g2⟩ := hduo5.next (w0 := w0)
              have d4 : decide (n5 = n5) = true := by simp
              refine g1.mono ?_
              rintro r H' ⟨rfl, rfl⟩
              simp only [go_sem, Nat.reduceEqDiff, Nat.reduceLT, Nat.reduceAdd, Nat.reduceMul, Int.reduceEq, Int.reduceLT, Int.reduceLE, Int.reduceNe, Int.reduceBEq, Int.reduceToNat, ↓reduceIte, f1, f7, f9, f43, f44, f45]
              refine g2.mono ?_
              rintro r H' ⟨rfl, rfl⟩
              simp only [go_sem, Nat.reduceEqDiff, Nat.reduceLT, Nat.reduceAdd, Nat.reduceMul, Int.reduceEq, Int.reduceLT, Int.reduceLE, Int.reduceNe, Int.reduceBEq, Int.reduceToNat, ↓reduceIte, f1, f7, f9, f43, f44, f45, d4]
              refine (hduo5.all (w0 := w0)).mono ?_
              rintro r6 H6 ⟨s6, g6⟩
              simp only [go_sem, Nat.reduceEqDiff, Nat.reduceLT, Nat.reduceAdd, Nat.reduceMul, Int.reduceEq, Int.reduceLT, Int.reduceLE, Int.reduceNe, Int.reduceBEq, Int.reduceToNat, ↓reduceIte, f1, f7, f9, f43, f44, f45]
              refine g6.mono ?_
              rintro r7 H7 ⟨s7, g7⟩
              simp only [go_sem, Nat.reduceEqDiff, Nat.reduceLT, Nat.reduceAdd, Nat.reduceMul, Int.reduceEq, Int.reduceLT, Int.reduceLE, Int.reduceNe, Int.reduceBEq, Int.reduceToNat, ↓reduceIte, f1, f7, f9, f43, f44, f45]
              refine (ACalls.hi g7).mono ?_
              rintro r H8 ⟨⟨rfl, rfl⟩, hhi8⟩
              have e3 : IntKind.i64.wrap ((k : Int) + 1) = (k + 1 : Nat) := by rw [i64_in] <;> omega
              simp only [go_sem, Nat.reduceEqDiff, Nat.reduceLT, Nat.reduceAdd, Nat.reduceMul, Int.reduceEq, Int.reduceLT, Int.reduceLE, Int.reduceNe, Int.reduceBEq, Int.reduceToNat, ↓reduceIte, f1, f7, f9, f43, f44, f45, e3]
              exact ⟨m - 1, by omega, k + 1, _, by omega, by simp only [go_sem, Nat.reduceEqDiff, Nat.reduceLT, Nat.reduceAdd, Nat.reduceMul, Int.reduceEq, Int.reduceLT, Int.reduceLE, Int.reduceNe, Int.reduceBEq, Int.reduceToNat, ↓reduceIte, f1], by simp only [go_sem, Nat.reduceEqDiff, Nat.reduceLT, Nat.reduceAdd, Nat.reduceMul, Int.reduceEq, Int.reduceLT, Int.reduceLE, Int.reduceNe, Int.reduceBEq, Int.reduceToNat, ↓reduceIte, f7], by simp only [go_sem, Nat.reduceEqDiff, Nat.reduceLT, Nat.reduceAdd, Nat.reduceMul, Int.reduceEq, Int.reduceLT, Int.reduceLE, Int.reduceNe, Int.reduceBEq, Int.reduceToNat, ↓reduceIte, f9], by simp only [go_sem, Nat.reduceEqDiff, Nat.reduceLT, Nat.reduceAdd, Nat.reduceMul, Int.reduceEq, Int.reduceLT, Int.reduceLE, Int.reduceNe, Int.reduceBEq, Int.reduceToNat, ↓reduceIte, f43], by simp only [go_sem, Nat.reduceEqDiff, Nat.reduceLT, Nat.reduceAdd, Nat.reduceMul, Int.reduceEq, Int.reduceLT, Int.reduceLE, Int.reduceNe, Int.reduceBEq, Int.reduceToNat, ↓reduceIte, f44], by simp only [go_sem, Nat.reduceEqDiff, Nat.reduceLT, Nat.reduceAdd, Nat.reduceMul, Int.reduceEq, Int.reduceLT, Int.reduceLE, Int.reduceNe, Int.reduceBEq, Int.reduceToNat, ↓reduceIte], hduo5.keep fun b o _ hb => s7 b o (s6 b o hb), hhi8⟩
            · have d5 : decide (((d % 5 : Nat) : Int) = 3) = false := by simp; omega
              have d6 : decide (((d % 5 : Nat) : Int) = 4) = false := by simp; omega
              obtain ⟨nn, co4, g4⟩ := hduo4.begin (w0 := w0)
              have d7 : decide (nn = nn) = true := by simp
              have d2 : decide (co4 = co4) = true := by simp
              simp only [go_sem, Nat.reduceEqDiff, Nat.reduceLT, Nat.reduceAdd, Nat.reduceMul, Int.reduceEq, Int.reduceLT, Int.reduceLE, Int.reduceNe, Int.reduceBEq, Int.reduceToNat, ↓reduceIte, f1, f7, f9, f43, f44, f45, xr, hbl, dm, d5, d6]
              refine g4.mono ?_
              rintro r H5 ⟨rfl, g4⟩
              simp only [go_sem, Nat.reduceEqDiff, Nat.reduceLT, Nat.reduceAdd, Nat.reduceMul, Int.reduceEq, Int.reduceLT, Int.reduceLE, Int.reduceNe, Int.reduceBEq, Int.reduceToNat, ↓reduceIte, f1, f7, f9, f43, f44, f45]
              refine g4.mono ?_
              rintro r H6 ⟨rfl, P5, hduo5, hstep⟩
              simp only [go_sem, Nat.reduceEqDiff, Nat.reduceLT, Nat.reduceAdd, Nat.reduceMul, Int.reduceEq, Int.reduceLT, Int.reduceLE, Int.reduceNe, Int.reduceBEq, Int.reduceToNat, ↓reduceIte, f1, f7, f9, f43, f44, f45, d7, d2]
              have d2 : decide (co4 = co4) = true := by simp
              try simp only [go_sem, Nat.reduceEqDiff, Nat.reduceLT, Nat.reduceAdd, Nat.reduceMul, Int.reduceEq, Int.reduceLT, Int.reduceLE, Int.reduceNe, Int.reduceBEq, Int.reduceToNat, ↓reduceIte, f1, f7, f9, f43, f44, f45, d2]
              obtain ⟨s5, g1, g2⟩ := hduo5.state (w0 := w0) x0 x1
              have d3 : decide (s5 = s5) = true := by simp
              refine g1.mono ?_
              rintro r H' ⟨rfl, rfl⟩
              simp only [go_sem, Nat.reduceEqDiff, Nat.reduceLT, Nat.reduceAdd, Nat.reduceMul, Int.reduceEq, Int.reduceLT, Int.reduceLE, Int.reduceNe, Int.reduceBEq, Int.reduceToNat, ↓reduceIte, f1, f7, f9, f43, f44, f45]
              refine g2.mono ?_
              rintro r H' ⟨rfl, rfl⟩
              simp only [go_sem, Nat.reduceEqDiff, Nat.reduceLT, Nat.reduceAdd, Nat.reduceMul, Int.reduceEq, Int.reduceLT, Int.reduceLE, Int.reduceNe, Int.reduceBEq, Int.reduceToNat, ↓reduceIte, f1, f7, f9, f43, f44, f45, d3]
              obtain ⟨n5, g1, g2⟩ := hduo5.next (w0 := w0)
              have d4 : decide (n5 = n5) = true := by simp
              refine g1.mono ?_
              rintro r H' ⟨rfl, rfl⟩
              simp only [go_sem, Nat.reduceEqDiff, Nat.reduceLT, Nat.reduceAdd, Nat.reduceMul, Int.reduceEq, Int.reduceLT, Int.reduceLE, Int.reduceNe, Int.reduceBEq, Int.reduceToNat, ↓reduceIte, f1, f7, f9, f43, f44, f45]
              refine g2.mono ?_
              rintro r H' ⟨rfl, rfl⟩
              simp only [go_sem, Nat.reduceEqDiff, Nat.reduceLT, Nat.reduceAdd, Nat.reduceMul, Int.reduceEq, Int.reduceLT, Int.reduceLE, Int.reduceNe, Int.reduceBEq, Int.reduceToNat, ↓reduceIte, f1, f7, f9, f43, f44, f45, d4]
              refine (hduo5.all (w0 := w0)).mono ?_
              rintro r6 H6 ⟨s6, g6⟩
              simp only [go_sem, Nat.reduceEqDiff, Nat.reduceLT, Nat.reduceAdd, Nat.reduceMul, Int.reduceEq, Int.reduceLT, Int.reduceLE, Int.reduceNe, Int.reduceBEq, Int.reduceToNat, ↓reduceIte, f1, f7, f9, f43, f44, f45]
              refine g6.mono ?_
              rintro r7 H7 ⟨s7, g7⟩
              simp only [go_sem, Nat.reduceEqDiff, Nat.reduceLT, Nat.reduceAdd, Nat.reduceMul, Int.reduceEq, Int.reduceLT, Int.reduceLE, Int.reduceNe, Int.reduceBEq, Int.reduceToNat, ↓reduceIte, f1, f7, f9, f43, f44, f45]
              refine (ACalls.hi g7).mono ?_
              rintro r H8 ⟨⟨rfl, rfl⟩, hhi8⟩
              have e3 : IntKind.i64.wrap ((k : Int) + 1) = (k + 1 : Nat) := by rw [i64_in] <;> omega
              simp only [go_sem, Nat.reduceEqDiff, Nat.reduceLT, Nat.reduceAdd, Nat.reduceMul, Int.reduceEq, Int.reduceLT, Int.reduceLE, Int.reduceNe, Int.reduceBEq, Int.reduceToNat, ↓reduceIte, f1, f7, f9, f43, f44, f45, e3]
              exact ⟨m - 1, by omega, k + 1, _, by omega, by simp only [go_sem, Nat.reduceEqDiff, Nat.reduceLT, Nat.reduceAdd, Nat.reduceMul, Int.reduceEq, Int.reduceLT, Int.reduceLE, Int.reduceNe, Int.reduceBEq, Int.reduceToNat, ↓reduceIte, f1], by simp only [go_sem, Nat.reduceEqDiff, Nat.reduceLT, Nat.reduceAdd, Nat.reduceMul, Int.reduceEq, Int.reduceLT, Int.reduceLE, Int.reduceNe, Int.reduceBEq, Int.reduceToNat, ↓reduceIte, f7], by simp only [go_sem, Nat.reduceEqDiff, Nat.reduceLT, Nat.reduceAdd, Nat.reduceMul, Int.reduceEq, Int.reduceLT, Int.reduceLE, Int.reduceNe, Int.reduceBEq, Int.reduceToNat, ↓reduceIte, f9], by simp only [go_sem, Nat.reduceEqDiff, Nat.reduceLT, Nat.reduceAdd, Nat.reduceMul, Int.reduceEq, Int.reduceLT, Int.reduceLE, Int.reduceNe, Int.reduceBEq, Int.reduceToNat, ↓reduceIte, f43], by simp only [go_sem, Nat.reduceEqDiff, Nat.reduceLT, Nat.reduceAdd, Nat.reduceMul, Int.reduceEq, Int.reduceLT, Int.reduceLE, Int.reduceNe, Int.reduceBEq, Int.reduceToNat, ↓reduceIte, f44], by simp only [go_sem, Nat.reduceEqDiff, Nat.reduceLT, Nat.reduceAdd, Nat.reduceMul, Int.reduceEq, Int.reduceLT, Int.reduceLE, Int.reduceNe, Int.reduceBEq, Int.reduceToNat, ↓reduceIte], hduo5.keep fun b o _ hb => s7 b o (s6 b o hb), hhi8⟩
      · have d6 : decide (60 ≤ (k : Int)) = true := by simp; omega
        simp only [go_sem, Nat.reduceEqDiff, Nat.reduceLT, Nat.reduceAdd, Nat.reduceMul, Int.reduceEq, Int.reduceLT, Int.reduceLE, Int.reduceNe, Int.reduceBEq, Int.reduceToNat, ↓reduceIte, f1, f7, f9, f43, f44, f45, d6]
        refine AC.loop (PlayJ w0 first lv' xv') (n := 62) ⟨0, PP, rfl, by simp only [go_sem, Nat.reduceEqDiff, Nat.reduceLT, Nat.reduceAdd, Nat.reduceMul, Int.reduceEq, Int.reduceLT, Int.reduceLE, Int.reduceNe, Int.reduceBEq, Int.reduceToNat, ↓reduceIte, f1], by simp only [go_sem, Nat.reduceEqDiff, Nat.reduceLT, Nat.reduceAdd, Nat.reduceMul, Int.reduceEq, Int.reduceLT, Int.reduceLE, Int.reduceNe, Int.reduceBEq, Int.reduceToNat, ↓reduceIte, f7], by simp only [go_sem, Nat.reduceEqDiff, Nat.reduceLT, Nat.reduceAdd, Nat.reduceMul, Int.reduceEq, Int.reduceLT, Int.reduceLE, Int.reduceNe, Int.reduceBEq, Int.reduceToNat, ↓reduceIte, f9], by simp only [go_sem, Nat.reduceEqDiff, Nat.reduceLT, Nat.reduceAdd, Nat.reduceMul, Int.reduceEq, Int.reduceLT, Int.reduceLE, Int.reduceNe, Int.reduceBEq, Int.reduceToNat, ↓reduceIte], by first | exact hduo3 | exact hduo4⟩ ?_
        clear f1 f7 f9 f43 f44 f45
        rintro m F H5 ⟨k, P5, hk, f1, f7, f9, f127, hduo5⟩
        by_cases c : k < 62
        · have d1 : decide ((k : Int) < 62) = true := by simp; omega
          obtain ⟨r0, r1⟩ := u64_range ((first : Int) + (k : Int))
          obtain ⟨s, g1, g2⟩ := hduo5.state (w0 := w0) r0 r1
          have d2 : decide (s = s) = true := by simp
          have d3 : IntKind.u64.wrap ((k : Int) + 1) = (k + 1 : Nat) := by rw [u64_in] <;> omega
          simp only [go_sem, Nat.reduceEqDiff, Nat.reduceLT, Nat.reduceAdd, Nat.reduceMul, Int.reduceEq, Int.reduceLT, Int.reduceLE, Int.reduceNe, Int.reduceBEq, Int.reduceToNat, ↓reduceIte, f1, f7, f9, f127, d1]
          refine g1.mono ?_
          rintro r H' ⟨rfl, rfl⟩
          simp only [go_sem, Nat.reduceEqDiff, Nat.reduceLT, Nat.reduceAdd, Nat.reduceMul, Int.reduceEq, Int.reduceLT, Int.reduceLE, Int.reduceNe, Int.reduceBEq, Int.reduceToNat, ↓reduceIte, f1, f7, f9, f127, d1]
          refine g2.mono ?_
          rintro r H' ⟨rfl, rfl⟩
          simp only [go_sem, Nat.reduceEqDiff, Nat.reduceLT, Nat.reduceAdd, Nat.reduceMul, Int.reduceEq, Int.reduceLT, Int.reduceLE, Int.reduceNe, Int.reduceBEq, Int.reduceToNat, ↓reduceIte, f1, f7, f9, f127, d1, d2, d3]
          exact ⟨m - 1, by omega, k + 1, P5, by omega, by simp only [go_sem, Nat.reduceEqDiff, Nat.reduceLT, Nat.reduceAdd, Nat.reduceMul, Int.reduceEq, Int.reduceLT, Int.reduceLE, Int.reduceNe, Int.reduceBEq, Int.reduceToNat, ↓reduceIte, f1], by simp only [go_sem, Nat.reduceEqDiff, Nat.reduceLT, Nat.reduceAdd, Nat.reduceMul, Int.reduceEq, Int.reduceLT, Int.reduceLE, Int.reduceNe, Int.reduceBEq, Int.reduceToNat, ↓reduceIte, f7], by simp only [go_sem, Nat.reduceEqDiff, Nat.reduceLT, Nat.reduceAdd, Nat.reduceMul, Int.reduceEq, Int.reduceLT, Int.reduceLE, Int.reduceNe, Int.reduceBEq, Int.reduceToNat, ↓reduceIte, f9], by simp only [go_sem, Nat.reduceEqDiff, Nat.reduceLT, Nat.reduceAdd, Nat.reduceMul, Int.reduceEq, Int.reduceLT, Int.reduceLE, Int.reduceNe, Int.reduceBEq, Int.reduceToNat, ↓reduceIte], hduo5⟩
        · have d1 : decide ((k : Int) < 62) = false := by simp; omega
          simp only [go_sem, Nat.reduceEqDiff, Nat.reduceLT, Nat.reduceAdd, Nat.reduceMul, Int.reduceEq, Int.reduceLT, Int.reduceLE, Int.reduceNe, Int.reduceBEq, Int.reduceToNat, ↓reduceIte, f1, f7, f9, f127, d1]
    · have d1 : decide ((k : Int) < (n : Int)) = false := by simp; omega
      simp only [go_sem, Nat.reduceEqDiff, Nat.reduceLT, Nat.reduceAdd, Nat.reduceMul, Int.reduceEq, Int.reduceLT, Int.reduceLE, Int.reduceNe, Int.reduceBEq, Int.reduceToNat, ↓reduceIte, f1, f7, f9, f43, f44, f45, d1]
      refine AC.loop (PlayJ w0 first lv' xv') (n := 62) ⟨0, PP, rfl, by simp only [go_sem, Nat.reduceEqDiff, Nat.reduceLT, Nat.reduceAdd, Nat.reduceMul, Int.reduceEq, Int.reduceLT, Int.reduceLE, Int.reduceNe, Int.reduceBEq, Int.reduceToNat, ↓reduceIte, f1], by simp only [go_sem, Nat.reduceEqDiff, Nat.reduceLT, Nat.reduceAdd, Nat.reduceMul, Int.reduceEq, Int.reduceLT, Int.reduceLE, Int.reduceNe, Int.reduceBEq, Int.reduceToNat, ↓reduceIte, f7], by simp only [go_sem, Nat.reduceEqDiff, Nat.reduceLT, Nat.reduceAdd, Nat.reduceMul, Int.reduceEq, Int.reduceLT, Int.reduceLE, Int.reduceNe, Int.reduceBEq, Int.reduceToNat, ↓reduceIte, f9], by simp only [go_sem, Nat.reduceEqDiff, Nat.reduceLT, Nat.reduceAdd, Nat.reduceMul, Int.reduceEq, Int.reduceLT, Int.reduceLE, Int.reduceNe, Int.reduceBEq, Int.reduceToNat, ↓reduceIte], by first | exact hduo3 | exact hduo4⟩ ?_
      clear f1 f7 f9 f43 f44 f45
      rintro m F H5 ⟨k, P5, hk, f1, f7, f9, f127, hduo5⟩
      by_cases c : k < 62
      · have d1 : decide ((k : Int) < 62) = true := by simp; omega
        obtain ⟨r0, r1⟩ := u64_range ((first : Int) + (k : Int))
        obtain ⟨s, g1, g2⟩ := hduo5.state (w0 := w0) r0 r1
        have d2 : decide (s = s) = true := by simp
        have d3 : IntKind.u64.wrap ((k : Int) + 1) = (k + 1 : Nat) := by rw [u64_in] <;> omega
        simp only [go_sem, Nat.reduceEqDiff, Nat.reduceLT, Nat.reduceAdd, Nat.reduceMul, Int.reduceEq, Int.reduceLT, Int.reduceLE, Int.reduceNe, Int.reduceBEq, Int.reduceToNat, ↓reduceIte, f1, f7, f9, f127, d1]
        refine g1.mono ?_
        rintro r H' ⟨rfl, rfl⟩
        simp only [go_sem, Nat.reduceEqDiff, Nat.reduceLT, Nat.reduceAdd, Nat.reduceMul, Int.reduceEq, Int.reduceLT, Int.reduceLE, Int.reduceNe, Int.reduceBEq, Int.reduceToNat, ↓reduceIte, f1, f7, f9, f127, d1]
        refine g2.mono ?_
        rintro r H' ⟨rfl, rfl⟩
        simp only [go_sem, Nat.reduceEqDiff, Nat.reduceLT, Nat.reduceAdd, Nat.reduceMul, Int.reduceEq, Int.reduceLT, Int.reduceLE, Int.reduceNe, Int.reduceBEq, Int.reduceToNat, ↓reduceIte, f1, f7, f9, f127, d1, d2, d3]
        exact ⟨m - 1, by omega, k + 1, P5, by omega, by simp only [go_sem, Nat.reduceEqDiff, Nat.reduceLT, Nat.reduceAdd, Nat.reduceMul, Int.reduceEq, Int.reduceLT, Int.reduceLE, Int.reduceNe, Int.reduceBEq, Int.reduceToNat, ↓reduceIte, f1], by simp only [go_sem, Nat.reduceEqDiff, Nat.reduceLT, Nat.reduceAdd, Nat.reduceMul, Int.reduceEq, Int.reduceLT, Int.reduceLE, Int.reduceNe, Int.reduceBEq, Int.reduceToNat, ↓reduceIte, f7], by simp only [go_sem, Nat.reduceEqDiff, Nat.reduceLT, Nat.reduceAdd, Nat.reduceMul, Int.reduceEq, Int.reduceLT, Int.reduceLE, Int.reduceNe, Int.reduceBEq, Int.reduceToNat, ↓reduceIte, f9], by simp only [go_sem, Nat.reduceEqDiff, Nat.reduceLT, Nat.reduceAdd, Nat.reduceMul, Int.reduceEq, Int.reduceLT, Int.reduceLE, Int.reduceNe, Int.reduceBEq, Int.reduceToNat, ↓reduceIte], hduo5⟩
      · have d1 : decide ((k : Int) < 62) = false := by simp; omega
        simp only [go_sem, Nat.reduceEqDiff, Nat.reduceLT, Nat.reduceAdd, Nat.reduceMul, Int.reduceEq, Int.reduceLT, Int.reduceLE, Int.reduceNe, Int.reduceBEq, Int.reduceToNat, ↓reduceIte, f1, f7, f9, f127, d1]
  · simp only [go_sem, Nat.reduceEqDiff, Nat.reduceLT, Nat.reduceAdd, Nat.reduceMul, Int.reduceEq, Int.reduceLT, Int.reduceLE, Int.reduceNe, Int.reduceBEq, Int.reduceToNat, ↓reduceIte, e1, z1, z2]
    refine AC.loop (PlayI w0 first n (.slice ad n c) lv' xv') (n := n) ⟨0, P', by omega, rfl, hl'.symm, hx'.symm, rfl, rfl, rfl, hduo', hhi⟩ ?_
    rintro m F H3 ⟨k, PP, hk, f1, f7, f9, f43, f44, f45, hduo3, hhi3⟩
    by_cases c1 : k < n
    · have d1 : decide ((k : Int) < (n : Int)) = true := by simp; omega
      have d0 : decide ((0 : Int) ≤ (k : Int)) = true := by simp
      obtain ⟨ab, rfl, d, x, nr, hd, hx, hc0, hc1, hc2⟩ := hops k c1
      have l0 := ld_arg hhi3 hc0
      have l1 := ld_arg hhi3 hc1
      have l2 := ld_arg hhi3 hc2
      have hl3 : ldCells w0 H3 (ab.add (k * 3)) 0 3 = some [.int .u8 (d : Int), .int .u64 (x : Int), .bool nr] := by
        simp only [ldCells, l0, l1, l2, Option.bind_some, Option.map_some]
      simp only [go_sem, Nat.reduceEqDiff, Nat.reduceLT, Nat.reduceAdd, Nat.reduceMul, Int.reduceEq, Int.reduceLT, Int.reduceLE, Int.reduceNe, Int.reduceBEq, Int.reduceToNat, ↓reduceIte, f1, f7, f9, f43, f44, f45, d1, d0, ldK_agg, hl3]
      intro b hb hnb
      have hhi4 : Hi w0 (H3.set b (.cells #[.int .u8 (d : Int), .int .u64 (x : Int), .bool nr] 40 (0, 0))) := hhi3.set hb _
      have hduo4 : Duo (H3.set b (.cells #[.int .u8 (d : Int), .int .u64 (x : Int), .bool nr] 40 (0, 0))) lv' xv' PP first := hduo3.keep fun i o _ hi => by
        rw [Hp.set_ne _ _ _ _ (fun e => by rw [e, hnb] at hi; cases hi)]; exact hi
      have hbl := ld_own w0 (Hp.set_same H3 b (.cells #[.int .u8 (d : Int), .int .u64 (x : Int), .bool nr] 40 (0, 0)))
      simp only [go_sem, Nat.reduceEqDiff, Nat.reduceLT, Nat.reduceAdd, Nat.reduceMul, Int.reduceEq, Int.reduceLT, Int.reduceLE, Int.reduceNe, Int.reduceBEq, Int.reduceToNat, ↓reduceIte, f1, f7, f9, f43, f44, f45]
      rw [storeK_all (cs := #[.int .u8 (d : Int), .int .u64 (x : Int), .bool nr]) (Hp.set_same H3 b (.cells #[.int .u8 0, .int .u64 0, .bool false] 40 (0, 0))) rfl (by simp [cell1_int, cell1_bool])]
      have dm : (d : Int).tmod 5 = ((d % 5 : Nat) : Int) := by rw [Int.tmod_eq_emod_of_nonneg (by omega)]; omega
      by_cases c6 : k < 60
      · have d6 : decide (60 ≤ (k : Int)) = false := by simp; omega
        obtain ⟨X, hX⟩ : ∃ X, X = if nr = true then IntKind.u64.wrap ((first : Int) + (x : Int).tmod 64) else (x : Int) := ⟨_, rfl⟩
        have x0 : 0 ≤ X ∧ X < 18446744073709551616 := by
          rw [hX]; split
          · exact u64_range _
          · omega
        obtain ⟨x0, x1⟩ := x0
        cases nr
        · obtain rfl : X = (x : Int) := by simpa using hX
          have xr : (0 + 0 : Nat) = 0 := rfl
          simp only [go_sem, Nat.reduceEqDiff, Nat.reduceLT, Nat.reduceAdd, Nat.reduceMul, Int.reduceEq, Int.reduceLT, Int.reduceLE, Int.reduceNe, Int.reduceBEq, Int.reduceToNat, ↓reduceIte, f1, f7, f9, f43, f44, f45, d6, hbl]
          by_cases c3 : d % 5 = 3
          · have d5 : decide (((d % 5 : Nat) : Int) = 3) = true := by simp [c3]
            obtain ⟨co4, g4⟩ := hduo4.commit (w0 := w0) x0 x1
            simp only [go_sem, Nat.reduceEqDiff, Nat.reduceLT, Nat.reduceAdd, Nat.reduceMul, Int.reduceEq, Int.reduceLT, Int.reduceLE, Int.reduceNe, Int.reduceBEq, Int.reduceToNat, ↓reduceIte, f1, f7, f9, f43, f44, f45, xr, hbl, dm, d5]
            refine g4.mono ?_
            rintro r H5 ⟨rfl, g4⟩
            simp only [go_sem, Nat.reduceEqDiff, Nat.reduceLT, Nat.reduceAdd, Nat.reduceMul, Int.reduceEq, Int.reduceLT, Int.reduceLE, Int.reduceNe, Int.reduceBEq, Int.reduceToNat, ↓reduceIte, f1, f7, f9, f43, f44, f45]
            refine g4.mono ?_
            rintro r H6 ⟨rfl, hduo5, hstep⟩
            have d2 : decide (co4 = co4) = true := by simp
            try simp only [go_sem, Nat.reduceEqDiff, Nat.reduceLT, Nat.reduceAdd, Nat.reduceMul, Int.reduceEq, Int.reduceLT, Int.reduceLE, Int.reduceNe, Int.reduceBEq, Int.reduceToNat, ↓reduceIte, f1, f7, f9, f43, f44, f45, d2]
            obtain ⟨s5, g1, g2⟩ := hduo5.state (w0 := w0) x0 x1
            have d3 : decide (s5 = s5) = true := by simp
            refine g1.mono ?_
            rintro r H' ⟨rfl, rfl⟩
            simp only [go_sem, Nat.reduceEqDiff, Nat.reduceLT, Nat.reduceAdd, Nat.reduceMul, Int.reduceEq, Int.reduceLT, Int.reduceLE, Int.reduceNe, Int.reduceBEq, Int.reduceToNat, ↓reduceIte, f1, f7, f9, f43, f44, f45]
            refine g2.mono ?_
            rintro r H' ⟨rfl, rfl⟩
            simp only [go_sem, Nat.reduceEqDiff, Nat.reduceLT, Nat.reduceAdd, Nat.reduceMul, Int.reduceEq, Int.reduceLT, Int.reduceLE, Int.reduceNe, Int.reduceBEq, Int.reduceToNat, ↓reduceIte, f1, f7, f9, f43, f44, f45, d3]
            obtain ⟨n5, g1, g2⟩ := hduo5.next (w0 := w0)
            have d4 : decide (n5 = n5) = true := by simp
            refine g1.mono ?_
            rintro r H' ⟨rfl, rfl⟩
            simp only [go_sem, Nat.reduceEqDiff, Nat.reduceLT, Nat.reduceAdd, Nat.reduceMul, Int.reduceEq, Int.reduceLT, Int.reduceLE, Int.reduceNe, Int.reduceBEq, Int.reduceToNat, ↓reduceIte, f1, f7, f9, f43, f44, f45]
            refine g2.mono ?_
            rintro r H' ⟨rfl, rfl⟩
            simp only [go_sem, Nat.reduceEqDiff, Nat.reduceLT, Nat.reduceAdd, Nat.reduceMul, Int.reduceEq, Int.reduceLT, Int.reduceLE, Int.reduceNe, Int.reduceBEq, Int.reduceToNat, ↓reduceIte, f1, f7, f9, f43, f44, f45, d4]
            refine (hduo5.all (w0 := w0)).mono ?_
            rintro r6 H6 ⟨s6, g6⟩
            simp only [go_sem, Nat.reduceEqDiff, Nat.reduceLT, Nat.reduceAdd, Nat.reduceMul, Int.reduceEq, Int.reduceLT, Int.reduceLE, Int.reduceNe, Int.reduceBEq, Int.reduceToNat, ↓reduceIte, f1, f7, f9, f43, f44, f45]
            refine g6.mono ?_
            rintro r7 H7 ⟨s7, g7⟩
            simp only [go_sem, Nat.reduceEqDiff, Nat.reduceLT, Nat.reduceAdd, Nat.reduceMul, Int.reduceEq, Int.reduceLT, Int.reduceLE, Int.reduceNe, Int.reduceBEq, Int.reduceToNat, ↓reduceIte, f1, f7, f9, f43, f44, f45]
            refine (ACalls.hi g7).mono ?_
            rintro r H8 ⟨⟨rfl, rfl⟩, hhi8⟩
            have e3 : IntKind.i64.wrap ((k : Int) + 1) = (k + 1 : Nat) := by rw [i64_in] <;> omega
            simp only [go_sem, Nat.reduceEqDiff, Nat.reduceLT, Nat.reduceAdd, Nat.reduceMul, Int.reduceEq, Int.reduceLT, Int.reduceLE, Int.reduceNe, Int.reduceBEq, Int.reduceToNat, ↓reduceIte, f1, f7, f9, f43, f44, f45, e3]
            exact ⟨m - 1, by omega, k + 1, _, by omega, by simp only [go_sem, Nat.reduceEqDiff, Nat.reduceLT, Nat.reduceAdd, Nat.reduceMul, Int.reduceEq, Int.reduceLT, Int.reduceLE, Int.reduceNe, Int.reduceBEq, Int.reduceToNat, ↓reduceIte, f1], by simp only [go_sem, Nat.reduceEqDiff, Nat.reduceLT, Nat.reduceAdd, Nat.reduceMul, Int.reduceEq, Int.reduceLT, Int.reduceLE, Int.reduceNe, Int.reduceBEq, Int.reduceToNat, ↓reduceIte, f7], by simp only [go_sem, Nat.reduceEqDiff, Nat.reduceLT, Nat.reduceAdd, Nat.reduceMul, Int.reduceEq, Int.reduceLT, Int.reduceLE, Int.reduceNe, Int.reduceBEq, Int.reduceToNat, ↓reduceIte, f9], by simp only [go_sem, Nat.reduceEqDiff, Nat.reduceLT, Nat.reduceAdd, Nat.reduceMul, Int.reduceEq, Int.reduceLT, Int.reduceLE, Int.reduceNe, Int.reduceBEq, Int.reduceToNat, ↓reduceIte, f43], by simp only [go_sem, Nat.reduceEqDiff, Nat.reduceLT, Nat.reduceAdd, Nat.reduceMul, Int.reduceEq, Int.reduceLT, Int.reduceLE, Int.reduceNe, Int.reduceBEq, Int.reduceToNat, ↓reduceIte, f44], by simp only [go_sem, Nat.reduceEqDiff, Nat.reduceLT, Nat.reduceAdd, Nat.reduceMul, Int.reduceEq, Int.reduceLT, Int.reduceLE, Int.reduceNe, Int.reduceBEq, Int.reduceToNat, ↓reduceIte], hduo5.keep fun b o _ hb => s7 b o (s6 b o hb), hhi8⟩
          · by_cases c4 : d % 5 = 4
            · have d5 : decide (((d % 5 : Nat) : Int) = 3) = false := by simp [c4]
              have d6 : decide (((d % 5 : Nat) : Int) = 4) = true := by simp [c4]
              obtain ⟨co4, g4⟩ := hduo4.abort (w0 := w0) x0 x1
              simp only [go_sem, Nat.reduceEqDiff, Nat.reduceLT, Nat.reduceAdd, Nat.reduceMul, Int.reduceEq, Int.reduceLT, Int.reduceLE, Int.reduceNe, Int.reduceBEq, Int.reduceToNat, ↓reduceIte, f1, f7, f9, f43, f44, f45, xr, hbl, dm, d5, d6]
              refine g4.mono ?_
              rintro r H5 ⟨rfl, g4⟩
              simp only [go_sem, Nat.reduceEqDiff, Nat.reduceLT, Nat.reduceAdd, Nat.reduceMul, Int.reduceEq, Int.reduceLT, Int.reduceLE, Int.reduceNe, Int.reduceBEq, Int.reduceToNat, ↓reduceIte, f1, f7, f9, f43, f44, f45]
              refine g4.mono ?_
              rintro r H6 ⟨rfl, hduo5, hstep⟩
              have d2 : decide (co4 = co4) = true := by simp
              try simp only [go_sem, Nat.reduceEqDiff, Nat.reduceLT, Nat.reduceAdd, Nat.reduceMul, Int.reduceEq, Int.reduceLT, Int.reduceLE, Int.reduceNe, Int.reduceBEq, Int.reduceToNat, ↓reduceIte, f1, f7, f9, f43, f44, f45, d2]
              obtain ⟨s5, g1, g2⟩ := hduo5.state (w0 := w0) x0 x1
              have d3 : decide (s5 = s5) = true := by simp
              refine g1.mono ?_
              rintro r H' ⟨rfl, rfl⟩
              simp only [go_sem, Nat.reduceEqDiff, Nat.reduceLT, Nat.reduceAdd, Nat.reduceMul, Int.reduceEq, Int.reduceLT, Int.reduceLE, Int.reduceNe, Int.reduceBEq, Int.reduceToNat, ↓reduceIte, f1, f7, f9, f43, f44, f45]
              refine g2.mono ?_
              rintro r H' ⟨rfl, rfl⟩
              simp only [go_sem, Nat.reduceEqDiff, Nat.reduceLT, Nat.reduceAdd, Nat.reduceMul, Int.reduceEq, Int.reduceLT, Int.reduceLE, Int.reduceNe, Int.reduceBEq, Int.reduceToNat, ↓reduceIte, f1, f7, f9, f43, f44, f45, d3]
              obtain ⟨n5, g1, g2⟩ := hduo5.next (w0 := w0)
              have d4 : decide (n5 = n5) = true := by simp
              refine g1.mono ?_
              rintro r H' ⟨rfl, rfl⟩
              simp only [go_sem, Nat.reduceEqDiff, Nat.reduceLT, Nat.reduceAdd, Nat.reduceMul, Int.reduceEq, Int.reduceLT, Int.reduceLE, Int.reduceNe, Int.reduceBEq, Int.reduceToNat, ↓reduceIte, f1, f7, f9, f43, f44, f45]
              refine g2.mono ?_
              rintro r H' ⟨rfl, rfl⟩
              simp only [go_sem, Nat.reduceEqDiff, Nat.reduceLT, Nat.reduceAdd, Nat.reduceMul, Int.reduceEq, Int.reduceLT, Int.reduceLE, Int.reduceNe, Int.reduceBEq, Int.reduceToNat, ↓reduceIte, f1, f7, f9, f43, f44, f45, d4]
              refine (hduo5.all (w0 := w0)).mono ?_
              rintro r6 H6 ⟨s6, g6⟩
              simp only [go_sem, Nat.reduceEqDiff, Nat.reduceLT, Nat.reduceAdd, Nat.reduceMul, Int.reduceEq, Int.reduceLT, Int.reduceLE, Int.reduceNe, Int.reduceBEq, Int.reduceToNat, ↓reduceIte, f1, f7, f9, f43, f44, f45]
              refine g6.mono ?_
              rintro r7 H7 ⟨s7, g7⟩
              simp only [go_sem, Nat.reduceEqDiff, Nat.reduceLT, Nat.reduceAdd, Nat.reduceMul, Int.reduceEq, Int.reduceLT, Int.reduceLE, Int.reduceNe, Int.reduceBEq, Int.reduceToNat, ↓reduceIte, f1, f7, f9, f43, f44, f45]
              refine (ACalls.hi g7).mono ?_
              rintro r H8 ⟨⟨rfl, rfl⟩, hhi8⟩
              have e3 : IntKind.i64.wrap ((k : Int) + 1) = (k + 1 : Nat) := by rw [i64_in] <;> omega
              simp only [go_sem, Nat.reduceEqDiff, Nat.reduceLT, Nat.reduceAdd, Nat.reduceMul, Int.reduceEq, Int.reduceLT, Int.reduceLE, Int.reduceNe, Int.reduceBEq, Int.reduceToNat, ↓reduceIte, f1, f7, f9, f43, f44, f45, e3]
              exact ⟨m - 1, by omega, k + 1, _, by omega, by simp only [go_sem, Nat.reduceEqDiff, Nat.reduceLT, Nat.reduceAdd, Nat.reduceMul, Int.reduceEq, Int.reduceLT, Int.reduceLE, Int.reduceNe, Int.reduceBEq, Int.reduceToNat, ↓reduceIte, f1], by simp only [go_sem, Nat.reduceEqDiff, Nat.reduceLT, Nat.reduceAdd, Nat.reduceMul, Int.reduceEq, Int.reduceLT, Int.reduceLE, Int.reduceNe, Int.reduceBEq, Int.reduceToNat, ↓reduceIte, f7], by simp only [go_sem, Nat.reduceEqDiff, Nat.reduceLT, Nat.reduceAdd, Nat.reduceMul, Int.reduceEq, Int.reduceLT, Int.reduceLE, Int.reduceNe, Int.reduceBEq, Int.reduceToNat, ↓reduceIte, f9], by simp only [go_sem, Nat.reduceEqDiff, Nat.reduceLT, Nat.reduceAdd, Nat.reduceMul, Int.reduceEq, Int.reduceLT, Int.reduceLE, Int.reduceNe, Int.reduceBEq, Int.reduceToNat, ↓reduceIte, f43], by simp only [go_sem, Nat.reduceEqDiff, Nat.reduceLT, Nat.reduceAdd, Nat.reduceMul, Int.reduceEq, Int.reduceLT, Int.reduceLE, Int.reduceNe, Int.reduceBEq, Int.reduceToNat, ↓reduceIte, f44], by simp only [go_sem, Nat.reduceEqDiff, Nat.reduceLT, Nat.reduceAdd, Nat.reduceMul, Int.reduceEq, Int.reduceLT, Int.reduceLE, Int.reduceNe, Int.reduceBEq, Int.reduceToNat, ↓reduceIte], hduo5.keep fun b o _ hb => s7 b o (s6 b o hb), hhi8⟩
            · have d5 : decide (((d % 5 : Nat) : Int) = 3) = false := by simp; omega
              have d6 : decide (((d % 5 : Nat) : Int) = 4) = false := by simp; omega
              obtain ⟨nn, co4, g4⟩ := hduo4.begin (w0 := w0)
              have d7 : decide (nn = nn) = true := by simp
              have d2 : decide (co4 = co4) = true := by simp
              simp only [go_sem, Nat.reduceEqDiff, Nat.reduceLT, Nat.reduceAdd, Nat.reduceMul, Int.reduceEq, Int.reduceLT, Int.reduceLE, Int.reduceNe, Int.reduceBEq, Int.reduceToNat, ↓reduceIte, f1, f7, f9, f43, f44, f45, xr, hbl, dm, d5, d6]
              refine g4.mono ?_
              rintro r H5 ⟨rfl, g4⟩
              simp only [go_sem, Nat.reduceEqDiff, Nat.reduceLT, Nat.reduceAdd, Nat.reduceMul, Int.reduceEq, Int.reduceLT, Int.reduceLE, Int.reduceNe, Int.reduceBEq, Int.reduceToNat, ↓reduceIte, f1, f7, f9, f43, f44, f45]
              refine g4.mono ?_
              rintro r H6 ⟨rfl, P5, hduo5, hstep⟩
              simp only [go_sem, Nat.reduceEqDiff, Nat.reduceLT, Nat.reduceAdd, Nat.reduceMul, Int.reduceEq, Int.reduceLT, Int.reduceLE, Int.reduceNe, Int.reduceBEq, Int.reduceToNat, ↓reduceIte, f1, f7, f9, f43, f44, f45, d7, d2]
              have d2 : decide (co4 = co4) = true := by simp
              try simp only [go_sem, Nat.reduceEqDiff, Nat.reduceLT, Nat.reduceAdd, Nat.reduceMul, Int.reduceEq, Int.reduceLT, Int.reduceLE, Int.reduceNe, Int.reduceBEq, Int.reduceToNat, ↓reduceIte, f1, f7, f9, f43, f44, f45, d2]
              obtain ⟨s5, g1, g2⟩ := hduo5.state (w0 := w0) x0 x1
              have d3 : decide (s5 = s5) = true := by simp
              refine g1.mono ?_
              rintro r H' ⟨rfl, rfl⟩
              simp only [go_sem, Nat.reduceEqDiff, Nat.reduceLT, Nat.reduceAdd, Nat.reduceMul, Int.reduceEq, Int.reduceLT, Int.reduceLE, Int.reduceNe, Int.reduceBEq, Int.reduceToNat, ↓reduceIte, f1, f7, f9, f43, f44, f45]
              refine g2.mono ?_
              rintro r H' ⟨rfl, rfl⟩
              simp only [go_sem, Nat.reduceEqDiff, Nat.reduceLT, Nat.reduceAdd, Nat.reduceMul, Int.reduceEq, Int.reduceLT, Int.reduceLE, Int.reduceNe, Int.reduceBEq, Int.reduceToNat, ↓reduceIte, f1, f7, f9, f43, f44, f45, d3]
              obtain ⟨n5, g1, g2⟩ := hduo5.next (w0 := w0)
              have d4 : decide (n5 = n5) = true := by simp
              refine g1.mono ?_
              rintro r H' ⟨rfl, rfl⟩
              simp only [go_sem, Nat.reduceEqDiff, Nat.reduceLT, Nat.reduceAdd, Nat.reduceMul, Int.reduceEq, Int.reduceLT, Int.reduceLE, Int.reduceNe, Int.reduceBEq, Int.reduceToNat, ↓reduceIte, f1, f7, f9, f43, f44, f45]
              refine g2.mono ?_
              rintro r H' ⟨rfl, rfl⟩
              simp only [go_sem, Nat.reduceEqDiff, Nat.reduceLT, Nat.reduceAdd, Nat.reduceMul, Int.reduceEq, Int.reduceLT, Int.reduceLE, Int.reduceNe, Int.reduceBEq, Int.reduceToNat, ↓reduceIte, f1, f7, f9, f43, f44, f45, d4]
              refine (hduo5.all (w0 := w0)).mono ?_
              rintro r6 H6 ⟨s6, g6⟩
              simp only [go_sem, Nat.reduceEqDiff, Nat.reduceLT, Nat.reduceAdd, Nat.reduceMul, Int.reduceEq, Int.reduceLT, Int.reduceLE, Int.reduceNe, Int.reduceBEq, Int.reduceToNat, ↓reduceIte, f1, f7, f9, f43, f44, f45]
              refine g6.mono ?_
              rintro r7 H7 ⟨s7, g7⟩
              simp only [go_sem, Nat.reduceEqDiff, Nat.reduceLT, Nat.reduceAdd, Nat.reduceMul, Int.reduceEq, Int.reduceLT, Int.reduceLE, Int.reduceNe, Int.reduceBEq, Int.reduceToNat, ↓reduceIte, f1, f7, f9, f43, f44, f45]
              refine (ACalls.hi g7).mono ?_
              rintro r H8 ⟨⟨rfl, rfl⟩, hhi8⟩
              have e3 : IntKind.i64.wrap ((k : Int) + 1) = (k + 1 : Nat) := by rw [i64_in] <;> omega
              simp only [go_sem, Nat.reduceEqDiff, Nat.reduceLT, Nat.reduceAdd, Nat.reduceMul, Int.reduceEq, Int.reduceLT, Int.reduceLE, Int.reduceNe, Int.reduceBEq, Int.reduceToNat, ↓reduceIte, f1, f7, f9, f43, f44, f45, e3]
              exact ⟨m - 1, by omega, k + 1, _, by omega, by simp only [go_sem, Nat.reduceEqDiff, Nat.reduceLT, Nat.reduceAdd, Nat.reduceMul, Int.reduceEq, Int.reduceLT, Int.reduceLE, Int.reduceNe, Int.reduceBEq, Int.reduceToNat, ↓reduceIte, f1], by simp only [go_sem, Nat.reduceEqDiff, Nat.reduceLT, Nat.reduceAdd, Nat.reduceMul, Int.reduceEq, Int.reduceLT, Int.reduceLE, Int.reduceNe, Int.reduceBEq, Int.reduceToNat, ↓reduceIte, f7], by simp only [go_sem, Nat.reduceEqDiff, Nat.reduceLT, Nat.reduceAdd, Nat.reduceMul, Int.reduceEq, Int.reduceLT, Int.reduceLE, Int.reduceNe, Int.reduceBEq, Int.reduceToNat, ↓reduceIte, f9], by simp only [go_sem, Nat.reduceEqDiff, Nat.reduceLT, Nat.reduceAdd, Nat.reduceMul, Int.reduceEq, Int.reduceLT, Int.reduceLE, Int.reduceNe, Int.reduceBEq, Int.reduceToNat, ↓reduceIte, f43], by simp only [go_sem, Nat.reduceEqDiff, Nat.reduceLT, Nat.reduceAdd, Nat.reduceMul, Int.reduceEq, Int.reduceLT, Int.reduceLE, Int.reduceNe, Int.reduceBEq, Int.reduceToNat, ↓reduceIte, f44], by simp only [go_sem, Nat.reduceEqDiff, Nat.reduceLT, Nat.reduceAdd, Nat.reduceMul, Int.reduceEq, Int.reduceLT, Int.reduceLE, Int.reduceNe, Int.reduceBEq, Int.reduceToNat, ↓reduceIte], hduo5.keep fun b o _ hb => s7 b o (s6 b o hb), hhi8⟩
        · have xr : IntKind.u64.wrap ((first : Int) + (x : Int).tmod 64) = X := by rw [hX]; simp
          simp only [go_sem, Nat.reduceEqDiff, Nat.reduceLT, Nat.reduceAdd, Nat.reduceMul, Int.reduceEq, Int.reduceLT, Int.reduceLE, Int.reduceNe, Int.reduceBEq, Int.reduceToNat, ↓reduceIte, f1, f7, f9, f43, f44, f45, d6, hbl, xr]
          by_cases c3 : d % 5 = 3
          · have d5 : decide (((d % 5 : Nat) : Int) = 3) = true := by simp [c3]
            obtain ⟨co4, g4⟩ := hduo4.commit (w0 := w0) x0 x1
            simp only [go_sem, Nat.reduceEqDiff, Nat.reduceLT, Nat.reduceAdd, Nat.reduceMul, Int.reduceEq, Int.reduceLT, Int.reduceLE, Int.reduceNe, Int.reduceBEq, Int.reduceToNat, ↓reduceIte, f1, f7, f9, f43, f44, f45, xr, hbl, dm, d5]
            refine g4.mono ?_
            rintro r H5 ⟨rfl, g4⟩
            simp only [go_sem, Nat.reduceEqDiff, Nat.reduceLT, Nat.reduceAdd, Nat.reduceMul, Int.reduceEq, Int.reduceLT, Int.reduceLE, Int.reduceNe, Int.reduceBEq, Int.reduceToNat, ↓reduceIte, f1, f7, f9, f43, f44, f45]
            refine g4.mono ?_
            rintro r H6 ⟨rfl, hduo5, hstep⟩
            have d2 : decide (co4 = co4) = true := by simp
            try simp only [go_sem, Nat.reduceEqDiff, Nat.reduceLT, Nat.reduceAdd, Nat.reduceMul, Int.reduceEq, Int.reduceLT, Int.reduceLE, Int.reduceNe, Int.reduceBEq, Int.reduceToNat, ↓reduceIte, f1, f7, f9, f43, f44, f45, d2]
            obtain ⟨s5, g1, g2⟩ := hduo5.state (w0 := w0) x0 x1
            have d3 : decide (s5 = s5) = true := by simp
            refine g1.mono ?_
            rintro r H' ⟨rfl, rfl⟩
            simp only [go_sem, Nat.reduceEqDiff, Nat.reduceLT, Nat.reduceAdd, Nat.reduceMul, Int.reduceEq, Int.reduceLT, Int.reduceLE, Int.reduceNe, Int.reduceBEq, Int.reduceToNat, ↓reduceIte, f1, f7, f9, f43, f44, f45]
            refine g2.mono ?_
            rintro r H' ⟨rfl, rfl⟩
            simp only [go_sem, Nat.reduceEqDiff, Nat.reduceLT, Nat.reduceAdd, Nat.reduceMul, Int.reduceEq, Int.reduceLT, Int.reduceLE, Int.reduceNe, Int.reduceBEq, Int.reduceToNat, ↓reduceIte, f1, f7, f9, f43, f44, f45, d3]
            obtain ⟨n5, g1, g2⟩ := hduo5.next (w0 := w0)
            have d4 : decide (n5 = n5) = true := by simp
            refine g1.mono ?_
            rintro r H' ⟨rfl, rfl⟩
            simp only [go_sem, Nat.reduceEqDiff, Nat.reduceLT, Nat.reduceAdd, Nat.reduceMul, Int.reduceEq, Int.reduceLT, Int.reduceLE, Int.reduceNe, Int.reduceBEq, Int.reduceToNat, ↓reduceIte, f1, f7, f9, f43, f44, f45]
            refine g2.mono ?_
            rintro r H' ⟨rfl, rfl⟩
            simp only [go_sem, Nat.reduceEqDiff, Nat.reduceLT, Nat.reduceAdd, Nat.reduceMul, Int.reduceEq, Int.reduceLT, Int.reduceLE, Int.reduceNe, Int.reduceBEq, Int.reduceToNat, ↓reduceIte, f1, f7, f9, f43, f44, f45, d4]
            refine (hduo5.all (w0 := w0)).mono ?_
            rintro r6 H6 ⟨s6, g6⟩
            simp only [go_sem, Nat.reduceEqDiff, Nat.reduceLT, Nat.reduceAdd, Nat.reduceMul, Int.reduceEq, Int.reduceLT, Int.reduceLE, Int.reduceNe, Int.reduceBEq, Int.reduceToNat, ↓reduceIte, f1, f7, f9, f43, f44, f45]
            refine g6.mono ?_
            rintro r7 H7 ⟨s7, g7⟩
            simp only [go_sem, Nat.reduceEqDiff, Nat.reduceLT, Nat.reduceAdd, Nat.reduceMul, Int.reduceEq, Int.reduceLT, Int.reduceLE, Int.reduceNe, Int.reduceBEq, Int.reduceToNat, ↓reduceIte, f1, f7, f9, f43, f44, f45]
            refine (ACalls.hi g7).mono ?_
            rintro r H8 ⟨⟨rfl, rfl⟩, hhi8⟩
            have e3 : IntKind.i64.wrap ((k : Int) + 1) = (k + 1 : Nat) := by rw [i64_in] <;> omega
            simp only [go_sem, Nat.reduceEqDiff, Nat.reduceLT, Nat.reduceAdd, Nat.reduceMul, Int.reduceEq, Int.reduceLT, Int.reduceLE, Int.reduceNe, Int.reduceBEq, Int.reduceToNat, ↓reduceIte, f1, f7, f9, f43, f44, f45, e3]
            exact ⟨m - 1, by omega, k + 1, _, by omega, by simp only [go_sem, Nat.reduceEqDiff, Nat.reduceLT, Nat.reduceAdd, Nat.reduceMul, Int.reduceEq, Int.reduceLT, Int.reduceLE, Int.reduceNe, Int.reduceBEq, Int.reduceToNat, ↓reduceIte, f1], by simp only [go_sem, Nat.reduceEqDiff, Nat.reduceLT, Nat.reduceAdd, Nat.reduceMul, Int.reduceEq, Int.reduceLT, Int.reduceLE, Int.reduceNe, Int.reduceBEq, Int.reduceToNat, ↓reduceIte, f7], by simp only [go_sem, Nat.reduceEqDiff, Nat.reduceLT, Nat.reduceAdd, Nat.reduceMul, Int.reduceEq, Int.reduceLT, Int.reduceLE, Int.reduceNe, Int.reduceBEq, Int.reduceToNat, ↓reduceIte, f9], by simp only [go_sem, Nat.reduceEqDiff, Nat.reduceLT, Nat.reduceAdd, Nat.reduceMul, Int.reduceEq, Int.reduceLT, Int.reduceLE, Int.reduceNe, Int.reduceBEq, Int.reduceToNat, ↓reduceIte, f43], by simp only [go_sem, Nat.reduceEqDiff, Nat.reduceLT, Nat.reduceAdd, Nat.reduceMul, Int.reduceEq, Int.reduceLT, Int.reduceLE, Int.reduceNe, Int.reduceBEq, Int.reduceToNat, ↓reduceIte, f44], by simp only [go_sem, Nat.reduceEqDiff, Nat.reduceLT, Nat.reduceAdd, Nat.reduceMul, Int.reduceEq, Int.reduceLT, Int.reduceLE, Int.reduceNe, Int.reduceBEq, Int.reduceToNat, ↓reduceIte], hduo5.keep fun b o _ hb => s7 b o (s6 b o hb), hhi8⟩
          · by_cases c4 : d % 5 = 4
            · have d5 : decide (((d % 5 : Nat) : Int) = 3) = false := by simp [c4]
              have d6 : decide (((d % 5 : Nat) : Int) = 4) = true := by simp [c4]
              obtain ⟨co4, g4⟩ := hduo4.abort (w0 := w0) x0 x1
              simp only [go_sem, Nat.reduceEqDiff, Nat.reduceLT, Nat.reduceAdd, Nat.reduceMul, Int.reduceEq, Int.reduceLT, Int.reduceLE, Int.reduceNe, Int.reduceBEq, Int.reduceToNat, ↓reduceIte, f1, f7, f9, f43, f44, f45, xr, hbl, dm, d5, d6]
              refine g4.mono ?_
              rintro r H5 ⟨rfl, g4⟩
              simp only [go_sem, Nat.reduceEqDiff, Nat.reduceLT, Nat.reduceAdd, Nat.reduceMul, Int.reduceEq, Int.reduceLT, Int.reduceLE, Int.reduceNe, Int.reduceBEq, Int.reduceToNat, ↓reduceIte, f1, f7, f9, f43, f44, f45]
              refine g4.mono ?_
              rintro r H6 ⟨rfl, hduo5, hstep⟩
              have d2 : decide (co4 = co4) = true := by simp
              try simp only [go_sem, Nat.reduceEqDiff, Nat.reduceLT, Nat.reduceAdd, Nat.reduceMul, Int.reduceEq, Int.reduceLT, Int.reduceLE, Int.reduceNe, Int.reduceBEq, Int.reduceToNat, ↓reduceIte, f1, f7, f9, f43, f44, f45, d2]
              obtain ⟨s5, g1, g2⟩ := hduo5.state (w0 := w0) x0 x1
              have d3 : decide (s5 = s5) = true := by simp
              refine g1.mono ?_
              rintro r H' ⟨rfl, rfl⟩
              simp only [go_sem, Nat.reduceEqDiff, Nat.reduceLT, Nat.reduceAdd, Nat.reduceMul, Int.reduceEq, Int.reduceLT, Int.reduceLE, Int.reduceNe, Int.reduceBEq, Int.reduceToNat, ↓reduceIte, f1, f7, f9, f43, f44, f45]
              refine g2.mono ?_
              rintro r H' ⟨rfl, rfl⟩
              simp only [go_sem, Nat.reduceEqDiff, Nat.reduceLT, Nat.reduceAdd, Nat.reduceMul, Int.reduceEq, Int.reduceLT, Int.reduceLE, Int.reduceNe, Int.reduceBEq, Int.reduceToNat, ↓reduceIte, f1, f7, f9, f43, f44, f45, d3]
              obtain ⟨n5, g1, g2⟩ := hduo5.next (w0 := w0)
              have d4 : decide (n5 = n5) = true := by simp
              refine g1.mono ?_
              rintro r H' ⟨rfl, rfl⟩
              simp only [go_sem, Nat.reduceEqDiff, Nat.reduceLT, Nat.reduceAdd, Nat.reduceMul, Int.reduceEq, Int.reduceLT, Int.reduceLE, Int.reduceNe, Int.reduceBEq, Int.reduceToNat, ↓reduceIte, f1, f7, f9, f43, f44, f45]
              refine g2.mono ?_
              rintro r H' ⟨rfl, rfl⟩
              simp only [go_sem, Nat.reduceEqDiff, Nat.reduceLT, Nat.reduceAdd, Nat.reduceMul, Int.reduceEq, Int.reduceLT, Int.reduceLE, Int.reduceNe, Int.reduceBEq, Int.reduceToNat, ↓reduceIte, f1, f7, f9, f43, f44, f45, d4]
              refine (hduo5.all (w0 := w0)).mono ?_
              rintro r6 H6 ⟨s6, g6⟩
              simp only [go_sem, Nat.reduceEqDiff, Nat.reduceLT, Nat.reduceAdd, Nat.reduceMul, Int.reduceEq, Int.reduceLT, Int.reduceLE, Int.reduceNe, Int.reduceBEq, Int.reduceToNat, ↓reduceIte, f1, f7, f9, f43, f44, f45]
              refine g6.mono ?_
              rintro r7 H7 ⟨s7, g7⟩
              simp only [go_sem, Nat.reduceEqDiff, Nat.reduceLT, Nat.reduceAdd, Nat.reduceMul, Int.reduceEq, Int.reduceLT, Int.reduceLE, Int.reduceNe, Int.reduceBEq, Int.reduceToNat, ↓reduceIte, f1, f7, f9, f43, f44, f45]
              refine (ACalls.hi g7).mono ?_
              rintro r H8 ⟨⟨rfl, rfl⟩, hhi8⟩
              have e3 : IntKind.i64.wrap ((k : Int) + 1) = (k + 1 : Nat) := by rw [i64_in] <;> omega
              simp only [go_sem, Nat.reduceEqDiff, Nat.reduceLT, Nat.reduceAdd, Nat.reduceMul, Int.reduceEq, Int.reduceLT, Int.reduceLE, Int.reduceNe, Int.reduceBEq, Int.reduceToNat, ↓reduceIte, f1, f7, f9, f43, f44, f45, e3]
              exact ⟨m - 1, by omega, k + 1, _, by omega, by simp only [go_sem, Nat.reduceEqDiff, Nat.reduceLT, Nat.reduceAdd, Nat.reduceMul, Int.reduceEq, Int.reduceLT, Int.reduceLE, Int.reduceNe, Int.reduceBEq, Int.reduceToNat, ↓reduceIte, f1], by simp only [go_sem, Nat.reduceEqDiff, Nat.reduceLT, Nat.reduceAdd, Nat.reduceMul, Int.reduceEq, Int.reduceLT, Int.reduceLE, Int.reduceNe, Int.reduceBEq, Int.reduceToNat, ↓reduceIte, f7], by simp only [go_sem, Nat.reduceEqDiff, Nat.reduceLT, Nat.reduceAdd, Nat.reduceMul, Int.reduceEq, Int.reduceLT, Int.reduceLE, Int.reduceNe, Int.reduceBEq, Int.reduceToNat, ↓reduceIte, f9], by simp only [go_sem, Nat.reduceEqDiff, Nat.reduceLT, Nat.reduceAdd, Nat.reduceMul, Int.reduceEq, Int.reduceLT, Int.reduceLE, Int.reduceNe, Int.reduceBEq, Int.reduceToNat, ↓reduceIte, f43], by simp only [go_sem, Nat.reduceEqDiff, Nat.reduceLT, Nat.reduceAdd, Nat.reduceMul, Int.reduceEq, Int.reduceLT, Int.reduceLE, Int.reduceNe, Int.reduceBEq, Int.reduceToNat, ↓reduceIte, f44], by simp only [go_sem, Nat.reduceEqDiff, Nat.reduceLT, Nat.reduceAdd, Nat.reduceMul, Int.reduceEq, Int.reduceLT, Int.reduceLE, Int.reduceNe, Int.reduceBEq, Int.reduceToNat, ↓reduceIte], hduo5.keep fun b o _ hb => s7 b o (s6 b o hb), hhi8⟩
            · have d5 : decide (((d % 5 : Nat) : Int) = 3) = false := by simp; omega
              have d6 : decide (((d % 5 : Nat) : Int) = 4) = false := by simp; omega
              obtain ⟨nn, co4, g4⟩ := hduo4.begin (w0 := w0)
              have d7 : decide (nn = nn) = true := by simp
              have d2 : decide (co4 = co4) = true := by simp
              simp only [go_sem, Nat.reduceEqDiff, Nat.reduceLT, Nat.reduceAdd, Nat.reduceMul, Int.reduceEq, Int.reduceLT, Int.reduceLE, Int.reduceNe, Int.reduceBEq, Int.reduceToNat, ↓reduceIte, f1, f7, f9, f43, f44, f45, xr, hbl, dm, d5, d6]
              refine g4.mono ?_
              rintro r H5 ⟨rfl, g4⟩
              simp only [go_sem, Nat.reduceEqDiff, Nat.reduceLT, Nat.reduceAdd, Nat.reduceMul, Int.reduceEq, Int.reduceLT, Int.reduceLE, Int.reduceNe, Int.reduceBEq, Int.reduceToNat, ↓reduceIte, f1, f7, f9, f43, f44, f45]
              refine g4.mono ?_
              rintro r H6 ⟨rfl, P5, hduo5, hstep⟩
              simp only [go_sem, Nat.reduceEqDiff, Nat.reduceLT, Nat.reduceAdd, Nat.reduceMul, Int.reduceEq, Int.reduceLT, Int.reduceLE, Int.reduceNe, Int.reduceBEq, Int.reduceToNat, ↓reduceIte, f1, f7, f9, f43, f44, f45, d7, d2]
              have d2 : decide (co4 = co4) = true := by simp
              try simp only [go_sem, Nat.reduceEqDiff, Nat.reduceLT, Nat.reduceAdd, Nat.reduceMul, Int.reduceEq, Int.reduceLT, Int.reduceLE, Int.reduceNe, Int.reduceBEq, Int.reduceToNat, ↓reduceIte, f1, f7, f9, f43, f44, f45, d2]
              obtain ⟨s5, g1, g2⟩ := hduo5.state (w0 := w0) x0 x1
              have d3 : decide (s5 = s5) = true := by simp
              refine g1.mono ?_
              rintro r H' ⟨rfl, rfl⟩
              simp only [go_sem, Nat.reduceEqDiff, Nat.reduceLT, Nat.reduceAdd, Nat.reduceMul, Int.reduceEq, Int.reduceLT, Int.reduceLE, Int.reduceNe, Int.reduceBEq, Int.reduceToNat, ↓reduceIte, f1, f7, f9, f43, f44, f45]
              refine g2.mono ?_
              rintro r H' ⟨rfl, rfl⟩
              simp only [go_sem, Nat.reduceEqDiff, Nat.reduceLT, Nat.reduceAdd, Nat.reduceMul, Int.reduceEq, Int.reduceLT, Int.reduceLE, Int.reduceNe, Int.reduceBEq, Int.reduceToNat, ↓reduceIte, f1, f7, f9, f43, f44, f45, d3]
              obtain ⟨n5, g1, g2⟩ := hduo5.next (w0 := w0)
              have d4 : decide (n5 = n5) = true := by simp
              refine g1.mono ?_
              rintro r H' ⟨rfl, rfl⟩
              simp only [go_sem, Nat.reduceEqDiff, Nat.reduceLT, Nat.reduceAdd, Nat.reduceMul, Int.reduceEq, Int.reduceLT, Int.reduceLE, Int.reduceNe, Int.reduceBEq, Int.reduceToNat, ↓reduceIte, f1, f7, f9, f43, f44, f45]
              refine g2.mono ?_
              rintro r H' ⟨rfl, rfl⟩
              simp only [go_sem, Nat.reduceEqDiff, Nat.reduceLT, Nat.reduceAdd, Nat.reduceMul, Int.reduceEq, Int.reduceLT, Int.reduceLE, Int.reduceNe, Int.reduceBEq, Int.reduceToNat, ↓reduceIte, f1, f7, f9, f43, f44, f45, d4]
              refine (hduo5.all (w0 := w0)).mono ?_
              rintro r6 H6 ⟨s6, g6⟩
              simp only [go_sem, Nat.reduceEqDiff, Nat.reduceLT, Nat.reduceAdd, Nat.reduceMul, Int.reduceEq, Int.reduceLT, Int.reduceLE, Int.reduceNe, Int.reduceBEq, Int.reduceToNat, ↓reduceIte, f1, f7, f9, f43, f44, f45]
              refine g6.mono ?_
              rintro r7 H7 ⟨s7, g7⟩
              simp only [go_sem, Nat.reduceEqDiff, Nat.reduceLT, Nat.reduceAdd, Nat.reduceMul, Int.reduceEq, Int.reduceLT, Int.reduceLE, Int.reduceNe, Int.reduceBEq, Int.reduceToNat, ↓reduceIte, f1, f7, f9, f43, f44, f45]
              refine (ACalls.hi g7).mono ?_
              rintro r H8 ⟨⟨rfl, rfl⟩, hhi8⟩
              have e3 : IntKind.i64.wrap ((k : Int) + 1) = (k + 1 : Nat) := by rw [i64_in] <;> omega
              simp only [go_sem, Nat.reduceEqDiff, Nat.reduceLT, Nat.reduceAdd, Nat.reduceMul, Int.reduceEq, Int.reduceLT, Int.reduceLE, Int.reduceNe, Int.reduceBEq, Int.reduceToNat, ↓reduceIte, f1, f7, f9, f43, f44, f45, e3]
              exact ⟨m - 1, by omega, k + 1, _, by omega, by simp only [go_sem, Nat.reduceEqDiff, Nat.reduceLT, Nat.reduceAdd, Nat.reduceMul, Int.reduceEq, Int.reduceLT, Int.reduceLE, Int.reduceNe, Int.reduceBEq, Int.reduceToNat, ↓reduceIte, f1], by simp only [go_sem, Nat.reduceEqDiff, Nat.reduceLT, Nat.reduceAdd, Nat.reduceMul, Int.reduceEq, Int.reduceLT, Int.reduceLE, Int.reduceNe, Int.reduceBEq, Int.reduceToNat, ↓reduceIte, f7], by simp only [go_sem, Nat.reduceEqDiff, Nat.reduceLT, Nat.reduceAdd, Nat.reduceMul, Int.reduceEq, Int.reduceLT, Int.reduceLE, Int.reduceNe, Int.reduceBEq, Int.reduceToNat, ↓reduceIte, f9], by simp only [go_sem, Nat.reduceEqDiff, Nat.reduceLT, Nat.reduceAdd, Nat.reduceMul, Int.reduceEq, Int.reduceLT, Int.reduceLE, Int.reduceNe, Int.reduceBEq, Int.reduceToNat, ↓reduceIte, f43], by simp only [go_sem, Nat.reduceEqDiff, Nat.reduceLT, Nat.reduceAdd, Nat.reduceMul, Int.reduceEq, Int.reduceLT, Int.reduceLE, Int.reduceNe, Int.reduceBEq, Int.reduceToNat, ↓reduceIte, f44], by simp only [go_sem, Nat.reduceEqDiff, Nat.reduceLT, Nat.reduceAdd, Nat.reduceMul, Int.reduceEq, Int.reduceLT, Int.reduceLE, Int.reduceNe, Int.reduceBEq, Int.reduceToNat, ↓reduceIte], hduo5.keep fun b o _ hb => s7 b o (s6 b o hb), hhi8⟩
      · have d6 : decide (60 ≤ (k : Int)) = true := by simp; omega
        simp only [go_sem, Nat.reduceEqDiff, Nat.reduceLT, Nat.reduceAdd, Nat.reduceMul, Int.reduceEq, Int.reduceLT, Int.reduceLE, Int.reduceNe, Int.reduceBEq, Int.reduceToNat, ↓reduceIte, f1, f7, f9, f43, f44, f45, d6]
        refine AC.loop (PlayJ w0 first lv' xv') (n := 62) ⟨0, PP, rfl, by simp only [go_sem, Nat.reduceEqDiff, Nat.reduceLT, Nat.reduceAdd, Nat.reduceMul, Int.reduceEq, Int.reduceLT, Int.reduceLE, Int.reduceNe, Int.reduceBEq, Int.reduceToNat, ↓reduceIte, f1], by simp only [go_sem, Nat.reduceEqDiff, Nat.reduceLT, Nat.reduceAdd, Nat.reduceMul, Int.reduceEq, Int.reduceLT, Int.reduceLE, Int.reduceNe, Int.reduceBEq, Int.reduceToNat, ↓reduceIte, f7], by simp only [go_sem, Nat.reduceEqDiff, Nat.reduceLT, Nat.reduceAdd, Nat.reduceMul, Int.reduceEq, Int.reduceLT, Int.reduceLE, Int.reduceNe, Int.reduceBEq, Int.reduceToNat, ↓reduceIte, f9], by simp only [go_sem, Nat.reduceEqDiff, Nat.reduceLT, Nat.reduceAdd, Nat.reduceMul, Int.reduceEq, Int.reduceLT, Int.reduceLE, Int.reduceNe, Int.reduceBEq, Int.reduceToNat, ↓reduceIte], by first | exact hduo3 | exact hduo4⟩ ?_
        clear f1 f7 f9 f43 f44 f45
        rintro m F H5 ⟨k, P5, hk, f1, f7, f9, f127, hduo5⟩
        by_cases c : k < 62
        · have d1 : decide ((k : Int) < 62) = true := by simp; omega
          obtain ⟨r0, r1⟩ := u64_range ((first : Int) + (k : Int))
          obtain ⟨s, g1, g2⟩ := hduo5.state (w0 := w0) r0 r1
          have d2 : decide (s = s) = true := by simp
          have d3 : IntKind.u64.wrap ((k : Int) + 1) = (k + 1 : Nat) := by rw [u64_in] <;> omega
          simp only [go_sem, Nat.reduceEqDiff, Nat.reduceLT, Nat.reduceAdd, Nat.reduceMul, Int.reduceEq, Int.reduceLT, Int.reduceLE, Int.reduceNe, Int.reduceBEq, Int.reduceToNat, ↓reduceIte, f1, f7, f9, f127, d1]
          refine g1.mono ?_
          rintro r H' ⟨rfl, rfl⟩
          simp only [go_sem, Nat.reduceEqDiff, Nat.reduceLT, Nat.reduceAdd, Nat.reduceMul, Int.reduceEq, Int.reduceLT, Int.reduceLE, Int.reduceNe, Int.reduceBEq, Int.reduceToNat, ↓reduceIte, f1, f7, f9, f127, d1]
          refine g2.mono ?_
          rintro r H' ⟨rfl, rfl⟩
          simp only [go_sem, Nat.reduceEqDiff, Nat.reduceLT, Nat.reduceAdd, Nat.reduceMul, Int.reduceEq, Int.reduceLT, Int.reduceLE, Int.reduceNe, Int.reduceBEq, Int.reduceToNat, ↓reduceIte, f1, f7, f9, f127, d1, d2, d3]
          exact ⟨m - 1, by omega, k + 1, P5, by omega, by simp only [go_sem, Nat.reduceEqDiff, Nat.reduceLT, Nat.reduceAdd, Nat.reduceMul, Int.reduceEq, Int.reduceLT, Int.reduceLE, Int.reduceNe, Int.reduceBEq, Int.reduceToNat, ↓reduceIte, f1], by simp only [go_sem, Nat.reduceEqDiff, Nat.reduceLT, Nat.reduceAdd, Nat.reduceMul, Int.reduceEq, Int.reduceLT, Int.reduceLE, Int.reduceNe, Int.reduceBEq, Int.reduceToNat, ↓reduceIte, f7], by simp only [go_sem, Nat.reduceEqDiff, Nat.reduceLT, Nat.reduceAdd, Nat.reduceMul, Int.reduceEq, Int.reduceLT, Int.reduceLE, Int.reduceNe, Int.reduceBEq, Int.reduceToNat, ↓reduceIte, f9], by simp only [go_sem, Nat.reduceEqDiff, Nat.reduceLT, Nat.reduceAdd, Nat.reduceMul, Int.reduceEq, Int.reduceLT, Int.reduceLE, Int.reduceNe, Int.reduceBEq, Int.reduceToNat, ↓reduceIte], hduo5⟩
        · have d1 : decide ((k : Int) < 62) = false := by simp; omega
          simp only [go_sem, Nat.reduceEqDiff, Nat.reduceLT, Nat.reduceAdd, Nat.reduceMul, Int.reduceEq, Int.reduceLT, Int.reduceLE, Int.reduceNe, Int.reduceBEq, Int.reduceToNat, ↓reduceIte, f1, f7, f9, f127, d1]
    · have d1 : decide ((k : Int) < (n : Int)) = false := by simp; omega
      simp only [go_sem, Nat.reduceEqDiff, Nat.reduceLT, Nat.reduceAdd, Nat.reduceMul, Int.reduceEq, Int.reduceLT, Int.reduceLE, Int.reduceNe, Int.reduceBEq, Int.reduceToNat, ↓reduceIte, f1, f7, f9, f43, f44, f45, d1]
      refine AC.loop (PlayJ w0 first lv' xv') (n := 62) ⟨0, PP, rfl, by simp only [go_sem, Nat.reduceEqDiff, Nat.reduceLT, Nat.reduceAdd, Nat.reduceMul, Int.reduceEq, Int.reduceLT, Int.reduceLE, Int.reduceNe, Int.reduceBEq, Int.reduceToNat, ↓reduceIte, f1], by simp only [go_sem, Nat.reduceEqDiff, Nat.reduceLT, Nat.reduceAdd, Nat.reduceMul, Int.reduceEq, Int.reduceLT, Int.reduceLE, Int.reduceNe, Int.reduceBEq, Int.reduceToNat, ↓reduceIte, f7], by simp only [go_sem, Nat.reduceEqDiff, Nat.reduceLT, Nat.reduceAdd, Nat.reduceMul, Int.reduceEq, Int.reduceLT, Int.reduceLE, Int.reduceNe, Int.reduceBEq, Int.reduceToNat, ↓reduceIte, f9], by simp only [go_sem, Nat.reduceEqDiff, Nat.reduceLT, Nat.reduceAdd, Nat.reduceMul, Int.reduceEq, Int.reduceLT, Int.reduceLE, Int.reduceNe, Int.reduceBEq, Int.reduceToNat, ↓reduceIte], by first | exact hduo3 | exact hduo4⟩ ?_
      clear f1 f7 f9 f43 f44 f45
      rintro m F H5 ⟨k, P5, hk, f1, f7, f9, f127, hduo5⟩
      by_cases c : k < 62
      · have d1 : decide ((k : Int) < 62) = true := by simp; omega
        obtain ⟨r0, r1⟩ := u64_range ((first : Int) + (k : Int))
        obtain ⟨s, g1, g2⟩ := hduo5.state (w0 := w0) r0 r1
        have d2 : decide (s = s) = true := by simp
        have d3 : IntKind.u64.wrap ((k : Int) + 1) = (k + 1 : Nat) := by rw [u64_in] <;> omega
        simp only [go_sem, Nat.reduceEqDiff, Nat.reduceLT, Nat.reduceAdd, Nat.reduceMul, Int.reduceEq, Int.reduceLT, Int.reduceLE, Int.reduceNe, Int.reduceBEq, Int.reduceToNat, ↓reduceIte, f1, f7, f9, f127, d1]
        refine g1.mono ?_
        rintro r H' ⟨rfl, rfl⟩
        simp only [go_sem, Nat.reduceEqDiff, Nat.reduceLT, Nat.reduceAdd, Nat.reduceMul, Int.reduceEq, Int.reduceLT, Int.reduceLE, Int.reduceNe, Int.reduceBEq, Int.reduceToNat, ↓reduceIte, f1, f7, f9, f127, d1]
        refine g2.mono ?_
        rintro r H' ⟨rfl, rfl⟩
        simp only [go_sem, Nat.reduceEqDiff, Nat.reduceLT, Nat.reduceAdd, Nat.reduceMul, Int.reduceEq, Int.reduceLT, Int.reduceLE, Int.reduceNe, Int.reduceBEq, Int.reduceToNat, ↓reduceIte, f1, f7, f9, f127, d1, d2, d3]
        exact ⟨m - 1, by omega, k + 1, P5, by omega, by simp only [go_sem, Nat.reduceEqDiff, Nat.reduceLT, Nat.reduceAdd, Nat.reduceMul, Int.reduceEq, Int.reduceLT, Int.reduceLE, Int.reduceNe, Int.reduceBEq, Int.reduceToNat, ↓reduceIte, f1], by simp only [go_sem, Nat.reduceEqDiff, Nat.reduceLT, Nat.reduceAdd, Nat.reduceMul, Int.reduceEq, Int.reduceLT, Int.reduceLE, Int.reduceNe, Int.reduceBEq, Int.reduceToNat, ↓reduceIte, f7], by simp only [go_sem, Nat.reduceEqDiff, Nat.reduceLT, Nat.reduceAdd, Nat.reduceMul, Int.reduceEq, Int.reduceLT, Int.reduceLE, Int.reduceNe, Int.reduceBEq, Int.reduceToNat, ↓reduceIte, f9], by simp only [go_sem, Nat.reduceEqDiff, Nat.reduceLT, Nat.reduceAdd, Nat.reduceMul, Int.reduceEq, Int.reduceLT, Int.reduceLE, Int.reduceNe, Int.reduceBEq, Int.reduceToNat, ↓reduceIte], hduo5⟩
      · have d1 : decide ((k : Int) < 62) = false := by simp; omega
        simp only [go_sem, Nat.reduceEqDiff, Nat.reduceLT, Nat.reduceAdd, Nat.reduceMul, Int.reduceEq, Int.reduceLT, Int.reduceLE, Int.reduceNe, Int.reduceBEq, Int.reduceToNat, ↓reduceIte, f1, f7, f9, f127, d1]
end Go.Proofs.Ytmpepacfnckadaa
