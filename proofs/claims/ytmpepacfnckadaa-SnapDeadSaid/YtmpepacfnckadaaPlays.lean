/-
  The law ClogPlays: every script is answered as the document answers it.
  Conditions: the script's steps read as steps.
-/
import Derived.Test.YtmpepacfnckadaaPair
import Derived.Test.YtmpepacfnckadaaEnds
namespace Go.Proofs.Ytmpepacfnckadaa
open Go Go.RowKit Go.Proofs.YtmpepacfnckadaaW
set_option maxRecDepth 100000
set_option linter.unusedSimpArgs false
set_option linter.unusedVariables false

/-- Two logs, or none. -/
def Duo (H : Hp) (lv xv : Value) (P : Nat → Prop) (f : Nat) : Prop :=
  (lv = .pointer none ∧ xv = .pointer none ∧ ∀ b, ¬ P b) ∨ ∃ l x sts, lv = ptr l ∧ xv = ptr x ∧ BothAt H l x P f sts ∧ f + sts.length ≤ 1099511627777
theorem Duo.keep {H H' : Hp} {lv xv : Value} {P : Nat → Prop} {f : Nat} (h : Duo H lv xv P f) (hk : ∀ b o, P b → H b = some o → H' b = some o) : Duo H' lv xv P f := by
  rcases h with h | ⟨l, x, sts, rfl, rfl, h, hb⟩
  · exact .inl h
  · exact .inr ⟨l, x, sts, rfl, rfl, h.keep hk, hb⟩
theorem Duo.state {w0 : World} {H : Hp} {lv xv : Value} {P : Nat → Prop} {f : Nat} (h : Duo H lv xv P f) {y : Int} (h0 : 0 ≤ y) (h1 : y < 18446744073709551616) :
    ∃ n : Int, (ACalls Try.prog w0 17 #[lv, .int .u64 y] H fun r H' => r = .int .i64 n ∧ H' = H) ∧ ACalls Try.prog w0 23 #[xv, .int .u64 y] H fun r H' => r = .int .i64 n ∧ H' = H := by
  rcases h with ⟨rfl, rfl, h⟩ | ⟨l, x, sts, rfl, rfl, h, hb⟩
  · exact ⟨0, state_nil w0 H y, rstate_nil w0 H y⟩
  · obtain ⟨S, hl⟩ := h.log
    obtain ⟨T, hx⟩ := h.ref
    exact ⟨_, state_log hl (by omega) h0, rstate_ref hx (by omega) h0 h1⟩
theorem Duo.next {w0 : World} {H : Hp} {lv xv : Value} {P : Nat → Prop} {f : Nat} (h : Duo H lv xv P f) :
    ∃ n : Int, (ACalls Try.prog w0 16 #[lv] H fun r H' => r = .int .u64 n ∧ H' = H) ∧ ACalls Try.prog w0 24 #[xv] H fun r H' => r = .int .u64 n ∧ H' = H := by
  rcases h with ⟨rfl, rfl, h⟩ | ⟨l, x, sts, rfl, rfl, h, hb⟩
  · exact ⟨0, next_nil w0 H, rnext_nil w0 H⟩
  · obtain ⟨S, hl⟩ := h.log
    obtain ⟨T, hx⟩ := h.ref
    exact ⟨_, next_log hl (by omega), rnext_ref hx (by omega)⟩
theorem Duo.all {w0 : World} {H : Hp} {lv xv : Value} {P : Nat → Prop} {f : Nat} (h : Duo H lv xv P f) :
    ACalls Try.prog w0 15 #[lv] H fun r H1 => Sub H H1 ∧ ACalls Try.prog w0 26 #[xv] H1 fun r' H2 => Sub H1 H2 ∧ ACalls Try.prog w0 25 #[r, r'] H2 fun r H3 => r = .bool true ∧ H3 = H2 := by
  rcases h with ⟨rfl, rfl, h⟩ | ⟨l, x, sts, rfl, rfl, h, hb⟩
  · refine (all_nil w0 H).mono ?_
    rintro r H1 ⟨rfl, rfl⟩
    refine ⟨Sub.refl _, (rall_nil w0 H1).mono ?_⟩
    rintro r H2 ⟨rfl, rfl⟩
    have hr : Row H2 23 1 (.slice none 0 0) ([] : List Nat).length (u64s []) := ⟨by simp [u64s], .inl ⟨rfl, rfl⟩⟩
    exact ⟨Sub.refl _, rsame_row hr hr (by simp)⟩
  · obtain ⟨S, T, hl, hx, g3, g4⟩ := h
    have hlen := runsK_len f sts sts.length
    refine (all_log hl (by omega)).mono ?_
    rintro r H1 ⟨q1, q2, q3⟩
    refine ⟨q3, (rall_ref (hx.keep fun b o _ hb => q3 b o hb) (by omega)).mono ?_⟩
    rintro r' H2 ⟨q4, q5, q6⟩
    exact ⟨q6, rsame_row (q1.keep fun b o _ hb => q6 b o hb) q4 (by unfold runs; omega)⟩
theorem Duo.commit {w0 : World} {H : Hp} {lv xv : Value} {P : Nat → Prop} {f : Nat} (h : Duo H lv xv P f) {y : Int} (h0 : 0 ≤ y) (h1 : y < 18446744073709551616) :
    ∃ c : Int, ACalls Try.prog w0 19 #[lv, .int .u64 y] H fun r H1 => r = .int .i64 c ∧ ACalls Try.prog w0 20 #[xv, .int .u64 y, .int .i64 2] H1 fun r H2 => r = .int .i64 c ∧
      Duo H2 lv xv P f ∧ Step w0 H P H2 P := by
  rcases h with ⟨rfl, rfl, h⟩ | ⟨l, x, sts, rfl, rfl, h, hb⟩
  · refine ⟨15, (commit_nil w0 H y).mono ?_⟩
    rintro r H1 ⟨rfl, rfl⟩
    refine ⟨rfl, (rend_nil w0 H1 y 2).mono ?_⟩
    rintro r H2 ⟨rfl, rfl⟩
    exact ⟨rfl, .inl ⟨rfl, rfl, h⟩, Step.refl _ _ _⟩
  · refine ⟨endCode f sts y, (h.commit (by omega) h0 h1).mono ?_⟩
    rintro r H1 ⟨rfl, q⟩
    refine ⟨rfl, q.mono ?_⟩
    rintro r H2 ⟨rfl, q1, q2⟩
    exact ⟨rfl, .inr ⟨l, x, _, rfl, rfl, q1, by rw [endSts_len]; exact hb⟩, q2⟩
theorem Duo.abort {w0 : World} {H : Hp} {lv xv : Value} {P : Nat → Prop} {f : Nat} (h : Duo H lv xv P f) {y : Int} (h0 : 0 ≤ y) (h1 : y < 18446744073709551616) :
    ∃ c : Int, ACalls Try.prog w0 21 #[lv, .int .u64 y] H fun r H1 => r = .int .i64 c ∧ ACalls Try.prog w0 20 #[xv, .int .u64 y, .int .i64 3] H1 fun r H2 => r = .int .i64 c ∧
      Duo H2 lv xv P f ∧ Step w0 H P H2 P := by
  rcases h with ⟨rfl, rfl, h⟩ | ⟨l, x, sts, rfl, rfl, h, hb⟩
  · refine ⟨15, (abort_nil w0 H y).mono ?_⟩
    rintro r H1 ⟨rfl, rfl⟩
    refine ⟨rfl, (rend_nil w0 H1 y 3).mono ?_⟩
    rintro r H2 ⟨rfl, rfl⟩
    exact ⟨rfl, .inl ⟨rfl, rfl, h⟩, Step.refl _ _ _⟩
  · refine ⟨endCode f sts y, (h.abort (by omega) h0 h1).mono ?_⟩
    rintro r H1 ⟨rfl, q⟩
    refine ⟨rfl, q.mono ?_⟩
    rintro r H2 ⟨rfl, q1, q2⟩
    exact ⟨rfl, .inr ⟨l, x, _, rfl, rfl, q1, by rw [endSts_len]; exact hb⟩, q2⟩
theorem Duo.begin {w0 : World} {H : Hp} {lv xv : Value} {P : Nat → Prop} {f : Nat} (h : Duo H lv xv P f) :
    ∃ n c : Int, ACalls Try.prog w0 14 #[lv] H fun r H1 => r = .tuple #[.int .u64 n, .int .i64 c] ∧ ACalls Try.prog w0 22 #[xv] H1 fun r H2 => r = .tuple #[.int .u64 n, .int .i64 c] ∧
      ∃ P', Duo H2 lv xv P' f ∧ Step w0 H P H2 P' := by
  rcases h with ⟨rfl, rfl, h⟩ | ⟨l, x, sts, rfl, rfl, h, hb⟩
  · refine ⟨0, 15, (begin_nil w0 H).mono ?_⟩
    rintro r H1 ⟨rfl, rfl⟩
    refine ⟨rfl, (rbegin_nil w0 H1).mono ?_⟩
    rintro r H2 ⟨rfl, rfl⟩
    exact ⟨rfl, P, .inl ⟨rfl, rfl, h⟩, Step.refl _ _ _⟩
  · by_cases c : f + sts.length ≤ 1099511627776
    · refine ⟨((f + sts.length : Nat) : Int), 0, (h.begin c).mono ?_⟩
      rintro r H1 ⟨rfl, q⟩
      refine ⟨rfl, q.mono ?_⟩
      rintro r H2 ⟨rfl, P', q1, q2⟩
      exact ⟨rfl, P', .inr ⟨l, x, _, rfl, rfl, q1, by simp; omega⟩, q2⟩
    · refine ⟨0, 12, (h.full (by omega) (by omega)).mono ?_⟩
      rintro r H1 ⟨rfl, q⟩
      refine ⟨rfl, q.mono ?_⟩
      rintro r H2 ⟨rfl, rfl⟩
      exact ⟨rfl, P, .inr ⟨l, x, sts, rfl, rfl, h, hb⟩, Step.refl _ _ _⟩
/-- Both made, or neither. -/
theorem duo_new (w0 : World) (H : Hp) (first : Nat) (hf : first < 18446744073709551616) :
    ∃ (c : Int) (z : Bool), ACalls Try.prog w0 13 #[.int .u64 (first : Int)] H fun r H1 => ∃ lv, r = .tuple #[lv, .int .i64 c] ∧ (lv = .pointer none ∧ z = true ∨ (∃ l, lv = ptr l) ∧ z = false) ∧
      ACalls Try.prog w0 18 #[.int .u64 (first : Int)] H1 fun r H2 => ∃ xv, r = .tuple #[xv, .int .i64 c] ∧ (xv = .pointer none ∧ z = true ∨ (∃ l, xv = ptr l) ∧ z = false) ∧
        (∃ P, Duo H2 lv xv P first ∧ ∀ b, P b → H b = none) ∧ Sub H H2 := by
  by_cases c : 0 < first ∧ first ≤ 1099511627776
  · refine ⟨0, false, (new_ok w0 first H c.1 c.2).mono ?_⟩
    rintro r H1 ⟨l, rfl, hl, hw, q, hs⟩
    refine ⟨_, rfl, .inr ⟨⟨l, rfl⟩, rfl⟩, (rnew_ok w0 first H1 c.1 c.2).mono ?_⟩
    rintro r H2 ⟨x, rfl, hx, hw', q', hs'⟩
    refine ⟨_, rfl, .inr ⟨⟨x, rfl⟩, rfl⟩, ⟨fun b => b = l ∨ b = x, .inr ⟨l, x, [], rfl, rfl, ⟨_, _, q.keep fun b o _ hb => hs' b o hb, q', ?_, fun b => Iff.rfl⟩, by simp; omega⟩, ?_⟩, Sub.trans hs hs'⟩
    · rintro b rfl rfl
      obtain ⟨o, ho⟩ := q.own rfl
      rw [ho] at hx; cases hx
    · rintro b (rfl | rfl)
      · exact hl
      · cases e : H b with
        | none => rfl
        | some o => rw [hs b o e] at hx; cases hx
  · refine ⟨1, true, (new_bad w0 first H (by omega) (by omega)).mono ?_⟩
    rintro r H1 ⟨rfl, rfl⟩
    refine ⟨_, rfl, .inl ⟨rfl, rfl⟩, (rnew_bad w0 first H1 (by omega) (by omega)).mono ?_⟩
    rintro r H2 ⟨rfl, rfl⟩
    exact ⟨_, rfl, .inl ⟨rfl, rfl⟩, ⟨fun _ => False, .inl ⟨rfl, rfl, fun _ h => h⟩, fun _ h => h.elim⟩, Sub.refl _⟩
end Go.Proofs.Ytmpepacfnckadaa
