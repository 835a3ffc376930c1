/-
  A log and the document's side by side: each step of the one answers as that of the other.
  Conditions: as each theorem states them.
-/
import Derived.Test.YtmpepacfnckadaaRf9b
namespace Go.Proofs.Ytmpepacfnckadaa
open Go Go.RowKit Go.Proofs.YtmpepacfnckadaaW
set_option maxRecDepth 100000
set_option linter.unusedSimpArgs false
set_option linter.unusedVariables false

/-- What a heap owns lies above the first world. -/
def Hi (w0 : World) (H : Hp) : Prop := ∀ b o, H b = some o → w0.heap.size ≤ b
theorem ACalls.hi {P : Program} {w0 : World} {f : FuncId} {args : Array Value} {H : Hp} {Q : Value → Hp → Prop} (h : ACalls P w0 f args H Q) : ACalls P w0 f args H fun r H' => Q r H' ∧ Hi w0 H' :=
  fun R w hd hr => (h R w hd hr).mono fun _ _ ⟨r, H', he, hd', hr', hQ⟩ => ⟨r, H', he, hd', hr', hQ, fun b o hb => (hr'.own b o (Hp.join_left hb)).1⟩
theorem Hi.set {w0 : World} {H : Hp} (h : Hi w0 H) {b : Nat} (hb : w0.heap.size ≤ b) (o : Obj) : Hi w0 (H.set b o) := by
  intro x ob hx
  by_cases e : x = b
  · rw [e]; exact hb
  · rw [Hp.set_ne _ _ _ _ e] at hx; exact h x ob hx
theorem Hi.empty (w0 : World) : Hi w0 (fun _ => none) := fun _ _ h => by cases h
theorem ld_arg {w0 : World} {H : Hp} (hh : Hi w0 H) {a : Addr} {v : Value} (h : w0.cell? a = some v) : ld w0 H a = some v := by
  have hlt := World.block_lt_of_cell? w0 a h
  unfold ld
  cases e : H a.block with
  | none => exact h
  | some o => have := hh _ _ e; omega

def Step (w0 : World) (H : Hp) (P : Nat → Prop) (H' : Hp) (P' : Nat → Prop) : Prop :=
  (∀ b, P' b → P b ∨ (H b = none ∧ w0.heap.size ≤ b)) ∧ ∀ b o, ¬ P b → H b = some o → H' b = some o
theorem Step.refl (w0 : World) (H : Hp) (P : Nat → Prop) : Step w0 H P H P := ⟨fun b hb => .inl hb, fun b o _ h => h⟩
theorem Step.sub {w0 : World} {H H' : Hp} (h : Sub H H') (P : Nat → Prop) : Step w0 H P H' P := ⟨fun b hb => .inl hb, fun b o _ hb => h b o hb⟩
theorem Step.trans {w0 : World} {A B C : Hp} {P Q R : Nat → Prop} (h : Step w0 A P B Q) (h' : Step w0 B Q C R) : Step w0 A P C R := by
  refine ⟨fun b hb => ?_, fun b o hn hb => ?_⟩
  · rcases h'.1 b hb with g | ⟨g, hw⟩
    · exact h.1 b g
    · refine Classical.byCases .inl fun hp => .inr ⟨?_, hw⟩
      cases e : A b with
      | none => rfl
      | some o => rw [h.2 b o hp e] at g; cases g
  · have h1 := h.2 b o hn hb
    refine h'.2 b o (fun hq => ?_) h1
    rcases h.1 b hq with g | ⟨g, _⟩
    · exact hn g
    · rw [g] at hb; cases hb

/-- Both logs, of the same states, apart. -/
def BothAt (H : Hp) (l x : Nat) (P : Nat → Prop) (f : Nat) (sts : List Nat) : Prop :=
  ∃ S T, LogAt H l S f sts ∧ RefAt H x T f sts ∧ (∀ b, S b → ¬ T b) ∧ (∀ b, P b ↔ S b ∨ T b)
theorem BothAt.keep {H H' : Hp} {l x : Nat} {P : Nat → Prop} {f : Nat} {sts : List Nat} (h : BothAt H l x P f sts) (hk : ∀ b o, P b → H b = some o → H' b = some o) : BothAt H' l x P f sts := by
  obtain ⟨S, T, h1, h2, h3, h4⟩ := h
  exact ⟨S, T, h1.keep fun b o hb => hk b o ((h4 b).2 (.inl hb)), h2.keep fun b o hb => hk b o ((h4 b).2 (.inr hb)), h3, h4⟩
theorem BothAt.own {H : Hp} {l x : Nat} {P : Nat → Prop} {f : Nat} {sts : List Nat} (h : BothAt H l x P f sts) {b : Nat} (hb : P b) : ∃ o, H b = some o := by
  obtain ⟨S, T, h1, h2, h3, h4⟩ := h
  rcases (h4 b).1 hb with hb | hb
  · exact h1.own hb
  · exact h2.own hb

abbrev ptr (l : Nat) : Value := .pointer (some ⟨l, 0, none⟩)

/-- An end, on both. -/
theorem BothAt.commit {w0 : World} {H : Hp} {l x : Nat} {P : Nat → Prop} {f : Nat} {sts : List Nat} (h : BothAt H l x P f sts) (hb : f + sts.length < 18446744073709551616) {y : Int} (h0 : 0 ≤ y) (h1 : y < 18446744073709551616) :
    ACalls Try.prog w0 19 #[ptr l, .int .u64 y] H fun r H1 => r = .int .i64 (endCode f sts y) ∧ ACalls Try.prog w0 20 #[ptr x, .int .u64 y, .int .i64 2] H1 fun r H2 => r = .int .i64 (endCode f sts y) ∧
      BothAt H2 l x P f (endSts f sts y 2) ∧ Step w0 H P H2 P := by
  obtain ⟨S, T, g1, g2, g3, g4⟩ := h
  refine (commit_log g1 hb h0).mono ?_
  rintro r H1 ⟨rfl, q1, q2⟩
  refine ⟨rfl, ?_⟩
  have g2' := g2.keep fun b o hb ho => q2 b o (fun hs => g3 b hs hb) ho
  refine (rend_ref g2' hb h0 h1 (v := 2) (by omega)).mono ?_
  rintro r H2 ⟨rfl, q3, q4⟩
  refine ⟨rfl, ⟨S, T, q1.keep fun b o hb ho => q4 b o (g3 b hb) ho, q3, g3, g4⟩, fun b hb => .inl hb, fun b o hb ho => ?_⟩
  exact q4 b o (fun e => hb ((g4 b).2 (.inr e))) (q2 b o (fun e => hb ((g4 b).2 (.inl e))) ho)
theorem BothAt.abort {w0 : World} {H : Hp} {l x : Nat} {P : Nat → Prop} {f : Nat} {sts : List Nat} (h : BothAt H l x P f sts) (hb : f + sts.length < 18446744073709551616) {y : Int} (h0 : 0 ≤ y) (h1 : y < 18446744073709551616) :
    ACalls Try.prog w0 21 #[ptr l, .int .u64 y] H fun r H1 => r = .int .i64 (endCode f sts y) ∧ ACalls Try.prog w0 20 #[ptr x, .int .u64 y, .int .i64 3] H1 fun r H2 => r = .int .i64 (endCode f sts y) ∧
      BothAt H2 l x P f (endSts f sts y 3) ∧ Step w0 H P H2 P := by
  obtain ⟨S, T, g1, g2, g3, g4⟩ := h
  refine (abort_log g1 hb h0).mono ?_
  rintro r H1 ⟨rfl, q1, q2⟩
  refine ⟨rfl, ?_⟩
  have g2' := g2.keep fun b o hb ho => q2 b o (fun hs => g3 b hs hb) ho
  refine (rend_ref g2' hb h0 h1 (v := 3) (by omega)).mono ?_
  rintro r H2 ⟨rfl, q3, q4⟩
  refine ⟨rfl, ⟨S, T, q1.keep fun b o hb ho => q4 b o (g3 b hb) ho, q3, g3, g4⟩, fun b hb => .inl hb, fun b o hb ho => ?_⟩
  exact q4 b o (fun e => hb ((g4 b).2 (.inr e))) (q2 b o (fun e => hb ((g4 b).2 (.inl e))) ho)
/-- A beginning, on both. -/
theorem BothAt.begin {w0 : World} {H : Hp} {l x : Nat} {P : Nat → Prop} {f : Nat} {sts : List Nat} (h : BothAt H l x P f sts) (hf : f + sts.length ≤ 1099511627776) :
    ACalls Try.prog w0 14 #[ptr l] H fun r H1 => r = .tuple #[.int .u64 ((f + sts.length : Nat) : Int), .int .i64 0] ∧ ACalls Try.prog w0 22 #[ptr x] H1 fun r H2 => r = .tuple #[.int .u64 ((f + sts.length : Nat) : Int), .int .i64 0] ∧
      ∃ P', BothAt H2 l x P' f (sts ++ [1]) ∧ Step w0 H P H2 P' := by
  have own := fun b (hb : P b) => h.own hb
  obtain ⟨S, T, g1, g2, g3, g4⟩ := h
  refine (begin_log g1 hf).mono ?_
  rintro r H1 ⟨rfl, S', q1, q2, q3⟩
  refine ⟨rfl, ?_⟩
  have g2' := g2.keep fun b o hb ho => q3 b o (fun hs => g3 b hs hb) ho
  have st : ∀ b, S' b → ¬ T b := by
    intro b hb ht
    rcases q2 b hb with e | ⟨e, _⟩
    · exact g3 b e ht
    · obtain ⟨o, ho⟩ := g2.own ht; rw [e] at ho; cases ho
  refine (rbegin_ref g2' hf).mono ?_
  rintro r H2 ⟨rfl, T', q4, q5, q6⟩
  have st' : ∀ b, S' b → ¬ T' b := by
    intro b hb ht
    rcases q5 b ht with e | ⟨e, _⟩
    · exact st b hb e
    · obtain ⟨o, ho⟩ := q1.own hb; rw [e] at ho; cases ho
  refine ⟨rfl, fun b => S' b ∨ T' b, ⟨S', T', q1.keep fun b o hb ho => q6 b o (st b hb) ho, q4, st', fun b => Iff.rfl⟩, ?_, ?_⟩
  · rintro b (hb | hb)
    · rcases q2 b hb with e | e
      · exact .inl ((g4 b).2 (.inl e))
      · exact .inr e
    · rcases q5 b hb with e | ⟨e, hw⟩
      · exact .inl ((g4 b).2 (.inr e))
      · refine Classical.byCases .inl fun hp => .inr ⟨?_, hw⟩
        cases c : H b with
        | none => rfl
        | some o => rw [q3 b o (fun hs => hp ((g4 b).2 (.inl hs))) c] at e; cases e
  · intro b o hb ho
    exact q6 b o (fun e => hb ((g4 b).2 (.inr e))) (q3 b o (fun e => hb ((g4 b).2 (.inl e))) ho)
/-- No more numbers, on both. -/
theorem BothAt.full {w0 : World} {H : Hp} {l x : Nat} {P : Nat → Prop} {f : Nat} {sts : List Nat} (h : BothAt H l x P f sts) (hb : f + sts.length < 18446744073709551616) (hf : 1099511627776 < f + sts.length) :
    ACalls Try.prog w0 14 #[ptr l] H fun r H1 => r = .tuple #[.int .u64 0, .int .i64 12] ∧ ACalls Try.prog w0 22 #[ptr x] H1 fun r H2 => r = .tuple #[.int .u64 0, .int .i64 12] ∧ H2 = H := by
  obtain ⟨S, T, g1, g2, g3, g4⟩ := h
  refine (begin_full g1 hb hf).mono ?_
  rintro r H1 ⟨rfl, rfl⟩
  refine ⟨rfl, (rbegin_full g2 hb hf).mono ?_⟩
  rintro r H1 ⟨rfl, rfl⟩
  exact ⟨rfl, rfl⟩
theorem BothAt.log {H : Hp} {l x : Nat} {P : Nat → Prop} {f : Nat} {sts : List Nat} (h : BothAt H l x P f sts) : ∃ S, LogAt H l S f sts := let ⟨S, T, g1, _⟩ := h; ⟨S, g1⟩
theorem BothAt.ref {H : Hp} {l x : Nat} {P : Nat → Prop} {f : Nat} {sts : List Nat} (h : BothAt H l x P f sts) : ∃ S, RefAt H x S f sts := let ⟨S, T, g1, g2, _⟩ := h; ⟨T, g2⟩
theorem endSts_len (f : Nat) (sts : List Nat) (y : Int) (v : Nat) : (endSts f sts y v).length = sts.length := by
  unfold endSts; split <;> simp

theorem all_nil (w0 : World) (H : Hp) : ACalls Try.prog w0 15 #[.pointer none] H fun r H' => r = .slice none 0 0 ∧ H' = H := by
  refine acalls_of Try.func15 rfl Try.ntmps15 r15 (by simp) ?_
  simp only [go_sem, Nat.reduceEqDiff, Nat.reduceLT, Nat.reduceAdd, Nat.reduceMul, Int.reduceEq, Int.reduceLT, Int.reduceLE, Int.reduceNe, Int.reduceBEq, Int.reduceToNat, ↓reduceIte]
end Go.Proofs.Ytmpepacfnckadaa
