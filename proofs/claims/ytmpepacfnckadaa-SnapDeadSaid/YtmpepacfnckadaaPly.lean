/-
  A script of transactions and snapshots, played on both logs.
  Conditions: the script's steps read as steps.
-/
import Derived.Test.YtmpepacfnckadaaSnr
import Derived.Test.YtmpepacfnckadaaArgs
namespace Go.Proofs.Ytmpepacfnckadaa
open Go Go.RowKit Go.Proofs.YtmpepacfnckadaaW
set_option maxRecDepth 100000
set_option linter.unusedSimpArgs false
set_option linter.unusedVariables false

theorem Row.ty {H : Hp} {e sz : Nat} {v : Value} {n : Nat} {xs : List Value} (h : Row H e sz v n xs) {b : Nat} (hb : blk v = some b) : ∃ cur, H b = some (.cells cur e (0, 0)) := by
  obtain ⟨hl, ⟨rfl, _⟩ | ⟨g, cap, cur, rfl, hg, r⟩⟩ := h
  · cases hb
  · cases hb; exact ⟨_, hg⟩
/-- The type of what lies at a block. -/
def tyAt (H : Hp) (b : Nat) : Option Nat := match H b with | some (.cells _ e _) => some e | _ => none
theorem tyAt_of {H : Hp} {b : Nat} {c : Array Value} {e : Nat} {fr : Nat × Nat} (h : H b = some (.cells c e fr)) : tyAt H b = some e := by unfold tyAt; rw [h]
theorem Row.tyAt {H : Hp} {e sz : Nat} {v : Value} {n : Nat} {xs : List Value} (h : Row H e sz v n xs) {b : Nat} (hb : blk v = some b) : tyAt H b = some e := by
  obtain ⟨cur, hc⟩ := Row.ty h hb
  exact tyAt_of hc
/-- A log's blocks are of these types. -/
def logTy (o : Option Nat) : Bool := o == some 98 || o == some 5 || o == some 102 || o == some 3
theorem BothAt.ty {H : Hp} {l x : Nat} {P : Nat → Prop} {f : Nat} {sts : List Nat} (h : BothAt H l x P f sts) {b : Nat} (hb : P b) : logTy (tyAt H b) = true := by
  obtain ⟨S, T, h1, h2, h3, h4⟩ := h
  rcases (h4 b).1 hb with hb | hb
  · obtain ⟨sl, bs, g1, g2, g3, g4, g5⟩ := h1
    rcases (g5 b).1 hb with rfl | hb
    · rw [tyAt_of g1]; rfl
    · rw [Row.tyAt g2 hb]; rfl
  · obtain ⟨sl, g1, g2, g4, g5⟩ := h2
    rcases (g5 b).1 hb with rfl | hb
    · rw [tyAt_of g1]; rfl
    · rw [Row.tyAt g2 hb]; rfl

/-- The frame: what lies outside P stays. -/
def Stay (P : Nat → Prop) (H H' : Hp) : Prop := ∀ b o, ¬ P b → H b = some o → H' b = some o

theorem BothAt.commitF {w0 : World} {H : Hp} {l x : Nat} {P : Nat → Prop} {f : Nat} {sts : List Nat} (h : BothAt H l x P f sts) (hb : f + sts.length < 18446744073709551616) {y : Int} (h0 : 0 ≤ y) (h1 : y < 18446744073709551616) :
    ACalls Try.prog w0 19 #[ptr l, .int .u64 y] H fun r H1 => Stay P H H1 ∧ ACalls Try.prog w0 20 #[ptr x, .int .u64 y, .int .i64 2] H1 fun r H2 =>
      BothAt H2 l x P f (endSts f sts y 2) ∧ Step w0 H P H2 P := by
  obtain ⟨S, T, g1, g2, g3, g4⟩ := h
  refine (commit_log g1 hb h0).mono ?_
  rintro r H1 ⟨rfl, q1, q2⟩
  refine ⟨fun b o hb => q2 b o fun e => hb ((g4 b).2 (.inl e)), ?_⟩
  have g2' := g2.keep fun b o hb ho => q2 b o (fun hs => g3 b hs hb) ho
  refine (rend_ref g2' hb h0 h1 (v := 2) (by omega)).mono ?_
  rintro r H2 ⟨rfl, q3, q4⟩
  refine ⟨⟨S, T, q1.keep fun b o hb ho => q4 b o (g3 b hb) ho, q3, g3, g4⟩, fun b hb => .inl hb, fun b o hb ho => ?_⟩
  exact q4 b o (fun e => hb ((g4 b).2 (.inr e))) (q2 b o (fun e => hb ((g4 b).2 (.inl e))) ho)
theorem BothAt.abortF {w0 : World} {H : Hp} {l x : Nat} {P : Nat → Prop} {f : Nat} {sts : List Nat} (h : BothAt H l x P f sts) (hb : f + sts.length < 18446744073709551616) {y : Int} (h0 : 0 ≤ y) (h1 : y < 18446744073709551616) :
    ACalls Try.prog w0 21 #[ptr l, .int .u64 y] H fun r H1 => Stay P H H1 ∧ ACalls Try.prog w0 20 #[ptr x, .int .u64 y, .int .i64 3] H1 fun r H2 =>
      BothAt H2 l x P f (endSts f sts y 3) ∧ Step w0 H P H2 P := by
  obtain ⟨S, T, g1, g2, g3, g4⟩ := h
  refine (abort_log g1 hb h0).mono ?_
  rintro r H1 ⟨rfl, q1, q2⟩
  refine ⟨fun b o hb => q2 b o fun e => hb ((g4 b).2 (.inl e)), ?_⟩
  have g2' := g2.keep fun b o hb ho => q2 b o (fun hs => g3 b hs hb) ho
  refine (rend_ref g2' hb h0 h1 (v := 3) (by omega)).mono ?_
  rintro r H2 ⟨rfl, q3, q4⟩
  refine ⟨⟨S, T, q1.keep fun b o hb ho => q4 b o (g3 b hb) ho, q3, g3, g4⟩, fun b hb => .inl hb, fun b o hb ho => ?_⟩
  exact q4 b o (fun e => hb ((g4 b).2 (.inr e))) (q2 b o (fun e => hb ((g4 b).2 (.inl e))) ho)
theorem BothAt.beginF {w0 : World} {H : Hp} {l x : Nat} {P : Nat → Prop} {f : Nat} {sts : List Nat} (h : BothAt H l x P f sts) (hf : f + sts.length ≤ 1099511627776) :
    ACalls Try.prog w0 14 #[ptr l] H fun r H1 => Stay P H H1 ∧ ACalls Try.prog w0 22 #[ptr x] H1 fun r H2 =>
      ∃ P', BothAt H2 l x P' f (sts ++ [1]) ∧ Step w0 H P H2 P' := by
  have hS : ∃ S, LogAt H l S f sts ∧ ∀ b, S b → P b := by obtain ⟨S, T, g1, g2, g3, g4⟩ := h; exact ⟨S, g1, fun b hb => (g4 b).2 (.inl hb)⟩
  obtain ⟨S, T, g1, g2, g3, g4⟩ := h
  refine (begin_log g1 hf).mono ?_
  rintro r H1 ⟨rfl, S', q1, q2, q3⟩
  refine ⟨fun b o hb => q3 b o fun e => hb ((g4 b).2 (.inl e)), ?_⟩
  have g2' := g2.keep fun b o hb ho => q3 b o (fun hs => g3 b hs hb) ho
  have st : ∀ b, S' b → ¬ T b := by
    intro b hb ht
    rcases q2 b hb with e | ⟨e, _⟩
    · exact g3 b e ht
    · obtain ⟨o, ho⟩ := g2.own ht; rw [e] at ho; cases ho
  refine (rbegin_ref g2' hf).mono ?_
  rintro r H2 ⟨rfl, T', q4, q5, q6⟩
  have st' : ∀ b, S' b → ¬ T' b := by
    intro b hb ht
    rcases q5 b ht with e | ⟨e, _⟩
    · exact st b hb e
    · obtain ⟨o, ho⟩ := q1.own hb; rw [e] at ho; cases ho
  refine ⟨fun b => S' b ∨ T' b, ⟨S', T', q1.keep fun b o hb ho => q6 b o (st b hb) ho, q4, st', fun b => Iff.rfl⟩, ?_, ?_⟩
  · rintro b (hb | hb)
    · rcases q2 b hb with e | e
      · exact .inl ((g4 b).2 (.inl e))
      · exact .inr e
    · rcases q5 b hb with e | ⟨e, hw⟩
      · exact .inl ((g4 b).2 (.inr e))
      · refine Classical.byCases .inl fun hp => .inr ⟨?_, hw⟩
        cases c : H b with
        | none => rfl
        | some o => rw [q3 b o (fun hs => hp ((g4 b).2 (.inl hs))) c] at e; cases e
  · intro b o hb ho
    exact q6 b o (fun e => hb ((g4 b).2 (.inr e))) (q3 b o (fun e => hb ((g4 b).2 (.inl e))) ho)

/-- A snapshot: whose, and the states when it was taken; where its list lies, and the document's. -/
structure Shot where
  own : Nat
  old : List Nat
  v : Value
  t : Value
def Shot.run (z : Shot) : List Nat := others z.own (runs 1 z.old)
def Shot.xmax (z : Shot) : Nat := 1 + z.old.length
def Shot.cs (z : Shot) : List Value := [.int .u64 (z.own : Int), .int .u64 ((least z.xmax z.run : Nat) : Int), .int .u64 (z.xmax : Int), z.v]
def Shot.ct (z : Shot) : List Value := [.int .u64 (z.own : Int), .int .u64 (z.xmax : Int), z.t]
/-- States stay. -/
def Later (a b : List Nat) : Prop := a.length ≤ b.length ∧ ∀ i, i < a.length → a.getD i 0 ≠ 1 → b.getD i 0 = a.getD i 0
theorem Later.refl (a : List Nat) : Later a a := ⟨Nat.le_refl _, fun _ _ _ => rfl⟩
theorem Later.push {a b : List Nat} (h : Later a b) (v : Nat) : Later a (b ++ [v]) := by
  refine ⟨by rw [List.length_append]; have := h.1; omega, fun i hi h1 => ?_⟩
  rw [← h.2 i hi h1, List.getD_eq_getElem?_getD, List.getD_eq_getElem?_getD, List.getElem?_append_left (by have := h.1; omega)]
theorem Later.fin {a b : List Nat} (h : Later a b) (y : Int) (v : Nat) : Later a (endSts 1 b y v) := by
  refine ⟨by rw [endSts_len]; exact h.1, fun i hi h1 => ?_⟩
  rw [← h.2 i hi h1]
  unfold endSts
  split
  · rename_i c
    obtain ⟨k, hy, hk, hk1⟩ := stOf_one (by omega) c
    have hik : i ≠ k := fun e => by
      have := h.2 i hi h1
      rw [e, hk1] at this
      rw [e] at h1; exact h1 this.symm
    rw [hy, show (((1 + k : Nat) : Int) - ((1 : Nat) : Int)).toNat = k by omega, List.getD_eq_getElem?_getD, List.getD_eq_getElem?_getD, List.getElem?_set_ne (fun e => hik e.symm)]
  · rfl
def Good (sts : List Nat) : Prop := ∀ s ∈ sts, 1 ≤ s ∧ s < 4
theorem Good.push {b : List Nat} (h : Good b) : Good (b ++ [1]) := by
  intro s hs
  simp only [List.mem_append, List.mem_singleton] at hs
  rcases hs with hs | rfl
  · exact h s hs
  · omega
theorem Good.fin {b : List Nat} (h : Good b) (y : Int) {v : Nat} (hv : 1 ≤ v ∧ v < 4) : Good (endSts 1 b y v) := by
  unfold endSts
  split
  · intro s hs
    rcases List.mem_or_eq_of_mem_set hs with e | rfl
    · exact h s e
    · exact hv
  · exact h

def Shots (H : Hp) (sts : List Nat) (zs : List Shot) : Prop :=
  ∀ z ∈ zs, Row H 23 1 z.v z.run.length (u64s z.run) ∧ Row H 23 1 z.t z.run.length (u64s z.run) ∧ Later z.old sts ∧ Good z.old ∧ z.old.length ≤ 100 ∧ z.own < 100
def PlayAt (H : Hp) (p l x : Nat) (P : Nat → Prop) (sts : List Nat) (zs : List Shot) (ss tt : Value) : Prop :=
  H p = some (.cells #[ptr l, ptr x, ss, tt] 64 (0, 0)) ∧ BothAt H l x P 1 sts ∧ Row H 66 4 ss zs.length (zs.flatMap Shot.cs) ∧ Row H 93 3 tt zs.length (zs.flatMap Shot.ct) ∧ Shots H sts zs ∧ Good sts
/-- What isn't a log's stays through a step of the logs. -/
theorem PlayAt.step {w0 : World} {H H' : Hp} {p l x : Nat} {P P' : Nat → Prop} {sts sts' : List Nat} {zs : List Shot} {ss tt : Value} (h : PlayAt H p l x P sts zs ss tt) (hs : Step w0 H P H' P') (hb : BothAt H' l x P' 1 sts') (hl : ∀ a, Later a sts → Later a sts') (hg : Good sts') :
    PlayAt H' p l x P' sts' zs ss tt := by
  obtain ⟨h1, h2, h3, h4, h5, h6⟩ := h
  have hp : ∀ b o, logTy (tyAt H b) = false → H b = some o → H' b = some o := fun b o ht ho => hs.2 b o (fun hP => by rw [h2.ty hP] at ht; cases ht) ho
  have hr : ∀ {e sz v n xs}, Row H e sz v n xs → logTy (some e) = false → Row H' e sz v n xs := fun hr ht => hr.keep fun b o hb ho => hp b o (by rw [Row.tyAt hr hb]; exact ht) ho
  refine ⟨hp p _ (by rw [tyAt_of h1]; rfl) h1, hb, hr h3 rfl, hr h4 rfl, fun z hz => ?_, hg⟩
  obtain ⟨q1, q2, q3, q4⟩ := h5 z hz
  exact ⟨hr q1 rfl, hr q2 rfl, hl _ q3, q4⟩
theorem PlayAt.sub {H H' : Hp} {p l x : Nat} {P : Nat → Prop} {sts : List Nat} {zs : List Shot} {ss tt : Value} (h : PlayAt H p l x P sts zs ss tt) (hs : Sub H H') : PlayAt H' p l x P sts zs ss tt := by
  obtain ⟨h1, h2, h3, h4, h5, h6⟩ := h
  refine ⟨hs _ _ h1, h2.keep fun b o _ hb => hs b o hb, h3.keep fun b o _ hb => hs b o hb, h4.keep fun b o _ hb => hs b o hb, fun z hz => ?_, h6⟩
  obtain ⟨q1, q2, q3⟩ := h5 z hz
  exact ⟨q1.keep fun b o _ hb => hs b o hb, q2.keep fun b o _ hb => hs b o hb, q3⟩
end Go.Proofs.Ytmpepacfnckadaa
