/-
  A played script's log and its snapshots, the document's left aside.
  Conditions: as each theorem states them.
-/
import Derived.Test.YtmpepacfnckadaaRho
import Derived.Test.YtmpepacfnckadaaAwq
namespace Go.Proofs.Ytmpepacfnckadaa
open Go Go.RowKit Go.Proofs.YtmpepacfnckadaaW
set_option maxRecDepth 100000
set_option linter.unusedSimpArgs false
set_option linter.unusedVariables false

theorem dec_ne_self {α : Type} [BEq α] [ReflBEq α] (a : α) : (!(a == a)) = false := by simp
theorem Hi.ne {w0 : World} {A B : Hp} (h : Hi w0 A) {b : Nat} (hb : w0.heap.size ≤ b) (g : ∀ i, i ≠ b → B i = A i) : Hi w0 B := fun i o hi => by
  by_cases e : i = b
  · rw [e]; exact hb
  · rw [g i e] at hi; exact h i o hi
def SnapsAt (H : Hp) (sts : List Nat) (zs : List Shot) : Prop := ∀ z ∈ zs, Row H 23 1 z.v z.run.length (u64s z.run) ∧ Later z.old sts ∧ z.old.length ≤ 100
theorem SnapsAt.run {H : Hp} {sts : List Nat} {zs : List Shot} (h : SnapsAt H sts zs) {z : Shot} (hz : z ∈ zs) : z.run.length < 10000000000000 := by
  obtain ⟨q1, q2, q3⟩ := h z hz
  have := others_len z.own (runs 1 z.old); have := runsK_len 1 z.old z.old.length
  unfold runs at *; unfold Shot.run runs; omega
theorem SnapsAt.cell {H : Hp} {sts : List Nat} {zs : List Shot} (h : SnapsAt H sts zs) {z : Shot} (hz : z ∈ zs) : cell1 z.v = true := by
  obtain ⟨u1, u2, u⟩ := (h z hz).1.slice; rw [u]; exact cell1_slice
def HalfAt (H : Hp) (p l x : Nat) (S : Nat → Prop) (sts : List Nat) (zs : List Shot) (ss tt : Value) : Prop :=
  H p = some (.cells #[ptr l, ptr x, ss, tt] 64 (0, 0)) ∧ LogAt H l S 1 sts ∧ Row H 66 4 ss zs.length (zs.flatMap Shot.cs) ∧ SnapsAt H sts zs
theorem PlayAt.half {H : Hp} {p l x : Nat} {P : Nat → Prop} {sts : List Nat} {zs : List Shot} {ss tt : Value} (h : PlayAt H p l x P sts zs ss tt) : ∃ S, HalfAt H p l x S sts zs ss tt := by
  obtain ⟨h1, h2, h3, h4, h5, h6⟩ := h
  obtain ⟨S, hl⟩ := h2.log
  refine ⟨S, h1, hl, h3, fun z hz => ?_⟩
  obtain ⟨q1, q2, q3, q4, q5, q6⟩ := h5 z hz
  exact ⟨q1, q3, q5⟩
def halfTy (o : Option Nat) : Bool := o == some 98 || o == some 5 || o == some 64 || o == some 66 || o == some 23
theorem LogAt.ty {H : Hp} {l : Nat} {S : Nat → Prop} {f : Nat} {sts : List Nat} (h : LogAt H l S f sts) {b : Nat} (hb : S b) : tyAt H b = some 98 ∨ tyAt H b = some 5 := by
  obtain ⟨sl, bs, g1, g2, g3, g4, g5⟩ := h
  rcases (g5 b).1 hb with rfl | hb
  · exact .inl (tyAt_of g1)
  · exact .inr (Row.tyAt g2 hb)
theorem HalfAt.keep {H H' : Hp} {p l x : Nat} {S : Nat → Prop} {sts : List Nat} {zs : List Shot} {ss tt : Value} (h : HalfAt H p l x S sts zs ss tt) (hk : ∀ b o, halfTy (tyAt H b) = true → H b = some o → H' b = some o) : HalfAt H' p l x S sts zs ss tt := by
  obtain ⟨h1, h2, h3, h4⟩ := h
  refine ⟨hk p _ (by rw [tyAt_of h1]; rfl) h1, h2.keep fun b o hb ho => hk b o (by rcases h2.ty hb with e | e <;> rw [e] <;> rfl) ho, h3.keep fun b o hb ho => hk b o (by rw [Row.tyAt h3 hb]; rfl) ho, fun z hz => ?_⟩
  obtain ⟨q1, q2⟩ := h4 z hz
  exact ⟨q1.keep fun b o hb ho => hk b o (by rw [Row.tyAt q1 hb]; rfl) ho, q2⟩
theorem HalfAt.sub {H H' : Hp} {p l x : Nat} {S : Nat → Prop} {sts : List Nat} {zs : List Shot} {ss tt : Value} (h : HalfAt H p l x S sts zs ss tt) (hs : Sub H H') : HalfAt H' p l x S sts zs ss tt := h.keep fun b o _ hb => hs b o hb
/-- What isn't of a log's types stays through a step of the log. -/
theorem log_out {H H' : Hp} {l : Nat} {S : Nat → Prop} {f : Nat} {sts : List Nat} (h : LogAt H l S f sts) (hf : ∀ b o, ¬ S b → H b = some o → H' b = some o) {b : Nat} {o : Obj} (hb : H b = some o) (h1 : tyAt H b ≠ some 98) (h2 : tyAt H b ≠ some 5) : H' b = some o :=
  hf b o (fun hs => (h.ty hs).elim h1 h2) hb
theorem log_row {H H' : Hp} {l : Nat} {S : Nat → Prop} {f : Nat} {sts : List Nat} (h : LogAt H l S f sts) (hf : ∀ b o, ¬ S b → H b = some o → H' b = some o) {e sz : Nat} {v : Value} {n : Nat} {xs : List Value} (hr : Row H e sz v n xs) (h1 : e ≠ 98) (h2 : e ≠ 5) : Row H' e sz v n xs :=
  hr.keep fun b o hb ho => log_out h hf ho (by rw [Row.tyAt hr hb]; exact fun c => h1 (Option.some.inj c)) (by rw [Row.tyAt hr hb]; exact fun c => h2 (Option.some.inj c))
theorem HalfAt.step {H H' : Hp} {p l x : Nat} {S S' : Nat → Prop} {sts sts' : List Nat} {zs : List Shot} {ss tt : Value} (h : HalfAt H p l x S sts zs ss tt) (hl : LogAt H' l S' 1 sts') (hf : ∀ b o, ¬ S b → H b = some o → H' b = some o) (hm : ∀ a, Later a sts → Later a sts') :
    HalfAt H' p l x S' sts' zs ss tt := by
  obtain ⟨h1, h2, h3, h4⟩ := h
  refine ⟨log_out h2 hf h1 (by rw [tyAt_of h1]; decide) (by rw [tyAt_of h1]; decide), hl, log_row h2 hf h3 (by decide) (by decide), fun z hz => ?_⟩
  obtain ⟨q1, q2, q3⟩ := h4 z hz
  exact ⟨log_row h2 hf q1 (by decide) (by decide), hm _ q2, q3⟩

/-! ### A snapshot stays -/
theorem mem_runs {sts : List Nat} {i : Nat} (hi : i < sts.length) (h1 : sts.getD i 0 = 1) : 1 + i ∈ runs 1 sts := by
  unfold runs runsK
  simp only [List.mem_map, List.mem_filter, List.mem_range, beq_iff_eq]
  exact ⟨i, ⟨hi, h1⟩, rfl⟩
theorem sees_old {z : Shot} {sts : List Nat} (h : Later z.old sts) {y : Nat} (hy : y ≠ z.own) : seesB 1 sts z.own z.xmax z.run y = seesB 1 z.old z.own z.xmax z.run y := by
  unfold seesB
  by_cases c : y < z.xmax
  · unfold Shot.xmax at c
    by_cases c0 : y = 0
    · subst c0; rfl
    · obtain ⟨i, rfl⟩ : ∃ i, y = 1 + i := ⟨y - 1, by omega⟩
      have hi : i < z.old.length := by omega
      have hle := h.1
      have e : ∀ s : List Nat, i < s.length → stOf 1 s ((1 + i : Nat) : Int) = s.getD i 0 := fun s hs => by
        rw [stOf, if_pos (by omega), show (((1 + i : Nat) : Int) - ((1 : Nat) : Int)).toNat = i by omega]
      rw [e sts (by omega), e z.old hi]
      by_cases c1 : z.old.getD i 0 = 1
      · have hm : z.run.contains (1 + i) = true := by
          rw [List.contains_iff_mem]
          unfold Shot.run others
          rw [List.mem_filter]
          exact ⟨mem_runs hi c1, by simp [hy]⟩
        rw [hm]; simp
      · rw [h.2 i hi c1]
  · have : decide (y < z.xmax) = false := by simp; omega
    rw [this]; rfl
def bools (xs : List Bool) : List Value := xs.map Value.bool
/-- What a snapshot sees of the first k numbers. -/
def seenK (sts : List Nat) (z : Shot) (k : Nat) : List Bool := (List.range k).map fun y => seesB 1 sts z.own z.xmax z.run y
theorem seenK_len (sts : List Nat) (z : Shot) (k : Nat) : (seenK sts z k).length = k := by simp [seenK]
theorem seenK_succ (sts : List Nat) (z : Shot) (k : Nat) : seenK sts z (k + 1) = seenK sts z k ++ [seesB 1 sts z.own z.xmax z.run k] := by simp [seenK, List.range_succ]
theorem seenK_at (sts : List Nat) (z : Shot) {k y : Nat} (h : y < k) : (seenK sts z k)[y]? = some (seesB 1 sts z.own z.xmax z.run y) := by simp [seenK, h]
end Go.Proofs.Ytmpepacfnckadaa
