/-
  The law KeyJoins, walked.
  Conditions: as each theorem states them.
-/
import Derived.Test.YtoolnkemkhianaaDoorAk3
namespace Go.Proofs.YtoolnkemkhianaaDoor
open Go Go.RowKit Go.Proofs.YtoolnkemkhianaaDoorW
set_option maxRecDepth 100000
set_option maxHeartbeats 1000000
set_option linter.unusedSimpArgs false
set_option linter.unusedVariables false
theorem flat_take (l : List Va) : ∀ k, (l.take k).flatMap vc = (l.flatMap vc).take (k * 4) := by
  induction l with
  | nil => simp
  | cons a l ih =>
    intro k
    cases k with
    | zero => simp
    | succ k =>
      rw [List.take_succ_cons, List.flatMap_cons, List.flatMap_cons, ih k, List.take_append]
      have : (vc a).length = 4 := rfl
      rw [List.take_of_length_le (show (vc a).length ≤ (k + 1) * 4 by rw [this]; omega), this, show (k + 1) * 4 - 4 = k * 4 by omega]
theorem vcs_cell (l : List Va) : ∀ u ∈ l.flatMap vc, cell1 u = true := fun u hu => by
  obtain ⟨x, _, hx⟩ := List.mem_flatMap.1 hu
  exact List.all_eq_true.1 (vc_cell x) u hx
theorem vs_len (l : List Va) : (l.flatMap vc).length = l.length * 4 := flat_len l (vc_len4 l)
/-- v is a slice of these values, the call's own. -/
def OwnV (H : Hp) (v : Value) (l : List Va) : Prop := Row H 36 4 v l.length (l.flatMap vc)
theorem bs0v : bsCells Tryd.prog 36 0 #[] = some #[] := by kernel_rfl
theorem bs0b : bsCells Tryd.prog 5 0 #[] = some #[] := by kernel_rfl
attribute [go_sem] bs0v bs0b
section
variable {w0 : World} {H Hb : Hp}
theorem OwnV.vs {v : Value} {l : List Va} (h : OwnV H v l) : Vs w0 H v l := Row.rd h
theorem OwnV.sub {H' : Hp} {v : Value} {l : List Va} (h : OwnV H v l) (hs : Sub H H') : OwnV H' v l := Row.keep h fun b o _ hb => hs b o hb
theorem OwnV.empty {b : Nat} (h : H b = some (.cells #[] 36 (0, 0))) : OwnV H (.slice (some ⟨b, 0, none⟩) 0 0) [] := ⟨rfl, .inr ⟨b, 0, #[], rfl, h, Nat.le_refl _, rfl, rfl⟩⟩
theorem Vs.front {a : Option Addr} {n c : Nat} {l : List Va} (h : Vs w0 H (.slice a n c) l) {k : Nat} (hk : k ≤ l.length) : Vs w0 H (.slice a k c) (l.take k) := by
  have := Rd.front h hk rfl
  unfold Vs
  rw [flat_take, List.length_take, Nat.min_eq_left hk]
  exact this
variable {F : Fr} {K : Value → Hp → Prop} {dst : Option Tmp} {ty : TypeId} {pos : String} {after : Array Edge} {g : Option (Nat × Bool)}
/-- append, to values of its own, of values. -/
theorem app_v {x y : Operand} {v u : Value} {p q : List Va} (hx : evF F x = v) (hown : OwnV H v p) (hy : evF F y = u) (hq : Vs w0 H u q) (hb : p.length + q.length < 1000000000) (hf : Fsh w0 Hb v) (hs : Sub Hb H)
    (hK : ∀ r H', OwnV H' r (p ++ q) → Fsh w0 Hb r → Sub Hb H' → App w0 H v r H' → K r H') :
    AOp Tryd.prog w0 F ⟨dst, .call { callee := .builtin .append, args := #[x, y], argTypes := #[28, 28] }, ty, pos, after, g⟩ K H := by
  refine aop_app Tryd.underlying28 s36 b36 z36 rfl hx hown hy hq (vcs_cell q) (by omega) (by omega) ?_
  intro r H' hrow happ
  obtain ⟨s2, f2⟩ := App.fresh happ hs hf
  refine hK r H' ?_ f2 s2 happ
  unfold OwnV
  rw [List.flatMap_append, List.length_append]
  exact hrow
theorem min6 (n : Nat) : (if (6 : Int) < (n : Int) then (6 : Int) else (n : Int)) = ((min 6 n : Nat) : Int) := by split <;> omega
theorem take_min {α : Type} (l : List α) (k : Nat) : l.take (min k l.length) = l.take k := by
  by_cases h : k ≤ l.length
  · rw [Nat.min_eq_left h]
  · rw [Nat.min_eq_right (by omega), List.take_of_length_le (Nat.le_refl _), List.take_of_length_le (by omega)]
theorem keyJoins_law {u v : Value} {a0 b0 : List Va} (ht : Tbl w0) (hu : Vs w0 (fun _ => none) u a0) (hwu : ∀ x ∈ a0, x.wf) (hv : Vs w0 (fun _ => none) v b0) (hwv : ∀ x ∈ b0, x.wf) :
    ACalls Tryd.prog w0 4 #[u, v] (fun _ => none) fun r H' => r = .bool true ∧ True := by
  obtain ⟨ua, uc, eu, _⟩ := Rd.slice hu
  obtain ⟨va', vc', ev, _⟩ := Rd.slice hv
  refine acalls_of Tryd.func4 rfl Tryd.ntmps4 r4 (by simp) ?_
  simp -implicitDefEqProofs only [go_sem, Nat.reduceEqDiff, Nat.reduceLT, Nat.reduceAdd, Nat.reduceMul, Int.reduceEq, Int.reduceLT, Int.reduceLE, Int.reduceNe, Int.reduceBEq, Int.reduceToNat, ↓reduceIte]
  refine (awake3_ok ht).mono ?_
  rintro r H ⟨rfl, rfl⟩
  simp -implicitDefEqProofs only [go_sem, Nat.reduceEqDiff, Nat.reduceLT, Nat.reduceAdd, Nat.reduceMul, Int.reduceEq, Int.reduceLT, Int.reduceLE, Int.reduceNe, Int.reduceBEq, Int.reduceToNat, ↓reduceIte]
  refine vdraw_t [⟨0, .p, [], []⟩, ⟨1, .p, [], []⟩, ⟨2, .n, [], []⟩, ⟨3, .n, [], []⟩, ⟨4, .n, [], []⟩, ⟨5, .p, [], []⟩, ⟨6, .p, [], []⟩, ⟨7, .n, [], []⟩, ⟨8, .n, [], []⟩, ⟨9, .n, [], []⟩, ⟨10, .p, [], []⟩, ⟨11, .p, [], []⟩] [0, 0, 2, 6, 15, 0, 0, 64, 192, 480, 31, 2047] mixed (by kernel_rfl) ?_
  simp -implicitDefEqProofs only [go_sem, Nat.reduceEqDiff, Nat.reduceLT, Nat.reduceAdd, Nat.reduceMul, Int.reduceEq, Int.reduceLT, Int.reduceLE, Int.reduceNe, Int.reduceBEq, Int.reduceToNat, ↓reduceIte, eu, ev]
  refine ⟨.int .i64 ((min 6 a0.length : Nat) : Int), by refine aop_min (k := .i64) (a := (a0.length : Int)) (b := 6) (by simp -implicitDefEqProofs only [go_sem, Nat.reduceEqDiff, Nat.reduceLT, Nat.reduceAdd, Nat.reduceMul, Int.reduceEq, Int.reduceLT, Int.reduceLE, Int.reduceNe, Int.reduceBEq, Int.reduceToNat, ↓reduceIte]) (by simp -implicitDefEqProofs only [go_sem, Nat.reduceEqDiff, Nat.reduceLT, Nat.reduceAdd, Nat.reduceMul, Int.reduceEq, Int.reduceLT, Int.reduceLE, Int.reduceNe, Int.reduceBEq, Int.reduceToNat, ↓reduceIte]) ?_; rw [min6]; exact ⟨rfl, rfl⟩, ?_⟩
  simp -implicitDefEqProofs only [go_sem, Nat.reduceEqDiff, Nat.reduceLT, Nat.reduceAdd, Nat.reduceMul, Int.reduceEq, Int.reduceLT, Int.reduceLE, Int.reduceNe, Int.reduceBEq, Int.reduceToNat, ↓reduceIte]
  refine ⟨.slice ua (min 6 a0.length) uc, by refine slice_hi (dst := none) (ty := 0) (pos := "") (after := #[]) (g := none) (a := ua) (n := a0.length) (c := uc) (l := min 6 a0.length) Tryd.underlying28 s36 (by simp -implicitDefEqProofs only [go_sem, Nat.reduceEqDiff, Nat.reduceLT, Nat.reduceAdd, Nat.reduceMul, Int.reduceEq, Int.reduceLT, Int.reduceLE, Int.reduceNe, Int.reduceBEq, Int.reduceToNat, ↓reduceIte]) (by simp -implicitDefEqProofs only [go_sem, Nat.reduceEqDiff, Nat.reduceLT, Nat.reduceAdd, Nat.reduceMul, Int.reduceEq, Int.reduceLT, Int.reduceLE, Int.reduceNe, Int.reduceBEq, Int.reduceToNat, ↓reduceIte]) (by omega) ⟨rfl, rfl⟩, ?_⟩
  simp -implicitDefEqProofs only [go_sem, Nat.reduceEqDiff, Nat.reduceLT, Nat.reduceAdd, Nat.reduceMul, Int.reduceEq, Int.reduceLT, Int.reduceLE, Int.reduceNe, Int.reduceBEq, Int.reduceToNat, ↓reduceIte]
  refine ⟨.int .i64 ((min 6 b0.length : Nat) : Int), by refine aop_min (k := .i64) (a := (b0.length : Int)) (b := 6) (by simp -implicitDefEqProofs only [go_sem, Nat.reduceEqDiff, Nat.reduceLT, Nat.reduceAdd, Nat.reduceMul, Int.reduceEq, Int.reduceLT, Int.reduceLE, Int.reduceNe, Int.reduceBEq, Int.reduceToNat, ↓reduceIte]) (by simp -implicitDefEqProofs only [go_sem, Nat.reduceEqDiff, Nat.reduceLT, Nat.reduceAdd, Nat.reduceMul, Int.reduceEq, Int.reduceLT, Int.reduceLE, Int.reduceNe, Int.reduceBEq, Int.reduceToNat, ↓reduceIte]) ?_; rw [min6]; exact ⟨rfl, rfl⟩, ?_⟩
  simp -implicitDefEqProofs only [go_sem, Nat.reduceEqDiff, Nat.reduceLT, Nat.reduceAdd, Nat.reduceMul, Int.reduceEq, Int.reduceLT, Int.reduceLE, Int.reduceNe, Int.reduceBEq, Int.reduceToNat, ↓reduceIte]
  refine ⟨.slice va' (min 6 b0.length) vc', by refine slice_hi (dst := none) (ty := 0) (pos := "") (after := #[]) (g := none) (a := va') (n := b0.length) (c := vc') (l := min 6 b0.length) Tryd.underlying28 s36 (by simp -implicitDefEqProofs only [go_sem, Nat.reduceEqDiff, Nat.reduceLT, Nat.reduceAdd, Nat.reduceMul, Int.reduceEq, Int.reduceLT, Int.reduceLE, Int.reduceNe, Int.reduceBEq, Int.reduceToNat, ↓reduceIte]) (by simp -implicitDefEqProofs only [go_sem, Nat.reduceEqDiff, Nat.reduceLT, Nat.reduceAdd, Nat.reduceMul, Int.reduceEq, Int.reduceLT, Int.reduceLE, Int.reduceNe, Int.reduceBEq, Int.reduceToNat, ↓reduceIte]) (by omega) ⟨rfl, rfl⟩, ?_⟩
  simp -implicitDefEqProofs only [go_sem, Nat.reduceEqDiff, Nat.reduceLT, Nat.reduceAdd, Nat.reduceMul, Int.reduceEq, Int.reduceLT, Int.reduceLE, Int.reduceNe, Int.reduceBEq, Int.reduceToNat, ↓reduceIte]
  have hA := (eu ▸ hu).front (k := min 6 a0.length) (Nat.min_le_right _ _)
  have hB := (ev ▸ hv).front (k := min 6 b0.length) (Nat.min_le_right _ _)
  rw [take_min] at hA hB
  have lA : (a0.take 6).length = min 6 a0.length := List.length_take
  have lB : (b0.take 6).length = min 6 b0.length := List.length_take
  have wA : ∀ x ∈ a0.take 6, x.wf := fun x hx => hwu x (List.mem_of_mem_take hx)
  have wB : ∀ x ∈ b0.take 6, x.wf := fun x hx => hwv x (List.mem_of_mem_take hx)
  rw [← lA] at hA ⊢
  rw [← lB] at hB ⊢
  generalize a0.take 6 = A at hA lA wA ⊢
  generalize b0.take 6 = B at hB lB wB ⊢
  refine (ACalls.hi (kbytes_ok ht hA (by omega) wA)).mono ?_
  rintro r1 H1 ⟨⟨s1, h1⟩, hh1⟩
  have hr1 : ∃ p1 e1, r1 = .tuple #[p1, .int .i64 e1] := by
    rcases h1 with ⟨_, s, e, _⟩ | ⟨_, e⟩
    · exact ⟨_, _, e⟩
    · exact ⟨_, _, e⟩
  obtain ⟨p1, e1, rfl⟩ := hr1
  simp -implicitDefEqProofs only [go_sem, Nat.reduceEqDiff, Nat.reduceLT, Nat.reduceAdd, Nat.reduceMul, Int.reduceEq, Int.reduceLT, Int.reduceLE, Int.reduceNe, Int.reduceBEq, Int.reduceToNat, ↓reduceIte]
  refine (ACalls.hi (kbytes_ok ht (hB.sub s1 hh1) (by omega) wB)).mono ?_
  rintro r2 H2 ⟨⟨s2, h2⟩, hh2⟩
  have hr2 : ∃ p2 e2, r2 = .tuple #[p2, .int .i64 e2] := by
    rcases h2 with ⟨_, s, e, _⟩ | ⟨_, e⟩
    · exact ⟨_, _, e⟩
    · exact ⟨_, _, e⟩
  obtain ⟨p2, e2, rfl⟩ := hr2
  simp -implicitDefEqProofs only [go_sem, Nat.reduceEqDiff, Nat.reduceLT, Nat.reduceAdd, Nat.reduceMul, Int.reduceEq, Int.reduceLT, Int.reduceLE, Int.reduceNe, Int.reduceBEq, Int.reduceToNat, ↓reduceIte]
  refine newK_of ?_
  intro b3 H3 hb3 hn3 h3 s3 g3
  simp -implicitDefEqProofs only [go_sem, Nat.reduceEqDiff, Nat.reduceLT, Nat.reduceAdd, Nat.reduceMul, Int.reduceEq, Int.reduceLT, Int.reduceLE, Int.reduceNe, Int.reduceBEq, Int.reduceToNat, ↓reduceIte]
  have hh3 : Hi w0 H3 := Hi.ne hh2 hb3 g3
  have fr3 : Fsh w0 H2 (.slice (some ⟨b3, 0, none⟩) 0 0) := fun b hb => by simp only [blk, Option.some.injEq] at hb; subst hb; exact ⟨hn3, hb3⟩
  refine app_v (Hb := H2) (by simp -implicitDefEqProofs only [go_sem, Nat.reduceEqDiff, Nat.reduceLT, Nat.reduceAdd, Nat.reduceMul, Int.reduceEq, Int.reduceLT, Int.reduceLE, Int.reduceNe, Int.reduceBEq, Int.reduceToNat, ↓reduceIte]) (OwnV.empty h3) (by simp -implicitDefEqProofs only [go_sem, Nat.reduceEqDiff, Nat.reduceLT, Nat.reduceAdd, Nat.reduceMul, Int.reduceEq, Int.reduceLT, Int.reduceLE, Int.reduceNe, Int.reduceBEq, Int.reduceToNat, ↓reduceIte]) (hA.sub (s1.trans (s2.trans s3)) hh3) (by simp; omega) fr3 s3 ?_
  intro r4 H4 o4 f4 s4 a4
  have hh4 : Hi w0 H4 := Hi.app hh3 a4 (fun b hb => (fr3 b hb).2)
  simp -implicitDefEqProofs only [go_sem, Nat.reduceEqDiff, Nat.reduceLT, Nat.reduceAdd, Nat.reduceMul, Int.reduceEq, Int.reduceLT, Int.reduceLE, Int.reduceNe, Int.reduceBEq, Int.reduceToNat, ↓reduceIte]
  refine app_v (Hb := H2) (by simp -implicitDefEqProofs only [go_sem, Nat.reduceEqDiff, Nat.reduceLT, Nat.reduceAdd, Nat.reduceMul, Int.reduceEq, Int.reduceLT, Int.reduceLE, Int.reduceNe, Int.reduceBEq, Int.reduceToNat, ↓reduceIte]) o4 (by simp -implicitDefEqProofs only [go_sem, Nat.reduceEqDiff, Nat.reduceLT, Nat.reduceAdd, Nat.reduceMul, Int.reduceEq, Int.reduceLT, Int.reduceLE, Int.reduceNe, Int.reduceBEq, Int.reduceToNat, ↓reduceIte]) (hB.sub (s1.trans (s2.trans s4)) hh4) (by simp; omega) f4 s4 ?_
  intro r5 H5 o5 f5 s5 a5
  rw [List.nil_append] at o5
  simp -implicitDefEqProofs only [go_sem, Nat.reduceEqDiff, Nat.reduceLT, Nat.reduceAdd, Nat.reduceMul, Int.reduceEq, Int.reduceLT, Int.reduceLE, Int.reduceNe, Int.reduceBEq, Int.reduceToNat, ↓reduceIte]
  refine (kbytes_ok (l := A ++ B) ht o5.vs (by simp; omega) (fun x hx => (List.mem_append.1 hx).elim (wA x) (wB x))).mono ?_
  rintro r6 H6 ⟨s6, h6⟩
  rw [List.all_append] at h6
  rcases h1 with ⟨q1, p, e, own1, fr1⟩ | ⟨q1, e⟩
  · cases e
    rcases h2 with ⟨q2, p', e, own2, fr2⟩ | ⟨q2, e⟩
    · cases e
      rcases h6 with ⟨_, p6, rfl, own6, fr6⟩ | ⟨q6, rfl⟩
      · simp -implicitDefEqProofs only [go_sem, Nat.reduceEqDiff, Nat.reduceLT, Nat.reduceAdd, Nat.reduceMul, Int.reduceEq, Int.reduceLT, Int.reduceLE, Int.reduceNe, Int.reduceBEq, Int.reduceToNat, ↓reduceIte]
        have o1 := ((own1.sub s2).sub s5).sub s6
        have o2 := (own2.sub s5).sub s6
        have d1 := encR_len q1
        have d2 := encR_len q2
        refine app_b (Hb := fun _ => none) (by simp -implicitDefEqProofs only [go_sem, Nat.reduceEqDiff, Nat.reduceLT, Nat.reduceAdd, Nat.reduceMul, Int.reduceEq, Int.reduceLT, Int.reduceLE, Int.reduceNe, Int.reduceBEq, Int.reduceToNat, ↓reduceIte]) o1 (by simp -implicitDefEqProofs only [go_sem, Nat.reduceEqDiff, Nat.reduceLT, Nat.reduceAdd, Nat.reduceMul, Int.reduceEq, Int.reduceLT, Int.reduceLE, Int.reduceNe, Int.reduceBEq, Int.reduceToNat, ↓reduceIte]) o2.bt (by omega) (fun b hb => ⟨rfl, (fr1 b hb).2⟩) (fun b o h => by cases h) ?_
        intro r7 H7 o7 f7 s7 a7
        simp -implicitDefEqProofs only [go_sem, Nat.reduceEqDiff, Nat.reduceLT, Nat.reduceAdd, Nat.reduceMul, Int.reduceEq, Int.reduceLT, Int.reduceLE, Int.reduceNe, Int.reduceBEq, Int.reduceToNat, ↓reduceIte]
        have o6 : Own H7 p6 (encR (A ++ B)) := by
          refine Row.keep own6 fun b' o' hb' ho' => ?_
          refine (App.keep a7 ho' fun q => ?_).1
          have hn := (fr6 b' hb').1
          obtain ⟨o'', ho''⟩ := Row.own ((own1.sub s2).sub s5) q
          rw [hn] at ho''; cases ho''
        refine (same_ok o6.bt o7.bt).mono ?_
        rintro r H8 ⟨rfl, rfl⟩
        rw [encR_app]
        have : (encR A ++ encR B == encR A ++ encR B) = true := by simp
        simp -implicitDefEqProofs only [go_sem, Nat.reduceEqDiff, Nat.reduceLT, Nat.reduceAdd, Nat.reduceMul, Int.reduceEq, Int.reduceLT, Int.reduceLE, Int.reduceNe, Int.reduceBEq, Int.reduceToNat, ↓reduceIte, this]
      · rw [q1, q2] at q6; cases q6
    · cases e
      rcases h6 with ⟨q6, _⟩ | ⟨q6, rfl⟩
      · rw [q1, q2] at q6; cases q6
      · simp -implicitDefEqProofs only [go_sem, Nat.reduceEqDiff, Nat.reduceLT, Nat.reduceAdd, Nat.reduceMul, Int.reduceEq, Int.reduceLT, Int.reduceLE, Int.reduceNe, Int.reduceBEq, Int.reduceToNat, ↓reduceIte]
  · cases e
    rcases h6 with ⟨q6, _⟩ | ⟨q6, rfl⟩
    · rw [q1] at q6; cases q6
    · simp -implicitDefEqProofs only [go_sem, Nat.reduceEqDiff, Nat.reduceLT, Nat.reduceAdd, Nat.reduceMul, Int.reduceEq, Int.reduceLT, Int.reduceLE, Int.reduceNe, Int.reduceBEq, Int.reduceToNat, ↓reduceIte]
end
end Go.Proofs.YtoolnkemkhianaaDoor
