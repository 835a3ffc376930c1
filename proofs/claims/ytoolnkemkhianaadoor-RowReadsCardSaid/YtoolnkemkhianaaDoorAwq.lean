/-
  A plan's check by a table of what each operation hangs on.
  No condition: every theorem here is general.
-/
import Derived.Test.YtoolnkemkhianaaDoorAwg
set_option linter.unusedSimpArgs false
set_option linter.unusedVariables false
namespace Go.Proofs.YtoolnkemkhianaaDoorW
open Go Go.RowKit

def maskL (tab : List Nat) : List Edge → Nat
  | [] => 0
  | e :: l => match Region.binds .any e with
    | true => 2 ^ e.on ||| tab.getD e.on 0 ||| maskL tab l
    | false => maskL tab l
def rt (tab : List Nat) (x y : Nat) : Bool := Nat.testBit (tab.getD x 0) y
def ltL (i : Nat) : List Edge → Bool
  | [] => true
  | e :: l => (!Region.binds .any e || Nat.blt e.on i) && ltL i l
def okTabL (tab : List Nat) : Nat → List Oper → List Nat → Bool
  | _, [], [] => true
  | i, o :: os, m :: ms => Nat.beq m (maskL tab o.after.toList) && ltL i o.after.toList && okTabL tab (i + 1) os ms
  | _, _, _ => false
def okPairG (r : Nat → Nat → Bool) (ops : Array Oper) (s t : Stp) : Bool :=
  !r s.i t.i && !sameDst (dstOf ops s.i) (dstOf ops t.i) && s.i != t.i &&
  (!(hits (dstOf ops s.i) (looks ops t.i)) || r t.i s.i) &&
  (!(hits (dstOf ops t.i) (looks ops s.i)) || r t.i s.i) &&
  (s.k == .p || s.k == .n || t.k == .a || r t.i s.i) &&
  (s.k != .n || t.k != .c || t.w.contains s.i || r t.i s.i)
def okPairsG (r : Nat → Nat → Bool) (N : Nat) (ops : Array Oper) : List Stp → Bool
  | [] => true
  | s :: l => okOne N ops s && l.all (okPairG r ops s) && okPairsG r N ops l
def okReadyG (r : Nat → Nat → Bool) (P : Program) (ops : Array Oper) (plan : List Stp) (t : Stp) : Bool :=
  t.k != .a || (match ops[t.i]? with | some o => allocTot P o.op | none => false) || plan.any fun s => (s.k == .p || s.k == .n) && s.q.contains t.i && r t.i s.i
def okQG (r : Nat → Nat → Bool) (ops : Array Oper) : List Nat → List Stp → Bool
  | _, [] => true
  | done, s :: l => (s.q.all fun j => (ops[j]?).isSome && !((s.i :: done).contains j) && (List.range ops.size).all fun y => !r j y || (s.i :: done).contains y) && okQG r ops (s.i :: done) l
def okPlanG (r : Nat → Nat → Bool) (P : Program) (N : Nat) (ops : Array Oper) (plan : List Stp) : Bool :=
  okPairsG r N ops plan && ((List.range ops.size).all fun i => plan.any fun s => s.i == i) && plan.all (okReadyG r P ops plan) && okQG r ops [] plan
def okPlanT (P : Program) (N : Nat) (ops : List Oper) (plan : List Stp) (tab : List Nat) : Bool := okTabL tab 0 ops tab && okPlanG (rt tab) P N ops.toArray plan

theorem okPairsG_eq (N : Nat) (ops : Array Oper) : ∀ l, okPairsG (reach ops) N ops l = okPairs N ops l
  | [] => rfl
  | s :: l => by
    unfold okPairsG okPairs
    rw [okPairsG_eq N ops l]
    rfl
theorem okQG_eq (ops : Array Oper) : ∀ (l : List Stp) (d : List Nat), okQG (reach ops) ops d l = okQ ops d l
  | [], _ => rfl
  | s :: l, d => by
    unfold okQG okQ
    rw [okQG_eq ops l]
theorem okPlanG_eq (P : Program) (N : Nat) (ops : Array Oper) (plan : List Stp) : okPlanG (reach ops) P N ops plan = okPlan P N ops plan := by
  unfold okPlanG okPlan
  rw [okPairsG_eq, okQG_eq]
  rfl

theorem mask_bit (tab : List Nat) (y : Nat) : ∀ (l : List Edge), (maskL tab l).testBit y = (l.any (fun e => Region.binds .any e && e.on == y) || l.any (fun e => Region.binds .any e && rt tab e.on y))
  | [] => by simp [maskL]
  | e :: l => by
    unfold maskL
    cases h : Region.binds .any e with
    | true =>
      have e1 : (e.on == y) = decide (e.on = y) := rfl
      simp only [h, Nat.testBit_or, mask_bit tab y l, Nat.testBit_two_pow, List.any_cons, Bool.true_and, rt, e1]
      generalize decide (e.on = y) = a
      generalize (tab.getD e.on 0).testBit y = b
      generalize l.any (fun e => Region.binds .any e && e.on == y) = c
      generalize l.any (fun e => Region.binds .any e && (tab.getD e.on 0).testBit y) = d
      cases a <;> cases b <;> cases c <;> cases d <;> rfl
    | false => simp [h, mask_bit tab y l]
theorem ltL_spec (i : Nat) : ∀ (l : List Edge), ltL i l = true → ∀ e ∈ l, Region.binds .any e = true → e.on < i
  | [], _, e, he, _ => by cases he
  | a :: l, h, e, he, hb => by
    simp only [ltL, Bool.and_eq_true, Bool.or_eq_true, Bool.not_eq_true', Nat.blt_eq] at h
    rcases List.mem_cons.1 he with rfl | he
    · rcases h.1 with h1 | h1
      · rw [hb] at h1; cases h1
      · exact h1
    · exact ltL_spec i l h.2 e he hb
theorem okTabL_spec (tab : List Nat) : ∀ (os : List Oper) (ms : List Nat) (i : Nat), okTabL tab i os ms = true → os.length = ms.length ∧ ∀ k o, os[k]? = some o → ms[k]? = some (maskL tab o.after.toList) ∧ ∀ e ∈ o.after, Region.binds .any e = true → e.on < i + k
  | [], [], _, _ => ⟨rfl, fun k o h => by simp at h⟩
  | [], _ :: _, _, h => by cases h
  | _ :: _, [], _, h => by cases h
  | o :: os, m :: ms, i, h => by
    simp only [okTabL, Bool.and_eq_true] at h
    obtain ⟨⟨h1, h2⟩, h3⟩ := h
    obtain ⟨g1, g2⟩ := okTabL_spec tab os ms (i + 1) h3
    refine ⟨by simp [g1], fun k o' hk => ?_⟩
    cases k with
    | zero =>
      simp only [List.getElem?_cons_zero, Option.some.injEq] at hk
      subst hk
      exact ⟨by rw [List.getElem?_cons_zero, Nat.eq_of_beq_eq_true h1], fun e he hb => ltL_spec i _ h2 e (by simpa using he) hb⟩
    | succ k =>
      simp only [List.getElem?_cons_succ] at hk
      obtain ⟨q1, q2⟩ := g2 k o' hk
      exact ⟨by rw [List.getElem?_cons_succ]; exact q1, fun e he hb => by have := q2 e he hb; omega⟩
theorem any_tl (a : Array Edge) (p : Edge → Bool) : a.any p = a.toList.any p := by rw [Array.any_toList]
theorem rt_reachB (ops : List Oper) (tab : List Nat) (h : okTabL tab 0 ops tab = true) : ∀ (f x y : Nat), x < f → reachB ops.toArray f x y = rt tab x y
  | 0, _, _, h => by omega
  | f + 1, x, y, hx => by
    obtain ⟨h1, h2⟩ := okTabL_spec tab ops tab 0 h
    unfold reachB
    cases ho : ops[x]? with
    | none =>
      have : tab[x]? = none := by
        rw [List.getElem?_eq_none_iff] at ho ⊢; omega
      have ho' : ops.toArray[x]? = none := by simpa using ho
      rw [ho']
      simp [rt, List.getD_eq_getElem?_getD, this]
    | some o =>
      obtain ⟨q1, q2⟩ := h2 x o ho
      have ho' : ops.toArray[x]? = some o := by simpa using ho
      rw [ho']
      have e1 : rt tab x y = (maskL tab o.after.toList).testBit y := by
        simp [rt, List.getD_eq_getElem?_getD, q1]
      rw [e1, mask_bit]
      simp only [any_tl]
      congr 1
      apply Bool.eq_iff_iff.2
      simp only [List.any_eq_true, Bool.and_eq_true]
      constructor
      · rintro ⟨e, he, hb, hr⟩
        refine ⟨e, he, hb, ?_⟩
        have := q2 e (by simpa using he) hb
        rw [rt_reachB ops tab h f e.on y (by omega)] at hr; exact hr
      · rintro ⟨e, he, hb, hr⟩
        refine ⟨e, he, hb, ?_⟩
        have := q2 e (by simpa using he) hb
        rw [rt_reachB ops tab h f e.on y (by omega)]; exact hr
theorem rt_reach (ops : List Oper) (tab : List Nat) (h : okTabL tab 0 ops tab = true) : rt tab = reach ops.toArray := by
  funext x y
  unfold reach
  obtain ⟨h1, h2⟩ := okTabL_spec tab ops tab 0 h
  by_cases c : x < ops.toArray.size
  · rw [rt_reachB ops tab h _ x y c]
  · have ho : ops.toArray[x]? = none := by rw [Array.getElem?_eq_none_iff]; omega
    have : tab[x]? = none := by
      rw [List.getElem?_eq_none_iff]; simp at c; omega
    have e1 : rt tab x y = false := by simp [rt, List.getD_eq_getElem?_getD, this]
    rw [e1]
    cases ops.toArray.size with
    | zero => rfl
    | succ n => unfold reachB; rw [ho]
theorem okPlanT_ok {P : Program} {N : Nat} {ops : List Oper} {plan : List Stp} {tab : List Nat} (h : okPlanT P N ops plan tab = true) : okPlan P N ops.toArray plan = true := by
  unfold okPlanT at h
  rw [Bool.and_eq_true] at h
  rw [← okPlanG_eq, ← rt_reach ops tab h.1]
  exact h.2
theorem vdraw_t {P : Program} {w0 : World} {N : Nat} {ops : List Oper} {KF : Fr → Hp → Prop} {F : Fr} {H : Hp} (plan : List Stp) (tab : List Nat) (hm : P.follows .mixedOrders = true)
    (hok : okPlanT P N ops plan tab = true) (h : VCd P w0 N ops.toArray KF plan [] F H) : VDraw P w0 N ops.toArray KF F H := vdraw_of plan hm (okPlanT_ok hok) h
end Go.Proofs.YtoolnkemkhianaaDoorW
