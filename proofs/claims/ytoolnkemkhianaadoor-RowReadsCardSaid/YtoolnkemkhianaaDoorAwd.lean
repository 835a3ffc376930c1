/-
  A region whose order is open: one plan of its operations serves for every order that the edges allow.
  No condition: every theorem here is general.
-/
import Derived.Test.YtoolnkemkhianaaDoorAwe
set_option linter.unusedSimpArgs false
set_option linter.unusedVariables false
namespace Go.Proofs.YtoolnkemkhianaaDoorW
open Go Go.RowKit

/-! ### The frame property -/
theorem ld_join {w0 : World} {H R : Hp} (hR : ∀ b o, R b = some o → w0.heap.size ≤ b) {a : Addr} {v : Value} (h : ld w0 H a = some v) : ld w0 (H.join R) a = some v := by
  unfold ld at h ⊢
  cases hb : H a.block with
  | some o => rw [hb] at h; rw [Hp.join_left hb]; exact h
  | none =>
    rw [hb] at h
    have hlt := World.block_lt_of_cell? w0 a h
    rw [Hp.join_right hb]
    cases hr : R a.block with
    | none => exact h
    | some o => have := hR _ _ hr; omega

/-- The post, with a frame beside it. -/
def FrK {α : Type} (R : Hp) (Q : α → Hp → Prop) (a : α) (H'' : Hp) : Prop := ∃ H', H'' = H'.join R ∧ H'.disj R ∧ Q a H'

theorem set_join {H R : Hp} (b : Nat) (o : Obj) : (H.join R).set b o = (H.set b o).join R := (join_set b o).symm

theorem awp_frame (P : Program) (w0 : World) {R : Hp} (hR : ∀ b o, R b = some o → w0.heap.size ≤ b) {α : Type} (s : Sem α) : ∀ (Q : α → Hp → Prop) (H : Hp),
    awp P w0 s Q H → H.disj R → awp P w0 s (FrK R Q) (H.join R) := by
  induction s with
  | pure a => intro Q H h hd; exact ⟨H, rfl, hd, h⟩
  | load m a k ih =>
    intro Q H h hd
    simp only [awp] at h ⊢
    split at h
    · rename_i v hv
      rw [ld_join hR hv]
      exact ih v Q H h hd
    · exact h.elim
  | store m a v k ih =>
    intro Q H h hd
    simp only [awp] at h ⊢
    refine ⟨h.1, ?_⟩
    have h := h.2
    split at h
    · rename_i o ho
      obtain ⟨hb, hs, c, e, lo, hi, rfl, hlt, hfr⟩ := wr_some ho
      have : wr (H.join R) a = some (.cells c e (lo, hi)) := by
        rw [← ho]; unfold wr; rw [Hp.join_left hb, hb]
      rw [this]
      simp only [set_join]
      exact ih Q _ h (disj_set hd _ (disj_none hd hb))
    · exact h.elim
  | new o k ih =>
    intro Q H h hd
    simp only [awp] at h ⊢
    intro b hb hn
    have hH : H b = none := by
      cases hj : H b with
      | none => rfl
      | some o' => rw [Hp.join_left hj] at hn; cases hn
    have hRb : R b = none := by rw [Hp.join_right hH] at hn; exact hn
    rw [set_join]
    exact ih b Q _ (h b hb hH) (disj_set hd _ hRb)
  | shape r k ih =>
    intro Q H h hd
    simp only [awp] at h ⊢
    cases hb : H r with
    | none =>
      simp only [hb] at h
      have : R r = none := by
        cases hr : R r with
        | none => rfl
        | some o => have := hR _ _ hr; omega
      rw [Hp.join_right hb, this]
      exact ⟨h.1, ih _ Q H h.2 hd⟩
    | some o =>
      simp only [hb] at h
      rw [Hp.join_left hb]
      cases o <;> exact ih _ Q H h hd
  | freeze a n k ih =>
    intro Q H h hd
    simp only [awp] at h ⊢
    cases hb : H a.block with
    | none =>
      simp only [hb] at h
      obtain ⟨rfl, h⟩ := h
      cases hr : (H.join R) a.block with
      | none => exact ⟨rfl, ih Q H h hd⟩
      | some o => simp only [if_true]; exact ih Q H h hd
    | some o =>
      simp only [hb] at h
      rw [Hp.join_left hb]
      simp only []
      by_cases hn : n = 0
      · rw [if_pos hn] at h ⊢; exact ih Q H h hd
      · rw [if_neg hn] at h ⊢
        rw [set_join]
        exact ih Q _ h (disj_set hd _ (disj_none hd hb))
  | frozen a k ih =>
    intro Q H h hd
    simp only [awp] at h ⊢
    cases hb : H a.block with
    | none =>
      simp only [hb] at h
      have : R a.block = none := by
        cases hr : R a.block with
        | none => rfl
        | some o => have := hR _ _ hr; omega
      rw [Hp.join_right hb, this]
      exact ⟨h.1, ih _ Q H h.2 hd⟩
    | some o =>
      simp only [hb] at h
      rw [Hp.join_left hb]
      cases o <;> exact ih _ Q H h hd
  | getObj r k ih =>
    intro Q H h hd
    simp only [awp] at h ⊢
    cases hb : H r with
    | none => simp only [hb] at h
    | some o =>
      simp only [hb] at h
      rw [Hp.join_left hb]
      cases o <;> first | exact h.elim | exact ih _ Q H h hd
  | setObj r o' k ih =>
    intro Q H h hd
    simp only [awp] at h ⊢
    cases hb : H r with
    | none => simp only [hb] at h
    | some o =>
      simp only [hb] at h
      rw [Hp.join_left hb]
      cases o <;> first | exact h.elim | (simp only [set_join]; exact ih Q _ h (disj_set hd _ (disj_none hd hb)))
  | choose q k ih =>
    intro Q H h hd
    simp only [awp] at h ⊢
    by_cases hf : q.forced = true
    · rw [if_pos hf] at h ⊢; exact ih _ Q H h hd
    · rw [if_neg hf] at h ⊢; exact fun n => ih _ Q H (h n) hd
  | sys c k ih => intro Q H h hd; exact h.elim
  | program k ih => intro Q H h hd; exact ih P Q H h hd
  | mark m k ih => intro Q H h hd; exact ih Q H h hd
  | halt h => intro Q H hh hd; exact hh.elim

theorem join_assoc (A B C : Hp) : (A.join B).join C = A.join (B.join C) := by
  funext b
  unfold Hp.join
  cases A b <;> rfl
theorem disj_join {A B C : Hp} (h : A.disj B) (h' : (A.join B).disj C) : A.disj (B.join C) ∧ B.disj C := by
  refine ⟨fun b => ?_, fun b => ?_⟩
  · rcases h b with ha | hb
    · exact .inl ha
    · rcases h' b with hab | hc
      · cases ha : A b with
        | none => exact .inl rfl
        | some o => rw [Hp.join_left ha] at hab; cases hab
      · right; rw [Hp.join_right hb]; exact hc
  · rcases h' b with hab | hc
    · cases ha : A b with
      | none => rw [Hp.join_right ha] at hab; exact .inl hab
      | some o => rw [Hp.join_left ha] at hab; cases hab
    · exact .inr hc
theorem join_disj {A B C : Hp} (h : A.disj (B.join C)) (h' : B.disj C) : A.disj B ∧ (A.join B).disj C := by
  refine ⟨fun b => ?_, fun b => ?_⟩
  · rcases h b with ha | hbc
    · exact .inl ha
    · cases hb : B b with
      | none => exact .inr rfl
      | some o => rw [Hp.join_left hb] at hbc; cases hbc
  · rcases h' b with hb | hc
    · rcases h b with ha | hbc
      · exact .inl (by rw [Hp.join_right ha]; exact hb)
      · rw [Hp.join_right hb] at hbc; exact .inr hbc
    · exact .inr hc

theorem ACalls.frame {P : Program} {w0 : World} {f : FuncId} {args : Array Value} {H R : Hp} {Q : Value → Hp → Prop} (h : ACalls P w0 f args H Q) (hd : H.disj R) :
    ACalls P w0 f args (H.join R) (FrK R Q) := by
  intro R' w hd' hr
  obtain ⟨h1, h2⟩ := disj_join hd hd'
  rw [join_assoc] at hr
  refine (h (R.join R') w h1 hr).mono ?_
  rintro e w' ⟨r, H', rfl, hd2, hr2, hq⟩
  obtain ⟨h3, h4⟩ := join_disj hd2 h2
  exact ⟨r, H'.join R, rfl, h4, by rw [join_assoc]; exact hr2, H', rfl, h3, hq⟩

theorem AOp.frame {P : Program} {w0 : World} {F : Fr} {o : Oper} {K : Value → Hp → Prop} {H R : Hp} (hR : ∀ b o, R b = some o → w0.heap.size ≤ b) (h : AOp P w0 F o K H) (hd : H.disj R) :
    AOp P w0 F o (FrK R K) (H.join R) := by
  refine awp_mono P w0 _ (awp_frame P w0 hR _ _ _ h hd) ?_
  rintro n H'' ⟨H', rfl, hd', hk⟩
  cases n <;> first | exact hk.elim | exact ⟨H', rfl, hd', hk⟩ | exact ACalls.frame hk hd'

/-! ### Plans -/
inductive Cls where
  | p | n | a | c
  deriving DecidableEq
structure Stp where
  i : Nat
  k : Cls
  w : List Nat := []
  q : List Nat := []

def cls : Op → Cls
  | .move _ | .assign _ | .pick .. | .extract .. | .makeFunc .. | .fieldAddr .. | .indexAddr .. | .nilCheck _ | .binOp .. | .unOp .. | .build .. => .p
  | .load .. | .lookup .. | .convert .. | .slice .. | .index .. | .call { callee := .builtin .len, .. } | .call { callee := .builtin .min, .. } => .n
  | .alloc _ | .box .. | .buildSlice .. | .makeMap _ none => .a
  | _ => .c

/-- What a making operation makes. -/
def allocOf (P : Program) (F : Fr) : Op → Option (Obj × (Nat → Value))
  | .alloc e => (zrOf P e).map fun z => (.cells z.cells e, fun b => .pointer (some ⟨b, 0, none⟩))
  | .box e x => some (.cells (evF F x).cells e, fun b => .pointer (some ⟨b, 0, none⟩))
  | .buildSlice t len parts => match P.underlying t with
    | some (.slice e) => (bsCells P e len (parts.map fun p => (p.1, evF F p.2))).map fun cs => (.cells cs e, fun b => .slice (some ⟨b, 0, none⟩) len len)
    | _ => none
  | .makeMap _ none => some (.map #[] 0, fun b => .map (some b))
  | _ => none

def AlS (P : Program) (F : Fr) (len : Nat) (parts : Array (Nat × Operand)) : Option TypeDesc → Option (Obj × (Nat → Value))
  | some (.slice e) => (bsCells P e len (parts.map fun p => (p.1, evF F p.2))).map fun cs => (.cells cs e, fun b => .slice (some ⟨b, 0, none⟩) len len)
  | _ => none
theorem allocOf_sound {P : Program} {w0 : World} {F : Fr} {o : Oper} {obj : Obj} {mk : Nat → Value} (h : allocOf P F o.op = some (obj, mk)) (K : Value → Hp → Prop) (H : Hp) :
    AOp P w0 F o K H = NewK w0 obj mk K H := by
  obtain ⟨dst, op, ty, pos, after, g⟩ := o
  simp only [] at h
  unfold allocOf at h
  split at h
  · rename_i e
    rw [aop_alloc]
    cases hz : zrOf P e with
    | none => rw [hz] at h; cases h
    | some z => rw [hz] at h; cases h; rfl
  · cases h; rfl
  · rename_i t len parts
    rw [aop_buildSlice]
    split at h
    · rename_i e hu
      rw [hu]
      cases hc : bsCells P e len (parts.map fun p => (p.1, evF F p.2)) with
      | none => rw [hc] at h; cases h
      | some cs => rw [hc] at h; cases h; simp only [BsK, hc]
    · cases h
  · cases h; rfl
  · cases h

def EqK (v : Value) (H : Hp) (v' : Value) (H' : Hp) : Prop := v' = v ∧ H' = H
/-- The operation reads, and gives v. -/
def QAt (P : Program) (w0 : World) (F : Fr) (o : Oper) (H : Hp) (v : Value) : Prop := AOp P w0 F o (EqK v H) H

abbrev Wt := List (Nat × (Hp → Prop))
def Wget : Wt → Nat → Hp → Prop
  | [], _, _ => True
  | (y, p) :: W, x, H => if y = x then p H else Wget W x H
def WK (W : Wt) (H : Hp) : List Nat → Prop
  | [] => True
  | x :: l => Wget W x H ∧ WK W H l

def ExV (A R : Value → Prop) : Prop := ∃ v, A v ∧ R v
def PurK (P : Program) (w0 : World) (F : Fr) (o : Oper) (v : Value) : Prop := ∀ H, QAt P w0 F o H v
def AllK (P : Program) (w0 : World) (K : Value → Hp → Prop) (H : Hp) : Option (Obj × (Nat → Value)) → Prop
  | some (obj, mk) => NewK w0 obj mk K H
  | none => False

abbrev VT := Wt → Fr → Hp → Prop
/-- The making operations of l will make. -/
def PrO (P : Program) (F : Fr) : Option Oper → Bool → Prop
  | some o, true => (allocOf P F o.op).isSome = true
  | _, _ => True
def PrK (P : Program) (ops : Array Oper) (F : Fr) : List Nat → Prop
  | [] => True
  | j :: l => PrO P F ops[j]? (((ops[j]?).map fun o => Region.wanted o (yieldF ops F)).getD false) ∧ PrK P ops F l
def PrN (P : Program) (ops : Array Oper) (R : VT) (q : List Nat) (W : Wt) (F : Fr) (H : Hp) : Prop := PrK P ops F q ∧ R W F H
def NxP (R : VT) (W : Wt) (F : Fr) (H : Hp) (d : Option Tmp) (v : Value) : Prop := R W (putF F d v) H
def NxN (P : Program) (w0 : World) (R : VT) (W : Wt) (F : Fr) (H : Hp) (i : Nat) (o : Oper) (v : Value) : Prop := R ((i, fun H' => QAt P w0 F o H' v) :: W) (putF F o.dst v) H
def NxA (R : VT) (W : Wt) (F : Fr) (d : Option Tmp) (v : Value) (H' : Hp) : Prop := R W (putF F d v) H'
def NxC (R : VT) (W : Wt) (F : Fr) (d : Option Tmp) (w : List Nat) (v : Value) (H' : Hp) : Prop := WK W H' w ∧ R W (putF F d v) H'

def VCls (P : Program) (w0 : World) (R : VT) (W : Wt) (F : Fr) (H : Hp) (s : Stp) (o : Oper) : Cls → Prop
  | .p => ExV (PurK P w0 F o) (NxP R W F H o.dst)
  | .n => ExV (QAt P w0 F o H) (NxN P w0 R W F H s.i o)
  | .a => AllK P w0 (NxA R W F o.dst) H (allocOf P F o.op)
  | .c => AOp P w0 F o (NxC R W F o.dst s.w) H
def VWnt (P : Program) (w0 : World) (R : VT) (W : Wt) (F : Fr) (H : Hp) (s : Stp) (o : Oper) : Bool → Prop
  | true => VCls P w0 R W F H s o s.k
  | false => R W (putF F o.dst undef) H
def VOne (P : Program) (w0 : World) (N : Nat) (ops : Array Oper) (R : VT) (W : Wt) (F : Fr) (H : Hp) (s : Stp) : Option Oper → Prop
  | some o => VWnt P w0 (PrN P ops R s.q) W F H s o (Region.wanted o (yieldF ops F))
  | none => False
def VCd (P : Program) (w0 : World) (N : Nat) (ops : Array Oper) (K : Fr → Hp → Prop) : List Stp → VT
  | [], _, F, H => K F H
  | s :: l, W, F, H => VOne P w0 N ops (VCd P w0 N ops K l) W F H s ops[s.i]?

/-! ### What a plan must meet -/
def reachB (ops : Array Oper) : Nat → Nat → Nat → Bool
  | 0, _, _ => false
  | f + 1, x, y => match ops[x]? with
    | none => false
    | some o => o.after.any (fun e => Region.binds .any e && e.on == y) || o.after.any (fun e => Region.binds .any e && reachB ops f e.on y)
def reach (ops : Array Oper) (x y : Nat) : Bool := reachB ops ops.size x y

def looks (ops : Array Oper) (x : Nat) : List Tmp := match ops[x]? with | some o => o.looksAt ops | none => []
def dstOf (ops : Array Oper) (x : Nat) : Option Tmp := (ops[x]?).bind (·.dst)
def hits (d : Option Tmp) (l : List Tmp) : Bool := match d with | some t => l.contains t | none => false
def sameDst : Option Tmp → Option Tmp → Bool
  | some d, some e => d == e
  | _, _ => false

/-- s stands ahead of t in the plan. -/
def okPair (ops : Array Oper) (s t : Stp) : Bool :=
  !reach ops s.i t.i && !sameDst (dstOf ops s.i) (dstOf ops t.i) && s.i != t.i &&
  (!(hits (dstOf ops s.i) (looks ops t.i)) || reach ops t.i s.i) &&
  (!(hits (dstOf ops t.i) (looks ops s.i)) || reach ops t.i s.i) &&
  (s.k == .p || s.k == .n || t.k == .a || reach ops t.i s.i) &&
  (s.k != .n || t.k != .c || t.w.contains s.i || reach ops t.i s.i)
def isC : Operand → Bool
  | .const _ => true
  | _ => false
theorem isC_same {x : Operand} (h : isC x = true) (F F' : Fr) : evF F x = evF F' x := by
  cases x <;> first | rfl | cases h
def allocTot (P : Program) : Op → Bool
  | .buildSlice t len parts => parts.toList.all (fun p => isC p.2) && (allocOf P (fun _ => undef) (.buildSlice t len parts)).isSome
  | .alloc e => (zrOf P e).isSome
  | .box .. => true
  | .makeMap _ none => true
  | _ => false
def okOne (N : Nat) (ops : Array Oper) (s : Stp) : Bool :=
  match ops[s.i]? with
  | some o => (s.k == cls o.op || s.k == .c) && !(hits o.dst (o.looksAt ops)) && o.after.all (fun e => !Region.binds .any e || decide (e.on < s.i)) && (match o.op with | .select .. => false | _ => true) &&
    okDst N o.dst
  | none => false
def okPairs (N : Nat) (ops : Array Oper) : List Stp → Bool
  | [] => true
  | s :: l => okOne N ops s && l.all (okPair ops s) && okPairs N ops l
/-- The making operation j is made ready by a step. -/
def okReady (P : Program) (ops : Array Oper) (plan : List Stp) (t : Stp) : Bool :=
  t.k != .a || (match ops[t.i]? with | some o => allocTot P o.op | none => false) || plan.any fun s => (s.k == .p || s.k == .n) && s.q.contains t.i && reach ops t.i s.i
/-- Behind the steps of pre all that j hangs on is done. -/
def okQ (ops : Array Oper) : List Nat → List Stp → Bool
  | _, [] => true
  | done, s :: l => (s.q.all fun j => (ops[j]?).isSome && !((s.i :: done).contains j) && (List.range ops.size).all fun y => !reach ops j y || (s.i :: done).contains y) && okQ ops (s.i :: done) l
def okPlan (P : Program) (N : Nat) (ops : Array Oper) (plan : List Stp) : Bool :=
  okPairs N ops plan && ((List.range ops.size).all fun i => plan.any fun s => s.i == i) && plan.all (okReady P ops plan) && okQ ops [] plan

section
variable {P : Program} {w0 : World} {N : Nat} {ops : Array Oper} {plan : List Stp}

structure PlanOk (P : Program) (N : Nat) (ops : Array Oper) (plan : List Stp) : Prop where
  one : ∀ s ∈ plan, okOne N ops s = true
  pair : plan.Pairwise fun s t => okPair ops s t = true
  all : ∀ i, i < ops.size → ∃ s ∈ plan, s.i = i
  ready : ∀ s ∈ plan, okReady P ops plan s = true
  q : okQ ops [] plan = true

theorem okPairs_spec : ∀ (l : List Stp), okPairs N ops l = true → (∀ s ∈ l, okOne N ops s = true) ∧ l.Pairwise fun s t => okPair ops s t = true
  | [], _ => ⟨(fun _ h => by cases h), List.Pairwise.nil⟩
  | s :: l, h => by
    simp only [okPairs, Bool.and_eq_true, List.all_eq_true] at h
    obtain ⟨h1, h2⟩ := okPairs_spec l h.2
    refine ⟨fun t ht => ?_, List.pairwise_cons.2 ⟨h.1.2, h2⟩⟩
    rcases List.mem_cons.1 ht with e | ht
    · rw [e]; exact h.1.1
    · exact h1 t ht

theorem PlanOk.of (h : okPlan P N ops plan = true) : PlanOk P N ops plan := by
  simp only [okPlan, Bool.and_eq_true, List.all_eq_true, List.mem_range, List.any_eq_true, beq_iff_eq] at h
  obtain ⟨⟨⟨h1, h2⟩, h3⟩, h4⟩ := h
  obtain ⟨ha, hb⟩ := okPairs_spec _ h1
  exact ⟨ha, hb, fun i hi => h2 i hi, h3, h4⟩

theorem okOne_spec {s : Stp} (h : okOne N ops s = true) : ∃ o, ops[s.i]? = some o ∧ (s.k = cls o.op ∨ s.k = .c) ∧ hits o.dst (o.looksAt ops) = false ∧
    (∀ e ∈ o.after, Region.binds .any e = true → e.on < s.i) ∧ (∀ cs b, o.op ≠ .select cs b) ∧ okDst N o.dst = true := by
  unfold okOne at h
  split at h
  · rename_i o ho
    simp only [Bool.and_eq_true, beq_iff_eq, Bool.not_eq_true', Array.all_eq_true_iff_forall_mem, Bool.or_eq_true, decide_eq_true_eq] at h
    obtain ⟨⟨⟨⟨h1, h2⟩, h3⟩, h4⟩, h5⟩ := h
    refine ⟨o, ho, h1, h2, fun e he hb => (h3 e he).resolve_left (by simp [hb]), fun cs b e => ?_, h5⟩
    rw [e] at h4; cases h4
  · cases h

theorem reachB_lt (hlt : ∀ i o e, ops[i]? = some o → e ∈ o.after → Region.binds .any e = true → e.on < i) : ∀ (f x y : Nat), reachB ops f x y = true → y < x
  | 0, _, _, h => by cases h
  | f + 1, x, y, h => by
    unfold reachB at h
    split at h
    · cases h
    · rename_i o ho
      rw [Bool.or_eq_true] at h
      rcases h with h | h
      · obtain ⟨e, he, h1⟩ := Array.any_eq_true'.1 h
        simp only [Bool.and_eq_true, beq_iff_eq] at h1
        have := hlt x o e ho he h1.1
        omega
      · obtain ⟨e, he, h1⟩ := Array.any_eq_true'.1 h
        simp only [Bool.and_eq_true] at h1
        have := hlt x o e ho he h1.1
        have := reachB_lt hlt f e.on y h1.2
        omega

theorem reachB_closed {S : Nat → Prop} (hc : ∀ i o e, S i → ops[i]? = some o → e ∈ o.after → Region.binds .any e = true → S e.on) :
    ∀ (f x y : Nat), (∀ o e, ops[x]? = some o → e ∈ o.after → Region.binds .any e = true → S e.on) → reachB ops f x y = true → S y
  | 0, _, _, _, h => by cases h
  | f + 1, x, y, hx, h => by
    unfold reachB at h
    split at h
    · cases h
    · rename_i o ho
      rw [Bool.or_eq_true] at h
      rcases h with h | h
      · obtain ⟨e, he, h1⟩ := Array.any_eq_true'.1 h
        simp only [Bool.and_eq_true, beq_iff_eq] at h1
        rw [← h1.2]; exact hx o e ho he h1.1
      · obtain ⟨e, he, h1⟩ := Array.any_eq_true'.1 h
        simp only [Bool.and_eq_true] at h1
        exact reachB_closed hc f e.on y (fun o' e' ho' he' hb' => hc e.on o' e' (hx o e ho he h1.1) ho' he' hb') h1.2

/-- Frame F is F0, the operations of S having given pv. -/
structure Good (ops : Array Oper) (F0 F : Fr) (S : Nat → Prop) (pv : Nat → Value) : Prop where
  hit : ∀ y d, S y → dstOf ops y = some d → F d = pv y
  miss : ∀ t, (∀ y, S y → dstOf ops y ≠ some t) → F t = F0 t
structure Fit (ops : Array Oper) (S : Nat → Prop) (x : Nat) : Prop where
  pre : ∀ y, reach ops x y = true → S y
  post : ∀ y, reach ops y x = true → ¬ S y

theorem pair_or (hp : plan.Pairwise fun s t => okPair ops s t = true) : ∀ s ∈ plan, ∀ t ∈ plan, s.i ≠ t.i → okPair ops s t = true ∨ okPair ops t s = true := by
  induction plan with
  | nil => intro s hs; cases hs
  | cons a l ih =>
    rw [List.pairwise_cons] at hp
    intro s hs t ht hne
    rcases List.mem_cons.1 hs with es | hs <;> rcases List.mem_cons.1 ht with et | ht
    · exact absurd (by rw [es, et]) hne
    · rw [es]; exact .inl (hp.1 t ht)
    · rw [et]; exact .inr (hp.1 s hs)
    · exact ih hp.2 s hs t ht hne

theorem same_step (hp : plan.Pairwise fun s t => okPair ops s t = true) : ∀ s ∈ plan, ∀ t ∈ plan, s.i = t.i → s = t := by
  induction plan with
  | nil => intro s hs; cases hs
  | cons a l ih =>
    rw [List.pairwise_cons] at hp
    have hne : ∀ t ∈ l, a.i ≠ t.i := by
      intro t ht e
      have := hp.1 t ht
      simp [okPair, e] at this
    intro s hs t ht he
    rcases List.mem_cons.1 hs with es | hs <;> rcases List.mem_cons.1 ht with et | ht
    · rw [es, et]
    · rw [es] at he; exact absurd he (hne t ht)
    · rw [et] at he; exact absurd he.symm (hne s hs)
    · exact ih hp.2 s hs t ht he
theorem dstOf_lt {y : Nat} {d : Tmp} (h : dstOf ops y = some d) : y < ops.size := by
  unfold dstOf at h
  cases ho : ops[y]? with
  | none => rw [ho] at h; cases h
  | some o => exact (Array.getElem?_eq_some_iff.1 ho).1

theorem okPair_spec {s t : Stp} (h : okPair ops s t = true) : reach ops s.i t.i = false ∧ sameDst (dstOf ops s.i) (dstOf ops t.i) = false ∧ s.i ≠ t.i ∧
    (hits (dstOf ops s.i) (looks ops t.i) = true → reach ops t.i s.i = true) ∧ (hits (dstOf ops t.i) (looks ops s.i) = true → reach ops t.i s.i = true) ∧
    (s.k = .p ∨ s.k = .n ∨ t.k = .a ∨ reach ops t.i s.i = true) ∧ (s.k = .n → t.k = .c → s.i ∈ t.w ∨ reach ops t.i s.i = true) := by
  simp only [okPair, Bool.and_eq_true, Bool.not_eq_true', bne_iff_ne, ne_eq, Bool.or_eq_true, beq_iff_eq, List.contains_eq_mem, decide_eq_true_eq] at h
  obtain ⟨⟨⟨⟨⟨⟨h1, h2⟩, h3⟩, h4⟩, h5⟩, h6⟩, h7⟩ := h
  refine ⟨h1, h2, h3, fun hh => ?_, fun hh => ?_, ?_, fun ha hb => ?_⟩
  · rcases h4 with h4 | h4
    · rw [hh] at h4; cases h4
    · exact h4
  · rcases h5 with h5 | h5
    · rw [hh] at h5; cases h5
    · exact h5
  · rcases h6 with ((h6 | h6) | h6) | h6
    · exact .inl h6
    · exact .inr (.inl h6)
    · exact .inr (.inr (.inl h6))
    · exact .inr (.inr (.inr h6))
  · rcases h7 with ((h7 | h7) | h7) | h7
    · exact absurd ha h7
    · exact absurd hb h7
    · exact .inl h7
    · exact .inr h7

theorem PlanOk.uniq (hp : PlanOk P N ops plan) {x y : Nat} {d : Tmp} (hx : dstOf ops x = some d) (hy : dstOf ops y = some d) : x = y := by
  obtain ⟨s, hs, rfl⟩ := hp.all x (dstOf_lt hx)
  obtain ⟨t, ht, rfl⟩ := hp.all y (dstOf_lt hy)
  by_cases e : s.i = t.i
  · exact e
  · rcases pair_or hp.pair s hs t ht e with h | h
    · have := (okPair_spec h).2.1; rw [hx, hy] at this; simp [sameDst] at this
    · have := (okPair_spec h).2.1; rw [hx, hy] at this; simp [sameDst] at this

theorem PlanOk.conflict (hp : PlanOk P N ops plan) {x y : Nat} (hx : x < ops.size) {t : Tmp} (hy : dstOf ops y = some t) (ht : t ∈ looks ops x) : reach ops x y = true ∨ reach ops y x = true := by
  obtain ⟨s, hs, rfl⟩ := hp.all x hx
  obtain ⟨u, hu, rfl⟩ := hp.all y (dstOf_lt hy)
  have hh : hits (dstOf ops u.i) (looks ops s.i) = true := by rw [hy]; simpa [hits] using ht
  by_cases e : s.i = u.i
  · obtain ⟨o, ho, _, h2, _⟩ := okOne_spec (hp.one s hs)
    rw [← e] at hh
    have : dstOf ops s.i = o.dst := by simp [dstOf, ho]
    rw [this] at hh
    have : looks ops s.i = o.looksAt ops := by simp [looks, ho]
    rw [this, h2] at hh
    cases hh
  · rcases pair_or hp.pair s hs u hu e with h | h
    · exact .inr ((okPair_spec h).2.2.2.2.1 hh)
    · exact .inl ((okPair_spec h).2.2.2.1 hh)

theorem agree (hp : PlanOk P N ops plan) {F0 F1 F2 : Fr} {S1 S2 : Nat → Prop} {pv : Nat → Value} {x : Nat} (hx : x < ops.size) (g1 : Good ops F0 F1 S1 pv) (g2 : Good ops F0 F2 S2 pv)
    (f1 : Fit ops S1 x) (f2 : Fit ops S2 x) (t : Tmp) (ht : t ∈ looks ops x) : F1 t = F2 t := by
  by_cases h : ∃ y, dstOf ops y = some t
  · obtain ⟨y, hy⟩ := h
    rcases hp.conflict hx hy ht with hr | hr
    · rw [g1.hit y t (f1.pre y hr) hy, g2.hit y t (f2.pre y hr) hy]
    · rw [g1.miss t (fun z hz hd => f1.post y hr (by rw [hp.uniq hy hd]; exact hz)), g2.miss t (fun z hz hd => f2.post y hr (by rw [hp.uniq hy hd]; exact hz))]
  · rw [g1.miss t (fun z _ hd => h ⟨z, hd⟩), g2.miss t (fun z _ hd => h ⟨z, hd⟩)]

theorem exec_same {F1 F2 : Fr} {o : Oper} (hs : ∀ cs b, o.op ≠ .select cs b) (h : ∀ t ∈ o.looksAt ops, F1 t = F2 t) : execOp (evF F1) o = execOp (evF F2) o := by
  refine execOp_congr o hs fun x hx => ?_
  cases x with
  | tmp t => exact h t (List.mem_append_left _ (List.mem_filterMap.2 ⟨.tmp t, by simpa using hx, rfl⟩))
  | _ => rfl
theorem wanted_same {F1 F2 : Fr} {o : Oper} (h : ∀ t ∈ o.looksAt ops, F1 t = F2 t) : Region.wanted o (yieldF ops F1) = Region.wanted o (yieldF ops F2) := by
  unfold Region.wanted
  cases hg : o.guard with
  | none => rfl
  | some gw =>
    obtain ⟨j, b⟩ := gw
    simp only []
    have : yieldF ops F1 j = yieldF ops F2 j := by
      unfold yieldF
      cases hd : (ops[j]?).bind (·.dst) with
      | none => rfl
      | some d =>
        have := h d (List.mem_append_right _ (by simp [hg, hd]))
        simp only [YieldK, this]
    rw [this]
theorem alloc_same {F1 F2 : Fr} {o : Oper} (h : ∀ t ∈ o.looksAt ops, F1 t = F2 t) : allocOf P F1 o.op = allocOf P F2 o.op := by
  have hev : ∀ x ∈ o.op.operands, evF F1 x = evF F2 x := by
    intro x hx
    cases x with
    | tmp t => exact h t (List.mem_append_left _ (List.mem_filterMap.2 ⟨.tmp t, by simpa using hx, rfl⟩))
    | _ => rfl
  revert hev
  generalize o.op = op
  intro hev
  unfold allocOf
  split
  · rfl
  · rename_i e x
    simp only [Op.operands] at hev
    rw [hev x (by simp)]
  · rename_i t len parts
    have : (parts.map fun p => (p.1, evF F1 p.2)) = (parts.map fun p => (p.1, evF F2 p.2)) := by
      refine Array.map_congr_left fun p hm => ?_
      have := hev p.2 (by simp only [Op.operands]; simp; exact ⟨p.1, hm⟩)
      rw [this]
    rw [this]
  · rfl
  · rfl

/-! ### The simulation -/
def Pre (pre : List Stp) (y : Nat) : Prop := ∃ s ∈ pre, s.i = y

/-- Evaluated in a frame in which all is done that x hangs on, and nothing that hangs on x. -/
structure At (ops : Array Oper) (F0 : Fr) (pv : Nat → Value) (Done : Nat → Prop) (x : Nat) (F : Fr) : Prop where
  ex : ∃ S, Good ops F0 F S pv ∧ Fit ops S x ∧ ∀ y, S y → Done y

def Pend (P : Program) (w0 : World) (ops : Array Oper) (F0 : Fr) (pv : Nat → Value) (Done : Nat → Prop) (W : Wt) (Hc : Hp) (s : Stp) : Prop :=
  ∃ F, At ops F0 pv Done s.i F ∧ ∀ o, ops[s.i]? = some o →
    (Region.wanted o (yieldF ops F) = false ∧ pv s.i = undef) ∨
    (Region.wanted o (yieldF ops F) = true ∧ ((s.k = .p ∧ ∀ H, QAt P w0 F o H (pv s.i)) ∨ (s.k = .n ∧ QAt P w0 F o Hc (pv s.i) ∧ ∀ H, Wget W s.i H → QAt P w0 F o H (pv s.i))))
def Ahead (P : Program) (ops : Array Oper) (F0 : Fr) (pv : Nat → Value) (Done : Nat → Prop) (bl : Nat → Option Nat) (Re : Hp) (s : Stp) : Prop :=
  s.k = .a ∧ ∃ F, At ops F0 pv Done s.i F ∧ ∀ o, ops[s.i]? = some o →
    (Region.wanted o (yieldF ops F) = false ∧ pv s.i = undef ∧ bl s.i = none) ∨
    (Region.wanted o (yieldF ops F) = true ∧ ∃ obj mk b, allocOf P F o.op = some (obj, mk) ∧ pv s.i = mk b ∧ bl s.i = some b ∧ Re b = some obj)
def Prep (P : Program) (ops : Array Oper) (F0 : Fr) (pv : Nat → Value) (Done : Nat → Prop) (j : Nat) : Prop :=
  ∃ F, At ops F0 pv Done j F ∧ ∀ o, ops[j]? = some o → Region.wanted o (yieldF ops F) = true → (allocOf P F o.op).isSome = true

structure Sim (P : Program) (w0 : World) (N : Nat) (ops : Array Oper) (plan : List Stp) (K : Fr → Hp → Prop) (F0 : Fr)
    (pre l : List Stp) (Sa : Nat → Prop) (pv : Nat → Value) (W : Wt) (Fc Fa : Fr) (Hc Re : Hp) (bl : Nat → Option Nat) : Prop where
  split : plan = pre ++ l
  vcd : VCd P w0 N ops K l W Fc Hc
  gc : Good ops F0 Fc (Pre pre) pv
  ga : Good ops F0 Fa Sa pv
  closed : ∀ i o e, Sa i → ops[i]? = some o → e ∈ o.after → Region.binds .any e = true → Sa e.on
  inr : ∀ i, Sa i → i < ops.size
  D : ∀ s ∈ pre, ¬ Sa s.i → Pend P w0 ops F0 pv (fun y => Pre pre y ∨ Sa y) W Hc s
  E : ∀ s ∈ l, Sa s.i → Ahead P ops F0 pv (fun y => Pre pre y ∨ Sa y) bl Re s
  q : ∀ s ∈ pre, s.k = .p ∨ s.k = .n → ∀ j ∈ s.q, Prep P ops F0 pv (fun y => Pre pre y ∨ Sa y) j
  dj : Hc.disj Re
  re : ∀ b o, Re b = some o → w0.heap.size ≤ b ∧ ∃ s ∈ l, Sa s.i ∧ bl s.i = some b
  inj : ∀ s ∈ l, ∀ t ∈ l, Sa s.i → Sa t.i → ∀ b, bl s.i = some b → bl t.i = some b → s.i = t.i

theorem Good.grow {F0 F : Fr} {S : Nat → Prop} {pv : Nat → Value} (hp : PlanOk P N ops plan) (g : Good ops F0 F S pv) {x : Nat} {o : Oper} (ho : ops[x]? = some o) (hx : ¬ S x) (v : Value) :
    Good ops F0 (putF F o.dst v) (fun y => S y ∨ y = x) (fun y => if y = x then v else pv y) := by
  have hd : dstOf ops x = o.dst := by simp [dstOf, ho]
  cases hdst : o.dst with
  | none =>
    rw [hdst] at hd
    refine ⟨fun y d hy hyd => ?_, fun t ht => g.miss t fun y hy => ht y (.inl hy)⟩
    rcases hy with hy | rfl
    · have : y ≠ x := fun e => hx (e ▸ hy)
      simp only [putF, if_neg this]
      exact g.hit y d hy hyd
    · rw [hd] at hyd; cases hyd
  | some d0 =>
    rw [hdst] at hd
    refine ⟨fun y d hy hyd => ?_, fun t ht => ?_⟩
    · rcases hy with hy | rfl
      · have hne : y ≠ x := fun e => hx (e ▸ hy)
        have : d ≠ d0 := fun e => hne (hp.uniq hyd (by rw [hd, e]))
        simp only [putF, if_neg hne, upd_ne _ _ _ _ this]
        exact g.hit y d hy hyd
      · rw [hd] at hyd; cases hyd
        simp [putF, upd]
    · have : t ≠ d0 := fun e => ht x (.inr rfl) (by rw [hd, e])
      simp only [putF, upd_ne _ _ _ _ this]
      exact g.miss t fun y hy => ht y (.inl hy)

theorem Good.other {F0 F : Fr} {S : Nat → Prop} {pv : Nat → Value} (g : Good ops F0 F S pv) {x : Nat} (hx : ¬ S x) (v : Value) : Good ops F0 F S (fun y => if y = x then v else pv y) :=
  ⟨fun y d hy hyd => (by show F d = if y = x then v else pv y; rw [if_neg (fun e : y = x => hx (e ▸ hy))]; exact g.hit y d hy hyd), g.miss⟩
theorem Good.iff {F0 F : Fr} {S S' : Nat → Prop} {pv pv' : Nat → Value} (g : Good ops F0 F S pv) (h : ∀ y, S y ↔ S' y) (hv : ∀ y, S y → pv y = pv' y) : Good ops F0 F S' pv' :=
  ⟨fun y d hy hyd => by rw [← hv y ((h y).2 hy)]; exact g.hit y d ((h y).2 hy) hyd, fun t ht => g.miss t fun y hy => ht y ((h y).1 hy)⟩

theorem At.other {F0 F : Fr} {pv : Nat → Value} {Done Done' : Nat → Prop} {x : Nat} (h : At ops F0 pv Done x F) {z : Nat} (hz : ¬ Done z) (v : Value) (hd : ∀ y, Done y → Done' y) :
    At ops F0 (fun y => if y = z then v else pv y) Done' x F := by
  obtain ⟨S, g, f, hs⟩ := h.ex
  exact ⟨S, g.other (fun e => hz (hs z e)) v, f, fun y hy => hd y (hs y hy)⟩
theorem At.mono {F0 F : Fr} {pv : Nat → Value} {Done Done' : Nat → Prop} {x : Nat} (h : At ops F0 pv Done x F) (hd : ∀ y, Done y → Done' y) : At ops F0 pv Done' x F := by
  obtain ⟨S, g, f, hs⟩ := h.ex
  exact ⟨S, g, f, fun y hy => hd y (hs y hy)⟩

theorem At.same (hp : PlanOk P N ops plan) {F0 F1 F2 : Fr} {pv : Nat → Value} {D1 D2 : Nat → Prop} {x : Nat} {o : Oper} (ho : ops[x]? = some o) (h1 : At ops F0 pv D1 x F1) (h2 : At ops F0 pv D2 x F2) :
    ∀ t ∈ o.looksAt ops, F1 t = F2 t := by
  obtain ⟨S1, g1, f1, _⟩ := h1.ex
  obtain ⟨S2, g2, f2, _⟩ := h2.ex
  intro t ht
  exact agree hp (Array.getElem?_eq_some_iff.1 ho).1 g1 g2 f1 f2 t (by simpa [looks, ho] using ht)

theorem PlanOk.lt (hp : PlanOk P N ops plan) {x y : Nat} (h : reach ops x y = true) : y < x := by
  refine reachB_lt (fun i o e ho he hb => ?_) _ _ _ h
  obtain ⟨s, hs, rfl⟩ := hp.all i (Array.getElem?_eq_some_iff.1 ho).1
  obtain ⟨o', ho', _, _, h3, _⟩ := okOne_spec (hp.one s hs)
  rw [ho] at ho'; cases ho'
  exact h3 e he hb

theorem mem_before (hp : PlanOk P N ops plan) {pre l : List Stp} {s : Stp} (hsplit : plan = pre ++ s :: l) {y : Nat} (hr : reach ops s.i y = true) : Pre pre y := by
  have hlt := hp.lt hr
  have hs : s ∈ plan := by rw [hsplit]; simp
  obtain ⟨o, ho, _⟩ := okOne_spec (hp.one s hs)
  have hsz := (Array.getElem?_eq_some_iff.1 ho).1
  obtain ⟨t, ht, rfl⟩ := hp.all y (by omega)
  have hpw := hp.pair
  rw [hsplit] at ht hpw
  rw [List.pairwise_append] at hpw
  rcases List.mem_append.1 ht with ht | ht
  · exact ⟨t, ht, rfl⟩
  · rcases List.mem_cons.1 ht with rfl | ht
    · omega
    · have := (okPair_spec ((List.pairwise_cons.1 hpw.2.1).1 t ht)).1
      rw [hr] at this; cases this
theorem not_after (hp : PlanOk P N ops plan) {pre l : List Stp} {s : Stp} (hsplit : plan = pre ++ s :: l) {y : Nat} (hr : reach ops y s.i = true) : ¬ Pre pre y := by
  rintro ⟨t, ht, rfl⟩
  have hpw := hp.pair
  rw [hsplit, List.pairwise_append] at hpw
  have := (okPair_spec (hpw.2.2 t ht s (by simp))).1
  rw [hr] at this; cases this
theorem not_pre (hp : PlanOk P N ops plan) {pre l : List Stp} {s : Stp} (hsplit : plan = pre ++ s :: l) : ¬ Pre pre s.i := by
  rintro ⟨t, ht, e⟩
  have hpw := hp.pair
  rw [hsplit, List.pairwise_append] at hpw
  exact (okPair_spec (hpw.2.2 t ht s (by simp))).2.2.1 e

theorem fit_pre (hp : PlanOk P N ops plan) {pre l : List Stp} {s : Stp} (hsplit : plan = pre ++ s :: l) : Fit ops (Pre pre) s.i :=
  ⟨fun _ hr => mem_before hp hsplit hr, fun _ hr => not_after hp hsplit hr⟩
theorem fit_act {Sa : Nat → Prop} {x : Nat} (hc : ∀ i o e, Sa i → ops[i]? = some o → e ∈ o.after → Region.binds .any e = true → Sa e.on)
    (hx : ∀ o e, ops[x]? = some o → e ∈ o.after → Region.binds .any e = true → Sa e.on) (hn : ¬ Sa x) : Fit ops Sa x :=
  ⟨fun y hr => reachB_closed hc _ x y hx hr, fun y hr hy => hn (reachB_closed hc _ y x (fun o e ho he hb => hc y o e hy ho he hb) hr)⟩

theorem QAt.same {F1 F2 : Fr} {o : Oper} {H : Hp} {v : Value} (he : execOp (evF F1) o = execOp (evF F2) o) (h : QAt P w0 F1 o H v) : QAt P w0 F2 o H v := by
  unfold QAt AOp at *; rw [← he]; exact h
theorem QAt.join {F : Fr} {o : Oper} {H R : Hp} {v : Value} (h : QAt P w0 F o H v) (hd : H.disj R) (hR : ∀ b o, R b = some o → w0.heap.size ≤ b) : QAt P w0 F o (H.join R) v := by
  refine (AOp.frame hR h hd).mono ?_
  rintro v' H'' ⟨H', rfl, _, rfl, rfl⟩
  exact ⟨rfl, rfl⟩
theorem set_eq_join {H : Hp} {b : Nat} {obj : Obj} (hb : H b = none) : H.set b obj = H.join (fun x => if x = b then some obj else none) := by
  funext x
  unfold Hp.set Hp.join
  by_cases e : x = b
  · subst e; simp [hb]
  · simp only [if_neg e]; cases H x <;> rfl

/-- Canonically one operation more that reads or reckons. -/
theorem Sim.adv_read (hp : PlanOk P N ops plan) {K : Fr → Hp → Prop} {F0 : Fr} {pre l : List Stp} {s : Stp} {Sa : Nat → Prop} {pv : Nat → Value} {W : Wt} {Fc Fa : Fr} {Hc Re : Hp} {bl : Nat → Option Nat}
    (h : Sim P w0 N ops plan K F0 pre (s :: l) Sa pv W Fc Fa Hc Re bl) (hk : s.k = .p ∨ s.k = .n) (hn : ¬ Sa s.i) :
    ∃ v W' Fc', Sim P w0 N ops plan K F0 (pre ++ [s]) l Sa (fun y => if y = s.i then v else pv y) W' Fc' Fa Hc Re bl := by
  have hsm : s ∈ plan := by rw [h.split]; simp
  obtain ⟨o, ho, hcls, hself, _, hsel, _⟩ := okOne_spec (hp.one s hsm)
  have hnp := not_pre hp h.split
  have hat : At ops F0 pv (fun y => Pre pre y ∨ Sa y) s.i Fc := ⟨Pre pre, h.gc, fit_pre hp h.split, fun y hy => .inl hy⟩
  have hdone : ¬ (Pre pre s.i ∨ Sa s.i) := fun e => e.elim hnp hn
  have hmono : ∀ y, (Pre pre y ∨ Sa y) → (Pre (pre ++ [s]) y ∨ Sa y) := fun y hy => hy.imp (fun ⟨t, ht, e⟩ => ⟨t, List.mem_append_left _ ht, e⟩) id
  have hpre : ∀ y, (Pre pre y ∨ y = s.i) ↔ Pre (pre ++ [s]) y := fun y =>
    ⟨fun hy => hy.elim (fun ⟨t, ht, e⟩ => ⟨t, List.mem_append_left _ ht, e⟩) (fun e => ⟨s, by simp, e.symm⟩),
     fun ⟨t, ht, e⟩ => by
      rcases List.mem_append.1 ht with ht | ht
      · exact .inl ⟨t, ht, e⟩
      · rw [List.mem_singleton.1 ht] at e; exact .inr e.symm⟩
  -- what is common to all ways
  have fin : ∀ (v : Value) (W' : Wt), PrK P ops (putF Fc o.dst v) s.q → VCd P w0 N ops K l W' (putF Fc o.dst v) Hc → (∀ x H', x ≠ s.i → Wget W' x H' → Wget W x H') →
      ((Region.wanted o (yieldF ops Fc) = false ∧ v = undef) ∨ (Region.wanted o (yieldF ops Fc) = true ∧ ((s.k = .p ∧ ∀ H, QAt P w0 Fc o H v) ∨ (s.k = .n ∧ QAt P w0 Fc o Hc v ∧ ∀ H, Wget W' s.i H → QAt P w0 Fc o H v)))) →
      Sim P w0 N ops plan K F0 (pre ++ [s]) l Sa (fun y => if y = s.i then v else pv y) W' (putF Fc o.dst v) Fa Hc Re bl := by
    intro v W' hprk hv hW hpend
    have gc' := (h.gc.grow hp ho hnp v).iff hpre (fun _ _ => rfl)
    refine ⟨by rw [h.split]; simp, hv, gc', h.ga.other hn v, h.closed, h.inr, fun t ht hta => ?_, fun t ht hta => ?_, fun t ht hkt j hj => ?_, h.dj, fun b ob hb => ?_, fun t ht u hu => h.inj t (List.mem_cons_of_mem _ ht) u (List.mem_cons_of_mem _ hu)⟩
    · rcases List.mem_append.1 ht with ht | ht
      · obtain ⟨F, hA, hF⟩ := h.D t ht hta
        refine ⟨F, hA.other hdone v hmono, fun o' ho' => ?_⟩
        have hne : t.i ≠ s.i := fun e => hnp ⟨t, ht, e⟩
        simp only [if_neg hne]
        refine (hF o' ho').imp id fun ⟨a, b⟩ => ⟨a, b.imp id fun ⟨c, d, e⟩ => ⟨c, d, fun H' hw => e H' (hW t.i H' hne hw)⟩⟩
      · have e : t = s := by simpa using ht
        subst e
        refine ⟨Fc, hat.other hdone v hmono, fun o' ho' => ?_⟩
        rw [ho] at ho'; cases ho'
        simpa using hpend
    · obtain ⟨hka, F, hA, hF⟩ := h.E t (List.mem_cons_of_mem _ ht) hta
      refine ⟨hka, F, hA.other hdone v hmono, fun o' ho' => ?_⟩
      have hne : t.i ≠ s.i := fun e => hn (e ▸ hta)
      simp only [if_neg hne]
      exact hF o' ho'
    · rcases List.mem_append.1 ht with ht | ht
      · obtain ⟨F, hA, hF⟩ := h.q t ht hkt j hj
        exact ⟨F, hA.other hdone v hmono, hF⟩
      · have e : t = s := by simpa using ht
        subst e
        -- j is made ready by this very step
        have hq := hp.q
        rw [h.split] at hq
        have key : ∀ (pre : List Stp) (done : List Nat), okQ ops done (pre ++ t :: l) = true → (ops[j]?).isSome = true ∧ (∀ y, reach ops j y = true → y ∈ done ∨ Pre (pre ++ [t]) y) ∧ ¬ Pre (pre ++ [t]) j ∧ j ∉ done := by
          intro pre
          induction pre with
          | nil =>
            intro done hok
            simp only [List.nil_append, okQ, Bool.and_eq_true, List.all_eq_true] at hok
            have h1 := hok.1 j hj
            simp only [Bool.and_eq_true, Bool.not_eq_true', List.all_eq_true, List.mem_range, Bool.or_eq_true] at h1
            obtain ⟨⟨h2, h3⟩, h4⟩ := h1
            simp only [List.contains_eq_mem, List.mem_cons, decide_eq_false_iff_not, not_or, decide_eq_true_eq] at h3 h4
            refine ⟨h2, fun y hy => ?_, ?_, h3.2⟩
            · have hlt := hp.lt hy
              have hjs : j < ops.size := by
                obtain ⟨oj, hoj⟩ := Option.isSome_iff_exists.1 h2
                exact (Array.getElem?_eq_some_iff.1 hoj).1
              rcases h4 y (by omega) with h5 | h5
              · rw [hy] at h5; cases h5
              · rcases h5 with h5 | h5
                · exact .inr ⟨t, by simp, h5.symm⟩
                · exact .inl h5
            · rintro ⟨u, hu, e⟩
              have : u = t := by simpa using hu
              exact h3.1 (by rw [← e, this])
          | cons a pre ih =>
            intro done hok
            simp only [List.cons_append, okQ, Bool.and_eq_true] at hok
            obtain ⟨h1, h2, h3, h4⟩ := ih (a.i :: done) hok.2
            refine ⟨h1, fun y hy => ?_, ?_, fun e => h4 (List.mem_cons_of_mem _ e)⟩
            · rcases h2 y hy with h5 | ⟨u, hu, e⟩
              · rcases List.mem_cons.1 h5 with h5 | h5
                · exact .inr ⟨a, by simp, h5.symm⟩
                · exact .inl h5
              · exact .inr ⟨u, by simp at hu ⊢; exact .inr hu, e⟩
            · rintro ⟨u, hu, e⟩
              rcases List.mem_cons.1 hu with rfl | hu
              · exact h4 (by rw [e]; simp)
              · exact h3 ⟨u, hu, e⟩
        obtain ⟨hj1, hj2, hj3, _⟩ := key pre [] hq
        obtain ⟨oj, hoj⟩ := Option.isSome_iff_exists.1 hj1
        have hjs := (Array.getElem?_eq_some_iff.1 hoj).1
        refine ⟨putF Fc o.dst v, ⟨Pre (pre ++ [t]), gc', ⟨fun y hy => (hj2 y hy).resolve_left (by simp), fun y hy hyp => ?_⟩, fun y hy => .inl hy⟩, fun o' ho' hw => ?_⟩
        · -- what hangs on j isn't done
          obtain ⟨u, hu, rfl⟩ := hyp
          obtain ⟨w, hw, hwj⟩ := hp.all j hjs
          have hsp : plan = (pre ++ [t]) ++ l := by rw [h.split]; simp
          rw [hsp] at hw
          rcases List.mem_append.1 hw with hw | hw
          · exact hj3 ⟨w, hw, hwj⟩
          · have hpw := hp.pair
            rw [hsp, List.pairwise_append] at hpw
            have := (okPair_spec (hpw.2.2 u hu w hw)).1
            rw [hwj, hy] at this; cases this
        · have : ∀ (q : List Nat), PrK P ops (putF Fc o.dst v) q → j ∈ q → PrO P (putF Fc o.dst v) ops[j]? (((ops[j]?).map fun oo => Region.wanted oo (yieldF ops (putF Fc o.dst v))).getD false) := by
            intro q
            induction q with
            | nil => intro _ hjq; cases hjq
            | cons a q ih =>
              intro hq hjq
              rcases List.mem_cons.1 hjq with e | hjq
              · subst e; exact hq.1
              · exact ih hq.2 hjq
          have h1 := this t.q hprk hj
          rw [ho'] at h1
          simp only [Option.map_some, Option.getD_some, hw] at h1
          exact h1
    · obtain ⟨h1, t, ht, hta, hb'⟩ := h.re b ob hb
      refine ⟨h1, t, ?_, hta, hb'⟩
      rcases List.mem_cons.1 ht with rfl | ht
      · exact absurd hta hn
      · exact ht
  have hv := h.vcd
  simp only [VCd, ho, VOne] at hv
  cases hw : Region.wanted o (yieldF ops Fc) with
  | false =>
    rw [hw] at hv
    obtain ⟨h1, h2⟩ := hv
    exact ⟨undef, W, _, fin undef W h1 h2 (fun _ _ _ e => e) (.inl ⟨hw, rfl⟩)⟩
  | true =>
    rw [hw] at hv
    rcases hk with hk | hk
    · simp only [VWnt, hk, VCls] at hv
      obtain ⟨v, hq, h1, h2⟩ := hv
      exact ⟨v, W, _, fin v W h1 h2 (fun _ _ _ e => e) (.inr ⟨hw, .inl ⟨hk, hq⟩⟩)⟩
    · simp only [VWnt, hk, VCls] at hv
      obtain ⟨v, hq, h1, h2⟩ := hv
      refine ⟨v, _, _, fin v _ h1 h2 (fun x H' hne e => ?_) (.inr ⟨hw, .inr ⟨hk, hq, fun H' e => ?_⟩⟩)⟩
      · simpa [Wget, Ne.symm hne] using e
      · simpa [Wget] using e

/-- Canonically one making operation more, which has been done. -/
theorem Sim.adv_made (hp : PlanOk P N ops plan) {K : Fr → Hp → Prop} {F0 : Fr} {pre l : List Stp} {s : Stp} {Sa : Nat → Prop} {pv : Nat → Value} {W : Wt} {Fc Fa : Fr} {Hc Re : Hp} {bl : Nat → Option Nat}
    (h : Sim P w0 N ops plan K F0 pre (s :: l) Sa pv W Fc Fa Hc Re bl) (hn : Sa s.i) :
    ∃ Fc' Hc' Re', Sim P w0 N ops plan K F0 (pre ++ [s]) l Sa pv W Fc' Fa Hc' Re' bl ∧ Hc'.join Re' = Hc.join Re := by
  have hsm : s ∈ plan := by rw [h.split]; simp
  obtain ⟨o, ho, hcls, hself, _, hsel, _⟩ := okOne_spec (hp.one s hsm)
  have hnp := not_pre hp h.split
  have hat : At ops F0 pv (fun y => Pre pre y ∨ Sa y) s.i Fc := ⟨Pre pre, h.gc, fit_pre hp h.split, fun y hy => .inl hy⟩
  obtain ⟨hka, F, hA, hF⟩ := h.E s (by simp) hn
  have hlook := At.same hp ho hA hat
  have hmono : ∀ y, (Pre pre y ∨ Sa y) → (Pre (pre ++ [s]) y ∨ Sa y) := fun y hy => hy.imp (fun ⟨t, ht, e⟩ => ⟨t, List.mem_append_left _ ht, e⟩) id
  have hpre : ∀ y, (Pre pre y ∨ y = s.i) ↔ Pre (pre ++ [s]) y := fun y =>
    ⟨fun hy => hy.elim (fun ⟨t, ht, e⟩ => ⟨t, List.mem_append_left _ ht, e⟩) (fun e => ⟨s, by simp, e.symm⟩),
     fun ⟨t, ht, e⟩ => by
      rcases List.mem_append.1 ht with ht | ht
      · exact .inl ⟨t, ht, e⟩
      · rw [List.mem_singleton.1 ht] at e; exact .inr e.symm⟩
  have gc' : Good ops F0 (putF Fc o.dst (pv s.i)) (Pre (pre ++ [s])) pv :=
    (h.gc.grow hp ho hnp (pv s.i)).iff hpre (fun y _ => by by_cases e : y = s.i <;> simp [e])
  have fin : ∀ (Hc' Re' : Hp), VCd P w0 N ops K l W (putF Fc o.dst (pv s.i)) Hc' → Hc'.disj Re' →
      (∀ t ∈ pre, ¬ Sa t.i → Pend P w0 ops F0 pv (fun y => Pre pre y ∨ Sa y) W Hc' t) →
      (∀ t ∈ l, Sa t.i → Ahead P ops F0 pv (fun y => Pre pre y ∨ Sa y) bl Re' t) →
      (∀ b ob, Re' b = some ob → w0.heap.size ≤ b ∧ ∃ t ∈ l, Sa t.i ∧ bl t.i = some b) →
      Sim P w0 N ops plan K F0 (pre ++ [s]) l Sa pv W (putF Fc o.dst (pv s.i)) Fa Hc' Re' bl := by
    intro Hc' Re' hv hdj hD hE hre
    refine ⟨by rw [h.split]; simp, hv, gc', h.ga, h.closed, h.inr, fun t ht hta => ?_, fun t ht hta => ?_, fun t ht hkt j hj => ?_, hdj, hre, fun t ht u hu => h.inj t (List.mem_cons_of_mem _ ht) u (List.mem_cons_of_mem _ hu)⟩
    · rcases List.mem_append.1 ht with ht | ht
      · obtain ⟨F', hA', hF'⟩ := hD t ht hta
        exact ⟨F', hA'.mono hmono, hF'⟩
      · rw [List.mem_singleton.1 ht] at hta; exact absurd hn hta
    · obtain ⟨hk', F', hA', hF'⟩ := hE t ht hta
      exact ⟨hk', F', hA'.mono hmono, hF'⟩
    · rcases List.mem_append.1 ht with ht | ht
      · obtain ⟨F', hA', hF'⟩ := h.q t ht hkt j hj
        exact ⟨F', hA'.mono hmono, hF'⟩
      · rw [List.mem_singleton.1 ht, hka] at hkt
        rcases hkt with e | e <;> cases e
  have hv := h.vcd
  simp only [VCd, ho, VOne] at hv
  rw [← wanted_same hlook] at hv
  have hEl : ∀ t ∈ l, Sa t.i → Ahead P ops F0 pv (fun y => Pre pre y ∨ Sa y) bl Re t := fun t ht => h.E t (List.mem_cons_of_mem _ ht)
  rcases hF o ho with ⟨hw, hpv, hbl⟩ | ⟨hw, obj, mk, b, hal, hpv, hbl, hRe⟩
  · rw [hw] at hv
    refine ⟨_, Hc, Re, fin Hc Re (by rw [hpv]; exact hv.2) h.dj h.D hEl (fun b ob hb => ?_), rfl⟩
    obtain ⟨h1, t, ht, hta, hb'⟩ := h.re b ob hb
    refine ⟨h1, t, ?_, hta, hb'⟩
    rcases List.mem_cons.1 ht with rfl | ht
    · rw [hbl] at hb'; cases hb'
    · exact ht
  · rw [hw] at hv
    simp only [VWnt, hka, VCls] at hv
    rw [← alloc_same hlook, hal] at hv
    have hcb : Hc b = none := by
      rcases h.dj b with e | e
      · exact e
      · rw [hRe] at e; cases e
    obtain ⟨hb0, _⟩ := h.re b obj hRe
    have hv' := (hv b hb0 hcb).2
    rw [← hpv] at hv'
    let Re' : Hp := fun x => if x = b then none else Re x
    have hjoin : (Hc.set b obj).join Re' = Hc.join Re := by
      funext x
      simp only [Hp.join, Hp.set, Re']
      by_cases e : x = b
      · subst e; simp [hcb, hRe]
      · simp [e]
    have hlne : ∀ t ∈ l, t.i ≠ s.i := by
      intro t ht e
      have hpw := hp.pair
      rw [h.split, List.pairwise_append] at hpw
      exact (okPair_spec ((List.pairwise_cons.1 hpw.2.1).1 t ht)).2.2.1 e.symm
    refine ⟨_, Hc.set b obj, Re', fin (Hc.set b obj) Re' hv' (fun x => ?_) (fun t ht hta => ?_) (fun t ht hta => ?_) (fun x ob hx => ?_), hjoin⟩
    · by_cases e : x = b
      · right; simp [Re', e]
      · rw [Hp.set_ne _ _ _ _ e]; simp only [Re', if_neg e]; exact h.dj x
    · obtain ⟨F', hA', hF'⟩ := h.D t ht hta
      refine ⟨F', hA', fun o' ho' => (hF' o' ho').imp id fun ⟨a, c⟩ => ⟨a, c.imp id fun ⟨d, e, f⟩ => ⟨d, ?_, f⟩⟩⟩
      rw [set_eq_join hcb]
      refine e.join (fun x => ?_) (fun x ob hx => ?_)
      · by_cases ex : x = b
        · left; rw [ex]; exact hcb
        · right; simp [ex]
      · by_cases ex : x = b
        · rw [ex]; exact hb0
        · simp [ex] at hx
    · obtain ⟨hk', F', hA', hF'⟩ := hEl t ht hta
      refine ⟨hk', F', hA', fun o' ho' => (hF' o' ho').imp id ?_⟩
      rintro ⟨a, obj', mk', b', e1, e2, e3, e4⟩
      refine ⟨a, obj', mk', b', e1, e2, e3, ?_⟩
      have : b' ≠ b := by
        intro e
        subst e
        exact hlne t ht (h.inj t (List.mem_cons_of_mem _ ht) s (by simp) hta hn b' e3 hbl)
      simp only [Re', if_neg this]
      exact e4
    · by_cases e : x = b
      · simp [Re', e] at hx
      · simp only [Re', if_neg e] at hx
        obtain ⟨h1, t, ht, hta, hb'⟩ := h.re x ob hx
        refine ⟨h1, t, ?_, hta, hb'⟩
        rcases List.mem_cons.1 ht with rfl | ht
        · rw [hbl] at hb'; cases hb'; exact absurd rfl e
        · exact ht

section
variable {K : Fr → Hp → Prop} {F0 : Fr} {pre l : List Stp} {s : Stp} {Sa : Nat → Prop} {pv : Nat → Value} {W : Wt} {Fc Fa : Fr} {Hc Re : Hp} {bl : Nat → Option Nat}

theorem ne_of_sides (hp : PlanOk P N ops plan) (hs : plan = pre ++ l) {u t : Stp} (hu : u ∈ pre) (ht : t ∈ l) : u.i ≠ t.i := by
  have hpw := hp.pair
  rw [hs, List.pairwise_append] at hpw
  exact (okPair_spec (hpw.2.2 u hu t ht)).2.2.1

/-- In truth an operation is done that is canonically done. -/
theorem Sim.act_done (hp : PlanOk P N ops plan) (h : Sim P w0 N ops plan K F0 pre l Sa pv W Fc Fa Hc Re bl) (hs : s ∈ pre) (hn : ¬ Sa s.i) {o : Oper} (ho : ops[s.i]? = some o)
    (hpr : ∀ e ∈ o.after, Region.binds .any e = true → Sa e.on) :
    Sim P w0 N ops plan K F0 pre l (fun y => Sa y ∨ y = s.i) pv W Fc (putF Fa o.dst (pv s.i)) Hc Re bl := by
  have hmono : ∀ y, (Pre pre y ∨ Sa y) → (Pre pre y ∨ Sa y ∨ y = s.i) := fun y hy => hy.imp id .inl
  have hne : ∀ t ∈ l, t.i ≠ s.i := fun t ht e => ne_of_sides hp h.split hs ht e.symm
  refine ⟨h.split, h.vcd, h.gc, (h.ga.grow hp ho hn (pv s.i)).iff (fun _ => Iff.rfl) (fun y _ => by by_cases e : y = s.i <;> simp [e]), fun i o' e hi ho' he hb => ?_, fun i hi => ?_, fun t ht hta => ?_,
    fun t ht hta => ?_, fun t ht hk j hj => ?_, h.dj, fun b ob hb => ?_, fun t ht u hu hta hua => ?_⟩
  · rcases hi with hi | rfl
    · exact .inl (h.closed i o' e hi ho' he hb)
    · rw [ho] at ho'; cases ho'; exact .inl (hpr e he hb)
  · rcases hi with hi | rfl
    · exact h.inr i hi
    · exact (Array.getElem?_eq_some_iff.1 ho).1
  · obtain ⟨F, hA, hF⟩ := h.D t ht (fun e => hta (.inl e))
    exact ⟨F, hA.mono hmono, hF⟩
  · obtain ⟨hk, F, hA, hF⟩ := h.E t ht (hta.resolve_right (hne t ht))
    exact ⟨hk, F, hA.mono hmono, hF⟩
  · obtain ⟨F, hA, hF⟩ := h.q t ht hk j hj
    exact ⟨F, hA.mono hmono, hF⟩
  · obtain ⟨h1, t, ht, hta, hb'⟩ := h.re b ob hb
    exact ⟨h1, t, ht, .inl hta, hb'⟩
  · exact h.inj t ht u hu (hta.resolve_right (hne t ht)) (hua.resolve_right (hne u hu))

/-- In truth a making operation is done ahead. -/
theorem Sim.act_made (hp : PlanOk P N ops plan) (h : Sim P w0 N ops plan K F0 pre l Sa pv W Fc Fa Hc Re bl) (hs : s ∈ l) (hk : s.k = .a) (hn : ¬ Sa s.i) {o : Oper} (ho : ops[s.i]? = some o)
    (hpr : ∀ e ∈ o.after, Region.binds .any e = true → Sa e.on) (v : Value) (b : Option Nat) (Re' : Hp)
    (hway : (Region.wanted o (yieldF ops Fa) = false ∧ v = undef ∧ b = none ∧ Re' = Re) ∨
      (Region.wanted o (yieldF ops Fa) = true ∧ ∃ obj mk b0, allocOf P Fa o.op = some (obj, mk) ∧ v = mk b0 ∧ b = some b0 ∧ w0.heap.size ≤ b0 ∧ Hc b0 = none ∧ Re b0 = none ∧ Re' = Re.set b0 obj)) :
    Sim P w0 N ops plan K F0 pre l (fun y => Sa y ∨ y = s.i) (fun y => if y = s.i then v else pv y) W Fc (putF Fa o.dst v) Hc Re' (fun y => if y = s.i then b else bl y) := by
  have hsp : ¬ Pre pre s.i := fun ⟨t, ht, e⟩ => ne_of_sides hp h.split ht hs e
  have hdone : ¬ (Pre pre s.i ∨ Sa s.i) := fun e => e.elim hsp hn
  have hmono : ∀ y, (Pre pre y ∨ Sa y) → (Pre pre y ∨ Sa y ∨ y = s.i) := fun y hy => hy.imp id .inl
  have hat : At ops F0 pv (fun y => Pre pre y ∨ Sa y) s.i Fa := ⟨Sa, h.ga, fit_act h.closed (fun o' e ho' he hb => by rw [ho] at ho'; cases ho'; exact hpr e he hb) hn, fun y hy => .inr hy⟩
  have hRe : ∀ x ob, Re x = some ob → Re' x = some ob := by
    intro x ob hx
    rcases hway with ⟨_, _, _, rfl⟩ | ⟨_, obj, mk, b0, _, _, _, _, _, hb0, rfl⟩
    · exact hx
    · rw [Hp.set_ne _ _ _ _ (fun e => by rw [e, hb0] at hx; cases hx)]; exact hx
  refine ⟨h.split, h.vcd, h.gc.other hsp v, h.ga.grow hp ho hn v, fun i o' e hi ho' he hb => ?_, fun i hi => ?_, fun t ht hta => ?_,
    fun t ht hta => ?_, fun t ht hk j hj => ?_, ?_, fun x ob hx => ?_, fun t ht u hu hta hua x hx hy => ?_⟩
  · rcases hi with hi | rfl
    · exact .inl (h.closed i o' e hi ho' he hb)
    · rw [ho] at ho'; cases ho'; exact .inl (hpr e he hb)
  · rcases hi with hi | rfl
    · exact h.inr i hi
    · exact (Array.getElem?_eq_some_iff.1 ho).1
  · obtain ⟨F, hA, hF⟩ := h.D t ht (fun e => hta (.inl e))
    refine ⟨F, hA.other hdone v hmono, fun o' ho' => ?_⟩
    have hne : t.i ≠ s.i := fun e => hsp ⟨t, ht, e⟩
    simp only [if_neg hne]
    exact hF o' ho'
  · by_cases hts : t.i = s.i
    · refine ⟨?_, Fa, ?_, fun o' ho' => ?_⟩
      · have htm : t ∈ plan := by rw [h.split]; exact List.mem_append_right _ ht
        have hsm : s ∈ plan := by rw [h.split]; exact List.mem_append_right _ hs
        rw [same_step hp.pair t htm s hsm hts]; exact hk
      · rw [hts]; exact hat.other hdone v hmono
      · rw [hts, ho] at ho'; cases ho'
        simp only [hts, if_true]
        refine hway.imp (fun ⟨a, c, d, _⟩ => ⟨a, c, d⟩) ?_
        rintro ⟨a, obj, mk, b0, e1, e2, e3, _, _, _, rfl⟩
        exact ⟨a, obj, mk, b0, e1, e2, e3, Hp.set_same _ _ _⟩
    · obtain ⟨hk', F, hA, hF⟩ := h.E t ht (hta.resolve_right hts)
      refine ⟨hk', F, hA.other hdone v hmono, fun o' ho' => ?_⟩
      simp only [if_neg hts]
      exact (hF o' ho').imp id fun ⟨a, obj, mk1, b1, e1, e2, e3, e4⟩ => ⟨a, obj, mk1, b1, e1, e2, e3, hRe _ _ e4⟩
  · obtain ⟨F, hA, hF⟩ := h.q t ht hk j hj
    exact ⟨F, hA.other hdone v hmono, hF⟩
  · rcases hway with ⟨_, _, _, rfl⟩ | ⟨_, obj, mk, b0, _, _, _, _, hc0, hb0, rfl⟩
    · exact h.dj
    · intro x
      by_cases e : x = b0
      · left; rw [e]; exact hc0
      · rw [Hp.set_ne _ _ _ _ e]; exact h.dj x
  · have hold : Re x = some ob → w0.heap.size ≤ x ∧ ∃ t ∈ l, (Sa t.i ∨ t.i = s.i) ∧ (if t.i = s.i then b else bl t.i) = some x := by
      intro hx
      obtain ⟨h1, t, ht, hta, hb'⟩ := h.re x ob hx
      have : t.i ≠ s.i := fun e => hn (e ▸ hta)
      exact ⟨h1, t, ht, .inl hta, by rw [if_neg this]; exact hb'⟩
    rcases hway with ⟨_, _, _, rfl⟩ | ⟨_, obj, mk, b0, _, _, hb, hw0, hc0, hb0, rfl⟩
    · exact hold hx
    · by_cases e : x = b0
      · subst e
        exact ⟨hw0, s, hs, .inr rfl, by rw [if_pos rfl]; exact hb⟩
      · rw [Hp.set_ne _ _ _ _ e] at hx; exact hold hx
  · -- two blocks are two
    have hfresh : ∀ u ∈ l, Sa u.i → ∀ b0, b = some b0 → bl u.i ≠ some b0 := by
      intro u hu hua b0 hb0 hbu
      rcases hway with ⟨_, _, hb, _⟩ | ⟨_, obj, mk, b1, _, _, hb, _, _, hre, _⟩
      · rw [hb] at hb0; cases hb0
      · rw [hb] at hb0; cases hb0
        obtain ⟨_, F, _, hF⟩ := h.E u hu hua
        have hus := h.inr _ hua
        obtain ⟨ou, hou⟩ : ∃ ou, ops[u.i]? = some ou := ⟨_, Array.getElem?_eq_getElem hus⟩
        rcases hF ou hou with ⟨_, _, hnone⟩ | ⟨_, obj', mk', b', _, _, e3, e4⟩
        · rw [hnone] at hbu; cases hbu
        · rw [e3] at hbu; cases hbu; rw [hre] at e4; cases e4
    by_cases ets : t.i = s.i <;> by_cases eus : u.i = s.i
    · rw [ets, eus]
    · rw [if_pos ets] at hx; rw [if_neg eus] at hy
      exact absurd hy (hfresh u hu (hua.resolve_right eus) x hx)
    · rw [if_neg ets] at hx; rw [if_pos eus] at hy
      exact absurd hx (hfresh t ht (hta.resolve_right ets) x hy)
    · rw [if_neg ets] at hx; rw [if_neg eus] at hy
      exact h.inj t ht u hu (hta.resolve_right ets) (hua.resolve_right eus) x hx hy

/-- Both do the same operation. -/
theorem Sim.joint (hp : PlanOk P N ops plan) (h : Sim P w0 N ops plan K F0 pre (s :: l) Sa pv W Fc Fa Hc Re bl) (hk : s.k = .c) (hn : ¬ Sa s.i) {o : Oper} (ho : ops[s.i]? = some o)
    (hpr : ∀ e ∈ o.after, Region.binds .any e = true → Sa e.on) (v : Value) (H' : Hp) (hv : VCd P w0 N ops K l W (putF Fc o.dst v) H') (hdj : H'.disj Re)
    (hD : H' = Hc ∨ WK W H' s.w) :
    Sim P w0 N ops plan K F0 (pre ++ [s]) l (fun y => Sa y ∨ y = s.i) (fun y => if y = s.i then v else pv y) W (putF Fc o.dst v) (putF Fa o.dst v) H' Re bl := by
  have hnp := not_pre hp h.split
  have hdone : ¬ (Pre pre s.i ∨ Sa s.i) := fun e => e.elim hnp hn
  have hmono : ∀ y, (Pre pre y ∨ Sa y) → (Pre (pre ++ [s]) y ∨ Sa y ∨ y = s.i) := fun y hy => hy.imp (fun ⟨t, ht, e⟩ => ⟨t, List.mem_append_left _ ht, e⟩) .inl
  have hpre : ∀ y, (Pre pre y ∨ y = s.i) ↔ Pre (pre ++ [s]) y := fun y =>
    ⟨fun hy => hy.elim (fun ⟨t, ht, e⟩ => ⟨t, List.mem_append_left _ ht, e⟩) (fun e => ⟨s, by simp, e.symm⟩),
     fun ⟨t, ht, e⟩ => by
      rcases List.mem_append.1 ht with ht | ht
      · exact .inl ⟨t, ht, e⟩
      · rw [List.mem_singleton.1 ht] at e; exact .inr e.symm⟩
  have hlne : ∀ t ∈ l, t.i ≠ s.i := by
    intro t ht e
    have hpw := hp.pair
    rw [h.split, List.pairwise_append] at hpw
    exact (okPair_spec ((List.pairwise_cons.1 hpw.2.1).1 t ht)).2.2.1 e.symm
  have hfa := fit_act h.closed (fun o' e ho' he hb => by rw [ho] at ho'; cases ho'; exact hpr e he hb) hn
  refine ⟨by rw [h.split]; simp, hv, (h.gc.grow hp ho hnp v).iff hpre (fun _ _ => rfl), h.ga.grow hp ho hn v, fun i o' e hi ho' he hb => ?_, fun i hi => ?_, fun t ht hta => ?_,
    fun t ht hta => ?_, fun t ht hkt j hj => ?_, hdj, fun b ob hb => ?_, fun t ht u hu hta hua => ?_⟩
  · rcases hi with hi | rfl
    · exact .inl (h.closed i o' e hi ho' he hb)
    · rw [ho] at ho'; cases ho'; exact .inl (hpr e he hb)
  · rcases hi with hi | rfl
    · exact h.inr i hi
    · exact (Array.getElem?_eq_some_iff.1 ho).1
  · rcases List.mem_append.1 ht with ht | ht
    · obtain ⟨F, hA, hF⟩ := h.D t ht (fun e => hta (.inl e))
      refine ⟨F, hA.other hdone v hmono, fun o' ho' => ?_⟩
      have hne : t.i ≠ s.i := fun e => hnp ⟨t, ht, e⟩
      simp only [if_neg hne]
      refine (hF o' ho').imp id fun ⟨a, b⟩ => ⟨a, b.imp id fun ⟨c, d, e⟩ => ⟨c, ?_, e⟩⟩
      rcases hD with rfl | hD
      · exact d
      · have hpw := hp.pair
        rw [h.split, List.pairwise_append] at hpw
        rcases (okPair_spec (hpw.2.2 t ht s (by simp))).2.2.2.2.2.2 c hk with hin | hr
        · refine e H' ?_
          revert hD hin
          generalize s.w = w
          induction w with
          | nil => intro _ hin; cases hin
          | cons a w ih =>
            intro hD hin
            rcases List.mem_cons.1 hin with e1 | hin
            · rw [e1]; exact hD.1
            · exact ih hD.2 hin
        · exact absurd (.inl (hfa.pre _ hr)) hta
    · have e : t = s := by simpa using ht
      rw [e] at hta; exact absurd (.inr rfl) hta
  · obtain ⟨hka, F, hA, hF⟩ := h.E t (List.mem_cons_of_mem _ ht) (hta.resolve_right (hlne t ht))
    refine ⟨hka, F, hA.other hdone v hmono, fun o' ho' => ?_⟩
    simp only [if_neg (hlne t ht)]
    exact hF o' ho'
  · rcases List.mem_append.1 ht with ht | ht
    · obtain ⟨F, hA, hF⟩ := h.q t ht hkt j hj
      exact ⟨F, hA.other hdone v hmono, hF⟩
    · have e : t = s := by simpa using ht
      rw [e, hk] at hkt; rcases hkt with e | e <;> cases e
  · obtain ⟨h1, t, ht, hta, hb'⟩ := h.re b ob hb
    refine ⟨h1, t, ?_, .inl hta, hb'⟩
    rcases List.mem_cons.1 ht with rfl | ht
    · exact absurd hta hn
    · exact ht
  · exact h.inj t (List.mem_cons_of_mem _ ht) u (List.mem_cons_of_mem _ hu) (hta.resolve_right (hlne t ht)) (hua.resolve_right (hlne u hu))
end

section
variable {K : Fr → Hp → Prop} {F0 : Fr}

theorem sim_done (hp : PlanOk P N ops plan) : ∀ (l pre : List Stp) {Sa : Nat → Prop} {pv : Nat → Value} {W : Wt} {Fc Fa : Fr} {Hc Re : Hp} {bl : Nat → Option Nat},
    Sim P w0 N ops plan K F0 pre l Sa pv W Fc Fa Hc Re bl → (∀ i, i < ops.size → Sa i) → K Fa (Hc.join Re)
  | [], pre, Sa, pv, W, Fc, Fa, Hc, Re, bl, h, hall => by
    have hre : Hc.join Re = Hc := by
      funext b
      unfold Hp.join
      cases hb : Hc b with
      | some o => rfl
      | none =>
        simp only []
        cases hr : Re b with
        | none => rfl
        | some o => obtain ⟨_, t, ht, _⟩ := h.re b o hr; cases ht
    have hF : Fc = Fa := by
      have hsp : plan = pre := by have := h.split; simpa using this
      funext t
      by_cases hy : ∃ y, dstOf ops y = some t
      · obtain ⟨y, hy⟩ := hy
        rw [h.gc.hit y t (by have := hp.all y (dstOf_lt hy); rw [hsp] at this; exact this) hy, h.ga.hit y t (hall y (dstOf_lt hy)) hy]
      · rw [h.gc.miss t fun y _ hd => hy ⟨y, hd⟩, h.ga.miss t fun y _ hd => hy ⟨y, hd⟩]
    rw [hre, ← hF]
    exact h.vcd
  | s :: l, pre, Sa, pv, W, Fc, Fa, Hc, Re, bl, h, hall => by
    have hsm : s ∈ plan := by rw [h.split]; simp
    obtain ⟨o, ho, _⟩ := okOne_spec (hp.one s hsm)
    obtain ⟨Fc', Hc', Re', h', hj⟩ := Sim.adv_made hp h (hall s.i (Array.getElem?_eq_some_iff.1 ho).1)
    rw [← hj]
    exact sim_done hp l _ h' hall

/-- Canonically on to an operation t that isn't a making one. -/
theorem sim_upto (hp : PlanOk P N ops plan) : ∀ (l1 : List Stp) (pre l2 : List Stp) (t : Stp) {Sa : Nat → Prop} {pv : Nat → Value} {W : Wt} {Fc Fa : Fr} {Hc Re : Hp} {bl : Nat → Option Nat},
    Sim P w0 N ops plan K F0 pre (l1 ++ t :: l2) Sa pv W Fc Fa Hc Re bl → t.k ≠ .a → (∀ y, reach ops t.i y = true → Sa y) →
    ∃ pre' pv' W' Fc' Hc' Re', Sim P w0 N ops plan K F0 pre' (t :: l2) Sa pv' W' Fc' Fa Hc' Re' bl ∧ Hc'.join Re' = Hc.join Re
  | [], pre, l2, t, _, pv, W, Fc, _, Hc, Re, _, h, _, _ => ⟨pre, pv, W, Fc, Hc, Re, h, rfl⟩
  | s :: l1, pre, l2, t, Sa, pv, W, Fc, Fa, Hc, Re, bl, h, hk, hr => by
    by_cases hs : Sa s.i
    · obtain ⟨Fc', Hc', Re', h', hj⟩ := Sim.adv_made hp h hs
      obtain ⟨pre', pv', W', Fc'', Hc'', Re'', h'', hj'⟩ := sim_upto hp l1 _ l2 t h' hk hr
      exact ⟨pre', pv', W', Fc'', Hc'', Re'', h'', hj'.trans hj⟩
    · have hpw := hp.pair
      rw [h.split, List.pairwise_append] at hpw
      have hpr := (okPair_spec ((List.pairwise_cons.1 hpw.2.1).1 t (by simp))).2.2.2.2.2.1
      have hsk : s.k = .p ∨ s.k = .n := by
        rcases hpr with e | e | e | e
        · exact .inl e
        · exact .inr e
        · exact absurd e hk
        · exact absurd (hr _ e) hs
      obtain ⟨v, W', Fc', h'⟩ := Sim.adv_read hp h hsk hs
      obtain ⟨pre', pv', W'', Fc'', Hc'', Re'', h'', hj'⟩ := sim_upto hp l1 _ l2 t h' hk hr
      exact ⟨pre', pv', W'', Fc'', Hc'', Re'', h'', hj'⟩

theorem filter_lt {p q : Nat → Bool} : ∀ (l : List Nat), (∀ x ∈ l, q x = true → p x = true) → (∃ x ∈ l, p x = true ∧ q x = false) → (l.filter q).length < (l.filter p).length
  | [], _, h => by obtain ⟨x, hx, _⟩ := h; cases hx
  | a :: l, himp, hex => by
    have hle : (l.filter q).length ≤ (l.filter p).length := by
      clear hex
      have himp' : ∀ x ∈ l, q x = true → p x = true := fun x hx => himp x (List.mem_cons_of_mem _ hx)
      clear himp
      induction l with
      | nil => simp
      | cons b l ih =>
        have := ih fun x hx => himp' x (List.mem_cons_of_mem _ hx)
        have hb := himp' b (by simp)
        simp only [List.filter_cons]
        cases hq : q b with
        | true => rw [hb hq]; simp; omega
        | false => cases hp : p b <;> simp <;> omega
    obtain ⟨x, hx, h1, h2⟩ := hex
    simp only [List.filter_cons]
    rcases List.mem_cons.1 hx with rfl | hx
    · rw [h1, h2]; simp; omega
    · have ih := filter_lt l (fun y hy => himp y (List.mem_cons_of_mem _ hy)) ⟨x, hx, h1, h2⟩
      have ha := himp a (by simp)
      cases hq : q a with
      | true => rw [ha hq]; simp; omega
      | false => cases hp : p a <;> simp <;> omega

def cnt (ops : Array Oper) (listed : Array Bool) : Nat := ((List.range ops.size).filter fun i => !listed.getD i true).length
def Li (listed : Array Bool) (y : Nat) : Prop := listed.getD y false = true

theorem li_set {listed : Array Bool} {x : Nat} (hx : x < listed.size) : Li (listed.setIfInBounds x true) = fun y => Li listed y ∨ y = x := by
  funext y
  unfold Li
  by_cases e : y = x
  · subst e; simp [hx]
  · simp [Array.getElem?_setIfInBounds_ne (Ne.symm e), e]
theorem cnt_set {listed : Array Bool} {x : Nat} (hs : listed.size = ops.size) (hx : listed.getD x true = false) (hlt : x < ops.size) : cnt ops (listed.setIfInBounds x true) < cnt ops listed := by
  unfold cnt
  refine filter_lt _ (fun y _ hy => ?_) ⟨x, List.mem_range.2 hlt, by rw [hx]; rfl, ?_⟩
  · by_cases e : y = x
    · subst e; simp [hs, hlt] at hy
    · rw [getD_set_ne true (Ne.symm e)] at hy; exact hy
  · simp [hs, hlt]
theorem cnt_all {listed : Array Bool} (h : cnt ops listed = 0) (hs : listed.size = ops.size) (i : Nat) (hi : i < ops.size) : Li listed i := by
  unfold cnt at h
  have h1 := List.filter_eq_nil_iff.1 (List.eq_nil_of_length_eq_zero h) i (List.mem_range.2 hi)
  unfold Li
  have hi' : i < listed.size := by omega
  simp [hi'] at h1 ⊢
  exact h1
theorem ready_none (hp : PlanOk P N ops plan) {listed : Array Bool} (hs : listed.size = ops.size) (h : Region.ready .any ops listed = []) : ∀ i, i < ops.size → Li listed i := by
  intro i
  induction i using Nat.strongRecOn with
  | _ i ih =>
    intro hi
    obtain ⟨s, hsm, rfl⟩ := hp.all i hi
    obtain ⟨o, ho, _, _, h3, _⟩ := okOne_spec (hp.one s hsm)
    by_cases hl : listed.getD s.i true = true
    · unfold Li
      have hi' : s.i < listed.size := by omega
      simp [hi'] at hl ⊢
      exact hl
    · have : s.i ∈ Region.ready .any ops listed := mem_ready.2 ⟨by simpa using hl, o, ho, fun e he hb => ih e.on (h3 e he hb) (by have := h3 e he hb; omega)⟩
      rw [h] at this; cases this

theorem sim_any (hp : PlanOk P N ops plan) : ∀ (fuel : Nat) (listed : Array Bool) (pre l : List Stp) (pv : Nat → Value) (W : Wt) (Fc Fa : Fr) (Hc Re : Hp) (bl : Nat → Option Nat),
    Sim P w0 N ops plan K F0 pre l (Li listed) pv W Fc Fa Hc Re bl → listed.size = ops.size → cnt ops listed ≤ fuel → AAny P w0 N ops K fuel listed Fa (Hc.join Re) := by
  intro fuel
  induction fuel with
  | zero =>
    intro listed pre l pv W Fc Fa Hc Re bl h hs hc
    have hall := cnt_all (by omega) hs
    refine ⟨?_, sim_done hp l pre h hall⟩
    rw [List.eq_nil_iff_forall_not_mem]
    intro x hx
    obtain ⟨h0, o, ho, _⟩ := mem_ready.1 hx
    have := hall x (Array.getElem?_eq_some_iff.1 ho).1
    unfold Li at this
    have hi' : x < listed.size := by have := (Array.getElem?_eq_some_iff.1 ho).1; omega
    simp [hi'] at h0 this
    rw [h0] at this; cases this
  | succ fuel ih =>
    intro listed pre l pv W Fc Fa Hc Re bl h hs hc
    refine ⟨fun h0 => sim_done hp l pre h (ready_none hp hs h0), fun x hx o ho => ?_⟩
    obtain ⟨h0, o', ho', hpr⟩ := mem_ready.1 hx
    rw [ho] at ho'; cases ho'
    have hxs := (Array.getElem?_eq_some_iff.1 ho).1
    have hcnt : cnt ops (listed.setIfInBounds x true) ≤ fuel := by have := cnt_set hs h0 hxs; omega
    have hls : (listed.setIfInBounds x true).size = ops.size := by simpa using hs
    have hli := li_set (listed := listed) (x := x) (by omega)
    have hnx : ¬ Li listed x := by
      unfold Li
      have hi' : x < listed.size := by omega
      simp [hi'] at h0 ⊢
      exact h0
    obtain ⟨t, htm, rfl⟩ := hp.all x hxs
    obtain ⟨o2, ho2, hcls, _, _, hsel, hdst⟩ := okOne_spec (hp.one t htm)
    rw [ho] at ho2; cases ho2
    refine ⟨hdst, ?_⟩
    have hreach : ∀ y, reach ops t.i y = true → Li listed y := (fit_act h.closed (fun o' e ho' he hb => by rw [ho] at ho'; cases ho'; exact hpr e he hb) hnx).pre
    have hRw : ∀ {pre l : List Stp} {pv : Nat → Value} {W : Wt} {Fc : Fr} {Hc Re : Hp}, Sim P w0 N ops plan K F0 pre l (Li listed) pv W Fc Fa Hc Re bl → ∀ b o, Re b = some o → w0.heap.size ≤ b :=
      fun h b o hb => (h.re b o hb).1
    -- an operation that is canonically done
    have ready : ∀ {pre l : List Stp} {pv : Nat → Value} {W : Wt} {Fc : Fr} {Hc Re : Hp}, Sim P w0 N ops plan K F0 pre l (Li listed) pv W Fc Fa Hc Re bl → t ∈ pre →
        WantK P w0 (AAny P w0 N ops K fuel (listed.setIfInBounds t.i true)) Fa (Hc.join Re) o (Region.wanted o (yieldF ops Fa)) := by
      intro pre l pv W Fc Hc Re h ht
      have hat : At ops F0 pv (fun y => Pre pre y ∨ Li listed y) t.i Fa := ⟨Li listed, h.ga, fit_act h.closed (fun o' e ho' he hb => by rw [ho] at ho'; cases ho'; exact hpr e he hb) hnx, fun y hy => .inr hy⟩
      obtain ⟨F, hA, hF⟩ := h.D t ht hnx
      have hlook := At.same hp ho hA hat
      have hnext := Sim.act_done hp h ht hnx ho hpr
      rw [← hli] at hnext
      have hgo := ih _ _ _ _ _ _ _ _ _ _ hnext hls hcnt
      rcases hF o ho with ⟨hw, hv⟩ | ⟨hw, hq⟩
      · rw [← wanted_same hlook, hw]
        rw [hv] at hgo
        exact hgo
      · rw [← wanted_same hlook, hw]
        have hqa : QAt P w0 Fa o (Hc.join Re) (pv t.i) := by
          have hex := exec_same hsel hlook
          rcases hq with ⟨_, hq⟩ | ⟨_, hq, _⟩
          · exact QAt.same hex (hq _)
          · exact QAt.same hex (hq.join h.dj (hRw h))
        refine AOp.mono hqa ?_
        rintro v H'' ⟨rfl, rfl⟩
        exact hgo
    have htp := htm
    rw [h.split] at htp
    rcases List.mem_append.1 htp with ht | ht
    · exact ready h ht
    · by_cases hka : t.k = .a
      · -- ahead
        have hat : At ops F0 pv (fun y => Pre pre y ∨ Li listed y) t.i Fa := ⟨Li listed, h.ga, fit_act h.closed (fun o' e ho' he hb => by rw [ho] at ho'; cases ho'; exact hpr e he hb) hnx, fun y hy => .inr hy⟩
        cases hw : Region.wanted o (yieldF ops Fa) with
        | false =>
          have hnext := Sim.act_made hp h ht hka hnx ho hpr undef none Re (.inl ⟨hw, rfl, rfl, rfl⟩)
          rw [← hli] at hnext
          exact ih _ _ _ _ _ _ _ _ _ _ hnext hls hcnt
        | true =>
          have hsome : (allocOf P Fa o.op).isSome = true := by
            have hr := hp.ready t htm
            simp only [okReady, hka, ho, Bool.or_eq_true, bne_self_eq_false, Bool.false_eq_true, false_or] at hr
            rcases hr with hr | hr
            · revert hr
              generalize o.op = op
              intro hr
              unfold allocTot at hr
              split at hr
              · rename_i t len parts
                rw [Bool.and_eq_true] at hr
                have hm : parts.map (fun p => (p.1, evF Fa p.2)) = parts.map (fun p => (p.1, evF (fun _ => undef) p.2)) :=
                  Array.map_congr_left fun p hp => by rw [isC_same (List.all_eq_true.1 hr.1 p (by simpa using hp)) Fa (fun _ => undef)]
                have : allocOf P Fa (.buildSlice t len parts) = allocOf P (fun _ => undef) (.buildSlice t len parts) := by
                  unfold allocOf
                  simp only [hm]
                rw [this]
                exact hr.2
              · rename_i e
                unfold allocOf
                simp only [Option.isSome_map]
                exact hr
              · rfl
              · rfl
              · cases hr
            · obtain ⟨u, hu, hr⟩ := List.any_eq_true.1 hr
              simp only [Bool.and_eq_true, Bool.or_eq_true, beq_iff_eq, List.contains_eq_mem, decide_eq_true_eq] at hr
              obtain ⟨⟨huk, huq⟩, hur⟩ := hr
              have hul := hreach _ hur
              have hup : u ∈ pre := by
                rw [h.split] at hu
                rcases List.mem_append.1 hu with hu | hu
                · exact hu
                · obtain ⟨hk', _⟩ := h.E u hu hul
                  rw [hk'] at huk; rcases huk with e | e <;> cases e
              obtain ⟨F, hA, hF⟩ := h.q u hup huk t.i huq
              have hlook := At.same hp ho hA hat
              rw [← alloc_same hlook]
              exact hF o ho (by rw [wanted_same hlook]; exact hw)
          obtain ⟨⟨obj, mk1⟩, hal⟩ := Option.isSome_iff_exists.1 hsome
          show AOp P w0 Fa o _ _
          rw [allocOf_sound hal]
          intro b hb hbn
          have hcb : Hc b = none := by
            cases e : Hc b with
            | none => rfl
            | some ob => rw [Hp.join_left e] at hbn; cases hbn
          have hrb : Re b = none := by rw [Hp.join_right hcb] at hbn; exact hbn
          have hnext := Sim.act_made hp h ht hka hnx ho hpr (mk1 b) (some b) (Re.set b obj) (.inr ⟨hw, obj, mk1, b, hal, rfl, rfl, hb, hcb, hrb, rfl⟩)
          rw [← hli] at hnext
          have hgo := ih _ _ _ _ _ _ _ _ _ _ hnext hls hcnt
          have hjoin : Hc.join (Re.set b obj) = (Hc.join Re).set b obj := by
            funext y
            unfold Hp.join Hp.set
            by_cases e : y = b
            · subst e; simp [hcb]
            · simp only [if_neg e]
          rw [hjoin] at hgo
          exact hgo
      · obtain ⟨l1, l2, rfl⟩ := List.append_of_mem ht
        obtain ⟨pre', pv', W', Fc', Hc', Re', h', hj⟩ := sim_upto hp l1 pre l2 t h hka hreach
        rw [← hj]
        by_cases hkc : t.k = .c
        · have hsp := h'.split
          have hatc : At ops F0 pv' (fun y => Pre pre' y ∨ Li listed y) t.i Fc' := ⟨Pre pre', h'.gc, fit_pre hp hsp, fun y hy => .inl hy⟩
          have hat : At ops F0 pv' (fun y => Pre pre' y ∨ Li listed y) t.i Fa := ⟨Li listed, h'.ga, fit_act h'.closed (fun o' e ho' he hb => by rw [ho] at ho'; cases ho'; exact hpr e he hb) hnx, fun y hy => .inr hy⟩
          have hlook := At.same hp ho hatc hat
          have hv := h'.vcd
          simp only [VCd, ho, VOne] at hv
          rw [wanted_same hlook] at hv
          cases hw : Region.wanted o (yieldF ops Fa) with
          | false =>
            rw [hw] at hv
            have hnext := Sim.joint hp h' hkc hnx ho hpr undef Hc' hv.2 h'.dj (.inl rfl)
            rw [← hli] at hnext
            exact ih _ _ _ _ _ _ _ _ _ _ hnext hls hcnt
          | true =>
            rw [hw] at hv
            simp only [VWnt, hkc, VCls] at hv
            have hv2 : AOp P w0 Fa o (NxC (PrN P ops (VCd P w0 N ops K l2) t.q) W' Fc' o.dst t.w) Hc' := by
              unfold AOp at *; rw [← exec_same hsel hlook]; exact hv
            refine AOp.mono (AOp.frame (hRw h') hv2 h'.dj) ?_
            rintro v H'' ⟨H', rfl, hdj, hwk, _, hvcd⟩
            have hnext := Sim.joint hp h' hkc hnx ho hpr v H' hvcd hdj (.inr hwk)
            rw [← hli] at hnext
            exact ih _ _ _ _ _ _ _ _ _ _ hnext hls hcnt
        · have hsk : t.k = .p ∨ t.k = .n := by
            cases e : t.k with
            | p => exact .inl rfl
            | n => exact .inr rfl
            | a => exact absurd e hka
            | c => exact absurd e hkc
          obtain ⟨v, W2, Fc2, h2⟩ := Sim.adv_read hp h' hsk hnx
          exact ready h2 (by simp)

theorem vdraw_of {KF : Fr → Hp → Prop} {F : Fr} {H : Hp} (plan : List Stp) (hm : P.follows .mixedOrders = true) (hok : okPlan P N ops plan = true) (h : VCd P w0 N ops KF plan [] F H) :
    VDraw P w0 N ops KF F H := by
  have hp := PlanOk.of hok
  refine ⟨hm, ?_⟩
  have hLi : Li (Array.replicate ops.size false) = fun _ => False := by
    funext y
    simp only [Li, Array.getD_eq_getD_getElem?, Array.getElem?_replicate]
    split <;> simp
  have hsim : Sim P w0 N ops plan KF F [] plan (Li (Array.replicate ops.size false)) (fun _ => undef) [] F F H (fun _ => none) (fun _ => none) := by
    rw [hLi]
    exact ⟨by simp, h, ⟨(fun y d hy => by obtain ⟨t, ht, _⟩ := hy; cases ht), fun t _ => rfl⟩, ⟨(fun y d hy => hy.elim), fun t _ => rfl⟩, (fun i o e hi => hi.elim), (fun i hi => hi.elim),
      (fun s hs => by cases hs), (fun s hs hf => hf.elim), (fun s hs => by cases hs), fun b => .inr rfl, (fun b o hb => by cases hb), (fun s hs t ht hf => hf.elim)⟩
  have := sim_any hp ops.size (Array.replicate ops.size false) [] plan _ _ _ _ _ _ _ hsim (by simp) (by
    unfold cnt
    have := List.length_filter_le (fun i => !(Array.replicate ops.size false).getD i true) (List.range ops.size)
    simp at this ⊢
    exact this)
  have hj : H.join (fun _ => none) = H := by
    funext b
    unfold Hp.join
    cases H b <;> rfl
  rw [hj] at this
  exact this
end
#print axioms vdraw_of
end

/-! ### The equations by which a plan is gone through -/
section
variable {P : Program} {w0 : World} {N : Nat} {ops : Array Oper} {F : Fr} {H H' : Hp} {KF : Fr → Hp → Prop} {Q : Exit → Fr → Hp → Prop} {R : VT} {W : Wt} {o : Oper} {i : Nat} {k : Cls} {w q : List Nat} {l : List Stp} {v v' : Value} {K : Value → Hp → Prop}
theorem vc_draw {id : Nat} {l : List Oper} : VC P w0 N (.region id l.toArray true) Q F H = VDraw P w0 N l.toArray (NormK Q) F H := rfl
theorem vcd_nil : VCd P w0 N ops KF [] W F H = KF F H := rfl
theorem vcd_cons : VCd P w0 N ops KF (⟨i, k, w, q⟩ :: l) W F H = VOne P w0 N ops (VCd P w0 N ops KF l) W F H ⟨i, k, w, q⟩ ops[i]? := rfl
theorem vone_some : VOne P w0 N ops R W F H ⟨i, k, w, q⟩ (some o) = VWnt P w0 (PrN P ops R q) W F H ⟨i, k, w, q⟩ o (Region.wanted o (yieldF ops F)) := rfl
theorem vwnt_true : VWnt P w0 R W F H ⟨i, k, w, q⟩ o true = VCls P w0 R W F H ⟨i, k, w, q⟩ o k := rfl
theorem vwnt_false {s : Stp} : VWnt P w0 R W F H s o false = R W (putF F o.dst undef) H := rfl
theorem vcls_p {s : Stp} : VCls P w0 R W F H s o .p = ExV (PurK P w0 F o) (NxP R W F H o.dst) := rfl
theorem vcls_n : VCls P w0 R W F H ⟨i, k, w, q⟩ o .n = ExV (QAt P w0 F o H) (NxN P w0 R W F H i o) := rfl
theorem vcls_a {s : Stp} : VCls P w0 R W F H s o .a = AllK P w0 (NxA R W F o.dst) H (allocOf P F o.op) := rfl
theorem vcls_c : VCls P w0 R W F H ⟨i, k, w, q⟩ o .c = AOp P w0 F o (NxC R W F o.dst w) H := rfl
theorem exv_pur {A : Value → Prop} : ExV (PurK P w0 F o) A = ExV (fun v => ∀ H, AOp P w0 F o (EqK v H) H) A := rfl
theorem exv_q {A : Value → Prop} : ExV (QAt P w0 F o H) A = ExV (fun v => AOp P w0 F o (EqK v H) H) A := rfl
theorem exv_eq {A : Value → Prop} : ExV (fun u => v = u) A = A v := by
  unfold ExV
  exact propext ⟨fun ⟨u, e, h⟩ => e ▸ h, fun h => ⟨v, rfl, h⟩⟩
theorem eqK_eq : EqK v H v' H = (v' = v) := by simp [EqK]
theorem forall_hp {p : Prop} : (∀ _ : Hp, p) = p := propext ⟨fun h => h (fun _ => none), fun h _ => h⟩
theorem nxP_eq {d : Option Tmp} : NxP R W F H d v = R W (putF F d v) H := rfl
theorem nxN_eq : NxN P w0 R W F H i o v = R ((i, fun H' => QAt P w0 F o H' v) :: W) (putF F o.dst v) H := rfl
theorem nxA_eq {d : Option Tmp} : NxA R W F d v H = R W (putF F d v) H := rfl
theorem nxC_eq {d : Option Tmp} : NxC R W F d w v H = (WK W H w ∧ R W (putF F d v) H) := rfl
theorem prN_eq : PrN P ops R q W F H = (PrK P ops F q ∧ R W F H) := rfl
theorem prK_nil : PrK P ops F [] = True := rfl
theorem prK_cons {j : Nat} : PrK P ops F (j :: q) = (PrO P F ops[j]? (((ops[j]?).map fun o => Region.wanted o (yieldF ops F)).getD false) ∧ PrK P ops F q) := rfl
theorem prO_true : PrO P F (some o) true = ((allocOf P F o.op).isSome = true) := rfl
theorem prO_false : PrO P F (some o) false = True := rfl
theorem wK_nil : WK W H [] = True := rfl
theorem wK_cons {x : Nat} {l : List Nat} : WK W H (x :: l) = (Wget W x H ∧ WK W H l) := rfl
theorem wget_nil {x : Nat} : Wget [] x H = True := rfl
theorem wget_cons {x y : Nat} {p : Hp → Prop} : Wget ((y, p) :: W) x H = (if y = x then p H else Wget W x H) := rfl
theorem qAt_eq : QAt P w0 F o H v = AOp P w0 F o (EqK v H) H := rfl
theorem allK_some {obj : Obj} {mk : Nat → Value} : AllK P w0 K H (some (obj, mk)) = NewK w0 obj mk K H := rfl
theorem allocOf_alloc {e : TypeId} : allocOf P F (.alloc e) = (zrOf P e).map fun z => (.cells z.cells e, fun b => .pointer (some ⟨b, 0, none⟩)) := rfl
theorem allocOf_slice {t len : Nat} {parts : Array (Nat × Operand)} : allocOf P F (.buildSlice t len parts) = AlS P F len parts (P.underlying t) := by
  unfold allocOf AlS
  rfl
theorem alS_eq {e len : Nat} {parts : Array (Nat × Operand)} : AlS P F len parts (some (.slice e)) = (bsCells P e len (parts.map fun p => (p.1, evF F p.2))).map fun cs => (.cells cs e, fun b => .slice (some ⟨b, 0, none⟩) len len) := rfl
theorem allocOf_box {e : TypeId} {x : Operand} : allocOf P F (.box e x) = some (.cells (evF F x).cells e, fun b => .pointer (some ⟨b, 0, none⟩)) := rfl
end
end Go.Proofs.YtoolnkemkhianaaDoorW
