/-
  The abstract weakest precondition of operations, regions, code and calls; every rule sound over any program.
  No condition: every theorem here is general.
-/
import Derived.Test.YtoolnkemkhianaaDoorAwp
import Derived.Orders
set_option linter.unusedSimpArgs false
set_option linter.unusedVariables false
namespace Go.Proofs.YtoolnkemkhianaaDoorW
open Go Go.RowKit

/-! ### Frames -/
abbrev Fr := Nat → Value
def upd (F : Fr) (d : Nat) (v : Value) : Fr := fun i => if i = d then v else F i
theorem upd_same (F : Fr) (d : Nat) (v : Value) : upd F d v d = v := by simp [upd]
theorem upd_ne (F : Fr) (d i : Nat) (v : Value) (h : i ≠ d) : upd F d v i = F i := by simp [upd, h]
theorem upd_at (F : Fr) (d i : Nat) (v : Value) : upd F d v i = if i = d then v else F i := rfl
def putF (F : Fr) (dst : Option Tmp) (v : Value) : Fr := match dst with | some d => upd F d v | none => F

structure FRel (N : Nat) (F : Fr) (a : Act) : Prop where
  defers : a.defers = []
  size : a.tmps.size = N
  slot : ∀ i, a.tmps.getD i undef = F i

def evF (F : Fr) : Operand → Value
  | .tmp t => F t
  | .const v => v
  | .global g => .pointer (some ⟨g, 0, none⟩)
  | .func f => .func (.func f) #[] #[]

theorem FRel.eval {N : Nat} {F : Fr} {a : Act} (h : FRel N F a) : a.eval = evF F := by
  funext x
  cases x with
  | tmp t => exact h.slot t
  | _ => rfl

def okDst (N : Nat) : Option Tmp → Bool
  | some d => decide (d < N)
  | none => true

theorem FRel.put {N : Nat} {F : Fr} {a : Act} (h : FRel N F a) {dst : Option Tmp} (hd : okDst N dst = true) (v : Value) : FRel N (putF F dst v) (a.put dst v) := by
  cases dst with
  | none => exact h
  | some d =>
    have hd : d < N := by simpa [okDst] using hd
    refine ⟨h.defers, by simp [Act.put, h.size], fun i => ?_⟩
    by_cases e : i = d
    · subst e
      simp [Act.put, putF, upd, h.size, hd]
    · have := h.slot i
      simp only [Act.put, putF, upd, if_neg e, ← this]
      simp [Array.getD_eq_getD_getElem?, Array.getElem?_setIfInBounds_ne (Ne.symm e)]

def slotBool : Value → Option Bool
  | .bool b => some b
  | _ => none
def YieldK (F : Fr) : Option Tmp → Option Bool
  | some d => slotBool (F d)
  | none => none
def yieldF (ops : Array Oper) (F : Fr) (j : Nat) : Option Bool := YieldK F ((ops[j]?).bind (·.dst))

theorem FRel.yield {N : Nat} {F : Fr} {a : Act} (h : FRel N F a) (ops : Array Oper) : yielded ops a.tmps = yieldF ops F := by
  funext j
  unfold yielded yieldF YieldK
  cases hd : (ops[j]?).bind (·.dst) with
  | none => simp
  | some d =>
    have := h.slot d
    simp only [Option.bind_some]
    rw [← this, Array.getD_eq_getD_getElem?]
    cases ht : a.tmps[d]? with
    | none => simp [slotBool, undef]
    | some v => cases v <;> rfl

/-! ### Calls and operations -/
def ACalls (P : Program) (w0 : World) (f : FuncId) (args : Array Value) (H : Hp) (Q : Value → Hp → Prop) : Prop :=
  ∀ R w, H.disj R → Rel w0 (H.join R) w →
    Calls P f args w fun e w' => ∃ r H', e = .returned r ∧ H'.disj R ∧ Rel w0 (H'.join R) w' ∧ Q r H'

theorem ACalls.mono {P : Program} {w0 : World} {f : FuncId} {args : Array Value} {H : Hp} {Q Q' : Value → Hp → Prop}
    (h : ACalls P w0 f args H Q) (hq : ∀ r H', Q r H' → Q' r H') : ACalls P w0 f args H Q' :=
  fun R w hd hr => (h R w hd hr).mono fun _ _ ⟨r, H', he, hd', hr', hQ⟩ => ⟨r, H', he, hd', hr', hq _ _ hQ⟩

/-- What is behind an operation. -/
def ANx (P : Program) (w0 : World) (K : Value → Hp → Prop) (n : Next) (H : Hp) : Prop :=
  match n with
  | .value v => K v H
  | .skip => K undef H
  | .enter f args => ACalls P w0 f args H K
  | _ => False

def AOp (P : Program) (w0 : World) (F : Fr) (o : Oper) (K : Value → Hp → Prop) (H : Hp) : Prop :=
  awp P w0 (execOp (evF F) o) (ANx P w0 K) H

theorem ANx_mono {P : Program} {w0 : World} {K K' : Value → Hp → Prop} (hk : ∀ v H, K v H → K' v H) {n : Next} {H : Hp} (h : ANx P w0 K n H) : ANx P w0 K' n H := by
  cases n <;> first | exact h.elim | exact hk _ _ h | exact ACalls.mono h hk

theorem AOp.mono {P : Program} {w0 : World} {F : Fr} {o : Oper} {K K' : Value → Hp → Prop} {H : Hp} (h : AOp P w0 F o K H) (hk : ∀ v H, K v H → K' v H) : AOp P w0 F o K' H :=
  awp_mono P w0 _ h fun _ _ => ANx_mono hk

/-- The post of a piece of code, with the frame. -/
def AQ (w0 : World) (N : Nat) (R : Hp) (Q : Exit → Fr → Hp → Prop) (e : Exit) (a : Act) (w : World) : Prop :=
  ∃ F H, H.disj R ∧ Rel w0 (H.join R) w ∧ FRel N F a ∧ Q e F H

theorem AOp.sound {P : Program} {w0 : World} {F : Fr} {o : Oper} {K : Value → Hp → Prop} {H : Hp} (h : AOp P w0 F o K H) {R : Hp} {w : World} {a : Act} {N : Nat}
    (hd : H.disj R) (hr : Rel w0 (H.join R) w) (hF : FRel N F a) {next : Act → World → Prop} {Q : Exit → Act → World → Prop}
    (hn : ∀ v H' w', H'.disj R → Rel w0 (H'.join R) w' → K v H' → next (a.put o.dst v) w') : o.wp P a w next Q := by
  obtain ⟨n, H', w', hrun, hd', hr', hk⟩ := awp_run P w0 _ _ H R w h hd hr
  unfold Oper.wp
  rw [hF.eval, hrun]
  cases n <;> first | exact hk.elim | skip
  case value v => exact hn v H' w' hd' hr' hk
  case skip => exact hn undef H' w' hd' hr' hk
  case enter f args =>
    refine (hk R w' hd' hr').mono ?_
    rintro e w'' ⟨r, H'', rfl, hd'', hr'', hQ⟩
    exact hn r H'' w'' hd'' hr'' hQ

/-! ### Regions in the order of the text -/
def PutK (rest : Fr → Hp → Prop) (F : Fr) (dst : Option Tmp) (v : Value) (H : Hp) : Prop := rest (putF F dst v) H

def WantK (P : Program) (w0 : World) (rest : Fr → Hp → Prop) (F : Fr) (H : Hp) (o : Oper) : Bool → Prop
  | true => AOp P w0 F o (PutK rest F o.dst) H
  | false => rest (putF F o.dst undef) H

def VOps (P : Program) (w0 : World) (N : Nat) (ops : Array Oper) : List Oper → (Fr → Hp → Prop) → Fr → Hp → Prop
  | [], K, F, H => K F H
  | o :: l, K, F, H => okDst N o.dst = true ∧ WantK P w0 (VOps P w0 N ops l K) F H o (Region.wanted o (yieldF ops F))

theorem VOps.sound {P : Program} {w0 : World} {N : Nat} {ops : Array Oper} {K : Fr → Hp → Prop} {R : Hp} {Q : Exit → Act → World → Prop}
    (hK : ∀ F H a w, H.disj R → Rel w0 (H.join R) w → FRel N F a → K F H → Q .normal a w) :
    ∀ (l : List Oper) (F : Fr) (H : Hp) (a : Act) (w : World), VOps P w0 N ops l K F H → H.disj R → Rel w0 (H.join R) w → FRel N F a → wpList P ops Q l a w := by
  intro l
  induction l with
  | nil => intro F H a w h hd hr hF; exact hK F H a w hd hr hF h
  | cons o l ih =>
    intro F H a w h hd hr hF
    obtain ⟨hdst, h⟩ := h
    unfold wpList
    rw [hF.yield ops]
    generalize hb : Region.wanted o (yieldF ops F) = b at h
    cases b with
    | true =>
      refine .inl (AOp.sound h hd hr hF ?_)
      intro v H' w' hd' hr' hk
      exact ih _ H' _ w' hk hd' hr' (hF.put hdst v)
    | false => exact ih _ H _ w h hd hr (hF.put hdst undef)

/-! ### Code -/
def AC (P : Program) (w0 : World) (N : Nat) (c : Code) (Q : Exit → Fr → Hp → Prop) (F : Fr) (H : Hp) : Prop :=
  ∀ R a w, H.disj R → Rel w0 (H.join R) w → FRel N F a → c.wp P (AQ w0 N R Q) a w

def SeqK (K : Fr → Hp → Prop) (Q : Exit → Fr → Hp → Prop) : Exit → Fr → Hp → Prop
  | .normal, F, H => K F H
  | e, F, H => Q e F H
def BlockK (id : Nat) (Q : Exit → Fr → Hp → Prop) : Exit → Fr → Hp → Prop
  | .exit id', F, H => if id' = id then Q .normal F H else Q (.exit id') F H
  | e, F, H => Q e F H
def BlockE (b : Bool) (id : Nat) (Q : Exit → Fr → Hp → Prop) (F : Fr) (H : Hp) : Prop :=
  match b with
  | true => Q .normal F H
  | false => Q (.exit id) F H
def NormK (Q : Exit → Fr → Hp → Prop) (F : Fr) (H : Hp) : Prop := Q .normal F H
def CondK (X Y : Fr → Hp → Prop) (F : Fr) (H : Hp) : Value → Prop
  | .bool true => X F H
  | .bool false => Y F H
  | _ => False

/-- Any order that the edges allow. -/
def AAny (P : Program) (w0 : World) (N : Nat) (ops : Array Oper) (K : Fr → Hp → Prop) : Nat → Array Bool → Fr → Hp → Prop
  | 0, listed, F, H => Region.ready .any ops listed = [] ∧ K F H
  | fuel + 1, listed, F, H =>
    (Region.ready .any ops listed = [] → K F H) ∧
    ∀ i ∈ Region.ready .any ops listed, ∀ o, ops[i]? = some o →
      okDst N o.dst = true ∧ WantK P w0 (AAny P w0 N ops K fuel (listed.setIfInBounds i true)) F H o (Region.wanted o (yieldF ops F))

theorem AAny.sound {P : Program} {w0 : World} {N : Nat} {ops : Array Oper} {K : Fr → Hp → Prop} {R : Hp} {Q : Exit → Act → World → Prop}
    (hK : ∀ F H a w, H.disj R → Rel w0 (H.join R) w → FRel N F a → K F H → Q .normal a w) :
    ∀ (fuel : Nat) (listed : Array Bool) (F : Fr) (H : Hp) (a : Act) (w : World), AAny P w0 N ops K fuel listed F H → H.disj R → Rel w0 (H.join R) w → FRel N F a →
      wpAny P .any ops Q fuel listed a w := by
  intro fuel
  induction fuel with
  | zero => intro listed F H a w h hd hr hF; exact ⟨h.1, hK F H a w hd hr hF h.2⟩
  | succ fuel ih =>
    intro listed F H a w h hd hr hF
    refine ⟨fun h0 => hK F H a w hd hr hF (h.1 h0), fun i hi => ?_⟩
    unfold wpOp
    cases ho : ops[i]? with
    | none =>
      obtain ⟨_, o, ho', _⟩ := mem_ready.1 hi
      rw [ho] at ho'; cases ho'
    | some o =>
      obtain ⟨hdst, h'⟩ := h.2 i hi o ho
      simp only []
      rw [hF.yield ops]
      generalize hb : Region.wanted o (yieldF ops F) = b at h'
      cases b with
      | true =>
        refine .inl (AOp.sound h' hd hr hF ?_)
        intro v H' w' hd' hr' hk
        exact ih _ _ H' _ w' hk hd' hr' (hF.put hdst v)
      | false => exact ih _ _ H _ w h' hd hr (hF.put hdst undef)

def VDraw (P : Program) (w0 : World) (N : Nat) (ops : Array Oper) (K : Fr → Hp → Prop) (F : Fr) (H : Hp) : Prop :=
  P.follows .mixedOrders = true ∧ AAny P w0 N ops K ops.size (Array.replicate ops.size false) F H

def VC (P : Program) (w0 : World) (N : Nat) : Code → (Exit → Fr → Hp → Prop) → Fr → Hp → Prop
  | .skip, Q, F, H => Q .normal F H
  | .region _ ops false, Q, F, H => VOps P w0 N ops ops.toList (NormK Q) F H
  | .region _ ops true, Q, F, H => VDraw P w0 N ops (NormK Q) F H
  | .seq a b, Q, F, H => VC P w0 N a (SeqK (VC P w0 N b Q) Q) F H
  | .cond c x y, Q, F, H => CondK (VC P w0 N x Q) (VC P w0 N y Q) F H (evF F c)
  | .block id c, Q, F, H => VC P w0 N c (BlockK id Q) F H
  | .loop c, Q, F, H => AC P w0 N (.loop c) Q F H
  | .exit id, Q, F, H => Q (.exit id) F H
  | .ret, Q, F, H => Q .ret F H
  | _, _, _, _ => False

theorem AQ.seq {w0 : World} {N : Nat} {R : Hp} {K : Fr → Hp → Prop} {Q : Exit → Fr → Hp → Prop} {P : Program} {y : Code}
    (hy : ∀ F H a w, H.disj R → Rel w0 (H.join R) w → FRel N F a → K F H → y.wp P (AQ w0 N R Q) a w) {e : Exit} {a : Act} {w : World}
    (h : AQ w0 N R (SeqK K Q) e a w) : Exit.then (y.wp P (AQ w0 N R Q)) (AQ w0 N R Q) e a w := by
  obtain ⟨F, H, hd, hr, hF, hq⟩ := h
  cases e with
  | normal => exact hy F H a w hd hr hF hq
  | _ => exact ⟨F, H, hd, hr, hF, hq⟩

theorem VC.sound {P : Program} {w0 : World} {N : Nat} : ∀ (c : Code) (Q : Exit → Fr → Hp → Prop) (F : Fr) (H : Hp), VC P w0 N c Q F H → AC P w0 N c Q F H := by
  intro c
  induction c with
  | skip => intro Q F H h R a w hd hr hF; exact wp_skip ⟨F, H, hd, hr, hF, h⟩
  | region id ops d =>
    intro Q F H h R a w hd hr hF
    cases d with
    | false =>
      refine wp_region_list (VOps.sound (K := NormK Q) (R := R) ?_ _ F H a w h hd hr hF)
      exact fun F H a w hd hr hF hk => ⟨F, H, hd, hr, hF, hk⟩
    | true =>
      obtain ⟨hm, h⟩ := h
      refine wp_region_any hm (AAny.sound (K := NormK Q) (R := R) ?_ _ _ F H a _ h hd (rel_drawn hr) hF)
      exact fun F H a w hd hr hF hk => ⟨F, H, hd, hr, hF, hk⟩
  | seq x y ihx ihy =>
    intro Q F H h R a w hd hr hF
    exact wp_seq (wp_mono (ihx _ F H h R a w hd hr hF) fun e a w he => AQ.seq (fun F H a w hd hr hF hk => ihy Q F H hk R a w hd hr hF) he)
  | cond c x y ihx ihy =>
    intro Q F H h R a w hd hr hF
    simp only [VC] at h
    generalize hv : evF F c = v at h
    have hev : a.eval c = v := by rw [hF.eval]; exact hv
    cases v with
    | bool t =>
      cases t with
      | true => exact wp_cond_true hev (ihx Q F H h R a w hd hr hF)
      | false => exact wp_cond_false hev (ihy Q F H h R a w hd hr hF)
    | _ => exact h.elim
  | block id c ih =>
    intro Q F H h R a w hd hr hF
    refine wp_block (wp_mono (ih _ F H h R a w hd hr hF) ?_)
    rintro e a w ⟨F, H, hd, hr, hF, hq⟩
    cases e with
    | exit id' =>
      simp only [BlockK] at hq
      simp only [Exit.inBlock]
      split at hq
      · rename_i e; rw [if_pos e]; exact ⟨F, H, hd, hr, hF, hq⟩
      · rename_i e; rw [if_neg e]; exact ⟨F, H, hd, hr, hF, hq⟩
    | _ => exact ⟨F, H, hd, hr, hF, hq⟩
  | loop c ih => intro Q F H h; exact h
  | exit id => intro Q F H h R a w hd hr hF; exact wp_exit ⟨F, H, hd, hr, hF, h⟩
  | ret => intro Q F H h R a w hd hr hF; exact wp_ret ⟨F, H, hd, hr, hF, h⟩
  | _ => intro Q F H h; exact h.elim

theorem least {S : Nat → Prop} (h : ∃ n, S n) : ∃ n, S n ∧ ∀ m, S m → n ≤ m := by
  obtain ⟨n, hn⟩ := h
  induction n using Nat.strongRecOn with
  | _ n ih =>
    by_cases hm : ∃ m, m < n ∧ S m
    · obtain ⟨m, hlt, hs⟩ := hm; exact ih m hlt hs
    · exact ⟨n, hn, fun m hs => Nat.le_of_not_lt fun hlt => hm ⟨m, hlt, hs⟩⟩

/-- A loop: I n holds at the head of a round when at most n rounds are left. -/
theorem AC.loop {P : Program} {w0 : World} {N : Nat} {c : Code} {Q : Exit → Fr → Hp → Prop} (I : Nat → Fr → Hp → Prop) {n : Nat} {F : Fr} {H : Hp} (h0 : I n F H)
    (round : ∀ n F H, I n F H → VC P w0 N c (SeqK (fun F' H' => ∃ m, m < n ∧ I m F' H') Q) F H) : AC P w0 N (.loop c) Q F H := by
  intro R a w hd hr hF
  classical
  let S : Act → World → Nat → Prop := fun a w n => ∃ F H, H.disj R ∧ Rel w0 (H.join R) w ∧ FRel N F a ∧ I n F H
  let μ : Act → World → Nat := fun a w => if h : ∃ n, S a w n then Classical.choose (least h) else 0
  refine wp_loop (fun a w => ∃ n, S a w n) μ ⟨n, F, H, hd, hr, hF, h0⟩ ?_
  intro a w hS
  have hμ : μ a w = Classical.choose (least hS) := by simp only [μ]; rw [dif_pos hS]
  obtain ⟨F, H, hd, hr, hF, hI⟩ := (Classical.choose_spec (least hS)).1
  refine wp_mono (VC.sound c _ F H (round _ F H hI) R a w hd hr hF) ?_
  rintro e a' w' ⟨F', H', hd', hr', hF', hq⟩
  cases e with
  | normal =>
    obtain ⟨m, hm, hI'⟩ := hq
    have hS' : ∃ n, S a' w' n := ⟨m, F', H', hd', hr', hF', hI'⟩
    refine ⟨hS', ?_⟩
    have hμ' : μ a' w' = Classical.choose (least hS') := by simp only [μ]; rw [dif_pos hS']
    rw [hμ, hμ']
    exact Nat.lt_of_le_of_lt ((Classical.choose_spec (least hS')).2 m ⟨F', H', hd', hr', hF', hI'⟩) hm
  | _ => exact ⟨F', H', hd', hr', hF', hq⟩

/-- From a call to the row: a call that gives v whatever it owns. -/
theorem ACalls.top {P : Program} {f : FuncId} {args : Array Value} {w : World} {Q : Value → Prop} (h : ACalls P w f args (fun _ => none) (fun r _ => Q r)) :
    Calls P f args w fun e w' => (∃ r, e = .returned r ∧ Q r) ∧ Below w.heap.size w w' := by
  refine (h (fun _ => none) w (fun _ => .inl rfl) ⟨fun b o hb => (by simp [Hp.join] at hb), Below.refl _ _⟩).mono ?_
  rintro e w' ⟨r, H', rfl, _, hr, hq⟩
  exact ⟨⟨r, rfl, hq⟩, hr.below⟩

#print axioms AC.loop
end Go.Proofs.YtoolnkemkhianaaDoorW
