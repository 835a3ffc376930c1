/-
  An abstract weakest precondition over a part of the heap, with the frame built in; its rules, proved sound once over any program.
  No condition: every theorem here is general.
-/
import Derived.Below
import Derived.Calls
import Derived.Tactics
set_option linter.unusedSimpArgs false
set_option linter.unusedVariables false
namespace Go.Proofs.YtoolnkemkhianaaDoorW
open Go Go.RowKit

/-! ### Heaps -/
abbrev Hp := Nat → Option Obj
def Hp.set (H : Hp) (b : Nat) (o : Obj) : Hp := fun i => if i = b then some o else H i
def Hp.disj (H R : Hp) : Prop := ∀ b, H b = none ∨ R b = none
def Hp.join (H R : Hp) : Hp := fun b => match H b with | some o => some o | none => R b

theorem Hp.set_same (H : Hp) (b : Nat) (o : Obj) : (H.set b o) b = some o := by simp [Hp.set]
theorem Hp.set_ne (H : Hp) (b i : Nat) (o : Obj) (h : i ≠ b) : (H.set b o) i = H i := by simp [Hp.set, h]

/-- World w holds the part H; below the world w0 nothing has turned. -/
structure Rel (w0 : World) (H : Hp) (w : World) : Prop where
  own : ∀ b o, H b = some o → w0.heap.size ≤ b ∧ w.heap[b]? = some o
  below : Below w0.heap.size w0 w

theorem Rel.lt {w0 : World} {H : Hp} {w : World} (h : Rel w0 H w) {b : Nat} {o : Obj} (hb : H b = some o) : b < w.heap.size := by
  have := (h.own b o hb).2
  rcases Nat.lt_or_ge b w.heap.size with h' | h'
  · exact h'
  · simp [Array.getElem?_eq_none h'] at this

theorem Hp.join_left {H R : Hp} {b : Nat} {o : Obj} (h : H b = some o) : (H.join R) b = some o := by simp [Hp.join, h]
theorem Hp.join_right {H R : Hp} {b : Nat} (h : H b = none) : (H.join R) b = R b := by simp [Hp.join, h]

/-! ### Loads -/
def ld (w0 : World) (H : Hp) (a : Addr) : Option Value :=
  match H a.block with
  | some (.cells c _ _) => if a.spot.isSome then none else c[a.off]?
  | some _ => none
  | none => w0.cell? a

theorem ld_cell {w0 : World} {H R : Hp} {w : World} (hr : Rel w0 (H.join R) w) {a : Addr} {v : Value} (h : ld w0 H a = some v) : w.cell? a = some v := by
  unfold ld at h
  cases hb : H a.block with
  | none =>
    rw [hb] at h
    have hlt := World.block_lt_of_cell? w0 a h
    exact (hr.below.cell hlt).trans h
  | some o =>
    rw [hb] at h
    have := (hr.own a.block o (Hp.join_left hb)).2
    cases o <;> simp_all [World.cell?]

/-- May the own cell be written? -/
def wr (H : Hp) (a : Addr) : Option Obj :=
  match H a.block with
  | some (.cells c e (lo, hi)) => if a.spot.isNone && decide (a.off < c.size) && !(decide (lo ≤ a.off) && decide (a.off < hi)) then some (.cells c e (lo, hi)) else none
  | _ => none

def Obj.put (o : Obj) (i : Nat) (v : Value) : Obj :=
  match o with
  | .cells c e fr => .cells (c.setIfInBounds i v) e fr
  | o => o

def Obj.frz (o : Obj) (a : Addr) (n : Nat) : Obj :=
  match o with
  | .cells c elem (lo, hi) => .cells c elem (if lo == hi then (a.off, a.off + n) else (min lo a.off, max hi (a.off + n)))
  | o => o

/-- One cell's value. -/
def cell1 : Value → Bool
  | .agg _ | .tuple _ => false
  | _ => true

/-! ### The abstract weakest precondition of a Sem -/
def awp (P : Program) (w0 : World) {α : Type} : Sem α → (α → Hp → Prop) → Hp → Prop
  | .pure a, Q, H => Q a H
  | .load _ a k, Q, H =>
    match ld w0 H a with
    | some v => awp P w0 (k v) Q H
    | none => False
  | .store _ a v k, Q, H =>
    cell1 v = true ∧
    match wr H a with
    | some o => awp P w0 k Q (H.set a.block (Obj.put o a.off v))
    | none => False
  | .new o k, Q, H => ∀ b, w0.heap.size ≤ b → H b = none → awp P w0 (k b) Q (H.set b o)
  | .shape r k, Q, H =>
    match H r with
    | some (.cells c e _) => awp P w0 (k (some (e, c.size))) Q H
    | some _ => awp P w0 (k none) Q H
    | none => r < w0.heap.size ∧ awp P w0 (k (w0.shape? r)) Q H
  | .freeze a n k, Q, H =>
    match H a.block with
    | some o => awp P w0 k Q (if n = 0 then H else H.set a.block (Obj.frz o a n))
    | none => n = 0 ∧ awp P w0 k Q H
  | .frozen a k, Q, H =>
    match H a.block with
    | some (.cells _ _ (lo, hi)) => awp P w0 (k (lo ≤ a.off && a.off < hi)) Q H
    | some _ => awp P w0 (k false) Q H
    | none => a.block < w0.heap.size ∧ awp P w0 (k (w0.frozen? a)) Q H
  | .getObj r k, Q, H =>
    match H r with
    | some (.cells ..) => False
    | some o => awp P w0 (k o) Q H
    | none => False
  | .setObj r o k, Q, H =>
    match H r with
    | some (.cells ..) => False
    | some _ => awp P w0 k Q (H.set r o)
    | none => False
  | .choose q k, Q, H =>
    if q.forced then awp P w0 (k 0) Q H else ∀ n, awp P w0 (k (q.cut n)) Q H
  | .sys _ _, _, _ => False
  | .program k, Q, H => awp P w0 (k P) Q H
  | .mark _ k, Q, H => awp P w0 k Q H
  | .halt _, _, _ => False

/-- What a run gives: a value, a new part of the heap, the frame as it was. -/
def Gives (P : Program) (w0 : World) {α : Type} (r : Result α) (Q : α → Hp → Prop) (R : Hp) : Prop :=
  ∃ a H' w', r = .ok a w' ∧ H'.disj R ∧ Rel w0 (H'.join R) w' ∧ Q a H'

theorem disj_set {H R : Hp} (hd : H.disj R) {b : Nat} (o : Obj) (hb : R b = none) : (H.set b o).disj R := by
  intro i
  by_cases e : i = b
  · subst e; exact .inr hb
  · rw [Hp.set_ne _ _ _ _ e]; exact hd i

theorem join_set {H R : Hp} (b : Nat) (o : Obj) : (H.set b o).join R = (H.join R).set b o := by
  funext i
  by_cases e : i = b
  · subst e; simp [Hp.join, Hp.set]
  · simp [Hp.join, Hp.set, e]

theorem rel_new {w0 : World} {H : Hp} {w : World} (hr : Rel w0 H w) (o : Obj) : Rel w0 (H.set w.heap.size o) { w with heap := w.heap.push o } := by
  refine ⟨fun b o' hb => ?_, hr.below.trans ?_⟩
  · by_cases e : b = w.heap.size
    · subst e
      rw [Hp.set_same] at hb
      cases hb
      exact ⟨hr.below.size, by simp⟩
    · rw [Hp.set_ne _ _ _ _ e] at hb
      have h := hr.own b o' hb
      have hlt := hr.lt hb
      exact ⟨h.1, by rw [Array.getElem?_push, if_neg e]; exact h.2⟩
  · exact ⟨rfl, rfl, rfl, by simp, fun k hk => Below.heap_alloc w o k (Nat.lt_of_lt_of_le hk hr.below.size)⟩

theorem rel_drawn {w0 : World} {H : Hp} {w : World} (hr : Rel w0 H w) : Rel w0 H { w with drawn := w.drawn + 1 } :=
  ⟨hr.own, hr.below.trans ⟨rfl, rfl, rfl, Nat.le_refl _, fun _ _ => rfl⟩⟩

theorem rel_upd {w0 : World} {H : Hp} {w w' : World} (hr : Rel w0 H w) {b : Nat} {o o' : Obj} (hb : H b = some o)
    (hos : w'.os = w.os) (htape : w'.tape = w.tape) (hout : w'.output = w.output) (hsize : w'.heap.size = w.heap.size)
    (hsame : w'.heap[b]? = some o') (hother : ∀ k, k ≠ b → w'.heap[k]? = w.heap[k]?) : Rel w0 (H.set b o') w' := by
  refine ⟨fun k ok hk => ?_, ?_⟩
  · by_cases e : k = b
    · subst e
      rw [Hp.set_same] at hk
      cases hk
      exact ⟨(hr.own k o hb).1, hsame⟩
    · rw [Hp.set_ne _ _ _ _ e] at hk
      exact ⟨(hr.own k ok hk).1, (hother k e).trans (hr.own k ok hk).2⟩
  · exact hr.below.trans ⟨hos, htape, hout, by omega, fun k hk => hother k (by have := (hr.own b o hb).1; omega)⟩

theorem disj_none {H R : Hp} (hd : H.disj R) {b : Nat} {o : Obj} (h : H b = some o) : R b = none := by
  rcases hd b with h' | h'
  · rw [h] at h'; cases h'
  · exact h'

theorem wr_some {H : Hp} {a : Addr} {o : Obj} (h : wr H a = some o) : H a.block = some o ∧ a.spot = none ∧ ∃ c e lo hi, o = .cells c e (lo, hi) ∧ a.off < c.size ∧ (decide (lo ≤ a.off) && decide (a.off < hi)) = false := by
  unfold wr at h
  split at h
  · rename_i c e lo hi hb
    split at h
    · rename_i hc
      cases h
      simp only [Bool.and_eq_true, Option.isNone_iff_eq_none, decide_eq_true_eq, Bool.not_eq_true'] at hc
      exact ⟨hb, hc.1.1, c, e, lo, hi, rfl, hc.1.2, hc.2⟩
    · cases h
  · cases h

theorem awp_run (P : Program) (w0 : World) {α : Type} (s : Sem α) : ∀ (Q : α → Hp → Prop) (H R : Hp) (w : World),
    awp P w0 s Q H → H.disj R → Rel w0 (H.join R) w → Gives P w0 (s.run P w) Q R := by
  induction s with
  | pure a => intro Q H R w h hd hr; exact ⟨a, H, w, rfl, hd, hr, h⟩
  | load m a k ih =>
    intro Q H R w h hd hr
    simp only [awp] at h
    split at h
    · rename_i v hv
      have := ih v Q H R w h hd hr
      simp only [Sem.run, ld_cell hr hv]
      exact this
    · exact h.elim
  | store m a v k ih =>
    intro Q H R w h hd hr
    simp only [awp] at h
    obtain ⟨h1, h⟩ := h
    split at h
    · rename_i o ho
      obtain ⟨hb, hs, c, e, lo, hi, rfl, hlt, hfr⟩ := wr_some ho
      have hw := (hr.own a.block _ (Hp.join_left hb)).2
      have hc : w.cell? a = some (c[a.off]'hlt) := by simp [World.cell?, hw, hs, hlt]
      have hf : w.frozen? a = false := by simp only [World.frozen?, hw]; exact hfr
      have hnew : Rel w0 ((H.set a.block (Obj.put (.cells c e (lo, hi)) a.off v)).join R) (w.setCell a v) := by
        rw [join_set]
        have hsz : a.block < w.heap.size := hr.lt (Hp.join_left hb)
        refine rel_upd hr (Hp.join_left hb) rfl rfl rfl (by simp [World.setCell]) ?_ (fun k hk => Below.heap_setCell w a v k hk)
        have hwb : w.heap[a.block] = .cells c e (lo, hi) := by simpa [Array.getElem?_eq_getElem hsz] using hw
        show (w.heap.modify a.block _)[a.block]? = _
        rw [Array.getElem?_eq_getElem (by simpa using hsz), Array.getElem_modify_self, hwb]
        simp [Obj.put, hs]
      have := ih Q _ R _ h (disj_set hd _ (disj_none hd hb)) hnew
      cases v <;> simp only [cell1, Bool.false_eq_true] at h1 <;> (simp only [Sem.run, hc, hf, Bool.false_eq_true, if_false]; exact this)
    · exact h.elim
  | new o k ih =>
    intro Q H R w h hd hr
    simp only [awp] at h
    have hnone : (H.join R) w.heap.size = none := by
      cases hj : (H.join R) w.heap.size with
      | none => rfl
      | some o' => have := hr.lt hj; omega
    have hH : H w.heap.size = none := by
      cases hj : H w.heap.size with
      | none => rfl
      | some o' => rw [Hp.join_left hj] at hnone; cases hnone
    have hR : R w.heap.size = none := by rw [Hp.join_right hH] at hnone; exact hnone
    have := ih w.heap.size Q _ R { w with heap := w.heap.push o } (h _ hr.below.size hH) (disj_set hd _ hR) (by rw [join_set]; exact rel_new hr o)
    simpa only [Sem.run] using this
  | shape r k ih =>
    intro Q H R w h hd hr
    simp only [awp] at h
    simp only [Sem.run]
    cases hb : H r with
    | none =>
      simp only [hb] at h
      have : w.shape? r = w0.shape? r := by unfold World.shape?; rw [hr.below.block r h.1]
      rw [this]
      exact ih _ Q H R w h.2 hd hr
    | some o =>
      have hw := (hr.own r _ (Hp.join_left hb)).2
      simp only [hb] at h
      cases o <;> (simp only [World.shape?, hw]; exact ih _ Q H R w h hd hr)
  | freeze a n k ih =>
    intro Q H R w h hd hr
    simp only [awp] at h
    simp only [Sem.run]
    cases hb : H a.block with
    | none =>
      simp only [hb] at h
      obtain ⟨rfl, h⟩ := h
      simp only [World.freeze, if_true]
      exact ih Q H R w h hd hr
    | some o =>
      simp only [hb] at h
      by_cases hn : n = 0
      · subst hn
        simp only [World.freeze, if_true] at h ⊢
        exact ih Q H R w h hd hr
      · simp only [if_neg hn] at h
        have hw := (hr.own a.block _ (Hp.join_left hb)).2
        have hsz : a.block < w.heap.size := hr.lt (Hp.join_left hb)
        refine ih Q _ R _ h (disj_set hd _ (disj_none hd hb)) ?_
        rw [join_set]
        simp only [World.freeze, if_neg hn]
        refine rel_upd hr (Hp.join_left hb) rfl rfl rfl (by simp) ?_ (fun k hk => ?_)
        · have hwb : w.heap[a.block] = o := by simpa [Array.getElem?_eq_getElem hsz] using hw
          show (w.heap.modify a.block _)[a.block]? = _
          rw [Array.getElem?_eq_getElem (by simpa using hsz), Array.getElem_modify_self, hwb]
          cases o <;> rfl
        · show (w.heap.modify a.block _)[k]? = _
          rw [Array.getElem?_modify, if_neg (fun e => hk e.symm)]
  | frozen a k ih =>
    intro Q H R w h hd hr
    simp only [awp] at h
    simp only [Sem.run]
    cases hb : H a.block with
    | none =>
      simp only [hb] at h
      have : w.frozen? a = w0.frozen? a := hr.below.frozen h.1
      rw [this]
      exact ih _ Q H R w h.2 hd hr
    | some o =>
      have hw := (hr.own a.block _ (Hp.join_left hb)).2
      simp only [hb] at h
      cases o <;> (simp only [World.frozen?, hw]; exact ih _ Q H R w h hd hr)
  | getObj r k ih =>
    intro Q H R w h hd hr
    simp only [awp] at h
    simp only [Sem.run]
    cases hb : H r with
    | none => simp only [hb] at h
    | some o =>
      have hw := (hr.own r _ (Hp.join_left hb)).2
      simp only [hb] at h
      cases o <;> first | exact h.elim | (simp only [hw]; exact ih _ Q H R w h hd hr)
  | setObj r o' k ih =>
    intro Q H R w h hd hr
    simp only [awp] at h
    simp only [Sem.run]
    cases hb : H r with
    | none => simp only [hb] at h
    | some o =>
      have hw := (hr.own r _ (Hp.join_left hb)).2
      have hsz : r < w.heap.size := hr.lt (Hp.join_left hb)
      have hnew : Rel w0 ((H.set r o').join R) { w with heap := w.heap.setIfInBounds r o' } := by
        rw [join_set]
        refine rel_upd hr (Hp.join_left hb) rfl rfl rfl (by simp) ?_ (fun k hk => ?_)
        · simp [hsz]
        · simp [Ne.symm hk]
      simp only [hb] at h
      cases o <;> first | exact h.elim | (simp only [hw]; exact ih Q _ R _ h (disj_set hd _ (disj_none hd hb)) hnew)
  | choose q k ih =>
    intro Q H R w h hd hr
    simp only [awp] at h
    simp only [Sem.run]
    split
    · rename_i hq; rw [if_pos hq] at h; exact ih _ Q H R w h hd hr
    · rename_i hq; rw [if_neg hq] at h; exact ih _ Q H R _ (h _) hd (rel_drawn hr)
  | sys c k ih => intro Q H R w h hd hr; exact h.elim
  | program k ih => intro Q H R w h hd hr; exact ih P Q H R w h hd hr
  | mark m k ih => intro Q H R w h hd hr; exact ih Q H R w h hd hr
  | halt h => intro Q H R w hh hd hr; exact hh.elim

theorem awp_mono (P : Program) (w0 : World) {α : Type} (s : Sem α) : ∀ {Q Q' : α → Hp → Prop} {H : Hp}, awp P w0 s Q H → (∀ a H', Q a H' → Q' a H') → awp P w0 s Q' H := by
  induction s with
  | pure a => intro Q Q' H h hq; exact hq _ _ h
  | load m a k ih =>
    intro Q Q' H h hq
    simp only [awp] at h ⊢
    split at h
    · rename_i v hv; exact ih v h hq
    · exact h.elim
  | store m a v k ih =>
    intro Q Q' H h hq
    simp only [awp] at h ⊢
    refine ⟨h.1, ?_⟩
    have h := h.2
    split at h
    · exact ih h hq
    · exact h.elim
  | new o k ih => intro Q Q' H h hq; simp only [awp] at h ⊢; exact fun b h1 h2 => ih b (h b h1 h2) hq
  | shape r k ih =>
    intro Q Q' H h hq
    simp only [awp] at h ⊢
    split at h
    · exact ih _ h hq
    · exact ih _ h hq
    · exact ⟨h.1, ih _ h.2 hq⟩
  | freeze a n k ih =>
    intro Q Q' H h hq
    simp only [awp] at h ⊢
    split at h
    · exact ih h hq
    · exact ⟨h.1, ih h.2 hq⟩
  | frozen a k ih =>
    intro Q Q' H h hq
    simp only [awp] at h ⊢
    split at h
    · exact ih _ h hq
    · exact ih _ h hq
    · exact ⟨h.1, ih _ h.2 hq⟩
  | getObj r k ih =>
    intro Q Q' H h hq
    simp only [awp] at h ⊢
    split at h
    · exact h.elim
    · exact ih _ h hq
    · exact h.elim
  | setObj r o k ih =>
    intro Q Q' H h hq
    simp only [awp] at h ⊢
    split at h
    · exact h.elim
    · exact ih h hq
    · exact h.elim
  | choose q k ih =>
    intro Q Q' H h hq
    simp only [awp] at h ⊢
    by_cases hf : q.forced = true
    · rw [if_pos hf] at h ⊢; exact ih _ h hq
    · rw [if_neg hf] at h ⊢; exact fun n => ih _ (h n) hq
  | sys c k ih => intro Q Q' H h hq; exact h.elim
  | program k ih => intro Q Q' H h hq; exact ih P h hq
  | mark m k ih => intro Q Q' H h hq; exact ih h hq
  | halt h => intro Q Q' H hh hq; exact hh.elim

/-- The continuation of a bind. -/
def BindK (P : Program) (w0 : World) {α β : Type} (f : α → Sem β) (Q : β → Hp → Prop) (a : α) (H : Hp) : Prop := awp P w0 (f a) Q H

theorem awp_sembind (P : Program) (w0 : World) {α β : Type} (s : Sem α) (f : α → Sem β) : ∀ (Q : β → Hp → Prop) (H : Hp),
    awp P w0 (Sem.bind s f) Q H = awp P w0 s (BindK P w0 f Q) H := by
  induction s with
  | pure a => intro Q H; rfl
  | load m a k ih => intro Q H; simp only [Sem.bind, awp, ih]
  | store m a v k ih => intro Q H; simp only [Sem.bind, awp, ih]
  | new o k ih => intro Q H; simp only [Sem.bind, awp, ih]
  | shape r k ih => intro Q H; simp only [Sem.bind, awp, ih]
  | freeze a n k ih => intro Q H; simp only [Sem.bind, awp, ih]
  | frozen a k ih => intro Q H; simp only [Sem.bind, awp, ih]
  | getObj r k ih => intro Q H; simp only [Sem.bind, awp, ih]
  | setObj r o k ih => intro Q H; simp only [Sem.bind, awp, ih]
  | choose q k ih => intro Q H; simp only [Sem.bind, awp, ih]
  | sys c k ih => intro Q H; rfl
  | program k ih => intro Q H; simp only [Sem.bind, awp, ih]
  | mark m k ih => intro Q H; simp only [Sem.bind, awp, ih]
  | halt h => intro Q H; rfl

theorem awp_bind (P : Program) (w0 : World) {α β : Type} (s : Sem α) (f : α → Sem β) (Q : β → Hp → Prop) (H : Hp) :
    awp P w0 (s >>= f) Q H = awp P w0 s (BindK P w0 f Q) H := awp_sembind P w0 s f Q H
theorem awp_pure (P : Program) (w0 : World) {α : Type} (a : α) (Q : α → Hp → Prop) (H : Hp) : awp P w0 (pure a : Sem α) Q H = Q a H := rfl
theorem awp_map (P : Program) (w0 : World) {α β : Type} (s : Sem α) (f : α → β) (Q : β → Hp → Prop) (H : Hp) :
    awp P w0 (f <$> s) Q H = awp P w0 s (BindK P w0 (fun a => pure (f a)) Q) H := awp_sembind P w0 s _ Q H

#print axioms awp_run
#print axioms awp_mono
end Go.Proofs.YtoolnkemkhianaaDoorW
