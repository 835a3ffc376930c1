/-
  A function's call out of its body; results.
  No condition: every theorem here is general.
-/
import Derived.Test.YtoolnkemkhianaaDoorAwo
set_option linter.unusedSimpArgs false
set_option linter.unusedVariables false
namespace Go.Proofs.YtoolnkemkhianaaDoorW
open Go Go.RowKit

def argF (args : Array Value) : Fr := fun i => args.getD i undef

def resOne (P : Program) (w0 : World) (F : Fr) (H : Hp) : ResultVar → Option Value
  | .tmp t => some (F t)
  | .cell a t => match F a with
    | .pointer (some ad) => ldVar P w0 H t ad
    | _ => none
def ResCell (P : Program) (w0 : World) (H : Hp) (t : TypeId) : Value → Option Value
  | .pointer (some ad) => ldVar P w0 H t ad
  | _ => none
def LdK (P : Program) (w0 : World) (H : Hp) (t : TypeId) (a : Addr) : Option Bool → Option Value
  | some true => (szOf P t).bind fun n => (ldCells w0 H a 0 n).map fun l => .agg l.toArray
  | some false => ld w0 H a
  | none => none
def StK (K : Value → Hp → Prop) : Option Hp → Prop
  | some H' => K undef H'
  | none => False
def NotK (K : Value → Hp → Prop) (H : Hp) : Value → Prop
  | .bool b => K (.bool !b) H
  | _ => False
def resVal (P : Program) (w0 : World) (F : Fr) (H : Hp) : List ResultVar → Option Value
  | [] => some (.tuple #[])
  | [x] => resOne P w0 F H x
  | [x, y] => (resOne P w0 F H x).bind fun u => (resOne P w0 F H y).map fun v => .tuple #[u, v]
  | _ => none

def ResK (Q : Value → Hp → Prop) (H : Hp) : Option Value → Prop
  | some v => Q v H
  | none => False

def RetK (P : Program) (w0 : World) (rs : List ResultVar) (Q : Value → Hp → Prop) : Exit → Fr → Hp → Prop
  | .normal, F, H => ResK Q H (resVal P w0 F H rs)
  | .ret, F, H => ResK Q H (resVal P w0 F H rs)
  | _, _, _ => False

theorem run_cells {P : Program} {w0 : World} {H R : Hp} {w : World} (hr : Rel w0 (H.join R) w) (a : Addr) : ∀ (n i : Nat) (acc : Array Value) (l : List Value),
    ldCells w0 H a i n = some l → (loadCellsFrom a i n acc).run P w = .ok (acc ++ l.toArray) w
  | 0, i, acc, l, h => by
    simp only [ldCells, Option.some.injEq] at h
    subst h
    simp [loadCellsFrom]
  | n + 1, i, acc, l, h => by
    simp only [ldCells] at h
    cases hv : ld w0 H (a.add i) with
    | none => rw [hv] at h; cases h
    | some v =>
      rw [hv, Option.bind_some] at h
      cases hl : ldCells w0 H a (i + 1) n with
      | none => rw [hl] at h; cases h
      | some l' =>
        rw [hl, Option.map_some, Option.some.injEq] at h
        subst h
        have hc := ld_cell hr hv
        have ih := run_cells (P := P) hr a n (i + 1) (acc.push v) l' hl
        simp [loadCellsFrom, load, hc, Sem.run, ih]

theorem run_var {P : Program} {w0 : World} {H R : Hp} {w : World} (hr : Rel w0 (H.join R) w) {t : TypeId} {a : Addr} {v : Value} (h : ldVar P w0 H t a = some v) :
    (loadVar t a).run P w = .ok v w := by
  unfold ldVar at h
  split at h
  · rename_i hag
    cases hs : szOf P t with
    | none => rw [hs] at h; cases h
    | some n =>
      rw [hs, Option.bind_some] at h
      cases hl : ldCells w0 H a 0 n with
      | none => rw [hl] at h; cases h
      | some l =>
        rw [hl, Option.map_some, Option.some.injEq] at h
        subst h
        have hc := run_cells (P := P) hr a n 0 #[] l hl
        have hi : (isAgg t).run P w = .ok true w := by
          unfold agOf at hag
          cases hu : P.underlying t with
          | none => rw [hu] at hag; cases hag
          | some d =>
            rw [hu, Option.map_some, Option.some.injEq] at hag
            cases d <;> first | (cases hag; done) | (simp [isAgg, underlying, hu])
        have hz : (sizeOf t).run P w = .ok n w := by
          unfold szOf at hs
          cases hi : P.info? t with
          | none => rw [hi] at hs; cases hs
          | some i => rw [hi] at hs; simp at hs; simp [sizeOf, typeInfo, hi, hs]
        simp [loadVar, hi, hz, loadCells, hc]
  · rename_i hag
    have hi : (isAgg t).run P w = .ok false w := by
      unfold agOf at hag
      cases hu : P.underlying t with
      | none => rw [hu] at hag; cases hag
      | some d =>
        rw [hu, Option.map_some, Option.some.injEq] at hag
        cases d <;> first | (cases hag; done) | (simp [isAgg, underlying, hu])
    have hc := ld_cell hr h
    simp [loadVar, hi, load, Sem.run, hc]
  · cases h

theorem run_one {P : Program} {w0 : World} {H R : Hp} {w : World} (hr : Rel w0 (H.join R) w) {N : Nat} {F : Fr} {a : Act} (hF : FRel N F a) {x : ResultVar} {v : Value}
    (h : resOne P w0 F H x = some v) : (match x with
      | .tmp t => (pure (a.tmps.getD t undef) : Sem Value)
      | .cell b t => do loadVar t (← asAddr (a.tmps.getD b undef))).run P w = .ok v w := by
  cases x with
  | tmp t =>
    simp only [resOne, Option.some.injEq] at h
    subst h
    simp only [hF.slot]
    rfl
  | cell b t =>
    simp only [resOne] at h
    simp only [hF.slot]
    split at h
    · rename_i ad had
      have := run_var (P := P) hr h
      simp [had, asAddr, this]
    · cases h

theorem run_onec {P : Program} {w0 : World} {H R : Hp} {w : World} (hr : Rel w0 (H.join R) w) {N : Nat} {F : Fr} {a : Act} (hF : FRel N F a) {b : Tmp} {t : TypeId} {v : Value}
    (h : resOne P w0 F H (.cell b t) = some v) : ∃ ad, (asAddr (a.tmps[b]?.getD undef)).run P w = .ok ad w ∧ (loadVar t ad).run P w = .ok v w := by
  simp only [resOne] at h
  have hs := hF.slot b
  rw [Array.getD_eq_getD_getElem?] at hs
  split at h
  · rename_i ad had
    exact ⟨ad, by rw [hs, had]; rfl, run_var (P := P) hr h⟩
  · cases h

theorem results_run {P : Program} {w0 : World} {H R : Hp} {w : World} (hr : Rel w0 (H.join R) w) {fn : Func} {N : Nat} {F : Fr} {a : Act} (hF : FRel N F a) {v : Value}
    (h : resVal P w0 F H fn.results.toList = some v) : (results fn a.tmps).run P w = .ok v w := by
  generalize hl : fn.results.toList = l at h
  have hrs : fn.results = l.toArray := by rw [← hl]
  unfold results
  rw [hrs]
  unfold resVal at h
  split at h
  · cases h; simp
  · rename_i x
    have h1 := run_one (P := P) hr hF h
    simp only [List.mapM_toArray, List.mapM_cons, List.mapM_nil]
    cases x with
    | tmp t => simp at h1 ⊢; exact h1
    | cell b t => simp at h1 ⊢; rw [h1]
  · rename_i x y
    cases hx : resOne P w0 F H x with
    | none => rw [hx] at h; cases h
    | some u =>
      rw [hx, Option.bind_some] at h
      cases hy : resOne P w0 F H y with
      | none => rw [hy] at h; cases h
      | some u' =>
        rw [hy, Option.map_some, Option.some.injEq] at h
        subst h
        simp only [List.mapM_toArray, List.mapM_cons, List.mapM_nil]
        cases x with
        | tmp t =>
          have h1 := run_one (P := P) hr hF hx
          simp at h1
          cases y with
          | tmp t' =>
            have h2 := run_one (P := P) hr hF hy
            simp at h2
            simp [h1, h2]
          | cell b t' =>
            obtain ⟨ad, e1, e2⟩ := run_onec (P := P) hr hF hy
            simp [h1, e1, e2]
        | cell b t =>
          obtain ⟨ad, e1, e2⟩ := run_onec (P := P) hr hF hx
          cases y with
          | tmp t' =>
            have h2 := run_one (P := P) hr hF hy
            simp at h2
            simp [h2, e1, e2]
          | cell b' t' =>
            obtain ⟨ad', e1', e2'⟩ := run_onec (P := P) hr hF hy
            simp [e1', e2', e1, e2]
  · cases h

theorem acalls_of {P : Program} {w0 : World} {f : FuncId} {fn : Func} {c : Code} {args : Array Value} {H : Hp} {Q : Value → Hp → Prop} {N : Nat} {rs : List ResultVar}
    (hf : P.funcs[f]? = some fn) (hb : fn.body = some c) (hN : fn.ntmps = N) (hrs : fn.results.toList = rs) (hs : args.size ≤ N)
    (h : VC P w0 N c (RetK P w0 rs Q) (argF args) H) : ACalls P w0 f args H Q := by
  intro R w hd hr
  subst hN hrs
  refine calls_of_wp hf hb ?_
  have hF : FRel fn.ntmps (argF args) { tmps := args ++ Array.replicate (fn.ntmps - args.size) undef, defers := [] } := by
    refine ⟨rfl, by simp; omega, fun i => ?_⟩
    unfold argF
    by_cases hi : i < args.size
    · simp [Array.getD_eq_getD_getElem?, Array.getElem?_append, hi]
    · simp only [Array.getD_eq_getD_getElem?, Array.getElem?_append, if_neg hi, Array.getElem?_replicate]
      rw [Array.getElem?_eq_none (by omega)]
      split <;> rfl
  refine wp_mono (VC.sound c _ _ H h R _ w hd hr hF) ?_
  rintro e a w ⟨F, H, hd, hr, hF, hq⟩
  cases e with
  | normal =>
    simp only [RetK] at hq
    cases hv : resVal P w0 F H fn.results.toList with
    | none => rw [hv] at hq; exact hq.elim
    | some v => rw [hv] at hq; exact ⟨hF.defers, v, results_run hr hF hv, v, H, rfl, hd, hr, hq⟩
  | ret =>
    simp only [RetK] at hq
    cases hv : resVal P w0 F H fn.results.toList with
    | none => rw [hv] at hq; exact hq.elim
    | some v => rw [hv] at hq; exact ⟨hF.defers, v, results_run hr hF hv, v, H, rfl, hd, hr, hq⟩
  | _ => exact hq.elim

#print axioms acalls_of
end Go.Proofs.YtoolnkemkhianaaDoorW
