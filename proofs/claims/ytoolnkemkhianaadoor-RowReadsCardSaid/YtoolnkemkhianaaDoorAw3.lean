/-
  A function's call with three results.
  No condition: every theorem here is general.
-/
import Derived.Test.YtoolnkemkhianaaDoorAwv
namespace Go.Proofs.YtoolnkemkhianaaDoorW
open Go Go.RowKit
set_option linter.unusedSimpArgs false
set_option linter.unusedVariables false
def RetK3 (P : Program) (w0 : World) (b : Tmp) (t : TypeId) (c d : Tmp) (Q : Value → Hp → Prop) : Exit → Fr → Hp → Prop
  | .normal, F, H => ResK Q H ((ResCell P w0 H t (F b)).map fun v => .tuple #[v, F c, F d])
  | .ret, F, H => ResK Q H ((ResCell P w0 H t (F b)).map fun v => .tuple #[v, F c, F d])
  | _, _, _ => False
section
variable {P : Program} {w0 : World} {b c d : Tmp} {t : TypeId} {Q : Value → Hp → Prop} {F : Fr} {H : Hp}
theorem retK3_normal : RetK3 P w0 b t c d Q .normal F H = ResK Q H ((ResCell P w0 H t (F b)).map fun v => .tuple #[v, F c, F d]) := rfl
theorem retK3_ret : RetK3 P w0 b t c d Q .ret F H = ResK Q H ((ResCell P w0 H t (F b)).map fun v => .tuple #[v, F c, F d]) := rfl
end
attribute [go_sem] retK3_normal retK3_ret
theorem results_run3 {P : Program} {w0 : World} {H R : Hp} {w : World} (hr : Rel w0 (H.join R) w) {fn : Func} {N : Nat} {F : Fr} {a : Act} (hF : FRel N F a) {b c d : Tmp} {t : TypeId} {u : Value}
    (hl : fn.results.toList = [.cell b t, .tmp c, .tmp d]) (h : ResCell P w0 H t (F b) = some u) : (results fn a.tmps).run P w = .ok (.tuple #[u, F c, F d]) w := by
  have hrs : fn.results = [ResultVar.cell b t, .tmp c, .tmp d].toArray := by rw [← hl]
  unfold results
  rw [hrs]
  have hx : resOne P w0 F H (.cell b t) = some u := by rw [resOne_cell]; exact h
  obtain ⟨ad, e1, e2⟩ := run_onec (P := P) hr hF hx
  have h2 := run_one (P := P) hr hF (x := .tmp c) (v := F c) rfl
  have h3 := run_one (P := P) hr hF (x := .tmp d) (v := F d) rfl
  simp only [List.mapM_toArray, List.mapM_cons, List.mapM_nil]
  simp at h2 h3
  simp [h2, h3, e1, e2]
theorem acalls_of3 {P : Program} {w0 : World} {f : FuncId} {fn : Func} {cd : Code} {args : Array Value} {H : Hp} {Q : Value → Hp → Prop} {N : Nat} {b c d : Tmp} {t : TypeId}
    (hf : P.funcs[f]? = some fn) (hb : fn.body = some cd) (hN : fn.ntmps = N) (hrs : fn.results.toList = [.cell b t, .tmp c, .tmp d]) (hs : args.size ≤ N)
    (h : VC P w0 N cd (RetK3 P w0 b t c d Q) (argF args) H) : ACalls P w0 f args H Q := by
  intro R w hd hr
  subst hN
  refine calls_of_wp hf hb ?_
  have hF : FRel fn.ntmps (argF args) { tmps := args ++ Array.replicate (fn.ntmps - args.size) undef, defers := [] } := by
    refine ⟨rfl, by simp; omega, fun i => ?_⟩
    unfold argF
    by_cases hi : i < args.size
    · simp [Array.getD_eq_getD_getElem?, Array.getElem?_append, hi]
    · simp only [Array.getD_eq_getD_getElem?, Array.getElem?_append, if_neg hi, Array.getElem?_replicate]
      rw [Array.getElem?_eq_none (by omega)]
      split <;> rfl
  have fin : ∀ (F : Fr) (H : Hp) (a : Act) (w : World), H.disj R → Rel w0 (H.join R) w → FRel fn.ntmps F a → ResK Q H ((ResCell P w0 H t (F b)).map fun v => .tuple #[v, F c, F d]) →
      ∃ v, (results fn a.tmps).run P w = .ok v w ∧ Q v H := fun F H a w hd hr hF hq => by
    cases hv : ResCell P w0 H t (F b) with
    | none => rw [hv] at hq; exact hq.elim
    | some u => rw [hv] at hq; exact ⟨_, results_run3 hr hF hrs hv, hq⟩
  refine wp_mono (VC.sound cd _ _ H h R _ w hd hr hF) ?_
  rintro e a w ⟨F, H, hd, hr, hF, hq⟩
  cases e with
  | normal =>
    obtain ⟨v, h1, h2⟩ := fin F H a w hd hr hF hq
    exact ⟨hF.defers, v, h1, v, H, rfl, hd, hr, h2⟩
  | ret =>
    obtain ⟨v, h1, h2⟩ := fin F H a w hd hr hF hq
    exact ⟨hF.defers, v, h1, v, H, rfl, hd, hr, h2⟩
  | _ => exact hq.elim
set_option maxRecDepth 100000
def zrow (z : Value) (m : Nat) : Array Value := (Array.range m).map ((if m = 0 then #[] else z.cells)[· % (if m = 0 then #[] else z.cells).size]!)
section
variable {P : Program} {w0 : World} {F : Fr} {H : Hp} {K : Value → Hp → Prop} {dst : Option Tmp} {ty : TypeId} {pos : String} {after : Array Edge} {g : Option (Nat × Bool)}
theorem aop_makeSlice {t e sz bytes n : Nat} {z : Value} {x y : Operand} (ht : P.underlying t = some (.slice e)) (hsz : szOf P e = some sz) (hby : byOf P e = some bytes) (hz : zrOf P e = some z)
    (hx : evF F x = .int .i64 (n : Int)) (hy : evF F y = .int .i64 (n : Int)) (hn : n < 1000000) (hb : bytes < 1000)
    (hK : NewK w0 (.cells (zrow z (n * sz)) e) (fun b => .slice (some ⟨b, 0, none⟩) n n) K H) : AOp P w0 F ⟨dst, .makeSlice t x y, ty, pos, after, g⟩ K H := by
  have hbi : ∃ i, P.info? e = some i ∧ i.bytes = bytes := by
    unfold byOf at hby
    cases hi : P.info? e with
    | none => rw [hi] at hby; cases hby
    | some i => rw [hi] at hby; exact ⟨i, rfl, by simpa using hby⟩
  obtain ⟨inf, hinf, hinfb⟩ := hbi
  have hw : IntKind.i64.wrap (n : Int) = (n : Int) := by
    unfold IntKind.wrap; simp [IntKind.bits, IntKind.signed]; omega
  have hroom : ∀ (x : Nat) (Q : Unit → Hp → Prop), Q () H → awp P w0 (askRoom x) Q H := by
    intro x Q h; unfold askRoom; split
    · exact h
    · exact h
  have hprod : (bytes : Int) * (n : Int) ≤ 1000 * 1000000 := by
    have : bytes * n ≤ 1000 * 1000000 := Nat.mul_le_mul (by omega) (by omega)
    have h2 : ((bytes * n : Nat) : Int) ≤ ((1000 * 1000000 : Nat) : Int) := Int.ofNat_le.2 this
    rw [Int.natCast_mul] at h2
    exact h2
  have hcond : ((decide ((n : Int) < 0) || decide ((inf.bytes : Int) * (n : Int) > 2 ^ 48)) || decide ((n : Int) < 0) || decide ((n : Int) > (n : Int))) = false := by
    rw [hinfb, decide_eq_false (show ¬ (n : Int) < 0 by omega), decide_eq_false (show ¬ ((bytes : Int) * (n : Int) > 2 ^ 48) by omega), decide_eq_false (show ¬ ((n : Int) > (n : Int)) by omega)]
    rfl
  unfold AOp
  simp only [execOp, awp_bind, hx, hy, Instr.makeSlice, awp_underlying, ht, OptK, BindK, asInt, asIntOf, awp_pure, awp_typeInfo, hinf, hw]
  rw [if_neg (by rw [hcond]; simp)]
  simp only [awp_bind]
  refine hroom _ _ ?_
  simp only [BindK, awp_bind, awp_sizeOf, hsz, OptK, Int.toNat_natCast]
  unfold zrow at hK
  by_cases h0 : n * sz = 0
  · rw [if_pos h0] at hK
    rw [if_pos h0]
    simp only [awp_bind, awp_pure, BindK, newRow, newObj, awp, ANx]
    exact fun b h1 h2 => hK b h1 h2
  · rw [if_neg h0] at hK
    rw [if_neg h0]
    simp only [awp_bind, awp_pure, BindK, awp_zeroValue, hz, OptK, newRow, newObj, awp, ANx]
    exact fun b h1 h2 => hK b h1 h2
end
end Go.Proofs.YtoolnkemkhianaaDoorW
