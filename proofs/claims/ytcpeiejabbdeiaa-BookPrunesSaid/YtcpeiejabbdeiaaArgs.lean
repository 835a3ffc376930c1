/-
  The laws' arguments, opened.
  No condition.
-/
import Derived.Test.YtcpeiejabbdeiaaFct
import Derived.Test.YtcpeiejabbdeiaaOpn
set_option linter.unusedSimpArgs false
set_option linter.unusedVariables false
namespace Go.Proofs.Ytcpeiejabbdeiaa
open Go Go.RowKit Go.ChangeShapes Go.WideShapes Go.Proofs.YtcpeiejabbdeiaaW
set_option maxRecDepth 100000
theorem laid : laidOutB Try.prog = true := by kernel_rfl
def BoolsArg (w0 : World) (a : Value) (n : Nat) : Prop :=
  ∃ ad c, a = .slice ad n c ∧ n ≤ 9223372036854775807 ∧ ∀ k, k < n → ∃ ab, ad = some ab ∧ ∃ b : Bool, w0.cell? (ab.add k) = some (.bool b)
section
variable {W : World} {H : Type} {enc : TypeId × Value → H} {v : Value} {d : DataW H} {p : List MemPlace} {b0 base : Nat} {r : Reach} {spare : Nat → Bool} {held : Bool}
theorem bools_arg (hv : Value.okWide Try.prog W r b0 65 v) (h : DataW.Trod enc Try.prog W base spare held 65 v d p) : ∃ n, BoolsArg W v n := by
  obtain ⟨ad, n, c, rfl, hn, hk⟩ := open_rows (sz := 1) Try.underlying65 (by kernel_rfl) hv h
  refine ⟨n, ad, c, rfl, Nat.le_trans hn (by decide), fun k hkn => ?_⟩
  obtain ⟨ab, rfl, f, cs, y, hc, ht⟩ := hk k hkn
  obtain ⟨m, rfl, _⟩ := DataW.trod_bool Try.underlying4 ht
  have := hc 0 (by omega)
  rw [Nat.mul_one] at this
  exact ⟨ab, rfl, m, this⟩
end
end Go.Proofs.Ytcpeiejabbdeiaa
