/-
  From a call to the row: ranges of numbers, the frame.
  No condition: every theorem here is general.
-/
import Derived.Test.YtoolnkemkhianaaDoorAwg
import Derived.WalkKit
import Derived.ProofKit
import Derived.OpenShut
set_option linter.unusedSimpArgs false
set_option linter.unusedVariables false
namespace Go.Proofs.YtoolnkemkhianaaDoorW
open Go Go.RowKit

theorem wf_u8 {a : Int} (h : (Lit.int .u8 a).wf = true) : 0 ≤ a ∧ a < 256 := by
  simp only [Lit.wf, IntKind.min, IntKind.max, IntKind.signed, IntKind.bits, Bool.false_eq_true, if_false, Bool.and_eq_true, decide_eq_true_eq] at h
  omega
theorem wf_u64 {a : Int} (h : (Lit.int .u64 a).wf = true) : 0 ≤ a ∧ a < 18446744073709551616 := by
  simp only [Lit.wf, IntKind.min, IntKind.max, IntKind.signed, IntKind.bits, Bool.false_eq_true, if_false, Bool.and_eq_true, decide_eq_true_eq] at h
  omega
theorem wf_i64 {a : Int} (h : (Lit.int .i64 a).wf = true) : -9223372036854775808 ≤ a ∧ a < 9223372036854775808 := by
  simp only [Lit.wf, IntKind.min, IntKind.max, IntKind.signed, IntKind.bits, if_true, Bool.and_eq_true, decide_eq_true_eq] at h
  omega
/-- A law's call. -/
theorem ACalls.law {P : Program} {f : FuncId} {args : Array Value} {w : World} {Q : Hp → Prop} (h : ACalls P w f args (fun _ => none) fun r H' => r = .bool true ∧ Q H') :
    Calls P f args w fun e w' => e = .returned (.bool true) ∧ Below w.heap.size w w' := by
  refine (ACalls.top (Q := fun r => r = .bool true) (h.mono fun _ _ h => h.1)).mono ?_
  rintro e w' ⟨⟨r, rfl, rfl⟩, hb⟩
  exact ⟨rfl, hb⟩
end Go.Proofs.YtoolnkemkhianaaDoorW
