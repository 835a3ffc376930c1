/-
  min of two numbers.
  No condition.
-/
import Derived.Test.YtcpeiejabbdeiaaAwn
set_option linter.unusedSimpArgs false
set_option linter.unusedVariables false
namespace Go.Proofs.YtcpeiejabbdeiaaW
open Go Go.RowKit
section
variable {P : Program} {w0 : World} {F : Fr} {H : Hp} {K : Value → Hp → Prop} {dst : Option Tmp} {ty : TypeId} {pos : String} {after : Array Edge} {g : Option (Nat × Bool)}
def MnK (orig : Prop) (K : Value → Hp → Prop) (H : Hp) : Value → Value → Prop
  | .int k a, .int _ b => K (.int k (if b < a then b else a)) H
  | _, _ => orig
theorem aop_min (x y : Operand) (ts : Array TypeId) : AOp P w0 F ⟨dst, .call { callee := .builtin .min, args := #[x, y], argTypes := ts }, ty, pos, after, g⟩ K H =
    MnK (AOp0 P w0 F ⟨dst, .call { callee := .builtin .min, args := #[x, y], argTypes := ts }, ty, pos, after, g⟩ K H) K H (evF F x) (evF F y) := by
  unfold MnK
  split
  · rename_i k a k' b hx hy
    unfold AOp
    simp only [execOp, resolve, awp_bind, awp_pure, BindK, invoke, builtin, List.map_toArray, List.map_cons, List.map_nil, hx, hy, Builtin.min_, List.foldlM_cons, List.foldlM_nil, Builtin.min2, ANx]
  · rfl
theorem mnK_int {orig : Prop} {k k' : IntKind} {a b : Int} : MnK orig K H (.int k a) (.int k' b) = K (.int k (if b < a then b else a)) H := rfl
end
attribute [go_sem] aop_min mnK_int
end Go.Proofs.YtcpeiejabbdeiaaW
