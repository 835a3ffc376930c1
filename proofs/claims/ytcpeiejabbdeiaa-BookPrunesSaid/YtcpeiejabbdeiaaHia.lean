/-
  What a heap owns lies above the first world.
  No condition.
-/
import Derived.Test.YtcpeiejabbdeiaaClg
set_option linter.unusedSimpArgs false
set_option linter.unusedVariables false
namespace Go.Proofs.Ytcpeiejabbdeiaa
open Go Go.RowKit Go.Proofs.YtcpeiejabbdeiaaW

def Hi (w0 : World) (H : Hp) : Prop := ∀ b o, H b = some o → w0.heap.size ≤ b
theorem ACalls.hi {P : Program} {w0 : World} {f : FuncId} {args : Array Value} {H : Hp} {Q : Value → Hp → Prop} (h : ACalls P w0 f args H Q) : ACalls P w0 f args H fun r H' => Q r H' ∧ Hi w0 H' :=
  fun R w hd hr => (h R w hd hr).mono fun _ _ ⟨r, H', he, hd', hr', hQ⟩ => ⟨r, H', he, hd', hr', hQ, fun b o hb => (hr'.own b o (Hp.join_left hb)).1⟩
theorem ld_arg {w0 : World} {H : Hp} (hh : Hi w0 H) {a : Addr} {v : Value} (h : w0.cell? a = some v) : ld w0 H a = some v := by
  have hlt := World.block_lt_of_cell? w0 a h
  unfold ld
  cases e : H a.block with
  | none => exact h
  | some o => have := hh _ _ e; omega
abbrev ptr (l : Nat) : Value := .pointer (some ⟨l, 0, none⟩)
end Go.Proofs.Ytcpeiejabbdeiaa
