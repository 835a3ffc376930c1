/-
  A snapshot: whose, and the states when it was taken; where its list lies.
  No condition.
-/
import Derived.Test.YtcpeiejabbdeiaaVis
set_option linter.unusedSimpArgs false
set_option linter.unusedVariables false
namespace Go.Proofs.Ytcpeiejabbdeiaa
open Go Go.RowKit Go.Proofs.YtcpeiejabbdeiaaW
structure Shot where
  own : Nat
  old : List Nat
  v : Value
  t : Value
def Shot.run (z : Shot) : List Nat := others z.own (runs 1 z.old)
def Shot.xmax (z : Shot) : Nat := 1 + z.old.length
def Shot.cs (z : Shot) : List Value := [.int .u64 (z.own : Int), .int .u64 ((least z.xmax z.run : Nat) : Int), .int .u64 (z.xmax : Int), z.v]
theorem Row.ty {H : Hp} {e sz : Nat} {v : Value} {n : Nat} {xs : List Value} (h : Row H e sz v n xs) {b : Nat} (hb : blk v = some b) : ∃ cur, H b = some (.cells cur e (0, 0)) := by
  obtain ⟨hl, ⟨rfl, _⟩ | ⟨g, cap, cur, rfl, hg, r⟩⟩ := h
  · cases hb
  · cases hb; exact ⟨_, hg⟩
/-- The type of what lies at a block. -/
def tyAt (H : Hp) (b : Nat) : Option Nat := match H b with | some (.cells _ e _) => some e | _ => none
theorem tyAt_of {H : Hp} {b : Nat} {c : Array Value} {e : Nat} {fr : Nat × Nat} (h : H b = some (.cells c e fr)) : tyAt H b = some e := by unfold tyAt; rw [h]
theorem Row.tyAt {H : Hp} {e sz : Nat} {v : Value} {n : Nat} {xs : List Value} (h : Row H e sz v n xs) {b : Nat} (hb : blk v = some b) : tyAt H b = some e := by
  obtain ⟨cur, hc⟩ := Row.ty h hb
  exact tyAt_of hc
end Go.Proofs.Ytcpeiejabbdeiaa
