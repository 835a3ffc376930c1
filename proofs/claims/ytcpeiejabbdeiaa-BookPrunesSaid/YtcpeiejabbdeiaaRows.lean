/-
  No cell of these rows narrows 'for every input' (looked for: loops, veiled, ifaces, maps, wideKeys, modest, calm, conditions, laid).
  DERIVED. THE GIVEN ROWS OF THIS SEAT. 4 by the template 'for every input the law returns true; each argument reads behind the call as it read before'; 0 by the template 'total and deterministic' (their statements: YtcpeiejabbdeiaaTotals.lean).
  GIVEN WITH THE SEED: the statements are not yours to turn. If you find one false, say at which input.
  Laid BY PROGRAM, IN A SANDBOX (cutbox-rows.mjs): the forced cells as the released guide's own fill.sh prints them over the translation c20d21fbe5ba0eec… (all of the seat's roots in one cut). By AI agents, Wed Nov 11 2026. No macro, syntax, notation, axiom, sorry.
-/
import Derived.Test.YtcpeiejabbdeiaaChecked
import GoSem.Claim
import GoSem.ClaimJoined
import GoSem.ClaimMapViews
import Derived.JoinedTies
import Derived.KernelRfl
namespace Go.Proofs.Ytcpeiejabbdeiaa
/- THE CELL 'sum', in the pinned program and in every row, IS THE sha256 OF THE DUMP (.gsa) THAT YtcpeiejabbdeiaaProg.lean LOADS. Nothing in Lean hashes anything: it is a label: what it is worth is what the hold of that sum in a sandbox is worth. -/
noncomputable def Try.pinned : Pinned := { name := "ytcpeiejabbdeiaa", sum := "c20d21fbe5ba0eeced93f71a4e804be07ad336e32718d6b29bd0ac209c46c0b9", checked := Try.checked }
namespace Rows
def none {H : Type} : Left H := { results := [], args := [] }

/-- 'lapidarylaw11.BookOwn': WHATEVER THE INPUT: true; the input reads as it did. -/
def bookOwnSpec : ChangeSpec := { name := "bookOwn", fn := fun _ => fun
  | [d1, d2] => { results := [.lit (.bool true)], args := [d1, d2] }
  | _ => none }
def bookOwnRow : OpenClaim := { program := "ytcpeiejabbdeiaa", sum := "c20d21fbe5ba0eeced93f71a4e804be07ad336e32718d6b29bd0ac209c46c0b9", func := "lapidary/lapidarylaw11.BookOwn", spec := "bookOwn", unfollowed := true, recurses := true, apart := false }
def BookOwnSaid : Prop := bookOwnRow.holds Try.pinned (OpenSpec.ofChange bookOwnSpec)

/-- ITS FALSE NEIGHBOUR: 'it returns false'. Refute it at one input. -/
def bookOwnWrong : ChangeSpec := { name := "bookOwn", fn := fun _ => fun
  | [d1, d2] => { results := [.lit (.bool false)], args := [d1, d2] }
  | _ => none }
def BookOwnWrongFalsely : Prop := bookOwnRow.holds Try.pinned (OpenSpec.ofChange bookOwnWrong)

/-- 'lapidarylaw11.BookPrunes': WHATEVER THE INPUT: true; the input reads as it did. -/
def bookPrunesSpec : ChangeSpec := { name := "bookPrunes", fn := fun _ => fun
  | [d] => { results := [.lit (.bool true)], args := [d] }
  | _ => none }
def bookPrunesRow : OpenClaim := { program := "ytcpeiejabbdeiaa", sum := "c20d21fbe5ba0eeced93f71a4e804be07ad336e32718d6b29bd0ac209c46c0b9", func := "lapidary/lapidarylaw11.BookPrunes", spec := "bookPrunes", unfollowed := true, recurses := true, apart := false }
def BookPrunesSaid : Prop := bookPrunesRow.holds Try.pinned (OpenSpec.ofChange bookPrunesSpec)

/-- ITS FALSE NEIGHBOUR: 'it returns false'. Refute it at one input. -/
def bookPrunesWrong : ChangeSpec := { name := "bookPrunes", fn := fun _ => fun
  | [d] => { results := [.lit (.bool false)], args := [d] }
  | _ => none }
def BookPrunesWrongFalsely : Prop := bookPrunesRow.holds Try.pinned (OpenSpec.ofChange bookPrunesWrong)

/-- 'lapidarylaw11.BookNames': WHATEVER THE INPUT: true; the input reads as it did. -/
def bookNamesSpec : ChangeSpec := { name := "bookNames", fn := fun _ => fun
  | [d] => { results := [.lit (.bool true)], args := [d] }
  | _ => none }
def bookNamesRow : OpenClaim := { program := "ytcpeiejabbdeiaa", sum := "c20d21fbe5ba0eeced93f71a4e804be07ad336e32718d6b29bd0ac209c46c0b9", func := "lapidary/lapidarylaw11.BookNames", spec := "bookNames", apart := false }
def BookNamesSaid : Prop := bookNamesRow.holds Try.pinned (OpenSpec.ofChange bookNamesSpec)

/-- ITS FALSE NEIGHBOUR: 'it returns false'. Refute it at one input. -/
def bookNamesWrong : ChangeSpec := { name := "bookNames", fn := fun _ => fun
  | [d] => { results := [.lit (.bool false)], args := [d] }
  | _ => none }
def BookNamesWrongFalsely : Prop := bookNamesRow.holds Try.pinned (OpenSpec.ofChange bookNamesWrong)

/-- 'lapidarylaw11.BookFirst': WHATEVER THE INPUT: true; the input reads as it did. -/
def bookFirstSpec : ChangeSpec := { name := "bookFirst", fn := fun _ => fun
  | [d1, d2, d3] => { results := [.lit (.bool true)], args := [d1, d2, d3] }
  | _ => none }
def bookFirstRow : OpenClaim := { program := "ytcpeiejabbdeiaa", sum := "c20d21fbe5ba0eeced93f71a4e804be07ad336e32718d6b29bd0ac209c46c0b9", func := "lapidary/lapidarylaw11.BookFirst", spec := "bookFirst", apart := false }
def BookFirstSaid : Prop := bookFirstRow.holds Try.pinned (OpenSpec.ofChange bookFirstSpec)

/-- ITS FALSE NEIGHBOUR: 'it returns false'. Refute it at one input. -/
def bookFirstWrong : ChangeSpec := { name := "bookFirst", fn := fun _ => fun
  | [d1, d2, d3] => { results := [.lit (.bool false)], args := [d1, d2, d3] }
  | _ => none }
def BookFirstWrongFalsely : Prop := bookFirstRow.holds Try.pinned (OpenSpec.ofChange bookFirstWrong)

/- THE SECOND FORM. 'bulk': how many values and letters a reading holds, each counted each time it is reached (what is shared counts as often as it is met; a slice's spare places count too). A statement '..UptoSaid' is the law's where the arguments, and the package variables that the reading takes, are together of bulk at most 1048576: NARROWER than '..Said'. Prove '..Said' where nothing that the law and all that it calls make is longer than what came in: it says more and counts as full. Else prove '..UptoSaid'. A law counts once. -/
mutual
def uptoBulk {H : Type} : DataW H → Nat
  | .lit (.string bytes) => bytes.length + 1
  | .lit _ => 1
  | .nil => 1
  | .ptr d => uptoBulk d + 1
  | .slice elems spare => uptoBulkAll elems + uptoBulkAll spare + 1
  | .agg parts => uptoBulkAll parts + 1
  | .iface _ d => uptoBulk d + 1
  | .map entries => uptoBulkEntries entries + 1
  | .held _ => 1
def uptoBulkAll {H : Type} : List (DataW H) → Nat
  | [] => 0
  | d :: r => uptoBulk d + uptoBulkAll r
def uptoBulkEntries {H : Type} : List (Lit × DataW H) → Nat
  | [] => 0
  | x :: r => uptoBulkEntry x + uptoBulkEntries r
def uptoBulkEntry {H : Type} : Lit × DataW H → Nat
  | (.string bytes, d) => bytes.length + uptoBulk d + 1
  | (_, d) => uptoBulk d + 1
 end
def uptoSmall : (H : Type) → List (DataW H) → Bool := fun _ ds => decide (uptoBulkAll ds ≤ 1048576)
def OpenSpec.upto (s : _root_.Go.ChangeSpec) : _root_.Go.OpenSpec := { _root_.Go.OpenSpec.ofChange s with cond := some uptoSmall }

/-- 'lapidarylaw11.BookOwn', WHERE WHAT IT READS IS OF BULK AT MOST 1048576: true; the input reads as it did. -/
def bookOwnUptoRow : OpenClaim := { program := "ytcpeiejabbdeiaa", sum := "c20d21fbe5ba0eeced93f71a4e804be07ad336e32718d6b29bd0ac209c46c0b9", func := "lapidary/lapidarylaw11.BookOwn", spec := "bookOwn", unfollowed := true, recurses := true, apart := false, narrowed := true }
def BookOwnUptoSaid : Prop := bookOwnUptoRow.holds Try.pinned (OpenSpec.upto bookOwnSpec)

/-- 'lapidarylaw11.BookPrunes', WHERE WHAT IT READS IS OF BULK AT MOST 1048576: true; the input reads as it did. -/
def bookPrunesUptoRow : OpenClaim := { program := "ytcpeiejabbdeiaa", sum := "c20d21fbe5ba0eeced93f71a4e804be07ad336e32718d6b29bd0ac209c46c0b9", func := "lapidary/lapidarylaw11.BookPrunes", spec := "bookPrunes", unfollowed := true, recurses := true, apart := false, narrowed := true }
def BookPrunesUptoSaid : Prop := bookPrunesUptoRow.holds Try.pinned (OpenSpec.upto bookPrunesSpec)

/-- 'lapidarylaw11.BookNames', WHERE WHAT IT READS IS OF BULK AT MOST 1048576: true; the input reads as it did. -/
def bookNamesUptoRow : OpenClaim := { program := "ytcpeiejabbdeiaa", sum := "c20d21fbe5ba0eeced93f71a4e804be07ad336e32718d6b29bd0ac209c46c0b9", func := "lapidary/lapidarylaw11.BookNames", spec := "bookNames", apart := false, narrowed := true }
def BookNamesUptoSaid : Prop := bookNamesUptoRow.holds Try.pinned (OpenSpec.upto bookNamesSpec)

/-- 'lapidarylaw11.BookFirst', WHERE WHAT IT READS IS OF BULK AT MOST 1048576: true; the input reads as it did. -/
def bookFirstUptoRow : OpenClaim := { program := "ytcpeiejabbdeiaa", sum := "c20d21fbe5ba0eeced93f71a4e804be07ad336e32718d6b29bd0ac209c46c0b9", func := "lapidary/lapidarylaw11.BookFirst", spec := "bookFirst", apart := false, narrowed := true }
def BookFirstUptoSaid : Prop := bookFirstUptoRow.holds Try.pinned (OpenSpec.upto bookFirstSpec)

end Rows
end Go.Proofs.Ytcpeiejabbdeiaa
