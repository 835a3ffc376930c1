/-
  NARROWER THAN 'FOR EVERY INPUT', by the rows' own cells (each row's printed sentence says how): KeyBehind: laid · KeyJoins: laid · KeyOrders: laid · KeyFinds: laid · KeyBytes: laid · KeyReads: laid · RowOne: laid · RowLong: laid · RowKinds: laid · RowBytes: laid · RowReads: laid · RowCuts: laid.
  DERIVED. THE GIVEN ROWS OF THIS SEAT. 12 by the template 'for every input the law returns true; each argument reads behind the call as it read before'; 0 by the template 'total and deterministic' (their statements: YtoolnkemkhianaaDoorTotals.lean).
  GIVEN WITH THE SEED: the statements are not yours to turn. If you find one false, say at which input.
  Laid BY PROGRAM, IN A SANDBOX (cutbox-rows.mjs): the forced cells as the released guide's own fill.sh prints them over the translation 9f21379b72a75cae… (all of the seat's roots in one cut). By AI agents, Wed Nov 11 2026. No macro, syntax, notation, axiom, sorry.
-/
import Derived.Test.YtoolnkemkhianaaDoorChecked
import GoSem.PinnedTables
import GoSem.Claim
import GoSem.ClaimJoined
import GoSem.ClaimMapViews
import Derived.JoinedTies
import Derived.KernelRfl
namespace Go.Proofs.YtoolnkemkhianaaDoor
/- THE CELL 'sum', in the pinned program and in every row, IS THE sha256 OF THE DUMP (.gsa) THAT YtoolnkemkhianaaDoorProg.lean LOADS. Nothing in Lean hashes anything: it is a label: what it is worth is what the hold of that sum in a sandbox is worth. -/
noncomputable def Tryd.pinned : Pinned := { name := "ytoolnkemkhianaadoor", sum := "9f21379b72a75cae31e10143df3f21b02048742362b92307dd4a060878249bbb", checked := Tryd.checked }
namespace Rows
def none {H : Type} : Left H := { results := [], args := [] }

/- WHAT THE LISTED PACKAGE-LEVEL VARIABLES READ AS WHEN THE CALL BEGINS. Each datum BY PROGRAM (the guide's laid-datum.mjs) off the statement by which the dump's own 'gosem.cut.vars' lays the variable. In a bare row this is a premise. The card (YtoolnkemkhianaaDoorCards.lean) ties it to the program's text. -/
def laid_unicode_utf8_acceptRanges {H : Type} : DataW H := .agg [.agg [.lit (.int .u8 128), .lit (.int .u8 191)], .agg [.lit (.int .u8 160), .lit (.int .u8 191)], .agg [.lit (.int .u8 128), .lit (.int .u8 159)], .agg [.lit (.int .u8 144), .lit (.int .u8 191)], .agg [.lit (.int .u8 128), .lit (.int .u8 143)], .agg [.lit (.int .u8 0), .lit (.int .u8 0)], .agg [.lit (.int .u8 0), .lit (.int .u8 0)], .agg [.lit (.int .u8 0), .lit (.int .u8 0)], .agg [.lit (.int .u8 0), .lit (.int .u8 0)], .agg [.lit (.int .u8 0), .lit (.int .u8 0)], .agg [.lit (.int .u8 0), .lit (.int .u8 0)], .agg [.lit (.int .u8 0), .lit (.int .u8 0)], .agg [.lit (.int .u8 0), .lit (.int .u8 0)], .agg [.lit (.int .u8 0), .lit (.int .u8 0)], .agg [.lit (.int .u8 0), .lit (.int .u8 0)], .agg [.lit (.int .u8 0), .lit (.int .u8 0)]]
/-- One of Go's own tables, pinned by name: the form's constant. -/
def laid_unicode_utf8_first : DataW Unit := Go.Pinned.utf8First

/-- 'lapidarylaw03.KeyBehind': WHATEVER THE INPUT: true; the input reads as it did. -/
def keyBehindSpec : ChangeSpec := { name := "keyBehind", fn := fun _ => fun
  | [d1, d2, d3] => { results := [.lit (.bool true)], args := [d1, d2, d3] }
  | _ => none }
def keyBehindRow : OpenClaim := { program := "ytoolnkemkhianaadoor", sum := "9f21379b72a75cae31e10143df3f21b02048742362b92307dd4a060878249bbb", func := "lapidary/lapidarylaw03.KeyBehind", spec := "keyBehind", inPlace := ["internal/bytealg.IndexByteString"], named := ["unicode/utf8.first", "unicode/utf8.acceptRanges"], apart := false, laid := [("unicode/utf8.acceptRanges", laid_unicode_utf8_acceptRanges), ("unicode/utf8.first", laid_unicode_utf8_first)] }
def KeyBehindSaid : Prop := keyBehindRow.holds Tryd.pinned (OpenSpec.ofChange keyBehindSpec)

/-- ITS FALSE NEIGHBOUR: 'it returns false'. Refute it at one input. -/
def keyBehindWrong : ChangeSpec := { name := "keyBehind", fn := fun _ => fun
  | [d1, d2, d3] => { results := [.lit (.bool false)], args := [d1, d2, d3] }
  | _ => none }
def KeyBehindWrongFalsely : Prop := keyBehindRow.holds Tryd.pinned (OpenSpec.ofChange keyBehindWrong)

/-- 'lapidarylaw03.KeyJoins': WHATEVER THE INPUT: true; the input reads as it did. -/
def keyJoinsSpec : ChangeSpec := { name := "keyJoins", fn := fun _ => fun
  | [d1, d2] => { results := [.lit (.bool true)], args := [d1, d2] }
  | _ => none }
def keyJoinsRow : OpenClaim := { program := "ytoolnkemkhianaadoor", sum := "9f21379b72a75cae31e10143df3f21b02048742362b92307dd4a060878249bbb", func := "lapidary/lapidarylaw03.KeyJoins", spec := "keyJoins", inPlace := ["internal/bytealg.IndexByteString"], named := ["unicode/utf8.first", "unicode/utf8.acceptRanges"], apart := false, laid := [("unicode/utf8.acceptRanges", laid_unicode_utf8_acceptRanges), ("unicode/utf8.first", laid_unicode_utf8_first)] }
def KeyJoinsSaid : Prop := keyJoinsRow.holds Tryd.pinned (OpenSpec.ofChange keyJoinsSpec)

/-- ITS FALSE NEIGHBOUR: 'it returns false'. Refute it at one input. -/
def keyJoinsWrong : ChangeSpec := { name := "keyJoins", fn := fun _ => fun
  | [d1, d2] => { results := [.lit (.bool false)], args := [d1, d2] }
  | _ => none }
def KeyJoinsWrongFalsely : Prop := keyJoinsRow.holds Tryd.pinned (OpenSpec.ofChange keyJoinsWrong)

/-- 'lapidarylaw03.KeyOrders': WHATEVER THE INPUT: true; the input reads as it did. -/
def keyOrdersSpec : ChangeSpec := { name := "keyOrders", fn := fun _ => fun
  | [d1, d2] => { results := [.lit (.bool true)], args := [d1, d2] }
  | _ => none }
def keyOrdersRow : OpenClaim := { program := "ytoolnkemkhianaadoor", sum := "9f21379b72a75cae31e10143df3f21b02048742362b92307dd4a060878249bbb", func := "lapidary/lapidarylaw03.KeyOrders", spec := "keyOrders", inPlace := ["internal/bytealg.IndexByteString", "internal/bytealg.Compare"], named := ["unicode/utf8.first", "unicode/utf8.acceptRanges"], apart := false, laid := [("unicode/utf8.acceptRanges", laid_unicode_utf8_acceptRanges), ("unicode/utf8.first", laid_unicode_utf8_first)] }
def KeyOrdersSaid : Prop := keyOrdersRow.holds Tryd.pinned (OpenSpec.ofChange keyOrdersSpec)

/-- ITS FALSE NEIGHBOUR: 'it returns false'. Refute it at one input. -/
def keyOrdersWrong : ChangeSpec := { name := "keyOrders", fn := fun _ => fun
  | [d1, d2] => { results := [.lit (.bool false)], args := [d1, d2] }
  | _ => none }
def KeyOrdersWrongFalsely : Prop := keyOrdersRow.holds Tryd.pinned (OpenSpec.ofChange keyOrdersWrong)

/-- 'lapidarylaw03.KeyFinds': WHATEVER THE INPUT: true; the input reads as it did. -/
def keyFindsSpec : ChangeSpec := { name := "keyFinds", fn := fun _ => fun
  | [d1, d2] => { results := [.lit (.bool true)], args := [d1, d2] }
  | _ => none }
def keyFindsRow : OpenClaim := { program := "ytoolnkemkhianaadoor", sum := "9f21379b72a75cae31e10143df3f21b02048742362b92307dd4a060878249bbb", func := "lapidary/lapidarylaw03.KeyFinds", spec := "keyFinds", inPlace := ["internal/bytealg.IndexByteString", "internal/bytealg.Compare"], named := ["unicode/utf8.first", "unicode/utf8.acceptRanges"], apart := false, laid := [("unicode/utf8.acceptRanges", laid_unicode_utf8_acceptRanges), ("unicode/utf8.first", laid_unicode_utf8_first)] }
def KeyFindsSaid : Prop := keyFindsRow.holds Tryd.pinned (OpenSpec.ofChange keyFindsSpec)

/-- ITS FALSE NEIGHBOUR: 'it returns false'. Refute it at one input. -/
def keyFindsWrong : ChangeSpec := { name := "keyFinds", fn := fun _ => fun
  | [d1, d2] => { results := [.lit (.bool false)], args := [d1, d2] }
  | _ => none }
def KeyFindsWrongFalsely : Prop := keyFindsRow.holds Tryd.pinned (OpenSpec.ofChange keyFindsWrong)

/-- 'lapidarylaw03.KeyBytes': WHATEVER THE INPUT: true; the input reads as it did. -/
def keyBytesSpec : ChangeSpec := { name := "keyBytes", fn := fun _ => fun
  | [d] => { results := [.lit (.bool true)], args := [d] }
  | _ => none }
def keyBytesRow : OpenClaim := { program := "ytoolnkemkhianaadoor", sum := "9f21379b72a75cae31e10143df3f21b02048742362b92307dd4a060878249bbb", func := "lapidary/lapidarylaw03.KeyBytes", spec := "keyBytes", inPlace := ["internal/bytealg.IndexByteString", "internal/bytealg.IndexByte"], named := ["unicode/utf8.first", "unicode/utf8.acceptRanges"], apart := false, laid := [("unicode/utf8.acceptRanges", laid_unicode_utf8_acceptRanges), ("unicode/utf8.first", laid_unicode_utf8_first)] }
def KeyBytesSaid : Prop := keyBytesRow.holds Tryd.pinned (OpenSpec.ofChange keyBytesSpec)

/-- ITS FALSE NEIGHBOUR: 'it returns false'. Refute it at one input. -/
def keyBytesWrong : ChangeSpec := { name := "keyBytes", fn := fun _ => fun
  | [d] => { results := [.lit (.bool false)], args := [d] }
  | _ => none }
def KeyBytesWrongFalsely : Prop := keyBytesRow.holds Tryd.pinned (OpenSpec.ofChange keyBytesWrong)

/-- 'lapidarylaw03.KeyReads': WHATEVER THE INPUT: true; the input reads as it did. -/
def keyReadsSpec : ChangeSpec := { name := "keyReads", fn := fun _ => fun
  | [d] => { results := [.lit (.bool true)], args := [d] }
  | _ => none }
def keyReadsRow : OpenClaim := { program := "ytoolnkemkhianaadoor", sum := "9f21379b72a75cae31e10143df3f21b02048742362b92307dd4a060878249bbb", func := "lapidary/lapidarylaw03.KeyReads", spec := "keyReads", inPlace := ["internal/bytealg.IndexByteString", "internal/bytealg.IndexByte"], named := ["unicode/utf8.first", "unicode/utf8.acceptRanges"], apart := false, laid := [("unicode/utf8.acceptRanges", laid_unicode_utf8_acceptRanges), ("unicode/utf8.first", laid_unicode_utf8_first)] }
def KeyReadsSaid : Prop := keyReadsRow.holds Tryd.pinned (OpenSpec.ofChange keyReadsSpec)

/-- ITS FALSE NEIGHBOUR: 'it returns false'. Refute it at one input. -/
def keyReadsWrong : ChangeSpec := { name := "keyReads", fn := fun _ => fun
  | [d] => { results := [.lit (.bool false)], args := [d] }
  | _ => none }
def KeyReadsWrongFalsely : Prop := keyReadsRow.holds Tryd.pinned (OpenSpec.ofChange keyReadsWrong)

/-- 'lapidarylaw04.RowOne': WHATEVER THE INPUT: true; the input reads as it did. -/
def rowOneSpec : ChangeSpec := { name := "rowOne", fn := fun _ => fun
  | [d1, d2, d3] => { results := [.lit (.bool true)], args := [d1, d2, d3] }
  | _ => none }
def rowOneRow : OpenClaim := { program := "ytoolnkemkhianaadoor", sum := "9f21379b72a75cae31e10143df3f21b02048742362b92307dd4a060878249bbb", func := "lapidary/lapidarylaw04.RowOne", spec := "rowOne", inPlace := ["internal/bytealg.IndexByteString"], unfollowed := true, recurses := true, named := ["unicode/utf8.first", "unicode/utf8.acceptRanges"], apart := false, laid := [("unicode/utf8.acceptRanges", laid_unicode_utf8_acceptRanges), ("unicode/utf8.first", laid_unicode_utf8_first)] }
def RowOneSaid : Prop := rowOneRow.holds Tryd.pinned (OpenSpec.ofChange rowOneSpec)

/-- ITS FALSE NEIGHBOUR: 'it returns false'. Refute it at one input. -/
def rowOneWrong : ChangeSpec := { name := "rowOne", fn := fun _ => fun
  | [d1, d2, d3] => { results := [.lit (.bool false)], args := [d1, d2, d3] }
  | _ => none }
def RowOneWrongFalsely : Prop := rowOneRow.holds Tryd.pinned (OpenSpec.ofChange rowOneWrong)

/-- 'lapidarylaw04.RowLong': WHATEVER THE INPUT: true; the input reads as it did. -/
def rowLongSpec : ChangeSpec := { name := "rowLong", fn := fun _ => fun
  | [d] => { results := [.lit (.bool true)], args := [d] }
  | _ => none }
def rowLongRow : OpenClaim := { program := "ytoolnkemkhianaadoor", sum := "9f21379b72a75cae31e10143df3f21b02048742362b92307dd4a060878249bbb", func := "lapidary/lapidarylaw04.RowLong", spec := "rowLong", inPlace := ["internal/bytealg.IndexByteString"], unfollowed := true, recurses := true, named := ["unicode/utf8.first", "unicode/utf8.acceptRanges"], apart := false, laid := [("unicode/utf8.acceptRanges", laid_unicode_utf8_acceptRanges), ("unicode/utf8.first", laid_unicode_utf8_first)] }
def RowLongSaid : Prop := rowLongRow.holds Tryd.pinned (OpenSpec.ofChange rowLongSpec)

/-- ITS FALSE NEIGHBOUR: 'it returns false'. Refute it at one input. -/
def rowLongWrong : ChangeSpec := { name := "rowLong", fn := fun _ => fun
  | [d] => { results := [.lit (.bool false)], args := [d] }
  | _ => none }
def RowLongWrongFalsely : Prop := rowLongRow.holds Tryd.pinned (OpenSpec.ofChange rowLongWrong)

/-- 'lapidarylaw04.RowKinds': WHATEVER THE INPUT: true; the input reads as it did. -/
def rowKindsSpec : ChangeSpec := { name := "rowKinds", fn := fun _ => fun
  | [d1, d2] => { results := [.lit (.bool true)], args := [d1, d2] }
  | _ => none }
def rowKindsRow : OpenClaim := { program := "ytoolnkemkhianaadoor", sum := "9f21379b72a75cae31e10143df3f21b02048742362b92307dd4a060878249bbb", func := "lapidary/lapidarylaw04.RowKinds", spec := "rowKinds", inPlace := ["internal/bytealg.IndexByteString"], unfollowed := true, recurses := true, named := ["unicode/utf8.first", "unicode/utf8.acceptRanges"], apart := false, laid := [("unicode/utf8.acceptRanges", laid_unicode_utf8_acceptRanges), ("unicode/utf8.first", laid_unicode_utf8_first)] }
def RowKindsSaid : Prop := rowKindsRow.holds Tryd.pinned (OpenSpec.ofChange rowKindsSpec)

/-- ITS FALSE NEIGHBOUR: 'it returns false'. Refute it at one input. -/
def rowKindsWrong : ChangeSpec := { name := "rowKinds", fn := fun _ => fun
  | [d1, d2] => { results := [.lit (.bool false)], args := [d1, d2] }
  | _ => none }
def RowKindsWrongFalsely : Prop := rowKindsRow.holds Tryd.pinned (OpenSpec.ofChange rowKindsWrong)

/-- 'lapidarylaw04.RowBytes': WHATEVER THE INPUT: true; the input reads as it did. -/
def rowBytesSpec : ChangeSpec := { name := "rowBytes", fn := fun _ => fun
  | [d1, d2] => { results := [.lit (.bool true)], args := [d1, d2] }
  | _ => none }
def rowBytesRow : OpenClaim := { program := "ytoolnkemkhianaadoor", sum := "9f21379b72a75cae31e10143df3f21b02048742362b92307dd4a060878249bbb", func := "lapidary/lapidarylaw04.RowBytes", spec := "rowBytes", inPlace := ["internal/bytealg.IndexByteString"], unfollowed := true, recurses := true, named := ["unicode/utf8.first", "unicode/utf8.acceptRanges"], apart := false, laid := [("unicode/utf8.acceptRanges", laid_unicode_utf8_acceptRanges), ("unicode/utf8.first", laid_unicode_utf8_first)] }
def RowBytesSaid : Prop := rowBytesRow.holds Tryd.pinned (OpenSpec.ofChange rowBytesSpec)

/-- ITS FALSE NEIGHBOUR: 'it returns false'. Refute it at one input. -/
def rowBytesWrong : ChangeSpec := { name := "rowBytes", fn := fun _ => fun
  | [d1, d2] => { results := [.lit (.bool false)], args := [d1, d2] }
  | _ => none }
def RowBytesWrongFalsely : Prop := rowBytesRow.holds Tryd.pinned (OpenSpec.ofChange rowBytesWrong)

/-- 'lapidarylaw04.RowReads': WHATEVER THE INPUT: true; the input reads as it did. -/
def rowReadsSpec : ChangeSpec := { name := "rowReads", fn := fun _ => fun
  | [d1, d2] => { results := [.lit (.bool true)], args := [d1, d2] }
  | _ => none }
def rowReadsRow : OpenClaim := { program := "ytoolnkemkhianaadoor", sum := "9f21379b72a75cae31e10143df3f21b02048742362b92307dd4a060878249bbb", func := "lapidary/lapidarylaw04.RowReads", spec := "rowReads", inPlace := ["internal/bytealg.IndexByteString"], unfollowed := true, recurses := true, named := ["unicode/utf8.first", "unicode/utf8.acceptRanges"], apart := false, laid := [("unicode/utf8.acceptRanges", laid_unicode_utf8_acceptRanges), ("unicode/utf8.first", laid_unicode_utf8_first)] }
def RowReadsSaid : Prop := rowReadsRow.holds Tryd.pinned (OpenSpec.ofChange rowReadsSpec)

/-- ITS FALSE NEIGHBOUR: 'it returns false'. Refute it at one input. -/
def rowReadsWrong : ChangeSpec := { name := "rowReads", fn := fun _ => fun
  | [d1, d2] => { results := [.lit (.bool false)], args := [d1, d2] }
  | _ => none }
def RowReadsWrongFalsely : Prop := rowReadsRow.holds Tryd.pinned (OpenSpec.ofChange rowReadsWrong)

/-- 'lapidarylaw04.RowCuts': WHATEVER THE INPUT: true; the input reads as it did. -/
def rowCutsSpec : ChangeSpec := { name := "rowCuts", fn := fun _ => fun
  | [d1, d2, d3, d4] => { results := [.lit (.bool true)], args := [d1, d2, d3, d4] }
  | _ => none }
def rowCutsRow : OpenClaim := { program := "ytoolnkemkhianaadoor", sum := "9f21379b72a75cae31e10143df3f21b02048742362b92307dd4a060878249bbb", func := "lapidary/lapidarylaw04.RowCuts", spec := "rowCuts", inPlace := ["internal/bytealg.IndexByteString"], unfollowed := true, recurses := true, named := ["unicode/utf8.first", "unicode/utf8.acceptRanges"], apart := false, laid := [("unicode/utf8.acceptRanges", laid_unicode_utf8_acceptRanges), ("unicode/utf8.first", laid_unicode_utf8_first)] }
def RowCutsSaid : Prop := rowCutsRow.holds Tryd.pinned (OpenSpec.ofChange rowCutsSpec)

/-- ITS FALSE NEIGHBOUR: 'it returns false'. Refute it at one input. -/
def rowCutsWrong : ChangeSpec := { name := "rowCuts", fn := fun _ => fun
  | [d1, d2, d3, d4] => { results := [.lit (.bool false)], args := [d1, d2, d3, d4] }
  | _ => none }
def RowCutsWrongFalsely : Prop := rowCutsRow.holds Tryd.pinned (OpenSpec.ofChange rowCutsWrong)

/- THE SECOND FORM. 'bulk': how many values and letters a reading holds, each counted each time it is reached (what is shared counts as often as it is met; a slice's spare places count too). A statement '..UptoSaid' is the law's where the arguments, and the package variables that the reading takes, are together of bulk at most 1048576: NARROWER than '..Said'. Prove '..Said' where nothing that the law and all that it calls make is longer than what came in: it says more and counts as full. Else prove '..UptoSaid'. A law counts once. -/
mutual
def uptoBulk {H : Type} : DataW H → Nat
  | .lit (.string bytes) => bytes.length + 1
  | .lit _ => 1
  | .nil => 1
  | .ptr d => uptoBulk d + 1
  | .slice elems spare => uptoBulkAll elems + uptoBulkAll spare + 1
  | .agg parts => uptoBulkAll parts + 1
  | .iface _ d => uptoBulk d + 1
  | .map entries => uptoBulkEntries entries + 1
  | .held _ => 1
def uptoBulkAll {H : Type} : List (DataW H) → Nat
  | [] => 0
  | d :: r => uptoBulk d + uptoBulkAll r
def uptoBulkEntries {H : Type} : List (Lit × DataW H) → Nat
  | [] => 0
  | x :: r => uptoBulkEntry x + uptoBulkEntries r
def uptoBulkEntry {H : Type} : Lit × DataW H → Nat
  | (.string bytes, d) => bytes.length + uptoBulk d + 1
  | (_, d) => uptoBulk d + 1
 end
def uptoSmall : (H : Type) → List (DataW H) → Bool := fun _ ds => decide (uptoBulkAll ds ≤ 1048576)
def OpenSpec.upto (s : _root_.Go.ChangeSpec) : _root_.Go.OpenSpec := { _root_.Go.OpenSpec.ofChange s with cond := some uptoSmall }

/-- 'lapidarylaw03.KeyBehind', WHERE WHAT IT READS IS OF BULK AT MOST 1048576: true; the input reads as it did. -/
def keyBehindUptoRow : OpenClaim := { program := "ytoolnkemkhianaadoor", sum := "9f21379b72a75cae31e10143df3f21b02048742362b92307dd4a060878249bbb", func := "lapidary/lapidarylaw03.KeyBehind", spec := "keyBehind", inPlace := ["internal/bytealg.IndexByteString"], named := ["unicode/utf8.first", "unicode/utf8.acceptRanges"], apart := false, laid := [("unicode/utf8.acceptRanges", laid_unicode_utf8_acceptRanges), ("unicode/utf8.first", laid_unicode_utf8_first)], narrowed := true }
def KeyBehindUptoSaid : Prop := keyBehindUptoRow.holds Tryd.pinned (OpenSpec.upto keyBehindSpec)

/-- 'lapidarylaw03.KeyJoins', WHERE WHAT IT READS IS OF BULK AT MOST 1048576: true; the input reads as it did. -/
def keyJoinsUptoRow : OpenClaim := { program := "ytoolnkemkhianaadoor", sum := "9f21379b72a75cae31e10143df3f21b02048742362b92307dd4a060878249bbb", func := "lapidary/lapidarylaw03.KeyJoins", spec := "keyJoins", inPlace := ["internal/bytealg.IndexByteString"], named := ["unicode/utf8.first", "unicode/utf8.acceptRanges"], apart := false, laid := [("unicode/utf8.acceptRanges", laid_unicode_utf8_acceptRanges), ("unicode/utf8.first", laid_unicode_utf8_first)], narrowed := true }
def KeyJoinsUptoSaid : Prop := keyJoinsUptoRow.holds Tryd.pinned (OpenSpec.upto keyJoinsSpec)

/-- 'lapidarylaw03.KeyOrders', WHERE WHAT IT READS IS OF BULK AT MOST 1048576: true; the input reads as it did. -/
def keyOrdersUptoRow : OpenClaim := { program := "ytoolnkemkhianaadoor", sum := "9f21379b72a75cae31e10143df3f21b02048742362b92307dd4a060878249bbb", func := "lapidary/lapidarylaw03.KeyOrders", spec := "keyOrders", inPlace := ["internal/bytealg.IndexByteString", "internal/bytealg.Compare"], named := ["unicode/utf8.first", "unicode/utf8.acceptRanges"], apart := false, laid := [("unicode/utf8.acceptRanges", laid_unicode_utf8_acceptRanges), ("unicode/utf8.first", laid_unicode_utf8_first)], narrowed := true }
def KeyOrdersUptoSaid : Prop := keyOrdersUptoRow.holds Tryd.pinned (OpenSpec.upto keyOrdersSpec)

/-- 'lapidarylaw03.KeyFinds', WHERE WHAT IT READS IS OF BULK AT MOST 1048576: true; the input reads as it did. -/
def keyFindsUptoRow : OpenClaim := { program := "ytoolnkemkhianaadoor", sum := "9f21379b72a75cae31e10143df3f21b02048742362b92307dd4a060878249bbb", func := "lapidary/lapidarylaw03.KeyFinds", spec := "keyFinds", inPlace := ["internal/bytealg.IndexByteString", "internal/bytealg.Compare"], named := ["unicode/utf8.first", "unicode/utf8.acceptRanges"], apart := false, laid := [("unicode/utf8.acceptRanges", laid_unicode_utf8_acceptRanges), ("unicode/utf8.first", laid_unicode_utf8_first)], narrowed := true }
def KeyFindsUptoSaid : Prop := keyFindsUptoRow.holds Tryd.pinned (OpenSpec.upto keyFindsSpec)

/-- 'lapidarylaw03.KeyBytes', WHERE WHAT IT READS IS OF BULK AT MOST 1048576: true; the input reads as it did. -/
def keyBytesUptoRow : OpenClaim := { program := "ytoolnkemkhianaadoor", sum := "9f21379b72a75cae31e10143df3f21b02048742362b92307dd4a060878249bbb", func := "lapidary/lapidarylaw03.KeyBytes", spec := "keyBytes", inPlace := ["internal/bytealg.IndexByteString", "internal/bytealg.IndexByte"], named := ["unicode/utf8.first", "unicode/utf8.acceptRanges"], apart := false, laid := [("unicode/utf8.acceptRanges", laid_unicode_utf8_acceptRanges), ("unicode/utf8.first", laid_unicode_utf8_first)], narrowed := true }
def KeyBytesUptoSaid : Prop := keyBytesUptoRow.holds Tryd.pinned (OpenSpec.upto keyBytesSpec)

/-- 'lapidarylaw03.KeyReads', WHERE WHAT IT READS IS OF BULK AT MOST 1048576: true; the input reads as it did. -/
def keyReadsUptoRow : OpenClaim := { program := "ytoolnkemkhianaadoor", sum := "9f21379b72a75cae31e10143df3f21b02048742362b92307dd4a060878249bbb", func := "lapidary/lapidarylaw03.KeyReads", spec := "keyReads", inPlace := ["internal/bytealg.IndexByteString", "internal/bytealg.IndexByte"], named := ["unicode/utf8.first", "unicode/utf8.acceptRanges"], apart := false, laid := [("unicode/utf8.acceptRanges", laid_unicode_utf8_acceptRanges), ("unicode/utf8.first", laid_unicode_utf8_first)], narrowed := true }
def KeyReadsUptoSaid : Prop := keyReadsUptoRow.holds Tryd.pinned (OpenSpec.upto keyReadsSpec)

/-- 'lapidarylaw04.RowOne', WHERE WHAT IT READS IS OF BULK AT MOST 1048576: true; the input reads as it did. -/
def rowOneUptoRow : OpenClaim := { program := "ytoolnkemkhianaadoor", sum := "9f21379b72a75cae31e10143df3f21b02048742362b92307dd4a060878249bbb", func := "lapidary/lapidarylaw04.RowOne", spec := "rowOne", inPlace := ["internal/bytealg.IndexByteString"], unfollowed := true, recurses := true, named := ["unicode/utf8.first", "unicode/utf8.acceptRanges"], apart := false, laid := [("unicode/utf8.acceptRanges", laid_unicode_utf8_acceptRanges), ("unicode/utf8.first", laid_unicode_utf8_first)], narrowed := true }
def RowOneUptoSaid : Prop := rowOneUptoRow.holds Tryd.pinned (OpenSpec.upto rowOneSpec)

/-- 'lapidarylaw04.RowLong', WHERE WHAT IT READS IS OF BULK AT MOST 1048576: true; the input reads as it did. -/
def rowLongUptoRow : OpenClaim := { program := "ytoolnkemkhianaadoor", sum := "9f21379b72a75cae31e10143df3f21b02048742362b92307dd4a060878249bbb", func := "lapidary/lapidarylaw04.RowLong", spec := "rowLong", inPlace := ["internal/bytealg.IndexByteString"], unfollowed := true, recurses := true, named := ["unicode/utf8.first", "unicode/utf8.acceptRanges"], apart := false, laid := [("unicode/utf8.acceptRanges", laid_unicode_utf8_acceptRanges), ("unicode/utf8.first", laid_unicode_utf8_first)], narrowed := true }
def RowLongUptoSaid : Prop := rowLongUptoRow.holds Tryd.pinned (OpenSpec.upto rowLongSpec)

/-- 'lapidarylaw04.RowKinds', WHERE WHAT IT READS IS OF BULK AT MOST 1048576: true; the input reads as it did. -/
def rowKindsUptoRow : OpenClaim := { program := "ytoolnkemkhianaadoor", sum := "9f21379b72a75cae31e10143df3f21b02048742362b92307dd4a060878249bbb", func := "lapidary/lapidarylaw04.RowKinds", spec := "rowKinds", inPlace := ["internal/bytealg.IndexByteString"], unfollowed := true, recurses := true, named := ["unicode/utf8.first", "unicode/utf8.acceptRanges"], apart := false, laid := [("unicode/utf8.acceptRanges", laid_unicode_utf8_acceptRanges), ("unicode/utf8.first", laid_unicode_utf8_first)], narrowed := true }
def RowKindsUptoSaid : Prop := rowKindsUptoRow.holds Tryd.pinned (OpenSpec.upto rowKindsSpec)

/-- 'lapidarylaw04.RowBytes', WHERE WHAT IT READS IS OF BULK AT MOST 1048576: true; the input reads as it did. -/
def rowBytesUptoRow : OpenClaim := { program := "ytoolnkemkhianaadoor", sum := "9f21379b72a75cae31e10143df3f21b02048742362b92307dd4a060878249bbb", func := "lapidary/lapidarylaw04.RowBytes", spec := "rowBytes", inPlace := ["internal/bytealg.IndexByteString"], unfollowed := true, recurses := true, named := ["unicode/utf8.first", "unicode/utf8.acceptRanges"], apart := false, laid := [("unicode/utf8.acceptRanges", laid_unicode_utf8_acceptRanges), ("unicode/utf8.first", laid_unicode_utf8_first)], narrowed := true }
def RowBytesUptoSaid : Prop := rowBytesUptoRow.holds Tryd.pinned (OpenSpec.upto rowBytesSpec)

/-- 'lapidarylaw04.RowReads', WHERE WHAT IT READS IS OF BULK AT MOST 1048576: true; the input reads as it did. -/
def rowReadsUptoRow : OpenClaim := { program := "ytoolnkemkhianaadoor", sum := "9f21379b72a75cae31e10143df3f21b02048742362b92307dd4a060878249bbb", func := "lapidary/lapidarylaw04.RowReads", spec := "rowReads", inPlace := ["internal/bytealg.IndexByteString"], unfollowed := true, recurses := true, named := ["unicode/utf8.first", "unicode/utf8.acceptRanges"], apart := false, laid := [("unicode/utf8.acceptRanges", laid_unicode_utf8_acceptRanges), ("unicode/utf8.first", laid_unicode_utf8_first)], narrowed := true }
def RowReadsUptoSaid : Prop := rowReadsUptoRow.holds Tryd.pinned (OpenSpec.upto rowReadsSpec)

/-- 'lapidarylaw04.RowCuts', WHERE WHAT IT READS IS OF BULK AT MOST 1048576: true; the input reads as it did. -/
def rowCutsUptoRow : OpenClaim := { program := "ytoolnkemkhianaadoor", sum := "9f21379b72a75cae31e10143df3f21b02048742362b92307dd4a060878249bbb", func := "lapidary/lapidarylaw04.RowCuts", spec := "rowCuts", inPlace := ["internal/bytealg.IndexByteString"], unfollowed := true, recurses := true, named := ["unicode/utf8.first", "unicode/utf8.acceptRanges"], apart := false, laid := [("unicode/utf8.acceptRanges", laid_unicode_utf8_acceptRanges), ("unicode/utf8.first", laid_unicode_utf8_first)], narrowed := true }
def RowCutsUptoSaid : Prop := rowCutsUptoRow.holds Tryd.pinned (OpenSpec.upto rowCutsSpec)

end Rows
end Go.Proofs.YtoolnkemkhianaaDoor
