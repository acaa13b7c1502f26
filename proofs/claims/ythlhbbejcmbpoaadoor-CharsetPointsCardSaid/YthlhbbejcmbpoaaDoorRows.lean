/-
  NARROWER THAN 'FOR EVERY INPUT', by the rows' own cells (each row's printed sentence says how): CharsetOrders: laid · CharsetDecodes: laid · CharsetASCII: laid · CharsetEncodes: laid · CharsetNames: laid · CharsetValid: laid · CharsetCuts: laid · CharsetCases: laid · CharsetTexts: laid · CharsetLatin: laid · CharsetPoints: laid.
  DERIVED. THE GIVEN ROWS OF THIS SEAT. 11 by the template 'for every input the law returns true; each argument reads behind the call as it read before'; 0 by the template 'total and deterministic' (their statements: YthlhbbejcmbpoaaDoorTotals.lean).
  GIVEN WITH THE SEED: the statements are not yours to turn. If you find one false, say at which input.
  Laid BY PROGRAM, IN A SANDBOX (cutbox-rows.mjs): the forced cells as the released guide's own fill.sh prints them over the translation 48617505b36261fb… (all of the seat's roots in one cut). By AI agents, Wed Nov 11 2026. No macro, syntax, notation, axiom, sorry.
-/
import Derived.Test.YthlhbbejcmbpoaaDoorChecked
import GoSem.PinnedTables
import GoSem.Claim
import GoSem.ClaimJoined
import GoSem.ClaimMapViews
import Derived.JoinedTies
import Derived.KernelRfl
namespace Go.Proofs.YthlhbbejcmbpoaaDoor
/- THE CELL 'sum', in the pinned program and in every row, IS THE sha256 OF THE DUMP (.gsa) THAT YthlhbbejcmbpoaaDoorProg.lean LOADS. Nothing in Lean hashes anything: it is a label: what it is worth is what the hold of that sum in a sandbox is worth. -/
noncomputable def Tryd.pinned : Pinned := { name := "ythlhbbejcmbpoaadoor", sum := "48617505b36261fb8e41b1d7add80cfede66e8b3a1443688427c70a61b77c567", checked := Tryd.checked }
namespace Rows
def none {H : Type} : Left H := { results := [], args := [] }

/- WHAT THE LISTED PACKAGE-LEVEL VARIABLES READ AS WHEN THE CALL BEGINS. Each datum BY PROGRAM (the guide's laid-datum.mjs) off the statement by which the dump's own 'gosem.cut.vars' lays the variable. In a bare row this is a premise. The card (YthlhbbejcmbpoaaDoorCards.lean) ties it to the program's text. -/
def laid_unicode_utf8_acceptRanges {H : Type} : DataW H := .agg [.agg [.lit (.int .u8 128), .lit (.int .u8 191)], .agg [.lit (.int .u8 160), .lit (.int .u8 191)], .agg [.lit (.int .u8 128), .lit (.int .u8 159)], .agg [.lit (.int .u8 144), .lit (.int .u8 191)], .agg [.lit (.int .u8 128), .lit (.int .u8 143)], .agg [.lit (.int .u8 0), .lit (.int .u8 0)], .agg [.lit (.int .u8 0), .lit (.int .u8 0)], .agg [.lit (.int .u8 0), .lit (.int .u8 0)], .agg [.lit (.int .u8 0), .lit (.int .u8 0)], .agg [.lit (.int .u8 0), .lit (.int .u8 0)], .agg [.lit (.int .u8 0), .lit (.int .u8 0)], .agg [.lit (.int .u8 0), .lit (.int .u8 0)], .agg [.lit (.int .u8 0), .lit (.int .u8 0)], .agg [.lit (.int .u8 0), .lit (.int .u8 0)], .agg [.lit (.int .u8 0), .lit (.int .u8 0)], .agg [.lit (.int .u8 0), .lit (.int .u8 0)]]
/-- One of Go's own tables, pinned by name: the form's constant. -/
def laid_unicode_utf8_first : DataW Unit := Go.Pinned.utf8First

/-- 'manifoldlaw03.CharsetOrders': WHATEVER THE INPUT: true; the input reads as it did. -/
def charsetOrdersSpec : ChangeSpec := { name := "charsetOrders", fn := fun _ => fun
  | [d1, d2] => { results := [.lit (.bool true)], args := [d1, d2] }
  | _ => none }
def charsetOrdersRow : OpenClaim := { program := "ythlhbbejcmbpoaadoor", sum := "48617505b36261fb8e41b1d7add80cfede66e8b3a1443688427c70a61b77c567", func := "manifold/manifoldlaw03.CharsetOrders", spec := "charsetOrders", unfollowed := true, recurses := true, named := ["unicode/utf8.first", "unicode/utf8.acceptRanges"], apart := false, laid := [("unicode/utf8.acceptRanges", laid_unicode_utf8_acceptRanges), ("unicode/utf8.first", laid_unicode_utf8_first)] }
def CharsetOrdersSaid : Prop := charsetOrdersRow.holds Tryd.pinned (OpenSpec.ofChange charsetOrdersSpec)

/-- ITS FALSE NEIGHBOUR: 'it returns false'. Refute it at one input. -/
def charsetOrdersWrong : ChangeSpec := { name := "charsetOrders", fn := fun _ => fun
  | [d1, d2] => { results := [.lit (.bool false)], args := [d1, d2] }
  | _ => none }
def CharsetOrdersWrongFalsely : Prop := charsetOrdersRow.holds Tryd.pinned (OpenSpec.ofChange charsetOrdersWrong)

/-- 'manifoldlaw03.CharsetDecodes': WHATEVER THE INPUT: true; the input reads as it did. -/
def charsetDecodesSpec : ChangeSpec := { name := "charsetDecodes", fn := fun _ => fun
  | [d1, d2] => { results := [.lit (.bool true)], args := [d1, d2] }
  | _ => none }
def charsetDecodesRow : OpenClaim := { program := "ythlhbbejcmbpoaadoor", sum := "48617505b36261fb8e41b1d7add80cfede66e8b3a1443688427c70a61b77c567", func := "manifold/manifoldlaw03.CharsetDecodes", spec := "charsetDecodes", unfollowed := true, recurses := true, named := ["unicode/utf8.first", "unicode/utf8.acceptRanges"], apart := false, laid := [("unicode/utf8.acceptRanges", laid_unicode_utf8_acceptRanges), ("unicode/utf8.first", laid_unicode_utf8_first)] }
def CharsetDecodesSaid : Prop := charsetDecodesRow.holds Tryd.pinned (OpenSpec.ofChange charsetDecodesSpec)

/-- ITS FALSE NEIGHBOUR: 'it returns false'. Refute it at one input. -/
def charsetDecodesWrong : ChangeSpec := { name := "charsetDecodes", fn := fun _ => fun
  | [d1, d2] => { results := [.lit (.bool false)], args := [d1, d2] }
  | _ => none }
def CharsetDecodesWrongFalsely : Prop := charsetDecodesRow.holds Tryd.pinned (OpenSpec.ofChange charsetDecodesWrong)

/-- 'manifoldlaw03.CharsetASCII': WHATEVER THE INPUT: true; the input reads as it did. -/
def charsetASCIISpec : ChangeSpec := { name := "charsetASCII", fn := fun _ => fun
  | [d] => { results := [.lit (.bool true)], args := [d] }
  | _ => none }
def charsetASCIIRow : OpenClaim := { program := "ythlhbbejcmbpoaadoor", sum := "48617505b36261fb8e41b1d7add80cfede66e8b3a1443688427c70a61b77c567", func := "manifold/manifoldlaw03.CharsetASCII", spec := "charsetASCII", unfollowed := true, recurses := true, named := ["unicode/utf8.first", "unicode/utf8.acceptRanges"], apart := false, laid := [("unicode/utf8.acceptRanges", laid_unicode_utf8_acceptRanges), ("unicode/utf8.first", laid_unicode_utf8_first)] }
def CharsetASCIISaid : Prop := charsetASCIIRow.holds Tryd.pinned (OpenSpec.ofChange charsetASCIISpec)

/-- ITS FALSE NEIGHBOUR: 'it returns false'. Refute it at one input. -/
def charsetASCIIWrong : ChangeSpec := { name := "charsetASCII", fn := fun _ => fun
  | [d] => { results := [.lit (.bool false)], args := [d] }
  | _ => none }
def CharsetASCIIWrongFalsely : Prop := charsetASCIIRow.holds Tryd.pinned (OpenSpec.ofChange charsetASCIIWrong)

/-- 'manifoldlaw03.CharsetEncodes': WHATEVER THE INPUT: true; the input reads as it did. -/
def charsetEncodesSpec : ChangeSpec := { name := "charsetEncodes", fn := fun _ => fun
  | [d] => { results := [.lit (.bool true)], args := [d] }
  | _ => none }
def charsetEncodesRow : OpenClaim := { program := "ythlhbbejcmbpoaadoor", sum := "48617505b36261fb8e41b1d7add80cfede66e8b3a1443688427c70a61b77c567", func := "manifold/manifoldlaw03.CharsetEncodes", spec := "charsetEncodes", unfollowed := true, recurses := true, named := ["unicode/utf8.first", "unicode/utf8.acceptRanges"], apart := false, laid := [("unicode/utf8.acceptRanges", laid_unicode_utf8_acceptRanges), ("unicode/utf8.first", laid_unicode_utf8_first)] }
def CharsetEncodesSaid : Prop := charsetEncodesRow.holds Tryd.pinned (OpenSpec.ofChange charsetEncodesSpec)

/-- ITS FALSE NEIGHBOUR: 'it returns false'. Refute it at one input. -/
def charsetEncodesWrong : ChangeSpec := { name := "charsetEncodes", fn := fun _ => fun
  | [d] => { results := [.lit (.bool false)], args := [d] }
  | _ => none }
def CharsetEncodesWrongFalsely : Prop := charsetEncodesRow.holds Tryd.pinned (OpenSpec.ofChange charsetEncodesWrong)

/-- 'manifoldlaw03.CharsetNames': WHATEVER THE INPUT: true; the input reads as it did. -/
def charsetNamesSpec : ChangeSpec := { name := "charsetNames", fn := fun _ => fun
  | [d] => { results := [.lit (.bool true)], args := [d] }
  | _ => none }
def charsetNamesRow : OpenClaim := { program := "ythlhbbejcmbpoaadoor", sum := "48617505b36261fb8e41b1d7add80cfede66e8b3a1443688427c70a61b77c567", func := "manifold/manifoldlaw03.CharsetNames", spec := "charsetNames", unfollowed := true, recurses := true, named := ["unicode/utf8.first", "unicode/utf8.acceptRanges"], apart := false, laid := [("unicode/utf8.acceptRanges", laid_unicode_utf8_acceptRanges), ("unicode/utf8.first", laid_unicode_utf8_first)] }
def CharsetNamesSaid : Prop := charsetNamesRow.holds Tryd.pinned (OpenSpec.ofChange charsetNamesSpec)

/-- ITS FALSE NEIGHBOUR: 'it returns false'. Refute it at one input. -/
def charsetNamesWrong : ChangeSpec := { name := "charsetNames", fn := fun _ => fun
  | [d] => { results := [.lit (.bool false)], args := [d] }
  | _ => none }
def CharsetNamesWrongFalsely : Prop := charsetNamesRow.holds Tryd.pinned (OpenSpec.ofChange charsetNamesWrong)

/-- 'manifoldlaw03.CharsetValid': WHATEVER THE INPUT: true; the input reads as it did. -/
def charsetValidSpec : ChangeSpec := { name := "charsetValid", fn := fun _ => fun
  | [d] => { results := [.lit (.bool true)], args := [d] }
  | _ => none }
def charsetValidRow : OpenClaim := { program := "ythlhbbejcmbpoaadoor", sum := "48617505b36261fb8e41b1d7add80cfede66e8b3a1443688427c70a61b77c567", func := "manifold/manifoldlaw03.CharsetValid", spec := "charsetValid", unfollowed := true, recurses := true, named := ["unicode/utf8.first", "unicode/utf8.acceptRanges"], apart := false, laid := [("unicode/utf8.acceptRanges", laid_unicode_utf8_acceptRanges), ("unicode/utf8.first", laid_unicode_utf8_first)] }
def CharsetValidSaid : Prop := charsetValidRow.holds Tryd.pinned (OpenSpec.ofChange charsetValidSpec)

/-- ITS FALSE NEIGHBOUR: 'it returns false'. Refute it at one input. -/
def charsetValidWrong : ChangeSpec := { name := "charsetValid", fn := fun _ => fun
  | [d] => { results := [.lit (.bool false)], args := [d] }
  | _ => none }
def CharsetValidWrongFalsely : Prop := charsetValidRow.holds Tryd.pinned (OpenSpec.ofChange charsetValidWrong)

/-- 'manifoldlaw03.CharsetCuts': WHATEVER THE INPUT: true; the input reads as it did. -/
def charsetCutsSpec : ChangeSpec := { name := "charsetCuts", fn := fun _ => fun
  | [d1, d2] => { results := [.lit (.bool true)], args := [d1, d2] }
  | _ => none }
def charsetCutsRow : OpenClaim := { program := "ythlhbbejcmbpoaadoor", sum := "48617505b36261fb8e41b1d7add80cfede66e8b3a1443688427c70a61b77c567", func := "manifold/manifoldlaw03.CharsetCuts", spec := "charsetCuts", unfollowed := true, recurses := true, named := ["unicode/utf8.first", "unicode/utf8.acceptRanges"], apart := false, laid := [("unicode/utf8.acceptRanges", laid_unicode_utf8_acceptRanges), ("unicode/utf8.first", laid_unicode_utf8_first)] }
def CharsetCutsSaid : Prop := charsetCutsRow.holds Tryd.pinned (OpenSpec.ofChange charsetCutsSpec)

/-- ITS FALSE NEIGHBOUR: 'it returns false'. Refute it at one input. -/
def charsetCutsWrong : ChangeSpec := { name := "charsetCuts", fn := fun _ => fun
  | [d1, d2] => { results := [.lit (.bool false)], args := [d1, d2] }
  | _ => none }
def CharsetCutsWrongFalsely : Prop := charsetCutsRow.holds Tryd.pinned (OpenSpec.ofChange charsetCutsWrong)

/-- 'manifoldlaw03.CharsetCases': WHATEVER THE INPUT: true; the input reads as it did. -/
def charsetCasesSpec : ChangeSpec := { name := "charsetCases", fn := fun _ => fun
  | [d] => { results := [.lit (.bool true)], args := [d] }
  | _ => none }
def charsetCasesRow : OpenClaim := { program := "ythlhbbejcmbpoaadoor", sum := "48617505b36261fb8e41b1d7add80cfede66e8b3a1443688427c70a61b77c567", func := "manifold/manifoldlaw03.CharsetCases", spec := "charsetCases", unfollowed := true, recurses := true, named := ["unicode/utf8.first", "unicode/utf8.acceptRanges"], apart := false, laid := [("unicode/utf8.acceptRanges", laid_unicode_utf8_acceptRanges), ("unicode/utf8.first", laid_unicode_utf8_first)] }
def CharsetCasesSaid : Prop := charsetCasesRow.holds Tryd.pinned (OpenSpec.ofChange charsetCasesSpec)

/-- ITS FALSE NEIGHBOUR: 'it returns false'. Refute it at one input. -/
def charsetCasesWrong : ChangeSpec := { name := "charsetCases", fn := fun _ => fun
  | [d] => { results := [.lit (.bool false)], args := [d] }
  | _ => none }
def CharsetCasesWrongFalsely : Prop := charsetCasesRow.holds Tryd.pinned (OpenSpec.ofChange charsetCasesWrong)

/-- 'manifoldlaw03.CharsetTexts': WHATEVER THE INPUT: true; the input reads as it did. -/
def charsetTextsSpec : ChangeSpec := { name := "charsetTexts", fn := fun _ => fun
  | [d] => { results := [.lit (.bool true)], args := [d] }
  | _ => none }
def charsetTextsRow : OpenClaim := { program := "ythlhbbejcmbpoaadoor", sum := "48617505b36261fb8e41b1d7add80cfede66e8b3a1443688427c70a61b77c567", func := "manifold/manifoldlaw03.CharsetTexts", spec := "charsetTexts", inPlace := ["internal/abi.NoEscape"], unfollowed := true, recurses := true, named := ["unicode/utf8.first", "unicode/utf8.acceptRanges"], apart := false, laid := [("unicode/utf8.acceptRanges", laid_unicode_utf8_acceptRanges), ("unicode/utf8.first", laid_unicode_utf8_first)] }
def CharsetTextsSaid : Prop := charsetTextsRow.holds Tryd.pinned (OpenSpec.ofChange charsetTextsSpec)

/-- ITS FALSE NEIGHBOUR: 'it returns false'. Refute it at one input. -/
def charsetTextsWrong : ChangeSpec := { name := "charsetTexts", fn := fun _ => fun
  | [d] => { results := [.lit (.bool false)], args := [d] }
  | _ => none }
def CharsetTextsWrongFalsely : Prop := charsetTextsRow.holds Tryd.pinned (OpenSpec.ofChange charsetTextsWrong)

/-- 'manifoldlaw03.CharsetLatin': WHATEVER THE INPUT: true; the input reads as it did. -/
def charsetLatinSpec : ChangeSpec := { name := "charsetLatin", fn := fun _ => fun
  | [d] => { results := [.lit (.bool true)], args := [d] }
  | _ => none }
def charsetLatinRow : OpenClaim := { program := "ythlhbbejcmbpoaadoor", sum := "48617505b36261fb8e41b1d7add80cfede66e8b3a1443688427c70a61b77c567", func := "manifold/manifoldlaw03.CharsetLatin", spec := "charsetLatin", inPlace := ["internal/abi.NoEscape"], unfollowed := true, recurses := true, named := ["unicode/utf8.first", "unicode/utf8.acceptRanges"], apart := false, laid := [("unicode/utf8.acceptRanges", laid_unicode_utf8_acceptRanges), ("unicode/utf8.first", laid_unicode_utf8_first)] }
def CharsetLatinSaid : Prop := charsetLatinRow.holds Tryd.pinned (OpenSpec.ofChange charsetLatinSpec)

/-- ITS FALSE NEIGHBOUR: 'it returns false'. Refute it at one input. -/
def charsetLatinWrong : ChangeSpec := { name := "charsetLatin", fn := fun _ => fun
  | [d] => { results := [.lit (.bool false)], args := [d] }
  | _ => none }
def CharsetLatinWrongFalsely : Prop := charsetLatinRow.holds Tryd.pinned (OpenSpec.ofChange charsetLatinWrong)

/-- 'manifoldlaw03.CharsetPoints': WHATEVER THE INPUT: true; the input reads as it did. -/
def charsetPointsSpec : ChangeSpec := { name := "charsetPoints", fn := fun _ => fun
  | [d] => { results := [.lit (.bool true)], args := [d] }
  | _ => none }
def charsetPointsRow : OpenClaim := { program := "ythlhbbejcmbpoaadoor", sum := "48617505b36261fb8e41b1d7add80cfede66e8b3a1443688427c70a61b77c567", func := "manifold/manifoldlaw03.CharsetPoints", spec := "charsetPoints", inPlace := ["internal/abi.NoEscape"], unfollowed := true, recurses := true, named := ["unicode/utf8.first", "unicode/utf8.acceptRanges"], apart := false, laid := [("unicode/utf8.acceptRanges", laid_unicode_utf8_acceptRanges), ("unicode/utf8.first", laid_unicode_utf8_first)] }
def CharsetPointsSaid : Prop := charsetPointsRow.holds Tryd.pinned (OpenSpec.ofChange charsetPointsSpec)

/-- ITS FALSE NEIGHBOUR: 'it returns false'. Refute it at one input. -/
def charsetPointsWrong : ChangeSpec := { name := "charsetPoints", fn := fun _ => fun
  | [d] => { results := [.lit (.bool false)], args := [d] }
  | _ => none }
def CharsetPointsWrongFalsely : Prop := charsetPointsRow.holds Tryd.pinned (OpenSpec.ofChange charsetPointsWrong)

/- THE SECOND FORM. 'bulk': how many values and letters a reading holds, each counted each time it is reached (what is shared counts as often as it is met; a slice's spare places count too). A statement '..UptoSaid' is the law's where the arguments, and the package variables that the reading takes, are together of bulk at most 1048576: NARROWER than '..Said'. Prove '..Said' where nothing that the law and all that it calls make is longer than what came in: it says more and counts as full. Else prove '..UptoSaid'. A law counts once. -/
mutual
def uptoBulk {H : Type} : DataW H → Nat
  | .lit (.string bytes) => bytes.length + 1
  | .lit _ => 1
  | .nil => 1
  | .ptr d => uptoBulk d + 1
  | .slice elems spare => uptoBulkAll elems + uptoBulkAll spare + 1
  | .agg parts => uptoBulkAll parts + 1
  | .iface _ d => uptoBulk d + 1
  | .map entries => uptoBulkEntries entries + 1
  | .held _ => 1
def uptoBulkAll {H : Type} : List (DataW H) → Nat
  | [] => 0
  | d :: r => uptoBulk d + uptoBulkAll r
def uptoBulkEntries {H : Type} : List (Lit × DataW H) → Nat
  | [] => 0
  | x :: r => uptoBulkEntry x + uptoBulkEntries r
def uptoBulkEntry {H : Type} : Lit × DataW H → Nat
  | (.string bytes, d) => bytes.length + uptoBulk d + 1
  | (_, d) => uptoBulk d + 1
 end
def uptoSmall : (H : Type) → List (DataW H) → Bool := fun _ ds => decide (uptoBulkAll ds ≤ 1048576)
def OpenSpec.upto (s : _root_.Go.ChangeSpec) : _root_.Go.OpenSpec := { _root_.Go.OpenSpec.ofChange s with cond := some uptoSmall }

/-- 'manifoldlaw03.CharsetOrders', WHERE WHAT IT READS IS OF BULK AT MOST 1048576: true; the input reads as it did. -/
def charsetOrdersUptoRow : OpenClaim := { program := "ythlhbbejcmbpoaadoor", sum := "48617505b36261fb8e41b1d7add80cfede66e8b3a1443688427c70a61b77c567", func := "manifold/manifoldlaw03.CharsetOrders", spec := "charsetOrders", unfollowed := true, recurses := true, named := ["unicode/utf8.first", "unicode/utf8.acceptRanges"], apart := false, laid := [("unicode/utf8.acceptRanges", laid_unicode_utf8_acceptRanges), ("unicode/utf8.first", laid_unicode_utf8_first)], narrowed := true }
def CharsetOrdersUptoSaid : Prop := charsetOrdersUptoRow.holds Tryd.pinned (OpenSpec.upto charsetOrdersSpec)

/-- 'manifoldlaw03.CharsetDecodes', WHERE WHAT IT READS IS OF BULK AT MOST 1048576: true; the input reads as it did. -/
def charsetDecodesUptoRow : OpenClaim := { program := "ythlhbbejcmbpoaadoor", sum := "48617505b36261fb8e41b1d7add80cfede66e8b3a1443688427c70a61b77c567", func := "manifold/manifoldlaw03.CharsetDecodes", spec := "charsetDecodes", unfollowed := true, recurses := true, named := ["unicode/utf8.first", "unicode/utf8.acceptRanges"], apart := false, laid := [("unicode/utf8.acceptRanges", laid_unicode_utf8_acceptRanges), ("unicode/utf8.first", laid_unicode_utf8_first)], narrowed := true }
def CharsetDecodesUptoSaid : Prop := charsetDecodesUptoRow.holds Tryd.pinned (OpenSpec.upto charsetDecodesSpec)

/-- 'manifoldlaw03.CharsetASCII', WHERE WHAT IT READS IS OF BULK AT MOST 1048576: true; the input reads as it did. -/
def charsetASCIIUptoRow : OpenClaim := { program := "ythlhbbejcmbpoaadoor", sum := "48617505b36261fb8e41b1d7add80cfede66e8b3a1443688427c70a61b77c567", func := "manifold/manifoldlaw03.CharsetASCII", spec := "charsetASCII", unfollowed := true, recurses := true, named := ["unicode/utf8.first", "unicode/utf8.acceptRanges"], apart := false, laid := [("unicode/utf8.acceptRanges", laid_unicode_utf8_acceptRanges), ("unicode/utf8.first", laid_unicode_utf8_first)], narrowed := true }
def CharsetASCIIUptoSaid : Prop := charsetASCIIUptoRow.holds Tryd.pinned (OpenSpec.upto charsetASCIISpec)

/-- 'manifoldlaw03.CharsetEncodes', WHERE WHAT IT READS IS OF BULK AT MOST 1048576: true; the input reads as it did. -/
def charsetEncodesUptoRow : OpenClaim := { program := "ythlhbbejcmbpoaadoor", sum := "48617505b36261fb8e41b1d7add80cfede66e8b3a1443688427c70a61b77c567", func := "manifold/manifoldlaw03.CharsetEncodes", spec := "charsetEncodes", unfollowed := true, recurses := true, named := ["unicode/utf8.first", "unicode/utf8.acceptRanges"], apart := false, laid := [("unicode/utf8.acceptRanges", laid_unicode_utf8_acceptRanges), ("unicode/utf8.first", laid_unicode_utf8_first)], narrowed := true }
def CharsetEncodesUptoSaid : Prop := charsetEncodesUptoRow.holds Tryd.pinned (OpenSpec.upto charsetEncodesSpec)

/-- 'manifoldlaw03.CharsetNames', WHERE WHAT IT READS IS OF BULK AT MOST 1048576: true; the input reads as it did. -/
def charsetNamesUptoRow : OpenClaim := { program := "ythlhbbejcmbpoaadoor", sum := "48617505b36261fb8e41b1d7add80cfede66e8b3a1443688427c70a61b77c567", func := "manifold/manifoldlaw03.CharsetNames", spec := "charsetNames", unfollowed := true, recurses := true, named := ["unicode/utf8.first", "unicode/utf8.acceptRanges"], apart := false, laid := [("unicode/utf8.acceptRanges", laid_unicode_utf8_acceptRanges), ("unicode/utf8.first", laid_unicode_utf8_first)], narrowed := true }
def CharsetNamesUptoSaid : Prop := charsetNamesUptoRow.holds Tryd.pinned (OpenSpec.upto charsetNamesSpec)

/-- 'manifoldlaw03.CharsetValid', WHERE WHAT IT READS IS OF BULK AT MOST 1048576: true; the input reads as it did. -/
def charsetValidUptoRow : OpenClaim := { program := "ythlhbbejcmbpoaadoor", sum := "48617505b36261fb8e41b1d7add80cfede66e8b3a1443688427c70a61b77c567", func := "manifold/manifoldlaw03.CharsetValid", spec := "charsetValid", unfollowed := true, recurses := true, named := ["unicode/utf8.first", "unicode/utf8.acceptRanges"], apart := false, laid := [("unicode/utf8.acceptRanges", laid_unicode_utf8_acceptRanges), ("unicode/utf8.first", laid_unicode_utf8_first)], narrowed := true }
def CharsetValidUptoSaid : Prop := charsetValidUptoRow.holds Tryd.pinned (OpenSpec.upto charsetValidSpec)

/-- 'manifoldlaw03.CharsetCuts', WHERE WHAT IT READS IS OF BULK AT MOST 1048576: true; the input reads as it did. -/
def charsetCutsUptoRow : OpenClaim := { program := "ythlhbbejcmbpoaadoor", sum := "48617505b36261fb8e41b1d7add80cfede66e8b3a1443688427c70a61b77c567", func := "manifold/manifoldlaw03.CharsetCuts", spec := "charsetCuts", unfollowed := true, recurses := true, named := ["unicode/utf8.first", "unicode/utf8.acceptRanges"], apart := false, laid := [("unicode/utf8.acceptRanges", laid_unicode_utf8_acceptRanges), ("unicode/utf8.first", laid_unicode_utf8_first)], narrowed := true }
def CharsetCutsUptoSaid : Prop := charsetCutsUptoRow.holds Tryd.pinned (OpenSpec.upto charsetCutsSpec)

/-- 'manifoldlaw03.CharsetCases', WHERE WHAT IT READS IS OF BULK AT MOST 1048576: true; the input reads as it did. -/
def charsetCasesUptoRow : OpenClaim := { program := "ythlhbbejcmbpoaadoor", sum := "48617505b36261fb8e41b1d7add80cfede66e8b3a1443688427c70a61b77c567", func := "manifold/manifoldlaw03.CharsetCases", spec := "charsetCases", unfollowed := true, recurses := true, named := ["unicode/utf8.first", "unicode/utf8.acceptRanges"], apart := false, laid := [("unicode/utf8.acceptRanges", laid_unicode_utf8_acceptRanges), ("unicode/utf8.first", laid_unicode_utf8_first)], narrowed := true }
def CharsetCasesUptoSaid : Prop := charsetCasesUptoRow.holds Tryd.pinned (OpenSpec.upto charsetCasesSpec)

/-- 'manifoldlaw03.CharsetTexts', WHERE WHAT IT READS IS OF BULK AT MOST 1048576: true; the input reads as it did. -/
def charsetTextsUptoRow : OpenClaim := { program := "ythlhbbejcmbpoaadoor", sum := "48617505b36261fb8e41b1d7add80cfede66e8b3a1443688427c70a61b77c567", func := "manifold/manifoldlaw03.CharsetTexts", spec := "charsetTexts", inPlace := ["internal/abi.NoEscape"], unfollowed := true, recurses := true, named := ["unicode/utf8.first", "unicode/utf8.acceptRanges"], apart := false, laid := [("unicode/utf8.acceptRanges", laid_unicode_utf8_acceptRanges), ("unicode/utf8.first", laid_unicode_utf8_first)], narrowed := true }
def CharsetTextsUptoSaid : Prop := charsetTextsUptoRow.holds Tryd.pinned (OpenSpec.upto charsetTextsSpec)

/-- 'manifoldlaw03.CharsetLatin', WHERE WHAT IT READS IS OF BULK AT MOST 1048576: true; the input reads as it did. -/
def charsetLatinUptoRow : OpenClaim := { program := "ythlhbbejcmbpoaadoor", sum := "48617505b36261fb8e41b1d7add80cfede66e8b3a1443688427c70a61b77c567", func := "manifold/manifoldlaw03.CharsetLatin", spec := "charsetLatin", inPlace := ["internal/abi.NoEscape"], unfollowed := true, recurses := true, named := ["unicode/utf8.first", "unicode/utf8.acceptRanges"], apart := false, laid := [("unicode/utf8.acceptRanges", laid_unicode_utf8_acceptRanges), ("unicode/utf8.first", laid_unicode_utf8_first)], narrowed := true }
def CharsetLatinUptoSaid : Prop := charsetLatinUptoRow.holds Tryd.pinned (OpenSpec.upto charsetLatinSpec)

/-- 'manifoldlaw03.CharsetPoints', WHERE WHAT IT READS IS OF BULK AT MOST 1048576: true; the input reads as it did. -/
def charsetPointsUptoRow : OpenClaim := { program := "ythlhbbejcmbpoaadoor", sum := "48617505b36261fb8e41b1d7add80cfede66e8b3a1443688427c70a61b77c567", func := "manifold/manifoldlaw03.CharsetPoints", spec := "charsetPoints", inPlace := ["internal/abi.NoEscape"], unfollowed := true, recurses := true, named := ["unicode/utf8.first", "unicode/utf8.acceptRanges"], apart := false, laid := [("unicode/utf8.acceptRanges", laid_unicode_utf8_acceptRanges), ("unicode/utf8.first", laid_unicode_utf8_first)], narrowed := true }
def CharsetPointsUptoSaid : Prop := charsetPointsUptoRow.holds Tryd.pinned (OpenSpec.upto charsetPointsSpec)

end Rows
end Go.Proofs.YthlhbbejcmbpoaaDoor
