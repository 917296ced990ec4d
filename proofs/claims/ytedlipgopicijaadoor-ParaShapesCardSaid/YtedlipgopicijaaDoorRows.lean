/-
  NARROWER THAN 'FOR EVERY INPUT', by the rows' own cells (each row's printed sentence says how): ParaLines: laid · ParaCovers: laid · PageText: laid · PageCovers: laid · ParaShapes: laid.
  DERIVED. THE GIVEN ROWS OF THIS SEAT. 5 by the template 'for every input the law returns true; each argument reads behind the call as it read before'; 0 by the template 'total and deterministic' (their statements: YtedlipgopicijaaDoorTotals.lean).
  GIVEN WITH THE SEED: the statements are not yours to turn. If you find one false, say at which input.
  Laid BY PROGRAM, IN A SANDBOX (cutbox-rows.mjs): the forced cells as the released guide's own fill.sh prints them over the translation 83316febf00b8fb3… (all of the seat's roots in one cut). By AI agents, Wed Nov 11 2026. No macro, syntax, notation, axiom, sorry.
-/
import Derived.Test.YtedlipgopicijaaDoorChecked
import GoSem.Claim
import GoSem.ClaimJoined
import GoSem.ClaimMapViews
import Derived.JoinedTies
import Derived.KernelRfl
namespace Go.Proofs.YtedlipgopicijaaDoor
/- THE CELL 'sum', in the pinned program and in every row, IS THE sha256 OF THE DUMP (.gsa) THAT YtedlipgopicijaaDoorProg.lean LOADS. Nothing in Lean hashes anything: it is a label: what it is worth is what the hold of that sum in a sandbox is worth. -/
noncomputable def Tryd.pinned : Pinned := { name := "ytedlipgopicijaadoor", sum := "83316febf00b8fb34fe63d5196195e8b23ae82606d4ce63510528c3b3ef83c46", checked := Tryd.checked }
namespace Rows
def none {H : Type} : Left H := { results := [], args := [] }

/- WHAT THE LISTED PACKAGE-LEVEL VARIABLES READ AS WHEN THE CALL BEGINS. Each datum BY PROGRAM (the guide's laid-datum.mjs) off the statement by which the dump's own 'gosem.cut.vars' lays the variable. In a bare row this is a premise. The card (YtedlipgopicijaaDoorCards.lean) ties it to the program's text. -/
def laid_rollbook_glyph_widths {H : Type} : DataW H := .agg [.lit (.int .u8 4), .lit (.int .u8 6), .lit (.int .u8 8), .lit (.int .u8 8), .lit (.int .u8 12), .lit (.int .u8 10), .lit (.int .u8 4), .lit (.int .u8 6), .lit (.int .u8 6), .lit (.int .u8 8), .lit (.int .u8 8), .lit (.int .u8 4), .lit (.int .u8 6), .lit (.int .u8 4), .lit (.int .u8 6), .lit (.int .u8 8), .lit (.int .u8 8), .lit (.int .u8 8), .lit (.int .u8 8), .lit (.int .u8 8), .lit (.int .u8 8), .lit (.int .u8 8), .lit (.int .u8 8), .lit (.int .u8 8), .lit (.int .u8 8), .lit (.int .u8 4), .lit (.int .u8 4), .lit (.int .u8 8), .lit (.int .u8 8), .lit (.int .u8 8), .lit (.int .u8 8), .lit (.int .u8 12), .lit (.int .u8 10), .lit (.int .u8 10), .lit (.int .u8 10), .lit (.int .u8 10), .lit (.int .u8 10), .lit (.int .u8 10), .lit (.int .u8 10), .lit (.int .u8 10), .lit (.int .u8 6), .lit (.int .u8 10), .lit (.int .u8 10), .lit (.int .u8 10), .lit (.int .u8 12), .lit (.int .u8 10), .lit (.int .u8 10), .lit (.int .u8 10), .lit (.int .u8 10), .lit (.int .u8 10), .lit (.int .u8 10), .lit (.int .u8 10), .lit (.int .u8 10), .lit (.int .u8 10), .lit (.int .u8 12), .lit (.int .u8 10), .lit (.int .u8 10), .lit (.int .u8 10), .lit (.int .u8 0), .lit (.int .u8 6), .lit (.int .u8 0), .lit (.int .u8 8), .lit (.int .u8 8), .lit (.int .u8 4), .lit (.int .u8 8), .lit (.int .u8 8), .lit (.int .u8 8), .lit (.int .u8 8), .lit (.int .u8 8), .lit (.int .u8 6), .lit (.int .u8 8), .lit (.int .u8 8), .lit (.int .u8 4), .lit (.int .u8 4), .lit (.int .u8 8), .lit (.int .u8 4), .lit (.int .u8 12), .lit (.int .u8 8), .lit (.int .u8 8), .lit (.int .u8 8), .lit (.int .u8 8), .lit (.int .u8 6), .lit (.int .u8 8), .lit (.int .u8 6), .lit (.int .u8 8), .lit (.int .u8 8), .lit (.int .u8 12), .lit (.int .u8 8), .lit (.int .u8 8), .lit (.int .u8 8), .lit (.int .u8 6), .lit (.int .u8 4), .lit (.int .u8 6), .lit (.int .u8 8)]

/-- 'rollbooklaw26.ParaLines': WHATEVER THE INPUT: true; the input reads as it did. -/
def paraLinesSpec : ChangeSpec := { name := "paraLines", fn := fun _ => fun
  | [d1, d2, d3, d4, d5] => { results := [.lit (.bool true)], args := [d1, d2, d3, d4, d5] }
  | _ => none }
def paraLinesRow : OpenClaim := { program := "ytedlipgopicijaadoor", sum := "83316febf00b8fb34fe63d5196195e8b23ae82606d4ce63510528c3b3ef83c46", func := "rollbook/rollbooklaw26.ParaLines", spec := "paraLines", unfollowed := true, recurses := true, named := ["rollbook/glyph.widths"], apart := false, laid := [("rollbook/glyph.widths", laid_rollbook_glyph_widths)] }
def ParaLinesSaid : Prop := paraLinesRow.holds Tryd.pinned (OpenSpec.ofChange paraLinesSpec)

/-- ITS FALSE NEIGHBOUR: 'it returns false'. Refute it at one input. -/
def paraLinesWrong : ChangeSpec := { name := "paraLines", fn := fun _ => fun
  | [d1, d2, d3, d4, d5] => { results := [.lit (.bool false)], args := [d1, d2, d3, d4, d5] }
  | _ => none }
def ParaLinesWrongFalsely : Prop := paraLinesRow.holds Tryd.pinned (OpenSpec.ofChange paraLinesWrong)

/-- 'rollbooklaw26.ParaCovers': WHATEVER THE INPUT: true; the input reads as it did. -/
def paraCoversSpec : ChangeSpec := { name := "paraCovers", fn := fun _ => fun
  | [d1, d2] => { results := [.lit (.bool true)], args := [d1, d2] }
  | _ => none }
def paraCoversRow : OpenClaim := { program := "ytedlipgopicijaadoor", sum := "83316febf00b8fb34fe63d5196195e8b23ae82606d4ce63510528c3b3ef83c46", func := "rollbook/rollbooklaw26.ParaCovers", spec := "paraCovers", unfollowed := true, recurses := true, named := ["rollbook/glyph.widths"], apart := false, laid := [("rollbook/glyph.widths", laid_rollbook_glyph_widths)] }
def ParaCoversSaid : Prop := paraCoversRow.holds Tryd.pinned (OpenSpec.ofChange paraCoversSpec)

/-- ITS FALSE NEIGHBOUR: 'it returns false'. Refute it at one input. -/
def paraCoversWrong : ChangeSpec := { name := "paraCovers", fn := fun _ => fun
  | [d1, d2] => { results := [.lit (.bool false)], args := [d1, d2] }
  | _ => none }
def ParaCoversWrongFalsely : Prop := paraCoversRow.holds Tryd.pinned (OpenSpec.ofChange paraCoversWrong)

/-- 'rollbooklaw27.PageText': WHATEVER THE INPUT: true; the input reads as it did. -/
def pageTextSpec : ChangeSpec := { name := "pageText", fn := fun _ => fun
  | [d1, d2, d3, d4] => { results := [.lit (.bool true)], args := [d1, d2, d3, d4] }
  | _ => none }
def pageTextRow : OpenClaim := { program := "ytedlipgopicijaadoor", sum := "83316febf00b8fb34fe63d5196195e8b23ae82606d4ce63510528c3b3ef83c46", func := "rollbook/rollbooklaw27.PageText", spec := "pageText", unfollowed := true, recurses := true, named := ["rollbook/glyph.widths"], apart := false, laid := [("rollbook/glyph.widths", laid_rollbook_glyph_widths)] }
def PageTextSaid : Prop := pageTextRow.holds Tryd.pinned (OpenSpec.ofChange pageTextSpec)

/-- ITS FALSE NEIGHBOUR: 'it returns false'. Refute it at one input. -/
def pageTextWrong : ChangeSpec := { name := "pageText", fn := fun _ => fun
  | [d1, d2, d3, d4] => { results := [.lit (.bool false)], args := [d1, d2, d3, d4] }
  | _ => none }
def PageTextWrongFalsely : Prop := pageTextRow.holds Tryd.pinned (OpenSpec.ofChange pageTextWrong)

/-- 'rollbooklaw27.PageCovers': WHATEVER THE INPUT: true; the input reads as it did. -/
def pageCoversSpec : ChangeSpec := { name := "pageCovers", fn := fun _ => fun
  | [d1, d2, d3] => { results := [.lit (.bool true)], args := [d1, d2, d3] }
  | _ => none }
def pageCoversRow : OpenClaim := { program := "ytedlipgopicijaadoor", sum := "83316febf00b8fb34fe63d5196195e8b23ae82606d4ce63510528c3b3ef83c46", func := "rollbook/rollbooklaw27.PageCovers", spec := "pageCovers", unfollowed := true, recurses := true, named := ["rollbook/glyph.widths"], apart := false, laid := [("rollbook/glyph.widths", laid_rollbook_glyph_widths)] }
def PageCoversSaid : Prop := pageCoversRow.holds Tryd.pinned (OpenSpec.ofChange pageCoversSpec)

/-- ITS FALSE NEIGHBOUR: 'it returns false'. Refute it at one input. -/
def pageCoversWrong : ChangeSpec := { name := "pageCovers", fn := fun _ => fun
  | [d1, d2, d3] => { results := [.lit (.bool false)], args := [d1, d2, d3] }
  | _ => none }
def PageCoversWrongFalsely : Prop := pageCoversRow.holds Tryd.pinned (OpenSpec.ofChange pageCoversWrong)

/-- 'rollbooklaw26.ParaShapes': WHATEVER THE INPUT: true; the input reads as it did. -/
def paraShapesSpec : ChangeSpec := { name := "paraShapes", fn := fun _ => fun
  | [d1, d2, d3] => { results := [.lit (.bool true)], args := [d1, d2, d3] }
  | _ => none }
def paraShapesRow : OpenClaim := { program := "ytedlipgopicijaadoor", sum := "83316febf00b8fb34fe63d5196195e8b23ae82606d4ce63510528c3b3ef83c46", func := "rollbook/rollbooklaw26.ParaShapes", spec := "paraShapes", inPlace := ["internal/abi.NoEscape", "internal/bytealg.MakeNoZero"], unfollowed := true, recurses := true, named := ["rollbook/glyph.widths"], apart := false, laid := [("rollbook/glyph.widths", laid_rollbook_glyph_widths)] }
def ParaShapesSaid : Prop := paraShapesRow.holds Tryd.pinned (OpenSpec.ofChange paraShapesSpec)

/-- ITS FALSE NEIGHBOUR: 'it returns false'. Refute it at one input. -/
def paraShapesWrong : ChangeSpec := { name := "paraShapes", fn := fun _ => fun
  | [d1, d2, d3] => { results := [.lit (.bool false)], args := [d1, d2, d3] }
  | _ => none }
def ParaShapesWrongFalsely : Prop := paraShapesRow.holds Tryd.pinned (OpenSpec.ofChange paraShapesWrong)

/- THE SECOND FORM. 'bulk': how many values and letters a reading holds, each counted each time it is reached (what is shared counts as often as it is met; a slice's spare places count too). A statement '..UptoSaid' is the law's where the arguments, and the package variables that the reading takes, are together of bulk at most 1048576: NARROWER than '..Said'. Prove '..Said' where nothing that the law and all that it calls make is longer than what came in: it says more and counts as full. Else prove '..UptoSaid'. A law counts once. -/
mutual
def uptoBulk {H : Type} : DataW H → Nat
  | .lit (.string bytes) => bytes.length + 1
  | .lit _ => 1
  | .nil => 1
  | .ptr d => uptoBulk d + 1
  | .slice elems spare => uptoBulkAll elems + uptoBulkAll spare + 1
  | .agg parts => uptoBulkAll parts + 1
  | .iface _ d => uptoBulk d + 1
  | .map entries => uptoBulkEntries entries + 1
  | .held _ => 1
def uptoBulkAll {H : Type} : List (DataW H) → Nat
  | [] => 0
  | d :: r => uptoBulk d + uptoBulkAll r
def uptoBulkEntries {H : Type} : List (Lit × DataW H) → Nat
  | [] => 0
  | x :: r => uptoBulkEntry x + uptoBulkEntries r
def uptoBulkEntry {H : Type} : Lit × DataW H → Nat
  | (.string bytes, d) => bytes.length + uptoBulk d + 1
  | (_, d) => uptoBulk d + 1
 end
def uptoSmall : (H : Type) → List (DataW H) → Bool := fun _ ds => decide (uptoBulkAll ds ≤ 1048576)
def OpenSpec.upto (s : _root_.Go.ChangeSpec) : _root_.Go.OpenSpec := { _root_.Go.OpenSpec.ofChange s with cond := some uptoSmall }

/-- 'rollbooklaw26.ParaLines', WHERE WHAT IT READS IS OF BULK AT MOST 1048576: true; the input reads as it did. -/
def paraLinesUptoRow : OpenClaim := { program := "ytedlipgopicijaadoor", sum := "83316febf00b8fb34fe63d5196195e8b23ae82606d4ce63510528c3b3ef83c46", func := "rollbook/rollbooklaw26.ParaLines", spec := "paraLines", unfollowed := true, recurses := true, named := ["rollbook/glyph.widths"], apart := false, laid := [("rollbook/glyph.widths", laid_rollbook_glyph_widths)], narrowed := true }
def ParaLinesUptoSaid : Prop := paraLinesUptoRow.holds Tryd.pinned (OpenSpec.upto paraLinesSpec)

/-- 'rollbooklaw26.ParaCovers', WHERE WHAT IT READS IS OF BULK AT MOST 1048576: true; the input reads as it did. -/
def paraCoversUptoRow : OpenClaim := { program := "ytedlipgopicijaadoor", sum := "83316febf00b8fb34fe63d5196195e8b23ae82606d4ce63510528c3b3ef83c46", func := "rollbook/rollbooklaw26.ParaCovers", spec := "paraCovers", unfollowed := true, recurses := true, named := ["rollbook/glyph.widths"], apart := false, laid := [("rollbook/glyph.widths", laid_rollbook_glyph_widths)], narrowed := true }
def ParaCoversUptoSaid : Prop := paraCoversUptoRow.holds Tryd.pinned (OpenSpec.upto paraCoversSpec)

/-- 'rollbooklaw27.PageText', WHERE WHAT IT READS IS OF BULK AT MOST 1048576: true; the input reads as it did. -/
def pageTextUptoRow : OpenClaim := { program := "ytedlipgopicijaadoor", sum := "83316febf00b8fb34fe63d5196195e8b23ae82606d4ce63510528c3b3ef83c46", func := "rollbook/rollbooklaw27.PageText", spec := "pageText", unfollowed := true, recurses := true, named := ["rollbook/glyph.widths"], apart := false, laid := [("rollbook/glyph.widths", laid_rollbook_glyph_widths)], narrowed := true }
def PageTextUptoSaid : Prop := pageTextUptoRow.holds Tryd.pinned (OpenSpec.upto pageTextSpec)

/-- 'rollbooklaw27.PageCovers', WHERE WHAT IT READS IS OF BULK AT MOST 1048576: true; the input reads as it did. -/
def pageCoversUptoRow : OpenClaim := { program := "ytedlipgopicijaadoor", sum := "83316febf00b8fb34fe63d5196195e8b23ae82606d4ce63510528c3b3ef83c46", func := "rollbook/rollbooklaw27.PageCovers", spec := "pageCovers", unfollowed := true, recurses := true, named := ["rollbook/glyph.widths"], apart := false, laid := [("rollbook/glyph.widths", laid_rollbook_glyph_widths)], narrowed := true }
def PageCoversUptoSaid : Prop := pageCoversUptoRow.holds Tryd.pinned (OpenSpec.upto pageCoversSpec)

/-- 'rollbooklaw26.ParaShapes', WHERE WHAT IT READS IS OF BULK AT MOST 1048576: true; the input reads as it did. -/
def paraShapesUptoRow : OpenClaim := { program := "ytedlipgopicijaadoor", sum := "83316febf00b8fb34fe63d5196195e8b23ae82606d4ce63510528c3b3ef83c46", func := "rollbook/rollbooklaw26.ParaShapes", spec := "paraShapes", inPlace := ["internal/abi.NoEscape", "internal/bytealg.MakeNoZero"], unfollowed := true, recurses := true, named := ["rollbook/glyph.widths"], apart := false, laid := [("rollbook/glyph.widths", laid_rollbook_glyph_widths)], narrowed := true }
def ParaShapesUptoSaid : Prop := paraShapesUptoRow.holds Tryd.pinned (OpenSpec.upto paraShapesSpec)

end Rows
end Go.Proofs.YtedlipgopicijaaDoor
