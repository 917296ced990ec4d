/-
  No cell of these rows narrows 'for every input' (looked for: loops, veiled, ifaces, maps, wideKeys, modest, calm, conditions, laid).
  DERIVED. THE GIVEN ROWS OF THIS SEAT. 14 by the template 'for every input the law returns true; each argument reads behind the call as it read before'; 0 by the template 'total and deterministic' (their statements: YtocoinkhbjlbhaaTotals.lean).
  GIVEN WITH THE SEED: the statements are not yours to turn. If you find one false, say at which input.
  Laid BY PROGRAM, IN A SANDBOX (cutbox-rows.mjs): the forced cells as the released guide's own fill.sh prints them over the translation 3da81e0f1ea797d7… (all of the seat's roots in one cut). By AI agents, Wed Nov 11 2026. No macro, syntax, notation, axiom, sorry.
-/
import Derived.Test.YtocoinkhbjlbhaaChecked
import GoSem.Claim
import GoSem.ClaimJoined
import GoSem.ClaimMapViews
import Derived.JoinedTies
import Derived.KernelRfl
namespace Go.Proofs.Ytocoinkhbjlbhaa
/- THE CELL 'sum', in the pinned program and in every row, IS THE sha256 OF THE DUMP (.gsa) THAT YtocoinkhbjlbhaaProg.lean LOADS. Nothing in Lean hashes anything: it is a label: what it is worth is what the hold of that sum in a sandbox is worth. -/
noncomputable def Try.pinned : Pinned := { name := "ytocoinkhbjlbhaa", sum := "3da81e0f1ea797d7a0859dad27494c100d60edd4385b938fcbc62ddc6e6a7cf3", checked := Try.checked }
namespace Rows
def none {H : Type} : Left H := { results := [], args := [] }

/-- 'rollbooklaw27.PageSets': WHATEVER THE INPUT: true; the input reads as it did. -/
def pageSetsSpec : ChangeSpec := { name := "pageSets", fn := fun _ => fun
  | [d1, d2] => { results := [.lit (.bool true)], args := [d1, d2] }
  | _ => none }
def pageSetsRow : OpenClaim := { program := "ytocoinkhbjlbhaa", sum := "3da81e0f1ea797d7a0859dad27494c100d60edd4385b938fcbc62ddc6e6a7cf3", func := "rollbook/rollbooklaw27.PageSets", spec := "pageSets", unfollowed := true, recurses := true, apart := false }
def PageSetsSaid : Prop := pageSetsRow.holds Try.pinned (OpenSpec.ofChange pageSetsSpec)

/-- ITS FALSE NEIGHBOUR: 'it returns false'. Refute it at one input. -/
def pageSetsWrong : ChangeSpec := { name := "pageSets", fn := fun _ => fun
  | [d1, d2] => { results := [.lit (.bool false)], args := [d1, d2] }
  | _ => none }
def PageSetsWrongFalsely : Prop := pageSetsRow.holds Try.pinned (OpenSpec.ofChange pageSetsWrong)

/-- 'rollbooklaw27.PageErrors': WHATEVER THE INPUT: true; the input reads as it did. -/
def pageErrorsSpec : ChangeSpec := { name := "pageErrors", fn := fun _ => fun
  | [d1, d2, d3] => { results := [.lit (.bool true)], args := [d1, d2, d3] }
  | _ => none }
def pageErrorsRow : OpenClaim := { program := "ytocoinkhbjlbhaa", sum := "3da81e0f1ea797d7a0859dad27494c100d60edd4385b938fcbc62ddc6e6a7cf3", func := "rollbook/rollbooklaw27.PageErrors", spec := "pageErrors", unfollowed := true, recurses := true, apart := false }
def PageErrorsSaid : Prop := pageErrorsRow.holds Try.pinned (OpenSpec.ofChange pageErrorsSpec)

/-- ITS FALSE NEIGHBOUR: 'it returns false'. Refute it at one input. -/
def pageErrorsWrong : ChangeSpec := { name := "pageErrors", fn := fun _ => fun
  | [d1, d2, d3] => { results := [.lit (.bool false)], args := [d1, d2, d3] }
  | _ => none }
def PageErrorsWrongFalsely : Prop := pageErrorsRow.holds Try.pinned (OpenSpec.ofChange pageErrorsWrong)

/-- 'rollbooklaw27.PageRoom': WHATEVER THE INPUT: true; the input reads as it did. -/
def pageRoomSpec : ChangeSpec := { name := "pageRoom", fn := fun _ => fun
  | [d1, d2, d3] => { results := [.lit (.bool true)], args := [d1, d2, d3] }
  | _ => none }
def pageRoomRow : OpenClaim := { program := "ytocoinkhbjlbhaa", sum := "3da81e0f1ea797d7a0859dad27494c100d60edd4385b938fcbc62ddc6e6a7cf3", func := "rollbook/rollbooklaw27.PageRoom", spec := "pageRoom", unfollowed := true, recurses := true, apart := false }
def PageRoomSaid : Prop := pageRoomRow.holds Try.pinned (OpenSpec.ofChange pageRoomSpec)

/-- ITS FALSE NEIGHBOUR: 'it returns false'. Refute it at one input. -/
def pageRoomWrong : ChangeSpec := { name := "pageRoom", fn := fun _ => fun
  | [d1, d2, d3] => { results := [.lit (.bool false)], args := [d1, d2, d3] }
  | _ => none }
def PageRoomWrongFalsely : Prop := pageRoomRow.holds Try.pinned (OpenSpec.ofChange pageRoomWrong)

/-- 'rollbooklaw27.PageOrder': WHATEVER THE INPUT: true; the input reads as it did. -/
def pageOrderSpec : ChangeSpec := { name := "pageOrder", fn := fun _ => fun
  | [d1, d2] => { results := [.lit (.bool true)], args := [d1, d2] }
  | _ => none }
def pageOrderRow : OpenClaim := { program := "ytocoinkhbjlbhaa", sum := "3da81e0f1ea797d7a0859dad27494c100d60edd4385b938fcbc62ddc6e6a7cf3", func := "rollbook/rollbooklaw27.PageOrder", spec := "pageOrder", unfollowed := true, recurses := true, apart := false }
def PageOrderSaid : Prop := pageOrderRow.holds Try.pinned (OpenSpec.ofChange pageOrderSpec)

/-- ITS FALSE NEIGHBOUR: 'it returns false'. Refute it at one input. -/
def pageOrderWrong : ChangeSpec := { name := "pageOrder", fn := fun _ => fun
  | [d1, d2] => { results := [.lit (.bool false)], args := [d1, d2] }
  | _ => none }
def PageOrderWrongFalsely : Prop := pageOrderRow.holds Try.pinned (OpenSpec.ofChange pageOrderWrong)

/-- 'rollbooklaw27.PageNotes': WHATEVER THE INPUT: true; the input reads as it did. -/
def pageNotesSpec : ChangeSpec := { name := "pageNotes", fn := fun _ => fun
  | [d1, d2] => { results := [.lit (.bool true)], args := [d1, d2] }
  | _ => none }
def pageNotesRow : OpenClaim := { program := "ytocoinkhbjlbhaa", sum := "3da81e0f1ea797d7a0859dad27494c100d60edd4385b938fcbc62ddc6e6a7cf3", func := "rollbook/rollbooklaw27.PageNotes", spec := "pageNotes", unfollowed := true, recurses := true, apart := false }
def PageNotesSaid : Prop := pageNotesRow.holds Try.pinned (OpenSpec.ofChange pageNotesSpec)

/-- ITS FALSE NEIGHBOUR: 'it returns false'. Refute it at one input. -/
def pageNotesWrong : ChangeSpec := { name := "pageNotes", fn := fun _ => fun
  | [d1, d2] => { results := [.lit (.bool false)], args := [d1, d2] }
  | _ => none }
def PageNotesWrongFalsely : Prop := pageNotesRow.holds Try.pinned (OpenSpec.ofChange pageNotesWrong)

/-- 'rollbooklaw27.PageGreedy': WHATEVER THE INPUT: true; the input reads as it did. -/
def pageGreedySpec : ChangeSpec := { name := "pageGreedy", fn := fun _ => fun
  | [d1, d2] => { results := [.lit (.bool true)], args := [d1, d2] }
  | _ => none }
def pageGreedyRow : OpenClaim := { program := "ytocoinkhbjlbhaa", sum := "3da81e0f1ea797d7a0859dad27494c100d60edd4385b938fcbc62ddc6e6a7cf3", func := "rollbook/rollbooklaw27.PageGreedy", spec := "pageGreedy", unfollowed := true, recurses := true, apart := false }
def PageGreedySaid : Prop := pageGreedyRow.holds Try.pinned (OpenSpec.ofChange pageGreedySpec)

/-- ITS FALSE NEIGHBOUR: 'it returns false'. Refute it at one input. -/
def pageGreedyWrong : ChangeSpec := { name := "pageGreedy", fn := fun _ => fun
  | [d1, d2] => { results := [.lit (.bool false)], args := [d1, d2] }
  | _ => none }
def PageGreedyWrongFalsely : Prop := pageGreedyRow.holds Try.pinned (OpenSpec.ofChange pageGreedyWrong)

/-- 'rollbooklaw27.PagePrefix': WHATEVER THE INPUT: true; the input reads as it did. -/
def pagePrefixSpec : ChangeSpec := { name := "pagePrefix", fn := fun _ => fun
  | [d1, d2, d3] => { results := [.lit (.bool true)], args := [d1, d2, d3] }
  | _ => none }
def pagePrefixRow : OpenClaim := { program := "ytocoinkhbjlbhaa", sum := "3da81e0f1ea797d7a0859dad27494c100d60edd4385b938fcbc62ddc6e6a7cf3", func := "rollbook/rollbooklaw27.PagePrefix", spec := "pagePrefix", unfollowed := true, recurses := true, apart := false }
def PagePrefixSaid : Prop := pagePrefixRow.holds Try.pinned (OpenSpec.ofChange pagePrefixSpec)

/-- ITS FALSE NEIGHBOUR: 'it returns false'. Refute it at one input. -/
def pagePrefixWrong : ChangeSpec := { name := "pagePrefix", fn := fun _ => fun
  | [d1, d2, d3] => { results := [.lit (.bool false)], args := [d1, d2, d3] }
  | _ => none }
def PagePrefixWrongFalsely : Prop := pagePrefixRow.holds Try.pinned (OpenSpec.ofChange pagePrefixWrong)

/-- 'rollbooklaw27.PageShape': WHATEVER THE INPUT: true; the input reads as it did. -/
def pageShapeSpec : ChangeSpec := { name := "pageShape", fn := fun _ => fun
  | [d1, d2, d3] => { results := [.lit (.bool true)], args := [d1, d2, d3] }
  | _ => none }
def pageShapeRow : OpenClaim := { program := "ytocoinkhbjlbhaa", sum := "3da81e0f1ea797d7a0859dad27494c100d60edd4385b938fcbc62ddc6e6a7cf3", func := "rollbook/rollbooklaw27.PageShape", spec := "pageShape", unfollowed := true, recurses := true, apart := false }
def PageShapeSaid : Prop := pageShapeRow.holds Try.pinned (OpenSpec.ofChange pageShapeSpec)

/-- ITS FALSE NEIGHBOUR: 'it returns false'. Refute it at one input. -/
def pageShapeWrong : ChangeSpec := { name := "pageShape", fn := fun _ => fun
  | [d1, d2, d3] => { results := [.lit (.bool false)], args := [d1, d2, d3] }
  | _ => none }
def PageShapeWrongFalsely : Prop := pageShapeRow.holds Try.pinned (OpenSpec.ofChange pageShapeWrong)

/-- 'rollbooklaw26.ParaCosts': WHATEVER THE INPUT: true; the input reads as it did. -/
def paraCostsSpec : ChangeSpec := { name := "paraCosts", fn := fun _ => fun
  | [d1, d2, d3, d4, d5] => { results := [.lit (.bool true)], args := [d1, d2, d3, d4, d5] }
  | _ => none }
def paraCostsRow : OpenClaim := { program := "ytocoinkhbjlbhaa", sum := "3da81e0f1ea797d7a0859dad27494c100d60edd4385b938fcbc62ddc6e6a7cf3", func := "rollbook/rollbooklaw26.ParaCosts", spec := "paraCosts", unfollowed := true, recurses := true, apart := false }
def ParaCostsSaid : Prop := paraCostsRow.holds Try.pinned (OpenSpec.ofChange paraCostsSpec)

/-- ITS FALSE NEIGHBOUR: 'it returns false'. Refute it at one input. -/
def paraCostsWrong : ChangeSpec := { name := "paraCosts", fn := fun _ => fun
  | [d1, d2, d3, d4, d5] => { results := [.lit (.bool false)], args := [d1, d2, d3, d4, d5] }
  | _ => none }
def ParaCostsWrongFalsely : Prop := paraCostsRow.holds Try.pinned (OpenSpec.ofChange paraCostsWrong)

/-- 'rollbooklaw26.ParaEnds': WHATEVER THE INPUT: true; the input reads as it did. -/
def paraEndsSpec : ChangeSpec := { name := "paraEnds", fn := fun _ => fun
  | [d1, d2, d3, d4, d5] => { results := [.lit (.bool true)], args := [d1, d2, d3, d4, d5] }
  | _ => none }
def paraEndsRow : OpenClaim := { program := "ytocoinkhbjlbhaa", sum := "3da81e0f1ea797d7a0859dad27494c100d60edd4385b938fcbc62ddc6e6a7cf3", func := "rollbook/rollbooklaw26.ParaEnds", spec := "paraEnds", unfollowed := true, recurses := true, apart := false }
def ParaEndsSaid : Prop := paraEndsRow.holds Try.pinned (OpenSpec.ofChange paraEndsSpec)

/-- ITS FALSE NEIGHBOUR: 'it returns false'. Refute it at one input. -/
def paraEndsWrong : ChangeSpec := { name := "paraEnds", fn := fun _ => fun
  | [d1, d2, d3, d4, d5] => { results := [.lit (.bool false)], args := [d1, d2, d3, d4, d5] }
  | _ => none }
def ParaEndsWrongFalsely : Prop := paraEndsRow.holds Try.pinned (OpenSpec.ofChange paraEndsWrong)

/-- 'rollbooklaw26.ParaGaps': WHATEVER THE INPUT: true; the input reads as it did. -/
def paraGapsSpec : ChangeSpec := { name := "paraGaps", fn := fun _ => fun
  | [d1, d2, d3] => { results := [.lit (.bool true)], args := [d1, d2, d3] }
  | _ => none }
def paraGapsRow : OpenClaim := { program := "ytocoinkhbjlbhaa", sum := "3da81e0f1ea797d7a0859dad27494c100d60edd4385b938fcbc62ddc6e6a7cf3", func := "rollbook/rollbooklaw26.ParaGaps", spec := "paraGaps", unfollowed := true, recurses := true, apart := false }
def ParaGapsSaid : Prop := paraGapsRow.holds Try.pinned (OpenSpec.ofChange paraGapsSpec)

/-- ITS FALSE NEIGHBOUR: 'it returns false'. Refute it at one input. -/
def paraGapsWrong : ChangeSpec := { name := "paraGaps", fn := fun _ => fun
  | [d1, d2, d3] => { results := [.lit (.bool false)], args := [d1, d2, d3] }
  | _ => none }
def ParaGapsWrongFalsely : Prop := paraGapsRow.holds Try.pinned (OpenSpec.ofChange paraGapsWrong)

/-- 'rollbooklaw26.ParaOptimal': WHATEVER THE INPUT: true; the input reads as it did. -/
def paraOptimalSpec : ChangeSpec := { name := "paraOptimal", fn := fun _ => fun
  | [d1, d2, d3] => { results := [.lit (.bool true)], args := [d1, d2, d3] }
  | _ => none }
def paraOptimalRow : OpenClaim := { program := "ytocoinkhbjlbhaa", sum := "3da81e0f1ea797d7a0859dad27494c100d60edd4385b938fcbc62ddc6e6a7cf3", func := "rollbook/rollbooklaw26.ParaOptimal", spec := "paraOptimal", unfollowed := true, recurses := true, apart := false }
def ParaOptimalSaid : Prop := paraOptimalRow.holds Try.pinned (OpenSpec.ofChange paraOptimalSpec)

/-- ITS FALSE NEIGHBOUR: 'it returns false'. Refute it at one input. -/
def paraOptimalWrong : ChangeSpec := { name := "paraOptimal", fn := fun _ => fun
  | [d1, d2, d3] => { results := [.lit (.bool false)], args := [d1, d2, d3] }
  | _ => none }
def ParaOptimalWrongFalsely : Prop := paraOptimalRow.holds Try.pinned (OpenSpec.ofChange paraOptimalWrong)

/-- 'rollbooklaw26.ParaMoves': WHATEVER THE INPUT: true; the input reads as it did. -/
def paraMovesSpec : ChangeSpec := { name := "paraMoves", fn := fun _ => fun
  | [d1, d2] => { results := [.lit (.bool true)], args := [d1, d2] }
  | _ => none }
def paraMovesRow : OpenClaim := { program := "ytocoinkhbjlbhaa", sum := "3da81e0f1ea797d7a0859dad27494c100d60edd4385b938fcbc62ddc6e6a7cf3", func := "rollbook/rollbooklaw26.ParaMoves", spec := "paraMoves", unfollowed := true, recurses := true, apart := false }
def ParaMovesSaid : Prop := paraMovesRow.holds Try.pinned (OpenSpec.ofChange paraMovesSpec)

/-- ITS FALSE NEIGHBOUR: 'it returns false'. Refute it at one input. -/
def paraMovesWrong : ChangeSpec := { name := "paraMoves", fn := fun _ => fun
  | [d1, d2] => { results := [.lit (.bool false)], args := [d1, d2] }
  | _ => none }
def ParaMovesWrongFalsely : Prop := paraMovesRow.holds Try.pinned (OpenSpec.ofChange paraMovesWrong)

/-- 'rollbooklaw26.ParaRests': WHATEVER THE INPUT: true; the input reads as it did. -/
def paraRestsSpec : ChangeSpec := { name := "paraRests", fn := fun _ => fun
  | [d1, d2] => { results := [.lit (.bool true)], args := [d1, d2] }
  | _ => none }
def paraRestsRow : OpenClaim := { program := "ytocoinkhbjlbhaa", sum := "3da81e0f1ea797d7a0859dad27494c100d60edd4385b938fcbc62ddc6e6a7cf3", func := "rollbook/rollbooklaw26.ParaRests", spec := "paraRests", unfollowed := true, recurses := true, apart := false }
def ParaRestsSaid : Prop := paraRestsRow.holds Try.pinned (OpenSpec.ofChange paraRestsSpec)

/-- ITS FALSE NEIGHBOUR: 'it returns false'. Refute it at one input. -/
def paraRestsWrong : ChangeSpec := { name := "paraRests", fn := fun _ => fun
  | [d1, d2] => { results := [.lit (.bool false)], args := [d1, d2] }
  | _ => none }
def ParaRestsWrongFalsely : Prop := paraRestsRow.holds Try.pinned (OpenSpec.ofChange paraRestsWrong)

/- THE SECOND FORM. 'bulk': how many values and letters a reading holds, each counted each time it is reached (what is shared counts as often as it is met; a slice's spare places count too). A statement '..UptoSaid' is the law's where the arguments, and the package variables that the reading takes, are together of bulk at most 1048576: NARROWER than '..Said'. Prove '..Said' where nothing that the law and all that it calls make is longer than what came in: it says more and counts as full. Else prove '..UptoSaid'. A law counts once. -/
mutual
def uptoBulk {H : Type} : DataW H → Nat
  | .lit (.string bytes) => bytes.length + 1
  | .lit _ => 1
  | .nil => 1
  | .ptr d => uptoBulk d + 1
  | .slice elems spare => uptoBulkAll elems + uptoBulkAll spare + 1
  | .agg parts => uptoBulkAll parts + 1
  | .iface _ d => uptoBulk d + 1
  | .map entries => uptoBulkEntries entries + 1
  | .held _ => 1
def uptoBulkAll {H : Type} : List (DataW H) → Nat
  | [] => 0
  | d :: r => uptoBulk d + uptoBulkAll r
def uptoBulkEntries {H : Type} : List (Lit × DataW H) → Nat
  | [] => 0
  | x :: r => uptoBulkEntry x + uptoBulkEntries r
def uptoBulkEntry {H : Type} : Lit × DataW H → Nat
  | (.string bytes, d) => bytes.length + uptoBulk d + 1
  | (_, d) => uptoBulk d + 1
 end
def uptoSmall : (H : Type) → List (DataW H) → Bool := fun _ ds => decide (uptoBulkAll ds ≤ 1048576)
def OpenSpec.upto (s : _root_.Go.ChangeSpec) : _root_.Go.OpenSpec := { _root_.Go.OpenSpec.ofChange s with cond := some uptoSmall }

/-- 'rollbooklaw27.PageSets', WHERE WHAT IT READS IS OF BULK AT MOST 1048576: true; the input reads as it did. -/
def pageSetsUptoRow : OpenClaim := { program := "ytocoinkhbjlbhaa", sum := "3da81e0f1ea797d7a0859dad27494c100d60edd4385b938fcbc62ddc6e6a7cf3", func := "rollbook/rollbooklaw27.PageSets", spec := "pageSets", unfollowed := true, recurses := true, apart := false, narrowed := true }
def PageSetsUptoSaid : Prop := pageSetsUptoRow.holds Try.pinned (OpenSpec.upto pageSetsSpec)

/-- 'rollbooklaw27.PageErrors', WHERE WHAT IT READS IS OF BULK AT MOST 1048576: true; the input reads as it did. -/
def pageErrorsUptoRow : OpenClaim := { program := "ytocoinkhbjlbhaa", sum := "3da81e0f1ea797d7a0859dad27494c100d60edd4385b938fcbc62ddc6e6a7cf3", func := "rollbook/rollbooklaw27.PageErrors", spec := "pageErrors", unfollowed := true, recurses := true, apart := false, narrowed := true }
def PageErrorsUptoSaid : Prop := pageErrorsUptoRow.holds Try.pinned (OpenSpec.upto pageErrorsSpec)

/-- 'rollbooklaw27.PageRoom', WHERE WHAT IT READS IS OF BULK AT MOST 1048576: true; the input reads as it did. -/
def pageRoomUptoRow : OpenClaim := { program := "ytocoinkhbjlbhaa", sum := "3da81e0f1ea797d7a0859dad27494c100d60edd4385b938fcbc62ddc6e6a7cf3", func := "rollbook/rollbooklaw27.PageRoom", spec := "pageRoom", unfollowed := true, recurses := true, apart := false, narrowed := true }
def PageRoomUptoSaid : Prop := pageRoomUptoRow.holds Try.pinned (OpenSpec.upto pageRoomSpec)

/-- 'rollbooklaw27.PageOrder', WHERE WHAT IT READS IS OF BULK AT MOST 1048576: true; the input reads as it did. -/
def pageOrderUptoRow : OpenClaim := { program := "ytocoinkhbjlbhaa", sum := "3da81e0f1ea797d7a0859dad27494c100d60edd4385b938fcbc62ddc6e6a7cf3", func := "rollbook/rollbooklaw27.PageOrder", spec := "pageOrder", unfollowed := true, recurses := true, apart := false, narrowed := true }
def PageOrderUptoSaid : Prop := pageOrderUptoRow.holds Try.pinned (OpenSpec.upto pageOrderSpec)

/-- 'rollbooklaw27.PageNotes', WHERE WHAT IT READS IS OF BULK AT MOST 1048576: true; the input reads as it did. -/
def pageNotesUptoRow : OpenClaim := { program := "ytocoinkhbjlbhaa", sum := "3da81e0f1ea797d7a0859dad27494c100d60edd4385b938fcbc62ddc6e6a7cf3", func := "rollbook/rollbooklaw27.PageNotes", spec := "pageNotes", unfollowed := true, recurses := true, apart := false, narrowed := true }
def PageNotesUptoSaid : Prop := pageNotesUptoRow.holds Try.pinned (OpenSpec.upto pageNotesSpec)

/-- 'rollbooklaw27.PageGreedy', WHERE WHAT IT READS IS OF BULK AT MOST 1048576: true; the input reads as it did. -/
def pageGreedyUptoRow : OpenClaim := { program := "ytocoinkhbjlbhaa", sum := "3da81e0f1ea797d7a0859dad27494c100d60edd4385b938fcbc62ddc6e6a7cf3", func := "rollbook/rollbooklaw27.PageGreedy", spec := "pageGreedy", unfollowed := true, recurses := true, apart := false, narrowed := true }
def PageGreedyUptoSaid : Prop := pageGreedyUptoRow.holds Try.pinned (OpenSpec.upto pageGreedySpec)

/-- 'rollbooklaw27.PagePrefix', WHERE WHAT IT READS IS OF BULK AT MOST 1048576: true; the input reads as it did. -/
def pagePrefixUptoRow : OpenClaim := { program := "ytocoinkhbjlbhaa", sum := "3da81e0f1ea797d7a0859dad27494c100d60edd4385b938fcbc62ddc6e6a7cf3", func := "rollbook/rollbooklaw27.PagePrefix", spec := "pagePrefix", unfollowed := true, recurses := true, apart := false, narrowed := true }
def PagePrefixUptoSaid : Prop := pagePrefixUptoRow.holds Try.pinned (OpenSpec.upto pagePrefixSpec)

/-- 'rollbooklaw27.PageShape', WHERE WHAT IT READS IS OF BULK AT MOST 1048576: true; the input reads as it did. -/
def pageShapeUptoRow : OpenClaim := { program := "ytocoinkhbjlbhaa", sum := "3da81e0f1ea797d7a0859dad27494c100d60edd4385b938fcbc62ddc6e6a7cf3", func := "rollbook/rollbooklaw27.PageShape", spec := "pageShape", unfollowed := true, recurses := true, apart := false, narrowed := true }
def PageShapeUptoSaid : Prop := pageShapeUptoRow.holds Try.pinned (OpenSpec.upto pageShapeSpec)

/-- 'rollbooklaw26.ParaCosts', WHERE WHAT IT READS IS OF BULK AT MOST 1048576: true; the input reads as it did. -/
def paraCostsUptoRow : OpenClaim := { program := "ytocoinkhbjlbhaa", sum := "3da81e0f1ea797d7a0859dad27494c100d60edd4385b938fcbc62ddc6e6a7cf3", func := "rollbook/rollbooklaw26.ParaCosts", spec := "paraCosts", unfollowed := true, recurses := true, apart := false, narrowed := true }
def ParaCostsUptoSaid : Prop := paraCostsUptoRow.holds Try.pinned (OpenSpec.upto paraCostsSpec)

/-- 'rollbooklaw26.ParaEnds', WHERE WHAT IT READS IS OF BULK AT MOST 1048576: true; the input reads as it did. -/
def paraEndsUptoRow : OpenClaim := { program := "ytocoinkhbjlbhaa", sum := "3da81e0f1ea797d7a0859dad27494c100d60edd4385b938fcbc62ddc6e6a7cf3", func := "rollbook/rollbooklaw26.ParaEnds", spec := "paraEnds", unfollowed := true, recurses := true, apart := false, narrowed := true }
def ParaEndsUptoSaid : Prop := paraEndsUptoRow.holds Try.pinned (OpenSpec.upto paraEndsSpec)

/-- 'rollbooklaw26.ParaGaps', WHERE WHAT IT READS IS OF BULK AT MOST 1048576: true; the input reads as it did. -/
def paraGapsUptoRow : OpenClaim := { program := "ytocoinkhbjlbhaa", sum := "3da81e0f1ea797d7a0859dad27494c100d60edd4385b938fcbc62ddc6e6a7cf3", func := "rollbook/rollbooklaw26.ParaGaps", spec := "paraGaps", unfollowed := true, recurses := true, apart := false, narrowed := true }
def ParaGapsUptoSaid : Prop := paraGapsUptoRow.holds Try.pinned (OpenSpec.upto paraGapsSpec)

/-- 'rollbooklaw26.ParaOptimal', WHERE WHAT IT READS IS OF BULK AT MOST 1048576: true; the input reads as it did. -/
def paraOptimalUptoRow : OpenClaim := { program := "ytocoinkhbjlbhaa", sum := "3da81e0f1ea797d7a0859dad27494c100d60edd4385b938fcbc62ddc6e6a7cf3", func := "rollbook/rollbooklaw26.ParaOptimal", spec := "paraOptimal", unfollowed := true, recurses := true, apart := false, narrowed := true }
def ParaOptimalUptoSaid : Prop := paraOptimalUptoRow.holds Try.pinned (OpenSpec.upto paraOptimalSpec)

/-- 'rollbooklaw26.ParaMoves', WHERE WHAT IT READS IS OF BULK AT MOST 1048576: true; the input reads as it did. -/
def paraMovesUptoRow : OpenClaim := { program := "ytocoinkhbjlbhaa", sum := "3da81e0f1ea797d7a0859dad27494c100d60edd4385b938fcbc62ddc6e6a7cf3", func := "rollbook/rollbooklaw26.ParaMoves", spec := "paraMoves", unfollowed := true, recurses := true, apart := false, narrowed := true }
def ParaMovesUptoSaid : Prop := paraMovesUptoRow.holds Try.pinned (OpenSpec.upto paraMovesSpec)

/-- 'rollbooklaw26.ParaRests', WHERE WHAT IT READS IS OF BULK AT MOST 1048576: true; the input reads as it did. -/
def paraRestsUptoRow : OpenClaim := { program := "ytocoinkhbjlbhaa", sum := "3da81e0f1ea797d7a0859dad27494c100d60edd4385b938fcbc62ddc6e6a7cf3", func := "rollbook/rollbooklaw26.ParaRests", spec := "paraRests", unfollowed := true, recurses := true, apart := false, narrowed := true }
def ParaRestsUptoSaid : Prop := paraRestsUptoRow.holds Try.pinned (OpenSpec.upto paraRestsSpec)

end Rows
end Go.Proofs.Ytocoinkhbjlbhaa
