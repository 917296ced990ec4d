/-
  DERIVED. GIVEN WITH THE SEED: THE CARDS: each row of YtedlipgopicijaaDoorRows.lean that lists a variable, with what it lists TIED to the program's text (the seventh form; the later family's looks); each row that meets fmt, with fmt's text TOLD by the authors' own Lean function (tested against real Go, not proved from fmt's source: count such statements apart). THE CARD IS WHAT COUNTS. Prove the row's statement (the work); the ties are given (YtedlipgopicijaaDoorTie.lean); close each card by the builder's one call (the guide's Derived/Test/ToyasCard.lean, 'card_holds'). Laid BY PROGRAM, IN A SANDBOX (cutbox-door.mjs). By AI agents, Wed Nov 11 2026. No macro, syntax, notation, axiom, sorry.
-/
import Derived.Test.YtedlipgopicijaaDoorRows
import GoSem.ClaimSeven
namespace Go.Proofs.YtedlipgopicijaaDoor
namespace Rows

/-- THE TIED CARD OF 'rollbooklaw26.ParaLines'. -/
def paraLinesCard : Claim7 := { stood := { row := paraLinesRow, standIns := [], harness := (true, "3e1017bbe245d220a28fd9e6071ba9ea44c5eed799b6b6bde6659dd7b8f8309f"), looks := false }, kinds := [], alts := [], laidByText := true, laidKinds := [.data], laidTests := true, laidLooks := .later }
def ParaLinesCardSaid : Prop := Claim7.holds Tryd.pinned (.plain (OpenSpec.ofChange paraLinesSpec)) paraLinesCard

/-- THE TIED CARD OF 'rollbooklaw26.ParaCovers'. -/
def paraCoversCard : Claim7 := { stood := { row := paraCoversRow, standIns := [], harness := (true, "3e1017bbe245d220a28fd9e6071ba9ea44c5eed799b6b6bde6659dd7b8f8309f"), looks := false }, kinds := [], alts := [], laidByText := true, laidKinds := [.data], laidTests := true, laidLooks := .later }
def ParaCoversCardSaid : Prop := Claim7.holds Tryd.pinned (.plain (OpenSpec.ofChange paraCoversSpec)) paraCoversCard

/-- THE TIED CARD OF 'rollbooklaw27.PageText'. -/
def pageTextCard : Claim7 := { stood := { row := pageTextRow, standIns := [], harness := (true, "3e1017bbe245d220a28fd9e6071ba9ea44c5eed799b6b6bde6659dd7b8f8309f"), looks := false }, kinds := [], alts := [], laidByText := true, laidKinds := [.data], laidTests := true, laidLooks := .later }
def PageTextCardSaid : Prop := Claim7.holds Tryd.pinned (.plain (OpenSpec.ofChange pageTextSpec)) pageTextCard

/-- THE TIED CARD OF 'rollbooklaw27.PageCovers'. -/
def pageCoversCard : Claim7 := { stood := { row := pageCoversRow, standIns := [], harness := (true, "3e1017bbe245d220a28fd9e6071ba9ea44c5eed799b6b6bde6659dd7b8f8309f"), looks := false }, kinds := [], alts := [], laidByText := true, laidKinds := [.data], laidTests := true, laidLooks := .later }
def PageCoversCardSaid : Prop := Claim7.holds Tryd.pinned (.plain (OpenSpec.ofChange pageCoversSpec)) pageCoversCard

/-- THE TIED CARD OF 'rollbooklaw26.ParaShapes'. -/
def paraShapesCard : Claim7 := { stood := { row := paraShapesRow, standIns := [], harness := (true, "3e1017bbe245d220a28fd9e6071ba9ea44c5eed799b6b6bde6659dd7b8f8309f"), looks := false }, kinds := [], alts := [], laidByText := true, laidKinds := [.data], laidTests := true, laidLooks := .later }
def ParaShapesCardSaid : Prop := Claim7.holds Tryd.pinned (.plain (OpenSpec.ofChange paraShapesSpec)) paraShapesCard

/-- THE SECOND FORM's CARD OF 'rollbooklaw26.ParaLines'. -/
def paraLinesUptoCard : Claim7 := { stood := { row := paraLinesUptoRow, standIns := [], harness := (true, "3e1017bbe245d220a28fd9e6071ba9ea44c5eed799b6b6bde6659dd7b8f8309f"), looks := false }, kinds := [], alts := [], laidByText := true, laidKinds := [.data], laidTests := true, laidLooks := .later }
def ParaLinesUptoCardSaid : Prop := Claim7.holds Tryd.pinned (.plain (OpenSpec.upto paraLinesSpec)) paraLinesUptoCard

/-- THE SECOND FORM's CARD OF 'rollbooklaw26.ParaCovers'. -/
def paraCoversUptoCard : Claim7 := { stood := { row := paraCoversUptoRow, standIns := [], harness := (true, "3e1017bbe245d220a28fd9e6071ba9ea44c5eed799b6b6bde6659dd7b8f8309f"), looks := false }, kinds := [], alts := [], laidByText := true, laidKinds := [.data], laidTests := true, laidLooks := .later }
def ParaCoversUptoCardSaid : Prop := Claim7.holds Tryd.pinned (.plain (OpenSpec.upto paraCoversSpec)) paraCoversUptoCard

/-- THE SECOND FORM's CARD OF 'rollbooklaw27.PageText'. -/
def pageTextUptoCard : Claim7 := { stood := { row := pageTextUptoRow, standIns := [], harness := (true, "3e1017bbe245d220a28fd9e6071ba9ea44c5eed799b6b6bde6659dd7b8f8309f"), looks := false }, kinds := [], alts := [], laidByText := true, laidKinds := [.data], laidTests := true, laidLooks := .later }
def PageTextUptoCardSaid : Prop := Claim7.holds Tryd.pinned (.plain (OpenSpec.upto pageTextSpec)) pageTextUptoCard

/-- THE SECOND FORM's CARD OF 'rollbooklaw27.PageCovers'. -/
def pageCoversUptoCard : Claim7 := { stood := { row := pageCoversUptoRow, standIns := [], harness := (true, "3e1017bbe245d220a28fd9e6071ba9ea44c5eed799b6b6bde6659dd7b8f8309f"), looks := false }, kinds := [], alts := [], laidByText := true, laidKinds := [.data], laidTests := true, laidLooks := .later }
def PageCoversUptoCardSaid : Prop := Claim7.holds Tryd.pinned (.plain (OpenSpec.upto pageCoversSpec)) pageCoversUptoCard

/-- THE SECOND FORM's CARD OF 'rollbooklaw26.ParaShapes'. -/
def paraShapesUptoCard : Claim7 := { stood := { row := paraShapesUptoRow, standIns := [], harness := (true, "3e1017bbe245d220a28fd9e6071ba9ea44c5eed799b6b6bde6659dd7b8f8309f"), looks := false }, kinds := [], alts := [], laidByText := true, laidKinds := [.data], laidTests := true, laidLooks := .later }
def ParaShapesUptoCardSaid : Prop := Claim7.holds Tryd.pinned (.plain (OpenSpec.upto paraShapesSpec)) paraShapesUptoCard
end Rows
end Go.Proofs.YtedlipgopicijaaDoor
