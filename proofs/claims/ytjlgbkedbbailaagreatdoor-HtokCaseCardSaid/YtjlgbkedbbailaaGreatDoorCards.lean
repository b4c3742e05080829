/-
  DERIVED. GIVEN WITH THE SEED: THE CARDS: each row of YtjlgbkedbbailaaGreatDoorRows.lean that lists a variable, with what it lists TIED to the program's text (the seventh form; the later family's looks); each row that meets fmt, with fmt's text TOLD by the authors' own Lean function (tested against real Go, not proved from fmt's source: count such statements apart). THE CARD IS WHAT COUNTS. Prove the row's statement (the work); the ties are given (YtjlgbkedbbailaaGreatDoorTie.lean); close each card by the builder's one call (the guide's Derived/Test/ToyasCard.lean, 'card_holds'). Laid BY PROGRAM, IN A SANDBOX (cutbox-door.mjs). By AI agents, Wed Nov 11 2026. No macro, syntax, notation, axiom, sorry.
-/
import Derived.Test.YtjlgbkedbbailaaGreatDoorRows
import GoSem.ClaimSeven
namespace Go.Proofs.YtjlgbkedbbailaaGreatDoor
namespace Rows

/-- THE TIED CARD OF 'muslinlaw13.HtokScans'. -/
def htokScansCard : Claim7 := { stood := { row := htokScansRow, standIns := [], harness := (true, "975f6d98b9b85b4a11f8827213b7fdac22c6475694582bb100dcf42398c8fbac"), looks := true }, kinds := [], alts := [], laidByText := true, laidKinds := [.data, .data, .data, .data, .sentinel, .sentinel, .data, .pinned], laidTests := true, laidLooks := .later }
def HtokScansCardSaid : Prop := Claim7.holds Tryz.pinned (.plain (OpenSpec.ofChange htokScansSpec)) htokScansCard

/-- THE TIED CARD OF 'muslinlaw13.HtokWrites'. -/
def htokWritesCard : Claim7 := { stood := { row := htokWritesRow, standIns := [], harness := (true, "975f6d98b9b85b4a11f8827213b7fdac22c6475694582bb100dcf42398c8fbac"), looks := true }, kinds := [], alts := [], laidByText := true, laidKinds := [.data, .data, .data, .data, .sentinel, .sentinel, .data, .pinned], laidTests := true, laidLooks := .later }
def HtokWritesCardSaid : Prop := Claim7.holds Tryz.pinned (.plain (OpenSpec.ofChange htokWritesSpec)) htokWritesCard

/-- THE TIED CARD OF 'muslinlaw13.HtokBack'. -/
def htokBackCard : Claim7 := { stood := { row := htokBackRow, standIns := [], harness := (true, "975f6d98b9b85b4a11f8827213b7fdac22c6475694582bb100dcf42398c8fbac"), looks := true }, kinds := [], alts := [], laidByText := true, laidKinds := [.data, .data, .data, .data, .sentinel, .sentinel, .data, .pinned], laidTests := true, laidLooks := .later }
def HtokBackCardSaid : Prop := Claim7.holds Tryz.pinned (.plain (OpenSpec.ofChange htokBackSpec)) htokBackCard

/-- THE TIED CARD OF 'muslinlaw13.HtokForms'. -/
def htokFormsCard : Claim7 := { stood := { row := htokFormsRow, standIns := [], harness := (true, "975f6d98b9b85b4a11f8827213b7fdac22c6475694582bb100dcf42398c8fbac"), looks := true }, kinds := [], alts := [], laidByText := true, laidKinds := [.data, .data, .data, .data, .sentinel, .sentinel, .data, .pinned], laidTests := true, laidLooks := .later }
def HtokFormsCardSaid : Prop := Claim7.holds Tryz.pinned (.plain (OpenSpec.ofChange htokFormsSpec)) htokFormsCard

/-- THE TIED CARD OF 'muslinlaw13.HtokText'. -/
def htokTextCard : Claim7 := { stood := { row := htokTextRow, standIns := [], harness := (true, "975f6d98b9b85b4a11f8827213b7fdac22c6475694582bb100dcf42398c8fbac"), looks := true }, kinds := [], alts := [], laidByText := true, laidKinds := [.data, .data, .data, .data, .sentinel, .sentinel, .data, .pinned], laidTests := true, laidLooks := .later }
def HtokTextCardSaid : Prop := Claim7.holds Tryz.pinned (.plain (OpenSpec.ofChange htokTextSpec)) htokTextCard

/-- THE TIED CARD OF 'muslinlaw13.HtokCase'. -/
def htokCaseCard : Claim7 := { stood := { row := htokCaseRow, standIns := [], harness := (true, "975f6d98b9b85b4a11f8827213b7fdac22c6475694582bb100dcf42398c8fbac"), looks := true }, kinds := [], alts := [], laidByText := true, laidKinds := [.data, .data, .data, .data, .sentinel, .sentinel, .data, .pinned], laidTests := true, laidLooks := .later }
def HtokCaseCardSaid : Prop := Claim7.holds Tryz.pinned (.plain (OpenSpec.ofChange htokCaseSpec)) htokCaseCard

/-- THE TIED CARD OF 'muslinlaw13.HtokComment'. -/
def htokCommentCard : Claim7 := { stood := { row := htokCommentRow, standIns := [], harness := (true, "975f6d98b9b85b4a11f8827213b7fdac22c6475694582bb100dcf42398c8fbac"), looks := true }, kinds := [], alts := [], laidByText := true, laidKinds := [.data, .data, .data, .data, .sentinel, .sentinel, .data, .pinned], laidTests := true, laidLooks := .later }
def HtokCommentCardSaid : Prop := Claim7.holds Tryz.pinned (.plain (OpenSpec.ofChange htokCommentSpec)) htokCommentCard

/-- THE SECOND FORM's CARD OF 'muslinlaw13.HtokScans'. -/
def htokScansUptoCard : Claim7 := { stood := { row := htokScansUptoRow, standIns := [], harness := (true, "975f6d98b9b85b4a11f8827213b7fdac22c6475694582bb100dcf42398c8fbac"), looks := true }, kinds := [], alts := [], laidByText := true, laidKinds := [.data, .data, .data, .data, .sentinel, .sentinel, .data, .pinned], laidTests := true, laidLooks := .later }
def HtokScansUptoCardSaid : Prop := Claim7.holds Tryz.pinned (.plain (OpenSpec.upto htokScansSpec)) htokScansUptoCard

/-- THE SECOND FORM's CARD OF 'muslinlaw13.HtokWrites'. -/
def htokWritesUptoCard : Claim7 := { stood := { row := htokWritesUptoRow, standIns := [], harness := (true, "975f6d98b9b85b4a11f8827213b7fdac22c6475694582bb100dcf42398c8fbac"), looks := true }, kinds := [], alts := [], laidByText := true, laidKinds := [.data, .data, .data, .data, .sentinel, .sentinel, .data, .pinned], laidTests := true, laidLooks := .later }
def HtokWritesUptoCardSaid : Prop := Claim7.holds Tryz.pinned (.plain (OpenSpec.upto htokWritesSpec)) htokWritesUptoCard

/-- THE SECOND FORM's CARD OF 'muslinlaw13.HtokBack'. -/
def htokBackUptoCard : Claim7 := { stood := { row := htokBackUptoRow, standIns := [], harness := (true, "975f6d98b9b85b4a11f8827213b7fdac22c6475694582bb100dcf42398c8fbac"), looks := true }, kinds := [], alts := [], laidByText := true, laidKinds := [.data, .data, .data, .data, .sentinel, .sentinel, .data, .pinned], laidTests := true, laidLooks := .later }
def HtokBackUptoCardSaid : Prop := Claim7.holds Tryz.pinned (.plain (OpenSpec.upto htokBackSpec)) htokBackUptoCard

/-- THE SECOND FORM's CARD OF 'muslinlaw13.HtokForms'. -/
def htokFormsUptoCard : Claim7 := { stood := { row := htokFormsUptoRow, standIns := [], harness := (true, "975f6d98b9b85b4a11f8827213b7fdac22c6475694582bb100dcf42398c8fbac"), looks := true }, kinds := [], alts := [], laidByText := true, laidKinds := [.data, .data, .data, .data, .sentinel, .sentinel, .data, .pinned], laidTests := true, laidLooks := .later }
def HtokFormsUptoCardSaid : Prop := Claim7.holds Tryz.pinned (.plain (OpenSpec.upto htokFormsSpec)) htokFormsUptoCard

/-- THE SECOND FORM's CARD OF 'muslinlaw13.HtokText'. -/
def htokTextUptoCard : Claim7 := { stood := { row := htokTextUptoRow, standIns := [], harness := (true, "975f6d98b9b85b4a11f8827213b7fdac22c6475694582bb100dcf42398c8fbac"), looks := true }, kinds := [], alts := [], laidByText := true, laidKinds := [.data, .data, .data, .data, .sentinel, .sentinel, .data, .pinned], laidTests := true, laidLooks := .later }
def HtokTextUptoCardSaid : Prop := Claim7.holds Tryz.pinned (.plain (OpenSpec.upto htokTextSpec)) htokTextUptoCard

/-- THE SECOND FORM's CARD OF 'muslinlaw13.HtokCase'. -/
def htokCaseUptoCard : Claim7 := { stood := { row := htokCaseUptoRow, standIns := [], harness := (true, "975f6d98b9b85b4a11f8827213b7fdac22c6475694582bb100dcf42398c8fbac"), looks := true }, kinds := [], alts := [], laidByText := true, laidKinds := [.data, .data, .data, .data, .sentinel, .sentinel, .data, .pinned], laidTests := true, laidLooks := .later }
def HtokCaseUptoCardSaid : Prop := Claim7.holds Tryz.pinned (.plain (OpenSpec.upto htokCaseSpec)) htokCaseUptoCard

/-- THE SECOND FORM's CARD OF 'muslinlaw13.HtokComment'. -/
def htokCommentUptoCard : Claim7 := { stood := { row := htokCommentUptoRow, standIns := [], harness := (true, "975f6d98b9b85b4a11f8827213b7fdac22c6475694582bb100dcf42398c8fbac"), looks := true }, kinds := [], alts := [], laidByText := true, laidKinds := [.data, .data, .data, .data, .sentinel, .sentinel, .data, .pinned], laidTests := true, laidLooks := .later }
def HtokCommentUptoCardSaid : Prop := Claim7.holds Tryz.pinned (.plain (OpenSpec.upto htokCommentSpec)) htokCommentUptoCard
end Rows
end Go.Proofs.YtjlgbkedbbailaaGreatDoor
