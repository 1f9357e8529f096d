/-
  DERIVED. GIVEN WITH THE SEED: THE CARDS: each row of YtefiapjfiojaoaaDoorRows.lean that lists a variable, with what it lists TIED to the program's text (the seventh form; the later family's looks); each row that meets fmt, with fmt's text TOLD by the authors' own Lean function (tested against real Go, not proved from fmt's source: count such statements apart). THE CARD IS WHAT COUNTS. Prove the row's statement (the work); the ties are given (YtefiapjfiojaoaaDoorTie.lean); close each card by the builder's one call (the guide's Derived/Test/ToyasCard.lean, 'card_holds'). Laid BY PROGRAM, IN A SANDBOX (cutbox-door.mjs). By AI agents, Wed Nov 11 2026. No macro, syntax, notation, axiom, sorry.
-/
import Derived.Test.YtefiapjfiojaoaaDoorRows
import GoSem.ClaimSeven
namespace Go.Proofs.YtefiapjfiojaoaaDoor
namespace Rows

/-- THE TIED CARD OF 'amortcostlaw01.RationalForms'. -/
def rationalFormsCard : Claim7 := { stood := { row := rationalFormsRow, standIns := [], harness := (true, "180f7f8e92b951730b8cc7dead9fdf063cc1dd1552a64d7ed155e273f4cec751"), looks := false }, kinds := [], alts := [], laidByText := true, laidKinds := [.data, .data, .data], laidTests := true, laidLooks := .later }
def RationalFormsCardSaid : Prop := Claim7.holds Tryd.pinned (.plain (OpenSpec.ofChange rationalFormsSpec)) rationalFormsCard

/-- THE TIED CARD OF 'amortcostlaw01.RationalBack'. -/
def rationalBackCard : Claim7 := { stood := { row := rationalBackRow, standIns := [], harness := (true, "180f7f8e92b951730b8cc7dead9fdf063cc1dd1552a64d7ed155e273f4cec751"), looks := false }, kinds := [], alts := [], laidByText := true, laidKinds := [.data, .data, .data], laidTests := true, laidLooks := .later }
def RationalBackCardSaid : Prop := Claim7.holds Tryd.pinned (.plain (OpenSpec.ofChange rationalBackSpec)) rationalBackCard

/-- THE TIED CARD OF 'amortcostlaw01.RationalFormats'. -/
def rationalFormatsCard : Claim7 := { stood := { row := rationalFormatsRow, standIns := [], harness := (true, "180f7f8e92b951730b8cc7dead9fdf063cc1dd1552a64d7ed155e273f4cec751"), looks := false }, kinds := [], alts := [], laidByText := true, laidKinds := [.data, .data, .data], laidTests := true, laidLooks := .later }
def RationalFormatsCardSaid : Prop := Claim7.holds Tryd.pinned (.plain (OpenSpec.ofChange rationalFormatsSpec)) rationalFormatsCard

/-- THE SECOND FORM's CARD OF 'amortcostlaw01.RationalForms'. -/
def rationalFormsUptoCard : Claim7 := { stood := { row := rationalFormsUptoRow, standIns := [], harness := (true, "180f7f8e92b951730b8cc7dead9fdf063cc1dd1552a64d7ed155e273f4cec751"), looks := false }, kinds := [], alts := [], laidByText := true, laidKinds := [.data, .data, .data], laidTests := true, laidLooks := .later }
def RationalFormsUptoCardSaid : Prop := Claim7.holds Tryd.pinned (.plain (OpenSpec.upto rationalFormsSpec)) rationalFormsUptoCard

/-- THE SECOND FORM's CARD OF 'amortcostlaw01.RationalBack'. -/
def rationalBackUptoCard : Claim7 := { stood := { row := rationalBackUptoRow, standIns := [], harness := (true, "180f7f8e92b951730b8cc7dead9fdf063cc1dd1552a64d7ed155e273f4cec751"), looks := false }, kinds := [], alts := [], laidByText := true, laidKinds := [.data, .data, .data], laidTests := true, laidLooks := .later }
def RationalBackUptoCardSaid : Prop := Claim7.holds Tryd.pinned (.plain (OpenSpec.upto rationalBackSpec)) rationalBackUptoCard

/-- THE SECOND FORM's CARD OF 'amortcostlaw01.RationalFormats'. -/
def rationalFormatsUptoCard : Claim7 := { stood := { row := rationalFormatsUptoRow, standIns := [], harness := (true, "180f7f8e92b951730b8cc7dead9fdf063cc1dd1552a64d7ed155e273f4cec751"), looks := false }, kinds := [], alts := [], laidByText := true, laidKinds := [.data, .data, .data], laidTests := true, laidLooks := .later }
def RationalFormatsUptoCardSaid : Prop := Claim7.holds Tryd.pinned (.plain (OpenSpec.upto rationalFormatsSpec)) rationalFormatsUptoCard
end Rows
end Go.Proofs.YtefiapjfiojaoaaDoor
