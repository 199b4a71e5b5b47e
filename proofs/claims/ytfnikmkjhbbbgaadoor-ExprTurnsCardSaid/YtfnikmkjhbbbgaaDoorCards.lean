/-
  DERIVED. GIVEN WITH THE SEED: THE CARDS: each row of YtfnikmkjhbbbgaaDoorRows.lean that lists a variable, with what it lists TIED to the program's text (the seventh form; the later family's looks); each row that meets fmt, with fmt's text TOLD by the authors' own Lean function (tested against real Go, not proved from fmt's source: count such statements apart). THE CARD IS WHAT COUNTS. Prove the row's statement (the work); the ties are given (YtfnikmkjhbbbgaaDoorTie.lean); close each card by the builder's one call (the guide's Derived/Test/ToyasCard.lean, 'card_holds'). Laid BY PROGRAM, IN A SANDBOX (cutbox-door.mjs). By AI agents, Wed Nov 11 2026. No macro, syntax, notation, axiom, sorry.
-/
import Derived.Test.YtfnikmkjhbbbgaaDoorRows
import GoSem.ClaimSeven
namespace Go.Proofs.YtfnikmkjhbbbgaaDoor
namespace Rows

/-- THE TIED CARD OF 'graftbedlaw12.ExprMay'. -/
def exprMayCard : Claim7 := { stood := { row := exprMayRow, standIns := [], harness := (true, "c00dc91c08a220be684ff75c473e6ae57ea48888e8a33876440ad9d1d26fe8be"), looks := false }, kinds := [], alts := [], laidByText := true, laidKinds := [.data, .pinned], laidTests := true, laidLooks := .later }
def ExprMayCardSaid : Prop := Claim7.holds Tryd.pinned (.plain (OpenSpec.ofChange exprMaySpec)) exprMayCard

/-- THE TIED CARD OF 'graftbedlaw12.ExprEither'. -/
def exprEitherCard : Claim7 := { stood := { row := exprEitherRow, standIns := [], harness := (true, "c00dc91c08a220be684ff75c473e6ae57ea48888e8a33876440ad9d1d26fe8be"), looks := false }, kinds := [], alts := [], laidByText := true, laidKinds := [.data, .pinned], laidTests := true, laidLooks := .later }
def ExprEitherCardSaid : Prop := Claim7.holds Tryd.pinned (.plain (OpenSpec.ofChange exprEitherSpec)) exprEitherCard

/-- THE TIED CARD OF 'graftbedlaw12.ExprLogic'. -/
def exprLogicCard : Claim7 := { stood := { row := exprLogicRow, standIns := [], harness := (true, "c00dc91c08a220be684ff75c473e6ae57ea48888e8a33876440ad9d1d26fe8be"), looks := false }, kinds := [], alts := [], laidByText := true, laidKinds := [.data, .pinned], laidTests := true, laidLooks := .later }
def ExprLogicCardSaid : Prop := Claim7.holds Tryd.pinned (.plain (OpenSpec.ofChange exprLogicSpec)) exprLogicCard

/-- THE TIED CARD OF 'graftbedlaw12.ExprTurns'. -/
def exprTurnsCard : Claim7 := { stood := { row := exprTurnsRow, standIns := [], harness := (true, "c00dc91c08a220be684ff75c473e6ae57ea48888e8a33876440ad9d1d26fe8be"), looks := false }, kinds := [], alts := [], laidByText := true, laidKinds := [.data, .pinned], laidTests := true, laidLooks := .later }
def ExprTurnsCardSaid : Prop := Claim7.holds Tryd.pinned (.plain (OpenSpec.ofChange exprTurnsSpec)) exprTurnsCard

/-- THE TIED CARD OF 'graftbedlaw13.PlusLines'. -/
def plusLinesCard : Claim7 := { stood := { row := plusLinesRow, standIns := [], harness := (true, "c00dc91c08a220be684ff75c473e6ae57ea48888e8a33876440ad9d1d26fe8be"), looks := false }, kinds := [], alts := [], laidByText := true, laidKinds := [.data, .pinned], laidTests := true, laidLooks := .later }
def PlusLinesCardSaid : Prop := Claim7.holds Tryd.pinned (.plain (OpenSpec.ofChange plusLinesSpec)) plusLinesCard

/-- THE TIED CARD OF 'graftbedlaw13.PlusMeans'. -/
def plusMeansCard : Claim7 := { stood := { row := plusMeansRow, standIns := [], harness := (true, "c00dc91c08a220be684ff75c473e6ae57ea48888e8a33876440ad9d1d26fe8be"), looks := false }, kinds := [], alts := [], laidByText := true, laidKinds := [.data, .pinned], laidTests := true, laidLooks := .later }
def PlusMeansCardSaid : Prop := Claim7.holds Tryd.pinned (.plain (OpenSpec.ofChange plusMeansSpec)) plusMeansCard

/-- THE SECOND FORM's CARD OF 'graftbedlaw12.ExprMay'. -/
def exprMayUptoCard : Claim7 := { stood := { row := exprMayUptoRow, standIns := [], harness := (true, "c00dc91c08a220be684ff75c473e6ae57ea48888e8a33876440ad9d1d26fe8be"), looks := false }, kinds := [], alts := [], laidByText := true, laidKinds := [.data, .pinned], laidTests := true, laidLooks := .later }
def ExprMayUptoCardSaid : Prop := Claim7.holds Tryd.pinned (.plain (OpenSpec.upto exprMaySpec)) exprMayUptoCard

/-- THE SECOND FORM's CARD OF 'graftbedlaw12.ExprEither'. -/
def exprEitherUptoCard : Claim7 := { stood := { row := exprEitherUptoRow, standIns := [], harness := (true, "c00dc91c08a220be684ff75c473e6ae57ea48888e8a33876440ad9d1d26fe8be"), looks := false }, kinds := [], alts := [], laidByText := true, laidKinds := [.data, .pinned], laidTests := true, laidLooks := .later }
def ExprEitherUptoCardSaid : Prop := Claim7.holds Tryd.pinned (.plain (OpenSpec.upto exprEitherSpec)) exprEitherUptoCard

/-- THE SECOND FORM's CARD OF 'graftbedlaw12.ExprLogic'. -/
def exprLogicUptoCard : Claim7 := { stood := { row := exprLogicUptoRow, standIns := [], harness := (true, "c00dc91c08a220be684ff75c473e6ae57ea48888e8a33876440ad9d1d26fe8be"), looks := false }, kinds := [], alts := [], laidByText := true, laidKinds := [.data, .pinned], laidTests := true, laidLooks := .later }
def ExprLogicUptoCardSaid : Prop := Claim7.holds Tryd.pinned (.plain (OpenSpec.upto exprLogicSpec)) exprLogicUptoCard

/-- THE SECOND FORM's CARD OF 'graftbedlaw12.ExprTurns'. -/
def exprTurnsUptoCard : Claim7 := { stood := { row := exprTurnsUptoRow, standIns := [], harness := (true, "c00dc91c08a220be684ff75c473e6ae57ea48888e8a33876440ad9d1d26fe8be"), looks := false }, kinds := [], alts := [], laidByText := true, laidKinds := [.data, .pinned], laidTests := true, laidLooks := .later }
def ExprTurnsUptoCardSaid : Prop := Claim7.holds Tryd.pinned (.plain (OpenSpec.upto exprTurnsSpec)) exprTurnsUptoCard

/-- THE SECOND FORM's CARD OF 'graftbedlaw13.PlusLines'. -/
def plusLinesUptoCard : Claim7 := { stood := { row := plusLinesUptoRow, standIns := [], harness := (true, "c00dc91c08a220be684ff75c473e6ae57ea48888e8a33876440ad9d1d26fe8be"), looks := false }, kinds := [], alts := [], laidByText := true, laidKinds := [.data, .pinned], laidTests := true, laidLooks := .later }
def PlusLinesUptoCardSaid : Prop := Claim7.holds Tryd.pinned (.plain (OpenSpec.upto plusLinesSpec)) plusLinesUptoCard

/-- THE SECOND FORM's CARD OF 'graftbedlaw13.PlusMeans'. -/
def plusMeansUptoCard : Claim7 := { stood := { row := plusMeansUptoRow, standIns := [], harness := (true, "c00dc91c08a220be684ff75c473e6ae57ea48888e8a33876440ad9d1d26fe8be"), looks := false }, kinds := [], alts := [], laidByText := true, laidKinds := [.data, .pinned], laidTests := true, laidLooks := .later }
def PlusMeansUptoCardSaid : Prop := Claim7.holds Tryd.pinned (.plain (OpenSpec.upto plusMeansSpec)) plusMeansUptoCard
end Rows
end Go.Proofs.YtfnikmkjhbbbgaaDoor
