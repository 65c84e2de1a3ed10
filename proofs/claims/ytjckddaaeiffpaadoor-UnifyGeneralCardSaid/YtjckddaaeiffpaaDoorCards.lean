/-
  DERIVED. GIVEN WITH THE SEED: THE CARDS: each row of YtjckddaaeiffpaaDoorRows.lean that lists a variable, with what it lists TIED to the program's text (the seventh form; the later family's looks); each row that meets fmt, with fmt's text TOLD by the authors' own Lean function (tested against real Go, not proved from fmt's source: count such statements apart). THE CARD IS WHAT COUNTS. Prove the row's statement (the work); the ties are given (YtjckddaaeiffpaaDoorTie.lean); close each card by the builder's one call (the guide's Derived/Test/ToyasCard.lean, 'card_holds'). Laid BY PROGRAM, IN A SANDBOX (cutbox-door.mjs). By AI agents, Wed Nov 11 2026. No macro, syntax, notation, axiom, sorry.
-/
import Derived.Test.YtjckddaaeiffpaaDoorRows
import GoSem.ClaimSeven
namespace Go.Proofs.YtjckddaaeiffpaaDoor
namespace Rows

/-- THE TIED CARD OF 'lodestonelaw05.MatchFinds'. -/
def matchFindsCard : Claim7 := { stood := { row := matchFindsRow, standIns := [], harness := (true, "7d7834d4e0ff891a55fdfd6d948fa03be9970cb5a51b77d1eda9bb04eecd3a34"), looks := true }, kinds := [], alts := [], laidByText := true, laidKinds := [.data, .pinned], laidTests := true, laidLooks := .later }
def MatchFindsCardSaid : Prop := Claim7.holds Tryd.pinned (.plain (OpenSpec.ofChange matchFindsSpec)) matchFindsCard

/-- THE TIED CARD OF 'lodestonelaw06.UnifyFinds'. -/
def unifyFindsCard : Claim7 := { stood := { row := unifyFindsRow, standIns := [], harness := (true, "7d7834d4e0ff891a55fdfd6d948fa03be9970cb5a51b77d1eda9bb04eecd3a34"), looks := true }, kinds := [], alts := [], laidByText := true, laidKinds := [.data, .pinned], laidTests := true, laidLooks := .later }
def UnifyFindsCardSaid : Prop := Claim7.holds Tryd.pinned (.plain (OpenSpec.ofChange unifyFindsSpec)) unifyFindsCard

/-- THE TIED CARD OF 'lodestonelaw06.UnifyCan'. -/
def unifyCanCard : Claim7 := { stood := { row := unifyCanRow, standIns := [], harness := (true, "7d7834d4e0ff891a55fdfd6d948fa03be9970cb5a51b77d1eda9bb04eecd3a34"), looks := true }, kinds := [], alts := [], laidByText := true, laidKinds := [.data, .pinned], laidTests := true, laidLooks := .later }
def UnifyCanCardSaid : Prop := Claim7.holds Tryd.pinned (.plain (OpenSpec.ofChange unifyCanSpec)) unifyCanCard

/-- THE TIED CARD OF 'lodestonelaw06.UnifyTurned'. -/
def unifyTurnedCard : Claim7 := { stood := { row := unifyTurnedRow, standIns := [], harness := (true, "7d7834d4e0ff891a55fdfd6d948fa03be9970cb5a51b77d1eda9bb04eecd3a34"), looks := true }, kinds := [], alts := [], laidByText := true, laidKinds := [.data, .pinned], laidTests := true, laidLooks := .later }
def UnifyTurnedCardSaid : Prop := Claim7.holds Tryd.pinned (.plain (OpenSpec.ofChange unifyTurnedSpec)) unifyTurnedCard

/-- THE TIED CARD OF 'lodestonelaw06.UnifyGeneral'. -/
def unifyGeneralCard : Claim7 := { stood := { row := unifyGeneralRow, standIns := [], harness := (true, "7d7834d4e0ff891a55fdfd6d948fa03be9970cb5a51b77d1eda9bb04eecd3a34"), looks := true }, kinds := [], alts := [], laidByText := true, laidKinds := [.data, .pinned], laidTests := true, laidLooks := .later }
def UnifyGeneralCardSaid : Prop := Claim7.holds Tryd.pinned (.plain (OpenSpec.ofChange unifyGeneralSpec)) unifyGeneralCard

/-- THE TIED CARD OF 'lodestonelaw06.UnifyOne'. -/
def unifyOneCard : Claim7 := { stood := { row := unifyOneRow, standIns := [], harness := (true, "7d7834d4e0ff891a55fdfd6d948fa03be9970cb5a51b77d1eda9bb04eecd3a34"), looks := true }, kinds := [], alts := [], laidByText := true, laidKinds := [.data, .pinned], laidTests := true, laidLooks := .later }
def UnifyOneCardSaid : Prop := Claim7.holds Tryd.pinned (.plain (OpenSpec.ofChange unifyOneSpec)) unifyOneCard

/-- THE TIED CARD OF 'lodestonelaw06.UnifyInside'. -/
def unifyInsideCard : Claim7 := { stood := { row := unifyInsideRow, standIns := [], harness := (true, "7d7834d4e0ff891a55fdfd6d948fa03be9970cb5a51b77d1eda9bb04eecd3a34"), looks := true }, kinds := [], alts := [], laidByText := true, laidKinds := [.data, .pinned], laidTests := true, laidLooks := .later }
def UnifyInsideCardSaid : Prop := Claim7.holds Tryd.pinned (.plain (OpenSpec.ofChange unifyInsideSpec)) unifyInsideCard

/-- THE SECOND FORM's CARD OF 'lodestonelaw05.MatchFinds'. -/
def matchFindsUptoCard : Claim7 := { stood := { row := matchFindsUptoRow, standIns := [], harness := (true, "7d7834d4e0ff891a55fdfd6d948fa03be9970cb5a51b77d1eda9bb04eecd3a34"), looks := true }, kinds := [], alts := [], laidByText := true, laidKinds := [.data, .pinned], laidTests := true, laidLooks := .later }
def MatchFindsUptoCardSaid : Prop := Claim7.holds Tryd.pinned (.plain (OpenSpec.upto matchFindsSpec)) matchFindsUptoCard

/-- THE SECOND FORM's CARD OF 'lodestonelaw06.UnifyFinds'. -/
def unifyFindsUptoCard : Claim7 := { stood := { row := unifyFindsUptoRow, standIns := [], harness := (true, "7d7834d4e0ff891a55fdfd6d948fa03be9970cb5a51b77d1eda9bb04eecd3a34"), looks := true }, kinds := [], alts := [], laidByText := true, laidKinds := [.data, .pinned], laidTests := true, laidLooks := .later }
def UnifyFindsUptoCardSaid : Prop := Claim7.holds Tryd.pinned (.plain (OpenSpec.upto unifyFindsSpec)) unifyFindsUptoCard

/-- THE SECOND FORM's CARD OF 'lodestonelaw06.UnifyCan'. -/
def unifyCanUptoCard : Claim7 := { stood := { row := unifyCanUptoRow, standIns := [], harness := (true, "7d7834d4e0ff891a55fdfd6d948fa03be9970cb5a51b77d1eda9bb04eecd3a34"), looks := true }, kinds := [], alts := [], laidByText := true, laidKinds := [.data, .pinned], laidTests := true, laidLooks := .later }
def UnifyCanUptoCardSaid : Prop := Claim7.holds Tryd.pinned (.plain (OpenSpec.upto unifyCanSpec)) unifyCanUptoCard

/-- THE SECOND FORM's CARD OF 'lodestonelaw06.UnifyTurned'. -/
def unifyTurnedUptoCard : Claim7 := { stood := { row := unifyTurnedUptoRow, standIns := [], harness := (true, "7d7834d4e0ff891a55fdfd6d948fa03be9970cb5a51b77d1eda9bb04eecd3a34"), looks := true }, kinds := [], alts := [], laidByText := true, laidKinds := [.data, .pinned], laidTests := true, laidLooks := .later }
def UnifyTurnedUptoCardSaid : Prop := Claim7.holds Tryd.pinned (.plain (OpenSpec.upto unifyTurnedSpec)) unifyTurnedUptoCard

/-- THE SECOND FORM's CARD OF 'lodestonelaw06.UnifyGeneral'. -/
def unifyGeneralUptoCard : Claim7 := { stood := { row := unifyGeneralUptoRow, standIns := [], harness := (true, "7d7834d4e0ff891a55fdfd6d948fa03be9970cb5a51b77d1eda9bb04eecd3a34"), looks := true }, kinds := [], alts := [], laidByText := true, laidKinds := [.data, .pinned], laidTests := true, laidLooks := .later }
def UnifyGeneralUptoCardSaid : Prop := Claim7.holds Tryd.pinned (.plain (OpenSpec.upto unifyGeneralSpec)) unifyGeneralUptoCard

/-- THE SECOND FORM's CARD OF 'lodestonelaw06.UnifyOne'. -/
def unifyOneUptoCard : Claim7 := { stood := { row := unifyOneUptoRow, standIns := [], harness := (true, "7d7834d4e0ff891a55fdfd6d948fa03be9970cb5a51b77d1eda9bb04eecd3a34"), looks := true }, kinds := [], alts := [], laidByText := true, laidKinds := [.data, .pinned], laidTests := true, laidLooks := .later }
def UnifyOneUptoCardSaid : Prop := Claim7.holds Tryd.pinned (.plain (OpenSpec.upto unifyOneSpec)) unifyOneUptoCard

/-- THE SECOND FORM's CARD OF 'lodestonelaw06.UnifyInside'. -/
def unifyInsideUptoCard : Claim7 := { stood := { row := unifyInsideUptoRow, standIns := [], harness := (true, "7d7834d4e0ff891a55fdfd6d948fa03be9970cb5a51b77d1eda9bb04eecd3a34"), looks := true }, kinds := [], alts := [], laidByText := true, laidKinds := [.data, .pinned], laidTests := true, laidLooks := .later }
def UnifyInsideUptoCardSaid : Prop := Claim7.holds Tryd.pinned (.plain (OpenSpec.upto unifyInsideSpec)) unifyInsideUptoCard
end Rows
end Go.Proofs.YtjckddaaeiffpaaDoor
