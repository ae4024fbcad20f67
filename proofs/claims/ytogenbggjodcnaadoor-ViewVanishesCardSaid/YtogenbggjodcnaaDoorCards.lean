/-
  DERIVED. GIVEN WITH THE SEED: THE CARDS: each row of YtogenbggjodcnaaDoorRows.lean that lists a variable, with what it lists TIED to the program's text (the seventh form; the later family's looks); each row that meets fmt, with fmt's text TOLD by the authors' own Lean function (tested against real Go, not proved from fmt's source: count such statements apart). THE CARD IS WHAT COUNTS. Prove the row's statement (the work); the ties are given (YtogenbggjodcnaaDoorTie.lean); close each card by the builder's one call (the guide's Derived/Test/ToyasCard.lean, 'card_holds'). Laid BY PROGRAM, IN A SANDBOX (cutbox-door.mjs). By AI agents, Wed Nov 11 2026. No macro, syntax, notation, axiom, sorry.
-/
import Derived.Test.YtogenbggjodcnaaDoorRows
import GoSem.ClaimSeven
namespace Go.Proofs.YtogenbggjodcnaaDoor
namespace Rows

/-- THE TIED CARD OF 'sharecorelaw10.DegreeFits'. -/
def degreeFitsCard : Claim7 := { stood := { row := degreeFitsRow, standIns := [], harness := (true, "1b8230f7c341ffac531ab1e6771d1ca2197c09002cf4e9048f8b82f79d7bee9a"), looks := false }, kinds := [], alts := [], laidByText := true, laidKinds := [.data], laidTests := true, laidLooks := .later }
def DegreeFitsCardSaid : Prop := Claim7.holds Tryd.pinned (.plain (OpenSpec.ofChange degreeFitsSpec)) degreeFitsCard

/-- THE TIED CARD OF 'sharecorelaw10.DegreeAll'. -/
def degreeAllCard : Claim7 := { stood := { row := degreeAllRow, standIns := [], harness := (true, "1b8230f7c341ffac531ab1e6771d1ca2197c09002cf4e9048f8b82f79d7bee9a"), looks := false }, kinds := [], alts := [], laidByText := true, laidKinds := [.data], laidTests := true, laidLooks := .later }
def DegreeAllCardSaid : Prop := Claim7.holds Tryd.pinned (.plain (OpenSpec.ofChange degreeAllSpec)) degreeAllCard

/-- THE TIED CARD OF 'sharecorelaw10.DegreeAccepts'. -/
def degreeAcceptsCard : Claim7 := { stood := { row := degreeAcceptsRow, standIns := [], harness := (true, "1b8230f7c341ffac531ab1e6771d1ca2197c09002cf4e9048f8b82f79d7bee9a"), looks := false }, kinds := [], alts := [], laidByText := true, laidKinds := [.data], laidTests := true, laidLooks := .later }
def DegreeAcceptsCardSaid : Prop := Claim7.holds Tryd.pinned (.plain (OpenSpec.ofChange degreeAcceptsSpec)) degreeAcceptsCard

/-- THE TIED CARD OF 'sharecorelaw10.DegreeRejects'. -/
def degreeRejectsCard : Claim7 := { stood := { row := degreeRejectsRow, standIns := [], harness := (true, "1b8230f7c341ffac531ab1e6771d1ca2197c09002cf4e9048f8b82f79d7bee9a"), looks := false }, kinds := [], alts := [], laidByText := true, laidKinds := [.data], laidTests := true, laidLooks := .later }
def DegreeRejectsCardSaid : Prop := Claim7.holds Tryd.pinned (.plain (OpenSpec.ofChange degreeRejectsSpec)) degreeRejectsCard

/-- THE TIED CARD OF 'sharecorelaw10.DegreeEvents'. -/
def degreeEventsCard : Claim7 := { stood := { row := degreeEventsRow, standIns := [], harness := (true, "1b8230f7c341ffac531ab1e6771d1ca2197c09002cf4e9048f8b82f79d7bee9a"), looks := false }, kinds := [], alts := [], laidByText := true, laidKinds := [.data], laidTests := true, laidLooks := .later }
def DegreeEventsCardSaid : Prop := Claim7.holds Tryd.pinned (.plain (OpenSpec.ofChange degreeEventsSpec)) degreeEventsCard

/-- THE TIED CARD OF 'sharecorelaw22.ViewVanishes'. -/
def viewVanishesCard : Claim7 := { stood := { row := viewVanishesRow, standIns := [], harness := (true, "1b8230f7c341ffac531ab1e6771d1ca2197c09002cf4e9048f8b82f79d7bee9a"), looks := false }, kinds := [], alts := [], laidByText := true, laidKinds := [.data], laidTests := true, laidLooks := .later }
def ViewVanishesCardSaid : Prop := Claim7.holds Tryd.pinned (.plain (OpenSpec.ofChange viewVanishesSpec)) viewVanishesCard

/-- THE TIED CARD OF 'sharecorelaw22.ViewShifts'. -/
def viewShiftsCard : Claim7 := { stood := { row := viewShiftsRow, standIns := [], harness := (true, "1b8230f7c341ffac531ab1e6771d1ca2197c09002cf4e9048f8b82f79d7bee9a"), looks := false }, kinds := [], alts := [], laidByText := true, laidKinds := [.data], laidTests := true, laidLooks := .later }
def ViewShiftsCardSaid : Prop := Claim7.holds Tryd.pinned (.plain (OpenSpec.ofChange viewShiftsSpec)) viewShiftsCard

/-- THE TIED CARD OF 'sharecorelaw22.ViewKeeps'. -/
def viewKeepsCard : Claim7 := { stood := { row := viewKeepsRow, standIns := [], harness := (true, "1b8230f7c341ffac531ab1e6771d1ca2197c09002cf4e9048f8b82f79d7bee9a"), looks := false }, kinds := [], alts := [], laidByText := true, laidKinds := [.data], laidTests := true, laidLooks := .later }
def ViewKeepsCardSaid : Prop := Claim7.holds Tryd.pinned (.plain (OpenSpec.ofChange viewKeepsSpec)) viewKeepsCard

/-- THE TIED CARD OF 'sharecorelaw22.ViewExplains'. -/
def viewExplainsCard : Claim7 := { stood := { row := viewExplainsRow, standIns := [], harness := (true, "1b8230f7c341ffac531ab1e6771d1ca2197c09002cf4e9048f8b82f79d7bee9a"), looks := false }, kinds := [], alts := [], laidByText := true, laidKinds := [.data], laidTests := true, laidLooks := .later }
def ViewExplainsCardSaid : Prop := Claim7.holds Tryd.pinned (.plain (OpenSpec.ofChange viewExplainsSpec)) viewExplainsCard

/-- THE TIED CARD OF 'sharecorelaw22.ViewHides'. -/
def viewHidesCard : Claim7 := { stood := { row := viewHidesRow, standIns := [], harness := (true, "1b8230f7c341ffac531ab1e6771d1ca2197c09002cf4e9048f8b82f79d7bee9a"), looks := false }, kinds := [], alts := [], laidByText := true, laidKinds := [.data], laidTests := true, laidLooks := .later }
def ViewHidesCardSaid : Prop := Claim7.holds Tryd.pinned (.plain (OpenSpec.ofChange viewHidesSpec)) viewHidesCard

/-- THE TIED CARD OF 'sharecorelaw22.ViewBias'. -/
def viewBiasCard : Claim7 := { stood := { row := viewBiasRow, standIns := [], harness := (true, "1b8230f7c341ffac531ab1e6771d1ca2197c09002cf4e9048f8b82f79d7bee9a"), looks := false }, kinds := [], alts := [], laidByText := true, laidKinds := [.data], laidTests := true, laidLooks := .later }
def ViewBiasCardSaid : Prop := Claim7.holds Tryd.pinned (.plain (OpenSpec.ofChange viewBiasSpec)) viewBiasCard

/-- THE SECOND FORM's CARD OF 'sharecorelaw10.DegreeFits'. -/
def degreeFitsUptoCard : Claim7 := { stood := { row := degreeFitsUptoRow, standIns := [], harness := (true, "1b8230f7c341ffac531ab1e6771d1ca2197c09002cf4e9048f8b82f79d7bee9a"), looks := false }, kinds := [], alts := [], laidByText := true, laidKinds := [.data], laidTests := true, laidLooks := .later }
def DegreeFitsUptoCardSaid : Prop := Claim7.holds Tryd.pinned (.plain (OpenSpec.upto degreeFitsSpec)) degreeFitsUptoCard

/-- THE SECOND FORM's CARD OF 'sharecorelaw10.DegreeAll'. -/
def degreeAllUptoCard : Claim7 := { stood := { row := degreeAllUptoRow, standIns := [], harness := (true, "1b8230f7c341ffac531ab1e6771d1ca2197c09002cf4e9048f8b82f79d7bee9a"), looks := false }, kinds := [], alts := [], laidByText := true, laidKinds := [.data], laidTests := true, laidLooks := .later }
def DegreeAllUptoCardSaid : Prop := Claim7.holds Tryd.pinned (.plain (OpenSpec.upto degreeAllSpec)) degreeAllUptoCard

/-- THE SECOND FORM's CARD OF 'sharecorelaw10.DegreeAccepts'. -/
def degreeAcceptsUptoCard : Claim7 := { stood := { row := degreeAcceptsUptoRow, standIns := [], harness := (true, "1b8230f7c341ffac531ab1e6771d1ca2197c09002cf4e9048f8b82f79d7bee9a"), looks := false }, kinds := [], alts := [], laidByText := true, laidKinds := [.data], laidTests := true, laidLooks := .later }
def DegreeAcceptsUptoCardSaid : Prop := Claim7.holds Tryd.pinned (.plain (OpenSpec.upto degreeAcceptsSpec)) degreeAcceptsUptoCard

/-- THE SECOND FORM's CARD OF 'sharecorelaw10.DegreeRejects'. -/
def degreeRejectsUptoCard : Claim7 := { stood := { row := degreeRejectsUptoRow, standIns := [], harness := (true, "1b8230f7c341ffac531ab1e6771d1ca2197c09002cf4e9048f8b82f79d7bee9a"), looks := false }, kinds := [], alts := [], laidByText := true, laidKinds := [.data], laidTests := true, laidLooks := .later }
def DegreeRejectsUptoCardSaid : Prop := Claim7.holds Tryd.pinned (.plain (OpenSpec.upto degreeRejectsSpec)) degreeRejectsUptoCard

/-- THE SECOND FORM's CARD OF 'sharecorelaw10.DegreeEvents'. -/
def degreeEventsUptoCard : Claim7 := { stood := { row := degreeEventsUptoRow, standIns := [], harness := (true, "1b8230f7c341ffac531ab1e6771d1ca2197c09002cf4e9048f8b82f79d7bee9a"), looks := false }, kinds := [], alts := [], laidByText := true, laidKinds := [.data], laidTests := true, laidLooks := .later }
def DegreeEventsUptoCardSaid : Prop := Claim7.holds Tryd.pinned (.plain (OpenSpec.upto degreeEventsSpec)) degreeEventsUptoCard

/-- THE SECOND FORM's CARD OF 'sharecorelaw22.ViewVanishes'. -/
def viewVanishesUptoCard : Claim7 := { stood := { row := viewVanishesUptoRow, standIns := [], harness := (true, "1b8230f7c341ffac531ab1e6771d1ca2197c09002cf4e9048f8b82f79d7bee9a"), looks := false }, kinds := [], alts := [], laidByText := true, laidKinds := [.data], laidTests := true, laidLooks := .later }
def ViewVanishesUptoCardSaid : Prop := Claim7.holds Tryd.pinned (.plain (OpenSpec.upto viewVanishesSpec)) viewVanishesUptoCard

/-- THE SECOND FORM's CARD OF 'sharecorelaw22.ViewShifts'. -/
def viewShiftsUptoCard : Claim7 := { stood := { row := viewShiftsUptoRow, standIns := [], harness := (true, "1b8230f7c341ffac531ab1e6771d1ca2197c09002cf4e9048f8b82f79d7bee9a"), looks := false }, kinds := [], alts := [], laidByText := true, laidKinds := [.data], laidTests := true, laidLooks := .later }
def ViewShiftsUptoCardSaid : Prop := Claim7.holds Tryd.pinned (.plain (OpenSpec.upto viewShiftsSpec)) viewShiftsUptoCard

/-- THE SECOND FORM's CARD OF 'sharecorelaw22.ViewKeeps'. -/
def viewKeepsUptoCard : Claim7 := { stood := { row := viewKeepsUptoRow, standIns := [], harness := (true, "1b8230f7c341ffac531ab1e6771d1ca2197c09002cf4e9048f8b82f79d7bee9a"), looks := false }, kinds := [], alts := [], laidByText := true, laidKinds := [.data], laidTests := true, laidLooks := .later }
def ViewKeepsUptoCardSaid : Prop := Claim7.holds Tryd.pinned (.plain (OpenSpec.upto viewKeepsSpec)) viewKeepsUptoCard

/-- THE SECOND FORM's CARD OF 'sharecorelaw22.ViewExplains'. -/
def viewExplainsUptoCard : Claim7 := { stood := { row := viewExplainsUptoRow, standIns := [], harness := (true, "1b8230f7c341ffac531ab1e6771d1ca2197c09002cf4e9048f8b82f79d7bee9a"), looks := false }, kinds := [], alts := [], laidByText := true, laidKinds := [.data], laidTests := true, laidLooks := .later }
def ViewExplainsUptoCardSaid : Prop := Claim7.holds Tryd.pinned (.plain (OpenSpec.upto viewExplainsSpec)) viewExplainsUptoCard

/-- THE SECOND FORM's CARD OF 'sharecorelaw22.ViewHides'. -/
def viewHidesUptoCard : Claim7 := { stood := { row := viewHidesUptoRow, standIns := [], harness := (true, "1b8230f7c341ffac531ab1e6771d1ca2197c09002cf4e9048f8b82f79d7bee9a"), looks := false }, kinds := [], alts := [], laidByText := true, laidKinds := [.data], laidTests := true, laidLooks := .later }
def ViewHidesUptoCardSaid : Prop := Claim7.holds Tryd.pinned (.plain (OpenSpec.upto viewHidesSpec)) viewHidesUptoCard

/-- THE SECOND FORM's CARD OF 'sharecorelaw22.ViewBias'. -/
def viewBiasUptoCard : Claim7 := { stood := { row := viewBiasUptoRow, standIns := [], harness := (true, "1b8230f7c341ffac531ab1e6771d1ca2197c09002cf4e9048f8b82f79d7bee9a"), looks := false }, kinds := [], alts := [], laidByText := true, laidKinds := [.data], laidTests := true, laidLooks := .later }
def ViewBiasUptoCardSaid : Prop := Claim7.holds Tryd.pinned (.plain (OpenSpec.upto viewBiasSpec)) viewBiasUptoCard
end Rows
end Go.Proofs.YtogenbggjodcnaaDoor
