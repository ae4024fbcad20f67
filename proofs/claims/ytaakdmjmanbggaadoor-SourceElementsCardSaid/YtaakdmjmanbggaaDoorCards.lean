/-
  DERIVED. GIVEN WITH THE SEED: THE CARDS: each row of YtaakdmjmanbggaaDoorRows.lean that lists a variable, with what it lists TIED to the program's text (the seventh form; the later family's looks); each row that meets fmt, with fmt's text TOLD by the authors' own Lean function (tested against real Go, not proved from fmt's source: count such statements apart). THE CARD IS WHAT COUNTS. Prove the row's statement (the work); the ties are given (YtaakdmjmanbggaaDoorTie.lean); close each card by the builder's one call (the guide's Derived/Test/ToyasCard.lean, 'card_holds'). Laid BY PROGRAM, IN A SANDBOX (cutbox-door.mjs). By AI agents, Wed Nov 11 2026. No macro, syntax, notation, axiom, sorry.
-/
import Derived.Test.YtaakdmjmanbggaaDoorRows
import GoSem.ClaimSeven
namespace Go.Proofs.YtaakdmjmanbggaaDoor
namespace Rows

/-- THE TIED CARD OF 'sharecorelaw14.SourceTakes'. -/
def sourceTakesCard : Claim7 := { stood := { row := sourceTakesRow, standIns := [], harness := (true, "67156270ebfe8eda3ecf58562c4a4fc62bde84be43093fb1a85e955397019a66"), looks := false }, kinds := [], alts := [], laidByText := true, laidKinds := [.data], laidTests := true, laidLooks := .later }
def SourceTakesCardSaid : Prop := Claim7.holds Tryd.pinned (.plain (OpenSpec.ofChange sourceTakesSpec)) sourceTakesCard

/-- THE TIED CARD OF 'sharecorelaw14.SourceCopies'. -/
def sourceCopiesCard : Claim7 := { stood := { row := sourceCopiesRow, standIns := [], harness := (true, "67156270ebfe8eda3ecf58562c4a4fc62bde84be43093fb1a85e955397019a66"), looks := false }, kinds := [], alts := [], laidByText := true, laidKinds := [.data], laidTests := true, laidLooks := .later }
def SourceCopiesCardSaid : Prop := Claim7.holds Tryd.pinned (.plain (OpenSpec.ofChange sourceCopiesSpec)) sourceCopiesCard

/-- THE TIED CARD OF 'sharecorelaw14.SourceElements'. -/
def sourceElementsCard : Claim7 := { stood := { row := sourceElementsRow, standIns := [], harness := (true, "67156270ebfe8eda3ecf58562c4a4fc62bde84be43093fb1a85e955397019a66"), looks := false }, kinds := [], alts := [], laidByText := true, laidKinds := [.data], laidTests := true, laidLooks := .later }
def SourceElementsCardSaid : Prop := Claim7.holds Tryd.pinned (.plain (OpenSpec.ofChange sourceElementsSpec)) sourceElementsCard

/-- THE TIED CARD OF 'sharecorelaw14.SourceNil'. -/
def sourceNilCard : Claim7 := { stood := { row := sourceNilRow, standIns := [], harness := (true, "67156270ebfe8eda3ecf58562c4a4fc62bde84be43093fb1a85e955397019a66"), looks := false }, kinds := [], alts := [], laidByText := true, laidKinds := [.data], laidTests := true, laidLooks := .later }
def SourceNilCardSaid : Prop := Claim7.holds Tryd.pinned (.plain (OpenSpec.ofChange sourceNilSpec)) sourceNilCard

/-- THE TIED CARD OF 'sharecorelaw14.SourceSingles'. -/
def sourceSinglesCard : Claim7 := { stood := { row := sourceSinglesRow, standIns := [], harness := (true, "67156270ebfe8eda3ecf58562c4a4fc62bde84be43093fb1a85e955397019a66"), looks := false }, kinds := [], alts := [], laidByText := true, laidKinds := [.data], laidTests := true, laidLooks := .later }
def SourceSinglesCardSaid : Prop := Claim7.holds Tryd.pinned (.plain (OpenSpec.ofChange sourceSinglesSpec)) sourceSinglesCard

/-- THE TIED CARD OF 'sharecorelaw14.SourceSplits'. -/
def sourceSplitsCard : Claim7 := { stood := { row := sourceSplitsRow, standIns := [], harness := (true, "67156270ebfe8eda3ecf58562c4a4fc62bde84be43093fb1a85e955397019a66"), looks := false }, kinds := [], alts := [], laidByText := true, laidKinds := [.data], laidTests := true, laidLooks := .later }
def SourceSplitsCardSaid : Prop := Claim7.holds Tryd.pinned (.plain (OpenSpec.ofChange sourceSplitsSpec)) sourceSplitsCard

/-- THE SECOND FORM's CARD OF 'sharecorelaw14.SourceTakes'. -/
def sourceTakesUptoCard : Claim7 := { stood := { row := sourceTakesUptoRow, standIns := [], harness := (true, "67156270ebfe8eda3ecf58562c4a4fc62bde84be43093fb1a85e955397019a66"), looks := false }, kinds := [], alts := [], laidByText := true, laidKinds := [.data], laidTests := true, laidLooks := .later }
def SourceTakesUptoCardSaid : Prop := Claim7.holds Tryd.pinned (.plain (OpenSpec.upto sourceTakesSpec)) sourceTakesUptoCard

/-- THE SECOND FORM's CARD OF 'sharecorelaw14.SourceCopies'. -/
def sourceCopiesUptoCard : Claim7 := { stood := { row := sourceCopiesUptoRow, standIns := [], harness := (true, "67156270ebfe8eda3ecf58562c4a4fc62bde84be43093fb1a85e955397019a66"), looks := false }, kinds := [], alts := [], laidByText := true, laidKinds := [.data], laidTests := true, laidLooks := .later }
def SourceCopiesUptoCardSaid : Prop := Claim7.holds Tryd.pinned (.plain (OpenSpec.upto sourceCopiesSpec)) sourceCopiesUptoCard

/-- THE SECOND FORM's CARD OF 'sharecorelaw14.SourceElements'. -/
def sourceElementsUptoCard : Claim7 := { stood := { row := sourceElementsUptoRow, standIns := [], harness := (true, "67156270ebfe8eda3ecf58562c4a4fc62bde84be43093fb1a85e955397019a66"), looks := false }, kinds := [], alts := [], laidByText := true, laidKinds := [.data], laidTests := true, laidLooks := .later }
def SourceElementsUptoCardSaid : Prop := Claim7.holds Tryd.pinned (.plain (OpenSpec.upto sourceElementsSpec)) sourceElementsUptoCard

/-- THE SECOND FORM's CARD OF 'sharecorelaw14.SourceNil'. -/
def sourceNilUptoCard : Claim7 := { stood := { row := sourceNilUptoRow, standIns := [], harness := (true, "67156270ebfe8eda3ecf58562c4a4fc62bde84be43093fb1a85e955397019a66"), looks := false }, kinds := [], alts := [], laidByText := true, laidKinds := [.data], laidTests := true, laidLooks := .later }
def SourceNilUptoCardSaid : Prop := Claim7.holds Tryd.pinned (.plain (OpenSpec.upto sourceNilSpec)) sourceNilUptoCard

/-- THE SECOND FORM's CARD OF 'sharecorelaw14.SourceSingles'. -/
def sourceSinglesUptoCard : Claim7 := { stood := { row := sourceSinglesUptoRow, standIns := [], harness := (true, "67156270ebfe8eda3ecf58562c4a4fc62bde84be43093fb1a85e955397019a66"), looks := false }, kinds := [], alts := [], laidByText := true, laidKinds := [.data], laidTests := true, laidLooks := .later }
def SourceSinglesUptoCardSaid : Prop := Claim7.holds Tryd.pinned (.plain (OpenSpec.upto sourceSinglesSpec)) sourceSinglesUptoCard

/-- THE SECOND FORM's CARD OF 'sharecorelaw14.SourceSplits'. -/
def sourceSplitsUptoCard : Claim7 := { stood := { row := sourceSplitsUptoRow, standIns := [], harness := (true, "67156270ebfe8eda3ecf58562c4a4fc62bde84be43093fb1a85e955397019a66"), looks := false }, kinds := [], alts := [], laidByText := true, laidKinds := [.data], laidTests := true, laidLooks := .later }
def SourceSplitsUptoCardSaid : Prop := Claim7.holds Tryd.pinned (.plain (OpenSpec.upto sourceSplitsSpec)) sourceSplitsUptoCard
end Rows
end Go.Proofs.YtaakdmjmanbggaaDoor
