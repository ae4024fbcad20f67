/-
  DERIVED. GIVEN WITH THE SEED: THE CARDS: each row of YtfaicnileghjiaaDoorRows.lean that lists a variable, with what it lists TIED to the program's text (the seventh form; the later family's looks); each row that meets fmt, with fmt's text TOLD by the authors' own Lean function (tested against real Go, not proved from fmt's source: count such statements apart). THE CARD IS WHAT COUNTS. Prove the row's statement (the work); the ties are given (YtfaicnileghjiaaDoorTie.lean); close each card by the builder's one call (the guide's Derived/Test/ToyasCard.lean, 'card_holds'). Laid BY PROGRAM, IN A SANDBOX (cutbox-door.mjs). By AI agents, Wed Nov 11 2026. No macro, syntax, notation, axiom, sorry.
-/
import Derived.Test.YtfaicnileghjiaaDoorRows
import GoSem.ClaimSeven
namespace Go.Proofs.YtfaicnileghjiaaDoor
namespace Rows

/-- THE TIED CARD OF 'sharecorelaw08.PolyEvaluates'. -/
def polyEvaluatesCard : Claim7 := { stood := { row := polyEvaluatesRow, standIns := [], harness := (true, "0e5579d290183190ab95b0282836bab7a7943235e6c070a57eea650a406bea3f"), looks := false }, kinds := [], alts := [], laidByText := true, laidKinds := [.data], laidTests := true, laidLooks := .later }
def PolyEvaluatesCardSaid : Prop := Claim7.holds Tryd.pinned (.plain (OpenSpec.ofChange polyEvaluatesSpec)) polyEvaluatesCard

/-- THE TIED CARD OF 'sharecorelaw08.PolyDivides'. -/
def polyDividesCard : Claim7 := { stood := { row := polyDividesRow, standIns := [], harness := (true, "0e5579d290183190ab95b0282836bab7a7943235e6c070a57eea650a406bea3f"), looks := false }, kinds := [], alts := [], laidByText := true, laidKinds := [.data], laidTests := true, laidLooks := .later }
def PolyDividesCardSaid : Prop := Claim7.holds Tryd.pinned (.plain (OpenSpec.ofChange polyDividesSpec)) polyDividesCard

/-- THE TIED CARD OF 'sharecorelaw08.PolyScales'. -/
def polyScalesCard : Claim7 := { stood := { row := polyScalesRow, standIns := [], harness := (true, "0e5579d290183190ab95b0282836bab7a7943235e6c070a57eea650a406bea3f"), looks := false }, kinds := [], alts := [], laidByText := true, laidKinds := [.data], laidTests := true, laidLooks := .later }
def PolyScalesCardSaid : Prop := Claim7.holds Tryd.pinned (.plain (OpenSpec.ofChange polyScalesSpec)) polyScalesCard

/-- THE TIED CARD OF 'sharecorelaw08.PolyCombines'. -/
def polyCombinesCard : Claim7 := { stood := { row := polyCombinesRow, standIns := [], harness := (true, "0e5579d290183190ab95b0282836bab7a7943235e6c070a57eea650a406bea3f"), looks := false }, kinds := [], alts := [], laidByText := true, laidKinds := [.data], laidTests := true, laidLooks := .later }
def PolyCombinesCardSaid : Prop := Claim7.holds Tryd.pinned (.plain (OpenSpec.ofChange polyCombinesSpec)) polyCombinesCard

/-- THE TIED CARD OF 'sharecorelaw08.PolyHomomorphism'. -/
def polyHomomorphismCard : Claim7 := { stood := { row := polyHomomorphismRow, standIns := [], harness := (true, "0e5579d290183190ab95b0282836bab7a7943235e6c070a57eea650a406bea3f"), looks := false }, kinds := [], alts := [], laidByText := true, laidKinds := [.data], laidTests := true, laidLooks := .later }
def PolyHomomorphismCardSaid : Prop := Claim7.holds Tryd.pinned (.plain (OpenSpec.ofChange polyHomomorphismSpec)) polyHomomorphismCard

/-- THE TIED CARD OF 'sharecorelaw08.PolyEvents'. -/
def polyEventsCard : Claim7 := { stood := { row := polyEventsRow, standIns := [], harness := (true, "0e5579d290183190ab95b0282836bab7a7943235e6c070a57eea650a406bea3f"), looks := false }, kinds := [], alts := [], laidByText := true, laidKinds := [.data], laidTests := true, laidLooks := .later }
def PolyEventsCardSaid : Prop := Claim7.holds Tryd.pinned (.plain (OpenSpec.ofChange polyEventsSpec)) polyEventsCard

/-- THE SECOND FORM's CARD OF 'sharecorelaw08.PolyEvaluates'. -/
def polyEvaluatesUptoCard : Claim7 := { stood := { row := polyEvaluatesUptoRow, standIns := [], harness := (true, "0e5579d290183190ab95b0282836bab7a7943235e6c070a57eea650a406bea3f"), looks := false }, kinds := [], alts := [], laidByText := true, laidKinds := [.data], laidTests := true, laidLooks := .later }
def PolyEvaluatesUptoCardSaid : Prop := Claim7.holds Tryd.pinned (.plain (OpenSpec.upto polyEvaluatesSpec)) polyEvaluatesUptoCard

/-- THE SECOND FORM's CARD OF 'sharecorelaw08.PolyDivides'. -/
def polyDividesUptoCard : Claim7 := { stood := { row := polyDividesUptoRow, standIns := [], harness := (true, "0e5579d290183190ab95b0282836bab7a7943235e6c070a57eea650a406bea3f"), looks := false }, kinds := [], alts := [], laidByText := true, laidKinds := [.data], laidTests := true, laidLooks := .later }
def PolyDividesUptoCardSaid : Prop := Claim7.holds Tryd.pinned (.plain (OpenSpec.upto polyDividesSpec)) polyDividesUptoCard

/-- THE SECOND FORM's CARD OF 'sharecorelaw08.PolyScales'. -/
def polyScalesUptoCard : Claim7 := { stood := { row := polyScalesUptoRow, standIns := [], harness := (true, "0e5579d290183190ab95b0282836bab7a7943235e6c070a57eea650a406bea3f"), looks := false }, kinds := [], alts := [], laidByText := true, laidKinds := [.data], laidTests := true, laidLooks := .later }
def PolyScalesUptoCardSaid : Prop := Claim7.holds Tryd.pinned (.plain (OpenSpec.upto polyScalesSpec)) polyScalesUptoCard

/-- THE SECOND FORM's CARD OF 'sharecorelaw08.PolyCombines'. -/
def polyCombinesUptoCard : Claim7 := { stood := { row := polyCombinesUptoRow, standIns := [], harness := (true, "0e5579d290183190ab95b0282836bab7a7943235e6c070a57eea650a406bea3f"), looks := false }, kinds := [], alts := [], laidByText := true, laidKinds := [.data], laidTests := true, laidLooks := .later }
def PolyCombinesUptoCardSaid : Prop := Claim7.holds Tryd.pinned (.plain (OpenSpec.upto polyCombinesSpec)) polyCombinesUptoCard

/-- THE SECOND FORM's CARD OF 'sharecorelaw08.PolyHomomorphism'. -/
def polyHomomorphismUptoCard : Claim7 := { stood := { row := polyHomomorphismUptoRow, standIns := [], harness := (true, "0e5579d290183190ab95b0282836bab7a7943235e6c070a57eea650a406bea3f"), looks := false }, kinds := [], alts := [], laidByText := true, laidKinds := [.data], laidTests := true, laidLooks := .later }
def PolyHomomorphismUptoCardSaid : Prop := Claim7.holds Tryd.pinned (.plain (OpenSpec.upto polyHomomorphismSpec)) polyHomomorphismUptoCard

/-- THE SECOND FORM's CARD OF 'sharecorelaw08.PolyEvents'. -/
def polyEventsUptoCard : Claim7 := { stood := { row := polyEventsUptoRow, standIns := [], harness := (true, "0e5579d290183190ab95b0282836bab7a7943235e6c070a57eea650a406bea3f"), looks := false }, kinds := [], alts := [], laidByText := true, laidKinds := [.data], laidTests := true, laidLooks := .later }
def PolyEventsUptoCardSaid : Prop := Claim7.holds Tryd.pinned (.plain (OpenSpec.upto polyEventsSpec)) polyEventsUptoCard
end Rows
end Go.Proofs.YtfaicnileghjiaaDoor
