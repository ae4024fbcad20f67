/-
  DERIVED. GIVEN WITH THE SEED: THE CARDS: each row of YthdjjogdjabflaaDoorRows.lean that lists a variable, with what it lists TIED to the program's text (the seventh form; the later family's looks); each row that meets fmt, with fmt's text TOLD by the authors' own Lean function (tested against real Go, not proved from fmt's source: count such statements apart). THE CARD IS WHAT COUNTS. Prove the row's statement (the work); the ties are given (YthdjjogdjabflaaDoorTie.lean); close each card by the builder's one call (the guide's Derived/Test/ToyasCard.lean, 'card_holds'). Laid BY PROGRAM, IN A SANDBOX (cutbox-door.mjs). By AI agents, Wed Nov 11 2026. No macro, syntax, notation, axiom, sorry.
-/
import Derived.Test.YthdjjogdjabflaaDoorRows
import GoSem.ClaimSeven
namespace Go.Proofs.YthdjjogdjabflaaDoor
namespace Rows

/-- THE TIED CARD OF 'sharecorelaw09.LagrangeChecks'. -/
def lagrangeChecksCard : Claim7 := { stood := { row := lagrangeChecksRow, standIns := [], harness := (true, "f0e50d77fe568b5ef2ef9227b172116b140def8e6eb613c899b7e95053d083c1"), looks := false }, kinds := [], alts := [], laidByText := true, laidKinds := [.data], laidTests := true, laidLooks := .later }
def LagrangeChecksCardSaid : Prop := Claim7.holds Tryd.pinned (.plain (OpenSpec.ofChange lagrangeChecksSpec)) lagrangeChecksCard

/-- THE TIED CARD OF 'sharecorelaw09.LagrangeWeights'. -/
def lagrangeWeightsCard : Claim7 := { stood := { row := lagrangeWeightsRow, standIns := [], harness := (true, "f0e50d77fe568b5ef2ef9227b172116b140def8e6eb613c899b7e95053d083c1"), looks := false }, kinds := [], alts := [], laidByText := true, laidKinds := [.data], laidTests := true, laidLooks := .later }
def LagrangeWeightsCardSaid : Prop := Claim7.holds Tryd.pinned (.plain (OpenSpec.ofChange lagrangeWeightsSpec)) lagrangeWeightsCard

/-- THE TIED CARD OF 'sharecorelaw09.LagrangeInterpolates'. -/
def lagrangeInterpolatesCard : Claim7 := { stood := { row := lagrangeInterpolatesRow, standIns := [], harness := (true, "f0e50d77fe568b5ef2ef9227b172116b140def8e6eb613c899b7e95053d083c1"), looks := false }, kinds := [], alts := [], laidByText := true, laidKinds := [.data], laidTests := true, laidLooks := .later }
def LagrangeInterpolatesCardSaid : Prop := Claim7.holds Tryd.pinned (.plain (OpenSpec.ofChange lagrangeInterpolatesSpec)) lagrangeInterpolatesCard

/-- THE TIED CARD OF 'sharecorelaw09.LagrangeDots'. -/
def lagrangeDotsCard : Claim7 := { stood := { row := lagrangeDotsRow, standIns := [], harness := (true, "f0e50d77fe568b5ef2ef9227b172116b140def8e6eb613c899b7e95053d083c1"), looks := false }, kinds := [], alts := [], laidByText := true, laidKinds := [.data], laidTests := true, laidLooks := .later }
def LagrangeDotsCardSaid : Prop := Claim7.holds Tryd.pinned (.plain (OpenSpec.ofChange lagrangeDotsSpec)) lagrangeDotsCard

/-- THE TIED CARD OF 'sharecorelaw09.LagrangeRecovers'. -/
def lagrangeRecoversCard : Claim7 := { stood := { row := lagrangeRecoversRow, standIns := [], harness := (true, "f0e50d77fe568b5ef2ef9227b172116b140def8e6eb613c899b7e95053d083c1"), looks := false }, kinds := [], alts := [], laidByText := true, laidKinds := [.data], laidTests := true, laidLooks := .later }
def LagrangeRecoversCardSaid : Prop := Claim7.holds Tryd.pinned (.plain (OpenSpec.ofChange lagrangeRecoversSpec)) lagrangeRecoversCard

/-- THE TIED CARD OF 'sharecorelaw09.LagrangeEvents'. -/
def lagrangeEventsCard : Claim7 := { stood := { row := lagrangeEventsRow, standIns := [], harness := (true, "f0e50d77fe568b5ef2ef9227b172116b140def8e6eb613c899b7e95053d083c1"), looks := false }, kinds := [], alts := [], laidByText := true, laidKinds := [.data], laidTests := true, laidLooks := .later }
def LagrangeEventsCardSaid : Prop := Claim7.holds Tryd.pinned (.plain (OpenSpec.ofChange lagrangeEventsSpec)) lagrangeEventsCard

/-- THE SECOND FORM's CARD OF 'sharecorelaw09.LagrangeChecks'. -/
def lagrangeChecksUptoCard : Claim7 := { stood := { row := lagrangeChecksUptoRow, standIns := [], harness := (true, "f0e50d77fe568b5ef2ef9227b172116b140def8e6eb613c899b7e95053d083c1"), looks := false }, kinds := [], alts := [], laidByText := true, laidKinds := [.data], laidTests := true, laidLooks := .later }
def LagrangeChecksUptoCardSaid : Prop := Claim7.holds Tryd.pinned (.plain (OpenSpec.upto lagrangeChecksSpec)) lagrangeChecksUptoCard

/-- THE SECOND FORM's CARD OF 'sharecorelaw09.LagrangeWeights'. -/
def lagrangeWeightsUptoCard : Claim7 := { stood := { row := lagrangeWeightsUptoRow, standIns := [], harness := (true, "f0e50d77fe568b5ef2ef9227b172116b140def8e6eb613c899b7e95053d083c1"), looks := false }, kinds := [], alts := [], laidByText := true, laidKinds := [.data], laidTests := true, laidLooks := .later }
def LagrangeWeightsUptoCardSaid : Prop := Claim7.holds Tryd.pinned (.plain (OpenSpec.upto lagrangeWeightsSpec)) lagrangeWeightsUptoCard

/-- THE SECOND FORM's CARD OF 'sharecorelaw09.LagrangeInterpolates'. -/
def lagrangeInterpolatesUptoCard : Claim7 := { stood := { row := lagrangeInterpolatesUptoRow, standIns := [], harness := (true, "f0e50d77fe568b5ef2ef9227b172116b140def8e6eb613c899b7e95053d083c1"), looks := false }, kinds := [], alts := [], laidByText := true, laidKinds := [.data], laidTests := true, laidLooks := .later }
def LagrangeInterpolatesUptoCardSaid : Prop := Claim7.holds Tryd.pinned (.plain (OpenSpec.upto lagrangeInterpolatesSpec)) lagrangeInterpolatesUptoCard

/-- THE SECOND FORM's CARD OF 'sharecorelaw09.LagrangeDots'. -/
def lagrangeDotsUptoCard : Claim7 := { stood := { row := lagrangeDotsUptoRow, standIns := [], harness := (true, "f0e50d77fe568b5ef2ef9227b172116b140def8e6eb613c899b7e95053d083c1"), looks := false }, kinds := [], alts := [], laidByText := true, laidKinds := [.data], laidTests := true, laidLooks := .later }
def LagrangeDotsUptoCardSaid : Prop := Claim7.holds Tryd.pinned (.plain (OpenSpec.upto lagrangeDotsSpec)) lagrangeDotsUptoCard

/-- THE SECOND FORM's CARD OF 'sharecorelaw09.LagrangeRecovers'. -/
def lagrangeRecoversUptoCard : Claim7 := { stood := { row := lagrangeRecoversUptoRow, standIns := [], harness := (true, "f0e50d77fe568b5ef2ef9227b172116b140def8e6eb613c899b7e95053d083c1"), looks := false }, kinds := [], alts := [], laidByText := true, laidKinds := [.data], laidTests := true, laidLooks := .later }
def LagrangeRecoversUptoCardSaid : Prop := Claim7.holds Tryd.pinned (.plain (OpenSpec.upto lagrangeRecoversSpec)) lagrangeRecoversUptoCard

/-- THE SECOND FORM's CARD OF 'sharecorelaw09.LagrangeEvents'. -/
def lagrangeEventsUptoCard : Claim7 := { stood := { row := lagrangeEventsUptoRow, standIns := [], harness := (true, "f0e50d77fe568b5ef2ef9227b172116b140def8e6eb613c899b7e95053d083c1"), looks := false }, kinds := [], alts := [], laidByText := true, laidKinds := [.data], laidTests := true, laidLooks := .later }
def LagrangeEventsUptoCardSaid : Prop := Claim7.holds Tryd.pinned (.plain (OpenSpec.upto lagrangeEventsSpec)) lagrangeEventsUptoCard
end Rows
end Go.Proofs.YthdjjogdjabflaaDoor
