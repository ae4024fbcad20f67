/-
  DERIVED. GIVEN WITH THE SEED: THE CARDS: each row of YtedkdcdfehhhpaaDoorRows.lean that lists a variable, with what it lists TIED to the program's text (the seventh form; the later family's looks); each row that meets fmt, with fmt's text TOLD by the authors' own Lean function (tested against real Go, not proved from fmt's source: count such statements apart). THE CARD IS WHAT COUNTS. Prove the row's statement (the work); the ties are given (YtedkdcdfehhhpaaDoorTie.lean); close each card by the builder's one call (the guide's Derived/Test/ToyasCard.lean, 'card_holds'). Laid BY PROGRAM, IN A SANDBOX (cutbox-door.mjs). By AI agents, Wed Nov 11 2026. No macro, syntax, notation, axiom, sorry.
-/
import Derived.Test.YtedkdcdfehhhpaaDoorRows
import GoSem.ClaimSeven
namespace Go.Proofs.YtedkdcdfehhhpaaDoor
namespace Rows

/-- THE TIED CARD OF 'sharecorelaw06.PowerRaises'. -/
def powerRaisesCard : Claim7 := { stood := { row := powerRaisesRow, standIns := [], harness := (true, "c445f05c62e4b3017ecf2022dd2b34a29d92e25b77cecd5ced8d035dd7a5cf44"), looks := false }, kinds := [], alts := [], laidByText := true, laidKinds := [.data], laidTests := true, laidLooks := .later }
def PowerRaisesCardSaid : Prop := Claim7.holds Tryd.pinned (.plain (OpenSpec.ofChange powerRaisesSpec)) powerRaisesCard

/-- THE TIED CARD OF 'sharecorelaw06.PowerInverts'. -/
def powerInvertsCard : Claim7 := { stood := { row := powerInvertsRow, standIns := [], harness := (true, "c445f05c62e4b3017ecf2022dd2b34a29d92e25b77cecd5ced8d035dd7a5cf44"), looks := false }, kinds := [], alts := [], laidByText := true, laidKinds := [.data], laidTests := true, laidLooks := .later }
def PowerInvertsCardSaid : Prop := Claim7.holds Tryd.pinned (.plain (OpenSpec.ofChange powerInvertsSpec)) powerInvertsCard

/-- THE TIED CARD OF 'sharecorelaw06.PowerBatches'. -/
def powerBatchesCard : Claim7 := { stood := { row := powerBatchesRow, standIns := [], harness := (true, "c445f05c62e4b3017ecf2022dd2b34a29d92e25b77cecd5ced8d035dd7a5cf44"), looks := false }, kinds := [], alts := [], laidByText := true, laidKinds := [.data], laidTests := true, laidLooks := .later }
def PowerBatchesCardSaid : Prop := Claim7.holds Tryd.pinned (.plain (OpenSpec.ofChange powerBatchesSpec)) powerBatchesCard

/-- THE TIED CARD OF 'sharecorelaw06.PowerAdds'. -/
def powerAddsCard : Claim7 := { stood := { row := powerAddsRow, standIns := [], harness := (true, "c445f05c62e4b3017ecf2022dd2b34a29d92e25b77cecd5ced8d035dd7a5cf44"), looks := false }, kinds := [], alts := [], laidByText := true, laidKinds := [.data], laidTests := true, laidLooks := .later }
def PowerAddsCardSaid : Prop := Claim7.holds Tryd.pinned (.plain (OpenSpec.ofChange powerAddsSpec)) powerAddsCard

/-- THE TIED CARD OF 'sharecorelaw06.PowerFermat'. -/
def powerFermatCard : Claim7 := { stood := { row := powerFermatRow, standIns := [], harness := (true, "c445f05c62e4b3017ecf2022dd2b34a29d92e25b77cecd5ced8d035dd7a5cf44"), looks := false }, kinds := [], alts := [], laidByText := true, laidKinds := [.data], laidTests := true, laidLooks := .later }
def PowerFermatCardSaid : Prop := Claim7.holds Tryd.pinned (.plain (OpenSpec.ofChange powerFermatSpec)) powerFermatCard

/-- THE TIED CARD OF 'sharecorelaw06.PowerEvents'. -/
def powerEventsCard : Claim7 := { stood := { row := powerEventsRow, standIns := [], harness := (true, "c445f05c62e4b3017ecf2022dd2b34a29d92e25b77cecd5ced8d035dd7a5cf44"), looks := false }, kinds := [], alts := [], laidByText := true, laidKinds := [.data], laidTests := true, laidLooks := .later }
def PowerEventsCardSaid : Prop := Claim7.holds Tryd.pinned (.plain (OpenSpec.ofChange powerEventsSpec)) powerEventsCard

/-- THE TIED CARD OF 'sharecorelaw09.LagrangeChecks'. -/
def lagrangeChecksCard : Claim7 := { stood := { row := lagrangeChecksRow, standIns := [], harness := (true, "c445f05c62e4b3017ecf2022dd2b34a29d92e25b77cecd5ced8d035dd7a5cf44"), looks := false }, kinds := [], alts := [], laidByText := true, laidKinds := [.data], laidTests := true, laidLooks := .later }
def LagrangeChecksCardSaid : Prop := Claim7.holds Tryd.pinned (.plain (OpenSpec.ofChange lagrangeChecksSpec)) lagrangeChecksCard

/-- THE TIED CARD OF 'sharecorelaw09.LagrangeWeights'. -/
def lagrangeWeightsCard : Claim7 := { stood := { row := lagrangeWeightsRow, standIns := [], harness := (true, "c445f05c62e4b3017ecf2022dd2b34a29d92e25b77cecd5ced8d035dd7a5cf44"), looks := false }, kinds := [], alts := [], laidByText := true, laidKinds := [.data], laidTests := true, laidLooks := .later }
def LagrangeWeightsCardSaid : Prop := Claim7.holds Tryd.pinned (.plain (OpenSpec.ofChange lagrangeWeightsSpec)) lagrangeWeightsCard

/-- THE TIED CARD OF 'sharecorelaw09.LagrangeInterpolates'. -/
def lagrangeInterpolatesCard : Claim7 := { stood := { row := lagrangeInterpolatesRow, standIns := [], harness := (true, "c445f05c62e4b3017ecf2022dd2b34a29d92e25b77cecd5ced8d035dd7a5cf44"), looks := false }, kinds := [], alts := [], laidByText := true, laidKinds := [.data], laidTests := true, laidLooks := .later }
def LagrangeInterpolatesCardSaid : Prop := Claim7.holds Tryd.pinned (.plain (OpenSpec.ofChange lagrangeInterpolatesSpec)) lagrangeInterpolatesCard

/-- THE TIED CARD OF 'sharecorelaw09.LagrangeDots'. -/
def lagrangeDotsCard : Claim7 := { stood := { row := lagrangeDotsRow, standIns := [], harness := (true, "c445f05c62e4b3017ecf2022dd2b34a29d92e25b77cecd5ced8d035dd7a5cf44"), looks := false }, kinds := [], alts := [], laidByText := true, laidKinds := [.data], laidTests := true, laidLooks := .later }
def LagrangeDotsCardSaid : Prop := Claim7.holds Tryd.pinned (.plain (OpenSpec.ofChange lagrangeDotsSpec)) lagrangeDotsCard

/-- THE TIED CARD OF 'sharecorelaw09.LagrangeRecovers'. -/
def lagrangeRecoversCard : Claim7 := { stood := { row := lagrangeRecoversRow, standIns := [], harness := (true, "c445f05c62e4b3017ecf2022dd2b34a29d92e25b77cecd5ced8d035dd7a5cf44"), looks := false }, kinds := [], alts := [], laidByText := true, laidKinds := [.data], laidTests := true, laidLooks := .later }
def LagrangeRecoversCardSaid : Prop := Claim7.holds Tryd.pinned (.plain (OpenSpec.ofChange lagrangeRecoversSpec)) lagrangeRecoversCard

/-- THE TIED CARD OF 'sharecorelaw09.LagrangeEvents'. -/
def lagrangeEventsCard : Claim7 := { stood := { row := lagrangeEventsRow, standIns := [], harness := (true, "c445f05c62e4b3017ecf2022dd2b34a29d92e25b77cecd5ced8d035dd7a5cf44"), looks := false }, kinds := [], alts := [], laidByText := true, laidKinds := [.data], laidTests := true, laidLooks := .later }
def LagrangeEventsCardSaid : Prop := Claim7.holds Tryd.pinned (.plain (OpenSpec.ofChange lagrangeEventsSpec)) lagrangeEventsCard

/-- THE SECOND FORM's CARD OF 'sharecorelaw06.PowerRaises'. -/
def powerRaisesUptoCard : Claim7 := { stood := { row := powerRaisesUptoRow, standIns := [], harness := (true, "c445f05c62e4b3017ecf2022dd2b34a29d92e25b77cecd5ced8d035dd7a5cf44"), looks := false }, kinds := [], alts := [], laidByText := true, laidKinds := [.data], laidTests := true, laidLooks := .later }
def PowerRaisesUptoCardSaid : Prop := Claim7.holds Tryd.pinned (.plain (OpenSpec.upto powerRaisesSpec)) powerRaisesUptoCard

/-- THE SECOND FORM's CARD OF 'sharecorelaw06.PowerInverts'. -/
def powerInvertsUptoCard : Claim7 := { stood := { row := powerInvertsUptoRow, standIns := [], harness := (true, "c445f05c62e4b3017ecf2022dd2b34a29d92e25b77cecd5ced8d035dd7a5cf44"), looks := false }, kinds := [], alts := [], laidByText := true, laidKinds := [.data], laidTests := true, laidLooks := .later }
def PowerInvertsUptoCardSaid : Prop := Claim7.holds Tryd.pinned (.plain (OpenSpec.upto powerInvertsSpec)) powerInvertsUptoCard

/-- THE SECOND FORM's CARD OF 'sharecorelaw06.PowerBatches'. -/
def powerBatchesUptoCard : Claim7 := { stood := { row := powerBatchesUptoRow, standIns := [], harness := (true, "c445f05c62e4b3017ecf2022dd2b34a29d92e25b77cecd5ced8d035dd7a5cf44"), looks := false }, kinds := [], alts := [], laidByText := true, laidKinds := [.data], laidTests := true, laidLooks := .later }
def PowerBatchesUptoCardSaid : Prop := Claim7.holds Tryd.pinned (.plain (OpenSpec.upto powerBatchesSpec)) powerBatchesUptoCard

/-- THE SECOND FORM's CARD OF 'sharecorelaw06.PowerAdds'. -/
def powerAddsUptoCard : Claim7 := { stood := { row := powerAddsUptoRow, standIns := [], harness := (true, "c445f05c62e4b3017ecf2022dd2b34a29d92e25b77cecd5ced8d035dd7a5cf44"), looks := false }, kinds := [], alts := [], laidByText := true, laidKinds := [.data], laidTests := true, laidLooks := .later }
def PowerAddsUptoCardSaid : Prop := Claim7.holds Tryd.pinned (.plain (OpenSpec.upto powerAddsSpec)) powerAddsUptoCard

/-- THE SECOND FORM's CARD OF 'sharecorelaw06.PowerFermat'. -/
def powerFermatUptoCard : Claim7 := { stood := { row := powerFermatUptoRow, standIns := [], harness := (true, "c445f05c62e4b3017ecf2022dd2b34a29d92e25b77cecd5ced8d035dd7a5cf44"), looks := false }, kinds := [], alts := [], laidByText := true, laidKinds := [.data], laidTests := true, laidLooks := .later }
def PowerFermatUptoCardSaid : Prop := Claim7.holds Tryd.pinned (.plain (OpenSpec.upto powerFermatSpec)) powerFermatUptoCard

/-- THE SECOND FORM's CARD OF 'sharecorelaw06.PowerEvents'. -/
def powerEventsUptoCard : Claim7 := { stood := { row := powerEventsUptoRow, standIns := [], harness := (true, "c445f05c62e4b3017ecf2022dd2b34a29d92e25b77cecd5ced8d035dd7a5cf44"), looks := false }, kinds := [], alts := [], laidByText := true, laidKinds := [.data], laidTests := true, laidLooks := .later }
def PowerEventsUptoCardSaid : Prop := Claim7.holds Tryd.pinned (.plain (OpenSpec.upto powerEventsSpec)) powerEventsUptoCard

/-- THE SECOND FORM's CARD OF 'sharecorelaw09.LagrangeChecks'. -/
def lagrangeChecksUptoCard : Claim7 := { stood := { row := lagrangeChecksUptoRow, standIns := [], harness := (true, "c445f05c62e4b3017ecf2022dd2b34a29d92e25b77cecd5ced8d035dd7a5cf44"), looks := false }, kinds := [], alts := [], laidByText := true, laidKinds := [.data], laidTests := true, laidLooks := .later }
def LagrangeChecksUptoCardSaid : Prop := Claim7.holds Tryd.pinned (.plain (OpenSpec.upto lagrangeChecksSpec)) lagrangeChecksUptoCard

/-- THE SECOND FORM's CARD OF 'sharecorelaw09.LagrangeWeights'. -/
def lagrangeWeightsUptoCard : Claim7 := { stood := { row := lagrangeWeightsUptoRow, standIns := [], harness := (true, "c445f05c62e4b3017ecf2022dd2b34a29d92e25b77cecd5ced8d035dd7a5cf44"), looks := false }, kinds := [], alts := [], laidByText := true, laidKinds := [.data], laidTests := true, laidLooks := .later }
def LagrangeWeightsUptoCardSaid : Prop := Claim7.holds Tryd.pinned (.plain (OpenSpec.upto lagrangeWeightsSpec)) lagrangeWeightsUptoCard

/-- THE SECOND FORM's CARD OF 'sharecorelaw09.LagrangeInterpolates'. -/
def lagrangeInterpolatesUptoCard : Claim7 := { stood := { row := lagrangeInterpolatesUptoRow, standIns := [], harness := (true, "c445f05c62e4b3017ecf2022dd2b34a29d92e25b77cecd5ced8d035dd7a5cf44"), looks := false }, kinds := [], alts := [], laidByText := true, laidKinds := [.data], laidTests := true, laidLooks := .later }
def LagrangeInterpolatesUptoCardSaid : Prop := Claim7.holds Tryd.pinned (.plain (OpenSpec.upto lagrangeInterpolatesSpec)) lagrangeInterpolatesUptoCard

/-- THE SECOND FORM's CARD OF 'sharecorelaw09.LagrangeDots'. -/
def lagrangeDotsUptoCard : Claim7 := { stood := { row := lagrangeDotsUptoRow, standIns := [], harness := (true, "c445f05c62e4b3017ecf2022dd2b34a29d92e25b77cecd5ced8d035dd7a5cf44"), looks := false }, kinds := [], alts := [], laidByText := true, laidKinds := [.data], laidTests := true, laidLooks := .later }
def LagrangeDotsUptoCardSaid : Prop := Claim7.holds Tryd.pinned (.plain (OpenSpec.upto lagrangeDotsSpec)) lagrangeDotsUptoCard

/-- THE SECOND FORM's CARD OF 'sharecorelaw09.LagrangeRecovers'. -/
def lagrangeRecoversUptoCard : Claim7 := { stood := { row := lagrangeRecoversUptoRow, standIns := [], harness := (true, "c445f05c62e4b3017ecf2022dd2b34a29d92e25b77cecd5ced8d035dd7a5cf44"), looks := false }, kinds := [], alts := [], laidByText := true, laidKinds := [.data], laidTests := true, laidLooks := .later }
def LagrangeRecoversUptoCardSaid : Prop := Claim7.holds Tryd.pinned (.plain (OpenSpec.upto lagrangeRecoversSpec)) lagrangeRecoversUptoCard

/-- THE SECOND FORM's CARD OF 'sharecorelaw09.LagrangeEvents'. -/
def lagrangeEventsUptoCard : Claim7 := { stood := { row := lagrangeEventsUptoRow, standIns := [], harness := (true, "c445f05c62e4b3017ecf2022dd2b34a29d92e25b77cecd5ced8d035dd7a5cf44"), looks := false }, kinds := [], alts := [], laidByText := true, laidKinds := [.data], laidTests := true, laidLooks := .later }
def LagrangeEventsUptoCardSaid : Prop := Claim7.holds Tryd.pinned (.plain (OpenSpec.upto lagrangeEventsSpec)) lagrangeEventsUptoCard
end Rows
end Go.Proofs.YtedkdcdfehhhpaaDoor
