/-
  DERIVED. GIVEN WITH THE SEED: THE CARDS: each row of YtlinfbhiogdiaaaDoorRows.lean that lists a variable, with what it lists TIED to the program's text (the seventh form; the later family's looks); each row that meets fmt, with fmt's text TOLD by the authors' own Lean function (tested against real Go, not proved from fmt's source: count such statements apart). THE CARD IS WHAT COUNTS. Prove the row's statement (the work); the ties are given (YtlinfbhiogdiaaaDoorTie.lean); close each card by the builder's one call (the guide's Derived/Test/ToyasCard.lean, 'card_holds'). Laid BY PROGRAM, IN A SANDBOX (cutbox-door.mjs). By AI agents, Wed Nov 11 2026. No macro, syntax, notation, axiom, sorry.
-/
import Derived.Test.YtlinfbhiogdiaaaDoorRows
import GoSem.ClaimSeven
namespace Go.Proofs.YtlinfbhiogdiaaaDoor
namespace Rows

/-- THE TIED CARD OF 'sharecorelaw06.PowerRaises'. -/
def powerRaisesCard : Claim7 := { stood := { row := powerRaisesRow, standIns := [], harness := (true, "1a1f065082ade6c305b66bff853754225e1eb758cd9506d8b6abf10a16fd3b59"), looks := false }, kinds := [], alts := [], laidByText := true, laidKinds := [.data], laidTests := true, laidLooks := .later }
def PowerRaisesCardSaid : Prop := Claim7.holds Tryd.pinned (.plain (OpenSpec.ofChange powerRaisesSpec)) powerRaisesCard

/-- THE TIED CARD OF 'sharecorelaw06.PowerInverts'. -/
def powerInvertsCard : Claim7 := { stood := { row := powerInvertsRow, standIns := [], harness := (true, "1a1f065082ade6c305b66bff853754225e1eb758cd9506d8b6abf10a16fd3b59"), looks := false }, kinds := [], alts := [], laidByText := true, laidKinds := [.data], laidTests := true, laidLooks := .later }
def PowerInvertsCardSaid : Prop := Claim7.holds Tryd.pinned (.plain (OpenSpec.ofChange powerInvertsSpec)) powerInvertsCard

/-- THE TIED CARD OF 'sharecorelaw06.PowerBatches'. -/
def powerBatchesCard : Claim7 := { stood := { row := powerBatchesRow, standIns := [], harness := (true, "1a1f065082ade6c305b66bff853754225e1eb758cd9506d8b6abf10a16fd3b59"), looks := false }, kinds := [], alts := [], laidByText := true, laidKinds := [.data], laidTests := true, laidLooks := .later }
def PowerBatchesCardSaid : Prop := Claim7.holds Tryd.pinned (.plain (OpenSpec.ofChange powerBatchesSpec)) powerBatchesCard

/-- THE TIED CARD OF 'sharecorelaw06.PowerAdds'. -/
def powerAddsCard : Claim7 := { stood := { row := powerAddsRow, standIns := [], harness := (true, "1a1f065082ade6c305b66bff853754225e1eb758cd9506d8b6abf10a16fd3b59"), looks := false }, kinds := [], alts := [], laidByText := true, laidKinds := [.data], laidTests := true, laidLooks := .later }
def PowerAddsCardSaid : Prop := Claim7.holds Tryd.pinned (.plain (OpenSpec.ofChange powerAddsSpec)) powerAddsCard

/-- THE TIED CARD OF 'sharecorelaw06.PowerFermat'. -/
def powerFermatCard : Claim7 := { stood := { row := powerFermatRow, standIns := [], harness := (true, "1a1f065082ade6c305b66bff853754225e1eb758cd9506d8b6abf10a16fd3b59"), looks := false }, kinds := [], alts := [], laidByText := true, laidKinds := [.data], laidTests := true, laidLooks := .later }
def PowerFermatCardSaid : Prop := Claim7.holds Tryd.pinned (.plain (OpenSpec.ofChange powerFermatSpec)) powerFermatCard

/-- THE TIED CARD OF 'sharecorelaw06.PowerEvents'. -/
def powerEventsCard : Claim7 := { stood := { row := powerEventsRow, standIns := [], harness := (true, "1a1f065082ade6c305b66bff853754225e1eb758cd9506d8b6abf10a16fd3b59"), looks := false }, kinds := [], alts := [], laidByText := true, laidKinds := [.data], laidTests := true, laidLooks := .later }
def PowerEventsCardSaid : Prop := Claim7.holds Tryd.pinned (.plain (OpenSpec.ofChange powerEventsSpec)) powerEventsCard

/-- THE SECOND FORM's CARD OF 'sharecorelaw06.PowerRaises'. -/
def powerRaisesUptoCard : Claim7 := { stood := { row := powerRaisesUptoRow, standIns := [], harness := (true, "1a1f065082ade6c305b66bff853754225e1eb758cd9506d8b6abf10a16fd3b59"), looks := false }, kinds := [], alts := [], laidByText := true, laidKinds := [.data], laidTests := true, laidLooks := .later }
def PowerRaisesUptoCardSaid : Prop := Claim7.holds Tryd.pinned (.plain (OpenSpec.upto powerRaisesSpec)) powerRaisesUptoCard

/-- THE SECOND FORM's CARD OF 'sharecorelaw06.PowerInverts'. -/
def powerInvertsUptoCard : Claim7 := { stood := { row := powerInvertsUptoRow, standIns := [], harness := (true, "1a1f065082ade6c305b66bff853754225e1eb758cd9506d8b6abf10a16fd3b59"), looks := false }, kinds := [], alts := [], laidByText := true, laidKinds := [.data], laidTests := true, laidLooks := .later }
def PowerInvertsUptoCardSaid : Prop := Claim7.holds Tryd.pinned (.plain (OpenSpec.upto powerInvertsSpec)) powerInvertsUptoCard

/-- THE SECOND FORM's CARD OF 'sharecorelaw06.PowerBatches'. -/
def powerBatchesUptoCard : Claim7 := { stood := { row := powerBatchesUptoRow, standIns := [], harness := (true, "1a1f065082ade6c305b66bff853754225e1eb758cd9506d8b6abf10a16fd3b59"), looks := false }, kinds := [], alts := [], laidByText := true, laidKinds := [.data], laidTests := true, laidLooks := .later }
def PowerBatchesUptoCardSaid : Prop := Claim7.holds Tryd.pinned (.plain (OpenSpec.upto powerBatchesSpec)) powerBatchesUptoCard

/-- THE SECOND FORM's CARD OF 'sharecorelaw06.PowerAdds'. -/
def powerAddsUptoCard : Claim7 := { stood := { row := powerAddsUptoRow, standIns := [], harness := (true, "1a1f065082ade6c305b66bff853754225e1eb758cd9506d8b6abf10a16fd3b59"), looks := false }, kinds := [], alts := [], laidByText := true, laidKinds := [.data], laidTests := true, laidLooks := .later }
def PowerAddsUptoCardSaid : Prop := Claim7.holds Tryd.pinned (.plain (OpenSpec.upto powerAddsSpec)) powerAddsUptoCard

/-- THE SECOND FORM's CARD OF 'sharecorelaw06.PowerFermat'. -/
def powerFermatUptoCard : Claim7 := { stood := { row := powerFermatUptoRow, standIns := [], harness := (true, "1a1f065082ade6c305b66bff853754225e1eb758cd9506d8b6abf10a16fd3b59"), looks := false }, kinds := [], alts := [], laidByText := true, laidKinds := [.data], laidTests := true, laidLooks := .later }
def PowerFermatUptoCardSaid : Prop := Claim7.holds Tryd.pinned (.plain (OpenSpec.upto powerFermatSpec)) powerFermatUptoCard

/-- THE SECOND FORM's CARD OF 'sharecorelaw06.PowerEvents'. -/
def powerEventsUptoCard : Claim7 := { stood := { row := powerEventsUptoRow, standIns := [], harness := (true, "1a1f065082ade6c305b66bff853754225e1eb758cd9506d8b6abf10a16fd3b59"), looks := false }, kinds := [], alts := [], laidByText := true, laidKinds := [.data], laidTests := true, laidLooks := .later }
def PowerEventsUptoCardSaid : Prop := Claim7.holds Tryd.pinned (.plain (OpenSpec.upto powerEventsSpec)) powerEventsUptoCard
end Rows
end Go.Proofs.YtlinfbhiogdiaaaDoor
