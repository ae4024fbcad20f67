/-
  DERIVED. GIVEN WITH THE SEED: THE CARDS: each row of YthmhdhamhlomoaaDoorRows.lean that lists a variable, with what it lists TIED to the program's text (the seventh form; the later family's looks); each row that meets fmt, with fmt's text TOLD by the authors' own Lean function (tested against real Go, not proved from fmt's source: count such statements apart). THE CARD IS WHAT COUNTS. Prove the row's statement (the work); the ties are given (YthmhdhamhlomoaaDoorTie.lean); close each card by the builder's one call (the guide's Derived/Test/ToyasCard.lean, 'card_holds'). Laid BY PROGRAM, IN A SANDBOX (cutbox-door.mjs). By AI agents, Wed Nov 11 2026. No macro, syntax, notation, axiom, sorry.
-/
import Derived.Test.YthmhdhamhlomoaaDoorRows
import GoSem.ClaimSeven
namespace Go.Proofs.YthmhdhamhlomoaaDoor
namespace Rows

/-- THE TIED CARD OF 'sharecorelaw04.FieldConstants'. -/
def fieldConstantsCard : Claim7 := { stood := { row := fieldConstantsRow, standIns := [], harness := (true, "4a427c9327204badc7086704111b976e16eeca73cb1b11fec09cd3112832e0cb"), looks := false }, kinds := [], alts := [], laidByText := true, laidKinds := [.data], laidTests := true, laidLooks := .later }
def FieldConstantsCardSaid : Prop := Claim7.holds Tryd.pinned (.plain (OpenSpec.ofChange fieldConstantsSpec)) fieldConstantsCard

/-- THE TIED CARD OF 'sharecorelaw04.FieldSubtracts'. -/
def fieldSubtractsCard : Claim7 := { stood := { row := fieldSubtractsRow, standIns := [], harness := (true, "4a427c9327204badc7086704111b976e16eeca73cb1b11fec09cd3112832e0cb"), looks := false }, kinds := [], alts := [], laidByText := true, laidKinds := [.data], laidTests := true, laidLooks := .later }
def FieldSubtractsCardSaid : Prop := Claim7.holds Tryd.pinned (.plain (OpenSpec.ofChange fieldSubtractsSpec)) fieldSubtractsCard

/-- THE TIED CARD OF 'sharecorelaw04.FieldFermat'. -/
def fieldFermatCard : Claim7 := { stood := { row := fieldFermatRow, standIns := [], harness := (true, "4a427c9327204badc7086704111b976e16eeca73cb1b11fec09cd3112832e0cb"), looks := false }, kinds := [], alts := [], laidByText := true, laidKinds := [.data], laidTests := true, laidLooks := .later }
def FieldFermatCardSaid : Prop := Claim7.holds Tryd.pinned (.plain (OpenSpec.ofChange fieldFermatSpec)) fieldFermatCard

/-- THE TIED CARD OF 'sharecorelaw04.FieldContains'. -/
def fieldContainsCard : Claim7 := { stood := { row := fieldContainsRow, standIns := [], harness := (true, "4a427c9327204badc7086704111b976e16eeca73cb1b11fec09cd3112832e0cb"), looks := false }, kinds := [], alts := [], laidByText := true, laidKinds := [.data], laidTests := true, laidLooks := .later }
def FieldContainsCardSaid : Prop := Claim7.holds Tryd.pinned (.plain (OpenSpec.ofChange fieldContainsSpec)) fieldContainsCard

/-- THE TIED CARD OF 'sharecorelaw04.FieldReduces'. -/
def fieldReducesCard : Claim7 := { stood := { row := fieldReducesRow, standIns := [], harness := (true, "4a427c9327204badc7086704111b976e16eeca73cb1b11fec09cd3112832e0cb"), looks := false }, kinds := [], alts := [], laidByText := true, laidKinds := [.data], laidTests := true, laidLooks := .later }
def FieldReducesCardSaid : Prop := Claim7.holds Tryd.pinned (.plain (OpenSpec.ofChange fieldReducesSpec)) fieldReducesCard

/-- THE TIED CARD OF 'sharecorelaw04.FieldInverses'. -/
def fieldInversesCard : Claim7 := { stood := { row := fieldInversesRow, standIns := [], harness := (true, "4a427c9327204badc7086704111b976e16eeca73cb1b11fec09cd3112832e0cb"), looks := false }, kinds := [], alts := [], laidByText := true, laidKinds := [.data], laidTests := true, laidLooks := .later }
def FieldInversesCardSaid : Prop := Claim7.holds Tryd.pinned (.plain (OpenSpec.ofChange fieldInversesSpec)) fieldInversesCard

/-- THE SECOND FORM's CARD OF 'sharecorelaw04.FieldConstants'. -/
def fieldConstantsUptoCard : Claim7 := { stood := { row := fieldConstantsUptoRow, standIns := [], harness := (true, "4a427c9327204badc7086704111b976e16eeca73cb1b11fec09cd3112832e0cb"), looks := false }, kinds := [], alts := [], laidByText := true, laidKinds := [.data], laidTests := true, laidLooks := .later }
def FieldConstantsUptoCardSaid : Prop := Claim7.holds Tryd.pinned (.plain (OpenSpec.upto fieldConstantsSpec)) fieldConstantsUptoCard

/-- THE SECOND FORM's CARD OF 'sharecorelaw04.FieldSubtracts'. -/
def fieldSubtractsUptoCard : Claim7 := { stood := { row := fieldSubtractsUptoRow, standIns := [], harness := (true, "4a427c9327204badc7086704111b976e16eeca73cb1b11fec09cd3112832e0cb"), looks := false }, kinds := [], alts := [], laidByText := true, laidKinds := [.data], laidTests := true, laidLooks := .later }
def FieldSubtractsUptoCardSaid : Prop := Claim7.holds Tryd.pinned (.plain (OpenSpec.upto fieldSubtractsSpec)) fieldSubtractsUptoCard

/-- THE SECOND FORM's CARD OF 'sharecorelaw04.FieldFermat'. -/
def fieldFermatUptoCard : Claim7 := { stood := { row := fieldFermatUptoRow, standIns := [], harness := (true, "4a427c9327204badc7086704111b976e16eeca73cb1b11fec09cd3112832e0cb"), looks := false }, kinds := [], alts := [], laidByText := true, laidKinds := [.data], laidTests := true, laidLooks := .later }
def FieldFermatUptoCardSaid : Prop := Claim7.holds Tryd.pinned (.plain (OpenSpec.upto fieldFermatSpec)) fieldFermatUptoCard

/-- THE SECOND FORM's CARD OF 'sharecorelaw04.FieldContains'. -/
def fieldContainsUptoCard : Claim7 := { stood := { row := fieldContainsUptoRow, standIns := [], harness := (true, "4a427c9327204badc7086704111b976e16eeca73cb1b11fec09cd3112832e0cb"), looks := false }, kinds := [], alts := [], laidByText := true, laidKinds := [.data], laidTests := true, laidLooks := .later }
def FieldContainsUptoCardSaid : Prop := Claim7.holds Tryd.pinned (.plain (OpenSpec.upto fieldContainsSpec)) fieldContainsUptoCard

/-- THE SECOND FORM's CARD OF 'sharecorelaw04.FieldReduces'. -/
def fieldReducesUptoCard : Claim7 := { stood := { row := fieldReducesUptoRow, standIns := [], harness := (true, "4a427c9327204badc7086704111b976e16eeca73cb1b11fec09cd3112832e0cb"), looks := false }, kinds := [], alts := [], laidByText := true, laidKinds := [.data], laidTests := true, laidLooks := .later }
def FieldReducesUptoCardSaid : Prop := Claim7.holds Tryd.pinned (.plain (OpenSpec.upto fieldReducesSpec)) fieldReducesUptoCard

/-- THE SECOND FORM's CARD OF 'sharecorelaw04.FieldInverses'. -/
def fieldInversesUptoCard : Claim7 := { stood := { row := fieldInversesUptoRow, standIns := [], harness := (true, "4a427c9327204badc7086704111b976e16eeca73cb1b11fec09cd3112832e0cb"), looks := false }, kinds := [], alts := [], laidByText := true, laidKinds := [.data], laidTests := true, laidLooks := .later }
def FieldInversesUptoCardSaid : Prop := Claim7.holds Tryd.pinned (.plain (OpenSpec.upto fieldInversesSpec)) fieldInversesUptoCard
end Rows
end Go.Proofs.YthmhdhamhlomoaaDoor
