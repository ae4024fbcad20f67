/-
  DERIVED. GIVEN WITH THE SEED: THE CARDS: each row of YticpjaooegpipaaDoorRows.lean that lists a variable, with what it lists TIED to the program's text (the seventh form; the later family's looks); each row that meets fmt, with fmt's text TOLD by the authors' own Lean function (tested against real Go, not proved from fmt's source: count such statements apart). THE CARD IS WHAT COUNTS. Prove the row's statement (the work); the ties are given (YticpjaooegpipaaDoorTie.lean); close each card by the builder's one call (the guide's Derived/Test/ToyasCard.lean, 'card_holds'). Laid BY PROGRAM, IN A SANDBOX (cutbox-door.mjs). By AI agents, Wed Nov 11 2026. No macro, syntax, notation, axiom, sorry.
-/
import Derived.Test.YticpjaooegpipaaDoorRows
import GoSem.ClaimSeven
namespace Go.Proofs.YticpjaooegpipaaDoor
namespace Rows

/-- THE TIED CARD OF 'sharecorelaw15.ParamsCheck'. -/
def paramsCheckCard : Claim7 := { stood := { row := paramsCheckRow, standIns := [], harness := (true, "646e6fafd8bd63c99dee2fd1e01791b90d642f0625731c8c50c48b197e45eb19"), looks := false }, kinds := [], alts := [], laidByText := true, laidKinds := [.data], laidTests := true, laidLooks := .later }
def ParamsCheckCardSaid : Prop := Claim7.holds Tryd.pinned (.plain (OpenSpec.ofChange paramsCheckSpec)) paramsCheckCard

/-- THE TIED CARD OF 'sharecorelaw15.ParamsShare'. -/
def paramsShareCard : Claim7 := { stood := { row := paramsShareRow, standIns := [], harness := (true, "646e6fafd8bd63c99dee2fd1e01791b90d642f0625731c8c50c48b197e45eb19"), looks := false }, kinds := [], alts := [], laidByText := true, laidKinds := [.data], laidTests := true, laidLooks := .later }
def ParamsShareCardSaid : Prop := Claim7.holds Tryd.pinned (.plain (OpenSpec.ofChange paramsShareSpec)) paramsShareCard

/-- THE TIED CARD OF 'sharecorelaw15.ParamsShares'. -/
def paramsSharesCard : Claim7 := { stood := { row := paramsSharesRow, standIns := [], harness := (true, "646e6fafd8bd63c99dee2fd1e01791b90d642f0625731c8c50c48b197e45eb19"), looks := false }, kinds := [], alts := [], laidByText := true, laidKinds := [.data], laidTests := true, laidLooks := .later }
def ParamsSharesCardSaid : Prop := Claim7.holds Tryd.pinned (.plain (OpenSpec.ofChange paramsSharesSpec)) paramsSharesCard

/-- THE TIED CARD OF 'sharecorelaw15.ParamsColumns'. -/
def paramsColumnsCard : Claim7 := { stood := { row := paramsColumnsRow, standIns := [], harness := (true, "646e6fafd8bd63c99dee2fd1e01791b90d642f0625731c8c50c48b197e45eb19"), looks := false }, kinds := [], alts := [], laidByText := true, laidKinds := [.data], laidTests := true, laidLooks := .later }
def ParamsColumnsCardSaid : Prop := Claim7.holds Tryd.pinned (.plain (OpenSpec.ofChange paramsColumnsSpec)) paramsColumnsCard

/-- THE TIED CARD OF 'sharecorelaw15.ParamsSubsets'. -/
def paramsSubsetsCard : Claim7 := { stood := { row := paramsSubsetsRow, standIns := [], harness := (true, "646e6fafd8bd63c99dee2fd1e01791b90d642f0625731c8c50c48b197e45eb19"), looks := false }, kinds := [], alts := [], laidByText := true, laidKinds := [.data], laidTests := true, laidLooks := .later }
def ParamsSubsetsCardSaid : Prop := Claim7.holds Tryd.pinned (.plain (OpenSpec.ofChange paramsSubsetsSpec)) paramsSubsetsCard

/-- THE TIED CARD OF 'sharecorelaw15.ParamsForgetOrder'. -/
def paramsForgetOrderCard : Claim7 := { stood := { row := paramsForgetOrderRow, standIns := [], harness := (true, "646e6fafd8bd63c99dee2fd1e01791b90d642f0625731c8c50c48b197e45eb19"), looks := false }, kinds := [], alts := [], laidByText := true, laidKinds := [.data], laidTests := true, laidLooks := .later }
def ParamsForgetOrderCardSaid : Prop := Claim7.holds Tryd.pinned (.plain (OpenSpec.ofChange paramsForgetOrderSpec)) paramsForgetOrderCard

/-- THE SECOND FORM's CARD OF 'sharecorelaw15.ParamsCheck'. -/
def paramsCheckUptoCard : Claim7 := { stood := { row := paramsCheckUptoRow, standIns := [], harness := (true, "646e6fafd8bd63c99dee2fd1e01791b90d642f0625731c8c50c48b197e45eb19"), looks := false }, kinds := [], alts := [], laidByText := true, laidKinds := [.data], laidTests := true, laidLooks := .later }
def ParamsCheckUptoCardSaid : Prop := Claim7.holds Tryd.pinned (.plain (OpenSpec.upto paramsCheckSpec)) paramsCheckUptoCard

/-- THE SECOND FORM's CARD OF 'sharecorelaw15.ParamsShare'. -/
def paramsShareUptoCard : Claim7 := { stood := { row := paramsShareUptoRow, standIns := [], harness := (true, "646e6fafd8bd63c99dee2fd1e01791b90d642f0625731c8c50c48b197e45eb19"), looks := false }, kinds := [], alts := [], laidByText := true, laidKinds := [.data], laidTests := true, laidLooks := .later }
def ParamsShareUptoCardSaid : Prop := Claim7.holds Tryd.pinned (.plain (OpenSpec.upto paramsShareSpec)) paramsShareUptoCard

/-- THE SECOND FORM's CARD OF 'sharecorelaw15.ParamsShares'. -/
def paramsSharesUptoCard : Claim7 := { stood := { row := paramsSharesUptoRow, standIns := [], harness := (true, "646e6fafd8bd63c99dee2fd1e01791b90d642f0625731c8c50c48b197e45eb19"), looks := false }, kinds := [], alts := [], laidByText := true, laidKinds := [.data], laidTests := true, laidLooks := .later }
def ParamsSharesUptoCardSaid : Prop := Claim7.holds Tryd.pinned (.plain (OpenSpec.upto paramsSharesSpec)) paramsSharesUptoCard

/-- THE SECOND FORM's CARD OF 'sharecorelaw15.ParamsColumns'. -/
def paramsColumnsUptoCard : Claim7 := { stood := { row := paramsColumnsUptoRow, standIns := [], harness := (true, "646e6fafd8bd63c99dee2fd1e01791b90d642f0625731c8c50c48b197e45eb19"), looks := false }, kinds := [], alts := [], laidByText := true, laidKinds := [.data], laidTests := true, laidLooks := .later }
def ParamsColumnsUptoCardSaid : Prop := Claim7.holds Tryd.pinned (.plain (OpenSpec.upto paramsColumnsSpec)) paramsColumnsUptoCard

/-- THE SECOND FORM's CARD OF 'sharecorelaw15.ParamsSubsets'. -/
def paramsSubsetsUptoCard : Claim7 := { stood := { row := paramsSubsetsUptoRow, standIns := [], harness := (true, "646e6fafd8bd63c99dee2fd1e01791b90d642f0625731c8c50c48b197e45eb19"), looks := false }, kinds := [], alts := [], laidByText := true, laidKinds := [.data], laidTests := true, laidLooks := .later }
def ParamsSubsetsUptoCardSaid : Prop := Claim7.holds Tryd.pinned (.plain (OpenSpec.upto paramsSubsetsSpec)) paramsSubsetsUptoCard

/-- THE SECOND FORM's CARD OF 'sharecorelaw15.ParamsForgetOrder'. -/
def paramsForgetOrderUptoCard : Claim7 := { stood := { row := paramsForgetOrderUptoRow, standIns := [], harness := (true, "646e6fafd8bd63c99dee2fd1e01791b90d642f0625731c8c50c48b197e45eb19"), looks := false }, kinds := [], alts := [], laidByText := true, laidKinds := [.data], laidTests := true, laidLooks := .later }
def ParamsForgetOrderUptoCardSaid : Prop := Claim7.holds Tryd.pinned (.plain (OpenSpec.upto paramsForgetOrderSpec)) paramsForgetOrderUptoCard
end Rows
end Go.Proofs.YticpjaooegpipaaDoor
