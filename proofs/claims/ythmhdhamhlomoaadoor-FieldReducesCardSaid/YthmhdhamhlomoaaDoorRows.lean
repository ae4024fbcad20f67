/-
  NARROWER THAN 'FOR EVERY INPUT', by the rows' own cells (each row's printed sentence says how): FieldConstants: laid · FieldSubtracts: laid · FieldFermat: laid · FieldContains: laid · FieldReduces: laid · FieldInverses: laid.
  DERIVED. THE GIVEN ROWS OF THIS SEAT. 6 by the template 'for every input the law returns true; each argument reads behind the call as it read before'; 0 by the template 'total and deterministic' (their statements: YthmhdhamhlomoaaDoorTotals.lean).
  GIVEN WITH THE SEED: the statements are not yours to turn. If you find one false, say at which input.
  Laid BY PROGRAM, IN A SANDBOX (cutbox-rows.mjs): the forced cells as the released guide's own fill.sh prints them over the translation 58c189f5fe37da5c… (all of the seat's roots in one cut). By AI agents, Wed Nov 11 2026. No macro, syntax, notation, axiom, sorry.
-/
import Derived.Test.YthmhdhamhlomoaaDoorChecked
import GoSem.Claim
import GoSem.ClaimJoined
import GoSem.ClaimMapViews
import Derived.JoinedTies
import Derived.KernelRfl
namespace Go.Proofs.YthmhdhamhlomoaaDoor
/- THE CELL 'sum', in the pinned program and in every row, IS THE sha256 OF THE DUMP (.gsa) THAT YthmhdhamhlomoaaDoorProg.lean LOADS. Nothing in Lean hashes anything: it is a label: what it is worth is what the hold of that sum in a sandbox is worth. -/
noncomputable def Tryd.pinned : Pinned := { name := "ythmhdhamhlomoaadoor", sum := "58c189f5fe37da5cb18adabf6f12202bd6d268503a99d567e9de401de0f57bc5", checked := Tryd.checked }
namespace Rows
def none {H : Type} : Left H := { results := [], args := [] }

/- WHAT THE LISTED PACKAGE-LEVEL VARIABLES READ AS WHEN THE CALL BEGINS. Each datum BY PROGRAM (the guide's laid-datum.mjs) off the statement by which the dump's own 'gosem.cut.vars' lays the variable. In a bare row this is a premise. The card (YthmhdhamhlomoaaDoorCards.lean) ties it to the program's text. -/
def laid_sharecore_field_fields {H : Type} : DataW H := .agg [.agg [.lit (.int .i64 1), .agg [.lit (.int .u64 18446744073709551597), .lit (.int .u64 18446744073709551615), .lit (.int .u64 18446744073709551615), .lit (.int .u64 9223372036854775807)], .lit (.int .u64 9708812670373448219), .agg [.lit (.int .u64 38), .lit (.int .u64 0), .lit (.int .u64 0), .lit (.int .u64 0)], .agg [.lit (.int .u64 1444), .lit (.int .u64 0), .lit (.int .u64 0), .lit (.int .u64 0)]], .agg [.lit (.int .i64 2), .agg [.lit (.int .u64 17562291160714782033), .lit (.int .u64 13611842547513532036), .lit (.int .u64 18446744073709551615), .lit (.int .u64 18446744069414584320)], .lit (.int .u64 14758798090332847183), .agg [.lit (.int .u64 884452912994769583), .lit (.int .u64 4834901526196019579), .lit (.int .u64 0), .lit (.int .u64 4294967295)], .agg [.lit (.int .u64 9449762124159643298), .lit (.int .u64 5087230966250696614), .lit (.int .u64 2901921493521525849), .lit (.int .u64 7413256579398063648)]]]

/-- 'sharecorelaw04.FieldConstants': WHATEVER THE INPUT: true; the input reads as it did. -/
def fieldConstantsSpec : ChangeSpec := { name := "fieldConstants", fn := fun _ => fun
  | [d] => { results := [.lit (.bool true)], args := [d] }
  | _ => none }
def fieldConstantsRow : OpenClaim := { program := "ythmhdhamhlomoaadoor", sum := "58c189f5fe37da5cb18adabf6f12202bd6d268503a99d567e9de401de0f57bc5", func := "sharecore/sharecorelaw04.FieldConstants", spec := "fieldConstants", inPlace := ["math/bits.Sub64"], unfollowed := true, recurses := true, named := ["sharecore/field.fields"], apart := false, laid := [("sharecore/field.fields", laid_sharecore_field_fields)] }
def FieldConstantsSaid : Prop := fieldConstantsRow.holds Tryd.pinned (OpenSpec.ofChange fieldConstantsSpec)

/-- ITS FALSE NEIGHBOUR: 'it returns false'. Refute it at one input. -/
def fieldConstantsWrong : ChangeSpec := { name := "fieldConstants", fn := fun _ => fun
  | [d] => { results := [.lit (.bool false)], args := [d] }
  | _ => none }
def FieldConstantsWrongFalsely : Prop := fieldConstantsRow.holds Tryd.pinned (OpenSpec.ofChange fieldConstantsWrong)

/-- 'sharecorelaw04.FieldSubtracts': WHATEVER THE INPUT: true; the input reads as it did. -/
def fieldSubtractsSpec : ChangeSpec := { name := "fieldSubtracts", fn := fun _ => fun
  | [d1, d2, d3] => { results := [.lit (.bool true)], args := [d1, d2, d3] }
  | _ => none }
def fieldSubtractsRow : OpenClaim := { program := "ythmhdhamhlomoaadoor", sum := "58c189f5fe37da5cb18adabf6f12202bd6d268503a99d567e9de401de0f57bc5", func := "sharecore/sharecorelaw04.FieldSubtracts", spec := "fieldSubtracts", inPlace := ["math/bits.Sub64"], unfollowed := true, recurses := true, named := ["sharecore/field.fields"], apart := false, laid := [("sharecore/field.fields", laid_sharecore_field_fields)] }
def FieldSubtractsSaid : Prop := fieldSubtractsRow.holds Tryd.pinned (OpenSpec.ofChange fieldSubtractsSpec)

/-- ITS FALSE NEIGHBOUR: 'it returns false'. Refute it at one input. -/
def fieldSubtractsWrong : ChangeSpec := { name := "fieldSubtracts", fn := fun _ => fun
  | [d1, d2, d3] => { results := [.lit (.bool false)], args := [d1, d2, d3] }
  | _ => none }
def FieldSubtractsWrongFalsely : Prop := fieldSubtractsRow.holds Tryd.pinned (OpenSpec.ofChange fieldSubtractsWrong)

/-- 'sharecorelaw04.FieldFermat': WHATEVER THE INPUT: true; the input reads as it did. -/
def fieldFermatSpec : ChangeSpec := { name := "fieldFermat", fn := fun _ => fun
  | [d1, d2] => { results := [.lit (.bool true)], args := [d1, d2] }
  | _ => none }
def fieldFermatRow : OpenClaim := { program := "ythmhdhamhlomoaadoor", sum := "58c189f5fe37da5cb18adabf6f12202bd6d268503a99d567e9de401de0f57bc5", func := "sharecore/sharecorelaw04.FieldFermat", spec := "fieldFermat", inPlace := ["math/bits.Sub64"], unfollowed := true, recurses := true, named := ["sharecore/field.fields"], apart := false, laid := [("sharecore/field.fields", laid_sharecore_field_fields)] }
def FieldFermatSaid : Prop := fieldFermatRow.holds Tryd.pinned (OpenSpec.ofChange fieldFermatSpec)

/-- ITS FALSE NEIGHBOUR: 'it returns false'. Refute it at one input. -/
def fieldFermatWrong : ChangeSpec := { name := "fieldFermat", fn := fun _ => fun
  | [d1, d2] => { results := [.lit (.bool false)], args := [d1, d2] }
  | _ => none }
def FieldFermatWrongFalsely : Prop := fieldFermatRow.holds Tryd.pinned (OpenSpec.ofChange fieldFermatWrong)

/-- 'sharecorelaw04.FieldContains': WHATEVER THE INPUT: true; the input reads as it did. -/
def fieldContainsSpec : ChangeSpec := { name := "fieldContains", fn := fun _ => fun
  | [d1, d2] => { results := [.lit (.bool true)], args := [d1, d2] }
  | _ => none }
def fieldContainsRow : OpenClaim := { program := "ythmhdhamhlomoaadoor", sum := "58c189f5fe37da5cb18adabf6f12202bd6d268503a99d567e9de401de0f57bc5", func := "sharecore/sharecorelaw04.FieldContains", spec := "fieldContains", inPlace := ["math/bits.Sub64"], unfollowed := true, recurses := true, named := ["sharecore/field.fields"], apart := false, laid := [("sharecore/field.fields", laid_sharecore_field_fields)] }
def FieldContainsSaid : Prop := fieldContainsRow.holds Tryd.pinned (OpenSpec.ofChange fieldContainsSpec)

/-- ITS FALSE NEIGHBOUR: 'it returns false'. Refute it at one input. -/
def fieldContainsWrong : ChangeSpec := { name := "fieldContains", fn := fun _ => fun
  | [d1, d2] => { results := [.lit (.bool false)], args := [d1, d2] }
  | _ => none }
def FieldContainsWrongFalsely : Prop := fieldContainsRow.holds Tryd.pinned (OpenSpec.ofChange fieldContainsWrong)

/-- 'sharecorelaw04.FieldReduces': WHATEVER THE INPUT: true; the input reads as it did. -/
def fieldReducesSpec : ChangeSpec := { name := "fieldReduces", fn := fun _ => fun
  | [d1, d2, d3] => { results := [.lit (.bool true)], args := [d1, d2, d3] }
  | _ => none }
def fieldReducesRow : OpenClaim := { program := "ythmhdhamhlomoaadoor", sum := "58c189f5fe37da5cb18adabf6f12202bd6d268503a99d567e9de401de0f57bc5", func := "sharecore/sharecorelaw04.FieldReduces", spec := "fieldReduces", inPlace := ["math/bits.Sub64"], unfollowed := true, recurses := true, named := ["sharecore/field.fields"], apart := false, laid := [("sharecore/field.fields", laid_sharecore_field_fields)] }
def FieldReducesSaid : Prop := fieldReducesRow.holds Tryd.pinned (OpenSpec.ofChange fieldReducesSpec)

/-- ITS FALSE NEIGHBOUR: 'it returns false'. Refute it at one input. -/
def fieldReducesWrong : ChangeSpec := { name := "fieldReduces", fn := fun _ => fun
  | [d1, d2, d3] => { results := [.lit (.bool false)], args := [d1, d2, d3] }
  | _ => none }
def FieldReducesWrongFalsely : Prop := fieldReducesRow.holds Tryd.pinned (OpenSpec.ofChange fieldReducesWrong)

/-- 'sharecorelaw04.FieldInverses': WHATEVER THE INPUT: true; the input reads as it did. -/
def fieldInversesSpec : ChangeSpec := { name := "fieldInverses", fn := fun _ => fun
  | [d] => { results := [.lit (.bool true)], args := [d] }
  | _ => none }
def fieldInversesRow : OpenClaim := { program := "ythmhdhamhlomoaadoor", sum := "58c189f5fe37da5cb18adabf6f12202bd6d268503a99d567e9de401de0f57bc5", func := "sharecore/sharecorelaw04.FieldInverses", spec := "fieldInverses", inPlace := ["math/bits.Sub64"], unfollowed := true, recurses := true, named := ["sharecore/field.fields"], apart := false, laid := [("sharecore/field.fields", laid_sharecore_field_fields)] }
def FieldInversesSaid : Prop := fieldInversesRow.holds Tryd.pinned (OpenSpec.ofChange fieldInversesSpec)

/-- ITS FALSE NEIGHBOUR: 'it returns false'. Refute it at one input. -/
def fieldInversesWrong : ChangeSpec := { name := "fieldInverses", fn := fun _ => fun
  | [d] => { results := [.lit (.bool false)], args := [d] }
  | _ => none }
def FieldInversesWrongFalsely : Prop := fieldInversesRow.holds Tryd.pinned (OpenSpec.ofChange fieldInversesWrong)

/- THE SECOND FORM. 'bulk': how many values and letters a reading holds, each counted each time it is reached (what is shared counts as often as it is met; a slice's spare places count too). A statement '..UptoSaid' is the law's where the arguments, and the package variables that the reading takes, are together of bulk at most 1048576: NARROWER than '..Said'. Prove '..Said' where nothing that the law and all that it calls make is longer than what came in: it says more and counts as full. Else prove '..UptoSaid'. A law counts once. -/
mutual
def uptoBulk {H : Type} : DataW H → Nat
  | .lit (.string bytes) => bytes.length + 1
  | .lit _ => 1
  | .nil => 1
  | .ptr d => uptoBulk d + 1
  | .slice elems spare => uptoBulkAll elems + uptoBulkAll spare + 1
  | .agg parts => uptoBulkAll parts + 1
  | .iface _ d => uptoBulk d + 1
  | .map entries => uptoBulkEntries entries + 1
  | .held _ => 1
def uptoBulkAll {H : Type} : List (DataW H) → Nat
  | [] => 0
  | d :: r => uptoBulk d + uptoBulkAll r
def uptoBulkEntries {H : Type} : List (Lit × DataW H) → Nat
  | [] => 0
  | x :: r => uptoBulkEntry x + uptoBulkEntries r
def uptoBulkEntry {H : Type} : Lit × DataW H → Nat
  | (.string bytes, d) => bytes.length + uptoBulk d + 1
  | (_, d) => uptoBulk d + 1
 end
def uptoSmall : (H : Type) → List (DataW H) → Bool := fun _ ds => decide (uptoBulkAll ds ≤ 1048576)
def OpenSpec.upto (s : _root_.Go.ChangeSpec) : _root_.Go.OpenSpec := { _root_.Go.OpenSpec.ofChange s with cond := some uptoSmall }

/-- 'sharecorelaw04.FieldConstants', WHERE WHAT IT READS IS OF BULK AT MOST 1048576: true; the input reads as it did. -/
def fieldConstantsUptoRow : OpenClaim := { program := "ythmhdhamhlomoaadoor", sum := "58c189f5fe37da5cb18adabf6f12202bd6d268503a99d567e9de401de0f57bc5", func := "sharecore/sharecorelaw04.FieldConstants", spec := "fieldConstants", inPlace := ["math/bits.Sub64"], unfollowed := true, recurses := true, named := ["sharecore/field.fields"], apart := false, laid := [("sharecore/field.fields", laid_sharecore_field_fields)], narrowed := true }
def FieldConstantsUptoSaid : Prop := fieldConstantsUptoRow.holds Tryd.pinned (OpenSpec.upto fieldConstantsSpec)

/-- 'sharecorelaw04.FieldSubtracts', WHERE WHAT IT READS IS OF BULK AT MOST 1048576: true; the input reads as it did. -/
def fieldSubtractsUptoRow : OpenClaim := { program := "ythmhdhamhlomoaadoor", sum := "58c189f5fe37da5cb18adabf6f12202bd6d268503a99d567e9de401de0f57bc5", func := "sharecore/sharecorelaw04.FieldSubtracts", spec := "fieldSubtracts", inPlace := ["math/bits.Sub64"], unfollowed := true, recurses := true, named := ["sharecore/field.fields"], apart := false, laid := [("sharecore/field.fields", laid_sharecore_field_fields)], narrowed := true }
def FieldSubtractsUptoSaid : Prop := fieldSubtractsUptoRow.holds Tryd.pinned (OpenSpec.upto fieldSubtractsSpec)

/-- 'sharecorelaw04.FieldFermat', WHERE WHAT IT READS IS OF BULK AT MOST 1048576: true; the input reads as it did. -/
def fieldFermatUptoRow : OpenClaim := { program := "ythmhdhamhlomoaadoor", sum := "58c189f5fe37da5cb18adabf6f12202bd6d268503a99d567e9de401de0f57bc5", func := "sharecore/sharecorelaw04.FieldFermat", spec := "fieldFermat", inPlace := ["math/bits.Sub64"], unfollowed := true, recurses := true, named := ["sharecore/field.fields"], apart := false, laid := [("sharecore/field.fields", laid_sharecore_field_fields)], narrowed := true }
def FieldFermatUptoSaid : Prop := fieldFermatUptoRow.holds Tryd.pinned (OpenSpec.upto fieldFermatSpec)

/-- 'sharecorelaw04.FieldContains', WHERE WHAT IT READS IS OF BULK AT MOST 1048576: true; the input reads as it did. -/
def fieldContainsUptoRow : OpenClaim := { program := "ythmhdhamhlomoaadoor", sum := "58c189f5fe37da5cb18adabf6f12202bd6d268503a99d567e9de401de0f57bc5", func := "sharecore/sharecorelaw04.FieldContains", spec := "fieldContains", inPlace := ["math/bits.Sub64"], unfollowed := true, recurses := true, named := ["sharecore/field.fields"], apart := false, laid := [("sharecore/field.fields", laid_sharecore_field_fields)], narrowed := true }
def FieldContainsUptoSaid : Prop := fieldContainsUptoRow.holds Tryd.pinned (OpenSpec.upto fieldContainsSpec)

/-- 'sharecorelaw04.FieldReduces', WHERE WHAT IT READS IS OF BULK AT MOST 1048576: true; the input reads as it did. -/
def fieldReducesUptoRow : OpenClaim := { program := "ythmhdhamhlomoaadoor", sum := "58c189f5fe37da5cb18adabf6f12202bd6d268503a99d567e9de401de0f57bc5", func := "sharecore/sharecorelaw04.FieldReduces", spec := "fieldReduces", inPlace := ["math/bits.Sub64"], unfollowed := true, recurses := true, named := ["sharecore/field.fields"], apart := false, laid := [("sharecore/field.fields", laid_sharecore_field_fields)], narrowed := true }
def FieldReducesUptoSaid : Prop := fieldReducesUptoRow.holds Tryd.pinned (OpenSpec.upto fieldReducesSpec)

/-- 'sharecorelaw04.FieldInverses', WHERE WHAT IT READS IS OF BULK AT MOST 1048576: true; the input reads as it did. -/
def fieldInversesUptoRow : OpenClaim := { program := "ythmhdhamhlomoaadoor", sum := "58c189f5fe37da5cb18adabf6f12202bd6d268503a99d567e9de401de0f57bc5", func := "sharecore/sharecorelaw04.FieldInverses", spec := "fieldInverses", inPlace := ["math/bits.Sub64"], unfollowed := true, recurses := true, named := ["sharecore/field.fields"], apart := false, laid := [("sharecore/field.fields", laid_sharecore_field_fields)], narrowed := true }
def FieldInversesUptoSaid : Prop := fieldInversesUptoRow.holds Tryd.pinned (OpenSpec.upto fieldInversesSpec)

end Rows
end Go.Proofs.YthmhdhamhlomoaaDoor
