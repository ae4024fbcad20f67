/-
  NARROWER THAN 'FOR EVERY INPUT', by the rows' own cells (each row's printed sentence says how): LagrangeChecks: laid · LagrangeWeights: laid · LagrangeInterpolates: laid · LagrangeDots: laid · LagrangeRecovers: laid · LagrangeEvents: laid.
  DERIVED. THE GIVEN ROWS OF THIS SEAT. 6 by the template 'for every input the law returns true; each argument reads behind the call as it read before'; 0 by the template 'total and deterministic' (their statements: YthdjjogdjabflaaDoorTotals.lean).
  GIVEN WITH THE SEED: the statements are not yours to turn. If you find one false, say at which input.
  Laid BY PROGRAM, IN A SANDBOX (cutbox-rows.mjs): the forced cells as the released guide's own fill.sh prints them over the translation 3fbe891cda18f44c… (all of the seat's roots in one cut). By AI agents, Wed Nov 11 2026. No macro, syntax, notation, axiom, sorry.
-/
import Derived.Test.YthdjjogdjabflaaDoorChecked
import GoSem.Claim
import GoSem.ClaimJoined
import GoSem.ClaimMapViews
import Derived.JoinedTies
import Derived.KernelRfl
namespace Go.Proofs.YthdjjogdjabflaaDoor
/- THE CELL 'sum', in the pinned program and in every row, IS THE sha256 OF THE DUMP (.gsa) THAT YthdjjogdjabflaaDoorProg.lean LOADS. Nothing in Lean hashes anything: it is a label: what it is worth is what the hold of that sum in a sandbox is worth. -/
noncomputable def Tryd.pinned : Pinned := { name := "ythdjjogdjabflaadoor", sum := "3fbe891cda18f44c23fb8166c78b3f8f0fd669b8e7bd0a1741888ba541504155", checked := Tryd.checked }
namespace Rows
def none {H : Type} : Left H := { results := [], args := [] }

/- WHAT THE LISTED PACKAGE-LEVEL VARIABLES READ AS WHEN THE CALL BEGINS. Each datum BY PROGRAM (the guide's laid-datum.mjs) off the statement by which the dump's own 'gosem.cut.vars' lays the variable. In a bare row this is a premise. The card (YthdjjogdjabflaaDoorCards.lean) ties it to the program's text. -/
def laid_sharecore_field_fields {H : Type} : DataW H := .agg [.agg [.lit (.int .i64 1), .agg [.lit (.int .u64 18446744073709551597), .lit (.int .u64 18446744073709551615), .lit (.int .u64 18446744073709551615), .lit (.int .u64 9223372036854775807)], .lit (.int .u64 9708812670373448219), .agg [.lit (.int .u64 38), .lit (.int .u64 0), .lit (.int .u64 0), .lit (.int .u64 0)], .agg [.lit (.int .u64 1444), .lit (.int .u64 0), .lit (.int .u64 0), .lit (.int .u64 0)]], .agg [.lit (.int .i64 2), .agg [.lit (.int .u64 17562291160714782033), .lit (.int .u64 13611842547513532036), .lit (.int .u64 18446744073709551615), .lit (.int .u64 18446744069414584320)], .lit (.int .u64 14758798090332847183), .agg [.lit (.int .u64 884452912994769583), .lit (.int .u64 4834901526196019579), .lit (.int .u64 0), .lit (.int .u64 4294967295)], .agg [.lit (.int .u64 9449762124159643298), .lit (.int .u64 5087230966250696614), .lit (.int .u64 2901921493521525849), .lit (.int .u64 7413256579398063648)]]]

/-- 'sharecorelaw09.LagrangeChecks': WHATEVER THE INPUT: true; the input reads as it did. -/
def lagrangeChecksSpec : ChangeSpec := { name := "lagrangeChecks", fn := fun _ => fun
  | [d] => { results := [.lit (.bool true)], args := [d] }
  | _ => none }
def lagrangeChecksRow : OpenClaim := { program := "ythdjjogdjabflaadoor", sum := "3fbe891cda18f44c23fb8166c78b3f8f0fd669b8e7bd0a1741888ba541504155", func := "sharecore/sharecorelaw09.LagrangeChecks", spec := "lagrangeChecks", inPlace := ["math/bits.Add64", "math/bits.Sub64"], unfollowed := true, recurses := true, named := ["sharecore/field.fields"], apart := false, laid := [("sharecore/field.fields", laid_sharecore_field_fields)] }
def LagrangeChecksSaid : Prop := lagrangeChecksRow.holds Tryd.pinned (OpenSpec.ofChange lagrangeChecksSpec)

/-- ITS FALSE NEIGHBOUR: 'it returns false'. Refute it at one input. -/
def lagrangeChecksWrong : ChangeSpec := { name := "lagrangeChecks", fn := fun _ => fun
  | [d] => { results := [.lit (.bool false)], args := [d] }
  | _ => none }
def LagrangeChecksWrongFalsely : Prop := lagrangeChecksRow.holds Tryd.pinned (OpenSpec.ofChange lagrangeChecksWrong)

/-- 'sharecorelaw09.LagrangeWeights': WHATEVER THE INPUT: true; the input reads as it did. -/
def lagrangeWeightsSpec : ChangeSpec := { name := "lagrangeWeights", fn := fun _ => fun
  | [d1, d2] => { results := [.lit (.bool true)], args := [d1, d2] }
  | _ => none }
def lagrangeWeightsRow : OpenClaim := { program := "ythdjjogdjabflaadoor", sum := "3fbe891cda18f44c23fb8166c78b3f8f0fd669b8e7bd0a1741888ba541504155", func := "sharecore/sharecorelaw09.LagrangeWeights", spec := "lagrangeWeights", inPlace := ["math/bits.Add64", "math/bits.Sub64"], unfollowed := true, recurses := true, named := ["sharecore/field.fields"], apart := false, laid := [("sharecore/field.fields", laid_sharecore_field_fields)] }
def LagrangeWeightsSaid : Prop := lagrangeWeightsRow.holds Tryd.pinned (OpenSpec.ofChange lagrangeWeightsSpec)

/-- ITS FALSE NEIGHBOUR: 'it returns false'. Refute it at one input. -/
def lagrangeWeightsWrong : ChangeSpec := { name := "lagrangeWeights", fn := fun _ => fun
  | [d1, d2] => { results := [.lit (.bool false)], args := [d1, d2] }
  | _ => none }
def LagrangeWeightsWrongFalsely : Prop := lagrangeWeightsRow.holds Tryd.pinned (OpenSpec.ofChange lagrangeWeightsWrong)

/-- 'sharecorelaw09.LagrangeInterpolates': WHATEVER THE INPUT: true; the input reads as it did. -/
def lagrangeInterpolatesSpec : ChangeSpec := { name := "lagrangeInterpolates", fn := fun _ => fun
  | [d1, d2, d3] => { results := [.lit (.bool true)], args := [d1, d2, d3] }
  | _ => none }
def lagrangeInterpolatesRow : OpenClaim := { program := "ythdjjogdjabflaadoor", sum := "3fbe891cda18f44c23fb8166c78b3f8f0fd669b8e7bd0a1741888ba541504155", func := "sharecore/sharecorelaw09.LagrangeInterpolates", spec := "lagrangeInterpolates", inPlace := ["math/bits.Add64", "math/bits.Sub64"], unfollowed := true, recurses := true, named := ["sharecore/field.fields"], apart := false, laid := [("sharecore/field.fields", laid_sharecore_field_fields)] }
def LagrangeInterpolatesSaid : Prop := lagrangeInterpolatesRow.holds Tryd.pinned (OpenSpec.ofChange lagrangeInterpolatesSpec)

/-- ITS FALSE NEIGHBOUR: 'it returns false'. Refute it at one input. -/
def lagrangeInterpolatesWrong : ChangeSpec := { name := "lagrangeInterpolates", fn := fun _ => fun
  | [d1, d2, d3] => { results := [.lit (.bool false)], args := [d1, d2, d3] }
  | _ => none }
def LagrangeInterpolatesWrongFalsely : Prop := lagrangeInterpolatesRow.holds Tryd.pinned (OpenSpec.ofChange lagrangeInterpolatesWrong)

/-- 'sharecorelaw09.LagrangeDots': WHATEVER THE INPUT: true; the input reads as it did. -/
def lagrangeDotsSpec : ChangeSpec := { name := "lagrangeDots", fn := fun _ => fun
  | [d1, d2, d3] => { results := [.lit (.bool true)], args := [d1, d2, d3] }
  | _ => none }
def lagrangeDotsRow : OpenClaim := { program := "ythdjjogdjabflaadoor", sum := "3fbe891cda18f44c23fb8166c78b3f8f0fd669b8e7bd0a1741888ba541504155", func := "sharecore/sharecorelaw09.LagrangeDots", spec := "lagrangeDots", inPlace := ["math/bits.Add64", "math/bits.Sub64"], unfollowed := true, recurses := true, named := ["sharecore/field.fields"], apart := false, laid := [("sharecore/field.fields", laid_sharecore_field_fields)] }
def LagrangeDotsSaid : Prop := lagrangeDotsRow.holds Tryd.pinned (OpenSpec.ofChange lagrangeDotsSpec)

/-- ITS FALSE NEIGHBOUR: 'it returns false'. Refute it at one input. -/
def lagrangeDotsWrong : ChangeSpec := { name := "lagrangeDots", fn := fun _ => fun
  | [d1, d2, d3] => { results := [.lit (.bool false)], args := [d1, d2, d3] }
  | _ => none }
def LagrangeDotsWrongFalsely : Prop := lagrangeDotsRow.holds Tryd.pinned (OpenSpec.ofChange lagrangeDotsWrong)

/-- 'sharecorelaw09.LagrangeRecovers': WHATEVER THE INPUT: true; the input reads as it did. -/
def lagrangeRecoversSpec : ChangeSpec := { name := "lagrangeRecovers", fn := fun _ => fun
  | [d1, d2, d3] => { results := [.lit (.bool true)], args := [d1, d2, d3] }
  | _ => none }
def lagrangeRecoversRow : OpenClaim := { program := "ythdjjogdjabflaadoor", sum := "3fbe891cda18f44c23fb8166c78b3f8f0fd669b8e7bd0a1741888ba541504155", func := "sharecore/sharecorelaw09.LagrangeRecovers", spec := "lagrangeRecovers", inPlace := ["math/bits.Add64", "math/bits.Sub64"], unfollowed := true, recurses := true, named := ["sharecore/field.fields"], apart := false, laid := [("sharecore/field.fields", laid_sharecore_field_fields)] }
def LagrangeRecoversSaid : Prop := lagrangeRecoversRow.holds Tryd.pinned (OpenSpec.ofChange lagrangeRecoversSpec)

/-- ITS FALSE NEIGHBOUR: 'it returns false'. Refute it at one input. -/
def lagrangeRecoversWrong : ChangeSpec := { name := "lagrangeRecovers", fn := fun _ => fun
  | [d1, d2, d3] => { results := [.lit (.bool false)], args := [d1, d2, d3] }
  | _ => none }
def LagrangeRecoversWrongFalsely : Prop := lagrangeRecoversRow.holds Tryd.pinned (OpenSpec.ofChange lagrangeRecoversWrong)

/-- 'sharecorelaw09.LagrangeEvents': WHATEVER THE INPUT: true; the input reads as it did. -/
def lagrangeEventsSpec : ChangeSpec := { name := "lagrangeEvents", fn := fun _ => fun
  | [d1, d2] => { results := [.lit (.bool true)], args := [d1, d2] }
  | _ => none }
def lagrangeEventsRow : OpenClaim := { program := "ythdjjogdjabflaadoor", sum := "3fbe891cda18f44c23fb8166c78b3f8f0fd669b8e7bd0a1741888ba541504155", func := "sharecore/sharecorelaw09.LagrangeEvents", spec := "lagrangeEvents", inPlace := ["math/bits.Add64", "math/bits.Sub64"], unfollowed := true, recurses := true, named := ["sharecore/field.fields"], apart := false, laid := [("sharecore/field.fields", laid_sharecore_field_fields)] }
def LagrangeEventsSaid : Prop := lagrangeEventsRow.holds Tryd.pinned (OpenSpec.ofChange lagrangeEventsSpec)

/-- ITS FALSE NEIGHBOUR: 'it returns false'. Refute it at one input. -/
def lagrangeEventsWrong : ChangeSpec := { name := "lagrangeEvents", fn := fun _ => fun
  | [d1, d2] => { results := [.lit (.bool false)], args := [d1, d2] }
  | _ => none }
def LagrangeEventsWrongFalsely : Prop := lagrangeEventsRow.holds Tryd.pinned (OpenSpec.ofChange lagrangeEventsWrong)

/- THE SECOND FORM. 'bulk': how many values and letters a reading holds, each counted each time it is reached (what is shared counts as often as it is met; a slice's spare places count too). A statement '..UptoSaid' is the law's where the arguments, and the package variables that the reading takes, are together of bulk at most 1048576: NARROWER than '..Said'. Prove '..Said' where nothing that the law and all that it calls make is longer than what came in: it says more and counts as full. Else prove '..UptoSaid'. A law counts once. -/
mutual
def uptoBulk {H : Type} : DataW H → Nat
  | .lit (.string bytes) => bytes.length + 1
  | .lit _ => 1
  | .nil => 1
  | .ptr d => uptoBulk d + 1
  | .slice elems spare => uptoBulkAll elems + uptoBulkAll spare + 1
  | .agg parts => uptoBulkAll parts + 1
  | .iface _ d => uptoBulk d + 1
  | .map entries => uptoBulkEntries entries + 1
  | .held _ => 1
def uptoBulkAll {H : Type} : List (DataW H) → Nat
  | [] => 0
  | d :: r => uptoBulk d + uptoBulkAll r
def uptoBulkEntries {H : Type} : List (Lit × DataW H) → Nat
  | [] => 0
  | x :: r => uptoBulkEntry x + uptoBulkEntries r
def uptoBulkEntry {H : Type} : Lit × DataW H → Nat
  | (.string bytes, d) => bytes.length + uptoBulk d + 1
  | (_, d) => uptoBulk d + 1
 end
def uptoSmall : (H : Type) → List (DataW H) → Bool := fun _ ds => decide (uptoBulkAll ds ≤ 1048576)
def OpenSpec.upto (s : _root_.Go.ChangeSpec) : _root_.Go.OpenSpec := { _root_.Go.OpenSpec.ofChange s with cond := some uptoSmall }

/-- 'sharecorelaw09.LagrangeChecks', WHERE WHAT IT READS IS OF BULK AT MOST 1048576: true; the input reads as it did. -/
def lagrangeChecksUptoRow : OpenClaim := { program := "ythdjjogdjabflaadoor", sum := "3fbe891cda18f44c23fb8166c78b3f8f0fd669b8e7bd0a1741888ba541504155", func := "sharecore/sharecorelaw09.LagrangeChecks", spec := "lagrangeChecks", inPlace := ["math/bits.Add64", "math/bits.Sub64"], unfollowed := true, recurses := true, named := ["sharecore/field.fields"], apart := false, laid := [("sharecore/field.fields", laid_sharecore_field_fields)], narrowed := true }
def LagrangeChecksUptoSaid : Prop := lagrangeChecksUptoRow.holds Tryd.pinned (OpenSpec.upto lagrangeChecksSpec)

/-- 'sharecorelaw09.LagrangeWeights', WHERE WHAT IT READS IS OF BULK AT MOST 1048576: true; the input reads as it did. -/
def lagrangeWeightsUptoRow : OpenClaim := { program := "ythdjjogdjabflaadoor", sum := "3fbe891cda18f44c23fb8166c78b3f8f0fd669b8e7bd0a1741888ba541504155", func := "sharecore/sharecorelaw09.LagrangeWeights", spec := "lagrangeWeights", inPlace := ["math/bits.Add64", "math/bits.Sub64"], unfollowed := true, recurses := true, named := ["sharecore/field.fields"], apart := false, laid := [("sharecore/field.fields", laid_sharecore_field_fields)], narrowed := true }
def LagrangeWeightsUptoSaid : Prop := lagrangeWeightsUptoRow.holds Tryd.pinned (OpenSpec.upto lagrangeWeightsSpec)

/-- 'sharecorelaw09.LagrangeInterpolates', WHERE WHAT IT READS IS OF BULK AT MOST 1048576: true; the input reads as it did. -/
def lagrangeInterpolatesUptoRow : OpenClaim := { program := "ythdjjogdjabflaadoor", sum := "3fbe891cda18f44c23fb8166c78b3f8f0fd669b8e7bd0a1741888ba541504155", func := "sharecore/sharecorelaw09.LagrangeInterpolates", spec := "lagrangeInterpolates", inPlace := ["math/bits.Add64", "math/bits.Sub64"], unfollowed := true, recurses := true, named := ["sharecore/field.fields"], apart := false, laid := [("sharecore/field.fields", laid_sharecore_field_fields)], narrowed := true }
def LagrangeInterpolatesUptoSaid : Prop := lagrangeInterpolatesUptoRow.holds Tryd.pinned (OpenSpec.upto lagrangeInterpolatesSpec)

/-- 'sharecorelaw09.LagrangeDots', WHERE WHAT IT READS IS OF BULK AT MOST 1048576: true; the input reads as it did. -/
def lagrangeDotsUptoRow : OpenClaim := { program := "ythdjjogdjabflaadoor", sum := "3fbe891cda18f44c23fb8166c78b3f8f0fd669b8e7bd0a1741888ba541504155", func := "sharecore/sharecorelaw09.LagrangeDots", spec := "lagrangeDots", inPlace := ["math/bits.Add64", "math/bits.Sub64"], unfollowed := true, recurses := true, named := ["sharecore/field.fields"], apart := false, laid := [("sharecore/field.fields", laid_sharecore_field_fields)], narrowed := true }
def LagrangeDotsUptoSaid : Prop := lagrangeDotsUptoRow.holds Tryd.pinned (OpenSpec.upto lagrangeDotsSpec)

/-- 'sharecorelaw09.LagrangeRecovers', WHERE WHAT IT READS IS OF BULK AT MOST 1048576: true; the input reads as it did. -/
def lagrangeRecoversUptoRow : OpenClaim := { program := "ythdjjogdjabflaadoor", sum := "3fbe891cda18f44c23fb8166c78b3f8f0fd669b8e7bd0a1741888ba541504155", func := "sharecore/sharecorelaw09.LagrangeRecovers", spec := "lagrangeRecovers", inPlace := ["math/bits.Add64", "math/bits.Sub64"], unfollowed := true, recurses := true, named := ["sharecore/field.fields"], apart := false, laid := [("sharecore/field.fields", laid_sharecore_field_fields)], narrowed := true }
def LagrangeRecoversUptoSaid : Prop := lagrangeRecoversUptoRow.holds Tryd.pinned (OpenSpec.upto lagrangeRecoversSpec)

/-- 'sharecorelaw09.LagrangeEvents', WHERE WHAT IT READS IS OF BULK AT MOST 1048576: true; the input reads as it did. -/
def lagrangeEventsUptoRow : OpenClaim := { program := "ythdjjogdjabflaadoor", sum := "3fbe891cda18f44c23fb8166c78b3f8f0fd669b8e7bd0a1741888ba541504155", func := "sharecore/sharecorelaw09.LagrangeEvents", spec := "lagrangeEvents", inPlace := ["math/bits.Add64", "math/bits.Sub64"], unfollowed := true, recurses := true, named := ["sharecore/field.fields"], apart := false, laid := [("sharecore/field.fields", laid_sharecore_field_fields)], narrowed := true }
def LagrangeEventsUptoSaid : Prop := lagrangeEventsUptoRow.holds Tryd.pinned (OpenSpec.upto lagrangeEventsSpec)

end Rows
end Go.Proofs.YthdjjogdjabflaaDoor
