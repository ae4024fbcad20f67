/-
  NARROWER THAN 'FOR EVERY INPUT', by the rows' own cells (each row's printed sentence says how): PolyEvaluates: laid · PolyDivides: laid · PolyScales: laid · PolyCombines: laid · PolyHomomorphism: laid · PolyEvents: laid.
  DERIVED. THE GIVEN ROWS OF THIS SEAT. 6 by the template 'for every input the law returns true; each argument reads behind the call as it read before'; 0 by the template 'total and deterministic' (their statements: YtfaicnileghjiaaDoorTotals.lean).
  GIVEN WITH THE SEED: the statements are not yours to turn. If you find one false, say at which input.
  Laid BY PROGRAM, IN A SANDBOX (cutbox-rows.mjs): the forced cells as the released guide's own fill.sh prints them over the translation 857572583955e271… (all of the seat's roots in one cut). By AI agents, Wed Nov 11 2026. No macro, syntax, notation, axiom, sorry.
-/
import Derived.Test.YtfaicnileghjiaaDoorChecked
import GoSem.Claim
import GoSem.ClaimJoined
import GoSem.ClaimMapViews
import Derived.JoinedTies
import Derived.KernelRfl
namespace Go.Proofs.YtfaicnileghjiaaDoor
/- THE CELL 'sum', in the pinned program and in every row, IS THE sha256 OF THE DUMP (.gsa) THAT YtfaicnileghjiaaDoorProg.lean LOADS. Nothing in Lean hashes anything: it is a label: what it is worth is what the hold of that sum in a sandbox is worth. -/
noncomputable def Tryd.pinned : Pinned := { name := "ytfaicnileghjiaadoor", sum := "857572583955e271c1d48b397959a3268616d7d2367d92adf3a5bfeee48284d3", checked := Tryd.checked }
namespace Rows
def none {H : Type} : Left H := { results := [], args := [] }

/- WHAT THE LISTED PACKAGE-LEVEL VARIABLES READ AS WHEN THE CALL BEGINS. Each datum BY PROGRAM (the guide's laid-datum.mjs) off the statement by which the dump's own 'gosem.cut.vars' lays the variable. In a bare row this is a premise. The card (YtfaicnileghjiaaDoorCards.lean) ties it to the program's text. -/
def laid_sharecore_field_fields {H : Type} : DataW H := .agg [.agg [.lit (.int .i64 1), .agg [.lit (.int .u64 18446744073709551597), .lit (.int .u64 18446744073709551615), .lit (.int .u64 18446744073709551615), .lit (.int .u64 9223372036854775807)], .lit (.int .u64 9708812670373448219), .agg [.lit (.int .u64 38), .lit (.int .u64 0), .lit (.int .u64 0), .lit (.int .u64 0)], .agg [.lit (.int .u64 1444), .lit (.int .u64 0), .lit (.int .u64 0), .lit (.int .u64 0)]], .agg [.lit (.int .i64 2), .agg [.lit (.int .u64 17562291160714782033), .lit (.int .u64 13611842547513532036), .lit (.int .u64 18446744073709551615), .lit (.int .u64 18446744069414584320)], .lit (.int .u64 14758798090332847183), .agg [.lit (.int .u64 884452912994769583), .lit (.int .u64 4834901526196019579), .lit (.int .u64 0), .lit (.int .u64 4294967295)], .agg [.lit (.int .u64 9449762124159643298), .lit (.int .u64 5087230966250696614), .lit (.int .u64 2901921493521525849), .lit (.int .u64 7413256579398063648)]]]

/-- 'sharecorelaw08.PolyEvaluates': WHATEVER THE INPUT: true; the input reads as it did. -/
def polyEvaluatesSpec : ChangeSpec := { name := "polyEvaluates", fn := fun _ => fun
  | [d1, d2, d3] => { results := [.lit (.bool true)], args := [d1, d2, d3] }
  | _ => none }
def polyEvaluatesRow : OpenClaim := { program := "ytfaicnileghjiaadoor", sum := "857572583955e271c1d48b397959a3268616d7d2367d92adf3a5bfeee48284d3", func := "sharecore/sharecorelaw08.PolyEvaluates", spec := "polyEvaluates", inPlace := ["math/bits.Add64", "math/bits.Sub64"], unfollowed := true, recurses := true, named := ["sharecore/field.fields"], apart := false, laid := [("sharecore/field.fields", laid_sharecore_field_fields)] }
def PolyEvaluatesSaid : Prop := polyEvaluatesRow.holds Tryd.pinned (OpenSpec.ofChange polyEvaluatesSpec)

/-- ITS FALSE NEIGHBOUR: 'it returns false'. Refute it at one input. -/
def polyEvaluatesWrong : ChangeSpec := { name := "polyEvaluates", fn := fun _ => fun
  | [d1, d2, d3] => { results := [.lit (.bool false)], args := [d1, d2, d3] }
  | _ => none }
def PolyEvaluatesWrongFalsely : Prop := polyEvaluatesRow.holds Tryd.pinned (OpenSpec.ofChange polyEvaluatesWrong)

/-- 'sharecorelaw08.PolyDivides': WHATEVER THE INPUT: true; the input reads as it did. -/
def polyDividesSpec : ChangeSpec := { name := "polyDivides", fn := fun _ => fun
  | [d1, d2, d3] => { results := [.lit (.bool true)], args := [d1, d2, d3] }
  | _ => none }
def polyDividesRow : OpenClaim := { program := "ytfaicnileghjiaadoor", sum := "857572583955e271c1d48b397959a3268616d7d2367d92adf3a5bfeee48284d3", func := "sharecore/sharecorelaw08.PolyDivides", spec := "polyDivides", inPlace := ["math/bits.Add64", "math/bits.Sub64"], unfollowed := true, recurses := true, named := ["sharecore/field.fields"], apart := false, laid := [("sharecore/field.fields", laid_sharecore_field_fields)] }
def PolyDividesSaid : Prop := polyDividesRow.holds Tryd.pinned (OpenSpec.ofChange polyDividesSpec)

/-- ITS FALSE NEIGHBOUR: 'it returns false'. Refute it at one input. -/
def polyDividesWrong : ChangeSpec := { name := "polyDivides", fn := fun _ => fun
  | [d1, d2, d3] => { results := [.lit (.bool false)], args := [d1, d2, d3] }
  | _ => none }
def PolyDividesWrongFalsely : Prop := polyDividesRow.holds Tryd.pinned (OpenSpec.ofChange polyDividesWrong)

/-- 'sharecorelaw08.PolyScales': WHATEVER THE INPUT: true; the input reads as it did. -/
def polyScalesSpec : ChangeSpec := { name := "polyScales", fn := fun _ => fun
  | [d1, d2, d3] => { results := [.lit (.bool true)], args := [d1, d2, d3] }
  | _ => none }
def polyScalesRow : OpenClaim := { program := "ytfaicnileghjiaadoor", sum := "857572583955e271c1d48b397959a3268616d7d2367d92adf3a5bfeee48284d3", func := "sharecore/sharecorelaw08.PolyScales", spec := "polyScales", inPlace := ["math/bits.Add64", "math/bits.Sub64"], unfollowed := true, recurses := true, named := ["sharecore/field.fields"], apart := false, laid := [("sharecore/field.fields", laid_sharecore_field_fields)] }
def PolyScalesSaid : Prop := polyScalesRow.holds Tryd.pinned (OpenSpec.ofChange polyScalesSpec)

/-- ITS FALSE NEIGHBOUR: 'it returns false'. Refute it at one input. -/
def polyScalesWrong : ChangeSpec := { name := "polyScales", fn := fun _ => fun
  | [d1, d2, d3] => { results := [.lit (.bool false)], args := [d1, d2, d3] }
  | _ => none }
def PolyScalesWrongFalsely : Prop := polyScalesRow.holds Tryd.pinned (OpenSpec.ofChange polyScalesWrong)

/-- 'sharecorelaw08.PolyCombines': WHATEVER THE INPUT: true; the input reads as it did. -/
def polyCombinesSpec : ChangeSpec := { name := "polyCombines", fn := fun _ => fun
  | [d1, d2, d3] => { results := [.lit (.bool true)], args := [d1, d2, d3] }
  | _ => none }
def polyCombinesRow : OpenClaim := { program := "ytfaicnileghjiaadoor", sum := "857572583955e271c1d48b397959a3268616d7d2367d92adf3a5bfeee48284d3", func := "sharecore/sharecorelaw08.PolyCombines", spec := "polyCombines", inPlace := ["math/bits.Add64", "math/bits.Sub64"], unfollowed := true, recurses := true, named := ["sharecore/field.fields"], apart := false, laid := [("sharecore/field.fields", laid_sharecore_field_fields)] }
def PolyCombinesSaid : Prop := polyCombinesRow.holds Tryd.pinned (OpenSpec.ofChange polyCombinesSpec)

/-- ITS FALSE NEIGHBOUR: 'it returns false'. Refute it at one input. -/
def polyCombinesWrong : ChangeSpec := { name := "polyCombines", fn := fun _ => fun
  | [d1, d2, d3] => { results := [.lit (.bool false)], args := [d1, d2, d3] }
  | _ => none }
def PolyCombinesWrongFalsely : Prop := polyCombinesRow.holds Tryd.pinned (OpenSpec.ofChange polyCombinesWrong)

/-- 'sharecorelaw08.PolyHomomorphism': WHATEVER THE INPUT: true; the input reads as it did. -/
def polyHomomorphismSpec : ChangeSpec := { name := "polyHomomorphism", fn := fun _ => fun
  | [d1, d2, d3] => { results := [.lit (.bool true)], args := [d1, d2, d3] }
  | _ => none }
def polyHomomorphismRow : OpenClaim := { program := "ytfaicnileghjiaadoor", sum := "857572583955e271c1d48b397959a3268616d7d2367d92adf3a5bfeee48284d3", func := "sharecore/sharecorelaw08.PolyHomomorphism", spec := "polyHomomorphism", inPlace := ["math/bits.Add64", "math/bits.Sub64"], unfollowed := true, recurses := true, named := ["sharecore/field.fields"], apart := false, laid := [("sharecore/field.fields", laid_sharecore_field_fields)] }
def PolyHomomorphismSaid : Prop := polyHomomorphismRow.holds Tryd.pinned (OpenSpec.ofChange polyHomomorphismSpec)

/-- ITS FALSE NEIGHBOUR: 'it returns false'. Refute it at one input. -/
def polyHomomorphismWrong : ChangeSpec := { name := "polyHomomorphism", fn := fun _ => fun
  | [d1, d2, d3] => { results := [.lit (.bool false)], args := [d1, d2, d3] }
  | _ => none }
def PolyHomomorphismWrongFalsely : Prop := polyHomomorphismRow.holds Tryd.pinned (OpenSpec.ofChange polyHomomorphismWrong)

/-- 'sharecorelaw08.PolyEvents': WHATEVER THE INPUT: true; the input reads as it did. -/
def polyEventsSpec : ChangeSpec := { name := "polyEvents", fn := fun _ => fun
  | [d1, d2, d3] => { results := [.lit (.bool true)], args := [d1, d2, d3] }
  | _ => none }
def polyEventsRow : OpenClaim := { program := "ytfaicnileghjiaadoor", sum := "857572583955e271c1d48b397959a3268616d7d2367d92adf3a5bfeee48284d3", func := "sharecore/sharecorelaw08.PolyEvents", spec := "polyEvents", inPlace := ["math/bits.Add64", "math/bits.Sub64"], unfollowed := true, recurses := true, named := ["sharecore/field.fields"], apart := false, laid := [("sharecore/field.fields", laid_sharecore_field_fields)] }
def PolyEventsSaid : Prop := polyEventsRow.holds Tryd.pinned (OpenSpec.ofChange polyEventsSpec)

/-- ITS FALSE NEIGHBOUR: 'it returns false'. Refute it at one input. -/
def polyEventsWrong : ChangeSpec := { name := "polyEvents", fn := fun _ => fun
  | [d1, d2, d3] => { results := [.lit (.bool false)], args := [d1, d2, d3] }
  | _ => none }
def PolyEventsWrongFalsely : Prop := polyEventsRow.holds Tryd.pinned (OpenSpec.ofChange polyEventsWrong)

/- THE SECOND FORM. 'bulk': how many values and letters a reading holds, each counted each time it is reached (what is shared counts as often as it is met; a slice's spare places count too). A statement '..UptoSaid' is the law's where the arguments, and the package variables that the reading takes, are together of bulk at most 1048576: NARROWER than '..Said'. Prove '..Said' where nothing that the law and all that it calls make is longer than what came in: it says more and counts as full. Else prove '..UptoSaid'. A law counts once. -/
mutual
def uptoBulk {H : Type} : DataW H → Nat
  | .lit (.string bytes) => bytes.length + 1
  | .lit _ => 1
  | .nil => 1
  | .ptr d => uptoBulk d + 1
  | .slice elems spare => uptoBulkAll elems + uptoBulkAll spare + 1
  | .agg parts => uptoBulkAll parts + 1
  | .iface _ d => uptoBulk d + 1
  | .map entries => uptoBulkEntries entries + 1
  | .held _ => 1
def uptoBulkAll {H : Type} : List (DataW H) → Nat
  | [] => 0
  | d :: r => uptoBulk d + uptoBulkAll r
def uptoBulkEntries {H : Type} : List (Lit × DataW H) → Nat
  | [] => 0
  | x :: r => uptoBulkEntry x + uptoBulkEntries r
def uptoBulkEntry {H : Type} : Lit × DataW H → Nat
  | (.string bytes, d) => bytes.length + uptoBulk d + 1
  | (_, d) => uptoBulk d + 1
 end
def uptoSmall : (H : Type) → List (DataW H) → Bool := fun _ ds => decide (uptoBulkAll ds ≤ 1048576)
def OpenSpec.upto (s : _root_.Go.ChangeSpec) : _root_.Go.OpenSpec := { _root_.Go.OpenSpec.ofChange s with cond := some uptoSmall }

/-- 'sharecorelaw08.PolyEvaluates', WHERE WHAT IT READS IS OF BULK AT MOST 1048576: true; the input reads as it did. -/
def polyEvaluatesUptoRow : OpenClaim := { program := "ytfaicnileghjiaadoor", sum := "857572583955e271c1d48b397959a3268616d7d2367d92adf3a5bfeee48284d3", func := "sharecore/sharecorelaw08.PolyEvaluates", spec := "polyEvaluates", inPlace := ["math/bits.Add64", "math/bits.Sub64"], unfollowed := true, recurses := true, named := ["sharecore/field.fields"], apart := false, laid := [("sharecore/field.fields", laid_sharecore_field_fields)], narrowed := true }
def PolyEvaluatesUptoSaid : Prop := polyEvaluatesUptoRow.holds Tryd.pinned (OpenSpec.upto polyEvaluatesSpec)

/-- 'sharecorelaw08.PolyDivides', WHERE WHAT IT READS IS OF BULK AT MOST 1048576: true; the input reads as it did. -/
def polyDividesUptoRow : OpenClaim := { program := "ytfaicnileghjiaadoor", sum := "857572583955e271c1d48b397959a3268616d7d2367d92adf3a5bfeee48284d3", func := "sharecore/sharecorelaw08.PolyDivides", spec := "polyDivides", inPlace := ["math/bits.Add64", "math/bits.Sub64"], unfollowed := true, recurses := true, named := ["sharecore/field.fields"], apart := false, laid := [("sharecore/field.fields", laid_sharecore_field_fields)], narrowed := true }
def PolyDividesUptoSaid : Prop := polyDividesUptoRow.holds Tryd.pinned (OpenSpec.upto polyDividesSpec)

/-- 'sharecorelaw08.PolyScales', WHERE WHAT IT READS IS OF BULK AT MOST 1048576: true; the input reads as it did. -/
def polyScalesUptoRow : OpenClaim := { program := "ytfaicnileghjiaadoor", sum := "857572583955e271c1d48b397959a3268616d7d2367d92adf3a5bfeee48284d3", func := "sharecore/sharecorelaw08.PolyScales", spec := "polyScales", inPlace := ["math/bits.Add64", "math/bits.Sub64"], unfollowed := true, recurses := true, named := ["sharecore/field.fields"], apart := false, laid := [("sharecore/field.fields", laid_sharecore_field_fields)], narrowed := true }
def PolyScalesUptoSaid : Prop := polyScalesUptoRow.holds Tryd.pinned (OpenSpec.upto polyScalesSpec)

/-- 'sharecorelaw08.PolyCombines', WHERE WHAT IT READS IS OF BULK AT MOST 1048576: true; the input reads as it did. -/
def polyCombinesUptoRow : OpenClaim := { program := "ytfaicnileghjiaadoor", sum := "857572583955e271c1d48b397959a3268616d7d2367d92adf3a5bfeee48284d3", func := "sharecore/sharecorelaw08.PolyCombines", spec := "polyCombines", inPlace := ["math/bits.Add64", "math/bits.Sub64"], unfollowed := true, recurses := true, named := ["sharecore/field.fields"], apart := false, laid := [("sharecore/field.fields", laid_sharecore_field_fields)], narrowed := true }
def PolyCombinesUptoSaid : Prop := polyCombinesUptoRow.holds Tryd.pinned (OpenSpec.upto polyCombinesSpec)

/-- 'sharecorelaw08.PolyHomomorphism', WHERE WHAT IT READS IS OF BULK AT MOST 1048576: true; the input reads as it did. -/
def polyHomomorphismUptoRow : OpenClaim := { program := "ytfaicnileghjiaadoor", sum := "857572583955e271c1d48b397959a3268616d7d2367d92adf3a5bfeee48284d3", func := "sharecore/sharecorelaw08.PolyHomomorphism", spec := "polyHomomorphism", inPlace := ["math/bits.Add64", "math/bits.Sub64"], unfollowed := true, recurses := true, named := ["sharecore/field.fields"], apart := false, laid := [("sharecore/field.fields", laid_sharecore_field_fields)], narrowed := true }
def PolyHomomorphismUptoSaid : Prop := polyHomomorphismUptoRow.holds Tryd.pinned (OpenSpec.upto polyHomomorphismSpec)

/-- 'sharecorelaw08.PolyEvents', WHERE WHAT IT READS IS OF BULK AT MOST 1048576: true; the input reads as it did. -/
def polyEventsUptoRow : OpenClaim := { program := "ytfaicnileghjiaadoor", sum := "857572583955e271c1d48b397959a3268616d7d2367d92adf3a5bfeee48284d3", func := "sharecore/sharecorelaw08.PolyEvents", spec := "polyEvents", inPlace := ["math/bits.Add64", "math/bits.Sub64"], unfollowed := true, recurses := true, named := ["sharecore/field.fields"], apart := false, laid := [("sharecore/field.fields", laid_sharecore_field_fields)], narrowed := true }
def PolyEventsUptoSaid : Prop := polyEventsUptoRow.holds Tryd.pinned (OpenSpec.upto polyEventsSpec)

end Rows
end Go.Proofs.YtfaicnileghjiaaDoor
