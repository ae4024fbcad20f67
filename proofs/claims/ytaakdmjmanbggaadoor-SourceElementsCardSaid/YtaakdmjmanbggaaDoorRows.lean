/-
  NARROWER THAN 'FOR EVERY INPUT', by the rows' own cells (each row's printed sentence says how): SourceTakes: laid · SourceCopies: laid · SourceElements: laid · SourceNil: laid · SourceSingles: laid · SourceSplits: laid.
  DERIVED. THE GIVEN ROWS OF THIS SEAT. 6 by the template 'for every input the law returns true; each argument reads behind the call as it read before'; 0 by the template 'total and deterministic' (their statements: YtaakdmjmanbggaaDoorTotals.lean).
  GIVEN WITH THE SEED: the statements are not yours to turn. If you find one false, say at which input.
  Laid BY PROGRAM, IN A SANDBOX (cutbox-rows.mjs): the forced cells as the released guide's own fill.sh prints them over the translation 39040338816528e9… (all of the seat's roots in one cut). By AI agents, Wed Nov 11 2026. No macro, syntax, notation, axiom, sorry.
-/
import Derived.Test.YtaakdmjmanbggaaDoorChecked
import GoSem.Claim
import GoSem.ClaimJoined
import GoSem.ClaimMapViews
import Derived.JoinedTies
import Derived.KernelRfl
namespace Go.Proofs.YtaakdmjmanbggaaDoor
/- THE CELL 'sum', in the pinned program and in every row, IS THE sha256 OF THE DUMP (.gsa) THAT YtaakdmjmanbggaaDoorProg.lean LOADS. Nothing in Lean hashes anything: it is a label: what it is worth is what the hold of that sum in a sandbox is worth. -/
noncomputable def Tryd.pinned : Pinned := { name := "ytaakdmjmanbggaadoor", sum := "39040338816528e9fc746adec18107f5dc203f5f07d9245193d213700af0a13e", checked := Tryd.checked }
namespace Rows
def none {H : Type} : Left H := { results := [], args := [] }

/- WHAT THE LISTED PACKAGE-LEVEL VARIABLES READ AS WHEN THE CALL BEGINS. Each datum BY PROGRAM (the guide's laid-datum.mjs) off the statement by which the dump's own 'gosem.cut.vars' lays the variable. In a bare row this is a premise. The card (YtaakdmjmanbggaaDoorCards.lean) ties it to the program's text. -/
def laid_sharecore_field_fields {H : Type} : DataW H := .agg [.agg [.lit (.int .i64 1), .agg [.lit (.int .u64 18446744073709551597), .lit (.int .u64 18446744073709551615), .lit (.int .u64 18446744073709551615), .lit (.int .u64 9223372036854775807)], .lit (.int .u64 9708812670373448219), .agg [.lit (.int .u64 38), .lit (.int .u64 0), .lit (.int .u64 0), .lit (.int .u64 0)], .agg [.lit (.int .u64 1444), .lit (.int .u64 0), .lit (.int .u64 0), .lit (.int .u64 0)]], .agg [.lit (.int .i64 2), .agg [.lit (.int .u64 17562291160714782033), .lit (.int .u64 13611842547513532036), .lit (.int .u64 18446744073709551615), .lit (.int .u64 18446744069414584320)], .lit (.int .u64 14758798090332847183), .agg [.lit (.int .u64 884452912994769583), .lit (.int .u64 4834901526196019579), .lit (.int .u64 0), .lit (.int .u64 4294967295)], .agg [.lit (.int .u64 9449762124159643298), .lit (.int .u64 5087230966250696614), .lit (.int .u64 2901921493521525849), .lit (.int .u64 7413256579398063648)]]]

/-- 'sharecorelaw14.SourceTakes': WHATEVER THE INPUT: true; the input reads as it did. -/
def sourceTakesSpec : ChangeSpec := { name := "sourceTakes", fn := fun _ => fun
  | [d1, d2] => { results := [.lit (.bool true)], args := [d1, d2] }
  | _ => none }
def sourceTakesRow : OpenClaim := { program := "ytaakdmjmanbggaadoor", sum := "39040338816528e9fc746adec18107f5dc203f5f07d9245193d213700af0a13e", func := "sharecore/sharecorelaw14.SourceTakes", spec := "sourceTakes", inPlace := ["math/bits.Add64", "math/bits.Sub64"], unfollowed := true, recurses := true, named := ["sharecore/field.fields"], apart := false, laid := [("sharecore/field.fields", laid_sharecore_field_fields)] }
def SourceTakesSaid : Prop := sourceTakesRow.holds Tryd.pinned (OpenSpec.ofChange sourceTakesSpec)

/-- ITS FALSE NEIGHBOUR: 'it returns false'. Refute it at one input. -/
def sourceTakesWrong : ChangeSpec := { name := "sourceTakes", fn := fun _ => fun
  | [d1, d2] => { results := [.lit (.bool false)], args := [d1, d2] }
  | _ => none }
def SourceTakesWrongFalsely : Prop := sourceTakesRow.holds Tryd.pinned (OpenSpec.ofChange sourceTakesWrong)

/-- 'sharecorelaw14.SourceCopies': WHATEVER THE INPUT: true; the input reads as it did. -/
def sourceCopiesSpec : ChangeSpec := { name := "sourceCopies", fn := fun _ => fun
  | [d] => { results := [.lit (.bool true)], args := [d] }
  | _ => none }
def sourceCopiesRow : OpenClaim := { program := "ytaakdmjmanbggaadoor", sum := "39040338816528e9fc746adec18107f5dc203f5f07d9245193d213700af0a13e", func := "sharecore/sharecorelaw14.SourceCopies", spec := "sourceCopies", inPlace := ["math/bits.Add64", "math/bits.Sub64"], unfollowed := true, recurses := true, named := ["sharecore/field.fields"], apart := false, laid := [("sharecore/field.fields", laid_sharecore_field_fields)] }
def SourceCopiesSaid : Prop := sourceCopiesRow.holds Tryd.pinned (OpenSpec.ofChange sourceCopiesSpec)

/-- ITS FALSE NEIGHBOUR: 'it returns false'. Refute it at one input. -/
def sourceCopiesWrong : ChangeSpec := { name := "sourceCopies", fn := fun _ => fun
  | [d] => { results := [.lit (.bool false)], args := [d] }
  | _ => none }
def SourceCopiesWrongFalsely : Prop := sourceCopiesRow.holds Tryd.pinned (OpenSpec.ofChange sourceCopiesWrong)

/-- 'sharecorelaw14.SourceElements': WHATEVER THE INPUT: true; the input reads as it did. -/
def sourceElementsSpec : ChangeSpec := { name := "sourceElements", fn := fun _ => fun
  | [d1, d2, d3] => { results := [.lit (.bool true)], args := [d1, d2, d3] }
  | _ => none }
def sourceElementsRow : OpenClaim := { program := "ytaakdmjmanbggaadoor", sum := "39040338816528e9fc746adec18107f5dc203f5f07d9245193d213700af0a13e", func := "sharecore/sharecorelaw14.SourceElements", spec := "sourceElements", inPlace := ["math/bits.Add64", "math/bits.Sub64"], unfollowed := true, recurses := true, named := ["sharecore/field.fields"], apart := false, laid := [("sharecore/field.fields", laid_sharecore_field_fields)] }
def SourceElementsSaid : Prop := sourceElementsRow.holds Tryd.pinned (OpenSpec.ofChange sourceElementsSpec)

/-- ITS FALSE NEIGHBOUR: 'it returns false'. Refute it at one input. -/
def sourceElementsWrong : ChangeSpec := { name := "sourceElements", fn := fun _ => fun
  | [d1, d2, d3] => { results := [.lit (.bool false)], args := [d1, d2, d3] }
  | _ => none }
def SourceElementsWrongFalsely : Prop := sourceElementsRow.holds Tryd.pinned (OpenSpec.ofChange sourceElementsWrong)

/-- 'sharecorelaw14.SourceNil': WHATEVER THE INPUT: true; the input reads as it did. -/
def sourceNilSpec : ChangeSpec := { name := "sourceNil", fn := fun _ => fun
  | [d1, d2] => { results := [.lit (.bool true)], args := [d1, d2] }
  | _ => none }
def sourceNilRow : OpenClaim := { program := "ytaakdmjmanbggaadoor", sum := "39040338816528e9fc746adec18107f5dc203f5f07d9245193d213700af0a13e", func := "sharecore/sharecorelaw14.SourceNil", spec := "sourceNil", inPlace := ["math/bits.Add64", "math/bits.Sub64"], unfollowed := true, recurses := true, named := ["sharecore/field.fields"], apart := false, laid := [("sharecore/field.fields", laid_sharecore_field_fields)] }
def SourceNilSaid : Prop := sourceNilRow.holds Tryd.pinned (OpenSpec.ofChange sourceNilSpec)

/-- ITS FALSE NEIGHBOUR: 'it returns false'. Refute it at one input. -/
def sourceNilWrong : ChangeSpec := { name := "sourceNil", fn := fun _ => fun
  | [d1, d2] => { results := [.lit (.bool false)], args := [d1, d2] }
  | _ => none }
def SourceNilWrongFalsely : Prop := sourceNilRow.holds Tryd.pinned (OpenSpec.ofChange sourceNilWrong)

/-- 'sharecorelaw14.SourceSingles': WHATEVER THE INPUT: true; the input reads as it did. -/
def sourceSinglesSpec : ChangeSpec := { name := "sourceSingles", fn := fun _ => fun
  | [d1, d2] => { results := [.lit (.bool true)], args := [d1, d2] }
  | _ => none }
def sourceSinglesRow : OpenClaim := { program := "ytaakdmjmanbggaadoor", sum := "39040338816528e9fc746adec18107f5dc203f5f07d9245193d213700af0a13e", func := "sharecore/sharecorelaw14.SourceSingles", spec := "sourceSingles", inPlace := ["math/bits.Add64", "math/bits.Sub64"], unfollowed := true, recurses := true, named := ["sharecore/field.fields"], apart := false, laid := [("sharecore/field.fields", laid_sharecore_field_fields)] }
def SourceSinglesSaid : Prop := sourceSinglesRow.holds Tryd.pinned (OpenSpec.ofChange sourceSinglesSpec)

/-- ITS FALSE NEIGHBOUR: 'it returns false'. Refute it at one input. -/
def sourceSinglesWrong : ChangeSpec := { name := "sourceSingles", fn := fun _ => fun
  | [d1, d2] => { results := [.lit (.bool false)], args := [d1, d2] }
  | _ => none }
def SourceSinglesWrongFalsely : Prop := sourceSinglesRow.holds Tryd.pinned (OpenSpec.ofChange sourceSinglesWrong)

/-- 'sharecorelaw14.SourceSplits': WHATEVER THE INPUT: true; the input reads as it did. -/
def sourceSplitsSpec : ChangeSpec := { name := "sourceSplits", fn := fun _ => fun
  | [d1, d2, d3] => { results := [.lit (.bool true)], args := [d1, d2, d3] }
  | _ => none }
def sourceSplitsRow : OpenClaim := { program := "ytaakdmjmanbggaadoor", sum := "39040338816528e9fc746adec18107f5dc203f5f07d9245193d213700af0a13e", func := "sharecore/sharecorelaw14.SourceSplits", spec := "sourceSplits", inPlace := ["math/bits.Add64", "math/bits.Sub64"], unfollowed := true, recurses := true, named := ["sharecore/field.fields"], apart := false, laid := [("sharecore/field.fields", laid_sharecore_field_fields)] }
def SourceSplitsSaid : Prop := sourceSplitsRow.holds Tryd.pinned (OpenSpec.ofChange sourceSplitsSpec)

/-- ITS FALSE NEIGHBOUR: 'it returns false'. Refute it at one input. -/
def sourceSplitsWrong : ChangeSpec := { name := "sourceSplits", fn := fun _ => fun
  | [d1, d2, d3] => { results := [.lit (.bool false)], args := [d1, d2, d3] }
  | _ => none }
def SourceSplitsWrongFalsely : Prop := sourceSplitsRow.holds Tryd.pinned (OpenSpec.ofChange sourceSplitsWrong)

/- THE SECOND FORM. 'bulk': how many values and letters a reading holds, each counted each time it is reached (what is shared counts as often as it is met; a slice's spare places count too). A statement '..UptoSaid' is the law's where the arguments, and the package variables that the reading takes, are together of bulk at most 1048576: NARROWER than '..Said'. Prove '..Said' where nothing that the law and all that it calls make is longer than what came in: it says more and counts as full. Else prove '..UptoSaid'. A law counts once. -/
mutual
def uptoBulk {H : Type} : DataW H → Nat
  | .lit (.string bytes) => bytes.length + 1
  | .lit _ => 1
  | .nil => 1
  | .ptr d => uptoBulk d + 1
  | .slice elems spare => uptoBulkAll elems + uptoBulkAll spare + 1
  | .agg parts => uptoBulkAll parts + 1
  | .iface _ d => uptoBulk d + 1
  | .map entries => uptoBulkEntries entries + 1
  | .held _ => 1
def uptoBulkAll {H : Type} : List (DataW H) → Nat
  | [] => 0
  | d :: r => uptoBulk d + uptoBulkAll r
def uptoBulkEntries {H : Type} : List (Lit × DataW H) → Nat
  | [] => 0
  | x :: r => uptoBulkEntry x + uptoBulkEntries r
def uptoBulkEntry {H : Type} : Lit × DataW H → Nat
  | (.string bytes, d) => bytes.length + uptoBulk d + 1
  | (_, d) => uptoBulk d + 1
 end
def uptoSmall : (H : Type) → List (DataW H) → Bool := fun _ ds => decide (uptoBulkAll ds ≤ 1048576)
def OpenSpec.upto (s : _root_.Go.ChangeSpec) : _root_.Go.OpenSpec := { _root_.Go.OpenSpec.ofChange s with cond := some uptoSmall }

/-- 'sharecorelaw14.SourceTakes', WHERE WHAT IT READS IS OF BULK AT MOST 1048576: true; the input reads as it did. -/
def sourceTakesUptoRow : OpenClaim := { program := "ytaakdmjmanbggaadoor", sum := "39040338816528e9fc746adec18107f5dc203f5f07d9245193d213700af0a13e", func := "sharecore/sharecorelaw14.SourceTakes", spec := "sourceTakes", inPlace := ["math/bits.Add64", "math/bits.Sub64"], unfollowed := true, recurses := true, named := ["sharecore/field.fields"], apart := false, laid := [("sharecore/field.fields", laid_sharecore_field_fields)], narrowed := true }
def SourceTakesUptoSaid : Prop := sourceTakesUptoRow.holds Tryd.pinned (OpenSpec.upto sourceTakesSpec)

/-- 'sharecorelaw14.SourceCopies', WHERE WHAT IT READS IS OF BULK AT MOST 1048576: true; the input reads as it did. -/
def sourceCopiesUptoRow : OpenClaim := { program := "ytaakdmjmanbggaadoor", sum := "39040338816528e9fc746adec18107f5dc203f5f07d9245193d213700af0a13e", func := "sharecore/sharecorelaw14.SourceCopies", spec := "sourceCopies", inPlace := ["math/bits.Add64", "math/bits.Sub64"], unfollowed := true, recurses := true, named := ["sharecore/field.fields"], apart := false, laid := [("sharecore/field.fields", laid_sharecore_field_fields)], narrowed := true }
def SourceCopiesUptoSaid : Prop := sourceCopiesUptoRow.holds Tryd.pinned (OpenSpec.upto sourceCopiesSpec)

/-- 'sharecorelaw14.SourceElements', WHERE WHAT IT READS IS OF BULK AT MOST 1048576: true; the input reads as it did. -/
def sourceElementsUptoRow : OpenClaim := { program := "ytaakdmjmanbggaadoor", sum := "39040338816528e9fc746adec18107f5dc203f5f07d9245193d213700af0a13e", func := "sharecore/sharecorelaw14.SourceElements", spec := "sourceElements", inPlace := ["math/bits.Add64", "math/bits.Sub64"], unfollowed := true, recurses := true, named := ["sharecore/field.fields"], apart := false, laid := [("sharecore/field.fields", laid_sharecore_field_fields)], narrowed := true }
def SourceElementsUptoSaid : Prop := sourceElementsUptoRow.holds Tryd.pinned (OpenSpec.upto sourceElementsSpec)

/-- 'sharecorelaw14.SourceNil', WHERE WHAT IT READS IS OF BULK AT MOST 1048576: true; the input reads as it did. -/
def sourceNilUptoRow : OpenClaim := { program := "ytaakdmjmanbggaadoor", sum := "39040338816528e9fc746adec18107f5dc203f5f07d9245193d213700af0a13e", func := "sharecore/sharecorelaw14.SourceNil", spec := "sourceNil", inPlace := ["math/bits.Add64", "math/bits.Sub64"], unfollowed := true, recurses := true, named := ["sharecore/field.fields"], apart := false, laid := [("sharecore/field.fields", laid_sharecore_field_fields)], narrowed := true }
def SourceNilUptoSaid : Prop := sourceNilUptoRow.holds Tryd.pinned (OpenSpec.upto sourceNilSpec)

/-- 'sharecorelaw14.SourceSingles', WHERE WHAT IT READS IS OF BULK AT MOST 1048576: true; the input reads as it did. -/
def sourceSinglesUptoRow : OpenClaim := { program := "ytaakdmjmanbggaadoor", sum := "39040338816528e9fc746adec18107f5dc203f5f07d9245193d213700af0a13e", func := "sharecore/sharecorelaw14.SourceSingles", spec := "sourceSingles", inPlace := ["math/bits.Add64", "math/bits.Sub64"], unfollowed := true, recurses := true, named := ["sharecore/field.fields"], apart := false, laid := [("sharecore/field.fields", laid_sharecore_field_fields)], narrowed := true }
def SourceSinglesUptoSaid : Prop := sourceSinglesUptoRow.holds Tryd.pinned (OpenSpec.upto sourceSinglesSpec)

/-- 'sharecorelaw14.SourceSplits', WHERE WHAT IT READS IS OF BULK AT MOST 1048576: true; the input reads as it did. -/
def sourceSplitsUptoRow : OpenClaim := { program := "ytaakdmjmanbggaadoor", sum := "39040338816528e9fc746adec18107f5dc203f5f07d9245193d213700af0a13e", func := "sharecore/sharecorelaw14.SourceSplits", spec := "sourceSplits", inPlace := ["math/bits.Add64", "math/bits.Sub64"], unfollowed := true, recurses := true, named := ["sharecore/field.fields"], apart := false, laid := [("sharecore/field.fields", laid_sharecore_field_fields)], narrowed := true }
def SourceSplitsUptoSaid : Prop := sourceSplitsUptoRow.holds Tryd.pinned (OpenSpec.upto sourceSplitsSpec)

end Rows
end Go.Proofs.YtaakdmjmanbggaaDoor
