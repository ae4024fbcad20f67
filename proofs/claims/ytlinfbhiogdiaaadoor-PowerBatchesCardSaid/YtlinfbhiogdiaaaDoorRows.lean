/-
  NARROWER THAN 'FOR EVERY INPUT', by the rows' own cells (each row's printed sentence says how): PowerRaises: laid · PowerInverts: laid · PowerBatches: laid · PowerAdds: laid · PowerFermat: laid · PowerEvents: laid.
  DERIVED. THE GIVEN ROWS OF THIS SEAT. 6 by the template 'for every input the law returns true; each argument reads behind the call as it read before'; 0 by the template 'total and deterministic' (their statements: YtlinfbhiogdiaaaDoorTotals.lean).
  GIVEN WITH THE SEED: the statements are not yours to turn. If you find one false, say at which input.
  Laid BY PROGRAM, IN A SANDBOX (cutbox-rows.mjs): the forced cells as the released guide's own fill.sh prints them over the translation 5c036a959f38dd03… (all of the seat's roots in one cut). By AI agents, Wed Nov 11 2026. No macro, syntax, notation, axiom, sorry.
-/
import Derived.Test.YtlinfbhiogdiaaaDoorChecked
import GoSem.Claim
import GoSem.ClaimJoined
import GoSem.ClaimMapViews
import Derived.JoinedTies
import Derived.KernelRfl
namespace Go.Proofs.YtlinfbhiogdiaaaDoor
/- THE CELL 'sum', in the pinned program and in every row, IS THE sha256 OF THE DUMP (.gsa) THAT YtlinfbhiogdiaaaDoorProg.lean LOADS. Nothing in Lean hashes anything: it is a label: what it is worth is what the hold of that sum in a sandbox is worth. -/
noncomputable def Tryd.pinned : Pinned := { name := "ytlinfbhiogdiaaadoor", sum := "5c036a959f38dd03ec13a2514453b703838b1f3614bacee17ab38c14279e470f", checked := Tryd.checked }
namespace Rows
def none {H : Type} : Left H := { results := [], args := [] }

/- WHAT THE LISTED PACKAGE-LEVEL VARIABLES READ AS WHEN THE CALL BEGINS. Each datum BY PROGRAM (the guide's laid-datum.mjs) off the statement by which the dump's own 'gosem.cut.vars' lays the variable. In a bare row this is a premise. The card (YtlinfbhiogdiaaaDoorCards.lean) ties it to the program's text. -/
def laid_sharecore_field_fields {H : Type} : DataW H := .agg [.agg [.lit (.int .i64 1), .agg [.lit (.int .u64 18446744073709551597), .lit (.int .u64 18446744073709551615), .lit (.int .u64 18446744073709551615), .lit (.int .u64 9223372036854775807)], .lit (.int .u64 9708812670373448219), .agg [.lit (.int .u64 38), .lit (.int .u64 0), .lit (.int .u64 0), .lit (.int .u64 0)], .agg [.lit (.int .u64 1444), .lit (.int .u64 0), .lit (.int .u64 0), .lit (.int .u64 0)]], .agg [.lit (.int .i64 2), .agg [.lit (.int .u64 17562291160714782033), .lit (.int .u64 13611842547513532036), .lit (.int .u64 18446744073709551615), .lit (.int .u64 18446744069414584320)], .lit (.int .u64 14758798090332847183), .agg [.lit (.int .u64 884452912994769583), .lit (.int .u64 4834901526196019579), .lit (.int .u64 0), .lit (.int .u64 4294967295)], .agg [.lit (.int .u64 9449762124159643298), .lit (.int .u64 5087230966250696614), .lit (.int .u64 2901921493521525849), .lit (.int .u64 7413256579398063648)]]]

/-- 'sharecorelaw06.PowerRaises': WHATEVER THE INPUT: true; the input reads as it did. -/
def powerRaisesSpec : ChangeSpec := { name := "powerRaises", fn := fun _ => fun
  | [d1, d2, d3] => { results := [.lit (.bool true)], args := [d1, d2, d3] }
  | _ => none }
def powerRaisesRow : OpenClaim := { program := "ytlinfbhiogdiaaadoor", sum := "5c036a959f38dd03ec13a2514453b703838b1f3614bacee17ab38c14279e470f", func := "sharecore/sharecorelaw06.PowerRaises", spec := "powerRaises", inPlace := ["math/bits.Add64", "math/bits.Sub64"], unfollowed := true, recurses := true, named := ["sharecore/field.fields"], apart := false, laid := [("sharecore/field.fields", laid_sharecore_field_fields)] }
def PowerRaisesSaid : Prop := powerRaisesRow.holds Tryd.pinned (OpenSpec.ofChange powerRaisesSpec)

/-- ITS FALSE NEIGHBOUR: 'it returns false'. Refute it at one input. -/
def powerRaisesWrong : ChangeSpec := { name := "powerRaises", fn := fun _ => fun
  | [d1, d2, d3] => { results := [.lit (.bool false)], args := [d1, d2, d3] }
  | _ => none }
def PowerRaisesWrongFalsely : Prop := powerRaisesRow.holds Tryd.pinned (OpenSpec.ofChange powerRaisesWrong)

/-- 'sharecorelaw06.PowerInverts': WHATEVER THE INPUT: true; the input reads as it did. -/
def powerInvertsSpec : ChangeSpec := { name := "powerInverts", fn := fun _ => fun
  | [d1, d2] => { results := [.lit (.bool true)], args := [d1, d2] }
  | _ => none }
def powerInvertsRow : OpenClaim := { program := "ytlinfbhiogdiaaadoor", sum := "5c036a959f38dd03ec13a2514453b703838b1f3614bacee17ab38c14279e470f", func := "sharecore/sharecorelaw06.PowerInverts", spec := "powerInverts", inPlace := ["math/bits.Sub64", "math/bits.Add64"], unfollowed := true, recurses := true, named := ["sharecore/field.fields"], apart := false, laid := [("sharecore/field.fields", laid_sharecore_field_fields)] }
def PowerInvertsSaid : Prop := powerInvertsRow.holds Tryd.pinned (OpenSpec.ofChange powerInvertsSpec)

/-- ITS FALSE NEIGHBOUR: 'it returns false'. Refute it at one input. -/
def powerInvertsWrong : ChangeSpec := { name := "powerInverts", fn := fun _ => fun
  | [d1, d2] => { results := [.lit (.bool false)], args := [d1, d2] }
  | _ => none }
def PowerInvertsWrongFalsely : Prop := powerInvertsRow.holds Tryd.pinned (OpenSpec.ofChange powerInvertsWrong)

/-- 'sharecorelaw06.PowerBatches': WHATEVER THE INPUT: true; the input reads as it did. -/
def powerBatchesSpec : ChangeSpec := { name := "powerBatches", fn := fun _ => fun
  | [d1, d2] => { results := [.lit (.bool true)], args := [d1, d2] }
  | _ => none }
def powerBatchesRow : OpenClaim := { program := "ytlinfbhiogdiaaadoor", sum := "5c036a959f38dd03ec13a2514453b703838b1f3614bacee17ab38c14279e470f", func := "sharecore/sharecorelaw06.PowerBatches", spec := "powerBatches", inPlace := ["math/bits.Add64", "math/bits.Sub64"], unfollowed := true, recurses := true, named := ["sharecore/field.fields"], apart := false, laid := [("sharecore/field.fields", laid_sharecore_field_fields)] }
def PowerBatchesSaid : Prop := powerBatchesRow.holds Tryd.pinned (OpenSpec.ofChange powerBatchesSpec)

/-- ITS FALSE NEIGHBOUR: 'it returns false'. Refute it at one input. -/
def powerBatchesWrong : ChangeSpec := { name := "powerBatches", fn := fun _ => fun
  | [d1, d2] => { results := [.lit (.bool false)], args := [d1, d2] }
  | _ => none }
def PowerBatchesWrongFalsely : Prop := powerBatchesRow.holds Tryd.pinned (OpenSpec.ofChange powerBatchesWrong)

/-- 'sharecorelaw06.PowerAdds': WHATEVER THE INPUT: true; the input reads as it did. -/
def powerAddsSpec : ChangeSpec := { name := "powerAdds", fn := fun _ => fun
  | [d1, d2, d3] => { results := [.lit (.bool true)], args := [d1, d2, d3] }
  | _ => none }
def powerAddsRow : OpenClaim := { program := "ytlinfbhiogdiaaadoor", sum := "5c036a959f38dd03ec13a2514453b703838b1f3614bacee17ab38c14279e470f", func := "sharecore/sharecorelaw06.PowerAdds", spec := "powerAdds", inPlace := ["math/bits.Add64", "math/bits.Sub64"], unfollowed := true, recurses := true, named := ["sharecore/field.fields"], apart := false, laid := [("sharecore/field.fields", laid_sharecore_field_fields)] }
def PowerAddsSaid : Prop := powerAddsRow.holds Tryd.pinned (OpenSpec.ofChange powerAddsSpec)

/-- ITS FALSE NEIGHBOUR: 'it returns false'. Refute it at one input. -/
def powerAddsWrong : ChangeSpec := { name := "powerAdds", fn := fun _ => fun
  | [d1, d2, d3] => { results := [.lit (.bool false)], args := [d1, d2, d3] }
  | _ => none }
def PowerAddsWrongFalsely : Prop := powerAddsRow.holds Tryd.pinned (OpenSpec.ofChange powerAddsWrong)

/-- 'sharecorelaw06.PowerFermat': WHATEVER THE INPUT: true; the input reads as it did. -/
def powerFermatSpec : ChangeSpec := { name := "powerFermat", fn := fun _ => fun
  | [d1, d2] => { results := [.lit (.bool true)], args := [d1, d2] }
  | _ => none }
def powerFermatRow : OpenClaim := { program := "ytlinfbhiogdiaaadoor", sum := "5c036a959f38dd03ec13a2514453b703838b1f3614bacee17ab38c14279e470f", func := "sharecore/sharecorelaw06.PowerFermat", spec := "powerFermat", inPlace := ["math/bits.Add64", "math/bits.Sub64"], unfollowed := true, recurses := true, named := ["sharecore/field.fields"], apart := false, laid := [("sharecore/field.fields", laid_sharecore_field_fields)] }
def PowerFermatSaid : Prop := powerFermatRow.holds Tryd.pinned (OpenSpec.ofChange powerFermatSpec)

/-- ITS FALSE NEIGHBOUR: 'it returns false'. Refute it at one input. -/
def powerFermatWrong : ChangeSpec := { name := "powerFermat", fn := fun _ => fun
  | [d1, d2] => { results := [.lit (.bool false)], args := [d1, d2] }
  | _ => none }
def PowerFermatWrongFalsely : Prop := powerFermatRow.holds Tryd.pinned (OpenSpec.ofChange powerFermatWrong)

/-- 'sharecorelaw06.PowerEvents': WHATEVER THE INPUT: true; the input reads as it did. -/
def powerEventsSpec : ChangeSpec := { name := "powerEvents", fn := fun _ => fun
  | [d1, d2, d3] => { results := [.lit (.bool true)], args := [d1, d2, d3] }
  | _ => none }
def powerEventsRow : OpenClaim := { program := "ytlinfbhiogdiaaadoor", sum := "5c036a959f38dd03ec13a2514453b703838b1f3614bacee17ab38c14279e470f", func := "sharecore/sharecorelaw06.PowerEvents", spec := "powerEvents", inPlace := ["math/bits.Add64", "math/bits.Sub64"], unfollowed := true, recurses := true, named := ["sharecore/field.fields"], apart := false, laid := [("sharecore/field.fields", laid_sharecore_field_fields)] }
def PowerEventsSaid : Prop := powerEventsRow.holds Tryd.pinned (OpenSpec.ofChange powerEventsSpec)

/-- ITS FALSE NEIGHBOUR: 'it returns false'. Refute it at one input. -/
def powerEventsWrong : ChangeSpec := { name := "powerEvents", fn := fun _ => fun
  | [d1, d2, d3] => { results := [.lit (.bool false)], args := [d1, d2, d3] }
  | _ => none }
def PowerEventsWrongFalsely : Prop := powerEventsRow.holds Tryd.pinned (OpenSpec.ofChange powerEventsWrong)

/- THE SECOND FORM. 'bulk': how many values and letters a reading holds, each counted each time it is reached (what is shared counts as often as it is met; a slice's spare places count too). A statement '..UptoSaid' is the law's where the arguments, and the package variables that the reading takes, are together of bulk at most 1048576: NARROWER than '..Said'. Prove '..Said' where nothing that the law and all that it calls make is longer than what came in: it says more and counts as full. Else prove '..UptoSaid'. A law counts once. -/
mutual
def uptoBulk {H : Type} : DataW H → Nat
  | .lit (.string bytes) => bytes.length + 1
  | .lit _ => 1
  | .nil => 1
  | .ptr d => uptoBulk d + 1
  | .slice elems spare => uptoBulkAll elems + uptoBulkAll spare + 1
  | .agg parts => uptoBulkAll parts + 1
  | .iface _ d => uptoBulk d + 1
  | .map entries => uptoBulkEntries entries + 1
  | .held _ => 1
def uptoBulkAll {H : Type} : List (DataW H) → Nat
  | [] => 0
  | d :: r => uptoBulk d + uptoBulkAll r
def uptoBulkEntries {H : Type} : List (Lit × DataW H) → Nat
  | [] => 0
  | x :: r => uptoBulkEntry x + uptoBulkEntries r
def uptoBulkEntry {H : Type} : Lit × DataW H → Nat
  | (.string bytes, d) => bytes.length + uptoBulk d + 1
  | (_, d) => uptoBulk d + 1
 end
def uptoSmall : (H : Type) → List (DataW H) → Bool := fun _ ds => decide (uptoBulkAll ds ≤ 1048576)
def OpenSpec.upto (s : _root_.Go.ChangeSpec) : _root_.Go.OpenSpec := { _root_.Go.OpenSpec.ofChange s with cond := some uptoSmall }

/-- 'sharecorelaw06.PowerRaises', WHERE WHAT IT READS IS OF BULK AT MOST 1048576: true; the input reads as it did. -/
def powerRaisesUptoRow : OpenClaim := { program := "ytlinfbhiogdiaaadoor", sum := "5c036a959f38dd03ec13a2514453b703838b1f3614bacee17ab38c14279e470f", func := "sharecore/sharecorelaw06.PowerRaises", spec := "powerRaises", inPlace := ["math/bits.Add64", "math/bits.Sub64"], unfollowed := true, recurses := true, named := ["sharecore/field.fields"], apart := false, laid := [("sharecore/field.fields", laid_sharecore_field_fields)], narrowed := true }
def PowerRaisesUptoSaid : Prop := powerRaisesUptoRow.holds Tryd.pinned (OpenSpec.upto powerRaisesSpec)

/-- 'sharecorelaw06.PowerInverts', WHERE WHAT IT READS IS OF BULK AT MOST 1048576: true; the input reads as it did. -/
def powerInvertsUptoRow : OpenClaim := { program := "ytlinfbhiogdiaaadoor", sum := "5c036a959f38dd03ec13a2514453b703838b1f3614bacee17ab38c14279e470f", func := "sharecore/sharecorelaw06.PowerInverts", spec := "powerInverts", inPlace := ["math/bits.Sub64", "math/bits.Add64"], unfollowed := true, recurses := true, named := ["sharecore/field.fields"], apart := false, laid := [("sharecore/field.fields", laid_sharecore_field_fields)], narrowed := true }
def PowerInvertsUptoSaid : Prop := powerInvertsUptoRow.holds Tryd.pinned (OpenSpec.upto powerInvertsSpec)

/-- 'sharecorelaw06.PowerBatches', WHERE WHAT IT READS IS OF BULK AT MOST 1048576: true; the input reads as it did. -/
def powerBatchesUptoRow : OpenClaim := { program := "ytlinfbhiogdiaaadoor", sum := "5c036a959f38dd03ec13a2514453b703838b1f3614bacee17ab38c14279e470f", func := "sharecore/sharecorelaw06.PowerBatches", spec := "powerBatches", inPlace := ["math/bits.Add64", "math/bits.Sub64"], unfollowed := true, recurses := true, named := ["sharecore/field.fields"], apart := false, laid := [("sharecore/field.fields", laid_sharecore_field_fields)], narrowed := true }
def PowerBatchesUptoSaid : Prop := powerBatchesUptoRow.holds Tryd.pinned (OpenSpec.upto powerBatchesSpec)

/-- 'sharecorelaw06.PowerAdds', WHERE WHAT IT READS IS OF BULK AT MOST 1048576: true; the input reads as it did. -/
def powerAddsUptoRow : OpenClaim := { program := "ytlinfbhiogdiaaadoor", sum := "5c036a959f38dd03ec13a2514453b703838b1f3614bacee17ab38c14279e470f", func := "sharecore/sharecorelaw06.PowerAdds", spec := "powerAdds", inPlace := ["math/bits.Add64", "math/bits.Sub64"], unfollowed := true, recurses := true, named := ["sharecore/field.fields"], apart := false, laid := [("sharecore/field.fields", laid_sharecore_field_fields)], narrowed := true }
def PowerAddsUptoSaid : Prop := powerAddsUptoRow.holds Tryd.pinned (OpenSpec.upto powerAddsSpec)

/-- 'sharecorelaw06.PowerFermat', WHERE WHAT IT READS IS OF BULK AT MOST 1048576: true; the input reads as it did. -/
def powerFermatUptoRow : OpenClaim := { program := "ytlinfbhiogdiaaadoor", sum := "5c036a959f38dd03ec13a2514453b703838b1f3614bacee17ab38c14279e470f", func := "sharecore/sharecorelaw06.PowerFermat", spec := "powerFermat", inPlace := ["math/bits.Add64", "math/bits.Sub64"], unfollowed := true, recurses := true, named := ["sharecore/field.fields"], apart := false, laid := [("sharecore/field.fields", laid_sharecore_field_fields)], narrowed := true }
def PowerFermatUptoSaid : Prop := powerFermatUptoRow.holds Tryd.pinned (OpenSpec.upto powerFermatSpec)

/-- 'sharecorelaw06.PowerEvents', WHERE WHAT IT READS IS OF BULK AT MOST 1048576: true; the input reads as it did. -/
def powerEventsUptoRow : OpenClaim := { program := "ytlinfbhiogdiaaadoor", sum := "5c036a959f38dd03ec13a2514453b703838b1f3614bacee17ab38c14279e470f", func := "sharecore/sharecorelaw06.PowerEvents", spec := "powerEvents", inPlace := ["math/bits.Add64", "math/bits.Sub64"], unfollowed := true, recurses := true, named := ["sharecore/field.fields"], apart := false, laid := [("sharecore/field.fields", laid_sharecore_field_fields)], narrowed := true }
def PowerEventsUptoSaid : Prop := powerEventsUptoRow.holds Tryd.pinned (OpenSpec.upto powerEventsSpec)

end Rows
end Go.Proofs.YtlinfbhiogdiaaaDoor
