/-
  NARROWER THAN 'FOR EVERY INPUT', by the rows' own cells (each row's printed sentence says how): DegreeFits: laid · DegreeAll: laid · DegreeAccepts: laid · DegreeRejects: laid · DegreeEvents: laid · ViewVanishes: laid · ViewShifts: laid · ViewKeeps: laid · ViewExplains: laid · ViewHides: laid · ViewBias: laid.
  DERIVED. THE GIVEN ROWS OF THIS SEAT. 11 by the template 'for every input the law returns true; each argument reads behind the call as it read before'; 0 by the template 'total and deterministic' (their statements: YtogenbggjodcnaaDoorTotals.lean).
  GIVEN WITH THE SEED: the statements are not yours to turn. If you find one false, say at which input.
  Laid BY PROGRAM, IN A SANDBOX (cutbox-rows.mjs): the forced cells as the released guide's own fill.sh prints them over the translation 47ec23ecab7f11d7… (all of the seat's roots in one cut). By AI agents, Wed Nov 11 2026. No macro, syntax, notation, axiom, sorry.
-/
import Derived.Test.YtogenbggjodcnaaDoorChecked
import GoSem.Claim
import GoSem.ClaimJoined
import GoSem.ClaimMapViews
import Derived.JoinedTies
import Derived.KernelRfl
namespace Go.Proofs.YtogenbggjodcnaaDoor
/- THE CELL 'sum', in the pinned program and in every row, IS THE sha256 OF THE DUMP (.gsa) THAT YtogenbggjodcnaaDoorProg.lean LOADS. Nothing in Lean hashes anything: it is a label: what it is worth is what the hold of that sum in a sandbox is worth. -/
noncomputable def Tryd.pinned : Pinned := { name := "ytogenbggjodcnaadoor", sum := "47ec23ecab7f11d769e803cc3cf219c5cdb872c2d31a19248e156ea0272fbd8c", checked := Tryd.checked }
namespace Rows
def none {H : Type} : Left H := { results := [], args := [] }

/- WHAT THE LISTED PACKAGE-LEVEL VARIABLES READ AS WHEN THE CALL BEGINS. Each datum BY PROGRAM (the guide's laid-datum.mjs) off the statement by which the dump's own 'gosem.cut.vars' lays the variable. In a bare row this is a premise. The card (YtogenbggjodcnaaDoorCards.lean) ties it to the program's text. -/
def laid_sharecore_field_fields {H : Type} : DataW H := .agg [.agg [.lit (.int .i64 1), .agg [.lit (.int .u64 18446744073709551597), .lit (.int .u64 18446744073709551615), .lit (.int .u64 18446744073709551615), .lit (.int .u64 9223372036854775807)], .lit (.int .u64 9708812670373448219), .agg [.lit (.int .u64 38), .lit (.int .u64 0), .lit (.int .u64 0), .lit (.int .u64 0)], .agg [.lit (.int .u64 1444), .lit (.int .u64 0), .lit (.int .u64 0), .lit (.int .u64 0)]], .agg [.lit (.int .i64 2), .agg [.lit (.int .u64 17562291160714782033), .lit (.int .u64 13611842547513532036), .lit (.int .u64 18446744073709551615), .lit (.int .u64 18446744069414584320)], .lit (.int .u64 14758798090332847183), .agg [.lit (.int .u64 884452912994769583), .lit (.int .u64 4834901526196019579), .lit (.int .u64 0), .lit (.int .u64 4294967295)], .agg [.lit (.int .u64 9449762124159643298), .lit (.int .u64 5087230966250696614), .lit (.int .u64 2901921493521525849), .lit (.int .u64 7413256579398063648)]]]

/-- 'sharecorelaw10.DegreeFits': WHATEVER THE INPUT: true; the input reads as it did. -/
def degreeFitsSpec : ChangeSpec := { name := "degreeFits", fn := fun _ => fun
  | [d1, d2, d3] => { results := [.lit (.bool true)], args := [d1, d2, d3] }
  | _ => none }
def degreeFitsRow : OpenClaim := { program := "ytogenbggjodcnaadoor", sum := "47ec23ecab7f11d769e803cc3cf219c5cdb872c2d31a19248e156ea0272fbd8c", func := "sharecore/sharecorelaw10.DegreeFits", spec := "degreeFits", inPlace := ["math/bits.Add64", "math/bits.Sub64"], unfollowed := true, recurses := true, named := ["sharecore/field.fields"], apart := false, laid := [("sharecore/field.fields", laid_sharecore_field_fields)] }
def DegreeFitsSaid : Prop := degreeFitsRow.holds Tryd.pinned (OpenSpec.ofChange degreeFitsSpec)

/-- ITS FALSE NEIGHBOUR: 'it returns false'. Refute it at one input. -/
def degreeFitsWrong : ChangeSpec := { name := "degreeFits", fn := fun _ => fun
  | [d1, d2, d3] => { results := [.lit (.bool false)], args := [d1, d2, d3] }
  | _ => none }
def DegreeFitsWrongFalsely : Prop := degreeFitsRow.holds Tryd.pinned (OpenSpec.ofChange degreeFitsWrong)

/-- 'sharecorelaw10.DegreeAll': WHATEVER THE INPUT: true; the input reads as it did. -/
def degreeAllSpec : ChangeSpec := { name := "degreeAll", fn := fun _ => fun
  | [d1, d2, d3] => { results := [.lit (.bool true)], args := [d1, d2, d3] }
  | _ => none }
def degreeAllRow : OpenClaim := { program := "ytogenbggjodcnaadoor", sum := "47ec23ecab7f11d769e803cc3cf219c5cdb872c2d31a19248e156ea0272fbd8c", func := "sharecore/sharecorelaw10.DegreeAll", spec := "degreeAll", inPlace := ["math/bits.Add64", "math/bits.Sub64"], unfollowed := true, recurses := true, named := ["sharecore/field.fields"], apart := false, laid := [("sharecore/field.fields", laid_sharecore_field_fields)] }
def DegreeAllSaid : Prop := degreeAllRow.holds Tryd.pinned (OpenSpec.ofChange degreeAllSpec)

/-- ITS FALSE NEIGHBOUR: 'it returns false'. Refute it at one input. -/
def degreeAllWrong : ChangeSpec := { name := "degreeAll", fn := fun _ => fun
  | [d1, d2, d3] => { results := [.lit (.bool false)], args := [d1, d2, d3] }
  | _ => none }
def DegreeAllWrongFalsely : Prop := degreeAllRow.holds Tryd.pinned (OpenSpec.ofChange degreeAllWrong)

/-- 'sharecorelaw10.DegreeAccepts': WHATEVER THE INPUT: true; the input reads as it did. -/
def degreeAcceptsSpec : ChangeSpec := { name := "degreeAccepts", fn := fun _ => fun
  | [d1, d2, d3] => { results := [.lit (.bool true)], args := [d1, d2, d3] }
  | _ => none }
def degreeAcceptsRow : OpenClaim := { program := "ytogenbggjodcnaadoor", sum := "47ec23ecab7f11d769e803cc3cf219c5cdb872c2d31a19248e156ea0272fbd8c", func := "sharecore/sharecorelaw10.DegreeAccepts", spec := "degreeAccepts", inPlace := ["math/bits.Add64", "math/bits.Sub64"], unfollowed := true, recurses := true, named := ["sharecore/field.fields"], apart := false, laid := [("sharecore/field.fields", laid_sharecore_field_fields)] }
def DegreeAcceptsSaid : Prop := degreeAcceptsRow.holds Tryd.pinned (OpenSpec.ofChange degreeAcceptsSpec)

/-- ITS FALSE NEIGHBOUR: 'it returns false'. Refute it at one input. -/
def degreeAcceptsWrong : ChangeSpec := { name := "degreeAccepts", fn := fun _ => fun
  | [d1, d2, d3] => { results := [.lit (.bool false)], args := [d1, d2, d3] }
  | _ => none }
def DegreeAcceptsWrongFalsely : Prop := degreeAcceptsRow.holds Tryd.pinned (OpenSpec.ofChange degreeAcceptsWrong)

/-- 'sharecorelaw10.DegreeRejects': WHATEVER THE INPUT: true; the input reads as it did. -/
def degreeRejectsSpec : ChangeSpec := { name := "degreeRejects", fn := fun _ => fun
  | [d1, d2, d3] => { results := [.lit (.bool true)], args := [d1, d2, d3] }
  | _ => none }
def degreeRejectsRow : OpenClaim := { program := "ytogenbggjodcnaadoor", sum := "47ec23ecab7f11d769e803cc3cf219c5cdb872c2d31a19248e156ea0272fbd8c", func := "sharecore/sharecorelaw10.DegreeRejects", spec := "degreeRejects", inPlace := ["math/bits.Add64", "math/bits.Sub64"], unfollowed := true, recurses := true, named := ["sharecore/field.fields"], apart := false, laid := [("sharecore/field.fields", laid_sharecore_field_fields)] }
def DegreeRejectsSaid : Prop := degreeRejectsRow.holds Tryd.pinned (OpenSpec.ofChange degreeRejectsSpec)

/-- ITS FALSE NEIGHBOUR: 'it returns false'. Refute it at one input. -/
def degreeRejectsWrong : ChangeSpec := { name := "degreeRejects", fn := fun _ => fun
  | [d1, d2, d3] => { results := [.lit (.bool false)], args := [d1, d2, d3] }
  | _ => none }
def DegreeRejectsWrongFalsely : Prop := degreeRejectsRow.holds Tryd.pinned (OpenSpec.ofChange degreeRejectsWrong)

/-- 'sharecorelaw10.DegreeEvents': WHATEVER THE INPUT: true; the input reads as it did. -/
def degreeEventsSpec : ChangeSpec := { name := "degreeEvents", fn := fun _ => fun
  | [d1, d2, d3] => { results := [.lit (.bool true)], args := [d1, d2, d3] }
  | _ => none }
def degreeEventsRow : OpenClaim := { program := "ytogenbggjodcnaadoor", sum := "47ec23ecab7f11d769e803cc3cf219c5cdb872c2d31a19248e156ea0272fbd8c", func := "sharecore/sharecorelaw10.DegreeEvents", spec := "degreeEvents", inPlace := ["math/bits.Add64", "math/bits.Sub64"], unfollowed := true, recurses := true, named := ["sharecore/field.fields"], apart := false, laid := [("sharecore/field.fields", laid_sharecore_field_fields)] }
def DegreeEventsSaid : Prop := degreeEventsRow.holds Tryd.pinned (OpenSpec.ofChange degreeEventsSpec)

/-- ITS FALSE NEIGHBOUR: 'it returns false'. Refute it at one input. -/
def degreeEventsWrong : ChangeSpec := { name := "degreeEvents", fn := fun _ => fun
  | [d1, d2, d3] => { results := [.lit (.bool false)], args := [d1, d2, d3] }
  | _ => none }
def DegreeEventsWrongFalsely : Prop := degreeEventsRow.holds Tryd.pinned (OpenSpec.ofChange degreeEventsWrong)

/-- 'sharecorelaw22.ViewVanishes': WHATEVER THE INPUT: true; the input reads as it did. -/
def viewVanishesSpec : ChangeSpec := { name := "viewVanishes", fn := fun _ => fun
  | [d1, d2] => { results := [.lit (.bool true)], args := [d1, d2] }
  | _ => none }
def viewVanishesRow : OpenClaim := { program := "ytogenbggjodcnaadoor", sum := "47ec23ecab7f11d769e803cc3cf219c5cdb872c2d31a19248e156ea0272fbd8c", func := "sharecore/sharecorelaw22.ViewVanishes", spec := "viewVanishes", inPlace := ["math/bits.Add64", "math/bits.Sub64"], unfollowed := true, recurses := true, named := ["sharecore/field.fields"], apart := false, laid := [("sharecore/field.fields", laid_sharecore_field_fields)] }
def ViewVanishesSaid : Prop := viewVanishesRow.holds Tryd.pinned (OpenSpec.ofChange viewVanishesSpec)

/-- ITS FALSE NEIGHBOUR: 'it returns false'. Refute it at one input. -/
def viewVanishesWrong : ChangeSpec := { name := "viewVanishes", fn := fun _ => fun
  | [d1, d2] => { results := [.lit (.bool false)], args := [d1, d2] }
  | _ => none }
def ViewVanishesWrongFalsely : Prop := viewVanishesRow.holds Tryd.pinned (OpenSpec.ofChange viewVanishesWrong)

/-- 'sharecorelaw22.ViewShifts': WHATEVER THE INPUT: true; the input reads as it did. -/
def viewShiftsSpec : ChangeSpec := { name := "viewShifts", fn := fun _ => fun
  | [d1, d2, d3] => { results := [.lit (.bool true)], args := [d1, d2, d3] }
  | _ => none }
def viewShiftsRow : OpenClaim := { program := "ytogenbggjodcnaadoor", sum := "47ec23ecab7f11d769e803cc3cf219c5cdb872c2d31a19248e156ea0272fbd8c", func := "sharecore/sharecorelaw22.ViewShifts", spec := "viewShifts", inPlace := ["math/bits.Add64", "math/bits.Sub64"], unfollowed := true, recurses := true, named := ["sharecore/field.fields"], apart := false, laid := [("sharecore/field.fields", laid_sharecore_field_fields)] }
def ViewShiftsSaid : Prop := viewShiftsRow.holds Tryd.pinned (OpenSpec.ofChange viewShiftsSpec)

/-- ITS FALSE NEIGHBOUR: 'it returns false'. Refute it at one input. -/
def viewShiftsWrong : ChangeSpec := { name := "viewShifts", fn := fun _ => fun
  | [d1, d2, d3] => { results := [.lit (.bool false)], args := [d1, d2, d3] }
  | _ => none }
def ViewShiftsWrongFalsely : Prop := viewShiftsRow.holds Tryd.pinned (OpenSpec.ofChange viewShiftsWrong)

/-- 'sharecorelaw22.ViewKeeps': WHATEVER THE INPUT: true; the input reads as it did. -/
def viewKeepsSpec : ChangeSpec := { name := "viewKeeps", fn := fun _ => fun
  | [d1, d2, d3] => { results := [.lit (.bool true)], args := [d1, d2, d3] }
  | _ => none }
def viewKeepsRow : OpenClaim := { program := "ytogenbggjodcnaadoor", sum := "47ec23ecab7f11d769e803cc3cf219c5cdb872c2d31a19248e156ea0272fbd8c", func := "sharecore/sharecorelaw22.ViewKeeps", spec := "viewKeeps", inPlace := ["math/bits.Add64", "math/bits.Sub64"], unfollowed := true, recurses := true, named := ["sharecore/field.fields"], apart := false, laid := [("sharecore/field.fields", laid_sharecore_field_fields)] }
def ViewKeepsSaid : Prop := viewKeepsRow.holds Tryd.pinned (OpenSpec.ofChange viewKeepsSpec)

/-- ITS FALSE NEIGHBOUR: 'it returns false'. Refute it at one input. -/
def viewKeepsWrong : ChangeSpec := { name := "viewKeeps", fn := fun _ => fun
  | [d1, d2, d3] => { results := [.lit (.bool false)], args := [d1, d2, d3] }
  | _ => none }
def ViewKeepsWrongFalsely : Prop := viewKeepsRow.holds Tryd.pinned (OpenSpec.ofChange viewKeepsWrong)

/-- 'sharecorelaw22.ViewExplains': WHATEVER THE INPUT: true; the input reads as it did. -/
def viewExplainsSpec : ChangeSpec := { name := "viewExplains", fn := fun _ => fun
  | [d1, d2] => { results := [.lit (.bool true)], args := [d1, d2] }
  | _ => none }
def viewExplainsRow : OpenClaim := { program := "ytogenbggjodcnaadoor", sum := "47ec23ecab7f11d769e803cc3cf219c5cdb872c2d31a19248e156ea0272fbd8c", func := "sharecore/sharecorelaw22.ViewExplains", spec := "viewExplains", inPlace := ["math/bits.Add64", "math/bits.Sub64"], unfollowed := true, recurses := true, named := ["sharecore/field.fields"], apart := false, laid := [("sharecore/field.fields", laid_sharecore_field_fields)] }
def ViewExplainsSaid : Prop := viewExplainsRow.holds Tryd.pinned (OpenSpec.ofChange viewExplainsSpec)

/-- ITS FALSE NEIGHBOUR: 'it returns false'. Refute it at one input. -/
def viewExplainsWrong : ChangeSpec := { name := "viewExplains", fn := fun _ => fun
  | [d1, d2] => { results := [.lit (.bool false)], args := [d1, d2] }
  | _ => none }
def ViewExplainsWrongFalsely : Prop := viewExplainsRow.holds Tryd.pinned (OpenSpec.ofChange viewExplainsWrong)

/-- 'sharecorelaw22.ViewHides': WHATEVER THE INPUT: true; the input reads as it did. -/
def viewHidesSpec : ChangeSpec := { name := "viewHides", fn := fun _ => fun
  | [d1, d2, d3] => { results := [.lit (.bool true)], args := [d1, d2, d3] }
  | _ => none }
def viewHidesRow : OpenClaim := { program := "ytogenbggjodcnaadoor", sum := "47ec23ecab7f11d769e803cc3cf219c5cdb872c2d31a19248e156ea0272fbd8c", func := "sharecore/sharecorelaw22.ViewHides", spec := "viewHides", inPlace := ["math/bits.Add64", "math/bits.Sub64"], unfollowed := true, recurses := true, named := ["sharecore/field.fields"], apart := false, laid := [("sharecore/field.fields", laid_sharecore_field_fields)] }
def ViewHidesSaid : Prop := viewHidesRow.holds Tryd.pinned (OpenSpec.ofChange viewHidesSpec)

/-- ITS FALSE NEIGHBOUR: 'it returns false'. Refute it at one input. -/
def viewHidesWrong : ChangeSpec := { name := "viewHides", fn := fun _ => fun
  | [d1, d2, d3] => { results := [.lit (.bool false)], args := [d1, d2, d3] }
  | _ => none }
def ViewHidesWrongFalsely : Prop := viewHidesRow.holds Tryd.pinned (OpenSpec.ofChange viewHidesWrong)

/-- 'sharecorelaw22.ViewBias': WHATEVER THE INPUT: true; the input reads as it did. -/
def viewBiasSpec : ChangeSpec := { name := "viewBias", fn := fun _ => fun
  | [d] => { results := [.lit (.bool true)], args := [d] }
  | _ => none }
def viewBiasRow : OpenClaim := { program := "ytogenbggjodcnaadoor", sum := "47ec23ecab7f11d769e803cc3cf219c5cdb872c2d31a19248e156ea0272fbd8c", func := "sharecore/sharecorelaw22.ViewBias", spec := "viewBias", inPlace := ["math/bits.Add64", "math/bits.Sub64"], unfollowed := true, recurses := true, named := ["sharecore/field.fields"], apart := false, laid := [("sharecore/field.fields", laid_sharecore_field_fields)] }
def ViewBiasSaid : Prop := viewBiasRow.holds Tryd.pinned (OpenSpec.ofChange viewBiasSpec)

/-- ITS FALSE NEIGHBOUR: 'it returns false'. Refute it at one input. -/
def viewBiasWrong : ChangeSpec := { name := "viewBias", fn := fun _ => fun
  | [d] => { results := [.lit (.bool false)], args := [d] }
  | _ => none }
def ViewBiasWrongFalsely : Prop := viewBiasRow.holds Tryd.pinned (OpenSpec.ofChange viewBiasWrong)

/- THE SECOND FORM. 'bulk': how many values and letters a reading holds, each counted each time it is reached (what is shared counts as often as it is met; a slice's spare places count too). A statement '..UptoSaid' is the law's where the arguments, and the package variables that the reading takes, are together of bulk at most 1048576: NARROWER than '..Said'. Prove '..Said' where nothing that the law and all that it calls make is longer than what came in: it says more and counts as full. Else prove '..UptoSaid'. A law counts once. -/
mutual
def uptoBulk {H : Type} : DataW H → Nat
  | .lit (.string bytes) => bytes.length + 1
  | .lit _ => 1
  | .nil => 1
  | .ptr d => uptoBulk d + 1
  | .slice elems spare => uptoBulkAll elems + uptoBulkAll spare + 1
  | .agg parts => uptoBulkAll parts + 1
  | .iface _ d => uptoBulk d + 1
  | .map entries => uptoBulkEntries entries + 1
  | .held _ => 1
def uptoBulkAll {H : Type} : List (DataW H) → Nat
  | [] => 0
  | d :: r => uptoBulk d + uptoBulkAll r
def uptoBulkEntries {H : Type} : List (Lit × DataW H) → Nat
  | [] => 0
  | x :: r => uptoBulkEntry x + uptoBulkEntries r
def uptoBulkEntry {H : Type} : Lit × DataW H → Nat
  | (.string bytes, d) => bytes.length + uptoBulk d + 1
  | (_, d) => uptoBulk d + 1
 end
def uptoSmall : (H : Type) → List (DataW H) → Bool := fun _ ds => decide (uptoBulkAll ds ≤ 1048576)
def OpenSpec.upto (s : _root_.Go.ChangeSpec) : _root_.Go.OpenSpec := { _root_.Go.OpenSpec.ofChange s with cond := some uptoSmall }

/-- 'sharecorelaw10.DegreeFits', WHERE WHAT IT READS IS OF BULK AT MOST 1048576: true; the input reads as it did. -/
def degreeFitsUptoRow : OpenClaim := { program := "ytogenbggjodcnaadoor", sum := "47ec23ecab7f11d769e803cc3cf219c5cdb872c2d31a19248e156ea0272fbd8c", func := "sharecore/sharecorelaw10.DegreeFits", spec := "degreeFits", inPlace := ["math/bits.Add64", "math/bits.Sub64"], unfollowed := true, recurses := true, named := ["sharecore/field.fields"], apart := false, laid := [("sharecore/field.fields", laid_sharecore_field_fields)], narrowed := true }
def DegreeFitsUptoSaid : Prop := degreeFitsUptoRow.holds Tryd.pinned (OpenSpec.upto degreeFitsSpec)

/-- 'sharecorelaw10.DegreeAll', WHERE WHAT IT READS IS OF BULK AT MOST 1048576: true; the input reads as it did. -/
def degreeAllUptoRow : OpenClaim := { program := "ytogenbggjodcnaadoor", sum := "47ec23ecab7f11d769e803cc3cf219c5cdb872c2d31a19248e156ea0272fbd8c", func := "sharecore/sharecorelaw10.DegreeAll", spec := "degreeAll", inPlace := ["math/bits.Add64", "math/bits.Sub64"], unfollowed := true, recurses := true, named := ["sharecore/field.fields"], apart := false, laid := [("sharecore/field.fields", laid_sharecore_field_fields)], narrowed := true }
def DegreeAllUptoSaid : Prop := degreeAllUptoRow.holds Tryd.pinned (OpenSpec.upto degreeAllSpec)

/-- 'sharecorelaw10.DegreeAccepts', WHERE WHAT IT READS IS OF BULK AT MOST 1048576: true; the input reads as it did. -/
def degreeAcceptsUptoRow : OpenClaim := { program := "ytogenbggjodcnaadoor", sum := "47ec23ecab7f11d769e803cc3cf219c5cdb872c2d31a19248e156ea0272fbd8c", func := "sharecore/sharecorelaw10.DegreeAccepts", spec := "degreeAccepts", inPlace := ["math/bits.Add64", "math/bits.Sub64"], unfollowed := true, recurses := true, named := ["sharecore/field.fields"], apart := false, laid := [("sharecore/field.fields", laid_sharecore_field_fields)], narrowed := true }
def DegreeAcceptsUptoSaid : Prop := degreeAcceptsUptoRow.holds Tryd.pinned (OpenSpec.upto degreeAcceptsSpec)

/-- 'sharecorelaw10.DegreeRejects', WHERE WHAT IT READS IS OF BULK AT MOST 1048576: true; the input reads as it did. -/
def degreeRejectsUptoRow : OpenClaim := { program := "ytogenbggjodcnaadoor", sum := "47ec23ecab7f11d769e803cc3cf219c5cdb872c2d31a19248e156ea0272fbd8c", func := "sharecore/sharecorelaw10.DegreeRejects", spec := "degreeRejects", inPlace := ["math/bits.Add64", "math/bits.Sub64"], unfollowed := true, recurses := true, named := ["sharecore/field.fields"], apart := false, laid := [("sharecore/field.fields", laid_sharecore_field_fields)], narrowed := true }
def DegreeRejectsUptoSaid : Prop := degreeRejectsUptoRow.holds Tryd.pinned (OpenSpec.upto degreeRejectsSpec)

/-- 'sharecorelaw10.DegreeEvents', WHERE WHAT IT READS IS OF BULK AT MOST 1048576: true; the input reads as it did. -/
def degreeEventsUptoRow : OpenClaim := { program := "ytogenbggjodcnaadoor", sum := "47ec23ecab7f11d769e803cc3cf219c5cdb872c2d31a19248e156ea0272fbd8c", func := "sharecore/sharecorelaw10.DegreeEvents", spec := "degreeEvents", inPlace := ["math/bits.Add64", "math/bits.Sub64"], unfollowed := true, recurses := true, named := ["sharecore/field.fields"], apart := false, laid := [("sharecore/field.fields", laid_sharecore_field_fields)], narrowed := true }
def DegreeEventsUptoSaid : Prop := degreeEventsUptoRow.holds Tryd.pinned (OpenSpec.upto degreeEventsSpec)

/-- 'sharecorelaw22.ViewVanishes', WHERE WHAT IT READS IS OF BULK AT MOST 1048576: true; the input reads as it did. -/
def viewVanishesUptoRow : OpenClaim := { program := "ytogenbggjodcnaadoor", sum := "47ec23ecab7f11d769e803cc3cf219c5cdb872c2d31a19248e156ea0272fbd8c", func := "sharecore/sharecorelaw22.ViewVanishes", spec := "viewVanishes", inPlace := ["math/bits.Add64", "math/bits.Sub64"], unfollowed := true, recurses := true, named := ["sharecore/field.fields"], apart := false, laid := [("sharecore/field.fields", laid_sharecore_field_fields)], narrowed := true }
def ViewVanishesUptoSaid : Prop := viewVanishesUptoRow.holds Tryd.pinned (OpenSpec.upto viewVanishesSpec)

/-- 'sharecorelaw22.ViewShifts', WHERE WHAT IT READS IS OF BULK AT MOST 1048576: true; the input reads as it did. -/
def viewShiftsUptoRow : OpenClaim := { program := "ytogenbggjodcnaadoor", sum := "47ec23ecab7f11d769e803cc3cf219c5cdb872c2d31a19248e156ea0272fbd8c", func := "sharecore/sharecorelaw22.ViewShifts", spec := "viewShifts", inPlace := ["math/bits.Add64", "math/bits.Sub64"], unfollowed := true, recurses := true, named := ["sharecore/field.fields"], apart := false, laid := [("sharecore/field.fields", laid_sharecore_field_fields)], narrowed := true }
def ViewShiftsUptoSaid : Prop := viewShiftsUptoRow.holds Tryd.pinned (OpenSpec.upto viewShiftsSpec)

/-- 'sharecorelaw22.ViewKeeps', WHERE WHAT IT READS IS OF BULK AT MOST 1048576: true; the input reads as it did. -/
def viewKeepsUptoRow : OpenClaim := { program := "ytogenbggjodcnaadoor", sum := "47ec23ecab7f11d769e803cc3cf219c5cdb872c2d31a19248e156ea0272fbd8c", func := "sharecore/sharecorelaw22.ViewKeeps", spec := "viewKeeps", inPlace := ["math/bits.Add64", "math/bits.Sub64"], unfollowed := true, recurses := true, named := ["sharecore/field.fields"], apart := false, laid := [("sharecore/field.fields", laid_sharecore_field_fields)], narrowed := true }
def ViewKeepsUptoSaid : Prop := viewKeepsUptoRow.holds Tryd.pinned (OpenSpec.upto viewKeepsSpec)

/-- 'sharecorelaw22.ViewExplains', WHERE WHAT IT READS IS OF BULK AT MOST 1048576: true; the input reads as it did. -/
def viewExplainsUptoRow : OpenClaim := { program := "ytogenbggjodcnaadoor", sum := "47ec23ecab7f11d769e803cc3cf219c5cdb872c2d31a19248e156ea0272fbd8c", func := "sharecore/sharecorelaw22.ViewExplains", spec := "viewExplains", inPlace := ["math/bits.Add64", "math/bits.Sub64"], unfollowed := true, recurses := true, named := ["sharecore/field.fields"], apart := false, laid := [("sharecore/field.fields", laid_sharecore_field_fields)], narrowed := true }
def ViewExplainsUptoSaid : Prop := viewExplainsUptoRow.holds Tryd.pinned (OpenSpec.upto viewExplainsSpec)

/-- 'sharecorelaw22.ViewHides', WHERE WHAT IT READS IS OF BULK AT MOST 1048576: true; the input reads as it did. -/
def viewHidesUptoRow : OpenClaim := { program := "ytogenbggjodcnaadoor", sum := "47ec23ecab7f11d769e803cc3cf219c5cdb872c2d31a19248e156ea0272fbd8c", func := "sharecore/sharecorelaw22.ViewHides", spec := "viewHides", inPlace := ["math/bits.Add64", "math/bits.Sub64"], unfollowed := true, recurses := true, named := ["sharecore/field.fields"], apart := false, laid := [("sharecore/field.fields", laid_sharecore_field_fields)], narrowed := true }
def ViewHidesUptoSaid : Prop := viewHidesUptoRow.holds Tryd.pinned (OpenSpec.upto viewHidesSpec)

/-- 'sharecorelaw22.ViewBias', WHERE WHAT IT READS IS OF BULK AT MOST 1048576: true; the input reads as it did. -/
def viewBiasUptoRow : OpenClaim := { program := "ytogenbggjodcnaadoor", sum := "47ec23ecab7f11d769e803cc3cf219c5cdb872c2d31a19248e156ea0272fbd8c", func := "sharecore/sharecorelaw22.ViewBias", spec := "viewBias", inPlace := ["math/bits.Add64", "math/bits.Sub64"], unfollowed := true, recurses := true, named := ["sharecore/field.fields"], apart := false, laid := [("sharecore/field.fields", laid_sharecore_field_fields)], narrowed := true }
def ViewBiasUptoSaid : Prop := viewBiasUptoRow.holds Tryd.pinned (OpenSpec.upto viewBiasSpec)

end Rows
end Go.Proofs.YtogenbggjodcnaaDoor
