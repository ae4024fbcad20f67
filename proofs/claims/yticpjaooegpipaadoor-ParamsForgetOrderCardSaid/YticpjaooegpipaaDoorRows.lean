/-
  NARROWER THAN 'FOR EVERY INPUT', by the rows' own cells (each row's printed sentence says how): ParamsCheck: laid · ParamsShare: laid · ParamsShares: laid · ParamsColumns: laid · ParamsSubsets: laid · ParamsForgetOrder: laid.
  DERIVED. THE GIVEN ROWS OF THIS SEAT. 6 by the template 'for every input the law returns true; each argument reads behind the call as it read before'; 0 by the template 'total and deterministic' (their statements: YticpjaooegpipaaDoorTotals.lean).
  GIVEN WITH THE SEED: the statements are not yours to turn. If you find one false, say at which input.
  Laid BY PROGRAM, IN A SANDBOX (cutbox-rows.mjs): the forced cells as the released guide's own fill.sh prints them over the translation bab233b49e206358… (all of the seat's roots in one cut). By AI agents, Wed Nov 11 2026. No macro, syntax, notation, axiom, sorry.
-/
import Derived.Test.YticpjaooegpipaaDoorChecked
import GoSem.Claim
import GoSem.ClaimJoined
import GoSem.ClaimMapViews
import Derived.JoinedTies
import Derived.KernelRfl
namespace Go.Proofs.YticpjaooegpipaaDoor
/- THE CELL 'sum', in the pinned program and in every row, IS THE sha256 OF THE DUMP (.gsa) THAT YticpjaooegpipaaDoorProg.lean LOADS. Nothing in Lean hashes anything: it is a label: what it is worth is what the hold of that sum in a sandbox is worth. -/
noncomputable def Tryd.pinned : Pinned := { name := "yticpjaooegpipaadoor", sum := "bab233b49e206358b89a75af4b5198811ae382f91f7be792245a867e667cc0f6", checked := Tryd.checked }
namespace Rows
def none {H : Type} : Left H := { results := [], args := [] }

/- WHAT THE LISTED PACKAGE-LEVEL VARIABLES READ AS WHEN THE CALL BEGINS. Each datum BY PROGRAM (the guide's laid-datum.mjs) off the statement by which the dump's own 'gosem.cut.vars' lays the variable. In a bare row this is a premise. The card (YticpjaooegpipaaDoorCards.lean) ties it to the program's text. -/
def laid_sharecore_field_fields {H : Type} : DataW H := .agg [.agg [.lit (.int .i64 1), .agg [.lit (.int .u64 18446744073709551597), .lit (.int .u64 18446744073709551615), .lit (.int .u64 18446744073709551615), .lit (.int .u64 9223372036854775807)], .lit (.int .u64 9708812670373448219), .agg [.lit (.int .u64 38), .lit (.int .u64 0), .lit (.int .u64 0), .lit (.int .u64 0)], .agg [.lit (.int .u64 1444), .lit (.int .u64 0), .lit (.int .u64 0), .lit (.int .u64 0)]], .agg [.lit (.int .i64 2), .agg [.lit (.int .u64 17562291160714782033), .lit (.int .u64 13611842547513532036), .lit (.int .u64 18446744073709551615), .lit (.int .u64 18446744069414584320)], .lit (.int .u64 14758798090332847183), .agg [.lit (.int .u64 884452912994769583), .lit (.int .u64 4834901526196019579), .lit (.int .u64 0), .lit (.int .u64 4294967295)], .agg [.lit (.int .u64 9449762124159643298), .lit (.int .u64 5087230966250696614), .lit (.int .u64 2901921493521525849), .lit (.int .u64 7413256579398063648)]]]

/-- 'sharecorelaw15.ParamsCheck': WHATEVER THE INPUT: true; the input reads as it did. -/
def paramsCheckSpec : ChangeSpec := { name := "paramsCheck", fn := fun _ => fun
  | [d] => { results := [.lit (.bool true)], args := [d] }
  | _ => none }
def paramsCheckRow : OpenClaim := { program := "yticpjaooegpipaadoor", sum := "bab233b49e206358b89a75af4b5198811ae382f91f7be792245a867e667cc0f6", func := "sharecore/sharecorelaw15.ParamsCheck", spec := "paramsCheck", inPlace := ["math/bits.Sub64"], unfollowed := true, recurses := true, named := ["sharecore/field.fields"], apart := false, laid := [("sharecore/field.fields", laid_sharecore_field_fields)] }
def ParamsCheckSaid : Prop := paramsCheckRow.holds Tryd.pinned (OpenSpec.ofChange paramsCheckSpec)

/-- ITS FALSE NEIGHBOUR: 'it returns false'. Refute it at one input. -/
def paramsCheckWrong : ChangeSpec := { name := "paramsCheck", fn := fun _ => fun
  | [d] => { results := [.lit (.bool false)], args := [d] }
  | _ => none }
def ParamsCheckWrongFalsely : Prop := paramsCheckRow.holds Tryd.pinned (OpenSpec.ofChange paramsCheckWrong)

/-- 'sharecorelaw15.ParamsShare': WHATEVER THE INPUT: true; the input reads as it did. -/
def paramsShareSpec : ChangeSpec := { name := "paramsShare", fn := fun _ => fun
  | [d] => { results := [.lit (.bool true)], args := [d] }
  | _ => none }
def paramsShareRow : OpenClaim := { program := "yticpjaooegpipaadoor", sum := "bab233b49e206358b89a75af4b5198811ae382f91f7be792245a867e667cc0f6", func := "sharecore/sharecorelaw15.ParamsShare", spec := "paramsShare", inPlace := ["math/bits.Sub64"], unfollowed := true, recurses := true, named := ["sharecore/field.fields"], apart := false, laid := [("sharecore/field.fields", laid_sharecore_field_fields)] }
def ParamsShareSaid : Prop := paramsShareRow.holds Tryd.pinned (OpenSpec.ofChange paramsShareSpec)

/-- ITS FALSE NEIGHBOUR: 'it returns false'. Refute it at one input. -/
def paramsShareWrong : ChangeSpec := { name := "paramsShare", fn := fun _ => fun
  | [d] => { results := [.lit (.bool false)], args := [d] }
  | _ => none }
def ParamsShareWrongFalsely : Prop := paramsShareRow.holds Tryd.pinned (OpenSpec.ofChange paramsShareWrong)

/-- 'sharecorelaw15.ParamsShares': WHATEVER THE INPUT: true; the input reads as it did. -/
def paramsSharesSpec : ChangeSpec := { name := "paramsShares", fn := fun _ => fun
  | [d] => { results := [.lit (.bool true)], args := [d] }
  | _ => none }
def paramsSharesRow : OpenClaim := { program := "yticpjaooegpipaadoor", sum := "bab233b49e206358b89a75af4b5198811ae382f91f7be792245a867e667cc0f6", func := "sharecore/sharecorelaw15.ParamsShares", spec := "paramsShares", inPlace := ["math/bits.Sub64"], unfollowed := true, recurses := true, named := ["sharecore/field.fields"], apart := false, laid := [("sharecore/field.fields", laid_sharecore_field_fields)] }
def ParamsSharesSaid : Prop := paramsSharesRow.holds Tryd.pinned (OpenSpec.ofChange paramsSharesSpec)

/-- ITS FALSE NEIGHBOUR: 'it returns false'. Refute it at one input. -/
def paramsSharesWrong : ChangeSpec := { name := "paramsShares", fn := fun _ => fun
  | [d] => { results := [.lit (.bool false)], args := [d] }
  | _ => none }
def ParamsSharesWrongFalsely : Prop := paramsSharesRow.holds Tryd.pinned (OpenSpec.ofChange paramsSharesWrong)

/-- 'sharecorelaw15.ParamsColumns': WHATEVER THE INPUT: true; the input reads as it did. -/
def paramsColumnsSpec : ChangeSpec := { name := "paramsColumns", fn := fun _ => fun
  | [d1, d2] => { results := [.lit (.bool true)], args := [d1, d2] }
  | _ => none }
def paramsColumnsRow : OpenClaim := { program := "yticpjaooegpipaadoor", sum := "bab233b49e206358b89a75af4b5198811ae382f91f7be792245a867e667cc0f6", func := "sharecore/sharecorelaw15.ParamsColumns", spec := "paramsColumns", inPlace := ["math/bits.Sub64"], unfollowed := true, recurses := true, named := ["sharecore/field.fields"], apart := false, laid := [("sharecore/field.fields", laid_sharecore_field_fields)] }
def ParamsColumnsSaid : Prop := paramsColumnsRow.holds Tryd.pinned (OpenSpec.ofChange paramsColumnsSpec)

/-- ITS FALSE NEIGHBOUR: 'it returns false'. Refute it at one input. -/
def paramsColumnsWrong : ChangeSpec := { name := "paramsColumns", fn := fun _ => fun
  | [d1, d2] => { results := [.lit (.bool false)], args := [d1, d2] }
  | _ => none }
def ParamsColumnsWrongFalsely : Prop := paramsColumnsRow.holds Tryd.pinned (OpenSpec.ofChange paramsColumnsWrong)

/-- 'sharecorelaw15.ParamsSubsets': WHATEVER THE INPUT: true; the input reads as it did. -/
def paramsSubsetsSpec : ChangeSpec := { name := "paramsSubsets", fn := fun _ => fun
  | [d1, d2] => { results := [.lit (.bool true)], args := [d1, d2] }
  | _ => none }
def paramsSubsetsRow : OpenClaim := { program := "yticpjaooegpipaadoor", sum := "bab233b49e206358b89a75af4b5198811ae382f91f7be792245a867e667cc0f6", func := "sharecore/sharecorelaw15.ParamsSubsets", spec := "paramsSubsets", inPlace := ["math/bits.Sub64"], unfollowed := true, recurses := true, named := ["sharecore/field.fields"], apart := false, laid := [("sharecore/field.fields", laid_sharecore_field_fields)] }
def ParamsSubsetsSaid : Prop := paramsSubsetsRow.holds Tryd.pinned (OpenSpec.ofChange paramsSubsetsSpec)

/-- ITS FALSE NEIGHBOUR: 'it returns false'. Refute it at one input. -/
def paramsSubsetsWrong : ChangeSpec := { name := "paramsSubsets", fn := fun _ => fun
  | [d1, d2] => { results := [.lit (.bool false)], args := [d1, d2] }
  | _ => none }
def ParamsSubsetsWrongFalsely : Prop := paramsSubsetsRow.holds Tryd.pinned (OpenSpec.ofChange paramsSubsetsWrong)

/-- 'sharecorelaw15.ParamsForgetOrder': WHATEVER THE INPUT: true; the input reads as it did. -/
def paramsForgetOrderSpec : ChangeSpec := { name := "paramsForgetOrder", fn := fun _ => fun
  | [d1, d2] => { results := [.lit (.bool true)], args := [d1, d2] }
  | _ => none }
def paramsForgetOrderRow : OpenClaim := { program := "yticpjaooegpipaadoor", sum := "bab233b49e206358b89a75af4b5198811ae382f91f7be792245a867e667cc0f6", func := "sharecore/sharecorelaw15.ParamsForgetOrder", spec := "paramsForgetOrder", inPlace := ["math/bits.Sub64"], unfollowed := true, recurses := true, named := ["sharecore/field.fields"], apart := false, laid := [("sharecore/field.fields", laid_sharecore_field_fields)] }
def ParamsForgetOrderSaid : Prop := paramsForgetOrderRow.holds Tryd.pinned (OpenSpec.ofChange paramsForgetOrderSpec)

/-- ITS FALSE NEIGHBOUR: 'it returns false'. Refute it at one input. -/
def paramsForgetOrderWrong : ChangeSpec := { name := "paramsForgetOrder", fn := fun _ => fun
  | [d1, d2] => { results := [.lit (.bool false)], args := [d1, d2] }
  | _ => none }
def ParamsForgetOrderWrongFalsely : Prop := paramsForgetOrderRow.holds Tryd.pinned (OpenSpec.ofChange paramsForgetOrderWrong)

/- THE SECOND FORM. 'bulk': how many values and letters a reading holds, each counted each time it is reached (what is shared counts as often as it is met; a slice's spare places count too). A statement '..UptoSaid' is the law's where the arguments, and the package variables that the reading takes, are together of bulk at most 1048576: NARROWER than '..Said'. Prove '..Said' where nothing that the law and all that it calls make is longer than what came in: it says more and counts as full. Else prove '..UptoSaid'. A law counts once. -/
mutual
def uptoBulk {H : Type} : DataW H → Nat
  | .lit (.string bytes) => bytes.length + 1
  | .lit _ => 1
  | .nil => 1
  | .ptr d => uptoBulk d + 1
  | .slice elems spare => uptoBulkAll elems + uptoBulkAll spare + 1
  | .agg parts => uptoBulkAll parts + 1
  | .iface _ d => uptoBulk d + 1
  | .map entries => uptoBulkEntries entries + 1
  | .held _ => 1
def uptoBulkAll {H : Type} : List (DataW H) → Nat
  | [] => 0
  | d :: r => uptoBulk d + uptoBulkAll r
def uptoBulkEntries {H : Type} : List (Lit × DataW H) → Nat
  | [] => 0
  | x :: r => uptoBulkEntry x + uptoBulkEntries r
def uptoBulkEntry {H : Type} : Lit × DataW H → Nat
  | (.string bytes, d) => bytes.length + uptoBulk d + 1
  | (_, d) => uptoBulk d + 1
 end
def uptoSmall : (H : Type) → List (DataW H) → Bool := fun _ ds => decide (uptoBulkAll ds ≤ 1048576)
def OpenSpec.upto (s : _root_.Go.ChangeSpec) : _root_.Go.OpenSpec := { _root_.Go.OpenSpec.ofChange s with cond := some uptoSmall }

/-- 'sharecorelaw15.ParamsCheck', WHERE WHAT IT READS IS OF BULK AT MOST 1048576: true; the input reads as it did. -/
def paramsCheckUptoRow : OpenClaim := { program := "yticpjaooegpipaadoor", sum := "bab233b49e206358b89a75af4b5198811ae382f91f7be792245a867e667cc0f6", func := "sharecore/sharecorelaw15.ParamsCheck", spec := "paramsCheck", inPlace := ["math/bits.Sub64"], unfollowed := true, recurses := true, named := ["sharecore/field.fields"], apart := false, laid := [("sharecore/field.fields", laid_sharecore_field_fields)], narrowed := true }
def ParamsCheckUptoSaid : Prop := paramsCheckUptoRow.holds Tryd.pinned (OpenSpec.upto paramsCheckSpec)

/-- 'sharecorelaw15.ParamsShare', WHERE WHAT IT READS IS OF BULK AT MOST 1048576: true; the input reads as it did. -/
def paramsShareUptoRow : OpenClaim := { program := "yticpjaooegpipaadoor", sum := "bab233b49e206358b89a75af4b5198811ae382f91f7be792245a867e667cc0f6", func := "sharecore/sharecorelaw15.ParamsShare", spec := "paramsShare", inPlace := ["math/bits.Sub64"], unfollowed := true, recurses := true, named := ["sharecore/field.fields"], apart := false, laid := [("sharecore/field.fields", laid_sharecore_field_fields)], narrowed := true }
def ParamsShareUptoSaid : Prop := paramsShareUptoRow.holds Tryd.pinned (OpenSpec.upto paramsShareSpec)

/-- 'sharecorelaw15.ParamsShares', WHERE WHAT IT READS IS OF BULK AT MOST 1048576: true; the input reads as it did. -/
def paramsSharesUptoRow : OpenClaim := { program := "yticpjaooegpipaadoor", sum := "bab233b49e206358b89a75af4b5198811ae382f91f7be792245a867e667cc0f6", func := "sharecore/sharecorelaw15.ParamsShares", spec := "paramsShares", inPlace := ["math/bits.Sub64"], unfollowed := true, recurses := true, named := ["sharecore/field.fields"], apart := false, laid := [("sharecore/field.fields", laid_sharecore_field_fields)], narrowed := true }
def ParamsSharesUptoSaid : Prop := paramsSharesUptoRow.holds Tryd.pinned (OpenSpec.upto paramsSharesSpec)

/-- 'sharecorelaw15.ParamsColumns', WHERE WHAT IT READS IS OF BULK AT MOST 1048576: true; the input reads as it did. -/
def paramsColumnsUptoRow : OpenClaim := { program := "yticpjaooegpipaadoor", sum := "bab233b49e206358b89a75af4b5198811ae382f91f7be792245a867e667cc0f6", func := "sharecore/sharecorelaw15.ParamsColumns", spec := "paramsColumns", inPlace := ["math/bits.Sub64"], unfollowed := true, recurses := true, named := ["sharecore/field.fields"], apart := false, laid := [("sharecore/field.fields", laid_sharecore_field_fields)], narrowed := true }
def ParamsColumnsUptoSaid : Prop := paramsColumnsUptoRow.holds Tryd.pinned (OpenSpec.upto paramsColumnsSpec)

/-- 'sharecorelaw15.ParamsSubsets', WHERE WHAT IT READS IS OF BULK AT MOST 1048576: true; the input reads as it did. -/
def paramsSubsetsUptoRow : OpenClaim := { program := "yticpjaooegpipaadoor", sum := "bab233b49e206358b89a75af4b5198811ae382f91f7be792245a867e667cc0f6", func := "sharecore/sharecorelaw15.ParamsSubsets", spec := "paramsSubsets", inPlace := ["math/bits.Sub64"], unfollowed := true, recurses := true, named := ["sharecore/field.fields"], apart := false, laid := [("sharecore/field.fields", laid_sharecore_field_fields)], narrowed := true }
def ParamsSubsetsUptoSaid : Prop := paramsSubsetsUptoRow.holds Tryd.pinned (OpenSpec.upto paramsSubsetsSpec)

/-- 'sharecorelaw15.ParamsForgetOrder', WHERE WHAT IT READS IS OF BULK AT MOST 1048576: true; the input reads as it did. -/
def paramsForgetOrderUptoRow : OpenClaim := { program := "yticpjaooegpipaadoor", sum := "bab233b49e206358b89a75af4b5198811ae382f91f7be792245a867e667cc0f6", func := "sharecore/sharecorelaw15.ParamsForgetOrder", spec := "paramsForgetOrder", inPlace := ["math/bits.Sub64"], unfollowed := true, recurses := true, named := ["sharecore/field.fields"], apart := false, laid := [("sharecore/field.fields", laid_sharecore_field_fields)], narrowed := true }
def ParamsForgetOrderUptoSaid : Prop := paramsForgetOrderUptoRow.holds Tryd.pinned (OpenSpec.upto paramsForgetOrderSpec)

end Rows
end Go.Proofs.YticpjaooegpipaaDoor
