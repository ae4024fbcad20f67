/-
  No cell of these rows narrows 'for every input' (looked for: loops, veiled, ifaces, maps, wideKeys, modest, calm, conditions, laid).
  DERIVED. THE GIVEN ROWS OF THIS SEAT. 6 by the template 'for every input the law returns true; each argument reads behind the call as it read before'; 0 by the template 'total and deterministic' (their statements: YtbkpiegkiokdlaaTotals.lean).
  GIVEN WITH THE SEED: the statements are not yours to turn. If you find one false, say at which input.
  Laid BY PROGRAM, IN A SANDBOX (cutbox-rows.mjs): the forced cells as the released guide's own fill.sh prints them over the translation b77aa289f604fc68… (all of the seat's roots in one cut). By AI agents, Wed Nov 11 2026. No macro, syntax, notation, axiom, sorry.
-/
import Derived.Test.YtbkpiegkiokdlaaChecked
import GoSem.Claim
import GoSem.ClaimJoined
import GoSem.ClaimMapViews
import Derived.JoinedTies
import Derived.KernelRfl
namespace Go.Proofs.Ytbkpiegkiokdlaa
/- THE CELL 'sum', in the pinned program and in every row, IS THE sha256 OF THE DUMP (.gsa) THAT YtbkpiegkiokdlaaProg.lean LOADS. Nothing in Lean hashes anything: it is a label: what it is worth is what the hold of that sum in a sandbox is worth. -/
noncomputable def Try.pinned : Pinned := { name := "ytbkpiegkiokdlaa", sum := "b77aa289f604fc68876130c72a79ce272f302af9f98ac3357f38a172e0f8697b", checked := Try.checked }
namespace Rows
def none {H : Type} : Left H := { results := [], args := [] }

/-- 'sharecorelaw02.TapeSelects': WHATEVER THE INPUT: true; the input reads as it did. -/
def tapeSelectsSpec : ChangeSpec := { name := "tapeSelects", fn := fun _ => fun
  | [d1, d2, d3] => { results := [.lit (.bool true)], args := [d1, d2, d3] }
  | _ => none }
def tapeSelectsRow : OpenClaim := { program := "ytbkpiegkiokdlaa", sum := "b77aa289f604fc68876130c72a79ce272f302af9f98ac3357f38a172e0f8697b", func := "sharecore/sharecorelaw02.TapeSelects", spec := "tapeSelects", unfollowed := true, recurses := true, apart := false }
def TapeSelectsSaid : Prop := tapeSelectsRow.holds Try.pinned (OpenSpec.ofChange tapeSelectsSpec)

/-- ITS FALSE NEIGHBOUR: 'it returns false'. Refute it at one input. -/
def tapeSelectsWrong : ChangeSpec := { name := "tapeSelects", fn := fun _ => fun
  | [d1, d2, d3] => { results := [.lit (.bool false)], args := [d1, d2, d3] }
  | _ => none }
def TapeSelectsWrongFalsely : Prop := tapeSelectsRow.holds Try.pinned (OpenSpec.ofChange tapeSelectsWrong)

/-- 'sharecorelaw02.TapeCompares': WHATEVER THE INPUT: true; the input reads as it did. -/
def tapeComparesSpec : ChangeSpec := { name := "tapeCompares", fn := fun _ => fun
  | [d1, d2] => { results := [.lit (.bool true)], args := [d1, d2] }
  | _ => none }
def tapeComparesRow : OpenClaim := { program := "ytbkpiegkiokdlaa", sum := "b77aa289f604fc68876130c72a79ce272f302af9f98ac3357f38a172e0f8697b", func := "sharecore/sharecorelaw02.TapeCompares", spec := "tapeCompares", unfollowed := true, recurses := true, apart := false }
def TapeComparesSaid : Prop := tapeComparesRow.holds Try.pinned (OpenSpec.ofChange tapeComparesSpec)

/-- ITS FALSE NEIGHBOUR: 'it returns false'. Refute it at one input. -/
def tapeComparesWrong : ChangeSpec := { name := "tapeCompares", fn := fun _ => fun
  | [d1, d2] => { results := [.lit (.bool false)], args := [d1, d2] }
  | _ => none }
def TapeComparesWrongFalsely : Prop := tapeComparesRow.holds Try.pinned (OpenSpec.ofChange tapeComparesWrong)

/-- 'sharecorelaw02.TapeNone': WHATEVER THE INPUT: true; the input reads as it did. -/
def tapeNoneSpec : ChangeSpec := { name := "tapeNone", fn := fun _ => fun
  | [d1, d2] => { results := [.lit (.bool true)], args := [d1, d2] }
  | _ => none }
def tapeNoneRow : OpenClaim := { program := "ytbkpiegkiokdlaa", sum := "b77aa289f604fc68876130c72a79ce272f302af9f98ac3357f38a172e0f8697b", func := "sharecore/sharecorelaw02.TapeNone", spec := "tapeNone", unfollowed := true, recurses := true, apart := false }
def TapeNoneSaid : Prop := tapeNoneRow.holds Try.pinned (OpenSpec.ofChange tapeNoneSpec)

/-- ITS FALSE NEIGHBOUR: 'it returns false'. Refute it at one input. -/
def tapeNoneWrong : ChangeSpec := { name := "tapeNone", fn := fun _ => fun
  | [d1, d2] => { results := [.lit (.bool false)], args := [d1, d2] }
  | _ => none }
def TapeNoneWrongFalsely : Prop := tapeNoneRow.holds Try.pinned (OpenSpec.ofChange tapeNoneWrong)

/-- 'sharecorelaw02.TapeKeeps': WHATEVER THE INPUT: true; the input reads as it did. -/
def tapeKeepsSpec : ChangeSpec := { name := "tapeKeeps", fn := fun _ => fun
  | [d1, d2] => { results := [.lit (.bool true)], args := [d1, d2] }
  | _ => none }
def tapeKeepsRow : OpenClaim := { program := "ytbkpiegkiokdlaa", sum := "b77aa289f604fc68876130c72a79ce272f302af9f98ac3357f38a172e0f8697b", func := "sharecore/sharecorelaw02.TapeKeeps", spec := "tapeKeeps", unfollowed := true, recurses := true, apart := false }
def TapeKeepsSaid : Prop := tapeKeepsRow.holds Try.pinned (OpenSpec.ofChange tapeKeepsSpec)

/-- ITS FALSE NEIGHBOUR: 'it returns false'. Refute it at one input. -/
def tapeKeepsWrong : ChangeSpec := { name := "tapeKeeps", fn := fun _ => fun
  | [d1, d2] => { results := [.lit (.bool false)], args := [d1, d2] }
  | _ => none }
def TapeKeepsWrongFalsely : Prop := tapeKeepsRow.holds Try.pinned (OpenSpec.ofChange tapeKeepsWrong)

/-- 'sharecorelaw02.TapePlays': WHATEVER THE INPUT: true; the input reads as it did. -/
def tapePlaysSpec : ChangeSpec := { name := "tapePlays", fn := fun _ => fun
  | [d1, d2] => { results := [.lit (.bool true)], args := [d1, d2] }
  | _ => none }
def tapePlaysRow : OpenClaim := { program := "ytbkpiegkiokdlaa", sum := "b77aa289f604fc68876130c72a79ce272f302af9f98ac3357f38a172e0f8697b", func := "sharecore/sharecorelaw02.TapePlays", spec := "tapePlays", unfollowed := true, recurses := true, apart := false }
def TapePlaysSaid : Prop := tapePlaysRow.holds Try.pinned (OpenSpec.ofChange tapePlaysSpec)

/-- ITS FALSE NEIGHBOUR: 'it returns false'. Refute it at one input. -/
def tapePlaysWrong : ChangeSpec := { name := "tapePlays", fn := fun _ => fun
  | [d1, d2] => { results := [.lit (.bool false)], args := [d1, d2] }
  | _ => none }
def TapePlaysWrongFalsely : Prop := tapePlaysRow.holds Try.pinned (OpenSpec.ofChange tapePlaysWrong)

/-- 'sharecorelaw02.TapeOwnsItsEvents': WHATEVER THE INPUT: true; the input reads as it did. -/
def tapeOwnsItsEventsSpec : ChangeSpec := { name := "tapeOwnsItsEvents", fn := fun _ => fun
  | [d1, d2] => { results := [.lit (.bool true)], args := [d1, d2] }
  | _ => none }
def tapeOwnsItsEventsRow : OpenClaim := { program := "ytbkpiegkiokdlaa", sum := "b77aa289f604fc68876130c72a79ce272f302af9f98ac3357f38a172e0f8697b", func := "sharecore/sharecorelaw02.TapeOwnsItsEvents", spec := "tapeOwnsItsEvents", unfollowed := true, recurses := true, apart := false }
def TapeOwnsItsEventsSaid : Prop := tapeOwnsItsEventsRow.holds Try.pinned (OpenSpec.ofChange tapeOwnsItsEventsSpec)

/-- ITS FALSE NEIGHBOUR: 'it returns false'. Refute it at one input. -/
def tapeOwnsItsEventsWrong : ChangeSpec := { name := "tapeOwnsItsEvents", fn := fun _ => fun
  | [d1, d2] => { results := [.lit (.bool false)], args := [d1, d2] }
  | _ => none }
def TapeOwnsItsEventsWrongFalsely : Prop := tapeOwnsItsEventsRow.holds Try.pinned (OpenSpec.ofChange tapeOwnsItsEventsWrong)

/- THE SECOND FORM. 'bulk': how many values and letters a reading holds, each counted each time it is reached (what is shared counts as often as it is met; a slice's spare places count too). A statement '..UptoSaid' is the law's where the arguments, and the package variables that the reading takes, are together of bulk at most 1048576: NARROWER than '..Said'. Prove '..Said' where nothing that the law and all that it calls make is longer than what came in: it says more and counts as full. Else prove '..UptoSaid'. A law counts once. -/
mutual
def uptoBulk {H : Type} : DataW H → Nat
  | .lit (.string bytes) => bytes.length + 1
  | .lit _ => 1
  | .nil => 1
  | .ptr d => uptoBulk d + 1
  | .slice elems spare => uptoBulkAll elems + uptoBulkAll spare + 1
  | .agg parts => uptoBulkAll parts + 1
  | .iface _ d => uptoBulk d + 1
  | .map entries => uptoBulkEntries entries + 1
  | .held _ => 1
def uptoBulkAll {H : Type} : List (DataW H) → Nat
  | [] => 0
  | d :: r => uptoBulk d + uptoBulkAll r
def uptoBulkEntries {H : Type} : List (Lit × DataW H) → Nat
  | [] => 0
  | x :: r => uptoBulkEntry x + uptoBulkEntries r
def uptoBulkEntry {H : Type} : Lit × DataW H → Nat
  | (.string bytes, d) => bytes.length + uptoBulk d + 1
  | (_, d) => uptoBulk d + 1
 end
def uptoSmall : (H : Type) → List (DataW H) → Bool := fun _ ds => decide (uptoBulkAll ds ≤ 1048576)
def OpenSpec.upto (s : _root_.Go.ChangeSpec) : _root_.Go.OpenSpec := { _root_.Go.OpenSpec.ofChange s with cond := some uptoSmall }

/-- 'sharecorelaw02.TapeSelects', WHERE WHAT IT READS IS OF BULK AT MOST 1048576: true; the input reads as it did. -/
def tapeSelectsUptoRow : OpenClaim := { program := "ytbkpiegkiokdlaa", sum := "b77aa289f604fc68876130c72a79ce272f302af9f98ac3357f38a172e0f8697b", func := "sharecore/sharecorelaw02.TapeSelects", spec := "tapeSelects", unfollowed := true, recurses := true, apart := false, narrowed := true }
def TapeSelectsUptoSaid : Prop := tapeSelectsUptoRow.holds Try.pinned (OpenSpec.upto tapeSelectsSpec)

/-- 'sharecorelaw02.TapeCompares', WHERE WHAT IT READS IS OF BULK AT MOST 1048576: true; the input reads as it did. -/
def tapeComparesUptoRow : OpenClaim := { program := "ytbkpiegkiokdlaa", sum := "b77aa289f604fc68876130c72a79ce272f302af9f98ac3357f38a172e0f8697b", func := "sharecore/sharecorelaw02.TapeCompares", spec := "tapeCompares", unfollowed := true, recurses := true, apart := false, narrowed := true }
def TapeComparesUptoSaid : Prop := tapeComparesUptoRow.holds Try.pinned (OpenSpec.upto tapeComparesSpec)

/-- 'sharecorelaw02.TapeNone', WHERE WHAT IT READS IS OF BULK AT MOST 1048576: true; the input reads as it did. -/
def tapeNoneUptoRow : OpenClaim := { program := "ytbkpiegkiokdlaa", sum := "b77aa289f604fc68876130c72a79ce272f302af9f98ac3357f38a172e0f8697b", func := "sharecore/sharecorelaw02.TapeNone", spec := "tapeNone", unfollowed := true, recurses := true, apart := false, narrowed := true }
def TapeNoneUptoSaid : Prop := tapeNoneUptoRow.holds Try.pinned (OpenSpec.upto tapeNoneSpec)

/-- 'sharecorelaw02.TapeKeeps', WHERE WHAT IT READS IS OF BULK AT MOST 1048576: true; the input reads as it did. -/
def tapeKeepsUptoRow : OpenClaim := { program := "ytbkpiegkiokdlaa", sum := "b77aa289f604fc68876130c72a79ce272f302af9f98ac3357f38a172e0f8697b", func := "sharecore/sharecorelaw02.TapeKeeps", spec := "tapeKeeps", unfollowed := true, recurses := true, apart := false, narrowed := true }
def TapeKeepsUptoSaid : Prop := tapeKeepsUptoRow.holds Try.pinned (OpenSpec.upto tapeKeepsSpec)

/-- 'sharecorelaw02.TapePlays', WHERE WHAT IT READS IS OF BULK AT MOST 1048576: true; the input reads as it did. -/
def tapePlaysUptoRow : OpenClaim := { program := "ytbkpiegkiokdlaa", sum := "b77aa289f604fc68876130c72a79ce272f302af9f98ac3357f38a172e0f8697b", func := "sharecore/sharecorelaw02.TapePlays", spec := "tapePlays", unfollowed := true, recurses := true, apart := false, narrowed := true }
def TapePlaysUptoSaid : Prop := tapePlaysUptoRow.holds Try.pinned (OpenSpec.upto tapePlaysSpec)

/-- 'sharecorelaw02.TapeOwnsItsEvents', WHERE WHAT IT READS IS OF BULK AT MOST 1048576: true; the input reads as it did. -/
def tapeOwnsItsEventsUptoRow : OpenClaim := { program := "ytbkpiegkiokdlaa", sum := "b77aa289f604fc68876130c72a79ce272f302af9f98ac3357f38a172e0f8697b", func := "sharecore/sharecorelaw02.TapeOwnsItsEvents", spec := "tapeOwnsItsEvents", unfollowed := true, recurses := true, apart := false, narrowed := true }
def TapeOwnsItsEventsUptoSaid : Prop := tapeOwnsItsEventsUptoRow.holds Try.pinned (OpenSpec.upto tapeOwnsItsEventsSpec)

end Rows
end Go.Proofs.Ytbkpiegkiokdlaa
