/-
  No cell of these rows narrows 'for every input' (looked for: loops, veiled, ifaces, maps, wideKeys, modest, calm, conditions, laid).
  DERIVED. THE GIVEN ROWS OF THIS SEAT. 5 by the template 'for every input the law returns true; each argument reads behind the call as it read before'; 0 by the template 'total and deterministic' (their statements: YtfbejjobejdenaaTotals.lean).
  GIVEN WITH THE SEED: the statements are not yours to turn. If you find one false, say at which input.
  Laid BY PROGRAM, IN A SANDBOX (cutbox-rows.mjs): the forced cells as the released guide's own fill.sh prints them over the translation 4ae501df5ae9f76b… (all of the seat's roots in one cut). By AI agents, Wed Nov 11 2026. No macro, syntax, notation, axiom, sorry.
-/
import Derived.Test.YtfbejjobejdenaaChecked
import GoSem.Claim
import GoSem.ClaimJoined
import GoSem.ClaimMapViews
import Derived.JoinedTies
import Derived.KernelRfl
namespace Go.Proofs.Ytfbejjobejdenaa
/- THE CELL 'sum', in the pinned program and in every row, IS THE sha256 OF THE DUMP (.gsa) THAT YtfbejjobejdenaaProg.lean LOADS. Nothing in Lean hashes anything: it is a label: what it is worth is what the hold of that sum in a sandbox is worth. -/
noncomputable def Try.pinned : Pinned := { name := "ytfbejjobejdenaa", sum := "4ae501df5ae9f76bb575e3856d1080aa529b87d2699ae0db385aaa9bbb6f1c57", checked := Try.checked }
namespace Rows
def none {H : Type} : Left H := { results := [], args := [] }

/-- 'sluicelaw20.CodeSays': WHATEVER THE INPUT: true; the input reads as it did. -/
def codeSaysSpec : ChangeSpec := { name := "codeSays", fn := fun _ => fun
  | [d] => { results := [.lit (.bool true)], args := [d] }
  | _ => none }
def codeSaysRow : OpenClaim := { program := "ytfbejjobejdenaa", sum := "4ae501df5ae9f76bb575e3856d1080aa529b87d2699ae0db385aaa9bbb6f1c57", func := "sluice/sluicelaw20.CodeSays", spec := "codeSays", apart := false }
def CodeSaysSaid : Prop := codeSaysRow.holds Try.pinned (OpenSpec.ofChange codeSaysSpec)

/-- ITS FALSE NEIGHBOUR: 'it returns false'. Refute it at one input. -/
def codeSaysWrong : ChangeSpec := { name := "codeSays", fn := fun _ => fun
  | [d] => { results := [.lit (.bool false)], args := [d] }
  | _ => none }
def CodeSaysWrongFalsely : Prop := codeSaysRow.holds Try.pinned (OpenSpec.ofChange codeSaysWrong)

/-- 'sluicelaw20.CodeJoins': WHATEVER THE INPUT: true; the input reads as it did. -/
def codeJoinsSpec : ChangeSpec := { name := "codeJoins", fn := fun _ => fun
  | [d1, d2, d3] => { results := [.lit (.bool true)], args := [d1, d2, d3] }
  | _ => none }
def codeJoinsRow : OpenClaim := { program := "ytfbejjobejdenaa", sum := "4ae501df5ae9f76bb575e3856d1080aa529b87d2699ae0db385aaa9bbb6f1c57", func := "sluice/sluicelaw20.CodeJoins", spec := "codeJoins", unfollowed := true, recurses := true, apart := false }
def CodeJoinsSaid : Prop := codeJoinsRow.holds Try.pinned (OpenSpec.ofChange codeJoinsSpec)

/-- ITS FALSE NEIGHBOUR: 'it returns false'. Refute it at one input. -/
def codeJoinsWrong : ChangeSpec := { name := "codeJoins", fn := fun _ => fun
  | [d1, d2, d3] => { results := [.lit (.bool false)], args := [d1, d2, d3] }
  | _ => none }
def CodeJoinsWrongFalsely : Prop := codeJoinsRow.holds Try.pinned (OpenSpec.ofChange codeJoinsWrong)

/-- 'sluicelaw20.CodeParts': WHATEVER THE INPUT: true; the input reads as it did. -/
def codePartsSpec : ChangeSpec := { name := "codeParts", fn := fun _ => fun
  | [d1, d2] => { results := [.lit (.bool true)], args := [d1, d2] }
  | _ => none }
def codePartsRow : OpenClaim := { program := "ytfbejjobejdenaa", sum := "4ae501df5ae9f76bb575e3856d1080aa529b87d2699ae0db385aaa9bbb6f1c57", func := "sluice/sluicelaw20.CodeParts", spec := "codeParts", unfollowed := true, recurses := true, apart := false }
def CodePartsSaid : Prop := codePartsRow.holds Try.pinned (OpenSpec.ofChange codePartsSpec)

/-- ITS FALSE NEIGHBOUR: 'it returns false'. Refute it at one input. -/
def codePartsWrong : ChangeSpec := { name := "codeParts", fn := fun _ => fun
  | [d1, d2] => { results := [.lit (.bool false)], args := [d1, d2] }
  | _ => none }
def CodePartsWrongFalsely : Prop := codePartsRow.holds Try.pinned (OpenSpec.ofChange codePartsWrong)

/-- 'sluicelaw21.FlowDoes': WHATEVER THE INPUT: true; the input reads as it did. -/
def flowDoesSpec : ChangeSpec := { name := "flowDoes", fn := fun _ => fun
  | [d1, d2, d3] => { results := [.lit (.bool true)], args := [d1, d2, d3] }
  | _ => none }
def flowDoesRow : OpenClaim := { program := "ytfbejjobejdenaa", sum := "4ae501df5ae9f76bb575e3856d1080aa529b87d2699ae0db385aaa9bbb6f1c57", func := "sluice/sluicelaw21.FlowDoes", spec := "flowDoes", unfollowed := true, recurses := true, apart := false }
def FlowDoesSaid : Prop := flowDoesRow.holds Try.pinned (OpenSpec.ofChange flowDoesSpec)

/-- ITS FALSE NEIGHBOUR: 'it returns false'. Refute it at one input. -/
def flowDoesWrong : ChangeSpec := { name := "flowDoes", fn := fun _ => fun
  | [d1, d2, d3] => { results := [.lit (.bool false)], args := [d1, d2, d3] }
  | _ => none }
def FlowDoesWrongFalsely : Prop := flowDoesRow.holds Try.pinned (OpenSpec.ofChange flowDoesWrong)

/-- 'sluicelaw21.FlowGoes': WHATEVER THE INPUT: true; the input reads as it did. -/
def flowGoesSpec : ChangeSpec := { name := "flowGoes", fn := fun _ => fun
  | [d1, d2, d3] => { results := [.lit (.bool true)], args := [d1, d2, d3] }
  | _ => none }
def flowGoesRow : OpenClaim := { program := "ytfbejjobejdenaa", sum := "4ae501df5ae9f76bb575e3856d1080aa529b87d2699ae0db385aaa9bbb6f1c57", func := "sluice/sluicelaw21.FlowGoes", spec := "flowGoes", unfollowed := true, recurses := true, apart := false }
def FlowGoesSaid : Prop := flowGoesRow.holds Try.pinned (OpenSpec.ofChange flowGoesSpec)

/-- ITS FALSE NEIGHBOUR: 'it returns false'. Refute it at one input. -/
def flowGoesWrong : ChangeSpec := { name := "flowGoes", fn := fun _ => fun
  | [d1, d2, d3] => { results := [.lit (.bool false)], args := [d1, d2, d3] }
  | _ => none }
def FlowGoesWrongFalsely : Prop := flowGoesRow.holds Try.pinned (OpenSpec.ofChange flowGoesWrong)

/- THE SECOND FORM. 'bulk': how many values and letters a reading holds, each counted each time it is reached (what is shared counts as often as it is met; a slice's spare places count too). A statement '..UptoSaid' is the law's where the arguments, and the package variables that the reading takes, are together of bulk at most 1048576: NARROWER than '..Said'. Prove '..Said' where nothing that the law and all that it calls make is longer than what came in: it says more and counts as full. Else prove '..UptoSaid'. A law counts once. -/
mutual
def uptoBulk {H : Type} : DataW H → Nat
  | .lit (.string bytes) => bytes.length + 1
  | .lit _ => 1
  | .nil => 1
  | .ptr d => uptoBulk d + 1
  | .slice elems spare => uptoBulkAll elems + uptoBulkAll spare + 1
  | .agg parts => uptoBulkAll parts + 1
  | .iface _ d => uptoBulk d + 1
  | .map entries => uptoBulkEntries entries + 1
  | .held _ => 1
def uptoBulkAll {H : Type} : List (DataW H) → Nat
  | [] => 0
  | d :: r => uptoBulk d + uptoBulkAll r
def uptoBulkEntries {H : Type} : List (Lit × DataW H) → Nat
  | [] => 0
  | x :: r => uptoBulkEntry x + uptoBulkEntries r
def uptoBulkEntry {H : Type} : Lit × DataW H → Nat
  | (.string bytes, d) => bytes.length + uptoBulk d + 1
  | (_, d) => uptoBulk d + 1
 end
def uptoSmall : (H : Type) → List (DataW H) → Bool := fun _ ds => decide (uptoBulkAll ds ≤ 1048576)
def OpenSpec.upto (s : _root_.Go.ChangeSpec) : _root_.Go.OpenSpec := { _root_.Go.OpenSpec.ofChange s with cond := some uptoSmall }

/-- 'sluicelaw20.CodeSays', WHERE WHAT IT READS IS OF BULK AT MOST 1048576: true; the input reads as it did. -/
def codeSaysUptoRow : OpenClaim := { program := "ytfbejjobejdenaa", sum := "4ae501df5ae9f76bb575e3856d1080aa529b87d2699ae0db385aaa9bbb6f1c57", func := "sluice/sluicelaw20.CodeSays", spec := "codeSays", apart := false, narrowed := true }
def CodeSaysUptoSaid : Prop := codeSaysUptoRow.holds Try.pinned (OpenSpec.upto codeSaysSpec)

/-- 'sluicelaw20.CodeJoins', WHERE WHAT IT READS IS OF BULK AT MOST 1048576: true; the input reads as it did. -/
def codeJoinsUptoRow : OpenClaim := { program := "ytfbejjobejdenaa", sum := "4ae501df5ae9f76bb575e3856d1080aa529b87d2699ae0db385aaa9bbb6f1c57", func := "sluice/sluicelaw20.CodeJoins", spec := "codeJoins", unfollowed := true, recurses := true, apart := false, narrowed := true }
def CodeJoinsUptoSaid : Prop := codeJoinsUptoRow.holds Try.pinned (OpenSpec.upto codeJoinsSpec)

/-- 'sluicelaw20.CodeParts', WHERE WHAT IT READS IS OF BULK AT MOST 1048576: true; the input reads as it did. -/
def codePartsUptoRow : OpenClaim := { program := "ytfbejjobejdenaa", sum := "4ae501df5ae9f76bb575e3856d1080aa529b87d2699ae0db385aaa9bbb6f1c57", func := "sluice/sluicelaw20.CodeParts", spec := "codeParts", unfollowed := true, recurses := true, apart := false, narrowed := true }
def CodePartsUptoSaid : Prop := codePartsUptoRow.holds Try.pinned (OpenSpec.upto codePartsSpec)

/-- 'sluicelaw21.FlowDoes', WHERE WHAT IT READS IS OF BULK AT MOST 1048576: true; the input reads as it did. -/
def flowDoesUptoRow : OpenClaim := { program := "ytfbejjobejdenaa", sum := "4ae501df5ae9f76bb575e3856d1080aa529b87d2699ae0db385aaa9bbb6f1c57", func := "sluice/sluicelaw21.FlowDoes", spec := "flowDoes", unfollowed := true, recurses := true, apart := false, narrowed := true }
def FlowDoesUptoSaid : Prop := flowDoesUptoRow.holds Try.pinned (OpenSpec.upto flowDoesSpec)

/-- 'sluicelaw21.FlowGoes', WHERE WHAT IT READS IS OF BULK AT MOST 1048576: true; the input reads as it did. -/
def flowGoesUptoRow : OpenClaim := { program := "ytfbejjobejdenaa", sum := "4ae501df5ae9f76bb575e3856d1080aa529b87d2699ae0db385aaa9bbb6f1c57", func := "sluice/sluicelaw21.FlowGoes", spec := "flowGoes", unfollowed := true, recurses := true, apart := false, narrowed := true }
def FlowGoesUptoSaid : Prop := flowGoesUptoRow.holds Try.pinned (OpenSpec.upto flowGoesSpec)

end Rows
end Go.Proofs.Ytfbejjobejdenaa
