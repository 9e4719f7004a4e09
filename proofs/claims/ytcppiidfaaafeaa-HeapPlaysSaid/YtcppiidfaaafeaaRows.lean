/-
  No cell of these rows narrows 'for every input' (looked for: loops, veiled, ifaces, maps, wideKeys, modest, calm, conditions, laid).
  DERIVED. THE GIVEN ROWS OF THIS SEAT. 3 by the template 'for every input the law returns true; each argument reads behind the call as it read before'; 0 by the template 'total and deterministic' (their statements: YtcppiidfaaafeaaTotals.lean).
  GIVEN WITH THE SEED: the statements are not yours to turn. If you find one false, say at which input.
  Laid BY PROGRAM, IN A SANDBOX (cutbox-rows.mjs): the forced cells as the released guide's own fill.sh prints them over the translation 26f62988ac49478a… (all of the seat's roots in one cut). By AI agents, Wed Nov 11 2026. No macro, syntax, notation, axiom, sorry.
-/
import Derived.Test.YtcppiidfaaafeaaChecked
import GoSem.Claim
import GoSem.ClaimJoined
import GoSem.ClaimMapViews
import Derived.JoinedTies
import Derived.KernelRfl
namespace Go.Proofs.Ytcppiidfaaafeaa
/- THE CELL 'sum', in the pinned program and in every row, IS THE sha256 OF THE DUMP (.gsa) THAT YtcppiidfaaafeaaProg.lean LOADS. Nothing in Lean hashes anything: it is a label: what it is worth is what the hold of that sum in a sandbox is worth. -/
noncomputable def Try.pinned : Pinned := { name := "ytcppiidfaaafeaa", sum := "26f62988ac49478a97d23a0f05a08736d54cf06a6d90a74934467c77aaadf3bc", checked := Try.checked }
namespace Rows
def none {H : Type} : Left H := { results := [], args := [] }

/-- 'sluicelaw06.HeapPlays': WHATEVER THE INPUT: true; the input reads as it did. -/
def heapPlaysSpec : ChangeSpec := { name := "heapPlays", fn := fun _ => fun
  | [d1, d2] => { results := [.lit (.bool true)], args := [d1, d2] }
  | _ => none }
def heapPlaysRow : OpenClaim := { program := "ytcppiidfaaafeaa", sum := "26f62988ac49478a97d23a0f05a08736d54cf06a6d90a74934467c77aaadf3bc", func := "sluice/sluicelaw06.HeapPlays", spec := "heapPlays", unfollowed := true, recurses := true, apart := false }
def HeapPlaysSaid : Prop := heapPlaysRow.holds Try.pinned (OpenSpec.ofChange heapPlaysSpec)

/-- ITS FALSE NEIGHBOUR: 'it returns false'. Refute it at one input. -/
def heapPlaysWrong : ChangeSpec := { name := "heapPlays", fn := fun _ => fun
  | [d1, d2] => { results := [.lit (.bool false)], args := [d1, d2] }
  | _ => none }
def HeapPlaysWrongFalsely : Prop := heapPlaysRow.holds Try.pinned (OpenSpec.ofChange heapPlaysWrong)

/-- 'sluicelaw06.HeapTwo': WHATEVER THE INPUT: true; the input reads as it did. -/
def heapTwoSpec : ChangeSpec := { name := "heapTwo", fn := fun _ => fun
  | [d] => { results := [.lit (.bool true)], args := [d] }
  | _ => none }
def heapTwoRow : OpenClaim := { program := "ytcppiidfaaafeaa", sum := "26f62988ac49478a97d23a0f05a08736d54cf06a6d90a74934467c77aaadf3bc", func := "sluice/sluicelaw06.HeapTwo", spec := "heapTwo", unfollowed := true, recurses := true, apart := false }
def HeapTwoSaid : Prop := heapTwoRow.holds Try.pinned (OpenSpec.ofChange heapTwoSpec)

/-- ITS FALSE NEIGHBOUR: 'it returns false'. Refute it at one input. -/
def heapTwoWrong : ChangeSpec := { name := "heapTwo", fn := fun _ => fun
  | [d] => { results := [.lit (.bool false)], args := [d] }
  | _ => none }
def HeapTwoWrongFalsely : Prop := heapTwoRow.holds Try.pinned (OpenSpec.ofChange heapTwoWrong)

/-- 'sluicelaw06.HeapGreat': WHATEVER THE INPUT: true; the input reads as it did. -/
def heapGreatSpec : ChangeSpec := { name := "heapGreat", fn := fun _ => fun
  | [d1, d2] => { results := [.lit (.bool true)], args := [d1, d2] }
  | _ => none }
def heapGreatRow : OpenClaim := { program := "ytcppiidfaaafeaa", sum := "26f62988ac49478a97d23a0f05a08736d54cf06a6d90a74934467c77aaadf3bc", func := "sluice/sluicelaw06.HeapGreat", spec := "heapGreat", unfollowed := true, recurses := true, apart := false }
def HeapGreatSaid : Prop := heapGreatRow.holds Try.pinned (OpenSpec.ofChange heapGreatSpec)

/-- ITS FALSE NEIGHBOUR: 'it returns false'. Refute it at one input. -/
def heapGreatWrong : ChangeSpec := { name := "heapGreat", fn := fun _ => fun
  | [d1, d2] => { results := [.lit (.bool false)], args := [d1, d2] }
  | _ => none }
def HeapGreatWrongFalsely : Prop := heapGreatRow.holds Try.pinned (OpenSpec.ofChange heapGreatWrong)

/- THE SECOND FORM. 'bulk': how many values and letters a reading holds, each counted each time it is reached (what is shared counts as often as it is met; a slice's spare places count too). A statement '..UptoSaid' is the law's where the arguments, and the package variables that the reading takes, are together of bulk at most 1048576: NARROWER than '..Said'. Prove '..Said' where nothing that the law and all that it calls make is longer than what came in: it says more and counts as full. Else prove '..UptoSaid'. A law counts once. -/
mutual
def uptoBulk {H : Type} : DataW H → Nat
  | .lit (.string bytes) => bytes.length + 1
  | .lit _ => 1
  | .nil => 1
  | .ptr d => uptoBulk d + 1
  | .slice elems spare => uptoBulkAll elems + uptoBulkAll spare + 1
  | .agg parts => uptoBulkAll parts + 1
  | .iface _ d => uptoBulk d + 1
  | .map entries => uptoBulkEntries entries + 1
  | .held _ => 1
def uptoBulkAll {H : Type} : List (DataW H) → Nat
  | [] => 0
  | d :: r => uptoBulk d + uptoBulkAll r
def uptoBulkEntries {H : Type} : List (Lit × DataW H) → Nat
  | [] => 0
  | x :: r => uptoBulkEntry x + uptoBulkEntries r
def uptoBulkEntry {H : Type} : Lit × DataW H → Nat
  | (.string bytes, d) => bytes.length + uptoBulk d + 1
  | (_, d) => uptoBulk d + 1
 end
def uptoSmall : (H : Type) → List (DataW H) → Bool := fun _ ds => decide (uptoBulkAll ds ≤ 1048576)
def OpenSpec.upto (s : _root_.Go.ChangeSpec) : _root_.Go.OpenSpec := { _root_.Go.OpenSpec.ofChange s with cond := some uptoSmall }

/-- 'sluicelaw06.HeapPlays', WHERE WHAT IT READS IS OF BULK AT MOST 1048576: true; the input reads as it did. -/
def heapPlaysUptoRow : OpenClaim := { program := "ytcppiidfaaafeaa", sum := "26f62988ac49478a97d23a0f05a08736d54cf06a6d90a74934467c77aaadf3bc", func := "sluice/sluicelaw06.HeapPlays", spec := "heapPlays", unfollowed := true, recurses := true, apart := false, narrowed := true }
def HeapPlaysUptoSaid : Prop := heapPlaysUptoRow.holds Try.pinned (OpenSpec.upto heapPlaysSpec)

/-- 'sluicelaw06.HeapTwo', WHERE WHAT IT READS IS OF BULK AT MOST 1048576: true; the input reads as it did. -/
def heapTwoUptoRow : OpenClaim := { program := "ytcppiidfaaafeaa", sum := "26f62988ac49478a97d23a0f05a08736d54cf06a6d90a74934467c77aaadf3bc", func := "sluice/sluicelaw06.HeapTwo", spec := "heapTwo", unfollowed := true, recurses := true, apart := false, narrowed := true }
def HeapTwoUptoSaid : Prop := heapTwoUptoRow.holds Try.pinned (OpenSpec.upto heapTwoSpec)

/-- 'sluicelaw06.HeapGreat', WHERE WHAT IT READS IS OF BULK AT MOST 1048576: true; the input reads as it did. -/
def heapGreatUptoRow : OpenClaim := { program := "ytcppiidfaaafeaa", sum := "26f62988ac49478a97d23a0f05a08736d54cf06a6d90a74934467c77aaadf3bc", func := "sluice/sluicelaw06.HeapGreat", spec := "heapGreat", unfollowed := true, recurses := true, apart := false, narrowed := true }
def HeapGreatUptoSaid : Prop := heapGreatUptoRow.holds Try.pinned (OpenSpec.upto heapGreatSpec)

end Rows
end Go.Proofs.Ytcppiidfaaafeaa
