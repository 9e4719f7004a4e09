/-
  No cell of these rows narrows 'for every input' (looked for: loops, veiled, ifaces, maps, wideKeys, modest, calm, conditions, laid).
  DERIVED. THE GIVEN ROWS OF THIS SEAT. 5 by the template 'for every input the law returns true; each argument reads behind the call as it read before'; 0 by the template 'total and deterministic' (their statements: YthchppnfffllnaaTotals.lean).
  GIVEN WITH THE SEED: the statements are not yours to turn. If you find one false, say at which input.
  Laid BY PROGRAM, IN A SANDBOX (cutbox-rows.mjs): the forced cells as the released guide's own fill.sh prints them over the translation f78fe750ef59122e… (all of the seat's roots in one cut). By AI agents, Wed Nov 11 2026. No macro, syntax, notation, axiom, sorry.
-/
import Derived.Test.YthchppnfffllnaaChecked
import GoSem.Claim
import GoSem.ClaimJoined
import GoSem.ClaimMapViews
import Derived.JoinedTies
import Derived.KernelRfl
namespace Go.Proofs.Ythchppnfffllnaa
/- THE CELL 'sum', in the pinned program and in every row, IS THE sha256 OF THE DUMP (.gsa) THAT YthchppnfffllnaaProg.lean LOADS. Nothing in Lean hashes anything: it is a label: what it is worth is what the hold of that sum in a sandbox is worth. -/
noncomputable def Try.pinned : Pinned := { name := "ythchppnfffllnaa", sum := "f78fe750ef59122e0817167d449269c6299c2327e356194c4ddd6d42f1785f08", checked := Try.checked }
namespace Rows
def none {H : Type} : Left H := { results := [], args := [] }

/-- 'sluicelaw03.ChainScript': WHATEVER THE INPUT: true; the input reads as it did. -/
def chainScriptSpec : ChangeSpec := { name := "chainScript", fn := fun _ => fun
  | [d1, d2] => { results := [.lit (.bool true)], args := [d1, d2] }
  | _ => none }
def chainScriptRow : OpenClaim := { program := "ythchppnfffllnaa", sum := "f78fe750ef59122e0817167d449269c6299c2327e356194c4ddd6d42f1785f08", func := "sluice/sluicelaw03.ChainScript", spec := "chainScript", unfollowed := true, recurses := true, apart := false }
def ChainScriptSaid : Prop := chainScriptRow.holds Try.pinned (OpenSpec.ofChange chainScriptSpec)

/-- ITS FALSE NEIGHBOUR: 'it returns false'. Refute it at one input. -/
def chainScriptWrong : ChangeSpec := { name := "chainScript", fn := fun _ => fun
  | [d1, d2] => { results := [.lit (.bool false)], args := [d1, d2] }
  | _ => none }
def ChainScriptWrongFalsely : Prop := chainScriptRow.holds Try.pinned (OpenSpec.ofChange chainScriptWrong)

/-- 'sluicelaw03.ChainLeast': WHATEVER THE INPUT: true; the input reads as it did. -/
def chainLeastSpec : ChangeSpec := { name := "chainLeast", fn := fun _ => fun
  | [d1, d2] => { results := [.lit (.bool true)], args := [d1, d2] }
  | _ => none }
def chainLeastRow : OpenClaim := { program := "ythchppnfffllnaa", sum := "f78fe750ef59122e0817167d449269c6299c2327e356194c4ddd6d42f1785f08", func := "sluice/sluicelaw03.ChainLeast", spec := "chainLeast", unfollowed := true, recurses := true, apart := false }
def ChainLeastSaid : Prop := chainLeastRow.holds Try.pinned (OpenSpec.ofChange chainLeastSpec)

/-- ITS FALSE NEIGHBOUR: 'it returns false'. Refute it at one input. -/
def chainLeastWrong : ChangeSpec := { name := "chainLeast", fn := fun _ => fun
  | [d1, d2] => { results := [.lit (.bool false)], args := [d1, d2] }
  | _ => none }
def ChainLeastWrongFalsely : Prop := chainLeastRow.holds Try.pinned (OpenSpec.ofChange chainLeastWrong)

/-- 'sluicelaw03.ChainTurned': WHATEVER THE INPUT: true; the input reads as it did. -/
def chainTurnedSpec : ChangeSpec := { name := "chainTurned", fn := fun _ => fun
  | [d1, d2] => { results := [.lit (.bool true)], args := [d1, d2] }
  | _ => none }
def chainTurnedRow : OpenClaim := { program := "ythchppnfffllnaa", sum := "f78fe750ef59122e0817167d449269c6299c2327e356194c4ddd6d42f1785f08", func := "sluice/sluicelaw03.ChainTurned", spec := "chainTurned", unfollowed := true, recurses := true, apart := false }
def ChainTurnedSaid : Prop := chainTurnedRow.holds Try.pinned (OpenSpec.ofChange chainTurnedSpec)

/-- ITS FALSE NEIGHBOUR: 'it returns false'. Refute it at one input. -/
def chainTurnedWrong : ChangeSpec := { name := "chainTurned", fn := fun _ => fun
  | [d1, d2] => { results := [.lit (.bool false)], args := [d1, d2] }
  | _ => none }
def ChainTurnedWrongFalsely : Prop := chainTurnedRow.holds Try.pinned (OpenSpec.ofChange chainTurnedWrong)

/-- 'sluicelaw03.ChainCuts': WHATEVER THE INPUT: true; the input reads as it did. -/
def chainCutsSpec : ChangeSpec := { name := "chainCuts", fn := fun _ => fun
  | [d1, d2, d3] => { results := [.lit (.bool true)], args := [d1, d2, d3] }
  | _ => none }
def chainCutsRow : OpenClaim := { program := "ythchppnfffllnaa", sum := "f78fe750ef59122e0817167d449269c6299c2327e356194c4ddd6d42f1785f08", func := "sluice/sluicelaw03.ChainCuts", spec := "chainCuts", unfollowed := true, recurses := true, apart := false }
def ChainCutsSaid : Prop := chainCutsRow.holds Try.pinned (OpenSpec.ofChange chainCutsSpec)

/-- ITS FALSE NEIGHBOUR: 'it returns false'. Refute it at one input. -/
def chainCutsWrong : ChangeSpec := { name := "chainCuts", fn := fun _ => fun
  | [d1, d2, d3] => { results := [.lit (.bool false)], args := [d1, d2, d3] }
  | _ => none }
def ChainCutsWrongFalsely : Prop := chainCutsRow.holds Try.pinned (OpenSpec.ofChange chainCutsWrong)

/-- 'sluicelaw03.ChainWords': WHATEVER THE INPUT: true; the input reads as it did. -/
def chainWordsSpec : ChangeSpec := { name := "chainWords", fn := fun _ => fun
  | [d] => { results := [.lit (.bool true)], args := [d] }
  | _ => none }
def chainWordsRow : OpenClaim := { program := "ythchppnfffllnaa", sum := "f78fe750ef59122e0817167d449269c6299c2327e356194c4ddd6d42f1785f08", func := "sluice/sluicelaw03.ChainWords", spec := "chainWords", unfollowed := true, recurses := true, apart := false }
def ChainWordsSaid : Prop := chainWordsRow.holds Try.pinned (OpenSpec.ofChange chainWordsSpec)

/-- ITS FALSE NEIGHBOUR: 'it returns false'. Refute it at one input. -/
def chainWordsWrong : ChangeSpec := { name := "chainWords", fn := fun _ => fun
  | [d] => { results := [.lit (.bool false)], args := [d] }
  | _ => none }
def ChainWordsWrongFalsely : Prop := chainWordsRow.holds Try.pinned (OpenSpec.ofChange chainWordsWrong)

/- THE SECOND FORM. 'bulk': how many values and letters a reading holds, each counted each time it is reached (what is shared counts as often as it is met; a slice's spare places count too). A statement '..UptoSaid' is the law's where the arguments, and the package variables that the reading takes, are together of bulk at most 1048576: NARROWER than '..Said'. Prove '..Said' where nothing that the law and all that it calls make is longer than what came in: it says more and counts as full. Else prove '..UptoSaid'. A law counts once. -/
mutual
def uptoBulk {H : Type} : DataW H → Nat
  | .lit (.string bytes) => bytes.length + 1
  | .lit _ => 1
  | .nil => 1
  | .ptr d => uptoBulk d + 1
  | .slice elems spare => uptoBulkAll elems + uptoBulkAll spare + 1
  | .agg parts => uptoBulkAll parts + 1
  | .iface _ d => uptoBulk d + 1
  | .map entries => uptoBulkEntries entries + 1
  | .held _ => 1
def uptoBulkAll {H : Type} : List (DataW H) → Nat
  | [] => 0
  | d :: r => uptoBulk d + uptoBulkAll r
def uptoBulkEntries {H : Type} : List (Lit × DataW H) → Nat
  | [] => 0
  | x :: r => uptoBulkEntry x + uptoBulkEntries r
def uptoBulkEntry {H : Type} : Lit × DataW H → Nat
  | (.string bytes, d) => bytes.length + uptoBulk d + 1
  | (_, d) => uptoBulk d + 1
 end
def uptoSmall : (H : Type) → List (DataW H) → Bool := fun _ ds => decide (uptoBulkAll ds ≤ 1048576)
def OpenSpec.upto (s : _root_.Go.ChangeSpec) : _root_.Go.OpenSpec := { _root_.Go.OpenSpec.ofChange s with cond := some uptoSmall }

/-- 'sluicelaw03.ChainScript', WHERE WHAT IT READS IS OF BULK AT MOST 1048576: true; the input reads as it did. -/
def chainScriptUptoRow : OpenClaim := { program := "ythchppnfffllnaa", sum := "f78fe750ef59122e0817167d449269c6299c2327e356194c4ddd6d42f1785f08", func := "sluice/sluicelaw03.ChainScript", spec := "chainScript", unfollowed := true, recurses := true, apart := false, narrowed := true }
def ChainScriptUptoSaid : Prop := chainScriptUptoRow.holds Try.pinned (OpenSpec.upto chainScriptSpec)

/-- 'sluicelaw03.ChainLeast', WHERE WHAT IT READS IS OF BULK AT MOST 1048576: true; the input reads as it did. -/
def chainLeastUptoRow : OpenClaim := { program := "ythchppnfffllnaa", sum := "f78fe750ef59122e0817167d449269c6299c2327e356194c4ddd6d42f1785f08", func := "sluice/sluicelaw03.ChainLeast", spec := "chainLeast", unfollowed := true, recurses := true, apart := false, narrowed := true }
def ChainLeastUptoSaid : Prop := chainLeastUptoRow.holds Try.pinned (OpenSpec.upto chainLeastSpec)

/-- 'sluicelaw03.ChainTurned', WHERE WHAT IT READS IS OF BULK AT MOST 1048576: true; the input reads as it did. -/
def chainTurnedUptoRow : OpenClaim := { program := "ythchppnfffllnaa", sum := "f78fe750ef59122e0817167d449269c6299c2327e356194c4ddd6d42f1785f08", func := "sluice/sluicelaw03.ChainTurned", spec := "chainTurned", unfollowed := true, recurses := true, apart := false, narrowed := true }
def ChainTurnedUptoSaid : Prop := chainTurnedUptoRow.holds Try.pinned (OpenSpec.upto chainTurnedSpec)

/-- 'sluicelaw03.ChainCuts', WHERE WHAT IT READS IS OF BULK AT MOST 1048576: true; the input reads as it did. -/
def chainCutsUptoRow : OpenClaim := { program := "ythchppnfffllnaa", sum := "f78fe750ef59122e0817167d449269c6299c2327e356194c4ddd6d42f1785f08", func := "sluice/sluicelaw03.ChainCuts", spec := "chainCuts", unfollowed := true, recurses := true, apart := false, narrowed := true }
def ChainCutsUptoSaid : Prop := chainCutsUptoRow.holds Try.pinned (OpenSpec.upto chainCutsSpec)

/-- 'sluicelaw03.ChainWords', WHERE WHAT IT READS IS OF BULK AT MOST 1048576: true; the input reads as it did. -/
def chainWordsUptoRow : OpenClaim := { program := "ythchppnfffllnaa", sum := "f78fe750ef59122e0817167d449269c6299c2327e356194c4ddd6d42f1785f08", func := "sluice/sluicelaw03.ChainWords", spec := "chainWords", unfollowed := true, recurses := true, apart := false, narrowed := true }
def ChainWordsUptoSaid : Prop := chainWordsUptoRow.holds Try.pinned (OpenSpec.upto chainWordsSpec)

end Rows
end Go.Proofs.Ythchppnfffllnaa
