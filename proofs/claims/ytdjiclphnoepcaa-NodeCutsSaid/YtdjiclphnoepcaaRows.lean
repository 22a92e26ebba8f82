/-
  No cell of these rows narrows 'for every input' (looked for: loops, veiled, ifaces, maps, wideKeys, modest, calm, conditions, laid).
  DERIVED. THE GIVEN ROWS OF THIS SEAT. 6 by the template 'for every input the law returns true; each argument reads behind the call as it read before'; 0 by the template 'total and deterministic' (their statements: YtdjiclphnoepcaaTotals.lean).
  GIVEN WITH THE SEED: the statements are not yours to turn. If you find one false, say at which input.
  Laid BY PROGRAM, IN A SANDBOX (cutbox-rows.mjs): the forced cells as the released guide's own fill.sh prints them over the translation 2c4a5d8580a2120d… (all of the seat's roots in one cut). By AI agents, Wed Nov 11 2026. No macro, syntax, notation, axiom, sorry.
-/
import Derived.Test.YtdjiclphnoepcaaChecked
import GoSem.Claim
import GoSem.ClaimJoined
import GoSem.ClaimMapViews
import Derived.JoinedTies
import Derived.KernelRfl
namespace Go.Proofs.Ytdjiclphnoepcaa
/- THE CELL 'sum', in the pinned program and in every row, IS THE sha256 OF THE DUMP (.gsa) THAT YtdjiclphnoepcaaProg.lean LOADS. Nothing in Lean hashes anything: it is a label: what it is worth is what the hold of that sum in a sandbox is worth. -/
noncomputable def Try.pinned : Pinned := { name := "ytdjiclphnoepcaa", sum := "2c4a5d8580a2120d0609e6badd6bc11783cd27f21d7bcc5a834dcbd83ead36f3", checked := Try.checked }
namespace Rows
def none {H : Type} : Left H := { results := [], args := [] }

/-- 'tailracelaw10.NodeNames': WHATEVER THE INPUT: true; the input reads as it did. -/
def nodeNamesSpec : ChangeSpec := { name := "nodeNames", fn := fun _ => fun
  | [] => { results := [.lit (.bool true)], args := [] }
  | _ => none }
def nodeNamesRow : OpenClaim := { program := "ytdjiclphnoepcaa", sum := "2c4a5d8580a2120d0609e6badd6bc11783cd27f21d7bcc5a834dcbd83ead36f3", func := "tailrace/tailracelaw10.NodeNames", spec := "nodeNames", unfollowed := true, recurses := true, apart := false }
def NodeNamesSaid : Prop := nodeNamesRow.holds Try.pinned (OpenSpec.ofChange nodeNamesSpec)

/-- ITS FALSE NEIGHBOUR: 'it returns false'. Refute it at one input. -/
def nodeNamesWrong : ChangeSpec := { name := "nodeNames", fn := fun _ => fun
  | [] => { results := [.lit (.bool false)], args := [] }
  | _ => none }
def NodeNamesWrongFalsely : Prop := nodeNamesRow.holds Try.pinned (OpenSpec.ofChange nodeNamesWrong)

/-- 'tailracelaw10.NodeTells': WHATEVER THE INPUT: true; the input reads as it did. -/
def nodeTellsSpec : ChangeSpec := { name := "nodeTells", fn := fun _ => fun
  | [d] => { results := [.lit (.bool true)], args := [d] }
  | _ => none }
def nodeTellsRow : OpenClaim := { program := "ytdjiclphnoepcaa", sum := "2c4a5d8580a2120d0609e6badd6bc11783cd27f21d7bcc5a834dcbd83ead36f3", func := "tailrace/tailracelaw10.NodeTells", spec := "nodeTells", unfollowed := true, recurses := true, apart := false }
def NodeTellsSaid : Prop := nodeTellsRow.holds Try.pinned (OpenSpec.ofChange nodeTellsSpec)

/-- ITS FALSE NEIGHBOUR: 'it returns false'. Refute it at one input. -/
def nodeTellsWrong : ChangeSpec := { name := "nodeTells", fn := fun _ => fun
  | [d] => { results := [.lit (.bool false)], args := [d] }
  | _ => none }
def NodeTellsWrongFalsely : Prop := nodeTellsRow.holds Try.pinned (OpenSpec.ofChange nodeTellsWrong)

/-- 'tailracelaw10.NodeDecodes': WHATEVER THE INPUT: true; the input reads as it did. -/
def nodeDecodesSpec : ChangeSpec := { name := "nodeDecodes", fn := fun _ => fun
  | [d1, d2] => { results := [.lit (.bool true)], args := [d1, d2] }
  | _ => none }
def nodeDecodesRow : OpenClaim := { program := "ytdjiclphnoepcaa", sum := "2c4a5d8580a2120d0609e6badd6bc11783cd27f21d7bcc5a834dcbd83ead36f3", func := "tailrace/tailracelaw10.NodeDecodes", spec := "nodeDecodes", unfollowed := true, recurses := true, apart := false }
def NodeDecodesSaid : Prop := nodeDecodesRow.holds Try.pinned (OpenSpec.ofChange nodeDecodesSpec)

/-- ITS FALSE NEIGHBOUR: 'it returns false'. Refute it at one input. -/
def nodeDecodesWrong : ChangeSpec := { name := "nodeDecodes", fn := fun _ => fun
  | [d1, d2] => { results := [.lit (.bool false)], args := [d1, d2] }
  | _ => none }
def NodeDecodesWrongFalsely : Prop := nodeDecodesRow.holds Try.pinned (OpenSpec.ofChange nodeDecodesWrong)

/-- 'tailracelaw10.NodeBack': WHATEVER THE INPUT: true; the input reads as it did. -/
def nodeBackSpec : ChangeSpec := { name := "nodeBack", fn := fun _ => fun
  | [d1, d2, d3] => { results := [.lit (.bool true)], args := [d1, d2, d3] }
  | _ => none }
def nodeBackRow : OpenClaim := { program := "ytdjiclphnoepcaa", sum := "2c4a5d8580a2120d0609e6badd6bc11783cd27f21d7bcc5a834dcbd83ead36f3", func := "tailrace/tailracelaw10.NodeBack", spec := "nodeBack", unfollowed := true, recurses := true, apart := false }
def NodeBackSaid : Prop := nodeBackRow.holds Try.pinned (OpenSpec.ofChange nodeBackSpec)

/-- ITS FALSE NEIGHBOUR: 'it returns false'. Refute it at one input. -/
def nodeBackWrong : ChangeSpec := { name := "nodeBack", fn := fun _ => fun
  | [d1, d2, d3] => { results := [.lit (.bool false)], args := [d1, d2, d3] }
  | _ => none }
def NodeBackWrongFalsely : Prop := nodeBackRow.holds Try.pinned (OpenSpec.ofChange nodeBackWrong)

/-- 'tailracelaw10.NodeGrows': WHATEVER THE INPUT: true; the input reads as it did. -/
def nodeGrowsSpec : ChangeSpec := { name := "nodeGrows", fn := fun _ => fun
  | [d1, d2, d3] => { results := [.lit (.bool true)], args := [d1, d2, d3] }
  | _ => none }
def nodeGrowsRow : OpenClaim := { program := "ytdjiclphnoepcaa", sum := "2c4a5d8580a2120d0609e6badd6bc11783cd27f21d7bcc5a834dcbd83ead36f3", func := "tailrace/tailracelaw10.NodeGrows", spec := "nodeGrows", unfollowed := true, recurses := true, apart := false }
def NodeGrowsSaid : Prop := nodeGrowsRow.holds Try.pinned (OpenSpec.ofChange nodeGrowsSpec)

/-- ITS FALSE NEIGHBOUR: 'it returns false'. Refute it at one input. -/
def nodeGrowsWrong : ChangeSpec := { name := "nodeGrows", fn := fun _ => fun
  | [d1, d2, d3] => { results := [.lit (.bool false)], args := [d1, d2, d3] }
  | _ => none }
def NodeGrowsWrongFalsely : Prop := nodeGrowsRow.holds Try.pinned (OpenSpec.ofChange nodeGrowsWrong)

/-- 'tailracelaw10.NodeCuts': WHATEVER THE INPUT: true; the input reads as it did. -/
def nodeCutsSpec : ChangeSpec := { name := "nodeCuts", fn := fun _ => fun
  | [d1, d2, d3] => { results := [.lit (.bool true)], args := [d1, d2, d3] }
  | _ => none }
def nodeCutsRow : OpenClaim := { program := "ytdjiclphnoepcaa", sum := "2c4a5d8580a2120d0609e6badd6bc11783cd27f21d7bcc5a834dcbd83ead36f3", func := "tailrace/tailracelaw10.NodeCuts", spec := "nodeCuts", unfollowed := true, recurses := true, apart := false }
def NodeCutsSaid : Prop := nodeCutsRow.holds Try.pinned (OpenSpec.ofChange nodeCutsSpec)

/-- ITS FALSE NEIGHBOUR: 'it returns false'. Refute it at one input. -/
def nodeCutsWrong : ChangeSpec := { name := "nodeCuts", fn := fun _ => fun
  | [d1, d2, d3] => { results := [.lit (.bool false)], args := [d1, d2, d3] }
  | _ => none }
def NodeCutsWrongFalsely : Prop := nodeCutsRow.holds Try.pinned (OpenSpec.ofChange nodeCutsWrong)

/- THE SECOND FORM. 'bulk': how many values and letters a reading holds, each counted each time it is reached (what is shared counts as often as it is met; a slice's spare places count too). A statement '..UptoSaid' is the law's where the arguments, and the package variables that the reading takes, are together of bulk at most 1048576: NARROWER than '..Said'. Prove '..Said' where nothing that the law and all that it calls make is longer than what came in: it says more and counts as full. Else prove '..UptoSaid'. A law counts once. -/
mutual
def uptoBulk {H : Type} : DataW H → Nat
  | .lit (.string bytes) => bytes.length + 1
  | .lit _ => 1
  | .nil => 1
  | .ptr d => uptoBulk d + 1
  | .slice elems spare => uptoBulkAll elems + uptoBulkAll spare + 1
  | .agg parts => uptoBulkAll parts + 1
  | .iface _ d => uptoBulk d + 1
  | .map entries => uptoBulkEntries entries + 1
  | .held _ => 1
def uptoBulkAll {H : Type} : List (DataW H) → Nat
  | [] => 0
  | d :: r => uptoBulk d + uptoBulkAll r
def uptoBulkEntries {H : Type} : List (Lit × DataW H) → Nat
  | [] => 0
  | x :: r => uptoBulkEntry x + uptoBulkEntries r
def uptoBulkEntry {H : Type} : Lit × DataW H → Nat
  | (.string bytes, d) => bytes.length + uptoBulk d + 1
  | (_, d) => uptoBulk d + 1
 end
def uptoSmall : (H : Type) → List (DataW H) → Bool := fun _ ds => decide (uptoBulkAll ds ≤ 1048576)
def OpenSpec.upto (s : _root_.Go.ChangeSpec) : _root_.Go.OpenSpec := { _root_.Go.OpenSpec.ofChange s with cond := some uptoSmall }

/-- 'tailracelaw10.NodeNames', WHERE WHAT IT READS IS OF BULK AT MOST 1048576: true; the input reads as it did. -/
def nodeNamesUptoRow : OpenClaim := { program := "ytdjiclphnoepcaa", sum := "2c4a5d8580a2120d0609e6badd6bc11783cd27f21d7bcc5a834dcbd83ead36f3", func := "tailrace/tailracelaw10.NodeNames", spec := "nodeNames", unfollowed := true, recurses := true, apart := false, narrowed := true }
def NodeNamesUptoSaid : Prop := nodeNamesUptoRow.holds Try.pinned (OpenSpec.upto nodeNamesSpec)

/-- 'tailracelaw10.NodeTells', WHERE WHAT IT READS IS OF BULK AT MOST 1048576: true; the input reads as it did. -/
def nodeTellsUptoRow : OpenClaim := { program := "ytdjiclphnoepcaa", sum := "2c4a5d8580a2120d0609e6badd6bc11783cd27f21d7bcc5a834dcbd83ead36f3", func := "tailrace/tailracelaw10.NodeTells", spec := "nodeTells", unfollowed := true, recurses := true, apart := false, narrowed := true }
def NodeTellsUptoSaid : Prop := nodeTellsUptoRow.holds Try.pinned (OpenSpec.upto nodeTellsSpec)

/-- 'tailracelaw10.NodeDecodes', WHERE WHAT IT READS IS OF BULK AT MOST 1048576: true; the input reads as it did. -/
def nodeDecodesUptoRow : OpenClaim := { program := "ytdjiclphnoepcaa", sum := "2c4a5d8580a2120d0609e6badd6bc11783cd27f21d7bcc5a834dcbd83ead36f3", func := "tailrace/tailracelaw10.NodeDecodes", spec := "nodeDecodes", unfollowed := true, recurses := true, apart := false, narrowed := true }
def NodeDecodesUptoSaid : Prop := nodeDecodesUptoRow.holds Try.pinned (OpenSpec.upto nodeDecodesSpec)

/-- 'tailracelaw10.NodeBack', WHERE WHAT IT READS IS OF BULK AT MOST 1048576: true; the input reads as it did. -/
def nodeBackUptoRow : OpenClaim := { program := "ytdjiclphnoepcaa", sum := "2c4a5d8580a2120d0609e6badd6bc11783cd27f21d7bcc5a834dcbd83ead36f3", func := "tailrace/tailracelaw10.NodeBack", spec := "nodeBack", unfollowed := true, recurses := true, apart := false, narrowed := true }
def NodeBackUptoSaid : Prop := nodeBackUptoRow.holds Try.pinned (OpenSpec.upto nodeBackSpec)

/-- 'tailracelaw10.NodeGrows', WHERE WHAT IT READS IS OF BULK AT MOST 1048576: true; the input reads as it did. -/
def nodeGrowsUptoRow : OpenClaim := { program := "ytdjiclphnoepcaa", sum := "2c4a5d8580a2120d0609e6badd6bc11783cd27f21d7bcc5a834dcbd83ead36f3", func := "tailrace/tailracelaw10.NodeGrows", spec := "nodeGrows", unfollowed := true, recurses := true, apart := false, narrowed := true }
def NodeGrowsUptoSaid : Prop := nodeGrowsUptoRow.holds Try.pinned (OpenSpec.upto nodeGrowsSpec)

/-- 'tailracelaw10.NodeCuts', WHERE WHAT IT READS IS OF BULK AT MOST 1048576: true; the input reads as it did. -/
def nodeCutsUptoRow : OpenClaim := { program := "ytdjiclphnoepcaa", sum := "2c4a5d8580a2120d0609e6badd6bc11783cd27f21d7bcc5a834dcbd83ead36f3", func := "tailrace/tailracelaw10.NodeCuts", spec := "nodeCuts", unfollowed := true, recurses := true, apart := false, narrowed := true }
def NodeCutsUptoSaid : Prop := nodeCutsUptoRow.holds Try.pinned (OpenSpec.upto nodeCutsSpec)

end Rows
end Go.Proofs.Ytdjiclphnoepcaa
