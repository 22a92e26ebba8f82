/-
  No cell of these rows narrows 'for every input' (looked for: loops, veiled, ifaces, maps, wideKeys, modest, calm, conditions, laid).
  DERIVED. THE GIVEN ROWS OF THIS SEAT. 6 by the template 'for every input the law returns true; each argument reads behind the call as it read before'; 0 by the template 'total and deterministic' (their statements: YtddpgppmfibddaaTotals.lean).
  GIVEN WITH THE SEED: the statements are not yours to turn. If you find one false, say at which input.
  Laid BY PROGRAM, IN A SANDBOX (cutbox-rows.mjs): the forced cells as the released guide's own fill.sh prints them over the translation 7e9486745d428c41… (all of the seat's roots in one cut). By AI agents, Wed Nov 11 2026. No macro, syntax, notation, axiom, sorry.
-/
import Derived.Test.YtddpgppmfibddaaChecked
import GoSem.Claim
import GoSem.ClaimJoined
import GoSem.ClaimMapViews
import Derived.JoinedTies
import Derived.KernelRfl
namespace Go.Proofs.Ytddpgppmfibddaa
/- THE CELL 'sum', in the pinned program and in every row, IS THE sha256 OF THE DUMP (.gsa) THAT YtddpgppmfibddaaProg.lean LOADS. Nothing in Lean hashes anything: it is a label: what it is worth is what the hold of that sum in a sandbox is worth. -/
noncomputable def Try.pinned : Pinned := { name := "ytddpgppmfibddaa", sum := "7e9486745d428c41d809daa18c213456e2f2413223bfb9ba2434e25cddb84746", checked := Try.checked }
namespace Rows
def none {H : Type} : Left H := { results := [], args := [] }

/-- 'tailracelaw01.ValueNames': WHATEVER THE INPUT: true; the input reads as it did. -/
def valueNamesSpec : ChangeSpec := { name := "valueNames", fn := fun _ => fun
  | [] => { results := [.lit (.bool true)], args := [] }
  | _ => none }
def valueNamesRow : OpenClaim := { program := "ytddpgppmfibddaa", sum := "7e9486745d428c41d809daa18c213456e2f2413223bfb9ba2434e25cddb84746", func := "tailrace/tailracelaw01.ValueNames", spec := "valueNames", apart := false }
def ValueNamesSaid : Prop := valueNamesRow.holds Try.pinned (OpenSpec.ofChange valueNamesSpec)

/-- ITS FALSE NEIGHBOUR: 'it returns false'. Refute it at one input. -/
def valueNamesWrong : ChangeSpec := { name := "valueNames", fn := fun _ => fun
  | [] => { results := [.lit (.bool false)], args := [] }
  | _ => none }
def ValueNamesWrongFalsely : Prop := valueNamesRow.holds Try.pinned (OpenSpec.ofChange valueNamesWrong)

/-- 'tailracelaw01.ValueTells': WHATEVER THE INPUT: true; the input reads as it did. -/
def valueTellsSpec : ChangeSpec := { name := "valueTells", fn := fun _ => fun
  | [d1, d2] => { results := [.lit (.bool true)], args := [d1, d2] }
  | _ => none }
def valueTellsRow : OpenClaim := { program := "ytddpgppmfibddaa", sum := "7e9486745d428c41d809daa18c213456e2f2413223bfb9ba2434e25cddb84746", func := "tailrace/tailracelaw01.ValueTells", spec := "valueTells", apart := false }
def ValueTellsSaid : Prop := valueTellsRow.holds Try.pinned (OpenSpec.ofChange valueTellsSpec)

/-- ITS FALSE NEIGHBOUR: 'it returns false'. Refute it at one input. -/
def valueTellsWrong : ChangeSpec := { name := "valueTells", fn := fun _ => fun
  | [d1, d2] => { results := [.lit (.bool false)], args := [d1, d2] }
  | _ => none }
def ValueTellsWrongFalsely : Prop := valueTellsRow.holds Try.pinned (OpenSpec.ofChange valueTellsWrong)

/-- 'tailracelaw01.ValueRows': WHATEVER THE INPUT: true; the input reads as it did. -/
def valueRowsSpec : ChangeSpec := { name := "valueRows", fn := fun _ => fun
  | [d1, d2, d3] => { results := [.lit (.bool true)], args := [d1, d2, d3] }
  | _ => none }
def valueRowsRow : OpenClaim := { program := "ytddpgppmfibddaa", sum := "7e9486745d428c41d809daa18c213456e2f2413223bfb9ba2434e25cddb84746", func := "tailrace/tailracelaw01.ValueRows", spec := "valueRows", apart := false }
def ValueRowsSaid : Prop := valueRowsRow.holds Try.pinned (OpenSpec.ofChange valueRowsSpec)

/-- ITS FALSE NEIGHBOUR: 'it returns false'. Refute it at one input. -/
def valueRowsWrong : ChangeSpec := { name := "valueRows", fn := fun _ => fun
  | [d1, d2, d3] => { results := [.lit (.bool false)], args := [d1, d2, d3] }
  | _ => none }
def ValueRowsWrongFalsely : Prop := valueRowsRow.holds Try.pinned (OpenSpec.ofChange valueRowsWrong)

/-- 'tailracelaw01.ValueLine': WHATEVER THE INPUT: true; the input reads as it did. -/
def valueLineSpec : ChangeSpec := { name := "valueLine", fn := fun _ => fun
  | [d1, d2, d3] => { results := [.lit (.bool true)], args := [d1, d2, d3] }
  | _ => none }
def valueLineRow : OpenClaim := { program := "ytddpgppmfibddaa", sum := "7e9486745d428c41d809daa18c213456e2f2413223bfb9ba2434e25cddb84746", func := "tailrace/tailracelaw01.ValueLine", spec := "valueLine", apart := false }
def ValueLineSaid : Prop := valueLineRow.holds Try.pinned (OpenSpec.ofChange valueLineSpec)

/-- ITS FALSE NEIGHBOUR: 'it returns false'. Refute it at one input. -/
def valueLineWrong : ChangeSpec := { name := "valueLine", fn := fun _ => fun
  | [d1, d2, d3] => { results := [.lit (.bool false)], args := [d1, d2, d3] }
  | _ => none }
def ValueLineWrongFalsely : Prop := valueLineRow.holds Try.pinned (OpenSpec.ofChange valueLineWrong)

/-- 'tailracelaw01.ValueRowLine': WHATEVER THE INPUT: true; the input reads as it did. -/
def valueRowLineSpec : ChangeSpec := { name := "valueRowLine", fn := fun _ => fun
  | [d1, d2, d3] => { results := [.lit (.bool true)], args := [d1, d2, d3] }
  | _ => none }
def valueRowLineRow : OpenClaim := { program := "ytddpgppmfibddaa", sum := "7e9486745d428c41d809daa18c213456e2f2413223bfb9ba2434e25cddb84746", func := "tailrace/tailracelaw01.ValueRowLine", spec := "valueRowLine", apart := false }
def ValueRowLineSaid : Prop := valueRowLineRow.holds Try.pinned (OpenSpec.ofChange valueRowLineSpec)

/-- ITS FALSE NEIGHBOUR: 'it returns false'. Refute it at one input. -/
def valueRowLineWrong : ChangeSpec := { name := "valueRowLine", fn := fun _ => fun
  | [d1, d2, d3] => { results := [.lit (.bool false)], args := [d1, d2, d3] }
  | _ => none }
def ValueRowLineWrongFalsely : Prop := valueRowLineRow.holds Try.pinned (OpenSpec.ofChange valueRowLineWrong)

/-- 'tailracelaw01.ValueOwn': WHATEVER THE INPUT: true; the input reads as it did. -/
def valueOwnSpec : ChangeSpec := { name := "valueOwn", fn := fun _ => fun
  | [d1, d2] => { results := [.lit (.bool true)], args := [d1, d2] }
  | _ => none }
def valueOwnRow : OpenClaim := { program := "ytddpgppmfibddaa", sum := "7e9486745d428c41d809daa18c213456e2f2413223bfb9ba2434e25cddb84746", func := "tailrace/tailracelaw01.ValueOwn", spec := "valueOwn", apart := false }
def ValueOwnSaid : Prop := valueOwnRow.holds Try.pinned (OpenSpec.ofChange valueOwnSpec)

/-- ITS FALSE NEIGHBOUR: 'it returns false'. Refute it at one input. -/
def valueOwnWrong : ChangeSpec := { name := "valueOwn", fn := fun _ => fun
  | [d1, d2] => { results := [.lit (.bool false)], args := [d1, d2] }
  | _ => none }
def ValueOwnWrongFalsely : Prop := valueOwnRow.holds Try.pinned (OpenSpec.ofChange valueOwnWrong)

/- THE SECOND FORM. 'bulk': how many values and letters a reading holds, each counted each time it is reached (what is shared counts as often as it is met; a slice's spare places count too). A statement '..UptoSaid' is the law's where the arguments, and the package variables that the reading takes, are together of bulk at most 1048576: NARROWER than '..Said'. Prove '..Said' where nothing that the law and all that it calls make is longer than what came in: it says more and counts as full. Else prove '..UptoSaid'. A law counts once. -/
mutual
def uptoBulk {H : Type} : DataW H → Nat
  | .lit (.string bytes) => bytes.length + 1
  | .lit _ => 1
  | .nil => 1
  | .ptr d => uptoBulk d + 1
  | .slice elems spare => uptoBulkAll elems + uptoBulkAll spare + 1
  | .agg parts => uptoBulkAll parts + 1
  | .iface _ d => uptoBulk d + 1
  | .map entries => uptoBulkEntries entries + 1
  | .held _ => 1
def uptoBulkAll {H : Type} : List (DataW H) → Nat
  | [] => 0
  | d :: r => uptoBulk d + uptoBulkAll r
def uptoBulkEntries {H : Type} : List (Lit × DataW H) → Nat
  | [] => 0
  | x :: r => uptoBulkEntry x + uptoBulkEntries r
def uptoBulkEntry {H : Type} : Lit × DataW H → Nat
  | (.string bytes, d) => bytes.length + uptoBulk d + 1
  | (_, d) => uptoBulk d + 1
 end
def uptoSmall : (H : Type) → List (DataW H) → Bool := fun _ ds => decide (uptoBulkAll ds ≤ 1048576)
def OpenSpec.upto (s : _root_.Go.ChangeSpec) : _root_.Go.OpenSpec := { _root_.Go.OpenSpec.ofChange s with cond := some uptoSmall }

/-- 'tailracelaw01.ValueNames', WHERE WHAT IT READS IS OF BULK AT MOST 1048576: true; the input reads as it did. -/
def valueNamesUptoRow : OpenClaim := { program := "ytddpgppmfibddaa", sum := "7e9486745d428c41d809daa18c213456e2f2413223bfb9ba2434e25cddb84746", func := "tailrace/tailracelaw01.ValueNames", spec := "valueNames", apart := false, narrowed := true }
def ValueNamesUptoSaid : Prop := valueNamesUptoRow.holds Try.pinned (OpenSpec.upto valueNamesSpec)

/-- 'tailracelaw01.ValueTells', WHERE WHAT IT READS IS OF BULK AT MOST 1048576: true; the input reads as it did. -/
def valueTellsUptoRow : OpenClaim := { program := "ytddpgppmfibddaa", sum := "7e9486745d428c41d809daa18c213456e2f2413223bfb9ba2434e25cddb84746", func := "tailrace/tailracelaw01.ValueTells", spec := "valueTells", apart := false, narrowed := true }
def ValueTellsUptoSaid : Prop := valueTellsUptoRow.holds Try.pinned (OpenSpec.upto valueTellsSpec)

/-- 'tailracelaw01.ValueRows', WHERE WHAT IT READS IS OF BULK AT MOST 1048576: true; the input reads as it did. -/
def valueRowsUptoRow : OpenClaim := { program := "ytddpgppmfibddaa", sum := "7e9486745d428c41d809daa18c213456e2f2413223bfb9ba2434e25cddb84746", func := "tailrace/tailracelaw01.ValueRows", spec := "valueRows", apart := false, narrowed := true }
def ValueRowsUptoSaid : Prop := valueRowsUptoRow.holds Try.pinned (OpenSpec.upto valueRowsSpec)

/-- 'tailracelaw01.ValueLine', WHERE WHAT IT READS IS OF BULK AT MOST 1048576: true; the input reads as it did. -/
def valueLineUptoRow : OpenClaim := { program := "ytddpgppmfibddaa", sum := "7e9486745d428c41d809daa18c213456e2f2413223bfb9ba2434e25cddb84746", func := "tailrace/tailracelaw01.ValueLine", spec := "valueLine", apart := false, narrowed := true }
def ValueLineUptoSaid : Prop := valueLineUptoRow.holds Try.pinned (OpenSpec.upto valueLineSpec)

/-- 'tailracelaw01.ValueRowLine', WHERE WHAT IT READS IS OF BULK AT MOST 1048576: true; the input reads as it did. -/
def valueRowLineUptoRow : OpenClaim := { program := "ytddpgppmfibddaa", sum := "7e9486745d428c41d809daa18c213456e2f2413223bfb9ba2434e25cddb84746", func := "tailrace/tailracelaw01.ValueRowLine", spec := "valueRowLine", apart := false, narrowed := true }
def ValueRowLineUptoSaid : Prop := valueRowLineUptoRow.holds Try.pinned (OpenSpec.upto valueRowLineSpec)

/-- 'tailracelaw01.ValueOwn', WHERE WHAT IT READS IS OF BULK AT MOST 1048576: true; the input reads as it did. -/
def valueOwnUptoRow : OpenClaim := { program := "ytddpgppmfibddaa", sum := "7e9486745d428c41d809daa18c213456e2f2413223bfb9ba2434e25cddb84746", func := "tailrace/tailracelaw01.ValueOwn", spec := "valueOwn", apart := false, narrowed := true }
def ValueOwnUptoSaid : Prop := valueOwnUptoRow.holds Try.pinned (OpenSpec.upto valueOwnSpec)

end Rows
end Go.Proofs.Ytddpgppmfibddaa
