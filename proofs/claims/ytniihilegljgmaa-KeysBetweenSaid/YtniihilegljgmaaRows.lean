/-
  No cell of these rows narrows 'for every input' (looked for: loops, veiled, ifaces, maps, wideKeys, modest, calm, conditions, laid).
  DERIVED. THE GIVEN ROWS OF THIS SEAT. 7 by the template 'for every input the law returns true; each argument reads behind the call as it read before'; 0 by the template 'total and deterministic' (their statements: YtniihilegljgmaaTotals.lean).
  GIVEN WITH THE SEED: the statements are not yours to turn. If you find one false, say at which input.
  Laid BY PROGRAM, IN A SANDBOX (cutbox-rows.mjs): the forced cells as the released guide's own fill.sh prints them over the translation 267eced8c474bef4… (all of the seat's roots in one cut). By AI agents, Wed Nov 11 2026. No macro, syntax, notation, axiom, sorry.
-/
import Derived.Test.YtniihilegljgmaaChecked
import GoSem.Claim
import GoSem.ClaimJoined
import GoSem.ClaimMapViews
import Derived.JoinedTies
import Derived.KernelRfl
namespace Go.Proofs.Ytniihilegljgmaa
/- THE CELL 'sum', in the pinned program and in every row, IS THE sha256 OF THE DUMP (.gsa) THAT YtniihilegljgmaaProg.lean LOADS. Nothing in Lean hashes anything: it is a label: what it is worth is what the hold of that sum in a sandbox is worth. -/
noncomputable def Try.pinned : Pinned := { name := "ytniihilegljgmaa", sum := "267eced8c474bef49fa8e5dac61d955263ef7b3c6bfef186f2efe9414232111f", checked := Try.checked }
namespace Rows
def none {H : Type} : Left H := { results := [], args := [] }

/-- 'tailracelaw02.KeysNames': WHATEVER THE INPUT: true; the input reads as it did. -/
def keysNamesSpec : ChangeSpec := { name := "keysNames", fn := fun _ => fun
  | [] => { results := [.lit (.bool true)], args := [] }
  | _ => none }
def keysNamesRow : OpenClaim := { program := "ytniihilegljgmaa", sum := "267eced8c474bef49fa8e5dac61d955263ef7b3c6bfef186f2efe9414232111f", func := "tailrace/tailracelaw02.KeysNames", spec := "keysNames", inPlace := ["internal/bytealg.Compare"], unfollowed := true, recurses := true, apart := false }
def KeysNamesSaid : Prop := keysNamesRow.holds Try.pinned (OpenSpec.ofChange keysNamesSpec)

/-- ITS FALSE NEIGHBOUR: 'it returns false'. Refute it at one input. -/
def keysNamesWrong : ChangeSpec := { name := "keysNames", fn := fun _ => fun
  | [] => { results := [.lit (.bool false)], args := [] }
  | _ => none }
def KeysNamesWrongFalsely : Prop := keysNamesRow.holds Try.pinned (OpenSpec.ofChange keysNamesWrong)

/-- 'tailracelaw02.KeysTells': WHATEVER THE INPUT: true; the input reads as it did. -/
def keysTellsSpec : ChangeSpec := { name := "keysTells", fn := fun _ => fun
  | [d1, d2] => { results := [.lit (.bool true)], args := [d1, d2] }
  | _ => none }
def keysTellsRow : OpenClaim := { program := "ytniihilegljgmaa", sum := "267eced8c474bef49fa8e5dac61d955263ef7b3c6bfef186f2efe9414232111f", func := "tailrace/tailracelaw02.KeysTells", spec := "keysTells", inPlace := ["internal/bytealg.Compare"], unfollowed := true, recurses := true, apart := false }
def KeysTellsSaid : Prop := keysTellsRow.holds Try.pinned (OpenSpec.ofChange keysTellsSpec)

/-- ITS FALSE NEIGHBOUR: 'it returns false'. Refute it at one input. -/
def keysTellsWrong : ChangeSpec := { name := "keysTells", fn := fun _ => fun
  | [d1, d2] => { results := [.lit (.bool false)], args := [d1, d2] }
  | _ => none }
def KeysTellsWrongFalsely : Prop := keysTellsRow.holds Try.pinned (OpenSpec.ofChange keysTellsWrong)

/-- 'tailracelaw02.KeysNexts': WHATEVER THE INPUT: true; the input reads as it did. -/
def keysNextsSpec : ChangeSpec := { name := "keysNexts", fn := fun _ => fun
  | [d1, d2] => { results := [.lit (.bool true)], args := [d1, d2] }
  | _ => none }
def keysNextsRow : OpenClaim := { program := "ytniihilegljgmaa", sum := "267eced8c474bef49fa8e5dac61d955263ef7b3c6bfef186f2efe9414232111f", func := "tailrace/tailracelaw02.KeysNexts", spec := "keysNexts", inPlace := ["internal/bytealg.Compare"], unfollowed := true, recurses := true, apart := false }
def KeysNextsSaid : Prop := keysNextsRow.holds Try.pinned (OpenSpec.ofChange keysNextsSpec)

/-- ITS FALSE NEIGHBOUR: 'it returns false'. Refute it at one input. -/
def keysNextsWrong : ChangeSpec := { name := "keysNexts", fn := fun _ => fun
  | [d1, d2] => { results := [.lit (.bool false)], args := [d1, d2] }
  | _ => none }
def KeysNextsWrongFalsely : Prop := keysNextsRow.holds Try.pinned (OpenSpec.ofChange keysNextsWrong)

/-- 'tailracelaw02.KeysBack': WHATEVER THE INPUT: true; the input reads as it did. -/
def keysBackSpec : ChangeSpec := { name := "keysBack", fn := fun _ => fun
  | [d1, d2] => { results := [.lit (.bool true)], args := [d1, d2] }
  | _ => none }
def keysBackRow : OpenClaim := { program := "ytniihilegljgmaa", sum := "267eced8c474bef49fa8e5dac61d955263ef7b3c6bfef186f2efe9414232111f", func := "tailrace/tailracelaw02.KeysBack", spec := "keysBack", inPlace := ["internal/bytealg.Compare"], unfollowed := true, recurses := true, apart := false }
def KeysBackSaid : Prop := keysBackRow.holds Try.pinned (OpenSpec.ofChange keysBackSpec)

/-- ITS FALSE NEIGHBOUR: 'it returns false'. Refute it at one input. -/
def keysBackWrong : ChangeSpec := { name := "keysBack", fn := fun _ => fun
  | [d1, d2] => { results := [.lit (.bool false)], args := [d1, d2] }
  | _ => none }
def KeysBackWrongFalsely : Prop := keysBackRow.holds Try.pinned (OpenSpec.ofChange keysBackWrong)

/-- 'tailracelaw02.KeysBetween': WHATEVER THE INPUT: true; the input reads as it did. -/
def keysBetweenSpec : ChangeSpec := { name := "keysBetween", fn := fun _ => fun
  | [d1, d2] => { results := [.lit (.bool true)], args := [d1, d2] }
  | _ => none }
def keysBetweenRow : OpenClaim := { program := "ytniihilegljgmaa", sum := "267eced8c474bef49fa8e5dac61d955263ef7b3c6bfef186f2efe9414232111f", func := "tailrace/tailracelaw02.KeysBetween", spec := "keysBetween", inPlace := ["internal/bytealg.Compare"], unfollowed := true, recurses := true, apart := false }
def KeysBetweenSaid : Prop := keysBetweenRow.holds Try.pinned (OpenSpec.ofChange keysBetweenSpec)

/-- ITS FALSE NEIGHBOUR: 'it returns false'. Refute it at one input. -/
def keysBetweenWrong : ChangeSpec := { name := "keysBetween", fn := fun _ => fun
  | [d1, d2] => { results := [.lit (.bool false)], args := [d1, d2] }
  | _ => none }
def KeysBetweenWrongFalsely : Prop := keysBetweenRow.holds Try.pinned (OpenSpec.ofChange keysBetweenWrong)

/-- 'tailracelaw02.KeysJoins': WHATEVER THE INPUT: true; the input reads as it did. -/
def keysJoinsSpec : ChangeSpec := { name := "keysJoins", fn := fun _ => fun
  | [d1, d2] => { results := [.lit (.bool true)], args := [d1, d2] }
  | _ => none }
def keysJoinsRow : OpenClaim := { program := "ytniihilegljgmaa", sum := "267eced8c474bef49fa8e5dac61d955263ef7b3c6bfef186f2efe9414232111f", func := "tailrace/tailracelaw02.KeysJoins", spec := "keysJoins", inPlace := ["internal/bytealg.Compare"], unfollowed := true, recurses := true, apart := false }
def KeysJoinsSaid : Prop := keysJoinsRow.holds Try.pinned (OpenSpec.ofChange keysJoinsSpec)

/-- ITS FALSE NEIGHBOUR: 'it returns false'. Refute it at one input. -/
def keysJoinsWrong : ChangeSpec := { name := "keysJoins", fn := fun _ => fun
  | [d1, d2] => { results := [.lit (.bool false)], args := [d1, d2] }
  | _ => none }
def KeysJoinsWrongFalsely : Prop := keysJoinsRow.holds Try.pinned (OpenSpec.ofChange keysJoinsWrong)

/-- 'tailracelaw02.KeysOrder': WHATEVER THE INPUT: true; the input reads as it did. -/
def keysOrderSpec : ChangeSpec := { name := "keysOrder", fn := fun _ => fun
  | [d1, d2] => { results := [.lit (.bool true)], args := [d1, d2] }
  | _ => none }
def keysOrderRow : OpenClaim := { program := "ytniihilegljgmaa", sum := "267eced8c474bef49fa8e5dac61d955263ef7b3c6bfef186f2efe9414232111f", func := "tailrace/tailracelaw02.KeysOrder", spec := "keysOrder", inPlace := ["internal/bytealg.Compare"], unfollowed := true, recurses := true, apart := false }
def KeysOrderSaid : Prop := keysOrderRow.holds Try.pinned (OpenSpec.ofChange keysOrderSpec)

/-- ITS FALSE NEIGHBOUR: 'it returns false'. Refute it at one input. -/
def keysOrderWrong : ChangeSpec := { name := "keysOrder", fn := fun _ => fun
  | [d1, d2] => { results := [.lit (.bool false)], args := [d1, d2] }
  | _ => none }
def KeysOrderWrongFalsely : Prop := keysOrderRow.holds Try.pinned (OpenSpec.ofChange keysOrderWrong)

/- THE SECOND FORM. 'bulk': how many values and letters a reading holds, each counted each time it is reached (what is shared counts as often as it is met; a slice's spare places count too). A statement '..UptoSaid' is the law's where the arguments, and the package variables that the reading takes, are together of bulk at most 1048576: NARROWER than '..Said'. Prove '..Said' where nothing that the law and all that it calls make is longer than what came in: it says more and counts as full. Else prove '..UptoSaid'. A law counts once. -/
mutual
def uptoBulk {H : Type} : DataW H → Nat
  | .lit (.string bytes) => bytes.length + 1
  | .lit _ => 1
  | .nil => 1
  | .ptr d => uptoBulk d + 1
  | .slice elems spare => uptoBulkAll elems + uptoBulkAll spare + 1
  | .agg parts => uptoBulkAll parts + 1
  | .iface _ d => uptoBulk d + 1
  | .map entries => uptoBulkEntries entries + 1
  | .held _ => 1
def uptoBulkAll {H : Type} : List (DataW H) → Nat
  | [] => 0
  | d :: r => uptoBulk d + uptoBulkAll r
def uptoBulkEntries {H : Type} : List (Lit × DataW H) → Nat
  | [] => 0
  | x :: r => uptoBulkEntry x + uptoBulkEntries r
def uptoBulkEntry {H : Type} : Lit × DataW H → Nat
  | (.string bytes, d) => bytes.length + uptoBulk d + 1
  | (_, d) => uptoBulk d + 1
 end
def uptoSmall : (H : Type) → List (DataW H) → Bool := fun _ ds => decide (uptoBulkAll ds ≤ 1048576)
def OpenSpec.upto (s : _root_.Go.ChangeSpec) : _root_.Go.OpenSpec := { _root_.Go.OpenSpec.ofChange s with cond := some uptoSmall }

/-- 'tailracelaw02.KeysNames', WHERE WHAT IT READS IS OF BULK AT MOST 1048576: true; the input reads as it did. -/
def keysNamesUptoRow : OpenClaim := { program := "ytniihilegljgmaa", sum := "267eced8c474bef49fa8e5dac61d955263ef7b3c6bfef186f2efe9414232111f", func := "tailrace/tailracelaw02.KeysNames", spec := "keysNames", inPlace := ["internal/bytealg.Compare"], unfollowed := true, recurses := true, apart := false, narrowed := true }
def KeysNamesUptoSaid : Prop := keysNamesUptoRow.holds Try.pinned (OpenSpec.upto keysNamesSpec)

/-- 'tailracelaw02.KeysTells', WHERE WHAT IT READS IS OF BULK AT MOST 1048576: true; the input reads as it did. -/
def keysTellsUptoRow : OpenClaim := { program := "ytniihilegljgmaa", sum := "267eced8c474bef49fa8e5dac61d955263ef7b3c6bfef186f2efe9414232111f", func := "tailrace/tailracelaw02.KeysTells", spec := "keysTells", inPlace := ["internal/bytealg.Compare"], unfollowed := true, recurses := true, apart := false, narrowed := true }
def KeysTellsUptoSaid : Prop := keysTellsUptoRow.holds Try.pinned (OpenSpec.upto keysTellsSpec)

/-- 'tailracelaw02.KeysNexts', WHERE WHAT IT READS IS OF BULK AT MOST 1048576: true; the input reads as it did. -/
def keysNextsUptoRow : OpenClaim := { program := "ytniihilegljgmaa", sum := "267eced8c474bef49fa8e5dac61d955263ef7b3c6bfef186f2efe9414232111f", func := "tailrace/tailracelaw02.KeysNexts", spec := "keysNexts", inPlace := ["internal/bytealg.Compare"], unfollowed := true, recurses := true, apart := false, narrowed := true }
def KeysNextsUptoSaid : Prop := keysNextsUptoRow.holds Try.pinned (OpenSpec.upto keysNextsSpec)

/-- 'tailracelaw02.KeysBack', WHERE WHAT IT READS IS OF BULK AT MOST 1048576: true; the input reads as it did. -/
def keysBackUptoRow : OpenClaim := { program := "ytniihilegljgmaa", sum := "267eced8c474bef49fa8e5dac61d955263ef7b3c6bfef186f2efe9414232111f", func := "tailrace/tailracelaw02.KeysBack", spec := "keysBack", inPlace := ["internal/bytealg.Compare"], unfollowed := true, recurses := true, apart := false, narrowed := true }
def KeysBackUptoSaid : Prop := keysBackUptoRow.holds Try.pinned (OpenSpec.upto keysBackSpec)

/-- 'tailracelaw02.KeysBetween', WHERE WHAT IT READS IS OF BULK AT MOST 1048576: true; the input reads as it did. -/
def keysBetweenUptoRow : OpenClaim := { program := "ytniihilegljgmaa", sum := "267eced8c474bef49fa8e5dac61d955263ef7b3c6bfef186f2efe9414232111f", func := "tailrace/tailracelaw02.KeysBetween", spec := "keysBetween", inPlace := ["internal/bytealg.Compare"], unfollowed := true, recurses := true, apart := false, narrowed := true }
def KeysBetweenUptoSaid : Prop := keysBetweenUptoRow.holds Try.pinned (OpenSpec.upto keysBetweenSpec)

/-- 'tailracelaw02.KeysJoins', WHERE WHAT IT READS IS OF BULK AT MOST 1048576: true; the input reads as it did. -/
def keysJoinsUptoRow : OpenClaim := { program := "ytniihilegljgmaa", sum := "267eced8c474bef49fa8e5dac61d955263ef7b3c6bfef186f2efe9414232111f", func := "tailrace/tailracelaw02.KeysJoins", spec := "keysJoins", inPlace := ["internal/bytealg.Compare"], unfollowed := true, recurses := true, apart := false, narrowed := true }
def KeysJoinsUptoSaid : Prop := keysJoinsUptoRow.holds Try.pinned (OpenSpec.upto keysJoinsSpec)

/-- 'tailracelaw02.KeysOrder', WHERE WHAT IT READS IS OF BULK AT MOST 1048576: true; the input reads as it did. -/
def keysOrderUptoRow : OpenClaim := { program := "ytniihilegljgmaa", sum := "267eced8c474bef49fa8e5dac61d955263ef7b3c6bfef186f2efe9414232111f", func := "tailrace/tailracelaw02.KeysOrder", spec := "keysOrder", inPlace := ["internal/bytealg.Compare"], unfollowed := true, recurses := true, apart := false, narrowed := true }
def KeysOrderUptoSaid : Prop := keysOrderUptoRow.holds Try.pinned (OpenSpec.upto keysOrderSpec)

end Rows
end Go.Proofs.Ytniihilegljgmaa
