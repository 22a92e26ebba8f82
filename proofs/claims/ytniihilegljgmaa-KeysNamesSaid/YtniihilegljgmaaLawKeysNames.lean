/- The law KeysNames of the given program holds as stated: for every input the call returns true and leaves its arguments as they read before. No condition. -/
import Derived.Test.YtniihilegljgmaaRows
import Derived.Test.YtniihilegljgmaaPx3
import Derived.Test.YtniihilegljgmaaReads
import Derived.Test.YtniihilegljgmaaKinds
import Derived.Test.YtniihilegljgmaaPureKeysNames
import Derived.WalkKit
import Derived.ProofKit
import Derived.OpenShut
import Derived.ShutString
import Derived.ChangeOld
import Derived.Below
import Derived.SizedLaws
namespace Go.Proofs.Ytniihilegljgmaa.keysNames
open Go.ChangeShapes Go.WideShapes Go.ChangeAt Go.RowKit
open Go.ChangeMaps (open_string shut_string)
open Go.Proofs.Ytniihilegljgmaa.P Go.Proofs.YtniihilegljgmaaOwn Go.Proofs.YtniihilegljgmaaW.PrintWords
set_option linter.unusedVariables false
theorem own : ownKnob Try.prog.godebug = none := by kernel_rfl
set_option maxRecDepth 100000 in
theorem lifted (os : Os) (started : os.Started) (H : Type) (enc : TypeId × Value → H) :
    ReturnsInHanded {} Try.checked os 3 .any (Rows.keysNamesSpec.pre6 enc Try.prog Try.f3 Rows.keysNamesRow.domain false) (Rows.keysNamesSpec.post enc Try.prog Try.f3 false true false false) := by
  refine returnsInHanded_of_change_sized (C := Try.checked) own started (by kernel_rfl) Try.func3
    (ChangeSpec.witness6 (enc := enc) (C := Try.checked) false ⟨#[], #[], []⟩ 8 (by kernel_rfl) (by kernel_rfl) (by kernel_rfl) (by kernel_rfl)) ?_
  intro W base args ds gs before hval0 hW hcnd hsz0 _
  have hval : ∀ (j : Nat) t v, Try.f3.params[j]? = some t → args[j]? = some v → Value.okWide Try.prog W .any base t v := hval0
  have hW' := hW
  obtain ⟨p, q, hA0, hV, rfl, hfz, hnd⟩ := hW
  have hA : DataW.TrodAll enc Try.prog W 0 (fun _ => true) true Try.f3.params.toList args.toList ds p := hA0
  rw [Try.params3] at hA hval
  obtain ⟨rfl, rfl, rfl⟩ := trodAll_none hA
  obtain ⟨rfl, rfl⟩ := trodVars_none hV
  have hk := Pure.KeysNames  
  clear hA0 hval0 hsz0
  refine (tailracelaw02_KeysNames.calls  true W  hk).mono fun e W' ⟨he, bel0⟩ => ?_
  have bel : Below W.heap.size W W' := bel0
  subst he
  exact ⟨_, rfl, _, _, _, [], _, [], hW', trodAll_mk1 (shut_bool Try.underlying4 _), trodAll_mk0, rfl, bel.frame _, fun h => by cases h⟩
theorem over : Rows.keysNamesRow.holds Try.pinned (OpenSpec.ofChange Rows.keysNamesSpec) :=
  OpenClaim.holds_of_wide 3 Try.f3 rfl rfl rfl rfl rfl rfl rfl ⟨rfl, rfl, rfl, rfl, rfl⟩ rfl rfl rfl rfl rfl (by kernel_rfl) Try.func3 (by kernel_rfl)
    (of_decide_eq_true (by kernel_rfl)) (by unfold Func.isWrapper; first | (rw [if_pos (by decide +kernel)]; kernel_rfl) | (rw [if_neg (by decide +kernel)]; exact ⟨rfl, rfl⟩))
    (fun os started H enc _ => lifted os started H enc)
theorem proved : Rows.KeysNamesSaid := over
#print axioms proved
end Go.Proofs.Ytniihilegljgmaa.keysNames
namespace Go.Proofs.Ytniihilegljgmaa
/-- The row, under a short name, for the claim. -/
theorem keysNames_holds : Rows.KeysNamesSaid := keysNames.proved
end Go.Proofs.Ytniihilegljgmaa
