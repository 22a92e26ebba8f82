/- The law NodeTells of the given program holds as stated: for every input the call returns true and leaves its arguments as they read before. No condition. -/
import Derived.Test.YtdjiclphnoepcaaRows
import Derived.Test.YtdjiclphnoepcaaPx7
import Derived.Test.YtdjiclphnoepcaaReads
import Derived.Test.YtdjiclphnoepcaaKinds
import Derived.Test.YtdjiclphnoepcaaPureNodeTells
import Derived.WalkKit
import Derived.ProofKit
import Derived.OpenShut
import Derived.ShutString
import Derived.ChangeOld
import Derived.Below
import Derived.SizedLaws
namespace Go.Proofs.Ytdjiclphnoepcaa.nodeTells
open Go.ChangeShapes Go.WideShapes Go.ChangeAt Go.RowKit
open Go.ChangeMaps (open_string shut_string)
open Go.Proofs.Ytdjiclphnoepcaa.P Go.Proofs.YtdjiclphnoepcaaOwn Go.Proofs.YtdjiclphnoepcaaW.PrintWords
set_option linter.unusedVariables false
theorem own : ownKnob Try.prog.godebug = none := by kernel_rfl
theorem laidOut : laidOutB Try.prog = true := by kernel_rfl
set_option maxRecDepth 100000 in
theorem lifted (os : Os) (started : os.Started) (H : Type) (enc : TypeId × Value → H) :
    ReturnsInHanded {} Try.checked os 4 .any (Rows.nodeTellsSpec.pre6 enc Try.prog Try.f4 Rows.nodeTellsRow.domain false) (Rows.nodeTellsSpec.post enc Try.prog Try.f4 false true false false) := by
  refine returnsInHanded_of_change_sized (C := Try.checked) own started (by kernel_rfl) Try.func4
    (ChangeSpec.witness6 (enc := enc) (C := Try.checked) false ⟨#[], #[.agg #[.bool false, .slice none 0 0, .slice none 0 0, .slice none 0 0]], []⟩ 8 (by kernel_rfl) (by kernel_rfl) (by kernel_rfl) (by kernel_rfl)) ?_
  intro W base args ds gs before hval0 hW hcnd hsz0 _
  have hval : ∀ (j : Nat) t v, Try.f4.params[j]? = some t → args[j]? = some v → Value.okWide Try.prog W .any base t v := hval0
  have hW' := hW
  obtain ⟨p, q, hA0, hV, rfl, hfz, hnd⟩ := hW
  have hA : DataW.TrodAll enc Try.prog W 0 (fun _ => true) true Try.f4.params.toList args.toList ds p := hA0
  rw [Try.params4] at hA hval
  obtain ⟨v0, vs0, d0, ds0, p0, q0, hargs, rfl, rfl, h0, r0⟩ := trodAll_cons hA
  obtain ⟨rfl, rfl, rfl⟩ := trodAll_nil r0
  obtain rfl : args = #[v0] := by cases args; simp_all
  obtain ⟨rfl, rfl⟩ := trodVars_none hV
  obtain ⟨cs0, rfl, hcs0⟩ := okWide_agg Try.underlying26 (hval 0 26 v0 rfl rfl)
  have k0 := h0
  have lt0 : ∀ x ∈ p0, x.block < W.heap.size := by obtain ⟨m, hm⟩ := k0; exact DataW.trod_lt m _ _ _ hm
  obtain ⟨x0, hK0, w0⟩ := (show Rd Try.prog 26 _ _ from rd26).2 _ _ _ _ _ _ _ _ h0.choose_spec
  rw [hcs0] at hK0
  obtain ⟨A0_1, c0_1, A0_2, c0_2, A0_3, c0_3, e0, hc0_1, hr0_1, hc0_2, hr0_2, hc0_3, hr0_3⟩ := k26_open hK0
  obtain rfl : cs0 = #[.bool x0.f0, .slice A0_1 (x0.f1).length c0_1, .slice A0_2 (x0.f2).length c0_2, .slice A0_3 (x0.f3).length c0_3] := by cases cs0; simpa using e0
  obtain ⟨kk, hk⟩ := Pure.NodeTells x0.f0 x0.f1 x0.f2 x0.f3 w0
  clear hA0 hval0 hsz0
  refine (tailracelaw10_NodeTells.calls kk x0.f0 A0_1 c0_1 x0.f1 A0_2 c0_2 x0.f2 A0_3 c0_3 x0.f3 true W hr0_1 hc0_1 hr0_2 hc0_2 hr0_3 hc0_3 hk).mono fun e W' ⟨he, bel0⟩ => ?_
  have bel : Below W.heap.size W W' := bel0
  subst he
  exact ⟨_, rfl, _, _, _, [], _, [], hW', trodAll_mk1 (shut_bool Try.underlying4 _), (trodAll_cons_mk (Below.trod laidOut (by kernel_rfl) (of_decide_eq_true (by kernel_rfl)) k0 bel lt0) trodAll_mk0), rfl, bel.frame _, fun h => by cases h⟩
theorem over : Rows.nodeTellsRow.holds Try.pinned (OpenSpec.ofChange Rows.nodeTellsSpec) :=
  OpenClaim.holds_of_wide 4 Try.f4 rfl rfl rfl rfl rfl rfl rfl ⟨rfl, rfl, rfl, rfl, rfl⟩ rfl rfl rfl rfl rfl (by kernel_rfl) Try.func4 (by kernel_rfl)
    (of_decide_eq_true (by kernel_rfl)) (by unfold Func.isWrapper; first | (rw [if_pos (by decide +kernel)]; kernel_rfl) | (rw [if_neg (by decide +kernel)]; exact ⟨rfl, rfl⟩))
    (fun os started H enc _ => lifted os started H enc)
theorem proved : Rows.NodeTellsSaid := over
#print axioms proved
end Go.Proofs.Ytdjiclphnoepcaa.nodeTells
namespace Go.Proofs.Ytdjiclphnoepcaa
/-- The row, under a short name, for the claim. -/
theorem nodeTells_holds : Rows.NodeTellsSaid := nodeTells.proved
end Go.Proofs.Ytdjiclphnoepcaa
