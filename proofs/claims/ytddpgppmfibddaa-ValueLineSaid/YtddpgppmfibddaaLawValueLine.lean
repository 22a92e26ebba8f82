/- The law ValueLine of the given program holds as stated: for every input the call returns true and leaves its arguments as they read before. No condition. -/
import Derived.Test.YtddpgppmfibddaaRows
import Derived.Test.YtddpgppmfibddaaPx6
import Derived.Test.YtddpgppmfibddaaReads
import Derived.Test.YtddpgppmfibddaaKinds
import Derived.Test.YtddpgppmfibddaaPureValueLine
import Derived.WalkKit
import Derived.ProofKit
import Derived.OpenShut
import Derived.ShutString
import Derived.ChangeOld
import Derived.Below
import Derived.SizedLaws
namespace Go.Proofs.Ytddpgppmfibddaa.valueLine
open Go.ChangeShapes Go.WideShapes Go.ChangeAt Go.RowKit
open Go.ChangeMaps (open_string shut_string)
open Go.Proofs.Ytddpgppmfibddaa.P Go.Proofs.YtddpgppmfibddaaOwn Go.Proofs.YtddpgppmfibddaaW.PrintWords
set_option linter.unusedVariables false
theorem own : ownKnob Try.prog.godebug = none := by kernel_rfl
theorem laidOut : laidOutB Try.prog = true := by kernel_rfl
set_option maxRecDepth 100000 in
theorem lifted (os : Os) (started : os.Started) (H : Type) (enc : TypeId × Value → H) :
    ReturnsInHanded {} Try.checked os 6 .any (Rows.valueLineSpec.pre6 enc Try.prog Try.f6 Rows.valueLineRow.domain false) (Rows.valueLineSpec.post enc Try.prog Try.f6 false true false false) := by
  refine returnsInHanded_of_change_sized (C := Try.checked) own started (by kernel_rfl) Try.func6
    (ChangeSpec.witness6 (enc := enc) (C := Try.checked) false ⟨#[], #[.agg #[.int .i64 0, .int .i64 0, .string ByteArray.empty], .agg #[.int .i64 0, .int .i64 0, .string ByteArray.empty], .agg #[.int .i64 0, .int .i64 0, .string ByteArray.empty]], []⟩ 8 (by kernel_rfl) (by kernel_rfl) (by kernel_rfl) (by kernel_rfl)) ?_
  intro W base args ds gs before hval0 hW hcnd hsz0 _
  have hval : ∀ (j : Nat) t v, Try.f6.params[j]? = some t → args[j]? = some v → Value.okWide Try.prog W .any base t v := hval0
  have hW' := hW
  obtain ⟨p, q, hA0, hV, rfl, hfz, hnd⟩ := hW
  have hA : DataW.TrodAll enc Try.prog W 0 (fun _ => true) true Try.f6.params.toList args.toList ds p := hA0
  rw [Try.params6] at hA hval
  obtain ⟨v0, vs0, d0, ds0, p0, q0, hargs, rfl, rfl, h0, r0⟩ := trodAll_cons hA
  obtain ⟨v1, vs1, d1, ds1, p1, q1, rfl, rfl, rfl, h1, r1⟩ := trodAll_cons r0
  obtain ⟨v2, vs2, d2, ds2, p2, q2, rfl, rfl, rfl, h2, r2⟩ := trodAll_cons r1
  obtain ⟨rfl, rfl, rfl⟩ := trodAll_nil r2
  obtain rfl : args = #[v0, v1, v2] := by cases args; simp_all
  obtain ⟨rfl, rfl⟩ := trodVars_none hV
  obtain ⟨cs0, rfl, hcs0⟩ := okWide_agg Try.underlying24 (hval 0 24 v0 rfl rfl)
  have k0 := h0
  have lt0 : ∀ x ∈ p0, x.block < W.heap.size := by obtain ⟨m, hm⟩ := k0; exact DataW.trod_lt m _ _ _ hm
  obtain ⟨x0, hK0, w0⟩ := (show Rd Try.prog 24 _ _ from rd24).2 _ _ _ _ _ _ _ _ h0.choose_spec
  rw [hcs0] at hK0
  have e0 := k24_open hK0
  obtain rfl : cs0 = #[.int .i64 x0.f0, .int .i64 x0.f1, .string x0.f2] := by cases cs0; simpa using e0
  obtain ⟨cs1, rfl, hcs1⟩ := okWide_agg Try.underlying24 (hval 1 24 v1 rfl rfl)
  have k1 := h1
  have lt1 : ∀ x ∈ p1, x.block < W.heap.size := by obtain ⟨m, hm⟩ := k1; exact DataW.trod_lt m _ _ _ hm
  obtain ⟨x1, hK1, w1⟩ := (show Rd Try.prog 24 _ _ from rd24).2 _ _ _ _ _ _ _ _ h1.choose_spec
  rw [hcs1] at hK1
  have e1 := k24_open hK1
  obtain rfl : cs1 = #[.int .i64 x1.f0, .int .i64 x1.f1, .string x1.f2] := by cases cs1; simpa using e1
  obtain ⟨cs2, rfl, hcs2⟩ := okWide_agg Try.underlying24 (hval 2 24 v2 rfl rfl)
  have k2 := h2
  have lt2 : ∀ x ∈ p2, x.block < W.heap.size := by obtain ⟨m, hm⟩ := k2; exact DataW.trod_lt m _ _ _ hm
  obtain ⟨x2, hK2, w2⟩ := (show Rd Try.prog 24 _ _ from rd24).2 _ _ _ _ _ _ _ _ h2.choose_spec
  rw [hcs2] at hK2
  have e2 := k24_open hK2
  obtain rfl : cs2 = #[.int .i64 x2.f0, .int .i64 x2.f1, .string x2.f2] := by cases cs2; simpa using e2
  obtain ⟨kk, hk⟩ := Pure.ValueLine x0.f0 x0.f1 x0.f2 x1.f0 x1.f1 x1.f2 x2.f0 x2.f1 x2.f2 w0 w1 w2
  clear hA0 hval0 hsz0
  refine (tailracelaw01_ValueLine.calls kk x0.f0 x0.f1 x0.f2 x1.f0 x1.f1 x1.f2 x2.f0 x2.f1 x2.f2 true W  hk).mono fun e W' ⟨he, bel0⟩ => ?_
  have bel : Below W.heap.size W W' := bel0
  subst he
  exact ⟨_, rfl, _, _, _, [], _, [], hW', trodAll_mk1 (shut_bool Try.underlying4 _), (trodAll_cons_mk (Below.trod laidOut (by kernel_rfl) (of_decide_eq_true (by kernel_rfl)) k0 bel lt0) (trodAll_cons_mk (Below.trod laidOut (by kernel_rfl) (of_decide_eq_true (by kernel_rfl)) k1 bel lt1) (trodAll_cons_mk (Below.trod laidOut (by kernel_rfl) (of_decide_eq_true (by kernel_rfl)) k2 bel lt2) trodAll_mk0))), rfl, bel.frame _, fun h => by cases h⟩
theorem over : Rows.valueLineRow.holds Try.pinned (OpenSpec.ofChange Rows.valueLineSpec) :=
  OpenClaim.holds_of_wide 6 Try.f6 rfl rfl rfl rfl rfl rfl rfl ⟨rfl, rfl, rfl, rfl, rfl⟩ rfl rfl rfl rfl rfl (by kernel_rfl) Try.func6 (by kernel_rfl)
    (of_decide_eq_true (by kernel_rfl)) (by unfold Func.isWrapper; first | (rw [if_pos (by decide +kernel)]; kernel_rfl) | (rw [if_neg (by decide +kernel)]; exact ⟨rfl, rfl⟩))
    (fun os started H enc _ => lifted os started H enc)
theorem proved : Rows.ValueLineSaid := over
#print axioms proved
end Go.Proofs.Ytddpgppmfibddaa.valueLine
namespace Go.Proofs.Ytddpgppmfibddaa
/-- The row, under a short name, for the claim. -/
theorem valueLine_holds : Rows.ValueLineSaid := valueLine.proved
end Go.Proofs.Ytddpgppmfibddaa
