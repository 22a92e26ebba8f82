import Derived.Test.YtniihilegljgmaaPx6
import Derived.Test.YtniihilegljgmaaK2
import Derived.Test.YtniihilegljgmaaKinds
set_option linter.unusedVariables false
set_option linter.unusedSimpArgs false
namespace Go.Proofs.Ytniihilegljgmaa.Pure
open Go.RowKit Go.Proofs.Ytniihilegljgmaa.P Go.Proofs.YtniihilegljgmaaW.PrintWords Go.Proofs.YtniihilegljgmaaW.PrintLast

theorem ints {l : List S38} (h : ∀ y ∈ l, fit38 y) (hf : Few l) : ∀ v ∈ l, v.f2.size ≤ 1000 ∧ -9223372036854775808 ≤ v.f1 ∧ v.f1 ≤ 9223372036854775807 := fun v hv => by
  have h1 := h v hv
  have h2 := hf.2 v hv
  obtain ⟨_, h3, _⟩ := h1
  simp only [Lit.wf, Bool.and_eq_true, decide_eq_true_eq] at h3
  have h4 : IntKind.i64.min = -9223372036854775808 := by decide
  have h5 : IntKind.i64.max = 9223372036854775807 := by decide
  omega
theorem KeysTells : ∀ (l0 : List S38) (l1 : List Int), (List.length l0 ≤ maxLen ∧ ∀ y_ ∈ l0, fit38 y_) → (List.length l1 ≤ maxLen ∧ ∀ y_ ∈ l1, (Lit.int .u8 y_).wf = true) → ∃ k, tailracelaw02_KeysTells.f k l0 l1 = some true := by
  intro l0 l1 h0 h1
  refine ⟨300000, ?_⟩
  have B1 := byt_wf h1.2
  unfold tailracelaw02_KeysTells.f
  rw [show tailracelaw02_awake.f = some true from rfl]
  simp only [Option.bind_some]
  obtain ⟨b0, e0, f0⟩ := few_eq l0 300000 (by omega)
  rw [e0]
  simp only [Option.bind_some]
  cases b0
  · rfl
  rw [if_pos rfl]
  by_cases g1 : (l1.length : Int) > 2000
  · rw [decide_eq_true g1]; rfl
  rw [decide_eq_false g1]
  have F0 := f0 rfl
  have s0 := ints h0.2 F0
  have n0 := F0.1
  simp only [tailracelaw02_KeysTells.j0]
  rw [if_neg (by decide), Decode_eq l1 (by omega) B1, ref_Decode_eq l1 (by omega) B1 _ (by omega), Row_eq l0 (by omega) s0, ref_Row_eq l0 (by omega) s0 _ (by omega)]
  simp only [Option.bind_some]
  rw [Same_eq _ _ (rowK_byt l0) (rowK_byt l0)]
  rcases hn : decR l1 with _ | m
  · simp only [Option.bind_some]
    rw [same_self [] (by simp) _ (by omega)]
    simp
  · have := row_dec l1.length l1 m (Nat.le_refl _) B1 hn
    simp only [Option.bind_some]
    rw [same_self m (by omega) _ (by omega)]
    simp

end Go.Proofs.Ytniihilegljgmaa.Pure
