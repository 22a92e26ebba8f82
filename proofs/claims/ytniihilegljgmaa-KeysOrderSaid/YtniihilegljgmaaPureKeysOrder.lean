import Derived.Test.YtniihilegljgmaaPx8
import Derived.Test.YtniihilegljgmaaK4
import Derived.Test.YtniihilegljgmaaKinds
set_option linter.unusedVariables false
set_option linter.unusedSimpArgs false
namespace Go.Proofs.Ytniihilegljgmaa.Pure
open Go.RowKit Go.Proofs.Ytniihilegljgmaa.P Go.Proofs.YtniihilegljgmaaW.PrintWords Go.Proofs.YtniihilegljgmaaW.PrintLast

theorem ints {l : List S38} (h : ∀ y ∈ l, fit38 y) (hf : Few l) : ∀ v ∈ l, v.f2.size ≤ 1000 ∧ -9223372036854775808 ≤ v.f1 ∧ v.f1 ≤ 9223372036854775807 := fun v hv => by
  have h1 := h v hv
  have h2 := hf.2 v hv
  obtain ⟨_, h3, _⟩ := h1
  simp only [Lit.wf, Bool.and_eq_true, decide_eq_true_eq] at h3
  have h4 : IntKind.i64.min = -9223372036854775808 := by decide
  have h5 : IntKind.i64.max = 9223372036854775807 := by decide
  omega
theorem KeysOrder : ∀ (l0 : List S38) (l1 : List S38), (List.length l0 ≤ maxLen ∧ ∀ y_ ∈ l0, fit38 y_) → (List.length l1 ≤ maxLen ∧ ∀ y_ ∈ l1, fit38 y_) → ∃ k, tailracelaw02_KeysOrder.f k l0 l1 = some true := by
  intro l0 l1 h0 h1
  refine ⟨1000, ?_⟩
  unfold tailracelaw02_KeysOrder.f
  rw [show tailracelaw02_awake.f = some true from rfl]
  simp only [Option.bind_some]
  obtain ⟨b0, e0, f0⟩ := few_eq l0 1000 (by omega)
  rw [e0]
  simp only [Option.bind_some]
  cases b0
  · rfl
  rw [if_pos rfl]
  obtain ⟨b1, e1, f1⟩ := few_eq l1 1000 (by omega)
  rw [e1]
  simp only [Option.bind_some]
  cases b1
  · rfl
  have F0 := f0 rfl
  have F1 := f1 rfl
  have n0 := F0.1
  have n1 := F1.1
  simp only [tailracelaw02_KeysOrder.j0, Bool.not_true]
  rw [if_neg (by decide)]
  obtain ⟨g0, d0, hg0⟩ := good_eq l0 (by omega) 999 (by omega)
  obtain ⟨g1, d1, hg1⟩ := good_eq l1 (by omega) 999 (by omega)
  rw [d0, d1]
  simp only [Option.bind_some]
  cases g0
  · rfl
  cases g1
  · rfl
  have O0 := hg0.1 rfl
  have O1 := hg1.1 rfl
  simp only [tailracelaw02_KeysOrder.j1, Bool.not_true, if_true]
  rw [if_neg (by decide), Row_eq l0 (by omega) (ok_ints O0), Row_eq l1 (by omega) (ok_ints O1)]
  simp only [Option.bind_some]
  rw [Cmp_eq _ _ (rowK_byt l0) (rowK_byt l1), value_CmpRow_eq l0 l1 h0.1 _ (by omega), row_cmp l0 l1 O0 O1]
  simp

end Go.Proofs.Ytniihilegljgmaa.Pure
