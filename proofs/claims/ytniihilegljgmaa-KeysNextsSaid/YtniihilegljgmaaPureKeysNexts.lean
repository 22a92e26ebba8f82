import Derived.Test.YtniihilegljgmaaPx7
import Derived.Test.YtniihilegljgmaaK2
set_option linter.unusedVariables false
set_option linter.unusedSimpArgs false
namespace Go.Proofs.Ytniihilegljgmaa.Pure
open Go.RowKit Go.Proofs.Ytniihilegljgmaa.P Go.Proofs.YtniihilegljgmaaW.PrintWords Go.Proofs.YtniihilegljgmaaW.PrintLast

theorem KeysNexts : ∀ (l0 : List Int) (l1 : List Int), (List.length l0 ≤ maxLen ∧ ∀ y_ ∈ l0, (Lit.int .u8 y_).wf = true) → (List.length l1 ≤ maxLen ∧ ∀ y_ ∈ l1, (Lit.int .u8 y_).wf = true) → ∃ k, tailracelaw02_KeysNexts.f k l0 l1 = some true := by
  intro l0 l1 h0 h1
  have w0 := h0.2
  have w1 := h1.2
  refine ⟨10000, ?_⟩
  have B0 := byt_wf w0
  have B1 := byt_wf w1
  unfold tailracelaw02_KeysNexts.f
  rw [show tailracelaw02_awake.f = some true from rfl]
  simp only [Option.bind_some]
  by_cases g0 : (l0.length : Int) > 2000
  · rw [if_pos g0]; rfl
  rw [if_neg g0]
  by_cases g1 : (l1.length : Int) > 2000
  · rw [decide_eq_true g1]; rfl
  rw [decide_eq_false g1]
  simp only [tailracelaw02_KeysNexts.j0]
  rw [if_neg (by decide), Next_eq l0 (by omega) B0 _ (by omega), ref_Next_eq l0 (by omega) B0]
  have hS : ∀ q : List Int, Byt q → tailraceref02_Same.f q q = some true := fun q hq => by rw [Same_eq q q hq hq]; simp
  rcases hn : nxt l0 with _ | m
  · simp only [Option.bind_some]
    rw [hS [] (by intro x hx; simp at hx)]
    simp only [Option.bind_some]
    rw [Cmp_eq l0 l1 B0 B1, ref_Cmp02_eq l0 l1 B0 B1]
    simp
  · simp only [Option.bind_some]
    rw [hS m (nxt_byt B0 hn)]
    simp only [Option.bind_some]
    rw [Cmp_eq l0 l1 B0 B1, ref_Cmp02_eq l0 l1 B0 B1]
    simp

end Go.Proofs.Ytniihilegljgmaa.Pure
