import Derived.Test.YtniihilegljgmaaHandX
namespace Go.Proofs.Ytniihilegljgmaa.Pure
open Go.RowKit Go.Proofs.Ytniihilegljgmaa.P Go.Proofs.YtniihilegljgmaaW.PrintWords Go.Proofs.YtniihilegljgmaaW.PrintLast
theorem KeysBetween : ∀ (l0 : List Int) (l1 : List Int), (List.length l0 ≤ maxLen ∧ ∀ y_ ∈ l0, (Lit.int .u8 y_).wf = true) → (List.length l1 ≤ maxLen ∧ ∀ y_ ∈ l1, (Lit.int .u8 y_).wf = true) → tailracelaw02_KeysBetween.f l0 l1 = some true := by
  intro l0 l1 h0 h1
  unfold tailracelaw02_KeysBetween.f
  rw [if_pos ⟨byt_wf h0.2, byt_wf h1.2⟩]
end Go.Proofs.Ytniihilegljgmaa.Pure
