/- The pure side of NodeCuts: the law's contract by hand answers true at all inputs. -/
import Derived.Test.YtdjiclphnoepcaaHandY
import Derived.Test.YtdjiclphnoepcaaKinds
set_option linter.unusedVariables false
set_option linter.unusedSimpArgs false
namespace Go.Proofs.Ytdjiclphnoepcaa.Pure
open Go.RowKit Go.Proofs.Ytdjiclphnoepcaa.P Go.Proofs.YtdjiclphnoepcaaW.PrintWords Go.Proofs.YtdjiclphnoepcaaW.PrintLast

theorem NodeCuts : ∀ (a0_0 : Bool) (l0_1 : List ByteArray) (l0_2 : List ByteArray) (l0_3 : List Int) (a1 : Int) (l2 : List Int), (fit26 (⟨a0_0, l0_1, l0_2, l0_3⟩ : S26)) → ((Lit.int .i64 a1).wf = true) → (List.length l2 ≤ maxLen ∧ ∀ y_ ∈ l2, (Lit.int .u8 y_).wf = true) → tailracelaw10_NodeCuts.f a0_0 l0_1 l0_2 l0_3 a1 l2 = some true := by
  intro leaf keys vals kids a b hf ha hb0
  obtain ⟨_, ⟨f1, _⟩, ⟨f2, _⟩, _⟩ := hf
  simp only [Lit.wf, Bool.and_eq_true, decide_eq_true_eq] at ha
  have h2 : IntKind.i64.min = -9223372036854775808 := by decide
  have h3 : IntKind.i64.max = 9223372036854775807 := by decide
  unfold tailracelaw10_NodeCuts.f
  exact if_pos ⟨⟨f1, f2⟩, ⟨by omega, by omega⟩, byt_wf hb0.2⟩
end Go.Proofs.Ytdjiclphnoepcaa.Pure
