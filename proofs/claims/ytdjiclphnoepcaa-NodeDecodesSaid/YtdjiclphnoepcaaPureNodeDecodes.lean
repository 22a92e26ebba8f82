/- The pure side of NodeDecodes: what the printed function of numbers and lists answers is true, at all of them. -/
import Derived.Test.YtdjiclphnoepcaaPx8
import Derived.Test.YtdjiclphnoepcaaKinds
import Derived.Test.YtdjiclphnoepcaaRD
set_option linter.unusedVariables false
set_option linter.unusedSimpArgs false
namespace Go.Proofs.Ytdjiclphnoepcaa.Pure
open Go.RowKit Go.Proofs.Ytdjiclphnoepcaa.P Go.Proofs.YtdjiclphnoepcaaW.PrintWords Go.Proofs.YtdjiclphnoepcaaW.PrintLast

theorem NodeDecodes : ∀ (a0 : Int) (l1 : List Int), ((Lit.int .i64 a0).wf = true) → (List.length l1 ≤ maxLen ∧ ∀ y_ ∈ l1, (Lit.int .u8 y_).wf = true) → ∃ k, tailracelaw10_NodeDecodes.f k a0 l1 = some true := by
  intro a b _ hb0
  obtain ⟨_, hb1⟩ := hb0
  have hb : Byt b := byt_wf hb1
  refine ⟨600010, ?_⟩
  unfold tailracelaw10_NodeDecodes.f
  rw [show tailracelaw10_awake.f = some true from rfl]
  simp only [Option.bind_some]
  by_cases hl : (b.length : Int) > 2000
  · rw [if_pos hl]
  · rw [if_neg hl, rDec_eq a b hb 600010 (by omega)]
    have e1 : node_Decode.f a b = some (decF a b) := dec_f a b hb
    obtain ⟨l1, l2, l3⟩ := decF_lens a b hb
    rw [e1]
    simp only [Option.bind_some]
    rw [Same_eq _ _ _ _ _ _ _ _ (by rw [maxLen_eq]; omega) (by rw [maxLen_eq]; omega) (by rw [maxLen_eq]; omega) 600010 (by omega)]
    simp
end Go.Proofs.Ytdjiclphnoepcaa.Pure
