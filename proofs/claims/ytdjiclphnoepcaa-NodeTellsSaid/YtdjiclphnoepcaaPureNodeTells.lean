/- The pure side of NodeTells: what the printed function of numbers and lists answers is true, at all of them. -/
import Derived.Test.YtdjiclphnoepcaaPx7
import Derived.Test.YtdjiclphnoepcaaKinds
import Derived.Test.YtdjiclphnoepcaaRN
set_option linter.unusedVariables false
set_option linter.unusedSimpArgs false
namespace Go.Proofs.Ytdjiclphnoepcaa.Pure
open Go.RowKit Go.Proofs.Ytdjiclphnoepcaa.P Go.Proofs.YtdjiclphnoepcaaW.PrintWords Go.Proofs.YtdjiclphnoepcaaW.PrintLast

theorem NodeTells : ∀ (a0_0 : Bool) (l0_1 : List ByteArray) (l0_2 : List ByteArray) (l0_3 : List Int), (fit26 (⟨a0_0, l0_1, l0_2, l0_3⟩ : S26)) → ∃ k, tailracelaw10_NodeTells.f k a0_0 l0_1 l0_2 l0_3 = some true := by
  intro leaf keys vals kids hf
  obtain ⟨_, ⟨f1, _⟩, ⟨f2, _⟩, _⟩ := hf
  refine ⟨3000, ?_⟩
  have hfew := Few_eq leaf keys vals kids f1 f2 3000 (by omega) (by omega)
  unfold tailracelaw10_NodeTells.f
  rw [show tailracelaw10_awake.f = some true from rfl, hfew]
  simp only [Option.bind_some]
  by_cases c : few keys vals kids = true
  · have c0 := c
    simp only [few, small, Bool.and_eq_true, decide_eq_true_eq, List.all_eq_true] at c0
    obtain ⟨⟨⟨c1, c2⟩, c3⟩, c4, c5⟩ := c0
    have s1 : ∀ s ∈ keys, s.size ≤ 1000000 := fun s hs => by have := c4 s hs; omega
    have s2 : ∀ s ∈ vals, s.size ≤ 1000000 := fun s hs => by have := c5 s hs; omega
    have e1 : node_Encode.f leaf keys vals kids = some (encS leaf keys vals kids) := by unfold node_Encode.f; rw [if_pos ⟨by omega, by omega, by omega⟩]
    rw [if_pos c, e1, rEnc_eq leaf keys vals kids (by omega) (by omega) (by omega) s1 s2 3000 (by omega), node_Check_eq leaf keys vals kids (by omega) (by omega) (by omega) 3000 (by omega), rChk_eq leaf keys vals kids (by omega) (by omega) (by omega) 3000 (by omega),
      node_Size_eq leaf keys vals kids (by omega) (by omega) (by omega) s1 s2 3000 (by omega), rSize_eq leaf keys vals kids (by omega) (by omega) (by omega) s1 s2 3000 (by omega)]
    simp
  · rw [if_neg c]
end Go.Proofs.Ytdjiclphnoepcaa.Pure
