/- The pure side of NodeBack: what the printed function of numbers and lists answers is true, at all of them. -/
import Derived.Test.YtdjiclphnoepcaaPx9
import Derived.Test.YtdjiclphnoepcaaKinds
import Derived.Test.YtdjiclphnoepcaaRN
import Derived.Test.YtdjiclphnoepcaaRS
import Derived.Test.YtdjiclphnoepcaaRT
set_option linter.unusedVariables false
set_option linter.unusedSimpArgs false
namespace Go.Proofs.Ytdjiclphnoepcaa.Pure
open Go.RowKit Go.Proofs.Ytdjiclphnoepcaa.P Go.Proofs.YtdjiclphnoepcaaW.PrintWords Go.Proofs.YtdjiclphnoepcaaW.PrintLast

theorem back_j3 (a : Int) (b : List Int) (hb : Byt b) (hl : b.length ≤ 2000) (k : Nat) : tailracelaw10_NodeBack.j3 (k + 1) a b true = some true := by
  simp only [tailracelaw10_NodeBack.j3]
  have e1 : node_Decode.f a b = some (decF a b) := dec_f a b hb
  rw [e1]
  simp only [Option.bind_some]
  rcases dec_cases a b with e | e
  · rw [e]; simp
  · rw [if_pos e]
    obtain ⟨leaf, keys, vals, kids, z⟩ : ∃ leaf keys vals kids, decF a b = (leaf, keys, vals, kids, 0) := ⟨_, _, _, _, by rw [← e]⟩
    obtain ⟨q1, q2, q3, q4⟩ := dec_ok hb z
    have n1 := sumS_nonneg keys
    have n2 := sumS_nonneg vals
    rw [z]
    simp only
    unfold sizN at q2
    have e2 : node_Encode.f leaf keys vals kids = some (encS leaf keys vals kids) := by unfold node_Encode.f; rw [if_pos ⟨by omega, by omega, by omega⟩]
    have e3 : encS leaf keys vals kids = (a, b, 0) := by unfold encS; rw [if_pos q1, if_pos (by unfold sizN; omega), q3, ← q4]
    rw [e2, e3]
    simp
theorem NodeBack : ∀ (a0_0 : Bool) (l0_1 : List ByteArray) (l0_2 : List ByteArray) (l0_3 : List Int) (a1 : Int) (l2 : List Int), (fit26 (⟨a0_0, l0_1, l0_2, l0_3⟩ : S26)) → ((Lit.int .i64 a1).wf = true) → (List.length l2 ≤ maxLen ∧ ∀ y_ ∈ l2, (Lit.int .u8 y_).wf = true) → ∃ k, tailracelaw10_NodeBack.f k a0_0 l0_1 l0_2 l0_3 a1 l2 = some true := by
  intro leaf keys vals kids a b hf _ hb0
  obtain ⟨_, ⟨f1, _⟩, ⟨f2, _⟩, _⟩ := hf
  obtain ⟨_, hb1⟩ := hb0
  have hb : Byt b := byt_wf hb1
  refine ⟨3000 + 3, ?_⟩
  have hfew := Few_eq leaf keys vals kids f1 f2 (3000 + 3) (by omega) (by omega)
  unfold tailracelaw10_NodeBack.f
  rw [show tailracelaw10_awake.f = some true from rfl, hfew]
  simp only [Option.bind_some]
  have early : ∀ x : Bool, x = true → tailracelaw10_NodeBack.j0 (3000 + 3) a b true x leaf keys vals kids = some true := by
    intro x hx
    simp only [tailracelaw10_NodeBack.j0]
    rw [if_pos hx]
  by_cases c : few keys vals kids = true
  · rw [if_pos c]
    by_cases hl : (b.length : Int) > 2000
    · exact early _ (by simpa using hl)
    have c0 := c
    simp only [few, small, Bool.and_eq_true, decide_eq_true_eq, List.all_eq_true] at c0
    obtain ⟨⟨⟨c1, c2⟩, c3⟩, c4, c5⟩ := c0
    have s1 : ∀ s ∈ keys, s.size ≤ 1000000 := fun s hs => by have := c4 s hs; omega
    have s2 : ∀ s ∈ vals, s.size ≤ 1000000 := fun s hs => by have := c5 s hs; omega
    have e1 : node_Encode.f leaf keys vals kids = some (encS leaf keys vals kids) := by unfold node_Encode.f; rw [if_pos ⟨by omega, by omega, by omega⟩]
    have eS := node_Size_eq leaf keys vals kids (by omega) (by omega) (by omega) s1 s2 3002 (by omega)
    have eC := node_Check_eq leaf keys vals kids (by omega) (by omega) (by omega) 3002 (by omega)
    have last := fun k => back_j3 a b hb (by omega) k
    rw [decide_eq_false hl]
    show tailracelaw10_NodeBack.j0 (3002 + 1) a b true false leaf keys vals kids = some true
    simp only [tailracelaw10_NodeBack.j0]
    rw [if_neg (by simp), e1]
    simp only [Option.bind_some]
    by_cases h1 : chk leaf keys vals kids = true
    · by_cases h2 : sizN keys vals kids ≤ 1000
      · have e3 : encS leaf keys vals kids = (if leaf = true then 2 else 3, encB leaf keys vals kids, 0) := by unfold encS; rw [if_pos h1, if_pos h2]
        have e4 : node_Decode.f (if leaf = true then 2 else 3) (encB leaf keys vals kids) = some (leaf, keys, vals, kids, 0) := by rw [dec_f _ _ (encB_byt _ _ _ _), dec_enc _ _ _ _ h1 h2]
        rw [e3]
        simp only [if_pos, e4, Option.bind_some]
        rw [Same_eq leaf leaf keys vals keys vals kids kids f1 f2 (by rw [maxLen_eq]; omega) 3002 (by omega), eS]
        have e5 := encB_length leaf keys vals kids h1
        simp only [Option.bind_some, decide_true, and_self, if_true, e5]
        rw [if_neg (by omega)]
        show (if (if leaf = true then (2 : Int) else 3) = 2 then tailracelaw10_NodeBack.j1 (3001 + 1) a b true false else tailracelaw10_NodeBack.j1 (3001 + 1) a b true leaf) = some true
        simp only [tailracelaw10_NodeBack.j1]
        cases leaf
        · simpa using last 3000
        · simpa using last 3000
      · have e3 : encS leaf keys vals kids = (0, [], 101) := by unfold encS; rw [if_pos h1, if_neg h2]
        rw [e3, eC, eS, if_pos h1]
        simp only [Option.bind_some]
        rw [if_neg (by decide), if_pos trivial]
        show tailracelaw10_NodeBack.j2 (3001 + 1) a b true _ = some true
        simp only [tailracelaw10_NodeBack.j2]
        rw [if_neg (by simp; omega)]
        exact last 3000
    · have e3 : encS leaf keys vals kids = (0, [], 100) := by unfold encS; rw [if_neg h1]
      rw [e3, eC, if_neg h1]
      simp only [Option.bind_some]
      rw [if_neg (by decide), if_neg (by decide)]
      show tailracelaw10_NodeBack.j2 (3001 + 1) a b true _ = some true
      simp only [tailracelaw10_NodeBack.j2]
      rw [if_neg (by decide)]
      exact last 3000
  · rw [if_neg c]
    exact early true rfl
end Go.Proofs.Ytdjiclphnoepcaa.Pure
