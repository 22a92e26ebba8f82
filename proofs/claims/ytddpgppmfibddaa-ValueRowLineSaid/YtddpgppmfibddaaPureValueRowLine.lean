/- The pure side of ValueRowLine: what the printed function of numbers and lists answers is true, at all of them. -/
import Derived.Test.YtddpgppmfibddaaPx7
import Derived.Test.YtddpgppmfibddaaKinds
import Derived.Test.YtddpgppmfibddaaVA
import Derived.Test.YtddpgppmfibddaaVR
set_option linter.unusedVariables false
set_option linter.unusedSimpArgs false
namespace Go.Proofs.Ytddpgppmfibddaa.Pure
open Go.RowKit Go.Proofs.Ytddpgppmfibddaa.P Go.Proofs.YtddpgppmfibddaaW.PrintWords Go.Proofs.YtddpgppmfibddaaW.PrintLast Go.Proofs.YtddpgppmfibddaaOwn

theorem ValueRowLine : ∀ (l0 : List S24) (l1 : List S24) (l2 : List S24), (List.length l0 ≤ maxLen ∧ ∀ y_ ∈ l0, fit24 y_) → (List.length l1 ≤ maxLen ∧ ∀ y_ ∈ l1, fit24 y_) → (List.length l2 ≤ maxLen ∧ ∀ y_ ∈ l2, fit24 y_) → ∃ k, tailracelaw01_ValueRowLine.f k l0 l1 l2 = some true := by
  intro l0 l1 l2 ⟨f0, _⟩ ⟨f1, _⟩ ⟨f2, _⟩
  refine ⟨1000, ?_⟩
  unfold tailracelaw01_ValueRowLine.f
  rw [awake01_eq 1000 (by omega)]
  simp only [Option.bind_some]
  by_cases g0 : (l0.length : Int) > 200
  · rw [if_pos g0]; simp [tailracelaw01_ValueRowLine.j0]
  rw [if_neg g0]
  by_cases g1 : (l1.length : Int) > 200
  · rw [if_pos g1]; simp [tailracelaw01_ValueRowLine.j0]
  rw [if_neg g1]
  by_cases g2 : (l2.length : Int) > 200
  · rw [decide_eq_true g2]; simp [tailracelaw01_ValueRowLine.j0]
  rw [decide_eq_false g2]
  have r1 := cm_row.rng l0 l1
  have r2 := cm_row.anti l0 l1
  have r3 := cm_row.tr l0 l1 l2
  have j1 : ∀ b, tailracelaw01_ValueRowLine.j1 999 l0 l1 true (cmpR l0 l1) b = some (!b) := by
    intro b
    simp only [tailracelaw01_ValueRowLine.j1]
    cases b
    · simp only [Option.bind_some, List.nil_append, List.length_nil]
      rw [if_neg (by simp), if_pos (by omega), if_pos (by omega), ref_Same_eq l0 l1 f0 998 (by omega), value_CmpRow_eq l0 _ f0 998 (by omega)]
      simp only [Option.bind_some, cmpL_more cm_value]
      simp
    · simp
  simp only [tailracelaw01_ValueRowLine.j0]
  rw [if_neg (by simp), value_CmpRow_eq l0 l1 f0 999 (by omega), value_CmpRow_eq l1 l2 f1 999 (by omega), value_CmpRow_eq l0 l2 f0 999 (by omega), value_CmpRow_eq l1 l0 f1 999 (by omega)]
  simp only [Option.bind_some, j1]
  have q : (cmpR l1 l0 != wrap64 (-cmpR l0 l1)) = false := by
    rw [bne_eq_false_iff_eq]; unfold wrap64; omega
  rw [q]
  generalize cmpR l0 l1 = x at *
  generalize cmpR l1 l2 = y at *
  generalize cmpR l0 l2 = u at *
  by_cases p1 : x ≤ 0
  · rw [if_pos p1]
    by_cases p2 : y ≤ 0
    · rw [if_pos p2, if_neg (by omega)]
      by_cases p3 : x < 0
      · rw [if_pos p3, if_neg (by omega)]; rfl
      · rw [if_neg p3]; rfl
    · rw [if_neg p2]
      split <;> rfl
  · rw [if_neg p1, if_neg (by omega)]; rfl
end Go.Proofs.Ytddpgppmfibddaa.Pure
