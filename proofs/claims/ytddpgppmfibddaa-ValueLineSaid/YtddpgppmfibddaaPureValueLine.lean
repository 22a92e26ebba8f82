/- The pure side of ValueLine: what the printed function of numbers and lists answers is true, at all of them. -/
import Derived.Test.YtddpgppmfibddaaPx6
import Derived.Test.YtddpgppmfibddaaKinds
import Derived.Test.YtddpgppmfibddaaVA
set_option linter.unusedVariables false
set_option linter.unusedSimpArgs false
namespace Go.Proofs.Ytddpgppmfibddaa.Pure
open Go.RowKit Go.Proofs.Ytddpgppmfibddaa.P Go.Proofs.YtddpgppmfibddaaW.PrintWords Go.Proofs.YtddpgppmfibddaaW.PrintLast Go.Proofs.YtddpgppmfibddaaOwn

theorem ValueLine : ∀ (a0_0 : Int) (a0_1 : Int) (a0_2 : ByteArray) (a1_0 : Int) (a1_1 : Int) (a1_2 : ByteArray) (a2_0 : Int) (a2_1 : Int) (a2_2 : ByteArray), (fit24 (⟨a0_0, a0_1, a0_2⟩ : S24)) → (fit24 (⟨a1_0, a1_1, a1_2⟩ : S24)) → (fit24 (⟨a2_0, a2_1, a2_2⟩ : S24)) → ∃ k, tailracelaw01_ValueLine.f k a0_0 a0_1 a0_2 a1_0 a1_1 a1_2 a2_0 a2_1 a2_2 = some true := by
  intro a0 a1 a2 b0 b1 b2 c0 c1 c2 _ _ _
  refine ⟨8, ?_⟩
  have hab := value_Cmp_eq ⟨a0, a1, a2⟩ ⟨b0, b1, b2⟩
  have hbc := value_Cmp_eq ⟨b0, b1, b2⟩ ⟨c0, c1, c2⟩
  have hac := value_Cmp_eq ⟨a0, a1, a2⟩ ⟨c0, c1, c2⟩
  have hba := value_Cmp_eq ⟨b0, b1, b2⟩ ⟨a0, a1, a2⟩
  have r1 := cm_value.rng ⟨a0, a1, a2⟩ ⟨b0, b1, b2⟩
  have r2 := cm_value.anti ⟨a0, a1, a2⟩ ⟨b0, b1, b2⟩
  have r3 := cm_value.tr ⟨a0, a1, a2⟩ ⟨b0, b1, b2⟩ ⟨c0, c1, c2⟩
  have z : (cmpV ⟨a0, a1, a2⟩ ⟨b0, b1, b2⟩ == 0) = (a0 == b0 && (a1 == b1 && (a2.toList == b2.toList))) := by
    rw [Bool.eq_iff_iff]
    simp only [beq_iff_eq, Bool.and_eq_true]
    rw [cmpV_zero]
    simp only [S24.mk.injEq]
    exact ⟨fun ⟨h1, h2, h3⟩ => ⟨h1, h2, by rw [h3]⟩, fun ⟨h1, h2, h3⟩ => ⟨h1, h2, toList_inj h3⟩⟩
  unfold tailracelaw01_ValueLine.f
  rw [awake01_eq 8 (by omega), hab, hbc, hac]
  simp only [Option.bind_some, tailracelaw01_ValueLine.j0]
  dsimp only at hba
  rw [hba]
  simp only [Option.bind_some, ← z]
  have key : (if true = true then (if cmpV ⟨b0, b1, b2⟩ ⟨a0, a1, a2⟩ = wrap64 (-cmpV ⟨a0, a1, a2⟩ ⟨b0, b1, b2⟩) then (if ((cmpV ⟨a0, a1, a2⟩ ⟨b0, b1, b2⟩ == 0) == (cmpV ⟨a0, a1, a2⟩ ⟨b0, b1, b2⟩ == 0)) = true then (if cmpV ⟨a0, a1, a2⟩ ⟨b0, b1, b2⟩ ≥ -1 then some (decide (cmpV ⟨a0, a1, a2⟩ ⟨b0, b1, b2⟩ ≤ 1)) else some false) else some false) else some false) else some false) = some true := by
    rw [if_pos rfl, if_pos (by unfold wrap64; omega), if_pos (by simp), if_pos (by omega)]
    congr 1
    exact decide_eq_true (by omega)
  generalize cmpV ⟨a0, a1, a2⟩ ⟨b0, b1, b2⟩ = x at *
  generalize cmpV ⟨b0, b1, b2⟩ ⟨c0, c1, c2⟩ = y at *
  generalize cmpV ⟨a0, a1, a2⟩ ⟨c0, c1, c2⟩ = u at *
  by_cases p1 : x ≤ 0
  · rw [if_pos p1]
    by_cases p2 : y ≤ 0
    · rw [if_pos p2, if_neg (by omega)]
      by_cases p3 : x < 0
      · rw [if_pos p3, if_neg (by simp; omega)]; exact key
      · rw [if_neg p3, if_neg (by simp)]; exact key
    · rw [if_neg p2]
      split
      · rw [if_neg (by simp)]; exact key
      · rw [if_neg (by simp)]; exact key
  · rw [if_neg p1, if_neg (by omega), if_neg (by simp)]; exact key
end Go.Proofs.Ytddpgppmfibddaa.Pure
