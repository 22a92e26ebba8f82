/- The pure side of ValueTells: what the printed function of numbers and lists answers is true, at all of them. -/
import Derived.Test.YtddpgppmfibddaaPx4
import Derived.Test.YtddpgppmfibddaaKinds
import Derived.Test.YtddpgppmfibddaaVA
import Derived.Test.YtddpgppmfibddaaVR
set_option linter.unusedVariables false
set_option linter.unusedSimpArgs false
namespace Go.Proofs.Ytddpgppmfibddaa.Pure
open Go.RowKit Go.Proofs.Ytddpgppmfibddaa.P Go.Proofs.YtddpgppmfibddaaW.PrintWords Go.Proofs.YtddpgppmfibddaaW.PrintLast Go.Proofs.YtddpgppmfibddaaOwn

theorem ValueTells : ∀ (a0_0 : Int) (a0_1 : Int) (a0_2 : ByteArray) (a1_0 : Int) (a1_1 : Int) (a1_2 : ByteArray), (fit24 (⟨a0_0, a0_1, a0_2⟩ : S24)) → (fit24 (⟨a1_0, a1_1, a1_2⟩ : S24)) → ∃ k, tailracelaw01_ValueTells.f k a0_0 a0_1 a0_2 a1_0 a1_1 a1_2 = some true := by
  intro a0 a1 a2 b0 b1 b2 _ _
  refine ⟨7, ?_⟩
  have h1 := ref_Check_eq ⟨a0, a1, a2⟩ 7 (by omega)
  have h2 := ref_Cmp_eq ⟨a0, a1, a2⟩ ⟨b0, b1, b2⟩ 7 (by omega)
  have h3 := value_Check_eq ⟨a0, a1, a2⟩
  have h4 := value_Cmp_eq ⟨a0, a1, a2⟩ ⟨b0, b1, b2⟩
  unfold tailracelaw01_ValueTells.f
  rw [awake01_eq 7 (by omega), h1, h2, h3, h4]
  simp
end Go.Proofs.Ytddpgppmfibddaa.Pure
