/- The pure side of ValueNames: what the printed function of numbers and lists answers is true, at all of them. -/
import Derived.Test.YtddpgppmfibddaaPx3
import Derived.Test.YtddpgppmfibddaaKinds
import Derived.Test.YtddpgppmfibddaaVA
set_option linter.unusedVariables false
set_option linter.unusedSimpArgs false
namespace Go.Proofs.Ytddpgppmfibddaa.Pure
open Go.RowKit Go.Proofs.Ytddpgppmfibddaa.P Go.Proofs.YtddpgppmfibddaaW.PrintWords Go.Proofs.YtddpgppmfibddaaW.PrintLast Go.Proofs.YtddpgppmfibddaaOwn

theorem ValueNames : ∃ k, tailracelaw01_ValueNames.f k  = some true := by
  refine ⟨7, ?_⟩
  unfold tailracelaw01_ValueNames.f
  rw [awake01_eq 7 (by omega)]; rfl
end Go.Proofs.Ytddpgppmfibddaa.Pure
