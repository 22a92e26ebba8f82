import Derived.WalkMore
import Derived.WalkKit
set_option linter.unusedVariables false
namespace Go.Proofs.YtddpgppmfibddaaOwn
theorem wp_scope_noGoto {P : Program} {c : Code} {Q : Exit → Act → World → Prop} {a : Act} {w : World} (hq : ∀ l a w, ¬ Q (.goto l) a w) (h : c.wp P Q a w) : (Code.scope c).wp P Q a w :=
  wp_scope_straight (Code.wp_mono (fun e a w q => by cases e <;> first | exact q | exact absurd q (hq _ _ _)) h)
theorem wp_scope_body {P : Program} {fn : Func} {R : Ending → World → Prop} {c : Code} {a : Act} {w : World} (h : c.wp P (bodyPost P fn R) a w) : (Code.scope c).wp P (bodyPost P fn R) a w :=
  wp_scope_noGoto (fun _ _ _ q => q) h
end Go.Proofs.YtddpgppmfibddaaOwn
