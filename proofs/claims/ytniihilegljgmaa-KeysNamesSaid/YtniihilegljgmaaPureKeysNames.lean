import Derived.Test.YtniihilegljgmaaPx3
set_option linter.unusedVariables false
set_option linter.unusedSimpArgs false
namespace Go.Proofs.Ytniihilegljgmaa.Pure
open Go.RowKit Go.Proofs.Ytniihilegljgmaa.P Go.Proofs.YtniihilegljgmaaW.PrintWords Go.Proofs.YtniihilegljgmaaW.PrintLast

theorem KeysNames : tailracelaw02_KeysNames.Pure := by
  rfl

end Go.Proofs.Ytniihilegljgmaa.Pure
