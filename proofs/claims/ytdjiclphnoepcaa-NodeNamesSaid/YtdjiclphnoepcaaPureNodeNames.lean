/- The pure side of NodeNames: what the printed function answers is true. -/
import Derived.Test.YtdjiclphnoepcaaPx4
import Derived.Test.YtdjiclphnoepcaaKinds
namespace Go.Proofs.Ytdjiclphnoepcaa.Pure
open Go.RowKit Go.Proofs.Ytdjiclphnoepcaa.P Go.Proofs.YtdjiclphnoepcaaW.PrintWords Go.Proofs.YtdjiclphnoepcaaW.PrintLast

theorem NodeNames : tailracelaw10_NodeNames.f = some true := by
  unfold tailracelaw10_NodeNames.f tailracelaw10_awake.f
  rfl
end Go.Proofs.Ytdjiclphnoepcaa.Pure
