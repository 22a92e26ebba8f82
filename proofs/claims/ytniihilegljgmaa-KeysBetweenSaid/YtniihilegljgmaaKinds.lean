import Derived.Test.YtniihilegljgmaaPx0
import Derived.Test.YtniihilegljgmaaReads
namespace Go.Proofs.Ytniihilegljgmaa.P
open Go.RowKit Go.Proofs.YtniihilegljgmaaW.PrintWords Go.Proofs.YtniihilegljgmaaOwn
set_option linter.unusedVariables false
def fit38 (x : S38) : Prop := ((Lit.int .i64 x.f0).wf = true) ∧ ((Lit.int .i64 x.f1).wf = true) ∧ (ByteArray.size x.f2 ≤ maxLen)
theorem rd38 : Rd Try.prog 38 k38 fit38 :=
  rd_struct (d := (Kd.pair (Kd.int .i64) (Kd.pair (Kd.int .i64) Kd.string))) (fun x : S38 => (x.f0, x.f1, x.f2)) (fun p => ⟨p.1, p.2.1, p.2.2⟩) (fun _ => rfl) Try.underlying38 (by kernel_rfl) (fun _ _ _ h => h) rfl (rdf_cons (rd_int Try.underlying3 (by kernel_rfl)) rfl (rdf_cons (rd_int Try.underlying2 (by kernel_rfl)) rfl (rdf_last (rd_string Try.underlying9 (by kernel_rfl)))))
end Go.Proofs.Ytniihilegljgmaa.P
