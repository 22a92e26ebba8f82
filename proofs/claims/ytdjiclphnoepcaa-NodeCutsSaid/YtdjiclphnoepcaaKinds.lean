import Derived.Test.YtdjiclphnoepcaaPx0
import Derived.Test.YtdjiclphnoepcaaReads
namespace Go.Proofs.Ytdjiclphnoepcaa.P
open Go.RowKit Go.Proofs.YtdjiclphnoepcaaW.PrintWords Go.Proofs.YtdjiclphnoepcaaOwn
set_option linter.unusedVariables false
def fit26 (x : S26) : Prop := (True) ∧ (List.length x.f1 ≤ maxLen ∧ ∀ y_ ∈ x.f1, ByteArray.size y_ ≤ maxLen) ∧ (List.length x.f2 ≤ maxLen ∧ ∀ y_ ∈ x.f2, ByteArray.size y_ ≤ maxLen) ∧ (List.length x.f3 ≤ maxLen ∧ ∀ y_ ∈ x.f3, (Lit.int .i64 y_).wf = true)
theorem rd26 : Rd Try.prog 26 k26 fit26 :=
  rd_struct (d := (Kd.pair Kd.bool (Kd.pair (Kd.slice 9 Kd.string) (Kd.pair (Kd.slice 9 Kd.string) (Kd.slice 3 (Kd.int .i64)))))) (fun x : S26 => (x.f0, x.f1, x.f2, x.f3)) (fun p => ⟨p.1, p.2.1, p.2.2.1, p.2.2.2⟩) (fun _ => rfl) Try.underlying26 (by kernel_rfl) (fun _ _ _ h => h) rfl (rdf_cons (rd_bool Try.underlying4 (by kernel_rfl)) rfl (rdf_cons (rd_slice Try.underlying23 (by kernel_rfl) (rd_string Try.underlying9 (by kernel_rfl))) rfl (rdf_cons (rd_slice Try.underlying23 (by kernel_rfl) (rd_string Try.underlying9 (by kernel_rfl))) rfl (rdf_last (rd_slice Try.underlying24 (by kernel_rfl) (rd_int Try.underlying3 (by kernel_rfl)))))))
end Go.Proofs.Ytdjiclphnoepcaa.P
