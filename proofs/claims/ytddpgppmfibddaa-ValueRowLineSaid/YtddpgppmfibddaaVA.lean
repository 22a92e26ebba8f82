/- The calls at the head of all statements of layer 1 answer as they should. -/
import Derived.Test.YtddpgppmfibddaaVS
import Derived.Test.YtddpgppmfibddaaPx3
set_option linter.unusedVariables false
set_option linter.unusedSimpArgs false
namespace Go.Proofs.Ytddpgppmfibddaa.P
open Go.RowKit Go.Proofs.YtddpgppmfibddaaW.PrintWords Go.Proofs.YtddpgppmfibddaaW.PrintLast Go.Proofs.YtddpgppmfibddaaOwn
theorem awake01_eq (k : Nat) (hk : 6 < k) : tailracelaw01_awake.f k = some true := by
  have e1 : value_Cmp.f 1 5 (⟨#[]⟩ : ByteArray) 2 0 (⟨#[97]⟩ : ByteArray) = some (-1) := (value_Cmp_eq ⟨1, 5, ⟨#[]⟩⟩ ⟨2, 0, ⟨#[97]⟩⟩).trans (by simp [cmpV, cmpI])
  have e2 : value_Check.f 3 0 (⟨#[]⟩ : ByteArray) = some 10 := by simp [value_Check.f]
  have t0 : (⟨#[]⟩ : ByteArray).toList = [] := ByteArray.toList_mk []
  have s1 : (⟨#[97]⟩ : ByteArray).size = 1 := rfl
  have e3 : value_CheckRow.f k (([(⟨1, 5, (⟨#[]⟩ : ByteArray)⟩ : S24), (⟨2, 0, (⟨#[97]⟩ : ByteArray)⟩ : S24)] : List (S24))) (([1, 2] : List Int)) = some 0 :=
    (value_CheckRow_eq _ _ (by simp [maxLen_eq]) k (by simp; omega)).trans (by simp [chkR, okR, okV, ofK, t0, s1])
  have e4 : value_CheckRow.f k (([(⟨1, 5, (⟨#[]⟩ : ByteArray)⟩ : S24)] : List (S24))) (([2] : List Int)) = some 11 :=
    (value_CheckRow_eq _ _ (by simp [maxLen_eq]) k (by simp; omega)).trans (by simp [chkR, okR, okV, ofK, t0])
  have e5 : value_CmpRow.f k (([(⟨1, 5, (⟨#[]⟩ : ByteArray)⟩ : S24)] : List (S24))) (([(⟨1, 5, (⟨#[]⟩ : ByteArray)⟩ : S24), (⟨2, 0, (⟨#[97]⟩ : ByteArray)⟩ : S24)] : List (S24))) = some (-1) :=
    (value_CmpRow_eq _ _ (by simp [maxLen_eq]) k (by simp; omega)).trans (by simp [cmpL, cm_value.self])
  have e6 : value_Kinds.f k (([(⟨2, 0, (⟨#[97]⟩ : ByteArray)⟩ : S24)] : List (S24))) = some [2] := value_Kinds_eq _ (by simp) k (by simp; omega)
  unfold tailracelaw01_awake.f
  simp only [e1, e2, e3, e4, e5, e6, Option.bind_some, if_true]
  rfl

end Go.Proofs.Ytddpgppmfibddaa.P
