/- What the order of rows computes. -/
import Derived.Test.YtniihilegljgmaaPx8
import Derived.Test.YtniihilegljgmaaK2
set_option linter.unusedVariables false
set_option linter.unusedSimpArgs false
namespace Go.Proofs.Ytniihilegljgmaa.P
open Go.RowKit Go.Proofs.YtniihilegljgmaaW.PrintWords Go.Proofs.YtniihilegljgmaaW.PrintLast Go.Proofs.YtniihilegljgmaaW.PrintMore Go.Proofs.YtniihilegljgmaaOwn
theorem cmp_int_eq (a b : Int) : cmp_Compare_int.f a b = some (cmpI a b) := rfl
theorem cmp_int64_eq (a b : Int) : cmp_Compare_int64.f a b = some (cmpI a b) := rfl
theorem cmp_string_eq (a b : ByteArray) : cmp_Compare_string.f a b = some (cmpB a.toList b.toList) := rfl
theorem value_Cmp_eq (a b : S38) : value_Cmp.f a.f0 a.f1 a.f2 b.f0 b.f1 b.f2 = some (cmpV a b) := by
  unfold value_Cmp.f cmpV
  simp only [cmp_int_eq, cmp_int64_eq, cmp_string_eq, Option.bind_some]
  split <;> (try split) <;> rfl
theorem CmpRow_l0 (x0 x1 : List S38) (h0 : x0.length ≤ maxLen) (d : Nat) : ∀ (k i : Nat), x0.length - i = d → i ≤ x0.length → i ≤ x1.length → d < k → value_CmpRow.l0 k x0 x1 x0 (x0.length : Int) (i : Int) = some (cmpR (x0.drop i) (x1.drop i)) := by
  rw [maxLen_eq] at h0
  induction d with
  | zero =>
    intro k i hd hi hi1 hk
    obtain ⟨k, rfl⟩ : ∃ m, k = m + 1 := ⟨k - 1, by omega⟩
    obtain rfl : i = x0.length := by omega
    simp only [value_CmpRow.l0]
    rw [if_neg (by omega), cmp_int_eq]
    simp only [Option.bind_some, List.drop_length]
    rcases Nat.lt_or_ge x0.length x1.length with h | h
    · rw [drop_getD x1 z38 _ h]; simp [cmpI, cmpL]; omega
    · rw [List.drop_eq_nil_of_le h]; simp [cmpI, cmpL]; omega
  | succ d ih =>
    intro k i hd hi hi1 hk
    obtain ⟨k, rfl⟩ : ∃ m, k = m + 1 := ⟨k - 1, by omega⟩
    simp only [value_CmpRow.l0]
    rw [if_pos (by omega), if_pos (by omega), if_pos (by omega)]
    rcases Nat.lt_or_ge i x1.length with h | h
    · rw [if_neg (by omega), if_pos (by omega), rdV, rdV, value_Cmp_eq]
      simp only [Option.bind_some]
      rw [drop_getD x0 z38 _ (by omega), drop_getD x1 z38 _ h]
      simp only [cmpL]
      split
      · rw [wrap_succ _ (by omega)]; exact ih k (i + 1) (by omega) (by omega) (by omega) (by omega)
      · rfl
    · rw [if_pos (by omega), cmp_int_eq]
      simp only [Option.bind_some]
      rw [drop_getD x0 z38 _ (by omega), List.drop_eq_nil_of_le (by omega : x1.length ≤ i)]
      simp only [cmpL, cmpI]
      rw [if_neg (by omega), if_pos (by omega)]
theorem value_CmpRow_eq (x0 x1 : List S38) (h0 : x0.length ≤ maxLen) (k : Nat) (hk : x0.length < k) : value_CmpRow.f k x0 x1 = some (cmpR x0 x1) := by
  have := CmpRow_l0 x0 x1 h0 x0.length k 0 (by omega) (by omega) (by omega) hk
  simpa [value_CmpRow.f] using this
end Go.Proofs.Ytniihilegljgmaa.P
