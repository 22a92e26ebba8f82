/- What the reference's functions of values compute, in plain words. -/
import Derived.Test.YtddpgppmfibddaaVS
import Derived.Test.YtddpgppmfibddaaPx3
import Derived.Test.YtddpgppmfibddaaPx5
import Derived.Test.YtddpgppmfibddaaPx6
import Derived.Test.YtddpgppmfibddaaPx4
set_option linter.unusedVariables false
set_option linter.unusedSimpArgs false
namespace Go.Proofs.Ytddpgppmfibddaa.P
open Go.RowKit Go.Proofs.YtddpgppmfibddaaW.PrintWords Go.Proofs.YtddpgppmfibddaaW.PrintLast Go.Proofs.YtddpgppmfibddaaOwn
theorem ref_Check_eq (x : S24) (k : Nat) (hk : 1 < k) : tailraceref01_Check.f k x.f0 x.f1 x.f2 = some (okV x) := by
  obtain ⟨k, rfl⟩ : ∃ m, k = m + 2 := ⟨k - 2, by omega⟩
  have key : ∀ b : Bool, tailraceref01_Check.j0 (k + 2) b x.f0 x.f1 x.f2 = some (if b = true ∨ (x.f0 = 2 ∧ x.f1 = 0 ∧ x.f2.size ≤ 40) then 0 else 10) := by
    intro b
    simp only [tailraceref01_Check.j0, tailraceref01_Check.j1]
    cases b
    · by_cases h4 : x.f0 = 2
      · by_cases h5 : x.f1 = 0
        · by_cases h6 : x.f2.size ≤ 40
          · have : (x.f2.size : Int) ≤ 40 := by omega
            simp [h4, h5, h6, this]
          · have : ¬ (x.f2.size : Int) ≤ 40 := by omega
            simp [h4, h5, h6, this]
        · simp [h4, h5]
      · simp [h4]
    · simp
  unfold tailraceref01_Check.f okV
  simp only [key]
  by_cases h0 : x.f0 = 1
  · by_cases h1 : x.f1 ≥ -2147483647
    · by_cases h2 : x.f1 ≤ 2147483647
      · rw [if_pos h0, if_pos h1, if_pos h2]
        congr 1
        have e : ((x.f2.toList == ([] : List UInt8)) = true) ↔ x.f2.toList = [] := beq_iff_eq
        have h1' : -2147483647 ≤ x.f1 := h1
        simp only [e, h0, h1', h2, and_true, true_and]
      · rw [if_pos h0, if_pos h1, if_neg h2]; simp [h0, h2]
    · rw [if_pos h0, if_neg h1]
      have h1' : ¬ -2147483647 ≤ x.f1 := h1
      simp [h0, h1']
  · rw [if_neg h0]; simp [h0]
theorem ref_Cmp_eq (a b : S24) (k : Nat) (hk : 0 < k) : tailraceref01_Cmp.f k a.f0 a.f1 a.f2 b.f0 b.f1 b.f2 = some (cmpV a b) := by
  obtain ⟨k, rfl⟩ : ∃ m, k = m + 1 := ⟨k - 1, by omega⟩
  unfold tailraceref01_Cmp.f cmpV
  simp only [tailraceref01_Cmp.j0, cmpI]
  by_cases h0 : a.f0 < b.f0
  · simp [h0]
  · by_cases h1 : a.f0 = b.f0
    · by_cases h2 : a.f1 < b.f1
      · simp [h1, h2]
      · by_cases h3 : a.f1 = b.f1
        · rcases bl_tri a.f2.toList b.f2.toList with h | h | h
          · simp [h1, h3, h, cmpB_self, bl_irrefl]
          · simp [h1, h3, h, cmpB_lt h]
          · have e : ¬ a.f2.toList = b.f2.toList := by intro e; rw [e, bl_irrefl] at h; cases h
            simp [h1, h3, cmpB_gt h, bl_asymm h, e]
        · have h4 : b.f1 < a.f1 := by omega
          simp [h1, h2, h3, h4]
    · have h4 : b.f0 < a.f0 := by omega
      simp [h0, h1, h4]
theorem refCmpRow_l0 (x0 x1 : List S24) (h0 : x0.length ≤ maxLen) (d : Nat) : ∀ (k i : Nat), x0.length - i = d → i ≤ x0.length → i ≤ x1.length → 2 * d + 2 < k → tailraceref01_CmpRow.l0 k x0 x1 (i : Int) = some (cmpR (x0.drop i) (x1.drop i)) := by
  rw [maxLen_eq] at h0
  induction d with
  | zero =>
    intro k i hd hi hi1 hk
    obtain ⟨k, rfl⟩ : ∃ m, k = m + 2 := ⟨k - 2, by omega⟩
    obtain rfl : i = x0.length := by omega
    simp only [tailraceref01_CmpRow.l0]
    rw [if_neg (by omega)]
    simp only [tailraceref01_CmpRow.j1]
    rw [if_neg (by simp), List.drop_length]
    rcases Nat.lt_or_ge x0.length x1.length with h | h
    · rw [drop_getD x1 z24 _ h, if_pos (by omega)]; simp [cmpL]
    · rw [List.drop_eq_nil_of_le h, if_neg (by omega), if_neg (by omega)]; simp [cmpL]
  | succ d ih =>
    intro k i hd hi hi1 hk
    obtain ⟨k, rfl⟩ : ∃ m, k = m + 2 := ⟨k - 2, by omega⟩
    simp only [tailraceref01_CmpRow.l0]
    rw [if_pos (by omega)]
    simp only [tailraceref01_CmpRow.j1]
    rcases Nat.lt_or_ge i x1.length with h | h
    · rw [if_pos (decide_eq_true (by omega)), if_pos (by omega), if_pos (by omega), if_pos (by omega), rdV, rdV, ref_Cmp_eq _ _ _ (by omega)]
      simp only [Option.bind_some]
      rw [drop_getD x0 z24 _ (by omega), drop_getD x1 z24 _ h]
      simp only [cmpL]
      split
      · rw [wrap_succ _ (by omega)]; exact ih k (i + 1) (by omega) (by omega) (by omega) (by omega)
      · rfl
    · rw [if_neg (by simp; omega), if_neg (by omega), if_pos (by omega), drop_getD x0 z24 _ (by omega), List.drop_eq_nil_of_le (by omega : x1.length ≤ i)]
      simp only [cmpL]
theorem ref_CmpRow_eq (x0 x1 : List S24) (h0 : x0.length ≤ maxLen) (k : Nat) (hk : 2 * x0.length + 2 < k) : tailraceref01_CmpRow.f k x0 x1 = some (cmpR x0 x1) := by
  have := refCmpRow_l0 x0 x1 h0 x0.length k 0 (by omega) (by omega) (by omega) hk
  simpa [tailraceref01_CmpRow.f] using this
theorem ref_Same_eq (x0 x1 : List S24) (h0 : x0.length ≤ maxLen) (k : Nat) (hk : 2 * x0.length + 2 < k) : tailraceref01_Same.f k x0 x1 = some (cmpR x0 x1 == 0) := by
  unfold tailraceref01_Same.f
  rw [ref_CmpRow_eq x0 x1 h0 k hk]; rfl

theorem refInts_l0 (x0 x1 : List Int) (h0 : x0.length ≤ maxLen) (hl : x0.length = x1.length) (d : Nat) : ∀ (k i : Nat), x0.length - i = d → i ≤ x0.length → d < k → tailraceref01_Ints.l0 k x0 x1 (i : Int) = some (x0.drop i == x1.drop i) := by
  rw [maxLen_eq] at h0
  induction d with
  | zero =>
    intro k i hd hi hk
    obtain ⟨k, rfl⟩ : ∃ m, k = m + 1 := ⟨k - 1, by omega⟩
    obtain rfl : i = x0.length := by omega
    simp only [tailraceref01_Ints.l0]
    rw [if_neg (by omega), List.drop_length, hl, List.drop_length]; rfl
  | succ d ih =>
    intro k i hd hi hk
    obtain ⟨k, rfl⟩ : ∃ m, k = m + 1 := ⟨k - 1, by omega⟩
    simp only [tailraceref01_Ints.l0]
    rw [if_pos (by omega), if_pos (by omega), if_pos (by omega), rd_nat, rd_nat, drop_getD x0 0 i (by omega), drop_getD x1 0 i (by omega)]
    by_cases e : x0.getD i 0 = x1.getD i 0
    · rw [if_pos e, wrap_succ _ (by omega), ih k (i + 1) (by omega) (by omega) (by omega), e]
      congr 1
      rw [Bool.eq_iff_iff]; simp
    · rw [if_neg e]
      congr 1
      symm
      rw [beq_eq_false_iff_ne]
      intro h
      exact e (List.cons.inj h).1
theorem ref_Ints_eq (x0 x1 : List Int) (h0 : x0.length ≤ maxLen) (k : Nat) (hk : x0.length < k) : tailraceref01_Ints.f k x0 x1 = some (x0 == x1) := by
  unfold tailraceref01_Ints.f
  by_cases hl : x0.length = x1.length
  · rw [if_pos (by omega)]
    have := refInts_l0 x0 x1 h0 hl x0.length k 0 (by omega) (by omega) hk
    simpa using this
  · rw [if_neg (by omega)]
    congr 1
    symm
    rw [beq_eq_false_iff_ne]
    rintro rfl; exact hl rfl

end Go.Proofs.Ytddpgppmfibddaa.P
