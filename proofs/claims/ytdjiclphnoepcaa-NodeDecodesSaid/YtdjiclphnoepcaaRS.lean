/- What the document's Same and Texts compute, in plain words. -/
import Derived.Test.YtdjiclphnoepcaaRN
set_option linter.unusedVariables false
set_option linter.unusedSimpArgs false
namespace Go.Proofs.Ytdjiclphnoepcaa.P
open Go.RowKit Go.Proofs.YtdjiclphnoepcaaW.PrintWords Go.Proofs.YtdjiclphnoepcaaW.PrintLast Go.Proofs.YtdjiclphnoepcaaW.PrintMore Go.Proofs.YtdjiclphnoepcaaOwn
theorem toList_inj {a b : ByteArray} (h : a.toList = b.toList) : a = b := by
  rw [ByteArray.toList_eq, ByteArray.toList_eq] at h
  cases a; cases b
  simp_all
theorem Texts_l0 (x y : List ByteArray) (h : x.length = y.length) (h0 : x.length ≤ maxLen) (d : Nat) : ∀ (k i : Nat), x.length - i = d → i ≤ x.length → d < k → tailraceref10_Texts.l0 k x y (i : Int) = some (decide (x.drop i = y.drop i)) := by
  rw [maxLen_eq] at h0
  induction d with
  | zero =>
    intro k i hd hi hk
    obtain ⟨k, rfl⟩ : ∃ m, k = m + 1 := ⟨k - 1, by omega⟩
    simp only [tailraceref10_Texts.l0]
    rw [if_neg (by omega), List.drop_eq_nil_of_le (by omega), List.drop_eq_nil_of_le (by omega)]; simp
  | succ d ih =>
    intro k i hd hi hk
    obtain ⟨k, rfl⟩ : ∃ m, k = m + 1 := ⟨k - 1, by omega⟩
    simp only [tailraceref10_Texts.l0]
    rw [if_pos (by omega), if_pos (by omega), if_pos (by omega), rdOf_nat, rdOf_nat, drop_getD x ByteArray.empty i (by omega), drop_getD y ByteArray.empty i (by omega), wrap_succ _ (by omega), ih k (i + 1) (by omega) (by omega) (by omega)]
    generalize x.getD i ByteArray.empty = p
    generalize y.getD i ByteArray.empty = q
    by_cases c : p = q
    · subst c; rw [if_pos rfl]; simp
    · rw [if_neg (fun e => c (toList_inj e))]; simp [c]
theorem Texts_eq (x y : List ByteArray) (h0 : x.length ≤ maxLen) (k : Nat) (hk : x.length < k) : tailraceref10_Texts.f k x y = some (decide (x = y)) := by
  unfold tailraceref10_Texts.f
  by_cases c : x.length = y.length
  · rw [if_pos (by omega)]
    have := Texts_l0 x y c h0 x.length k 0 (by omega) (by omega) hk
    simpa using this
  · rw [if_neg (by omega)]
    have : x ≠ y := fun e => c (by rw [e])
    simp [this]
theorem Same_l0 (a0 b0 : Bool) (a1 a2 b1 b2 : List ByteArray) (x y : List Int) (h : x.length = y.length) (h0 : x.length ≤ maxLen) (d : Nat) : ∀ (k i : Nat), x.length - i = d → i ≤ x.length → d < k → tailraceref10_Same.l0 k (i : Int) a0 a1 a2 x b0 b1 b2 y = some (decide (x.drop i = y.drop i)) := by
  rw [maxLen_eq] at h0
  induction d with
  | zero =>
    intro k i hd hi hk
    obtain ⟨k, rfl⟩ : ∃ m, k = m + 1 := ⟨k - 1, by omega⟩
    simp only [tailraceref10_Same.l0]
    rw [if_neg (by omega), List.drop_eq_nil_of_le (by omega), List.drop_eq_nil_of_le (by omega)]; simp
  | succ d ih =>
    intro k i hd hi hk
    obtain ⟨k, rfl⟩ : ∃ m, k = m + 1 := ⟨k - 1, by omega⟩
    simp only [tailraceref10_Same.l0]
    rw [if_pos (by omega), if_pos (by omega), if_pos (by omega), rd_nat, rd_nat, drop_getD x 0 i (by omega), drop_getD y 0 i (by omega), wrap_succ _ (by omega), ih k (i + 1) (by omega) (by omega) (by omega)]
    generalize x.getD i 0 = p
    generalize y.getD i 0 = q
    by_cases c : p = q
    · subst c; rw [if_pos rfl]; simp
    · rw [if_neg c]; simp [c]
theorem Same_eq (a0 b0 : Bool) (a1 a2 b1 b2 : List ByteArray) (x y : List Int) (h1 : a1.length ≤ maxLen) (h2 : a2.length ≤ maxLen) (h3 : x.length ≤ maxLen) (k : Nat) (hk : a1.length + a2.length + x.length + 3 < k) :
    tailraceref10_Same.f k a0 a1 a2 x b0 b1 b2 y = some (decide (a0 = b0 ∧ a1 = b1 ∧ a2 = b2 ∧ x = y)) := by
  obtain ⟨k, rfl⟩ : ∃ m, k = m + 1 := ⟨k - 1, by omega⟩
  unfold tailraceref10_Same.f
  rw [Texts_eq a1 b1 h1 _ (by omega), Texts_eq a2 b2 h2 _ (by omega)]
  simp only [Option.bind_some, tailraceref10_Same.j0]
  by_cases c1 : a1 = b1
  · by_cases c2 : a2 = b2
    · rw [if_pos (by simpa using c1), if_pos (by simpa using c2)]
      by_cases c3 : a0 = b0
      · subst c3
        rw [if_neg (by simp)]
        by_cases c4 : x.length = y.length
        · rw [if_neg (by simp [c4])]
          have := Same_l0 a0 a0 a1 a2 b1 b2 x y c4 h3 x.length k 0 (by omega) (by omega) (by omega)
          simpa [c1, c2] using this
        · rw [if_pos (by simpa using (fun e => c4 (by omega)))]
          have : x ≠ y := fun e => c4 (by rw [e])
          simp [this]
      · rw [if_pos (by simpa using c3)]
        simp [c3]
    · rw [if_pos (by simpa using c1), if_neg (by simpa using c2)]
      simp [c2]
  · rw [if_neg (by simpa using c1)]
    simp [c1]
end Go.Proofs.Ytdjiclphnoepcaa.P
