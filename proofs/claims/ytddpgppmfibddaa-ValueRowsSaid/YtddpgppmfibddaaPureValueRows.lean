/- The pure side of ValueRows: what the printed function of numbers and lists answers is true, at all of them. -/
import Derived.Test.YtddpgppmfibddaaPx6
import Derived.Test.YtddpgppmfibddaaKinds
import Derived.Test.YtddpgppmfibddaaVA
import Derived.Test.YtddpgppmfibddaaVR
set_option linter.unusedVariables false
set_option linter.unusedSimpArgs false
namespace Go.Proofs.Ytddpgppmfibddaa.Pure
open Go.RowKit Go.Proofs.Ytddpgppmfibddaa.P Go.Proofs.YtddpgppmfibddaaW.PrintWords Go.Proofs.YtddpgppmfibddaaW.PrintLast Go.Proofs.YtddpgppmfibddaaOwn
theorem refKinds_l0 (x5 : List S24) (h0 : x5.length ≤ 1000000000) (d : Nat) : ∀ (k i : Nat) (x2 : List Int), x5.length - i = d → i ≤ x5.length → x2.length ≤ i → d < k → tailraceref01_Kinds.l0 k x5 x2 (i : Int) = some (x2 ++ (x5.drop i).map (·.f0)) := by
  induction d with
  | zero =>
    intro k i x2 hd hi hi1 hk
    obtain ⟨k, rfl⟩ : ∃ m, k = m + 1 := ⟨k - 1, by omega⟩
    obtain rfl : i = x5.length := by omega
    simp only [tailraceref01_Kinds.l0]
    rw [if_neg (by omega)]; simp
  | succ d ih =>
    intro k i x2 hd hi hi1 hk
    obtain ⟨k, rfl⟩ : ∃ m, k = m + 1 := ⟨k - 1, by omega⟩
    simp only [tailraceref01_Kinds.l0]
    rw [if_pos (by omega), if_pos (by omega), if_pos (by omega), wrap_succ _ (by omega), ih k (i + 1) _ (by omega) (by omega) (by simp; omega) (by omega), rdV, drop_getD x5 z24 i (by omega)]
    simp
theorem ref_Kinds_eq (x : List S24) (h0 : x.length ≤ 1000000000) (k : Nat) (hk : x.length < k) : tailraceref01_Kinds.f k x = some (x.map (·.f0)) := by
  have := refKinds_l0 x h0 x.length k 0 [] (by omega) (by omega) (by simp) hk
  simpa [tailraceref01_Kinds.f] using this
theorem refCheckRow_l1 (x : List S24) (ks : List Int) (h0 : x.length ≤ maxLen) (hl : x.length = ks.length) (d : Nat) : ∀ (k i : Nat), x.length - i = d → i ≤ x.length → d < k → tailraceref01_CheckRow.l1 k x ks (i : Int) = some (ofK (x.drop i) (ks.drop i)) := by
  rw [maxLen_eq] at h0
  induction d with
  | zero =>
    intro k i hd hi hk
    obtain ⟨k, rfl⟩ : ∃ m, k = m + 1 := ⟨k - 1, by omega⟩
    obtain rfl : i = x.length := by omega
    simp only [tailraceref01_CheckRow.l1]
    rw [if_neg (by omega)]; simp [ofK]
  | succ d ih =>
    intro k i hd hi hk
    obtain ⟨k, rfl⟩ : ∃ m, k = m + 1 := ⟨k - 1, by omega⟩
    simp only [tailraceref01_CheckRow.l1]
    rw [if_pos (by omega), if_pos (by omega), if_pos (by omega), rdV, rd_nat, drop_getD x z24 i (by omega), drop_getD ks 0 i (by omega)]
    simp only [ofK]
    split
    · rw [wrap_succ _ (by omega)]; exact ih k (i + 1) (by omega) (by omega) (by omega)
    · rfl
theorem okV_two (a : S24) : okV a = 0 ∨ okV a = 10 := by unfold okV; split <;> simp
theorem refCheckRow_l0 (x : List S24) (ks : List Int) (h0 : x.length ≤ maxLen) (d : Nat) : ∀ (k i : Nat), x.length - i = d → i ≤ x.length → d + x.length + 2 < k →
    tailraceref01_CheckRow.l0 k x ks (i : Int) = some (if okR (x.drop i) = 0 then (if x.length = ks.length then ofK x ks else 11) else okR (x.drop i)) := by
  have h0' := h0
  rw [maxLen_eq] at h0
  induction d with
  | zero =>
    intro k i hd hi hk
    obtain ⟨k, rfl⟩ : ∃ m, k = m + 1 := ⟨k - 1, by omega⟩
    obtain rfl : i = x.length := by omega
    simp only [tailraceref01_CheckRow.l0]
    rw [if_neg (by omega), List.drop_length]
    simp only [okR, if_true]
    by_cases hl : x.length = ks.length
    · rw [if_pos (by omega), if_pos hl]
      have := refCheckRow_l1 x ks h0' hl x.length k 0 (by omega) (by omega) (by omega)
      simpa using this
    · rw [if_neg (by omega), if_neg hl]
  | succ d ih =>
    intro k i hd hi hk
    obtain ⟨k, rfl⟩ : ∃ m, k = m + 1 := ⟨k - 1, by omega⟩
    simp only [tailraceref01_CheckRow.l0]
    rw [if_pos (by omega), if_pos (by omega), rdV, ref_Check_eq _ _ (by omega)]
    simp only [Option.bind_some]
    rw [drop_getD x z24 i (by omega)]
    by_cases hz : okV (x.getD i z24) = 0
    · rw [if_pos hz, okR_good hz, wrap_succ _ (by omega)]; exact ih k (i + 1) (by omega) (by omega) (by omega)
    · rw [if_neg hz, okR_bad hz, if_neg hz]
      rcases okV_two (x.getD i z24) with h | h
      · exact absurd h hz
      · rw [h]
theorem ref_CheckRow_eq (x : List S24) (ks : List Int) (h0 : x.length ≤ maxLen) (k : Nat) (hk : x.length + x.length + 2 < k) : tailraceref01_CheckRow.f k x ks = some (chkR x ks) := by
  have := refCheckRow_l0 x ks h0 x.length k 0 (by omega) (by omega) hk
  simpa [tailraceref01_CheckRow.f, chkR] using this
theorem ValueRows : ∀ (l0 : List S24) (l1 : List S24) (l2 : List Int), (List.length l0 ≤ maxLen ∧ ∀ y_ ∈ l0, fit24 y_) → (List.length l1 ≤ maxLen ∧ ∀ y_ ∈ l1, fit24 y_) → (List.length l2 ≤ maxLen ∧ ∀ y_ ∈ l2, (Lit.int .i64 y_).wf = true) → ∃ k, tailracelaw01_ValueRows.f k l0 l1 l2 = some true := by
  intro l0 l1 l2 ⟨f0, _⟩ ⟨f1, _⟩ ⟨f2, _⟩
  refine ⟨1000, ?_⟩
  unfold tailracelaw01_ValueRows.f
  rw [awake01_eq 1000 (by omega)]
  simp only [Option.bind_some, tailracelaw01_ValueRows.j0]
  by_cases g0 : (l0.length : Int) > 200
  · rw [if_pos g0]; rfl
  rw [if_neg g0]
  by_cases g1 : (l1.length : Int) > 200
  · rw [if_pos g1]; rfl
  rw [if_neg g1]
  by_cases g2 : (l2.length : Int) > 200
  · simp [g2]
  have g2' : decide ((l2.length : Int) > 200) = false := decide_eq_false g2
  rw [g2', value_Kinds_eq l0 (by omega) 999 (by omega), ref_Kinds_eq l0 (by omega) 999 (by omega), value_CheckRow_eq l0 l2 f0 999 (by omega), ref_CheckRow_eq l0 l2 f0 999 (by omega), value_CmpRow_eq l0 l1 f0 999 (by omega), ref_CmpRow_eq l0 l1 f0 999 (by omega)]
  simp only [Option.bind_some]
  rw [ref_Ints_eq _ _ (by simpa using f0) 999 (by simp; omega)]
  simp
end Go.Proofs.Ytddpgppmfibddaa.Pure
