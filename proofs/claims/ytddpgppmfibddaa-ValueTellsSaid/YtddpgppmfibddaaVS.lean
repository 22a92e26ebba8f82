/- What the given program's and the reference's functions of values compute, in plain words (rows are lists of the struct of type 24). -/
import Derived.Test.YtddpgppmfibddaaOrder
import Derived.Test.YtddpgppmfibddaaPx2
set_option linter.unusedVariables false
set_option linter.unusedSimpArgs false
namespace Go.Proofs.Ytddpgppmfibddaa.P
open Go.RowKit Go.Proofs.YtddpgppmfibddaaW.PrintWords Go.Proofs.YtddpgppmfibddaaW.PrintLast Go.Proofs.YtddpgppmfibddaaOwn
theorem maxLen_eq : maxLen = 9223372036854775807 := rfl
def okV (x : S24) : Int := if (x.f0 = 1 ∧ x.f2.toList = [] ∧ -2147483647 ≤ x.f1 ∧ x.f1 ≤ 2147483647) ∨ (x.f0 = 2 ∧ x.f1 = 0 ∧ x.f2.size ≤ 40) then 0 else 10
def cmpV (a b : S24) : Int := if cmpI a.f0 b.f0 = 0 then (if cmpI a.f1 b.f1 = 0 then cmpB a.f2.toList b.f2.toList else cmpI a.f1 b.f1) else cmpI a.f0 b.f0
theorem cm_value : Cm cmpV := Cm.lex (cm_int.comap (fun x : S24 => x.f0)) (Cm.lex (cm_int.comap (fun x : S24 => x.f1)) (cm_bytes.comap (fun x : S24 => x.f2.toList)))
abbrev cmpR : List S24 → List S24 → Int := cmpL cmpV
theorem cm_row : Cm cmpR := cm_list cm_value
theorem toList_inj {a b : ByteArray} (h : a.toList = b.toList) : a = b := by
  rw [ByteArray.toList_eq, ByteArray.toList_eq] at h
  cases a; cases b
  simp_all
theorem cmpV_zero {a b : S24} : cmpV a b = 0 ↔ a = b := by
  constructor
  · intro h
    unfold cmpV at h
    by_cases h0 : cmpI a.f0 b.f0 = 0
    · rw [if_pos h0] at h
      by_cases h1 : cmpI a.f1 b.f1 = 0
      · rw [if_pos h1] at h
        have e0 := cmpI_zero.1 h0
        have e1 := cmpI_zero.1 h1
        have e2 := toList_inj (cmpB_zero.1 h)
        cases a; cases b
        simp_all
      · rw [if_neg h1] at h; exact absurd h h1
    · rw [if_neg h0] at h; exact absurd h h0
  · rintro rfl; exact cm_value.self a
theorem cmpR_zero : ∀ {a b : List S24}, cmpR a b = 0 ↔ a = b
  | [], [] => by simp [cmpL]
  | [], _ :: _ => by simp [cmpL]
  | _ :: _, [] => by simp [cmpL]
  | a :: x, b :: y => by
    have ih := @cmpR_zero x y
    simp only [cmpL, List.cons.injEq]
    by_cases h : cmpV a b = 0
    · rw [if_pos h, ih]; simp [cmpV_zero.1 h]
    · rw [if_neg h]; exact ⟨fun z => absurd z h, fun z => absurd (cmpV_zero.2 z.1) h⟩
theorem value_Check_eq (x : S24) : value_Check.f x.f0 x.f1 x.f2 = some (okV x) := rfl
theorem cmp_int_eq (a b : Int) : cmp_Compare_int.f a b = some (cmpI a b) := rfl
theorem cmp_int64_eq (a b : Int) : cmp_Compare_int64.f a b = some (cmpI a b) := rfl
theorem cmp_string_eq (a b : ByteArray) : cmp_Compare_string.f a b = some (cmpB a.toList b.toList) := rfl
theorem value_Cmp_eq (a b : S24) : value_Cmp.f a.f0 a.f1 a.f2 b.f0 b.f1 b.f2 = some (cmpV a b) := by
  unfold value_Cmp.f cmpV
  simp only [cmp_int_eq, cmp_int64_eq, cmp_string_eq, Option.bind_some]
  split <;> (try split) <;> rfl
theorem rdV (xs : List S24) (i : Nat) : rd_T24 xs (i : Int) = xs.getD i z24 := by simp [rd_T24]
theorem rd_nat (xs : List Int) (i : Nat) : rd xs (i : Int) = xs.getD i 0 := by simp [rd]
theorem CmpRow_l0 (x0 x1 : List S24) (h0 : x0.length ≤ maxLen) (d : Nat) : ∀ (k i : Nat), x0.length - i = d → i ≤ x0.length → i ≤ x1.length → d < k → value_CmpRow.l0 k x0 x1 x0 (x0.length : Int) (i : Int) = some (cmpR (x0.drop i) (x1.drop i)) := by
  rw [maxLen_eq] at h0
  induction d with
  | zero =>
    intro k i hd hi hi1 hk
    obtain ⟨k, rfl⟩ : ∃ m, k = m + 1 := ⟨k - 1, by omega⟩
    obtain rfl : i = x0.length := by omega
    simp only [value_CmpRow.l0]
    rw [if_neg (by omega), cmp_int_eq]
    simp only [Option.bind_some, List.drop_length]
    rcases Nat.lt_or_ge x0.length x1.length with h | h
    · rw [drop_getD x1 z24 _ h]; simp [cmpI, cmpL]; omega
    · rw [List.drop_eq_nil_of_le h]; simp [cmpI, cmpL]; omega
  | succ d ih =>
    intro k i hd hi hi1 hk
    obtain ⟨k, rfl⟩ : ∃ m, k = m + 1 := ⟨k - 1, by omega⟩
    simp only [value_CmpRow.l0]
    rw [if_pos (by omega), if_pos (by omega), if_pos (by omega)]
    rcases Nat.lt_or_ge i x1.length with h | h
    · rw [if_neg (by omega), if_pos (by omega), rdV, rdV, value_Cmp_eq]
      simp only [Option.bind_some]
      rw [drop_getD x0 z24 _ (by omega), drop_getD x1 z24 _ h]
      simp only [cmpL]
      split
      · rw [wrap_succ _ (by omega)]; exact ih k (i + 1) (by omega) (by omega) (by omega) (by omega)
      · rfl
    · rw [if_pos (by omega), cmp_int_eq]
      simp only [Option.bind_some]
      rw [drop_getD x0 z24 _ (by omega), List.drop_eq_nil_of_le (by omega : x1.length ≤ i)]
      simp only [cmpL, cmpI]
      rw [if_neg (by omega), if_pos (by omega)]
theorem value_CmpRow_eq (x0 x1 : List S24) (h0 : x0.length ≤ maxLen) (k : Nat) (hk : x0.length < k) : value_CmpRow.f k x0 x1 = some (cmpR x0 x1) := by
  have := CmpRow_l0 x0 x1 h0 x0.length k 0 (by omega) (by omega) (by omega) hk
  simpa [value_CmpRow.f] using this
theorem Kinds_l0 (x5 : List S24) (h0 : x5.length ≤ 1000000000) (d : Nat) : ∀ (k i : Nat) (x2 : List Int), x5.length - i = d → i ≤ x5.length → x2.length ≤ i → d < k → value_Kinds.l0 k x2 x5 (x5.length : Int) (i : Int) = some (x2 ++ (x5.drop i).map (·.f0)) := by
  induction d with
  | zero =>
    intro k i x2 hd hi hi1 hk
    obtain ⟨k, rfl⟩ : ∃ m, k = m + 1 := ⟨k - 1, by omega⟩
    obtain rfl : i = x5.length := by omega
    simp only [value_Kinds.l0]
    rw [if_neg (by omega)]; simp
  | succ d ih =>
    intro k i x2 hd hi hi1 hk
    obtain ⟨k, rfl⟩ : ∃ m, k = m + 1 := ⟨k - 1, by omega⟩
    simp only [value_Kinds.l0]
    rw [if_pos (by omega), if_pos (by omega), if_pos (by omega), if_pos (by omega), wrap_succ _ (by omega), ih k (i + 1) _ (by omega) (by omega) (by simp; omega) (by omega), rdV, drop_getD x5 z24 i (by omega)]
    simp
theorem value_Kinds_eq (x : List S24) (h0 : x.length ≤ 1000000000) (k : Nat) (hk : x.length < k) : value_Kinds.f k x = some (x.map (·.f0)) := by
  have := Kinds_l0 x h0 x.length k 0 [] (by omega) (by omega) (by simp) hk
  simpa [value_Kinds.f] using this
/-- The first value that may not be. -/
def okR : List S24 → Int
  | [] => 0
  | a :: l => if okV a = 0 then okR l else okV a
theorem okR_good {a : S24} {l : List S24} (h : okV a = 0) : okR (a :: l) = okR l := by simp [okR, h]
theorem okR_bad {a : S24} {l : List S24} (h : ¬ okV a = 0) : okR (a :: l) = okV a := by simp [okR, h]
def ofK : List S24 → List Int → Int
  | [], _ => 0
  | a :: l, [] => 11
  | a :: l, b :: m => if a.f0 = b then ofK l m else 11
def chkR (l : List S24) (ks : List Int) : Int := if okR l = 0 then (if l.length = ks.length then ofK l ks else 11) else okR l
theorem CheckRow_l1 (x : List S24) (ks : List Int) (h0 : x.length ≤ maxLen) (hl : x.length = ks.length) (d : Nat) : ∀ (k i : Nat), x.length - i = d → i ≤ x.length → d < k → value_CheckRow.l1 k ks x (x.length : Int) (i : Int) = some (ofK (x.drop i) (ks.drop i)) := by
  rw [maxLen_eq] at h0
  induction d with
  | zero =>
    intro k i hd hi hk
    obtain ⟨k, rfl⟩ : ∃ m, k = m + 1 := ⟨k - 1, by omega⟩
    obtain rfl : i = x.length := by omega
    simp only [value_CheckRow.l1]
    rw [if_neg (by omega)]; simp [ofK]
  | succ d ih =>
    intro k i hd hi hk
    obtain ⟨k, rfl⟩ : ∃ m, k = m + 1 := ⟨k - 1, by omega⟩
    simp only [value_CheckRow.l1]
    rw [if_pos (by omega), if_pos (by omega), if_pos (by omega), if_pos (by omega), rdV, rd_nat, drop_getD x z24 i (by omega), drop_getD ks 0 i (by omega)]
    simp only [ofK]
    split
    · rw [wrap_succ _ (by omega)]; exact ih k (i + 1) (by omega) (by omega) (by omega)
    · rfl


theorem CheckRow_l0 (x : List S24) (ks : List Int) (h0 : x.length ≤ maxLen) (d : Nat) : ∀ (k i : Nat), x.length - i = d → i ≤ x.length → d + x.length + 1 < k →
    value_CheckRow.l0 k x ks x (x.length : Int) (i : Int) = some (if okR (x.drop i) = 0 then (if x.length = ks.length then ofK x ks else 11) else okR (x.drop i)) := by
  have h0' := h0
  rw [maxLen_eq] at h0
  induction d with
  | zero =>
    intro k i hd hi hk
    obtain ⟨k, rfl⟩ : ∃ m, k = m + 1 := ⟨k - 1, by omega⟩
    obtain rfl : i = x.length := by omega
    simp only [value_CheckRow.l0]
    rw [if_neg (by omega), List.drop_length]
    simp only [okR, if_true]
    by_cases hl : x.length = ks.length
    · rw [if_pos (by omega), if_pos hl]
      have := CheckRow_l1 x ks h0' hl x.length k 0 (by omega) (by omega) (by omega)
      simpa using this
    · rw [if_neg (by omega), if_neg hl]
  | succ d ih =>
    intro k i hd hi hk
    obtain ⟨k, rfl⟩ : ∃ m, k = m + 1 := ⟨k - 1, by omega⟩
    simp only [value_CheckRow.l0]
    rw [if_pos (by omega), if_pos (by omega), if_pos (by omega), rdV, value_Check_eq]
    simp only [Option.bind_some]
    rw [drop_getD x z24 i (by omega)]
    by_cases hz : okV (x.getD i z24) = 0
    · rw [if_pos hz, okR_good hz, wrap_succ _ (by omega)]; exact ih k (i + 1) (by omega) (by omega) (by omega)
    · rw [if_neg hz, okR_bad hz, if_neg hz]
theorem value_CheckRow_eq (x : List S24) (ks : List Int) (h0 : x.length ≤ maxLen) (k : Nat) (hk : x.length + x.length + 1 < k) : value_CheckRow.f k x ks = some (chkR x ks) := by
  have := CheckRow_l0 x ks h0 x.length k 0 (by omega) (by omega) hk
  simpa [value_CheckRow.f, chkR] using this

end Go.Proofs.Ytddpgppmfibddaa.P
