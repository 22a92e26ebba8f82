/- What the document's functions (tailraceref10) and Few compute, in plain words. -/
import Derived.Test.YtdjiclphnoepcaaHandE
import Derived.Test.YtdjiclphnoepcaaPx4
import Derived.Test.YtdjiclphnoepcaaPx5
import Derived.Test.YtdjiclphnoepcaaPx6
set_option linter.unusedVariables false
set_option linter.unusedSimpArgs false
namespace Go.Proofs.Ytdjiclphnoepcaa.P
open Go.RowKit Go.Proofs.YtdjiclphnoepcaaW.PrintWords Go.Proofs.YtdjiclphnoepcaaW.PrintLast Go.Proofs.YtdjiclphnoepcaaW.PrintMore Go.Proofs.YtdjiclphnoepcaaOwn
def small (l : List ByteArray) : Bool := l.all fun v => decide (v.size ≤ 300)
section
variable (leaf : Bool) (keys vals : List ByteArray) (kids : List Int)
theorem Few_l1 (h0 : vals.length ≤ maxLen) (d : Nat) : ∀ (k i : Nat), vals.length - i = d → i ≤ vals.length → d < k → tailracelaw10_Few.l1 k (i : Int) leaf keys vals kids = some (small (vals.drop i)) := by
  rw [maxLen_eq] at h0
  induction d with
  | zero =>
    intro k i hd hi hk
    obtain ⟨k, rfl⟩ : ∃ m, k = m + 1 := ⟨k - 1, by omega⟩
    obtain rfl : i = vals.length := by omega
    simp only [tailracelaw10_Few.l1]
    rw [if_neg (by omega), List.drop_length]; rfl
  | succ d ih =>
    intro k i hd hi hk
    obtain ⟨k, rfl⟩ : ∃ m, k = m + 1 := ⟨k - 1, by omega⟩
    simp only [tailracelaw10_Few.l1]
    rw [if_pos (by omega), if_pos (by omega), rdOf_nat, drop_getD vals ByteArray.empty i (by omega), wrap_succ _ (by omega), ih k (i + 1) (by omega) (by omega) (by omega)]
    generalize vals.getD i ByteArray.empty = y
    by_cases c : y.size ≤ 300
    · rw [if_neg (by omega)]; simp [small, c]
    · rw [if_pos (by omega)]; simp [small, c]
theorem Few_l0 (h0 : keys.length ≤ maxLen) (h1 : vals.length ≤ maxLen) (d : Nat) : ∀ (k i : Nat), keys.length - i = d → i ≤ keys.length → d + vals.length + 1 < k → tailracelaw10_Few.l0 k (i : Int) leaf keys vals kids = some (small (keys.drop i) && small vals) := by
  rw [maxLen_eq] at h0
  induction d with
  | zero =>
    intro k i hd hi hk
    obtain ⟨k, rfl⟩ : ∃ m, k = m + 1 := ⟨k - 1, by omega⟩
    obtain rfl : i = keys.length := by omega
    simp only [tailracelaw10_Few.l0]
    rw [if_neg (by omega), List.drop_length]
    have := Few_l1 leaf keys vals kids h1 vals.length k 0 (by omega) (by omega) (by omega)
    rw [List.drop_zero] at this
    rw [show (0 : Int) = ((0 : Nat) : Int) from rfl, this]; simp [small]
  | succ d ih =>
    intro k i hd hi hk
    obtain ⟨k, rfl⟩ : ∃ m, k = m + 1 := ⟨k - 1, by omega⟩
    simp only [tailracelaw10_Few.l0]
    rw [if_pos (by omega), if_pos (by omega), rdOf_nat, drop_getD keys ByteArray.empty i (by omega), wrap_succ _ (by omega), ih k (i + 1) (by omega) (by omega) (by omega)]
    generalize keys.getD i ByteArray.empty = y
    by_cases c : y.size ≤ 300
    · rw [if_neg (by omega)]; simp [small, c]
    · rw [if_pos (by omega)]; simp [small, c]
def few : Bool := decide (keys.length ≤ 300) && decide (vals.length ≤ 300) && decide (kids.length ≤ 300) && (small keys && small vals)
theorem Few_eq (h0 : keys.length ≤ maxLen) (h1 : vals.length ≤ maxLen) (k : Nat) (hk : keys.length ≤ 300 → vals.length ≤ 300 → keys.length + vals.length + 2 < k) (hk2 : 0 < k) : tailracelaw10_Few.f k leaf keys vals kids = some (few keys vals kids) := by
  obtain ⟨k, rfl⟩ : ∃ m, k = m + 1 := ⟨k - 1, by omega⟩
  unfold tailracelaw10_Few.f few
  simp only [tailracelaw10_Few.j0]
  by_cases c1 : keys.length ≤ 300
  · rw [if_neg (by omega)]
    by_cases c2 : vals.length ≤ 300
    · rw [if_neg (by omega)]
      by_cases c3 : kids.length ≤ 300
      · rw [if_neg (by simp; omega), show (0 : Int) = ((0 : Nat) : Int) from rfl, Few_l0 leaf keys vals kids h0 h1 keys.length k 0 (by omega) (by omega) (by have := hk c1 c2; omega)]
        simp [c1, c2, c3]
      · rw [if_pos (by simp; omega)]; simp [c3]
    · rw [if_pos (by omega)]; simp [c2]
  · rw [if_pos (by omega)]; simp [c1]
theorem rChk_l1 (h0 : vals.length ≤ maxLen) (d : Nat) : ∀ (k i : Nat), vals.length - i = d → i ≤ vals.length → d < k → tailraceref10_Check.l1 k (i : Int) leaf keys vals kids = some (if ((vals.drop i).all fun v => decide (v.size ≤ 100)) then 0 else 100) := by
  rw [maxLen_eq] at h0
  induction d with
  | zero =>
    intro k i hd hi hk
    obtain ⟨k, rfl⟩ : ∃ m, k = m + 1 := ⟨k - 1, by omega⟩
    obtain rfl : i = vals.length := by omega
    simp only [tailraceref10_Check.l1]
    rw [if_neg (by omega), List.drop_length]; rfl
  | succ d ih =>
    intro k i hd hi hk
    obtain ⟨k, rfl⟩ : ∃ m, k = m + 1 := ⟨k - 1, by omega⟩
    simp only [tailraceref10_Check.l1]
    rw [if_pos (by omega), if_pos (by omega), rdOf_nat, drop_getD vals ByteArray.empty i (by omega), wrap_succ _ (by omega), ih k (i + 1) (by omega) (by omega) (by omega)]
    generalize vals.getD i ByteArray.empty = y
    by_cases c : y.size ≤ 100
    · rw [if_neg (by omega)]; simp [c]
    · rw [if_pos (by omega)]; simp [c]
theorem rChk_l2 (h0 : kids.length ≤ maxLen) (d : Nat) : ∀ (k i : Nat), kids.length - i = d → i ≤ kids.length → 2 * d < k → tailraceref10_Check.l2 k (i : Int) leaf keys vals kids = some (if ((kids.drop i).all fun k => decide (2 ≤ k) && decide (k ≤ 2147483647)) then 0 else 100) := by
  rw [maxLen_eq] at h0
  induction d with
  | zero =>
    intro k i hd hi hk
    obtain ⟨k, rfl⟩ : ∃ m, k = m + 1 := ⟨k - 1, by omega⟩
    obtain rfl : i = kids.length := by omega
    simp only [tailraceref10_Check.l2]
    rw [if_neg (by omega), List.drop_length]; rfl
  | succ d ih =>
    intro k i hd hi hk
    obtain ⟨k, rfl⟩ : ∃ m, k = m + 2 := ⟨k - 2, by omega⟩
    simp only [tailraceref10_Check.l2, tailraceref10_Check.j6]
    rw [if_pos (by omega), if_pos (by omega), rd_nat, drop_getD kids 0 i (by omega), wrap_succ _ (by omega), ih k (i + 1) (by omega) (by omega) (by omega)]
    generalize kids.getD i 0 = y
    by_cases c : y < 2
    · rw [if_pos c]; simp [show ¬ 2 ≤ y by omega]
    · by_cases c2 : y ≤ 2147483647
      · rw [if_neg c, if_neg (by simp; omega)]; simp [show 2 ≤ y by omega, c2]
      · rw [if_neg c, if_pos (by simp; omega)]; simp [c2]
def chkT : Bool := if leaf then (decide (vals.length = keys.length) && decide (kids.length = 0) && vals.all fun v => decide (v.size ≤ 100))
    else (decide (0 < keys.length) && decide (kids.length = keys.length + 1) && decide (vals.length = 0) && kids.all fun k => decide (2 ≤ k) && decide (k ≤ 2147483647))
theorem chk_eq : chk leaf keys vals kids = (riseFrom none keys && chkT leaf keys vals kids) := rfl
theorem rChk_l0 (h0 : keys.length ≤ 1000000000) (h1 : vals.length ≤ 1000000000) (h2 : kids.length ≤ 1000000000) (d : Nat) : ∀ (k i : Nat), keys.length - i = d → i ≤ keys.length → 2 * d + vals.length + 2 * kids.length + 4 < k → tailraceref10_Check.l0 k (i : Int) leaf keys vals kids = some (if (riseFrom (prev keys i) (keys.drop i) && chkT leaf keys vals kids) then 0 else 100) := by
  induction d with
  | zero =>
    intro k i hd hi hk
    obtain ⟨k, rfl⟩ : ∃ m, k = m + 2 := ⟨k - 2, by omega⟩
    obtain rfl : i = keys.length := by omega
    have e1 := rChk_l1 leaf keys vals kids (by rw [maxLen_eq]; omega) vals.length k 0 (by omega) (by omega) (by omega)
    have e2 := rChk_l2 leaf keys vals kids (by rw [maxLen_eq]; omega) kids.length k 0 (by omega) (by omega) (by omega)
    rw [List.drop_zero] at e1 e2
    simp only [tailraceref10_Check.l0, tailraceref10_Check.j2, tailraceref10_Check.j4]
    rw [if_neg (by omega), List.drop_length, wrap_succ _ (by omega)]
    rw [show ((0 : Nat) : Int) = 0 from rfl] at e1 e2
    rw [e1, e2]
    unfold chkT
    cases leaf
    · by_cases c1 : 0 < keys.length
      · by_cases c2 : kids.length = keys.length + 1
        · by_cases c3 : vals.length = 0
          · rw [if_neg (by decide), if_neg (by omega), if_pos (by omega), if_neg (by rw [decide_eq_true_eq]; omega)]; simp [riseFrom, c1, c2, c3]
          · rw [if_neg (by decide), if_neg (by omega), if_pos (by omega), if_pos (by rw [decide_eq_true_eq]; omega)]; simp [c3]
        · rw [if_neg (by decide), if_neg (by omega), if_neg (by omega)]; simp [c2]
      · rw [if_neg (by decide), if_pos (by omega)]; simp [c1]
    · by_cases c1 : vals.length = keys.length
      · by_cases c2 : kids.length = 0
        · rw [if_pos rfl, if_pos (by omega), if_neg (by rw [decide_eq_true_eq]; omega)]; simp [riseFrom, c1, c2]
        · rw [if_pos rfl, if_pos (by omega), if_pos (by rw [decide_eq_true_eq]; omega)]; simp [c2]
      · rw [if_pos rfl, if_neg (by omega)]; simp [c1]
  | succ d ih =>
    intro k i hd hi hk
    obtain ⟨k, rfl⟩ : ∃ m, k = m + 2 := ⟨k - 2, by omega⟩
    have key := ih k (i + 1) (by omega) (by omega) (by omega)
    have hp : prev keys (i + 1) = some (keys.getD i ByteArray.empty) := by simp [prev]
    rw [hp] at key
    simp only [tailraceref10_Check.l0, tailraceref10_Check.j1]
    rw [if_pos (by omega), if_pos (by omega), rdOf_nat, drop_getD keys ByteArray.empty i (by omega), wrap_succ _ (by omega), key]
    simp only [riseFrom]
    generalize keys.getD i ByteArray.empty = y
    have ok : okK y = decide (1 ≤ y.size ∧ y.size ≤ 120) := by simp [okK]
    by_cases c1 : y.size < 1
    · have ok1 : okK y = false := by rw [ok, decide_eq_false (by omega)]
      rw [if_pos (by omega)]; simp [ok1]
    rw [if_neg (by omega)]
    by_cases c2 : y.size > 120
    · have ok1 : okK y = false := by rw [ok, decide_eq_false (by omega)]
      rw [if_pos (by omega)]; simp [ok1]
    have ok1 : okK y = true := by rw [ok, decide_eq_true (by omega)]
    rw [if_neg (by omega)]
    simp only [ok1]
    cases i with
    | zero => simp [prev]
    | succ i =>
      rw [if_pos (by omega), wrap_pred _ (by omega), if_pos (by omega), if_pos (by omega), rdOf_nat]
      have hq : prev keys (i + 1) = some (keys.getD i ByteArray.empty) := by simp [prev]
      rw [hq]
      simp only [Bool.true_and]
      cases Op.bytesLess (keys.getD i ByteArray.empty).toList y.toList <;> simp
theorem rChk_eq (h0 : keys.length ≤ 1000000000) (h1 : vals.length ≤ 1000000000) (h2 : kids.length ≤ 1000000000) (k : Nat) (hk : 2 * keys.length + vals.length + 2 * kids.length + 4 < k) : tailraceref10_Check.f k leaf keys vals kids = some (if chk leaf keys vals kids then 0 else 100) := by
  have := rChk_l0 leaf keys vals kids h0 h1 h2 keys.length k 0 (by omega) (by omega) hk
  simpa [tailraceref10_Check.f, prev, chk_eq] using this
theorem rSize_l1 (h0 : vals.length ≤ maxLen) (d : Nat) : ∀ (k i : Nat) (acc : Int), vals.length - i = d → i ≤ vals.length → 0 ≤ acc → acc + d + sumS (vals.drop i) ≤ 9223372036854775807 → d < k →
    tailraceref10_Size.l1 k acc (i : Int) leaf keys vals kids = some (acc + d + sumS (vals.drop i)) := by
  rw [maxLen_eq] at h0
  induction d with
  | zero =>
    intro k i acc hd hi ha hb hk
    obtain ⟨k, rfl⟩ : ∃ m, k = m + 1 := ⟨k - 1, by omega⟩
    obtain rfl : i = vals.length := by omega
    simp only [tailraceref10_Size.l1]
    rw [if_neg (by omega), List.drop_length]; simp [sumS]
  | succ d ih =>
    intro k i acc hd hi ha hb hk
    obtain ⟨k, rfl⟩ : ∃ m, k = m + 1 := ⟨k - 1, by omega⟩
    rw [drop_getD vals ByteArray.empty i (by omega)] at hb ⊢
    simp only [sumS] at hb ⊢
    have hn := sumS_nonneg (vals.drop (i + 1))
    simp only [tailraceref10_Size.l1]
    rw [if_pos (by omega), if_pos (by omega), rdOf_nat, wrap_succ _ (by omega), show wrap64 (wrap64 (acc + 1) + ((vals.getD i ByteArray.empty).size : Int)) = acc + 1 + (vals.getD i ByteArray.empty).size from by unfold wrap64; omega,
      ih k (i + 1) _ (by omega) (by omega) (by omega) (by omega) (by omega)]
    congr 1; omega
theorem rSize_l0 (h0 : keys.length ≤ maxLen) (d : Nat) : ∀ (k i : Nat) (acc : Int), keys.length - i = d → i ≤ keys.length → 0 ≤ acc → acc + d + sumS (keys.drop i) ≤ 9223372036854775807 →
    tailraceref10_Size.l0 (k + d + 1) acc (i : Int) leaf keys vals kids = tailraceref10_Size.l1 k (acc + d + sumS (keys.drop i)) 0 leaf keys vals kids := by
  rw [maxLen_eq] at h0
  induction d with
  | zero =>
    intro k i acc hd hi ha hb
    obtain rfl : i = keys.length := by omega
    simp only [tailraceref10_Size.l0, Nat.add_zero]
    rw [if_neg (by omega), List.drop_length]; simp [sumS]
  | succ d ih =>
    intro k i acc hd hi ha hb
    rw [drop_getD keys ByteArray.empty i (by omega)] at hb ⊢
    simp only [sumS] at hb ⊢
    have hn := sumS_nonneg (keys.drop (i + 1))
    have ih' := ih k (i + 1) (acc + 1 + (keys.getD i ByteArray.empty).size) (by omega) (by omega) (by omega) (by omega)
    rw [show k + (d + 1) + 1 = (k + d + 1) + 1 by omega]
    generalize k + d + 1 = K at ih' ⊢
    simp only [tailraceref10_Size.l0]
    rw [if_pos (by omega), if_pos (by omega), rdOf_nat, wrap_succ _ (by omega), show wrap64 (wrap64 (acc + 1) + ((keys.getD i ByteArray.empty).size : Int)) = acc + 1 + (keys.getD i ByteArray.empty).size from by unfold wrap64; omega,
      ih']
    congr 1; omega
theorem rSize_eq (h1 : keys.length ≤ 1000000000) (h2 : vals.length ≤ 1000000000) (h3 : kids.length ≤ 1000000000) (s1 : ∀ s ∈ keys, s.size ≤ 1000000) (s2 : ∀ s ∈ vals, s.size ≤ 1000000)
    (k : Nat) (hk : keys.length + vals.length + 1 < k) : tailraceref10_Size.f k leaf keys vals kids = some (sizN keys vals kids) := by
  have b1 := sumS_le 1000000 keys s1
  have b2 := sumS_le 1000000 vals s2
  have n1 := sumS_nonneg keys
  have n2 := sumS_nonneg vals
  obtain ⟨k, rfl⟩ : ∃ m, k = m + keys.length + 1 := ⟨k - keys.length - 1, by omega⟩
  unfold tailraceref10_Size.f
  have w : wrap64 (2 + (wrap64 (4 * (kids.length : Int)))) = 2 + 4 * kids.length := by
    unfold wrap64; omega
  rw [w]
  have e1 := rSize_l0 leaf keys vals kids (by rw [maxLen_eq]; omega) keys.length k 0 (2 + 4 * kids.length) (by omega) (by omega) (by omega) (by rw [List.drop_zero]; omega)
  rw [List.drop_zero] at e1
  have e2 := rSize_l1 leaf keys vals kids (by rw [maxLen_eq]; omega) vals.length k 0 (2 + 4 * kids.length + keys.length + sumS keys) (by omega) (by omega) (by omega) (by rw [List.drop_zero]; omega) (by omega)
  rw [List.drop_zero] at e2
  rw [show ((0 : Nat) : Int) = 0 from rfl] at e1 e2
  rw [e1, e2]
  congr 1; unfold sizN; omega
theorem text_eq (s : ByteArray) (h : s.size ≤ 1000000) : tailraceref10_text.f s = some (tx s) := by
  unfold tailraceref10_text.f
  simp only [Option.bind_some]
  rw [if_pos (by simp; omega)]; rfl
theorem four_eq (x : Int) : tailraceref10_four.f x = some (four x) := rfl
theorem rEnc_leaf (hl : vals.length = keys.length) (s1 : ∀ s ∈ keys, s.size ≤ 120) (s2 : ∀ s ∈ vals, s.size ≤ 100) (hn : keys.length ≤ 1000000) (d : Nat) : ∀ (k i : Nat) (out : List Int) (x6 : Int), keys.length - i = d → i ≤ keys.length → out.length + 1000 * d ≤ 10000000000 → d < k →
    tailraceref10_Encode.l0 k out x6 (i : Int) true keys vals kids = some (x6, out ++ encL (keys.drop i) (vals.drop i), 0) := by
  induction d with
  | zero =>
    intro k i out x6 hd hi ho hk
    obtain ⟨k, rfl⟩ : ∃ m, k = m + 1 := ⟨k - 1, by omega⟩
    obtain rfl : i = keys.length := by omega
    simp only [tailraceref10_Encode.l0]
    rw [if_neg (by omega), List.drop_length]; simp [encL]
  | succ d ih =>
    intro k i out x6 hd hi ho hk
    obtain ⟨k, rfl⟩ : ∃ m, k = m + 1 := ⟨k - 1, by omega⟩
    have m1 : (keys.getD i ByteArray.empty).size ≤ 120 := s1 _ (by rw [List.getD_eq_getElem?_getD, List.getElem?_eq_getElem (show i < keys.length by omega)]; exact List.getElem_mem _)
    have m2 : (vals.getD i ByteArray.empty).size ≤ 100 := s2 _ (by rw [List.getD_eq_getElem?_getD, List.getElem?_eq_getElem (show i < vals.length by omega)]; exact List.getElem_mem _)
    have t1 := tx_length (keys.getD i ByteArray.empty)
    have t2 := tx_length (vals.getD i ByteArray.empty)
    simp only [tailraceref10_Encode.l0]
    rw [if_pos (by omega), if_pos (by omega), rdOf_nat, rdOf_nat, text_eq _ (by omega), text_eq _ (by omega), wrap_succ _ (by omega)]
    simp only [Option.bind_some]
    rw [if_pos (by omega)]
    simp only [if_true]
    rw [if_pos (by omega), if_pos (by simp only [List.length_append]; omega), ih k (i + 1) _ _ (by omega) (by omega) (by simp only [List.length_append]; omega) (by omega),
      drop_getD keys ByteArray.empty i (by omega), drop_getD vals ByteArray.empty i (by omega)]
    simp [encL]
theorem rEnc_inner (hl : kids.length = keys.length + 1) (s1 : ∀ s ∈ keys, s.size ≤ 120) (hn : keys.length ≤ 1000000) (d : Nat) : ∀ (k i : Nat) (out : List Int) (x6 : Int), keys.length - i = d → i ≤ keys.length → out.length + 1000 * d ≤ 10000000000 → d < k →
    tailraceref10_Encode.l0 k out x6 (i : Int) false keys vals kids = some (x6, out ++ encI (keys.drop i) (kids.drop (i + 1)), 0) := by
  induction d with
  | zero =>
    intro k i out x6 hd hi ho hk
    obtain ⟨k, rfl⟩ : ∃ m, k = m + 1 := ⟨k - 1, by omega⟩
    obtain rfl : i = keys.length := by omega
    simp only [tailraceref10_Encode.l0]
    rw [if_neg (by omega), List.drop_length]; simp [encI]
  | succ d ih =>
    intro k i out x6 hd hi ho hk
    obtain ⟨k, rfl⟩ : ∃ m, k = m + 1 := ⟨k - 1, by omega⟩
    have m1 : (keys.getD i ByteArray.empty).size ≤ 120 := s1 _ (by rw [List.getD_eq_getElem?_getD, List.getElem?_eq_getElem (show i < keys.length by omega)]; exact List.getElem_mem _)
    have t1 := tx_length (keys.getD i ByteArray.empty)
    have t2 : (four (kids.getD (i + 1) 0)).length = 4 := rfl
    simp only [tailraceref10_Encode.l0]
    rw [if_pos (by omega), if_pos (by omega), rdOf_nat, text_eq _ (by omega), wrap_succ _ (by omega), rd_nat, four_eq]
    simp only [Option.bind_some, Bool.false_eq_true, if_false]
    rw [if_pos (by omega), if_pos (by omega), if_pos (by omega), if_pos (by simp only [List.length_append]; omega), ih k (i + 1) _ _ (by omega) (by omega) (by simp only [List.length_append]; omega) (by omega),
      drop_getD keys ByteArray.empty i (by omega), drop_getD kids 0 (i + 1) (by omega)]
    simp [encI]
theorem rEnc_eq (h1 : keys.length ≤ 1000000) (h2 : vals.length ≤ 1000000) (h3 : kids.length ≤ 1000000) (s1 : ∀ s ∈ keys, s.size ≤ 1000000) (s2 : ∀ s ∈ vals, s.size ≤ 1000000) (k : Nat) (hk : 2 * keys.length + vals.length + 2 * kids.length + 4 < k) :
    tailraceref10_Encode.f k leaf keys vals kids = some (encS leaf keys vals kids) := by
  unfold tailraceref10_Encode.f encS
  rw [rChk_eq leaf keys vals kids (by omega) (by omega) (by omega) k hk, rSize_eq leaf keys vals kids (by omega) (by omega) (by omega) s1 s2 k (by omega)]
  obtain ⟨k, rfl⟩ : ∃ m, k = m + 1 := ⟨k - 1, by omega⟩
  by_cases c : chk leaf keys vals kids = true
  · obtain ⟨z1, z2⟩ := chk_sizes c
    simp only [Option.bind_some, c, if_true]
    by_cases cs : sizN keys vals kids ≤ 1000
    · rw [if_neg (by omega), if_pos cs]
      have w1 : wrap64 ((keys.length : Int) / 256) = (keys.length : Int) / 256 := by unfold wrap64; omega
      rw [w1]
      simp only [tailraceref10_Encode.j0]
      cases leaf
      · obtain ⟨c1, c2, c3, c4⟩ := chk_inner c
        have e := rEnc_inner keys vals kids c2 z1 h1 keys.length k 0 ([((keys.length : Int) / 256) % 256, (keys.length : Int) % 256] ++ four (kids.getD 0 0)) 3 (by omega) (by omega) (by simp [four]; omega) (by omega)
        rw [List.drop_zero] at e
        rw [show (0 : Int) = ((0 : Nat) : Int) from rfl, rd_nat, four_eq]
        simp only [Bool.false_eq_true, if_false, Option.bind_some]
        rw [if_pos (by omega), if_pos (by simp [four]), e]
        simp [encB]
      · obtain ⟨c1, c2⟩ := chk_leaf c
        have e := rEnc_leaf keys vals kids c1 z1 z2 h1 keys.length k 0 [((keys.length : Int) / 256) % 256, (keys.length : Int) % 256] 2 (by omega) (by omega) (by simp; omega) (by omega)
        rw [List.drop_zero, List.drop_zero] at e
        rw [show (0 : Int) = ((0 : Nat) : Int) from rfl, if_pos rfl, e]
        simp [encB]
    · rw [if_pos (by omega), if_neg cs]
  · simp [c]
end
end Go.Proofs.Ytdjiclphnoepcaa.P
