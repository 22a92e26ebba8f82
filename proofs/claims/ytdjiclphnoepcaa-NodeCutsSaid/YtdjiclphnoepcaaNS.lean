/- What the given program's and the reference's functions of nodes compute, in plain words. -/
import Derived.Test.YtdjiclphnoepcaaOrder
import Derived.Test.YtdjiclphnoepcaaPx2
import Derived.Test.YtdjiclphnoepcaaPx3
set_option linter.unusedVariables false
set_option linter.unusedSimpArgs false
namespace Go.Proofs.Ytdjiclphnoepcaa.P
open Go.RowKit Go.Proofs.YtdjiclphnoepcaaW.PrintWords Go.Proofs.YtdjiclphnoepcaaW.PrintLast Go.Proofs.YtdjiclphnoepcaaOwn
theorem maxLen_eq : maxLen = 9223372036854775807 := rfl
theorem rdOf_nat (xs : List ByteArray) (i : Nat) : rdOf ByteArray.empty xs (i : Int) = xs.getD i ByteArray.empty := by simp [rdOf]
theorem rd_nat (xs : List Int) (i : Nat) : rd xs (i : Int) = xs.getD i 0 := by simp [rd]
theorem wrap_pred (i : Nat) (h : i < 9223372036854775807) : wrap64 (((i + 1 : Nat) : Int) - 1) = (i : Int) := by unfold wrap64; omega
def okK (k : ByteArray) : Bool := decide (1 ≤ k.size) && decide (k.size ≤ 120)
def riseFrom : Option ByteArray → List ByteArray → Bool
  | _, [] => true
  | p, k :: l => okK k && (match p with | none => true | some q => Op.bytesLess q.toList k.toList) && riseFrom (some k) l
def prev (xs : List ByteArray) (i : Nat) : Option ByteArray := if i = 0 then none else some (xs.getD (i - 1) ByteArray.empty)
theorem rise_l0 (x : List ByteArray) (h0 : x.length ≤ maxLen) (d : Nat) : ∀ (k i : Nat), x.length - i = d → i ≤ x.length → 2 * d < k → node_rise.l0 k x x (x.length : Int) (i : Int) = some (riseFrom (prev x i) (x.drop i)) := by
  rw [maxLen_eq] at h0
  induction d with
  | zero =>
    intro k i hd hi hk
    obtain ⟨k, rfl⟩ : ∃ m, k = m + 1 := ⟨k - 1, by omega⟩
    obtain rfl : i = x.length := by omega
    simp only [node_rise.l0]
    rw [if_neg (by omega), List.drop_length]; simp [riseFrom]
  | succ d ih =>
    intro k i hd hi hk
    obtain ⟨k, rfl⟩ : ∃ m, k = m + 2 := ⟨k - 2, by omega⟩
    simp only [node_rise.l0, node_rise.j1]
    rw [if_pos (by omega), if_pos (by omega), if_pos (by omega), rdOf_nat, drop_getD x ByteArray.empty i (by omega)]
    have key := ih k (i + 1) (by omega) (by omega) (by omega)
    have hp : prev x (i + 1) = some (x.getD i ByteArray.empty) := by simp [prev]
    rw [hp] at key
    rw [wrap_succ _ (by omega), key]
    simp only [riseFrom]
    generalize x.getD i ByteArray.empty = y
    have ok : okK y = decide (1 ≤ y.size ∧ y.size ≤ 120) := by simp [okK]
    by_cases c1 : y.size < 1
    · rw [if_pos (by omega), ok, decide_eq_false (by omega)]; simp
    rw [if_neg (by omega)]
    by_cases c2 : y.size > 120
    · rw [if_pos (by omega), ok, decide_eq_false (by omega)]; simp
    rw [if_neg (by omega), ok, decide_eq_true (by omega)]
    cases i with
    | zero => simp [prev]
    | succ i =>
      rw [if_pos (by omega), wrap_pred _ (by omega), if_pos (by omega), if_pos (by omega), rdOf_nat]
      have hq : prev x (i + 1) = some (x.getD i ByteArray.empty) := by simp [prev]
      rw [hq]
      simp only [Bool.true_and]
      cases Op.bytesLess (x.getD i ByteArray.empty).toList y.toList <;> simp
theorem rise_eq (x : List ByteArray) (h0 : x.length ≤ maxLen) (k : Nat) (hk : 2 * x.length < k) : node_rise.f k x = some (riseFrom none x) := by
  have := rise_l0 x h0 x.length k 0 (by omega) (by omega) hk
  simpa [node_rise.f, prev] using this
def chk (leaf : Bool) (keys vals : List ByteArray) (kids : List Int) : Bool :=
  riseFrom none keys && (if leaf then (decide (vals.length = keys.length) && decide (kids.length = 0) && vals.all fun v => decide (v.size ≤ 100))
    else (decide (0 < keys.length) && decide (kids.length = keys.length + 1) && decide (vals.length = 0) && kids.all fun k => decide (2 ≤ k) && decide (k ≤ 2147483647)))
theorem Check_l0 (x : List ByteArray) (h0 : x.length ≤ maxLen) (d : Nat) : ∀ (k i : Nat) (b : Bool), x.length - i = d → i ≤ x.length → d + 1 < k → node_Check.l0 k b x (x.length : Int) (i : Int) = some (if (b && (x.drop i).all fun v => decide (v.size ≤ 100)) then 0 else 100) := by
  rw [maxLen_eq] at h0
  induction d with
  | zero =>
    intro k i b hd hi hk
    obtain ⟨k, rfl⟩ : ∃ m, k = m + 2 := ⟨k - 2, by omega⟩
    obtain rfl : i = x.length := by omega
    simp only [node_Check.l0, node_Check.j4]
    rw [if_neg (by omega), List.drop_length]; cases b <;> simp
  | succ d ih =>
    intro k i b hd hi hk
    obtain ⟨k, rfl⟩ : ∃ m, k = m + 1 := ⟨k - 1, by omega⟩
    simp only [node_Check.l0]
    rw [if_pos (by omega), if_pos (by omega), if_pos (by omega), rdOf_nat, drop_getD x ByteArray.empty i (by omega), wrap_succ _ (by omega), ih k (i + 1) _ (by omega) (by omega) (by omega), ih k (i + 1) _ (by omega) (by omega) (by omega)]
    generalize x.getD i ByteArray.empty = y
    have e : decide ((y.size : Int) ≤ 100) = decide (y.size ≤ 100) := by rw [decide_eq_decide]; omega
    rw [e]
    cases b <;> simp
theorem Check_l1 (x : List Int) (h0 : x.length ≤ maxLen) (d : Nat) : ∀ (k i : Nat) (b : Bool), x.length - i = d → i ≤ x.length → d + 1 < k → node_Check.l1 k b x (x.length : Int) (i : Int) = some (if (b && (x.drop i).all fun k => decide (2 ≤ k) && decide (k ≤ 2147483647)) then 0 else 100) := by
  rw [maxLen_eq] at h0
  induction d with
  | zero =>
    intro k i b hd hi hk
    obtain ⟨k, rfl⟩ : ∃ m, k = m + 2 := ⟨k - 2, by omega⟩
    obtain rfl : i = x.length := by omega
    simp only [node_Check.l1, node_Check.j4]
    rw [if_neg (by omega), List.drop_length]; cases b <;> simp
  | succ d ih =>
    intro k i b hd hi hk
    obtain ⟨k, rfl⟩ : ∃ m, k = m + 1 := ⟨k - 1, by omega⟩
    simp only [node_Check.l1]
    rw [if_pos (by omega), if_pos (by omega), if_pos (by omega), rd_nat, drop_getD x 0 i (by omega), wrap_succ _ (by omega), ih k (i + 1) _ (by omega) (by omega) (by omega), ih k (i + 1) _ (by omega) (by omega) (by omega)]
    cases b
    · simp
    · by_cases c : x.getD i 0 ≥ 2
      · have c' : 2 ≤ x.getD i 0 := c
        rw [if_pos rfl, if_pos c]; simp only [List.all_cons, c', decide_true, Bool.true_and]
      · have c' : ¬ 2 ≤ x.getD i 0 := c
        rw [if_pos rfl, if_neg c]; simp only [List.all_cons, c', decide_false, Bool.false_and, Bool.and_false]
theorem node_Check_eq (leaf : Bool) (keys vals : List ByteArray) (kids : List Int) (h1 : keys.length ≤ 1000000000) (h2 : vals.length ≤ 1000000000) (h3 : kids.length ≤ 1000000000) (k : Nat) (hk : 2 * keys.length + vals.length + kids.length + 3 < k) :
    node_Check.f k leaf keys vals kids = some (if chk leaf keys vals kids then 0 else 100) := by
  unfold node_Check.f chk
  rw [rise_eq keys (by rw [maxLen_eq]; omega) k (by omega)]
  obtain ⟨k, rfl⟩ : ∃ m, k = m + 1 := ⟨k - 1, by omega⟩
  have a0 : ∀ b, node_Check.j0 (k + 1) b leaf keys vals kids = some (if (b && vals.all fun v => decide (v.size ≤ 100)) then 0 else 100) := by
    intro b
    simp only [node_Check.j0]
    have := Check_l0 vals (by rw [maxLen_eq]; omega) vals.length k 0 b (by omega) (by omega) (by omega)
    simpa using this
  have a1 : ∀ b, node_Check.j2 (k + 1) b leaf keys vals kids = some (if (b && kids.all fun k => decide (2 ≤ k) && decide (k ≤ 2147483647)) then 0 else 100) := by
    intro b
    simp only [node_Check.j2]
    have := Check_l1 kids (by rw [maxLen_eq]; omega) kids.length k 0 b (by omega) (by omega) (by omega)
    simpa using this
  simp only [Option.bind_some, a0, a1]
  have w1 : wrap64 ((keys.length : Int) + 1) = ((keys.length + 1 : Nat) : Int) := wrap_succ _ (by omega)
  rw [w1]
  cases leaf
  · simp only [Bool.false_eq_true, if_false]
    cases riseFrom none keys
    · simp
    · by_cases c1 : 0 < keys.length
      · by_cases c2 : kids.length = keys.length + 1
        · rw [if_pos rfl, if_pos (by omega), if_pos (by omega)]
          have e : ((vals.length : Int) == 0) = decide (vals.length = 0) := by rw [Bool.eq_iff_iff]; simp
          simp [e, c1, c2]
        · rw [if_pos rfl, if_pos (by omega), if_neg (by omega)]; simp [c2]
      · rw [if_pos rfl, if_neg (by omega)]; simp [c1]
  · simp only [if_true]
    cases riseFrom none keys
    · simp
    · by_cases c1 : vals.length = keys.length
      · rw [if_pos rfl, if_pos (by omega)]
        have e : ((kids.length : Int) == 0) = decide (kids.length = 0) := by rw [Bool.eq_iff_iff]; simp
        simp [e, c1]
      · rw [if_pos rfl, if_neg (by omega)]; simp [c1]
/-- The sizes together. -/
def sumS : List ByteArray → Int
  | [] => 0
  | a :: l => a.size + sumS l
theorem sumS_nonneg : ∀ l, 0 ≤ sumS l
  | [] => by simp [sumS]
  | a :: l => by have := sumS_nonneg l; simp only [sumS]; omega
theorem sumS_le (B : Nat) : ∀ l : List ByteArray, (∀ s ∈ l, s.size ≤ B) → sumS l ≤ (B : Int) * l.length
  | [], _ => by simp [sumS]
  | a :: l, h => by
    have h1 := sumS_le B l (fun s hs => h s (by simp [hs]))
    have h2 := h a (by simp)
    have h3 : (B : Int) * ((l.length + 1 : Nat) : Int) = (B : Int) * l.length + B := by rw [Int.natCast_add, Int.mul_add]; simp
    simp only [sumS, List.length_cons]
    rw [h3]; omega
theorem sumS_drop_le : ∀ (l : List ByteArray) (i : Nat), sumS (l.drop i) ≤ sumS l
  | [], i => by simp
  | a :: l, 0 => by simp
  | a :: l, i + 1 => by have := sumS_drop_le l i; simp only [List.drop_succ_cons, sumS]; omega
theorem Size_l0 (x : List ByteArray) (leaf : Bool) (keys vals : List ByteArray) (kids : List Int) (h0 : x.length ≤ maxLen) (d : Nat) : ∀ (k i : Nat) (acc : Int), x.length - i = d → i ≤ x.length → 0 ≤ acc → acc + sumS (x.drop i) ≤ 9223372036854775807 →
    node_Size.l0 (k + d + 1) acc x (x.length : Int) (i : Int) leaf keys vals kids = node_Size.l1 k (acc + sumS (x.drop i)) vals (vals.length : Int) 0 := by
  rw [maxLen_eq] at h0
  induction d with
  | zero =>
    intro k i acc hd hi ha hb
    obtain rfl : i = x.length := by omega
    simp only [node_Size.l0, Nat.add_zero]
    rw [if_neg (by omega), List.drop_length]; simp [sumS]
  | succ d ih =>
    intro k i acc hd hi ha hb
    rw [drop_getD x ByteArray.empty i (by omega)] at hb ⊢
    simp only [sumS] at hb ⊢
    have hn := sumS_nonneg (x.drop (i + 1))
    have ih' := ih k (i + 1) (acc + (x.getD i ByteArray.empty).size) (by omega) (by omega) (by omega) (by omega)
    rw [show k + (d + 1) + 1 = (k + d + 1) + 1 by omega]
    generalize k + d + 1 = K at ih' ⊢
    simp only [node_Size.l0]
    rw [if_pos (by omega), if_pos (by omega), if_pos (by omega), rdOf_nat, wrap_succ _ (by omega), show wrap64 (acc + ((x.getD i ByteArray.empty).size : Int)) = acc + (x.getD i ByteArray.empty).size from by unfold wrap64; omega,
      ih', Int.add_assoc]
theorem Size_l1 (x : List ByteArray) (h0 : x.length ≤ maxLen) (d : Nat) : ∀ (k i : Nat) (acc : Int), x.length - i = d → i ≤ x.length → 0 ≤ acc → acc + sumS (x.drop i) ≤ 9223372036854775807 → d < k →
    node_Size.l1 k acc x (x.length : Int) (i : Int) = some (acc + sumS (x.drop i)) := by
  rw [maxLen_eq] at h0
  induction d with
  | zero =>
    intro k i acc hd hi ha hb hk
    obtain ⟨k, rfl⟩ : ∃ m, k = m + 1 := ⟨k - 1, by omega⟩
    obtain rfl : i = x.length := by omega
    simp only [node_Size.l1]
    rw [if_neg (by omega), List.drop_length]; simp [sumS]
  | succ d ih =>
    intro k i acc hd hi ha hb hk
    obtain ⟨k, rfl⟩ : ∃ m, k = m + 1 := ⟨k - 1, by omega⟩
    rw [drop_getD x ByteArray.empty i (by omega)] at hb ⊢
    simp only [sumS] at hb ⊢
    have hn := sumS_nonneg (x.drop (i + 1))
    simp only [node_Size.l1]
    rw [if_pos (by omega), if_pos (by omega), if_pos (by omega), rdOf_nat, wrap_succ _ (by omega), show wrap64 (acc + ((x.getD i ByteArray.empty).size : Int)) = acc + (x.getD i ByteArray.empty).size from by unfold wrap64; omega,
      ih k (i + 1) _ (by omega) (by omega) (by omega) (by omega) (by omega), Int.add_assoc]
def sizN (keys vals : List ByteArray) (kids : List Int) : Int := 2 + 4 * kids.length + keys.length + vals.length + sumS keys + sumS vals
theorem node_Size_eq (leaf : Bool) (keys vals : List ByteArray) (kids : List Int) (h1 : keys.length ≤ 1000000000) (h2 : vals.length ≤ 1000000000) (h3 : kids.length ≤ 1000000000) (s1 : ∀ s ∈ keys, s.size ≤ 1000000) (s2 : ∀ s ∈ vals, s.size ≤ 1000000)
    (k : Nat) (hk : keys.length + vals.length + 1 < k) : node_Size.f k leaf keys vals kids = some (sizN keys vals kids) := by
  have b1 := sumS_le 1000000 keys s1
  have b2 := sumS_le 1000000 vals s2
  have n1 := sumS_nonneg keys
  have n2 := sumS_nonneg vals
  obtain ⟨k, rfl⟩ : ∃ m, k = m + keys.length + 1 := ⟨k - keys.length - 1, by omega⟩
  unfold node_Size.f
  have w : wrap64 ((wrap64 ((wrap64 (2 + (wrap64 (4 * (kids.length : Int))))) + (keys.length : Int))) + (vals.length : Int)) = 2 + 4 * kids.length + keys.length + vals.length := by
    unfold wrap64; omega
  rw [w]
  have e1 := Size_l0 keys leaf keys vals kids (by rw [maxLen_eq]; omega) keys.length k 0 (2 + 4 * kids.length + keys.length + vals.length) (by omega) (by omega) (by omega) (by rw [List.drop_zero]; omega)
  rw [List.drop_zero] at e1
  have e2 := Size_l1 vals (by rw [maxLen_eq]; omega) vals.length k 0 (2 + 4 * kids.length + keys.length + vals.length + sumS keys) (by omega) (by omega) (by omega) (by rw [List.drop_zero]; omega) (by omega)
  rw [List.drop_zero] at e2
  rw [show ((0 : Nat) : Int) = 0 from rfl] at e1 e2
  rw [e1, e2]; rfl
end Go.Proofs.Ytdjiclphnoepcaa.P
