/- What the printed functions of keys compute, in plain words. -/
import Derived.Test.YtniihilegljgmaaPx7
import Derived.Test.YtniihilegljgmaaK1
set_option linter.unusedVariables false
set_option linter.unusedSimpArgs false
namespace Go.Proofs.Ytniihilegljgmaa.P
open Go.RowKit Go.Proofs.YtniihilegljgmaaW.PrintWords Go.Proofs.YtniihilegljgmaaW.PrintLast Go.Proofs.YtniihilegljgmaaW.PrintMore Go.Proofs.YtniihilegljgmaaOwn
theorem maxLen_eq : maxLen = 9223372036854775807 := rfl
theorem rdV (xs : List S38) (i : Nat) : rd_T38 xs (i : Int) = xs.getD i z38 := by simp [rd_T38]
theorem rd_nat (xs : List Int) (i : Nat) : rd xs (i : Int) = xs.getD i 0 := by simp [rd]
theorem wrap_pred (i : Nat) (h0 : 0 < i) (h : i < 9223372036854775807) : wrap64 ((i : Int) - 1) = ((i - 1 : Nat) : Int) := by unfold wrap64; omega
def Few (l : List S38) : Prop := l.length ≤ 100 ∧ ∀ v ∈ l, v.f2.size ≤ 200
theorem few_l0 (x0 : List S38) (h0 : x0.length ≤ 100) (d : Nat) : ∀ (k i : Nat), x0.length - i = d → i ≤ x0.length → d < k → ∃ b, tailracelaw02_few.l0 k x0 (i : Int) = some b ∧ (b = true → ∀ v ∈ x0.drop i, v.f2.size ≤ 200) := by
  induction d with
  | zero =>
    intro k i hd hi hk
    obtain ⟨k, rfl⟩ : ∃ m, k = m + 1 := ⟨k - 1, by omega⟩
    obtain rfl : i = x0.length := by omega
    simp only [tailracelaw02_few.l0]
    rw [if_neg (by omega), List.drop_length]
    exact ⟨true, rfl, by simp⟩
  | succ d ih =>
    intro k i hd hi hk
    obtain ⟨k, rfl⟩ : ∃ m, k = m + 1 := ⟨k - 1, by omega⟩
    simp only [tailracelaw02_few.l0]
    rw [if_pos (by omega), if_pos (by omega), rdV]
    by_cases h : ((x0.getD i z38).f2.size : Int) > 200
    · rw [if_pos h]; exact ⟨false, rfl, by simp⟩
    · rw [if_neg h, wrap_succ _ (by omega), drop_getD x0 z38 i (by omega)]
      obtain ⟨b, h1, h2⟩ := ih k (i + 1) (by omega) (by omega) (by omega)
      refine ⟨b, h1, fun hb v hv => ?_⟩
      rcases List.mem_cons.1 hv with rfl | hv
      · omega
      · exact h2 hb v hv
theorem few_eq (x0 : List S38) (k : Nat) (hk : 101 < k) : ∃ b, tailracelaw02_few.f k x0 = some b ∧ (b = true → Few x0) := by
  unfold tailracelaw02_few.f
  by_cases h : (x0.length : Int) > 100
  · rw [if_pos h]; exact ⟨false, rfl, by simp⟩
  · rw [if_neg h]
    obtain ⟨b, h1, h2⟩ := few_l0 x0 (by omega) x0.length k 0 (by omega) (by omega) (by omega)
    exact ⟨b, h1, fun hb => ⟨by omega, h2 hb⟩⟩
theorem good_l0 (x0 : List S38) (h0 : x0.length ≤ 1000000000) (d : Nat) : ∀ (k i : Nat), x0.length - i = d → i ≤ x0.length → d < k → ∃ b, tailracelaw02_good.l0 k x0 (i : Int) = some b ∧ (b = true ↔ ∀ v ∈ x0.drop i, Ok v) := by
  induction d with
  | zero =>
    intro k i hd hi hk
    obtain ⟨k, rfl⟩ : ∃ m, k = m + 1 := ⟨k - 1, by omega⟩
    obtain rfl : i = x0.length := by omega
    simp only [tailracelaw02_good.l0]
    rw [if_neg (by omega), List.drop_length]
    exact ⟨true, rfl, by simp⟩
  | succ d ih =>
    intro k i hd hi hk
    obtain ⟨k, rfl⟩ : ∃ m, k = m + 1 := ⟨k - 1, by omega⟩
    simp only [tailracelaw02_good.l0]
    rw [if_pos (by omega), if_pos (by omega), rdV]
    rcases check_cases (x0.getD i z38).f0 (x0.getD i z38).f1 (x0.getD i z38).f2 with h | h
    · rw [h]
      simp only [Option.bind_some, if_true]
      rw [wrap_succ _ (by omega), drop_getD x0 z38 i (by omega)]
      obtain ⟨b, h1, h2⟩ := ih k (i + 1) (by omega) (by omega) (by omega)
      refine ⟨b, h1, fun hb v hv => ?_, fun hb => h2.2 fun v hv => hb v (by simp [hv])⟩
      rcases List.mem_cons.1 hv with rfl | hv
      · exact check_ok.1 h
      · exact h2.1 hb v hv
    · rw [h]
      simp only [Option.bind_some]
      rw [if_neg (by decide), drop_getD x0 z38 i (by omega)]
      refine ⟨false, rfl, by simp, fun hb => ?_⟩
      have := check_ok.2 (hb (x0.getD i z38) List.mem_cons_self)
      rw [h] at this; simp at this
theorem good_eq (x0 : List S38) (h0 : x0.length ≤ 1000000000) (k : Nat) (hk : x0.length < k) : ∃ b, tailracelaw02_good.f k x0 = some b ∧ (b = true ↔ ∀ v ∈ x0, Ok v) := good_l0 x0 h0 x0.length k 0 (by omega) (by omega) hk
/-! The reference's Row. -/
theorem shr64 (x : Int) (n : Nat) (h : n ≤ 64) : shr .u64 x (n : Int) = x / 2 ^ n := by
  unfold shr
  rw [show IntKind.u64.bits = 64 from rfl, Int.toNat_natCast, Nat.min_eq_left h]
theorem shift_of (n : Nat) (h : n ≤ 7) : IntKind.u64.wrap (wrap64 (8 * (n : Int))) = ((8 * n : Nat) : Int) := by
  rw [IntKind.wrap_u64]; unfold wrap64; omega
theorem one_step (k : Nat) (x3 : List Int) (X : Int) (n : Nat) (a b : Int) (c : ByteArray) (hn : n ≤ 7) (hl : x3.length ≤ 1000) :
    tailraceref02_one.l0 (k + 1) x3 X (n : Int) a b c = tailraceref02_one.l0 k (x3 ++ [X / 2 ^ (8 * n) % 256]) X ((n : Int) - 1) a b c := by
  simp only [tailraceref02_one.l0]
  rw [if_pos (by omega), shift_of n hn, if_pos (by omega), if_pos (by omega), shr64 _ _ (by omega), show wrap64 ((n : Int) - 1) = (n : Int) - 1 by unfold wrap64; omega]
theorem one_num (k : Nat) (n : Int) (c : ByteArray) (h0 : -9223372036854775808 ≤ n) (h1 : n ≤ 9223372036854775807) : tailraceref02_one.f (k + 12) 1 n c = some (1 :: eightK n) := by
  unfold tailraceref02_one.f
  rw [if_pos rfl, if_pos (by decide), show IntKind.u64.wrap (IntKind.u64.wrap n + 9223372036854775808) = n + 9223372036854775808 by rw [IntKind.wrap_u64, IntKind.wrap_u64]; omega]
  have s7 := one_step (k + 11) ([] ++ [1]) (n + 9223372036854775808) 7 1 n c (by omega) (by simp)
  have s6 := one_step (k + 10) ([] ++ [1] ++ [(n + 9223372036854775808) / 2 ^ (8 * 7) % 256]) (n + 9223372036854775808) 6 1 n c (by omega) (by simp)
  have s5 := one_step (k + 9) ([] ++ [1] ++ [(n + 9223372036854775808) / 2 ^ (8 * 7) % 256] ++ [(n + 9223372036854775808) / 2 ^ (8 * 6) % 256]) (n + 9223372036854775808) 5 1 n c (by omega) (by simp)
  have s4 := one_step (k + 8) ([] ++ [1] ++ [(n + 9223372036854775808) / 2 ^ (8 * 7) % 256] ++ [(n + 9223372036854775808) / 2 ^ (8 * 6) % 256] ++ [(n + 9223372036854775808) / 2 ^ (8 * 5) % 256]) (n + 9223372036854775808) 4 1 n c (by omega) (by simp)
  have s3 := one_step (k + 7) ([] ++ [1] ++ [(n + 9223372036854775808) / 2 ^ (8 * 7) % 256] ++ [(n + 9223372036854775808) / 2 ^ (8 * 6) % 256] ++ [(n + 9223372036854775808) / 2 ^ (8 * 5) % 256] ++ [(n + 9223372036854775808) / 2 ^ (8 * 4) % 256]) (n + 9223372036854775808) 3 1 n c (by omega) (by simp)
  have s2 := one_step (k + 6) ([] ++ [1] ++ [(n + 9223372036854775808) / 2 ^ (8 * 7) % 256] ++ [(n + 9223372036854775808) / 2 ^ (8 * 6) % 256] ++ [(n + 9223372036854775808) / 2 ^ (8 * 5) % 256] ++ [(n + 9223372036854775808) / 2 ^ (8 * 4) % 256] ++ [(n + 9223372036854775808) / 2 ^ (8 * 3) % 256]) (n + 9223372036854775808) 2 1 n c (by omega) (by simp)
  have s1 := one_step (k + 5) ([] ++ [1] ++ [(n + 9223372036854775808) / 2 ^ (8 * 7) % 256] ++ [(n + 9223372036854775808) / 2 ^ (8 * 6) % 256] ++ [(n + 9223372036854775808) / 2 ^ (8 * 5) % 256] ++ [(n + 9223372036854775808) / 2 ^ (8 * 4) % 256] ++ [(n + 9223372036854775808) / 2 ^ (8 * 3) % 256] ++ [(n + 9223372036854775808) / 2 ^ (8 * 2) % 256]) (n + 9223372036854775808) 1 1 n c (by omega) (by simp)
  have s0 := one_step (k + 4) ([] ++ [1] ++ [(n + 9223372036854775808) / 2 ^ (8 * 7) % 256] ++ [(n + 9223372036854775808) / 2 ^ (8 * 6) % 256] ++ [(n + 9223372036854775808) / 2 ^ (8 * 5) % 256] ++ [(n + 9223372036854775808) / 2 ^ (8 * 4) % 256] ++ [(n + 9223372036854775808) / 2 ^ (8 * 3) % 256] ++ [(n + 9223372036854775808) / 2 ^ (8 * 2) % 256] ++ [(n + 9223372036854775808) / 2 ^ (8 * 1) % 256]) (n + 9223372036854775808) 0 1 n c (by omega) (by simp)
  refine s7.trans (s6.trans (s5.trans (s4.trans (s3.trans (s2.trans (s1.trans (s0.trans ?_)))))))
  simp only [tailraceref02_one.l0, tailraceref02_one.j1]
  rw [if_neg (by decide), if_neg (by decide)]
  simp [eightK]
theorem one_text (a b : Int) (c : ByteArray) (h0 : c.size ≤ 1000) (d : Nat) : ∀ (k i : Nat) (x3 : List Int), c.size - i = d → i ≤ c.size → d < k → x3.length ≤ 3 * i + 10 → tailraceref02_one.l1 k x3 (i : Int) a b c = some (x3 ++ escK ((bytesOf c).drop i) ++ [0, 0]) := by
  have hbl := bytesOf_length c
  induction d with
  | zero =>
    intro k i x3 hd hi hk hx
    obtain ⟨k, rfl⟩ : ∃ m, k = m + 1 := ⟨k - 1, by omega⟩
    obtain rfl : i = c.size := by omega
    simp only [tailraceref02_one.l1]
    rw [if_neg (by omega), ← hbl, List.drop_length]
    simp only [Option.bind_some, List.length_cons, List.length_nil]
    rw [if_pos (by omega)]
    simp [escK]
  | succ d ih =>
    intro k i x3 hd hi hk hx
    obtain ⟨k, rfl⟩ : ∃ m, k = m + 1 := ⟨k - 1, by omega⟩
    simp only [tailraceref02_one.l1]
    rw [if_pos (by omega), if_pos (by omega), if_pos (by omega), ← rd_bytesOf, rd_nat, drop_getD (bytesOf c) 0 i (by omega), wrap_succ _ (by omega)]
    simp only [Option.bind_some, escK]
    split
    · rename_i hz
      rw [if_pos (by simp; omega), ih k (i + 1) _ (by omega) (by omega) (by omega) (by simp; omega), hz]
      simp
    · rw [ih k (i + 1) _ (by omega) (by omega) (by omega) (by simp; omega)]
      simp
theorem ref_one_eq (v : S38) (hs : v.f2.size ≤ 1000) (h0 : -9223372036854775808 ≤ v.f1) (h1 : v.f1 ≤ 9223372036854775807) (k : Nat) (hk : 1020 < k) : tailraceref02_one.f k v.f0 v.f1 v.f2 = some (oneK v) := by
  obtain ⟨v0, v1, v2⟩ := v
  simp only at hs h0 h1
  obtain ⟨k, rfl⟩ : ∃ m, k = m + 12 := ⟨k - 12, by omega⟩
  unfold oneK
  simp only
  by_cases e1 : v0 = 1
  · subst e1
    rw [if_pos rfl]; exact one_num k v1 v2 h0 h1
  · rw [if_neg e1]
    unfold tailraceref02_one.f
    rw [if_neg e1]
    simp only [tailraceref02_one.j1]
    split
    · rw [if_pos (by decide)]
      have := one_text v0 v1 v2 hs v2.size (k + 11) 0 ([] ++ [2]) (by omega) (by omega) (by omega) (by simp)
      simpa using this
    · rfl
theorem ref_Row_l0 (x0 : List S38) (h0 : x0.length ≤ 10000) (hs : ∀ v ∈ x0, v.f2.size ≤ 1000 ∧ -9223372036854775808 ≤ v.f1 ∧ v.f1 ≤ 9223372036854775807) (d : Nat) : ∀ (k i : Nat) (x3 : List Int), x0.length - i = d → i ≤ x0.length → d + 1020 < k → x3.length ≤ 3000 * i → tailraceref02_Row.l0 k x0 x3 (i : Int) = some (x3 ++ rowK (x0.drop i)) := by
  induction d with
  | zero =>
    intro k i x3 hd hi hk hx
    obtain ⟨k, rfl⟩ : ∃ m, k = m + 1 := ⟨k - 1, by omega⟩
    obtain rfl : i = x0.length := by omega
    simp only [tailraceref02_Row.l0]
    rw [if_neg (by omega), List.drop_length]
    simp [rowK]
  | succ d ih =>
    intro k i x3 hd hi hk hx
    obtain ⟨k, rfl⟩ : ∃ m, k = m + 1 := ⟨k - 1, by omega⟩
    simp only [tailraceref02_Row.l0]
    have hm : x0.getD i z38 ∈ x0 := by
      rw [List.getD_eq_getElem?_getD, List.getElem?_eq_getElem (by omega)]; simp
    have hv := hs _ hm
    have hl := oneK_len _ 1000 hv.1
    rw [if_pos (by omega), if_pos (by omega), rdV, ref_one_eq _ hv.1 hv.2.1 hv.2.2 k (by omega)]
    simp only [Option.bind_some]
    rw [if_pos (by omega), wrap_succ _ (by omega), ih k (i + 1) _ (by omega) (by omega) (by omega) (by rw [List.length_append]; omega), drop_getD x0 z38 i (by omega)]
    simp [rowK]
theorem ref_Row_eq (x0 : List S38) (h0 : x0.length ≤ 10000) (hs : ∀ v ∈ x0, v.f2.size ≤ 1000 ∧ -9223372036854775808 ≤ v.f1 ∧ v.f1 ≤ 9223372036854775807) (k : Nat) (hk : x0.length + 1020 < k) : tailraceref02_Row.f k x0 = some (rowK x0) := by
  have := ref_Row_l0 x0 h0 hs x0.length k 0 [] (by omega) (by omega) hk (by simp)
  simpa [tailraceref02_Row.f] using this
/-! The reference's next. -/
/-- A value's raw reading. -/
def rawK : List Int → Option (S38 × List Int)
  | [] => none
  | x :: r => if x = 1 then (numK r).map (fun p => (⟨1, p.1, ⟨#[]⟩⟩, p.2)) else if x = 2 then (txtK r).map (fun p => (⟨2, 0, strOfNums p.1⟩, p.2)) else none
theorem valK_raw (b : List Int) : valK b = (rawK b).bind fun p => if value_Check.f p.1.f0 p.1.f1 p.1.f2 = some 0 then some p else none := by
  rcases b with _ | ⟨x, r⟩
  · rfl
  · simp only [valK, rawK]
    by_cases h1 : x = 1
    · rw [if_pos h1, if_pos h1]
      rcases numK r with _ | ⟨n, r2⟩
      · rfl
      · rfl
    · rw [if_neg h1, if_neg h1]
      by_cases h2 : x = 2
      · rw [if_pos h2, if_pos h2]
        rcases txtK r with _ | ⟨n, r2⟩
        · rfl
        · rfl
      · rw [if_neg h2, if_neg h2]; rfl
theorem next_num_step (k : Nat) (x0 : List Int) (x4 : Int) (i : Nat) (hi : i < 9) (hl : 9 ≤ x0.length) (h0 : 0 ≤ x4) (h1 : x4 * 256 + x0.getD i 0 < 18446744073709551616) (hb : 0 ≤ x0.getD i 0) :
    tailraceref02_next.l0 (k + 1) x0 x4 (i : Int) = tailraceref02_next.l0 k x0 (x4 * 256 + x0.getD i 0) ((i + 1 : Nat) : Int) := by
  simp only [tailraceref02_next.l0]
  rw [if_pos (by omega), if_pos (by omega), if_pos (by omega), wrap_succ _ (by omega), rd_nat]
  congr 1
  simp only [IntKind.wrap_u64]
  omega
theorem next_num (k : Nat) (a b c d e f g h : Int) (r : List Int) (hb : Byt [a, b, c, d, e, f, g, h]) : tailraceref02_next.l0 (k + 9) (1 :: a :: b :: c :: d :: e :: f :: g :: h :: r) 0 1 = some (1, numU [a, b, c, d, e, f, g, h] - 9223372036854775808, ⟨#[]⟩, 9) := by
  have ha := hb a (by simp)
  have hbb := hb b (by simp)
  have hc := hb c (by simp)
  have hd := hb d (by simp)
  have he := hb e (by simp)
  have hf := hb f (by simp)
  have hg := hb g (by simp)
  have hh := hb h (by simp)
  generalize hL : (1 :: a :: b :: c :: d :: e :: f :: g :: h :: r) = L
  have hl : 9 ≤ L.length := by rw [← hL]; simp
  have g1 : L.getD 1 0 = a := by rw [← hL]; rfl
  have g2 : L.getD 2 0 = b := by rw [← hL]; rfl
  have g3 : L.getD 3 0 = c := by rw [← hL]; rfl
  have g4 : L.getD 4 0 = d := by rw [← hL]; rfl
  have g5 : L.getD 5 0 = e := by rw [← hL]; rfl
  have g6 : L.getD 6 0 = f := by rw [← hL]; rfl
  have g7 : L.getD 7 0 = g := by rw [← hL]; rfl
  have g8 : L.getD 8 0 = h := by rw [← hL]; rfl
  have s1 := next_num_step (k + 8) L 0 1 (by omega) hl (by omega) (by rw [g1]; omega) (by rw [g1]; omega)
  rw [g1] at s1
  have s2 := next_num_step (k + 7) L (0 * 256 + a) 2 (by omega) hl (by omega) (by rw [g2]; omega) (by rw [g2]; omega)
  rw [g2] at s2
  have s3 := next_num_step (k + 6) L ((0 * 256 + a) * 256 + b) 3 (by omega) hl (by omega) (by rw [g3]; omega) (by rw [g3]; omega)
  rw [g3] at s3
  have s4 := next_num_step (k + 5) L (((0 * 256 + a) * 256 + b) * 256 + c) 4 (by omega) hl (by omega) (by rw [g4]; omega) (by rw [g4]; omega)
  rw [g4] at s4
  have s5 := next_num_step (k + 4) L ((((0 * 256 + a) * 256 + b) * 256 + c) * 256 + d) 5 (by omega) hl (by omega) (by rw [g5]; omega) (by rw [g5]; omega)
  rw [g5] at s5
  have s6 := next_num_step (k + 3) L (((((0 * 256 + a) * 256 + b) * 256 + c) * 256 + d) * 256 + e) 6 (by omega) hl (by omega) (by rw [g6]; omega) (by rw [g6]; omega)
  rw [g6] at s6
  have s7 := next_num_step (k + 2) L ((((((0 * 256 + a) * 256 + b) * 256 + c) * 256 + d) * 256 + e) * 256 + f) 7 (by omega) hl (by omega) (by rw [g7]; omega) (by rw [g7]; omega)
  rw [g7] at s7
  have s8 := next_num_step (k + 1) L (((((((0 * 256 + a) * 256 + b) * 256 + c) * 256 + d) * 256 + e) * 256 + f) * 256 + g) 8 (by omega) hl (by omega) (by rw [g8]; omega) (by rw [g8]; omega)
  rw [g8] at s8
  refine s1.trans (s2.trans (s3.trans (s4.trans (s5.trans (s6.trans (s7.trans (s8.trans ?_)))))))
  simp only [tailraceref02_next.l0]
  rw [if_neg (by omega)]
  congr 2
  simp only [numU, List.foldl_cons, List.foldl_nil, Prod.mk.injEq, and_true]
  rw [IntKind.wrap_u64]
  unfold wrap64
  omega
theorem escK_ge : ∀ s : List Int, s.length ≤ (escK s).length
  | [] => by simp [escK]
  | x :: s => by
    have := escK_ge s
    simp only [escK]
    split <;> simp only [List.length_cons] <;> omega
theorem txt_len2 : ∀ (n : Nat) (b s r : List Int), b.length ≤ n → txtK b = some (s, r) → r.length + s.length + 2 ≤ b.length ∧ r = b.drop (b.length - r.length)
  | n, b, s, r, hn, h => by
    have := esc_txtK b.length b s r (Nat.le_refl _) h
    have h2 : s.length ≤ (escK s).length := escK_ge s
    have h3 : b.length = (escK s).length + (r.length + 2) := by
      conv => lhs; rw [this.1]
      simp only [List.length_append, List.length_cons]
    refine ⟨by omega, ?_⟩
    have h4 : b.length - r.length = (escK s ++ [0, 0]).length := by simp only [List.length_append, List.length_cons, List.length_nil]; omega
    rw [h4]
    conv => rhs; rw [this.1, show escK s ++ (0 :: 0 :: r) = (escK s ++ [0, 0]) ++ r by simp, List.drop_left]
theorem next_text (x0 : List Int) (h0 : x0.length ≤ 1000000000) (n : Nat) : ∀ (k i : Nat) (x6 : List Int), x0.length - i ≤ n → i ≤ x0.length → n < k → x6.length ≤ i →
    tailraceref02_next.l1 k x0 x6 (i : Int) = match txtK (x0.drop i) with | none => some (0, 0, ⟨#[]⟩, 0) | some (s, r) => some (2, 0, strOfNums (x6 ++ s), ((x0.length - r.length : Nat) : Int)) := by
  induction n with
  | zero =>
    intro k i x6 hn hi hk hx
    obtain ⟨k, rfl⟩ : ∃ m, k = m + 1 := ⟨k - 1, by omega⟩
    obtain rfl : i = x0.length := by omega
    simp only [tailraceref02_next.l1]
    rw [if_neg (by omega), List.drop_length]
    rfl
  | succ n ih =>
    intro k i x6 hn hi hk hx
    obtain ⟨k, rfl⟩ : ∃ m, k = m + 1 := ⟨k - 1, by omega⟩
    simp only [tailraceref02_next.l1]
    by_cases hlt : i < x0.length
    case neg =>
      obtain rfl : i = x0.length := by omega
      rw [if_neg (by omega), List.drop_length]
      rfl
    rw [if_pos (by omega), if_pos (by omega), rd_nat, drop_getD x0 0 i hlt]
    by_cases hz : x0.getD i 0 = 0
    · rw [if_pos hz, wrap_succ _ (by omega), hz]
      by_cases hl : i + 1 = x0.length
      · rw [if_pos (by omega), List.drop_eq_nil_of_le (by omega)]
        rfl
      · rw [if_neg (by omega), if_pos (by omega), if_pos (by omega), rd_nat, drop_getD x0 0 (i + 1) (by omega)]
        simp only [txtK, if_true]
        by_cases hy : x0.getD (i + 1) 0 = 0
        · rw [if_pos hy, if_pos hy]
          simp only [List.append_nil, List.length_drop]
          rw [show wrap64 ((i : Int) + 2) = ((x0.length - (x0.length - (i + 1 + 1)) : Nat) : Int) by unfold wrap64; omega]
        · rw [if_neg hy, if_neg hy]
          by_cases h5 : x0.getD (i + 1) 0 = 255
          · rw [if_pos h5, if_pos h5, if_pos (by omega), wrap_succ (i + 1) (by omega), ih k (i + 1 + 1) _ (by omega) (by omega) (by omega) (by simp; omega)]
            rcases txtK (x0.drop (i + 1 + 1)) with _ | ⟨s, r⟩
            · rfl
            · simp
          · rw [if_neg h5, if_neg h5]
    · rw [if_neg hz, if_pos (by omega), wrap_succ _ (by omega), ih k (i + 1) _ (by omega) (by omega) (by omega) (by simp; omega), txtK_ne hz]
      rcases txtK (x0.drop (i + 1)) with _ | ⟨s, r⟩
      · rfl
      · simp
theorem eight_split : ∀ b : List Int, 8 ≤ b.length → ∃ a b2 c d e f g h r, b = a :: b2 :: c :: d :: e :: f :: g :: h :: r
  | a :: b2 :: c :: d :: e :: f :: g :: h :: r, _ => ⟨a, b2, c, d, e, f, g, h, r, rfl⟩
  | [], h => by simp at h
  | [_], h => by simp at h
  | [_, _], h => by simp at h
  | [_, _, _], h => by simp at h
  | [_, _, _, _], h => by simp at h
  | [_, _, _, _, _], h => by simp at h
  | [_, _, _, _, _, _], h => by simp at h
  | [_, _, _, _, _, _, _], h => by simp at h
theorem ref_next_eq (x : Int) (b : List Int) (h0 : b.length ≤ 100000000) (hb : Byt b) (k : Nat) (hk : b.length + 20 < k) :
    tailraceref02_next.f k (x :: b) = match rawK (x :: b) with | none => some (0, 0, ⟨#[]⟩, 0) | some (v, r) => some (v.f0, v.f1, v.f2, (((x :: b).length - r.length : Nat) : Int)) := by
  obtain ⟨k, rfl⟩ : ∃ m, k = m + 12 := ⟨k - 12, by omega⟩
  have hne : ¬ (((x :: b).length : Int) = 0) := by simp only [List.length_cons]; omega
  have hpos : (0 : Int) < ((x :: b).length : Int) := by simp only [List.length_cons]; omega
  have hrd : rd (x :: b) 0 = x := rfl
  have notnum : (x = 1 → b.length < 8) → tailraceref02_next.j0 (k + 12) (x :: b) false = match rawK (x :: b) with | none => some (0, 0, ⟨#[]⟩, 0) | some (v, r) => some (v.f0, v.f1, v.f2, (((x :: b).length - r.length : Nat) : Int)) := by
    intro hx
    simp only [tailraceref02_next.j0]
    rw [if_neg (by decide), if_neg hne, if_pos hpos, hrd]
    simp only [tailraceref02_next.j2, rawK]
    by_cases h2 : x = 2
    · subst h2
      rw [if_neg (by decide), if_neg (by decide), if_pos rfl]
      have := next_text (2 :: b) (by simp only [List.length_cons]; omega) (b.length + 1) (k + 10) 1 [] (by simp only [List.length_cons]; omega) (by simp) (by omega) (by simp)
      refine (show tailraceref02_next.l1 (k + 10) (2 :: b) [] 1 = tailraceref02_next.l1 (k + 10) (2 :: b) [] ((1 : Nat) : Int) from rfl).trans (this.trans ?_)
      simp only [List.drop_succ_cons, List.drop_zero, List.nil_append]
      rcases txtK b with _ | ⟨s, r⟩
      · rfl
      · rfl
    · rw [if_pos (by simp [h2]), if_neg h2]
      by_cases h1 : x = 1
      · rw [if_pos h1]
        have : numK b = none := by unfold numK; rw [if_pos (hx h1)]
        rw [this]; rfl
      · rw [if_neg h1]
  unfold tailraceref02_next.f
  by_cases h9 : ((x :: b).length : Int) ≥ 9
  · rw [if_pos h9, if_pos hpos, hrd]
    by_cases h1 : x = 1
    · subst h1
      rw [show ((1 : Int) == 1) = true from rfl]
      simp only [tailraceref02_next.j0, if_true, rawK]
      have h8 : ¬ b.length < 8 := by simp only [List.length_cons] at h9; omega
      obtain ⟨a, b2, c, d, e, f, g, h, r, rfl⟩ := eight_split b (by omega)
      have := next_num (k + 2) a b2 c d e f g h r (fun y hy => hb y (by
        simp only [List.mem_cons, List.not_mem_nil, or_false] at hy ⊢
        rcases hy with hy | hy | hy | hy | hy | hy | hy | hy <;> simp [hy]))
      refine this.trans ?_
      unfold numK
      rw [if_neg h8]
      simp only [Option.map_some, List.take_succ_cons, List.take_zero, List.drop_succ_cons, List.drop_zero, List.length_cons]
      rw [show ((r.length + 1 + 1 + 1 + 1 + 1 + 1 + 1 + 1 + 1 - r.length : Nat) : Int) = 9 by omega]
    · rw [show (x == 1) = false by simp [h1]]
      exact notnum (fun h => absurd h h1)
  · rw [if_neg h9]
    exact notnum (fun _ => by simp only [List.length_cons] at h9; omega)
/-! The reference's Decode. -/
theorem ref_Check_eq (a b : Int) (s : ByteArray) (k : Nat) (hk : 1 < k) : tailraceref01_Check.f k a b s = value_Check.f a b s := by
  obtain ⟨k, rfl⟩ : ∃ m, k = m + 2 := ⟨k - 2, by omega⟩
  have key : ∀ c : Bool, tailraceref01_Check.j0 (k + 2) c a b s = some (if c = true ∨ (a = 2 ∧ b = 0 ∧ s.size ≤ 40) then 0 else 10) := by
    intro c
    simp only [tailraceref01_Check.j0, tailraceref01_Check.j1]
    cases c
    · by_cases h4 : a = 2
      · by_cases h5 : b = 0
        · by_cases h6 : s.size ≤ 40
          · have : (s.size : Int) ≤ 40 := by omega
            simp [h4, h5, h6, this]
          · have : ¬ (s.size : Int) ≤ 40 := by omega
            simp [h4, h5, h6, this]
        · simp [h4, h5]
      · simp [h4]
    · simp
  unfold tailraceref01_Check.f value_Check.f
  simp only [key]
  by_cases h0 : a = 1
  · by_cases h1 : b ≥ -2147483647
    · by_cases h2 : b ≤ 2147483647
      · rw [if_pos h0, if_pos h1, if_pos h2]
        congr 1
        have e : ((s.toList == ([] : List UInt8)) = true) ↔ s.toList = [] := beq_iff_eq
        have h1' : -2147483647 ≤ b := h1
        simp only [e, h0, h1', h2, and_true, true_and]
      · rw [if_pos h0, if_pos h1, if_neg h2]; simp [h0, h2]
    · rw [if_pos h0, if_neg h1]
      have h1' : ¬ -2147483647 ≤ b := h1
      simp [h0, h1']
  · rw [if_neg h0]; simp [h0]
theorem rawK_drop {b : List Int} {v : S38} {r : List Int} (h : rawK b = some (v, r)) : r.length < b.length ∧ r = b.drop (b.length - r.length) := by
  rcases b with _ | ⟨x, b⟩
  · simp [rawK] at h
  · simp only [rawK] at h
    split at h
    · obtain ⟨⟨n, r2⟩, h1, h2⟩ := Option.map_eq_some_iff.1 h
      simp only [Prod.mk.injEq] at h2
      obtain ⟨_, rfl⟩ := h2
      unfold numK at h1
      split at h1
      · cases h1
      · rename_i hl
        cases h1
        simp only [List.length_drop, List.length_cons]
        refine ⟨by omega, ?_⟩
        rw [show b.length + 1 - (b.length - 8) = 8 + 1 by omega, List.drop_succ_cons]
    · split at h
      · obtain ⟨⟨s, r2⟩, h1, h2⟩ := Option.map_eq_some_iff.1 h
        simp only [Prod.mk.injEq] at h2
        obtain ⟨_, rfl⟩ := h2
        have := txt_len2 b.length b s r2 (Nat.le_refl _) h1
        simp only [List.length_cons]
        refine ⟨by omega, ?_⟩
        rw [show b.length + 1 - r2.length = (b.length - r2.length) + 1 by omega, List.drop_succ_cons]
        exact this.2
      · cases h
theorem ref_Decode_l0 (n : Nat) : ∀ (b : List Int) (k : Nat) (acc : List S38), b.length ≤ n → n ≤ 100000000 → Byt b → 2 * n + 30 < k → acc.length + b.length ≤ 100000000 →
    tailraceref02_Decode.l0 k b acc = some (match decR b with | none => ([], 20) | some l => (acc ++ l, 0)) := by
  induction n with
  | zero =>
    intro b k acc hn _ _ hk _
    obtain ⟨k, rfl⟩ : ∃ m, k = m + 1 := ⟨k - 1, by omega⟩
    obtain rfl : b = [] := List.eq_nil_of_length_eq_zero (by omega)
    simp only [tailraceref02_Decode.l0]
    rw [if_neg (by simp), decR_nil]; simp
  | succ n ih =>
    intro b k acc hn hM hb hk ha
    obtain ⟨k, rfl⟩ : ∃ m, k = m + 2 := ⟨k - 2, by omega⟩
    simp only [tailraceref02_Decode.l0]
    rcases b with _ | ⟨x, b⟩
    · rw [if_neg (by simp), decR_nil]; simp
    have hb' : Byt b := fun y hy => hb y (by simp [hy])
    simp only [List.length_cons] at hn ha
    rw [if_pos (by simp only [List.length_cons]; omega), ref_next_eq x b (by omega) hb' (k + 1) (by omega)]
    rcases hq : rawK (x :: b) with _ | ⟨v, r⟩
    · have hv : valK (x :: b) = none := by rw [valK_raw, hq]; rfl
      rw [decR_none (by simp) hv]
      simp only [Option.bind_some, if_true, tailraceref02_Decode.j1]
    · have hd := rawK_drop hq
      have hl2 : ((x :: b).length - r.length : Nat) ≠ 0 := by omega
      simp only [Option.bind_some]
      rw [if_neg (by omega), ref_Check_eq _ _ _ _ (by omega)]
      rcases check_cases v.f0 v.f1 v.f2 with hc | hc
      · have hv : valK (x :: b) = some (v, r) := by rw [valK_raw, hq]; simp [hc]
        have hvl := valK_len hv
        rw [hc, decR_some hv]
        simp only [Option.bind_some, tailraceref02_Decode.j1]
        have e0 : ((0 : Int) != 0) = false := rfl
        rw [e0, if_neg (by decide), if_pos (by omega), if_pos (by omega), if_pos (by omega)]
        simp only [Int.toNat_natCast]
        rw [← hd.2, ih r k _ (by simp only [List.length_cons] at hvl; omega) (by omega) (fun y hy => hb y (hvl.2 y hy)) (by omega) (by simp only [List.length_append, List.length_cons, List.length_nil] at hvl ⊢; omega)]
        rcases decR r with _ | l
        · rfl
        · simp
      · have hv : valK (x :: b) = none := by rw [valK_raw, hq]; simp [hc]
        rw [hc, decR_none (by simp) hv]
        simp only [Option.bind_some, tailraceref02_Decode.j1]
        rfl
theorem ref_Decode_eq (b : List Int) (h0 : b.length ≤ 10000) (hb : Byt b) (k : Nat) (hk : 20030 < k) : tailraceref02_Decode.f k b = some (match decR b with | none => ([], 20) | some l => (l, 0)) := by
  have := ref_Decode_l0 b.length b k [] (Nat.le_refl _) (by omega) hb (by omega) (by simp; omega)
  simpa [tailraceref02_Decode.f] using this
theorem Decode_eq (b : List Int) (h0 : b.length ≤ 1000000) (hb : Byt b) : keys_Decode.f b = some (match decR b with | none => ([], 20) | some l => (l, 0)) := by
  unfold keys_Decode.f
  rw [if_pos ⟨by omega, hb⟩]
  rcases decR b with _ | l <;> rfl
theorem Row_eq (l : List S38) (h0 : l.length ≤ 10000) (hs : ∀ v ∈ l, v.f2.size ≤ 1000 ∧ -9223372036854775808 ≤ v.f1 ∧ v.f1 ≤ 9223372036854775807) : keys_Row.f l = some (rowK l) := by
  unfold keys_Row.f
  rw [if_pos ⟨h0, hs⟩]
theorem Same_eq (a b : List Int) (ha : Byt a) (hb : Byt b) : tailraceref02_Same.f a b = some (decide (a = b)) := by
  unfold tailraceref02_Same.f
  congr 1
  rw [Bool.eq_iff_iff, beq_iff_eq, decide_eq_true_eq]
  exact ⟨fun h => strOfNums_inj ha hb h, fun h => by rw [h]⟩
/-! Next. -/
theorem nxt_some_len : ∀ {b n : List Int}, nxt b = some n → n.length ≤ b.length
  | [], _, h => by simp [nxt] at h
  | x :: r, n, h => by
    simp only [nxt] at h
    split at h
    · rename_i m hm
      cases h
      have := nxt_some_len hm
      simp only [List.length_cons]; omega
    · split at h
      · cases h
      · cases h; simp
theorem nxt_byt : ∀ {b n : List Int}, Byt b → nxt b = some n → Byt n
  | [], _, _, h => by simp [nxt] at h
  | x :: r, n, hb, h => by
    have hx := hb x (by simp)
    simp only [nxt] at h
    split at h
    · rename_i m hm
      cases h
      have := nxt_byt (fun y hy => hb y (by simp [hy])) hm
      intro y hy
      rcases List.mem_cons.1 hy with rfl | hy
      · exact hx
      · exact this y hy
    · split at h
      · cases h
      · cases h
        intro y hy
        simp only [List.mem_cons, List.not_mem_nil, or_false] at hy
        omega
theorem Next_l0 (x0 : List Int) (h0 : x0.length ≤ 10000) (hb : Byt x0) (n : Nat) : ∀ (k : Nat), n ≤ x0.length → 2 * n + 2 < k → keys_Next.l0 k x0 (n : Int) = some (match nxt (x0.take n) with | none => ([], false) | some m => (m, true)) := by
  induction n with
  | zero =>
    intro k _ hk
    obtain ⟨k, rfl⟩ : ∃ m, k = m + 2 := ⟨k - 2, by omega⟩
    simp only [keys_Next.l0, keys_Next.j1]
    rw [if_neg (by omega), if_neg (by decide), if_pos (by omega)]
    rfl
  | succ n ih =>
    intro k hn hk
    obtain ⟨k, rfl⟩ : ∃ m, k = m + 2 := ⟨k - 2, by omega⟩
    have hw : wrap64 (((n + 1 : Nat) : Int) - 1) = (n : Int) := by unfold wrap64; omega
    simp only [keys_Next.l0, keys_Next.j1, hw]
    rw [if_pos (by omega), if_pos (by omega), if_pos (by omega), rd_nat, nxt_take x0 n (by omega)]
    have hm : x0.getD n 0 ∈ x0 := by
      rw [List.getD_eq_getElem?_getD, List.getElem?_eq_getElem (by omega)]; simp
    have hB := hb _ hm
    by_cases h5 : x0.getD n 0 = 255
    · rw [if_pos (by rw [h5]; rfl), if_pos h5]
      exact ih k (by omega) (by omega)
    · rw [if_neg (by simp [← List.getD_eq_getElem?_getD, h5]), if_neg (by omega), if_pos (by omega), if_pos (by omega), if_neg h5]
      simp only [Int.toNat_natCast]
      unfold bytes_Clone.f
      have hl : (x0.take (n + 1)).length = n + 1 := by rw [List.length_take]; omega
      rw [if_pos (by omega)]
      simp only [Option.bind_some, hl, hw]
      rw [if_pos (by omega), if_pos (by omega)]
      simp only [Int.toNat_natCast, rd_nat]
      congr 2
      have e1 : (x0.take (n + 1)).getD n 0 = x0.getD n 0 := by
        simp [List.getD_eq_getElem?_getD, List.getElem?_take]
      rw [e1, Int.emod_eq_of_lt (by omega) (by omega)]
      rw [show x0.take (n + 1) = x0.take n ++ [x0.getD n 0] by
        rw [List.take_add_one, List.getD_eq_getElem?_getD, List.getElem?_eq_getElem (by omega)]; rfl]
      rw [List.set_append_right _ _ (by rw [List.length_take]; omega)]
      rw [show n - (x0.take n).length = 0 by rw [List.length_take]; omega]
      rfl
theorem Next_eq (x0 : List Int) (h0 : x0.length ≤ 10000) (hb : Byt x0) (k : Nat) (hk : 2 * x0.length + 2 < k) : keys_Next.f k x0 = some (match nxt x0 with | none => ([], false) | some m => (m, true)) := by
  have := Next_l0 x0 h0 hb x0.length k (Nat.le_refl _) hk
  rw [List.take_length] at this
  exact this
theorem Cmp_eq (a b : List Int) (ha : Byt a) (hb : Byt b) : keys_Cmp.f a b = some (cmpL cmpI a b) := by
  unfold keys_Cmp.f bytes_Compare.f
  rw [compare_nums a b ha hb]; rfl
theorem ref_Cmp02_eq (a b : List Int) (ha : Byt a) (hb : Byt b) : tailraceref02_Cmp.f a b = some (cmpL cmpI a b) := by
  unfold tailraceref02_Cmp.f
  rw [cmpB_strs a b ha hb]
theorem ref_Next_eq (x0 : List Int) (h0 : x0.length ≤ 10000) (hb : Byt x0) : tailraceref02_Next.f x0 = some (match nxt x0 with | none => ([], false) | some m => (m, true)) := by
  unfold tailraceref02_Next.f
  rw [if_pos ⟨by omega, hb⟩]
  rcases nxt x0 with _ | l <;> rfl
/-! The order of rows. -/
theorem cm_value : Cm cmpV := Cm.lex (cm_int.comap (fun x : S38 => x.f0)) (Cm.lex (cm_int.comap (fun x : S38 => x.f1)) (cm_bytes.comap (fun x : S38 => x.f2.toList)))
abbrev cmpR : List S38 → List S38 → Int := cmpL cmpV
theorem cm_row : Cm cmpR := cm_list cm_value
theorem cmpV_zero {a b : S38} : cmpV a b = 0 ↔ a = b := by
  constructor
  · intro h
    unfold cmpV at h
    by_cases h0 : cmpI a.f0 b.f0 = 0
    · rw [if_pos h0] at h
      by_cases h1 : cmpI a.f1 b.f1 = 0
      · rw [if_pos h1] at h
        have e0 := cmpI_zero.1 h0
        have e1 := cmpI_zero.1 h1
        have e2 := toList_inj (cmpB_zero.1 h)
        cases a; cases b
        simp_all
      · rw [if_neg h1] at h; exact absurd h h1
    · rw [if_neg h0] at h; exact absurd h h0
  · rintro rfl; exact cm_value.self a
theorem cmpR_zero : ∀ {a b : List S38}, cmpR a b = 0 ↔ a = b
  | [], [] => by simp [cmpL]
  | [], _ :: _ => by simp [cmpL]
  | _ :: _, [] => by simp [cmpL]
  | a :: x, b :: y => by
    have ih := @cmpR_zero x y
    simp only [cmpL, List.cons.injEq]
    by_cases h : cmpV a b = 0
    · rw [if_pos h, ih]; simp [cmpV_zero.1 h]
    · rw [if_neg h]; exact ⟨fun z => absurd z h, fun z => absurd (cmpV_zero.2 z.1) h⟩
theorem ref_Cmp_eq (a b : S38) (k : Nat) (hk : 0 < k) : tailraceref01_Cmp.f k a.f0 a.f1 a.f2 b.f0 b.f1 b.f2 = some (cmpV a b) := by
  obtain ⟨k, rfl⟩ : ∃ m, k = m + 1 := ⟨k - 1, by omega⟩
  unfold tailraceref01_Cmp.f cmpV
  simp only [tailraceref01_Cmp.j0, cmpI]
  by_cases h0 : a.f0 < b.f0
  · simp [h0]
  · by_cases h1 : a.f0 = b.f0
    · by_cases h2 : a.f1 < b.f1
      · simp [h1, h2]
      · by_cases h3 : a.f1 = b.f1
        · rcases bl_tri a.f2.toList b.f2.toList with h | h | h
          · simp [h1, h3, h, cmpB_self, bl_irrefl]
          · simp [h1, h3, h, cmpB_lt h]
          · have e : ¬ a.f2.toList = b.f2.toList := by intro e; rw [e, bl_irrefl] at h; cases h
            simp [h1, h3, cmpB_gt h, bl_asymm h, e]
        · have h4 : b.f1 < a.f1 := by omega
          simp [h1, h2, h3, h4]
    · have h4 : b.f0 < a.f0 := by omega
      simp [h0, h1, h4]
theorem refCmpRow_l0 (x0 x1 : List S38) (h0 : x0.length ≤ maxLen) (d : Nat) : ∀ (k i : Nat), x0.length - i = d → i ≤ x0.length → i ≤ x1.length → 2 * d + 2 < k → tailraceref01_CmpRow.l0 k x0 x1 (i : Int) = some (cmpR (x0.drop i) (x1.drop i)) := by
  rw [maxLen_eq] at h0
  induction d with
  | zero =>
    intro k i hd hi hi1 hk
    obtain ⟨k, rfl⟩ : ∃ m, k = m + 2 := ⟨k - 2, by omega⟩
    obtain rfl : i = x0.length := by omega
    simp only [tailraceref01_CmpRow.l0]
    rw [if_neg (by omega)]
    simp only [tailraceref01_CmpRow.j1]
    rw [if_neg (by simp), List.drop_length]
    rcases Nat.lt_or_ge x0.length x1.length with h | h
    · rw [drop_getD x1 z38 _ h, if_pos (by omega)]; simp [cmpL]
    · rw [List.drop_eq_nil_of_le h, if_neg (by omega), if_neg (by omega)]; simp [cmpL]
  | succ d ih =>
    intro k i hd hi hi1 hk
    obtain ⟨k, rfl⟩ : ∃ m, k = m + 2 := ⟨k - 2, by omega⟩
    simp only [tailraceref01_CmpRow.l0]
    rw [if_pos (by omega)]
    simp only [tailraceref01_CmpRow.j1]
    rcases Nat.lt_or_ge i x1.length with h | h
    · rw [if_pos (decide_eq_true (by omega)), if_pos (by omega), if_pos (by omega), if_pos (by omega), rdV, rdV, ref_Cmp_eq _ _ _ (by omega)]
      simp only [Option.bind_some]
      rw [drop_getD x0 z38 _ (by omega), drop_getD x1 z38 _ h]
      simp only [cmpL]
      split
      · rw [wrap_succ _ (by omega)]; exact ih k (i + 1) (by omega) (by omega) (by omega) (by omega)
      · rfl
    · rw [if_neg (by simp; omega), if_neg (by omega), if_pos (by omega), drop_getD x0 z38 _ (by omega), List.drop_eq_nil_of_le (by omega : x1.length ≤ i)]
      simp only [cmpL]
theorem ref_CmpRow_eq (x0 x1 : List S38) (h0 : x0.length ≤ maxLen) (k : Nat) (hk : 2 * x0.length + 2 < k) : tailraceref01_CmpRow.f k x0 x1 = some (cmpR x0 x1) := by
  have := refCmpRow_l0 x0 x1 h0 x0.length k 0 (by omega) (by omega) (by omega) hk
  simpa [tailraceref01_CmpRow.f] using this
theorem ref_Same_eq (x0 x1 : List S38) (h0 : x0.length ≤ maxLen) (k : Nat) (hk : 2 * x0.length + 2 < k) : tailraceref01_Same.f k x0 x1 = some (cmpR x0 x1 == 0) := by
  unfold tailraceref01_Same.f
  rw [ref_CmpRow_eq x0 x1 h0 k hk]; rfl
theorem same_self (a : List S38) (ha : a.length ≤ 100000) (k : Nat) (hk : 200010 < k) : tailraceref01_Same.f k a a = some true := by
  rw [ref_Same_eq a a (by rw [maxLen_eq]; omega) k (by omega), cmpR_zero.2 rfl]
  rfl
theorem same_some (a b : List S38) (ha : a.length ≤ 100000) (k : Nat) (hk : 200010 < k) : ∃ c, tailraceref01_Same.f k a b = some c := ⟨_, ref_Same_eq a b (by rw [maxLen_eq]; omega) k (by omega)⟩
theorem ok_ints {l : List S38} (h : ∀ v ∈ l, Ok v) : ∀ v ∈ l, v.f2.size ≤ 1000 ∧ -9223372036854775808 ≤ v.f1 ∧ v.f1 ≤ 9223372036854775807 := fun v hv => by
  rcases h v hv with ⟨_, h1, h2, h3⟩ | ⟨_, h1, h2⟩
  · rw [h1]
    exact ⟨by decide, by omega, by omega⟩
  · omega
end Go.Proofs.Ytniihilegljgmaa.P
