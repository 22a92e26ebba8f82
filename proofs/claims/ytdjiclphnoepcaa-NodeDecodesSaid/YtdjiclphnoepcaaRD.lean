/- What the document's Decode computes is what node.Decode computes. -/
import Derived.Test.YtdjiclphnoepcaaRS
import Derived.Test.YtdjiclphnoepcaaRT
import Derived.Test.YtdjiclphnoepcaaPx8
set_option linter.unusedVariables false
set_option linter.unusedSimpArgs false
namespace Go.Proofs.Ytdjiclphnoepcaa.P
open Go.RowKit Go.Proofs.YtdjiclphnoepcaaW.PrintWords Go.Proofs.YtdjiclphnoepcaaW.PrintLast Go.Proofs.YtdjiclphnoepcaaW.PrintMore Go.Proofs.YtdjiclphnoepcaaOwn
theorem takeS_short {n : Nat} {b : List Int} (h : b.length < n) : takeS n false b = (List.replicate n 0, true, b) := by unfold takeS; rw [if_pos (by simp [h])]
theorem takeS_true (n : Nat) (b : List Int) : takeS n true b = (List.replicate n 0, true, b) := by unfold takeS; rw [if_pos (by simp)]
theorem txS_true (b : List Int) : (txS true b).2.1 = true := by unfold txS nuS; simp only [takeS_true]
theorem txS_cut (b : List Int) (hb : Byt b) : (match cutS b with | none => (txS false b).2.1 = true | some (s, r) => txS false b = (s, false, r)) := by
  cases b with
  | nil => simp only [cutS]; unfold txS nuS; rw [takeS_short (by simp)]; simp only [takeS_true]
  | cons x b =>
    have hx := hb x (by simp)
    simp only [cutS]
    by_cases h : (b.length : Int) < x
    · rw [if_pos h]
      simp only
      unfold txS
      rw [nuS_one]
      simp only
      rw [takeS_short (by omega)]
    · rw [if_neg h]
      simp only
      unfold txS
      rw [nuS_one]
      simp only
      have e : takeS x.toNat false b = (b.take x.toNat, false, b.drop x.toNat) := by unfold takeS; rw [if_neg (by simp; omega)]
      rw [e]
theorem nuS_true (n : Nat) (b : List Int) : (nuS n true b).2.1 = true := by unfold nuS; simp only [takeS_true]
theorem nuS_kid (b : List Int) : (match kidP b with | none => (nuS 4 false b).2.1 = true | some (k, r) => nuS 4 false b = (k, false, r)) := by
  unfold kidP
  by_cases h : b.length < 4
  · rw [if_pos h]; simp only; unfold nuS; rw [takeS_short h]
  · rw [if_neg h]
    simp only
    unfold nuS
    have e : takeS 4 false b = (b.take 4, false, b.drop 4) := by unfold takeS; rw [if_neg (by simp; omega)]
    rw [e]
theorem itS_true (leaf : Bool) (n : Nat) (b : List Int) (K V : List ByteArray) (I : List Int) : (itS leaf n ⟨true, b, K, V, I⟩).sh = true := by rw [itS_sh _ _ _ rfl]
theorem cutS_in {b : List Int} (hb : Byt b) {s : ByteArray} {r : List Int} (h : cutS b = some (s, r)) : Byt r := by
  cases b with
  | nil => simp [cutS] at h
  | cons x b =>
    simp only [cutS] at h
    split at h
    · cases h
    · cases h; exact fun y hy => hb y (by simp [List.mem_of_mem_drop hy])
theorem kidP_in {b : List Int} (hb : Byt b) {s : Int} {r : List Int} (h : kidP b = some (s, r)) : Byt r := by
  unfold kidP at h
  split at h
  · cases h
  · cases h; exact fun y hy => hb y (List.mem_of_mem_drop hy)
theorem itS_step (leaf : Bool) (n : Nat) (b : List Int) (K V : List ByteArray) (I : List Int) : itS leaf (n + 1) ⟨false, b, K, V, I⟩ = itS leaf n (stepS leaf ⟨false, b, K, V, I⟩) := by rw [itS, if_neg (by simp)]
theorem prS_no {leaf : Bool} {n : Nat} {p q : PS} (h : roundS leaf p = (false, q)) : prS leaf (n + 1) p = (false, q) := by rw [prS, h, if_neg (by simp)]
theorem prS_yes {leaf : Bool} {n : Nat} {p q : PS} (h : roundS leaf p = (true, q)) : prS leaf (n + 1) p = prS leaf n q := by rw [prS, h, if_pos rfl]
theorem prS_itS (leaf : Bool) : ∀ (n : Nat) (b : List Int) (K V : List ByteArray) (I : List Int), Byt b →
    if (prS leaf n ⟨b, K, V, I⟩).1 = true then itS leaf n ⟨false, b, K, V, I⟩ = ⟨false, (prS leaf n ⟨b, K, V, I⟩).2.b, (prS leaf n ⟨b, K, V, I⟩).2.keys, (prS leaf n ⟨b, K, V, I⟩).2.vals, (prS leaf n ⟨b, K, V, I⟩).2.kids⟩
    else (itS leaf n ⟨false, b, K, V, I⟩).sh = true
  | 0, b, K, V, I, hb => by simp [prS, itS]
  | n + 1, b, K, V, I, hb => by
    have hc := txS_cut b hb
    rw [itS_step]
    rcases hcu : cutS b with _ | ⟨s, r⟩
    · have hR : roundS leaf ⟨b, K, V, I⟩ = (false, ⟨b, K, V, I⟩) := by simp only [roundS]; rw [hcu]
      rw [hcu] at hc
      simp only at hc
      rw [prS_no hR, if_neg (by simp)]
      cases leaf
      · simp only [stepS, keyS, kidS, Bool.false_eq_true, if_false, hc, nuS_true]
        exact itS_true _ _ _ _ _ _
      · simp only [stepS, keyS, valS, if_true, hc, txS_true]
        exact itS_true _ _ _ _ _ _
    · rw [hcu] at hc
      simp only at hc
      have hr := cutS_in hb hcu
      cases leaf
      · have hk := nuS_kid r
        rcases hcv : kidP r with _ | ⟨v, r2⟩
        · have hR : roundS false ⟨b, K, V, I⟩ = (false, ⟨b, K ++ [s], V, I⟩) := by simp only [roundS]; rw [hcu]; simp only [entS]; rw [hcv]; rfl
          rw [hcv] at hk
          simp only at hk
          rw [prS_no hR, if_neg (by simp)]
          simp only [stepS, keyS, kidS, Bool.false_eq_true, if_false, hc, hk]
          exact itS_true _ _ _ _ _ _
        · have hR : roundS false ⟨b, K, V, I⟩ = (true, ⟨r2, K ++ [s], V, I ++ [v]⟩) := by simp only [roundS]; rw [hcu]; simp only [entS]; rw [hcv]; rfl
          rw [hcv] at hk
          simp only at hk
          rw [prS_yes hR]
          simp only [stepS, keyS, kidS, Bool.false_eq_true, if_false, hc, hk]
          exact prS_itS false n r2 _ _ _ (kidP_in hr hcv)
      · have hk := txS_cut r hr
        rcases hcv : cutS r with _ | ⟨v, r2⟩
        · have hR : roundS true ⟨b, K, V, I⟩ = (false, ⟨b, K ++ [s], V, I⟩) := by simp only [roundS]; rw [hcu]; simp only [entS]; rw [hcv]; rfl
          rw [hcv] at hk
          simp only at hk
          rw [prS_no hR, if_neg (by simp)]
          simp only [stepS, keyS, valS, if_true, hc, hk]
          exact itS_true _ _ _ _ _ _
        · have hR : roundS true ⟨b, K, V, I⟩ = (true, ⟨r2, K ++ [s], V ++ [v], I⟩) := by simp only [roundS]; rw [hcu]; simp only [entS]; rw [hcv]; rfl
          rw [hcv] at hk
          simp only at hk
          rw [prS_yes hR]
          simp only [stepS, keyS, valS, if_true, hc, hk]
          exact prS_itS true n r2 _ _ _ (cutS_in hr hcv)
theorem parS_runS (leaf : Bool) (b : List Int) (hb : Byt b) :
    if (parS leaf b).1 = true then runS leaf b = ⟨false, (parS leaf b).2.b, (parS leaf b).2.keys, (parS leaf b).2.vals, (parS leaf b).2.kids⟩
    else (runS leaf b).sh = true := by
  unfold parS runS
  by_cases h : b.length < 2
  · rw [if_pos h, if_neg (by simp)]
    have e : nuS 2 false b = (0, true, b) := by unfold nuS; rw [takeS_short h]; rfl
    rw [e]
    cases leaf
    · simp only [Bool.false_eq_true, if_false, kidS]; rw [nuS_true]; exact itS_true _ _ _ _ _ _
    · simp only [if_true]; exact itS_true _ _ _ _ _ _
  · rw [if_neg h]
    obtain ⟨x, y, t, rfl⟩ : ∃ x y t, b = x :: y :: t := by
      match b, h with
      | x :: y :: t, _ => exact ⟨x, y, t, rfl⟩
      | [_], h => simp at h
      | [], h => simp at h
    have ht : Byt t := fun z hz => hb z (by simp [hz])
    have e := nuS_two x y t
    rw [e]
    have e1 : rd (x :: y :: t) 0 * 256 + rd (x :: y :: t) 1 = x * 256 + y := by simp [rd]
    rw [e1]
    simp only [List.drop_succ_cons, List.drop_zero]
    cases leaf
    · have hk := nuS_kid t
      simp only [Bool.false_eq_true, if_false, kidS]
      rcases hkk : kidP t with _ | ⟨k, r⟩
      · rw [hkk] at hk
        simp only at hk ⊢
        rw [if_neg (by simp), hk]; exact itS_true _ _ _ _ _ _
      · rw [hkk] at hk
        simp only at hk ⊢
        rw [hk]
        exact prS_itS false _ r _ _ _ (kidP_in ht hkk)
    · simp only [if_true]
      exact prS_itS true _ t _ _ _ ht
theorem prS_lens (leaf : Bool) : ∀ (n : Nat) (p : PS), (prS leaf n p).2.keys.length ≤ p.keys.length + n ∧ (prS leaf n p).2.vals.length ≤ p.vals.length + n ∧ (prS leaf n p).2.kids.length ≤ p.kids.length + n
  | 0, p => by simp [prS]
  | n + 1, p => by
    have h1 : (roundS leaf p).2.keys.length ≤ p.keys.length + 1 ∧ (roundS leaf p).2.vals.length ≤ p.vals.length + 1 ∧ (roundS leaf p).2.kids.length ≤ p.kids.length + 1 := by
      unfold roundS
      split
      · simp only; omega
      · unfold entS
        split <;> split <;> simp
    rw [prS]
    split
    · have := prS_lens leaf n (roundS leaf p).2
      omega
    · simp only; omega
theorem parS_lens (leaf : Bool) (b : List Int) (hb : Byt b) : (parS leaf b).2.keys.length ≤ 65536 ∧ (parS leaf b).2.vals.length ≤ 65536 ∧ (parS leaf b).2.kids.length ≤ 65537 := by
  unfold parS
  split
  · simp
  · have hB : ∀ j : Nat, 0 ≤ rd b j ∧ rd b j ≤ 255 := fun j => by
      rw [rd_nat, List.getD_eq_getElem?_getD]
      rcases Nat.lt_or_ge j b.length with hj | hj
      · rw [List.getElem?_eq_getElem hj]; exact hb _ (List.getElem_mem hj)
      · rw [List.getElem?_eq_none hj]; simp
    have b0 := hB 0
    have b1 := hB 1
    have hn : (rd b 0 * 256 + rd b 1).toNat ≤ 65535 := by simp only [Int.ofNat_zero, Int.ofNat_one, Int.cast_ofNat_Int] at b0 b1; omega
    split
    · have := prS_lens leaf (rd b 0 * 256 + rd b 1).toNat ⟨b.drop 2, [], [], []⟩
      simp only [List.length_nil] at this
      omega
    · split
      · simp
      · rename_i k r _
        have := prS_lens leaf (rd b 0 * 256 + rd b 1).toNat ⟨r, [], [], [k]⟩
        simp only [List.length_nil, List.length_singleton] at this
        omega
theorem rDec_eq (a : Int) (b : List Int) (hb : Byt b) (k : Nat) (hk : 600000 ≤ k) : tailraceref10_Decode.f k a b = some (decF a b) := by
  obtain ⟨k, rfl⟩ : ∃ m, k = m + 1 + 1 := ⟨k - 2, by omega⟩
  have bad : ∀ x, x = true → tailraceref10_Decode.j0 (k + 1 + 1) a b x = some (false, [], [], [], 100) := fun x hx => by simp only [tailraceref10_Decode.j0]; rw [if_pos hx]
  have main : (a = 2 ∨ a = 3) → b.length ≤ 1000 → tailraceref10_Decode.j0 (k + 1 + 1) a b false = some (resS (decide (a = 2)) (runS (decide (a = 2)) b)) := by
    intro ha hl
    simp only [tailraceref10_Decode.j0]
    have e0 : (a == 2) = decide (a = 2) := by rw [Bool.eq_iff_iff]; simp
    have e1 : tailraceref10_parse.f (decide (a = 2)) b = some (parR (decide (a = 2)) b) := by unfold tailraceref10_parse.f; exact if_pos hb
    rw [if_neg (by simp), e0, e1]
    generalize decide (a = 2) = leaf
    have h1 := parS_runS leaf b hb
    obtain ⟨l1, l2, l3⟩ := parS_lens leaf b hb
    simp only [Option.bind_some, parR]
    by_cases hp : (parS leaf b).1 = true
    · rw [if_pos hp] at h1
      by_cases hz : (parS leaf b).2.b.length = 0
      · rw [if_pos (by simp [hp, hz])]
        rw [rChk_eq leaf _ _ _ (by omega) (by omega) (by omega) (k + 1) (by omega)]
        simp only [Option.bind_some, tailraceref10_Decode.j1]
        have hz2 : (parS leaf b).2.b = [] := List.eq_nil_of_length_eq_zero hz
        rw [h1]
        unfold resS
        by_cases hc : chk leaf (parS leaf b).2.keys (parS leaf b).2.vals (parS leaf b).2.kids = true
        · rw [if_pos hc, if_neg (by decide), if_pos ⟨rfl, hz2, hc⟩]
        · rw [if_neg hc, if_pos (by decide), if_neg (fun h => hc h.2.2)]
      · rw [if_neg (by simp [hz])]
        simp only [tailraceref10_Decode.j1, if_true]
        rw [h1]
        unfold resS
        rw [if_neg (fun h => hz (by have h2 := h.2.1; simp only at h2; rw [h2]; rfl))]
    · rw [if_neg hp] at h1
      rw [if_neg (by simp [hp])]
      simp only [tailraceref10_Decode.j1, if_true]
      unfold resS
      rw [if_neg (by rw [h1]; simp)]
  unfold tailraceref10_Decode.f
  by_cases hl : b.length ≤ 1000
  · have hd : decide ((b.length : Int) > 1000) = false := by simp; omega
    by_cases h2 : a = 2
    · rw [if_pos h2, hd, main (.inl h2) hl]; unfold decF; rw [if_pos ⟨.inl h2, hl⟩]
    · rw [if_neg h2]
      by_cases h3 : a = 3
      · rw [if_pos h3, hd, main (.inr h3) hl]; unfold decF; rw [if_pos ⟨.inr h3, hl⟩]
      · rw [if_neg h3, bad true rfl]; unfold decF; rw [if_neg (fun h => h.1.elim h2 h3)]
  · have hd : decide ((b.length : Int) > 1000) = true := by simp; omega
    have hF : decF a b = (false, [], [], [], 100) := by unfold decF; rw [if_neg (fun h => hl h.2)]
    rw [hd, hF]
    split
    · exact bad true rfl
    · split
      · exact bad true rfl
      · exact bad true rfl
theorem runS_lens {leaf : Bool} {b : List Int} (hb : Byt b) (h : (runS leaf b).sh = false) : (runS leaf b).keys.length ≤ 65536 ∧ (runS leaf b).vals.length ≤ 65536 ∧ (runS leaf b).kids.length ≤ 65537 := by
  have h1 := parS_runS leaf b hb
  have h2 := parS_lens leaf b hb
  by_cases hp : (parS leaf b).1 = true
  · rw [if_pos hp] at h1; rw [h1]; exact h2
  · rw [if_neg hp, h] at h1; cases h1
theorem decF_lens (a : Int) (b : List Int) (hb : Byt b) : (decF a b).2.1.length ≤ 65536 ∧ (decF a b).2.2.1.length ≤ 65536 ∧ (decF a b).2.2.2.1.length ≤ 65537 := by
  unfold decF resS
  split
  · split
    · rename_i h; exact runS_lens hb h.1
    · simp
  · simp
end Go.Proofs.Ytdjiclphnoepcaa.P
