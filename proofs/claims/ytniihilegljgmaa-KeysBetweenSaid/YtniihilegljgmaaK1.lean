/- Plain laws of rows' bytes: no program in sight. -/
import Derived.Test.YtniihilegljgmaaHandD
import Derived.Test.YtniihilegljgmaaHandR
import Derived.Test.YtniihilegljgmaaOrder
set_option linter.unusedVariables false
set_option linter.unusedSimpArgs false
namespace Go.Proofs.Ytniihilegljgmaa.P
open Go.RowKit Go.Proofs.YtniihilegljgmaaW.PrintWords Go.Proofs.YtniihilegljgmaaW.PrintLast Go.Proofs.YtniihilegljgmaaW.PrintMore Go.Proofs.YtniihilegljgmaaOwn
theorem toList_inj {a b : ByteArray} (h : a.toList = b.toList) : a = b := by
  rw [ByteArray.toList_eq, ByteArray.toList_eq] at h
  cases a; cases b
  simp_all
def Byt (b : List Int) : Prop := ∀ x ∈ b, 0 ≤ x ∧ x ≤ 255
theorem byt_wf {b : List Int} (h : ∀ y ∈ b, (Lit.int .u8 y).wf = true) : Byt b := fun x hx => by
  have h1 := h x hx
  simp only [Lit.wf, Bool.and_eq_true, decide_eq_true_eq] at h1
  have h2 : IntKind.u8.min = 0 := by decide
  have h3 : IntKind.u8.max = 255 := by decide
  omega
theorem strOfNums_bytesOf (s : ByteArray) : strOfNums (bytesOf s) = s := by
  unfold strOfNums bytesOf
  cases s with
  | mk d =>
    congr 1
    apply Array.ext'
    simp [List.map_map, Function.comp_def]
theorem bytesOf_strOfNums (l : List Int) (h : Byt l) : bytesOf (strOfNums l) = l := by
  unfold strOfNums bytesOf
  simp only [List.map_map]
  rw [List.map_congr_left (g := id), List.map_id]
  intro x hx
  have := h x hx
  simp [Function.comp_def]
  omega
theorem size_strOfNums (l : List Int) : (strOfNums l).size = l.length := by
  unfold strOfNums; simp [ByteArray.size]
theorem strOfNums_inj {a b : List Int} (ha : Byt a) (hb : Byt b) (h : (strOfNums a).toList = (strOfNums b).toList) : a = b := by
  rw [← bytesOf_strOfNums a ha, ← bytesOf_strOfNums b hb, toList_inj h]
theorem bytesOf_byt (s : ByteArray) : Byt (bytesOf s) := by
  intro x hx
  simp only [bytesOf, List.mem_map] at hx
  obtain ⟨y, _, rfl⟩ := hx
  have := UInt8.toNat_lt y; omega
/-- A value that may be. -/
def Ok (v : S38) : Prop := (v.f0 = 1 ∧ v.f2 = ⟨#[]⟩ ∧ -2147483647 ≤ v.f1 ∧ v.f1 ≤ 2147483647) ∨ (v.f0 = 2 ∧ v.f1 = 0 ∧ v.f2.size ≤ 40)
theorem empty_toList {s : ByteArray} : s.toList = [] ↔ s = ⟨#[]⟩ := by
  constructor
  · intro h
    apply toList_inj
    rw [h, ByteArray.toList_mk]
  · rintro rfl; exact ByteArray.toList_mk []
theorem check_ok {v : S38} : value_Check.f v.f0 v.f1 v.f2 = some 0 ↔ Ok v := by
  unfold value_Check.f Ok
  simp only [empty_toList]
  constructor
  · intro h
    split at h
    · assumption
    · simp at h
  · intro h; rw [if_pos h]
theorem eight_len (n : Int) : (eightK n).length = 8 := rfl
theorem numU_eight (n : Int) (h0 : -9223372036854775808 ≤ n) (h1 : n ≤ 9223372036854775807) : numU (eightK n) = n + 9223372036854775808 := by
  simp only [numU, eightK, List.foldl_cons, List.foldl_nil]
  omega
theorem numK_eight (n : Int) (r : List Int) (h0 : -9223372036854775808 ≤ n) (h1 : n ≤ 9223372036854775807) : numK (eightK n ++ r) = some (n, r) := by
  unfold numK
  rw [if_neg (by simp [eight_len]), List.take_left' (eight_len n), List.drop_left' (eight_len n), numU_eight n h0 h1]
  simp
theorem eight_numU (l : List Int) (h : l.length = 8) (hb : Byt l) : eightK (numU l - 9223372036854775808) = l ∧ 0 ≤ numU l ∧ numU l ≤ 18446744073709551615 := by
  match l, h with
  | [a, b, c, d, e, f, g, k], _ =>
    have h1 := hb a (by simp)
    have h2 := hb b (by simp)
    have h3 := hb c (by simp)
    have h4 := hb d (by simp)
    have h5 := hb e (by simp)
    have h6 := hb f (by simp)
    have h7 := hb g (by simp)
    have h8 := hb k (by simp)
    simp only [numU, eightK, List.foldl_cons, List.foldl_nil, List.cons.injEq, and_true]
    omega
theorem txtK_esc : ∀ (s r : List Int), txtK (escK s ++ (0 :: 0 :: r)) = some (s, r)
  | [], r => by simp [escK, txtK]
  | x :: s, r => by
    by_cases hx : x = 0
    · subst hx
      simp only [escK, if_true, List.cons_append, txtK]
      rw [if_neg (by decide), txtK_esc s r]; rfl
    · simp only [escK, if_neg hx, List.cons_append]
      rw [txtK_ne hx, txtK_esc s r]; rfl
theorem esc_txtK : ∀ (n : Nat) (b s r : List Int), b.length ≤ n → txtK b = some (s, r) → b = escK s ++ (0 :: 0 :: r) ∧ ∀ x ∈ s, x ∈ b
  | _, [], _, _, _, h => by simp [txtK] at h
  | 0, _ :: _, _, _, hn, _ => by simp at hn
  | n + 1, x :: b, s, r, hn, h => by
    by_cases hx : x = 0
    · subst hx
      rcases b with _ | ⟨y, b⟩
      · simp [txtK] at h
      · simp only [txtK, if_true] at h
        split at h
        · rename_i hy; subst hy; cases h; exact ⟨rfl, by simp⟩
        · split at h
          · rename_i hy
            subst hy
            obtain ⟨⟨s', r'⟩, h1, h2⟩ := Option.map_eq_some_iff.1 h
            simp only [Prod.mk.injEq] at h2
            obtain ⟨rfl, rfl⟩ := h2
            have := esc_txtK n b s' r' (by simp only [List.length_cons] at hn; omega) h1
            refine ⟨?_, fun z hz => ?_⟩
            · simp only [escK, if_true, List.cons_append]; rw [← this.1]
            · rcases List.mem_cons.1 hz with rfl | hz
              · simp
              · simp [this.2 z hz]
          · cases h
    · rw [txtK_ne hx] at h
      obtain ⟨⟨s', r'⟩, h1, h2⟩ := Option.map_eq_some_iff.1 h
      simp only [Prod.mk.injEq] at h2
      obtain ⟨rfl, rfl⟩ := h2
      have := esc_txtK n b s' r' (by simp only [List.length_cons] at hn; omega) h1
      refine ⟨?_, fun z hz => ?_⟩
      · simp only [escK, if_neg hx, List.cons_append]; rw [← this.1]
      · rcases List.mem_cons.1 hz with rfl | hz
        · simp
        · simp [this.2 z hz]
theorem valK_one {v : S38} (h : Ok v) (r : List Int) : valK (oneK v ++ r) = some (v, r) := by
  have hc := check_ok.2 h
  obtain ⟨v0, v1, v2⟩ := v
  rcases h with ⟨h0, h1, h2, h3⟩ | ⟨h0, h1, h2⟩
  · simp only at h0 h1 h2 h3 hc
    subst h0 h1
    simp only [oneK, if_true, List.cons_append, valK]
    rw [numK_eight v1 r (by omega) (by omega)]
    simp [okK, hc]
  · simp only at h0 h1 h2 hc
    subst h0 h1
    simp only [oneK, if_neg (show ¬ ((2 : Int) = 1) by decide), if_true, List.cons_append, List.append_assoc, valK, List.nil_append]
    rw [txtK_esc]
    simp only [strOfNums_bytesOf, okK]
    rw [if_pos hc]
theorem one_valK {b : List Int} {v : S38} {r : List Int} (hb : Byt b) (h : valK b = some (v, r)) : b = oneK v ++ r ∧ Ok v := by
  rcases b with _ | ⟨x, b⟩
  · simp [valK] at h
  · have hb' : Byt b := fun y hy => hb y (by simp [hy])
    simp only [valK] at h
    split at h
    · rename_i hx
      subst hx
      split at h
      · cases h
      · rename_i n r2 hq
        unfold okK at h
        split at h
        · rename_i hc
          cases h
          refine ⟨?_, check_ok.1 hc⟩
          unfold numK at hq
          split at hq
          · cases hq
          · rename_i hl
            cases hq
            have h8 := eight_numU (b.take 8) (by rw [List.length_take]; omega) (fun y hy => hb' y (List.mem_of_mem_take hy))
            simp only [oneK, if_true, List.cons_append]
            rw [h8.1, List.take_append_drop]
        · cases h
    · split at h
      · rename_i hx
        subst hx
        split at h
        · cases h
        · rename_i s r2 hq
          unfold okK at h
          split at h
          · rename_i hc
            cases h
            refine ⟨?_, check_ok.1 hc⟩
            have h9 := esc_txtK b.length b _ _ (Nat.le_refl _) hq
            simp only [oneK, if_neg (show ¬ ((2 : Int) = 1) by decide), if_true, List.cons_append, List.append_assoc, List.nil_append]
            rw [bytesOf_strOfNums s (fun y hy => hb' y (h9.2 y hy)), ← h9.1]
          · cases h
      · cases h
theorem dec_row : ∀ (l : List S38), (∀ v ∈ l, Ok v) → decR (rowK l) = some l
  | [], _ => rfl
  | v :: l, h => by
    have h1 := valK_one (h v (by simp)) (rowK l)
    rw [show rowK (v :: l) = oneK v ++ rowK l from rfl, decR_some h1, dec_row l (fun x hx => h x (by simp [hx]))]
    rfl
theorem row_dec : ∀ (n : Nat) (b : List Int) (l : List S38), b.length ≤ n → Byt b → decR b = some l → rowK l = b ∧ (∀ v ∈ l, Ok v) ∧ l.length ≤ b.length
  | _, [], l, _, _, h => by
    rw [decR_nil] at h; cases h; exact ⟨rfl, by simp, Nat.le_refl _⟩
  | 0, _ :: _, _, hn, _, _ => by simp at hn
  | n + 1, x :: b, l, hn, hb, h => by
    rcases hq : valK (x :: b) with _ | ⟨v, r⟩
    · rw [decR_none (by simp) hq] at h; cases h
    · rw [decR_some hq] at h
      obtain ⟨l', h1, h2⟩ := Option.map_eq_some_iff.1 h
      subst h2
      have hl := valK_len hq
      have ho := one_valK hb hq
      have ih := row_dec n r l' (by simp only [List.length_cons] at hn hl; omega) (fun y hy => hb y (hl.2 y hy)) h1
      refine ⟨by show oneK v ++ rowK l' = x :: b; rw [ih.1, ← ho.1], fun w hw => ?_, by simp only [List.length_cons] at hl ⊢; omega⟩
      rcases List.mem_cons.1 hw with rfl | hw
      · exact ho.2
      · exact ih.2.1 w hw
theorem escK_byt : ∀ (s : List Int), Byt s → Byt (escK s)
  | [], _ => by simp [escK, Byt]
  | x :: s, h => by
    have ih := escK_byt s (fun y hy => h y (by simp [hy]))
    intro y hy
    simp only [escK] at hy
    split at hy
    · simp only [List.mem_cons] at hy
      rcases hy with rfl | rfl | hy
      · omega
      · omega
      · exact ih y hy
    · rcases List.mem_cons.1 hy with rfl | hy
      · exact h _ (by simp)
      · exact ih y hy
theorem eightK_byt (n : Int) : Byt (eightK n) := by
  intro x hx
  simp only [eightK, List.mem_cons, List.not_mem_nil, or_false] at hx
  omega
theorem oneK_byt (v : S38) : Byt (oneK v) := by
  intro x hx
  unfold oneK at hx
  split at hx
  · rcases List.mem_cons.1 hx with rfl | hx
    · omega
    · exact eightK_byt _ x hx
  · split at hx
    · simp only [List.mem_cons, List.mem_append, List.not_mem_nil, or_false] at hx
      rcases hx with rfl | hx | rfl | rfl
      · omega
      · exact escK_byt _ (bytesOf_byt _) x hx
      · omega
      · omega
    · simp at hx
theorem rowK_byt : ∀ l : List S38, Byt (rowK l)
  | [] => by simp [rowK, Byt]
  | v :: l => fun x hx => (List.mem_append.1 (show x ∈ oneK v ++ rowK l from hx)).elim (oneK_byt v x) (rowK_byt l x)
/-! The order of bytes. -/
theorem cmpB_nums : ∀ (a b : List UInt8), cmpB a b = cmpL cmpI (a.map fun x => (x.toNat : Int)) (b.map fun x => (x.toNat : Int))
  | [], [] => by simp [cmpB, cmpL, Op.bytesLess]
  | [], _ :: _ => by simp [cmpB, cmpL, Op.bytesLess]
  | _ :: _, [] => by simp [cmpB, cmpL, Op.bytesLess]
  | x :: a, y :: b => by
    have ih := cmpB_nums a b
    simp only [List.map_cons, cmpL]
    rw [← ih]
    unfold cmpB cmpI
    simp only [Op.bytesLess]
    rcases Nat.lt_trichotomy x.toNat y.toNat with h | h | h
    · have h1 : x < y := UInt8.lt_iff_toNat_lt.2 h
      have h4 : (x.toNat : Int) < y.toNat := by omega
      simp [h1, h4]
    · obtain rfl : x = y := UInt8.toNat_inj.1 h
      have h1 : ¬ x < x := UInt8.lt_irrefl x
      simp [h1]
    · have h1 : y < x := UInt8.lt_iff_toNat_lt.2 h
      have h2 : ¬ x < y := fun h3 => by have := UInt8.lt_iff_toNat_lt.1 h3; omega
      have h3 : ¬ x = y := by rintro rfl; omega
      have h4 : ¬ ((x.toNat : Int) < y.toNat) := by omega
      have h5 : (y.toNat : Int) < x.toNat := by omega
      simp [h1, h2, h3, h4, h5]
theorem compareBytes_cmpB : ∀ (a b : List UInt8), Lib.compareBytes a b = cmpB a b
  | [], [] => by simp [Lib.compareBytes, cmpB, Op.bytesLess]
  | [], _ :: _ => by simp [Lib.compareBytes, cmpB, Op.bytesLess]
  | _ :: _, [] => by simp [Lib.compareBytes, cmpB, Op.bytesLess]
  | x :: a, y :: b => by
    have ih := compareBytes_cmpB a b
    simp only [Lib.compareBytes]
    rw [ih]
    unfold cmpB
    simp only [Op.bytesLess]
    rcases Nat.lt_trichotomy x.toNat y.toNat with h | h | h
    · have h1 : x < y := UInt8.lt_iff_toNat_lt.2 h
      simp [h1]
    · obtain rfl : x = y := UInt8.toNat_inj.1 h
      have h1 : ¬ x < x := UInt8.lt_irrefl x
      simp [h1]
    · have h1 : y < x := UInt8.lt_iff_toNat_lt.2 h
      have h2 : ¬ x < y := fun h3 => by have := UInt8.lt_iff_toNat_lt.1 h3; omega
      have h3 : ¬ x = y := by rintro rfl; omega
      simp [h1, h2, h3]
theorem libBytes_nums (l : List Int) (h : Byt l) : (Lib.bytesOf l).map (fun x => (x.toNat : Int)) = l := by
  unfold Lib.bytesOf
  rw [List.map_map, List.map_congr_left (g := id), List.map_id]
  intro x hx
  have := h x hx
  simp [Function.comp_def]
  omega
/-- keys.Cmp, in plain words. -/
theorem compare_nums (a b : List Int) (ha : Byt a) (hb : Byt b) : Lib.compareBytes (Lib.bytesOf a) (Lib.bytesOf b) = cmpL cmpI a b := by
  rw [compareBytes_cmpB, cmpB_nums, libBytes_nums a ha, libBytes_nums b hb]
theorem strOfNums_toList (l : List Int) (h : Byt l) : ((strOfNums l).toList).map (fun x => (x.toNat : Int)) = l := by
  have h1 := bytesOf_strOfNums l h
  unfold bytesOf at h1
  rw [ByteArray.toList_eq]
  exact h1
theorem cmpB_strs (a b : List Int) (ha : Byt a) (hb : Byt b) : cmpB (strOfNums a).toList (strOfNums b).toList = cmpL cmpI a b := by
  rw [cmpB_nums, strOfNums_toList a ha, strOfNums_toList b hb]
theorem cmpB_text (s t : ByteArray) : cmpB s.toList t.toList = cmpL cmpI (bytesOf s) (bytesOf t) := by
  rw [cmpB_nums, ByteArray.toList_eq, ByteArray.toList_eq]; rfl
/-! Prefix-free rows. -/
theorem cmpL_same (p : List Int) : ∀ a b : List Int, cmpL cmpI (p ++ a) (p ++ b) = cmpL cmpI a b := by
  induction p with
  | nil => intro a b; rfl
  | cons x p ih => intro a b; simp only [List.cons_append, cmpL, cm_int.self, if_true]; exact ih a b
/-- An order of rows of one length looks at the rows alone. -/
theorem cmpL_len : ∀ (p q : List Int), p.length = q.length → ∀ a b : List Int, cmpL cmpI (p ++ a) (q ++ b) = if cmpL cmpI p q = 0 then cmpL cmpI a b else cmpL cmpI p q
  | [], [], _, a, b => by simp [cmpL]
  | x :: p, y :: q, h, a, b => by
    have ih := cmpL_len p q (by simpa using h) a b
    simp only [List.cons_append, cmpL]
    by_cases e : cmpI x y = 0
    · simp only [e, if_true, ih]
    · simp only [e, if_false]
  | [], _ :: _, h, _, _ => by simp at h
  | _ :: _, [], h, _, _ => by simp at h
theorem cmpI_of {a b p q : Int} (h1 : a < b → p < q) (h2 : b < a → q < p) (h3 : ¬ a = b) : cmpI a b = cmpI p q := by
  rcases (by omega : a < b ∨ b < a) with h | h
  · have := h1 h
    unfold cmpI; rw [if_pos h, if_pos this]
  · have := h2 h
    unfold cmpI; rw [if_neg (by omega), if_pos h, if_neg (by omega), if_pos this]
set_option maxHeartbeats 8000000 in
theorem eight_cmp (n m : Int) (hn0 : -9223372036854775808 ≤ n) (hn1 : n ≤ 9223372036854775807) (hm0 : -9223372036854775808 ≤ m) (hm1 : m ≤ 9223372036854775807) : cmpL cmpI (eightK n) (eightK m) = cmpI n m := by
  unfold eightK
  have e : cmpI n m = cmpI (n + 9223372036854775808) (m + 9223372036854775808) := by
    by_cases h : n = m
    · subst h; rw [cm_int.self, cm_int.self]
    · exact cmpI_of (by omega) (by omega) h
  rw [e]
  revert e
  generalize hp : n + 9223372036854775808 = p
  generalize hq : m + 9223372036854775808 = q
  intro _
  have hp0 : 0 ≤ p := by omega
  have hp1 : p ≤ 18446744073709551615 := by omega
  have hq0 : 0 ≤ q := by omega
  have hq1 : q ≤ 18446744073709551615 := by omega
  clear hp hq hn0 hn1 hm0 hm1
  simp only [cmpL, cmpI_zero]
  by_cases e0 : p / 72057594037927936 % 256 = q / 72057594037927936 % 256
  case neg => rw [if_neg e0]; exact cmpI_of (by omega) (by omega) e0
  rw [if_pos e0]
  by_cases e1 : p / 281474976710656 % 256 = q / 281474976710656 % 256
  case neg => rw [if_neg e1]; exact cmpI_of (by omega) (by omega) e1
  rw [if_pos e1]
  by_cases e2 : p / 1099511627776 % 256 = q / 1099511627776 % 256
  case neg => rw [if_neg e2]; exact cmpI_of (by omega) (by omega) e2
  rw [if_pos e2]
  by_cases e3 : p / 4294967296 % 256 = q / 4294967296 % 256
  case neg => rw [if_neg e3]; exact cmpI_of (by omega) (by omega) e3
  rw [if_pos e3]
  by_cases e4 : p / 16777216 % 256 = q / 16777216 % 256
  case neg => rw [if_neg e4]; exact cmpI_of (by omega) (by omega) e4
  rw [if_pos e4]
  by_cases e5 : p / 65536 % 256 = q / 65536 % 256
  case neg => rw [if_neg e5]; exact cmpI_of (by omega) (by omega) e5
  rw [if_pos e5]
  by_cases e6 : p / 256 % 256 = q / 256 % 256
  case neg => rw [if_neg e6]; exact cmpI_of (by omega) (by omega) e6
  rw [if_pos e6]
  by_cases e7 : p % 256 = q % 256
  case neg => rw [if_neg e7]; exact cmpI_of (by omega) (by omega) e7
  rw [if_pos e7]
  have : p = q := by omega
  subst this; rw [cm_int.self]
theorem esc_cmp : ∀ (s t : List Int), Byt s → Byt t → ∀ a b : List Int, cmpL cmpI (escK s ++ (0 :: 0 :: a)) (escK t ++ (0 :: 0 :: b)) = if cmpL cmpI s t = 0 then cmpL cmpI a b else cmpL cmpI s t
  | [], [], _, _, a, b => by simp [escK, cmpL, cmpI]
  | [], y :: t, _, hb, a, b => by
    have := hb y (by simp)
    by_cases h : y = 0
    · subst h; simp [escK, cmpL, cmpI]
    · have h2 : 0 < y := by omega
      have h3 : ¬ y < 0 := by omega
      simp [escK, cmpL, cmpI, h, h2, h3]
  | x :: s, [], ha, _, a, b => by
    have := ha x (by simp)
    by_cases h : x = 0
    · subst h; simp [escK, cmpL, cmpI]
    · have h2 : 0 < x := by omega
      have h3 : ¬ x < 0 := by omega
      simp [escK, cmpL, cmpI, h, h2, h3]
  | x :: s, y :: t, ha, hb, a, b => by
    have ih := esc_cmp s t (fun z hz => ha z (by simp [hz])) (fun z hz => hb z (by simp [hz])) a b
    have h1 := ha x (by simp)
    have h2 := hb y (by simp)
    by_cases e : x = y
    · subst e
      by_cases h : x = 0
      · subst h
        simp only [escK, if_true, List.cons_append, cmpL, cm_int.self]
        exact ih
      · simp only [escK, if_neg h, List.cons_append, cmpL, cm_int.self, if_true]
        exact ih
    · have h3 : ¬ cmpI x y = 0 := fun z => e (cmpI_zero.1 z)
      by_cases h : x = 0
      · subst h
        have h4 : ¬ y = 0 := fun z => e z.symm
        simp only [escK, if_true, if_neg h4, List.cons_append, cmpL, h3, if_false]
      · by_cases h4 : y = 0
        · subst h4
          simp only [escK, if_true, if_neg h, List.cons_append, cmpL, h3, if_false]
        · simp only [escK, if_neg h4, if_neg h, List.cons_append, cmpL, h3, if_false]
def cmpV (a b : S38) : Int := if cmpI a.f0 b.f0 = 0 then (if cmpI a.f1 b.f1 = 0 then cmpB a.f2.toList b.f2.toList else cmpI a.f1 b.f1) else cmpI a.f0 b.f0
theorem one_cmp {v w : S38} (hv : Ok v) (hw : Ok w) (a b : List Int) : cmpL cmpI (oneK v ++ a) (oneK w ++ b) = if cmpV v w = 0 then cmpL cmpI a b else cmpV v w := by
  obtain ⟨v0, v1, v2⟩ := v
  obtain ⟨w0, w1, w2⟩ := w
  have n12 : ¬ ((2 : Int) = 1) := by decide
  have e12 : cmpI 1 2 = -1 := by decide
  have e21 : cmpI 2 1 = 1 := by decide
  have m1 : ¬ ((-1 : Int) = 0) := by decide
  have m2 : ¬ ((1 : Int) = 0) := by decide
  rcases hv with ⟨h0, h1, h2, h3⟩ | ⟨h0, h1, h2⟩ <;> rcases hw with ⟨g0, g1, g2, g3⟩ | ⟨g0, g1, g2⟩ <;> simp only at h0 h1 h2 g0 g1 g2
  · simp only at h3 g3
    subst h0 h1 g0 g1
    have he := eight_cmp v1 w1 (by omega) (by omega) (by omega) (by omega)
    have hl := cmpL_len (eightK v1) (eightK w1) rfl a b
    rw [he] at hl
    simp only [oneK, cmpV, if_true, List.cons_append, cmpL, cm_int.self, cmpB_self]
    rw [hl]
    by_cases hz : cmpI v1 w1 = 0
    · simp only [hz, if_true]
    · simp only [hz, if_false]
  · subst h0 g0
    simp only [oneK, cmpV, if_true, if_neg n12, List.cons_append, cmpL, e12, m1, if_false]
  · subst h0 g0
    simp only [oneK, cmpV, if_true, if_neg n12, List.cons_append, cmpL, e21, m2, if_false]
  · subst h0 h1 g0 g1
    have he := esc_cmp (bytesOf v2) (bytesOf w2) (bytesOf_byt _) (bytesOf_byt _) a b
    simp only [oneK, cmpV, if_true, if_neg n12, List.cons_append, List.append_assoc, List.nil_append, cmpL, cm_int.self, cmpB_text]
    exact he
theorem oneK_ne {v : S38} (h : Ok v) (r : List Int) : ∃ x l, oneK v ++ r = x :: l := by
  rcases h with ⟨h0, _⟩ | ⟨h0, _⟩
  · exact ⟨1, eightK v.f1 ++ r, by unfold oneK; rw [if_pos h0]; rfl⟩
  · exact ⟨2, escK (bytesOf v.f2) ++ [0, 0] ++ r, by unfold oneK; rw [if_neg (by omega), if_pos h0]; rfl⟩
/-- The bytes of rows go as the rows. -/
theorem row_cmp : ∀ (l m : List S38), (∀ v ∈ l, Ok v) → (∀ v ∈ m, Ok v) → cmpL cmpI (rowK l) (rowK m) = cmpL cmpV l m
  | [], [], _, _ => rfl
  | [], w :: m, _, hm => by
    obtain ⟨x, r, e⟩ := oneK_ne (hm w (by simp)) (rowK m)
    show cmpL cmpI [] (oneK w ++ rowK m) = _
    rw [e]; rfl
  | v :: l, [], hl, _ => by
    obtain ⟨x, r, e⟩ := oneK_ne (hl v (by simp)) (rowK l)
    show cmpL cmpI (oneK v ++ rowK l) [] = _
    rw [e]; rfl
  | v :: l, w :: m, hl, hm => by
    show cmpL cmpI (oneK v ++ rowK l) (oneK w ++ rowK m) = _
    rw [one_cmp (hl v (by simp)) (hm w (by simp)), row_cmp l m (fun x hx => hl x (by simp [hx])) (fun x hx => hm x (by simp [hx]))]
    rfl
end Go.Proofs.Ytniihilegljgmaa.P
