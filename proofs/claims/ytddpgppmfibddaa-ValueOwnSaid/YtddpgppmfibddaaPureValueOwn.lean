/- The pure side of ValueOwn: what the printed function of numbers and lists answers is true, at all of them. -/
import Derived.Test.YtddpgppmfibddaaPx7
import Derived.Test.YtddpgppmfibddaaKinds
import Derived.Test.YtddpgppmfibddaaVA
import Derived.Test.YtddpgppmfibddaaVR
set_option linter.unusedVariables false
set_option linter.unusedSimpArgs false
namespace Go.Proofs.Ytddpgppmfibddaa.Pure
open Go.RowKit Go.Proofs.Ytddpgppmfibddaa.P Go.Proofs.YtddpgppmfibddaaW.PrintWords Go.Proofs.YtddpgppmfibddaaW.PrintLast Go.Proofs.YtddpgppmfibddaaOwn
theorem ofK_self : ∀ l : List S24, ofK l (l.map (·.f0)) = 0
  | [] => rfl
  | a :: l => by simp [ofK, ofK_self l]
theorem ofK_zero : ∀ (l : List S24) (m : List Int), l.length = m.length → (ofK l m = 0 ↔ l.map (·.f0) = m)
  | [], [], _ => by simp [ofK]
  | [], _ :: _, h => by simp at h
  | _ :: _, [], h => by simp at h
  | a :: l, b :: m, h => by
    have ih := ofK_zero l m (by simpa using h)
    simp only [ofK, List.map_cons, List.cons.injEq]
    split
    · rename_i e; simp [e, ih]
    · rename_i e; simp [e]
theorem ofK_two : ∀ (l : List S24) (m : List Int), ofK l m = 0 ∨ ofK l m = 11
  | [], _ => by simp [ofK]
  | _ :: _, [] => by simp [ofK]
  | a :: l, b :: m => by
    simp only [ofK]
    split
    · exact ofK_two l m
    · simp
theorem okV_two (a : S24) : okV a = 0 ∨ okV a = 10 := by unfold okV; split <;> simp
theorem okR_any : ∀ l : List S24, okR l = if (l.any fun a => okV a != 0) then 10 else 0
  | [] => rfl
  | a :: l => by
    rcases okV_two a with h | h
    · rw [okR_good h, okR_any l]; simp [h]
    · rw [okR_bad (by omega)]; simp [h]
theorem own_l0 (x : List S24) (ks : List Int) (h0 : x.length ≤ maxLen) (hx : x.length ≤ 200) (hks : ks.length ≤ 200) (d : Nat) : ∀ (k i : Nat) (b : Bool), x.length - i = d → i ≤ x.length → d + 500 < k →
    tailracelaw01_ValueOwn.l0 k x ks true (x.map (·.f0)) (chkR x (x.map (·.f0))) (chkR x ks) b (i : Int) = some (if (b || ((x.drop i).any fun a => okV a != 0)) = true then (chkR x (x.map (·.f0)) == 10 && chkR x ks == 10) else (chkR x (x.map (·.f0)) == 0 && ((chkR x ks == 0) == (x.map (·.f0) == ks)) && (x.map (·.f0) == ks || chkR x ks == 11))) := by
  induction d with
  | zero =>
    intro k i b hd hi hk
    obtain ⟨k, rfl⟩ : ∃ m, k = m + 1 := ⟨k - 1, by omega⟩
    obtain rfl : i = x.length := by omega
    simp only [tailracelaw01_ValueOwn.l0]
    rw [if_neg (by omega), List.drop_length]
    cases b
    · rw [if_neg (by simp), ref_Ints_eq _ _ (by simpa using h0) _ (by simp; omega)]
      simp only [Option.bind_some, List.any_nil, Bool.or_false, Bool.false_eq_true, if_false, if_true]
      generalize chkR x (x.map (·.f0)) = p
      generalize chkR x ks = q
      generalize (x.map (·.f0) == ks) = e
      by_cases h1 : p = 0
      · cases e <;> by_cases h2 : q = 0 <;> simp [h1, h2]
      · simp [h1]
    · simp only [if_true, Bool.true_or]
      generalize chkR x (x.map (·.f0)) = p
      generalize chkR x ks = q
      by_cases h1 : p = 10 <;> simp [h1]
  | succ d ih =>
    intro k i b hd hi hk
    obtain ⟨k, rfl⟩ : ∃ m, k = m + 1 := ⟨k - 1, by omega⟩
    simp only [tailracelaw01_ValueOwn.l0]
    rw [if_pos (by omega), drop_getD x z24 i (by omega)]
    cases b
    · rw [if_neg (by simp), if_pos (by omega), rdV, value_Check_eq]
      simp only [Option.bind_some]
      rw [wrap_succ _ (by omega), ih k (i + 1) _ (by omega) (by omega) (by omega)]
      simp only [List.any_cons, Bool.false_or]
    · rw [if_pos rfl, wrap_succ _ (by omega), ih k (i + 1) _ (by omega) (by omega) (by omega)]
      simp only [Bool.true_or]
theorem own_last (x : List S24) (ks : List Int) : (if (false || ((x.drop 0).any fun a => okV a != 0)) = true then (chkR x (x.map (·.f0)) == 10 && chkR x ks == 10) else (chkR x (x.map (·.f0)) == 0 && ((chkR x ks == 0) == (x.map (·.f0) == ks)) && (x.map (·.f0) == ks || chkR x ks == 11))) = true := by
  have h := okR_any x
  rw [List.drop_zero, Bool.false_or]
  cases hb : (x.any fun a => okV a != 0)
  · rw [hb] at h
    have h' : okR x = 0 := by simpa using h
    have e1 : chkR x (x.map (·.f0)) = 0 := by simp [chkR, h', ofK_self]
    rw [if_neg (by simp), e1]
    by_cases hl : x.length = ks.length
    · have e2 : chkR x ks = ofK x ks := by simp [chkR, h', hl]
      rw [e2]
      have h3 := ofK_zero x ks hl
      rcases ofK_two x ks with h4 | h4
      · have h5 := h3.1 h4; simp [h4, h5]
      · have h5 : ¬ x.map (·.f0) = ks := fun h6 => by have := h3.2 h6; omega
        simp [h4, h5]
    · have e2 : chkR x ks = 11 := by simp [chkR, h', hl]
      have h5 : ¬ x.map (·.f0) = ks := fun h6 => hl (by rw [← h6]; simp)
      rw [e2]; simp [h5]
  · rw [hb] at h
    have h' : okR x = 10 := by simpa using h
    have e1 : ∀ m, chkR x m = 10 := fun m => by simp [chkR, h']
    rw [if_pos rfl, e1, e1]; rfl
theorem ValueOwn : ∀ (l0 : List S24) (l1 : List Int), (List.length l0 ≤ maxLen ∧ ∀ y_ ∈ l0, fit24 y_) → (List.length l1 ≤ maxLen ∧ ∀ y_ ∈ l1, (Lit.int .i64 y_).wf = true) → ∃ k, tailracelaw01_ValueOwn.f k l0 l1 = some true := by
  intro l0 l1 ⟨f0, _⟩ ⟨f1, _⟩
  refine ⟨1000, ?_⟩
  unfold tailracelaw01_ValueOwn.f
  rw [awake01_eq 1000 (by omega)]
  simp only [Option.bind_some]
  by_cases g0 : (l0.length : Int) > 200
  · rw [if_pos g0]; simp [tailracelaw01_ValueOwn.j0]
  rw [if_neg g0]
  by_cases g1 : (l1.length : Int) > 200
  · rw [decide_eq_true g1]; simp [tailracelaw01_ValueOwn.j0]
  rw [decide_eq_false g1]
  simp only [tailracelaw01_ValueOwn.j0]
  rw [if_neg (by simp), value_Kinds_eq l0 (by omega) 999 (by omega)]
  simp only [Option.bind_some]
  rw [value_CheckRow_eq l0 _ f0 999 (by omega), value_CheckRow_eq l0 l1 f0 999 (by omega)]
  simp only [Option.bind_some]
  have := own_l0 l0 l1 f0 (by omega) (by omega) l0.length 999 0 false (by omega) (by omega) (by omega)
  rw [show ((0 : Nat) : Int) = 0 from rfl] at this
  rw [this, own_last]
end Go.Proofs.Ytddpgppmfibddaa.Pure
