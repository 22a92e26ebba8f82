/- Plain facts on orders of numbers, bytes and lists: no program in sight. -/
import Derived.Test.YtniihilegljgmaaWWords
set_option linter.unusedVariables false
set_option linter.unusedSimpArgs false
namespace Go.Proofs.YtniihilegljgmaaOwn
open Go.RowKit
/-- A comparison in one line. -/
structure Cm {α : Type} (c : α → α → Int) : Prop where
  rng : ∀ a b, c a b = -1 ∨ c a b = 0 ∨ c a b = 1
  anti : ∀ a b, c b a = - c a b
  tr : ∀ a b d, c a b ≤ 0 → c b d ≤ 0 → c a d ≤ 0 ∧ (c a d = 0 → c a b = 0 ∧ c b d = 0)
theorem Cm.self {α : Type} {c : α → α → Int} (h : Cm c) (a : α) : c a a = 0 := by have := h.anti a a; omega
theorem Cm.zero_tr {α : Type} {c : α → α → Int} (h : Cm c) {a b d : α} (h1 : c a b = 0) (h2 : c b d = 0) : c a d = 0 := by
  have a1 := (h.tr a b d (by omega) (by omega)).1
  have b1 := h.anti a b
  have b2 := h.anti b d
  have b3 := h.anti a d
  have a2 := (h.tr d b a (by omega) (by omega)).1
  omega
theorem Cm.zero_left {α : Type} {c : α → α → Int} (h : Cm c) {a b d : α} (h1 : c a b = 0) : c a d = c b d := by
  have h2 := h.anti a b
  have h3 := h.rng a d
  have h4 := h.rng b d
  have h5 := h.anti a d
  have h6 := h.anti b d
  have t1 := h.tr a b d
  have t2 := h.tr b a d
  have t3 := h.tr d a b
  have t4 := h.tr d b a
  omega
theorem Cm.zero_right {α : Type} {c : α → α → Int} (h : Cm c) {a b d : α} (h1 : c a b = 0) : c d a = c d b := by
  rw [h.anti a d, h.anti b d, h.zero_left h1]
theorem Cm.comap {α β : Type} {c : α → α → Int} (h : Cm c) (f : β → α) : Cm (fun a b => c (f a) (f b)) := ⟨fun a b => h.rng _ _, fun a b => h.anti _ _, fun a b d => h.tr _ _ _⟩
theorem Cm.lex {α : Type} {c1 c2 : α → α → Int} (h1 : Cm c1) (h2 : Cm c2) : Cm (fun a b => if c1 a b = 0 then c2 a b else c1 a b) := by
  refine ⟨fun a b => ?_, fun a b => ?_, fun a b d => ?_⟩
  · have r1 := h1.rng a b
    have r2 := h2.rng a b
    split <;> omega
  · have r1 := h1.anti a b
    have r2 := h2.anti a b
    split <;> split <;> omega
  · have r1 := h1.tr a b d
    have r2 := h2.tr a b d
    have z1 := @Cm.zero_tr _ _ h1 a b d
    split <;> split <;> split <;> omega
def cmpI (a b : Int) : Int := if a < b then -1 else if b < a then 1 else 0
theorem cm_int : Cm cmpI := by
  refine ⟨fun a b => ?_, fun a b => ?_, fun a b d => ?_⟩ <;> unfold cmpI
  · split <;> (try split) <;> omega
  · split <;> (try split) <;> (try split) <;> omega
  · split <;> (try split) <;> (try split) <;> (try split) <;> (try split) <;> (try split) <;> omega
theorem cmpI_zero {a b : Int} : cmpI a b = 0 ↔ a = b := by unfold cmpI; split <;> (try split) <;> omega
theorem bl_irrefl : ∀ x : List UInt8, Op.bytesLess x x = false
  | [] => rfl
  | a :: x => by
    have h : ¬ a < a := UInt8.lt_irrefl a
    simp [Op.bytesLess, bl_irrefl x, h]
theorem bl_trans : ∀ {x y z : List UInt8}, Op.bytesLess x y = true → Op.bytesLess y z = true → Op.bytesLess x z = true
  | _, _, [], _, h => by simp [Op.bytesLess] at h
  | [], _, _ :: _, _, _ => rfl
  | _ :: _, [], _ :: _, h, _ => by simp [Op.bytesLess] at h
  | a :: x, b :: y, c :: z, h, k => by
    simp only [Op.bytesLess, Bool.or_eq_true, Bool.and_eq_true, decide_eq_true_eq, beq_iff_eq] at h k ⊢
    rcases h with h | ⟨rfl, h⟩
    · rcases k with k | ⟨rfl, k⟩
      · exact .inl (UInt8.lt_trans h k)
      · exact .inl h
    · rcases k with k | ⟨rfl, k⟩
      · exact .inl k
      · exact .inr ⟨rfl, bl_trans h k⟩
theorem bl_tri : ∀ (x y : List UInt8), x = y ∨ Op.bytesLess x y = true ∨ Op.bytesLess y x = true
  | [], [] => .inl rfl
  | [], _ :: _ => .inr (.inl rfl)
  | _ :: _, [] => .inr (.inr rfl)
  | a :: x, b :: y => by
    simp only [Op.bytesLess, Bool.or_eq_true, Bool.and_eq_true, decide_eq_true_eq, beq_iff_eq, List.cons.injEq]
    rcases Nat.lt_trichotomy a.toNat b.toNat with h | h | h
    · exact .inr (.inl (.inl (UInt8.lt_iff_toNat_lt.2 h)))
    · obtain rfl : a = b := UInt8.toNat_inj.1 h
      rcases bl_tri x y with rfl | h | h
      · exact .inl ⟨rfl, rfl⟩
      · exact .inr (.inl (.inr ⟨rfl, h⟩))
      · exact .inr (.inr (.inr ⟨rfl, h⟩))
    · exact .inr (.inr (.inl (UInt8.lt_iff_toNat_lt.2 h)))
theorem bl_asymm {x y : List UInt8} (h : Op.bytesLess x y = true) : Op.bytesLess y x = false := by
  cases hh : Op.bytesLess y x with
  | false => rfl
  | true => have := bl_trans h hh; rw [bl_irrefl] at this; cases this
def cmpB (x y : List UInt8) : Int := if Op.bytesLess x y = true then -1 else if x = y then 0 else 1
theorem cmpB_lt {x y : List UInt8} (h : Op.bytesLess x y = true) : cmpB x y = -1 := by simp [cmpB, h]
theorem cmpB_gt {x y : List UInt8} (h : Op.bytesLess y x = true) : cmpB x y = 1 := by
  have h1 := bl_asymm h
  have h2 : x ≠ y := by rintro rfl; rw [bl_irrefl] at h; cases h
  simp [cmpB, h1, h2]
theorem cmpB_self (x : List UInt8) : cmpB x x = 0 := by simp [cmpB, bl_irrefl]
theorem cmpB_zero {x y : List UInt8} : cmpB x y = 0 ↔ x = y := by
  rcases bl_tri x y with rfl | h | h
  · simp [cmpB_self]
  · rw [cmpB_lt h]; exact ⟨fun h => by omega, by rintro rfl; rw [bl_irrefl] at h; cases h⟩
  · rw [cmpB_gt h]; exact ⟨fun h => by omega, by rintro rfl; rw [bl_irrefl] at h; cases h⟩
theorem cm_bytes : Cm cmpB := by
  have anti : ∀ a b, cmpB b a = - cmpB a b := by
    intro a b
    rcases bl_tri a b with rfl | h | h
    · simp [cmpB_self]
    · rw [cmpB_lt h, cmpB_gt h]; rfl
    · rw [cmpB_lt h, cmpB_gt h]
  refine ⟨fun a b => ?_, anti, fun a b d h k => ?_⟩
  · rcases bl_tri a b with rfl | h | h
    · simp [cmpB_self]
    · simp [cmpB_lt h]
    · simp [cmpB_gt h]
  · rcases bl_tri a b with rfl | h1 | h1
    · exact ⟨k, fun z => ⟨cmpB_self _, z⟩⟩
    · rcases bl_tri b d with rfl | h2 | h2
      · exact ⟨h, fun z => ⟨z, cmpB_self _⟩⟩
      · rw [cmpB_lt (bl_trans h1 h2)]; exact ⟨by omega, fun z => by omega⟩
      · rw [cmpB_gt h2] at k; omega
    · rw [cmpB_gt h1] at h; omega
/-- Lists, by their members. -/
def cmpL {α : Type} (c : α → α → Int) : List α → List α → Int
  | [], [] => 0
  | [], _ :: _ => -1
  | _ :: _, [] => 1
  | a :: x, b :: y => if c a b = 0 then cmpL c x y else c a b
theorem cm_list {α : Type} {c : α → α → Int} (h : Cm c) : Cm (cmpL c) := by
  refine ⟨?_, ?_, ?_⟩
  · intro a
    induction a with
    | nil => intro b; cases b <;> simp [cmpL]
    | cons a x ih =>
      intro b
      cases b with
      | nil => simp [cmpL]
      | cons b y =>
        simp only [cmpL]
        split
        · exact ih y
        · exact h.rng a b
  · intro a
    induction a with
    | nil => intro b; cases b <;> simp [cmpL]
    | cons a x ih =>
      intro b
      cases b with
      | nil => simp [cmpL]
      | cons b y =>
        have := h.anti a b
        simp only [cmpL]
        split <;> split <;> first | omega | exact ih y
  · intro a
    induction a with
    | nil =>
      intro b d
      cases b <;> cases d <;> simp [cmpL]
    | cons a x ih =>
      intro b d
      cases b with
      | nil => simp [cmpL]
      | cons b y =>
        cases d with
        | nil => simp [cmpL]
        | cons d z =>
          have t := h.tr a b d
          have i := ih y z
          have zt := @Cm.zero_tr _ _ h a b d
          simp only [cmpL]
          split <;> split <;> split <;> omega
theorem cmpL_self {α : Type} {c : α → α → Int} (h : Cm c) (a : List α) : cmpL c a a = 0 := (cm_list h).self a
theorem cmpL_more {α : Type} {c : α → α → Int} (h : Cm c) (x : α) : ∀ a : List α, cmpL c a (a ++ [x]) = -1
  | [] => rfl
  | a :: l => by simp only [List.cons_append, cmpL, h.self, if_true]; exact cmpL_more h x l
theorem wrap_succ (i : Nat) (h : i < 9223372036854775807) : wrap64 ((i : Int) + 1) = ((i + 1 : Nat) : Int) := by unfold wrap64; omega
theorem drop_getD {α : Type} (xs : List α) (d : α) (i : Nat) (h : i < xs.length) : xs.drop i = xs.getD i d :: xs.drop (i + 1) := by
  rw [List.drop_eq_getElem_cons h]; simp [List.getD_eq_getElem?_getD, List.getElem?_eq_getElem h]
end Go.Proofs.YtniihilegljgmaaOwn
