/- The document's parse, by hand: the walk of its loop. -/
import Derived.Test.YtdjiclphnoepcaaHandR
import Derived.Outline
import Derived.Deep.CutBlock
import Derived.Deep.DeepCutAuto
set_option linter.unusedVariables false
set_option linter.unusedSimpArgs false
namespace Go.Proofs.Ytdjiclphnoepcaa.P
open Go.RowKit Go.Proofs.YtdjiclphnoepcaaW.PrintWords Go.Proofs.YtdjiclphnoepcaaW.PrintLast Go.Proofs.YtdjiclphnoepcaaW.PrintMore Go.Proofs.YtdjiclphnoepcaaOwn
/-- A text that bytes begin with, and the rest. -/
def cutS : List Int → Option (ByteArray × List Int)
  | [] => none
  | x :: b => if (b.length : Int) < x then none else some (strOfNums (b.take x.toNat), b.drop x.toNat)
/-- A kid that bytes begin with, and the rest. -/
def kidP (b : List Int) : Option (Int × List Int) := if b.length < 4 then none else some (numS (b.take 4), b.drop 4)
structure PS where
  b : List Int
  keys : List ByteArray
  vals : List ByteArray
  kids : List Int
def entS (leaf : Bool) (s : ByteArray) (r : List Int) (p : PS) : Bool × PS :=
  if leaf then (match cutS r with | none => (false, ⟨p.b, p.keys ++ [s], p.vals, p.kids⟩) | some (v, r2) => (true, ⟨r2, p.keys ++ [s], p.vals ++ [v], p.kids⟩))
  else (match kidP r with | none => (false, ⟨p.b, p.keys ++ [s], p.vals, p.kids⟩) | some (k, r2) => (true, ⟨r2, p.keys ++ [s], p.vals, p.kids ++ [k]⟩))
def roundS (leaf : Bool) (p : PS) : Bool × PS := match cutS p.b with | none => (false, p) | some (s, r) => entS leaf s r p
def prS (leaf : Bool) : Nat → PS → Bool × PS
  | 0, p => (true, p)
  | n + 1, p => if (roundS leaf p).1 then prS leaf n (roundS leaf p).2 else (false, (roundS leaf p).2)
theorem cut_any (w : World) (b : List Int) (A : Option Addr) (c : Nat) (hC : Kd.C (Kd.int .u8) w A b.length b) (hc : b.length ≤ c) (hb : ∀ x ∈ b, 0 ≤ x ∧ x ≤ 255) :
    Calls Try.prog 30 #[.slice A b.length c] w fun e w' => (cutS b = none ∧ e = .returned (.tuple #[.string ⟨#[]⟩, .slice none 0 0, .bool false]) ∧ w' = w) ∨
      ∃ s r A2 c2, cutS b = some (s, r) ∧ e = .returned (.tuple #[.string s, .slice A2 r.length c2, .bool true]) ∧ (∀ W, Kd.C (Kd.int .u8) W A b.length b → Kd.C (Kd.int .u8) W A2 r.length r) ∧ r.length ≤ c2 ∧ w' = w.drew ∧ ∀ x ∈ r, 0 ≤ x ∧ x ≤ 255 := by
  cases b with
  | nil =>
    refine (cut_none w A c).mono ?_
    rintro e w' ⟨rfl, rfl⟩
    exact .inl ⟨rfl, rfl, rfl⟩
  | cons x b =>
    have hx := hb x (by simp)
    by_cases h : (b.length : Int) < x
    · refine (cut_short w x b A c hC hx.1 hx.2 h).mono ?_
      rintro e w' ⟨rfl, rfl⟩
      exact .inl ⟨by simp [cutS, h], rfl, rfl⟩
    · obtain ⟨m, rfl⟩ : ∃ m : Nat, x = m := ⟨x.toNat, by omega⟩
      refine (cut_long w m b A c hC hc (by omega) (by omega)).mono ?_
      rintro e w' ⟨A2, c2, rfl, hC2, hc2, rfl⟩
      exact .inr ⟨_, _, A2, c2, by simp only [cutS]; rw [if_neg h]; rfl, rfl, hC2, hc2, rfl, fun y hy => hb y (by simp [List.mem_of_mem_drop hy])⟩
theorem kid_any2 (w : World) (b : List Int) (A : Option Addr) (c : Nat) (hC : Kd.C (Kd.int .u8) w A b.length b) (hc : b.length ≤ c) (hb : ∀ x ∈ b, 0 ≤ x ∧ x ≤ 255) :
    Calls Try.prog 29 #[.slice A b.length c] w fun e w' => (kidP b = none ∧ e = .returned (.tuple #[.int .i64 0, .slice none 0 0, .bool false]) ∧ w' = w) ∨
      ∃ k r A2 c2, kidP b = some (k, r) ∧ e = .returned (.tuple #[.int .i64 k, .slice A2 r.length c2, .bool true]) ∧ (∀ W, Kd.C (Kd.int .u8) W A b.length b → Kd.C (Kd.int .u8) W A2 r.length r) ∧ r.length ≤ c2 ∧ w' = w.drew ∧ ∀ x ∈ r, 0 ≤ x ∧ x ≤ 255 := by
  by_cases h : b.length < 4
  · refine (kid_short w b A c h).mono ?_
    rintro e w' ⟨rfl, rfl⟩
    exact .inl ⟨by simp [kidP, h], rfl, rfl⟩
  · refine (kid_long w b A c hC hc hb (by omega)).mono ?_
    rintro e w' ⟨A2, c2, rfl, hC2, hc2, rfl⟩
    exact .inr ⟨_, _, A2, c2, by unfold kidP; rw [if_neg h], rfl, hC2, hc2, rfl, fun y hy => hb y (List.mem_of_mem_drop hy)⟩
end Go.Proofs.Ytdjiclphnoepcaa.P
