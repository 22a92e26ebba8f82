import Derived.WalkMore
import Derived.WalkKit
set_option linter.unusedVariables false
namespace Go.Proofs.YtniihilegljgmaaOwn
theorem wp_scope_noGoto {P : Program} {c : Code} {Q : Exit → Act → World → Prop} {a : Act} {w : World} (hq : ∀ l a w, ¬ Q (.goto l) a w) (h : c.wp P Q a w) : (Code.scope c).wp P Q a w :=
  wp_scope_straight (Code.wp_mono (fun e a w q => by cases e <;> first | exact q | exact absurd q (hq _ _ _)) h)
theorem wp_scope_body {P : Program} {fn : Func} {R : Ending → World → Prop} {c : Code} {a : Act} {w : World} (h : c.wp P (bodyPost P fn R) a w) : (Code.scope c).wp P (bodyPost P fn R) a w :=
  wp_scope_noGoto (fun _ _ _ q => q) h
/-- The order of bytes, as the print spells it. -/
theorem bytesLess_other : ∀ a b : List UInt8, (Op.bytesLess a b || a == b) = !(Op.bytesLess b a)
  | [], [] => rfl
  | [], _ :: _ => rfl
  | _ :: _, [] => rfl
  | a :: x, b :: y => by
    have ih := bytesLess_other x y
    simp only [Op.bytesLess]
    rcases Nat.lt_trichotomy a.toNat b.toNat with h | h | h
    · have h1 : a < b := UInt8.lt_iff_toNat_lt.2 h
      have h2 : ¬ b < a := fun h3 => by have := UInt8.lt_iff_toNat_lt.1 h3; omega
      have h3 : ¬ b = a := by rintro rfl; omega
      simp [h1, h2, h3]
    · obtain rfl : a = b := UInt8.toNat_inj.1 h
      have h1 : ¬ a < a := UInt8.lt_irrefl a
      simpa [h1] using ih
    · have h1 : b < a := UInt8.lt_iff_toNat_lt.2 h
      have h2 : ¬ a < b := fun h3 => by have := UInt8.lt_iff_toNat_lt.1 h3; omega
      have h3 : ¬ a = b := by rintro rfl; omega
      simp [h1, h2, h3]
theorem leq_str (t : TypeId) (a b : ByteArray) : binOp .leq t (.string a) (.string b) = pure (.bool !(Op.bytesLess b.toList a.toList)) := by rw [← bytesLess_other]; simp [binOp, Op.stringOp]
theorem gtr_str (t : TypeId) (a b : ByteArray) : binOp .gtr t (.string a) (.string b) = pure (.bool (Op.bytesLess b.toList a.toList)) := by
  have h : Op.bytesLess b.toList a.toList = !(Op.bytesLess a.toList b.toList || a.toList == b.toList) := by rw [bytesLess_other, Bool.not_not]
  rw [h]; simp [binOp, Op.stringOp]
theorem geq_str (t : TypeId) (a b : ByteArray) : binOp .geq t (.string a) (.string b) = pure (.bool !(Op.bytesLess a.toList b.toList)) := by simp [binOp, Op.stringOp]
end Go.Proofs.YtniihilegljgmaaOwn
