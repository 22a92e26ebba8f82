/- The contract of the document's parse, by hand: kid and cut first. -/
import Derived.Test.YtdjiclphnoepcaaHandF
import Derived.Deep.QuietTactic
import Derived.Outline
import Derived.Deep.RegionHeld3
set_option linter.unusedVariables false
set_option linter.unusedSimpArgs false
namespace Go.Proofs.Ytdjiclphnoepcaa.P
open Go.RowKit Go.Proofs.YtdjiclphnoepcaaW.PrintWords Go.Proofs.YtdjiclphnoepcaaW.PrintLast Go.Proofs.YtdjiclphnoepcaaW.PrintMore Go.Proofs.YtdjiclphnoepcaaOwn
set_option maxHeartbeats 8000000 in
set_option maxRecDepth 100000 in
theorem kid_short (w : World) (b : List Int) (A : Option Addr) (c : Nat) (h : b.length < 4) :
    Calls Try.prog 29 #[.slice A b.length c] w fun e w' => e = .returned (.tuple #[.int .i64 0, .slice none 0 0, .bool false]) ∧ w' = w := by
  go_enter Try.func29, Try.ntmps29
  go_wp2
  go_ret3
  exact ⟨rfl, rfl⟩
set_option maxHeartbeats 8000000 in
set_option maxRecDepth 100000 in
theorem kid_long (w : World) (b : List Int) (A : Option Addr) (c : Nat) (hC : Kd.C (Kd.int .u8) w A b.length b) (hc : b.length ≤ c) (hb : ∀ x ∈ b, 0 ≤ x ∧ x ≤ 255) (h : 4 ≤ b.length) :
    Calls Try.prog 29 #[.slice A b.length c] w fun e w' => ∃ A2 c2, e = .returned (.tuple #[.int .i64 (numS (b.take 4)), .slice A2 (b.drop 4).length c2, .bool true]) ∧ (∀ W, Kd.C (Kd.int .u8) W A b.length b → Kd.C (Kd.int .u8) W A2 (b.drop 4).length (b.drop 4)) ∧ (b.drop 4).length ≤ c2 ∧ w' = w.drew := by
  obtain ⟨i0, hi, hzz⟩ := Option.map_eq_some_iff.1 info5
  simp only [Prod.mk.injEq] at hzz
  obtain ⟨_, hz1, _⟩ := hzz
  obtain ⟨ad, rfl, y0⟩ := at_u8 hC 0 (by omega)
  obtain ⟨ad1, e1, y1⟩ := at_u8 hC 1 (by omega)
  obtain ⟨ad2, e2, y2⟩ := at_u8 hC 2 (by omega)
  obtain ⟨ad3, e3, y3⟩ := at_u8 hC 3 (by omega)
  cases e1
  cases e2
  cases e3
  obtain ⟨A2, hA2⟩ : ∃ A2, A2 = (if c = 4 then some ad else (some ad : Option Addr).map (·.add (4 * 1))) := ⟨_, rfl⟩
  have k2 : ∀ W : World, (Instr.slice 28 (.slice (some ad) b.length c) (some (.int .i64 4)) none none).run Try.prog W = .ok (.slice A2 (b.length - 4) (c - 4)) W := fun W => by
    rw [hA2]; simpa using cut_from (P := Try.prog) 28 5 .i64 Try.underlying28 hi 1 hz1 (some ad) b.length c (4 : Int) (by omega) (by omega) W
  have hv : numS (b.take 4) = ((rd b 0 * 256 + rd b 1) * 256 + rd b 2) * 256 + rd b 3 := by
    match b, h with
    | x0 :: x1 :: x2 :: x3 :: r, _ => simp [numS, rd]
  have hB : ∀ j : Nat, j < b.length → 0 ≤ rd b j ∧ rd b j ≤ 255 := fun j hj => hb _ (by rw [rd_nat, List.getD_eq_getElem?_getD, List.getElem?_eq_getElem hj]; exact List.getElem_mem hj)
  have b0 := hB 0 (by omega)
  have b1 := hB 1 (by omega)
  have b2 := hB 2 (by omega)
  have b3 := hB 3 (by omega)
  rw [hv]
  have HD := Aside0.mk (show ∀ W, Kd.C (Kd.int .u8) W (some ad) b.length b → Kd.C (Kd.int .u8) W A2 (b.drop 4).length (b.drop 4) from fun W hW => by rw [hA2]; exact Kd.C_drop hW h hc)
  have HL := Aside0.mk (show (b.drop 4).length = b.length - 4 from List.length_drop)
  simp only [Int.ofNat_zero, Int.ofNat_one, Int.cast_ofNat_Int] at y0 y1 y2 y3 b0 b1 b2 b3
  generalize rd b 0 = x0 at y0 b0 ⊢
  generalize rd b 1 = x1 at y1 b1 ⊢
  generalize rd b 2 = x2 at y2 b2 ⊢
  generalize rd b 3 = x3 at y3 b3 ⊢
  obtain ⟨b00, b01⟩ := b0
  obtain ⟨b10, b11⟩ := b1
  obtain ⟨b20, b21⟩ := b2
  obtain ⟨b30, b31⟩ := b3
  have l0 : 0 < b.length := by omega
  have l1 : 1 < b.length := by omega
  have l2 : 2 < b.length := by omega
  have l3 : 3 < b.length := by omega
  have l4 : 4 ≤ b.length := h
  have z0 : w.cell? ad = some (.int .u8 x0) := by have h := y0; simpa [Addr.add] using h
  have z1 : w.cell? ⟨ad.block, ad.off + 1, none⟩ = some (.int .u8 x1) := by have h := y1; simpa [Addr.add] using h
  have z2 : w.cell? ⟨ad.block, ad.off + 2, none⟩ = some (.int .u8 x2) := by have h := y2; simpa [Addr.add] using h
  have z3 : w.cell? ⟨ad.block, ad.off + 3, none⟩ = some (.int .u8 x3) := by have h := y3; simpa [Addr.add] using h
  clear y0 y1 y2 y3
  clear hB hv hA2 hC hb hi hz1
  rw [HL.out]
  go_enter Try.func29, Try.ntmps29
  go_wp2
  go_region
  go_wp2
  go_ret3
  refine ⟨A2, c - 4, ?_, by have h := HD.out; rw [HL.out] at h; exact h, by omega, rfl⟩
  simp
  omega
end Go.Proofs.Ytdjiclphnoepcaa.P
