/- The contract of the document's cut, by hand. -/
import Derived.Test.YtdjiclphnoepcaaHandP
set_option linter.unusedVariables false
set_option linter.unusedSimpArgs false
namespace Go.Proofs.Ytdjiclphnoepcaa.P
open Go.RowKit Go.Proofs.YtdjiclphnoepcaaW.PrintWords Go.Proofs.YtdjiclphnoepcaaW.PrintLast Go.Proofs.YtdjiclphnoepcaaW.PrintMore Go.Proofs.YtdjiclphnoepcaaOwn
set_option maxHeartbeats 8000000 in
set_option maxRecDepth 100000 in
theorem cut_none (w : World) (A : Option Addr) (c : Nat) :
    Calls Try.prog 30 #[.slice A 0 c] w fun e w' => e = .returned (.tuple #[.string ⟨#[]⟩, .slice none 0 0, .bool false]) ∧ w' = w := by
  go_enter Try.func30, Try.ntmps30
  go_wp2
  go_ret3
  exact ⟨rfl, rfl⟩
set_option maxHeartbeats 8000000 in
set_option maxRecDepth 100000 in
theorem cut_short (w : World) (x : Int) (b : List Int) (A : Option Addr) (c : Nat) (hC : Kd.C (Kd.int .u8) w A (x :: b).length (x :: b)) (hx0 : 0 ≤ x) (hx1 : x ≤ 255) (h : (b.length : Int) < x) :
    Calls Try.prog 30 #[.slice A (x :: b).length c] w fun e w' => e = .returned (.tuple #[.string ⟨#[]⟩, .slice none 0 0, .bool false]) ∧ w' = w := by
  obtain ⟨ad, rfl, y0⟩ := at_u8 hC 0 (by simp)
  have z0 : w.cell? ad = some (.int .u8 x) := by have h := y0; simpa [Addr.add, rd] using h
  obtain ⟨n, hn⟩ : ∃ n, n = (x :: b).length := ⟨_, rfl⟩
  have hn1 : 0 < n := by rw [hn]; simp
  have hn2 : (n : Int) < 1 + x := by rw [hn]; simp; omega
  rw [← hn]
  clear y0 hC hn h
  go_enter Try.func30, Try.ntmps30
  go_wp2
  go_ret3
  exact ⟨rfl, rfl⟩
set_option maxHeartbeats 8000000 in
set_option maxRecDepth 100000 in
theorem cut_long (w : World) (m : Nat) (b : List Int) (A : Option Addr) (c : Nat) (hC : Kd.C (Kd.int .u8) w A ((m : Int) :: b).length ((m : Int) :: b)) (hc : ((m : Int) :: b).length ≤ c) (hx1 : m ≤ 255) (h : m ≤ b.length) :
    Calls Try.prog 30 #[.slice A ((m : Int) :: b).length c] w fun e w' => ∃ A2 c2, e = .returned (.tuple #[.string (strOfNums (b.take m)), .slice A2 (b.drop m).length c2, .bool true]) ∧ (∀ W, Kd.C (Kd.int .u8) W A ((m : Int) :: b).length ((m : Int) :: b) → Kd.C (Kd.int .u8) W A2 (b.drop m).length (b.drop m)) ∧ (b.drop m).length ≤ c2 ∧ w' = w.drew := by
  obtain ⟨i0, hi, hzz⟩ := Option.map_eq_some_iff.1 info5
  simp only [Prod.mk.injEq] at hzz
  obtain ⟨_, hz1, _⟩ := hzz
  obtain ⟨ad, rfl, y0⟩ := at_u8 hC 0 (by simp)
  have z0 : w.cell? ad = some (.int .u8 (m : Int)) := by have h := y0; simpa [Addr.add, rd] using h
  have hm1 := Kd.C_mid (lo := 1) (hi := 1 + m) hC (by omega) (by simp; omega) hc
  have hm2 := fun W hW => Kd.C_drop (w := W) (m := 1 + m) (k := Kd.int .u8) (A := some ad) (xs := (m : Int) :: b) hW (by simp; omega) hc
  obtain ⟨n, hn⟩ : ∃ n, n = ((m : Int) :: b).length := ⟨_, rfl⟩
  have hn0 : n = b.length + 1 := by rw [hn]; simp
  rw [← hn] at hc
  obtain ⟨A1, hA1⟩ : ∃ A1, A1 = (if c = 1 then some ad else (some ad : Option Addr).map (·.add (1 * 1))) := ⟨_, rfl⟩
  obtain ⟨A2, hA2⟩ : ∃ A2, A2 = (if c = 1 + m then some ad else (some ad : Option Addr).map (·.add ((1 + m) * 1))) := ⟨_, rfl⟩
  have e1 : (((m : Int) :: b).take (1 + m)).drop 1 = b.take m := by rw [Nat.add_comm 1 m]; simp
  have e2 : ((m : Int) :: b).drop (1 + m) = b.drop m := by rw [Nat.add_comm 1 m]; simp
  rw [e1] at hm1
  simp only [e2] at hm2
  have hlm : (b.take m).length = m := by rw [List.length_take]; omega
  have k1 : ∀ W : World, (Instr.slice 28 (.slice (some ad) n c) (some (.int .i64 1)) (some (.int .i64 (1 + (m : Int)))) none).run Try.prog W = .ok (.slice A1 m (c - 1)) W := fun W => by
    have h2 := cut_mid (P := Try.prog) 28 5 .i64 .i64 Try.underlying28 hi 1 hz1 (some ad) n c (1 : Int) (1 + (m : Int)) (by omega) (by omega) (by omega) hc W
    rw [show (1 + (m : Int)).toNat = 1 + m by omega, show (1 : Int).toNat = 1 from rfl, show 1 + m - 1 = m by omega] at h2
    rw [hA1]; exact h2
  have k2 : ∀ W : World, (Instr.slice 28 (.slice (some ad) n c) (some (.int .i64 (1 + (m : Int)))) none none).run Try.prog W = .ok (.slice A2 (n - (1 + m)) (c - (1 + m))) W := fun W => by
    have h2 := cut_from (P := Try.prog) 28 5 .i64 Try.underlying28 hi 1 hz1 (some ad) n c (1 + (m : Int)) (by omega) (by omega) W
    rw [show (1 + (m : Int)).toNat = 1 + m by omega] at h2
    rw [hA2]; exact h2
  have hm1' : Kd.C (Kd.int .u8) w A1 m (b.take m) := by rw [hA1]; rw [hlm] at hm1; exact hm1
  have kc := Kd.C_string (P := Try.prog) Try.underlying28 Try.underlying5 Try.underlying9 (c := c - 1) (Kd.C_drew hm1')
  have HD := Aside0.mk (show ∀ W, Kd.C (Kd.int .u8) W (some ad) n ((m : Int) :: b) → Kd.C (Kd.int .u8) W A2 (b.drop m).length (b.drop m) from fun W hW => by rw [hA2]; exact hm2 W (by rw [← hn]; exact hW))
  have HL := Aside0.mk (show (b.drop m).length = n - (1 + m) by rw [List.length_drop]; omega)
  have l0 : 0 < n := by omega
  have l1 : ¬ ((n : Int) < 1 + (m : Int)) := by omega
  have HN := Aside0.mk hn0
  rw [← hn]
  rw [HL.out]
  generalize strOfNums (b.take m) = s at kc ⊢
  clear y0 hC hm1 hm2 hm1' hn e1 e2 hlm hA1 hA2 hi hz1 hn0
  go_enter Try.func30, Try.ntmps30
  go_wp2
  go_region
  go_wp2
  go_ret3
  exact ⟨A2, c - (1 + m), rfl, by have h := HD.out; rw [HL.out] at h; exact h, by omega, rfl⟩
end Go.Proofs.Ytdjiclphnoepcaa.P
