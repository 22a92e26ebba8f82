-- Written by a program of this session (a patched print): not the kit's own print.
import Derived.Test.YtdjiclphnoepcaaPx0
namespace Go.Proofs.Ytdjiclphnoepcaa.P
open Go.RowKit Go.Proofs.YtdjiclphnoepcaaW.PrintWords Go.Proofs.YtdjiclphnoepcaaW.PrintLast Go.Proofs.YtdjiclphnoepcaaW.PrintMore
attribute [local go_sem] Go.Proofs.YtdjiclphnoepcaaOwn.leq_str Go.Proofs.YtdjiclphnoepcaaOwn.gtr_str Go.Proofs.YtdjiclphnoepcaaOwn.geq_str max2_int min2_int max_two min_two max_three min_three max_four min_four   -- for this text's walks alone
set_option linter.unusedVariables false
set_option linter.unusedSimpArgs false

/-! ### node_rise: function 24 -/
mutual
def node_rise.l0 : Nat → List ByteArray → List ByteArray → Int → Int → Option (Bool)
  | 0, _, _, _, _ => none
  | k + 1, x0, x5, x6, x7 => if x7 < x6 then (if 0 ≤ x7 then (if x7 < (x5.length : Int) then (if ((rdOf ByteArray.empty x5 x7).size : Int) < 1 then (node_rise.j1 k x0 x5 x6 x7 true) else (if ((rdOf ByteArray.empty x5 x7).size : Int) > 120 then (node_rise.j1 k x0 x5 x6 x7 true) else (if x7 > 0 then (if 0 ≤ (wrap64 (x7 - 1)) then (if (wrap64 (x7 - 1)) < (x0.length : Int) then (node_rise.j1 k x0 x5 x6 x7 (!(Op.bytesLess ((rdOf ByteArray.empty x0 (wrap64 (x7 - 1))).toList) ((rdOf ByteArray.empty x5 x7).toList)))) else (none)) else (none)) else (node_rise.j1 k x0 x5 x6 x7 false)))) else (none)) else (none)) else (some true)
def node_rise.j1 : Nat → List ByteArray → List ByteArray → Int → Int → Bool → Option (Bool)
  | 0, _, _, _, _, _ => none
  | k + 1, x0, x5, x6, x7, x32 => if x32 = true then (some false) else (node_rise.l0 k x0 x5 x6 (wrap64 (x7 + 1)))
end
def node_rise.f (k : Nat) (l0 : List ByteArray) : Option (Bool) := node_rise.l0 k l0 l0 (l0.length : Int) 0
theorem node_rise.mono_l : ∀ k, (∀ y0 y1 y2 y3, LeO (node_rise.l0 k y0 y1 y2 y3) (node_rise.l0 (k + 1) y0 y1 y2 y3)) ∧ (∀ y0 y1 y2 y3 y4, LeO (node_rise.j1 k y0 y1 y2 y3 y4) (node_rise.j1 (k + 1) y0 y1 y2 y3 y4))
  | 0 => ⟨fun _ _ _ _ r h => by simp [node_rise.l0] at h, fun _ _ _ _ _ r h => by simp [node_rise.j1] at h⟩
  | k + 1 => by
    obtain ⟨ih0, ih1⟩ := node_rise.mono_l k
    refine ⟨?_, ?_⟩
    · intro y0 y1 y2 y3
      unfold node_rise.l0
      repeat' first
      | (with_reducible exact ih0 _ _ _ _)
      | (with_reducible exact ih1 _ _ _ _ _)
      | (with_reducible exact LeO.refl _)
      | (with_reducible exact LeO.none _)
      | (with_reducible refine LeO.ite ?_ ?_)
      | (with_reducible refine LeO.bind ?_ (fun _ => ?_))
      | exact ih0 _ _ _ _
      | exact ih1 _ _ _ _ _
      | exact LeO.none _
      | refine LeO.ite ?_ ?_
      | refine LeO.bind ?_ (fun _ => ?_)
    · intro y0 y1 y2 y3 y4
      unfold node_rise.j1
      repeat' first
      | (with_reducible exact ih0 _ _ _ _)
      | (with_reducible exact ih1 _ _ _ _ _)
      | (with_reducible exact LeO.refl _)
      | (with_reducible exact LeO.none _)
      | (with_reducible refine LeO.ite ?_ ?_)
      | (with_reducible refine LeO.bind ?_ (fun _ => ?_))
      | exact ih0 _ _ _ _
      | exact ih1 _ _ _ _ _
      | exact LeO.none _
      | refine LeO.ite ?_ ?_
      | refine LeO.bind ?_ (fun _ => ?_)
theorem node_rise.mono : ∀ a0 k, LeO (node_rise.f k a0) (node_rise.f (k + 1) a0) := by
  intro a0 k
  obtain ⟨ih0, ih1⟩ := node_rise.mono_l k
  unfold node_rise.f
  repeat' first
      | (with_reducible exact ih0 _ _ _ _)
      | (with_reducible exact ih1 _ _ _ _ _)
      | (with_reducible exact LeO.refl _)
      | (with_reducible exact LeO.none _)
      | (with_reducible refine LeO.ite ?_ ?_)
      | (with_reducible refine LeO.bind ?_ (fun _ => ?_))
      | exact ih0 _ _ _ _
      | exact ih1 _ _ _ _ _
      | exact LeO.none _
      | refine LeO.ite ?_ ?_
      | refine LeO.bind ?_ (fun _ => ?_)
set_option maxHeartbeats 8000000 in
set_option maxRecDepth 100000 in
theorem node_rise.calls (k : Nat) (A0 : Option Addr) (c0 : Nat) (l0 : List ByteArray) (r : Bool) (w : World) (hr0 : Kd.C Kd.string w A0 l0.length l0) (hc0 : l0.length ≤ c0) (h : node_rise.f k l0 = some r) :
    Calls Try.prog 24 #[.slice A0 l0.length c0] w fun e w' => e = .returned (.bool r) ∧ Drawn0 w w' := by
  have HR0 := Aside0.mk hr0
  have HC0 := Aside0.mk hc0
  clear hr0 hc0
  have H : (node_rise.l0 k l0 l0 (l0.length : Int) 0) = some r := h
  clear h
  have H' := Aside0.mk H
  clear H
  go_enter Try.func24, Try.ntmps24
  go_wp2
  go_loopg [7] k (fun kq v7 w' => ∃ (x7_1 : Int), v7 = .int .i64 x7_1 ∧ Aside0 (node_rise.l0 kq l0 l0 (l0.length : Int) x7_1 = some r) ∧ Aside0 (kq ≤ k) ∧ Drawn0 w w')
  case atStart => exact ⟨(0), (by first | rfl | (simp; done) | (simp [*]; done)), H', ⟨Nat.le_refl _⟩, by repeat (first | exact Drawn0.refl _ | apply Drawn0.step)⟩
  case round =>
    clear H'
    obtain ⟨x7_1, rfl, HA, HK1, ⟨m1, rfl⟩⟩ := hrel
    cases gk with
    | zero => exact absurd HA.out (by simp [node_rise.l0])
    | succ k1 =>
      have H := HA.out
      clear HA
      simp only [node_rise.l0] at H
      by_cases c2 : x7_1 < (l0.length : Int)
      · rw [if_pos c2] at H
        have c2b0 : decide (x7_1 < (l0.length : Int)) = true := decide_eq_true c2
        clear c2
        by_cases c3 : 0 ≤ x7_1
        · rw [if_pos c3] at H
          have c3b0 : decide (0 ≤ x7_1) = true := decide_eq_true c3
          clear c3
          by_cases c4 : x7_1 < (l0.length : Int)
          · rw [if_pos c4] at H
            have c4b0 : decide (x7_1 < (l0.length : Int)) = true := decide_eq_true c4
            clear c4
            have HC5 := Aside0.mk H
            clear H
            have p101 : 0 ≤ (x7_1 : Int) := of_decide_eq_true (by first | (with_reducible assumption) | assumption)
            have q101 : x7_1 < (l0.length : Int) := of_decide_eq_true (by first | (with_reducible assumption) | assumption)
            obtain ⟨ad101, e101, hx101_0⟩ := Kd.at_string HR0.out x7_1 p101 q101
            cases e101
            replace p101 := eq_true p101
            replace q101 := eq_true q101
            go_upto_region 4 with (fail)
            go_cut [32] (fun v32 wc => ∃ (kq : Nat) (x32_4 : Bool), v32 = .bool x32_4 ∧ Aside0 (node_rise.j1 kq l0 l0 (l0.length : Int) x7_1 x32_4 = some r) ∧ Aside0 (kq ≤ k1) ∧ Drawn0 w wc)
            case first =>
              have H := HC5.out
              clear HC5
              by_cases c6 : ((rdOf ByteArray.empty l0 x7_1).size : Int) < 1
              · rw [if_pos c6] at H
                have c6b0 : decide (((rdOf ByteArray.empty l0 x7_1).size : Int) < 1) = true := decide_eq_true c6
                have c6b1 : decide ((rdOf ByteArray.empty l0 x7_1).size < 1) = true := decide_eq_true (by omega)
                clear c6
                (first | rw [c6b0] | (simp only [i64_w, i32_w]; rw [c6b0]) | skip)
                have H' := Aside0.mk H
                clear H
                go_wp2
                go_meet
                case rel => exact ⟨_, (true), (by first | rfl | (simp; done) | (simp [*]; done)), H', ⟨by have := HK1.out; first | omega | exact Nat.le_refl _⟩, by repeat (first | exact Drawn0.refl _ | apply Drawn0.step)⟩
              · rw [if_neg c6] at H
                have c6b0 : decide (((rdOf ByteArray.empty l0 x7_1).size : Int) < 1) = false := decide_eq_false c6
                have c6b1 : decide ((rdOf ByteArray.empty l0 x7_1).size < 1) = false := decide_eq_false (by omega)
                clear c6
                (first | rw [c6b0] | (simp only [i64_w, i32_w]; rw [c6b0]) | skip)
                by_cases c7 : ((rdOf ByteArray.empty l0 x7_1).size : Int) > 120
                · rw [if_pos c7] at H
                  have c7b0 : decide (120 < ((rdOf ByteArray.empty l0 x7_1).size : Int)) = true := decide_eq_true c7
                  have c7b1 : decide (120 < (rdOf ByteArray.empty l0 x7_1).size) = true := decide_eq_true (by omega)
                  clear c7
                  have H' := Aside0.mk H
                  clear H
                  go_wp2
                  go_meet
                  case rel => exact ⟨_, (true), (by first | rfl | (simp; done) | (simp [*]; done)), H', ⟨by have := HK1.out; first | omega | exact Nat.le_refl _⟩, by repeat (first | exact Drawn0.refl _ | apply Drawn0.step)⟩
                · rw [if_neg c7] at H
                  have c7b0 : decide (120 < ((rdOf ByteArray.empty l0 x7_1).size : Int)) = false := decide_eq_false c7
                  have c7b1 : decide (120 < (rdOf ByteArray.empty l0 x7_1).size) = false := decide_eq_false (by omega)
                  clear c7
                  by_cases c8 : x7_1 > 0
                  · rw [if_pos c8] at H
                    have c8b0 : decide (0 < x7_1) = true := decide_eq_true c8
                    clear c8
                    obtain ⟨ji9, hji9⟩ : ∃ j_ : Int, (wrap64 (x7_1 - 1)) = j_ := ⟨_, rfl⟩
                    replace H : (if 0 ≤ (ji9) then (if (ji9) < (l0.length : Int) then (node_rise.j1 k1 l0 l0 (l0.length : Int) x7_1 (!(Op.bytesLess ((rdOf ByteArray.empty l0 (ji9)).toList) ((rdOf ByteArray.empty l0 x7_1).toList)))) else (none)) else (none)) = some r := by first | (rw [hji9] at H; exact H) | (simp only [hji9] at H ⊢; exact H)
                    have hji9w : (IntKind.i64.wrap (x7_1 - 1)) = ji9 := (i64_w _).trans hji9
                    by_cases c10 : 0 ≤ (ji9)
                    · rw [if_pos c10] at H
                      have c10b0 : decide (0 ≤ (ji9)) = true := decide_eq_true c10
                      clear c10
                      by_cases c11 : (ji9) < (l0.length : Int)
                      · rw [if_pos c11] at H
                        have c11b0 : decide ((ji9) < (l0.length : Int)) = true := decide_eq_true c11
                        clear c11
                        have H' := Aside0.mk H
                        clear H
                        have p102 : 0 ≤ ((ji9) : Int) := of_decide_eq_true (by first | (with_reducible assumption) | assumption)
                        have q102 : (ji9) < (l0.length : Int) := of_decide_eq_true (by first | (with_reducible assumption) | assumption)
                        obtain ⟨ad102, e102, hx102_0⟩ := Kd.at_string HR0.out (ji9) p102 q102
                        obtain rfl : ad101 = ad102 := (by injection e102)
                        replace p102 := eq_true p102
                        replace q102 := eq_true q102
                        go_wp2
                        go_meet
                        case rel => exact ⟨_, (!(Op.bytesLess ((rdOf ByteArray.empty l0 (ji9)).toList) ((rdOf ByteArray.empty l0 x7_1).toList))), (by first | rfl | (simp; done) | (simp only [← hji9] <;> (first | rfl | simp)) | (simp [*]; done)), H', ⟨by have := HK1.out; first | omega | exact Nat.le_refl _⟩, by repeat (first | exact Drawn0.refl _ | apply Drawn0.step)⟩
                      · rw [if_neg c11] at H
                        exact absurd H (by simp)
                    · rw [if_neg c10] at H
                      exact absurd H (by simp)
                  · rw [if_neg c8] at H
                    have c8b0 : decide (0 < x7_1) = false := decide_eq_false c8
                    clear c8
                    have H' := Aside0.mk H
                    clear H
                    go_wp2
                    go_meet
                    case rel => exact ⟨_, (false), (by first | rfl | (simp; done) | (simp [*]; done)), H', ⟨by have := HK1.out; first | omega | exact Nat.le_refl _⟩, by repeat (first | exact Drawn0.refl _ | apply Drawn0.step)⟩
            case rest =>
              clear HC5
              try clear c1
              try clear p1
              try clear q1
              try clear hx1
              try clear c2
              try clear c2b0
              try clear p2
              try clear c3
              try clear c3b0
              try clear c4
              try clear c4b0
              try clear c6
              try clear c6b0
              try clear c6b1
              try clear p6
              try clear c7
              try clear c7b0
              try clear c7b1
              try clear c8
              try clear c8b0
              try clear c10
              try clear c10b0
              try clear p10
              try clear q10
              try clear hx10
              try clear c11
              try clear c11b0
              try clear hx101_0
              try clear hx102_0
              try clear p101
              try clear p102
              try clear q101
              try clear q102
              obtain ⟨kq, x32_4, rfl, HA, HJ4, ⟨mc4, rfl⟩⟩ := hcut
              cases kq with
              | zero => exact absurd HA.out (by simp [node_rise.j1])
              | succ kj4 =>
                have H := HA.out
                clear HA
                simp only [node_rise.j1] at H
                by_cases c12 : x32_4 = true
                · subst c12
                  have H1 : (some false) = some r := by rw [if_pos rfl] at H; exact H
                  clear H
                  have H := H1
                  clear H1
                  obtain rfl := Option.some.inj H
                  go_wp2
                  go_ret
                  exact ⟨by first | rfl | (simp; done) | (simp [*]; done), by repeat (first | exact Drawn0.refl _ | apply Drawn0.step)⟩
                · replace c12 := Bool.eq_false_iff.mpr c12
                  subst c12
                  have H1 : (node_rise.l0 kj4 l0 l0 (l0.length : Int) (wrap64 (x7_1 + 1))) = some r := by rw [if_neg (show ¬ (false = true) by decide)] at H; exact H
                  clear H
                  have H := H1
                  clear H1
                  have H' := Aside0.mk H
                  clear H
                  go_wp2
                  go_roundg kj4
                  case measure => have := HK1.out; have := HJ4.out; omega
                  case rel => exact ⟨(wrap64 (x7_1 + 1)), (by first | rfl | (simp; done) | (simp [*]; done)), H', ⟨by have := HK1.out; have := HJ4.out; omega⟩, by repeat (first | exact Drawn0.refl _ | apply Drawn0.step)⟩
          · rw [if_neg c4] at H
            exact absurd H (by simp)
        · rw [if_neg c3] at H
          exact absurd H (by simp)
      · rw [if_neg c2] at H
        have c2b0 : decide (x7_1 < (l0.length : Int)) = false := decide_eq_false c2
        clear c2
        obtain rfl := Option.some.inj H
        go_wp2
        go_ret
        exact ⟨by first | rfl | (simp; done) | (simp [*]; done), by repeat (first | exact Drawn0.refl _ | apply Drawn0.step)⟩

end Go.Proofs.Ytdjiclphnoepcaa.P
