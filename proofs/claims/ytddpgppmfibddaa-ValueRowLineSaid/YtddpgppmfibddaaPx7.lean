-- Written by a program of this session (a patched print): not the kit's own print.
import Derived.Test.YtddpgppmfibddaaPx0
import Derived.Test.YtddpgppmfibddaaPx2
import Derived.Test.YtddpgppmfibddaaPx3
import Derived.Test.YtddpgppmfibddaaPx4
import Derived.Test.YtddpgppmfibddaaPx6
import Derived.Test.YtddpgppmfibddaaHandA
namespace Go.Proofs.Ytddpgppmfibddaa.P
open Go.RowKit Go.Proofs.YtddpgppmfibddaaW.PrintWords Go.Proofs.YtddpgppmfibddaaW.PrintLast Go.Proofs.YtddpgppmfibddaaW.PrintMore
attribute [local go_sem] max2_int min2_int max_two min_two max_three min_three max_four min_four   -- for this text's walks alone
set_option linter.unusedVariables false
set_option linter.unusedSimpArgs false

/-! ### tailracelaw01_ValueRowLine: function 7 -/
mutual
def tailracelaw01_ValueRowLine.j0 : Nat → List (S24) → List (S24) → List (S24) → Bool → Bool → Option (Bool)
  | 0, _, _, _, _, _ => none
  | k + 1, x0, x1, x2, x7, x26 => if x26 = true then (some x7) else ((value_CmpRow.f k x0 x1).bind fun t200 => ((value_CmpRow.f k x1 x2).bind fun t201 => ((value_CmpRow.f k x0 x2).bind fun t202 => (if t200 ≤ 0 then (if t201 ≤ 0 then (if t202 > 0 then (tailracelaw01_ValueRowLine.j1 k x0 x1 x7 t200 true) else (if t200 < 0 then (if t202 ≥ 0 then (tailracelaw01_ValueRowLine.j1 k x0 x1 x7 t200 true) else ((value_CmpRow.f k x1 x0).bind fun t203 => (tailracelaw01_ValueRowLine.j1 k x0 x1 x7 t200 (t203 != (wrap64 (-t200)))))) else ((value_CmpRow.f k x1 x0).bind fun t204 => (tailracelaw01_ValueRowLine.j1 k x0 x1 x7 t200 (t204 != (wrap64 (-t200))))))) else (if t200 < 0 then ((value_CmpRow.f k x1 x0).bind fun t205 => (tailracelaw01_ValueRowLine.j1 k x0 x1 x7 t200 (t205 != (wrap64 (-t200))))) else ((value_CmpRow.f k x1 x0).bind fun t206 => (tailracelaw01_ValueRowLine.j1 k x0 x1 x7 t200 (t206 != (wrap64 (-t200))))))) else (if t200 < 0 then (if t201 ≤ 0 then (if t202 ≥ 0 then (tailracelaw01_ValueRowLine.j1 k x0 x1 x7 t200 true) else ((value_CmpRow.f k x1 x0).bind fun t207 => (tailracelaw01_ValueRowLine.j1 k x0 x1 x7 t200 (t207 != (wrap64 (-t200)))))) else ((value_CmpRow.f k x1 x0).bind fun t208 => (tailracelaw01_ValueRowLine.j1 k x0 x1 x7 t200 (t208 != (wrap64 (-t200)))))) else ((value_CmpRow.f k x1 x0).bind fun t209 => (tailracelaw01_ValueRowLine.j1 k x0 x1 x7 t200 (t209 != (wrap64 (-t200))))))))))
def tailracelaw01_ValueRowLine.j1 : Nat → List (S24) → List (S24) → Bool → Int → Bool → Option (Bool)
  | 0, _, _, _, _, _ => none
  | k + 1, x0, x1, x7, x8, x66 => if x66 = true then (some false) else ((some (([] : List (S24)) : List (S24))).bind fun y210 => (if y210.length + x0.length < 4398046511104 then ((some (y210 ++ x0 : List (S24))).bind fun y213 => (if y213.length < 4398046511104 then ((tailraceref01_Same.f k x0 x1).bind fun t219 => (if x7 = true then (if ((x8 == 0) == t219) = true then ((value_CmpRow.f k x0 (y213 ++ [(⟨1, 0, (⟨#[]⟩ : ByteArray)⟩ : S24)])).bind fun t220 => (some (t220 == (-1)))) else (some false)) else (some false))) else (none))) else (none)))
end
def tailracelaw01_ValueRowLine.f (k : Nat) (l0 : List (S24)) (l1 : List (S24)) (l2 : List (S24)) : Option (Bool) := (tailracelaw01_awake.f k).bind fun t199 => (if (l0.length : Int) > 200 then (tailracelaw01_ValueRowLine.j0 k l0 l1 l2 t199 true) else (if (l1.length : Int) > 200 then (tailracelaw01_ValueRowLine.j0 k l0 l1 l2 t199 true) else (tailracelaw01_ValueRowLine.j0 k l0 l1 l2 t199 (decide ((l2.length : Int) > 200)))))
theorem tailracelaw01_ValueRowLine.mono_l : ∀ k, (∀ y0 y1 y2 y3 y4, LeO (tailracelaw01_ValueRowLine.j0 k y0 y1 y2 y3 y4) (tailracelaw01_ValueRowLine.j0 (k + 1) y0 y1 y2 y3 y4)) ∧ (∀ y0 y1 y2 y3 y4, LeO (tailracelaw01_ValueRowLine.j1 k y0 y1 y2 y3 y4) (tailracelaw01_ValueRowLine.j1 (k + 1) y0 y1 y2 y3 y4))
  | 0 => ⟨fun _ _ _ _ _ r h => by simp [tailracelaw01_ValueRowLine.j0] at h, fun _ _ _ _ _ r h => by simp [tailracelaw01_ValueRowLine.j1] at h⟩
  | k + 1 => by
    obtain ⟨ih0, ih1⟩ := tailracelaw01_ValueRowLine.mono_l k
    refine ⟨?_, ?_⟩
    · intro y0 y1 y2 y3 y4
      unfold tailracelaw01_ValueRowLine.j0
      repeat' first
      | (with_reducible exact ih0 _ _ _ _ _)
      | (with_reducible exact ih1 _ _ _ _ _)
      | (with_reducible exact tailracelaw01_awake.mono _)
      | (with_reducible exact tailraceref01_Same.mono _ _ _)
      | (with_reducible exact value_CmpRow.mono _ _ _)
      | (with_reducible exact LeO.refl _)
      | (with_reducible exact LeO.none _)
      | (with_reducible refine LeO.ite ?_ ?_)
      | (with_reducible refine LeO.bind ?_ (fun _ => ?_))
      | exact ih0 _ _ _ _ _
      | exact ih1 _ _ _ _ _
      | exact tailracelaw01_awake.mono _
      | exact tailraceref01_Same.mono _ _ _
      | exact value_CmpRow.mono _ _ _
      | exact LeO.none _
      | refine LeO.ite ?_ ?_
      | refine LeO.bind ?_ (fun _ => ?_)
    · intro y0 y1 y2 y3 y4
      unfold tailracelaw01_ValueRowLine.j1
      repeat' first
      | (with_reducible exact ih0 _ _ _ _ _)
      | (with_reducible exact ih1 _ _ _ _ _)
      | (with_reducible exact tailracelaw01_awake.mono _)
      | (with_reducible exact tailraceref01_Same.mono _ _ _)
      | (with_reducible exact value_CmpRow.mono _ _ _)
      | (with_reducible exact LeO.refl _)
      | (with_reducible exact LeO.none _)
      | (with_reducible refine LeO.ite ?_ ?_)
      | (with_reducible refine LeO.bind ?_ (fun _ => ?_))
      | exact ih0 _ _ _ _ _
      | exact ih1 _ _ _ _ _
      | exact tailracelaw01_awake.mono _
      | exact tailraceref01_Same.mono _ _ _
      | exact value_CmpRow.mono _ _ _
      | exact LeO.none _
      | refine LeO.ite ?_ ?_
      | refine LeO.bind ?_ (fun _ => ?_)
theorem tailracelaw01_ValueRowLine.mono : ∀ a0 a1 a2 k, LeO (tailracelaw01_ValueRowLine.f k a0 a1 a2) (tailracelaw01_ValueRowLine.f (k + 1) a0 a1 a2) := by
  intro a0 a1 a2 k
  obtain ⟨ih0, ih1⟩ := tailracelaw01_ValueRowLine.mono_l k
  unfold tailracelaw01_ValueRowLine.f
  repeat' first
      | (with_reducible exact ih0 _ _ _ _ _)
      | (with_reducible exact ih1 _ _ _ _ _)
      | (with_reducible exact tailracelaw01_awake.mono _)
      | (with_reducible exact tailraceref01_Same.mono _ _ _)
      | (with_reducible exact value_CmpRow.mono _ _ _)
      | (with_reducible exact LeO.refl _)
      | (with_reducible exact LeO.none _)
      | (with_reducible refine LeO.ite ?_ ?_)
      | (with_reducible refine LeO.bind ?_ (fun _ => ?_))
      | exact ih0 _ _ _ _ _
      | exact ih1 _ _ _ _ _
      | exact tailracelaw01_awake.mono _
      | exact tailraceref01_Same.mono _ _ _
      | exact value_CmpRow.mono _ _ _
      | exact LeO.none _
      | refine LeO.ite ?_ ?_
      | refine LeO.bind ?_ (fun _ => ?_)
set_option maxHeartbeats 8000000 in
set_option maxRecDepth 100000 in
theorem tailracelaw01_ValueRowLine.calls (k : Nat) (A0 : Option Addr) (c0 : Nat) (l0 : List (S24)) (A1 : Option Addr) (c1 : Nat) (l1 : List (S24)) (A2 : Option Addr) (c2 : Nat) (l2 : List (S24)) (r : Bool) (w : World) (hr0 : Kd.C k24 w A0 l0.length l0) (hc0 : l0.length ≤ c0) (hr1 : Kd.C k24 w A1 l1.length l1) (hc1 : l1.length ≤ c1) (hr2 : Kd.C k24 w A2 l2.length l2) (hc2 : l2.length ≤ c2) (h : tailracelaw01_ValueRowLine.f k l0 l1 l2 = some r) :
    Calls Try.prog 7 #[.slice A0 l0.length c0, .slice A1 l1.length c1, .slice A2 l2.length c2] w fun e w' => e = .returned (.bool r) ∧ Below w.heap.size w w' := by
  have hu24 := Try.underlying24
  have HR0 := Aside0.mk hr0
  have HC0 := Aside0.mk hc0
  clear hr0 hc0
  have HR1 := Aside0.mk hr1
  have HC1 := Aside0.mk hc1
  clear hr1 hc1
  have HR2 := Aside0.mk hr2
  have HC2 := Aside0.mk hc2
  clear hr2 hc2
  have HB := Aside0.mk (Below.refl w.heap.size w)
  have H : ((tailracelaw01_awake.f k).bind fun t199 => (if (l0.length : Int) > 200 then (tailracelaw01_ValueRowLine.j0 k l0 l1 l2 t199 true) else (if (l1.length : Int) > 200 then (tailracelaw01_ValueRowLine.j0 k l0 l1 l2 t199 true) else (tailracelaw01_ValueRowLine.j0 k l0 l1 l2 t199 (decide ((l2.length : Int) > 200)))))) = some r := h
  clear h
  replace H := Option.bind_eq_some_iff.mp H
  obtain ⟨t199, A40, H⟩ := H
  replace H : (if (l0.length : Int) > 200 then (tailracelaw01_ValueRowLine.j0 k l0 l1 l2 t199 true) else (if (l1.length : Int) > 200 then (tailracelaw01_ValueRowLine.j0 k l0 l1 l2 t199 true) else (tailracelaw01_ValueRowLine.j0 k l0 l1 l2 t199 (decide ((l2.length : Int) > 200))))) = some r := H
  have A4 := Aside0.mk A40
  clear A40
  have HC5 := Aside0.mk H
  clear H
  go_enter Try.func7, Try.ntmps7
  go_upto_region 2 with (first | ((with_reducible refine gate_callee (f := 9) rfl ?_); refine goesL_ (some 13) rfl rfl Try.func9 (by kernel_rfl) rfl #[] rfl (by (try simp only [List.map_toArray, List.map_cons, List.map_nil]); first | done | rfl | (simp only [List.length_drop, List.length_take]; rfl)) ?_; (with_reducible refine (tailracelaw01_awake.calls k  t199 _ A4.out).mono ?_); rintro e w6 ⟨rfl, hb⟩; refine ⟨_, rfl, ?_⟩; have n0_ := Aside0.mk (below_step (by repeat (first | (with_reducible first | exact HB.out | apply below_alloc | apply pw_below_drewN | apply below_drew1) | exact HB.out)) hb); clear HB; have HB := n0_; clear n0_; (try clear hb); (try clear hb2); (try clear hk); (try clear hi)))
  (try simp only [Act.put, List.setIfInBounds_toArray, List.set_cons_zero, List.set_cons_succ])
  go_cut [26] (fun v26 wc => ∃ (kq : Nat) (x26_4 : Bool), v26 = .bool x26_4 ∧ Aside0 (tailracelaw01_ValueRowLine.j0 kq l0 l1 l2 t199 x26_4 = some r) ∧ Aside0 (kq ≤ k) ∧ Aside0 (Below w.heap.size w wc))
  case first =>
    have H := HC5.out
    clear HC5
    by_cases c7 : (l0.length : Int) > 200
    · rw [if_pos c7] at H
      have c7b0 : decide (200 < (l0.length : Int)) = true := decide_eq_true c7
      have c7b1 : decide (200 < l0.length) = true := decide_eq_true (by omega)
      clear c7
      (first | rw [c7b0] | (simp only [i64_w, i32_w]; rw [c7b0]) | skip)
      have H' := Aside0.mk H
      clear H
      go_wp2
      go_meet
      case rel => exact ⟨_, (true), (by first | rfl | (simp; done) | (simp [*]; done)), H', ⟨by first | omega | exact Nat.le_refl _⟩, ⟨by repeat (first | (with_reducible first | exact HB.out | apply below_alloc | apply pw_below_drewN | apply below_drew1) | exact HB.out)⟩⟩
    · rw [if_neg c7] at H
      have c7b0 : decide (200 < (l0.length : Int)) = false := decide_eq_false c7
      have c7b1 : decide (200 < l0.length) = false := decide_eq_false (by omega)
      clear c7
      (first | rw [c7b0] | (simp only [i64_w, i32_w]; rw [c7b0]) | skip)
      by_cases c8 : (l1.length : Int) > 200
      · rw [if_pos c8] at H
        have c8b0 : decide (200 < (l1.length : Int)) = true := decide_eq_true c8
        have c8b1 : decide (200 < l1.length) = true := decide_eq_true (by omega)
        clear c8
        have H' := Aside0.mk H
        clear H
        go_wp2
        go_meet
        case rel => exact ⟨_, (true), (by first | rfl | (simp; done) | (simp [*]; done)), H', ⟨by first | omega | exact Nat.le_refl _⟩, ⟨by repeat (first | (with_reducible first | exact HB.out | apply below_alloc | apply pw_below_drewN | apply below_drew1) | exact HB.out)⟩⟩
      · rw [if_neg c8] at H
        have c8b0 : decide (200 < (l1.length : Int)) = false := decide_eq_false c8
        have c8b1 : decide (200 < l1.length) = false := decide_eq_false (by omega)
        clear c8
        have H' := Aside0.mk H
        clear H
        go_wp2
        go_meet
        case rel => exact ⟨_, (decide ((l2.length : Int) > 200)), (by first | rfl | (simp; done) | (simp [*]; done)), H', ⟨by first | omega | exact Nat.le_refl _⟩, ⟨by repeat (first | (with_reducible first | exact HB.out | apply below_alloc | apply pw_below_drewN | apply below_drew1) | exact HB.out)⟩⟩
  case rest =>
    clear HC5
    try clear c1
    try clear c2
    try clear p2
    try clear c7
    try clear c7b0
    try clear c7b1
    try clear c8
    try clear c8b0
    try clear c8b1
    obtain ⟨kq, x26_4, rfl, HA, HJ4, HB⟩ := hcut
    cases kq with
    | zero => exact absurd HA.out (by simp [tailracelaw01_ValueRowLine.j0])
    | succ kj4 =>
      have H := HA.out
      clear HA
      simp only [tailracelaw01_ValueRowLine.j0] at H
      by_cases c9 : x26_4 = true
      · subst c9
        have H1 : (some t199) = some r := by rw [if_pos rfl] at H; exact H
        clear H
        have H := H1
        clear H1
        obtain rfl := Option.some.inj H
        go_wp2
        go_ret
        exact ⟨by first | rfl | (simp [errW_none, errW_some] <;> rfl) | (simp [*, errW_none, errW_some] <;> rfl), by repeat (first | (with_reducible first | exact HB.out | apply below_alloc | apply pw_below_drewN | apply below_drew1) | exact HB.out)⟩
      · replace c9 := Bool.eq_false_iff.mpr c9
        subst c9
        have H1 : ((value_CmpRow.f kj4 l0 l1).bind fun t200 => ((value_CmpRow.f kj4 l1 l2).bind fun t201 => ((value_CmpRow.f kj4 l0 l2).bind fun t202 => (if t200 ≤ 0 then (if t201 ≤ 0 then (if t202 > 0 then (tailracelaw01_ValueRowLine.j1 kj4 l0 l1 t199 t200 true) else (if t200 < 0 then (if t202 ≥ 0 then (tailracelaw01_ValueRowLine.j1 kj4 l0 l1 t199 t200 true) else ((value_CmpRow.f kj4 l1 l0).bind fun t203 => (tailracelaw01_ValueRowLine.j1 kj4 l0 l1 t199 t200 (t203 != (wrap64 (-t200)))))) else ((value_CmpRow.f kj4 l1 l0).bind fun t204 => (tailracelaw01_ValueRowLine.j1 kj4 l0 l1 t199 t200 (t204 != (wrap64 (-t200))))))) else (if t200 < 0 then ((value_CmpRow.f kj4 l1 l0).bind fun t205 => (tailracelaw01_ValueRowLine.j1 kj4 l0 l1 t199 t200 (t205 != (wrap64 (-t200))))) else ((value_CmpRow.f kj4 l1 l0).bind fun t206 => (tailracelaw01_ValueRowLine.j1 kj4 l0 l1 t199 t200 (t206 != (wrap64 (-t200))))))) else (if t200 < 0 then (if t201 ≤ 0 then (if t202 ≥ 0 then (tailracelaw01_ValueRowLine.j1 kj4 l0 l1 t199 t200 true) else ((value_CmpRow.f kj4 l1 l0).bind fun t207 => (tailracelaw01_ValueRowLine.j1 kj4 l0 l1 t199 t200 (t207 != (wrap64 (-t200)))))) else ((value_CmpRow.f kj4 l1 l0).bind fun t208 => (tailracelaw01_ValueRowLine.j1 kj4 l0 l1 t199 t200 (t208 != (wrap64 (-t200)))))) else ((value_CmpRow.f kj4 l1 l0).bind fun t209 => (tailracelaw01_ValueRowLine.j1 kj4 l0 l1 t199 t200 (t209 != (wrap64 (-t200)))))))))) = some r := by rw [if_neg (show ¬ (false = true) by decide)] at H; exact H
        clear H
        have H := H1
        clear H1
        replace H := Option.bind_eq_some_iff.mp H
        obtain ⟨t200, A100, H⟩ := H
        replace H : ((value_CmpRow.f kj4 l1 l2).bind fun t201 => ((value_CmpRow.f kj4 l0 l2).bind fun t202 => (if t200 ≤ 0 then (if t201 ≤ 0 then (if t202 > 0 then (tailracelaw01_ValueRowLine.j1 kj4 l0 l1 t199 t200 true) else (if t200 < 0 then (if t202 ≥ 0 then (tailracelaw01_ValueRowLine.j1 kj4 l0 l1 t199 t200 true) else ((value_CmpRow.f kj4 l1 l0).bind fun t203 => (tailracelaw01_ValueRowLine.j1 kj4 l0 l1 t199 t200 (t203 != (wrap64 (-t200)))))) else ((value_CmpRow.f kj4 l1 l0).bind fun t204 => (tailracelaw01_ValueRowLine.j1 kj4 l0 l1 t199 t200 (t204 != (wrap64 (-t200))))))) else (if t200 < 0 then ((value_CmpRow.f kj4 l1 l0).bind fun t205 => (tailracelaw01_ValueRowLine.j1 kj4 l0 l1 t199 t200 (t205 != (wrap64 (-t200))))) else ((value_CmpRow.f kj4 l1 l0).bind fun t206 => (tailracelaw01_ValueRowLine.j1 kj4 l0 l1 t199 t200 (t206 != (wrap64 (-t200))))))) else (if t200 < 0 then (if t201 ≤ 0 then (if t202 ≥ 0 then (tailracelaw01_ValueRowLine.j1 kj4 l0 l1 t199 t200 true) else ((value_CmpRow.f kj4 l1 l0).bind fun t207 => (tailracelaw01_ValueRowLine.j1 kj4 l0 l1 t199 t200 (t207 != (wrap64 (-t200)))))) else ((value_CmpRow.f kj4 l1 l0).bind fun t208 => (tailracelaw01_ValueRowLine.j1 kj4 l0 l1 t199 t200 (t208 != (wrap64 (-t200)))))) else ((value_CmpRow.f kj4 l1 l0).bind fun t209 => (tailracelaw01_ValueRowLine.j1 kj4 l0 l1 t199 t200 (t209 != (wrap64 (-t200))))))))) = some r := H
        have A10 := Aside0.mk A100
        clear A100
        replace H := Option.bind_eq_some_iff.mp H
        obtain ⟨t201, A110, H⟩ := H
        replace H : ((value_CmpRow.f kj4 l0 l2).bind fun t202 => (if t200 ≤ 0 then (if t201 ≤ 0 then (if t202 > 0 then (tailracelaw01_ValueRowLine.j1 kj4 l0 l1 t199 t200 true) else (if t200 < 0 then (if t202 ≥ 0 then (tailracelaw01_ValueRowLine.j1 kj4 l0 l1 t199 t200 true) else ((value_CmpRow.f kj4 l1 l0).bind fun t203 => (tailracelaw01_ValueRowLine.j1 kj4 l0 l1 t199 t200 (t203 != (wrap64 (-t200)))))) else ((value_CmpRow.f kj4 l1 l0).bind fun t204 => (tailracelaw01_ValueRowLine.j1 kj4 l0 l1 t199 t200 (t204 != (wrap64 (-t200))))))) else (if t200 < 0 then ((value_CmpRow.f kj4 l1 l0).bind fun t205 => (tailracelaw01_ValueRowLine.j1 kj4 l0 l1 t199 t200 (t205 != (wrap64 (-t200))))) else ((value_CmpRow.f kj4 l1 l0).bind fun t206 => (tailracelaw01_ValueRowLine.j1 kj4 l0 l1 t199 t200 (t206 != (wrap64 (-t200))))))) else (if t200 < 0 then (if t201 ≤ 0 then (if t202 ≥ 0 then (tailracelaw01_ValueRowLine.j1 kj4 l0 l1 t199 t200 true) else ((value_CmpRow.f kj4 l1 l0).bind fun t207 => (tailracelaw01_ValueRowLine.j1 kj4 l0 l1 t199 t200 (t207 != (wrap64 (-t200)))))) else ((value_CmpRow.f kj4 l1 l0).bind fun t208 => (tailracelaw01_ValueRowLine.j1 kj4 l0 l1 t199 t200 (t208 != (wrap64 (-t200)))))) else ((value_CmpRow.f kj4 l1 l0).bind fun t209 => (tailracelaw01_ValueRowLine.j1 kj4 l0 l1 t199 t200 (t209 != (wrap64 (-t200)))))))) = some r := H
        have A11 := Aside0.mk A110
        clear A110
        replace H := Option.bind_eq_some_iff.mp H
        obtain ⟨t202, A120, H⟩ := H
        replace H : (if t200 ≤ 0 then (if t201 ≤ 0 then (if t202 > 0 then (tailracelaw01_ValueRowLine.j1 kj4 l0 l1 t199 t200 true) else (if t200 < 0 then (if t202 ≥ 0 then (tailracelaw01_ValueRowLine.j1 kj4 l0 l1 t199 t200 true) else ((value_CmpRow.f kj4 l1 l0).bind fun t203 => (tailracelaw01_ValueRowLine.j1 kj4 l0 l1 t199 t200 (t203 != (wrap64 (-t200)))))) else ((value_CmpRow.f kj4 l1 l0).bind fun t204 => (tailracelaw01_ValueRowLine.j1 kj4 l0 l1 t199 t200 (t204 != (wrap64 (-t200))))))) else (if t200 < 0 then ((value_CmpRow.f kj4 l1 l0).bind fun t205 => (tailracelaw01_ValueRowLine.j1 kj4 l0 l1 t199 t200 (t205 != (wrap64 (-t200))))) else ((value_CmpRow.f kj4 l1 l0).bind fun t206 => (tailracelaw01_ValueRowLine.j1 kj4 l0 l1 t199 t200 (t206 != (wrap64 (-t200))))))) else (if t200 < 0 then (if t201 ≤ 0 then (if t202 ≥ 0 then (tailracelaw01_ValueRowLine.j1 kj4 l0 l1 t199 t200 true) else ((value_CmpRow.f kj4 l1 l0).bind fun t207 => (tailracelaw01_ValueRowLine.j1 kj4 l0 l1 t199 t200 (t207 != (wrap64 (-t200)))))) else ((value_CmpRow.f kj4 l1 l0).bind fun t208 => (tailracelaw01_ValueRowLine.j1 kj4 l0 l1 t199 t200 (t208 != (wrap64 (-t200)))))) else ((value_CmpRow.f kj4 l1 l0).bind fun t209 => (tailracelaw01_ValueRowLine.j1 kj4 l0 l1 t199 t200 (t209 != (wrap64 (-t200))))))) = some r := H
        have A12 := Aside0.mk A120
        clear A120
        have HC13 := Aside0.mk H
        clear H
        go_upto_region 7 with (first | ((with_reducible refine gate_callee (f := 19) rfl ?_); refine goesL_ (some 30) rfl rfl Try.func19 (by kernel_rfl) rfl #[.slice A0 l0.length c0, .slice A1 l1.length c1] rfl (by (try simp only [List.map_toArray, List.map_cons, List.map_nil]); first | done | rfl | (simp only [List.length_drop, List.length_take]; rfl)) ?_; (with_reducible refine (value_CmpRow.calls kj4 _ _ l0 _ _ l1 t200 _ ?side1 ?side2 ?side3 ?side4 A10.out).mono ?_); (case side1 => repeat (first | exact (Kd.C_below HR0.out HB.out) | (with_reducible refine Kd.C_alloc ?_ _) | (with_reducible refine Kd.C_drewN ?_ _) | (with_reducible refine Kd.C_drew ?_))); (case side2 => exact HC0.out); (case side3 => repeat (first | exact (Kd.C_below HR1.out HB.out) | (with_reducible refine Kd.C_alloc ?_ _) | (with_reducible refine Kd.C_drewN ?_ _) | (with_reducible refine Kd.C_drew ?_))); (case side4 => exact HC1.out); rintro e w14 ⟨rfl, hb⟩; refine ⟨_, rfl, ?_⟩; have n0_ := Aside0.mk (below_step (by repeat (first | (with_reducible first | exact HB.out | apply below_alloc | apply pw_below_drewN | apply below_drew1) | exact HB.out)) hb); clear HB; have HB := n0_; clear n0_; (try clear hb); (try clear hb2); (try clear hk); (try clear hi)) | ((with_reducible refine gate_callee (f := 19) rfl ?_); refine goesL_ (some 33) rfl rfl Try.func19 (by kernel_rfl) rfl #[.slice A1 l1.length c1, .slice A2 l2.length c2] rfl (by (try simp only [List.map_toArray, List.map_cons, List.map_nil]); first | done | rfl | (simp only [List.length_drop, List.length_take]; rfl)) ?_; (with_reducible refine (value_CmpRow.calls kj4 _ _ l1 _ _ l2 t201 _ ?side1 ?side2 ?side3 ?side4 A11.out).mono ?_); (case side1 => repeat (first | exact (Kd.C_below HR1.out HB.out) | (with_reducible refine Kd.C_alloc ?_ _) | (with_reducible refine Kd.C_drewN ?_ _) | (with_reducible refine Kd.C_drew ?_))); (case side2 => exact HC1.out); (case side3 => repeat (first | exact (Kd.C_below HR2.out HB.out) | (with_reducible refine Kd.C_alloc ?_ _) | (with_reducible refine Kd.C_drewN ?_ _) | (with_reducible refine Kd.C_drew ?_))); (case side4 => exact HC2.out); rintro e w15 ⟨rfl, hb⟩; refine ⟨_, rfl, ?_⟩; have n0_ := Aside0.mk (below_step (by repeat (first | (with_reducible first | exact HB.out | apply below_alloc | apply pw_below_drewN | apply below_drew1) | exact HB.out)) hb); clear HB; have HB := n0_; clear n0_; (try clear hb); (try clear hb2); (try clear hk); (try clear hi)) | ((with_reducible refine gate_callee (f := 19) rfl ?_); refine goesL_ (some 36) rfl rfl Try.func19 (by kernel_rfl) rfl #[.slice A0 l0.length c0, .slice A2 l2.length c2] rfl (by (try simp only [List.map_toArray, List.map_cons, List.map_nil]); first | done | rfl | (simp only [List.length_drop, List.length_take]; rfl)) ?_; (with_reducible refine (value_CmpRow.calls kj4 _ _ l0 _ _ l2 t202 _ ?side1 ?side2 ?side3 ?side4 A12.out).mono ?_); (case side1 => repeat (first | exact (Kd.C_below HR0.out HB.out) | (with_reducible refine Kd.C_alloc ?_ _) | (with_reducible refine Kd.C_drewN ?_ _) | (with_reducible refine Kd.C_drew ?_))); (case side2 => exact HC0.out); (case side3 => repeat (first | exact (Kd.C_below HR2.out HB.out) | (with_reducible refine Kd.C_alloc ?_ _) | (with_reducible refine Kd.C_drewN ?_ _) | (with_reducible refine Kd.C_drew ?_))); (case side4 => exact HC2.out); rintro e w16 ⟨rfl, hb⟩; refine ⟨_, rfl, ?_⟩; have n0_ := Aside0.mk (below_step (by repeat (first | (with_reducible first | exact HB.out | apply below_alloc | apply pw_below_drewN | apply below_drew1) | exact HB.out)) hb); clear HB; have HB := n0_; clear n0_; (try clear hb); (try clear hb2); (try clear hk); (try clear hi)))
        (try simp only [Act.put, List.setIfInBounds_toArray, List.set_cons_zero, List.set_cons_succ])
        go_cut [66] (fun v66 wc => ∃ (kq : Nat) (x66_12 : Bool), v66 = .bool x66_12 ∧ Aside0 (tailracelaw01_ValueRowLine.j1 kq l0 l1 t199 t200 x66_12 = some r) ∧ Aside0 (kq ≤ kj4) ∧ Aside0 (Below w.heap.size w wc))
        case first =>
          have H := HC13.out
          clear HC13
          by_cases c17 : t200 ≤ 0
          · rw [if_pos c17] at H
            have c17b0 : decide (t200 ≤ 0) = true := decide_eq_true c17
            clear c17
            (first | rw [c17b0] | (simp only [i64_w, i32_w]; rw [c17b0]) | skip)
            by_cases c18 : t201 ≤ 0
            · rw [if_pos c18] at H
              have c18b0 : decide (t201 ≤ 0) = true := decide_eq_true c18
              clear c18
              by_cases c19 : t202 > 0
              · rw [if_pos c19] at H
                have c19b0 : decide (0 < t202) = true := decide_eq_true c19
                clear c19
                have H' := Aside0.mk H
                clear H
                go_wp2
                go_meet
                case rel => exact ⟨_, (true), (by first | rfl | (simp; done) | (simp [*]; done)), H', ⟨by have := HJ4.out; first | omega | exact Nat.le_refl _⟩, ⟨by repeat (first | (with_reducible first | exact HB.out | apply below_alloc | apply pw_below_drewN | apply below_drew1) | exact HB.out)⟩⟩
              · rw [if_neg c19] at H
                have c19b0 : decide (0 < t202) = false := decide_eq_false c19
                clear c19
                by_cases c20 : t200 < 0
                · rw [if_pos c20] at H
                  have c20b0 : decide (t200 < 0) = true := decide_eq_true c20
                  clear c20
                  by_cases c21 : t202 ≥ 0
                  · rw [if_pos c21] at H
                    have c21b0 : decide (0 ≤ t202) = true := decide_eq_true c21
                    clear c21
                    have H' := Aside0.mk H
                    clear H
                    go_wp2
                    go_meet
                    case rel => exact ⟨_, (true), (by first | rfl | (simp; done) | (simp [*]; done)), H', ⟨by have := HJ4.out; first | omega | exact Nat.le_refl _⟩, ⟨by repeat (first | (with_reducible first | exact HB.out | apply below_alloc | apply pw_below_drewN | apply below_drew1) | exact HB.out)⟩⟩
                  · rw [if_neg c21] at H
                    have c21b0 : decide (0 ≤ t202) = false := decide_eq_false c21
                    clear c21
                    replace H := Option.bind_eq_some_iff.mp H
                    obtain ⟨t203, A220, H⟩ := H
                    replace H : (tailracelaw01_ValueRowLine.j1 kj4 l0 l1 t199 t200 (t203 != (wrap64 (-t200)))) = some r := H
                    have A22 := Aside0.mk A220
                    clear A220
                    have H' := Aside0.mk H
                    clear H
                    go_wp2_with (first | (go_at_call 19; (with_reducible refine (value_CmpRow.calls kj4 _ _ l1 _ _ l0 t203 _ ?side1 ?side2 ?side3 ?side4 A22.out).mono ?_); (case side1 => repeat (first | exact (Kd.C_below HR1.out HB.out) | (with_reducible refine Kd.C_alloc ?_ _) | (with_reducible refine Kd.C_drewN ?_ _) | (with_reducible refine Kd.C_drew ?_))); (case side2 => exact HC1.out); (case side3 => repeat (first | exact (Kd.C_below HR0.out HB.out) | (with_reducible refine Kd.C_alloc ?_ _) | (with_reducible refine Kd.C_drewN ?_ _) | (with_reducible refine Kd.C_drew ?_))); (case side4 => exact HC0.out); rintro e w23 ⟨rfl, hb⟩; have n0_ := Aside0.mk (below_step (by repeat (first | (with_reducible first | exact HB.out | apply below_alloc | apply pw_below_drewN | apply below_drew1) | exact HB.out)) hb); clear HB; have HB := n0_; clear n0_; (try clear hb); (try clear hb2); (try clear hk); (try clear hi)))
                    go_meet
                    case rel => exact ⟨_, ((t203 != (wrap64 (-t200)))), (by first | rfl | (simp; done) | (simp [*]; done)), H', ⟨by have := HJ4.out; first | omega | exact Nat.le_refl _⟩, ⟨by repeat (first | (with_reducible first | exact HB.out | apply below_alloc | apply pw_below_drewN | apply below_drew1) | exact HB.out)⟩⟩
                · rw [if_neg c20] at H
                  have c20b0 : decide (t200 < 0) = false := decide_eq_false c20
                  clear c20
                  replace H := Option.bind_eq_some_iff.mp H
                  obtain ⟨t204, A240, H⟩ := H
                  replace H : (tailracelaw01_ValueRowLine.j1 kj4 l0 l1 t199 t200 (t204 != (wrap64 (-t200)))) = some r := H
                  have A24 := Aside0.mk A240
                  clear A240
                  have H' := Aside0.mk H
                  clear H
                  go_wp2_with (first | (go_at_call 19; (with_reducible refine (value_CmpRow.calls kj4 _ _ l1 _ _ l0 t204 _ ?side1 ?side2 ?side3 ?side4 A24.out).mono ?_); (case side1 => repeat (first | exact (Kd.C_below HR1.out HB.out) | (with_reducible refine Kd.C_alloc ?_ _) | (with_reducible refine Kd.C_drewN ?_ _) | (with_reducible refine Kd.C_drew ?_))); (case side2 => exact HC1.out); (case side3 => repeat (first | exact (Kd.C_below HR0.out HB.out) | (with_reducible refine Kd.C_alloc ?_ _) | (with_reducible refine Kd.C_drewN ?_ _) | (with_reducible refine Kd.C_drew ?_))); (case side4 => exact HC0.out); rintro e w25 ⟨rfl, hb⟩; have n0_ := Aside0.mk (below_step (by repeat (first | (with_reducible first | exact HB.out | apply below_alloc | apply pw_below_drewN | apply below_drew1) | exact HB.out)) hb); clear HB; have HB := n0_; clear n0_; (try clear hb); (try clear hb2); (try clear hk); (try clear hi)))
                  go_meet
                  case rel => exact ⟨_, ((t204 != (wrap64 (-t200)))), (by first | rfl | (simp; done) | (simp [*]; done)), H', ⟨by have := HJ4.out; first | omega | exact Nat.le_refl _⟩, ⟨by repeat (first | (with_reducible first | exact HB.out | apply below_alloc | apply pw_below_drewN | apply below_drew1) | exact HB.out)⟩⟩
            · rw [if_neg c18] at H
              have c18b0 : decide (t201 ≤ 0) = false := decide_eq_false c18
              clear c18
              by_cases c26 : t200 < 0
              · rw [if_pos c26] at H
                have c26b0 : decide (t200 < 0) = true := decide_eq_true c26
                clear c26
                replace H := Option.bind_eq_some_iff.mp H
                obtain ⟨t205, A270, H⟩ := H
                replace H : (tailracelaw01_ValueRowLine.j1 kj4 l0 l1 t199 t200 (t205 != (wrap64 (-t200)))) = some r := H
                have A27 := Aside0.mk A270
                clear A270
                have H' := Aside0.mk H
                clear H
                go_wp2_with (first | (go_at_call 19; (with_reducible refine (value_CmpRow.calls kj4 _ _ l1 _ _ l0 t205 _ ?side1 ?side2 ?side3 ?side4 A27.out).mono ?_); (case side1 => repeat (first | exact (Kd.C_below HR1.out HB.out) | (with_reducible refine Kd.C_alloc ?_ _) | (with_reducible refine Kd.C_drewN ?_ _) | (with_reducible refine Kd.C_drew ?_))); (case side2 => exact HC1.out); (case side3 => repeat (first | exact (Kd.C_below HR0.out HB.out) | (with_reducible refine Kd.C_alloc ?_ _) | (with_reducible refine Kd.C_drewN ?_ _) | (with_reducible refine Kd.C_drew ?_))); (case side4 => exact HC0.out); rintro e w28 ⟨rfl, hb⟩; have n0_ := Aside0.mk (below_step (by repeat (first | (with_reducible first | exact HB.out | apply below_alloc | apply pw_below_drewN | apply below_drew1) | exact HB.out)) hb); clear HB; have HB := n0_; clear n0_; (try clear hb); (try clear hb2); (try clear hk); (try clear hi)))
                go_meet
                case rel => exact ⟨_, ((t205 != (wrap64 (-t200)))), (by first | rfl | (simp; done) | (simp [*]; done)), H', ⟨by have := HJ4.out; first | omega | exact Nat.le_refl _⟩, ⟨by repeat (first | (with_reducible first | exact HB.out | apply below_alloc | apply pw_below_drewN | apply below_drew1) | exact HB.out)⟩⟩
              · rw [if_neg c26] at H
                have c26b0 : decide (t200 < 0) = false := decide_eq_false c26
                clear c26
                replace H := Option.bind_eq_some_iff.mp H
                obtain ⟨t206, A290, H⟩ := H
                replace H : (tailracelaw01_ValueRowLine.j1 kj4 l0 l1 t199 t200 (t206 != (wrap64 (-t200)))) = some r := H
                have A29 := Aside0.mk A290
                clear A290
                have H' := Aside0.mk H
                clear H
                go_wp2_with (first | (go_at_call 19; (with_reducible refine (value_CmpRow.calls kj4 _ _ l1 _ _ l0 t206 _ ?side1 ?side2 ?side3 ?side4 A29.out).mono ?_); (case side1 => repeat (first | exact (Kd.C_below HR1.out HB.out) | (with_reducible refine Kd.C_alloc ?_ _) | (with_reducible refine Kd.C_drewN ?_ _) | (with_reducible refine Kd.C_drew ?_))); (case side2 => exact HC1.out); (case side3 => repeat (first | exact (Kd.C_below HR0.out HB.out) | (with_reducible refine Kd.C_alloc ?_ _) | (with_reducible refine Kd.C_drewN ?_ _) | (with_reducible refine Kd.C_drew ?_))); (case side4 => exact HC0.out); rintro e w30 ⟨rfl, hb⟩; have n0_ := Aside0.mk (below_step (by repeat (first | (with_reducible first | exact HB.out | apply below_alloc | apply pw_below_drewN | apply below_drew1) | exact HB.out)) hb); clear HB; have HB := n0_; clear n0_; (try clear hb); (try clear hb2); (try clear hk); (try clear hi)))
                go_meet
                case rel => exact ⟨_, ((t206 != (wrap64 (-t200)))), (by first | rfl | (simp; done) | (simp [*]; done)), H', ⟨by have := HJ4.out; first | omega | exact Nat.le_refl _⟩, ⟨by repeat (first | (with_reducible first | exact HB.out | apply below_alloc | apply pw_below_drewN | apply below_drew1) | exact HB.out)⟩⟩
          · rw [if_neg c17] at H
            have c17b0 : decide (t200 ≤ 0) = false := decide_eq_false c17
            clear c17
            (first | rw [c17b0] | (simp only [i64_w, i32_w]; rw [c17b0]) | skip)
            by_cases c31 : t200 < 0
            · rw [if_pos c31] at H
              have c31b0 : decide (t200 < 0) = true := decide_eq_true c31
              clear c31
              by_cases c32 : t201 ≤ 0
              · rw [if_pos c32] at H
                have c32b0 : decide (t201 ≤ 0) = true := decide_eq_true c32
                clear c32
                by_cases c33 : t202 ≥ 0
                · rw [if_pos c33] at H
                  have c33b0 : decide (0 ≤ t202) = true := decide_eq_true c33
                  clear c33
                  have H' := Aside0.mk H
                  clear H
                  go_wp2
                  go_meet
                  case rel => exact ⟨_, (true), (by first | rfl | (simp; done) | (simp [*]; done)), H', ⟨by have := HJ4.out; first | omega | exact Nat.le_refl _⟩, ⟨by repeat (first | (with_reducible first | exact HB.out | apply below_alloc | apply pw_below_drewN | apply below_drew1) | exact HB.out)⟩⟩
                · rw [if_neg c33] at H
                  have c33b0 : decide (0 ≤ t202) = false := decide_eq_false c33
                  clear c33
                  replace H := Option.bind_eq_some_iff.mp H
                  obtain ⟨t207, A340, H⟩ := H
                  replace H : (tailracelaw01_ValueRowLine.j1 kj4 l0 l1 t199 t200 (t207 != (wrap64 (-t200)))) = some r := H
                  have A34 := Aside0.mk A340
                  clear A340
                  have H' := Aside0.mk H
                  clear H
                  go_wp2_with (first | (go_at_call 19; (with_reducible refine (value_CmpRow.calls kj4 _ _ l1 _ _ l0 t207 _ ?side1 ?side2 ?side3 ?side4 A34.out).mono ?_); (case side1 => repeat (first | exact (Kd.C_below HR1.out HB.out) | (with_reducible refine Kd.C_alloc ?_ _) | (with_reducible refine Kd.C_drewN ?_ _) | (with_reducible refine Kd.C_drew ?_))); (case side2 => exact HC1.out); (case side3 => repeat (first | exact (Kd.C_below HR0.out HB.out) | (with_reducible refine Kd.C_alloc ?_ _) | (with_reducible refine Kd.C_drewN ?_ _) | (with_reducible refine Kd.C_drew ?_))); (case side4 => exact HC0.out); rintro e w35 ⟨rfl, hb⟩; have n0_ := Aside0.mk (below_step (by repeat (first | (with_reducible first | exact HB.out | apply below_alloc | apply pw_below_drewN | apply below_drew1) | exact HB.out)) hb); clear HB; have HB := n0_; clear n0_; (try clear hb); (try clear hb2); (try clear hk); (try clear hi)))
                  go_meet
                  case rel => exact ⟨_, ((t207 != (wrap64 (-t200)))), (by first | rfl | (simp; done) | (simp [*]; done)), H', ⟨by have := HJ4.out; first | omega | exact Nat.le_refl _⟩, ⟨by repeat (first | (with_reducible first | exact HB.out | apply below_alloc | apply pw_below_drewN | apply below_drew1) | exact HB.out)⟩⟩
              · rw [if_neg c32] at H
                have c32b0 : decide (t201 ≤ 0) = false := decide_eq_false c32
                clear c32
                replace H := Option.bind_eq_some_iff.mp H
                obtain ⟨t208, A360, H⟩ := H
                replace H : (tailracelaw01_ValueRowLine.j1 kj4 l0 l1 t199 t200 (t208 != (wrap64 (-t200)))) = some r := H
                have A36 := Aside0.mk A360
                clear A360
                have H' := Aside0.mk H
                clear H
                go_wp2_with (first | (go_at_call 19; (with_reducible refine (value_CmpRow.calls kj4 _ _ l1 _ _ l0 t208 _ ?side1 ?side2 ?side3 ?side4 A36.out).mono ?_); (case side1 => repeat (first | exact (Kd.C_below HR1.out HB.out) | (with_reducible refine Kd.C_alloc ?_ _) | (with_reducible refine Kd.C_drewN ?_ _) | (with_reducible refine Kd.C_drew ?_))); (case side2 => exact HC1.out); (case side3 => repeat (first | exact (Kd.C_below HR0.out HB.out) | (with_reducible refine Kd.C_alloc ?_ _) | (with_reducible refine Kd.C_drewN ?_ _) | (with_reducible refine Kd.C_drew ?_))); (case side4 => exact HC0.out); rintro e w37 ⟨rfl, hb⟩; have n0_ := Aside0.mk (below_step (by repeat (first | (with_reducible first | exact HB.out | apply below_alloc | apply pw_below_drewN | apply below_drew1) | exact HB.out)) hb); clear HB; have HB := n0_; clear n0_; (try clear hb); (try clear hb2); (try clear hk); (try clear hi)))
                go_meet
                case rel => exact ⟨_, ((t208 != (wrap64 (-t200)))), (by first | rfl | (simp; done) | (simp [*]; done)), H', ⟨by have := HJ4.out; first | omega | exact Nat.le_refl _⟩, ⟨by repeat (first | (with_reducible first | exact HB.out | apply below_alloc | apply pw_below_drewN | apply below_drew1) | exact HB.out)⟩⟩
            · rw [if_neg c31] at H
              have c31b0 : decide (t200 < 0) = false := decide_eq_false c31
              clear c31
              replace H := Option.bind_eq_some_iff.mp H
              obtain ⟨t209, A380, H⟩ := H
              replace H : (tailracelaw01_ValueRowLine.j1 kj4 l0 l1 t199 t200 (t209 != (wrap64 (-t200)))) = some r := H
              have A38 := Aside0.mk A380
              clear A380
              have H' := Aside0.mk H
              clear H
              go_wp2_with (first | (go_at_call 19; (with_reducible refine (value_CmpRow.calls kj4 _ _ l1 _ _ l0 t209 _ ?side1 ?side2 ?side3 ?side4 A38.out).mono ?_); (case side1 => repeat (first | exact (Kd.C_below HR1.out HB.out) | (with_reducible refine Kd.C_alloc ?_ _) | (with_reducible refine Kd.C_drewN ?_ _) | (with_reducible refine Kd.C_drew ?_))); (case side2 => exact HC1.out); (case side3 => repeat (first | exact (Kd.C_below HR0.out HB.out) | (with_reducible refine Kd.C_alloc ?_ _) | (with_reducible refine Kd.C_drewN ?_ _) | (with_reducible refine Kd.C_drew ?_))); (case side4 => exact HC0.out); rintro e w39 ⟨rfl, hb⟩; have n0_ := Aside0.mk (below_step (by repeat (first | (with_reducible first | exact HB.out | apply below_alloc | apply pw_below_drewN | apply below_drew1) | exact HB.out)) hb); clear HB; have HB := n0_; clear n0_; (try clear hb); (try clear hb2); (try clear hk); (try clear hi)))
              go_meet
              case rel => exact ⟨_, ((t209 != (wrap64 (-t200)))), (by first | rfl | (simp; done) | (simp [*]; done)), H', ⟨by have := HJ4.out; first | omega | exact Nat.le_refl _⟩, ⟨by repeat (first | (with_reducible first | exact HB.out | apply below_alloc | apply pw_below_drewN | apply below_drew1) | exact HB.out)⟩⟩
        case rest =>
          clear HC13
          try clear c1
          try clear c2
          try clear p2
          try clear c3
          try clear p6
          try clear c7
          try clear c7b0
          try clear c7b1
          try clear c8
          try clear c8b0
          try clear c8b1
          try clear c9
          try clear c17
          try clear c17b0
          try clear c18
          try clear c18b0
          try clear c19
          try clear c19b0
          try clear c20
          try clear c20b0
          try clear c21
          try clear c21b0
          try clear c26
          try clear c26b0
          try clear c31
          try clear c31b0
          try clear c32
          try clear c32b0
          try clear c33
          try clear c33b0
          try clear p2
          obtain ⟨kq, x66_12, rfl, HA, HJ12, HB⟩ := hcut
          cases kq with
          | zero => exact absurd HA.out (by simp [tailracelaw01_ValueRowLine.j1])
          | succ kj12 =>
            have H := HA.out
            clear HA
            simp only [tailracelaw01_ValueRowLine.j1] at H
            by_cases c40 : x66_12 = true
            · subst c40
              have H1 : (some false) = some r := by rw [if_pos rfl] at H; exact H
              clear H
              have H := H1
              clear H1
              obtain rfl := Option.some.inj H
              go_wp2
              go_ret
              exact ⟨by first | rfl | (simp [errW_none, errW_some] <;> rfl) | (simp [*, errW_none, errW_some] <;> rfl), by repeat (first | (with_reducible first | exact HB.out | apply below_alloc | apply pw_below_drewN | apply below_drew1) | exact HB.out)⟩
            · replace c40 := Bool.eq_false_iff.mpr c40
              subst c40
              have H1 : ((some (([] : List (S24)) : List (S24))).bind fun y210 => (if y210.length + l0.length < 4398046511104 then ((some (y210 ++ l0 : List (S24))).bind fun y213 => (if y213.length < 4398046511104 then ((tailraceref01_Same.f kj12 l0 l1).bind fun t219 => (if t199 = true then (if ((t200 == 0) == t219) = true then ((value_CmpRow.f kj12 l0 (y213 ++ [(⟨1, 0, (⟨#[]⟩ : ByteArray)⟩ : S24)])).bind fun t220 => (some (t220 == (-1)))) else (some false)) else (some false))) else (none))) else (none))) = some r := by rw [if_neg (show ¬ (false = true) by decide)] at H; exact H
              clear H
              have H := H1
              clear H1
              obtain ⟨y210, hy210⟩ : ∃ y_ : List (S24), y_ = (([] : List (S24))) := ⟨_, rfl⟩
              replace H : (if y210.length + l0.length < 4398046511104 then ((some (y210 ++ l0 : List (S24))).bind fun y213 => (if y213.length < 4398046511104 then ((tailraceref01_Same.f kj12 l0 l1).bind fun t219 => (if t199 = true then (if ((t200 == 0) == t219) = true then ((value_CmpRow.f kj12 l0 (y213 ++ [(⟨1, 0, (⟨#[]⟩ : ByteArray)⟩ : S24)])).bind fun t220 => (some (t220 == (-1)))) else (some false)) else (some false))) else (none))) else (none)) = some r := by first | (rw [hy210]; with_reducible exact H) | (have H2_ := (Option.bind_some _ _).symm.trans H; rw [hy210]; with_reducible exact H2_) | (have H2_ := (Option.bind_some _ _).symm.trans H; with_reducible exact H2_) | with_reducible exact H | (rw [hy210]; exact H) | exact H
              have Ny210 := Aside0.mk hy210
              clear hy210
              by_cases c41 : y210.length + l0.length < 4398046511104
              · rw [if_pos c41] at H
                have LMc41 := Aside0.mk c41
                clear c41
                obtain ⟨y213, hy213⟩ : ∃ y_ : List (S24), y_ = (y210 ++ l0) := ⟨_, rfl⟩
                replace H : (if y213.length < 4398046511104 then ((tailraceref01_Same.f kj12 l0 l1).bind fun t219 => (if t199 = true then (if ((t200 == 0) == t219) = true then ((value_CmpRow.f kj12 l0 (y213 ++ [(⟨1, 0, (⟨#[]⟩ : ByteArray)⟩ : S24)])).bind fun t220 => (some (t220 == (-1)))) else (some false)) else (some false))) else (none)) = some r := by first | (rw [hy213]; with_reducible exact H) | (have H2_ := (Option.bind_some _ _).symm.trans H; rw [hy213]; with_reducible exact H2_) | (have H2_ := (Option.bind_some _ _).symm.trans H; with_reducible exact H2_) | with_reducible exact H | (rw [hy213]; exact H) | exact H
                have Ny213 := Aside0.mk hy213
                clear hy213
                by_cases c42 : y213.length < 4398046511104
                · rw [if_pos c42] at H
                  have LMc42 := Aside0.mk c42
                  clear c42
                  obtain ⟨y216, hy216⟩ : ∃ y_ : List (S24), y_ = (y213 ++ [(⟨1, 0, (⟨#[]⟩ : ByteArray)⟩ : S24)]) := ⟨_, rfl⟩
                  replace H : ((tailraceref01_Same.f kj12 l0 l1).bind fun t219 => (if t199 = true then (if ((t200 == 0) == t219) = true then ((value_CmpRow.f kj12 l0 y216).bind fun t220 => (some (t220 == (-1)))) else (some false)) else (some false))) = some r := by first | (rw [hy216]; with_reducible exact H) | (have H2_ := (Option.bind_some _ _).symm.trans H; rw [hy216]; with_reducible exact H2_) | (have H2_ := (Option.bind_some _ _).symm.trans H; with_reducible exact H2_) | with_reducible exact H | (rw [hy216]; exact H) | exact H
                  have Ny216 := Aside0.mk hy216
                  clear hy216
                  replace H := Option.bind_eq_some_iff.mp H
                  obtain ⟨t219, A430, H⟩ := H
                  replace H : (if t199 = true then (if ((t200 == 0) == t219) = true then ((value_CmpRow.f kj12 l0 y216).bind fun t220 => (some (t220 == (-1)))) else (some false)) else (some false)) = some r := H
                  have A43 := Aside0.mk A430
                  clear A430
                  by_cases c44 : t199 = true
                  · subst c44
                    have H1 : (if ((t200 == 0) == t219) = true then ((value_CmpRow.f kj12 l0 y216).bind fun t220 => (some (t220 == (-1)))) else (some false)) = some r := by rw [if_pos rfl] at H; exact H
                    clear H
                    have H := H1
                    clear H1
                    by_cases c45 : ((t200 == 0) == t219) = true
                    · rw [if_pos c45] at H
                      have c45b0 : ((t200 == 0) == t219) = true := c45
                      (try (have c45b1 : decide ((t200 == 0) = t219) = true := by simpa using c45))
                      (try (have c45b2 : ((t200 == 0) == t219) = true := by simpa using c45))
                      clear c45
                      replace H := Option.bind_eq_some_iff.mp H
                      obtain ⟨t220, A460, H⟩ := H
                      replace H : (some (t220 == (-1))) = some r := H
                      have A46 := Aside0.mk A460
                      clear A460
                      obtain rfl := Option.some.inj H
                      go_wp2_with (first | ((with_reducible refine gate_dst (N := 67) rfl ?_); (try (refine gate_guard (by rfl) ?_; dsimp only)); refine Kd.R_lit k24 _ 24 ?hg (N := 67) ?hd (xs := ([] : List (S24))) (inner := []) (ok := fun _ => True) (okp := fun _ => True) ?hr ?hp (fun _ hk => hk) trivial (Below.refl _ _) (Nat.le_refl _) (by simp) ?_; (case hd => rfl); (case hg => rfl); (case hr => first | (go_simp; done) | (go_simp; rfl)); (case hp => exact (Reps.none _ _)); intro v211 w47 ho48 hb hg_ hnew_; clear hg_ hnew_; (first | rw [← Ny210.out] at ho48 | (simp only [Int.reduceToNat] at ho48; rw [← Ny210.out] at ho48)); have n0_ := Aside0.mk (Kd.R_lower ho48 (below_size (by repeat (first | (with_reducible first | exact HB.out | apply below_alloc | apply pw_below_drewN | apply below_drew1) | exact HB.out)))); have n1_ := Aside0.mk (below_step (by repeat (first | (with_reducible first | exact HB.out | apply below_alloc | apply pw_below_drewN | apply below_drew1) | exact HB.out)) hb); clear HB; have HO212 := n0_; have HB := n1_; clear n0_ n1_; clear hb ho48) | ((with_reducible refine gate_builtin (b := .append) (xs := #[.tmp 67, .tmp 68]) rfl ?_); (try (refine gate_guard (by rfl) ?_; dsimp only)); at_builtin; refine Kd.R_append_rows k24 (w0 := w) w.heap.size rfl (.tmp 67) (.tmp 68) 29 24 (.agg #[(.int .i64 0), (.int .i64 0), (.string ⟨#[]⟩)]) 32 rfl Try.underlying29 info24 rfl (by decide) (by omega) v211 y210 l0 _ _ _ (fun _ => True) (fun _ => False) rfl rfl ?aO ?aR (fun _ _ h => h) (fun _ h => h.elim) ?aF ?aB ?aS ?aL ?_; (case aR => repeat (first | exact (Kd.C_below HR0.out HB.out) | (with_reducible refine Kd.C_alloc ?_ _) | (with_reducible refine Kd.C_drewN ?_ _) | (with_reducible refine Kd.C_drew ?_))); (case aB => exact (by repeat (first | (with_reducible first | exact HB.out | apply below_alloc | apply pw_below_drewN | apply below_drew1) | exact HB.out))); (case aF => exact (fun _ _ => trivial)); (case aO => exact (by (with_reducible repeat (first | apply Kd.R_alloc | apply Kd.R_drewN | apply Kd.R_drew)); exact HO212.out)); (case aS => exact (below_size (by repeat (first | (with_reducible first | exact HB.out | apply below_alloc | apply pw_below_drewN | apply below_drew1) | exact HB.out)))); (case aL => have := LMc41.out; omega); intro v214 w49 ho hb hg hat; rw [← Ny213.out] at ho; have n0_ := Aside0.mk (hb); have n1_ := Aside0.mk (ho); clear HB; clear HO212; have HB := n0_; have HO215 := n1_; clear n0_ n1_; clear ho hb hg hat) | ((with_reducible refine gate_builtin (b := .append) (xs := #[.tmp 69, .tmp 71]) rfl ?_); (try (refine gate_guard (by rfl) ?_; dsimp only)); at_builtin; refine Kd.R_append k24 (w0 := w) w.heap.size rfl (.tmp 69) (.tmp 71) 29 24 (.agg #[(.int .i64 0), (.int .i64 0), (.string ⟨#[]⟩)]) 32 rfl Try.underlying29 info24 rfl (by decide) (by omega) v214 y213 (⟨1, 0, (⟨#[]⟩ : ByteArray)⟩ : S24) [.int .i64 1, .int .i64 0, .string (⟨#[]⟩ : ByteArray)] (fun _ => True) (fun _ => False) rfl rfl ?aP (fun _ hk => hk.elim) ?aF ?aO ?aB ?aS ?aL ?_; (case aP => exact k24_mkM _ _ _ (⟨1, 0, (⟨#[]⟩ : ByteArray)⟩ : S24)); (case aB => exact (by repeat (first | (with_reducible first | exact HB.out | apply below_alloc | apply pw_below_drewN | apply below_drew1) | exact HB.out))); (case aF => exact (fun _ _ => trivial)); (case aO => exact (by (with_reducible repeat (first | apply Kd.R_alloc | apply Kd.R_drewN | apply Kd.R_drew)); exact HO215.out)); (case aS => exact (below_size (by repeat (first | (with_reducible first | exact HB.out | apply below_alloc | apply pw_below_drewN | apply below_drew1) | exact HB.out)))); (case aL => have := LMc42.out; omega); intro v217 w50 ho hb hg hat; rw [← Ny216.out] at ho; have n0_ := Aside0.mk (hb); have n1_ := Aside0.mk (ho); clear HB; clear HO215; have HB := n0_; have HO218 := n1_; clear n0_ n1_; clear ho hb hg hat) | ((with_reducible refine gate_callee (f := 21) rfl ?_); refine goesL_ (some 75) rfl rfl Try.func21 (by kernel_rfl) rfl #[.slice A0 l0.length c0, .slice A1 l1.length c1] rfl (by (try simp only [List.map_toArray, List.map_cons, List.map_nil]); first | done | rfl | (simp only [List.length_drop, List.length_take]; rfl)) ?_; (with_reducible refine (tailraceref01_Same.calls kj12 _ _ l0 _ _ l1 t219 _ ?side1 ?side2 ?side3 ?side4 A43.out).mono ?_); (case side1 => repeat (first | exact (Kd.C_below HR0.out HB.out) | (with_reducible refine Kd.C_alloc ?_ _) | (with_reducible refine Kd.C_drewN ?_ _) | (with_reducible refine Kd.C_drew ?_))); (case side2 => exact HC0.out); (case side3 => repeat (first | exact (Kd.C_below HR1.out HB.out) | (with_reducible refine Kd.C_alloc ?_ _) | (with_reducible refine Kd.C_drewN ?_ _) | (with_reducible refine Kd.C_drew ?_))); (case side4 => exact HC1.out); rintro e w51 ⟨rfl, hb⟩; refine ⟨_, rfl, ?_⟩; have n0_ := Aside0.mk (Kd.R_below (by (with_reducible repeat (first | apply Kd.R_alloc | apply Kd.R_drewN | apply Kd.R_drew)); exact HO218.out) hb); have n1_ := Aside0.mk (below_step (by repeat (first | (with_reducible first | exact HB.out | apply below_alloc | apply pw_below_drewN | apply below_drew1) | exact HB.out)) hb); clear HO218; clear HB; have HO218 := n0_; have HB := n1_; clear n0_ n1_; (try clear hb); (try clear hb2); (try clear hk); (try clear hi); obtain ⟨Ao52, co52, eo52⟩ := Kd.R_slice HO218.out; subst eo52) | (go_at_call 19; (with_reducible refine (value_CmpRow.calls kj12 _ _ l0 _ _ y216 t220 _ ?side1 ?side2 ?side3 ?side4 A46.out).mono ?_); (case side1 => repeat (first | exact (Kd.C_below HR0.out HB.out) | (with_reducible refine Kd.C_alloc ?_ _) | (with_reducible refine Kd.C_drewN ?_ _) | (with_reducible refine Kd.C_drew ?_))); (case side2 => exact HC0.out); (case side3 => repeat (first | exact (Kd.R_reads' HO218.out).2.2 | (with_reducible refine Kd.C_alloc ?_ _) | (with_reducible refine Kd.C_drewN ?_ _) | (with_reducible refine Kd.C_drew ?_))); (case side4 => exact (Kd.R_reads' HO218.out).2.1); rintro e w53 ⟨rfl, hb⟩; have n0_ := Aside0.mk (Kd.R_below (by (with_reducible repeat (first | apply Kd.R_alloc | apply Kd.R_drewN | apply Kd.R_drew)); exact HO218.out) hb); have n1_ := Aside0.mk (below_step (by repeat (first | (with_reducible first | exact HB.out | apply below_alloc | apply pw_below_drewN | apply below_drew1) | exact HB.out)) hb); clear HO218; clear HB; have HO218 := n0_; have HB := n1_; clear n0_ n1_; (try clear hb); (try clear hb2); (try clear hk); (try clear hi)))
                      go_ret
                      exact ⟨by first | rfl | (simp [errW_none, errW_some] <;> rfl) | (simp [*, errW_none, errW_some] <;> rfl), by repeat (first | (with_reducible first | exact HB.out | apply below_alloc | apply pw_below_drewN | apply below_drew1) | exact HB.out)⟩
                    · rw [if_neg c45] at H
                      have c45b0 : ((t200 == 0) == t219) = false := by simpa using c45
                      (try (have c45b1 : decide ((t200 == 0) = t219) = false := by simpa using c45))
                      (try (have c45b2 : ((t200 == 0) == t219) = false := by simpa using c45))
                      (try (have c45b3 : ¬ ((t200 == 0) = t219) := by simpa using c45))
                      clear c45
                      obtain rfl := Option.some.inj H
                      go_wp2_with (first | ((with_reducible refine gate_dst (N := 67) rfl ?_); (try (refine gate_guard (by rfl) ?_; dsimp only)); refine Kd.R_lit k24 _ 24 ?hg (N := 67) ?hd (xs := ([] : List (S24))) (inner := []) (ok := fun _ => True) (okp := fun _ => True) ?hr ?hp (fun _ hk => hk) trivial (Below.refl _ _) (Nat.le_refl _) (by simp) ?_; (case hd => rfl); (case hg => rfl); (case hr => first | (go_simp; done) | (go_simp; rfl)); (case hp => exact (Reps.none _ _)); intro v211 w54 ho55 hb hg_ hnew_; clear hg_ hnew_; (first | rw [← Ny210.out] at ho55 | (simp only [Int.reduceToNat] at ho55; rw [← Ny210.out] at ho55)); have n0_ := Aside0.mk (Kd.R_lower ho55 (below_size (by repeat (first | (with_reducible first | exact HB.out | apply below_alloc | apply pw_below_drewN | apply below_drew1) | exact HB.out)))); have n1_ := Aside0.mk (below_step (by repeat (first | (with_reducible first | exact HB.out | apply below_alloc | apply pw_below_drewN | apply below_drew1) | exact HB.out)) hb); clear HB; have HO212 := n0_; have HB := n1_; clear n0_ n1_; clear hb ho55) | ((with_reducible refine gate_builtin (b := .append) (xs := #[.tmp 67, .tmp 68]) rfl ?_); (try (refine gate_guard (by rfl) ?_; dsimp only)); at_builtin; refine Kd.R_append_rows k24 (w0 := w) w.heap.size rfl (.tmp 67) (.tmp 68) 29 24 (.agg #[(.int .i64 0), (.int .i64 0), (.string ⟨#[]⟩)]) 32 rfl Try.underlying29 info24 rfl (by decide) (by omega) v211 y210 l0 _ _ _ (fun _ => True) (fun _ => False) rfl rfl ?aO ?aR (fun _ _ h => h) (fun _ h => h.elim) ?aF ?aB ?aS ?aL ?_; (case aR => repeat (first | exact (Kd.C_below HR0.out HB.out) | (with_reducible refine Kd.C_alloc ?_ _) | (with_reducible refine Kd.C_drewN ?_ _) | (with_reducible refine Kd.C_drew ?_))); (case aB => exact (by repeat (first | (with_reducible first | exact HB.out | apply below_alloc | apply pw_below_drewN | apply below_drew1) | exact HB.out))); (case aF => exact (fun _ _ => trivial)); (case aO => exact (by (with_reducible repeat (first | apply Kd.R_alloc | apply Kd.R_drewN | apply Kd.R_drew)); exact HO212.out)); (case aS => exact (below_size (by repeat (first | (with_reducible first | exact HB.out | apply below_alloc | apply pw_below_drewN | apply below_drew1) | exact HB.out)))); (case aL => have := LMc41.out; omega); intro v214 w56 ho hb hg hat; rw [← Ny213.out] at ho; have n0_ := Aside0.mk (hb); have n1_ := Aside0.mk (ho); clear HB; clear HO212; have HB := n0_; have HO215 := n1_; clear n0_ n1_; clear ho hb hg hat) | ((with_reducible refine gate_builtin (b := .append) (xs := #[.tmp 69, .tmp 71]) rfl ?_); (try (refine gate_guard (by rfl) ?_; dsimp only)); at_builtin; refine Kd.R_append k24 (w0 := w) w.heap.size rfl (.tmp 69) (.tmp 71) 29 24 (.agg #[(.int .i64 0), (.int .i64 0), (.string ⟨#[]⟩)]) 32 rfl Try.underlying29 info24 rfl (by decide) (by omega) v214 y213 (⟨1, 0, (⟨#[]⟩ : ByteArray)⟩ : S24) [.int .i64 1, .int .i64 0, .string (⟨#[]⟩ : ByteArray)] (fun _ => True) (fun _ => False) rfl rfl ?aP (fun _ hk => hk.elim) ?aF ?aO ?aB ?aS ?aL ?_; (case aP => exact k24_mkM _ _ _ (⟨1, 0, (⟨#[]⟩ : ByteArray)⟩ : S24)); (case aB => exact (by repeat (first | (with_reducible first | exact HB.out | apply below_alloc | apply pw_below_drewN | apply below_drew1) | exact HB.out))); (case aF => exact (fun _ _ => trivial)); (case aO => exact (by (with_reducible repeat (first | apply Kd.R_alloc | apply Kd.R_drewN | apply Kd.R_drew)); exact HO215.out)); (case aS => exact (below_size (by repeat (first | (with_reducible first | exact HB.out | apply below_alloc | apply pw_below_drewN | apply below_drew1) | exact HB.out)))); (case aL => have := LMc42.out; omega); intro v217 w57 ho hb hg hat; rw [← Ny216.out] at ho; have n0_ := Aside0.mk (hb); have n1_ := Aside0.mk (ho); clear HB; clear HO215; have HB := n0_; have HO218 := n1_; clear n0_ n1_; clear ho hb hg hat) | ((with_reducible refine gate_callee (f := 21) rfl ?_); refine goesL_ (some 75) rfl rfl Try.func21 (by kernel_rfl) rfl #[.slice A0 l0.length c0, .slice A1 l1.length c1] rfl (by (try simp only [List.map_toArray, List.map_cons, List.map_nil]); first | done | rfl | (simp only [List.length_drop, List.length_take]; rfl)) ?_; (with_reducible refine (tailraceref01_Same.calls kj12 _ _ l0 _ _ l1 t219 _ ?side1 ?side2 ?side3 ?side4 A43.out).mono ?_); (case side1 => repeat (first | exact (Kd.C_below HR0.out HB.out) | (with_reducible refine Kd.C_alloc ?_ _) | (with_reducible refine Kd.C_drewN ?_ _) | (with_reducible refine Kd.C_drew ?_))); (case side2 => exact HC0.out); (case side3 => repeat (first | exact (Kd.C_below HR1.out HB.out) | (with_reducible refine Kd.C_alloc ?_ _) | (with_reducible refine Kd.C_drewN ?_ _) | (with_reducible refine Kd.C_drew ?_))); (case side4 => exact HC1.out); rintro e w58 ⟨rfl, hb⟩; refine ⟨_, rfl, ?_⟩; have n0_ := Aside0.mk (Kd.R_below (by (with_reducible repeat (first | apply Kd.R_alloc | apply Kd.R_drewN | apply Kd.R_drew)); exact HO218.out) hb); have n1_ := Aside0.mk (below_step (by repeat (first | (with_reducible first | exact HB.out | apply below_alloc | apply pw_below_drewN | apply below_drew1) | exact HB.out)) hb); clear HO218; clear HB; have HO218 := n0_; have HB := n1_; clear n0_ n1_; (try clear hb); (try clear hb2); (try clear hk); (try clear hi)))
                      go_ret
                      exact ⟨by first | rfl | (simp [errW_none, errW_some] <;> rfl) | (simp [*, errW_none, errW_some] <;> rfl), by repeat (first | (with_reducible first | exact HB.out | apply below_alloc | apply pw_below_drewN | apply below_drew1) | exact HB.out)⟩
                  · replace c44 := Bool.eq_false_iff.mpr c44
                    subst c44
                    have H1 : (some false) = some r := by rw [if_neg (show ¬ (false = true) by decide)] at H; exact H
                    clear H
                    have H := H1
                    clear H1
                    obtain rfl := Option.some.inj H
                    go_wp2_with (first | ((with_reducible refine gate_dst (N := 67) rfl ?_); (try (refine gate_guard (by rfl) ?_; dsimp only)); refine Kd.R_lit k24 _ 24 ?hg (N := 67) ?hd (xs := ([] : List (S24))) (inner := []) (ok := fun _ => True) (okp := fun _ => True) ?hr ?hp (fun _ hk => hk) trivial (Below.refl _ _) (Nat.le_refl _) (by simp) ?_; (case hd => rfl); (case hg => rfl); (case hr => first | (go_simp; done) | (go_simp; rfl)); (case hp => exact (Reps.none _ _)); intro v211 w59 ho60 hb hg_ hnew_; clear hg_ hnew_; (first | rw [← Ny210.out] at ho60 | (simp only [Int.reduceToNat] at ho60; rw [← Ny210.out] at ho60)); have n0_ := Aside0.mk (Kd.R_lower ho60 (below_size (by repeat (first | (with_reducible first | exact HB.out | apply below_alloc | apply pw_below_drewN | apply below_drew1) | exact HB.out)))); have n1_ := Aside0.mk (below_step (by repeat (first | (with_reducible first | exact HB.out | apply below_alloc | apply pw_below_drewN | apply below_drew1) | exact HB.out)) hb); clear HB; have HO212 := n0_; have HB := n1_; clear n0_ n1_; clear hb ho60) | ((with_reducible refine gate_builtin (b := .append) (xs := #[.tmp 67, .tmp 68]) rfl ?_); (try (refine gate_guard (by rfl) ?_; dsimp only)); at_builtin; refine Kd.R_append_rows k24 (w0 := w) w.heap.size rfl (.tmp 67) (.tmp 68) 29 24 (.agg #[(.int .i64 0), (.int .i64 0), (.string ⟨#[]⟩)]) 32 rfl Try.underlying29 info24 rfl (by decide) (by omega) v211 y210 l0 _ _ _ (fun _ => True) (fun _ => False) rfl rfl ?aO ?aR (fun _ _ h => h) (fun _ h => h.elim) ?aF ?aB ?aS ?aL ?_; (case aR => repeat (first | exact (Kd.C_below HR0.out HB.out) | (with_reducible refine Kd.C_alloc ?_ _) | (with_reducible refine Kd.C_drewN ?_ _) | (with_reducible refine Kd.C_drew ?_))); (case aB => exact (by repeat (first | (with_reducible first | exact HB.out | apply below_alloc | apply pw_below_drewN | apply below_drew1) | exact HB.out))); (case aF => exact (fun _ _ => trivial)); (case aO => exact (by (with_reducible repeat (first | apply Kd.R_alloc | apply Kd.R_drewN | apply Kd.R_drew)); exact HO212.out)); (case aS => exact (below_size (by repeat (first | (with_reducible first | exact HB.out | apply below_alloc | apply pw_below_drewN | apply below_drew1) | exact HB.out)))); (case aL => have := LMc41.out; omega); intro v214 w61 ho hb hg hat; rw [← Ny213.out] at ho; have n0_ := Aside0.mk (hb); have n1_ := Aside0.mk (ho); clear HB; clear HO212; have HB := n0_; have HO215 := n1_; clear n0_ n1_; clear ho hb hg hat) | ((with_reducible refine gate_builtin (b := .append) (xs := #[.tmp 69, .tmp 71]) rfl ?_); (try (refine gate_guard (by rfl) ?_; dsimp only)); at_builtin; refine Kd.R_append k24 (w0 := w) w.heap.size rfl (.tmp 69) (.tmp 71) 29 24 (.agg #[(.int .i64 0), (.int .i64 0), (.string ⟨#[]⟩)]) 32 rfl Try.underlying29 info24 rfl (by decide) (by omega) v214 y213 (⟨1, 0, (⟨#[]⟩ : ByteArray)⟩ : S24) [.int .i64 1, .int .i64 0, .string (⟨#[]⟩ : ByteArray)] (fun _ => True) (fun _ => False) rfl rfl ?aP (fun _ hk => hk.elim) ?aF ?aO ?aB ?aS ?aL ?_; (case aP => exact k24_mkM _ _ _ (⟨1, 0, (⟨#[]⟩ : ByteArray)⟩ : S24)); (case aB => exact (by repeat (first | (with_reducible first | exact HB.out | apply below_alloc | apply pw_below_drewN | apply below_drew1) | exact HB.out))); (case aF => exact (fun _ _ => trivial)); (case aO => exact (by (with_reducible repeat (first | apply Kd.R_alloc | apply Kd.R_drewN | apply Kd.R_drew)); exact HO215.out)); (case aS => exact (below_size (by repeat (first | (with_reducible first | exact HB.out | apply below_alloc | apply pw_below_drewN | apply below_drew1) | exact HB.out)))); (case aL => have := LMc42.out; omega); intro v217 w62 ho hb hg hat; rw [← Ny216.out] at ho; have n0_ := Aside0.mk (hb); have n1_ := Aside0.mk (ho); clear HB; clear HO215; have HB := n0_; have HO218 := n1_; clear n0_ n1_; clear ho hb hg hat) | ((with_reducible refine gate_callee (f := 21) rfl ?_); refine goesL_ (some 75) rfl rfl Try.func21 (by kernel_rfl) rfl #[.slice A0 l0.length c0, .slice A1 l1.length c1] rfl (by (try simp only [List.map_toArray, List.map_cons, List.map_nil]); first | done | rfl | (simp only [List.length_drop, List.length_take]; rfl)) ?_; (with_reducible refine (tailraceref01_Same.calls kj12 _ _ l0 _ _ l1 t219 _ ?side1 ?side2 ?side3 ?side4 A43.out).mono ?_); (case side1 => repeat (first | exact (Kd.C_below HR0.out HB.out) | (with_reducible refine Kd.C_alloc ?_ _) | (with_reducible refine Kd.C_drewN ?_ _) | (with_reducible refine Kd.C_drew ?_))); (case side2 => exact HC0.out); (case side3 => repeat (first | exact (Kd.C_below HR1.out HB.out) | (with_reducible refine Kd.C_alloc ?_ _) | (with_reducible refine Kd.C_drewN ?_ _) | (with_reducible refine Kd.C_drew ?_))); (case side4 => exact HC1.out); rintro e w63 ⟨rfl, hb⟩; refine ⟨_, rfl, ?_⟩; have n0_ := Aside0.mk (Kd.R_below (by (with_reducible repeat (first | apply Kd.R_alloc | apply Kd.R_drewN | apply Kd.R_drew)); exact HO218.out) hb); have n1_ := Aside0.mk (below_step (by repeat (first | (with_reducible first | exact HB.out | apply below_alloc | apply pw_below_drewN | apply below_drew1) | exact HB.out)) hb); clear HO218; clear HB; have HO218 := n0_; have HB := n1_; clear n0_ n1_; (try clear hb); (try clear hb2); (try clear hk); (try clear hi)))
                    go_ret
                    exact ⟨by first | rfl | (simp [errW_none, errW_some] <;> rfl) | (simp [*, errW_none, errW_some] <;> rfl), by repeat (first | (with_reducible first | exact HB.out | apply below_alloc | apply pw_below_drewN | apply below_drew1) | exact HB.out)⟩
                · rw [if_neg c42] at H
                  exact absurd H (by simp)
              · rw [if_neg c41] at H
                exact absurd H (by simp)

/-! ### tailracelaw01_ValueOwn: function 8 -/
mutual
def tailracelaw01_ValueOwn.j0 : Nat → List (S24) → List Int → Bool → Bool → Option (Bool)
  | 0, _, _, _, _ => none
  | k + 1, x0, x1, x5, x20 => if x20 = true then (some x5) else ((value_Kinds.f k x0).bind fun t222 => ((value_CheckRow.f k x0 t222).bind fun t225 => ((value_CheckRow.f k x0 x1).bind fun t226 => (tailracelaw01_ValueOwn.l0 k x0 x1 x5 t222 t225 t226 false 0))))
def tailracelaw01_ValueOwn.l0 : Nat → List (S24) → List Int → Bool → List Int → Int → Int → Bool → Int → Option (Bool)
  | 0, _, _, _, _, _, _, _, _ => none
  | k + 1, x0, x1, x5, x6, x7, x8, x9, x10 => if x10 < (x0.length : Int) then (if x9 = true then (tailracelaw01_ValueOwn.l0 k x0 x1 x5 x6 x7 x8 true (wrap64 (x10 + 1))) else (if 0 ≤ x10 then ((value_Check.f ((rd_T24 x0 x10).f0) ((rd_T24 x0 x10).f1) ((rd_T24 x0 x10).f2)).bind fun t228 => (tailracelaw01_ValueOwn.l0 k x0 x1 x5 x6 x7 x8 (t228 != 0) (wrap64 (x10 + 1)))) else (none))) else (if x9 = true then (if x5 = true then (if x7 = 10 then (some (x8 == 10)) else (some false)) else (some false)) else ((tailraceref01_Ints.f k x6 x1).bind fun t229 => (if x5 = true then (if x7 = 0 then (if ((x8 == 0) == t229) = true then (if t229 = true then (some true) else (some (x8 == 11))) else (some false)) else (some false)) else (some false))))
end
def tailracelaw01_ValueOwn.f (k : Nat) (l0 : List (S24)) (l1 : List Int) : Option (Bool) := (tailracelaw01_awake.f k).bind fun t221 => (if (l0.length : Int) > 200 then (tailracelaw01_ValueOwn.j0 k l0 l1 t221 true) else (tailracelaw01_ValueOwn.j0 k l0 l1 t221 (decide ((l1.length : Int) > 200))))
theorem tailracelaw01_ValueOwn.mono_l : ∀ k, (∀ y0 y1 y2 y3, LeO (tailracelaw01_ValueOwn.j0 k y0 y1 y2 y3) (tailracelaw01_ValueOwn.j0 (k + 1) y0 y1 y2 y3)) ∧ (∀ y0 y1 y2 y3 y4 y5 y6 y7, LeO (tailracelaw01_ValueOwn.l0 k y0 y1 y2 y3 y4 y5 y6 y7) (tailracelaw01_ValueOwn.l0 (k + 1) y0 y1 y2 y3 y4 y5 y6 y7))
  | 0 => ⟨fun _ _ _ _ r h => by simp [tailracelaw01_ValueOwn.j0] at h, fun _ _ _ _ _ _ _ _ r h => by simp [tailracelaw01_ValueOwn.l0] at h⟩
  | k + 1 => by
    obtain ⟨ih0, ih1⟩ := tailracelaw01_ValueOwn.mono_l k
    refine ⟨?_, ?_⟩
    · intro y0 y1 y2 y3
      unfold tailracelaw01_ValueOwn.j0
      repeat' first
      | (with_reducible exact ih0 _ _ _ _)
      | (with_reducible exact ih1 _ _ _ _ _ _ _ _)
      | (with_reducible exact tailracelaw01_awake.mono _)
      | (with_reducible exact tailraceref01_Ints.mono _ _ _)
      | (with_reducible exact value_CheckRow.mono _ _ _)
      | (with_reducible exact value_Kinds.mono _ _)
      | (with_reducible exact LeO.refl _)
      | (with_reducible exact LeO.none _)
      | (with_reducible refine LeO.ite ?_ ?_)
      | (with_reducible refine LeO.bind ?_ (fun _ => ?_))
      | exact ih0 _ _ _ _
      | exact ih1 _ _ _ _ _ _ _ _
      | exact tailracelaw01_awake.mono _
      | exact tailraceref01_Ints.mono _ _ _
      | exact value_CheckRow.mono _ _ _
      | exact value_Kinds.mono _ _
      | exact LeO.none _
      | refine LeO.ite ?_ ?_
      | refine LeO.bind ?_ (fun _ => ?_)
    · intro y0 y1 y2 y3 y4 y5 y6 y7
      unfold tailracelaw01_ValueOwn.l0
      repeat' first
      | (with_reducible exact ih0 _ _ _ _)
      | (with_reducible exact ih1 _ _ _ _ _ _ _ _)
      | (with_reducible exact tailracelaw01_awake.mono _)
      | (with_reducible exact tailraceref01_Ints.mono _ _ _)
      | (with_reducible exact value_CheckRow.mono _ _ _)
      | (with_reducible exact value_Kinds.mono _ _)
      | (with_reducible exact LeO.refl _)
      | (with_reducible exact LeO.none _)
      | (with_reducible refine LeO.ite ?_ ?_)
      | (with_reducible refine LeO.bind ?_ (fun _ => ?_))
      | exact ih0 _ _ _ _
      | exact ih1 _ _ _ _ _ _ _ _
      | exact tailracelaw01_awake.mono _
      | exact tailraceref01_Ints.mono _ _ _
      | exact value_CheckRow.mono _ _ _
      | exact value_Kinds.mono _ _
      | exact LeO.none _
      | refine LeO.ite ?_ ?_
      | refine LeO.bind ?_ (fun _ => ?_)
theorem tailracelaw01_ValueOwn.mono : ∀ a0 a1 k, LeO (tailracelaw01_ValueOwn.f k a0 a1) (tailracelaw01_ValueOwn.f (k + 1) a0 a1) := by
  intro a0 a1 k
  obtain ⟨ih0, ih1⟩ := tailracelaw01_ValueOwn.mono_l k
  unfold tailracelaw01_ValueOwn.f
  repeat' first
      | (with_reducible exact ih0 _ _ _ _)
      | (with_reducible exact ih1 _ _ _ _ _ _ _ _)
      | (with_reducible exact tailracelaw01_awake.mono _)
      | (with_reducible exact tailraceref01_Ints.mono _ _ _)
      | (with_reducible exact value_CheckRow.mono _ _ _)
      | (with_reducible exact value_Kinds.mono _ _)
      | (with_reducible exact LeO.refl _)
      | (with_reducible exact LeO.none _)
      | (with_reducible refine LeO.ite ?_ ?_)
      | (with_reducible refine LeO.bind ?_ (fun _ => ?_))
      | exact ih0 _ _ _ _
      | exact ih1 _ _ _ _ _ _ _ _
      | exact tailracelaw01_awake.mono _
      | exact tailraceref01_Ints.mono _ _ _
      | exact value_CheckRow.mono _ _ _
      | exact value_Kinds.mono _ _
      | exact LeO.none _
      | refine LeO.ite ?_ ?_
      | refine LeO.bind ?_ (fun _ => ?_)
set_option maxHeartbeats 8000000 in
set_option maxRecDepth 100000 in
theorem tailracelaw01_ValueOwn.calls (k : Nat) (A0 : Option Addr) (c0 : Nat) (l0 : List (S24)) (A1 : Option Addr) (c1 : Nat) (l1 : List Int) (r : Bool) (w : World) (hr0 : Kd.C k24 w A0 l0.length l0) (hc0 : l0.length ≤ c0) (hr1 : Kd.C (Kd.int .i64) w A1 l1.length l1) (hc1 : l1.length ≤ c1) (h : tailracelaw01_ValueOwn.f k l0 l1 = some r) :
    Calls Try.prog 8 #[.slice A0 l0.length c0, .slice A1 l1.length c1] w fun e w' => e = .returned (.bool r) ∧ Below w.heap.size w w' := by
  have hu24 := Try.underlying24
  have HR0 := Aside0.mk hr0
  have HC0 := Aside0.mk hc0
  clear hr0 hc0
  have HR1 := Aside0.mk hr1
  have HC1 := Aside0.mk hc1
  clear hr1 hc1
  have HB := Aside0.mk (Below.refl w.heap.size w)
  have H : ((tailracelaw01_awake.f k).bind fun t221 => (if (l0.length : Int) > 200 then (tailracelaw01_ValueOwn.j0 k l0 l1 t221 true) else (tailracelaw01_ValueOwn.j0 k l0 l1 t221 (decide ((l1.length : Int) > 200))))) = some r := h
  clear h
  replace H := Option.bind_eq_some_iff.mp H
  obtain ⟨t221, A30, H⟩ := H
  replace H : (if (l0.length : Int) > 200 then (tailracelaw01_ValueOwn.j0 k l0 l1 t221 true) else (tailracelaw01_ValueOwn.j0 k l0 l1 t221 (decide ((l1.length : Int) > 200)))) = some r := H
  have A3 := Aside0.mk A30
  clear A30
  have HC4 := Aside0.mk H
  clear H
  go_enter Try.func8, Try.ntmps8
  go_upto_region 2 with (first | ((with_reducible refine gate_callee (f := 9) rfl ?_); refine goesL_ (some 12) rfl rfl Try.func9 (by kernel_rfl) rfl #[] rfl (by (try simp only [List.map_toArray, List.map_cons, List.map_nil]); first | done | rfl | (simp only [List.length_drop, List.length_take]; rfl)) ?_; (with_reducible refine (tailracelaw01_awake.calls k  t221 _ A3.out).mono ?_); rintro e w5 ⟨rfl, hb⟩; refine ⟨_, rfl, ?_⟩; have n0_ := Aside0.mk (below_step (by repeat (first | (with_reducible first | exact HB.out | apply below_alloc | apply pw_below_drewN | apply below_drew1) | exact HB.out)) hb); clear HB; have HB := n0_; clear n0_; (try clear hb); (try clear hb2); (try clear hk); (try clear hi)))
  (try simp only [Act.put, List.setIfInBounds_toArray, List.set_cons_zero, List.set_cons_succ])
  go_cut [20] (fun v20 wc => ∃ (kq : Nat) (x20_3 : Bool), v20 = .bool x20_3 ∧ Aside0 (tailracelaw01_ValueOwn.j0 kq l0 l1 t221 x20_3 = some r) ∧ Aside0 (kq ≤ k) ∧ Aside0 (Below w.heap.size w wc))
  case first =>
    have H := HC4.out
    clear HC4
    by_cases c6 : (l0.length : Int) > 200
    · rw [if_pos c6] at H
      have c6b0 : decide (200 < (l0.length : Int)) = true := decide_eq_true c6
      have c6b1 : decide (200 < l0.length) = true := decide_eq_true (by omega)
      clear c6
      (first | rw [c6b0] | (simp only [i64_w, i32_w]; rw [c6b0]) | skip)
      have H' := Aside0.mk H
      clear H
      go_wp2
      go_meet
      case rel => exact ⟨_, (true), (by first | rfl | (simp; done) | (simp [*]; done)), H', ⟨by first | omega | exact Nat.le_refl _⟩, ⟨by repeat (first | (with_reducible first | exact HB.out | apply below_alloc | apply pw_below_drewN | apply below_drew1) | exact HB.out)⟩⟩
    · rw [if_neg c6] at H
      have c6b0 : decide (200 < (l0.length : Int)) = false := decide_eq_false c6
      have c6b1 : decide (200 < l0.length) = false := decide_eq_false (by omega)
      clear c6
      (first | rw [c6b0] | (simp only [i64_w, i32_w]; rw [c6b0]) | skip)
      have H' := Aside0.mk H
      clear H
      go_wp2
      go_meet
      case rel => exact ⟨_, (decide ((l1.length : Int) > 200)), (by first | rfl | (simp; done) | (simp [*]; done)), H', ⟨by first | omega | exact Nat.le_refl _⟩, ⟨by repeat (first | (with_reducible first | exact HB.out | apply below_alloc | apply pw_below_drewN | apply below_drew1) | exact HB.out)⟩⟩
  case rest =>
    clear HC4
    try clear c1
    try clear p2
    try clear c6
    try clear c6b0
    try clear c6b1
    obtain ⟨kq, x20_3, rfl, HA, HJ3, HB⟩ := hcut
    cases kq with
    | zero => exact absurd HA.out (by simp [tailracelaw01_ValueOwn.j0])
    | succ kj3 =>
      have H := HA.out
      clear HA
      simp only [tailracelaw01_ValueOwn.j0] at H
      by_cases c7 : x20_3 = true
      · subst c7
        have H1 : (some t221) = some r := by rw [if_pos rfl] at H; exact H
        clear H
        have H := H1
        clear H1
        obtain rfl := Option.some.inj H
        go_wp2
        go_ret
        exact ⟨by first | rfl | (simp [errW_none, errW_some] <;> rfl) | (simp [*, errW_none, errW_some] <;> rfl), by repeat (first | (with_reducible first | exact HB.out | apply below_alloc | apply pw_below_drewN | apply below_drew1) | exact HB.out)⟩
      · replace c7 := Bool.eq_false_iff.mpr c7
        subst c7
        have H1 : ((value_Kinds.f kj3 l0).bind fun t222 => ((value_CheckRow.f kj3 l0 t222).bind fun t225 => ((value_CheckRow.f kj3 l0 l1).bind fun t226 => (tailracelaw01_ValueOwn.l0 kj3 l0 l1 t221 t222 t225 t226 false 0)))) = some r := by rw [if_neg (show ¬ (false = true) by decide)] at H; exact H
        clear H
        have H := H1
        clear H1
        replace H := Option.bind_eq_some_iff.mp H
        obtain ⟨t222, A80, H⟩ := H
        replace H : ((value_CheckRow.f kj3 l0 t222).bind fun t225 => ((value_CheckRow.f kj3 l0 l1).bind fun t226 => (tailracelaw01_ValueOwn.l0 kj3 l0 l1 t221 t222 t225 t226 false 0))) = some r := H
        have A8 := Aside0.mk A80
        clear A80
        replace H := Option.bind_eq_some_iff.mp H
        obtain ⟨t225, A90, H⟩ := H
        replace H : ((value_CheckRow.f kj3 l0 l1).bind fun t226 => (tailracelaw01_ValueOwn.l0 kj3 l0 l1 t221 t222 t225 t226 false 0)) = some r := H
        have A9 := Aside0.mk A90
        clear A90
        replace H := Option.bind_eq_some_iff.mp H
        obtain ⟨t226, A100, H⟩ := H
        replace H : (tailracelaw01_ValueOwn.l0 kj3 l0 l1 t221 t222 t225 t226 false 0) = some r := H
        have A10 := Aside0.mk A100
        clear A100
        have H' := Aside0.mk H
        clear H
        go_wp2_with (first | ((with_reducible refine gate_callee (f := 15) rfl ?_); refine goesL_ (some 23) rfl rfl Try.func15 (by kernel_rfl) rfl #[.slice A0 l0.length c0] rfl (by (try simp only [List.map_toArray, List.map_cons, List.map_nil]); first | done | rfl | (simp only [List.length_drop, List.length_take]; rfl)) ?_; (with_reducible refine (value_Kinds.calls kj3 _ _ l0 t222 _ ?side1 ?side2 A8.out).mono ?_); (case side1 => repeat (first | exact (Kd.C_below HR0.out HB.out) | (with_reducible refine Kd.C_alloc ?_ _) | (with_reducible refine Kd.C_drewN ?_ _) | (with_reducible refine Kd.C_drew ?_))); (case side2 => exact HC0.out); rintro e w11 ⟨v223, rfl, ho0, hb⟩; refine ⟨_, rfl, ?_⟩; have n0_ := Aside0.mk (Kd.R_lower ho0 (below_size (by repeat (first | (with_reducible first | exact HB.out | apply below_alloc | apply pw_below_drewN | apply below_drew1) | exact HB.out)))); have n1_ := Aside0.mk (below_step (by repeat (first | (with_reducible first | exact HB.out | apply below_alloc | apply pw_below_drewN | apply below_drew1) | exact HB.out)) hb); clear HB; have HO224 := n0_; have HB := n1_; clear n0_ n1_; (try clear hb); (try clear hb2); (try clear hk); (try clear hi); (try clear ho0); obtain ⟨Ao12, co12, eo12⟩ := Kd.R_slice HO224.out; subst eo12) | ((with_reducible refine gate_callee (f := 17) rfl ?_); refine goesL_ (some 26) rfl rfl Try.func17 (by kernel_rfl) rfl #[.slice A0 l0.length c0, .slice Ao12 t222.length co12] rfl (by (try simp only [List.map_toArray, List.map_cons, List.map_nil]); first | done | rfl | (simp only [List.length_drop, List.length_take]; rfl)) ?_; (with_reducible refine (value_CheckRow.calls kj3 _ _ l0 _ _ t222 t225 _ ?side1 ?side2 ?side3 ?side4 A9.out).mono ?_); (case side1 => repeat (first | exact (Kd.C_below HR0.out HB.out) | (with_reducible refine Kd.C_alloc ?_ _) | (with_reducible refine Kd.C_drewN ?_ _) | (with_reducible refine Kd.C_drew ?_))); (case side2 => exact HC0.out); (case side3 => repeat (first | exact (Kd.R_reads' HO224.out).2.2 | (with_reducible refine Kd.C_alloc ?_ _) | (with_reducible refine Kd.C_drewN ?_ _) | (with_reducible refine Kd.C_drew ?_))); (case side4 => exact (Kd.R_reads' HO224.out).2.1); rintro e w13 ⟨rfl, hb⟩; refine ⟨_, rfl, ?_⟩; have n0_ := Aside0.mk (Kd.R_below (by (with_reducible repeat (first | apply Kd.R_alloc | apply Kd.R_drewN | apply Kd.R_drew)); exact HO224.out) hb); have n1_ := Aside0.mk (below_step (by repeat (first | (with_reducible first | exact HB.out | apply below_alloc | apply pw_below_drewN | apply below_drew1) | exact HB.out)) hb); clear HO224; clear HB; have HO224 := n0_; have HB := n1_; clear n0_ n1_; (try clear hb); (try clear hb2); (try clear hk); (try clear hi)) | ((with_reducible refine gate_callee (f := 17) rfl ?_); refine goesL_ (some 29) rfl rfl Try.func17 (by kernel_rfl) rfl #[.slice A0 l0.length c0, .slice A1 l1.length c1] rfl (by (try simp only [List.map_toArray, List.map_cons, List.map_nil]); first | done | rfl | (simp only [List.length_drop, List.length_take]; rfl)) ?_; (with_reducible refine (value_CheckRow.calls kj3 _ _ l0 _ _ l1 t226 _ ?side1 ?side2 ?side3 ?side4 A10.out).mono ?_); (case side1 => repeat (first | exact (Kd.C_below HR0.out HB.out) | (with_reducible refine Kd.C_alloc ?_ _) | (with_reducible refine Kd.C_drewN ?_ _) | (with_reducible refine Kd.C_drew ?_))); (case side2 => exact HC0.out); (case side3 => repeat (first | exact (Kd.C_below HR1.out HB.out) | (with_reducible refine Kd.C_alloc ?_ _) | (with_reducible refine Kd.C_drewN ?_ _) | (with_reducible refine Kd.C_drew ?_))); (case side4 => exact HC1.out); rintro e w14 ⟨rfl, hb⟩; refine ⟨_, rfl, ?_⟩; have n0_ := Aside0.mk (Kd.R_below (by (with_reducible repeat (first | apply Kd.R_alloc | apply Kd.R_drewN | apply Kd.R_drew)); exact HO224.out) hb); have n1_ := Aside0.mk (below_step (by repeat (first | (with_reducible first | exact HB.out | apply below_alloc | apply pw_below_drewN | apply below_drew1) | exact HB.out)) hb); clear HO224; clear HB; have HO224 := n0_; have HB := n1_; clear n0_ n1_; (try clear hb); (try clear hb2); (try clear hk); (try clear hi)))
        go_loopg [9, 10] kj3 (fun kq v9 v10 w' => ∃ (x9_2 : Bool) (x10_2 : Int), v9 = .bool x9_2 ∧ v10 = .int .i64 x10_2 ∧ Aside0 (tailracelaw01_ValueOwn.l0 kq l0 l1 t221 t222 t225 t226 x9_2 x10_2 = some r) ∧ Aside0 (kq ≤ kj3) ∧ Aside0 (Kd.R (Kd.int .i64) 3 w' w.heap.size (fun _ => True) (.slice Ao12 t222.length co12) t222) ∧ Aside0 (Below w.heap.size w w'))
        case atStart => exact ⟨(false), (0), (by first | rfl | (simp; done) | (simp [*]; done)), (by first | rfl | (simp; done) | (simp [*]; done)), H', ⟨Nat.le_refl _⟩, ⟨by (with_reducible repeat (first | apply Kd.R_alloc | apply Kd.R_drewN | apply Kd.R_drew)); exact HO224.out⟩, ⟨by repeat (first | (with_reducible first | exact HB.out | apply below_alloc | apply pw_below_drewN | apply below_drew1) | exact HB.out)⟩⟩
        case round =>
          clear H'
          try clear c1
          try clear p2
          try clear c6
          try clear c6b0
          try clear c6b1
          try clear c7
          try clear c8
          try clear c9
          try clear p2
          obtain ⟨x9_2, x10_2, rfl, rfl, HA, HK2, HO_6, HB⟩ := hrel
          cases gk with
          | zero => exact absurd HA.out (by simp [tailracelaw01_ValueOwn.l0])
          | succ k2 =>
            have H := HA.out
            clear HA
            simp only [tailracelaw01_ValueOwn.l0] at H
            by_cases c15 : x10_2 < (l0.length : Int)
            · rw [if_pos c15] at H
              have c15b0 : decide (x10_2 < (l0.length : Int)) = true := decide_eq_true c15
              clear c15
              by_cases c16 : x9_2 = true
              · subst c16
                have H1 : (tailracelaw01_ValueOwn.l0 k2 l0 l1 t221 t222 t225 t226 true (wrap64 (x10_2 + 1))) = some r := by rw [if_pos rfl] at H; exact H
                clear H
                have H := H1
                clear H1
                have H' := Aside0.mk H
                clear H
                go_wp2
                go_roundg k2
                case measure => have := HJ3.out; have := HK2.out; omega
                case rel => exact ⟨(true), (wrap64 (x10_2 + 1)), (by first | rfl | (simp; done) | (simp [*]; done)), (by first | rfl | (simp; done) | (simp [*]; done)), H', ⟨by have := HJ3.out; have := HK2.out; omega⟩, ⟨by (with_reducible repeat (first | apply Kd.R_alloc | apply Kd.R_drewN | apply Kd.R_drew)); exact HO_6.out⟩, ⟨by repeat (first | (with_reducible first | exact HB.out | apply below_alloc | apply pw_below_drewN | apply below_drew1) | exact HB.out)⟩⟩
              · replace c16 := Bool.eq_false_iff.mpr c16
                subst c16
                have H1 : (if 0 ≤ x10_2 then ((value_Check.f ((rd_T24 l0 x10_2).f0) ((rd_T24 l0 x10_2).f1) ((rd_T24 l0 x10_2).f2)).bind fun t228 => (tailracelaw01_ValueOwn.l0 k2 l0 l1 t221 t222 t225 t226 (t228 != 0) (wrap64 (x10_2 + 1)))) else (none)) = some r := by rw [if_neg (show ¬ (false = true) by decide)] at H; exact H
                clear H
                have H := H1
                clear H1
                by_cases c17 : 0 ≤ x10_2
                · rw [if_pos c17] at H
                  have c17b0 : decide (0 ≤ x10_2) = true := decide_eq_true c17
                  clear c17
                  replace H := Option.bind_eq_some_iff.mp H
                  obtain ⟨t228, A180, H⟩ := H
                  replace H : (tailracelaw01_ValueOwn.l0 k2 l0 l1 t221 t222 t225 t226 (t228 != 0) (wrap64 (x10_2 + 1))) = some r := H
                  have A18 := Aside0.mk A180
                  clear A180
                  have H' := Aside0.mk H
                  clear H
                  have p227 : 0 ≤ (x10_2 : Int) := of_decide_eq_true (by first | (with_reducible assumption) | assumption)
                  have q227 : x10_2 < (l0.length : Int) := of_decide_eq_true (by first | (with_reducible assumption) | assumption)
                  obtain ⟨ad227, e227, hx227_0, hx227_1, hx227_2⟩ := at_T24 HR0.out x10_2 p227 q227
                  cases e227
                  replace hx227_0 := (HB.out.cell (World.block_lt_of_cell? w _ hx227_0)).trans hx227_0
                  replace hx227_1 := (HB.out.cell (World.block_lt_of_cell? w _ hx227_1)).trans hx227_1
                  replace hx227_2 := (HB.out.cell (World.block_lt_of_cell? w _ hx227_2)).trans hx227_2
                  replace p227 := eq_true p227
                  replace q227 := eq_true q227
                  go_wp2_with (first | (go_at_call 10; (with_reducible refine (value_Check.calls ((rd_T24 l0 x10_2).f0) ((rd_T24 l0 x10_2).f1) ((rd_T24 l0 x10_2).f2) t228 _ A18.out).mono ?_); rintro e w19 ⟨rfl, hb⟩; have n0_ := Aside0.mk (Kd.R_below (by (with_reducible repeat (first | apply Kd.R_alloc | apply Kd.R_drewN | apply Kd.R_drew)); exact HO_6.out) hb); have n1_ := Aside0.mk (below_step (by repeat (first | (with_reducible first | exact HB.out | apply below_alloc | apply pw_below_drewN | apply below_drew1) | exact HB.out)) hb); clear HO_6; clear HB; have HO_6 := n0_; have HB := n1_; clear n0_ n1_; (try clear hb); (try clear hb2); (try clear hk); (try clear hi)))
                  go_roundg k2
                  case measure => have := HJ3.out; have := HK2.out; omega
                  case rel => exact ⟨((t228 != 0)), (wrap64 (x10_2 + 1)), (by first | rfl | (simp; done) | (simp [*]; done)), (by first | rfl | (simp; done) | (simp [*]; done)), H', ⟨by have := HJ3.out; have := HK2.out; omega⟩, ⟨by (with_reducible repeat (first | apply Kd.R_alloc | apply Kd.R_drewN | apply Kd.R_drew)); exact HO_6.out⟩, ⟨by repeat (first | (with_reducible first | exact HB.out | apply below_alloc | apply pw_below_drewN | apply below_drew1) | exact HB.out)⟩⟩
                · rw [if_neg c17] at H
                  exact absurd H (by simp)
            · rw [if_neg c15] at H
              have c15b0 : decide (x10_2 < (l0.length : Int)) = false := decide_eq_false c15
              clear c15
              by_cases c20 : x9_2 = true
              · subst c20
                have H1 : (if t221 = true then (if t225 = 10 then (some (t226 == 10)) else (some false)) else (some false)) = some r := by rw [if_pos rfl] at H; exact H
                clear H
                have H := H1
                clear H1
                by_cases c21 : t221 = true
                · subst c21
                  have H1 : (if t225 = 10 then (some (t226 == 10)) else (some false)) = some r := by rw [if_pos rfl] at H; exact H
                  clear H
                  have H := H1
                  clear H1
                  by_cases c22 : t225 = 10
                  · rw [if_pos c22] at H
                    have c22b0 : (t225 == 10) = true := beq_iff_eq.mpr c22
                    have c22b1 : (t225 != 10) = false := bne_eq_false_iff_eq.mpr c22
                    clear c22
                    obtain rfl := Option.some.inj H
                    go_wp2
                    go_ret
                    exact ⟨by first | rfl | (simp [errW_none, errW_some] <;> rfl) | (simp [*, errW_none, errW_some] <;> rfl), by repeat (first | (with_reducible first | exact HB.out | apply below_alloc | apply pw_below_drewN | apply below_drew1) | exact HB.out)⟩
                  · rw [if_neg c22] at H
                    have c22b0 : (t225 == 10) = false := beq_eq_false_iff_ne.mpr c22
                    have c22b1 : (t225 != 10) = true := bne_iff_ne.mpr c22
                    obtain rfl := Option.some.inj H
                    go_wp2
                    go_ret
                    exact ⟨by first | rfl | (simp [errW_none, errW_some] <;> rfl) | (simp [*, errW_none, errW_some] <;> rfl), by repeat (first | (with_reducible first | exact HB.out | apply below_alloc | apply pw_below_drewN | apply below_drew1) | exact HB.out)⟩
                · replace c21 := Bool.eq_false_iff.mpr c21
                  subst c21
                  have H1 : (some false) = some r := by rw [if_neg (show ¬ (false = true) by decide)] at H; exact H
                  clear H
                  have H := H1
                  clear H1
                  obtain rfl := Option.some.inj H
                  go_wp2
                  go_ret
                  exact ⟨by first | rfl | (simp [errW_none, errW_some] <;> rfl) | (simp [*, errW_none, errW_some] <;> rfl), by repeat (first | (with_reducible first | exact HB.out | apply below_alloc | apply pw_below_drewN | apply below_drew1) | exact HB.out)⟩
              · replace c20 := Bool.eq_false_iff.mpr c20
                subst c20
                have H1 : ((tailraceref01_Ints.f k2 t222 l1).bind fun t229 => (if t221 = true then (if t225 = 0 then (if ((t226 == 0) == t229) = true then (if t229 = true then (some true) else (some (t226 == 11))) else (some false)) else (some false)) else (some false))) = some r := by rw [if_neg (show ¬ (false = true) by decide)] at H; exact H
                clear H
                have H := H1
                clear H1
                replace H := Option.bind_eq_some_iff.mp H
                obtain ⟨t229, A230, H⟩ := H
                replace H : (if t221 = true then (if t225 = 0 then (if ((t226 == 0) == t229) = true then (if t229 = true then (some true) else (some (t226 == 11))) else (some false)) else (some false)) else (some false)) = some r := H
                have A23 := Aside0.mk A230
                clear A230
                by_cases c24 : t221 = true
                · subst c24
                  have H1 : (if t225 = 0 then (if ((t226 == 0) == t229) = true then (if t229 = true then (some true) else (some (t226 == 11))) else (some false)) else (some false)) = some r := by rw [if_pos rfl] at H; exact H
                  clear H
                  have H := H1
                  clear H1
                  by_cases c25 : t225 = 0
                  · rw [if_pos c25] at H
                    have c25b0 : (t225 == 0) = true := beq_iff_eq.mpr c25
                    have c25b1 : (t225 != 0) = false := bne_eq_false_iff_eq.mpr c25
                    clear c25
                    by_cases c26 : ((t226 == 0) == t229) = true
                    · rw [if_pos c26] at H
                      have c26b0 : ((t226 == 0) == t229) = true := c26
                      (try (have c26b1 : decide ((t226 == 0) = t229) = true := by simpa using c26))
                      (try (have c26b2 : ((t226 == 0) == t229) = true := by simpa using c26))
                      clear c26
                      by_cases c27 : t229 = true
                      · subst c27
                        have H1 : (some true) = some r := by rw [if_pos rfl] at H; exact H
                        clear H
                        have H := H1
                        clear H1
                        obtain rfl := Option.some.inj H
                        go_wp2_with (first | ((with_reducible refine gate_callee (f := 14) rfl ?_); refine goesL_ (some 57) rfl rfl Try.func14 (by kernel_rfl) rfl #[.slice Ao12 t222.length co12, .slice A1 l1.length c1] rfl (by (try simp only [List.map_toArray, List.map_cons, List.map_nil]); first | done | rfl | (simp only [List.length_drop, List.length_take]; rfl)) ?_; (with_reducible refine (tailraceref01_Ints.calls k2 _ _ t222 _ _ l1 true _ ?side1 ?side2 ?side3 ?side4 A23.out).mono ?_); (case side1 => repeat (first | exact (Kd.R_reads' HO_6.out).2.2 | (with_reducible refine Kd.C_alloc ?_ _) | (with_reducible refine Kd.C_drewN ?_ _) | (with_reducible refine Kd.C_drew ?_))); (case side2 => exact (Kd.R_reads' HO_6.out).2.1); (case side3 => repeat (first | exact (Kd.C_below HR1.out HB.out) | (with_reducible refine Kd.C_alloc ?_ _) | (with_reducible refine Kd.C_drewN ?_ _) | (with_reducible refine Kd.C_drew ?_))); (case side4 => exact HC1.out); rintro e w' ⟨rfl, ⟨nd, rfl⟩⟩; refine ⟨_, rfl, ?_⟩))
                        go_ret
                        exact ⟨by first | rfl | (simp [errW_none, errW_some] <;> rfl) | (simp [*, errW_none, errW_some] <;> rfl), by repeat (first | (with_reducible first | exact HB.out | apply below_alloc | apply pw_below_drewN | apply below_drew1) | exact HB.out)⟩
                      · replace c27 := Bool.eq_false_iff.mpr c27
                        subst c27
                        have H1 : (some (t226 == 11)) = some r := by rw [if_neg (show ¬ (false = true) by decide)] at H; exact H
                        clear H
                        have H := H1
                        clear H1
                        obtain rfl := Option.some.inj H
                        go_wp2_with (first | ((with_reducible refine gate_callee (f := 14) rfl ?_); refine goesL_ (some 57) rfl rfl Try.func14 (by kernel_rfl) rfl #[.slice Ao12 t222.length co12, .slice A1 l1.length c1] rfl (by (try simp only [List.map_toArray, List.map_cons, List.map_nil]); first | done | rfl | (simp only [List.length_drop, List.length_take]; rfl)) ?_; (with_reducible refine (tailraceref01_Ints.calls k2 _ _ t222 _ _ l1 false _ ?side1 ?side2 ?side3 ?side4 A23.out).mono ?_); (case side1 => repeat (first | exact (Kd.R_reads' HO_6.out).2.2 | (with_reducible refine Kd.C_alloc ?_ _) | (with_reducible refine Kd.C_drewN ?_ _) | (with_reducible refine Kd.C_drew ?_))); (case side2 => exact (Kd.R_reads' HO_6.out).2.1); (case side3 => repeat (first | exact (Kd.C_below HR1.out HB.out) | (with_reducible refine Kd.C_alloc ?_ _) | (with_reducible refine Kd.C_drewN ?_ _) | (with_reducible refine Kd.C_drew ?_))); (case side4 => exact HC1.out); rintro e w' ⟨rfl, ⟨nd, rfl⟩⟩; refine ⟨_, rfl, ?_⟩))
                        go_ret
                        exact ⟨by first | rfl | (simp [errW_none, errW_some] <;> rfl) | (simp [*, errW_none, errW_some] <;> rfl), by repeat (first | (with_reducible first | exact HB.out | apply below_alloc | apply pw_below_drewN | apply below_drew1) | exact HB.out)⟩
                    · rw [if_neg c26] at H
                      have c26b0 : ((t226 == 0) == t229) = false := by simpa using c26
                      (try (have c26b1 : decide ((t226 == 0) = t229) = false := by simpa using c26))
                      (try (have c26b2 : ((t226 == 0) == t229) = false := by simpa using c26))
                      (try (have c26b3 : ¬ ((t226 == 0) = t229) := by simpa using c26))
                      clear c26
                      obtain rfl := Option.some.inj H
                      go_wp2_with (first | ((with_reducible refine gate_callee (f := 14) rfl ?_); refine goesL_ (some 57) rfl rfl Try.func14 (by kernel_rfl) rfl #[.slice Ao12 t222.length co12, .slice A1 l1.length c1] rfl (by (try simp only [List.map_toArray, List.map_cons, List.map_nil]); first | done | rfl | (simp only [List.length_drop, List.length_take]; rfl)) ?_; (with_reducible refine (tailraceref01_Ints.calls k2 _ _ t222 _ _ l1 t229 _ ?side1 ?side2 ?side3 ?side4 A23.out).mono ?_); (case side1 => repeat (first | exact (Kd.R_reads' HO_6.out).2.2 | (with_reducible refine Kd.C_alloc ?_ _) | (with_reducible refine Kd.C_drewN ?_ _) | (with_reducible refine Kd.C_drew ?_))); (case side2 => exact (Kd.R_reads' HO_6.out).2.1); (case side3 => repeat (first | exact (Kd.C_below HR1.out HB.out) | (with_reducible refine Kd.C_alloc ?_ _) | (with_reducible refine Kd.C_drewN ?_ _) | (with_reducible refine Kd.C_drew ?_))); (case side4 => exact HC1.out); rintro e w' ⟨rfl, ⟨nd, rfl⟩⟩; refine ⟨_, rfl, ?_⟩))
                      go_ret
                      exact ⟨by first | rfl | (simp [errW_none, errW_some] <;> rfl) | (simp [*, errW_none, errW_some] <;> rfl), by repeat (first | (with_reducible first | exact HB.out | apply below_alloc | apply pw_below_drewN | apply below_drew1) | exact HB.out)⟩
                  · rw [if_neg c25] at H
                    have c25b0 : (t225 == 0) = false := beq_eq_false_iff_ne.mpr c25
                    have c25b1 : (t225 != 0) = true := bne_iff_ne.mpr c25
                    obtain rfl := Option.some.inj H
                    go_wp2_with (first | ((with_reducible refine gate_callee (f := 14) rfl ?_); refine goesL_ (some 57) rfl rfl Try.func14 (by kernel_rfl) rfl #[.slice Ao12 t222.length co12, .slice A1 l1.length c1] rfl (by (try simp only [List.map_toArray, List.map_cons, List.map_nil]); first | done | rfl | (simp only [List.length_drop, List.length_take]; rfl)) ?_; (with_reducible refine (tailraceref01_Ints.calls k2 _ _ t222 _ _ l1 t229 _ ?side1 ?side2 ?side3 ?side4 A23.out).mono ?_); (case side1 => repeat (first | exact (Kd.R_reads' HO_6.out).2.2 | (with_reducible refine Kd.C_alloc ?_ _) | (with_reducible refine Kd.C_drewN ?_ _) | (with_reducible refine Kd.C_drew ?_))); (case side2 => exact (Kd.R_reads' HO_6.out).2.1); (case side3 => repeat (first | exact (Kd.C_below HR1.out HB.out) | (with_reducible refine Kd.C_alloc ?_ _) | (with_reducible refine Kd.C_drewN ?_ _) | (with_reducible refine Kd.C_drew ?_))); (case side4 => exact HC1.out); rintro e w' ⟨rfl, ⟨nd, rfl⟩⟩; refine ⟨_, rfl, ?_⟩))
                    go_ret
                    exact ⟨by first | rfl | (simp [errW_none, errW_some] <;> rfl) | (simp [*, errW_none, errW_some] <;> rfl), by repeat (first | (with_reducible first | exact HB.out | apply below_alloc | apply pw_below_drewN | apply below_drew1) | exact HB.out)⟩
                · replace c24 := Bool.eq_false_iff.mpr c24
                  subst c24
                  have H1 : (some false) = some r := by rw [if_neg (show ¬ (false = true) by decide)] at H; exact H
                  clear H
                  have H := H1
                  clear H1
                  obtain rfl := Option.some.inj H
                  go_wp2_with (first | ((with_reducible refine gate_callee (f := 14) rfl ?_); refine goesL_ (some 57) rfl rfl Try.func14 (by kernel_rfl) rfl #[.slice Ao12 t222.length co12, .slice A1 l1.length c1] rfl (by (try simp only [List.map_toArray, List.map_cons, List.map_nil]); first | done | rfl | (simp only [List.length_drop, List.length_take]; rfl)) ?_; (with_reducible refine (tailraceref01_Ints.calls k2 _ _ t222 _ _ l1 t229 _ ?side1 ?side2 ?side3 ?side4 A23.out).mono ?_); (case side1 => repeat (first | exact (Kd.R_reads' HO_6.out).2.2 | (with_reducible refine Kd.C_alloc ?_ _) | (with_reducible refine Kd.C_drewN ?_ _) | (with_reducible refine Kd.C_drew ?_))); (case side2 => exact (Kd.R_reads' HO_6.out).2.1); (case side3 => repeat (first | exact (Kd.C_below HR1.out HB.out) | (with_reducible refine Kd.C_alloc ?_ _) | (with_reducible refine Kd.C_drewN ?_ _) | (with_reducible refine Kd.C_drew ?_))); (case side4 => exact HC1.out); rintro e w' ⟨rfl, ⟨nd, rfl⟩⟩; refine ⟨_, rfl, ?_⟩))
                  go_ret
                  exact ⟨by first | rfl | (simp [errW_none, errW_some] <;> rfl) | (simp [*, errW_none, errW_some] <;> rfl), by repeat (first | (with_reducible first | exact HB.out | apply below_alloc | apply pw_below_drewN | apply below_drew1) | exact HB.out)⟩

end Go.Proofs.Ytddpgppmfibddaa.P
