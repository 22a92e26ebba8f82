-- Written by a program of this session (a patched print): not the kit's own print.
import Derived.Test.YtddpgppmfibddaaPx0
import Derived.Test.YtddpgppmfibddaaPx1
import Derived.Test.YtddpgppmfibddaaPx2
import Derived.Test.YtddpgppmfibddaaPx3
import Derived.Test.YtddpgppmfibddaaPx4
import Derived.Test.YtddpgppmfibddaaPx5
namespace Go.Proofs.Ytddpgppmfibddaa.P
open Go.RowKit Go.Proofs.YtddpgppmfibddaaW.PrintWords Go.Proofs.YtddpgppmfibddaaW.PrintLast Go.Proofs.YtddpgppmfibddaaW.PrintMore
attribute [local go_sem] max2_int min2_int max_two min_two max_three min_three max_four min_four   -- for this text's walks alone
set_option linter.unusedVariables false
set_option linter.unusedSimpArgs false

attribute [local go_sem high] eqA24
/-! ### tailracelaw01_ValueRows: function 5 -/
def tailracelaw01_ValueRows.j0 : Nat → List (S24) → List (S24) → List Int → Bool → Bool → Option (Bool)
  | 0, _, _, _, _, _ => none
  | k + 1, x0, x1, x2, x7, x22 => if x22 = true then (some x7) else ((value_Kinds.f k x0).bind fun t179 => ((tailraceref01_Kinds.f k x0).bind fun t182 => ((tailraceref01_Ints.f k t179 t182).bind fun t185 => (if x7 = true then (if t185 = true then ((value_CheckRow.f k x0 x2).bind fun t186 => ((tailraceref01_CheckRow.f k x0 x2).bind fun t187 => (if t186 = t187 then ((value_CmpRow.f k x0 x1).bind fun t188 => ((tailraceref01_CmpRow.f k x0 x1).bind fun t189 => (some (t188 == t189)))) else (some false)))) else (some false)) else (some false)))))
def tailracelaw01_ValueRows.f (k : Nat) (l0 : List (S24)) (l1 : List (S24)) (l2 : List Int) : Option (Bool) := (tailracelaw01_awake.f k).bind fun t178 => (if (l0.length : Int) > 200 then (tailracelaw01_ValueRows.j0 k l0 l1 l2 t178 true) else (if (l1.length : Int) > 200 then (tailracelaw01_ValueRows.j0 k l0 l1 l2 t178 true) else (tailracelaw01_ValueRows.j0 k l0 l1 l2 t178 (decide ((l2.length : Int) > 200)))))
theorem tailracelaw01_ValueRows.mono_l : ∀ k, (∀ y0 y1 y2 y3 y4, LeO (tailracelaw01_ValueRows.j0 k y0 y1 y2 y3 y4) (tailracelaw01_ValueRows.j0 (k + 1) y0 y1 y2 y3 y4))
  | 0 => fun _ _ _ _ _ r h => by simp [tailracelaw01_ValueRows.j0] at h
  | k + 1 => by
    have ih0 := tailracelaw01_ValueRows.mono_l k
    · intro y0 y1 y2 y3 y4
      unfold tailracelaw01_ValueRows.j0
      repeat' first
      | (with_reducible exact ih0 _ _ _ _ _)
      | (with_reducible exact tailracelaw01_awake.mono _)
      | (with_reducible exact tailraceref01_CheckRow.mono _ _ _)
      | (with_reducible exact tailraceref01_CmpRow.mono _ _ _)
      | (with_reducible exact tailraceref01_Ints.mono _ _ _)
      | (with_reducible exact tailraceref01_Kinds.mono _ _)
      | (with_reducible exact value_CheckRow.mono _ _ _)
      | (with_reducible exact value_CmpRow.mono _ _ _)
      | (with_reducible exact value_Kinds.mono _ _)
      | (with_reducible exact LeO.refl _)
      | (with_reducible exact LeO.none _)
      | (with_reducible refine LeO.ite ?_ ?_)
      | (with_reducible refine LeO.bind ?_ (fun _ => ?_))
      | exact ih0 _ _ _ _ _
      | exact tailracelaw01_awake.mono _
      | exact tailraceref01_CheckRow.mono _ _ _
      | exact tailraceref01_CmpRow.mono _ _ _
      | exact tailraceref01_Ints.mono _ _ _
      | exact tailraceref01_Kinds.mono _ _
      | exact value_CheckRow.mono _ _ _
      | exact value_CmpRow.mono _ _ _
      | exact value_Kinds.mono _ _
      | exact LeO.none _
      | refine LeO.ite ?_ ?_
      | refine LeO.bind ?_ (fun _ => ?_)
theorem tailracelaw01_ValueRows.mono : ∀ a0 a1 a2 k, LeO (tailracelaw01_ValueRows.f k a0 a1 a2) (tailracelaw01_ValueRows.f (k + 1) a0 a1 a2) := by
  intro a0 a1 a2 k
  have ih0 := tailracelaw01_ValueRows.mono_l k
  unfold tailracelaw01_ValueRows.f
  repeat' first
      | (with_reducible exact ih0 _ _ _ _ _)
      | (with_reducible exact tailracelaw01_awake.mono _)
      | (with_reducible exact tailraceref01_CheckRow.mono _ _ _)
      | (with_reducible exact tailraceref01_CmpRow.mono _ _ _)
      | (with_reducible exact tailraceref01_Ints.mono _ _ _)
      | (with_reducible exact tailraceref01_Kinds.mono _ _)
      | (with_reducible exact value_CheckRow.mono _ _ _)
      | (with_reducible exact value_CmpRow.mono _ _ _)
      | (with_reducible exact value_Kinds.mono _ _)
      | (with_reducible exact LeO.refl _)
      | (with_reducible exact LeO.none _)
      | (with_reducible refine LeO.ite ?_ ?_)
      | (with_reducible refine LeO.bind ?_ (fun _ => ?_))
      | exact ih0 _ _ _ _ _
      | exact tailracelaw01_awake.mono _
      | exact tailraceref01_CheckRow.mono _ _ _
      | exact tailraceref01_CmpRow.mono _ _ _
      | exact tailraceref01_Ints.mono _ _ _
      | exact tailraceref01_Kinds.mono _ _
      | exact value_CheckRow.mono _ _ _
      | exact value_CmpRow.mono _ _ _
      | exact value_Kinds.mono _ _
      | exact LeO.none _
      | refine LeO.ite ?_ ?_
      | refine LeO.bind ?_ (fun _ => ?_)
set_option maxHeartbeats 8000000 in
set_option maxRecDepth 100000 in
theorem tailracelaw01_ValueRows.calls (k : Nat) (A0 : Option Addr) (c0 : Nat) (l0 : List (S24)) (A1 : Option Addr) (c1 : Nat) (l1 : List (S24)) (A2 : Option Addr) (c2 : Nat) (l2 : List Int) (r : Bool) (w : World) (hr0 : Kd.C k24 w A0 l0.length l0) (hc0 : l0.length ≤ c0) (hr1 : Kd.C k24 w A1 l1.length l1) (hc1 : l1.length ≤ c1) (hr2 : Kd.C (Kd.int .i64) w A2 l2.length l2) (hc2 : l2.length ≤ c2) (h : tailracelaw01_ValueRows.f k l0 l1 l2 = some r) :
    Calls Try.prog 5 #[.slice A0 l0.length c0, .slice A1 l1.length c1, .slice A2 l2.length c2] w fun e w' => e = .returned (.bool r) ∧ Below w.heap.size w w' := by
  have HR0 := Aside0.mk hr0
  have HC0 := Aside0.mk hc0
  clear hr0 hc0
  have HR1 := Aside0.mk hr1
  have HC1 := Aside0.mk hc1
  clear hr1 hc1
  have HR2 := Aside0.mk hr2
  have HC2 := Aside0.mk hc2
  clear hr2 hc2
  have HB := Aside0.mk (Below.refl w.heap.size w)
  have H : ((tailracelaw01_awake.f k).bind fun t178 => (if (l0.length : Int) > 200 then (tailracelaw01_ValueRows.j0 k l0 l1 l2 t178 true) else (if (l1.length : Int) > 200 then (tailracelaw01_ValueRows.j0 k l0 l1 l2 t178 true) else (tailracelaw01_ValueRows.j0 k l0 l1 l2 t178 (decide ((l2.length : Int) > 200)))))) = some r := h
  clear h
  replace H := Option.bind_eq_some_iff.mp H
  obtain ⟨t178, A40, H⟩ := H
  replace H : (if (l0.length : Int) > 200 then (tailracelaw01_ValueRows.j0 k l0 l1 l2 t178 true) else (if (l1.length : Int) > 200 then (tailracelaw01_ValueRows.j0 k l0 l1 l2 t178 true) else (tailracelaw01_ValueRows.j0 k l0 l1 l2 t178 (decide ((l2.length : Int) > 200))))) = some r := H
  have A4 := Aside0.mk A40
  clear A40
  have HC5 := Aside0.mk H
  clear H
  go_enter Try.func5, Try.ntmps5
  go_upto_region 2 with (first | ((with_reducible refine gate_callee (f := 9) rfl ?_); refine goesL_ (some 9) rfl rfl Try.func9 (by kernel_rfl) rfl #[] rfl (by (try simp only [List.map_toArray, List.map_cons, List.map_nil]); first | done | rfl | (simp only [List.length_drop, List.length_take]; rfl)) ?_; (with_reducible refine (tailracelaw01_awake.calls k  t178 _ A4.out).mono ?_); rintro e w6 ⟨rfl, hb⟩; refine ⟨_, rfl, ?_⟩; have n0_ := Aside0.mk (below_step (by repeat (first | (with_reducible first | exact HB.out | apply below_alloc | apply pw_below_drewN | apply below_drew1) | exact HB.out)) hb); clear HB; have HB := n0_; clear n0_; (try clear hb); (try clear hb2); (try clear hk); (try clear hi)))
  (try simp only [Act.put, List.setIfInBounds_toArray, List.set_cons_zero, List.set_cons_succ])
  go_cut [22] (fun v22 wc => ∃ (kq : Nat) (x22_4 : Bool), v22 = .bool x22_4 ∧ Aside0 (tailracelaw01_ValueRows.j0 kq l0 l1 l2 t178 x22_4 = some r) ∧ Aside0 (kq ≤ k) ∧ Aside0 (Below w.heap.size w wc))
  case first =>
    have H := HC5.out
    clear HC5
    by_cases c7 : (l0.length : Int) > 200
    · rw [if_pos c7] at H
      have c7b0 : decide (200 < (l0.length : Int)) = true := decide_eq_true c7
      have c7b1 : decide (200 < l0.length) = true := decide_eq_true (by omega)
      clear c7
      (first | rw [c7b0] | (simp only [i64_w, i32_w]; rw [c7b0]) | skip)
      have H' := Aside0.mk H
      clear H
      go_wp2
      go_meet
      case rel => exact ⟨_, (true), (by first | rfl | (simp; done) | (simp [*]; done)), H', ⟨by first | omega | exact Nat.le_refl _⟩, ⟨by repeat (first | (with_reducible first | exact HB.out | apply below_alloc | apply pw_below_drewN | apply below_drew1) | exact HB.out)⟩⟩
    · rw [if_neg c7] at H
      have c7b0 : decide (200 < (l0.length : Int)) = false := decide_eq_false c7
      have c7b1 : decide (200 < l0.length) = false := decide_eq_false (by omega)
      clear c7
      (first | rw [c7b0] | (simp only [i64_w, i32_w]; rw [c7b0]) | skip)
      by_cases c8 : (l1.length : Int) > 200
      · rw [if_pos c8] at H
        have c8b0 : decide (200 < (l1.length : Int)) = true := decide_eq_true c8
        have c8b1 : decide (200 < l1.length) = true := decide_eq_true (by omega)
        clear c8
        have H' := Aside0.mk H
        clear H
        go_wp2
        go_meet
        case rel => exact ⟨_, (true), (by first | rfl | (simp; done) | (simp [*]; done)), H', ⟨by first | omega | exact Nat.le_refl _⟩, ⟨by repeat (first | (with_reducible first | exact HB.out | apply below_alloc | apply pw_below_drewN | apply below_drew1) | exact HB.out)⟩⟩
      · rw [if_neg c8] at H
        have c8b0 : decide (200 < (l1.length : Int)) = false := decide_eq_false c8
        have c8b1 : decide (200 < l1.length) = false := decide_eq_false (by omega)
        clear c8
        have H' := Aside0.mk H
        clear H
        go_wp2
        go_meet
        case rel => exact ⟨_, (decide ((l2.length : Int) > 200)), (by first | rfl | (simp; done) | (simp [*]; done)), H', ⟨by first | omega | exact Nat.le_refl _⟩, ⟨by repeat (first | (with_reducible first | exact HB.out | apply below_alloc | apply pw_below_drewN | apply below_drew1) | exact HB.out)⟩⟩
  case rest =>
    clear HC5
    try clear c1
    try clear c2
    try clear p2
    try clear c5
    try clear c7
    try clear c7b0
    try clear c7b1
    try clear c8
    try clear c8b0
    try clear c8b1
    obtain ⟨kq, x22_4, rfl, HA, HJ4, HB⟩ := hcut
    cases kq with
    | zero => exact absurd HA.out (by simp [tailracelaw01_ValueRows.j0])
    | succ kj4 =>
      have H := HA.out
      clear HA
      simp only [tailracelaw01_ValueRows.j0] at H
      by_cases c9 : x22_4 = true
      · subst c9
        have H1 : (some t178) = some r := by rw [if_pos rfl] at H; exact H
        clear H
        have H := H1
        clear H1
        obtain rfl := Option.some.inj H
        go_wp2
        go_ret
        exact ⟨by first | rfl | (simp [errW_none, errW_some] <;> rfl) | (simp [*, errW_none, errW_some] <;> rfl), by repeat (first | (with_reducible first | exact HB.out | apply below_alloc | apply pw_below_drewN | apply below_drew1) | exact HB.out)⟩
      · replace c9 := Bool.eq_false_iff.mpr c9
        subst c9
        have H1 : ((value_Kinds.f kj4 l0).bind fun t179 => ((tailraceref01_Kinds.f kj4 l0).bind fun t182 => ((tailraceref01_Ints.f kj4 t179 t182).bind fun t185 => (if t178 = true then (if t185 = true then ((value_CheckRow.f kj4 l0 l2).bind fun t186 => ((tailraceref01_CheckRow.f kj4 l0 l2).bind fun t187 => (if t186 = t187 then ((value_CmpRow.f kj4 l0 l1).bind fun t188 => ((tailraceref01_CmpRow.f kj4 l0 l1).bind fun t189 => (some (t188 == t189)))) else (some false)))) else (some false)) else (some false))))) = some r := by rw [if_neg (show ¬ (false = true) by decide)] at H; exact H
        clear H
        have H := H1
        clear H1
        replace H := Option.bind_eq_some_iff.mp H
        obtain ⟨t179, A100, H⟩ := H
        replace H : ((tailraceref01_Kinds.f kj4 l0).bind fun t182 => ((tailraceref01_Ints.f kj4 t179 t182).bind fun t185 => (if t178 = true then (if t185 = true then ((value_CheckRow.f kj4 l0 l2).bind fun t186 => ((tailraceref01_CheckRow.f kj4 l0 l2).bind fun t187 => (if t186 = t187 then ((value_CmpRow.f kj4 l0 l1).bind fun t188 => ((tailraceref01_CmpRow.f kj4 l0 l1).bind fun t189 => (some (t188 == t189)))) else (some false)))) else (some false)) else (some false)))) = some r := H
        have A10 := Aside0.mk A100
        clear A100
        replace H := Option.bind_eq_some_iff.mp H
        obtain ⟨t182, A110, H⟩ := H
        replace H : ((tailraceref01_Ints.f kj4 t179 t182).bind fun t185 => (if t178 = true then (if t185 = true then ((value_CheckRow.f kj4 l0 l2).bind fun t186 => ((tailraceref01_CheckRow.f kj4 l0 l2).bind fun t187 => (if t186 = t187 then ((value_CmpRow.f kj4 l0 l1).bind fun t188 => ((tailraceref01_CmpRow.f kj4 l0 l1).bind fun t189 => (some (t188 == t189)))) else (some false)))) else (some false)) else (some false))) = some r := H
        have A11 := Aside0.mk A110
        clear A110
        replace H := Option.bind_eq_some_iff.mp H
        obtain ⟨t185, A120, H⟩ := H
        replace H : (if t178 = true then (if t185 = true then ((value_CheckRow.f kj4 l0 l2).bind fun t186 => ((tailraceref01_CheckRow.f kj4 l0 l2).bind fun t187 => (if t186 = t187 then ((value_CmpRow.f kj4 l0 l1).bind fun t188 => ((tailraceref01_CmpRow.f kj4 l0 l1).bind fun t189 => (some (t188 == t189)))) else (some false)))) else (some false)) else (some false)) = some r := H
        have A12 := Aside0.mk A120
        clear A120
        by_cases c13 : t178 = true
        · subst c13
          have H1 : (if t185 = true then ((value_CheckRow.f kj4 l0 l2).bind fun t186 => ((tailraceref01_CheckRow.f kj4 l0 l2).bind fun t187 => (if t186 = t187 then ((value_CmpRow.f kj4 l0 l1).bind fun t188 => ((tailraceref01_CmpRow.f kj4 l0 l1).bind fun t189 => (some (t188 == t189)))) else (some false)))) else (some false)) = some r := by rw [if_pos rfl] at H; exact H
          clear H
          have H := H1
          clear H1
          by_cases c14 : t185 = true
          · subst c14
            have H1 : ((value_CheckRow.f kj4 l0 l2).bind fun t186 => ((tailraceref01_CheckRow.f kj4 l0 l2).bind fun t187 => (if t186 = t187 then ((value_CmpRow.f kj4 l0 l1).bind fun t188 => ((tailraceref01_CmpRow.f kj4 l0 l1).bind fun t189 => (some (t188 == t189)))) else (some false)))) = some r := by rw [if_pos rfl] at H; exact H
            clear H
            have H := H1
            clear H1
            replace H := Option.bind_eq_some_iff.mp H
            obtain ⟨t186, A150, H⟩ := H
            replace H : ((tailraceref01_CheckRow.f kj4 l0 l2).bind fun t187 => (if t186 = t187 then ((value_CmpRow.f kj4 l0 l1).bind fun t188 => ((tailraceref01_CmpRow.f kj4 l0 l1).bind fun t189 => (some (t188 == t189)))) else (some false))) = some r := H
            have A15 := Aside0.mk A150
            clear A150
            replace H := Option.bind_eq_some_iff.mp H
            obtain ⟨t187, A160, H⟩ := H
            replace H : (if t186 = t187 then ((value_CmpRow.f kj4 l0 l1).bind fun t188 => ((tailraceref01_CmpRow.f kj4 l0 l1).bind fun t189 => (some (t188 == t189)))) else (some false)) = some r := H
            have A16 := Aside0.mk A160
            clear A160
            by_cases c17 : t186 = t187
            · rw [if_pos c17] at H
              have c17b0 : (t186 == t187) = true := beq_iff_eq.mpr c17
              have c17b1 : (t186 != t187) = false := bne_eq_false_iff_eq.mpr c17
              clear c17
              replace H := Option.bind_eq_some_iff.mp H
              obtain ⟨t188, A180, H⟩ := H
              replace H : ((tailraceref01_CmpRow.f kj4 l0 l1).bind fun t189 => (some (t188 == t189))) = some r := H
              have A18 := Aside0.mk A180
              clear A180
              replace H := Option.bind_eq_some_iff.mp H
              obtain ⟨t189, A190, H⟩ := H
              replace H : (some (t188 == t189)) = some r := H
              have A19 := Aside0.mk A190
              clear A190
              obtain rfl := Option.some.inj H
              go_wp2_with (first | ((with_reducible refine gate_callee (f := 15) rfl ?_); refine goesL_ (some 25) rfl rfl Try.func15 (by kernel_rfl) rfl #[.slice A0 l0.length c0] rfl (by (try simp only [List.map_toArray, List.map_cons, List.map_nil]); first | done | rfl | (simp only [List.length_drop, List.length_take]; rfl)) ?_; (with_reducible refine (value_Kinds.calls kj4 _ _ l0 t179 _ ?side1 ?side2 A10.out).mono ?_); (case side1 => repeat (first | exact (Kd.C_below HR0.out HB.out) | (with_reducible refine Kd.C_alloc ?_ _) | (with_reducible refine Kd.C_drewN ?_ _) | (with_reducible refine Kd.C_drew ?_))); (case side2 => exact HC0.out); rintro e w20 ⟨v180, rfl, ho0, hb⟩; refine ⟨_, rfl, ?_⟩; have n0_ := Aside0.mk (Kd.R_lower ho0 (below_size (by repeat (first | (with_reducible first | exact HB.out | apply below_alloc | apply pw_below_drewN | apply below_drew1) | exact HB.out)))); have n1_ := Aside0.mk (below_step (by repeat (first | (with_reducible first | exact HB.out | apply below_alloc | apply pw_below_drewN | apply below_drew1) | exact HB.out)) hb); clear HB; have HO181 := n0_; have HB := n1_; clear n0_ n1_; (try clear hb); (try clear hb2); (try clear hk); (try clear hi); (try clear ho0)) | ((with_reducible refine gate_callee (f := 16) rfl ?_); refine goesL_ (some 27) rfl rfl Try.func16 (by kernel_rfl) rfl #[.slice A0 l0.length c0] rfl (by (try simp only [List.map_toArray, List.map_cons, List.map_nil]); first | done | rfl | (simp only [List.length_drop, List.length_take]; rfl)) ?_; (with_reducible refine (tailraceref01_Kinds.calls kj4 _ _ l0 t182 _ ?side1 ?side2 A11.out).mono ?_); (case side1 => repeat (first | exact (Kd.C_below HR0.out HB.out) | (with_reducible refine Kd.C_alloc ?_ _) | (with_reducible refine Kd.C_drewN ?_ _) | (with_reducible refine Kd.C_drew ?_))); (case side2 => exact HC0.out); rintro e w21 ⟨v183, rfl, ho0, hb⟩; refine ⟨_, rfl, ?_⟩; have n0_ := Aside0.mk (Kd.R_elder' (by (with_reducible repeat (first | apply Kd.R_alloc | apply Kd.R_drewN | apply Kd.R_drew)); exact HO181.out) (Kd.R_base ho0) hb); have n1_ := Aside0.mk (Kd.R_lower (Kd.R_new' ho0 (Kd.R_lt (by (with_reducible repeat (first | apply Kd.R_alloc | apply Kd.R_drewN | apply Kd.R_drew)); exact HO181.out))) (below_size (by repeat (first | (with_reducible first | exact HB.out | apply below_alloc | apply pw_below_drewN | apply below_drew1) | exact HB.out)))); have n2_ := Aside0.mk (below_step (by repeat (first | (with_reducible first | exact HB.out | apply below_alloc | apply pw_below_drewN | apply below_drew1) | exact HB.out)) hb); clear HO181; clear HB; have HO181 := n0_; have HO184 := n1_; have HB := n2_; clear n0_ n1_ n2_; (try clear hb); (try clear hb2); (try clear hk); (try clear hi); (try clear ho0); obtain ⟨Ao22, co22, eo22⟩ := Kd.R_slice HO181.out; subst eo22; obtain ⟨Ao23, co23, eo23⟩ := Kd.R_slice HO184.out; subst eo23) | ((with_reducible refine gate_callee (f := 14) rfl ?_); refine goesL_ (some 28) rfl rfl Try.func14 (by kernel_rfl) rfl #[.slice Ao22 t179.length co22, .slice Ao23 t182.length co23] rfl (by (try simp only [List.map_toArray, List.map_cons, List.map_nil]); first | done | rfl | (simp only [List.length_drop, List.length_take]; rfl)) ?_; (with_reducible refine (tailraceref01_Ints.calls kj4 _ _ t179 _ _ t182 true _ ?side1 ?side2 ?side3 ?side4 A12.out).mono ?_); (case side1 => repeat (first | exact (Kd.R_reads' HO181.out).2.2 | (with_reducible refine Kd.C_alloc ?_ _) | (with_reducible refine Kd.C_drewN ?_ _) | (with_reducible refine Kd.C_drew ?_))); (case side2 => exact (Kd.R_reads' HO181.out).2.1); (case side3 => repeat (first | exact (Kd.R_reads' HO184.out).2.2 | (with_reducible refine Kd.C_alloc ?_ _) | (with_reducible refine Kd.C_drewN ?_ _) | (with_reducible refine Kd.C_drew ?_))); (case side4 => exact (Kd.R_reads' HO184.out).2.1); rintro e w' ⟨rfl, ⟨nd, rfl⟩⟩; refine ⟨_, rfl, ?_⟩) | (go_at_call 17; (with_reducible refine (value_CheckRow.calls kj4 _ _ l0 _ _ l2 t186 _ ?side1 ?side2 ?side3 ?side4 A15.out).mono ?_); (case side1 => repeat (first | exact (Kd.C_below HR0.out (by repeat (first | (with_reducible first | exact HB.out | apply below_alloc | apply pw_below_drewN | apply below_drew1) | exact HB.out))) | (with_reducible refine Kd.C_alloc ?_ _) | (with_reducible refine Kd.C_drewN ?_ _) | (with_reducible refine Kd.C_drew ?_))); (case side2 => exact HC0.out); (case side3 => repeat (first | exact (Kd.C_below HR2.out (by repeat (first | (with_reducible first | exact HB.out | apply below_alloc | apply pw_below_drewN | apply below_drew1) | exact HB.out))) | (with_reducible refine Kd.C_alloc ?_ _) | (with_reducible refine Kd.C_drewN ?_ _) | (with_reducible refine Kd.C_drew ?_))); (case side4 => exact HC2.out); rintro e w24 ⟨rfl, hb⟩; have n0_ := Aside0.mk (Kd.R_below (by (with_reducible repeat (first | apply Kd.R_alloc | apply Kd.R_drewN | apply Kd.R_drew)); exact HO181.out) hb); have n1_ := Aside0.mk (Kd.R_below (by (with_reducible repeat (first | apply Kd.R_alloc | apply Kd.R_drewN | apply Kd.R_drew)); exact HO184.out) hb); have n2_ := Aside0.mk (below_step (by repeat (first | (with_reducible first | exact HB.out | apply below_alloc | apply pw_below_drewN | apply below_drew1) | exact HB.out)) hb); clear HO181; clear HO184; clear HB; have HO181 := n0_; have HO184 := n1_; have HB := n2_; clear n0_ n1_ n2_; (try clear hb); (try clear hb2); (try clear hk); (try clear hi)) | (go_at_call 18; (with_reducible refine (tailraceref01_CheckRow.calls kj4 _ _ l0 _ _ l2 t187 _ ?side1 ?side2 ?side3 ?side4 A16.out).mono ?_); (case side1 => repeat (first | exact (Kd.C_below HR0.out HB.out) | (with_reducible refine Kd.C_alloc ?_ _) | (with_reducible refine Kd.C_drewN ?_ _) | (with_reducible refine Kd.C_drew ?_))); (case side2 => exact HC0.out); (case side3 => repeat (first | exact (Kd.C_below HR2.out HB.out) | (with_reducible refine Kd.C_alloc ?_ _) | (with_reducible refine Kd.C_drewN ?_ _) | (with_reducible refine Kd.C_drew ?_))); (case side4 => exact HC2.out); rintro e w25 ⟨rfl, hb⟩; have n0_ := Aside0.mk (Kd.R_below (by (with_reducible repeat (first | apply Kd.R_alloc | apply Kd.R_drewN | apply Kd.R_drew)); exact HO181.out) hb); have n1_ := Aside0.mk (Kd.R_below (by (with_reducible repeat (first | apply Kd.R_alloc | apply Kd.R_drewN | apply Kd.R_drew)); exact HO184.out) hb); have n2_ := Aside0.mk (below_step (by repeat (first | (with_reducible first | exact HB.out | apply below_alloc | apply pw_below_drewN | apply below_drew1) | exact HB.out)) hb); clear HO181; clear HO184; clear HB; have HO181 := n0_; have HO184 := n1_; have HB := n2_; clear n0_ n1_ n2_; (try clear hb); (try clear hb2); (try clear hk); (try clear hi)) | (go_at_call 19; (with_reducible refine (value_CmpRow.calls kj4 _ _ l0 _ _ l1 t188 _ ?side1 ?side2 ?side3 ?side4 A18.out).mono ?_); (case side1 => repeat (first | exact (Kd.C_below HR0.out HB.out) | (with_reducible refine Kd.C_alloc ?_ _) | (with_reducible refine Kd.C_drewN ?_ _) | (with_reducible refine Kd.C_drew ?_))); (case side2 => exact HC0.out); (case side3 => repeat (first | exact (Kd.C_below HR1.out HB.out) | (with_reducible refine Kd.C_alloc ?_ _) | (with_reducible refine Kd.C_drewN ?_ _) | (with_reducible refine Kd.C_drew ?_))); (case side4 => exact HC1.out); rintro e w26 ⟨rfl, hb⟩; have n0_ := Aside0.mk (Kd.R_below (by (with_reducible repeat (first | apply Kd.R_alloc | apply Kd.R_drewN | apply Kd.R_drew)); exact HO181.out) hb); have n1_ := Aside0.mk (Kd.R_below (by (with_reducible repeat (first | apply Kd.R_alloc | apply Kd.R_drewN | apply Kd.R_drew)); exact HO184.out) hb); have n2_ := Aside0.mk (below_step (by repeat (first | (with_reducible first | exact HB.out | apply below_alloc | apply pw_below_drewN | apply below_drew1) | exact HB.out)) hb); clear HO181; clear HO184; clear HB; have HO181 := n0_; have HO184 := n1_; have HB := n2_; clear n0_ n1_ n2_; (try clear hb); (try clear hb2); (try clear hk); (try clear hi)) | (go_at_call 20; (with_reducible refine (tailraceref01_CmpRow.calls kj4 _ _ l0 _ _ l1 t189 _ ?side1 ?side2 ?side3 ?side4 A19.out).mono ?_); (case side1 => repeat (first | exact (Kd.C_below HR0.out HB.out) | (with_reducible refine Kd.C_alloc ?_ _) | (with_reducible refine Kd.C_drewN ?_ _) | (with_reducible refine Kd.C_drew ?_))); (case side2 => exact HC0.out); (case side3 => repeat (first | exact (Kd.C_below HR1.out HB.out) | (with_reducible refine Kd.C_alloc ?_ _) | (with_reducible refine Kd.C_drewN ?_ _) | (with_reducible refine Kd.C_drew ?_))); (case side4 => exact HC1.out); rintro e w27 ⟨rfl, hb⟩; have n0_ := Aside0.mk (Kd.R_below (by (with_reducible repeat (first | apply Kd.R_alloc | apply Kd.R_drewN | apply Kd.R_drew)); exact HO181.out) hb); have n1_ := Aside0.mk (Kd.R_below (by (with_reducible repeat (first | apply Kd.R_alloc | apply Kd.R_drewN | apply Kd.R_drew)); exact HO184.out) hb); have n2_ := Aside0.mk (below_step (by repeat (first | (with_reducible first | exact HB.out | apply below_alloc | apply pw_below_drewN | apply below_drew1) | exact HB.out)) hb); clear HO181; clear HO184; clear HB; have HO181 := n0_; have HO184 := n1_; have HB := n2_; clear n0_ n1_ n2_; (try clear hb); (try clear hb2); (try clear hk); (try clear hi)))
              go_ret
              exact ⟨by first | rfl | (simp [errW_none, errW_some] <;> rfl) | (simp [*, errW_none, errW_some] <;> rfl), by repeat (first | (with_reducible first | exact HB.out | apply below_alloc | apply pw_below_drewN | apply below_drew1) | exact HB.out)⟩
            · rw [if_neg c17] at H
              have c17b0 : (t186 == t187) = false := beq_eq_false_iff_ne.mpr c17
              have c17b1 : (t186 != t187) = true := bne_iff_ne.mpr c17
              obtain rfl := Option.some.inj H
              go_wp2_with (first | ((with_reducible refine gate_callee (f := 15) rfl ?_); refine goesL_ (some 25) rfl rfl Try.func15 (by kernel_rfl) rfl #[.slice A0 l0.length c0] rfl (by (try simp only [List.map_toArray, List.map_cons, List.map_nil]); first | done | rfl | (simp only [List.length_drop, List.length_take]; rfl)) ?_; (with_reducible refine (value_Kinds.calls kj4 _ _ l0 t179 _ ?side1 ?side2 A10.out).mono ?_); (case side1 => repeat (first | exact (Kd.C_below HR0.out HB.out) | (with_reducible refine Kd.C_alloc ?_ _) | (with_reducible refine Kd.C_drewN ?_ _) | (with_reducible refine Kd.C_drew ?_))); (case side2 => exact HC0.out); rintro e w28 ⟨v180, rfl, ho0, hb⟩; refine ⟨_, rfl, ?_⟩; have n0_ := Aside0.mk (Kd.R_lower ho0 (below_size (by repeat (first | (with_reducible first | exact HB.out | apply below_alloc | apply pw_below_drewN | apply below_drew1) | exact HB.out)))); have n1_ := Aside0.mk (below_step (by repeat (first | (with_reducible first | exact HB.out | apply below_alloc | apply pw_below_drewN | apply below_drew1) | exact HB.out)) hb); clear HB; have HO181 := n0_; have HB := n1_; clear n0_ n1_; (try clear hb); (try clear hb2); (try clear hk); (try clear hi); (try clear ho0)) | ((with_reducible refine gate_callee (f := 16) rfl ?_); refine goesL_ (some 27) rfl rfl Try.func16 (by kernel_rfl) rfl #[.slice A0 l0.length c0] rfl (by (try simp only [List.map_toArray, List.map_cons, List.map_nil]); first | done | rfl | (simp only [List.length_drop, List.length_take]; rfl)) ?_; (with_reducible refine (tailraceref01_Kinds.calls kj4 _ _ l0 t182 _ ?side1 ?side2 A11.out).mono ?_); (case side1 => repeat (first | exact (Kd.C_below HR0.out HB.out) | (with_reducible refine Kd.C_alloc ?_ _) | (with_reducible refine Kd.C_drewN ?_ _) | (with_reducible refine Kd.C_drew ?_))); (case side2 => exact HC0.out); rintro e w29 ⟨v183, rfl, ho0, hb⟩; refine ⟨_, rfl, ?_⟩; have n0_ := Aside0.mk (Kd.R_elder' (by (with_reducible repeat (first | apply Kd.R_alloc | apply Kd.R_drewN | apply Kd.R_drew)); exact HO181.out) (Kd.R_base ho0) hb); have n1_ := Aside0.mk (Kd.R_lower (Kd.R_new' ho0 (Kd.R_lt (by (with_reducible repeat (first | apply Kd.R_alloc | apply Kd.R_drewN | apply Kd.R_drew)); exact HO181.out))) (below_size (by repeat (first | (with_reducible first | exact HB.out | apply below_alloc | apply pw_below_drewN | apply below_drew1) | exact HB.out)))); have n2_ := Aside0.mk (below_step (by repeat (first | (with_reducible first | exact HB.out | apply below_alloc | apply pw_below_drewN | apply below_drew1) | exact HB.out)) hb); clear HO181; clear HB; have HO181 := n0_; have HO184 := n1_; have HB := n2_; clear n0_ n1_ n2_; (try clear hb); (try clear hb2); (try clear hk); (try clear hi); (try clear ho0); obtain ⟨Ao30, co30, eo30⟩ := Kd.R_slice HO181.out; subst eo30; obtain ⟨Ao31, co31, eo31⟩ := Kd.R_slice HO184.out; subst eo31) | ((with_reducible refine gate_callee (f := 14) rfl ?_); refine goesL_ (some 28) rfl rfl Try.func14 (by kernel_rfl) rfl #[.slice Ao30 t179.length co30, .slice Ao31 t182.length co31] rfl (by (try simp only [List.map_toArray, List.map_cons, List.map_nil]); first | done | rfl | (simp only [List.length_drop, List.length_take]; rfl)) ?_; (with_reducible refine (tailraceref01_Ints.calls kj4 _ _ t179 _ _ t182 true _ ?side1 ?side2 ?side3 ?side4 A12.out).mono ?_); (case side1 => repeat (first | exact (Kd.R_reads' HO181.out).2.2 | (with_reducible refine Kd.C_alloc ?_ _) | (with_reducible refine Kd.C_drewN ?_ _) | (with_reducible refine Kd.C_drew ?_))); (case side2 => exact (Kd.R_reads' HO181.out).2.1); (case side3 => repeat (first | exact (Kd.R_reads' HO184.out).2.2 | (with_reducible refine Kd.C_alloc ?_ _) | (with_reducible refine Kd.C_drewN ?_ _) | (with_reducible refine Kd.C_drew ?_))); (case side4 => exact (Kd.R_reads' HO184.out).2.1); rintro e w' ⟨rfl, ⟨nd, rfl⟩⟩; refine ⟨_, rfl, ?_⟩) | (go_at_call 17; (with_reducible refine (value_CheckRow.calls kj4 _ _ l0 _ _ l2 t186 _ ?side1 ?side2 ?side3 ?side4 A15.out).mono ?_); (case side1 => repeat (first | exact (Kd.C_below HR0.out (by repeat (first | (with_reducible first | exact HB.out | apply below_alloc | apply pw_below_drewN | apply below_drew1) | exact HB.out))) | (with_reducible refine Kd.C_alloc ?_ _) | (with_reducible refine Kd.C_drewN ?_ _) | (with_reducible refine Kd.C_drew ?_))); (case side2 => exact HC0.out); (case side3 => repeat (first | exact (Kd.C_below HR2.out (by repeat (first | (with_reducible first | exact HB.out | apply below_alloc | apply pw_below_drewN | apply below_drew1) | exact HB.out))) | (with_reducible refine Kd.C_alloc ?_ _) | (with_reducible refine Kd.C_drewN ?_ _) | (with_reducible refine Kd.C_drew ?_))); (case side4 => exact HC2.out); rintro e w32 ⟨rfl, hb⟩; have n0_ := Aside0.mk (Kd.R_below (by (with_reducible repeat (first | apply Kd.R_alloc | apply Kd.R_drewN | apply Kd.R_drew)); exact HO181.out) hb); have n1_ := Aside0.mk (Kd.R_below (by (with_reducible repeat (first | apply Kd.R_alloc | apply Kd.R_drewN | apply Kd.R_drew)); exact HO184.out) hb); have n2_ := Aside0.mk (below_step (by repeat (first | (with_reducible first | exact HB.out | apply below_alloc | apply pw_below_drewN | apply below_drew1) | exact HB.out)) hb); clear HO181; clear HO184; clear HB; have HO181 := n0_; have HO184 := n1_; have HB := n2_; clear n0_ n1_ n2_; (try clear hb); (try clear hb2); (try clear hk); (try clear hi)) | (go_at_call 18; (with_reducible refine (tailraceref01_CheckRow.calls kj4 _ _ l0 _ _ l2 t187 _ ?side1 ?side2 ?side3 ?side4 A16.out).mono ?_); (case side1 => repeat (first | exact (Kd.C_below HR0.out HB.out) | (with_reducible refine Kd.C_alloc ?_ _) | (with_reducible refine Kd.C_drewN ?_ _) | (with_reducible refine Kd.C_drew ?_))); (case side2 => exact HC0.out); (case side3 => repeat (first | exact (Kd.C_below HR2.out HB.out) | (with_reducible refine Kd.C_alloc ?_ _) | (with_reducible refine Kd.C_drewN ?_ _) | (with_reducible refine Kd.C_drew ?_))); (case side4 => exact HC2.out); rintro e w33 ⟨rfl, hb⟩; have n0_ := Aside0.mk (Kd.R_below (by (with_reducible repeat (first | apply Kd.R_alloc | apply Kd.R_drewN | apply Kd.R_drew)); exact HO181.out) hb); have n1_ := Aside0.mk (Kd.R_below (by (with_reducible repeat (first | apply Kd.R_alloc | apply Kd.R_drewN | apply Kd.R_drew)); exact HO184.out) hb); have n2_ := Aside0.mk (below_step (by repeat (first | (with_reducible first | exact HB.out | apply below_alloc | apply pw_below_drewN | apply below_drew1) | exact HB.out)) hb); clear HO181; clear HO184; clear HB; have HO181 := n0_; have HO184 := n1_; have HB := n2_; clear n0_ n1_ n2_; (try clear hb); (try clear hb2); (try clear hk); (try clear hi)))
              go_ret
              exact ⟨by first | rfl | (simp [errW_none, errW_some] <;> rfl) | (simp [*, errW_none, errW_some] <;> rfl), by repeat (first | (with_reducible first | exact HB.out | apply below_alloc | apply pw_below_drewN | apply below_drew1) | exact HB.out)⟩
          · replace c14 := Bool.eq_false_iff.mpr c14
            subst c14
            have H1 : (some false) = some r := by rw [if_neg (show ¬ (false = true) by decide)] at H; exact H
            clear H
            have H := H1
            clear H1
            obtain rfl := Option.some.inj H
            go_wp2_with (first | ((with_reducible refine gate_callee (f := 15) rfl ?_); refine goesL_ (some 25) rfl rfl Try.func15 (by kernel_rfl) rfl #[.slice A0 l0.length c0] rfl (by (try simp only [List.map_toArray, List.map_cons, List.map_nil]); first | done | rfl | (simp only [List.length_drop, List.length_take]; rfl)) ?_; (with_reducible refine (value_Kinds.calls kj4 _ _ l0 t179 _ ?side1 ?side2 A10.out).mono ?_); (case side1 => repeat (first | exact (Kd.C_below HR0.out HB.out) | (with_reducible refine Kd.C_alloc ?_ _) | (with_reducible refine Kd.C_drewN ?_ _) | (with_reducible refine Kd.C_drew ?_))); (case side2 => exact HC0.out); rintro e w34 ⟨v180, rfl, ho0, hb⟩; refine ⟨_, rfl, ?_⟩; have n0_ := Aside0.mk (Kd.R_lower ho0 (below_size (by repeat (first | (with_reducible first | exact HB.out | apply below_alloc | apply pw_below_drewN | apply below_drew1) | exact HB.out)))); have n1_ := Aside0.mk (below_step (by repeat (first | (with_reducible first | exact HB.out | apply below_alloc | apply pw_below_drewN | apply below_drew1) | exact HB.out)) hb); clear HB; have HO181 := n0_; have HB := n1_; clear n0_ n1_; (try clear hb); (try clear hb2); (try clear hk); (try clear hi); (try clear ho0)) | ((with_reducible refine gate_callee (f := 16) rfl ?_); refine goesL_ (some 27) rfl rfl Try.func16 (by kernel_rfl) rfl #[.slice A0 l0.length c0] rfl (by (try simp only [List.map_toArray, List.map_cons, List.map_nil]); first | done | rfl | (simp only [List.length_drop, List.length_take]; rfl)) ?_; (with_reducible refine (tailraceref01_Kinds.calls kj4 _ _ l0 t182 _ ?side1 ?side2 A11.out).mono ?_); (case side1 => repeat (first | exact (Kd.C_below HR0.out HB.out) | (with_reducible refine Kd.C_alloc ?_ _) | (with_reducible refine Kd.C_drewN ?_ _) | (with_reducible refine Kd.C_drew ?_))); (case side2 => exact HC0.out); rintro e w35 ⟨v183, rfl, ho0, hb⟩; refine ⟨_, rfl, ?_⟩; have n0_ := Aside0.mk (Kd.R_elder' (by (with_reducible repeat (first | apply Kd.R_alloc | apply Kd.R_drewN | apply Kd.R_drew)); exact HO181.out) (Kd.R_base ho0) hb); have n1_ := Aside0.mk (Kd.R_lower (Kd.R_new' ho0 (Kd.R_lt (by (with_reducible repeat (first | apply Kd.R_alloc | apply Kd.R_drewN | apply Kd.R_drew)); exact HO181.out))) (below_size (by repeat (first | (with_reducible first | exact HB.out | apply below_alloc | apply pw_below_drewN | apply below_drew1) | exact HB.out)))); have n2_ := Aside0.mk (below_step (by repeat (first | (with_reducible first | exact HB.out | apply below_alloc | apply pw_below_drewN | apply below_drew1) | exact HB.out)) hb); clear HO181; clear HB; have HO181 := n0_; have HO184 := n1_; have HB := n2_; clear n0_ n1_ n2_; (try clear hb); (try clear hb2); (try clear hk); (try clear hi); (try clear ho0); obtain ⟨Ao36, co36, eo36⟩ := Kd.R_slice HO181.out; subst eo36; obtain ⟨Ao37, co37, eo37⟩ := Kd.R_slice HO184.out; subst eo37) | ((with_reducible refine gate_callee (f := 14) rfl ?_); refine goesL_ (some 28) rfl rfl Try.func14 (by kernel_rfl) rfl #[.slice Ao36 t179.length co36, .slice Ao37 t182.length co37] rfl (by (try simp only [List.map_toArray, List.map_cons, List.map_nil]); first | done | rfl | (simp only [List.length_drop, List.length_take]; rfl)) ?_; (with_reducible refine (tailraceref01_Ints.calls kj4 _ _ t179 _ _ t182 false _ ?side1 ?side2 ?side3 ?side4 A12.out).mono ?_); (case side1 => repeat (first | exact (Kd.R_reads' HO181.out).2.2 | (with_reducible refine Kd.C_alloc ?_ _) | (with_reducible refine Kd.C_drewN ?_ _) | (with_reducible refine Kd.C_drew ?_))); (case side2 => exact (Kd.R_reads' HO181.out).2.1); (case side3 => repeat (first | exact (Kd.R_reads' HO184.out).2.2 | (with_reducible refine Kd.C_alloc ?_ _) | (with_reducible refine Kd.C_drewN ?_ _) | (with_reducible refine Kd.C_drew ?_))); (case side4 => exact (Kd.R_reads' HO184.out).2.1); rintro e w' ⟨rfl, ⟨nd, rfl⟩⟩; refine ⟨_, rfl, ?_⟩))
            go_ret
            exact ⟨by first | rfl | (simp [errW_none, errW_some] <;> rfl) | (simp [*, errW_none, errW_some] <;> rfl), by repeat (first | (with_reducible first | exact HB.out | apply below_alloc | apply pw_below_drewN | apply below_drew1) | exact HB.out)⟩
        · replace c13 := Bool.eq_false_iff.mpr c13
          subst c13
          have H1 : (some false) = some r := by rw [if_neg (show ¬ (false = true) by decide)] at H; exact H
          clear H
          have H := H1
          clear H1
          obtain rfl := Option.some.inj H
          go_wp2_with (first | ((with_reducible refine gate_callee (f := 15) rfl ?_); refine goesL_ (some 25) rfl rfl Try.func15 (by kernel_rfl) rfl #[.slice A0 l0.length c0] rfl (by (try simp only [List.map_toArray, List.map_cons, List.map_nil]); first | done | rfl | (simp only [List.length_drop, List.length_take]; rfl)) ?_; (with_reducible refine (value_Kinds.calls kj4 _ _ l0 t179 _ ?side1 ?side2 A10.out).mono ?_); (case side1 => repeat (first | exact (Kd.C_below HR0.out HB.out) | (with_reducible refine Kd.C_alloc ?_ _) | (with_reducible refine Kd.C_drewN ?_ _) | (with_reducible refine Kd.C_drew ?_))); (case side2 => exact HC0.out); rintro e w38 ⟨v180, rfl, ho0, hb⟩; refine ⟨_, rfl, ?_⟩; have n0_ := Aside0.mk (Kd.R_lower ho0 (below_size (by repeat (first | (with_reducible first | exact HB.out | apply below_alloc | apply pw_below_drewN | apply below_drew1) | exact HB.out)))); have n1_ := Aside0.mk (below_step (by repeat (first | (with_reducible first | exact HB.out | apply below_alloc | apply pw_below_drewN | apply below_drew1) | exact HB.out)) hb); clear HB; have HO181 := n0_; have HB := n1_; clear n0_ n1_; (try clear hb); (try clear hb2); (try clear hk); (try clear hi); (try clear ho0)) | ((with_reducible refine gate_callee (f := 16) rfl ?_); refine goesL_ (some 27) rfl rfl Try.func16 (by kernel_rfl) rfl #[.slice A0 l0.length c0] rfl (by (try simp only [List.map_toArray, List.map_cons, List.map_nil]); first | done | rfl | (simp only [List.length_drop, List.length_take]; rfl)) ?_; (with_reducible refine (tailraceref01_Kinds.calls kj4 _ _ l0 t182 _ ?side1 ?side2 A11.out).mono ?_); (case side1 => repeat (first | exact (Kd.C_below HR0.out HB.out) | (with_reducible refine Kd.C_alloc ?_ _) | (with_reducible refine Kd.C_drewN ?_ _) | (with_reducible refine Kd.C_drew ?_))); (case side2 => exact HC0.out); rintro e w39 ⟨v183, rfl, ho0, hb⟩; refine ⟨_, rfl, ?_⟩; have n0_ := Aside0.mk (Kd.R_elder' (by (with_reducible repeat (first | apply Kd.R_alloc | apply Kd.R_drewN | apply Kd.R_drew)); exact HO181.out) (Kd.R_base ho0) hb); have n1_ := Aside0.mk (Kd.R_lower (Kd.R_new' ho0 (Kd.R_lt (by (with_reducible repeat (first | apply Kd.R_alloc | apply Kd.R_drewN | apply Kd.R_drew)); exact HO181.out))) (below_size (by repeat (first | (with_reducible first | exact HB.out | apply below_alloc | apply pw_below_drewN | apply below_drew1) | exact HB.out)))); have n2_ := Aside0.mk (below_step (by repeat (first | (with_reducible first | exact HB.out | apply below_alloc | apply pw_below_drewN | apply below_drew1) | exact HB.out)) hb); clear HO181; clear HB; have HO181 := n0_; have HO184 := n1_; have HB := n2_; clear n0_ n1_ n2_; (try clear hb); (try clear hb2); (try clear hk); (try clear hi); (try clear ho0); obtain ⟨Ao40, co40, eo40⟩ := Kd.R_slice HO181.out; subst eo40; obtain ⟨Ao41, co41, eo41⟩ := Kd.R_slice HO184.out; subst eo41) | ((with_reducible refine gate_callee (f := 14) rfl ?_); refine goesL_ (some 28) rfl rfl Try.func14 (by kernel_rfl) rfl #[.slice Ao40 t179.length co40, .slice Ao41 t182.length co41] rfl (by (try simp only [List.map_toArray, List.map_cons, List.map_nil]); first | done | rfl | (simp only [List.length_drop, List.length_take]; rfl)) ?_; (with_reducible refine (tailraceref01_Ints.calls kj4 _ _ t179 _ _ t182 t185 _ ?side1 ?side2 ?side3 ?side4 A12.out).mono ?_); (case side1 => repeat (first | exact (Kd.R_reads' HO181.out).2.2 | (with_reducible refine Kd.C_alloc ?_ _) | (with_reducible refine Kd.C_drewN ?_ _) | (with_reducible refine Kd.C_drew ?_))); (case side2 => exact (Kd.R_reads' HO181.out).2.1); (case side3 => repeat (first | exact (Kd.R_reads' HO184.out).2.2 | (with_reducible refine Kd.C_alloc ?_ _) | (with_reducible refine Kd.C_drewN ?_ _) | (with_reducible refine Kd.C_drew ?_))); (case side4 => exact (Kd.R_reads' HO184.out).2.1); rintro e w' ⟨rfl, ⟨nd, rfl⟩⟩; refine ⟨_, rfl, ?_⟩))
          go_ret
          exact ⟨by first | rfl | (simp [errW_none, errW_some] <;> rfl) | (simp [*, errW_none, errW_some] <;> rfl), by repeat (first | (with_reducible first | exact HB.out | apply below_alloc | apply pw_below_drewN | apply below_drew1) | exact HB.out)⟩

/-! ### tailracelaw01_ValueLine: function 6 -/
def tailracelaw01_ValueLine.j0 : Nat → Bool → Int → Bool → Int → Int → ByteArray → Int → Int → ByteArray → Option (Bool)
  | 0, _, _, _, _, _, _, _, _, _ => none
  | k + 1, x7, x8, x42, x191000, x191001, x191002, x192000, x192001, x192002 => if x42 = true then (some false) else (if x7 = true then ((value_Cmp.f x192000 x192001 x192002 x191000 x191001 x191002).bind fun t197 => (if t197 = (wrap64 (-x8)) then (if ((x8 == 0) == (x191000 == x192000 && (x191001 == x192001 && (x191002.toList == x192002.toList)))) = true then (if x8 ≥ (-1) then (some (decide (x8 ≤ 1))) else (some false)) else (some false)) else (some false))) else (some false))
def tailracelaw01_ValueLine.f (k : Nat) (a0_0 : Int) (a0_1 : Int) (a0_2 : ByteArray) (a1_0 : Int) (a1_1 : Int) (a1_2 : ByteArray) (a2_0 : Int) (a2_1 : Int) (a2_2 : ByteArray) : Option (Bool) := (tailracelaw01_awake.f k).bind fun t193 => ((value_Cmp.f a0_0 a0_1 a0_2 a1_0 a1_1 a1_2).bind fun t194 => ((value_Cmp.f a1_0 a1_1 a1_2 a2_0 a2_1 a2_2).bind fun t195 => ((value_Cmp.f a0_0 a0_1 a0_2 a2_0 a2_1 a2_2).bind fun t196 => (if t194 ≤ 0 then (if t195 ≤ 0 then (if t196 > 0 then (tailracelaw01_ValueLine.j0 k t193 t194 true a0_0 a0_1 a0_2 a1_0 a1_1 a1_2) else (if t194 < 0 then (tailracelaw01_ValueLine.j0 k t193 t194 (decide (t196 ≥ 0)) a0_0 a0_1 a0_2 a1_0 a1_1 a1_2) else (tailracelaw01_ValueLine.j0 k t193 t194 false a0_0 a0_1 a0_2 a1_0 a1_1 a1_2))) else (if t194 < 0 then (tailracelaw01_ValueLine.j0 k t193 t194 false a0_0 a0_1 a0_2 a1_0 a1_1 a1_2) else (tailracelaw01_ValueLine.j0 k t193 t194 false a0_0 a0_1 a0_2 a1_0 a1_1 a1_2))) else (if t194 < 0 then (if t195 ≤ 0 then (tailracelaw01_ValueLine.j0 k t193 t194 (decide (t196 ≥ 0)) a0_0 a0_1 a0_2 a1_0 a1_1 a1_2) else (tailracelaw01_ValueLine.j0 k t193 t194 false a0_0 a0_1 a0_2 a1_0 a1_1 a1_2)) else (tailracelaw01_ValueLine.j0 k t193 t194 false a0_0 a0_1 a0_2 a1_0 a1_1 a1_2))))))
theorem tailracelaw01_ValueLine.mono_l : ∀ k, (∀ y0 y1 y2 y3 y4 y5 y6 y7 y8, LeO (tailracelaw01_ValueLine.j0 k y0 y1 y2 y3 y4 y5 y6 y7 y8) (tailracelaw01_ValueLine.j0 (k + 1) y0 y1 y2 y3 y4 y5 y6 y7 y8))
  | 0 => fun _ _ _ _ _ _ _ _ _ r h => by simp [tailracelaw01_ValueLine.j0] at h
  | k + 1 => by
    have ih0 := tailracelaw01_ValueLine.mono_l k
    · intro y0 y1 y2 y3 y4 y5 y6 y7 y8
      unfold tailracelaw01_ValueLine.j0
      repeat' first
      | (with_reducible exact ih0 _ _ _ _ _ _ _ _ _)
      | (with_reducible exact tailracelaw01_awake.mono _)
      | (with_reducible exact LeO.refl _)
      | (with_reducible exact LeO.none _)
      | (with_reducible refine LeO.ite ?_ ?_)
      | (with_reducible refine LeO.bind ?_ (fun _ => ?_))
      | exact ih0 _ _ _ _ _ _ _ _ _
      | exact tailracelaw01_awake.mono _
      | exact LeO.none _
      | refine LeO.ite ?_ ?_
      | refine LeO.bind ?_ (fun _ => ?_)
theorem tailracelaw01_ValueLine.mono : ∀ a0 a1 a2 a3 a4 a5 a6 a7 a8 k, LeO (tailracelaw01_ValueLine.f k a0 a1 a2 a3 a4 a5 a6 a7 a8) (tailracelaw01_ValueLine.f (k + 1) a0 a1 a2 a3 a4 a5 a6 a7 a8) := by
  intro a0 a1 a2 a3 a4 a5 a6 a7 a8 k
  have ih0 := tailracelaw01_ValueLine.mono_l k
  unfold tailracelaw01_ValueLine.f
  repeat' first
      | (with_reducible exact ih0 _ _ _ _ _ _ _ _ _)
      | (with_reducible exact tailracelaw01_awake.mono _)
      | (with_reducible exact LeO.refl _)
      | (with_reducible exact LeO.none _)
      | (with_reducible refine LeO.ite ?_ ?_)
      | (with_reducible refine LeO.bind ?_ (fun _ => ?_))
      | exact ih0 _ _ _ _ _ _ _ _ _
      | exact tailracelaw01_awake.mono _
      | exact LeO.none _
      | refine LeO.ite ?_ ?_
      | refine LeO.bind ?_ (fun _ => ?_)
set_option maxHeartbeats 8000000 in
set_option maxRecDepth 100000 in
theorem tailracelaw01_ValueLine.calls (k : Nat) (a0_0 : Int) (a0_1 : Int) (a0_2 : ByteArray) (a1_0 : Int) (a1_1 : Int) (a1_2 : ByteArray) (a2_0 : Int) (a2_1 : Int) (a2_2 : ByteArray) (r : Bool) (w : World) (h : tailracelaw01_ValueLine.f k a0_0 a0_1 a0_2 a1_0 a1_1 a1_2 a2_0 a2_1 a2_2 = some r) :
    Calls Try.prog 6 #[.agg #[.int .i64 a0_0, .int .i64 a0_1, .string a0_2], .agg #[.int .i64 a1_0, .int .i64 a1_1, .string a1_2], .agg #[.int .i64 a2_0, .int .i64 a2_1, .string a2_2]] w fun e w' => e = .returned (.bool r) ∧ Below w.heap.size w w' := by
  have hu24 := Try.underlying24
  have HB := Aside0.mk (Below.refl w.heap.size w)
  have H : ((tailracelaw01_awake.f k).bind fun t193 => ((value_Cmp.f a0_0 a0_1 a0_2 a1_0 a1_1 a1_2).bind fun t194 => ((value_Cmp.f a1_0 a1_1 a1_2 a2_0 a2_1 a2_2).bind fun t195 => ((value_Cmp.f a0_0 a0_1 a0_2 a2_0 a2_1 a2_2).bind fun t196 => (if t194 ≤ 0 then (if t195 ≤ 0 then (if t196 > 0 then (tailracelaw01_ValueLine.j0 k t193 t194 true a0_0 a0_1 a0_2 a1_0 a1_1 a1_2) else (if t194 < 0 then (tailracelaw01_ValueLine.j0 k t193 t194 (decide (t196 ≥ 0)) a0_0 a0_1 a0_2 a1_0 a1_1 a1_2) else (tailracelaw01_ValueLine.j0 k t193 t194 false a0_0 a0_1 a0_2 a1_0 a1_1 a1_2))) else (if t194 < 0 then (tailracelaw01_ValueLine.j0 k t193 t194 false a0_0 a0_1 a0_2 a1_0 a1_1 a1_2) else (tailracelaw01_ValueLine.j0 k t193 t194 false a0_0 a0_1 a0_2 a1_0 a1_1 a1_2))) else (if t194 < 0 then (if t195 ≤ 0 then (tailracelaw01_ValueLine.j0 k t193 t194 (decide (t196 ≥ 0)) a0_0 a0_1 a0_2 a1_0 a1_1 a1_2) else (tailracelaw01_ValueLine.j0 k t193 t194 false a0_0 a0_1 a0_2 a1_0 a1_1 a1_2)) else (tailracelaw01_ValueLine.j0 k t193 t194 false a0_0 a0_1 a0_2 a1_0 a1_1 a1_2))))))) = some r := h
  clear h
  replace H := Option.bind_eq_some_iff.mp H
  obtain ⟨t193, A40, H⟩ := H
  replace H : ((value_Cmp.f a0_0 a0_1 a0_2 a1_0 a1_1 a1_2).bind fun t194 => ((value_Cmp.f a1_0 a1_1 a1_2 a2_0 a2_1 a2_2).bind fun t195 => ((value_Cmp.f a0_0 a0_1 a0_2 a2_0 a2_1 a2_2).bind fun t196 => (if t194 ≤ 0 then (if t195 ≤ 0 then (if t196 > 0 then (tailracelaw01_ValueLine.j0 k t193 t194 true a0_0 a0_1 a0_2 a1_0 a1_1 a1_2) else (if t194 < 0 then (tailracelaw01_ValueLine.j0 k t193 t194 (decide (t196 ≥ 0)) a0_0 a0_1 a0_2 a1_0 a1_1 a1_2) else (tailracelaw01_ValueLine.j0 k t193 t194 false a0_0 a0_1 a0_2 a1_0 a1_1 a1_2))) else (if t194 < 0 then (tailracelaw01_ValueLine.j0 k t193 t194 false a0_0 a0_1 a0_2 a1_0 a1_1 a1_2) else (tailracelaw01_ValueLine.j0 k t193 t194 false a0_0 a0_1 a0_2 a1_0 a1_1 a1_2))) else (if t194 < 0 then (if t195 ≤ 0 then (tailracelaw01_ValueLine.j0 k t193 t194 (decide (t196 ≥ 0)) a0_0 a0_1 a0_2 a1_0 a1_1 a1_2) else (tailracelaw01_ValueLine.j0 k t193 t194 false a0_0 a0_1 a0_2 a1_0 a1_1 a1_2)) else (tailracelaw01_ValueLine.j0 k t193 t194 false a0_0 a0_1 a0_2 a1_0 a1_1 a1_2)))))) = some r := H
  have A4 := Aside0.mk A40
  clear A40
  replace H := Option.bind_eq_some_iff.mp H
  obtain ⟨t194, A50, H⟩ := H
  replace H : ((value_Cmp.f a1_0 a1_1 a1_2 a2_0 a2_1 a2_2).bind fun t195 => ((value_Cmp.f a0_0 a0_1 a0_2 a2_0 a2_1 a2_2).bind fun t196 => (if t194 ≤ 0 then (if t195 ≤ 0 then (if t196 > 0 then (tailracelaw01_ValueLine.j0 k t193 t194 true a0_0 a0_1 a0_2 a1_0 a1_1 a1_2) else (if t194 < 0 then (tailracelaw01_ValueLine.j0 k t193 t194 (decide (t196 ≥ 0)) a0_0 a0_1 a0_2 a1_0 a1_1 a1_2) else (tailracelaw01_ValueLine.j0 k t193 t194 false a0_0 a0_1 a0_2 a1_0 a1_1 a1_2))) else (if t194 < 0 then (tailracelaw01_ValueLine.j0 k t193 t194 false a0_0 a0_1 a0_2 a1_0 a1_1 a1_2) else (tailracelaw01_ValueLine.j0 k t193 t194 false a0_0 a0_1 a0_2 a1_0 a1_1 a1_2))) else (if t194 < 0 then (if t195 ≤ 0 then (tailracelaw01_ValueLine.j0 k t193 t194 (decide (t196 ≥ 0)) a0_0 a0_1 a0_2 a1_0 a1_1 a1_2) else (tailracelaw01_ValueLine.j0 k t193 t194 false a0_0 a0_1 a0_2 a1_0 a1_1 a1_2)) else (tailracelaw01_ValueLine.j0 k t193 t194 false a0_0 a0_1 a0_2 a1_0 a1_1 a1_2))))) = some r := H
  have A5 := Aside0.mk A50
  clear A50
  replace H := Option.bind_eq_some_iff.mp H
  obtain ⟨t195, A60, H⟩ := H
  replace H : ((value_Cmp.f a0_0 a0_1 a0_2 a2_0 a2_1 a2_2).bind fun t196 => (if t194 ≤ 0 then (if t195 ≤ 0 then (if t196 > 0 then (tailracelaw01_ValueLine.j0 k t193 t194 true a0_0 a0_1 a0_2 a1_0 a1_1 a1_2) else (if t194 < 0 then (tailracelaw01_ValueLine.j0 k t193 t194 (decide (t196 ≥ 0)) a0_0 a0_1 a0_2 a1_0 a1_1 a1_2) else (tailracelaw01_ValueLine.j0 k t193 t194 false a0_0 a0_1 a0_2 a1_0 a1_1 a1_2))) else (if t194 < 0 then (tailracelaw01_ValueLine.j0 k t193 t194 false a0_0 a0_1 a0_2 a1_0 a1_1 a1_2) else (tailracelaw01_ValueLine.j0 k t193 t194 false a0_0 a0_1 a0_2 a1_0 a1_1 a1_2))) else (if t194 < 0 then (if t195 ≤ 0 then (tailracelaw01_ValueLine.j0 k t193 t194 (decide (t196 ≥ 0)) a0_0 a0_1 a0_2 a1_0 a1_1 a1_2) else (tailracelaw01_ValueLine.j0 k t193 t194 false a0_0 a0_1 a0_2 a1_0 a1_1 a1_2)) else (tailracelaw01_ValueLine.j0 k t193 t194 false a0_0 a0_1 a0_2 a1_0 a1_1 a1_2)))) = some r := H
  have A6 := Aside0.mk A60
  clear A60
  replace H := Option.bind_eq_some_iff.mp H
  obtain ⟨t196, A70, H⟩ := H
  replace H : (if t194 ≤ 0 then (if t195 ≤ 0 then (if t196 > 0 then (tailracelaw01_ValueLine.j0 k t193 t194 true a0_0 a0_1 a0_2 a1_0 a1_1 a1_2) else (if t194 < 0 then (tailracelaw01_ValueLine.j0 k t193 t194 (decide (t196 ≥ 0)) a0_0 a0_1 a0_2 a1_0 a1_1 a1_2) else (tailracelaw01_ValueLine.j0 k t193 t194 false a0_0 a0_1 a0_2 a1_0 a1_1 a1_2))) else (if t194 < 0 then (tailracelaw01_ValueLine.j0 k t193 t194 false a0_0 a0_1 a0_2 a1_0 a1_1 a1_2) else (tailracelaw01_ValueLine.j0 k t193 t194 false a0_0 a0_1 a0_2 a1_0 a1_1 a1_2))) else (if t194 < 0 then (if t195 ≤ 0 then (tailracelaw01_ValueLine.j0 k t193 t194 (decide (t196 ≥ 0)) a0_0 a0_1 a0_2 a1_0 a1_1 a1_2) else (tailracelaw01_ValueLine.j0 k t193 t194 false a0_0 a0_1 a0_2 a1_0 a1_1 a1_2)) else (tailracelaw01_ValueLine.j0 k t193 t194 false a0_0 a0_1 a0_2 a1_0 a1_1 a1_2))) = some r := H
  have A7 := Aside0.mk A70
  clear A70
  have HC8 := Aside0.mk H
  clear H
  go_enter Try.func6, Try.ntmps6
  go_upto_region 5 with (first | ((with_reducible refine gate_dst (N := 3) rfl ?_); refine box_event ?hg (N := 3) ?hd (cs := #[.int .i64 a0_0, .int .i64 a0_1, .string a0_2]) (t := 24) ?hr ?_; (case hd => rfl); (case hg => rfl); (case hr => first | (go_simp; done) | (go_simp; rfl)); intro gb190 hg w9 hbox hb; have n0_ := Aside0.mk (below_step (by repeat (first | (with_reducible first | exact HB.out | apply below_alloc | apply pw_below_drewN | apply below_drew1) | exact HB.out)) hb); have n1_ := Aside0.mk (hbox); have n2_ := Aside0.mk ((by rw [hg]; exact (below_size (by repeat (first | (with_reducible first | exact HB.out | apply below_alloc | apply pw_below_drewN | apply below_drew1) | exact HB.out))) : w.heap.size ≤ gb190)); have n3_ := Aside0.mk ((by rw [hg]; exact (below_size (by repeat (first | (with_reducible first | exact HB.out | apply below_alloc | apply pw_below_drewN | apply below_drew1) | exact HB.out))) : w.heap.size ≤ gb190)); clear HB; have HB := n0_; have BK190 := n1_; have GW190 := n2_; have GE190 := n3_; clear n0_ n1_ n2_ n3_; clear hb hbox hg) | ((with_reducible refine gate_dst (N := 4) rfl ?_); refine box_event ?hg (N := 4) ?hd (cs := #[.int .i64 a1_0, .int .i64 a1_1, .string a1_2]) (t := 24) ?hr ?_; (case hd => rfl); (case hg => rfl); (case hr => first | (go_simp; done) | (go_simp; rfl)); intro gb191 hg w10 hbox hb; have n0_ := Aside0.mk (blk_below (g := gb190) (o := .cells #[.int .i64 a0_0, .int .i64 a0_1, .string a0_2] 24 (0, 0)) (by (with_reducible repeat (first | refine blk_drewN ?_ _ | refine blk_drew ?_ | refine blk_alloc ?_ _)); exact BK190.out) hb); have n1_ := Aside0.mk (below_step (by repeat (first | (with_reducible first | exact HB.out | apply below_alloc | apply pw_below_drewN | apply below_drew1 | refine below_set ?_ GE190.out) | exact HB.out)) hb); have n2_ := Aside0.mk (hbox); have n3_ := Aside0.mk ((by rw [hg]; exact (below_size (by repeat (first | (with_reducible first | exact HB.out | apply below_alloc | apply pw_below_drewN | apply below_drew1 | refine below_set ?_ GE190.out) | exact HB.out))) : w.heap.size ≤ gb191)); have n4_ := Aside0.mk ((by rw [hg]; exact (below_size (by repeat (first | (with_reducible first | exact HB.out | apply below_alloc | apply pw_below_drewN | apply below_drew1 | refine below_set ?_ GE190.out) | exact HB.out))) : w.heap.size ≤ gb191)); have n5_ := Aside0.mk ((by rw [hg]; exact Nat.ne_of_lt (blk_lt (g := gb190) (o := .cells #[.int .i64 a0_0, .int .i64 a0_1, .string a0_2] 24 (0, 0)) (by (with_reducible repeat (first | refine blk_drewN ?_ _ | refine blk_drew ?_ | refine blk_alloc ?_ _)); exact BK190.out)) : gb190 ≠ gb191)); have n6_ := Aside0.mk ((by rw [hg]; exact Nat.ne_of_gt (blk_lt (g := gb190) (o := .cells #[.int .i64 a0_0, .int .i64 a0_1, .string a0_2] 24 (0, 0)) (by (with_reducible repeat (first | refine blk_drewN ?_ _ | refine blk_drew ?_ | refine blk_alloc ?_ _)); exact BK190.out)) : gb191 ≠ gb190)); clear BK190; clear HB; have BK190 := n0_; have HB := n1_; have BK191 := n2_; have GW191 := n3_; have GE191 := n4_; have NB190_191 := n5_; have NB191_190 := n6_; clear n0_ n1_ n2_ n3_ n4_ n5_ n6_; clear hb hbox hg) | ((with_reducible refine gate_dst (N := 5) rfl ?_); refine box_event ?hg (N := 5) ?hd (cs := #[.int .i64 a2_0, .int .i64 a2_1, .string a2_2]) (t := 24) ?hr ?_; (case hd => rfl); (case hg => rfl); (case hr => first | (go_simp; done) | (go_simp; rfl)); intro gb192 hg w11 hbox hb; have n0_ := Aside0.mk (blk_below (g := gb190) (o := .cells #[.int .i64 a0_0, .int .i64 a0_1, .string a0_2] 24 (0, 0)) (by (with_reducible repeat (first | refine blk_drewN ?_ _ | refine blk_drew ?_ | refine blk_alloc ?_ _)); exact BK190.out) hb); have n1_ := Aside0.mk (blk_below (g := gb191) (o := .cells #[.int .i64 a1_0, .int .i64 a1_1, .string a1_2] 24 (0, 0)) (by (with_reducible repeat (first | refine blk_drewN ?_ _ | refine blk_drew ?_ | refine blk_alloc ?_ _)); exact BK191.out) hb); have n2_ := Aside0.mk (below_step (by repeat (first | (with_reducible first | exact HB.out | apply below_alloc | apply pw_below_drewN | apply below_drew1 | refine below_set ?_ GE190.out | refine below_set ?_ GE191.out) | exact HB.out)) hb); have n3_ := Aside0.mk (hbox); have n4_ := Aside0.mk ((by rw [hg]; exact (below_size (by repeat (first | (with_reducible first | exact HB.out | apply below_alloc | apply pw_below_drewN | apply below_drew1 | refine below_set ?_ GE190.out | refine below_set ?_ GE191.out) | exact HB.out))) : w.heap.size ≤ gb192)); have n5_ := Aside0.mk ((by rw [hg]; exact (below_size (by repeat (first | (with_reducible first | exact HB.out | apply below_alloc | apply pw_below_drewN | apply below_drew1 | refine below_set ?_ GE190.out | refine below_set ?_ GE191.out) | exact HB.out))) : w.heap.size ≤ gb192)); have n6_ := Aside0.mk ((by rw [hg]; exact Nat.ne_of_lt (blk_lt (g := gb190) (o := .cells #[.int .i64 a0_0, .int .i64 a0_1, .string a0_2] 24 (0, 0)) (by (with_reducible repeat (first | refine blk_drewN ?_ _ | refine blk_drew ?_ | refine blk_alloc ?_ _)); exact BK190.out)) : gb190 ≠ gb192)); have n7_ := Aside0.mk ((by rw [hg]; exact Nat.ne_of_gt (blk_lt (g := gb190) (o := .cells #[.int .i64 a0_0, .int .i64 a0_1, .string a0_2] 24 (0, 0)) (by (with_reducible repeat (first | refine blk_drewN ?_ _ | refine blk_drew ?_ | refine blk_alloc ?_ _)); exact BK190.out)) : gb192 ≠ gb190)); have n8_ := Aside0.mk ((by rw [hg]; exact Nat.ne_of_lt (blk_lt (g := gb191) (o := .cells #[.int .i64 a1_0, .int .i64 a1_1, .string a1_2] 24 (0, 0)) (by (with_reducible repeat (first | refine blk_drewN ?_ _ | refine blk_drew ?_ | refine blk_alloc ?_ _)); exact BK191.out)) : gb191 ≠ gb192)); have n9_ := Aside0.mk ((by rw [hg]; exact Nat.ne_of_gt (blk_lt (g := gb191) (o := .cells #[.int .i64 a1_0, .int .i64 a1_1, .string a1_2] 24 (0, 0)) (by (with_reducible repeat (first | refine blk_drewN ?_ _ | refine blk_drew ?_ | refine blk_alloc ?_ _)); exact BK191.out)) : gb192 ≠ gb191)); clear BK190; clear BK191; clear HB; have BK190 := n0_; have BK191 := n1_; have HB := n2_; have BK192 := n3_; have GW192 := n4_; have GE192 := n5_; have NB190_192 := n6_; have NB192_190 := n7_; have NB191_192 := n8_; have NB192_191 := n9_; clear n0_ n1_ n2_ n3_ n4_ n5_ n6_ n7_ n8_ n9_; clear hb hbox hg) | ((with_reducible refine gate_callee (f := 9) rfl ?_); refine goesL_ (some 11) rfl rfl Try.func9 (by kernel_rfl) rfl #[] rfl (by (try simp only [List.map_toArray, List.map_cons, List.map_nil]); first | done | rfl | (simp only [List.length_drop, List.length_take]; rfl)) ?_; (with_reducible refine (tailracelaw01_awake.calls k  t193 _ A4.out).mono ?_); rintro e w12 ⟨rfl, hb⟩; refine ⟨_, rfl, ?_⟩; have n0_ := Aside0.mk (blk_below (g := gb190) (o := .cells #[.int .i64 a0_0, .int .i64 a0_1, .string a0_2] 24 (0, 0)) (by (with_reducible repeat (first | refine blk_drewN ?_ _ | refine blk_drew ?_ | refine blk_alloc ?_ _)); exact BK190.out) hb); have n1_ := Aside0.mk (blk_below (g := gb191) (o := .cells #[.int .i64 a1_0, .int .i64 a1_1, .string a1_2] 24 (0, 0)) (by (with_reducible repeat (first | refine blk_drewN ?_ _ | refine blk_drew ?_ | refine blk_alloc ?_ _)); exact BK191.out) hb); have n2_ := Aside0.mk (blk_below (g := gb192) (o := .cells #[.int .i64 a2_0, .int .i64 a2_1, .string a2_2] 24 (0, 0)) (by (with_reducible repeat (first | refine blk_drewN ?_ _ | refine blk_drew ?_ | refine blk_alloc ?_ _)); exact BK192.out) hb); have n3_ := Aside0.mk (below_step (by repeat (first | (with_reducible first | exact HB.out | apply below_alloc | apply pw_below_drewN | apply below_drew1 | refine below_set ?_ GE190.out | refine below_set ?_ GE191.out | refine below_set ?_ GE192.out) | exact HB.out)) hb); clear BK190; clear BK191; clear BK192; clear HB; have BK190 := n0_; have BK191 := n1_; have BK192 := n2_; have HB := n3_; clear n0_ n1_ n2_ n3_; (try clear hb); (try clear hb2); (try clear hk); (try clear hi); have hnb13 := NB190_191.out; have hnc13 := NB191_190.out; have hnb14 := NB190_192.out; have hnc14 := NB192_190.out; have hcz15_0 : w12.cell? ⟨gb190, 0, none⟩ = some (.int .i64 a0_0) := (blk_cell BK190.out 0).trans rfl; have hcz15_1 : w12.cell? ⟨gb190, 1, none⟩ = some (.int .i64 a0_1) := (blk_cell BK190.out 1).trans rfl; have hcz15_2 : w12.cell? ⟨gb190, 2, none⟩ = some (.string a0_2) := (blk_cell BK190.out 2).trans rfl; have hfz15_0 := blk_frozen BK190.out 0; have hfz15_1 := blk_frozen BK190.out 1; have hfz15_2 := blk_frozen BK190.out 2; have hnb16 := NB191_192.out; have hnc16 := NB192_191.out; have hcz17_0 : w12.cell? ⟨gb191, 0, none⟩ = some (.int .i64 a1_0) := (blk_cell BK191.out 0).trans rfl; have hcz17_1 : w12.cell? ⟨gb191, 1, none⟩ = some (.int .i64 a1_1) := (blk_cell BK191.out 1).trans rfl; have hcz17_2 : w12.cell? ⟨gb191, 2, none⟩ = some (.string a1_2) := (blk_cell BK191.out 2).trans rfl; have hfz17_0 := blk_frozen BK191.out 0; have hfz17_1 := blk_frozen BK191.out 1; have hfz17_2 := blk_frozen BK191.out 2) | ((with_reducible refine gate_callee (f := 12) rfl ?_); refine goesL_ (some 14) rfl rfl Try.func12 (by kernel_rfl) rfl #[.agg #[.int .i64 a0_0, .int .i64 a0_1, .string a0_2], .agg #[.int .i64 a1_0, .int .i64 a1_1, .string a1_2]] rfl (by (try simp only [List.map_toArray, List.map_cons, List.map_nil]); first | done | rfl | (simp only [List.length_drop, List.length_take]; rfl)) ?_; (with_reducible refine (value_Cmp.calls a0_0 a0_1 a0_2 a1_0 a1_1 a1_2 t194 _ A5.out).mono ?_); rintro e w18 ⟨rfl, hb⟩; refine ⟨_, rfl, ?_⟩; have n0_ := Aside0.mk (blk_below (g := gb190) (o := .cells #[.int .i64 a0_0, .int .i64 a0_1, .string a0_2] 24 (0, 0)) (by (with_reducible repeat (first | refine blk_drewN ?_ _ | refine blk_drew ?_ | refine blk_alloc ?_ _)); exact BK190.out) hb); have n1_ := Aside0.mk (blk_below (g := gb191) (o := .cells #[.int .i64 a1_0, .int .i64 a1_1, .string a1_2] 24 (0, 0)) (by (with_reducible repeat (first | refine blk_drewN ?_ _ | refine blk_drew ?_ | refine blk_alloc ?_ _)); exact BK191.out) hb); have n2_ := Aside0.mk (blk_below (g := gb192) (o := .cells #[.int .i64 a2_0, .int .i64 a2_1, .string a2_2] 24 (0, 0)) (by (with_reducible repeat (first | refine blk_drewN ?_ _ | refine blk_drew ?_ | refine blk_alloc ?_ _)); exact BK192.out) hb); have n3_ := Aside0.mk (below_step (by repeat (first | (with_reducible first | exact HB.out | apply below_alloc | apply pw_below_drewN | apply below_drew1 | refine below_set ?_ GE190.out | refine below_set ?_ GE191.out | refine below_set ?_ GE192.out) | exact HB.out)) hb); clear BK190; clear BK191; clear BK192; clear HB; have BK190 := n0_; have BK191 := n1_; have BK192 := n2_; have HB := n3_; clear n0_ n1_ n2_ n3_; (try clear hb); (try clear hb2); (try clear hk); (try clear hi); have hcz19_0 : w18.cell? ⟨gb191, 0, none⟩ = some (.int .i64 a1_0) := (blk_cell BK191.out 0).trans rfl; have hcz19_1 : w18.cell? ⟨gb191, 1, none⟩ = some (.int .i64 a1_1) := (blk_cell BK191.out 1).trans rfl; have hcz19_2 : w18.cell? ⟨gb191, 2, none⟩ = some (.string a1_2) := (blk_cell BK191.out 2).trans rfl; have hfz19_0 := blk_frozen BK191.out 0; have hfz19_1 := blk_frozen BK191.out 1; have hfz19_2 := blk_frozen BK191.out 2; have hcz20_0 : w18.cell? ⟨gb192, 0, none⟩ = some (.int .i64 a2_0) := (blk_cell BK192.out 0).trans rfl; have hcz20_1 : w18.cell? ⟨gb192, 1, none⟩ = some (.int .i64 a2_1) := (blk_cell BK192.out 1).trans rfl; have hcz20_2 : w18.cell? ⟨gb192, 2, none⟩ = some (.string a2_2) := (blk_cell BK192.out 2).trans rfl; have hfz20_0 := blk_frozen BK192.out 0; have hfz20_1 := blk_frozen BK192.out 1; have hfz20_2 := blk_frozen BK192.out 2) | ((with_reducible refine gate_callee (f := 12) rfl ?_); refine goesL_ (some 17) rfl rfl Try.func12 (by kernel_rfl) rfl #[.agg #[.int .i64 a1_0, .int .i64 a1_1, .string a1_2], .agg #[.int .i64 a2_0, .int .i64 a2_1, .string a2_2]] rfl (by (try simp only [List.map_toArray, List.map_cons, List.map_nil]); first | done | rfl | (simp only [List.length_drop, List.length_take]; rfl)) ?_; (with_reducible refine (value_Cmp.calls a1_0 a1_1 a1_2 a2_0 a2_1 a2_2 t195 _ A6.out).mono ?_); rintro e w21 ⟨rfl, hb⟩; refine ⟨_, rfl, ?_⟩; have n0_ := Aside0.mk (blk_below (g := gb190) (o := .cells #[.int .i64 a0_0, .int .i64 a0_1, .string a0_2] 24 (0, 0)) (by (with_reducible repeat (first | refine blk_drewN ?_ _ | refine blk_drew ?_ | refine blk_alloc ?_ _)); exact BK190.out) hb); have n1_ := Aside0.mk (blk_below (g := gb191) (o := .cells #[.int .i64 a1_0, .int .i64 a1_1, .string a1_2] 24 (0, 0)) (by (with_reducible repeat (first | refine blk_drewN ?_ _ | refine blk_drew ?_ | refine blk_alloc ?_ _)); exact BK191.out) hb); have n2_ := Aside0.mk (blk_below (g := gb192) (o := .cells #[.int .i64 a2_0, .int .i64 a2_1, .string a2_2] 24 (0, 0)) (by (with_reducible repeat (first | refine blk_drewN ?_ _ | refine blk_drew ?_ | refine blk_alloc ?_ _)); exact BK192.out) hb); have n3_ := Aside0.mk (below_step (by repeat (first | (with_reducible first | exact HB.out | apply below_alloc | apply pw_below_drewN | apply below_drew1 | refine below_set ?_ GE190.out | refine below_set ?_ GE191.out | refine below_set ?_ GE192.out) | exact HB.out)) hb); clear BK190; clear BK191; clear BK192; clear HB; have BK190 := n0_; have BK191 := n1_; have BK192 := n2_; have HB := n3_; clear n0_ n1_ n2_ n3_; (try clear hb); (try clear hb2); (try clear hk); (try clear hi); have hcz22_0 : w21.cell? ⟨gb190, 0, none⟩ = some (.int .i64 a0_0) := (blk_cell BK190.out 0).trans rfl; have hcz22_1 : w21.cell? ⟨gb190, 1, none⟩ = some (.int .i64 a0_1) := (blk_cell BK190.out 1).trans rfl; have hcz22_2 : w21.cell? ⟨gb190, 2, none⟩ = some (.string a0_2) := (blk_cell BK190.out 2).trans rfl; have hfz22_0 := blk_frozen BK190.out 0; have hfz22_1 := blk_frozen BK190.out 1; have hfz22_2 := blk_frozen BK190.out 2; have hcz23_0 : w21.cell? ⟨gb192, 0, none⟩ = some (.int .i64 a2_0) := (blk_cell BK192.out 0).trans rfl; have hcz23_1 : w21.cell? ⟨gb192, 1, none⟩ = some (.int .i64 a2_1) := (blk_cell BK192.out 1).trans rfl; have hcz23_2 : w21.cell? ⟨gb192, 2, none⟩ = some (.string a2_2) := (blk_cell BK192.out 2).trans rfl; have hfz23_0 := blk_frozen BK192.out 0; have hfz23_1 := blk_frozen BK192.out 1; have hfz23_2 := blk_frozen BK192.out 2) | ((with_reducible refine gate_callee (f := 12) rfl ?_); refine goesL_ (some 20) rfl rfl Try.func12 (by kernel_rfl) rfl #[.agg #[.int .i64 a0_0, .int .i64 a0_1, .string a0_2], .agg #[.int .i64 a2_0, .int .i64 a2_1, .string a2_2]] rfl (by (try simp only [List.map_toArray, List.map_cons, List.map_nil]); first | done | rfl | (simp only [List.length_drop, List.length_take]; rfl)) ?_; (with_reducible refine (value_Cmp.calls a0_0 a0_1 a0_2 a2_0 a2_1 a2_2 t196 _ A7.out).mono ?_); rintro e w24 ⟨rfl, hb⟩; refine ⟨_, rfl, ?_⟩; have n0_ := Aside0.mk (blk_below (g := gb190) (o := .cells #[.int .i64 a0_0, .int .i64 a0_1, .string a0_2] 24 (0, 0)) (by (with_reducible repeat (first | refine blk_drewN ?_ _ | refine blk_drew ?_ | refine blk_alloc ?_ _)); exact BK190.out) hb); have n1_ := Aside0.mk (blk_below (g := gb191) (o := .cells #[.int .i64 a1_0, .int .i64 a1_1, .string a1_2] 24 (0, 0)) (by (with_reducible repeat (first | refine blk_drewN ?_ _ | refine blk_drew ?_ | refine blk_alloc ?_ _)); exact BK191.out) hb); have n2_ := Aside0.mk (blk_below (g := gb192) (o := .cells #[.int .i64 a2_0, .int .i64 a2_1, .string a2_2] 24 (0, 0)) (by (with_reducible repeat (first | refine blk_drewN ?_ _ | refine blk_drew ?_ | refine blk_alloc ?_ _)); exact BK192.out) hb); have n3_ := Aside0.mk (below_step (by repeat (first | (with_reducible first | exact HB.out | apply below_alloc | apply pw_below_drewN | apply below_drew1 | refine below_set ?_ GE190.out | refine below_set ?_ GE191.out | refine below_set ?_ GE192.out) | exact HB.out)) hb); clear BK190; clear BK191; clear BK192; clear HB; have BK190 := n0_; have BK191 := n1_; have BK192 := n2_; have HB := n3_; clear n0_ n1_ n2_ n3_; (try clear hb); (try clear hb2); (try clear hk); (try clear hi)))
  (try simp only [Act.put, List.setIfInBounds_toArray, List.set_cons_zero, List.set_cons_succ])
  go_cut [42] (fun v42 wc => ∃ (kq : Nat) (x42_7 : Bool), v42 = .bool x42_7 ∧ Aside0 (tailracelaw01_ValueLine.j0 kq t193 t194 x42_7 a0_0 a0_1 a0_2 a1_0 a1_1 a1_2 = some r) ∧ Aside0 (kq ≤ k) ∧ Aside0 (wc.heap[gb190]? = some (.cells #[.int .i64 a0_0, .int .i64 a0_1, .string a0_2] 24 (0, 0))) ∧ Aside0 (wc.heap[gb191]? = some (.cells #[.int .i64 a1_0, .int .i64 a1_1, .string a1_2] 24 (0, 0))) ∧ Aside0 (wc.heap[gb192]? = some (.cells #[.int .i64 a2_0, .int .i64 a2_1, .string a2_2] 24 (0, 0))) ∧ Aside0 (Below w.heap.size w wc))
  case first =>
    have H := HC8.out
    clear HC8
    by_cases c25 : t194 ≤ 0
    · rw [if_pos c25] at H
      have c25b0 : decide (t194 ≤ 0) = true := decide_eq_true c25
      clear c25
      (first | rw [c25b0] | (simp only [i64_w, i32_w]; rw [c25b0]) | skip)
      by_cases c26 : t195 ≤ 0
      · rw [if_pos c26] at H
        have c26b0 : decide (t195 ≤ 0) = true := decide_eq_true c26
        clear c26
        by_cases c27 : t196 > 0
        · rw [if_pos c27] at H
          have c27b0 : decide (0 < t196) = true := decide_eq_true c27
          clear c27
          have H' := Aside0.mk H
          clear H
          go_wp2
          go_meet
          case rel => exact ⟨_, (true), (by first | rfl | (simp; done) | (simp [*]; done)), H', ⟨by first | omega | exact Nat.le_refl _⟩, ⟨by (with_reducible repeat (first | refine blk_drewN ?_ _ | refine blk_drew ?_ | refine blk_alloc ?_ _)); exact BK190.out⟩, ⟨by (with_reducible repeat (first | refine blk_drewN ?_ _ | refine blk_drew ?_ | refine blk_alloc ?_ _)); exact BK191.out⟩, ⟨by (with_reducible repeat (first | refine blk_drewN ?_ _ | refine blk_drew ?_ | refine blk_alloc ?_ _)); exact BK192.out⟩, ⟨by repeat (first | (with_reducible first | exact HB.out | apply below_alloc | apply pw_below_drewN | apply below_drew1 | refine below_set ?_ GE190.out | refine below_set ?_ GE191.out | refine below_set ?_ GE192.out) | exact HB.out)⟩⟩
        · rw [if_neg c27] at H
          have c27b0 : decide (0 < t196) = false := decide_eq_false c27
          clear c27
          by_cases c28 : t194 < 0
          · rw [if_pos c28] at H
            have c28b0 : decide (t194 < 0) = true := decide_eq_true c28
            clear c28
            have H' := Aside0.mk H
            clear H
            go_wp2
            go_meet
            case rel => exact ⟨_, (decide (t196 ≥ 0)), (by first | rfl | (simp; done) | (simp [*]; done)), H', ⟨by first | omega | exact Nat.le_refl _⟩, ⟨by (with_reducible repeat (first | refine blk_drewN ?_ _ | refine blk_drew ?_ | refine blk_alloc ?_ _)); exact BK190.out⟩, ⟨by (with_reducible repeat (first | refine blk_drewN ?_ _ | refine blk_drew ?_ | refine blk_alloc ?_ _)); exact BK191.out⟩, ⟨by (with_reducible repeat (first | refine blk_drewN ?_ _ | refine blk_drew ?_ | refine blk_alloc ?_ _)); exact BK192.out⟩, ⟨by repeat (first | (with_reducible first | exact HB.out | apply below_alloc | apply pw_below_drewN | apply below_drew1 | refine below_set ?_ GE190.out | refine below_set ?_ GE191.out | refine below_set ?_ GE192.out) | exact HB.out)⟩⟩
          · rw [if_neg c28] at H
            have c28b0 : decide (t194 < 0) = false := decide_eq_false c28
            clear c28
            have H' := Aside0.mk H
            clear H
            go_wp2
            go_meet
            case rel => exact ⟨_, (false), (by first | rfl | (simp; done) | (simp [*]; done)), H', ⟨by first | omega | exact Nat.le_refl _⟩, ⟨by (with_reducible repeat (first | refine blk_drewN ?_ _ | refine blk_drew ?_ | refine blk_alloc ?_ _)); exact BK190.out⟩, ⟨by (with_reducible repeat (first | refine blk_drewN ?_ _ | refine blk_drew ?_ | refine blk_alloc ?_ _)); exact BK191.out⟩, ⟨by (with_reducible repeat (first | refine blk_drewN ?_ _ | refine blk_drew ?_ | refine blk_alloc ?_ _)); exact BK192.out⟩, ⟨by repeat (first | (with_reducible first | exact HB.out | apply below_alloc | apply pw_below_drewN | apply below_drew1 | refine below_set ?_ GE190.out | refine below_set ?_ GE191.out | refine below_set ?_ GE192.out) | exact HB.out)⟩⟩
      · rw [if_neg c26] at H
        have c26b0 : decide (t195 ≤ 0) = false := decide_eq_false c26
        clear c26
        by_cases c29 : t194 < 0
        · rw [if_pos c29] at H
          have c29b0 : decide (t194 < 0) = true := decide_eq_true c29
          clear c29
          have H' := Aside0.mk H
          clear H
          go_wp2
          go_meet
          case rel => exact ⟨_, (false), (by first | rfl | (simp; done) | (simp [*]; done)), H', ⟨by first | omega | exact Nat.le_refl _⟩, ⟨by (with_reducible repeat (first | refine blk_drewN ?_ _ | refine blk_drew ?_ | refine blk_alloc ?_ _)); exact BK190.out⟩, ⟨by (with_reducible repeat (first | refine blk_drewN ?_ _ | refine blk_drew ?_ | refine blk_alloc ?_ _)); exact BK191.out⟩, ⟨by (with_reducible repeat (first | refine blk_drewN ?_ _ | refine blk_drew ?_ | refine blk_alloc ?_ _)); exact BK192.out⟩, ⟨by repeat (first | (with_reducible first | exact HB.out | apply below_alloc | apply pw_below_drewN | apply below_drew1 | refine below_set ?_ GE190.out | refine below_set ?_ GE191.out | refine below_set ?_ GE192.out) | exact HB.out)⟩⟩
        · rw [if_neg c29] at H
          have c29b0 : decide (t194 < 0) = false := decide_eq_false c29
          clear c29
          have H' := Aside0.mk H
          clear H
          go_wp2
          go_meet
          case rel => exact ⟨_, (false), (by first | rfl | (simp; done) | (simp [*]; done)), H', ⟨by first | omega | exact Nat.le_refl _⟩, ⟨by (with_reducible repeat (first | refine blk_drewN ?_ _ | refine blk_drew ?_ | refine blk_alloc ?_ _)); exact BK190.out⟩, ⟨by (with_reducible repeat (first | refine blk_drewN ?_ _ | refine blk_drew ?_ | refine blk_alloc ?_ _)); exact BK191.out⟩, ⟨by (with_reducible repeat (first | refine blk_drewN ?_ _ | refine blk_drew ?_ | refine blk_alloc ?_ _)); exact BK192.out⟩, ⟨by repeat (first | (with_reducible first | exact HB.out | apply below_alloc | apply pw_below_drewN | apply below_drew1 | refine below_set ?_ GE190.out | refine below_set ?_ GE191.out | refine below_set ?_ GE192.out) | exact HB.out)⟩⟩
    · rw [if_neg c25] at H
      have c25b0 : decide (t194 ≤ 0) = false := decide_eq_false c25
      clear c25
      (first | rw [c25b0] | (simp only [i64_w, i32_w]; rw [c25b0]) | skip)
      by_cases c30 : t194 < 0
      · rw [if_pos c30] at H
        have c30b0 : decide (t194 < 0) = true := decide_eq_true c30
        clear c30
        by_cases c31 : t195 ≤ 0
        · rw [if_pos c31] at H
          have c31b0 : decide (t195 ≤ 0) = true := decide_eq_true c31
          clear c31
          have H' := Aside0.mk H
          clear H
          go_wp2
          go_meet
          case rel => exact ⟨_, (decide (t196 ≥ 0)), (by first | rfl | (simp; done) | (simp [*]; done)), H', ⟨by first | omega | exact Nat.le_refl _⟩, ⟨by (with_reducible repeat (first | refine blk_drewN ?_ _ | refine blk_drew ?_ | refine blk_alloc ?_ _)); exact BK190.out⟩, ⟨by (with_reducible repeat (first | refine blk_drewN ?_ _ | refine blk_drew ?_ | refine blk_alloc ?_ _)); exact BK191.out⟩, ⟨by (with_reducible repeat (first | refine blk_drewN ?_ _ | refine blk_drew ?_ | refine blk_alloc ?_ _)); exact BK192.out⟩, ⟨by repeat (first | (with_reducible first | exact HB.out | apply below_alloc | apply pw_below_drewN | apply below_drew1 | refine below_set ?_ GE190.out | refine below_set ?_ GE191.out | refine below_set ?_ GE192.out) | exact HB.out)⟩⟩
        · rw [if_neg c31] at H
          have c31b0 : decide (t195 ≤ 0) = false := decide_eq_false c31
          clear c31
          have H' := Aside0.mk H
          clear H
          go_wp2
          go_meet
          case rel => exact ⟨_, (false), (by first | rfl | (simp; done) | (simp [*]; done)), H', ⟨by first | omega | exact Nat.le_refl _⟩, ⟨by (with_reducible repeat (first | refine blk_drewN ?_ _ | refine blk_drew ?_ | refine blk_alloc ?_ _)); exact BK190.out⟩, ⟨by (with_reducible repeat (first | refine blk_drewN ?_ _ | refine blk_drew ?_ | refine blk_alloc ?_ _)); exact BK191.out⟩, ⟨by (with_reducible repeat (first | refine blk_drewN ?_ _ | refine blk_drew ?_ | refine blk_alloc ?_ _)); exact BK192.out⟩, ⟨by repeat (first | (with_reducible first | exact HB.out | apply below_alloc | apply pw_below_drewN | apply below_drew1 | refine below_set ?_ GE190.out | refine below_set ?_ GE191.out | refine below_set ?_ GE192.out) | exact HB.out)⟩⟩
      · rw [if_neg c30] at H
        have c30b0 : decide (t194 < 0) = false := decide_eq_false c30
        clear c30
        have H' := Aside0.mk H
        clear H
        go_wp2
        go_meet
        case rel => exact ⟨_, (false), (by first | rfl | (simp; done) | (simp [*]; done)), H', ⟨by first | omega | exact Nat.le_refl _⟩, ⟨by (with_reducible repeat (first | refine blk_drewN ?_ _ | refine blk_drew ?_ | refine blk_alloc ?_ _)); exact BK190.out⟩, ⟨by (with_reducible repeat (first | refine blk_drewN ?_ _ | refine blk_drew ?_ | refine blk_alloc ?_ _)); exact BK191.out⟩, ⟨by (with_reducible repeat (first | refine blk_drewN ?_ _ | refine blk_drew ?_ | refine blk_alloc ?_ _)); exact BK192.out⟩, ⟨by repeat (first | (with_reducible first | exact HB.out | apply below_alloc | apply pw_below_drewN | apply below_drew1 | refine below_set ?_ GE190.out | refine below_set ?_ GE191.out | refine below_set ?_ GE192.out) | exact HB.out)⟩⟩
  case rest =>
    clear HC8
    try clear c1
    try clear c2
    try clear p2
    try clear c3
    try clear c6
    try clear c9
    try clear c12
    try clear c13
    try clear c14
    try clear c16
    try clear c25
    try clear c25b0
    try clear c26
    try clear c26b0
    try clear c27
    try clear c27b0
    try clear c28
    try clear c28b0
    try clear c29
    try clear c29b0
    try clear c30
    try clear c30b0
    try clear c31
    try clear c31b0
    try clear hcz15_0
    try clear hcz15_1
    try clear hcz15_2
    try clear hcz17_0
    try clear hcz17_1
    try clear hcz17_2
    try clear hcz19_0
    try clear hcz19_1
    try clear hcz19_2
    try clear hcz20_0
    try clear hcz20_1
    try clear hcz20_2
    try clear hcz22_0
    try clear hcz22_1
    try clear hcz22_2
    try clear hcz23_0
    try clear hcz23_1
    try clear hcz23_2
    try clear hfz15_0
    try clear hfz15_1
    try clear hfz15_2
    try clear hfz17_0
    try clear hfz17_1
    try clear hfz17_2
    try clear hfz19_0
    try clear hfz19_1
    try clear hfz19_2
    try clear hfz20_0
    try clear hfz20_1
    try clear hfz20_2
    try clear hfz22_0
    try clear hfz22_1
    try clear hfz22_2
    try clear hfz23_0
    try clear hfz23_1
    try clear hfz23_2
    obtain ⟨kq, x42_7, rfl, HA, HJ7, BK190, BK191, BK192, HB⟩ := hcut
    cases kq with
    | zero => exact absurd HA.out (by simp [tailracelaw01_ValueLine.j0])
    | succ kj7 =>
      have H := HA.out
      clear HA
      simp only [tailracelaw01_ValueLine.j0] at H
      by_cases c32 : x42_7 = true
      · subst c32
        have H1 : (some false) = some r := by rw [if_pos rfl] at H; exact H
        clear H
        have H := H1
        clear H1
        obtain rfl := Option.some.inj H
        go_wp2
        go_ret
        exact ⟨by first | rfl | (simp [errW_none, errW_some] <;> rfl) | (simp [*, errW_none, errW_some] <;> rfl), by repeat (first | (with_reducible first | exact HB.out | apply below_alloc | apply pw_below_drewN | apply below_drew1 | refine below_set ?_ GE190.out | refine below_set ?_ GE191.out | refine below_set ?_ GE192.out) | exact HB.out)⟩
      · replace c32 := Bool.eq_false_iff.mpr c32
        subst c32
        have H1 : (if t193 = true then ((value_Cmp.f a1_0 a1_1 a1_2 a0_0 a0_1 a0_2).bind fun t197 => (if t197 = (wrap64 (-t194)) then (if ((t194 == 0) == (a0_0 == a1_0 && (a0_1 == a1_1 && (a0_2.toList == a1_2.toList)))) = true then (if t194 ≥ (-1) then (some (decide (t194 ≤ 1))) else (some false)) else (some false)) else (some false))) else (some false)) = some r := by rw [if_neg (show ¬ (false = true) by decide)] at H; exact H
        clear H
        have H := H1
        clear H1
        by_cases c33 : t193 = true
        · subst c33
          have H1 : ((value_Cmp.f a1_0 a1_1 a1_2 a0_0 a0_1 a0_2).bind fun t197 => (if t197 = (wrap64 (-t194)) then (if ((t194 == 0) == (a0_0 == a1_0 && (a0_1 == a1_1 && (a0_2.toList == a1_2.toList)))) = true then (if t194 ≥ (-1) then (some (decide (t194 ≤ 1))) else (some false)) else (some false)) else (some false))) = some r := by rw [if_pos rfl] at H; exact H
          clear H
          have H := H1
          clear H1
          replace H := Option.bind_eq_some_iff.mp H
          obtain ⟨t197, A340, H⟩ := H
          replace H : (if t197 = (wrap64 (-t194)) then (if ((t194 == 0) == (a0_0 == a1_0 && (a0_1 == a1_1 && (a0_2.toList == a1_2.toList)))) = true then (if t194 ≥ (-1) then (some (decide (t194 ≤ 1))) else (some false)) else (some false)) else (some false)) = some r := H
          have A34 := Aside0.mk A340
          clear A340
          by_cases c35 : t197 = (wrap64 (-t194))
          · rw [if_pos c35] at H
            have c35b0 : (t197 == (wrap64 (-t194))) = true := beq_iff_eq.mpr c35
            have c35b1 : (t197 != (wrap64 (-t194))) = false := bne_eq_false_iff_eq.mpr c35
            clear c35
            by_cases c36 : ((t194 == 0) == (a0_0 == a1_0 && (a0_1 == a1_1 && (a0_2.toList == a1_2.toList)))) = true
            · rw [if_pos c36] at H
              have c36b0 : ((t194 == 0) == (a0_0 == a1_0 && (a0_1 == a1_1 && (a0_2.toList == a1_2.toList)))) = true := c36
              (try (have c36b1 : decide ((t194 == 0) = (a0_0 == a1_0 && (a0_1 == a1_1 && (a0_2.toList == a1_2.toList)))) = true := by simpa using c36))
              (try (have c36b2 : ((t194 == 0) == (a0_0 == a1_0 && (a0_1 == a1_1 && (a0_2.toList == a1_2.toList)))) = true := by simpa using c36))
              clear c36
              by_cases c37 : t194 ≥ (-1)
              · rw [if_pos c37] at H
                have c37b0 : decide ((-1) ≤ t194) = true := decide_eq_true c37
                clear c37
                obtain rfl := Option.some.inj H
                have hnb38 := NB191_190.out
                have hnc38 := NB190_191.out
                have hnb39 := NB191_192.out
                have hnc39 := NB192_191.out
                have hcz40_0 : wc.cell? ⟨gb191, 0, none⟩ = some (.int .i64 a1_0) := (blk_cell BK191.out 0).trans rfl
                have hcz40_1 : wc.cell? ⟨gb191, 1, none⟩ = some (.int .i64 a1_1) := (blk_cell BK191.out 1).trans rfl
                have hcz40_2 : wc.cell? ⟨gb191, 2, none⟩ = some (.string a1_2) := (blk_cell BK191.out 2).trans rfl
                have hfz40_0 := blk_frozen BK191.out 0
                have hfz40_1 := blk_frozen BK191.out 1
                have hfz40_2 := blk_frozen BK191.out 2
                have hnb41 := NB190_192.out
                have hnc41 := NB192_190.out
                have hcz42_0 : wc.cell? ⟨gb190, 0, none⟩ = some (.int .i64 a0_0) := (blk_cell BK190.out 0).trans rfl
                have hcz42_1 : wc.cell? ⟨gb190, 1, none⟩ = some (.int .i64 a0_1) := (blk_cell BK190.out 1).trans rfl
                have hcz42_2 : wc.cell? ⟨gb190, 2, none⟩ = some (.string a0_2) := (blk_cell BK190.out 2).trans rfl
                have hfz42_0 := blk_frozen BK190.out 0
                have hfz42_1 := blk_frozen BK190.out 1
                have hfz42_2 := blk_frozen BK190.out 2
                go_wp2_with (first | (go_at_call 12; (with_reducible refine (value_Cmp.calls a1_0 a1_1 a1_2 a0_0 a0_1 a0_2 t197 _ A34.out).mono ?_); rintro e w43 ⟨rfl, hb⟩; have n0_ := Aside0.mk (blk_below (g := gb190) (o := .cells #[.int .i64 a0_0, .int .i64 a0_1, .string a0_2] 24 (0, 0)) (by (with_reducible repeat (first | refine blk_drewN ?_ _ | refine blk_drew ?_ | refine blk_alloc ?_ _)); exact BK190.out) hb); have n1_ := Aside0.mk (blk_below (g := gb191) (o := .cells #[.int .i64 a1_0, .int .i64 a1_1, .string a1_2] 24 (0, 0)) (by (with_reducible repeat (first | refine blk_drewN ?_ _ | refine blk_drew ?_ | refine blk_alloc ?_ _)); exact BK191.out) hb); have n2_ := Aside0.mk (blk_below (g := gb192) (o := .cells #[.int .i64 a2_0, .int .i64 a2_1, .string a2_2] 24 (0, 0)) (by (with_reducible repeat (first | refine blk_drewN ?_ _ | refine blk_drew ?_ | refine blk_alloc ?_ _)); exact BK192.out) hb); have n3_ := Aside0.mk (below_step (by repeat (first | (with_reducible first | exact HB.out | apply below_alloc | apply pw_below_drewN | apply below_drew1 | refine below_set ?_ GE190.out | refine below_set ?_ GE191.out | refine below_set ?_ GE192.out) | exact HB.out)) hb); clear BK190; clear BK191; clear BK192; clear HB; have BK190 := n0_; have BK191 := n1_; have BK192 := n2_; have HB := n3_; clear n0_ n1_ n2_ n3_; (try clear hb); (try clear hb2); (try clear hk); (try clear hi); have hcz44_0 : w43.cell? ⟨gb190, 0, none⟩ = some (.int .i64 a0_0) := (blk_cell BK190.out 0).trans rfl; have hcz44_1 : w43.cell? ⟨gb190, 1, none⟩ = some (.int .i64 a0_1) := (blk_cell BK190.out 1).trans rfl; have hcz44_2 : w43.cell? ⟨gb190, 2, none⟩ = some (.string a0_2) := (blk_cell BK190.out 2).trans rfl; have hfz44_0 := blk_frozen BK190.out 0; have hfz44_1 := blk_frozen BK190.out 1; have hfz44_2 := blk_frozen BK190.out 2; have hcz45_0 : w43.cell? ⟨gb191, 0, none⟩ = some (.int .i64 a1_0) := (blk_cell BK191.out 0).trans rfl; have hcz45_1 : w43.cell? ⟨gb191, 1, none⟩ = some (.int .i64 a1_1) := (blk_cell BK191.out 1).trans rfl; have hcz45_2 : w43.cell? ⟨gb191, 2, none⟩ = some (.string a1_2) := (blk_cell BK191.out 2).trans rfl; have hfz45_0 := blk_frozen BK191.out 0; have hfz45_1 := blk_frozen BK191.out 1; have hfz45_2 := blk_frozen BK191.out 2))
                go_ret
                exact ⟨by first | rfl | (simp [errW_none, errW_some] <;> rfl) | (simp [*, errW_none, errW_some] <;> rfl), by repeat (first | (with_reducible first | exact HB.out | apply below_alloc | apply pw_below_drewN | apply below_drew1 | refine below_set ?_ GE190.out | refine below_set ?_ GE191.out | refine below_set ?_ GE192.out) | exact HB.out)⟩
              · rw [if_neg c37] at H
                have c37b0 : decide ((-1) ≤ t194) = false := decide_eq_false c37
                clear c37
                obtain rfl := Option.some.inj H
                have hnb46 := NB191_190.out
                have hnc46 := NB190_191.out
                have hnb47 := NB191_192.out
                have hnc47 := NB192_191.out
                have hcz48_0 : wc.cell? ⟨gb191, 0, none⟩ = some (.int .i64 a1_0) := (blk_cell BK191.out 0).trans rfl
                have hcz48_1 : wc.cell? ⟨gb191, 1, none⟩ = some (.int .i64 a1_1) := (blk_cell BK191.out 1).trans rfl
                have hcz48_2 : wc.cell? ⟨gb191, 2, none⟩ = some (.string a1_2) := (blk_cell BK191.out 2).trans rfl
                have hfz48_0 := blk_frozen BK191.out 0
                have hfz48_1 := blk_frozen BK191.out 1
                have hfz48_2 := blk_frozen BK191.out 2
                have hnb49 := NB190_192.out
                have hnc49 := NB192_190.out
                have hcz50_0 : wc.cell? ⟨gb190, 0, none⟩ = some (.int .i64 a0_0) := (blk_cell BK190.out 0).trans rfl
                have hcz50_1 : wc.cell? ⟨gb190, 1, none⟩ = some (.int .i64 a0_1) := (blk_cell BK190.out 1).trans rfl
                have hcz50_2 : wc.cell? ⟨gb190, 2, none⟩ = some (.string a0_2) := (blk_cell BK190.out 2).trans rfl
                have hfz50_0 := blk_frozen BK190.out 0
                have hfz50_1 := blk_frozen BK190.out 1
                have hfz50_2 := blk_frozen BK190.out 2
                go_wp2_with (first | (go_at_call 12; (with_reducible refine (value_Cmp.calls a1_0 a1_1 a1_2 a0_0 a0_1 a0_2 t197 _ A34.out).mono ?_); rintro e w51 ⟨rfl, hb⟩; have n0_ := Aside0.mk (blk_below (g := gb190) (o := .cells #[.int .i64 a0_0, .int .i64 a0_1, .string a0_2] 24 (0, 0)) (by (with_reducible repeat (first | refine blk_drewN ?_ _ | refine blk_drew ?_ | refine blk_alloc ?_ _)); exact BK190.out) hb); have n1_ := Aside0.mk (blk_below (g := gb191) (o := .cells #[.int .i64 a1_0, .int .i64 a1_1, .string a1_2] 24 (0, 0)) (by (with_reducible repeat (first | refine blk_drewN ?_ _ | refine blk_drew ?_ | refine blk_alloc ?_ _)); exact BK191.out) hb); have n2_ := Aside0.mk (blk_below (g := gb192) (o := .cells #[.int .i64 a2_0, .int .i64 a2_1, .string a2_2] 24 (0, 0)) (by (with_reducible repeat (first | refine blk_drewN ?_ _ | refine blk_drew ?_ | refine blk_alloc ?_ _)); exact BK192.out) hb); have n3_ := Aside0.mk (below_step (by repeat (first | (with_reducible first | exact HB.out | apply below_alloc | apply pw_below_drewN | apply below_drew1 | refine below_set ?_ GE190.out | refine below_set ?_ GE191.out | refine below_set ?_ GE192.out) | exact HB.out)) hb); clear BK190; clear BK191; clear BK192; clear HB; have BK190 := n0_; have BK191 := n1_; have BK192 := n2_; have HB := n3_; clear n0_ n1_ n2_ n3_; (try clear hb); (try clear hb2); (try clear hk); (try clear hi); have hcz52_0 : w51.cell? ⟨gb190, 0, none⟩ = some (.int .i64 a0_0) := (blk_cell BK190.out 0).trans rfl; have hcz52_1 : w51.cell? ⟨gb190, 1, none⟩ = some (.int .i64 a0_1) := (blk_cell BK190.out 1).trans rfl; have hcz52_2 : w51.cell? ⟨gb190, 2, none⟩ = some (.string a0_2) := (blk_cell BK190.out 2).trans rfl; have hfz52_0 := blk_frozen BK190.out 0; have hfz52_1 := blk_frozen BK190.out 1; have hfz52_2 := blk_frozen BK190.out 2; have hcz53_0 : w51.cell? ⟨gb191, 0, none⟩ = some (.int .i64 a1_0) := (blk_cell BK191.out 0).trans rfl; have hcz53_1 : w51.cell? ⟨gb191, 1, none⟩ = some (.int .i64 a1_1) := (blk_cell BK191.out 1).trans rfl; have hcz53_2 : w51.cell? ⟨gb191, 2, none⟩ = some (.string a1_2) := (blk_cell BK191.out 2).trans rfl; have hfz53_0 := blk_frozen BK191.out 0; have hfz53_1 := blk_frozen BK191.out 1; have hfz53_2 := blk_frozen BK191.out 2))
                go_ret
                exact ⟨by first | rfl | (simp [errW_none, errW_some] <;> rfl) | (simp [*, errW_none, errW_some] <;> rfl), by repeat (first | (with_reducible first | exact HB.out | apply below_alloc | apply pw_below_drewN | apply below_drew1 | refine below_set ?_ GE190.out | refine below_set ?_ GE191.out | refine below_set ?_ GE192.out) | exact HB.out)⟩
            · rw [if_neg c36] at H
              have c36b0 : ((t194 == 0) == (a0_0 == a1_0 && (a0_1 == a1_1 && (a0_2.toList == a1_2.toList)))) = false := by simpa using c36
              (try (have c36b1 : decide ((t194 == 0) = (a0_0 == a1_0 && (a0_1 == a1_1 && (a0_2.toList == a1_2.toList)))) = false := by simpa using c36))
              (try (have c36b2 : ((t194 == 0) == (a0_0 == a1_0 && (a0_1 == a1_1 && (a0_2.toList == a1_2.toList)))) = false := by simpa using c36))
              (try (have c36b3 : ¬ ((t194 == 0) = (a0_0 == a1_0 && (a0_1 == a1_1 && (a0_2.toList == a1_2.toList)))) := by simpa using c36))
              clear c36
              obtain rfl := Option.some.inj H
              have hnb54 := NB191_190.out
              have hnc54 := NB190_191.out
              have hnb55 := NB191_192.out
              have hnc55 := NB192_191.out
              have hcz56_0 : wc.cell? ⟨gb191, 0, none⟩ = some (.int .i64 a1_0) := (blk_cell BK191.out 0).trans rfl
              have hcz56_1 : wc.cell? ⟨gb191, 1, none⟩ = some (.int .i64 a1_1) := (blk_cell BK191.out 1).trans rfl
              have hcz56_2 : wc.cell? ⟨gb191, 2, none⟩ = some (.string a1_2) := (blk_cell BK191.out 2).trans rfl
              have hfz56_0 := blk_frozen BK191.out 0
              have hfz56_1 := blk_frozen BK191.out 1
              have hfz56_2 := blk_frozen BK191.out 2
              have hnb57 := NB190_192.out
              have hnc57 := NB192_190.out
              have hcz58_0 : wc.cell? ⟨gb190, 0, none⟩ = some (.int .i64 a0_0) := (blk_cell BK190.out 0).trans rfl
              have hcz58_1 : wc.cell? ⟨gb190, 1, none⟩ = some (.int .i64 a0_1) := (blk_cell BK190.out 1).trans rfl
              have hcz58_2 : wc.cell? ⟨gb190, 2, none⟩ = some (.string a0_2) := (blk_cell BK190.out 2).trans rfl
              have hfz58_0 := blk_frozen BK190.out 0
              have hfz58_1 := blk_frozen BK190.out 1
              have hfz58_2 := blk_frozen BK190.out 2
              go_wp2_with (first | (go_at_call 12; (with_reducible refine (value_Cmp.calls a1_0 a1_1 a1_2 a0_0 a0_1 a0_2 t197 _ A34.out).mono ?_); rintro e w59 ⟨rfl, hb⟩; have n0_ := Aside0.mk (blk_below (g := gb190) (o := .cells #[.int .i64 a0_0, .int .i64 a0_1, .string a0_2] 24 (0, 0)) (by (with_reducible repeat (first | refine blk_drewN ?_ _ | refine blk_drew ?_ | refine blk_alloc ?_ _)); exact BK190.out) hb); have n1_ := Aside0.mk (blk_below (g := gb191) (o := .cells #[.int .i64 a1_0, .int .i64 a1_1, .string a1_2] 24 (0, 0)) (by (with_reducible repeat (first | refine blk_drewN ?_ _ | refine blk_drew ?_ | refine blk_alloc ?_ _)); exact BK191.out) hb); have n2_ := Aside0.mk (blk_below (g := gb192) (o := .cells #[.int .i64 a2_0, .int .i64 a2_1, .string a2_2] 24 (0, 0)) (by (with_reducible repeat (first | refine blk_drewN ?_ _ | refine blk_drew ?_ | refine blk_alloc ?_ _)); exact BK192.out) hb); have n3_ := Aside0.mk (below_step (by repeat (first | (with_reducible first | exact HB.out | apply below_alloc | apply pw_below_drewN | apply below_drew1 | refine below_set ?_ GE190.out | refine below_set ?_ GE191.out | refine below_set ?_ GE192.out) | exact HB.out)) hb); clear BK190; clear BK191; clear BK192; clear HB; have BK190 := n0_; have BK191 := n1_; have BK192 := n2_; have HB := n3_; clear n0_ n1_ n2_ n3_; (try clear hb); (try clear hb2); (try clear hk); (try clear hi); have hcz60_0 : w59.cell? ⟨gb190, 0, none⟩ = some (.int .i64 a0_0) := (blk_cell BK190.out 0).trans rfl; have hcz60_1 : w59.cell? ⟨gb190, 1, none⟩ = some (.int .i64 a0_1) := (blk_cell BK190.out 1).trans rfl; have hcz60_2 : w59.cell? ⟨gb190, 2, none⟩ = some (.string a0_2) := (blk_cell BK190.out 2).trans rfl; have hfz60_0 := blk_frozen BK190.out 0; have hfz60_1 := blk_frozen BK190.out 1; have hfz60_2 := blk_frozen BK190.out 2; have hcz61_0 : w59.cell? ⟨gb191, 0, none⟩ = some (.int .i64 a1_0) := (blk_cell BK191.out 0).trans rfl; have hcz61_1 : w59.cell? ⟨gb191, 1, none⟩ = some (.int .i64 a1_1) := (blk_cell BK191.out 1).trans rfl; have hcz61_2 : w59.cell? ⟨gb191, 2, none⟩ = some (.string a1_2) := (blk_cell BK191.out 2).trans rfl; have hfz61_0 := blk_frozen BK191.out 0; have hfz61_1 := blk_frozen BK191.out 1; have hfz61_2 := blk_frozen BK191.out 2))
              go_ret
              exact ⟨by first | rfl | (simp [errW_none, errW_some] <;> rfl) | (simp [*, errW_none, errW_some] <;> rfl), by repeat (first | (with_reducible first | exact HB.out | apply below_alloc | apply pw_below_drewN | apply below_drew1 | refine below_set ?_ GE190.out | refine below_set ?_ GE191.out | refine below_set ?_ GE192.out) | exact HB.out)⟩
          · rw [if_neg c35] at H
            have c35b0 : (t197 == (wrap64 (-t194))) = false := beq_eq_false_iff_ne.mpr c35
            have c35b1 : (t197 != (wrap64 (-t194))) = true := bne_iff_ne.mpr c35
            obtain rfl := Option.some.inj H
            have hnb62 := NB191_190.out
            have hnc62 := NB190_191.out
            have hnb63 := NB191_192.out
            have hnc63 := NB192_191.out
            have hcz64_0 : wc.cell? ⟨gb191, 0, none⟩ = some (.int .i64 a1_0) := (blk_cell BK191.out 0).trans rfl
            have hcz64_1 : wc.cell? ⟨gb191, 1, none⟩ = some (.int .i64 a1_1) := (blk_cell BK191.out 1).trans rfl
            have hcz64_2 : wc.cell? ⟨gb191, 2, none⟩ = some (.string a1_2) := (blk_cell BK191.out 2).trans rfl
            have hfz64_0 := blk_frozen BK191.out 0
            have hfz64_1 := blk_frozen BK191.out 1
            have hfz64_2 := blk_frozen BK191.out 2
            have hnb65 := NB190_192.out
            have hnc65 := NB192_190.out
            have hcz66_0 : wc.cell? ⟨gb190, 0, none⟩ = some (.int .i64 a0_0) := (blk_cell BK190.out 0).trans rfl
            have hcz66_1 : wc.cell? ⟨gb190, 1, none⟩ = some (.int .i64 a0_1) := (blk_cell BK190.out 1).trans rfl
            have hcz66_2 : wc.cell? ⟨gb190, 2, none⟩ = some (.string a0_2) := (blk_cell BK190.out 2).trans rfl
            have hfz66_0 := blk_frozen BK190.out 0
            have hfz66_1 := blk_frozen BK190.out 1
            have hfz66_2 := blk_frozen BK190.out 2
            go_wp2_with (first | (go_at_call 12; (with_reducible refine (value_Cmp.calls a1_0 a1_1 a1_2 a0_0 a0_1 a0_2 t197 _ A34.out).mono ?_); rintro e w67 ⟨rfl, hb⟩; have n0_ := Aside0.mk (blk_below (g := gb190) (o := .cells #[.int .i64 a0_0, .int .i64 a0_1, .string a0_2] 24 (0, 0)) (by (with_reducible repeat (first | refine blk_drewN ?_ _ | refine blk_drew ?_ | refine blk_alloc ?_ _)); exact BK190.out) hb); have n1_ := Aside0.mk (blk_below (g := gb191) (o := .cells #[.int .i64 a1_0, .int .i64 a1_1, .string a1_2] 24 (0, 0)) (by (with_reducible repeat (first | refine blk_drewN ?_ _ | refine blk_drew ?_ | refine blk_alloc ?_ _)); exact BK191.out) hb); have n2_ := Aside0.mk (blk_below (g := gb192) (o := .cells #[.int .i64 a2_0, .int .i64 a2_1, .string a2_2] 24 (0, 0)) (by (with_reducible repeat (first | refine blk_drewN ?_ _ | refine blk_drew ?_ | refine blk_alloc ?_ _)); exact BK192.out) hb); have n3_ := Aside0.mk (below_step (by repeat (first | (with_reducible first | exact HB.out | apply below_alloc | apply pw_below_drewN | apply below_drew1 | refine below_set ?_ GE190.out | refine below_set ?_ GE191.out | refine below_set ?_ GE192.out) | exact HB.out)) hb); clear BK190; clear BK191; clear BK192; clear HB; have BK190 := n0_; have BK191 := n1_; have BK192 := n2_; have HB := n3_; clear n0_ n1_ n2_ n3_; (try clear hb); (try clear hb2); (try clear hk); (try clear hi)))
            go_ret
            exact ⟨by first | rfl | (simp [errW_none, errW_some] <;> rfl) | (simp [*, errW_none, errW_some] <;> rfl), by repeat (first | (with_reducible first | exact HB.out | apply below_alloc | apply pw_below_drewN | apply below_drew1 | refine below_set ?_ GE190.out | refine below_set ?_ GE191.out | refine below_set ?_ GE192.out) | exact HB.out)⟩
        · replace c33 := Bool.eq_false_iff.mpr c33
          subst c33
          have H1 : (some false) = some r := by rw [if_neg (show ¬ (false = true) by decide)] at H; exact H
          clear H
          have H := H1
          clear H1
          obtain rfl := Option.some.inj H
          go_wp2
          go_ret
          exact ⟨by first | rfl | (simp [errW_none, errW_some] <;> rfl) | (simp [*, errW_none, errW_some] <;> rfl), by repeat (first | (with_reducible first | exact HB.out | apply below_alloc | apply pw_below_drewN | apply below_drew1 | refine below_set ?_ GE190.out | refine below_set ?_ GE191.out | refine below_set ?_ GE192.out) | exact HB.out)⟩

/-! ### tailraceref01_Same: function 21 -/
def tailraceref01_Same.f (k : Nat) (l0 : List (S24)) (l1 : List (S24)) : Option (Bool) := (tailraceref01_CmpRow.f k l0 l1).bind fun t198 => (some (t198 == 0))
theorem tailraceref01_Same.mono : ∀ a0 a1 k, LeO (tailraceref01_Same.f k a0 a1) (tailraceref01_Same.f (k + 1) a0 a1) := by
  intro a0 a1 k
  unfold tailraceref01_Same.f
  repeat' first
      | (with_reducible exact tailraceref01_CmpRow.mono _ _ _)
      | (with_reducible exact LeO.refl _)
      | (with_reducible exact LeO.none _)
      | (with_reducible refine LeO.ite ?_ ?_)
      | (with_reducible refine LeO.bind ?_ (fun _ => ?_))
      | exact tailraceref01_CmpRow.mono _ _ _
      | exact LeO.none _
      | refine LeO.ite ?_ ?_
      | refine LeO.bind ?_ (fun _ => ?_)
set_option maxHeartbeats 8000000 in
set_option maxRecDepth 100000 in
theorem tailraceref01_Same.calls (k : Nat) (A0 : Option Addr) (c0 : Nat) (l0 : List (S24)) (A1 : Option Addr) (c1 : Nat) (l1 : List (S24)) (r : Bool) (w : World) (hr0 : Kd.C k24 w A0 l0.length l0) (hc0 : l0.length ≤ c0) (hr1 : Kd.C k24 w A1 l1.length l1) (hc1 : l1.length ≤ c1) (h : tailraceref01_Same.f k l0 l1 = some r) :
    Calls Try.prog 21 #[.slice A0 l0.length c0, .slice A1 l1.length c1] w fun e w' => e = .returned (.bool r) ∧ Below w.heap.size w w' := by
  have HR0 := Aside0.mk hr0
  have HC0 := Aside0.mk hc0
  clear hr0 hc0
  have HR1 := Aside0.mk hr1
  have HC1 := Aside0.mk hc1
  clear hr1 hc1
  have HB := Aside0.mk (Below.refl w.heap.size w)
  have H : ((tailraceref01_CmpRow.f k l0 l1).bind fun t198 => (some (t198 == 0))) = some r := h
  clear h
  replace H := Option.bind_eq_some_iff.mp H
  obtain ⟨t198, A30, H⟩ := H
  replace H : (some (t198 == 0)) = some r := H
  have A3 := Aside0.mk A30
  clear A30
  obtain rfl := Option.some.inj H
  go_enter Try.func21, Try.ntmps21
  go_wp2_with (first | ((with_reducible refine gate_callee (f := 20) rfl ?_); refine goesL_ (some 7) rfl rfl Try.func20 (by kernel_rfl) rfl #[.slice A0 l0.length c0, .slice A1 l1.length c1] rfl (by (try simp only [List.map_toArray, List.map_cons, List.map_nil]); first | done | rfl | (simp only [List.length_drop, List.length_take]; rfl)) ?_; (with_reducible refine (tailraceref01_CmpRow.calls k _ _ l0 _ _ l1 t198 _ ?side1 ?side2 ?side3 ?side4 A3.out).mono ?_); (case side1 => repeat (first | exact HR0.out | (with_reducible refine Kd.C_alloc ?_ _) | (with_reducible refine Kd.C_drewN ?_ _) | (with_reducible refine Kd.C_drew ?_))); (case side2 => exact HC0.out); (case side3 => repeat (first | exact HR1.out | (with_reducible refine Kd.C_alloc ?_ _) | (with_reducible refine Kd.C_drewN ?_ _) | (with_reducible refine Kd.C_drew ?_))); (case side4 => exact HC1.out); rintro e w4 ⟨rfl, hb⟩; refine ⟨_, rfl, ?_⟩; have n0_ := Aside0.mk (below_step (by repeat (first | (with_reducible first | exact HB.out | apply below_alloc | apply pw_below_drewN | apply below_drew1) | exact HB.out)) hb); clear HB; have HB := n0_; clear n0_; (try clear hb); (try clear hb2); (try clear hk); (try clear hi)))
  go_ret
  exact ⟨by first | rfl | (simp [errW_none, errW_some] <;> rfl) | (simp [*, errW_none, errW_some] <;> rfl), by repeat (first | (with_reducible first | exact HB.out | apply below_alloc | apply pw_below_drewN | apply below_drew1) | exact HB.out)⟩

end Go.Proofs.Ytddpgppmfibddaa.P
