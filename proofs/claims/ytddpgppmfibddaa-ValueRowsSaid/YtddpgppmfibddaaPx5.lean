-- Written by a program of this session (a patched print): not the kit's own print.
import Derived.Test.YtddpgppmfibddaaPx0
import Derived.Test.YtddpgppmfibddaaPx3
namespace Go.Proofs.Ytddpgppmfibddaa.P
open Go.RowKit Go.Proofs.YtddpgppmfibddaaW.PrintWords Go.Proofs.YtddpgppmfibddaaW.PrintLast Go.Proofs.YtddpgppmfibddaaW.PrintMore
attribute [local go_sem] max2_int min2_int max_two min_two max_three min_three max_four min_four   -- for this text's walks alone
set_option linter.unusedVariables false
set_option linter.unusedSimpArgs false

/-! ### tailraceref01_CheckRow: function 18 -/
mutual
def tailraceref01_CheckRow.l0 : Nat → List (S24) → List Int → Int → Option (Int)
  | 0, _, _, _ => none
  | k + 1, x0, x1, x5 => if x5 < (x0.length : Int) then (if 0 ≤ x5 then ((tailraceref01_Check.f k ((rd_T24 x0 x5).f0) ((rd_T24 x0 x5).f1) ((rd_T24 x0 x5).f2)).bind fun t172 => (if t172 = 0 then (tailraceref01_CheckRow.l0 k x0 x1 (wrap64 (x5 + 1))) else (some 10))) else (none)) else (if (x0.length : Int) = (x1.length : Int) then (tailraceref01_CheckRow.l1 k x0 x1 0) else (some 11))
def tailraceref01_CheckRow.l1 : Nat → List (S24) → List Int → Int → Option (Int)
  | 0, _, _, _ => none
  | k + 1, x0, x1, x6 => if x6 < (x0.length : Int) then (if 0 ≤ x6 then (if x6 < (x1.length : Int) then (if ((rd_T24 x0 x6).f0) = (rd x1 x6) then (tailraceref01_CheckRow.l1 k x0 x1 (wrap64 (x6 + 1))) else (some 11)) else (none)) else (none)) else (some 0)
end
def tailraceref01_CheckRow.f (k : Nat) (l0 : List (S24)) (l1 : List Int) : Option (Int) := tailraceref01_CheckRow.l0 k l0 l1 0
theorem tailraceref01_CheckRow.mono_l : ∀ k, (∀ y0 y1 y2, LeO (tailraceref01_CheckRow.l0 k y0 y1 y2) (tailraceref01_CheckRow.l0 (k + 1) y0 y1 y2)) ∧ (∀ y0 y1 y2, LeO (tailraceref01_CheckRow.l1 k y0 y1 y2) (tailraceref01_CheckRow.l1 (k + 1) y0 y1 y2))
  | 0 => ⟨fun _ _ _ r h => by simp [tailraceref01_CheckRow.l0] at h, fun _ _ _ r h => by simp [tailraceref01_CheckRow.l1] at h⟩
  | k + 1 => by
    obtain ⟨ih0, ih1⟩ := tailraceref01_CheckRow.mono_l k
    refine ⟨?_, ?_⟩
    · intro y0 y1 y2
      unfold tailraceref01_CheckRow.l0
      repeat' first
      | (with_reducible exact ih0 _ _ _)
      | (with_reducible exact ih1 _ _ _)
      | (with_reducible exact tailraceref01_Check.mono _ _ _ _)
      | (with_reducible exact LeO.refl _)
      | (with_reducible exact LeO.none _)
      | (with_reducible refine LeO.ite ?_ ?_)
      | (with_reducible refine LeO.bind ?_ (fun _ => ?_))
      | exact ih0 _ _ _
      | exact ih1 _ _ _
      | exact tailraceref01_Check.mono _ _ _ _
      | exact LeO.none _
      | refine LeO.ite ?_ ?_
      | refine LeO.bind ?_ (fun _ => ?_)
    · intro y0 y1 y2
      unfold tailraceref01_CheckRow.l1
      repeat' first
      | (with_reducible exact ih0 _ _ _)
      | (with_reducible exact ih1 _ _ _)
      | (with_reducible exact tailraceref01_Check.mono _ _ _ _)
      | (with_reducible exact LeO.refl _)
      | (with_reducible exact LeO.none _)
      | (with_reducible refine LeO.ite ?_ ?_)
      | (with_reducible refine LeO.bind ?_ (fun _ => ?_))
      | exact ih0 _ _ _
      | exact ih1 _ _ _
      | exact tailraceref01_Check.mono _ _ _ _
      | exact LeO.none _
      | refine LeO.ite ?_ ?_
      | refine LeO.bind ?_ (fun _ => ?_)
theorem tailraceref01_CheckRow.mono : ∀ a0 a1 k, LeO (tailraceref01_CheckRow.f k a0 a1) (tailraceref01_CheckRow.f (k + 1) a0 a1) := by
  intro a0 a1 k
  obtain ⟨ih0, ih1⟩ := tailraceref01_CheckRow.mono_l k
  unfold tailraceref01_CheckRow.f
  repeat' first
      | (with_reducible exact ih0 _ _ _)
      | (with_reducible exact ih1 _ _ _)
      | (with_reducible exact tailraceref01_Check.mono _ _ _ _)
      | (with_reducible exact LeO.refl _)
      | (with_reducible exact LeO.none _)
      | (with_reducible refine LeO.ite ?_ ?_)
      | (with_reducible refine LeO.bind ?_ (fun _ => ?_))
      | exact ih0 _ _ _
      | exact ih1 _ _ _
      | exact tailraceref01_Check.mono _ _ _ _
      | exact LeO.none _
      | refine LeO.ite ?_ ?_
      | refine LeO.bind ?_ (fun _ => ?_)
set_option maxHeartbeats 8000000 in
set_option maxRecDepth 100000 in
theorem tailraceref01_CheckRow.calls (k : Nat) (A0 : Option Addr) (c0 : Nat) (l0 : List (S24)) (A1 : Option Addr) (c1 : Nat) (l1 : List Int) (r : Int) (w : World) (hr0 : Kd.C k24 w A0 l0.length l0) (hc0 : l0.length ≤ c0) (hr1 : Kd.C (Kd.int .i64) w A1 l1.length l1) (hc1 : l1.length ≤ c1) (h : tailraceref01_CheckRow.f k l0 l1 = some r) :
    Calls Try.prog 18 #[.slice A0 l0.length c0, .slice A1 l1.length c1] w fun e w' => e = .returned (.int .i64 r) ∧ Below w.heap.size w w' := by
  have hu24 := Try.underlying24
  have HR0 := Aside0.mk hr0
  have HC0 := Aside0.mk hc0
  clear hr0 hc0
  have HR1 := Aside0.mk hr1
  have HC1 := Aside0.mk hc1
  clear hr1 hc1
  have HB := Aside0.mk (Below.refl w.heap.size w)
  have H : (tailraceref01_CheckRow.l0 k l0 l1 0) = some r := h
  clear h
  have H' := Aside0.mk H
  clear H
  go_enter Try.func18, Try.ntmps18
  go_wp2
  repeat (go_quiet (fail); try go_wp2)
  go_loopg [5] k (fun kq v5 w' => ∃ (x5_1 : Int), v5 = .int .i64 x5_1 ∧ Aside0 (tailraceref01_CheckRow.l0 kq l0 l1 x5_1 = some r) ∧ Aside0 (kq ≤ k) ∧ Aside0 (Below w.heap.size w w'))
  case atStart => exact ⟨(0), (by first | rfl | (simp; done) | (simp [*]; done)), H', ⟨Nat.le_refl _⟩, ⟨by repeat (first | (with_reducible first | exact HB.out | apply below_alloc | apply pw_below_drewN | apply below_drew1) | exact HB.out)⟩⟩
  case round =>
    clear H'
    try clear c1
    try clear p2
    obtain ⟨x5_1, rfl, HA, HK1, HB⟩ := hrel
    cases gk with
    | zero => exact absurd HA.out (by simp [tailraceref01_CheckRow.l0])
    | succ k1 =>
      have H := HA.out
      clear HA
      simp only [tailraceref01_CheckRow.l0] at H
      by_cases c3 : x5_1 < (l0.length : Int)
      · rw [if_pos c3] at H
        have c3b0 : decide (x5_1 < (l0.length : Int)) = true := decide_eq_true c3
        clear c3
        by_cases c4 : 0 ≤ x5_1
        · rw [if_pos c4] at H
          have c4b0 : decide (0 ≤ x5_1) = true := decide_eq_true c4
          clear c4
          replace H := Option.bind_eq_some_iff.mp H
          obtain ⟨t172, A50, H⟩ := H
          replace H : (if t172 = 0 then (tailraceref01_CheckRow.l0 k1 l0 l1 (wrap64 (x5_1 + 1))) else (some 10)) = some r := H
          have A5 := Aside0.mk A50
          clear A50
          by_cases c6 : t172 = 0
          · rw [if_pos c6] at H
            have c6b0 : (t172 == 0) = true := beq_iff_eq.mpr c6
            have c6b1 : (t172 != 0) = false := bne_eq_false_iff_eq.mpr c6
            clear c6
            have H' := Aside0.mk H
            clear H
            have p171 : 0 ≤ (x5_1 : Int) := of_decide_eq_true (by first | (with_reducible assumption) | assumption)
            have q171 : x5_1 < (l0.length : Int) := of_decide_eq_true (by first | (with_reducible assumption) | assumption)
            obtain ⟨ad171, e171, hx171_0, hx171_1, hx171_2⟩ := at_T24 HR0.out x5_1 p171 q171
            cases e171
            replace hx171_0 := (HB.out.cell (World.block_lt_of_cell? w _ hx171_0)).trans hx171_0
            replace hx171_1 := (HB.out.cell (World.block_lt_of_cell? w _ hx171_1)).trans hx171_1
            replace hx171_2 := (HB.out.cell (World.block_lt_of_cell? w _ hx171_2)).trans hx171_2
            replace p171 := eq_true p171
            replace q171 := eq_true q171
            go_wp2_with (first | (go_at_call 11; (with_reducible refine (tailraceref01_Check.calls k1 ((rd_T24 l0 x5_1).f0) ((rd_T24 l0 x5_1).f1) ((rd_T24 l0 x5_1).f2) t172 _ A5.out).mono ?_); rintro e w7 ⟨rfl, hb⟩; have n0_ := Aside0.mk (below_step (by repeat (first | (with_reducible first | exact HB.out | apply below_alloc | apply pw_below_drewN | apply below_drew1) | exact HB.out)) hb); clear HB; have HB := n0_; clear n0_; (try clear hb); (try clear hb2); (try clear hk); (try clear hi)))
            repeat (go_quiet (first | (go_at_call 11; (with_reducible refine (tailraceref01_Check.calls k1 ((rd_T24 l0 x5_1).f0) ((rd_T24 l0 x5_1).f1) ((rd_T24 l0 x5_1).f2) t172 _ A5.out).mono ?_); rintro e w7 ⟨rfl, hb⟩; have n0_ := Aside0.mk (below_step (by repeat (first | (with_reducible first | exact HB.out | apply below_alloc | apply pw_below_drewN | apply below_drew1) | exact HB.out)) hb); clear HB; have HB := n0_; clear n0_; (try clear hb); (try clear hb2); (try clear hk); (try clear hi))); try go_wp2_with (first | (go_at_call 11; (with_reducible refine (tailraceref01_Check.calls k1 ((rd_T24 l0 x5_1).f0) ((rd_T24 l0 x5_1).f1) ((rd_T24 l0 x5_1).f2) t172 _ A5.out).mono ?_); rintro e w7 ⟨rfl, hb⟩; have n0_ := Aside0.mk (below_step (by repeat (first | (with_reducible first | exact HB.out | apply below_alloc | apply pw_below_drewN | apply below_drew1) | exact HB.out)) hb); clear HB; have HB := n0_; clear n0_; (try clear hb); (try clear hb2); (try clear hk); (try clear hi))))
            go_roundg k1
            case measure => have := HK1.out; omega
            case rel => exact ⟨(wrap64 (x5_1 + 1)), (by first | rfl | (simp; done) | (simp [*]; done)), H', ⟨by have := HK1.out; omega⟩, ⟨by repeat (first | (with_reducible first | exact HB.out | apply below_alloc | apply pw_below_drewN | apply below_drew1) | exact HB.out)⟩⟩
          · rw [if_neg c6] at H
            have c6b0 : (t172 == 0) = false := beq_eq_false_iff_ne.mpr c6
            have c6b1 : (t172 != 0) = true := bne_iff_ne.mpr c6
            obtain rfl := Option.some.inj H
            have p171 : 0 ≤ (x5_1 : Int) := of_decide_eq_true (by first | (with_reducible assumption) | assumption)
            have q171 : x5_1 < (l0.length : Int) := of_decide_eq_true (by first | (with_reducible assumption) | assumption)
            obtain ⟨ad171, e171, hx171_0, hx171_1, hx171_2⟩ := at_T24 HR0.out x5_1 p171 q171
            cases e171
            replace hx171_0 := (HB.out.cell (World.block_lt_of_cell? w _ hx171_0)).trans hx171_0
            replace hx171_1 := (HB.out.cell (World.block_lt_of_cell? w _ hx171_1)).trans hx171_1
            replace hx171_2 := (HB.out.cell (World.block_lt_of_cell? w _ hx171_2)).trans hx171_2
            replace p171 := eq_true p171
            replace q171 := eq_true q171
            go_wp2_with (first | (go_at_call 11; (with_reducible refine (tailraceref01_Check.calls k1 ((rd_T24 l0 x5_1).f0) ((rd_T24 l0 x5_1).f1) ((rd_T24 l0 x5_1).f2) t172 _ A5.out).mono ?_); rintro e w8 ⟨rfl, hb⟩; have n0_ := Aside0.mk (below_step (by repeat (first | (with_reducible first | exact HB.out | apply below_alloc | apply pw_below_drewN | apply below_drew1) | exact HB.out)) hb); clear HB; have HB := n0_; clear n0_; (try clear hb); (try clear hb2); (try clear hk); (try clear hi)))
            repeat (go_quiet (first | (go_at_call 11; (with_reducible refine (tailraceref01_Check.calls k1 ((rd_T24 l0 x5_1).f0) ((rd_T24 l0 x5_1).f1) ((rd_T24 l0 x5_1).f2) t172 _ A5.out).mono ?_); rintro e w8 ⟨rfl, hb⟩; have n0_ := Aside0.mk (below_step (by repeat (first | (with_reducible first | exact HB.out | apply below_alloc | apply pw_below_drewN | apply below_drew1) | exact HB.out)) hb); clear HB; have HB := n0_; clear n0_; (try clear hb); (try clear hb2); (try clear hk); (try clear hi))); try go_wp2_with (first | (go_at_call 11; (with_reducible refine (tailraceref01_Check.calls k1 ((rd_T24 l0 x5_1).f0) ((rd_T24 l0 x5_1).f1) ((rd_T24 l0 x5_1).f2) t172 _ A5.out).mono ?_); rintro e w8 ⟨rfl, hb⟩; have n0_ := Aside0.mk (below_step (by repeat (first | (with_reducible first | exact HB.out | apply below_alloc | apply pw_below_drewN | apply below_drew1) | exact HB.out)) hb); clear HB; have HB := n0_; clear n0_; (try clear hb); (try clear hb2); (try clear hk); (try clear hi))))
            go_ret
            exact ⟨by first | rfl | (simp [errW_none, errW_some] <;> rfl) | (simp [*, errW_none, errW_some] <;> rfl), by repeat (first | (with_reducible first | exact HB.out | apply below_alloc | apply pw_below_drewN | apply below_drew1) | exact HB.out)⟩
        · rw [if_neg c4] at H
          exact absurd H (by simp)
      · rw [if_neg c3] at H
        have c3b0 : decide (x5_1 < (l0.length : Int)) = false := decide_eq_false c3
        clear c3
        by_cases c9 : (l0.length : Int) = (l1.length : Int)
        · rw [if_pos c9] at H
          have c9b0 : ((l0.length : Int) == (l1.length : Int)) = true := beq_iff_eq.mpr c9
          have c9b1 : ((l0.length : Int) != (l1.length : Int)) = false := bne_eq_false_iff_eq.mpr c9
          have c9b2 : (l0.length == l1.length) = true := by first | simpa using c9 | (simp at c9 ⊢; omega)
          clear c9
          have H' := Aside0.mk H
          clear H
          go_wp2
          repeat (go_quiet (fail); try go_wp2)
          go_loopg [6] k1 (fun kq v6 w' => ∃ (x6_2 : Int), v6 = .int .i64 x6_2 ∧ Aside0 (tailraceref01_CheckRow.l1 kq l0 l1 x6_2 = some r) ∧ Aside0 (kq ≤ k1) ∧ Aside0 (Below w.heap.size w w'))
          case atStart => exact ⟨(0), (by first | rfl | (simp; done) | (simp [*]; done)), H', ⟨Nat.le_refl _⟩, ⟨by repeat (first | (with_reducible first | exact HB.out | apply below_alloc | apply pw_below_drewN | apply below_drew1) | exact HB.out)⟩⟩
          case round =>
            clear H'
            try clear c1
            try clear p1
            try clear q1
            try clear hx1
            try clear p2
            try clear c3
            try clear c3b0
            try clear c4
            try clear c4b0
            try clear c6
            try clear c6b0
            try clear c6b1
            try clear p6
            try clear c9
            try clear c9b0
            try clear c9b1
            try clear c9b2
            try clear hx171_0
            try clear hx171_1
            try clear hx171_2
            try clear p171
            try clear p2
            try clear q171
            obtain ⟨x6_2, rfl, HA, HK2, HB⟩ := hrel
            cases gk with
            | zero => exact absurd HA.out (by simp [tailraceref01_CheckRow.l1])
            | succ k2 =>
              have H := HA.out
              clear HA
              simp only [tailraceref01_CheckRow.l1] at H
              by_cases c10 : x6_2 < (l0.length : Int)
              · rw [if_pos c10] at H
                have c10b0 : decide (x6_2 < (l0.length : Int)) = true := decide_eq_true c10
                clear c10
                by_cases c11 : 0 ≤ x6_2
                · rw [if_pos c11] at H
                  have c11b0 : decide (0 ≤ x6_2) = true := decide_eq_true c11
                  clear c11
                  by_cases c12 : x6_2 < (l1.length : Int)
                  · rw [if_pos c12] at H
                    have c12b0 : decide (x6_2 < (l1.length : Int)) = true := decide_eq_true c12
                    clear c12
                    by_cases c13 : ((rd_T24 l0 x6_2).f0) = (rd l1 x6_2)
                    · rw [if_pos c13] at H
                      have c13b0 : (((rd_T24 l0 x6_2).f0) == (rd l1 x6_2)) = true := beq_iff_eq.mpr c13
                      have c13b1 : (((rd_T24 l0 x6_2).f0) != (rd l1 x6_2)) = false := bne_eq_false_iff_eq.mpr c13
                      clear c13
                      have H' := Aside0.mk H
                      clear H
                      have p173 : 0 ≤ (x6_2 : Int) := of_decide_eq_true (by first | (with_reducible assumption) | assumption)
                      have q173 : x6_2 < (l0.length : Int) := of_decide_eq_true (by first | (with_reducible assumption) | assumption)
                      obtain ⟨ad173, e173, hx173_0, hx173_1, hx173_2⟩ := at_T24 HR0.out x6_2 p173 q173
                      cases e173
                      replace hx173_0 := (HB.out.cell (World.block_lt_of_cell? w _ hx173_0)).trans hx173_0
                      replace hx173_1 := (HB.out.cell (World.block_lt_of_cell? w _ hx173_1)).trans hx173_1
                      replace hx173_2 := (HB.out.cell (World.block_lt_of_cell? w _ hx173_2)).trans hx173_2
                      replace p173 := eq_true p173
                      replace q173 := eq_true q173
                      have p174 : 0 ≤ (x6_2 : Int) := of_decide_eq_true (by first | (with_reducible assumption) | assumption)
                      have q174 : x6_2 < (l1.length : Int) := of_decide_eq_true (by first | (with_reducible assumption) | assumption)
                      obtain ⟨ad174, e174, hx174_0⟩ := Kd.at_int HR1.out x6_2 p174 q174
                      cases e174
                      replace hx174_0 := (HB.out.cell (World.block_lt_of_cell? w _ hx174_0)).trans hx174_0
                      replace p174 := eq_true p174
                      replace q174 := eq_true q174
                      go_wp2
                      repeat (go_quiet (fail); try go_wp2)
                      go_roundg k2
                      case measure => have := HK1.out; have := HK2.out; omega
                      case rel => exact ⟨(wrap64 (x6_2 + 1)), (by first | rfl | (simp; done) | (simp [*]; done)), H', ⟨by have := HK1.out; have := HK2.out; omega⟩, ⟨by repeat (first | (with_reducible first | exact HB.out | apply below_alloc | apply pw_below_drewN | apply below_drew1) | exact HB.out)⟩⟩
                    · rw [if_neg c13] at H
                      have c13b0 : (((rd_T24 l0 x6_2).f0) == (rd l1 x6_2)) = false := beq_eq_false_iff_ne.mpr c13
                      have c13b1 : (((rd_T24 l0 x6_2).f0) != (rd l1 x6_2)) = true := bne_iff_ne.mpr c13
                      obtain rfl := Option.some.inj H
                      have p173 : 0 ≤ (x6_2 : Int) := of_decide_eq_true (by first | (with_reducible assumption) | assumption)
                      have q173 : x6_2 < (l0.length : Int) := of_decide_eq_true (by first | (with_reducible assumption) | assumption)
                      obtain ⟨ad173, e173, hx173_0, hx173_1, hx173_2⟩ := at_T24 HR0.out x6_2 p173 q173
                      cases e173
                      replace hx173_0 := (HB.out.cell (World.block_lt_of_cell? w _ hx173_0)).trans hx173_0
                      replace hx173_1 := (HB.out.cell (World.block_lt_of_cell? w _ hx173_1)).trans hx173_1
                      replace hx173_2 := (HB.out.cell (World.block_lt_of_cell? w _ hx173_2)).trans hx173_2
                      replace p173 := eq_true p173
                      replace q173 := eq_true q173
                      have p174 : 0 ≤ (x6_2 : Int) := of_decide_eq_true (by first | (with_reducible assumption) | assumption)
                      have q174 : x6_2 < (l1.length : Int) := of_decide_eq_true (by first | (with_reducible assumption) | assumption)
                      obtain ⟨ad174, e174, hx174_0⟩ := Kd.at_int HR1.out x6_2 p174 q174
                      cases e174
                      replace hx174_0 := (HB.out.cell (World.block_lt_of_cell? w _ hx174_0)).trans hx174_0
                      replace p174 := eq_true p174
                      replace q174 := eq_true q174
                      go_wp2
                      repeat (go_quiet (fail); try go_wp2)
                      go_ret
                      exact ⟨by first | rfl | (simp [errW_none, errW_some] <;> rfl) | (simp [*, errW_none, errW_some] <;> rfl), by repeat (first | (with_reducible first | exact HB.out | apply below_alloc | apply pw_below_drewN | apply below_drew1) | exact HB.out)⟩
                  · rw [if_neg c12] at H
                    exact absurd H (by simp)
                · rw [if_neg c11] at H
                  exact absurd H (by simp)
              · rw [if_neg c10] at H
                have c10b0 : decide (x6_2 < (l0.length : Int)) = false := decide_eq_false c10
                clear c10
                obtain rfl := Option.some.inj H
                go_wp2
                repeat (go_quiet (fail); try go_wp2)
                go_ret
                exact ⟨by first | rfl | (simp [errW_none, errW_some] <;> rfl) | (simp [*, errW_none, errW_some] <;> rfl), by repeat (first | (with_reducible first | exact HB.out | apply below_alloc | apply pw_below_drewN | apply below_drew1) | exact HB.out)⟩
        · rw [if_neg c9] at H
          have c9b0 : ((l0.length : Int) == (l1.length : Int)) = false := beq_eq_false_iff_ne.mpr c9
          have c9b1 : ((l0.length : Int) != (l1.length : Int)) = true := bne_iff_ne.mpr c9
          have c9b2 : (l0.length == l1.length) = false := by first | simpa using c9 | (simp at c9 ⊢; omega)
          obtain rfl := Option.some.inj H
          go_wp2
          repeat (go_quiet (fail); try go_wp2)
          go_ret
          exact ⟨by first | rfl | (simp [errW_none, errW_some] <;> rfl) | (simp [*, errW_none, errW_some] <;> rfl), by repeat (first | (with_reducible first | exact HB.out | apply below_alloc | apply pw_below_drewN | apply below_drew1) | exact HB.out)⟩

/-! ### tailraceref01_CmpRow: function 20 -/
mutual
def tailraceref01_CmpRow.l0 : Nat → List (S24) → List (S24) → Int → Option (Int)
  | 0, _, _, _ => none
  | k + 1, x0, x1, x5 => if x5 < (x0.length : Int) then (tailraceref01_CmpRow.j1 k x0 x1 x5 (decide (x5 < (x1.length : Int)))) else (tailraceref01_CmpRow.j1 k x0 x1 x5 false)
def tailraceref01_CmpRow.j1 : Nat → List (S24) → List (S24) → Int → Bool → Option (Int)
  | 0, _, _, _, _ => none
  | k + 1, x0, x1, x5, x16 => if x16 = true then (if 0 ≤ x5 then (if x5 < (x0.length : Int) then (if x5 < (x1.length : Int) then ((tailraceref01_Cmp.f k ((rd_T24 x0 x5).f0) ((rd_T24 x0 x5).f1) ((rd_T24 x0 x5).f2) ((rd_T24 x1 x5).f0) ((rd_T24 x1 x5).f1) ((rd_T24 x1 x5).f2)).bind fun t177 => (if t177 = 0 then (tailraceref01_CmpRow.l0 k x0 x1 (wrap64 (x5 + 1))) else (some t177))) else (none)) else (none)) else (none)) else (if (x0.length : Int) < (x1.length : Int) then (some (-1)) else (if (x0.length : Int) > (x1.length : Int) then (some 1) else (some 0)))
end
def tailraceref01_CmpRow.f (k : Nat) (l0 : List (S24)) (l1 : List (S24)) : Option (Int) := tailraceref01_CmpRow.l0 k l0 l1 0
theorem tailraceref01_CmpRow.mono_l : ∀ k, (∀ y0 y1 y2, LeO (tailraceref01_CmpRow.l0 k y0 y1 y2) (tailraceref01_CmpRow.l0 (k + 1) y0 y1 y2)) ∧ (∀ y0 y1 y2 y3, LeO (tailraceref01_CmpRow.j1 k y0 y1 y2 y3) (tailraceref01_CmpRow.j1 (k + 1) y0 y1 y2 y3))
  | 0 => ⟨fun _ _ _ r h => by simp [tailraceref01_CmpRow.l0] at h, fun _ _ _ _ r h => by simp [tailraceref01_CmpRow.j1] at h⟩
  | k + 1 => by
    obtain ⟨ih0, ih1⟩ := tailraceref01_CmpRow.mono_l k
    refine ⟨?_, ?_⟩
    · intro y0 y1 y2
      unfold tailraceref01_CmpRow.l0
      repeat' first
      | (with_reducible exact ih0 _ _ _)
      | (with_reducible exact ih1 _ _ _ _)
      | (with_reducible exact tailraceref01_Cmp.mono _ _ _ _ _ _ _)
      | (with_reducible exact LeO.refl _)
      | (with_reducible exact LeO.none _)
      | (with_reducible refine LeO.ite ?_ ?_)
      | (with_reducible refine LeO.bind ?_ (fun _ => ?_))
      | exact ih0 _ _ _
      | exact ih1 _ _ _ _
      | exact tailraceref01_Cmp.mono _ _ _ _ _ _ _
      | exact LeO.none _
      | refine LeO.ite ?_ ?_
      | refine LeO.bind ?_ (fun _ => ?_)
    · intro y0 y1 y2 y3
      unfold tailraceref01_CmpRow.j1
      repeat' first
      | (with_reducible exact ih0 _ _ _)
      | (with_reducible exact ih1 _ _ _ _)
      | (with_reducible exact tailraceref01_Cmp.mono _ _ _ _ _ _ _)
      | (with_reducible exact LeO.refl _)
      | (with_reducible exact LeO.none _)
      | (with_reducible refine LeO.ite ?_ ?_)
      | (with_reducible refine LeO.bind ?_ (fun _ => ?_))
      | exact ih0 _ _ _
      | exact ih1 _ _ _ _
      | exact tailraceref01_Cmp.mono _ _ _ _ _ _ _
      | exact LeO.none _
      | refine LeO.ite ?_ ?_
      | refine LeO.bind ?_ (fun _ => ?_)
theorem tailraceref01_CmpRow.mono : ∀ a0 a1 k, LeO (tailraceref01_CmpRow.f k a0 a1) (tailraceref01_CmpRow.f (k + 1) a0 a1) := by
  intro a0 a1 k
  obtain ⟨ih0, ih1⟩ := tailraceref01_CmpRow.mono_l k
  unfold tailraceref01_CmpRow.f
  repeat' first
      | (with_reducible exact ih0 _ _ _)
      | (with_reducible exact ih1 _ _ _ _)
      | (with_reducible exact tailraceref01_Cmp.mono _ _ _ _ _ _ _)
      | (with_reducible exact LeO.refl _)
      | (with_reducible exact LeO.none _)
      | (with_reducible refine LeO.ite ?_ ?_)
      | (with_reducible refine LeO.bind ?_ (fun _ => ?_))
      | exact ih0 _ _ _
      | exact ih1 _ _ _ _
      | exact tailraceref01_Cmp.mono _ _ _ _ _ _ _
      | exact LeO.none _
      | refine LeO.ite ?_ ?_
      | refine LeO.bind ?_ (fun _ => ?_)
def tailraceref01_CmpRow.T4 : Bool × List (List Nat × List Nat) := (true, [([], []), ([], []), ([0, 1], [0, 1]), ([2], [2]), ([], []), ([], []), ([4, 5], [4, 5]), ([6], [6]), ([3, 7], [3, 7]), ([8, 8, 0, 1, 2, 3, 4, 5, 6, 7, 8], [8])])
def tailraceref01_CmpRow.B4 : List Nat := [0, 0, 3, 7, 0, 0, 48, 112, 255, 511]
theorem tailraceref01_CmpRow.tab4 : rtab .any (opsOf Try.f20 4) = tailraceref01_CmpRow.T4 := by kernel_rfl
theorem tailraceref01_CmpRow.bits4 : waitsOk tailraceref01_CmpRow.T4.2 tailraceref01_CmpRow.B4 = true := by kernel_rfl
set_option maxHeartbeats 8000000 in
set_option maxRecDepth 100000 in
theorem tailraceref01_CmpRow.calls (k : Nat) (A0 : Option Addr) (c0 : Nat) (l0 : List (S24)) (A1 : Option Addr) (c1 : Nat) (l1 : List (S24)) (r : Int) (w : World) (hr0 : Kd.C k24 w A0 l0.length l0) (hc0 : l0.length ≤ c0) (hr1 : Kd.C k24 w A1 l1.length l1) (hc1 : l1.length ≤ c1) (h : tailraceref01_CmpRow.f k l0 l1 = some r) :
    Calls Try.prog 20 #[.slice A0 l0.length c0, .slice A1 l1.length c1] w fun e w' => e = .returned (.int .i64 r) ∧ Below w.heap.size w w' := by
  have hu24 := Try.underlying24
  have HR0 := Aside0.mk hr0
  have HC0 := Aside0.mk hc0
  clear hr0 hc0
  have HR1 := Aside0.mk hr1
  have HC1 := Aside0.mk hc1
  clear hr1 hc1
  have HB := Aside0.mk (Below.refl w.heap.size w)
  have H : (tailraceref01_CmpRow.l0 k l0 l1 0) = some r := h
  clear h
  have H' := Aside0.mk H
  clear H
  go_enter Try.func20, Try.ntmps20
  go_wp2
  go_loopg [5] k (fun kq v5 w' => ∃ (x5_1 : Int), v5 = .int .i64 x5_1 ∧ Aside0 (tailraceref01_CmpRow.l0 kq l0 l1 x5_1 = some r) ∧ Aside0 (kq ≤ k) ∧ Aside0 (Below w.heap.size w w'))
  case atStart => exact ⟨(0), (by first | rfl | (simp; done) | (simp [*]; done)), H', ⟨Nat.le_refl _⟩, ⟨by repeat (first | (with_reducible first | exact HB.out | apply below_alloc | apply pw_below_drewN | apply below_drew1) | exact HB.out)⟩⟩
  case round =>
    clear H'
    try clear c1
    try clear c2
    try clear p2
    obtain ⟨x5_1, rfl, HA, HK1, HB⟩ := hrel
    cases gk with
    | zero => exact absurd HA.out (by simp [tailraceref01_CmpRow.l0])
    | succ k1 =>
      have H := HA.out
      clear HA
      simp only [tailraceref01_CmpRow.l0] at H
      have HC3 := Aside0.mk H
      clear H
      go_upto_region 2 with (fail)
      go_cut [16] (fun v16 wc => ∃ (kq : Nat) (x16_2 : Bool), v16 = .bool x16_2 ∧ Aside0 (tailraceref01_CmpRow.j1 kq l0 l1 x5_1 x16_2 = some r) ∧ Aside0 (kq ≤ k1) ∧ Aside0 (Below w.heap.size w wc))
      case first =>
        have H := HC3.out
        clear HC3
        by_cases c4 : x5_1 < (l0.length : Int)
        · rw [if_pos c4] at H
          have c4b0 : decide (x5_1 < (l0.length : Int)) = true := decide_eq_true c4
          clear c4
          (first | rw [c4b0] | (simp only [i64_w, i32_w]; rw [c4b0]) | skip)
          have H' := Aside0.mk H
          clear H
          go_wp2
          go_meet
          case rel => exact ⟨_, (decide (x5_1 < (l1.length : Int))), (by first | rfl | (simp; done) | (simp [*]; done)), H', ⟨by have := HK1.out; first | omega | exact Nat.le_refl _⟩, ⟨by repeat (first | (with_reducible first | exact HB.out | apply below_alloc | apply pw_below_drewN | apply below_drew1) | exact HB.out)⟩⟩
        · rw [if_neg c4] at H
          have c4b0 : decide (x5_1 < (l0.length : Int)) = false := decide_eq_false c4
          clear c4
          (first | rw [c4b0] | (simp only [i64_w, i32_w]; rw [c4b0]) | skip)
          have H' := Aside0.mk H
          clear H
          go_wp2
          go_meet
          case rel => exact ⟨_, (false), (by first | rfl | (simp; done) | (simp [*]; done)), H', ⟨by have := HK1.out; first | omega | exact Nat.le_refl _⟩, ⟨by repeat (first | (with_reducible first | exact HB.out | apply below_alloc | apply pw_below_drewN | apply below_drew1) | exact HB.out)⟩⟩
      case rest =>
        clear HC3
        try clear c1
        try clear c2
        try clear p2
        try clear c4
        try clear c4b0
        try clear p2
        obtain ⟨kq, x16_2, rfl, HA, HJ2, HB⟩ := hcut
        cases kq with
        | zero => exact absurd HA.out (by simp [tailraceref01_CmpRow.j1])
        | succ kj2 =>
          have H := HA.out
          clear HA
          simp only [tailraceref01_CmpRow.j1] at H
          by_cases c5 : x16_2 = true
          · subst c5
            have H1 : (if 0 ≤ x5_1 then (if x5_1 < (l0.length : Int) then (if x5_1 < (l1.length : Int) then ((tailraceref01_Cmp.f kj2 ((rd_T24 l0 x5_1).f0) ((rd_T24 l0 x5_1).f1) ((rd_T24 l0 x5_1).f2) ((rd_T24 l1 x5_1).f0) ((rd_T24 l1 x5_1).f1) ((rd_T24 l1 x5_1).f2)).bind fun t177 => (if t177 = 0 then (tailraceref01_CmpRow.l0 kj2 l0 l1 (wrap64 (x5_1 + 1))) else (some t177))) else (none)) else (none)) else (none)) = some r := by rw [if_pos rfl] at H; exact H
            clear H
            have H := H1
            clear H1
            by_cases c6 : 0 ≤ x5_1
            · rw [if_pos c6] at H
              have c6b0 : decide (0 ≤ x5_1) = true := decide_eq_true c6
              clear c6
              by_cases c7 : x5_1 < (l0.length : Int)
              · rw [if_pos c7] at H
                have c7b0 : decide (x5_1 < (l0.length : Int)) = true := decide_eq_true c7
                clear c7
                by_cases c8 : x5_1 < (l1.length : Int)
                · rw [if_pos c8] at H
                  have c8b0 : decide (x5_1 < (l1.length : Int)) = true := decide_eq_true c8
                  clear c8
                  replace H := Option.bind_eq_some_iff.mp H
                  obtain ⟨t177, A90, H⟩ := H
                  replace H : (if t177 = 0 then (tailraceref01_CmpRow.l0 kj2 l0 l1 (wrap64 (x5_1 + 1))) else (some t177)) = some r := H
                  have A9 := Aside0.mk A90
                  clear A90
                  by_cases c10 : t177 = 0
                  · rw [if_pos c10] at H
                    have c10b0 : (t177 == 0) = true := beq_iff_eq.mpr c10
                    have c10b1 : (t177 != 0) = false := bne_eq_false_iff_eq.mpr c10
                    clear c10
                    have H' := Aside0.mk H
                    clear H
                    try go_wp2
                    have n0_ := Aside0.mk (below_drew1 HB.out)
                    clear HB
                    have HB := n0_
                    clear n0_
                    have p175 : 0 ≤ (x5_1 : Int) := of_decide_eq_true (by first | (with_reducible assumption) | assumption)
                    have q175 : x5_1 < (l0.length : Int) := of_decide_eq_true (by first | (with_reducible assumption) | assumption)
                    obtain ⟨ad175, e175, hx175_0, hx175_1, hx175_2⟩ := at_T24 HR0.out x5_1 p175 q175
                    have hw175_2 := hx175_2
                    have hw175_1 := hx175_1
                    have hw175_0 := hx175_0
                    cases e175
                    replace hx175_0 := (HB.out.cell (World.block_lt_of_cell? w _ hx175_0)).trans hx175_0
                    replace hx175_1 := (HB.out.cell (World.block_lt_of_cell? w _ hx175_1)).trans hx175_1
                    replace hx175_2 := (HB.out.cell (World.block_lt_of_cell? w _ hx175_2)).trans hx175_2
                    replace p175 := eq_true p175
                    replace q175 := eq_true q175
                    have p176 : 0 ≤ (x5_1 : Int) := of_decide_eq_true (by first | (with_reducible assumption) | assumption)
                    have q176 : x5_1 < (l1.length : Int) := of_decide_eq_true (by first | (with_reducible assumption) | assumption)
                    obtain ⟨ad176, e176, hx176_0, hx176_1, hx176_2⟩ := at_T24 HR1.out x5_1 p176 q176
                    have hw176_2 := hx176_2
                    have hw176_1 := hx176_1
                    have hw176_0 := hx176_0
                    cases e176
                    replace hx176_0 := (HB.out.cell (World.block_lt_of_cell? w _ hx176_0)).trans hx176_0
                    replace hx176_1 := (HB.out.cell (World.block_lt_of_cell? w _ hx176_1)).trans hx176_1
                    replace hx176_2 := (HB.out.cell (World.block_lt_of_cell? w _ hx176_2)).trans hx176_2
                    replace p176 := eq_true p176
                    replace q176 := eq_true q176
                    refine start_ (n := 10) (S := fun w' => w'.cell? (ad175.add ((x5_1).toNat * 3)) = some (.int .i64 ((rd_T24 l0 x5_1).f0)) ∧ w'.cell? ⟨(ad175.add ((x5_1).toNat * 3)).block, (ad175.add ((x5_1).toNat * 3)).off + 1, none⟩ = some (.int .i64 ((rd_T24 l0 x5_1).f1)) ∧ w'.cell? ⟨(ad175.add ((x5_1).toNat * 3)).block, (ad175.add ((x5_1).toNat * 3)).off + 2, none⟩ = some (.string ((rd_T24 l0 x5_1).f2)) ∧ w'.cell? (ad176.add ((x5_1).toNat * 3)) = some (.int .i64 ((rd_T24 l1 x5_1).f0)) ∧ w'.cell? ⟨(ad176.add ((x5_1).toNat * 3)).block, (ad176.add ((x5_1).toNat * 3)).off + 1, none⟩ = some (.int .i64 ((rd_T24 l1 x5_1).f1)) ∧ w'.cell? ⟨(ad176.add ((x5_1).toNat * 3)).block, (ad176.add ((x5_1).toNat * 3)).off + 2, none⟩ = some (.string ((rd_T24 l1 x5_1).f2))) (ds := []) #[false, false, false, false, false, false, false, false, false, false] (by kernel_rfl) rfl rfl ⟨((HB.out.cell (World.block_lt_of_cell? w _ hw175_0)).trans hw175_0), ((HB.out.cell (World.block_lt_of_cell? w _ hw175_1)).trans hw175_1), ((HB.out.cell (World.block_lt_of_cell? w _ hw175_2)).trans hw175_2), ((HB.out.cell (World.block_lt_of_cell? w _ hw176_0)).trans hw176_0), ((HB.out.cell (World.block_lt_of_cell? w _ hw176_1)).trans hw176_1), ((HB.out.cell (World.block_lt_of_cell? w _ hw176_2)).trans hw176_2)⟩ (fun hHeld => ?_); refine with_tabW tailraceref01_CmpRow.tab4 tailraceref01_CmpRow.bits4 (fun HT_ HW_ => ?_)
                    generalize wc.drew = w11 at HB hx175_0 hx175_1 hx175_2 hx176_0 hx176_1 hx176_2 hHeld ⊢
                    refine pure_ (i := 0) (N := some 19) (v := ?_) (a' := ?_) #[true, false, false, false, false, false, false, false, false, false] rfl rfl (any_of HT_.out (by kernel_rfl)) (fun _ _ _ h => h) (Or.inl ⟨by rfl, ?_⟩) ?_ ?_
                    rotate_left
                    · intro w'
                      go_simp
                      with_reducible rfl
                    rotate_left
                    · simp only [Act.put, List.setIfInBounds_toArray, List.set_cons_zero, List.set_cons_succ, i64_w, i32_w]
                      rfl
                    refine pure_ (i := 1) (N := some 20) (v := ?_) (a' := ?_) #[true, true, false, false, false, false, false, false, false, false] rfl rfl (any_of HT_.out (by kernel_rfl)) (fun _ _ _ h => h) (Or.inl ⟨by rfl, ?_⟩) ?_ ?_
                    rotate_left
                    · intro w'
                      go_simp
                      with_reducible rfl
                    rotate_left
                    · simp only [Act.put, List.setIfInBounds_toArray, List.set_cons_zero, List.set_cons_succ, i64_w, i32_w]
                      rfl
                    refine pure_ (i := 2) (N := some 21) (v := ?_) (a' := ?_) #[true, true, true, false, false, false, false, false, false, false] rfl rfl (any_of HT_.out (by kernel_rfl)) (fun _ _ _ h => h) (Or.inl ⟨by rfl, ?_⟩) ?_ ?_
                    rotate_left
                    · intro w'
                      go_simp
                      with_reducible rfl
                    rotate_left
                    · simp only [Act.put, List.setIfInBounds_toArray, List.set_cons_zero, List.set_cons_succ, i64_w, i32_w]
                      rfl
                    refine pure_ (i := 4) (N := some 23) (v := ?_) (a' := ?_) #[true, true, true, false, true, false, false, false, false, false] rfl rfl (any_of HT_.out (by kernel_rfl)) (fun _ _ _ h => h) (Or.inl ⟨by rfl, ?_⟩) ?_ ?_
                    rotate_left
                    · intro w'
                      go_simp
                      with_reducible rfl
                    rotate_left
                    · simp only [Act.put, List.setIfInBounds_toArray, List.set_cons_zero, List.set_cons_succ, i64_w, i32_w]
                      rfl
                    refine pure_ (i := 5) (N := some 24) (v := ?_) (a' := ?_) #[true, true, true, false, true, true, false, false, false, false] rfl rfl (any_of HT_.out (by kernel_rfl)) (fun _ _ _ h => h) (Or.inl ⟨by rfl, ?_⟩) ?_ ?_
                    rotate_left
                    · intro w'
                      go_simp
                      with_reducible rfl
                    rotate_left
                    · simp only [Act.put, List.setIfInBounds_toArray, List.set_cons_zero, List.set_cons_succ, i64_w, i32_w]
                      rfl
                    refine pure_ (i := 6) (N := some 25) (v := ?_) (a' := ?_) #[true, true, true, false, true, true, true, false, false, false] rfl rfl (any_of HT_.out (by kernel_rfl)) (fun _ _ _ h => h) (Or.inl ⟨by rfl, ?_⟩) ?_ ?_
                    rotate_left
                    · intro w'
                      go_simp
                      with_reducible rfl
                    rotate_left
                    · simp only [Act.put, List.setIfInBounds_toArray, List.set_cons_zero, List.set_cons_succ, i64_w, i32_w]
                      rfl
                    refine take_ (i := 3) (N := some 22) (v := ?_) (a' := ?_) #[true, true, true, true, true, true, true, false, false, false] rfl rfl (take_ofW HT_.out HW_.out (by kernel_rfl)) (fun _ _ _ h => h) (Or.inl ⟨by rfl, ?_⟩) hHeld ?_ ?_
                    rotate_left
                    · rintro w' ⟨s0, s1, s2, s3, s4, s5⟩
                      go_simp
                      with_reducible rfl
                    rotate_left
                    · simp only [Act.put, List.setIfInBounds_toArray, List.set_cons_zero, List.set_cons_succ, i64_w, i32_w]
                      rfl
                    refine take_ (i := 7) (N := some 26) (v := ?_) (a' := ?_) #[true, true, true, true, true, true, true, true, false, false] rfl rfl (take_ofW HT_.out HW_.out (by kernel_rfl)) (fun _ _ _ h => h) (Or.inl ⟨by rfl, ?_⟩) hHeld ?_ ?_
                    rotate_left
                    · rintro w' ⟨s0, s1, s2, s3, s4, s5⟩
                      go_simp
                      with_reducible rfl
                    rotate_left
                    · simp only [Act.put, List.setIfInBounds_toArray, List.set_cons_zero, List.set_cons_succ, i64_w, i32_w]
                      rfl
                    refine one_ (i := 8) (N := some 27) #[true, true, true, true, true, true, true, true, true, false] rfl rfl (one_of HT_.out (by kernel_rfl)) (by decide) (fun K hK => ?_)
                    refine goes_ Try.func13 (by kernel_rfl) rfl #[.agg #[.int .i64 ((rd_T24 l0 x5_1).f0), .int .i64 ((rd_T24 l0 x5_1).f1), .string ((rd_T24 l0 x5_1).f2)], .agg #[.int .i64 ((rd_T24 l1 x5_1).f0), .int .i64 ((rd_T24 l1 x5_1).f1), .string ((rd_T24 l1 x5_1).f2)]] (by rfl) rfl rfl (by (try simp only [List.map_toArray, List.map_cons, List.map_nil]); first | done | rfl | (simp only [List.length_drop, List.length_take]; rfl)) ?_
                    with_reducible refine (tailraceref01_Cmp.calls kj2 ((rd_T24 l0 x5_1).f0) ((rd_T24 l0 x5_1).f1) ((rd_T24 l0 x5_1).f2) ((rd_T24 l1 x5_1).f0) ((rd_T24 l1 x5_1).f1) ((rd_T24 l1 x5_1).f2) t177 _ A9.out).mono ?_
                    rintro e w12 ⟨rfl, hb⟩
                    refine ⟨_, rfl, ?_⟩
                    have n0_ := Aside0.mk (below_step (by repeat (first | (with_reducible first | exact HB.out | apply below_alloc | apply pw_below_drewN | apply below_drew1) | exact HB.out)) hb)
                    clear HB
                    have HB := n0_
                    clear n0_
                    (try clear hb)
                    (try clear hb2)
                    (try clear hk)
                    (try clear hi)
                    refine hK.out _ _ ⟨((HB.out.cell (World.block_lt_of_cell? w _ hw175_0)).trans hw175_0), ((HB.out.cell (World.block_lt_of_cell? w _ hw175_1)).trans hw175_1), ((HB.out.cell (World.block_lt_of_cell? w _ hw175_2)).trans hw175_2), ((HB.out.cell (World.block_lt_of_cell? w _ hw176_0)).trans hw176_0), ((HB.out.cell (World.block_lt_of_cell? w _ hw176_1)).trans hw176_1), ((HB.out.cell (World.block_lt_of_cell? w _ hw176_2)).trans hw176_2)⟩ (fun hHeld => ?_)
                    clear hK K
                    refine norm_ (a' := ?_) ?_ ?_
                    rotate_left
                    · show Act.put _ (some 27) _ = _
                      simp only [Act.put, List.setIfInBounds_toArray, List.set_cons_zero, List.set_cons_succ, i64_w, i32_w]
                      rfl
                    refine pure_ (i := 9) (N := some 6) (v := ?_) (a' := ?_) #[true, true, true, true, true, true, true, true, true, true] rfl rfl (any_of HT_.out (by kernel_rfl)) (fun _ _ _ h => h) (Or.inl ⟨by rfl, ?_⟩) ?_ ?_
                    rotate_left
                    · intro w'
                      go_simp
                      with_reducible rfl
                    rotate_left
                    · simp only [Act.put, List.setIfInBounds_toArray, List.set_cons_zero, List.set_cons_succ, i64_w, i32_w]
                      rfl
                    refine done_ (done_of HT_.out (by kernel_rfl)) ?_
                    try go_wp2
                    go_roundg kj2
                    case measure => have := HK1.out; have := HJ2.out; omega
                    case rel => exact ⟨(wrap64 (x5_1 + 1)), (by first | rfl | (simp; done) | (simp [*]; done)), H', ⟨by have := HK1.out; have := HJ2.out; omega⟩, ⟨by repeat (first | (with_reducible first | exact HB.out | apply below_alloc | apply pw_below_drewN | apply below_drew1) | exact HB.out)⟩⟩
                  · rw [if_neg c10] at H
                    have c10b0 : (t177 == 0) = false := beq_eq_false_iff_ne.mpr c10
                    have c10b1 : (t177 != 0) = true := bne_iff_ne.mpr c10
                    obtain rfl := Option.some.inj H
                    try go_wp2
                    have n0_ := Aside0.mk (below_drew1 HB.out)
                    clear HB
                    have HB := n0_
                    clear n0_
                    have p175 : 0 ≤ (x5_1 : Int) := of_decide_eq_true (by first | (with_reducible assumption) | assumption)
                    have q175 : x5_1 < (l0.length : Int) := of_decide_eq_true (by first | (with_reducible assumption) | assumption)
                    obtain ⟨ad175, e175, hx175_0, hx175_1, hx175_2⟩ := at_T24 HR0.out x5_1 p175 q175
                    have hw175_2 := hx175_2
                    have hw175_1 := hx175_1
                    have hw175_0 := hx175_0
                    cases e175
                    replace hx175_0 := (HB.out.cell (World.block_lt_of_cell? w _ hx175_0)).trans hx175_0
                    replace hx175_1 := (HB.out.cell (World.block_lt_of_cell? w _ hx175_1)).trans hx175_1
                    replace hx175_2 := (HB.out.cell (World.block_lt_of_cell? w _ hx175_2)).trans hx175_2
                    replace p175 := eq_true p175
                    replace q175 := eq_true q175
                    have p176 : 0 ≤ (x5_1 : Int) := of_decide_eq_true (by first | (with_reducible assumption) | assumption)
                    have q176 : x5_1 < (l1.length : Int) := of_decide_eq_true (by first | (with_reducible assumption) | assumption)
                    obtain ⟨ad176, e176, hx176_0, hx176_1, hx176_2⟩ := at_T24 HR1.out x5_1 p176 q176
                    have hw176_2 := hx176_2
                    have hw176_1 := hx176_1
                    have hw176_0 := hx176_0
                    cases e176
                    replace hx176_0 := (HB.out.cell (World.block_lt_of_cell? w _ hx176_0)).trans hx176_0
                    replace hx176_1 := (HB.out.cell (World.block_lt_of_cell? w _ hx176_1)).trans hx176_1
                    replace hx176_2 := (HB.out.cell (World.block_lt_of_cell? w _ hx176_2)).trans hx176_2
                    replace p176 := eq_true p176
                    replace q176 := eq_true q176
                    refine start_ (n := 10) (S := fun w' => w'.cell? (ad175.add ((x5_1).toNat * 3)) = some (.int .i64 ((rd_T24 l0 x5_1).f0)) ∧ w'.cell? ⟨(ad175.add ((x5_1).toNat * 3)).block, (ad175.add ((x5_1).toNat * 3)).off + 1, none⟩ = some (.int .i64 ((rd_T24 l0 x5_1).f1)) ∧ w'.cell? ⟨(ad175.add ((x5_1).toNat * 3)).block, (ad175.add ((x5_1).toNat * 3)).off + 2, none⟩ = some (.string ((rd_T24 l0 x5_1).f2)) ∧ w'.cell? (ad176.add ((x5_1).toNat * 3)) = some (.int .i64 ((rd_T24 l1 x5_1).f0)) ∧ w'.cell? ⟨(ad176.add ((x5_1).toNat * 3)).block, (ad176.add ((x5_1).toNat * 3)).off + 1, none⟩ = some (.int .i64 ((rd_T24 l1 x5_1).f1)) ∧ w'.cell? ⟨(ad176.add ((x5_1).toNat * 3)).block, (ad176.add ((x5_1).toNat * 3)).off + 2, none⟩ = some (.string ((rd_T24 l1 x5_1).f2))) (ds := []) #[false, false, false, false, false, false, false, false, false, false] (by kernel_rfl) rfl rfl ⟨((HB.out.cell (World.block_lt_of_cell? w _ hw175_0)).trans hw175_0), ((HB.out.cell (World.block_lt_of_cell? w _ hw175_1)).trans hw175_1), ((HB.out.cell (World.block_lt_of_cell? w _ hw175_2)).trans hw175_2), ((HB.out.cell (World.block_lt_of_cell? w _ hw176_0)).trans hw176_0), ((HB.out.cell (World.block_lt_of_cell? w _ hw176_1)).trans hw176_1), ((HB.out.cell (World.block_lt_of_cell? w _ hw176_2)).trans hw176_2)⟩ (fun hHeld => ?_); refine with_tabW tailraceref01_CmpRow.tab4 tailraceref01_CmpRow.bits4 (fun HT_ HW_ => ?_)
                    generalize wc.drew = w13 at HB hx175_0 hx175_1 hx175_2 hx176_0 hx176_1 hx176_2 hHeld ⊢
                    refine pure_ (i := 0) (N := some 19) (v := ?_) (a' := ?_) #[true, false, false, false, false, false, false, false, false, false] rfl rfl (any_of HT_.out (by kernel_rfl)) (fun _ _ _ h => h) (Or.inl ⟨by rfl, ?_⟩) ?_ ?_
                    rotate_left
                    · intro w'
                      go_simp
                      with_reducible rfl
                    rotate_left
                    · simp only [Act.put, List.setIfInBounds_toArray, List.set_cons_zero, List.set_cons_succ, i64_w, i32_w]
                      rfl
                    refine pure_ (i := 1) (N := some 20) (v := ?_) (a' := ?_) #[true, true, false, false, false, false, false, false, false, false] rfl rfl (any_of HT_.out (by kernel_rfl)) (fun _ _ _ h => h) (Or.inl ⟨by rfl, ?_⟩) ?_ ?_
                    rotate_left
                    · intro w'
                      go_simp
                      with_reducible rfl
                    rotate_left
                    · simp only [Act.put, List.setIfInBounds_toArray, List.set_cons_zero, List.set_cons_succ, i64_w, i32_w]
                      rfl
                    refine pure_ (i := 2) (N := some 21) (v := ?_) (a' := ?_) #[true, true, true, false, false, false, false, false, false, false] rfl rfl (any_of HT_.out (by kernel_rfl)) (fun _ _ _ h => h) (Or.inl ⟨by rfl, ?_⟩) ?_ ?_
                    rotate_left
                    · intro w'
                      go_simp
                      with_reducible rfl
                    rotate_left
                    · simp only [Act.put, List.setIfInBounds_toArray, List.set_cons_zero, List.set_cons_succ, i64_w, i32_w]
                      rfl
                    refine pure_ (i := 4) (N := some 23) (v := ?_) (a' := ?_) #[true, true, true, false, true, false, false, false, false, false] rfl rfl (any_of HT_.out (by kernel_rfl)) (fun _ _ _ h => h) (Or.inl ⟨by rfl, ?_⟩) ?_ ?_
                    rotate_left
                    · intro w'
                      go_simp
                      with_reducible rfl
                    rotate_left
                    · simp only [Act.put, List.setIfInBounds_toArray, List.set_cons_zero, List.set_cons_succ, i64_w, i32_w]
                      rfl
                    refine pure_ (i := 5) (N := some 24) (v := ?_) (a' := ?_) #[true, true, true, false, true, true, false, false, false, false] rfl rfl (any_of HT_.out (by kernel_rfl)) (fun _ _ _ h => h) (Or.inl ⟨by rfl, ?_⟩) ?_ ?_
                    rotate_left
                    · intro w'
                      go_simp
                      with_reducible rfl
                    rotate_left
                    · simp only [Act.put, List.setIfInBounds_toArray, List.set_cons_zero, List.set_cons_succ, i64_w, i32_w]
                      rfl
                    refine pure_ (i := 6) (N := some 25) (v := ?_) (a' := ?_) #[true, true, true, false, true, true, true, false, false, false] rfl rfl (any_of HT_.out (by kernel_rfl)) (fun _ _ _ h => h) (Or.inl ⟨by rfl, ?_⟩) ?_ ?_
                    rotate_left
                    · intro w'
                      go_simp
                      with_reducible rfl
                    rotate_left
                    · simp only [Act.put, List.setIfInBounds_toArray, List.set_cons_zero, List.set_cons_succ, i64_w, i32_w]
                      rfl
                    refine take_ (i := 3) (N := some 22) (v := ?_) (a' := ?_) #[true, true, true, true, true, true, true, false, false, false] rfl rfl (take_ofW HT_.out HW_.out (by kernel_rfl)) (fun _ _ _ h => h) (Or.inl ⟨by rfl, ?_⟩) hHeld ?_ ?_
                    rotate_left
                    · rintro w' ⟨s0, s1, s2, s3, s4, s5⟩
                      go_simp
                      with_reducible rfl
                    rotate_left
                    · simp only [Act.put, List.setIfInBounds_toArray, List.set_cons_zero, List.set_cons_succ, i64_w, i32_w]
                      rfl
                    refine take_ (i := 7) (N := some 26) (v := ?_) (a' := ?_) #[true, true, true, true, true, true, true, true, false, false] rfl rfl (take_ofW HT_.out HW_.out (by kernel_rfl)) (fun _ _ _ h => h) (Or.inl ⟨by rfl, ?_⟩) hHeld ?_ ?_
                    rotate_left
                    · rintro w' ⟨s0, s1, s2, s3, s4, s5⟩
                      go_simp
                      with_reducible rfl
                    rotate_left
                    · simp only [Act.put, List.setIfInBounds_toArray, List.set_cons_zero, List.set_cons_succ, i64_w, i32_w]
                      rfl
                    refine one_ (i := 8) (N := some 27) #[true, true, true, true, true, true, true, true, true, false] rfl rfl (one_of HT_.out (by kernel_rfl)) (by decide) (fun K hK => ?_)
                    refine goes_ Try.func13 (by kernel_rfl) rfl #[.agg #[.int .i64 ((rd_T24 l0 x5_1).f0), .int .i64 ((rd_T24 l0 x5_1).f1), .string ((rd_T24 l0 x5_1).f2)], .agg #[.int .i64 ((rd_T24 l1 x5_1).f0), .int .i64 ((rd_T24 l1 x5_1).f1), .string ((rd_T24 l1 x5_1).f2)]] (by rfl) rfl rfl (by (try simp only [List.map_toArray, List.map_cons, List.map_nil]); first | done | rfl | (simp only [List.length_drop, List.length_take]; rfl)) ?_
                    with_reducible refine (tailraceref01_Cmp.calls kj2 ((rd_T24 l0 x5_1).f0) ((rd_T24 l0 x5_1).f1) ((rd_T24 l0 x5_1).f2) ((rd_T24 l1 x5_1).f0) ((rd_T24 l1 x5_1).f1) ((rd_T24 l1 x5_1).f2) t177 _ A9.out).mono ?_
                    rintro e w14 ⟨rfl, hb⟩
                    refine ⟨_, rfl, ?_⟩
                    have n0_ := Aside0.mk (below_step (by repeat (first | (with_reducible first | exact HB.out | apply below_alloc | apply pw_below_drewN | apply below_drew1) | exact HB.out)) hb)
                    clear HB
                    have HB := n0_
                    clear n0_
                    (try clear hb)
                    (try clear hb2)
                    (try clear hk)
                    (try clear hi)
                    refine hK.out _ _ ⟨((HB.out.cell (World.block_lt_of_cell? w _ hw175_0)).trans hw175_0), ((HB.out.cell (World.block_lt_of_cell? w _ hw175_1)).trans hw175_1), ((HB.out.cell (World.block_lt_of_cell? w _ hw175_2)).trans hw175_2), ((HB.out.cell (World.block_lt_of_cell? w _ hw176_0)).trans hw176_0), ((HB.out.cell (World.block_lt_of_cell? w _ hw176_1)).trans hw176_1), ((HB.out.cell (World.block_lt_of_cell? w _ hw176_2)).trans hw176_2)⟩ (fun hHeld => ?_)
                    clear hK K
                    refine norm_ (a' := ?_) ?_ ?_
                    rotate_left
                    · show Act.put _ (some 27) _ = _
                      simp only [Act.put, List.setIfInBounds_toArray, List.set_cons_zero, List.set_cons_succ, i64_w, i32_w]
                      rfl
                    refine pure_ (i := 9) (N := some 6) (v := ?_) (a' := ?_) #[true, true, true, true, true, true, true, true, true, true] rfl rfl (any_of HT_.out (by kernel_rfl)) (fun _ _ _ h => h) (Or.inl ⟨by rfl, ?_⟩) ?_ ?_
                    rotate_left
                    · intro w'
                      go_simp
                      with_reducible rfl
                    rotate_left
                    · simp only [Act.put, List.setIfInBounds_toArray, List.set_cons_zero, List.set_cons_succ, i64_w, i32_w]
                      rfl
                    refine done_ (done_of HT_.out (by kernel_rfl)) ?_
                    try go_wp2
                    go_ret
                    exact ⟨by first | rfl | (simp [errW_none, errW_some] <;> rfl) | (simp [*, errW_none, errW_some] <;> rfl), by repeat (first | (with_reducible first | exact HB.out | apply below_alloc | apply pw_below_drewN | apply below_drew1) | exact HB.out)⟩
                · rw [if_neg c8] at H
                  exact absurd H (by simp)
              · rw [if_neg c7] at H
                exact absurd H (by simp)
            · rw [if_neg c6] at H
              exact absurd H (by simp)
          · replace c5 := Bool.eq_false_iff.mpr c5
            subst c5
            have H1 : (if (l0.length : Int) < (l1.length : Int) then (some (-1)) else (if (l0.length : Int) > (l1.length : Int) then (some 1) else (some 0))) = some r := by rw [if_neg (show ¬ (false = true) by decide)] at H; exact H
            clear H
            have H := H1
            clear H1
            by_cases c15 : (l0.length : Int) < (l1.length : Int)
            · rw [if_pos c15] at H
              have c15b0 : decide ((l0.length : Int) < (l1.length : Int)) = true := decide_eq_true c15
              have c15b1 : decide (l0.length < l1.length) = true := decide_eq_true (Int.ofNat_lt.mp c15)
              clear c15
              obtain rfl := Option.some.inj H
              go_wp2
              go_ret
              exact ⟨by first | rfl | (simp [errW_none, errW_some] <;> rfl) | (simp [*, errW_none, errW_some] <;> rfl), by repeat (first | (with_reducible first | exact HB.out | apply below_alloc | apply pw_below_drewN | apply below_drew1) | exact HB.out)⟩
            · rw [if_neg c15] at H
              have c15b0 : decide ((l0.length : Int) < (l1.length : Int)) = false := decide_eq_false c15
              have c15b1 : decide (l0.length < l1.length) = false := decide_eq_false (fun h => c15 (Int.ofNat_lt.mpr h))
              clear c15
              by_cases c16 : (l0.length : Int) > (l1.length : Int)
              · rw [if_pos c16] at H
                have c16b0 : decide ((l1.length : Int) < (l0.length : Int)) = true := decide_eq_true c16
                have c16b1 : decide (l1.length < l0.length) = true := decide_eq_true (Int.ofNat_lt.mp c16)
                clear c16
                obtain rfl := Option.some.inj H
                go_wp2
                go_ret
                exact ⟨by first | rfl | (simp [errW_none, errW_some] <;> rfl) | (simp [*, errW_none, errW_some] <;> rfl), by repeat (first | (with_reducible first | exact HB.out | apply below_alloc | apply pw_below_drewN | apply below_drew1) | exact HB.out)⟩
              · rw [if_neg c16] at H
                have c16b0 : decide ((l1.length : Int) < (l0.length : Int)) = false := decide_eq_false c16
                have c16b1 : decide (l1.length < l0.length) = false := decide_eq_false (fun h => c16 (Int.ofNat_lt.mpr h))
                clear c16
                obtain rfl := Option.some.inj H
                go_wp2
                go_ret
                exact ⟨by first | rfl | (simp [errW_none, errW_some] <;> rfl) | (simp [*, errW_none, errW_some] <;> rfl), by repeat (first | (with_reducible first | exact HB.out | apply below_alloc | apply pw_below_drewN | apply below_drew1) | exact HB.out)⟩

end Go.Proofs.Ytddpgppmfibddaa.P
