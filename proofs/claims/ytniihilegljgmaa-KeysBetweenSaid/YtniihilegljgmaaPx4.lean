-- Written by a program of this session (a patched print): not the kit's own print.
import Derived.Test.YtniihilegljgmaaPx0
import Derived.Test.YtniihilegljgmaaPx3
namespace Go.Proofs.Ytniihilegljgmaa.P
open Go.RowKit Go.Proofs.YtniihilegljgmaaW.PrintWords Go.Proofs.YtniihilegljgmaaW.PrintLast Go.Proofs.YtniihilegljgmaaW.PrintMore
attribute [local go_sem] Go.Proofs.YtniihilegljgmaaOwn.leq_str Go.Proofs.YtniihilegljgmaaOwn.gtr_str Go.Proofs.YtniihilegljgmaaOwn.geq_str max2_int min2_int max_two min_two max_three min_three max_four min_four   -- for this text's walks alone
set_option linter.unusedVariables false
set_option linter.unusedSimpArgs false

/-! ### tailraceref01_Check: function 28 -/
mutual
def tailraceref01_Check.j0 : Nat → Bool → Int → Int → ByteArray → Option (Int)
  | 0, _, _, _, _ => none
  | k + 1, x20, x127000, x127001, x127002 => if x20 = true then (some 0) else (if x127000 = 2 then (if x127001 = 0 then (tailraceref01_Check.j1 k (decide ((x127002.size : Int) ≤ 40))) else (tailraceref01_Check.j1 k false)) else (tailraceref01_Check.j1 k false))
def tailraceref01_Check.j1 : Nat → Bool → Option (Int)
  | 0, _ => none
  | k + 1, x34 => if x34 = true then (some 0) else (some 10)
end
def tailraceref01_Check.f (k : Nat) (a0_0 : Int) (a0_1 : Int) (a0_2 : ByteArray) : Option (Int) := if a0_0 = 1 then (if a0_1 ≥ (-2147483647) then (if a0_1 ≤ 2147483647 then (tailraceref01_Check.j0 k (a0_2.toList == ([] : List UInt8)) a0_0 a0_1 a0_2) else (tailraceref01_Check.j0 k false a0_0 a0_1 a0_2)) else (tailraceref01_Check.j0 k false a0_0 a0_1 a0_2)) else (tailraceref01_Check.j0 k false a0_0 a0_1 a0_2)
theorem tailraceref01_Check.mono_l : ∀ k, (∀ y0 y1 y2 y3, LeO (tailraceref01_Check.j0 k y0 y1 y2 y3) (tailraceref01_Check.j0 (k + 1) y0 y1 y2 y3)) ∧ (∀ y0, LeO (tailraceref01_Check.j1 k y0) (tailraceref01_Check.j1 (k + 1) y0))
  | 0 => ⟨fun _ _ _ _ r h => by simp [tailraceref01_Check.j0] at h, fun _ r h => by simp [tailraceref01_Check.j1] at h⟩
  | k + 1 => by
    obtain ⟨ih0, ih1⟩ := tailraceref01_Check.mono_l k
    refine ⟨?_, ?_⟩
    · intro y0 y1 y2 y3
      unfold tailraceref01_Check.j0
      repeat' first
      | (with_reducible exact ih0 _ _ _ _)
      | (with_reducible exact ih1 _)
      | (with_reducible exact LeO.refl _)
      | (with_reducible exact LeO.none _)
      | (with_reducible refine LeO.ite ?_ ?_)
      | (with_reducible refine LeO.bind ?_ (fun _ => ?_))
      | exact ih0 _ _ _ _
      | exact ih1 _
      | exact LeO.none _
      | refine LeO.ite ?_ ?_
      | refine LeO.bind ?_ (fun _ => ?_)
    · intro y0
      unfold tailraceref01_Check.j1
      repeat' first
      | (with_reducible exact ih0 _ _ _ _)
      | (with_reducible exact ih1 _)
      | (with_reducible exact LeO.refl _)
      | (with_reducible exact LeO.none _)
      | (with_reducible refine LeO.ite ?_ ?_)
      | (with_reducible refine LeO.bind ?_ (fun _ => ?_))
      | exact ih0 _ _ _ _
      | exact ih1 _
      | exact LeO.none _
      | refine LeO.ite ?_ ?_
      | refine LeO.bind ?_ (fun _ => ?_)
theorem tailraceref01_Check.mono : ∀ a0 a1 a2 k, LeO (tailraceref01_Check.f k a0 a1 a2) (tailraceref01_Check.f (k + 1) a0 a1 a2) := by
  intro a0 a1 a2 k
  obtain ⟨ih0, ih1⟩ := tailraceref01_Check.mono_l k
  unfold tailraceref01_Check.f
  repeat' first
      | (with_reducible exact ih0 _ _ _ _)
      | (with_reducible exact ih1 _)
      | (with_reducible exact LeO.refl _)
      | (with_reducible exact LeO.none _)
      | (with_reducible refine LeO.ite ?_ ?_)
      | (with_reducible refine LeO.bind ?_ (fun _ => ?_))
      | exact ih0 _ _ _ _
      | exact ih1 _
      | exact LeO.none _
      | refine LeO.ite ?_ ?_
      | refine LeO.bind ?_ (fun _ => ?_)
set_option maxHeartbeats 8000000 in
set_option maxRecDepth 100000 in
theorem tailraceref01_Check.calls (k : Nat) (a0_0 : Int) (a0_1 : Int) (a0_2 : ByteArray) (r : Int) (w : World) (h : tailraceref01_Check.f k a0_0 a0_1 a0_2 = some r) :
    Calls Try.prog 28 #[.agg #[.int .i64 a0_0, .int .i64 a0_1, .string a0_2]] w fun e w' => e = .returned (.int .i64 r) ∧ Below w.heap.size w w' := by
  have hu38 := Try.underlying38
  have HB := Aside0.mk (Below.refl w.heap.size w)
  have H : (if a0_0 = 1 then (if a0_1 ≥ (-2147483647) then (if a0_1 ≤ 2147483647 then (tailraceref01_Check.j0 k (a0_2.toList == ([] : List UInt8)) a0_0 a0_1 a0_2) else (tailraceref01_Check.j0 k false a0_0 a0_1 a0_2)) else (tailraceref01_Check.j0 k false a0_0 a0_1 a0_2)) else (tailraceref01_Check.j0 k false a0_0 a0_1 a0_2)) = some r := h
  clear h
  have HC2 := Aside0.mk H
  clear H
  go_enter Try.func28, Try.ntmps28
  go_upto_region 1 with (first | ((with_reducible refine gate_dst (N := 1) rfl ?_); (try (refine gate_guard (by rfl) ?_; dsimp only)); refine box_event ?hg (N := 1) ?hd (cs := #[.int .i64 a0_0, .int .i64 a0_1, .string a0_2]) (t := 38) ?hr ?_; (case hd => rfl); (case hg => rfl); (case hr => first | (go_simp; done) | (go_simp; rfl)); intro gb126 hg w3 hbox hb; have n0_ := Aside0.mk (below_step (by repeat (first | (with_reducible first | exact HB.out | apply below_alloc | apply pw_below_drewN | apply below_drew1) | exact HB.out)) hb); have n1_ := Aside0.mk (hbox); have n2_ := Aside0.mk ((by rw [hg]; exact (below_size (by repeat (first | (with_reducible first | exact HB.out | apply below_alloc | apply pw_below_drewN | apply below_drew1) | exact HB.out))) : w.heap.size ≤ gb126)); have n3_ := Aside0.mk ((by rw [hg]; exact (below_size (by repeat (first | (with_reducible first | exact HB.out | apply below_alloc | apply pw_below_drewN | apply below_drew1) | exact HB.out))) : w.heap.size ≤ gb126)); clear HB; have HB := n0_; have BK126 := n1_; have GW126 := n2_; have GE126 := n3_; clear n0_ n1_ n2_ n3_; clear hb hbox hg))
  (try simp only [Act.put, List.setIfInBounds_toArray, List.set_cons_zero, List.set_cons_succ])
  go_cut [20] (fun v20 wc => ∃ (kq : Nat) (x20_1 : Bool), v20 = .bool x20_1 ∧ Aside0 (tailraceref01_Check.j0 kq x20_1 a0_0 a0_1 a0_2 = some r) ∧ Aside0 (kq ≤ k) ∧ Aside0 (wc.heap[gb126]? = some (.cells #[.int .i64 a0_0, .int .i64 a0_1, .string a0_2] 38 (0, 0))) ∧ Aside0 (Below w.heap.size w wc))
  case first =>
    have H := HC2.out
    clear HC2
    by_cases c4 : a0_0 = 1
    · rw [if_pos c4] at H
      have c4b0 : (a0_0 == 1) = true := beq_iff_eq.mpr c4
      have c4b1 : (a0_0 != 1) = false := bne_eq_false_iff_eq.mpr c4
      clear c4
      (first | rw [c4b0] | (simp only [i64_w, i32_w]; rw [c4b0]) | skip)
      by_cases c5 : a0_1 ≥ (-2147483647)
      · rw [if_pos c5] at H
        have c5b0 : decide ((-2147483647) ≤ a0_1) = true := decide_eq_true c5
        clear c5
        by_cases c6 : a0_1 ≤ 2147483647
        · rw [if_pos c6] at H
          have c6b0 : decide (a0_1 ≤ 2147483647) = true := decide_eq_true c6
          clear c6
          have H' := Aside0.mk H
          clear H
          have hcz7_0 : w3.cell? ⟨gb126, 0, none⟩ = some (.int .i64 a0_0) := (blk_cell BK126.out 0).trans rfl
          have hcz7_1 : w3.cell? ⟨gb126, 1, none⟩ = some (.int .i64 a0_1) := (blk_cell BK126.out 1).trans rfl
          have hcz7_2 : w3.cell? ⟨gb126, 2, none⟩ = some (.string a0_2) := (blk_cell BK126.out 2).trans rfl
          have hfz7_0 := blk_frozen BK126.out 0
          have hfz7_1 := blk_frozen BK126.out 1
          have hfz7_2 := blk_frozen BK126.out 2
          go_wp2
          go_meet
          case rel => exact ⟨_, ((a0_2.toList == ([] : List UInt8))), (by first | rfl | (simp; done) | (simp [*]; done)), H', ⟨by first | omega | exact Nat.le_refl _⟩, ⟨by (with_reducible repeat (first | refine blk_drewN ?_ _ | refine blk_drew ?_ | refine blk_alloc ?_ _)); exact BK126.out⟩, ⟨by repeat (first | (with_reducible first | exact HB.out | apply below_alloc | apply pw_below_drewN | apply below_drew1 | refine below_set ?_ GE126.out) | exact HB.out)⟩⟩
        · rw [if_neg c6] at H
          have c6b0 : decide (a0_1 ≤ 2147483647) = false := decide_eq_false c6
          clear c6
          have H' := Aside0.mk H
          clear H
          have hcz8_0 : w3.cell? ⟨gb126, 0, none⟩ = some (.int .i64 a0_0) := (blk_cell BK126.out 0).trans rfl
          have hcz8_1 : w3.cell? ⟨gb126, 1, none⟩ = some (.int .i64 a0_1) := (blk_cell BK126.out 1).trans rfl
          have hcz8_2 : w3.cell? ⟨gb126, 2, none⟩ = some (.string a0_2) := (blk_cell BK126.out 2).trans rfl
          have hfz8_0 := blk_frozen BK126.out 0
          have hfz8_1 := blk_frozen BK126.out 1
          have hfz8_2 := blk_frozen BK126.out 2
          go_wp2
          go_meet
          case rel => exact ⟨_, (false), (by first | rfl | (simp; done) | (simp [*]; done)), H', ⟨by first | omega | exact Nat.le_refl _⟩, ⟨by (with_reducible repeat (first | refine blk_drewN ?_ _ | refine blk_drew ?_ | refine blk_alloc ?_ _)); exact BK126.out⟩, ⟨by repeat (first | (with_reducible first | exact HB.out | apply below_alloc | apply pw_below_drewN | apply below_drew1 | refine below_set ?_ GE126.out) | exact HB.out)⟩⟩
      · rw [if_neg c5] at H
        have c5b0 : decide ((-2147483647) ≤ a0_1) = false := decide_eq_false c5
        clear c5
        have H' := Aside0.mk H
        clear H
        have hcz9_0 : w3.cell? ⟨gb126, 0, none⟩ = some (.int .i64 a0_0) := (blk_cell BK126.out 0).trans rfl
        have hcz9_1 : w3.cell? ⟨gb126, 1, none⟩ = some (.int .i64 a0_1) := (blk_cell BK126.out 1).trans rfl
        have hcz9_2 : w3.cell? ⟨gb126, 2, none⟩ = some (.string a0_2) := (blk_cell BK126.out 2).trans rfl
        have hfz9_0 := blk_frozen BK126.out 0
        have hfz9_1 := blk_frozen BK126.out 1
        have hfz9_2 := blk_frozen BK126.out 2
        go_wp2
        go_meet
        case rel => exact ⟨_, (false), (by first | rfl | (simp; done) | (simp [*]; done)), H', ⟨by first | omega | exact Nat.le_refl _⟩, ⟨by (with_reducible repeat (first | refine blk_drewN ?_ _ | refine blk_drew ?_ | refine blk_alloc ?_ _)); exact BK126.out⟩, ⟨by repeat (first | (with_reducible first | exact HB.out | apply below_alloc | apply pw_below_drewN | apply below_drew1 | refine below_set ?_ GE126.out) | exact HB.out)⟩⟩
    · rw [if_neg c4] at H
      have c4b0 : (a0_0 == 1) = false := beq_eq_false_iff_ne.mpr c4
      have c4b1 : (a0_0 != 1) = true := bne_iff_ne.mpr c4
      (first | rw [c4b0] | (simp only [i64_w, i32_w]; rw [c4b0]) | skip)
      have H' := Aside0.mk H
      clear H
      have hcz10_0 : w3.cell? ⟨gb126, 0, none⟩ = some (.int .i64 a0_0) := (blk_cell BK126.out 0).trans rfl
      have hcz10_1 : w3.cell? ⟨gb126, 1, none⟩ = some (.int .i64 a0_1) := (blk_cell BK126.out 1).trans rfl
      have hcz10_2 : w3.cell? ⟨gb126, 2, none⟩ = some (.string a0_2) := (blk_cell BK126.out 2).trans rfl
      have hfz10_0 := blk_frozen BK126.out 0
      have hfz10_1 := blk_frozen BK126.out 1
      have hfz10_2 := blk_frozen BK126.out 2
      go_wp2
      go_meet
      case rel => exact ⟨_, (false), (by first | rfl | (simp; done) | (simp [*]; done)), H', ⟨by first | omega | exact Nat.le_refl _⟩, ⟨by (with_reducible repeat (first | refine blk_drewN ?_ _ | refine blk_drew ?_ | refine blk_alloc ?_ _)); exact BK126.out⟩, ⟨by repeat (first | (with_reducible first | exact HB.out | apply below_alloc | apply pw_below_drewN | apply below_drew1 | refine below_set ?_ GE126.out) | exact HB.out)⟩⟩
  case rest =>
    clear HC2
    try clear c2
    try clear p2
    try clear c4
    try clear c4b0
    try clear c4b1
    try clear c5
    try clear c5b0
    try clear c6
    try clear c6b0
    try clear hcz10_0
    try clear hcz10_1
    try clear hcz10_2
    try clear hcz7_0
    try clear hcz7_1
    try clear hcz7_2
    try clear hcz8_0
    try clear hcz8_1
    try clear hcz8_2
    try clear hcz9_0
    try clear hcz9_1
    try clear hcz9_2
    try clear hfz10_0
    try clear hfz10_1
    try clear hfz10_2
    try clear hfz7_0
    try clear hfz7_1
    try clear hfz7_2
    try clear hfz8_0
    try clear hfz8_1
    try clear hfz8_2
    try clear hfz9_0
    try clear hfz9_1
    try clear hfz9_2
    obtain ⟨kq, x20_1, rfl, HA, HJ1, BK126, HB⟩ := hcut
    cases kq with
    | zero => exact absurd HA.out (by simp [tailraceref01_Check.j0])
    | succ kj1 =>
      have H := HA.out
      clear HA
      simp only [tailraceref01_Check.j0] at H
      by_cases c11 : x20_1 = true
      · subst c11
        have H1 : (some 0) = some r := by rw [if_pos rfl] at H; exact H
        clear H
        have H := H1
        clear H1
        obtain rfl := Option.some.inj H
        go_wp2
        go_ret
        exact ⟨by first | rfl | (simp [errW_none, errW_some] <;> rfl) | (simp [*, errW_none, errW_some] <;> rfl), by repeat (first | (with_reducible first | exact HB.out | apply below_alloc | apply pw_below_drewN | apply below_drew1 | refine below_set ?_ GE126.out) | exact HB.out)⟩
      · replace c11 := Bool.eq_false_iff.mpr c11
        subst c11
        have H1 : (if a0_0 = 2 then (if a0_1 = 0 then (tailraceref01_Check.j1 kj1 (decide ((a0_2.size : Int) ≤ 40))) else (tailraceref01_Check.j1 kj1 false)) else (tailraceref01_Check.j1 kj1 false)) = some r := by rw [if_neg (show ¬ (false = true) by decide)] at H; exact H
        clear H
        have H := H1
        clear H1
        have HC12 := Aside0.mk H
        clear H
        go_upto_region 3 with (fail)
        go_cut [34] (fun v34 wc => ∃ (kq : Nat) (x34_11 : Bool), v34 = .bool x34_11 ∧ Aside0 (tailraceref01_Check.j1 kq x34_11 = some r) ∧ Aside0 (kq ≤ kj1) ∧ Aside0 (wc.heap[gb126]? = some (.cells #[.int .i64 a0_0, .int .i64 a0_1, .string a0_2] 38 (0, 0))) ∧ Aside0 (Below w.heap.size w wc))
        case first =>
          have H := HC12.out
          clear HC12
          by_cases c13 : a0_0 = 2
          · rw [if_pos c13] at H
            have c13b0 : (a0_0 == 2) = true := beq_iff_eq.mpr c13
            have c13b1 : (a0_0 != 2) = false := bne_eq_false_iff_eq.mpr c13
            clear c13
            (first | rw [c13b0] | (simp only [i64_w, i32_w]; rw [c13b0]) | skip)
            by_cases c14 : a0_1 = 0
            · rw [if_pos c14] at H
              have c14b0 : (a0_1 == 0) = true := beq_iff_eq.mpr c14
              have c14b1 : (a0_1 != 0) = false := bne_eq_false_iff_eq.mpr c14
              clear c14
              have H' := Aside0.mk H
              clear H
              have hcz15_0 : wc.cell? ⟨gb126, 0, none⟩ = some (.int .i64 a0_0) := (blk_cell BK126.out 0).trans rfl
              have hcz15_1 : wc.cell? ⟨gb126, 1, none⟩ = some (.int .i64 a0_1) := (blk_cell BK126.out 1).trans rfl
              have hcz15_2 : wc.cell? ⟨gb126, 2, none⟩ = some (.string a0_2) := (blk_cell BK126.out 2).trans rfl
              have hfz15_0 := blk_frozen BK126.out 0
              have hfz15_1 := blk_frozen BK126.out 1
              have hfz15_2 := blk_frozen BK126.out 2
              go_wp2
              go_meet
              case rel => exact ⟨_, (decide ((a0_2.size : Int) ≤ 40)), (by first | rfl | (simp; done) | (simp [*]; done)), H', ⟨by have := HJ1.out; first | omega | exact Nat.le_refl _⟩, ⟨by (with_reducible repeat (first | refine blk_drewN ?_ _ | refine blk_drew ?_ | refine blk_alloc ?_ _)); exact BK126.out⟩, ⟨by repeat (first | (with_reducible first | exact HB.out | apply below_alloc | apply pw_below_drewN | apply below_drew1 | refine below_set ?_ GE126.out) | exact HB.out)⟩⟩
            · rw [if_neg c14] at H
              have c14b0 : (a0_1 == 0) = false := beq_eq_false_iff_ne.mpr c14
              have c14b1 : (a0_1 != 0) = true := bne_iff_ne.mpr c14
              have H' := Aside0.mk H
              clear H
              have hcz16_0 : wc.cell? ⟨gb126, 0, none⟩ = some (.int .i64 a0_0) := (blk_cell BK126.out 0).trans rfl
              have hcz16_1 : wc.cell? ⟨gb126, 1, none⟩ = some (.int .i64 a0_1) := (blk_cell BK126.out 1).trans rfl
              have hcz16_2 : wc.cell? ⟨gb126, 2, none⟩ = some (.string a0_2) := (blk_cell BK126.out 2).trans rfl
              have hfz16_0 := blk_frozen BK126.out 0
              have hfz16_1 := blk_frozen BK126.out 1
              have hfz16_2 := blk_frozen BK126.out 2
              go_wp2
              go_meet
              case rel => exact ⟨_, (false), (by first | rfl | (simp; done) | (simp [*]; done)), H', ⟨by have := HJ1.out; first | omega | exact Nat.le_refl _⟩, ⟨by (with_reducible repeat (first | refine blk_drewN ?_ _ | refine blk_drew ?_ | refine blk_alloc ?_ _)); exact BK126.out⟩, ⟨by repeat (first | (with_reducible first | exact HB.out | apply below_alloc | apply pw_below_drewN | apply below_drew1 | refine below_set ?_ GE126.out) | exact HB.out)⟩⟩
          · rw [if_neg c13] at H
            have c13b0 : (a0_0 == 2) = false := beq_eq_false_iff_ne.mpr c13
            have c13b1 : (a0_0 != 2) = true := bne_iff_ne.mpr c13
            (first | rw [c13b0] | (simp only [i64_w, i32_w]; rw [c13b0]) | skip)
            have H' := Aside0.mk H
            clear H
            have hcz17_0 : wc.cell? ⟨gb126, 0, none⟩ = some (.int .i64 a0_0) := (blk_cell BK126.out 0).trans rfl
            have hcz17_1 : wc.cell? ⟨gb126, 1, none⟩ = some (.int .i64 a0_1) := (blk_cell BK126.out 1).trans rfl
            have hcz17_2 : wc.cell? ⟨gb126, 2, none⟩ = some (.string a0_2) := (blk_cell BK126.out 2).trans rfl
            have hfz17_0 := blk_frozen BK126.out 0
            have hfz17_1 := blk_frozen BK126.out 1
            have hfz17_2 := blk_frozen BK126.out 2
            go_wp2
            go_meet
            case rel => exact ⟨_, (false), (by first | rfl | (simp; done) | (simp [*]; done)), H', ⟨by have := HJ1.out; first | omega | exact Nat.le_refl _⟩, ⟨by (with_reducible repeat (first | refine blk_drewN ?_ _ | refine blk_drew ?_ | refine blk_alloc ?_ _)); exact BK126.out⟩, ⟨by repeat (first | (with_reducible first | exact HB.out | apply below_alloc | apply pw_below_drewN | apply below_drew1 | refine below_set ?_ GE126.out) | exact HB.out)⟩⟩
        case rest =>
          clear HC12
          try clear c1
          try clear c2
          try clear p2
          try clear c4
          try clear c4b0
          try clear c4b1
          try clear c5
          try clear c5b0
          try clear c6
          try clear c6b0
          try clear c11
          try clear c13
          try clear c13b0
          try clear c13b1
          try clear c14
          try clear c14b0
          try clear c14b1
          try clear hcz10_0
          try clear hcz10_1
          try clear hcz10_2
          try clear hcz15_0
          try clear hcz15_1
          try clear hcz15_2
          try clear hcz16_0
          try clear hcz16_1
          try clear hcz16_2
          try clear hcz17_0
          try clear hcz17_1
          try clear hcz17_2
          try clear hcz7_0
          try clear hcz7_1
          try clear hcz7_2
          try clear hcz8_0
          try clear hcz8_1
          try clear hcz8_2
          try clear hcz9_0
          try clear hcz9_1
          try clear hcz9_2
          try clear hfz10_0
          try clear hfz10_1
          try clear hfz10_2
          try clear hfz15_0
          try clear hfz15_1
          try clear hfz15_2
          try clear hfz16_0
          try clear hfz16_1
          try clear hfz16_2
          try clear hfz17_0
          try clear hfz17_1
          try clear hfz17_2
          try clear hfz7_0
          try clear hfz7_1
          try clear hfz7_2
          try clear hfz8_0
          try clear hfz8_1
          try clear hfz8_2
          try clear hfz9_0
          try clear hfz9_1
          try clear hfz9_2
          try clear p2
          obtain ⟨kq, x34_11, rfl, HA, HJ11, BK126, HB⟩ := hcut
          cases kq with
          | zero => exact absurd HA.out (by simp [tailraceref01_Check.j1])
          | succ kj11 =>
            have H := HA.out
            clear HA
            simp only [tailraceref01_Check.j1] at H
            by_cases c18 : x34_11 = true
            · subst c18
              have H1 : (some 0) = some r := by rw [if_pos rfl] at H; exact H
              clear H
              have H := H1
              clear H1
              obtain rfl := Option.some.inj H
              go_wp2
              go_ret
              exact ⟨by first | rfl | (simp [errW_none, errW_some] <;> rfl) | (simp [*, errW_none, errW_some] <;> rfl), by repeat (first | (with_reducible first | exact HB.out | apply below_alloc | apply pw_below_drewN | apply below_drew1 | refine below_set ?_ GE126.out) | exact HB.out)⟩
            · replace c18 := Bool.eq_false_iff.mpr c18
              subst c18
              have H1 : (some 10) = some r := by rw [if_neg (show ¬ (false = true) by decide)] at H; exact H
              clear H
              have H := H1
              clear H1
              obtain rfl := Option.some.inj H
              go_wp2
              go_ret
              exact ⟨by first | rfl | (simp [errW_none, errW_some] <;> rfl) | (simp [*, errW_none, errW_some] <;> rfl), by repeat (first | (with_reducible first | exact HB.out | apply below_alloc | apply pw_below_drewN | apply below_drew1 | refine below_set ?_ GE126.out) | exact HB.out)⟩

/-! ### tailraceref02_Decode: function 13 -/
mutual
def tailraceref02_Decode.l0 : Nat → List Int → List (S38) → Option ((List (S38)) × Int)
  | 0, _, _ => none
  | k + 1, x0, x4 => if (x0.length : Int) > 0 then ((tailraceref02_next.f k x0).bind fun bt127 => (if bt127.2.2.2 = 0 then (tailraceref02_Decode.j1 k x0 x4 bt127.2.2.2 true bt127.1 bt127.2.1 bt127.2.2.1) else ((tailraceref01_Check.f k bt127.1 bt127.2.1 bt127.2.2.1).bind fun t132 => (tailraceref02_Decode.j1 k x0 x4 bt127.2.2.2 (t132 != 0) bt127.1 bt127.2.1 bt127.2.2.1)))) else (some (x4, 0))
def tailraceref02_Decode.j1 : Nat → List Int → List (S38) → Int → Bool → Int → Int → ByteArray → Option ((List (S38)) × Int)
  | 0, _, _, _, _, _, _, _ => none
  | k + 1, x0, x4, x6, x21, x132000, x132001, x132002 => if x21 = true then (some (([] : List (S38)), 20)) else (if x4.length < 4398046511104 then (if 0 ≤ x6 then (if x6 ≤ (x0.length : Int) then (tailraceref02_Decode.l0 k (x0.drop (x6 : Int).toNat) (x4 ++ [(⟨x132000, x132001, x132002⟩ : S38)])) else (none)) else (none)) else (none))
end
def tailraceref02_Decode.f (k : Nat) (l0 : List Int) : Option ((List (S38)) × Int) := tailraceref02_Decode.l0 k l0 ([] : List (S38))
theorem tailraceref02_Decode.mono_l : ∀ k, (∀ y0 y1, LeO (tailraceref02_Decode.l0 k y0 y1) (tailraceref02_Decode.l0 (k + 1) y0 y1)) ∧ (∀ y0 y1 y2 y3 y4 y5 y6, LeO (tailraceref02_Decode.j1 k y0 y1 y2 y3 y4 y5 y6) (tailraceref02_Decode.j1 (k + 1) y0 y1 y2 y3 y4 y5 y6))
  | 0 => ⟨fun _ _ r h => by simp [tailraceref02_Decode.l0] at h, fun _ _ _ _ _ _ _ r h => by simp [tailraceref02_Decode.j1] at h⟩
  | k + 1 => by
    obtain ⟨ih0, ih1⟩ := tailraceref02_Decode.mono_l k
    refine ⟨?_, ?_⟩
    · intro y0 y1
      unfold tailraceref02_Decode.l0
      repeat' first
      | (with_reducible exact ih0 _ _)
      | (with_reducible exact ih1 _ _ _ _ _ _ _)
      | (with_reducible exact tailraceref01_Check.mono _ _ _ _)
      | (with_reducible exact tailraceref02_next.mono _ _)
      | (with_reducible exact LeO.refl _)
      | (with_reducible exact LeO.none _)
      | (with_reducible refine LeO.ite ?_ ?_)
      | (with_reducible refine LeO.bind ?_ (fun _ => ?_))
      | exact ih0 _ _
      | exact ih1 _ _ _ _ _ _ _
      | exact tailraceref01_Check.mono _ _ _ _
      | exact tailraceref02_next.mono _ _
      | exact LeO.none _
      | refine LeO.ite ?_ ?_
      | refine LeO.bind ?_ (fun _ => ?_)
    · intro y0 y1 y2 y3 y4 y5 y6
      unfold tailraceref02_Decode.j1
      repeat' first
      | (with_reducible exact ih0 _ _)
      | (with_reducible exact ih1 _ _ _ _ _ _ _)
      | (with_reducible exact tailraceref01_Check.mono _ _ _ _)
      | (with_reducible exact tailraceref02_next.mono _ _)
      | (with_reducible exact LeO.refl _)
      | (with_reducible exact LeO.none _)
      | (with_reducible refine LeO.ite ?_ ?_)
      | (with_reducible refine LeO.bind ?_ (fun _ => ?_))
      | exact ih0 _ _
      | exact ih1 _ _ _ _ _ _ _
      | exact tailraceref01_Check.mono _ _ _ _
      | exact tailraceref02_next.mono _ _
      | exact LeO.none _
      | refine LeO.ite ?_ ?_
      | refine LeO.bind ?_ (fun _ => ?_)
theorem tailraceref02_Decode.mono : ∀ a0 k, LeO (tailraceref02_Decode.f k a0) (tailraceref02_Decode.f (k + 1) a0) := by
  intro a0 k
  obtain ⟨ih0, ih1⟩ := tailraceref02_Decode.mono_l k
  unfold tailraceref02_Decode.f
  repeat' first
      | (with_reducible exact ih0 _ _)
      | (with_reducible exact ih1 _ _ _ _ _ _ _)
      | (with_reducible exact tailraceref01_Check.mono _ _ _ _)
      | (with_reducible exact tailraceref02_next.mono _ _)
      | (with_reducible exact LeO.refl _)
      | (with_reducible exact LeO.none _)
      | (with_reducible refine LeO.ite ?_ ?_)
      | (with_reducible refine LeO.bind ?_ (fun _ => ?_))
      | exact ih0 _ _
      | exact ih1 _ _ _ _ _ _ _
      | exact tailraceref01_Check.mono _ _ _ _
      | exact tailraceref02_next.mono _ _
      | exact LeO.none _
      | refine LeO.ite ?_ ?_
      | refine LeO.bind ?_ (fun _ => ?_)
set_option maxHeartbeats 8000000 in
set_option maxRecDepth 100000 in
theorem tailraceref02_Decode.calls (k : Nat) (P0_ : Nat → Prop) (A0 : Option Addr) (c0 : Nat) (l0 : List Int) (r1 : List (S38)) (r2 : Int) (w : World) (hs0 : Kd.V (Kd.int .u8) 5 w w.heap.size (fun k_ => P0_ k_) (.slice A0 l0.length c0) l0) (h : tailraceref02_Decode.f k l0 = some (r1, r2)) :
    Calls Try.prog 13 #[.slice A0 l0.length c0] w fun e w' => ∃ v0_ : Value, e = .returned (.tuple #[v0_, .int .i64 r2]) ∧ Kd.R k38 38 w' w.heap.size (fun k_ => (w.heap.size ≤ k_)) v0_ r1 ∧ Below w.heap.size w w' := by
  have hu38 := Try.underlying38
  have HO0 := Aside0.mk (show Kd.V (Kd.int .u8) 5 w w.heap.size (fun k_ => (P0_ k_ ∨ w.heap.size ≤ k_)) (.slice A0 l0.length c0) l0 from Kd.V_mono hs0 (fun k_ hk => .inl hk))
  have HB := Aside0.mk (Below.refl w.heap.size w)
  have H : (tailraceref02_Decode.l0 k l0 ([] : List (S38))) = some (r1, r2) := h
  clear h
  have H' := Aside0.mk H
  clear H
  go_enter Try.func13, Try.ntmps13
  go_wp2
  go_loopg [0, 4] k (fun kq v0 v4 w' => ∃ (x0_1 : List Int) (x4_1 : List (S38)), Aside0 (tailraceref02_Decode.l0 kq x0_1 x4_1 = some (r1, r2)) ∧ Aside0 (kq ≤ k) ∧ Aside0 (Kd.V (Kd.int .u8) 5 w' w.heap.size (fun k_ => (P0_ k_ ∨ w.heap.size ≤ k_) ∧ some k_ ≠ (v4 : Value).ownBlock) v0 x0_1) ∧ Aside0 (Kd.R k38 38 w' w.heap.size (fun k_ => (w.heap.size ≤ k_)) v4 x4_1) ∧ Aside0 (Below w.heap.size w w'))
  case atStart => exact ⟨(l0), (([] : List (S38))), H', ⟨Nat.le_refl _⟩, ⟨by (with_reducible repeat (first | apply Kd.V_alloc | apply Kd.V_drewN | apply Kd.V_drew)); exact Kd.V_mono HO0.out (fun _ hk => ⟨hk, (by simp [Value.ownBlock])⟩)⟩, ⟨by first | exact Kd.R_nil _ _ _ _ _ | exact Kd.N_nil _ _ _ _ _ | exact Kd.V_nil _ _ _ _ _ | exact Kd.Q_nil _ _ _ _ _ | exact Kd.S_nil _ _ _ _ _⟩, ⟨by repeat (first | (with_reducible first | exact HB.out | apply below_alloc | apply pw_below_drewN | apply below_drew1) | exact HB.out)⟩⟩
  case round =>
    clear H'
    try clear c1
    obtain ⟨x0_1, x4_1, HA, HK1, HO_0, HO_4, HB⟩ := hrel
    cases gk with
    | zero => exact absurd HA.out (by simp [tailraceref02_Decode.l0])
    | succ k1 =>
      have H := HA.out
      clear HA
      simp only [tailraceref02_Decode.l0] at H
      by_cases c2 : (x0_1.length : Int) > 0
      · rw [if_pos c2] at H
        have c2b0 : decide (0 < (x0_1.length : Int)) = true := decide_eq_true c2
        have c2b1 : decide (0 < x0_1.length) = true := decide_eq_true (by omega)
        clear c2
        replace H := Option.bind_eq_some_iff.mp H
        obtain ⟨⟨t127, t128, t129, t130⟩, A30, H⟩ := H
        replace H : (if t130 = 0 then (tailraceref02_Decode.j1 k1 x0_1 x4_1 t130 true t127 t128 t129) else ((tailraceref01_Check.f k1 t127 t128 t129).bind fun t132 => (tailraceref02_Decode.j1 k1 x0_1 x4_1 t130 (t132 != 0) t127 t128 t129))) = some (r1, r2) := H
        have A3 := Aside0.mk A30
        clear A30
        have HC4 := Aside0.mk H
        clear H
        obtain ⟨Ao5, co5, eo5⟩ := Kd.V_slice HO_0.out
        subst eo5
        go_upto_region 4 with (first | ((with_reducible refine gate_callee (f := 27) rfl ?_); refine goesL_ (some 12) rfl rfl Try.func27 (by kernel_rfl) rfl #[.slice Ao5 x0_1.length co5] rfl (by (try simp only [List.map_toArray, List.map_cons, List.map_nil]); first | done | rfl | (simp only [List.length_drop, List.length_take]; rfl)) ?_; (with_reducible refine (tailraceref02_next.calls k1 _ _ x0_1 t127 t128 t129 t130 _ ?side1 ?side2 A3.out).mono ?_); (case side1 => repeat (first | exact (Kd.V_reads' HO_0.out).2.2 | (with_reducible refine Kd.C_alloc ?_ _) | (with_reducible refine Kd.C_drewN ?_ _) | (with_reducible refine Kd.C_drew ?_))); (case side2 => exact (Kd.V_reads' HO_0.out).2.1); rintro e w6 ⟨rfl, hb⟩; refine ⟨_, rfl, ?_⟩; have n0_ := Aside0.mk (Kd.V_below (by (with_reducible repeat (first | apply Kd.V_alloc | apply Kd.V_drewN | apply Kd.V_drew)); exact HO_0.out) hb); have n1_ := Aside0.mk (Kd.R_below (by (with_reducible repeat (first | apply Kd.R_alloc | apply Kd.R_drewN | apply Kd.R_drew)); exact HO_4.out) hb); have n2_ := Aside0.mk (below_step (by repeat (first | (with_reducible first | exact HB.out | apply below_alloc | apply pw_below_drewN | apply below_drew1) | exact HB.out)) hb); clear HO_0; clear HO_4; clear HB; have HO_0 := n0_; have HO_4 := n1_; have HB := n2_; clear n0_ n1_ n2_; (try clear hb); (try clear hb2); (try clear hk); (try clear hi)) | ((with_reducible refine gate_dst (N := 5) rfl ?_); refine box_event ?hg (N := 5) ?hd (cs := #[.int .i64 0, .int .i64 0, .string (⟨#[]⟩ : ByteArray)]) (t := 38) ?hr ?_; (case hd => rfl); (case hg => rfl); (case hr => first | (go_simp; done) | (go_simp; rfl)); intro gb131 hg w7 hbox hb; have n0_ := Aside0.mk (Kd.V_below (Kd.V_elderB (by (with_reducible repeat (first | apply Kd.V_alloc | apply Kd.V_drewN | apply Kd.V_drew)); exact HO_0.out) gb131 (Nat.le_of_eq hg.symm)) hb); have n1_ := Aside0.mk (Kd.R_below (Kd.R_elderB (by (with_reducible repeat (first | apply Kd.R_alloc | apply Kd.R_drewN | apply Kd.R_drew)); exact HO_4.out) gb131 (Nat.le_of_eq hg.symm)) hb); have n2_ := Aside0.mk (below_step (by repeat (first | (with_reducible first | exact HB.out | apply below_alloc | apply pw_below_drewN | apply below_drew1) | exact HB.out)) hb); have n3_ := Aside0.mk (hbox); have n4_ := Aside0.mk ((by rw [hg]; exact (below_size (by repeat (first | (with_reducible first | exact HB.out | apply below_alloc | apply pw_below_drewN | apply below_drew1) | exact HB.out))) : w.heap.size ≤ gb131)); have n5_ := Aside0.mk ((by rw [hg]; exact (below_size (by repeat (first | (with_reducible first | exact HB.out | apply below_alloc | apply pw_below_drewN | apply below_drew1) | exact HB.out))) : w.heap.size ≤ gb131)); clear HO_0; clear HO_4; clear HB; have HO_0 := n0_; have HO_4 := n1_; have HB := n2_; have BK131 := n3_; have GW131 := n4_; have GE131 := n5_; clear n0_ n1_ n2_ n3_ n4_ n5_; clear hb hbox hg; have hcz8_0 : w7.cell? ⟨gb131, 0, none⟩ = some (.int .i64 0) := (blk_cell BK131.out 0).trans rfl; have hcz8_1 : w7.cell? ⟨gb131, 1, none⟩ = some (.int .i64 0) := (blk_cell BK131.out 1).trans rfl; have hcz8_2 : w7.cell? ⟨gb131, 2, none⟩ = some (.string (⟨#[]⟩ : ByteArray)) := (blk_cell BK131.out 2).trans rfl; have hfz8_0 := blk_frozen BK131.out 0; have hfz8_1 := blk_frozen BK131.out 1; have hfz8_2 := blk_frozen BK131.out 2))
        (try simp only [Act.put, List.setIfInBounds_toArray, List.set_cons_zero, List.set_cons_succ])
        go_cut [21] (fun v21 wc => ∃ (kq : Nat) (x21_3 : Bool), v21 = .bool x21_3 ∧ Aside0 (tailraceref02_Decode.j1 kq x0_1 x4_1 t130 x21_3 t127 t128 t129 = some (r1, r2)) ∧ Aside0 (kq ≤ k1) ∧ Aside0 (Kd.V (Kd.int .u8) 5 wc w.heap.size (fun k_ => (P0_ k_ ∨ w.heap.size ≤ k_) ∧ some k_ ≠ (u4 : Value).ownBlock ∧ k_ ≠ gb131) (.slice Ao5 x0_1.length co5) x0_1) ∧ Aside0 (Kd.R k38 38 wc w.heap.size (fun k_ => (w.heap.size ≤ k_) ∧ k_ ≠ gb131) u4 x4_1) ∧ Aside0 (wc.heap[gb131]? = some (.cells #[.int .i64 t127, .int .i64 t128, .string t129] 38 (0, 0))) ∧ Aside0 (Below w.heap.size w wc))
        case first =>
          have H := HC4.out
          clear HC4
          by_cases c9 : t130 = 0
          · rw [if_pos c9] at H
            have c9b0 : (t130 == 0) = true := beq_iff_eq.mpr c9
            have c9b1 : (t130 != 0) = false := bne_eq_false_iff_eq.mpr c9
            clear c9
            (first | rw [c9b0] | (simp only [i64_w, i32_w]; rw [c9b0]) | skip)
            have H' := Aside0.mk H
            clear H
            go_wp2
            go_meet
            case rel => exact ⟨_, (true), (by first | rfl | (simp; done) | (simp [*]; done)), H', ⟨by have := HK1.out; first | omega | exact Nat.le_refl _⟩, ⟨by (with_reducible repeat (first | apply Kd.V_alloc | apply Kd.V_drewN | apply Kd.V_drew)); exact Kd.V_mono (Kd.V_far (p := ⟨gb131, 2, none⟩) (Kd.V_far (p := ⟨gb131, 1, none⟩) (Kd.V_far (p := ⟨gb131, 0, none⟩) (Kd.V_mono HO_0.out (fun k_ hk => (⟨hk, hk.2⟩ : _ ∧ k_ ≠ gb131))) (fun _ hk => hk.2) (.int .i64 t127)) (fun _ hk => hk.2) (.int .i64 t128)) (fun _ hk => hk.2) (.string t129)) (fun _ hk => ⟨hk.1.1.1, ⟨hk.1.1.2, hk.1.2⟩⟩)⟩, ⟨by (with_reducible repeat (first | apply Kd.R_alloc | apply Kd.R_drewN | apply Kd.R_drew)); exact Kd.R_mono (Kd.R_far (p := ⟨gb131, 2, none⟩) (Kd.R_far (p := ⟨gb131, 1, none⟩) (Kd.R_far (p := ⟨gb131, 0, none⟩) (Kd.R_mono HO_4.out (fun k_ hk => (⟨hk, hk.2⟩ : _ ∧ k_ ≠ gb131))) (fun _ hk => hk.2) (.int .i64 t127)) (fun _ hk => hk.2) (.int .i64 t128)) (fun _ hk => hk.2) (.string t129)) (fun _ hk => ⟨hk.1.1, hk.1.2⟩)⟩, ⟨by (with_reducible repeat (first | refine blk_drewN ?_ _ | refine blk_drew ?_ | refine blk_alloc ?_ _)); refine blk_put (cs := #[.int .i64 t127, .int .i64 t128, .string (⟨#[]⟩ : ByteArray)]) ?_ 2 _ rfl; (with_reducible repeat (first | refine blk_drewN ?_ _ | refine blk_drew ?_ | refine blk_alloc ?_ _)); refine blk_put (cs := #[.int .i64 t127, .int .i64 0, .string (⟨#[]⟩ : ByteArray)]) ?_ 1 _ rfl; (with_reducible repeat (first | refine blk_drewN ?_ _ | refine blk_drew ?_ | refine blk_alloc ?_ _)); refine blk_put (cs := #[.int .i64 0, .int .i64 0, .string (⟨#[]⟩ : ByteArray)]) ?_ 0 _ rfl; (with_reducible repeat (first | refine blk_drewN ?_ _ | refine blk_drew ?_ | refine blk_alloc ?_ _)); exact BK131.out⟩, ⟨by repeat (first | (with_reducible first | exact HB.out | apply below_alloc | apply pw_below_drewN | apply below_drew1 | refine below_set ?_ GE131.out) | exact HB.out)⟩⟩
          · rw [if_neg c9] at H
            have c9b0 : (t130 == 0) = false := beq_eq_false_iff_ne.mpr c9
            have c9b1 : (t130 != 0) = true := bne_iff_ne.mpr c9
            (first | rw [c9b0] | (simp only [i64_w, i32_w]; rw [c9b0]) | skip)
            replace H := Option.bind_eq_some_iff.mp H
            obtain ⟨t132, A100, H⟩ := H
            replace H : (tailraceref02_Decode.j1 k1 x0_1 x4_1 t130 (t132 != 0) t127 t128 t129) = some (r1, r2) := H
            have A10 := Aside0.mk A100
            clear A100
            have H' := Aside0.mk H
            clear H
            have hcz11_0 : w7.cell? ⟨gb131, 0, none⟩ = some (.int .i64 0) := (blk_cell BK131.out 0).trans rfl
            have hcz11_1 : w7.cell? ⟨gb131, 1, none⟩ = some (.int .i64 0) := (blk_cell BK131.out 1).trans rfl
            have hcz11_2 : w7.cell? ⟨gb131, 2, none⟩ = some (.string (⟨#[]⟩ : ByteArray)) := (blk_cell BK131.out 2).trans rfl
            have hfz11_0 := blk_frozen BK131.out 0
            have hfz11_1 := blk_frozen BK131.out 1
            have hfz11_2 := blk_frozen BK131.out 2
            go_wp2_with (first | (go_at_call 28; (with_reducible refine (tailraceref01_Check.calls k1 t127 t128 t129 t132 _ A10.out).mono ?_); rintro e w12 ⟨rfl, hb⟩; have n0_ := Aside0.mk (Kd.V_below (by (with_reducible repeat (first | apply Kd.V_alloc | apply Kd.V_drewN | apply Kd.V_drew)); exact (Kd.V_mono (Kd.V_far (p := ⟨gb131, 2, none⟩) (Kd.V_far (p := ⟨gb131, 1, none⟩) (Kd.V_far (p := ⟨gb131, 0, none⟩) (Kd.V_mono HO_0.out (fun k_ hk => (⟨hk, hk.2⟩ : _ ∧ k_ ≠ gb131))) (fun _ hk => hk.2) (.int .i64 t127)) (fun _ hk => hk.2) (.int .i64 t128)) (fun _ hk => hk.2) (.string t129)) (fun _ h_ => h_.1))) hb); have n1_ := Aside0.mk (Kd.R_below (by (with_reducible repeat (first | apply Kd.R_alloc | apply Kd.R_drewN | apply Kd.R_drew)); exact (Kd.R_mono (Kd.R_far (p := ⟨gb131, 2, none⟩) (Kd.R_far (p := ⟨gb131, 1, none⟩) (Kd.R_far (p := ⟨gb131, 0, none⟩) (Kd.R_mono HO_4.out (fun k_ hk => (⟨hk, hk.2⟩ : _ ∧ k_ ≠ gb131))) (fun _ hk => hk.2) (.int .i64 t127)) (fun _ hk => hk.2) (.int .i64 t128)) (fun _ hk => hk.2) (.string t129)) (fun _ h_ => h_.1))) hb); have n2_ := Aside0.mk (blk_below (g := gb131) (o := .cells #[.int .i64 t127, .int .i64 t128, .string t129] 38 (0, 0)) (by (with_reducible repeat (first | refine blk_drewN ?_ _ | refine blk_drew ?_ | refine blk_alloc ?_ _)); refine blk_put (cs := #[.int .i64 t127, .int .i64 t128, .string (⟨#[]⟩ : ByteArray)]) ?_ 2 _ rfl; (with_reducible repeat (first | refine blk_drewN ?_ _ | refine blk_drew ?_ | refine blk_alloc ?_ _)); refine blk_put (cs := #[.int .i64 t127, .int .i64 0, .string (⟨#[]⟩ : ByteArray)]) ?_ 1 _ rfl; (with_reducible repeat (first | refine blk_drewN ?_ _ | refine blk_drew ?_ | refine blk_alloc ?_ _)); refine blk_put (cs := #[.int .i64 0, .int .i64 0, .string (⟨#[]⟩ : ByteArray)]) ?_ 0 _ rfl; (with_reducible repeat (first | refine blk_drewN ?_ _ | refine blk_drew ?_ | refine blk_alloc ?_ _)); exact BK131.out) hb); have n3_ := Aside0.mk (below_step (by repeat (first | (with_reducible first | exact HB.out | apply below_alloc | apply pw_below_drewN | apply below_drew1 | refine below_set ?_ GE131.out) | exact HB.out)) hb); clear HO_0; clear HO_4; clear BK131; clear HB; have HO_0 := n0_; have HO_4 := n1_; have BK131 := n2_; have HB := n3_; clear n0_ n1_ n2_ n3_; (try clear hb); (try clear hb2); (try clear hk); (try clear hi)))
            go_meet
            case rel => exact ⟨_, ((t132 != 0)), (by first | rfl | (simp; done) | (simp [*]; done)), H', ⟨by have := HK1.out; first | omega | exact Nat.le_refl _⟩, ⟨by (with_reducible repeat (first | apply Kd.V_alloc | apply Kd.V_drewN | apply Kd.V_drew)); exact Kd.V_mono HO_0.out (fun _ hk => ⟨hk.1.1, ⟨hk.1.2, hk.2⟩⟩)⟩, ⟨by (with_reducible repeat (first | apply Kd.R_alloc | apply Kd.R_drewN | apply Kd.R_drew)); exact HO_4.out⟩, ⟨by (with_reducible repeat (first | refine blk_drewN ?_ _ | refine blk_drew ?_ | refine blk_alloc ?_ _)); exact BK131.out⟩, ⟨by repeat (first | (with_reducible first | exact HB.out | apply below_alloc | apply pw_below_drewN | apply below_drew1 | refine below_set ?_ GE131.out) | exact HB.out)⟩⟩
        case rest =>
          clear HC4
          try clear c1
          try clear c2
          try clear c2b0
          try clear c2b1
          try clear p2
          try clear c9
          try clear c9b0
          try clear c9b1
          try clear hcz11_0
          try clear hcz11_1
          try clear hcz11_2
          try clear hcz8_0
          try clear hcz8_1
          try clear hcz8_2
          try clear hfz11_0
          try clear hfz11_1
          try clear hfz11_2
          try clear hfz8_0
          try clear hfz8_1
          try clear hfz8_2
          obtain ⟨kq, x21_3, rfl, HA, HJ3, HO_0, HO_4, BK131, HB⟩ := hcut
          cases kq with
          | zero => exact absurd HA.out (by simp [tailraceref02_Decode.j1])
          | succ kj3 =>
            have H := HA.out
            clear HA
            simp only [tailraceref02_Decode.j1] at H
            by_cases c13 : x21_3 = true
            · subst c13
              have H1 : (some (([] : List (S38)), 20)) = some (r1, r2) := by rw [if_pos rfl] at H; exact H
              clear H
              have H := H1
              clear H1
              simp only [Option.some.injEq, Prod.mk.injEq] at H
              obtain ⟨rfl, rfl⟩ := H
              go_wp2
              go_ret2
              exact ⟨_, by first | rfl | (simp [errW_none, errW_some] <;> rfl) | (simp [*, errW_none, errW_some] <;> rfl), by first | exact Kd.R_nil _ _ _ _ _ | exact Kd.N_nil _ _ _ _ _ | exact Kd.V_nil _ _ _ _ _ | exact Kd.Q_nil _ _ _ _ _ | exact Kd.S_nil _ _ _ _ _, by repeat (first | (with_reducible first | exact HB.out | apply below_alloc | apply pw_below_drewN | apply below_drew1 | refine below_set ?_ GE131.out) | exact HB.out)⟩
            · replace c13 := Bool.eq_false_iff.mpr c13
              subst c13
              have H1 : (if x4_1.length < 4398046511104 then (if 0 ≤ t130 then (if t130 ≤ (x0_1.length : Int) then (tailraceref02_Decode.l0 kj3 (x0_1.drop (t130 : Int).toNat) (x4_1 ++ [(⟨t127, t128, t129⟩ : S38)])) else (none)) else (none)) else (none)) = some (r1, r2) := by rw [if_neg (show ¬ (false = true) by decide)] at H; exact H
              clear H
              have H := H1
              clear H1
              by_cases c14 : x4_1.length < 4398046511104
              · rw [if_pos c14] at H
                have LMc14 := Aside0.mk c14
                clear c14
                obtain ⟨y133, hy133⟩ : ∃ y_ : List (S38), y_ = (x4_1 ++ [(⟨t127, t128, t129⟩ : S38)]) := ⟨_, rfl⟩
                replace H : (if 0 ≤ t130 then (if t130 ≤ (x0_1.length : Int) then (tailraceref02_Decode.l0 kj3 (x0_1.drop (t130 : Int).toNat) y133) else (none)) else (none)) = some (r1, r2) := by first | (rw [hy133]; with_reducible exact H) | (have H2_ := (Option.bind_some _ _).symm.trans H; rw [hy133]; with_reducible exact H2_) | (have H2_ := (Option.bind_some _ _).symm.trans H; with_reducible exact H2_) | with_reducible exact H | (rw [hy133]; exact H) | exact H
                have Ny133 := Aside0.mk hy133
                clear hy133
                by_cases c15 : 0 ≤ t130
                · rw [if_pos c15] at H
                  have c15b0 := eq_true c15
                  have c15b1 : decide (0 ≤ t130) = true := decide_eq_true c15
                  clear c15
                  by_cases c16 : t130 ≤ (x0_1.length : Int)
                  · rw [if_pos c16] at H
                    have c16b0 := eq_true c16
                    have c16b1 : decide (t130 ≤ (x0_1.length : Int)) = true := decide_eq_true c16
                    clear c16
                    obtain ⟨y136, hy136⟩ : ∃ y_ : List Int, y_ = (x0_1.drop (t130 : Int).toNat) := ⟨_, rfl⟩
                    replace H : (tailraceref02_Decode.l0 kj3 y136 y133) = some (r1, r2) := by first | (rw [hy136]; with_reducible exact H) | (have H2_ := (Option.bind_some _ _).symm.trans H; rw [hy136]; with_reducible exact H2_) | (have H2_ := (Option.bind_some _ _).symm.trans H; with_reducible exact H2_) | with_reducible exact H | (rw [hy136]; exact H) | exact H
                    have Ny136 := Aside0.mk hy136
                    clear hy136
                    have H' := Aside0.mk H
                    clear H
                    have hcz17_0 : wc.cell? ⟨gb131, 0, none⟩ = some (.int .i64 t127) := (blk_cell BK131.out 0).trans rfl
                    have hcz17_1 : wc.cell? ⟨gb131, 1, none⟩ = some (.int .i64 t128) := (blk_cell BK131.out 1).trans rfl
                    have hcz17_2 : wc.cell? ⟨gb131, 2, none⟩ = some (.string t129) := (blk_cell BK131.out 2).trans rfl
                    have hfz17_0 := blk_frozen BK131.out 0
                    have hfz17_1 := blk_frozen BK131.out 1
                    have hfz17_2 := blk_frozen BK131.out 2
                    go_wp2_with (first | ((with_reducible refine gate_builtin (b := .append) (xs := #[.tmp 22, .tmp 24]) rfl ?_); at_builtin; refine Kd.R_append k38 (w0 := w) w.heap.size rfl (.tmp 22) (.tmp 24) 23 38 (.agg #[(.int .i64 0), (.int .i64 0), (.string ⟨#[]⟩)]) 32 rfl Try.underlying23 info38 rfl (by decide) (by omega) u4 x4_1 (⟨t127, t128, t129⟩ : S38) [.int .i64 t127, .int .i64 t128, .string t129] (fun k_ => (w.heap.size ≤ k_) ∧ k_ ≠ gb131) (fun _ => False) rfl rfl ?aP (fun _ hk => hk.elim) ?aF ?aO ?aB ?aS ?aL ?_; (case aP => exact k38_mkM _ _ _ (⟨t127, t128, t129⟩ : S38)); (case aB => exact (by repeat (first | (with_reducible first | exact HB.out | apply below_alloc | apply pw_below_drewN | apply below_drew1 | refine below_set ?_ GE131.out) | exact HB.out))); (case aF => exact (fun k_ hk => ⟨(Nat.le_trans (below_size (by repeat (first | (with_reducible first | exact HB.out | apply below_alloc | apply pw_below_drewN | apply below_drew1 | refine below_set ?_ GE131.out) | exact HB.out))) hk), Kd.freshB (g := gb131) (o := .cells #[.int .i64 t127, .int .i64 t128, .string t129] 38 (0, 0)) (by (with_reducible repeat (first | refine blk_drewN ?_ _ | refine blk_drew ?_ | refine blk_alloc ?_ _)); exact BK131.out) k_ hk⟩)); (case aO => exact (by (with_reducible repeat (first | apply Kd.R_alloc | apply Kd.R_drewN | apply Kd.R_drew)); exact HO_4.out)); (case aS => exact (below_size (by repeat (first | (with_reducible first | exact HB.out | apply below_alloc | apply pw_below_drewN | apply below_drew1 | refine below_set ?_ GE131.out) | exact HB.out)))); (case aL => have := LMc14.out; omega); intro v134 w18 ho hb hg hat; rw [← Ny133.out] at ho; have n0_ := Aside0.mk (Kd.V_afterv (ok := (fun k_ => (P0_ k_ ∨ w.heap.size ≤ k_) ∧ k_ ≠ gb131)) (by (with_reducible repeat (first | apply Kd.V_alloc | apply Kd.V_drewN | apply Kd.V_drew)); exact Kd.V_mono HO_0.out (fun _ hk => ⟨⟨hk.1, hk.2.2⟩, hk.2.1⟩)) hg hat); have n1_ := Aside0.mk (blk_grown (g := gb131) (o := .cells #[.int .i64 t127, .int .i64 t128, .string t129] 38 (0, 0)) (by (with_reducible repeat (first | refine blk_drewN ?_ _ | refine blk_drew ?_ | refine blk_alloc ?_ _)); exact BK131.out) hg (Kd.R_away HO_4.out (fun _ hk => hk.2))); have n2_ := Aside0.mk (hb); have n3_ := Aside0.mk (ho); clear HO_0; clear BK131; clear HB; clear HO_4; have HO_0 := n0_; have BK131 := n1_; have HB := n2_; have HO135 := n3_; clear n0_ n1_ n2_ n3_; clear ho hb hg hat; have q19 : (t130 : Int) ≤ ((x0_1.length : Int) : Int) := of_decide_eq_true (by first | (with_reducible assumption) | assumption); obtain ⟨i019, hi019, _, hsz19, _⟩ := info_parts info5; have hroom19 : x0_1.length ≤ co5 := (Kd.V_reads' HO_0.out).2.1; have hC19 : Kd.F (Kd.int .u8) _ _ Ao5 x0_1.length x0_1 := (Kd.V_at (base := w.heap.size) HO_0.out).2.2; have q019 : (0 : Int) ≤ (t130 : Int) := of_decide_eq_true (by first | (with_reducible assumption) | assumption); have hcut19 := cut_from (P := Try.prog) 24 5 .i64 Try.underlying24 hi019 1 hsz19 Ao5 x0_1.length co5 t130 q019 q19; have hr19 := Kd.F_cut (m := (t130 : Int).toNat) (c := co5) hC19 (by omega) hroom19; obtain ⟨A19, hA19⟩ : ∃ A1, A1 = (if co5 = (t130 : Int).toNat then Ao5 else (Ao5 : Option Addr).map (·.add ((t130 : Int).toNat * 1))) := ⟨_, rfl⟩; obtain ⟨c19, hc19⟩ : ∃ c1, c1 = co5 - (t130 : Int).toNat := ⟨_, rfl⟩; have hy19 : y136.length = x0_1.length - (t130 : Int).toNat := (by rw [Ny136.out, List.length_drop] <;> omega); rw [show (x0_1).drop (t130 : Int).toNat = y136 from Ny136.out.symm] at hr19; replace hr19 : Kd.F (Kd.int .u8) _ _ A19 y136.length y136 := (by rw [hA19]; exact hr19); rw [← hy19, ← hA19, ← hc19] at hcut19; have HO140 := Aside0.mk (show Kd.V (Kd.int .u8) 5 _ w.heap.size _ (.slice A19 y136.length c19) y136 from Kd.V_mk (by rw [hy19, hc19]; exact Nat.sub_le_sub_right hroom19 _) hr19); have HC140 := Aside0.mk (show y136.length ≤ c19 from by rw [hy19, hc19]; exact Nat.sub_le_sub_right hroom19 _); clear hr19 hC19 hroom19 hi019 hsz19 hc19; have KY19 := Aside0.mk hy19; have KA19 := Aside0.mk hA19; clear hy19 hA19; replace q19 := eq_true q19))
                    go_roundg kj3
                    case measure => have := HK1.out; have := HJ3.out; omega
                    case rel => exact ⟨(y136), (y133), H', ⟨by have := HK1.out; have := HJ3.out; omega⟩, ⟨by (with_reducible repeat (first | apply Kd.V_alloc | apply Kd.V_drewN | apply Kd.V_drew)); exact Kd.V_mono HO140.out (fun _ hk => ⟨hk.1.1, hk.2⟩)⟩, ⟨by (with_reducible repeat (first | apply Kd.R_alloc | apply Kd.R_drewN | apply Kd.R_drew)); exact Kd.R_mono HO135.out (fun _ hk => hk.1)⟩, ⟨by repeat (first | (with_reducible first | exact HB.out | apply below_alloc | apply pw_below_drewN | apply below_drew1 | refine below_set ?_ GE131.out) | exact HB.out)⟩⟩
                  · rw [if_neg c16] at H
                    exact absurd H (by simp)
                · rw [if_neg c15] at H
                  exact absurd H (by simp)
              · rw [if_neg c14] at H
                exact absurd H (by simp)
      · rw [if_neg c2] at H
        have c2b0 : decide (0 < (x0_1.length : Int)) = false := decide_eq_false c2
        have c2b1 : decide (0 < x0_1.length) = false := decide_eq_false (by omega)
        clear c2
        simp only [Option.some.injEq, Prod.mk.injEq] at H
        obtain ⟨rfl, rfl⟩ := H
        obtain ⟨Ao20, co20, eo20⟩ := Kd.V_slice HO_0.out
        subst eo20
        go_wp2
        go_ret2
        exact ⟨_, by first | rfl | (simp [errW_none, errW_some] <;> rfl) | (simp [*, errW_none, errW_some] <;> rfl), by (with_reducible repeat (first | apply Kd.R_alloc | apply Kd.R_drewN | apply Kd.R_drew)); exact HO_4.out, by repeat (first | (with_reducible first | exact HB.out | apply below_alloc | apply pw_below_drewN | apply below_drew1) | exact HB.out)⟩

end Go.Proofs.Ytniihilegljgmaa.P
