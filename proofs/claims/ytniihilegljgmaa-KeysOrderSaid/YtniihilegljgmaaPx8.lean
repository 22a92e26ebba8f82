-- Written by a program of this session (a patched print): not the kit's own print.
import Derived.Test.YtniihilegljgmaaPx0
import Derived.Test.YtniihilegljgmaaPx2
import Derived.Test.YtniihilegljgmaaPx3
import Derived.Test.YtniihilegljgmaaPx7
import Derived.Test.YtniihilegljgmaaHandA
import Derived.Test.YtniihilegljgmaaHandR
import Derived.Test.YtniihilegljgmaaHandW
namespace Go.Proofs.Ytniihilegljgmaa.P
open Go.RowKit Go.Proofs.YtniihilegljgmaaW.PrintWords Go.Proofs.YtniihilegljgmaaW.PrintLast Go.Proofs.YtniihilegljgmaaW.PrintMore
attribute [local go_sem] Go.Proofs.YtniihilegljgmaaOwn.leq_str Go.Proofs.YtniihilegljgmaaOwn.gtr_str Go.Proofs.YtniihilegljgmaaOwn.geq_str max2_int min2_int max_two min_two max_three min_three max_four min_four   -- for this text's walks alone
set_option linter.unusedVariables false
set_option linter.unusedSimpArgs false

/-! ### cmp_isNaN_int: function 43 -/
def cmp_isNaN_int.f (a0 : Int) : Option (Bool) := some (a0 != a0)
set_option maxHeartbeats 8000000 in
set_option maxRecDepth 100000 in
theorem cmp_isNaN_int.calls (a0 : Int) (r : Bool) (w : World) (h : cmp_isNaN_int.f a0 = some r) :
    Calls Try.prog 43 #[.int .i64 a0] w fun e w' => e = .returned (.bool r) ∧ Drawn0 w w' := by
  have H : (some (a0 != a0)) = some r := h
  clear h
  obtain rfl := Option.some.inj H
  go_enter Try.func43, Try.ntmps43
  go_wp2
  go_ret
  exact ⟨by first | rfl | (simp; done) | (simp [*]; done), by repeat (first | exact Drawn0.refl _ | apply Drawn0.step)⟩

-- BY HAND: function 35 (cmp_Compare_int)

/-! ### cmp_isNaN_int64: function 44 -/
def cmp_isNaN_int64.f (a0 : Int) : Option (Bool) := some (a0 != a0)
set_option maxHeartbeats 8000000 in
set_option maxRecDepth 100000 in
theorem cmp_isNaN_int64.calls (a0 : Int) (r : Bool) (w : World) (h : cmp_isNaN_int64.f a0 = some r) :
    Calls Try.prog 44 #[.int .i64 a0] w fun e w' => e = .returned (.bool r) ∧ Drawn0 w w' := by
  have H : (some (a0 != a0)) = some r := h
  clear h
  obtain rfl := Option.some.inj H
  go_enter Try.func44, Try.ntmps44
  go_wp2
  go_ret
  exact ⟨by first | rfl | (simp; done) | (simp [*]; done), by repeat (first | exact Drawn0.refl _ | apply Drawn0.step)⟩

-- BY HAND: function 41 (cmp_Compare_int64)

/-! ### cmp_isNaN_string: function 45 -/
def cmp_isNaN_string.f (a0 : ByteArray) : Option (Bool) := some (a0.toList != a0.toList)
set_option maxHeartbeats 8000000 in
set_option maxRecDepth 100000 in
theorem cmp_isNaN_string.calls (a0 : ByteArray) (r : Bool) (w : World) (h : cmp_isNaN_string.f a0 = some r) :
    Calls Try.prog 45 #[.string a0] w fun e w' => e = .returned (.bool r) ∧ Drawn0 w w' := by
  have H : (some (a0.toList != a0.toList)) = some r := h
  clear h
  obtain rfl := Option.some.inj H
  go_enter Try.func45, Try.ntmps45
  go_wp2
  go_ret
  exact ⟨by first | rfl | (simp; done) | (simp [*]; done), by repeat (first | exact Drawn0.refl _ | apply Drawn0.step)⟩

-- BY HAND: function 42 (cmp_Compare_string)

/-! ### value_Cmp: function 34 -/
def value_Cmp.f (a0_0 : Int) (a0_1 : Int) (a0_2 : ByteArray) (a1_0 : Int) (a1_1 : Int) (a1_2 : ByteArray) : Option (Int) := (cmp_Compare_int.f a0_0 a1_0).bind fun t261 => (if t261 = 0 then ((cmp_Compare_int64.f a0_1 a1_1).bind fun t262 => (if t262 = 0 then ((cmp_Compare_string.f a0_2 a1_2).bind fun t263 => (some t263)) else (some t262))) else (some t261))
set_option maxHeartbeats 8000000 in
set_option maxRecDepth 100000 in
theorem value_Cmp.calls (a0_0 : Int) (a0_1 : Int) (a0_2 : ByteArray) (a1_0 : Int) (a1_1 : Int) (a1_2 : ByteArray) (r : Int) (w : World) (h : value_Cmp.f a0_0 a0_1 a0_2 a1_0 a1_1 a1_2 = some r) :
    Calls Try.prog 34 #[.agg #[.int .i64 a0_0, .int .i64 a0_1, .string a0_2], .agg #[.int .i64 a1_0, .int .i64 a1_1, .string a1_2]] w fun e w' => e = .returned (.int .i64 r) ∧ Below w.heap.size w w' := by
  have hu38 := Try.underlying38
  have HB := Aside0.mk (Below.refl w.heap.size w)
  have H : ((cmp_Compare_int.f a0_0 a1_0).bind fun t261 => (if t261 = 0 then ((cmp_Compare_int64.f a0_1 a1_1).bind fun t262 => (if t262 = 0 then ((cmp_Compare_string.f a0_2 a1_2).bind fun t263 => (some t263)) else (some t262))) else (some t261))) = some r := h
  clear h
  replace H := Option.bind_eq_some_iff.mp H
  obtain ⟨t261, A30, H⟩ := H
  replace H : (if t261 = 0 then ((cmp_Compare_int64.f a0_1 a1_1).bind fun t262 => (if t262 = 0 then ((cmp_Compare_string.f a0_2 a1_2).bind fun t263 => (some t263)) else (some t262))) else (some t261)) = some r := H
  have A3 := Aside0.mk A30
  clear A30
  by_cases c4 : t261 = 0
  · rw [if_pos c4] at H
    have c4b0 : (t261 == 0) = true := beq_iff_eq.mpr c4
    have c4b1 : (t261 != 0) = false := bne_eq_false_iff_eq.mpr c4
    clear c4
    replace H := Option.bind_eq_some_iff.mp H
    obtain ⟨t262, A50, H⟩ := H
    replace H : (if t262 = 0 then ((cmp_Compare_string.f a0_2 a1_2).bind fun t263 => (some t263)) else (some t262)) = some r := H
    have A5 := Aside0.mk A50
    clear A50
    by_cases c6 : t262 = 0
    · rw [if_pos c6] at H
      have c6b0 : (t262 == 0) = true := beq_iff_eq.mpr c6
      have c6b1 : (t262 != 0) = false := bne_eq_false_iff_eq.mpr c6
      clear c6
      replace H := Option.bind_eq_some_iff.mp H
      obtain ⟨t263, A70, H⟩ := H
      replace H : (some t263) = some r := H
      have A7 := Aside0.mk A70
      clear A70
      obtain rfl := Option.some.inj H
      go_enter Try.func34, Try.ntmps34
      go_wp2_with (first | ((with_reducible refine gate_dst (N := 2) rfl ?_); refine box_event ?hg (N := 2) ?hd (cs := #[.int .i64 a0_0, .int .i64 a0_1, .string a0_2]) (t := 38) ?hr ?_; (case hd => rfl); (case hg => rfl); (case hr => first | (go_simp; done) | (go_simp; rfl)); intro gb259 hg w8 hbox hb; have n0_ := Aside0.mk (below_step (by repeat (first | (with_reducible first | exact HB.out | apply below_alloc | apply pw_below_drewN | apply below_drew1) | exact HB.out)) hb); have n1_ := Aside0.mk (hbox); have n2_ := Aside0.mk ((by rw [hg]; exact (below_size (by repeat (first | (with_reducible first | exact HB.out | apply below_alloc | apply pw_below_drewN | apply below_drew1) | exact HB.out))) : w.heap.size ≤ gb259)); have n3_ := Aside0.mk ((by rw [hg]; exact (below_size (by repeat (first | (with_reducible first | exact HB.out | apply below_alloc | apply pw_below_drewN | apply below_drew1) | exact HB.out))) : w.heap.size ≤ gb259)); clear HB; have HB := n0_; have BK259 := n1_; have GW259 := n2_; have GE259 := n3_; clear n0_ n1_ n2_ n3_; clear hb hbox hg) | ((with_reducible refine gate_dst (N := 3) rfl ?_); refine box_event ?hg (N := 3) ?hd (cs := #[.int .i64 a1_0, .int .i64 a1_1, .string a1_2]) (t := 38) ?hr ?_; (case hd => rfl); (case hg => rfl); (case hr => first | (go_simp; done) | (go_simp; rfl)); intro gb260 hg w9 hbox hb; have n0_ := Aside0.mk (blk_below (g := gb259) (o := .cells #[.int .i64 a0_0, .int .i64 a0_1, .string a0_2] 38 (0, 0)) (by (with_reducible repeat (first | refine blk_drewN ?_ _ | refine blk_drew ?_ | refine blk_alloc ?_ _)); exact BK259.out) hb); have n1_ := Aside0.mk (below_step (by repeat (first | (with_reducible first | exact HB.out | apply below_alloc | apply pw_below_drewN | apply below_drew1 | refine below_set ?_ GE259.out) | exact HB.out)) hb); have n2_ := Aside0.mk (hbox); have n3_ := Aside0.mk ((by rw [hg]; exact (below_size (by repeat (first | (with_reducible first | exact HB.out | apply below_alloc | apply pw_below_drewN | apply below_drew1 | refine below_set ?_ GE259.out) | exact HB.out))) : w.heap.size ≤ gb260)); have n4_ := Aside0.mk ((by rw [hg]; exact (below_size (by repeat (first | (with_reducible first | exact HB.out | apply below_alloc | apply pw_below_drewN | apply below_drew1 | refine below_set ?_ GE259.out) | exact HB.out))) : w.heap.size ≤ gb260)); have n5_ := Aside0.mk ((by rw [hg]; exact Nat.ne_of_lt (blk_lt (g := gb259) (o := .cells #[.int .i64 a0_0, .int .i64 a0_1, .string a0_2] 38 (0, 0)) (by (with_reducible repeat (first | refine blk_drewN ?_ _ | refine blk_drew ?_ | refine blk_alloc ?_ _)); exact BK259.out)) : gb259 ≠ gb260)); have n6_ := Aside0.mk ((by rw [hg]; exact Nat.ne_of_gt (blk_lt (g := gb259) (o := .cells #[.int .i64 a0_0, .int .i64 a0_1, .string a0_2] 38 (0, 0)) (by (with_reducible repeat (first | refine blk_drewN ?_ _ | refine blk_drew ?_ | refine blk_alloc ?_ _)); exact BK259.out)) : gb260 ≠ gb259)); clear BK259; clear HB; have BK259 := n0_; have HB := n1_; have BK260 := n2_; have GW260 := n3_; have GE260 := n4_; have NB259_260 := n5_; have NB260_259 := n6_; clear n0_ n1_ n2_ n3_ n4_ n5_ n6_; clear hb hbox hg; have hnb10 := NB259_260.out; have hnc10 := NB260_259.out; have hcz11_0 : w9.cell? ⟨gb259, 0, none⟩ = some (.int .i64 a0_0) := (blk_cell BK259.out 0).trans rfl; have hcz11_1 : w9.cell? ⟨gb259, 1, none⟩ = some (.int .i64 a0_1) := (blk_cell BK259.out 1).trans rfl; have hcz11_2 : w9.cell? ⟨gb259, 2, none⟩ = some (.string a0_2) := (blk_cell BK259.out 2).trans rfl; have hfz11_0 := blk_frozen BK259.out 0; have hfz11_1 := blk_frozen BK259.out 1; have hfz11_2 := blk_frozen BK259.out 2; have hcz12_0 : w9.cell? ⟨gb260, 0, none⟩ = some (.int .i64 a1_0) := (blk_cell BK260.out 0).trans rfl; have hcz12_1 : w9.cell? ⟨gb260, 1, none⟩ = some (.int .i64 a1_1) := (blk_cell BK260.out 1).trans rfl; have hcz12_2 : w9.cell? ⟨gb260, 2, none⟩ = some (.string a1_2) := (blk_cell BK260.out 2).trans rfl; have hfz12_0 := blk_frozen BK260.out 0; have hfz12_1 := blk_frozen BK260.out 1; have hfz12_2 := blk_frozen BK260.out 2) | ((with_reducible refine gate_callee (f := 35) rfl ?_); refine goesL_ (some 11) rfl rfl Try.func35 (by kernel_rfl) rfl #[.int .i64 a0_0, .int .i64 a1_0] rfl (by (try simp only [List.map_toArray, List.map_cons, List.map_nil]); first | done | rfl | (simp only [List.length_drop, List.length_take]; rfl)) ?_; (with_reducible refine (cmp_Compare_int.calls a0_0 a1_0 t261 _ A3.out).mono ?_); rintro e w' ⟨rfl, ⟨nd, rfl⟩⟩; refine ⟨_, rfl, ?_⟩) | ((with_reducible refine gate_callee (f := 41) rfl ?_); refine goesL_ (some 19) rfl rfl Try.func41 (by kernel_rfl) rfl #[.int .i64 a0_1, .int .i64 a1_1] rfl (by (try simp only [List.map_toArray, List.map_cons, List.map_nil]); first | done | rfl | (simp only [List.length_drop, List.length_take]; rfl)) ?_; (with_reducible refine (cmp_Compare_int64.calls a0_1 a1_1 t262 _ A5.out).mono ?_); rintro e w' ⟨rfl, ⟨nd, rfl⟩⟩; refine ⟨_, rfl, ?_⟩) | ((with_reducible refine gate_callee (f := 42) rfl ?_); refine goesL_ (some 27) rfl rfl Try.func42 (by kernel_rfl) rfl #[.string a0_2, .string a1_2] rfl (by (try simp only [List.map_toArray, List.map_cons, List.map_nil]); first | done | rfl | (simp only [List.length_drop, List.length_take]; rfl)) ?_; (with_reducible refine (cmp_Compare_string.calls a0_2 a1_2 t263 _ A7.out).mono ?_); rintro e w' ⟨rfl, ⟨nd, rfl⟩⟩; refine ⟨_, rfl, ?_⟩))
      go_ret
      exact ⟨by first | rfl | (simp [errW_none, errW_some] <;> rfl) | (simp [*, errW_none, errW_some] <;> rfl), by repeat (first | (with_reducible first | exact HB.out | apply below_alloc | apply pw_below_drewN | apply below_drew1 | refine below_set ?_ GE259.out | refine below_set ?_ GE260.out) | exact HB.out)⟩
    · rw [if_neg c6] at H
      have c6b0 : (t262 == 0) = false := beq_eq_false_iff_ne.mpr c6
      have c6b1 : (t262 != 0) = true := bne_iff_ne.mpr c6
      obtain rfl := Option.some.inj H
      go_enter Try.func34, Try.ntmps34
      go_wp2_with (first | ((with_reducible refine gate_dst (N := 2) rfl ?_); refine box_event ?hg (N := 2) ?hd (cs := #[.int .i64 a0_0, .int .i64 a0_1, .string a0_2]) (t := 38) ?hr ?_; (case hd => rfl); (case hg => rfl); (case hr => first | (go_simp; done) | (go_simp; rfl)); intro gb259 hg w13 hbox hb; have n0_ := Aside0.mk (below_step (by repeat (first | (with_reducible first | exact HB.out | apply below_alloc | apply pw_below_drewN | apply below_drew1) | exact HB.out)) hb); have n1_ := Aside0.mk (hbox); have n2_ := Aside0.mk ((by rw [hg]; exact (below_size (by repeat (first | (with_reducible first | exact HB.out | apply below_alloc | apply pw_below_drewN | apply below_drew1) | exact HB.out))) : w.heap.size ≤ gb259)); have n3_ := Aside0.mk ((by rw [hg]; exact (below_size (by repeat (first | (with_reducible first | exact HB.out | apply below_alloc | apply pw_below_drewN | apply below_drew1) | exact HB.out))) : w.heap.size ≤ gb259)); clear HB; have HB := n0_; have BK259 := n1_; have GW259 := n2_; have GE259 := n3_; clear n0_ n1_ n2_ n3_; clear hb hbox hg) | ((with_reducible refine gate_dst (N := 3) rfl ?_); refine box_event ?hg (N := 3) ?hd (cs := #[.int .i64 a1_0, .int .i64 a1_1, .string a1_2]) (t := 38) ?hr ?_; (case hd => rfl); (case hg => rfl); (case hr => first | (go_simp; done) | (go_simp; rfl)); intro gb260 hg w14 hbox hb; have n0_ := Aside0.mk (blk_below (g := gb259) (o := .cells #[.int .i64 a0_0, .int .i64 a0_1, .string a0_2] 38 (0, 0)) (by (with_reducible repeat (first | refine blk_drewN ?_ _ | refine blk_drew ?_ | refine blk_alloc ?_ _)); exact BK259.out) hb); have n1_ := Aside0.mk (below_step (by repeat (first | (with_reducible first | exact HB.out | apply below_alloc | apply pw_below_drewN | apply below_drew1 | refine below_set ?_ GE259.out) | exact HB.out)) hb); have n2_ := Aside0.mk (hbox); have n3_ := Aside0.mk ((by rw [hg]; exact (below_size (by repeat (first | (with_reducible first | exact HB.out | apply below_alloc | apply pw_below_drewN | apply below_drew1 | refine below_set ?_ GE259.out) | exact HB.out))) : w.heap.size ≤ gb260)); have n4_ := Aside0.mk ((by rw [hg]; exact (below_size (by repeat (first | (with_reducible first | exact HB.out | apply below_alloc | apply pw_below_drewN | apply below_drew1 | refine below_set ?_ GE259.out) | exact HB.out))) : w.heap.size ≤ gb260)); have n5_ := Aside0.mk ((by rw [hg]; exact Nat.ne_of_lt (blk_lt (g := gb259) (o := .cells #[.int .i64 a0_0, .int .i64 a0_1, .string a0_2] 38 (0, 0)) (by (with_reducible repeat (first | refine blk_drewN ?_ _ | refine blk_drew ?_ | refine blk_alloc ?_ _)); exact BK259.out)) : gb259 ≠ gb260)); have n6_ := Aside0.mk ((by rw [hg]; exact Nat.ne_of_gt (blk_lt (g := gb259) (o := .cells #[.int .i64 a0_0, .int .i64 a0_1, .string a0_2] 38 (0, 0)) (by (with_reducible repeat (first | refine blk_drewN ?_ _ | refine blk_drew ?_ | refine blk_alloc ?_ _)); exact BK259.out)) : gb260 ≠ gb259)); clear BK259; clear HB; have BK259 := n0_; have HB := n1_; have BK260 := n2_; have GW260 := n3_; have GE260 := n4_; have NB259_260 := n5_; have NB260_259 := n6_; clear n0_ n1_ n2_ n3_ n4_ n5_ n6_; clear hb hbox hg; have hnb15 := NB259_260.out; have hnc15 := NB260_259.out; have hcz16_0 : w14.cell? ⟨gb259, 0, none⟩ = some (.int .i64 a0_0) := (blk_cell BK259.out 0).trans rfl; have hcz16_1 : w14.cell? ⟨gb259, 1, none⟩ = some (.int .i64 a0_1) := (blk_cell BK259.out 1).trans rfl; have hcz16_2 : w14.cell? ⟨gb259, 2, none⟩ = some (.string a0_2) := (blk_cell BK259.out 2).trans rfl; have hfz16_0 := blk_frozen BK259.out 0; have hfz16_1 := blk_frozen BK259.out 1; have hfz16_2 := blk_frozen BK259.out 2; have hcz17_0 : w14.cell? ⟨gb260, 0, none⟩ = some (.int .i64 a1_0) := (blk_cell BK260.out 0).trans rfl; have hcz17_1 : w14.cell? ⟨gb260, 1, none⟩ = some (.int .i64 a1_1) := (blk_cell BK260.out 1).trans rfl; have hcz17_2 : w14.cell? ⟨gb260, 2, none⟩ = some (.string a1_2) := (blk_cell BK260.out 2).trans rfl; have hfz17_0 := blk_frozen BK260.out 0; have hfz17_1 := blk_frozen BK260.out 1; have hfz17_2 := blk_frozen BK260.out 2) | ((with_reducible refine gate_callee (f := 35) rfl ?_); refine goesL_ (some 11) rfl rfl Try.func35 (by kernel_rfl) rfl #[.int .i64 a0_0, .int .i64 a1_0] rfl (by (try simp only [List.map_toArray, List.map_cons, List.map_nil]); first | done | rfl | (simp only [List.length_drop, List.length_take]; rfl)) ?_; (with_reducible refine (cmp_Compare_int.calls a0_0 a1_0 t261 _ A3.out).mono ?_); rintro e w' ⟨rfl, ⟨nd, rfl⟩⟩; refine ⟨_, rfl, ?_⟩) | ((with_reducible refine gate_callee (f := 41) rfl ?_); refine goesL_ (some 19) rfl rfl Try.func41 (by kernel_rfl) rfl #[.int .i64 a0_1, .int .i64 a1_1] rfl (by (try simp only [List.map_toArray, List.map_cons, List.map_nil]); first | done | rfl | (simp only [List.length_drop, List.length_take]; rfl)) ?_; (with_reducible refine (cmp_Compare_int64.calls a0_1 a1_1 t262 _ A5.out).mono ?_); rintro e w' ⟨rfl, ⟨nd, rfl⟩⟩; refine ⟨_, rfl, ?_⟩))
      go_ret
      exact ⟨by first | rfl | (simp [errW_none, errW_some] <;> rfl) | (simp [*, errW_none, errW_some] <;> rfl), by repeat (first | (with_reducible first | exact HB.out | apply below_alloc | apply pw_below_drewN | apply below_drew1 | refine below_set ?_ GE259.out | refine below_set ?_ GE260.out) | exact HB.out)⟩
  · rw [if_neg c4] at H
    have c4b0 : (t261 == 0) = false := beq_eq_false_iff_ne.mpr c4
    have c4b1 : (t261 != 0) = true := bne_iff_ne.mpr c4
    obtain rfl := Option.some.inj H
    go_enter Try.func34, Try.ntmps34
    go_wp2_with (first | ((with_reducible refine gate_dst (N := 2) rfl ?_); refine box_event ?hg (N := 2) ?hd (cs := #[.int .i64 a0_0, .int .i64 a0_1, .string a0_2]) (t := 38) ?hr ?_; (case hd => rfl); (case hg => rfl); (case hr => first | (go_simp; done) | (go_simp; rfl)); intro gb259 hg w18 hbox hb; have n0_ := Aside0.mk (below_step (by repeat (first | (with_reducible first | exact HB.out | apply below_alloc | apply pw_below_drewN | apply below_drew1) | exact HB.out)) hb); have n1_ := Aside0.mk (hbox); have n2_ := Aside0.mk ((by rw [hg]; exact (below_size (by repeat (first | (with_reducible first | exact HB.out | apply below_alloc | apply pw_below_drewN | apply below_drew1) | exact HB.out))) : w.heap.size ≤ gb259)); have n3_ := Aside0.mk ((by rw [hg]; exact (below_size (by repeat (first | (with_reducible first | exact HB.out | apply below_alloc | apply pw_below_drewN | apply below_drew1) | exact HB.out))) : w.heap.size ≤ gb259)); clear HB; have HB := n0_; have BK259 := n1_; have GW259 := n2_; have GE259 := n3_; clear n0_ n1_ n2_ n3_; clear hb hbox hg) | ((with_reducible refine gate_dst (N := 3) rfl ?_); refine box_event ?hg (N := 3) ?hd (cs := #[.int .i64 a1_0, .int .i64 a1_1, .string a1_2]) (t := 38) ?hr ?_; (case hd => rfl); (case hg => rfl); (case hr => first | (go_simp; done) | (go_simp; rfl)); intro gb260 hg w19 hbox hb; have n0_ := Aside0.mk (blk_below (g := gb259) (o := .cells #[.int .i64 a0_0, .int .i64 a0_1, .string a0_2] 38 (0, 0)) (by (with_reducible repeat (first | refine blk_drewN ?_ _ | refine blk_drew ?_ | refine blk_alloc ?_ _)); exact BK259.out) hb); have n1_ := Aside0.mk (below_step (by repeat (first | (with_reducible first | exact HB.out | apply below_alloc | apply pw_below_drewN | apply below_drew1 | refine below_set ?_ GE259.out) | exact HB.out)) hb); have n2_ := Aside0.mk (hbox); have n3_ := Aside0.mk ((by rw [hg]; exact (below_size (by repeat (first | (with_reducible first | exact HB.out | apply below_alloc | apply pw_below_drewN | apply below_drew1 | refine below_set ?_ GE259.out) | exact HB.out))) : w.heap.size ≤ gb260)); have n4_ := Aside0.mk ((by rw [hg]; exact (below_size (by repeat (first | (with_reducible first | exact HB.out | apply below_alloc | apply pw_below_drewN | apply below_drew1 | refine below_set ?_ GE259.out) | exact HB.out))) : w.heap.size ≤ gb260)); have n5_ := Aside0.mk ((by rw [hg]; exact Nat.ne_of_lt (blk_lt (g := gb259) (o := .cells #[.int .i64 a0_0, .int .i64 a0_1, .string a0_2] 38 (0, 0)) (by (with_reducible repeat (first | refine blk_drewN ?_ _ | refine blk_drew ?_ | refine blk_alloc ?_ _)); exact BK259.out)) : gb259 ≠ gb260)); have n6_ := Aside0.mk ((by rw [hg]; exact Nat.ne_of_gt (blk_lt (g := gb259) (o := .cells #[.int .i64 a0_0, .int .i64 a0_1, .string a0_2] 38 (0, 0)) (by (with_reducible repeat (first | refine blk_drewN ?_ _ | refine blk_drew ?_ | refine blk_alloc ?_ _)); exact BK259.out)) : gb260 ≠ gb259)); clear BK259; clear HB; have BK259 := n0_; have HB := n1_; have BK260 := n2_; have GW260 := n3_; have GE260 := n4_; have NB259_260 := n5_; have NB260_259 := n6_; clear n0_ n1_ n2_ n3_ n4_ n5_ n6_; clear hb hbox hg; have hnb20 := NB259_260.out; have hnc20 := NB260_259.out; have hcz21_0 : w19.cell? ⟨gb259, 0, none⟩ = some (.int .i64 a0_0) := (blk_cell BK259.out 0).trans rfl; have hcz21_1 : w19.cell? ⟨gb259, 1, none⟩ = some (.int .i64 a0_1) := (blk_cell BK259.out 1).trans rfl; have hcz21_2 : w19.cell? ⟨gb259, 2, none⟩ = some (.string a0_2) := (blk_cell BK259.out 2).trans rfl; have hfz21_0 := blk_frozen BK259.out 0; have hfz21_1 := blk_frozen BK259.out 1; have hfz21_2 := blk_frozen BK259.out 2; have hcz22_0 : w19.cell? ⟨gb260, 0, none⟩ = some (.int .i64 a1_0) := (blk_cell BK260.out 0).trans rfl; have hcz22_1 : w19.cell? ⟨gb260, 1, none⟩ = some (.int .i64 a1_1) := (blk_cell BK260.out 1).trans rfl; have hcz22_2 : w19.cell? ⟨gb260, 2, none⟩ = some (.string a1_2) := (blk_cell BK260.out 2).trans rfl; have hfz22_0 := blk_frozen BK260.out 0; have hfz22_1 := blk_frozen BK260.out 1; have hfz22_2 := blk_frozen BK260.out 2) | ((with_reducible refine gate_callee (f := 35) rfl ?_); refine goesL_ (some 11) rfl rfl Try.func35 (by kernel_rfl) rfl #[.int .i64 a0_0, .int .i64 a1_0] rfl (by (try simp only [List.map_toArray, List.map_cons, List.map_nil]); first | done | rfl | (simp only [List.length_drop, List.length_take]; rfl)) ?_; (with_reducible refine (cmp_Compare_int.calls a0_0 a1_0 t261 _ A3.out).mono ?_); rintro e w' ⟨rfl, ⟨nd, rfl⟩⟩; refine ⟨_, rfl, ?_⟩))
    go_ret
    exact ⟨by first | rfl | (simp [errW_none, errW_some] <;> rfl) | (simp [*, errW_none, errW_some] <;> rfl), by repeat (first | (with_reducible first | exact HB.out | apply below_alloc | apply pw_below_drewN | apply below_drew1 | refine below_set ?_ GE259.out | refine below_set ?_ GE260.out) | exact HB.out)⟩

/-! ### value_CmpRow: function 23 -/
def value_CmpRow.l0 : Nat → List (S38) → List (S38) → List (S38) → Int → Int → Option (Int)
  | 0, _, _, _, _, _ => none
  | k + 1, x0, x1, x8, x9, x10 => if x10 < x9 then (if 0 ≤ x10 then (if x10 < (x8.length : Int) then (if x10 ≥ (x1.length : Int) then ((cmp_Compare_int.f (x0.length : Int) (x1.length : Int)).bind fun t267 => (some t267)) else (if x10 < (x1.length : Int) then ((value_Cmp.f ((rd_T38 x8 x10).f0) ((rd_T38 x8 x10).f1) ((rd_T38 x8 x10).f2) ((rd_T38 x1 x10).f0) ((rd_T38 x1 x10).f1) ((rd_T38 x1 x10).f2)).bind fun t269 => (if t269 = 0 then (value_CmpRow.l0 k x0 x1 x8 x9 (wrap64 (x10 + 1))) else (some t269))) else (none))) else (none)) else (none)) else ((cmp_Compare_int.f (x0.length : Int) (x1.length : Int)).bind fun t264 => (some t264))
def value_CmpRow.f (k : Nat) (l0 : List (S38)) (l1 : List (S38)) : Option (Int) := value_CmpRow.l0 k l0 l1 l0 (l0.length : Int) 0
theorem value_CmpRow.mono_l : ∀ k, (∀ y0 y1 y2 y3 y4, LeO (value_CmpRow.l0 k y0 y1 y2 y3 y4) (value_CmpRow.l0 (k + 1) y0 y1 y2 y3 y4))
  | 0 => fun _ _ _ _ _ r h => by simp [value_CmpRow.l0] at h
  | k + 1 => by
    have ih0 := value_CmpRow.mono_l k
    · intro y0 y1 y2 y3 y4
      unfold value_CmpRow.l0
      repeat' first
      | (with_reducible exact ih0 _ _ _ _ _)
      | (with_reducible exact LeO.refl _)
      | (with_reducible exact LeO.none _)
      | (with_reducible refine LeO.ite ?_ ?_)
      | (with_reducible refine LeO.bind ?_ (fun _ => ?_))
      | exact ih0 _ _ _ _ _
      | exact LeO.none _
      | refine LeO.ite ?_ ?_
      | refine LeO.bind ?_ (fun _ => ?_)
theorem value_CmpRow.mono : ∀ a0 a1 k, LeO (value_CmpRow.f k a0 a1) (value_CmpRow.f (k + 1) a0 a1) := by
  intro a0 a1 k
  have ih0 := value_CmpRow.mono_l k
  unfold value_CmpRow.f
  repeat' first
      | (with_reducible exact ih0 _ _ _ _ _)
      | (with_reducible exact LeO.refl _)
      | (with_reducible exact LeO.none _)
      | (with_reducible refine LeO.ite ?_ ?_)
      | (with_reducible refine LeO.bind ?_ (fun _ => ?_))
      | exact ih0 _ _ _ _ _
      | exact LeO.none _
      | refine LeO.ite ?_ ?_
      | refine LeO.bind ?_ (fun _ => ?_)
set_option maxHeartbeats 8000000 in
set_option maxRecDepth 100000 in
theorem value_CmpRow.calls (k : Nat) (A0 : Option Addr) (c0 : Nat) (l0 : List (S38)) (A1 : Option Addr) (c1 : Nat) (l1 : List (S38)) (r : Int) (w : World) (hr0 : Kd.C k38 w A0 l0.length l0) (hc0 : l0.length ≤ c0) (hr1 : Kd.C k38 w A1 l1.length l1) (hc1 : l1.length ≤ c1) (h : value_CmpRow.f k l0 l1 = some r) :
    Calls Try.prog 23 #[.slice A0 l0.length c0, .slice A1 l1.length c1] w fun e w' => e = .returned (.int .i64 r) ∧ Below w.heap.size w w' := by
  have hu38 := Try.underlying38
  have HR0 := Aside0.mk hr0
  have HC0 := Aside0.mk hc0
  clear hr0 hc0
  have HR1 := Aside0.mk hr1
  have HC1 := Aside0.mk hc1
  clear hr1 hc1
  have HB := Aside0.mk (Below.refl w.heap.size w)
  have H : (value_CmpRow.l0 k l0 l1 l0 (l0.length : Int) 0) = some r := h
  clear h
  have H' := Aside0.mk H
  clear H
  go_enter Try.func23, Try.ntmps23
  go_wp2_with (first | (refine Go.Proofs.YtniihilegljgmaaOwn.wp_scope_body ?_) | (go_step3))
  go_loopg [10] k (fun kq v10 w' => ∃ (x10_1 : Int), v10 = .int .i64 x10_1 ∧ Aside0 (value_CmpRow.l0 kq l0 l1 l0 (l0.length : Int) x10_1 = some r) ∧ Aside0 (kq ≤ k) ∧ Aside0 (Below w.heap.size w w'))
  case atStart => exact ⟨(0), (by first | rfl | (simp; done) | (simp [*]; done)), H', ⟨Nat.le_refl _⟩, ⟨by repeat (first | (with_reducible first | exact HB.out | apply below_alloc | apply pw_below_drewN | apply below_drew1) | exact HB.out)⟩⟩
  case round =>
    clear H'
    try clear c1
    try clear c2
    try clear p2
    obtain ⟨x10_1, rfl, HA, HK1, HB⟩ := hrel
    cases gk with
    | zero => exact absurd HA.out (by simp [value_CmpRow.l0])
    | succ k1 =>
      have H := HA.out
      clear HA
      simp only [value_CmpRow.l0] at H
      by_cases c3 : x10_1 < (l0.length : Int)
      · rw [if_pos c3] at H
        have c3b0 : decide (x10_1 < (l0.length : Int)) = true := decide_eq_true c3
        clear c3
        by_cases c4 : 0 ≤ x10_1
        · rw [if_pos c4] at H
          have c4b0 : decide (0 ≤ x10_1) = true := decide_eq_true c4
          clear c4
          by_cases c5 : x10_1 < (l0.length : Int)
          · rw [if_pos c5] at H
            have c5b0 : decide (x10_1 < (l0.length : Int)) = true := decide_eq_true c5
            clear c5
            by_cases c6 : x10_1 ≥ (l1.length : Int)
            · rw [if_pos c6] at H
              have c6b0 : decide ((l1.length : Int) ≤ x10_1) = true := decide_eq_true c6
              clear c6
              replace H := Option.bind_eq_some_iff.mp H
              obtain ⟨t267, A70, H⟩ := H
              replace H : (some t267) = some r := H
              have A7 := Aside0.mk A70
              clear A70
              obtain rfl := Option.some.inj H
              have p265 : 0 ≤ (x10_1 : Int) := of_decide_eq_true (by first | (with_reducible assumption) | assumption)
              have q265 : x10_1 < (l0.length : Int) := of_decide_eq_true (by first | (with_reducible assumption) | assumption)
              obtain ⟨ad265, e265, hx265_0, hx265_1, hx265_2⟩ := at_T38 HR0.out x10_1 p265 q265
              cases e265
              replace hx265_0 := (HB.out.cell (World.block_lt_of_cell? w _ hx265_0)).trans hx265_0
              replace hx265_1 := (HB.out.cell (World.block_lt_of_cell? w _ hx265_1)).trans hx265_1
              replace hx265_2 := (HB.out.cell (World.block_lt_of_cell? w _ hx265_2)).trans hx265_2
              replace p265 := eq_true p265
              replace q265 := eq_true q265
              go_wp2_with (first | ((with_reducible refine gate_dst (N := 6) rfl ?_); refine box_event ?hg (N := 6) ?hd (cs := #[.int .i64 0, .int .i64 0, .string (⟨#[]⟩ : ByteArray)]) (t := 38) ?hr ?_; (case hd => rfl); (case hg => rfl); (case hr => first | (go_simp; done) | (go_simp; rfl)); intro gb266 hg w8 hbox hb; have n0_ := Aside0.mk (below_step (by repeat (first | (with_reducible first | exact HB.out | apply below_alloc | apply pw_below_drewN | apply below_drew1) | exact HB.out)) hb); have n1_ := Aside0.mk (hbox); have n2_ := Aside0.mk ((by rw [hg]; exact (below_size (by repeat (first | (with_reducible first | exact HB.out | apply below_alloc | apply pw_below_drewN | apply below_drew1) | exact HB.out))) : w.heap.size ≤ gb266)); have n3_ := Aside0.mk ((by rw [hg]; exact (below_size (by repeat (first | (with_reducible first | exact HB.out | apply below_alloc | apply pw_below_drewN | apply below_drew1) | exact HB.out))) : w.heap.size ≤ gb266)); clear HB; have HB := n0_; have BK266 := n1_; have GW266 := n2_; have GE266 := n3_; clear n0_ n1_ n2_ n3_; clear hb hbox hg; have hcz9_0 : w8.cell? ⟨gb266, 0, none⟩ = some (.int .i64 0) := (blk_cell BK266.out 0).trans rfl; have hcz9_1 : w8.cell? ⟨gb266, 1, none⟩ = some (.int .i64 0) := (blk_cell BK266.out 1).trans rfl; have hcz9_2 : w8.cell? ⟨gb266, 2, none⟩ = some (.string (⟨#[]⟩ : ByteArray)) := (blk_cell BK266.out 2).trans rfl; have hfz9_0 := blk_frozen BK266.out 0; have hfz9_1 := blk_frozen BK266.out 1; have hfz9_2 := blk_frozen BK266.out 2) | ((with_reducible refine gate_callee (f := 35) rfl ?_); refine goesL_ (some 33) rfl rfl Try.func35 (by kernel_rfl) rfl #[.int .i64 (l0.length : Int), .int .i64 (l1.length : Int)] rfl (by (try simp only [List.map_toArray, List.map_cons, List.map_nil]); first | done | rfl | (simp only [List.length_drop, List.length_take]; rfl)) ?_; (with_reducible refine (cmp_Compare_int.calls (l0.length : Int) (l1.length : Int) t267 _ A7.out).mono ?_); rintro e w' ⟨rfl, ⟨nd, rfl⟩⟩; refine ⟨_, rfl, ?_⟩) | (refine Go.Proofs.YtniihilegljgmaaOwn.wp_scope_body ?_) | (go_step3))
              go_ret
              exact ⟨by first | rfl | (simp [errW_none, errW_some] <;> rfl) | (simp [*, errW_none, errW_some] <;> rfl), by repeat (first | (with_reducible first | exact HB.out | apply below_alloc | apply pw_below_drewN | apply below_drew1 | refine below_set ?_ GE266.out) | exact HB.out)⟩
            · rw [if_neg c6] at H
              have c6b0 : decide ((l1.length : Int) ≤ x10_1) = false := decide_eq_false c6
              clear c6
              by_cases c10 : x10_1 < (l1.length : Int)
              · rw [if_pos c10] at H
                have c10b0 : decide (x10_1 < (l1.length : Int)) = true := decide_eq_true c10
                clear c10
                replace H := Option.bind_eq_some_iff.mp H
                obtain ⟨t269, A110, H⟩ := H
                replace H : (if t269 = 0 then (value_CmpRow.l0 k1 l0 l1 l0 (l0.length : Int) (wrap64 (x10_1 + 1))) else (some t269)) = some r := H
                have A11 := Aside0.mk A110
                clear A110
                by_cases c12 : t269 = 0
                · rw [if_pos c12] at H
                  have c12b0 : (t269 == 0) = true := beq_iff_eq.mpr c12
                  have c12b1 : (t269 != 0) = false := bne_eq_false_iff_eq.mpr c12
                  clear c12
                  have H' := Aside0.mk H
                  clear H
                  have p265 : 0 ≤ (x10_1 : Int) := of_decide_eq_true (by first | (with_reducible assumption) | assumption)
                  have q265 : x10_1 < (l0.length : Int) := of_decide_eq_true (by first | (with_reducible assumption) | assumption)
                  obtain ⟨ad265, e265, hx265_0, hx265_1, hx265_2⟩ := at_T38 HR0.out x10_1 p265 q265
                  cases e265
                  replace hx265_0 := (HB.out.cell (World.block_lt_of_cell? w _ hx265_0)).trans hx265_0
                  replace hx265_1 := (HB.out.cell (World.block_lt_of_cell? w _ hx265_1)).trans hx265_1
                  replace hx265_2 := (HB.out.cell (World.block_lt_of_cell? w _ hx265_2)).trans hx265_2
                  replace p265 := eq_true p265
                  replace q265 := eq_true q265
                  try go_wp2_with (first | ((with_reducible refine gate_dst (N := 6) rfl ?_); refine box_event ?hg (N := 6) ?hd (cs := #[.int .i64 0, .int .i64 0, .string (⟨#[]⟩ : ByteArray)]) (t := 38) ?hr ?_; (case hd => rfl); (case hg => rfl); (case hr => first | (go_simp; done) | (go_simp; rfl)); intro gb266 hg w13 hbox hb; have n0_ := Aside0.mk (below_step (by repeat (first | (with_reducible first | exact HB.out | apply below_alloc | apply pw_below_drewN | apply below_drew1) | exact HB.out)) hb); have n1_ := Aside0.mk (hbox); have n2_ := Aside0.mk ((by rw [hg]; exact (below_size (by repeat (first | (with_reducible first | exact HB.out | apply below_alloc | apply pw_below_drewN | apply below_drew1) | exact HB.out))) : w.heap.size ≤ gb266)); have n3_ := Aside0.mk ((by rw [hg]; exact (below_size (by repeat (first | (with_reducible first | exact HB.out | apply below_alloc | apply pw_below_drewN | apply below_drew1) | exact HB.out))) : w.heap.size ≤ gb266)); clear HB; have HB := n0_; have BK266 := n1_; have GW266 := n2_; have GE266 := n3_; clear n0_ n1_ n2_ n3_; clear hb hbox hg; have hcz14_0 : w13.cell? ⟨gb266, 0, none⟩ = some (.int .i64 0) := (blk_cell BK266.out 0).trans rfl; have hcz14_1 : w13.cell? ⟨gb266, 1, none⟩ = some (.int .i64 0) := (blk_cell BK266.out 1).trans rfl; have hcz14_2 : w13.cell? ⟨gb266, 2, none⟩ = some (.string (⟨#[]⟩ : ByteArray)) := (blk_cell BK266.out 2).trans rfl; have hfz14_0 := blk_frozen BK266.out 0; have hfz14_1 := blk_frozen BK266.out 1; have hfz14_2 := blk_frozen BK266.out 2) | (refine Go.Proofs.YtniihilegljgmaaOwn.wp_scope_body ?_) | (go_step3))
                  have n0_ : Aside0 ((((w13.setCell ⟨gb266, 0, none⟩ (.int .i64 ((rd_T38 l0 x10_1).f0))).setCell ⟨gb266, 1, none⟩ (.int .i64 ((rd_T38 l0 x10_1).f1))).setCell ⟨gb266, 2, none⟩ (.string ((rd_T38 l0 x10_1).f2))).heap[gb266]? = some (.cells #[.int .i64 ((rd_T38 l0 x10_1).f0), .int .i64 ((rd_T38 l0 x10_1).f1), .string ((rd_T38 l0 x10_1).f2)] 38 (0, 0))) := ⟨by (with_reducible repeat (first | refine blk_drewN ?_ _ | refine blk_drew ?_ | refine blk_alloc ?_ _)); refine blk_put (cs := #[.int .i64 ((rd_T38 l0 x10_1).f0), .int .i64 ((rd_T38 l0 x10_1).f1), .string (⟨#[]⟩ : ByteArray)]) ?_ 2 _ rfl; (with_reducible repeat (first | refine blk_drewN ?_ _ | refine blk_drew ?_ | refine blk_alloc ?_ _)); refine blk_put (cs := #[.int .i64 ((rd_T38 l0 x10_1).f0), .int .i64 0, .string (⟨#[]⟩ : ByteArray)]) ?_ 1 _ rfl; (with_reducible repeat (first | refine blk_drewN ?_ _ | refine blk_drew ?_ | refine blk_alloc ?_ _)); refine blk_put (cs := #[.int .i64 0, .int .i64 0, .string (⟨#[]⟩ : ByteArray)]) ?_ 0 _ rfl; (with_reducible repeat (first | refine blk_drewN ?_ _ | refine blk_drew ?_ | refine blk_alloc ?_ _)); exact BK266.out⟩
                  have n1_ : Aside0 (Below w.heap.size w (((w13.setCell ⟨gb266, 0, none⟩ (.int .i64 ((rd_T38 l0 x10_1).f0))).setCell ⟨gb266, 1, none⟩ (.int .i64 ((rd_T38 l0 x10_1).f1))).setCell ⟨gb266, 2, none⟩ (.string ((rd_T38 l0 x10_1).f2)))) := ⟨by repeat (first | (with_reducible first | exact HB.out | apply below_alloc | apply pw_below_drewN | apply below_drew1 | refine below_set ?_ GE266.out) | exact HB.out)⟩
                  (try clear BK266)
                  (try clear HB)
                  generalize (((w13.setCell ⟨gb266, 0, none⟩ (.int .i64 ((rd_T38 l0 x10_1).f0))).setCell ⟨gb266, 1, none⟩ (.int .i64 ((rd_T38 l0 x10_1).f1))).setCell ⟨gb266, 2, none⟩ (.string ((rd_T38 l0 x10_1).f2))) = w15 at n0_ n1_ ⊢
                  have BK266 := n0_
                  have HB := n1_
                  clear n0_ n1_
                  have n0_ := Aside0.mk (blk_drew BK266.out)
                  have n1_ := Aside0.mk (below_drew1 HB.out)
                  clear BK266
                  clear HB
                  have BK266 := n0_
                  have HB := n1_
                  clear n0_ n1_
                  have p268 : 0 ≤ (x10_1 : Int) := of_decide_eq_true (by first | (with_reducible assumption) | assumption)
                  have q268 : x10_1 < (l1.length : Int) := of_decide_eq_true (by first | (with_reducible assumption) | assumption)
                  obtain ⟨ad268, e268, hx268_0, hx268_1, hx268_2⟩ := at_T38 HR1.out x10_1 p268 q268
                  have hw268_2 := hx268_2
                  have hw268_1 := hx268_1
                  have hw268_0 := hx268_0
                  cases e268
                  replace hx268_0 := (HB.out.cell (World.block_lt_of_cell? w _ hx268_0)).trans hx268_0
                  replace hx268_1 := (HB.out.cell (World.block_lt_of_cell? w _ hx268_1)).trans hx268_1
                  replace hx268_2 := (HB.out.cell (World.block_lt_of_cell? w _ hx268_2)).trans hx268_2
                  replace p268 := eq_true p268
                  replace q268 := eq_true q268
                  refine start_ (n := 7) (S := fun w' => w'.cell? ⟨gb266, 0, none⟩ = some (.int .i64 ((rd_T38 l0 x10_1).f0)) ∧ w'.cell? ⟨gb266, 1, none⟩ = some (.int .i64 ((rd_T38 l0 x10_1).f1)) ∧ w'.cell? ⟨gb266, 2, none⟩ = some (.string ((rd_T38 l0 x10_1).f2)) ∧ w'.cell? (ad268.add ((x10_1).toNat * 3)) = some (.int .i64 ((rd_T38 l1 x10_1).f0)) ∧ w'.cell? ⟨(ad268.add ((x10_1).toNat * 3)).block, (ad268.add ((x10_1).toNat * 3)).off + 1, none⟩ = some (.int .i64 ((rd_T38 l1 x10_1).f1)) ∧ w'.cell? ⟨(ad268.add ((x10_1).toNat * 3)).block, (ad268.add ((x10_1).toNat * 3)).off + 2, none⟩ = some (.string ((rd_T38 l1 x10_1).f2))) (ds := []) #[false, false, false, false, false, false, false] (by kernel_rfl) rfl rfl ⟨(blk_cell BK266.out 0).trans rfl, (blk_cell BK266.out 1).trans rfl, (blk_cell BK266.out 2).trans rfl, ((HB.out.cell (World.block_lt_of_cell? w _ hw268_0)).trans hw268_0), ((HB.out.cell (World.block_lt_of_cell? w _ hw268_1)).trans hw268_1), ((HB.out.cell (World.block_lt_of_cell? w _ hw268_2)).trans hw268_2)⟩ (fun hHeld => ?_)
                  generalize w15.drew = w16 at BK266 HB hx268_0 hx268_1 hx268_2 hHeld ⊢
                  refine pure_ (i := 1) (N := some 20) (v := ?_) (a' := ?_) #[false, true, false, false, false, false, false] rfl rfl (by kernel_rfl) (fun _ _ _ h => h) (Or.inl ⟨by rfl, ?_⟩) ?_ ?_
                  rotate_left
                  · intro w'
                    go_simp
                    with_reducible rfl
                  rotate_left
                  · simp only [Act.put, List.setIfInBounds_toArray, List.set_cons_zero, List.set_cons_succ, i64_w, i32_w]
                    rfl
                  refine pure_ (i := 2) (N := some 21) (v := ?_) (a' := ?_) #[false, true, true, false, false, false, false] rfl rfl (by kernel_rfl) (fun _ _ _ h => h) (Or.inl ⟨by rfl, ?_⟩) ?_ ?_
                  rotate_left
                  · intro w'
                    go_simp
                    with_reducible rfl
                  rotate_left
                  · simp only [Act.put, List.setIfInBounds_toArray, List.set_cons_zero, List.set_cons_succ, i64_w, i32_w]
                    rfl
                  refine pure_ (i := 3) (N := some 22) (v := ?_) (a' := ?_) #[false, true, true, true, false, false, false] rfl rfl (by kernel_rfl) (fun _ _ _ h => h) (Or.inl ⟨by rfl, ?_⟩) ?_ ?_
                  rotate_left
                  · intro w'
                    go_simp
                    with_reducible rfl
                  rotate_left
                  · simp only [Act.put, List.setIfInBounds_toArray, List.set_cons_zero, List.set_cons_succ, i64_w, i32_w]
                    rfl
                  refine take_ (i := 0) (N := some 19) (v := ?_) (a' := ?_) #[true, true, true, true, false, false, false] rfl rfl (by kernel_rfl) (fun _ _ _ h => h) (Or.inl ⟨by rfl, ?_⟩) hHeld ?_ ?_
                  rotate_left
                  · rintro w' ⟨s0, s1, s2, s3, s4, s5⟩
                    go_simp
                    with_reducible rfl
                  rotate_left
                  · simp only [Act.put, List.setIfInBounds_toArray, List.set_cons_zero, List.set_cons_succ, i64_w, i32_w]
                    rfl
                  refine take_ (i := 4) (N := some 23) (v := ?_) (a' := ?_) #[true, true, true, true, true, false, false] rfl rfl (by kernel_rfl) (fun _ _ _ h => h) (Or.inl ⟨by rfl, ?_⟩) hHeld ?_ ?_
                  rotate_left
                  · rintro w' ⟨s0, s1, s2, s3, s4, s5⟩
                    go_simp
                    with_reducible rfl
                  rotate_left
                  · simp only [Act.put, List.setIfInBounds_toArray, List.set_cons_zero, List.set_cons_succ, i64_w, i32_w]
                    rfl
                  refine one_ (i := 5) (N := some 24) #[true, true, true, true, true, true, false] rfl rfl (by kernel_rfl) (by decide) (fun K hK => ?_)
                  refine goes_ Try.func34 (by kernel_rfl) rfl #[.agg #[.int .i64 ((rd_T38 l0 x10_1).f0), .int .i64 ((rd_T38 l0 x10_1).f1), .string ((rd_T38 l0 x10_1).f2)], .agg #[.int .i64 ((rd_T38 l1 x10_1).f0), .int .i64 ((rd_T38 l1 x10_1).f1), .string ((rd_T38 l1 x10_1).f2)]] (by rfl) rfl rfl (by (try simp only [List.map_toArray, List.map_cons, List.map_nil]); first | done | rfl | (simp only [List.length_drop, List.length_take]; rfl)) ?_
                  with_reducible refine (value_Cmp.calls ((rd_T38 l0 x10_1).f0) ((rd_T38 l0 x10_1).f1) ((rd_T38 l0 x10_1).f2) ((rd_T38 l1 x10_1).f0) ((rd_T38 l1 x10_1).f1) ((rd_T38 l1 x10_1).f2) t269 _ A11.out).mono ?_
                  rintro e w17 ⟨rfl, hb⟩
                  refine ⟨_, rfl, ?_⟩
                  have n0_ := Aside0.mk (blk_below (g := gb266) (o := .cells #[.int .i64 ((rd_T38 l0 x10_1).f0), .int .i64 ((rd_T38 l0 x10_1).f1), .string ((rd_T38 l0 x10_1).f2)] 38 (0, 0)) (by (with_reducible repeat (first | refine blk_drewN ?_ _ | refine blk_drew ?_ | refine blk_alloc ?_ _)); exact BK266.out) hb)
                  have n1_ := Aside0.mk (below_step (by repeat (first | (with_reducible first | exact HB.out | apply below_alloc | apply pw_below_drewN | apply below_drew1 | refine below_set ?_ GE266.out) | exact HB.out)) hb)
                  clear BK266
                  clear HB
                  have BK266 := n0_
                  have HB := n1_
                  clear n0_ n1_
                  (try clear hb)
                  (try clear hb2)
                  (try clear hk)
                  (try clear hi)
                  refine hK.out _ _ ⟨(blk_cell BK266.out 0).trans rfl, (blk_cell BK266.out 1).trans rfl, (blk_cell BK266.out 2).trans rfl, ((HB.out.cell (World.block_lt_of_cell? w _ hw268_0)).trans hw268_0), ((HB.out.cell (World.block_lt_of_cell? w _ hw268_1)).trans hw268_1), ((HB.out.cell (World.block_lt_of_cell? w _ hw268_2)).trans hw268_2)⟩ (fun hHeld => ?_)
                  clear hK K
                  refine norm_ (a' := ?_) ?_ ?_
                  rotate_left
                  · show Act.put _ (some 24) _ = _
                    simp only [Act.put, List.setIfInBounds_toArray, List.set_cons_zero, List.set_cons_succ, i64_w, i32_w]
                    rfl
                  refine pure_ (i := 6) (N := some 7) (v := ?_) (a' := ?_) #[true, true, true, true, true, true, true] rfl rfl (by kernel_rfl) (fun _ _ _ h => h) (Or.inl ⟨by rfl, ?_⟩) ?_ ?_
                  rotate_left
                  · intro w'
                    go_simp
                    with_reducible rfl
                  rotate_left
                  · simp only [Act.put, List.setIfInBounds_toArray, List.set_cons_zero, List.set_cons_succ, i64_w, i32_w]
                    rfl
                  refine done_ (by kernel_rfl) ?_
                  try go_wp2_with (first | (refine Go.Proofs.YtniihilegljgmaaOwn.wp_scope_body ?_) | (go_step3))
                  go_roundg k1
                  case measure => have := HK1.out; omega
                  case rel => exact ⟨(wrap64 (x10_1 + 1)), (by first | rfl | (simp; done) | (simp [*]; done)), H', ⟨by have := HK1.out; omega⟩, ⟨by repeat (first | (with_reducible first | exact HB.out | apply below_alloc | apply pw_below_drewN | apply below_drew1 | refine below_set ?_ GE266.out) | exact HB.out)⟩⟩
                · rw [if_neg c12] at H
                  have c12b0 : (t269 == 0) = false := beq_eq_false_iff_ne.mpr c12
                  have c12b1 : (t269 != 0) = true := bne_iff_ne.mpr c12
                  obtain rfl := Option.some.inj H
                  have p265 : 0 ≤ (x10_1 : Int) := of_decide_eq_true (by first | (with_reducible assumption) | assumption)
                  have q265 : x10_1 < (l0.length : Int) := of_decide_eq_true (by first | (with_reducible assumption) | assumption)
                  obtain ⟨ad265, e265, hx265_0, hx265_1, hx265_2⟩ := at_T38 HR0.out x10_1 p265 q265
                  cases e265
                  replace hx265_0 := (HB.out.cell (World.block_lt_of_cell? w _ hx265_0)).trans hx265_0
                  replace hx265_1 := (HB.out.cell (World.block_lt_of_cell? w _ hx265_1)).trans hx265_1
                  replace hx265_2 := (HB.out.cell (World.block_lt_of_cell? w _ hx265_2)).trans hx265_2
                  replace p265 := eq_true p265
                  replace q265 := eq_true q265
                  try go_wp2_with (first | ((with_reducible refine gate_dst (N := 6) rfl ?_); refine box_event ?hg (N := 6) ?hd (cs := #[.int .i64 0, .int .i64 0, .string (⟨#[]⟩ : ByteArray)]) (t := 38) ?hr ?_; (case hd => rfl); (case hg => rfl); (case hr => first | (go_simp; done) | (go_simp; rfl)); intro gb266 hg w18 hbox hb; have n0_ := Aside0.mk (below_step (by repeat (first | (with_reducible first | exact HB.out | apply below_alloc | apply pw_below_drewN | apply below_drew1) | exact HB.out)) hb); have n1_ := Aside0.mk (hbox); have n2_ := Aside0.mk ((by rw [hg]; exact (below_size (by repeat (first | (with_reducible first | exact HB.out | apply below_alloc | apply pw_below_drewN | apply below_drew1) | exact HB.out))) : w.heap.size ≤ gb266)); have n3_ := Aside0.mk ((by rw [hg]; exact (below_size (by repeat (first | (with_reducible first | exact HB.out | apply below_alloc | apply pw_below_drewN | apply below_drew1) | exact HB.out))) : w.heap.size ≤ gb266)); clear HB; have HB := n0_; have BK266 := n1_; have GW266 := n2_; have GE266 := n3_; clear n0_ n1_ n2_ n3_; clear hb hbox hg; have hcz19_0 : w18.cell? ⟨gb266, 0, none⟩ = some (.int .i64 0) := (blk_cell BK266.out 0).trans rfl; have hcz19_1 : w18.cell? ⟨gb266, 1, none⟩ = some (.int .i64 0) := (blk_cell BK266.out 1).trans rfl; have hcz19_2 : w18.cell? ⟨gb266, 2, none⟩ = some (.string (⟨#[]⟩ : ByteArray)) := (blk_cell BK266.out 2).trans rfl; have hfz19_0 := blk_frozen BK266.out 0; have hfz19_1 := blk_frozen BK266.out 1; have hfz19_2 := blk_frozen BK266.out 2) | (refine Go.Proofs.YtniihilegljgmaaOwn.wp_scope_body ?_) | (go_step3))
                  have n0_ : Aside0 ((((w18.setCell ⟨gb266, 0, none⟩ (.int .i64 ((rd_T38 l0 x10_1).f0))).setCell ⟨gb266, 1, none⟩ (.int .i64 ((rd_T38 l0 x10_1).f1))).setCell ⟨gb266, 2, none⟩ (.string ((rd_T38 l0 x10_1).f2))).heap[gb266]? = some (.cells #[.int .i64 ((rd_T38 l0 x10_1).f0), .int .i64 ((rd_T38 l0 x10_1).f1), .string ((rd_T38 l0 x10_1).f2)] 38 (0, 0))) := ⟨by (with_reducible repeat (first | refine blk_drewN ?_ _ | refine blk_drew ?_ | refine blk_alloc ?_ _)); refine blk_put (cs := #[.int .i64 ((rd_T38 l0 x10_1).f0), .int .i64 ((rd_T38 l0 x10_1).f1), .string (⟨#[]⟩ : ByteArray)]) ?_ 2 _ rfl; (with_reducible repeat (first | refine blk_drewN ?_ _ | refine blk_drew ?_ | refine blk_alloc ?_ _)); refine blk_put (cs := #[.int .i64 ((rd_T38 l0 x10_1).f0), .int .i64 0, .string (⟨#[]⟩ : ByteArray)]) ?_ 1 _ rfl; (with_reducible repeat (first | refine blk_drewN ?_ _ | refine blk_drew ?_ | refine blk_alloc ?_ _)); refine blk_put (cs := #[.int .i64 0, .int .i64 0, .string (⟨#[]⟩ : ByteArray)]) ?_ 0 _ rfl; (with_reducible repeat (first | refine blk_drewN ?_ _ | refine blk_drew ?_ | refine blk_alloc ?_ _)); exact BK266.out⟩
                  have n1_ : Aside0 (Below w.heap.size w (((w18.setCell ⟨gb266, 0, none⟩ (.int .i64 ((rd_T38 l0 x10_1).f0))).setCell ⟨gb266, 1, none⟩ (.int .i64 ((rd_T38 l0 x10_1).f1))).setCell ⟨gb266, 2, none⟩ (.string ((rd_T38 l0 x10_1).f2)))) := ⟨by repeat (first | (with_reducible first | exact HB.out | apply below_alloc | apply pw_below_drewN | apply below_drew1 | refine below_set ?_ GE266.out) | exact HB.out)⟩
                  (try clear BK266)
                  (try clear HB)
                  generalize (((w18.setCell ⟨gb266, 0, none⟩ (.int .i64 ((rd_T38 l0 x10_1).f0))).setCell ⟨gb266, 1, none⟩ (.int .i64 ((rd_T38 l0 x10_1).f1))).setCell ⟨gb266, 2, none⟩ (.string ((rd_T38 l0 x10_1).f2))) = w20 at n0_ n1_ ⊢
                  have BK266 := n0_
                  have HB := n1_
                  clear n0_ n1_
                  have n0_ := Aside0.mk (blk_drew BK266.out)
                  have n1_ := Aside0.mk (below_drew1 HB.out)
                  clear BK266
                  clear HB
                  have BK266 := n0_
                  have HB := n1_
                  clear n0_ n1_
                  have p268 : 0 ≤ (x10_1 : Int) := of_decide_eq_true (by first | (with_reducible assumption) | assumption)
                  have q268 : x10_1 < (l1.length : Int) := of_decide_eq_true (by first | (with_reducible assumption) | assumption)
                  obtain ⟨ad268, e268, hx268_0, hx268_1, hx268_2⟩ := at_T38 HR1.out x10_1 p268 q268
                  have hw268_2 := hx268_2
                  have hw268_1 := hx268_1
                  have hw268_0 := hx268_0
                  cases e268
                  replace hx268_0 := (HB.out.cell (World.block_lt_of_cell? w _ hx268_0)).trans hx268_0
                  replace hx268_1 := (HB.out.cell (World.block_lt_of_cell? w _ hx268_1)).trans hx268_1
                  replace hx268_2 := (HB.out.cell (World.block_lt_of_cell? w _ hx268_2)).trans hx268_2
                  replace p268 := eq_true p268
                  replace q268 := eq_true q268
                  refine start_ (n := 7) (S := fun w' => w'.cell? ⟨gb266, 0, none⟩ = some (.int .i64 ((rd_T38 l0 x10_1).f0)) ∧ w'.cell? ⟨gb266, 1, none⟩ = some (.int .i64 ((rd_T38 l0 x10_1).f1)) ∧ w'.cell? ⟨gb266, 2, none⟩ = some (.string ((rd_T38 l0 x10_1).f2)) ∧ w'.cell? (ad268.add ((x10_1).toNat * 3)) = some (.int .i64 ((rd_T38 l1 x10_1).f0)) ∧ w'.cell? ⟨(ad268.add ((x10_1).toNat * 3)).block, (ad268.add ((x10_1).toNat * 3)).off + 1, none⟩ = some (.int .i64 ((rd_T38 l1 x10_1).f1)) ∧ w'.cell? ⟨(ad268.add ((x10_1).toNat * 3)).block, (ad268.add ((x10_1).toNat * 3)).off + 2, none⟩ = some (.string ((rd_T38 l1 x10_1).f2))) (ds := []) #[false, false, false, false, false, false, false] (by kernel_rfl) rfl rfl ⟨(blk_cell BK266.out 0).trans rfl, (blk_cell BK266.out 1).trans rfl, (blk_cell BK266.out 2).trans rfl, ((HB.out.cell (World.block_lt_of_cell? w _ hw268_0)).trans hw268_0), ((HB.out.cell (World.block_lt_of_cell? w _ hw268_1)).trans hw268_1), ((HB.out.cell (World.block_lt_of_cell? w _ hw268_2)).trans hw268_2)⟩ (fun hHeld => ?_)
                  generalize w20.drew = w21 at BK266 HB hx268_0 hx268_1 hx268_2 hHeld ⊢
                  refine pure_ (i := 1) (N := some 20) (v := ?_) (a' := ?_) #[false, true, false, false, false, false, false] rfl rfl (by kernel_rfl) (fun _ _ _ h => h) (Or.inl ⟨by rfl, ?_⟩) ?_ ?_
                  rotate_left
                  · intro w'
                    go_simp
                    with_reducible rfl
                  rotate_left
                  · simp only [Act.put, List.setIfInBounds_toArray, List.set_cons_zero, List.set_cons_succ, i64_w, i32_w]
                    rfl
                  refine pure_ (i := 2) (N := some 21) (v := ?_) (a' := ?_) #[false, true, true, false, false, false, false] rfl rfl (by kernel_rfl) (fun _ _ _ h => h) (Or.inl ⟨by rfl, ?_⟩) ?_ ?_
                  rotate_left
                  · intro w'
                    go_simp
                    with_reducible rfl
                  rotate_left
                  · simp only [Act.put, List.setIfInBounds_toArray, List.set_cons_zero, List.set_cons_succ, i64_w, i32_w]
                    rfl
                  refine pure_ (i := 3) (N := some 22) (v := ?_) (a' := ?_) #[false, true, true, true, false, false, false] rfl rfl (by kernel_rfl) (fun _ _ _ h => h) (Or.inl ⟨by rfl, ?_⟩) ?_ ?_
                  rotate_left
                  · intro w'
                    go_simp
                    with_reducible rfl
                  rotate_left
                  · simp only [Act.put, List.setIfInBounds_toArray, List.set_cons_zero, List.set_cons_succ, i64_w, i32_w]
                    rfl
                  refine take_ (i := 0) (N := some 19) (v := ?_) (a' := ?_) #[true, true, true, true, false, false, false] rfl rfl (by kernel_rfl) (fun _ _ _ h => h) (Or.inl ⟨by rfl, ?_⟩) hHeld ?_ ?_
                  rotate_left
                  · rintro w' ⟨s0, s1, s2, s3, s4, s5⟩
                    go_simp
                    with_reducible rfl
                  rotate_left
                  · simp only [Act.put, List.setIfInBounds_toArray, List.set_cons_zero, List.set_cons_succ, i64_w, i32_w]
                    rfl
                  refine take_ (i := 4) (N := some 23) (v := ?_) (a' := ?_) #[true, true, true, true, true, false, false] rfl rfl (by kernel_rfl) (fun _ _ _ h => h) (Or.inl ⟨by rfl, ?_⟩) hHeld ?_ ?_
                  rotate_left
                  · rintro w' ⟨s0, s1, s2, s3, s4, s5⟩
                    go_simp
                    with_reducible rfl
                  rotate_left
                  · simp only [Act.put, List.setIfInBounds_toArray, List.set_cons_zero, List.set_cons_succ, i64_w, i32_w]
                    rfl
                  refine one_ (i := 5) (N := some 24) #[true, true, true, true, true, true, false] rfl rfl (by kernel_rfl) (by decide) (fun K hK => ?_)
                  refine goes_ Try.func34 (by kernel_rfl) rfl #[.agg #[.int .i64 ((rd_T38 l0 x10_1).f0), .int .i64 ((rd_T38 l0 x10_1).f1), .string ((rd_T38 l0 x10_1).f2)], .agg #[.int .i64 ((rd_T38 l1 x10_1).f0), .int .i64 ((rd_T38 l1 x10_1).f1), .string ((rd_T38 l1 x10_1).f2)]] (by rfl) rfl rfl (by (try simp only [List.map_toArray, List.map_cons, List.map_nil]); first | done | rfl | (simp only [List.length_drop, List.length_take]; rfl)) ?_
                  with_reducible refine (value_Cmp.calls ((rd_T38 l0 x10_1).f0) ((rd_T38 l0 x10_1).f1) ((rd_T38 l0 x10_1).f2) ((rd_T38 l1 x10_1).f0) ((rd_T38 l1 x10_1).f1) ((rd_T38 l1 x10_1).f2) t269 _ A11.out).mono ?_
                  rintro e w22 ⟨rfl, hb⟩
                  refine ⟨_, rfl, ?_⟩
                  have n0_ := Aside0.mk (blk_below (g := gb266) (o := .cells #[.int .i64 ((rd_T38 l0 x10_1).f0), .int .i64 ((rd_T38 l0 x10_1).f1), .string ((rd_T38 l0 x10_1).f2)] 38 (0, 0)) (by (with_reducible repeat (first | refine blk_drewN ?_ _ | refine blk_drew ?_ | refine blk_alloc ?_ _)); exact BK266.out) hb)
                  have n1_ := Aside0.mk (below_step (by repeat (first | (with_reducible first | exact HB.out | apply below_alloc | apply pw_below_drewN | apply below_drew1 | refine below_set ?_ GE266.out) | exact HB.out)) hb)
                  clear BK266
                  clear HB
                  have BK266 := n0_
                  have HB := n1_
                  clear n0_ n1_
                  (try clear hb)
                  (try clear hb2)
                  (try clear hk)
                  (try clear hi)
                  refine hK.out _ _ ⟨(blk_cell BK266.out 0).trans rfl, (blk_cell BK266.out 1).trans rfl, (blk_cell BK266.out 2).trans rfl, ((HB.out.cell (World.block_lt_of_cell? w _ hw268_0)).trans hw268_0), ((HB.out.cell (World.block_lt_of_cell? w _ hw268_1)).trans hw268_1), ((HB.out.cell (World.block_lt_of_cell? w _ hw268_2)).trans hw268_2)⟩ (fun hHeld => ?_)
                  clear hK K
                  refine norm_ (a' := ?_) ?_ ?_
                  rotate_left
                  · show Act.put _ (some 24) _ = _
                    simp only [Act.put, List.setIfInBounds_toArray, List.set_cons_zero, List.set_cons_succ, i64_w, i32_w]
                    rfl
                  refine pure_ (i := 6) (N := some 7) (v := ?_) (a' := ?_) #[true, true, true, true, true, true, true] rfl rfl (by kernel_rfl) (fun _ _ _ h => h) (Or.inl ⟨by rfl, ?_⟩) ?_ ?_
                  rotate_left
                  · intro w'
                    go_simp
                    with_reducible rfl
                  rotate_left
                  · simp only [Act.put, List.setIfInBounds_toArray, List.set_cons_zero, List.set_cons_succ, i64_w, i32_w]
                    rfl
                  refine done_ (by kernel_rfl) ?_
                  try go_wp2_with (first | (refine Go.Proofs.YtniihilegljgmaaOwn.wp_scope_body ?_) | (go_step3))
                  go_ret
                  exact ⟨by first | rfl | (simp [errW_none, errW_some] <;> rfl) | (simp [*, errW_none, errW_some] <;> rfl), by repeat (first | (with_reducible first | exact HB.out | apply below_alloc | apply pw_below_drewN | apply below_drew1 | refine below_set ?_ GE266.out) | exact HB.out)⟩
              · rw [if_neg c10] at H
                exact absurd H (by simp)
          · rw [if_neg c5] at H
            exact absurd H (by simp)
        · rw [if_neg c4] at H
          exact absurd H (by simp)
      · rw [if_neg c3] at H
        have c3b0 : decide (x10_1 < (l0.length : Int)) = false := decide_eq_false c3
        clear c3
        replace H := Option.bind_eq_some_iff.mp H
        obtain ⟨t264, A230, H⟩ := H
        replace H : (some t264) = some r := H
        have A23 := Aside0.mk A230
        clear A230
        obtain rfl := Option.some.inj H
        go_wp2_with (first | ((with_reducible refine gate_callee (f := 35) rfl ?_); refine goesL_ (some 33) rfl rfl Try.func35 (by kernel_rfl) rfl #[.int .i64 (l0.length : Int), .int .i64 (l1.length : Int)] rfl (by (try simp only [List.map_toArray, List.map_cons, List.map_nil]); first | done | rfl | (simp only [List.length_drop, List.length_take]; rfl)) ?_; (with_reducible refine (cmp_Compare_int.calls (l0.length : Int) (l1.length : Int) t264 _ A23.out).mono ?_); rintro e w' ⟨rfl, ⟨nd, rfl⟩⟩; refine ⟨_, rfl, ?_⟩) | (refine Go.Proofs.YtniihilegljgmaaOwn.wp_scope_body ?_) | (go_step3))
        go_ret
        exact ⟨by first | rfl | (simp [errW_none, errW_some] <;> rfl) | (simp [*, errW_none, errW_some] <;> rfl), by repeat (first | (with_reducible first | exact HB.out | apply below_alloc | apply pw_below_drewN | apply below_drew1) | exact HB.out)⟩

/-! ### tailracelaw02_KeysOrder: function 9 -/
mutual
def tailracelaw02_KeysOrder.j0 : Nat → List (S38) → List (S38) → Bool → Bool → Option (Bool)
  | 0, _, _, _, _ => none
  | k + 1, x0, x1, x5, x16 => if x16 = true then (some x5) else ((tailracelaw02_good.f k x0).bind fun t273 => ((tailracelaw02_good.f k x1).bind fun t274 => (if t273 = true then (tailracelaw02_KeysOrder.j1 k x0 x1 x5 (!t274)) else (tailracelaw02_KeysOrder.j1 k x0 x1 x5 true))))
def tailracelaw02_KeysOrder.j1 : Nat → List (S38) → List (S38) → Bool → Bool → Option (Bool)
  | 0, _, _, _, _ => none
  | k + 1, x0, x1, x5, x27 => if x27 = true then (some x5) else (if x5 = true then ((keys_Row.f x0).bind fun t275 => ((keys_Row.f x1).bind fun t278 => ((keys_Cmp.f t275 t278).bind fun t281 => ((value_CmpRow.f k x0 x1).bind fun t282 => (some (t281 == t282)))))) else (some false))
end
def tailracelaw02_KeysOrder.f (k : Nat) (l0 : List (S38)) (l1 : List (S38)) : Option (Bool) := (tailracelaw02_awake.f).bind fun t270 => ((tailracelaw02_few.f k l0).bind fun t271 => (if t271 = true then ((tailracelaw02_few.f k l1).bind fun t272 => (tailracelaw02_KeysOrder.j0 k l0 l1 t270 (!t272))) else (tailracelaw02_KeysOrder.j0 k l0 l1 t270 true)))
theorem tailracelaw02_KeysOrder.mono_l : ∀ k, (∀ y0 y1 y2 y3, LeO (tailracelaw02_KeysOrder.j0 k y0 y1 y2 y3) (tailracelaw02_KeysOrder.j0 (k + 1) y0 y1 y2 y3)) ∧ (∀ y0 y1 y2 y3, LeO (tailracelaw02_KeysOrder.j1 k y0 y1 y2 y3) (tailracelaw02_KeysOrder.j1 (k + 1) y0 y1 y2 y3))
  | 0 => ⟨fun _ _ _ _ r h => by simp [tailracelaw02_KeysOrder.j0] at h, fun _ _ _ _ r h => by simp [tailracelaw02_KeysOrder.j1] at h⟩
  | k + 1 => by
    obtain ⟨ih0, ih1⟩ := tailracelaw02_KeysOrder.mono_l k
    refine ⟨?_, ?_⟩
    · intro y0 y1 y2 y3
      unfold tailracelaw02_KeysOrder.j0
      repeat' first
      | (with_reducible exact ih0 _ _ _ _)
      | (with_reducible exact ih1 _ _ _ _)
      | (with_reducible exact tailracelaw02_few.mono _ _)
      | (with_reducible exact tailracelaw02_good.mono _ _)
      | (with_reducible exact value_CmpRow.mono _ _ _)
      | (with_reducible exact LeO.refl _)
      | (with_reducible exact LeO.none _)
      | (with_reducible refine LeO.ite ?_ ?_)
      | (with_reducible refine LeO.bind ?_ (fun _ => ?_))
      | exact ih0 _ _ _ _
      | exact ih1 _ _ _ _
      | exact tailracelaw02_few.mono _ _
      | exact tailracelaw02_good.mono _ _
      | exact value_CmpRow.mono _ _ _
      | exact LeO.none _
      | refine LeO.ite ?_ ?_
      | refine LeO.bind ?_ (fun _ => ?_)
    · intro y0 y1 y2 y3
      unfold tailracelaw02_KeysOrder.j1
      repeat' first
      | (with_reducible exact ih0 _ _ _ _)
      | (with_reducible exact ih1 _ _ _ _)
      | (with_reducible exact tailracelaw02_few.mono _ _)
      | (with_reducible exact tailracelaw02_good.mono _ _)
      | (with_reducible exact value_CmpRow.mono _ _ _)
      | (with_reducible exact LeO.refl _)
      | (with_reducible exact LeO.none _)
      | (with_reducible refine LeO.ite ?_ ?_)
      | (with_reducible refine LeO.bind ?_ (fun _ => ?_))
      | exact ih0 _ _ _ _
      | exact ih1 _ _ _ _
      | exact tailracelaw02_few.mono _ _
      | exact tailracelaw02_good.mono _ _
      | exact value_CmpRow.mono _ _ _
      | exact LeO.none _
      | refine LeO.ite ?_ ?_
      | refine LeO.bind ?_ (fun _ => ?_)
theorem tailracelaw02_KeysOrder.mono : ∀ a0 a1 k, LeO (tailracelaw02_KeysOrder.f k a0 a1) (tailracelaw02_KeysOrder.f (k + 1) a0 a1) := by
  intro a0 a1 k
  obtain ⟨ih0, ih1⟩ := tailracelaw02_KeysOrder.mono_l k
  unfold tailracelaw02_KeysOrder.f
  repeat' first
      | (with_reducible exact ih0 _ _ _ _)
      | (with_reducible exact ih1 _ _ _ _)
      | (with_reducible exact tailracelaw02_few.mono _ _)
      | (with_reducible exact tailracelaw02_good.mono _ _)
      | (with_reducible exact value_CmpRow.mono _ _ _)
      | (with_reducible exact LeO.refl _)
      | (with_reducible exact LeO.none _)
      | (with_reducible refine LeO.ite ?_ ?_)
      | (with_reducible refine LeO.bind ?_ (fun _ => ?_))
      | exact ih0 _ _ _ _
      | exact ih1 _ _ _ _
      | exact tailracelaw02_few.mono _ _
      | exact tailracelaw02_good.mono _ _
      | exact value_CmpRow.mono _ _ _
      | exact LeO.none _
      | refine LeO.ite ?_ ?_
      | refine LeO.bind ?_ (fun _ => ?_)
set_option maxHeartbeats 8000000 in
set_option maxRecDepth 100000 in
theorem tailracelaw02_KeysOrder.calls (k : Nat) (A0 : Option Addr) (c0 : Nat) (l0 : List (S38)) (A1 : Option Addr) (c1 : Nat) (l1 : List (S38)) (r : Bool) (w : World) (hr0 : Kd.C k38 w A0 l0.length l0) (hc0 : l0.length ≤ c0) (hr1 : Kd.C k38 w A1 l1.length l1) (hc1 : l1.length ≤ c1) (h : tailracelaw02_KeysOrder.f k l0 l1 = some r) :
    Calls Try.prog 9 #[.slice A0 l0.length c0, .slice A1 l1.length c1] w fun e w' => e = .returned (.bool r) ∧ Below w.heap.size w w' := by
  have HR0 := Aside0.mk hr0
  have HC0 := Aside0.mk hc0
  clear hr0 hc0
  have HR1 := Aside0.mk hr1
  have HC1 := Aside0.mk hc1
  clear hr1 hc1
  have HB := Aside0.mk (Below.refl w.heap.size w)
  have H : ((tailracelaw02_awake.f).bind fun t270 => ((tailracelaw02_few.f k l0).bind fun t271 => (if t271 = true then ((tailracelaw02_few.f k l1).bind fun t272 => (tailracelaw02_KeysOrder.j0 k l0 l1 t270 (!t272))) else (tailracelaw02_KeysOrder.j0 k l0 l1 t270 true)))) = some r := h
  clear h
  replace H := Option.bind_eq_some_iff.mp H
  obtain ⟨t270, A30, H⟩ := H
  replace H : ((tailracelaw02_few.f k l0).bind fun t271 => (if t271 = true then ((tailracelaw02_few.f k l1).bind fun t272 => (tailracelaw02_KeysOrder.j0 k l0 l1 t270 (!t272))) else (tailracelaw02_KeysOrder.j0 k l0 l1 t270 true))) = some r := H
  have A3 := Aside0.mk A30
  clear A30
  have HC4 := Aside0.mk H
  clear H
  go_enter Try.func9, Try.ntmps9
  go_upto_region 2 with (first | ((with_reducible refine gate_callee (f := 10) rfl ?_); refine goesL_ (some 8) rfl rfl Try.func10 (by kernel_rfl) rfl #[] rfl (by (try simp only [List.map_toArray, List.map_cons, List.map_nil]); first | done | rfl | (simp only [List.length_drop, List.length_take]; rfl)) ?_; (with_reducible refine (tailracelaw02_awake.calls  t270 _ A3.out).mono ?_); rintro e w5 ⟨rfl, hb⟩; refine ⟨_, rfl, ?_⟩; have n0_ := Aside0.mk (below_step (by repeat (first | (with_reducible first | exact HB.out | apply below_alloc | apply pw_below_drewN | apply below_drew1) | exact HB.out)) hb); clear HB; have HB := n0_; clear n0_; (try clear hb); (try clear hb2); (try clear hk); (try clear hi)))
  (try simp only [Act.put, List.setIfInBounds_toArray, List.set_cons_zero, List.set_cons_succ])
  go_cut [16] (fun v16 wc => ∃ (kq : Nat) (x16_3 : Bool), v16 = .bool x16_3 ∧ Aside0 (tailracelaw02_KeysOrder.j0 kq l0 l1 t270 x16_3 = some r) ∧ Aside0 (kq ≤ k) ∧ Aside0 (Below w.heap.size w wc))
  case first =>
    have H := HC4.out
    clear HC4
    replace H := Option.bind_eq_some_iff.mp H
    obtain ⟨t271, A60, H⟩ := H
    replace H : (if t271 = true then ((tailracelaw02_few.f k l1).bind fun t272 => (tailracelaw02_KeysOrder.j0 k l0 l1 t270 (!t272))) else (tailracelaw02_KeysOrder.j0 k l0 l1 t270 true)) = some r := H
    have A6 := Aside0.mk A60
    clear A60
    by_cases c7 : t271 = true
    · subst c7
      have H1 : ((tailracelaw02_few.f k l1).bind fun t272 => (tailracelaw02_KeysOrder.j0 k l0 l1 t270 (!t272))) = some r := by rw [if_pos rfl] at H; exact H
      clear H
      have H := H1
      clear H1
      replace H := Option.bind_eq_some_iff.mp H
      obtain ⟨t272, A80, H⟩ := H
      replace H : (tailracelaw02_KeysOrder.j0 k l0 l1 t270 (!t272)) = some r := H
      have A8 := Aside0.mk A80
      clear A80
      have H' := Aside0.mk H
      clear H
      go_wp2_with (first | ((with_reducible refine gate_callee (f := 11) rfl ?_); refine goesL_ (some 10) rfl rfl Try.func11 (by kernel_rfl) rfl #[.slice A0 l0.length c0] rfl (by (try simp only [List.map_toArray, List.map_cons, List.map_nil]); first | done | rfl | (simp only [List.length_drop, List.length_take]; rfl)) ?_; (with_reducible refine (tailracelaw02_few.calls k _ _ l0 true _ ?side1 ?side2 A6.out).mono ?_); (case side1 => repeat (first | exact (Kd.C_below HR0.out HB.out) | (with_reducible refine Kd.C_alloc ?_ _) | (with_reducible refine Kd.C_drewN ?_ _) | (with_reducible refine Kd.C_drew ?_))); (case side2 => exact HC0.out); rintro e w' ⟨rfl, ⟨nd, rfl⟩⟩; refine ⟨_, rfl, ?_⟩) | (go_at_call 11; (with_reducible refine (tailracelaw02_few.calls k _ _ l1 t272 _ ?side1 ?side2 A8.out).mono ?_); (case side1 => repeat (first | exact (Kd.C_below HR1.out (by repeat (first | (with_reducible first | exact HB.out | apply below_alloc | apply pw_below_drewN | apply below_drew1) | exact HB.out))) | (with_reducible refine Kd.C_alloc ?_ _) | (with_reducible refine Kd.C_drewN ?_ _) | (with_reducible refine Kd.C_drew ?_))); (case side2 => exact HC1.out); rintro e w' ⟨rfl, ⟨nd, rfl⟩⟩))
      go_meet
      case rel => exact ⟨_, (!t272), (by first | rfl | (simp; done) | (simp [*]; done)), H', ⟨by first | omega | exact Nat.le_refl _⟩, ⟨by repeat (first | (with_reducible first | exact HB.out | apply below_alloc | apply pw_below_drewN | apply below_drew1) | exact HB.out)⟩⟩
    · replace c7 := Bool.eq_false_iff.mpr c7
      subst c7
      have H1 : (tailracelaw02_KeysOrder.j0 k l0 l1 t270 true) = some r := by rw [if_neg (show ¬ (false = true) by decide)] at H; exact H
      clear H
      have H := H1
      clear H1
      have H' := Aside0.mk H
      clear H
      go_wp2_with (first | ((with_reducible refine gate_callee (f := 11) rfl ?_); refine goesL_ (some 10) rfl rfl Try.func11 (by kernel_rfl) rfl #[.slice A0 l0.length c0] rfl (by (try simp only [List.map_toArray, List.map_cons, List.map_nil]); first | done | rfl | (simp only [List.length_drop, List.length_take]; rfl)) ?_; (with_reducible refine (tailracelaw02_few.calls k _ _ l0 false _ ?side1 ?side2 A6.out).mono ?_); (case side1 => repeat (first | exact (Kd.C_below HR0.out HB.out) | (with_reducible refine Kd.C_alloc ?_ _) | (with_reducible refine Kd.C_drewN ?_ _) | (with_reducible refine Kd.C_drew ?_))); (case side2 => exact HC0.out); rintro e w' ⟨rfl, ⟨nd, rfl⟩⟩; refine ⟨_, rfl, ?_⟩))
      go_meet
      case rel => exact ⟨_, (true), (by first | rfl | (simp; done) | (simp [*]; done)), H', ⟨by first | omega | exact Nat.le_refl _⟩, ⟨by repeat (first | (with_reducible first | exact HB.out | apply below_alloc | apply pw_below_drewN | apply below_drew1) | exact HB.out)⟩⟩
  case rest =>
    clear HC4
    try clear c1
    try clear p2
    try clear c7
    obtain ⟨kq, x16_3, rfl, HA, HJ3, HB⟩ := hcut
    cases kq with
    | zero => exact absurd HA.out (by simp [tailracelaw02_KeysOrder.j0])
    | succ kj3 =>
      have H := HA.out
      clear HA
      simp only [tailracelaw02_KeysOrder.j0] at H
      by_cases c9 : x16_3 = true
      · subst c9
        have H1 : (some t270) = some r := by rw [if_pos rfl] at H; exact H
        clear H
        have H := H1
        clear H1
        obtain rfl := Option.some.inj H
        go_wp2
        go_ret
        exact ⟨by first | rfl | (simp [errW_none, errW_some] <;> rfl) | (simp [*, errW_none, errW_some] <;> rfl), by repeat (first | (with_reducible first | exact HB.out | apply below_alloc | apply pw_below_drewN | apply below_drew1) | exact HB.out)⟩
      · replace c9 := Bool.eq_false_iff.mpr c9
        subst c9
        have H1 : ((tailracelaw02_good.f kj3 l0).bind fun t273 => ((tailracelaw02_good.f kj3 l1).bind fun t274 => (if t273 = true then (tailracelaw02_KeysOrder.j1 kj3 l0 l1 t270 (!t274)) else (tailracelaw02_KeysOrder.j1 kj3 l0 l1 t270 true)))) = some r := by rw [if_neg (show ¬ (false = true) by decide)] at H; exact H
        clear H
        have H := H1
        clear H1
        replace H := Option.bind_eq_some_iff.mp H
        obtain ⟨t273, A100, H⟩ := H
        replace H : ((tailracelaw02_good.f kj3 l1).bind fun t274 => (if t273 = true then (tailracelaw02_KeysOrder.j1 kj3 l0 l1 t270 (!t274)) else (tailracelaw02_KeysOrder.j1 kj3 l0 l1 t270 true))) = some r := H
        have A10 := Aside0.mk A100
        clear A100
        replace H := Option.bind_eq_some_iff.mp H
        obtain ⟨t274, A110, H⟩ := H
        replace H : (if t273 = true then (tailracelaw02_KeysOrder.j1 kj3 l0 l1 t270 (!t274)) else (tailracelaw02_KeysOrder.j1 kj3 l0 l1 t270 true)) = some r := H
        have A11 := Aside0.mk A110
        clear A110
        have HC12 := Aside0.mk H
        clear H
        go_upto_region 6 with (first | ((with_reducible refine gate_callee (f := 22) rfl ?_); refine goesL_ (some 19) rfl rfl Try.func22 (by kernel_rfl) rfl #[.slice A0 l0.length c0] rfl (by (try simp only [List.map_toArray, List.map_cons, List.map_nil]); first | done | rfl | (simp only [List.length_drop, List.length_take]; rfl)) ?_; (with_reducible refine (tailracelaw02_good.calls kj3 _ _ l0 t273 _ ?side1 ?side2 A10.out).mono ?_); (case side1 => repeat (first | exact (Kd.C_below HR0.out HB.out) | (with_reducible refine Kd.C_alloc ?_ _) | (with_reducible refine Kd.C_drewN ?_ _) | (with_reducible refine Kd.C_drew ?_))); (case side2 => exact HC0.out); rintro e w13 ⟨rfl, hb⟩; refine ⟨_, rfl, ?_⟩; have n0_ := Aside0.mk (below_step (by repeat (first | (with_reducible first | exact HB.out | apply below_alloc | apply pw_below_drewN | apply below_drew1) | exact HB.out)) hb); clear HB; have HB := n0_; clear n0_; (try clear hb); (try clear hb2); (try clear hk); (try clear hi)) | ((with_reducible refine gate_callee (f := 22) rfl ?_); refine goesL_ (some 21) rfl rfl Try.func22 (by kernel_rfl) rfl #[.slice A1 l1.length c1] rfl (by (try simp only [List.map_toArray, List.map_cons, List.map_nil]); first | done | rfl | (simp only [List.length_drop, List.length_take]; rfl)) ?_; (with_reducible refine (tailracelaw02_good.calls kj3 _ _ l1 t274 _ ?side1 ?side2 A11.out).mono ?_); (case side1 => repeat (first | exact (Kd.C_below HR1.out HB.out) | (with_reducible refine Kd.C_alloc ?_ _) | (with_reducible refine Kd.C_drewN ?_ _) | (with_reducible refine Kd.C_drew ?_))); (case side2 => exact HC1.out); rintro e w14 ⟨rfl, hb⟩; refine ⟨_, rfl, ?_⟩; have n0_ := Aside0.mk (below_step (by repeat (first | (with_reducible first | exact HB.out | apply below_alloc | apply pw_below_drewN | apply below_drew1) | exact HB.out)) hb); clear HB; have HB := n0_; clear n0_; (try clear hb); (try clear hb2); (try clear hk); (try clear hi)))
        (try simp only [Act.put, List.setIfInBounds_toArray, List.set_cons_zero, List.set_cons_succ])
        go_cut [27] (fun v27 wc => ∃ (kq : Nat) (x27_11 : Bool), v27 = .bool x27_11 ∧ Aside0 (tailracelaw02_KeysOrder.j1 kq l0 l1 t270 x27_11 = some r) ∧ Aside0 (kq ≤ kj3) ∧ Aside0 (Below w.heap.size w wc))
        case first =>
          have H := HC12.out
          clear HC12
          by_cases c15 : t273 = true
          · subst c15
            have H1 : (tailracelaw02_KeysOrder.j1 kj3 l0 l1 t270 (!t274)) = some r := by rw [if_pos rfl] at H; exact H
            clear H
            have H := H1
            clear H1
            have H' := Aside0.mk H
            clear H
            go_wp2
            go_meet
            case rel => exact ⟨_, (!t274), (by first | rfl | (simp; done) | (simp [*]; done)), H', ⟨by have := HJ3.out; first | omega | exact Nat.le_refl _⟩, ⟨by repeat (first | (with_reducible first | exact HB.out | apply below_alloc | apply pw_below_drewN | apply below_drew1) | exact HB.out)⟩⟩
          · replace c15 := Bool.eq_false_iff.mpr c15
            subst c15
            have H1 : (tailracelaw02_KeysOrder.j1 kj3 l0 l1 t270 true) = some r := by rw [if_neg (show ¬ (false = true) by decide)] at H; exact H
            clear H
            have H := H1
            clear H1
            have H' := Aside0.mk H
            clear H
            go_wp2
            go_meet
            case rel => exact ⟨_, (true), (by first | rfl | (simp; done) | (simp [*]; done)), H', ⟨by have := HJ3.out; first | omega | exact Nat.le_refl _⟩, ⟨by repeat (first | (with_reducible first | exact HB.out | apply below_alloc | apply pw_below_drewN | apply below_drew1) | exact HB.out)⟩⟩
        case rest =>
          clear HC12
          try clear c1
          try clear c2
          try clear p2
          try clear c7
          try clear c9
          try clear c10
          try clear c11
          try clear c15
          try clear p2
          obtain ⟨kq, x27_11, rfl, HA, HJ11, HB⟩ := hcut
          cases kq with
          | zero => exact absurd HA.out (by simp [tailracelaw02_KeysOrder.j1])
          | succ kj11 =>
            have H := HA.out
            clear HA
            simp only [tailracelaw02_KeysOrder.j1] at H
            by_cases c16 : x27_11 = true
            · subst c16
              have H1 : (some t270) = some r := by rw [if_pos rfl] at H; exact H
              clear H
              have H := H1
              clear H1
              obtain rfl := Option.some.inj H
              go_wp2
              go_ret
              exact ⟨by first | rfl | (simp [errW_none, errW_some] <;> rfl) | (simp [*, errW_none, errW_some] <;> rfl), by repeat (first | (with_reducible first | exact HB.out | apply below_alloc | apply pw_below_drewN | apply below_drew1) | exact HB.out)⟩
            · replace c16 := Bool.eq_false_iff.mpr c16
              subst c16
              have H1 : (if t270 = true then ((keys_Row.f l0).bind fun t275 => ((keys_Row.f l1).bind fun t278 => ((keys_Cmp.f t275 t278).bind fun t281 => ((value_CmpRow.f kj11 l0 l1).bind fun t282 => (some (t281 == t282)))))) else (some false)) = some r := by rw [if_neg (show ¬ (false = true) by decide)] at H; exact H
              clear H
              have H := H1
              clear H1
              by_cases c17 : t270 = true
              · subst c17
                have H1 : ((keys_Row.f l0).bind fun t275 => ((keys_Row.f l1).bind fun t278 => ((keys_Cmp.f t275 t278).bind fun t281 => ((value_CmpRow.f kj11 l0 l1).bind fun t282 => (some (t281 == t282)))))) = some r := by rw [if_pos rfl] at H; exact H
                clear H
                have H := H1
                clear H1
                replace H := Option.bind_eq_some_iff.mp H
                obtain ⟨t275, A180, H⟩ := H
                replace H : ((keys_Row.f l1).bind fun t278 => ((keys_Cmp.f t275 t278).bind fun t281 => ((value_CmpRow.f kj11 l0 l1).bind fun t282 => (some (t281 == t282))))) = some r := H
                have A18 := Aside0.mk A180
                clear A180
                replace H := Option.bind_eq_some_iff.mp H
                obtain ⟨t278, A190, H⟩ := H
                replace H : ((keys_Cmp.f t275 t278).bind fun t281 => ((value_CmpRow.f kj11 l0 l1).bind fun t282 => (some (t281 == t282)))) = some r := H
                have A19 := Aside0.mk A190
                clear A190
                replace H := Option.bind_eq_some_iff.mp H
                obtain ⟨t281, A200, H⟩ := H
                replace H : ((value_CmpRow.f kj11 l0 l1).bind fun t282 => (some (t281 == t282))) = some r := H
                have A20 := Aside0.mk A200
                clear A200
                replace H := Option.bind_eq_some_iff.mp H
                obtain ⟨t282, A210, H⟩ := H
                replace H : (some (t281 == t282)) = some r := H
                have A21 := Aside0.mk A210
                clear A210
                obtain rfl := Option.some.inj H
                go_wp2_with (first | (go_at_call 15; (with_reducible refine (keys_Row.calls _ _ l0 t275 _ ?side1 ?side2 A18.out).mono ?_); (case side1 => repeat (first | exact (Kd.C_below HR0.out HB.out) | (with_reducible refine Kd.C_alloc ?_ _) | (with_reducible refine Kd.C_drewN ?_ _) | (with_reducible refine Kd.C_drew ?_))); (case side2 => exact HC0.out); rintro e w22 ⟨v276, rfl, ho0, hb⟩; have n0_ := Aside0.mk (Kd.R_lower ho0 (below_size (by repeat (first | (with_reducible first | exact HB.out | apply below_alloc | apply pw_below_drewN | apply below_drew1) | exact HB.out)))); have n1_ := Aside0.mk (below_step (by repeat (first | (with_reducible first | exact HB.out | apply below_alloc | apply pw_below_drewN | apply below_drew1) | exact HB.out)) hb); clear HB; have HO277 := n0_; have HB := n1_; clear n0_ n1_; (try clear hb); (try clear hb2); (try clear hk); (try clear hi); (try clear ho0)) | (go_at_call 15; (with_reducible refine (keys_Row.calls _ _ l1 t278 _ ?side1 ?side2 A19.out).mono ?_); (case side1 => repeat (first | exact (Kd.C_below HR1.out HB.out) | (with_reducible refine Kd.C_alloc ?_ _) | (with_reducible refine Kd.C_drewN ?_ _) | (with_reducible refine Kd.C_drew ?_))); (case side2 => exact HC1.out); rintro e w23 ⟨v279, rfl, ho0, hb⟩; have n0_ := Aside0.mk (Kd.R_elder' (by (with_reducible repeat (first | apply Kd.R_alloc | apply Kd.R_drewN | apply Kd.R_drew)); exact HO277.out) (Kd.R_base ho0) hb); have n1_ := Aside0.mk (Kd.R_lower (Kd.R_new' ho0 (Kd.R_lt (by (with_reducible repeat (first | apply Kd.R_alloc | apply Kd.R_drewN | apply Kd.R_drew)); exact HO277.out))) (below_size (by repeat (first | (with_reducible first | exact HB.out | apply below_alloc | apply pw_below_drewN | apply below_drew1) | exact HB.out)))); have n2_ := Aside0.mk (below_step (by repeat (first | (with_reducible first | exact HB.out | apply below_alloc | apply pw_below_drewN | apply below_drew1) | exact HB.out)) hb); clear HO277; clear HB; have HO277 := n0_; have HO280 := n1_; have HB := n2_; clear n0_ n1_ n2_; (try clear hb); (try clear hb2); (try clear hk); (try clear hi); (try clear ho0); obtain ⟨Ao24, co24, eo24⟩ := Kd.R_slice HO277.out; subst eo24; obtain ⟨Ao25, co25, eo25⟩ := Kd.R_slice HO280.out; subst eo25) | (go_at_call 20; (with_reducible refine (keys_Cmp.calls _ _ t275 _ _ t278 t281 _ ?side1 ?side2 ?side3 ?side4 A20.out).mono ?_); (case side1 => repeat (first | exact (Kd.R_reads' HO277.out).2.2 | (with_reducible refine Kd.C_alloc ?_ _) | (with_reducible refine Kd.C_drewN ?_ _) | (with_reducible refine Kd.C_drew ?_))); (case side2 => exact (Kd.R_reads' HO277.out).2.1); (case side3 => repeat (first | exact (Kd.R_reads' HO280.out).2.2 | (with_reducible refine Kd.C_alloc ?_ _) | (with_reducible refine Kd.C_drewN ?_ _) | (with_reducible refine Kd.C_drew ?_))); (case side4 => exact (Kd.R_reads' HO280.out).2.1); rintro e w' ⟨rfl, ⟨nd, rfl⟩⟩) | (go_at_call 23; (with_reducible refine (value_CmpRow.calls kj11 _ _ l0 _ _ l1 t282 _ ?side1 ?side2 ?side3 ?side4 A21.out).mono ?_); (case side1 => repeat (first | exact (Kd.C_below HR0.out (by repeat (first | (with_reducible first | exact HB.out | apply below_alloc | apply pw_below_drewN | apply below_drew1) | exact HB.out))) | (with_reducible refine Kd.C_alloc ?_ _) | (with_reducible refine Kd.C_drewN ?_ _) | (with_reducible refine Kd.C_drew ?_))); (case side2 => exact HC0.out); (case side3 => repeat (first | exact (Kd.C_below HR1.out (by repeat (first | (with_reducible first | exact HB.out | apply below_alloc | apply pw_below_drewN | apply below_drew1) | exact HB.out))) | (with_reducible refine Kd.C_alloc ?_ _) | (with_reducible refine Kd.C_drewN ?_ _) | (with_reducible refine Kd.C_drew ?_))); (case side4 => exact HC1.out); rintro e w26 ⟨rfl, hb⟩; have n0_ := Aside0.mk (Kd.R_below (by (with_reducible repeat (first | apply Kd.R_alloc | apply Kd.R_drewN | apply Kd.R_drew)); exact HO277.out) hb); have n1_ := Aside0.mk (Kd.R_below (by (with_reducible repeat (first | apply Kd.R_alloc | apply Kd.R_drewN | apply Kd.R_drew)); exact HO280.out) hb); have n2_ := Aside0.mk (below_step (by repeat (first | (with_reducible first | exact HB.out | apply below_alloc | apply pw_below_drewN | apply below_drew1) | exact HB.out)) hb); clear HO277; clear HO280; clear HB; have HO277 := n0_; have HO280 := n1_; have HB := n2_; clear n0_ n1_ n2_; (try clear hb); (try clear hb2); (try clear hk); (try clear hi)))
                go_ret
                exact ⟨by first | rfl | (simp [errW_none, errW_some] <;> rfl) | (simp [*, errW_none, errW_some] <;> rfl), by repeat (first | (with_reducible first | exact HB.out | apply below_alloc | apply pw_below_drewN | apply below_drew1) | exact HB.out)⟩
              · replace c17 := Bool.eq_false_iff.mpr c17
                subst c17
                have H1 : (some false) = some r := by rw [if_neg (show ¬ (false = true) by decide)] at H; exact H
                clear H
                have H := H1
                clear H1
                obtain rfl := Option.some.inj H
                go_wp2
                go_ret
                exact ⟨by first | rfl | (simp [errW_none, errW_some] <;> rfl) | (simp [*, errW_none, errW_some] <;> rfl), by repeat (first | (with_reducible first | exact HB.out | apply below_alloc | apply pw_below_drewN | apply below_drew1) | exact HB.out)⟩

end Go.Proofs.Ytniihilegljgmaa.P
