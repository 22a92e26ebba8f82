-- Written by a program of this session (a patched print): not the kit's own print.
import Derived.Test.YtdjiclphnoepcaaPx0
import Derived.Test.YtdjiclphnoepcaaPx2
import Derived.Test.YtdjiclphnoepcaaPx3
import Derived.Test.YtdjiclphnoepcaaPx4
import Derived.Test.YtdjiclphnoepcaaHandE
import Derived.Test.YtdjiclphnoepcaaHandI
import Derived.Test.YtdjiclphnoepcaaHandW
namespace Go.Proofs.Ytdjiclphnoepcaa.P
open Go.RowKit Go.Proofs.YtdjiclphnoepcaaW.PrintWords Go.Proofs.YtdjiclphnoepcaaW.PrintLast Go.Proofs.YtdjiclphnoepcaaW.PrintMore
attribute [local go_sem] Go.Proofs.YtdjiclphnoepcaaOwn.leq_str Go.Proofs.YtdjiclphnoepcaaOwn.gtr_str Go.Proofs.YtdjiclphnoepcaaOwn.geq_str max2_int min2_int max_two min_two max_three min_three max_four min_four   -- for this text's walks alone
set_option linter.unusedVariables false
set_option linter.unusedSimpArgs false

/-! ### tailracelaw10_NodeBack: function 6 -/
mutual
def tailracelaw10_NodeBack.j0 : Nat → Int → List Int → Bool → Bool → Bool → List ByteArray → List ByteArray → List Int → Option (Bool)
  | 0, _, _, _, _, _, _, _, _ => none
  | k + 1, x1, x2, x7, x27, x234000, x234001, x234002, x234003 => if x27 = true then (some x7) else ((node_Encode.f x234000 x234001 x234002 x234003).bind fun bt236 => (if bt236.2.2 = 0 then ((node_Decode.f bt236.1 bt236.2.1).bind fun bt241 => ((tailraceref10_Same.f k bt241.1 bt241.2.1 bt241.2.2.1 bt241.2.2.2.1 x234000 x234001 x234002 x234003).bind fun t253 => (if t253 = true then (if bt241.2.2.2.2 = 0 then ((node_Size.f k x234000 x234001 x234002 x234003).bind fun t254 => (if (bt236.2.1.length : Int) = t254 then (if (bt236.2.1.length : Int) > 1000 then (tailracelaw10_NodeBack.j1 k x1 x2 x7 true) else (if bt236.1 = 2 then (tailracelaw10_NodeBack.j1 k x1 x2 x7 false) else (tailracelaw10_NodeBack.j1 k x1 x2 x7 x234000))) else (tailracelaw10_NodeBack.j1 k x1 x2 x7 true))) else (tailracelaw10_NodeBack.j1 k x1 x2 x7 true)) else (tailracelaw10_NodeBack.j1 k x1 x2 x7 true)))) else ((node_Check.f k x234000 x234001 x234002 x234003).bind fun t255 => (if t255 = 0 then ((node_Size.f k x234000 x234001 x234002 x234003).bind fun t256 => (tailracelaw10_NodeBack.j2 k x1 x2 x7 ((bt236.2.2 == 101) != (decide (t256 > 1000))))) else (tailracelaw10_NodeBack.j2 k x1 x2 x7 ((bt236.2.2 == 101) != false))))))
def tailracelaw10_NodeBack.j3 : Nat → Int → List Int → Bool → Option (Bool)
  | 0, _, _, _ => none
  | k + 1, x1, x2, x7 => (node_Decode.f x1 x2).bind fun bt257 => (if bt257.2.2.2.2 = 0 then ((node_Encode.f bt257.1 bt257.2.1 bt257.2.2.1 bt257.2.2.2.1).bind fun bt269 => (if x7 = true then (if bt269.1 = x1 then (if (strOfNums bt269.2.1).toList = (strOfNums x2).toList then (some (bt269.2.2 == 0)) else (some false)) else (some false)) else (some false))) else (if x7 = true then (if (bt257.2.1.length : Int) = 0 then (some ((bt257.2.2.2.1.length : Int) == 0)) else (some false)) else (some false)))
def tailracelaw10_NodeBack.j1 : Nat → Int → List Int → Bool → Bool → Option (Bool)
  | 0, _, _, _, _ => none
  | k + 1, x1, x2, x7, x71 => if x71 = true then (some false) else (tailracelaw10_NodeBack.j3 k x1 x2 x7)
def tailracelaw10_NodeBack.j2 : Nat → Int → List Int → Bool → Bool → Option (Bool)
  | 0, _, _, _, _ => none
  | k + 1, x1, x2, x7, x82 => if x82 = true then (some false) else (tailracelaw10_NodeBack.j3 k x1 x2 x7)
end
def tailracelaw10_NodeBack.f (k : Nat) (a0_0 : Bool) (l0_1 : List ByteArray) (l0_2 : List ByteArray) (l0_3 : List Int) (a1 : Int) (l2 : List Int) : Option (Bool) := (tailracelaw10_awake.f).bind fun t234 => ((tailracelaw10_Few.f k a0_0 l0_1 l0_2 l0_3).bind fun t235 => (if t235 = true then (tailracelaw10_NodeBack.j0 k a1 l2 t234 (decide ((l2.length : Int) > 2000)) a0_0 l0_1 l0_2 l0_3) else (tailracelaw10_NodeBack.j0 k a1 l2 t234 true a0_0 l0_1 l0_2 l0_3)))
theorem tailracelaw10_NodeBack.mono_l : ∀ k, (∀ y0 y1 y2 y3 y4 y5 y6 y7, LeO (tailracelaw10_NodeBack.j0 k y0 y1 y2 y3 y4 y5 y6 y7) (tailracelaw10_NodeBack.j0 (k + 1) y0 y1 y2 y3 y4 y5 y6 y7)) ∧ (∀ y0 y1 y2, LeO (tailracelaw10_NodeBack.j3 k y0 y1 y2) (tailracelaw10_NodeBack.j3 (k + 1) y0 y1 y2)) ∧ (∀ y0 y1 y2 y3, LeO (tailracelaw10_NodeBack.j1 k y0 y1 y2 y3) (tailracelaw10_NodeBack.j1 (k + 1) y0 y1 y2 y3)) ∧ (∀ y0 y1 y2 y3, LeO (tailracelaw10_NodeBack.j2 k y0 y1 y2 y3) (tailracelaw10_NodeBack.j2 (k + 1) y0 y1 y2 y3))
  | 0 => ⟨fun _ _ _ _ _ _ _ _ r h => by simp [tailracelaw10_NodeBack.j0] at h, fun _ _ _ r h => by simp [tailracelaw10_NodeBack.j3] at h, fun _ _ _ _ r h => by simp [tailracelaw10_NodeBack.j1] at h, fun _ _ _ _ r h => by simp [tailracelaw10_NodeBack.j2] at h⟩
  | k + 1 => by
    obtain ⟨ih0, ih1, ih2, ih3⟩ := tailracelaw10_NodeBack.mono_l k
    refine ⟨?_, ?_, ?_, ?_⟩
    · intro y0 y1 y2 y3 y4 y5 y6 y7
      unfold tailracelaw10_NodeBack.j0
      repeat' first
      | (with_reducible exact ih0 _ _ _ _ _ _ _ _)
      | (with_reducible exact ih1 _ _ _)
      | (with_reducible exact ih2 _ _ _ _)
      | (with_reducible exact ih3 _ _ _ _)
      | (with_reducible exact node_Check.mono _ _ _ _ _)
      | (with_reducible exact node_Size.mono _ _ _ _ _)
      | (with_reducible exact tailracelaw10_Few.mono _ _ _ _ _)
      | (with_reducible exact tailraceref10_Same.mono _ _ _ _ _ _ _ _ _)
      | (with_reducible exact LeO.refl _)
      | (with_reducible exact LeO.none _)
      | (with_reducible refine LeO.ite ?_ ?_)
      | (with_reducible refine LeO.bind ?_ (fun _ => ?_))
      | exact ih0 _ _ _ _ _ _ _ _
      | exact ih1 _ _ _
      | exact ih2 _ _ _ _
      | exact ih3 _ _ _ _
      | exact node_Check.mono _ _ _ _ _
      | exact node_Size.mono _ _ _ _ _
      | exact tailracelaw10_Few.mono _ _ _ _ _
      | exact tailraceref10_Same.mono _ _ _ _ _ _ _ _ _
      | exact LeO.none _
      | refine LeO.ite ?_ ?_
      | refine LeO.bind ?_ (fun _ => ?_)
    · intro y0 y1 y2
      unfold tailracelaw10_NodeBack.j3
      repeat' first
      | (with_reducible exact ih0 _ _ _ _ _ _ _ _)
      | (with_reducible exact ih1 _ _ _)
      | (with_reducible exact ih2 _ _ _ _)
      | (with_reducible exact ih3 _ _ _ _)
      | (with_reducible exact node_Check.mono _ _ _ _ _)
      | (with_reducible exact node_Size.mono _ _ _ _ _)
      | (with_reducible exact tailracelaw10_Few.mono _ _ _ _ _)
      | (with_reducible exact tailraceref10_Same.mono _ _ _ _ _ _ _ _ _)
      | (with_reducible exact LeO.refl _)
      | (with_reducible exact LeO.none _)
      | (with_reducible refine LeO.ite ?_ ?_)
      | (with_reducible refine LeO.bind ?_ (fun _ => ?_))
      | exact ih0 _ _ _ _ _ _ _ _
      | exact ih1 _ _ _
      | exact ih2 _ _ _ _
      | exact ih3 _ _ _ _
      | exact node_Check.mono _ _ _ _ _
      | exact node_Size.mono _ _ _ _ _
      | exact tailracelaw10_Few.mono _ _ _ _ _
      | exact tailraceref10_Same.mono _ _ _ _ _ _ _ _ _
      | exact LeO.none _
      | refine LeO.ite ?_ ?_
      | refine LeO.bind ?_ (fun _ => ?_)
    · intro y0 y1 y2 y3
      unfold tailracelaw10_NodeBack.j1
      repeat' first
      | (with_reducible exact ih0 _ _ _ _ _ _ _ _)
      | (with_reducible exact ih1 _ _ _)
      | (with_reducible exact ih2 _ _ _ _)
      | (with_reducible exact ih3 _ _ _ _)
      | (with_reducible exact node_Check.mono _ _ _ _ _)
      | (with_reducible exact node_Size.mono _ _ _ _ _)
      | (with_reducible exact tailracelaw10_Few.mono _ _ _ _ _)
      | (with_reducible exact tailraceref10_Same.mono _ _ _ _ _ _ _ _ _)
      | (with_reducible exact LeO.refl _)
      | (with_reducible exact LeO.none _)
      | (with_reducible refine LeO.ite ?_ ?_)
      | (with_reducible refine LeO.bind ?_ (fun _ => ?_))
      | exact ih0 _ _ _ _ _ _ _ _
      | exact ih1 _ _ _
      | exact ih2 _ _ _ _
      | exact ih3 _ _ _ _
      | exact node_Check.mono _ _ _ _ _
      | exact node_Size.mono _ _ _ _ _
      | exact tailracelaw10_Few.mono _ _ _ _ _
      | exact tailraceref10_Same.mono _ _ _ _ _ _ _ _ _
      | exact LeO.none _
      | refine LeO.ite ?_ ?_
      | refine LeO.bind ?_ (fun _ => ?_)
    · intro y0 y1 y2 y3
      unfold tailracelaw10_NodeBack.j2
      repeat' first
      | (with_reducible exact ih0 _ _ _ _ _ _ _ _)
      | (with_reducible exact ih1 _ _ _)
      | (with_reducible exact ih2 _ _ _ _)
      | (with_reducible exact ih3 _ _ _ _)
      | (with_reducible exact node_Check.mono _ _ _ _ _)
      | (with_reducible exact node_Size.mono _ _ _ _ _)
      | (with_reducible exact tailracelaw10_Few.mono _ _ _ _ _)
      | (with_reducible exact tailraceref10_Same.mono _ _ _ _ _ _ _ _ _)
      | (with_reducible exact LeO.refl _)
      | (with_reducible exact LeO.none _)
      | (with_reducible refine LeO.ite ?_ ?_)
      | (with_reducible refine LeO.bind ?_ (fun _ => ?_))
      | exact ih0 _ _ _ _ _ _ _ _
      | exact ih1 _ _ _
      | exact ih2 _ _ _ _
      | exact ih3 _ _ _ _
      | exact node_Check.mono _ _ _ _ _
      | exact node_Size.mono _ _ _ _ _
      | exact tailracelaw10_Few.mono _ _ _ _ _
      | exact tailraceref10_Same.mono _ _ _ _ _ _ _ _ _
      | exact LeO.none _
      | refine LeO.ite ?_ ?_
      | refine LeO.bind ?_ (fun _ => ?_)
theorem tailracelaw10_NodeBack.mono : ∀ a0 a1 a2 a3 a4 a5 k, LeO (tailracelaw10_NodeBack.f k a0 a1 a2 a3 a4 a5) (tailracelaw10_NodeBack.f (k + 1) a0 a1 a2 a3 a4 a5) := by
  intro a0 a1 a2 a3 a4 a5 k
  obtain ⟨ih0, ih1, ih2, ih3⟩ := tailracelaw10_NodeBack.mono_l k
  unfold tailracelaw10_NodeBack.f
  repeat' first
      | (with_reducible exact ih0 _ _ _ _ _ _ _ _)
      | (with_reducible exact ih1 _ _ _)
      | (with_reducible exact ih2 _ _ _ _)
      | (with_reducible exact ih3 _ _ _ _)
      | (with_reducible exact node_Check.mono _ _ _ _ _)
      | (with_reducible exact node_Size.mono _ _ _ _ _)
      | (with_reducible exact tailracelaw10_Few.mono _ _ _ _ _)
      | (with_reducible exact tailraceref10_Same.mono _ _ _ _ _ _ _ _ _)
      | (with_reducible exact LeO.refl _)
      | (with_reducible exact LeO.none _)
      | (with_reducible refine LeO.ite ?_ ?_)
      | (with_reducible refine LeO.bind ?_ (fun _ => ?_))
      | exact ih0 _ _ _ _ _ _ _ _
      | exact ih1 _ _ _
      | exact ih2 _ _ _ _
      | exact ih3 _ _ _ _
      | exact node_Check.mono _ _ _ _ _
      | exact node_Size.mono _ _ _ _ _
      | exact tailracelaw10_Few.mono _ _ _ _ _
      | exact tailraceref10_Same.mono _ _ _ _ _ _ _ _ _
      | exact LeO.none _
      | refine LeO.ite ?_ ?_
      | refine LeO.bind ?_ (fun _ => ?_)
set_option maxHeartbeats 8000000 in
set_option maxRecDepth 100000 in
theorem tailracelaw10_NodeBack.calls (k : Nat) (a0_0 : Bool) (A0_1 : Option Addr) (c0_1 : Nat) (l0_1 : List ByteArray) (A0_2 : Option Addr) (c0_2 : Nat) (l0_2 : List ByteArray) (A0_3 : Option Addr) (c0_3 : Nat) (l0_3 : List Int) (a1 : Int) (A2 : Option Addr) (c2 : Nat) (l2 : List Int) (r : Bool) (w : World) (hr0_1 : Kd.C Kd.string w A0_1 l0_1.length l0_1) (hc0_1 : l0_1.length ≤ c0_1) (hr0_2 : Kd.C Kd.string w A0_2 l0_2.length l0_2) (hc0_2 : l0_2.length ≤ c0_2) (hr0_3 : Kd.C (Kd.int .i64) w A0_3 l0_3.length l0_3) (hc0_3 : l0_3.length ≤ c0_3) (hr2 : Kd.C (Kd.int .u8) w A2 l2.length l2) (hc2 : l2.length ≤ c2) (h : tailracelaw10_NodeBack.f k a0_0 l0_1 l0_2 l0_3 a1 l2 = some r) :
    Calls Try.prog 6 #[.agg #[.bool a0_0, .slice A0_1 l0_1.length c0_1, .slice A0_2 l0_2.length c0_2, .slice A0_3 l0_3.length c0_3], .int .i64 a1, .slice A2 l2.length c2] w fun e w' => e = .returned (.bool r) ∧ Below w.heap.size w w' := by
  have hu26 := Try.underlying26
  have HR0_1 := Aside0.mk hr0_1
  have HC0_1 := Aside0.mk hc0_1
  clear hr0_1 hc0_1
  have HR0_2 := Aside0.mk hr0_2
  have HC0_2 := Aside0.mk hc0_2
  clear hr0_2 hc0_2
  have HR0_3 := Aside0.mk hr0_3
  have HC0_3 := Aside0.mk hc0_3
  clear hr0_3 hc0_3
  have HR2 := Aside0.mk hr2
  have HC2 := Aside0.mk hc2
  clear hr2 hc2
  have HB := Aside0.mk (Below.refl w.heap.size w)
  have H : ((tailracelaw10_awake.f).bind fun t234 => ((tailracelaw10_Few.f k a0_0 l0_1 l0_2 l0_3).bind fun t235 => (if t235 = true then (tailracelaw10_NodeBack.j0 k a1 l2 t234 (decide ((l2.length : Int) > 2000)) a0_0 l0_1 l0_2 l0_3) else (tailracelaw10_NodeBack.j0 k a1 l2 t234 true a0_0 l0_1 l0_2 l0_3)))) = some r := h
  clear h
  replace H := Option.bind_eq_some_iff.mp H
  obtain ⟨t234, A40, H⟩ := H
  replace H : ((tailracelaw10_Few.f k a0_0 l0_1 l0_2 l0_3).bind fun t235 => (if t235 = true then (tailracelaw10_NodeBack.j0 k a1 l2 t234 (decide ((l2.length : Int) > 2000)) a0_0 l0_1 l0_2 l0_3) else (tailracelaw10_NodeBack.j0 k a1 l2 t234 true a0_0 l0_1 l0_2 l0_3))) = some r := H
  have A4 := Aside0.mk A40
  clear A40
  have HC5 := Aside0.mk H
  clear H
  go_enter Try.func6, Try.ntmps6
  go_upto_region 2 with (first | ((with_reducible refine gate_dst (N := 3) rfl ?_); (try (refine gate_guard (by rfl) ?_; dsimp only)); refine box_event ?hg (N := 3) ?hd (cs := #[.bool a0_0, .slice A0_1 l0_1.length c0_1, .slice A0_2 l0_2.length c0_2, .slice A0_3 l0_3.length c0_3]) (t := 26) ?hr ?_; (case hd => rfl); (case hg => rfl); (case hr => first | (go_simp; done) | (go_simp; rfl)); intro gb233 hg w6 hbox hb; have n0_ := Aside0.mk (below_step (by repeat (first | (with_reducible first | exact HB.out | apply below_alloc | apply pw_below_drewN | apply below_drew1) | exact HB.out)) hb); have n1_ := Aside0.mk (hbox); have n2_ := Aside0.mk ((by rw [hg]; exact (below_size (by repeat (first | (with_reducible first | exact HB.out | apply below_alloc | apply pw_below_drewN | apply below_drew1) | exact HB.out))) : w.heap.size ≤ gb233)); have n3_ := Aside0.mk ((by rw [hg]; exact (below_size (by repeat (first | (with_reducible first | exact HB.out | apply below_alloc | apply pw_below_drewN | apply below_drew1) | exact HB.out))) : w.heap.size ≤ gb233)); clear HB; have HB := n0_; have BK233 := n1_; have GW233 := n2_; have GE233 := n3_; clear n0_ n1_ n2_ n3_; clear hb hbox hg) | ((with_reducible refine gate_callee (f := 9) rfl ?_); refine goesL_ (some 19) rfl rfl Try.func9 (by kernel_rfl) rfl #[] rfl (by (try simp only [List.map_toArray, List.map_cons, List.map_nil]); first | done | rfl | (simp only [List.length_drop, List.length_take]; rfl)) ?_; (with_reducible refine (tailracelaw10_awake.calls  t234 _ A4.out).mono ?_); rintro e w7 ⟨rfl, hb⟩; refine ⟨_, rfl, ?_⟩; have n0_ := Aside0.mk (blk_below (g := gb233) (o := .cells #[.bool a0_0, .slice A0_1 l0_1.length c0_1, .slice A0_2 l0_2.length c0_2, .slice A0_3 l0_3.length c0_3] 26 (0, 0)) (by (with_reducible repeat (first | refine blk_drewN ?_ _ | refine blk_drew ?_ | refine blk_alloc ?_ _)); exact BK233.out) hb); have n1_ := Aside0.mk (below_step (by repeat (first | (with_reducible first | exact HB.out | apply below_alloc | apply pw_below_drewN | apply below_drew1 | refine below_set ?_ GE233.out) | exact HB.out)) hb); clear BK233; clear HB; have BK233 := n0_; have HB := n1_; clear n0_ n1_; (try clear hb); (try clear hb2); (try clear hk); (try clear hi)))
  (try simp only [Act.put, List.setIfInBounds_toArray, List.set_cons_zero, List.set_cons_succ])
  go_cut [27] (fun v27 wc => ∃ (kq : Nat) (x27_4 : Bool), v27 = .bool x27_4 ∧ Aside0 (tailracelaw10_NodeBack.j0 kq a1 l2 t234 x27_4 a0_0 l0_1 l0_2 l0_3 = some r) ∧ Aside0 (kq ≤ k) ∧ Aside0 (wc.heap[gb233]? = some (.cells #[.bool a0_0, (.slice A0_1 l0_1.length c0_1), (.slice A0_2 l0_2.length c0_2), (.slice A0_3 l0_3.length c0_3)] 26 (0, 0))) ∧ Aside0 (Below w.heap.size w wc))
  case first =>
    have H := HC5.out
    clear HC5
    replace H := Option.bind_eq_some_iff.mp H
    obtain ⟨t235, A80, H⟩ := H
    replace H : (if t235 = true then (tailracelaw10_NodeBack.j0 k a1 l2 t234 (decide ((l2.length : Int) > 2000)) a0_0 l0_1 l0_2 l0_3) else (tailracelaw10_NodeBack.j0 k a1 l2 t234 true a0_0 l0_1 l0_2 l0_3)) = some r := H
    have A8 := Aside0.mk A80
    clear A80
    by_cases c9 : t235 = true
    · subst c9
      have H1 : (tailracelaw10_NodeBack.j0 k a1 l2 t234 (decide ((l2.length : Int) > 2000)) a0_0 l0_1 l0_2 l0_3) = some r := by rw [if_pos rfl] at H; exact H
      clear H
      have H := H1
      clear H1
      have H' := Aside0.mk H
      clear H
      have hcz10_0 : w7.cell? ⟨gb233, 0, none⟩ = some (.bool a0_0) := (blk_cell BK233.out 0).trans rfl
      have hcz10_1 : w7.cell? ⟨gb233, 1, none⟩ = some (.slice A0_1 l0_1.length c0_1) := (blk_cell BK233.out 1).trans rfl
      have hcz10_2 : w7.cell? ⟨gb233, 2, none⟩ = some (.slice A0_2 l0_2.length c0_2) := (blk_cell BK233.out 2).trans rfl
      have hcz10_3 : w7.cell? ⟨gb233, 3, none⟩ = some (.slice A0_3 l0_3.length c0_3) := (blk_cell BK233.out 3).trans rfl
      have hfz10_0 := blk_frozen BK233.out 0
      have hfz10_1 := blk_frozen BK233.out 1
      have hfz10_2 := blk_frozen BK233.out 2
      have hfz10_3 := blk_frozen BK233.out 3
      go_wp2_with (first | ((with_reducible refine gate_callee (f := 10) rfl ?_); refine goesL_ (some 21) rfl rfl Try.func10 (by kernel_rfl) rfl #[.agg #[.bool a0_0, .slice A0_1 l0_1.length c0_1, .slice A0_2 l0_2.length c0_2, .slice A0_3 l0_3.length c0_3]] rfl (by (try simp only [List.map_toArray, List.map_cons, List.map_nil]); first | done | rfl | (simp only [List.length_drop, List.length_take]; rfl)) ?_; (with_reducible refine (tailracelaw10_Few.calls k a0_0 _ _ l0_1 _ _ l0_2 _ _ l0_3 true _ ?side1 ?side2 ?side3 ?side4 ?side5 ?side6 A8.out).mono ?_); (case side1 => repeat (first | exact (Kd.C_below HR0_1.out HB.out) | (with_reducible refine Kd.C_alloc ?_ _) | (with_reducible refine Kd.C_drewN ?_ _) | (with_reducible refine Kd.C_drew ?_))); (case side2 => exact HC0_1.out); (case side3 => repeat (first | exact (Kd.C_below HR0_2.out HB.out) | (with_reducible refine Kd.C_alloc ?_ _) | (with_reducible refine Kd.C_drewN ?_ _) | (with_reducible refine Kd.C_drew ?_))); (case side4 => exact HC0_2.out); (case side5 => repeat (first | exact (Kd.C_below HR0_3.out HB.out) | (with_reducible refine Kd.C_alloc ?_ _) | (with_reducible refine Kd.C_drewN ?_ _) | (with_reducible refine Kd.C_drew ?_))); (case side6 => exact HC0_3.out); rintro e w11 ⟨rfl, hb⟩; refine ⟨_, rfl, ?_⟩; have n0_ := Aside0.mk (blk_below (g := gb233) (o := .cells #[.bool a0_0, .slice A0_1 l0_1.length c0_1, .slice A0_2 l0_2.length c0_2, .slice A0_3 l0_3.length c0_3] 26 (0, 0)) (by (with_reducible repeat (first | refine blk_drewN ?_ _ | refine blk_drew ?_ | refine blk_alloc ?_ _)); exact BK233.out) hb); have n1_ := Aside0.mk (below_step (by repeat (first | (with_reducible first | exact HB.out | apply below_alloc | apply pw_below_drewN | apply below_drew1 | refine below_set ?_ GE233.out) | exact HB.out)) hb); clear BK233; clear HB; have BK233 := n0_; have HB := n1_; clear n0_ n1_; (try clear hb); (try clear hb2); (try clear hk); (try clear hi)))
      go_meet
      case rel => exact ⟨_, (decide ((l2.length : Int) > 2000)), (by first | rfl | (simp; done) | (simp [*]; done)), H', ⟨by first | omega | exact Nat.le_refl _⟩, ⟨by (with_reducible repeat (first | refine blk_drewN ?_ _ | refine blk_drew ?_ | refine blk_alloc ?_ _)); exact BK233.out⟩, ⟨by repeat (first | (with_reducible first | exact HB.out | apply below_alloc | apply pw_below_drewN | apply below_drew1 | refine below_set ?_ GE233.out) | exact HB.out)⟩⟩
    · replace c9 := Bool.eq_false_iff.mpr c9
      subst c9
      have H1 : (tailracelaw10_NodeBack.j0 k a1 l2 t234 true a0_0 l0_1 l0_2 l0_3) = some r := by rw [if_neg (show ¬ (false = true) by decide)] at H; exact H
      clear H
      have H := H1
      clear H1
      have H' := Aside0.mk H
      clear H
      have hcz12_0 : w7.cell? ⟨gb233, 0, none⟩ = some (.bool a0_0) := (blk_cell BK233.out 0).trans rfl
      have hcz12_1 : w7.cell? ⟨gb233, 1, none⟩ = some (.slice A0_1 l0_1.length c0_1) := (blk_cell BK233.out 1).trans rfl
      have hcz12_2 : w7.cell? ⟨gb233, 2, none⟩ = some (.slice A0_2 l0_2.length c0_2) := (blk_cell BK233.out 2).trans rfl
      have hcz12_3 : w7.cell? ⟨gb233, 3, none⟩ = some (.slice A0_3 l0_3.length c0_3) := (blk_cell BK233.out 3).trans rfl
      have hfz12_0 := blk_frozen BK233.out 0
      have hfz12_1 := blk_frozen BK233.out 1
      have hfz12_2 := blk_frozen BK233.out 2
      have hfz12_3 := blk_frozen BK233.out 3
      go_wp2_with (first | ((with_reducible refine gate_callee (f := 10) rfl ?_); refine goesL_ (some 21) rfl rfl Try.func10 (by kernel_rfl) rfl #[.agg #[.bool a0_0, .slice A0_1 l0_1.length c0_1, .slice A0_2 l0_2.length c0_2, .slice A0_3 l0_3.length c0_3]] rfl (by (try simp only [List.map_toArray, List.map_cons, List.map_nil]); first | done | rfl | (simp only [List.length_drop, List.length_take]; rfl)) ?_; (with_reducible refine (tailracelaw10_Few.calls k a0_0 _ _ l0_1 _ _ l0_2 _ _ l0_3 false _ ?side1 ?side2 ?side3 ?side4 ?side5 ?side6 A8.out).mono ?_); (case side1 => repeat (first | exact (Kd.C_below HR0_1.out HB.out) | (with_reducible refine Kd.C_alloc ?_ _) | (with_reducible refine Kd.C_drewN ?_ _) | (with_reducible refine Kd.C_drew ?_))); (case side2 => exact HC0_1.out); (case side3 => repeat (first | exact (Kd.C_below HR0_2.out HB.out) | (with_reducible refine Kd.C_alloc ?_ _) | (with_reducible refine Kd.C_drewN ?_ _) | (with_reducible refine Kd.C_drew ?_))); (case side4 => exact HC0_2.out); (case side5 => repeat (first | exact (Kd.C_below HR0_3.out HB.out) | (with_reducible refine Kd.C_alloc ?_ _) | (with_reducible refine Kd.C_drewN ?_ _) | (with_reducible refine Kd.C_drew ?_))); (case side6 => exact HC0_3.out); rintro e w13 ⟨rfl, hb⟩; refine ⟨_, rfl, ?_⟩; have n0_ := Aside0.mk (blk_below (g := gb233) (o := .cells #[.bool a0_0, .slice A0_1 l0_1.length c0_1, .slice A0_2 l0_2.length c0_2, .slice A0_3 l0_3.length c0_3] 26 (0, 0)) (by (with_reducible repeat (first | refine blk_drewN ?_ _ | refine blk_drew ?_ | refine blk_alloc ?_ _)); exact BK233.out) hb); have n1_ := Aside0.mk (below_step (by repeat (first | (with_reducible first | exact HB.out | apply below_alloc | apply pw_below_drewN | apply below_drew1 | refine below_set ?_ GE233.out) | exact HB.out)) hb); clear BK233; clear HB; have BK233 := n0_; have HB := n1_; clear n0_ n1_; (try clear hb); (try clear hb2); (try clear hk); (try clear hi)))
      go_meet
      case rel => exact ⟨_, (true), (by first | rfl | (simp; done) | (simp [*]; done)), H', ⟨by first | omega | exact Nat.le_refl _⟩, ⟨by (with_reducible repeat (first | refine blk_drewN ?_ _ | refine blk_drew ?_ | refine blk_alloc ?_ _)); exact BK233.out⟩, ⟨by repeat (first | (with_reducible first | exact HB.out | apply below_alloc | apply pw_below_drewN | apply below_drew1 | refine below_set ?_ GE233.out) | exact HB.out)⟩⟩
  case rest =>
    clear HC5
    try clear c1
    try clear c2
    try clear p2
    try clear c6
    try clear c9
    try clear c10
    try clear hcz10_0
    try clear hcz10_1
    try clear hcz10_2
    try clear hcz10_3
    try clear hcz12_0
    try clear hcz12_1
    try clear hcz12_2
    try clear hcz12_3
    try clear hfz10_0
    try clear hfz10_1
    try clear hfz10_2
    try clear hfz10_3
    try clear hfz12_0
    try clear hfz12_1
    try clear hfz12_2
    try clear hfz12_3
    obtain ⟨kq, x27_4, rfl, HA, HJ4, BK233, HB⟩ := hcut
    cases kq with
    | zero => exact absurd HA.out (by simp [tailracelaw10_NodeBack.j0])
    | succ kj4 =>
      have H := HA.out
      clear HA
      simp only [tailracelaw10_NodeBack.j0] at H
      by_cases c14 : x27_4 = true
      · subst c14
        have H1 : (some t234) = some r := by rw [if_pos rfl] at H; exact H
        clear H
        have H := H1
        clear H1
        obtain rfl := Option.some.inj H
        go_wp2
        go_ret
        exact ⟨by first | rfl | (simp [errW_none, errW_some] <;> rfl) | (simp [*, errW_none, errW_some] <;> rfl), by repeat (first | (with_reducible first | exact HB.out | apply below_alloc | apply pw_below_drewN | apply below_drew1 | refine below_set ?_ GE233.out) | exact HB.out)⟩
      · replace c14 := Bool.eq_false_iff.mpr c14
        subst c14
        have H1 : ((node_Encode.f a0_0 l0_1 l0_2 l0_3).bind fun bt236 => (if bt236.2.2 = 0 then ((node_Decode.f bt236.1 bt236.2.1).bind fun bt241 => ((tailraceref10_Same.f kj4 bt241.1 bt241.2.1 bt241.2.2.1 bt241.2.2.2.1 a0_0 l0_1 l0_2 l0_3).bind fun t253 => (if t253 = true then (if bt241.2.2.2.2 = 0 then ((node_Size.f kj4 a0_0 l0_1 l0_2 l0_3).bind fun t254 => (if (bt236.2.1.length : Int) = t254 then (if (bt236.2.1.length : Int) > 1000 then (tailracelaw10_NodeBack.j1 kj4 a1 l2 t234 true) else (if bt236.1 = 2 then (tailracelaw10_NodeBack.j1 kj4 a1 l2 t234 false) else (tailracelaw10_NodeBack.j1 kj4 a1 l2 t234 a0_0))) else (tailracelaw10_NodeBack.j1 kj4 a1 l2 t234 true))) else (tailracelaw10_NodeBack.j1 kj4 a1 l2 t234 true)) else (tailracelaw10_NodeBack.j1 kj4 a1 l2 t234 true)))) else ((node_Check.f kj4 a0_0 l0_1 l0_2 l0_3).bind fun t255 => (if t255 = 0 then ((node_Size.f kj4 a0_0 l0_1 l0_2 l0_3).bind fun t256 => (tailracelaw10_NodeBack.j2 kj4 a1 l2 t234 ((bt236.2.2 == 101) != (decide (t256 > 1000))))) else (tailracelaw10_NodeBack.j2 kj4 a1 l2 t234 ((bt236.2.2 == 101) != false)))))) = some r := by rw [if_neg (show ¬ (false = true) by decide)] at H; exact H
        clear H
        have H := H1
        clear H1
        replace H := Option.bind_eq_some_iff.mp H
        obtain ⟨⟨t236, t237, t240⟩, A150, H⟩ := H
        replace H : (if t240 = 0 then ((node_Decode.f t236 t237).bind fun bt241 => ((tailraceref10_Same.f kj4 bt241.1 bt241.2.1 bt241.2.2.1 bt241.2.2.2.1 a0_0 l0_1 l0_2 l0_3).bind fun t253 => (if t253 = true then (if bt241.2.2.2.2 = 0 then ((node_Size.f kj4 a0_0 l0_1 l0_2 l0_3).bind fun t254 => (if (t237.length : Int) = t254 then (if (t237.length : Int) > 1000 then (tailracelaw10_NodeBack.j1 kj4 a1 l2 t234 true) else (if t236 = 2 then (tailracelaw10_NodeBack.j1 kj4 a1 l2 t234 false) else (tailracelaw10_NodeBack.j1 kj4 a1 l2 t234 a0_0))) else (tailracelaw10_NodeBack.j1 kj4 a1 l2 t234 true))) else (tailracelaw10_NodeBack.j1 kj4 a1 l2 t234 true)) else (tailracelaw10_NodeBack.j1 kj4 a1 l2 t234 true)))) else ((node_Check.f kj4 a0_0 l0_1 l0_2 l0_3).bind fun t255 => (if t255 = 0 then ((node_Size.f kj4 a0_0 l0_1 l0_2 l0_3).bind fun t256 => (tailracelaw10_NodeBack.j2 kj4 a1 l2 t234 ((t240 == 101) != (decide (t256 > 1000))))) else (tailracelaw10_NodeBack.j2 kj4 a1 l2 t234 ((t240 == 101) != false))))) = some r := H
        have A15 := Aside0.mk A150
        clear A150
        have HC16 := Aside0.mk H
        clear H
        have hcz17_0 : wc.cell? ⟨gb233, 0, none⟩ = some (.bool a0_0) := (blk_cell BK233.out 0).trans rfl
        have hcz17_1 : wc.cell? ⟨gb233, 1, none⟩ = some (.slice A0_1 l0_1.length c0_1) := (blk_cell BK233.out 1).trans rfl
        have hcz17_2 : wc.cell? ⟨gb233, 2, none⟩ = some (.slice A0_2 l0_2.length c0_2) := (blk_cell BK233.out 2).trans rfl
        have hcz17_3 : wc.cell? ⟨gb233, 3, none⟩ = some (.slice A0_3 l0_3.length c0_3) := (blk_cell BK233.out 3).trans rfl
        have hfz17_0 := blk_frozen BK233.out 0
        have hfz17_1 := blk_frozen BK233.out 1
        have hfz17_2 := blk_frozen BK233.out 2
        have hfz17_3 := blk_frozen BK233.out 3
        go_upto_if 36 with (first | ((with_reducible refine gate_callee (f := 11) rfl ?_); refine goesL_ (some 31) rfl rfl Try.func11 (by kernel_rfl) rfl #[.agg #[.bool a0_0, .slice A0_1 l0_1.length c0_1, .slice A0_2 l0_2.length c0_2, .slice A0_3 l0_3.length c0_3]] rfl (by (try simp only [List.map_toArray, List.map_cons, List.map_nil]); first | done | rfl | (simp only [List.length_drop, List.length_take]; rfl)) ?_; (with_reducible refine (node_Encode.calls a0_0 _ _ l0_1 _ _ l0_2 _ _ l0_3 t236 t237 t240 _ ?side1 ?side2 ?side3 ?side4 ?side5 ?side6 A15.out).mono ?_); (case side1 => repeat (first | exact (Kd.C_below HR0_1.out HB.out) | (with_reducible refine Kd.C_alloc ?_ _) | (with_reducible refine Kd.C_drewN ?_ _) | (with_reducible refine Kd.C_drew ?_))); (case side2 => exact HC0_1.out); (case side3 => repeat (first | exact (Kd.C_below HR0_2.out HB.out) | (with_reducible refine Kd.C_alloc ?_ _) | (with_reducible refine Kd.C_drewN ?_ _) | (with_reducible refine Kd.C_drew ?_))); (case side4 => exact HC0_2.out); (case side5 => repeat (first | exact (Kd.C_below HR0_3.out HB.out) | (with_reducible refine Kd.C_alloc ?_ _) | (with_reducible refine Kd.C_drewN ?_ _) | (with_reducible refine Kd.C_drew ?_))); (case side6 => exact HC0_3.out); rintro e w18 ⟨v238, rfl, ho0, hb⟩; refine ⟨_, rfl, ?_⟩; have n0_ := Aside0.mk (Kd.R_lower ho0 (below_size (by repeat (first | (with_reducible first | exact HB.out | apply below_alloc | apply pw_below_drewN | apply below_drew1 | refine below_set ?_ GE233.out) | exact HB.out)))); have n1_ := Aside0.mk (blk_below (g := gb233) (o := .cells #[.bool a0_0, .slice A0_1 l0_1.length c0_1, .slice A0_2 l0_2.length c0_2, .slice A0_3 l0_3.length c0_3] 26 (0, 0)) (by (with_reducible repeat (first | refine blk_drewN ?_ _ | refine blk_drew ?_ | refine blk_alloc ?_ _)); exact BK233.out) hb); have n2_ := Aside0.mk (below_step (by repeat (first | (with_reducible first | exact HB.out | apply below_alloc | apply pw_below_drewN | apply below_drew1 | refine below_set ?_ GE233.out) | exact HB.out)) hb); clear BK233; clear HB; have HO239 := n0_; have BK233 := n1_; have HB := n2_; clear n0_ n1_ n2_; (try clear hb); (try clear hb2); (try clear hk); (try clear hi); (try clear ho0)))
        (try simp only [Act.put, List.setIfInBounds_toArray, List.set_cons_zero, List.set_cons_succ])
        go_cut [] (fun wc => ∃ (kq : Nat), Aside0 (tailracelaw10_NodeBack.j3 kq a1 l2 t234 = some r) ∧ Aside0 (kq ≤ kj4) ∧ Aside0 (wc.heap[gb233]? = some (.cells #[.bool a0_0, (.slice A0_1 l0_1.length c0_1), (.slice A0_2 l0_2.length c0_2), (.slice A0_3 l0_3.length c0_3)] 26 (0, 0))) ∧ Aside0 (Below w.heap.size w wc))
        case first =>
          have H := HC16.out
          clear HC16
          by_cases c19 : t240 = 0
          · rw [if_pos c19] at H
            have c19b0 : (t240 == 0) = true := beq_iff_eq.mpr c19
            have c19b1 : (t240 != 0) = false := bne_eq_false_iff_eq.mpr c19
            clear c19
            (first | rw [c19b0] | (simp only [i64_w, i32_w]; rw [c19b0]) | skip)
            replace H := Option.bind_eq_some_iff.mp H
            obtain ⟨⟨t241, t242, t245, t248, t251⟩, A200, H⟩ := H
            replace H : ((tailraceref10_Same.f kj4 t241 t242 t245 t248 a0_0 l0_1 l0_2 l0_3).bind fun t253 => (if t253 = true then (if t251 = 0 then ((node_Size.f kj4 a0_0 l0_1 l0_2 l0_3).bind fun t254 => (if (t237.length : Int) = t254 then (if (t237.length : Int) > 1000 then (tailracelaw10_NodeBack.j1 kj4 a1 l2 t234 true) else (if t236 = 2 then (tailracelaw10_NodeBack.j1 kj4 a1 l2 t234 false) else (tailracelaw10_NodeBack.j1 kj4 a1 l2 t234 a0_0))) else (tailracelaw10_NodeBack.j1 kj4 a1 l2 t234 true))) else (tailracelaw10_NodeBack.j1 kj4 a1 l2 t234 true)) else (tailracelaw10_NodeBack.j1 kj4 a1 l2 t234 true))) = some r := H
            have A20 := Aside0.mk A200
            clear A200
            replace H := Option.bind_eq_some_iff.mp H
            obtain ⟨t253, A210, H⟩ := H
            replace H : (if t253 = true then (if t251 = 0 then ((node_Size.f kj4 a0_0 l0_1 l0_2 l0_3).bind fun t254 => (if (t237.length : Int) = t254 then (if (t237.length : Int) > 1000 then (tailracelaw10_NodeBack.j1 kj4 a1 l2 t234 true) else (if t236 = 2 then (tailracelaw10_NodeBack.j1 kj4 a1 l2 t234 false) else (tailracelaw10_NodeBack.j1 kj4 a1 l2 t234 a0_0))) else (tailracelaw10_NodeBack.j1 kj4 a1 l2 t234 true))) else (tailracelaw10_NodeBack.j1 kj4 a1 l2 t234 true)) else (tailracelaw10_NodeBack.j1 kj4 a1 l2 t234 true)) = some r := H
            have A21 := Aside0.mk A210
            clear A210
            have HC22 := Aside0.mk H
            clear H
            obtain ⟨Ao23, co23, eo23⟩ := Kd.R_slice HO239.out
            subst eo23
            go_upto_region 8 with (first | ((with_reducible refine gate_callee (f := 17) rfl ?_); refine goesL_ (some 40) rfl rfl Try.func17 (by kernel_rfl) rfl #[.int .i64 t236, .slice Ao23 t237.length co23] rfl (by (try simp only [List.map_toArray, List.map_cons, List.map_nil]); first | done | rfl | (simp only [List.length_drop, List.length_take]; rfl)) ?_; (with_reducible refine (node_Decode.calls t236 _ _ t237 t241 t242 t245 t248 t251 _ ?side1 ?side2 A20.out).mono ?_); (case side1 => repeat (first | exact (Kd.R_reads' HO239.out).2.2 | (with_reducible refine Kd.C_alloc ?_ _) | (with_reducible refine Kd.C_drewN ?_ _) | (with_reducible refine Kd.C_drew ?_))); (case side2 => exact (Kd.R_reads' HO239.out).2.1); rintro e w24 ⟨v243, v246, v249, rfl, ho0, ho1, ho2, hb⟩; refine ⟨_, rfl, ?_⟩; have n0_ := Aside0.mk (Kd.R_below (by (with_reducible repeat (first | apply Kd.R_alloc | apply Kd.R_drewN | apply Kd.R_drew)); exact HO239.out) hb); have n1_ := Aside0.mk (Kd.R_lower ho0 (below_size (by repeat (first | (with_reducible first | exact HB.out | apply below_alloc | apply pw_below_drewN | apply below_drew1 | refine below_set ?_ GE233.out) | exact HB.out)))); have n2_ := Aside0.mk (Kd.R_lower ho1 (below_size (by repeat (first | (with_reducible first | exact HB.out | apply below_alloc | apply pw_below_drewN | apply below_drew1 | refine below_set ?_ GE233.out) | exact HB.out)))); have n3_ := Aside0.mk (Kd.R_lower ho2 (below_size (by repeat (first | (with_reducible first | exact HB.out | apply below_alloc | apply pw_below_drewN | apply below_drew1 | refine below_set ?_ GE233.out) | exact HB.out)))); have n4_ := Aside0.mk (blk_below (g := gb233) (o := .cells #[.bool a0_0, .slice A0_1 l0_1.length c0_1, .slice A0_2 l0_2.length c0_2, .slice A0_3 l0_3.length c0_3] 26 (0, 0)) (by (with_reducible repeat (first | refine blk_drewN ?_ _ | refine blk_drew ?_ | refine blk_alloc ?_ _)); exact BK233.out) hb); have n5_ := Aside0.mk (below_step (by repeat (first | (with_reducible first | exact HB.out | apply below_alloc | apply pw_below_drewN | apply below_drew1 | refine below_set ?_ GE233.out) | exact HB.out)) hb); clear HO239; clear BK233; clear HB; have HO239 := n0_; have HO244 := n1_; have HO247 := n2_; have HO250 := n3_; have BK233 := n4_; have HB := n5_; clear n0_ n1_ n2_ n3_ n4_ n5_; (try clear hb); (try clear hb2); (try clear hk); (try clear hi); (try clear ho0); (try clear ho1); (try clear ho2)) | ((with_reducible refine gate_dst (N := 11) rfl ?_); (try (refine gate_guard (by rfl) ?_; dsimp only)); refine box_event ?hg (N := 11) ?hd (cs := #[.bool false, .slice none 0 0, .slice none 0 0, .slice none 0 0]) (t := 26) ?hr ?_; (case hd => rfl); (case hg => rfl); (case hr => first | (go_simp; done) | (go_simp; rfl)); intro gb252 hg w25 hbox hb; have n0_ := Aside0.mk (Kd.R_below (by (with_reducible repeat (first | apply Kd.R_alloc | apply Kd.R_drewN | apply Kd.R_drew)); exact HO239.out) hb); have n1_ := Aside0.mk (Kd.R_below (by (with_reducible repeat (first | apply Kd.R_alloc | apply Kd.R_drewN | apply Kd.R_drew)); exact HO244.out) hb); have n2_ := Aside0.mk (Kd.R_below (by (with_reducible repeat (first | apply Kd.R_alloc | apply Kd.R_drewN | apply Kd.R_drew)); exact HO247.out) hb); have n3_ := Aside0.mk (Kd.R_below (by (with_reducible repeat (first | apply Kd.R_alloc | apply Kd.R_drewN | apply Kd.R_drew)); exact HO250.out) hb); have n4_ := Aside0.mk (blk_below (g := gb233) (o := .cells #[.bool a0_0, .slice A0_1 l0_1.length c0_1, .slice A0_2 l0_2.length c0_2, .slice A0_3 l0_3.length c0_3] 26 (0, 0)) (by (with_reducible repeat (first | refine blk_drewN ?_ _ | refine blk_drew ?_ | refine blk_alloc ?_ _)); exact BK233.out) hb); have n5_ := Aside0.mk (below_step (by repeat (first | (with_reducible first | exact HB.out | apply below_alloc | apply pw_below_drewN | apply below_drew1 | refine below_set ?_ GE233.out) | exact HB.out)) hb); have n6_ := Aside0.mk (hbox); have n7_ := Aside0.mk ((by rw [hg]; exact (below_size (by repeat (first | (with_reducible first | exact HB.out | apply below_alloc | apply pw_below_drewN | apply below_drew1 | refine below_set ?_ GE233.out) | exact HB.out))) : w.heap.size ≤ gb252)); have n8_ := Aside0.mk ((by rw [hg]; exact (below_size (by repeat (first | (with_reducible first | exact HB.out | apply below_alloc | apply pw_below_drewN | apply below_drew1 | refine below_set ?_ GE233.out) | exact HB.out))) : w.heap.size ≤ gb252)); have n9_ := Aside0.mk ((by rw [hg]; exact Nat.ne_of_lt (blk_lt (g := gb233) (o := .cells #[.bool a0_0, .slice A0_1 l0_1.length c0_1, .slice A0_2 l0_2.length c0_2, .slice A0_3 l0_3.length c0_3] 26 (0, 0)) (by (with_reducible repeat (first | refine blk_drewN ?_ _ | refine blk_drew ?_ | refine blk_alloc ?_ _)); exact BK233.out)) : gb233 ≠ gb252)); have n10_ := Aside0.mk ((by rw [hg]; exact Nat.ne_of_gt (blk_lt (g := gb233) (o := .cells #[.bool a0_0, .slice A0_1 l0_1.length c0_1, .slice A0_2 l0_2.length c0_2, .slice A0_3 l0_3.length c0_3] 26 (0, 0)) (by (with_reducible repeat (first | refine blk_drewN ?_ _ | refine blk_drew ?_ | refine blk_alloc ?_ _)); exact BK233.out)) : gb252 ≠ gb233)); clear HO239; clear HO244; clear HO247; clear HO250; clear BK233; clear HB; have HO239 := n0_; have HO244 := n1_; have HO247 := n2_; have HO250 := n3_; have BK233 := n4_; have HB := n5_; have BK252 := n6_; have GW252 := n7_; have GE252 := n8_; have NB233_252 := n9_; have NB252_233 := n10_; clear n0_ n1_ n2_ n3_ n4_ n5_ n6_ n7_ n8_ n9_ n10_; clear hb hbox hg; have hnb26 := NB252_233.out; have hnc26 := NB233_252.out; have hcz27_0 : w25.cell? ⟨gb252, 0, none⟩ = some (.bool false) := (blk_cell BK252.out 0).trans rfl; have hcz27_1 : w25.cell? ⟨gb252, 1, none⟩ = some (.slice none 0 0) := (blk_cell BK252.out 1).trans rfl; have hcz27_2 : w25.cell? ⟨gb252, 2, none⟩ = some (.slice none 0 0) := (blk_cell BK252.out 2).trans rfl; have hcz27_3 : w25.cell? ⟨gb252, 3, none⟩ = some (.slice none 0 0) := (blk_cell BK252.out 3).trans rfl; have hfz27_0 := blk_frozen BK252.out 0; have hfz27_1 := blk_frozen BK252.out 1; have hfz27_2 := blk_frozen BK252.out 2; have hfz27_3 := blk_frozen BK252.out 3; obtain ⟨Ao28, co28, eo28⟩ := Kd.R_slice HO244.out; subst eo28; obtain ⟨Ao29, co29, eo29⟩ := Kd.R_slice HO247.out; subst eo29; obtain ⟨Ao30, co30, eo30⟩ := Kd.R_slice HO250.out; subst eo30; have hcz31_0 : w25.cell? ⟨gb233, 0, none⟩ = some (.bool a0_0) := (blk_cell BK233.out 0).trans rfl; have hcz31_1 : w25.cell? ⟨gb233, 1, none⟩ = some (.slice A0_1 l0_1.length c0_1) := (blk_cell BK233.out 1).trans rfl; have hcz31_2 : w25.cell? ⟨gb233, 2, none⟩ = some (.slice A0_2 l0_2.length c0_2) := (blk_cell BK233.out 2).trans rfl; have hcz31_3 : w25.cell? ⟨gb233, 3, none⟩ = some (.slice A0_3 l0_3.length c0_3) := (blk_cell BK233.out 3).trans rfl; have hfz31_0 := blk_frozen BK233.out 0; have hfz31_1 := blk_frozen BK233.out 1; have hfz31_2 := blk_frozen BK233.out 2; have hfz31_3 := blk_frozen BK233.out 3) | ((with_reducible refine gate_callee (f := 19) rfl ?_); refine goesL_ (some 45) rfl rfl Try.func19 (by kernel_rfl) rfl #[.agg #[.bool t241, .slice Ao28 t242.length co28, .slice Ao29 t245.length co29, .slice Ao30 t248.length co30], .agg #[.bool a0_0, .slice A0_1 l0_1.length c0_1, .slice A0_2 l0_2.length c0_2, .slice A0_3 l0_3.length c0_3]] rfl (by (try simp only [List.map_toArray, List.map_cons, List.map_nil]); first | done | rfl | (simp only [List.length_drop, List.length_take]; rfl)) ?_; (with_reducible refine (tailraceref10_Same.calls kj4 t241 _ _ t242 _ _ t245 _ _ t248 a0_0 _ _ l0_1 _ _ l0_2 _ _ l0_3 t253 _ ?side1 ?side2 ?side3 ?side4 ?side5 ?side6 ?side7 ?side8 ?side9 ?side10 ?side11 ?side12 A21.out).mono ?_); (case side1 => refine (Kd.R_reads' (e := 9) (base := w.heap.size) (ok := fun k_ => some k_ ≠ (.slice Ao29 t245.length co29 : Value).ownBlock) (n := t242.length) (c := co28) ?_).2.2; exact (by (with_reducible repeat (first | apply Kd.R_alloc | apply Kd.R_drewN | apply Kd.R_drew)); exact (Kd.R_mono (Kd.R_far (p := ⟨gb252, 3, none⟩) (Kd.R_far (p := ⟨gb252, 2, none⟩) (Kd.R_far (p := ⟨gb252, 1, none⟩) (Kd.R_far (p := ⟨gb252, 0, none⟩) (Kd.R_types HO244.out BK252.out (by decide)) (fun _ hk => hk.2) (.bool t241)) (fun _ hk => hk.2) (.slice Ao28 t242.length co28)) (fun _ hk => hk.2) (.slice Ao29 t245.length co29)) (fun _ hk => hk.2) (.slice Ao30 t248.length co30)) (fun _ h_ => h_.1)))); (case side2 => exact (Kd.R_reads' HO244.out).2.1); (case side3 => refine (Kd.R_reads' (e := 9) (base := w.heap.size) (ok := fun k_ => some k_ ≠ (.slice Ao28 t242.length co28 : Value).ownBlock) (n := t245.length) (c := co29) ?_).2.2; exact (by (with_reducible repeat (first | apply Kd.R_alloc | apply Kd.R_drewN | apply Kd.R_drew)); exact (Kd.R_mono (Kd.R_far (p := ⟨gb252, 3, none⟩) (Kd.R_far (p := ⟨gb252, 2, none⟩) (Kd.R_far (p := ⟨gb252, 1, none⟩) (Kd.R_far (p := ⟨gb252, 0, none⟩) (Kd.R_types HO247.out BK252.out (by decide)) (fun _ hk => hk.2) (.bool t241)) (fun _ hk => hk.2) (.slice Ao28 t242.length co28)) (fun _ hk => hk.2) (.slice Ao29 t245.length co29)) (fun _ hk => hk.2) (.slice Ao30 t248.length co30)) (fun _ h_ => h_.1)))); (case side4 => exact (Kd.R_reads' HO247.out).2.1); (case side5 => refine (Kd.R_reads' (e := 3) (base := w.heap.size) (ok := fun k_ => True) (n := t248.length) (c := co30) ?_).2.2; exact (by (with_reducible repeat (first | apply Kd.R_alloc | apply Kd.R_drewN | apply Kd.R_drew)); exact (Kd.R_mono (Kd.R_far (p := ⟨gb252, 3, none⟩) (Kd.R_far (p := ⟨gb252, 2, none⟩) (Kd.R_far (p := ⟨gb252, 1, none⟩) (Kd.R_far (p := ⟨gb252, 0, none⟩) (Kd.R_types HO250.out BK252.out (by decide)) (fun _ hk => hk.2) (.bool t241)) (fun _ hk => hk.2) (.slice Ao28 t242.length co28)) (fun _ hk => hk.2) (.slice Ao29 t245.length co29)) (fun _ hk => hk.2) (.slice Ao30 t248.length co30)) (fun _ h_ => h_.1)))); (case side6 => exact (Kd.R_reads' HO250.out).2.1); (case side7 => exact Kd.C_below HR0_1.out (by repeat (first | (with_reducible first | exact HB.out | apply below_alloc | apply pw_below_drewN | apply below_drew1 | refine below_set ?_ GE233.out | refine below_set ?_ GE252.out) | exact HB.out))); (case side8 => exact HC0_1.out); (case side9 => exact Kd.C_below HR0_2.out (by repeat (first | (with_reducible first | exact HB.out | apply below_alloc | apply pw_below_drewN | apply below_drew1 | refine below_set ?_ GE233.out | refine below_set ?_ GE252.out) | exact HB.out))); (case side10 => exact HC0_2.out); (case side11 => exact Kd.C_below HR0_3.out (by repeat (first | (with_reducible first | exact HB.out | apply below_alloc | apply pw_below_drewN | apply below_drew1 | refine below_set ?_ GE233.out | refine below_set ?_ GE252.out) | exact HB.out))); (case side12 => exact HC0_3.out); rintro e w32 ⟨rfl, hb⟩; refine ⟨_, rfl, ?_⟩; have n0_ := Aside0.mk (Kd.R_below (by (with_reducible repeat (first | apply Kd.R_alloc | apply Kd.R_drewN | apply Kd.R_drew)); exact (Kd.R_mono (Kd.R_far (p := ⟨gb252, 3, none⟩) (Kd.R_far (p := ⟨gb252, 2, none⟩) (Kd.R_far (p := ⟨gb252, 1, none⟩) (Kd.R_far (p := ⟨gb252, 0, none⟩) (Kd.R_types HO239.out BK252.out (by decide)) (fun _ hk => hk.2) (.bool t241)) (fun _ hk => hk.2) (.slice Ao28 t242.length co28)) (fun _ hk => hk.2) (.slice Ao29 t245.length co29)) (fun _ hk => hk.2) (.slice Ao30 t248.length co30)) (fun _ h_ => h_.1))) hb); have n1_ := Aside0.mk (Kd.R_below (by (with_reducible repeat (first | apply Kd.R_alloc | apply Kd.R_drewN | apply Kd.R_drew)); exact (Kd.R_mono (Kd.R_far (p := ⟨gb252, 3, none⟩) (Kd.R_far (p := ⟨gb252, 2, none⟩) (Kd.R_far (p := ⟨gb252, 1, none⟩) (Kd.R_far (p := ⟨gb252, 0, none⟩) (Kd.R_types HO244.out BK252.out (by decide)) (fun _ hk => hk.2) (.bool t241)) (fun _ hk => hk.2) (.slice Ao28 t242.length co28)) (fun _ hk => hk.2) (.slice Ao29 t245.length co29)) (fun _ hk => hk.2) (.slice Ao30 t248.length co30)) (fun _ h_ => h_.1))) hb); have n2_ := Aside0.mk (Kd.R_below (by (with_reducible repeat (first | apply Kd.R_alloc | apply Kd.R_drewN | apply Kd.R_drew)); exact (Kd.R_mono (Kd.R_far (p := ⟨gb252, 3, none⟩) (Kd.R_far (p := ⟨gb252, 2, none⟩) (Kd.R_far (p := ⟨gb252, 1, none⟩) (Kd.R_far (p := ⟨gb252, 0, none⟩) (Kd.R_types HO247.out BK252.out (by decide)) (fun _ hk => hk.2) (.bool t241)) (fun _ hk => hk.2) (.slice Ao28 t242.length co28)) (fun _ hk => hk.2) (.slice Ao29 t245.length co29)) (fun _ hk => hk.2) (.slice Ao30 t248.length co30)) (fun _ h_ => h_.1))) hb); have n3_ := Aside0.mk (Kd.R_below (by (with_reducible repeat (first | apply Kd.R_alloc | apply Kd.R_drewN | apply Kd.R_drew)); exact (Kd.R_mono (Kd.R_far (p := ⟨gb252, 3, none⟩) (Kd.R_far (p := ⟨gb252, 2, none⟩) (Kd.R_far (p := ⟨gb252, 1, none⟩) (Kd.R_far (p := ⟨gb252, 0, none⟩) (Kd.R_types HO250.out BK252.out (by decide)) (fun _ hk => hk.2) (.bool t241)) (fun _ hk => hk.2) (.slice Ao28 t242.length co28)) (fun _ hk => hk.2) (.slice Ao29 t245.length co29)) (fun _ hk => hk.2) (.slice Ao30 t248.length co30)) (fun _ h_ => h_.1))) hb); have n4_ := Aside0.mk (blk_below (g := gb233) (o := .cells #[.bool a0_0, .slice A0_1 l0_1.length c0_1, .slice A0_2 l0_2.length c0_2, .slice A0_3 l0_3.length c0_3] 26 (0, 0)) (by (with_reducible repeat (first | refine blk_drewN ?_ _ | refine blk_drew ?_ | refine blk_alloc ?_ _)); refine blk_far ?_ NB233_252.out _; (with_reducible repeat (first | refine blk_drewN ?_ _ | refine blk_drew ?_ | refine blk_alloc ?_ _)); refine blk_far ?_ NB233_252.out _; (with_reducible repeat (first | refine blk_drewN ?_ _ | refine blk_drew ?_ | refine blk_alloc ?_ _)); refine blk_far ?_ NB233_252.out _; (with_reducible repeat (first | refine blk_drewN ?_ _ | refine blk_drew ?_ | refine blk_alloc ?_ _)); refine blk_far ?_ NB233_252.out _; (with_reducible repeat (first | refine blk_drewN ?_ _ | refine blk_drew ?_ | refine blk_alloc ?_ _)); exact BK233.out) hb); have n5_ := Aside0.mk (blk_below (g := gb252) (o := .cells #[.bool t241, .slice Ao28 t242.length co28, .slice Ao29 t245.length co29, .slice Ao30 t248.length co30] 26 (0, 0)) (by (with_reducible repeat (first | refine blk_drewN ?_ _ | refine blk_drew ?_ | refine blk_alloc ?_ _)); refine blk_put (cs := #[.bool t241, .slice Ao28 t242.length co28, .slice Ao29 t245.length co29, .slice none 0 0]) ?_ 3 _ rfl; (with_reducible repeat (first | refine blk_drewN ?_ _ | refine blk_drew ?_ | refine blk_alloc ?_ _)); refine blk_put (cs := #[.bool t241, .slice Ao28 t242.length co28, .slice none 0 0, .slice none 0 0]) ?_ 2 _ rfl; (with_reducible repeat (first | refine blk_drewN ?_ _ | refine blk_drew ?_ | refine blk_alloc ?_ _)); refine blk_put (cs := #[.bool t241, .slice none 0 0, .slice none 0 0, .slice none 0 0]) ?_ 1 _ rfl; (with_reducible repeat (first | refine blk_drewN ?_ _ | refine blk_drew ?_ | refine blk_alloc ?_ _)); refine blk_put (cs := #[.bool false, .slice none 0 0, .slice none 0 0, .slice none 0 0]) ?_ 0 _ rfl; (with_reducible repeat (first | refine blk_drewN ?_ _ | refine blk_drew ?_ | refine blk_alloc ?_ _)); exact BK252.out) hb); have n6_ := Aside0.mk (below_step (by repeat (first | (with_reducible first | exact HB.out | apply below_alloc | apply pw_below_drewN | apply below_drew1 | refine below_set ?_ GE233.out | refine below_set ?_ GE252.out) | exact HB.out)) hb); clear HO239; clear HO244; clear HO247; clear HO250; clear BK233; clear BK252; clear HB; have HO239 := n0_; have HO244 := n1_; have HO247 := n2_; have HO250 := n3_; have BK233 := n4_; have BK252 := n5_; have HB := n6_; clear n0_ n1_ n2_ n3_ n4_ n5_ n6_; (try clear hb); (try clear hb2); (try clear hk); (try clear hi)))
            (try simp only [Act.put, List.setIfInBounds_toArray, List.set_cons_zero, List.set_cons_succ])
            go_cut [71] (fun v71 wc => ∃ (kq : Nat) (x71_21 : Bool), v71 = .bool x71_21 ∧ Aside0 (tailracelaw10_NodeBack.j1 kq a1 l2 t234 x71_21 = some r) ∧ Aside0 (kq ≤ kj4) ∧ Aside0 (Kd.R Kd.string 9 wc w.heap.size (fun k_ => some k_ ≠ ((.slice Ao29 t245.length co29) : Value).ownBlock) (.slice Ao28 t242.length co28) t242) ∧ Aside0 (Kd.R Kd.string 9 wc w.heap.size (fun k_ => some k_ ≠ ((.slice Ao28 t242.length co28) : Value).ownBlock) (.slice Ao29 t245.length co29) t245) ∧ Aside0 (Kd.R (Kd.int .i64) 3 wc w.heap.size (fun _ => True) (.slice Ao30 t248.length co30) t248) ∧ Aside0 (wc.heap[gb233]? = some (.cells #[.bool a0_0, (.slice A0_1 l0_1.length c0_1), (.slice A0_2 l0_2.length c0_2), (.slice A0_3 l0_3.length c0_3)] 26 (0, 0))) ∧ Aside0 (wc.heap[gb252]? = some (.cells #[.bool t241, (.slice Ao28 t242.length co28), (.slice Ao29 t245.length co29), (.slice Ao30 t248.length co30)] 26 (0, 0))) ∧ Aside0 (Below w.heap.size w wc))
            case first =>
              have H := HC22.out
              clear HC22
              by_cases c33 : t253 = true
              · subst c33
                have H1 : (if t251 = 0 then ((node_Size.f kj4 a0_0 l0_1 l0_2 l0_3).bind fun t254 => (if (t237.length : Int) = t254 then (if (t237.length : Int) > 1000 then (tailracelaw10_NodeBack.j1 kj4 a1 l2 t234 true) else (if t236 = 2 then (tailracelaw10_NodeBack.j1 kj4 a1 l2 t234 false) else (tailracelaw10_NodeBack.j1 kj4 a1 l2 t234 a0_0))) else (tailracelaw10_NodeBack.j1 kj4 a1 l2 t234 true))) else (tailracelaw10_NodeBack.j1 kj4 a1 l2 t234 true)) = some r := by rw [if_pos rfl] at H; exact H
                clear H
                have H := H1
                clear H1
                by_cases c34 : t251 = 0
                · rw [if_pos c34] at H
                  have c34b0 : (t251 == 0) = true := beq_iff_eq.mpr c34
                  have c34b1 : (t251 != 0) = false := bne_eq_false_iff_eq.mpr c34
                  clear c34
                  (first | rw [c34b0] | (simp only [i64_w, i32_w]; rw [c34b0]) | skip)
                  replace H := Option.bind_eq_some_iff.mp H
                  obtain ⟨t254, A350, H⟩ := H
                  replace H : (if (t237.length : Int) = t254 then (if (t237.length : Int) > 1000 then (tailracelaw10_NodeBack.j1 kj4 a1 l2 t234 true) else (if t236 = 2 then (tailracelaw10_NodeBack.j1 kj4 a1 l2 t234 false) else (tailracelaw10_NodeBack.j1 kj4 a1 l2 t234 a0_0))) else (tailracelaw10_NodeBack.j1 kj4 a1 l2 t234 true)) = some r := H
                  have A35 := Aside0.mk A350
                  clear A350
                  by_cases c36 : (t237.length : Int) = t254
                  · rw [if_pos c36] at H
                    have c36b0 : ((t237.length : Int) == t254) = true := beq_iff_eq.mpr c36
                    have c36b1 : ((t237.length : Int) != t254) = false := bne_eq_false_iff_eq.mpr c36
                    clear c36
                    by_cases c37 : (t237.length : Int) > 1000
                    · rw [if_pos c37] at H
                      have c37b0 : decide (1000 < (t237.length : Int)) = true := decide_eq_true c37
                      have c37b1 : decide (1000 < t237.length) = true := decide_eq_true (by omega)
                      clear c37
                      have H' := Aside0.mk H
                      clear H
                      have hnb38 := NB233_252.out
                      have hnc38 := NB252_233.out
                      have hcz39_0 : w32.cell? ⟨gb233, 0, none⟩ = some (.bool a0_0) := (blk_cell BK233.out 0).trans rfl
                      have hcz39_1 : w32.cell? ⟨gb233, 1, none⟩ = some (.slice A0_1 l0_1.length c0_1) := (blk_cell BK233.out 1).trans rfl
                      have hcz39_2 : w32.cell? ⟨gb233, 2, none⟩ = some (.slice A0_2 l0_2.length c0_2) := (blk_cell BK233.out 2).trans rfl
                      have hcz39_3 : w32.cell? ⟨gb233, 3, none⟩ = some (.slice A0_3 l0_3.length c0_3) := (blk_cell BK233.out 3).trans rfl
                      have hfz39_0 := blk_frozen BK233.out 0
                      have hfz39_1 := blk_frozen BK233.out 1
                      have hfz39_2 := blk_frozen BK233.out 2
                      have hfz39_3 := blk_frozen BK233.out 3
                      go_wp2_with (first | (go_at_call 15; (with_reducible refine (node_Size.calls kj4 a0_0 _ _ l0_1 _ _ l0_2 _ _ l0_3 t254 _ ?side1 ?side2 ?side3 ?side4 ?side5 ?side6 A35.out).mono ?_); (case side1 => repeat (first | exact (Kd.C_below HR0_1.out HB.out) | (with_reducible refine Kd.C_alloc ?_ _) | (with_reducible refine Kd.C_drewN ?_ _) | (with_reducible refine Kd.C_drew ?_))); (case side2 => exact HC0_1.out); (case side3 => repeat (first | exact (Kd.C_below HR0_2.out HB.out) | (with_reducible refine Kd.C_alloc ?_ _) | (with_reducible refine Kd.C_drewN ?_ _) | (with_reducible refine Kd.C_drew ?_))); (case side4 => exact HC0_2.out); (case side5 => repeat (first | exact (Kd.C_below HR0_3.out HB.out) | (with_reducible refine Kd.C_alloc ?_ _) | (with_reducible refine Kd.C_drewN ?_ _) | (with_reducible refine Kd.C_drew ?_))); (case side6 => exact HC0_3.out); rintro e w40 ⟨rfl, hb⟩; have n0_ := Aside0.mk (Kd.R_below (by (with_reducible repeat (first | apply Kd.R_alloc | apply Kd.R_drewN | apply Kd.R_drew)); exact HO239.out) hb); have n1_ := Aside0.mk (Kd.R_below (by (with_reducible repeat (first | apply Kd.R_alloc | apply Kd.R_drewN | apply Kd.R_drew)); exact HO244.out) hb); have n2_ := Aside0.mk (Kd.R_below (by (with_reducible repeat (first | apply Kd.R_alloc | apply Kd.R_drewN | apply Kd.R_drew)); exact HO247.out) hb); have n3_ := Aside0.mk (Kd.R_below (by (with_reducible repeat (first | apply Kd.R_alloc | apply Kd.R_drewN | apply Kd.R_drew)); exact HO250.out) hb); have n4_ := Aside0.mk (blk_below (g := gb233) (o := .cells #[.bool a0_0, .slice A0_1 l0_1.length c0_1, .slice A0_2 l0_2.length c0_2, .slice A0_3 l0_3.length c0_3] 26 (0, 0)) (by (with_reducible repeat (first | refine blk_drewN ?_ _ | refine blk_drew ?_ | refine blk_alloc ?_ _)); exact BK233.out) hb); have n5_ := Aside0.mk (blk_below (g := gb252) (o := .cells #[.bool t241, .slice Ao28 t242.length co28, .slice Ao29 t245.length co29, .slice Ao30 t248.length co30] 26 (0, 0)) (by (with_reducible repeat (first | refine blk_drewN ?_ _ | refine blk_drew ?_ | refine blk_alloc ?_ _)); exact BK252.out) hb); have n6_ := Aside0.mk (below_step (by repeat (first | (with_reducible first | exact HB.out | apply below_alloc | apply pw_below_drewN | apply below_drew1 | refine below_set ?_ GE233.out | refine below_set ?_ GE252.out) | exact HB.out)) hb); clear HO239; clear HO244; clear HO247; clear HO250; clear BK233; clear BK252; clear HB; have HO239 := n0_; have HO244 := n1_; have HO247 := n2_; have HO250 := n3_; have BK233 := n4_; have BK252 := n5_; have HB := n6_; clear n0_ n1_ n2_ n3_ n4_ n5_ n6_; (try clear hb); (try clear hb2); (try clear hk); (try clear hi)))
                      go_meet
                      case rel => exact ⟨_, (true), (by first | rfl | (simp; done) | (simp [*]; done)), H', ⟨by have := HJ4.out; first | omega | exact Nat.le_refl _⟩, ⟨by (with_reducible repeat (first | apply Kd.R_alloc | apply Kd.R_drewN | apply Kd.R_drew)); exact HO244.out⟩, ⟨by (with_reducible repeat (first | apply Kd.R_alloc | apply Kd.R_drewN | apply Kd.R_drew)); exact HO247.out⟩, ⟨by (with_reducible repeat (first | apply Kd.R_alloc | apply Kd.R_drewN | apply Kd.R_drew)); exact HO250.out⟩, ⟨by (with_reducible repeat (first | refine blk_drewN ?_ _ | refine blk_drew ?_ | refine blk_alloc ?_ _)); exact BK233.out⟩, ⟨by (with_reducible repeat (first | refine blk_drewN ?_ _ | refine blk_drew ?_ | refine blk_alloc ?_ _)); exact BK252.out⟩, ⟨by repeat (first | (with_reducible first | exact HB.out | apply below_alloc | apply pw_below_drewN | apply below_drew1 | refine below_set ?_ GE233.out | refine below_set ?_ GE252.out) | exact HB.out)⟩⟩
                    · rw [if_neg c37] at H
                      have c37b0 : decide (1000 < (t237.length : Int)) = false := decide_eq_false c37
                      have c37b1 : decide (1000 < t237.length) = false := decide_eq_false (by omega)
                      clear c37
                      by_cases c41 : t236 = 2
                      · rw [if_pos c41] at H
                        have c41b0 : (t236 == 2) = true := beq_iff_eq.mpr c41
                        have c41b1 : (t236 != 2) = false := bne_eq_false_iff_eq.mpr c41
                        clear c41
                        have H' := Aside0.mk H
                        clear H
                        have hnb42 := NB233_252.out
                        have hnc42 := NB252_233.out
                        have hcz43_0 : w32.cell? ⟨gb233, 0, none⟩ = some (.bool a0_0) := (blk_cell BK233.out 0).trans rfl
                        have hcz43_1 : w32.cell? ⟨gb233, 1, none⟩ = some (.slice A0_1 l0_1.length c0_1) := (blk_cell BK233.out 1).trans rfl
                        have hcz43_2 : w32.cell? ⟨gb233, 2, none⟩ = some (.slice A0_2 l0_2.length c0_2) := (blk_cell BK233.out 2).trans rfl
                        have hcz43_3 : w32.cell? ⟨gb233, 3, none⟩ = some (.slice A0_3 l0_3.length c0_3) := (blk_cell BK233.out 3).trans rfl
                        have hfz43_0 := blk_frozen BK233.out 0
                        have hfz43_1 := blk_frozen BK233.out 1
                        have hfz43_2 := blk_frozen BK233.out 2
                        have hfz43_3 := blk_frozen BK233.out 3
                        go_wp2_with (first | (go_at_call 15; (with_reducible refine (node_Size.calls kj4 a0_0 _ _ l0_1 _ _ l0_2 _ _ l0_3 t254 _ ?side1 ?side2 ?side3 ?side4 ?side5 ?side6 A35.out).mono ?_); (case side1 => repeat (first | exact (Kd.C_below HR0_1.out HB.out) | (with_reducible refine Kd.C_alloc ?_ _) | (with_reducible refine Kd.C_drewN ?_ _) | (with_reducible refine Kd.C_drew ?_))); (case side2 => exact HC0_1.out); (case side3 => repeat (first | exact (Kd.C_below HR0_2.out HB.out) | (with_reducible refine Kd.C_alloc ?_ _) | (with_reducible refine Kd.C_drewN ?_ _) | (with_reducible refine Kd.C_drew ?_))); (case side4 => exact HC0_2.out); (case side5 => repeat (first | exact (Kd.C_below HR0_3.out HB.out) | (with_reducible refine Kd.C_alloc ?_ _) | (with_reducible refine Kd.C_drewN ?_ _) | (with_reducible refine Kd.C_drew ?_))); (case side6 => exact HC0_3.out); rintro e w44 ⟨rfl, hb⟩; have n0_ := Aside0.mk (Kd.R_below (by (with_reducible repeat (first | apply Kd.R_alloc | apply Kd.R_drewN | apply Kd.R_drew)); exact HO239.out) hb); have n1_ := Aside0.mk (Kd.R_below (by (with_reducible repeat (first | apply Kd.R_alloc | apply Kd.R_drewN | apply Kd.R_drew)); exact HO244.out) hb); have n2_ := Aside0.mk (Kd.R_below (by (with_reducible repeat (first | apply Kd.R_alloc | apply Kd.R_drewN | apply Kd.R_drew)); exact HO247.out) hb); have n3_ := Aside0.mk (Kd.R_below (by (with_reducible repeat (first | apply Kd.R_alloc | apply Kd.R_drewN | apply Kd.R_drew)); exact HO250.out) hb); have n4_ := Aside0.mk (blk_below (g := gb233) (o := .cells #[.bool a0_0, .slice A0_1 l0_1.length c0_1, .slice A0_2 l0_2.length c0_2, .slice A0_3 l0_3.length c0_3] 26 (0, 0)) (by (with_reducible repeat (first | refine blk_drewN ?_ _ | refine blk_drew ?_ | refine blk_alloc ?_ _)); exact BK233.out) hb); have n5_ := Aside0.mk (blk_below (g := gb252) (o := .cells #[.bool t241, .slice Ao28 t242.length co28, .slice Ao29 t245.length co29, .slice Ao30 t248.length co30] 26 (0, 0)) (by (with_reducible repeat (first | refine blk_drewN ?_ _ | refine blk_drew ?_ | refine blk_alloc ?_ _)); exact BK252.out) hb); have n6_ := Aside0.mk (below_step (by repeat (first | (with_reducible first | exact HB.out | apply below_alloc | apply pw_below_drewN | apply below_drew1 | refine below_set ?_ GE233.out | refine below_set ?_ GE252.out) | exact HB.out)) hb); clear HO239; clear HO244; clear HO247; clear HO250; clear BK233; clear BK252; clear HB; have HO239 := n0_; have HO244 := n1_; have HO247 := n2_; have HO250 := n3_; have BK233 := n4_; have BK252 := n5_; have HB := n6_; clear n0_ n1_ n2_ n3_ n4_ n5_ n6_; (try clear hb); (try clear hb2); (try clear hk); (try clear hi)))
                        go_meet
                        case rel => exact ⟨_, (false), (by first | rfl | (simp; done) | (simp [*]; done)), H', ⟨by have := HJ4.out; first | omega | exact Nat.le_refl _⟩, ⟨by (with_reducible repeat (first | apply Kd.R_alloc | apply Kd.R_drewN | apply Kd.R_drew)); exact HO244.out⟩, ⟨by (with_reducible repeat (first | apply Kd.R_alloc | apply Kd.R_drewN | apply Kd.R_drew)); exact HO247.out⟩, ⟨by (with_reducible repeat (first | apply Kd.R_alloc | apply Kd.R_drewN | apply Kd.R_drew)); exact HO250.out⟩, ⟨by (with_reducible repeat (first | refine blk_drewN ?_ _ | refine blk_drew ?_ | refine blk_alloc ?_ _)); exact BK233.out⟩, ⟨by (with_reducible repeat (first | refine blk_drewN ?_ _ | refine blk_drew ?_ | refine blk_alloc ?_ _)); exact BK252.out⟩, ⟨by repeat (first | (with_reducible first | exact HB.out | apply below_alloc | apply pw_below_drewN | apply below_drew1 | refine below_set ?_ GE233.out | refine below_set ?_ GE252.out) | exact HB.out)⟩⟩
                      · rw [if_neg c41] at H
                        have c41b0 : (t236 == 2) = false := beq_eq_false_iff_ne.mpr c41
                        have c41b1 : (t236 != 2) = true := bne_iff_ne.mpr c41
                        have H' := Aside0.mk H
                        clear H
                        have hnb45 := NB233_252.out
                        have hnc45 := NB252_233.out
                        have hcz46_0 : w32.cell? ⟨gb233, 0, none⟩ = some (.bool a0_0) := (blk_cell BK233.out 0).trans rfl
                        have hcz46_1 : w32.cell? ⟨gb233, 1, none⟩ = some (.slice A0_1 l0_1.length c0_1) := (blk_cell BK233.out 1).trans rfl
                        have hcz46_2 : w32.cell? ⟨gb233, 2, none⟩ = some (.slice A0_2 l0_2.length c0_2) := (blk_cell BK233.out 2).trans rfl
                        have hcz46_3 : w32.cell? ⟨gb233, 3, none⟩ = some (.slice A0_3 l0_3.length c0_3) := (blk_cell BK233.out 3).trans rfl
                        have hfz46_0 := blk_frozen BK233.out 0
                        have hfz46_1 := blk_frozen BK233.out 1
                        have hfz46_2 := blk_frozen BK233.out 2
                        have hfz46_3 := blk_frozen BK233.out 3
                        go_wp2_with (first | (go_at_call 15; (with_reducible refine (node_Size.calls kj4 a0_0 _ _ l0_1 _ _ l0_2 _ _ l0_3 t254 _ ?side1 ?side2 ?side3 ?side4 ?side5 ?side6 A35.out).mono ?_); (case side1 => repeat (first | exact (Kd.C_below HR0_1.out HB.out) | (with_reducible refine Kd.C_alloc ?_ _) | (with_reducible refine Kd.C_drewN ?_ _) | (with_reducible refine Kd.C_drew ?_))); (case side2 => exact HC0_1.out); (case side3 => repeat (first | exact (Kd.C_below HR0_2.out HB.out) | (with_reducible refine Kd.C_alloc ?_ _) | (with_reducible refine Kd.C_drewN ?_ _) | (with_reducible refine Kd.C_drew ?_))); (case side4 => exact HC0_2.out); (case side5 => repeat (first | exact (Kd.C_below HR0_3.out HB.out) | (with_reducible refine Kd.C_alloc ?_ _) | (with_reducible refine Kd.C_drewN ?_ _) | (with_reducible refine Kd.C_drew ?_))); (case side6 => exact HC0_3.out); rintro e w47 ⟨rfl, hb⟩; have n0_ := Aside0.mk (Kd.R_below (by (with_reducible repeat (first | apply Kd.R_alloc | apply Kd.R_drewN | apply Kd.R_drew)); exact HO239.out) hb); have n1_ := Aside0.mk (Kd.R_below (by (with_reducible repeat (first | apply Kd.R_alloc | apply Kd.R_drewN | apply Kd.R_drew)); exact HO244.out) hb); have n2_ := Aside0.mk (Kd.R_below (by (with_reducible repeat (first | apply Kd.R_alloc | apply Kd.R_drewN | apply Kd.R_drew)); exact HO247.out) hb); have n3_ := Aside0.mk (Kd.R_below (by (with_reducible repeat (first | apply Kd.R_alloc | apply Kd.R_drewN | apply Kd.R_drew)); exact HO250.out) hb); have n4_ := Aside0.mk (blk_below (g := gb233) (o := .cells #[.bool a0_0, .slice A0_1 l0_1.length c0_1, .slice A0_2 l0_2.length c0_2, .slice A0_3 l0_3.length c0_3] 26 (0, 0)) (by (with_reducible repeat (first | refine blk_drewN ?_ _ | refine blk_drew ?_ | refine blk_alloc ?_ _)); exact BK233.out) hb); have n5_ := Aside0.mk (blk_below (g := gb252) (o := .cells #[.bool t241, .slice Ao28 t242.length co28, .slice Ao29 t245.length co29, .slice Ao30 t248.length co30] 26 (0, 0)) (by (with_reducible repeat (first | refine blk_drewN ?_ _ | refine blk_drew ?_ | refine blk_alloc ?_ _)); exact BK252.out) hb); have n6_ := Aside0.mk (below_step (by repeat (first | (with_reducible first | exact HB.out | apply below_alloc | apply pw_below_drewN | apply below_drew1 | refine below_set ?_ GE233.out | refine below_set ?_ GE252.out) | exact HB.out)) hb); clear HO239; clear HO244; clear HO247; clear HO250; clear BK233; clear BK252; clear HB; have HO239 := n0_; have HO244 := n1_; have HO247 := n2_; have HO250 := n3_; have BK233 := n4_; have BK252 := n5_; have HB := n6_; clear n0_ n1_ n2_ n3_ n4_ n5_ n6_; (try clear hb); (try clear hb2); (try clear hk); (try clear hi); have hcz48_0 : w47.cell? ⟨gb233, 0, none⟩ = some (.bool a0_0) := (blk_cell BK233.out 0).trans rfl; have hcz48_1 : w47.cell? ⟨gb233, 1, none⟩ = some (.slice A0_1 l0_1.length c0_1) := (blk_cell BK233.out 1).trans rfl; have hcz48_2 : w47.cell? ⟨gb233, 2, none⟩ = some (.slice A0_2 l0_2.length c0_2) := (blk_cell BK233.out 2).trans rfl; have hcz48_3 : w47.cell? ⟨gb233, 3, none⟩ = some (.slice A0_3 l0_3.length c0_3) := (blk_cell BK233.out 3).trans rfl; have hfz48_0 := blk_frozen BK233.out 0; have hfz48_1 := blk_frozen BK233.out 1; have hfz48_2 := blk_frozen BK233.out 2; have hfz48_3 := blk_frozen BK233.out 3))
                        go_meet
                        case rel => exact ⟨_, (a0_0), (by first | rfl | (simp; done) | (simp [*]; done)), H', ⟨by have := HJ4.out; first | omega | exact Nat.le_refl _⟩, ⟨by (with_reducible repeat (first | apply Kd.R_alloc | apply Kd.R_drewN | apply Kd.R_drew)); exact HO244.out⟩, ⟨by (with_reducible repeat (first | apply Kd.R_alloc | apply Kd.R_drewN | apply Kd.R_drew)); exact HO247.out⟩, ⟨by (with_reducible repeat (first | apply Kd.R_alloc | apply Kd.R_drewN | apply Kd.R_drew)); exact HO250.out⟩, ⟨by (with_reducible repeat (first | refine blk_drewN ?_ _ | refine blk_drew ?_ | refine blk_alloc ?_ _)); exact BK233.out⟩, ⟨by (with_reducible repeat (first | refine blk_drewN ?_ _ | refine blk_drew ?_ | refine blk_alloc ?_ _)); exact BK252.out⟩, ⟨by repeat (first | (with_reducible first | exact HB.out | apply below_alloc | apply pw_below_drewN | apply below_drew1 | refine below_set ?_ GE233.out | refine below_set ?_ GE252.out) | exact HB.out)⟩⟩
                  · rw [if_neg c36] at H
                    have c36b0 : ((t237.length : Int) == t254) = false := beq_eq_false_iff_ne.mpr c36
                    have c36b1 : ((t237.length : Int) != t254) = true := bne_iff_ne.mpr c36
                    have H' := Aside0.mk H
                    clear H
                    have hnb49 := NB233_252.out
                    have hnc49 := NB252_233.out
                    have hcz50_0 : w32.cell? ⟨gb233, 0, none⟩ = some (.bool a0_0) := (blk_cell BK233.out 0).trans rfl
                    have hcz50_1 : w32.cell? ⟨gb233, 1, none⟩ = some (.slice A0_1 l0_1.length c0_1) := (blk_cell BK233.out 1).trans rfl
                    have hcz50_2 : w32.cell? ⟨gb233, 2, none⟩ = some (.slice A0_2 l0_2.length c0_2) := (blk_cell BK233.out 2).trans rfl
                    have hcz50_3 : w32.cell? ⟨gb233, 3, none⟩ = some (.slice A0_3 l0_3.length c0_3) := (blk_cell BK233.out 3).trans rfl
                    have hfz50_0 := blk_frozen BK233.out 0
                    have hfz50_1 := blk_frozen BK233.out 1
                    have hfz50_2 := blk_frozen BK233.out 2
                    have hfz50_3 := blk_frozen BK233.out 3
                    go_wp2_with (first | (go_at_call 15; (with_reducible refine (node_Size.calls kj4 a0_0 _ _ l0_1 _ _ l0_2 _ _ l0_3 t254 _ ?side1 ?side2 ?side3 ?side4 ?side5 ?side6 A35.out).mono ?_); (case side1 => repeat (first | exact (Kd.C_below HR0_1.out HB.out) | (with_reducible refine Kd.C_alloc ?_ _) | (with_reducible refine Kd.C_drewN ?_ _) | (with_reducible refine Kd.C_drew ?_))); (case side2 => exact HC0_1.out); (case side3 => repeat (first | exact (Kd.C_below HR0_2.out HB.out) | (with_reducible refine Kd.C_alloc ?_ _) | (with_reducible refine Kd.C_drewN ?_ _) | (with_reducible refine Kd.C_drew ?_))); (case side4 => exact HC0_2.out); (case side5 => repeat (first | exact (Kd.C_below HR0_3.out HB.out) | (with_reducible refine Kd.C_alloc ?_ _) | (with_reducible refine Kd.C_drewN ?_ _) | (with_reducible refine Kd.C_drew ?_))); (case side6 => exact HC0_3.out); rintro e w51 ⟨rfl, hb⟩; have n0_ := Aside0.mk (Kd.R_below (by (with_reducible repeat (first | apply Kd.R_alloc | apply Kd.R_drewN | apply Kd.R_drew)); exact HO239.out) hb); have n1_ := Aside0.mk (Kd.R_below (by (with_reducible repeat (first | apply Kd.R_alloc | apply Kd.R_drewN | apply Kd.R_drew)); exact HO244.out) hb); have n2_ := Aside0.mk (Kd.R_below (by (with_reducible repeat (first | apply Kd.R_alloc | apply Kd.R_drewN | apply Kd.R_drew)); exact HO247.out) hb); have n3_ := Aside0.mk (Kd.R_below (by (with_reducible repeat (first | apply Kd.R_alloc | apply Kd.R_drewN | apply Kd.R_drew)); exact HO250.out) hb); have n4_ := Aside0.mk (blk_below (g := gb233) (o := .cells #[.bool a0_0, .slice A0_1 l0_1.length c0_1, .slice A0_2 l0_2.length c0_2, .slice A0_3 l0_3.length c0_3] 26 (0, 0)) (by (with_reducible repeat (first | refine blk_drewN ?_ _ | refine blk_drew ?_ | refine blk_alloc ?_ _)); exact BK233.out) hb); have n5_ := Aside0.mk (blk_below (g := gb252) (o := .cells #[.bool t241, .slice Ao28 t242.length co28, .slice Ao29 t245.length co29, .slice Ao30 t248.length co30] 26 (0, 0)) (by (with_reducible repeat (first | refine blk_drewN ?_ _ | refine blk_drew ?_ | refine blk_alloc ?_ _)); exact BK252.out) hb); have n6_ := Aside0.mk (below_step (by repeat (first | (with_reducible first | exact HB.out | apply below_alloc | apply pw_below_drewN | apply below_drew1 | refine below_set ?_ GE233.out | refine below_set ?_ GE252.out) | exact HB.out)) hb); clear HO239; clear HO244; clear HO247; clear HO250; clear BK233; clear BK252; clear HB; have HO239 := n0_; have HO244 := n1_; have HO247 := n2_; have HO250 := n3_; have BK233 := n4_; have BK252 := n5_; have HB := n6_; clear n0_ n1_ n2_ n3_ n4_ n5_ n6_; (try clear hb); (try clear hb2); (try clear hk); (try clear hi)))
                    go_meet
                    case rel => exact ⟨_, (true), (by first | rfl | (simp; done) | (simp [*]; done)), H', ⟨by have := HJ4.out; first | omega | exact Nat.le_refl _⟩, ⟨by (with_reducible repeat (first | apply Kd.R_alloc | apply Kd.R_drewN | apply Kd.R_drew)); exact HO244.out⟩, ⟨by (with_reducible repeat (first | apply Kd.R_alloc | apply Kd.R_drewN | apply Kd.R_drew)); exact HO247.out⟩, ⟨by (with_reducible repeat (first | apply Kd.R_alloc | apply Kd.R_drewN | apply Kd.R_drew)); exact HO250.out⟩, ⟨by (with_reducible repeat (first | refine blk_drewN ?_ _ | refine blk_drew ?_ | refine blk_alloc ?_ _)); exact BK233.out⟩, ⟨by (with_reducible repeat (first | refine blk_drewN ?_ _ | refine blk_drew ?_ | refine blk_alloc ?_ _)); exact BK252.out⟩, ⟨by repeat (first | (with_reducible first | exact HB.out | apply below_alloc | apply pw_below_drewN | apply below_drew1 | refine below_set ?_ GE233.out | refine below_set ?_ GE252.out) | exact HB.out)⟩⟩
                · rw [if_neg c34] at H
                  have c34b0 : (t251 == 0) = false := beq_eq_false_iff_ne.mpr c34
                  have c34b1 : (t251 != 0) = true := bne_iff_ne.mpr c34
                  (first | rw [c34b0] | (simp only [i64_w, i32_w]; rw [c34b0]) | skip)
                  have H' := Aside0.mk H
                  clear H
                  go_wp2
                  go_meet
                  case rel => exact ⟨_, (true), (by first | rfl | (simp; done) | (simp [*]; done)), H', ⟨by have := HJ4.out; first | omega | exact Nat.le_refl _⟩, ⟨by (with_reducible repeat (first | apply Kd.R_alloc | apply Kd.R_drewN | apply Kd.R_drew)); exact HO244.out⟩, ⟨by (with_reducible repeat (first | apply Kd.R_alloc | apply Kd.R_drewN | apply Kd.R_drew)); exact HO247.out⟩, ⟨by (with_reducible repeat (first | apply Kd.R_alloc | apply Kd.R_drewN | apply Kd.R_drew)); exact HO250.out⟩, ⟨by (with_reducible repeat (first | refine blk_drewN ?_ _ | refine blk_drew ?_ | refine blk_alloc ?_ _)); exact BK233.out⟩, ⟨by (with_reducible repeat (first | refine blk_drewN ?_ _ | refine blk_drew ?_ | refine blk_alloc ?_ _)); exact BK252.out⟩, ⟨by repeat (first | (with_reducible first | exact HB.out | apply below_alloc | apply pw_below_drewN | apply below_drew1 | refine below_set ?_ GE233.out | refine below_set ?_ GE252.out) | exact HB.out)⟩⟩
              · replace c33 := Bool.eq_false_iff.mpr c33
                subst c33
                have H1 : (tailracelaw10_NodeBack.j1 kj4 a1 l2 t234 true) = some r := by rw [if_neg (show ¬ (false = true) by decide)] at H; exact H
                clear H
                have H := H1
                clear H1
                have H' := Aside0.mk H
                clear H
                go_wp2
                go_meet
                case rel => exact ⟨_, (true), (by first | rfl | (simp; done) | (simp [*]; done)), H', ⟨by have := HJ4.out; first | omega | exact Nat.le_refl _⟩, ⟨by (with_reducible repeat (first | apply Kd.R_alloc | apply Kd.R_drewN | apply Kd.R_drew)); exact HO244.out⟩, ⟨by (with_reducible repeat (first | apply Kd.R_alloc | apply Kd.R_drewN | apply Kd.R_drew)); exact HO247.out⟩, ⟨by (with_reducible repeat (first | apply Kd.R_alloc | apply Kd.R_drewN | apply Kd.R_drew)); exact HO250.out⟩, ⟨by (with_reducible repeat (first | refine blk_drewN ?_ _ | refine blk_drew ?_ | refine blk_alloc ?_ _)); exact BK233.out⟩, ⟨by (with_reducible repeat (first | refine blk_drewN ?_ _ | refine blk_drew ?_ | refine blk_alloc ?_ _)); exact BK252.out⟩, ⟨by repeat (first | (with_reducible first | exact HB.out | apply below_alloc | apply pw_below_drewN | apply below_drew1 | refine below_set ?_ GE233.out | refine below_set ?_ GE252.out) | exact HB.out)⟩⟩
            case rest =>
              clear HC22
              try clear c1
              try clear c2
              try clear p2
              try clear c3
              try clear c4
              try clear c6
              try clear c9
              try clear c10
              try clear c11
              try clear c14
              try clear c17
              try clear c19
              try clear c19b0
              try clear c19b1
              try clear c26
              try clear c33
              try clear c34
              try clear c34b0
              try clear c34b1
              try clear c36
              try clear c36b0
              try clear c36b1
              try clear c37
              try clear c37b0
              try clear c37b1
              try clear c38
              try clear c41
              try clear c41b0
              try clear c41b1
              try clear c42
              try clear c45
              try clear c49
              try clear hcz10_0
              try clear hcz10_1
              try clear hcz10_2
              try clear hcz10_3
              try clear hcz12_0
              try clear hcz12_1
              try clear hcz12_2
              try clear hcz12_3
              try clear hcz17_0
              try clear hcz17_1
              try clear hcz17_2
              try clear hcz17_3
              try clear hcz27_0
              try clear hcz27_1
              try clear hcz27_2
              try clear hcz27_3
              try clear hcz31_0
              try clear hcz31_1
              try clear hcz31_2
              try clear hcz31_3
              try clear hcz39_0
              try clear hcz39_1
              try clear hcz39_2
              try clear hcz39_3
              try clear hcz43_0
              try clear hcz43_1
              try clear hcz43_2
              try clear hcz43_3
              try clear hcz46_0
              try clear hcz46_1
              try clear hcz46_2
              try clear hcz46_3
              try clear hcz48_0
              try clear hcz48_1
              try clear hcz48_2
              try clear hcz48_3
              try clear hcz50_0
              try clear hcz50_1
              try clear hcz50_2
              try clear hcz50_3
              try clear hfz10_0
              try clear hfz10_1
              try clear hfz10_2
              try clear hfz10_3
              try clear hfz12_0
              try clear hfz12_1
              try clear hfz12_2
              try clear hfz12_3
              try clear hfz17_0
              try clear hfz17_1
              try clear hfz17_2
              try clear hfz17_3
              try clear hfz27_0
              try clear hfz27_1
              try clear hfz27_2
              try clear hfz27_3
              try clear hfz31_0
              try clear hfz31_1
              try clear hfz31_2
              try clear hfz31_3
              try clear hfz39_0
              try clear hfz39_1
              try clear hfz39_2
              try clear hfz39_3
              try clear hfz43_0
              try clear hfz43_1
              try clear hfz43_2
              try clear hfz43_3
              try clear hfz46_0
              try clear hfz46_1
              try clear hfz46_2
              try clear hfz46_3
              try clear hfz48_0
              try clear hfz48_1
              try clear hfz48_2
              try clear hfz48_3
              try clear hfz50_0
              try clear hfz50_1
              try clear hfz50_2
              try clear hfz50_3
              try clear p2
              obtain ⟨kq, x71_21, rfl, HA, HJ21, HO_253001, HO_253002, HO_253003, BK233, BK252, HB⟩ := hcut
              cases kq with
              | zero => exact absurd HA.out (by simp [tailracelaw10_NodeBack.j1])
              | succ kj21 =>
                have H := HA.out
                clear HA
                simp only [tailracelaw10_NodeBack.j1] at H
                by_cases c52 : x71_21 = true
                · subst c52
                  have H1 : (some false) = some r := by rw [if_pos rfl] at H; exact H
                  clear H
                  have H := H1
                  clear H1
                  obtain rfl := Option.some.inj H
                  go_wp2
                  go_ret
                  exact ⟨by first | rfl | (simp [errW_none, errW_some] <;> rfl) | (simp [*, errW_none, errW_some] <;> rfl), by repeat (first | (with_reducible first | exact HB.out | apply below_alloc | apply pw_below_drewN | apply below_drew1 | refine below_set ?_ GE233.out | refine below_set ?_ GE252.out) | exact HB.out)⟩
                · replace c52 := Bool.eq_false_iff.mpr c52
                  subst c52
                  have H1 : (tailracelaw10_NodeBack.j3 kj21 a1 l2 t234) = some r := by rw [if_neg (show ¬ (false = true) by decide)] at H; exact H
                  clear H
                  have H := H1
                  clear H1
                  have H' := Aside0.mk H
                  clear H
                  go_wp2
                  go_meet
                  case rel => exact ⟨_, H', ⟨by have := HJ4.out; have := HJ21.out; first | omega | exact Nat.le_refl _⟩, ⟨by (with_reducible repeat (first | refine blk_drewN ?_ _ | refine blk_drew ?_ | refine blk_alloc ?_ _)); exact BK233.out⟩, ⟨by repeat (first | (with_reducible first | exact HB.out | apply below_alloc | apply pw_below_drewN | apply below_drew1 | refine below_set ?_ GE233.out | refine below_set ?_ GE252.out) | exact HB.out)⟩⟩
          · rw [if_neg c19] at H
            have c19b0 : (t240 == 0) = false := beq_eq_false_iff_ne.mpr c19
            have c19b1 : (t240 != 0) = true := bne_iff_ne.mpr c19
            (first | rw [c19b0] | (simp only [i64_w, i32_w]; rw [c19b0]) | skip)
            have HC53 := Aside0.mk H
            clear H
            go_upto_region 10 with (fail)
            go_cut [82] (fun v82 wc => ∃ (kq : Nat) (x82_52 : Bool), v82 = .bool x82_52 ∧ Aside0 (tailracelaw10_NodeBack.j2 kq a1 l2 t234 x82_52 = some r) ∧ Aside0 (kq ≤ kj4) ∧ Aside0 (wc.heap[gb233]? = some (.cells #[.bool a0_0, (.slice A0_1 l0_1.length c0_1), (.slice A0_2 l0_2.length c0_2), (.slice A0_3 l0_3.length c0_3)] 26 (0, 0))) ∧ Aside0 (Below w.heap.size w wc))
            case first =>
              have H := HC53.out
              clear HC53
              replace H := Option.bind_eq_some_iff.mp H
              obtain ⟨t255, A540, H⟩ := H
              replace H : (if t255 = 0 then ((node_Size.f kj4 a0_0 l0_1 l0_2 l0_3).bind fun t256 => (tailracelaw10_NodeBack.j2 kj4 a1 l2 t234 ((t240 == 101) != (decide (t256 > 1000))))) else (tailracelaw10_NodeBack.j2 kj4 a1 l2 t234 ((t240 == 101) != false))) = some r := H
              have A54 := Aside0.mk A540
              clear A540
              by_cases c55 : t255 = 0
              · rw [if_pos c55] at H
                have c55b0 : (t255 == 0) = true := beq_iff_eq.mpr c55
                have c55b1 : (t255 != 0) = false := bne_eq_false_iff_eq.mpr c55
                clear c55
                (first | rw [c55b0] | (simp only [i64_w, i32_w]; rw [c55b0]) | skip)
                replace H := Option.bind_eq_some_iff.mp H
                obtain ⟨t256, A560, H⟩ := H
                replace H : (tailracelaw10_NodeBack.j2 kj4 a1 l2 t234 ((t240 == 101) != (decide (t256 > 1000)))) = some r := H
                have A56 := Aside0.mk A560
                clear A560
                have H' := Aside0.mk H
                clear H
                have hcz57_0 : w18.cell? ⟨gb233, 0, none⟩ = some (.bool a0_0) := (blk_cell BK233.out 0).trans rfl
                have hcz57_1 : w18.cell? ⟨gb233, 1, none⟩ = some (.slice A0_1 l0_1.length c0_1) := (blk_cell BK233.out 1).trans rfl
                have hcz57_2 : w18.cell? ⟨gb233, 2, none⟩ = some (.slice A0_2 l0_2.length c0_2) := (blk_cell BK233.out 2).trans rfl
                have hcz57_3 : w18.cell? ⟨gb233, 3, none⟩ = some (.slice A0_3 l0_3.length c0_3) := (blk_cell BK233.out 3).trans rfl
                have hfz57_0 := blk_frozen BK233.out 0
                have hfz57_1 := blk_frozen BK233.out 1
                have hfz57_2 := blk_frozen BK233.out 2
                have hfz57_3 := blk_frozen BK233.out 3
                go_wp2_with (first | ((with_reducible refine gate_callee (f := 13) rfl ?_); refine goesL_ (some 75) rfl rfl Try.func13 (by kernel_rfl) rfl #[.agg #[.bool a0_0, .slice A0_1 l0_1.length c0_1, .slice A0_2 l0_2.length c0_2, .slice A0_3 l0_3.length c0_3]] rfl (by (try simp only [List.map_toArray, List.map_cons, List.map_nil]); first | done | rfl | (simp only [List.length_drop, List.length_take]; rfl)) ?_; (with_reducible refine (node_Check.calls kj4 a0_0 _ _ l0_1 _ _ l0_2 _ _ l0_3 t255 _ ?side1 ?side2 ?side3 ?side4 ?side5 ?side6 A54.out).mono ?_); (case side1 => repeat (first | exact (Kd.C_below HR0_1.out HB.out) | (with_reducible refine Kd.C_alloc ?_ _) | (with_reducible refine Kd.C_drewN ?_ _) | (with_reducible refine Kd.C_drew ?_))); (case side2 => exact HC0_1.out); (case side3 => repeat (first | exact (Kd.C_below HR0_2.out HB.out) | (with_reducible refine Kd.C_alloc ?_ _) | (with_reducible refine Kd.C_drewN ?_ _) | (with_reducible refine Kd.C_drew ?_))); (case side4 => exact HC0_2.out); (case side5 => repeat (first | exact (Kd.C_below HR0_3.out HB.out) | (with_reducible refine Kd.C_alloc ?_ _) | (with_reducible refine Kd.C_drewN ?_ _) | (with_reducible refine Kd.C_drew ?_))); (case side6 => exact HC0_3.out); rintro e w58 ⟨rfl, hb⟩; refine ⟨_, rfl, ?_⟩; have n0_ := Aside0.mk (Kd.R_below (by (with_reducible repeat (first | apply Kd.R_alloc | apply Kd.R_drewN | apply Kd.R_drew)); exact HO239.out) hb); have n1_ := Aside0.mk (blk_below (g := gb233) (o := .cells #[.bool a0_0, .slice A0_1 l0_1.length c0_1, .slice A0_2 l0_2.length c0_2, .slice A0_3 l0_3.length c0_3] 26 (0, 0)) (by (with_reducible repeat (first | refine blk_drewN ?_ _ | refine blk_drew ?_ | refine blk_alloc ?_ _)); exact BK233.out) hb); have n2_ := Aside0.mk (below_step (by repeat (first | (with_reducible first | exact HB.out | apply below_alloc | apply pw_below_drewN | apply below_drew1 | refine below_set ?_ GE233.out) | exact HB.out)) hb); clear HO239; clear BK233; clear HB; have HO239 := n0_; have BK233 := n1_; have HB := n2_; clear n0_ n1_ n2_; (try clear hb); (try clear hb2); (try clear hk); (try clear hi); have hcz59_0 : w58.cell? ⟨gb233, 0, none⟩ = some (.bool a0_0) := (blk_cell BK233.out 0).trans rfl; have hcz59_1 : w58.cell? ⟨gb233, 1, none⟩ = some (.slice A0_1 l0_1.length c0_1) := (blk_cell BK233.out 1).trans rfl; have hcz59_2 : w58.cell? ⟨gb233, 2, none⟩ = some (.slice A0_2 l0_2.length c0_2) := (blk_cell BK233.out 2).trans rfl; have hcz59_3 : w58.cell? ⟨gb233, 3, none⟩ = some (.slice A0_3 l0_3.length c0_3) := (blk_cell BK233.out 3).trans rfl; have hfz59_0 := blk_frozen BK233.out 0; have hfz59_1 := blk_frozen BK233.out 1; have hfz59_2 := blk_frozen BK233.out 2; have hfz59_3 := blk_frozen BK233.out 3) | (go_at_call 15; (with_reducible refine (node_Size.calls kj4 a0_0 _ _ l0_1 _ _ l0_2 _ _ l0_3 t256 _ ?side1 ?side2 ?side3 ?side4 ?side5 ?side6 A56.out).mono ?_); (case side1 => repeat (first | exact (Kd.C_below HR0_1.out HB.out) | (with_reducible refine Kd.C_alloc ?_ _) | (with_reducible refine Kd.C_drewN ?_ _) | (with_reducible refine Kd.C_drew ?_))); (case side2 => exact HC0_1.out); (case side3 => repeat (first | exact (Kd.C_below HR0_2.out HB.out) | (with_reducible refine Kd.C_alloc ?_ _) | (with_reducible refine Kd.C_drewN ?_ _) | (with_reducible refine Kd.C_drew ?_))); (case side4 => exact HC0_2.out); (case side5 => repeat (first | exact (Kd.C_below HR0_3.out HB.out) | (with_reducible refine Kd.C_alloc ?_ _) | (with_reducible refine Kd.C_drewN ?_ _) | (with_reducible refine Kd.C_drew ?_))); (case side6 => exact HC0_3.out); rintro e w60 ⟨rfl, hb⟩; have n0_ := Aside0.mk (Kd.R_below (by (with_reducible repeat (first | apply Kd.R_alloc | apply Kd.R_drewN | apply Kd.R_drew)); exact HO239.out) hb); have n1_ := Aside0.mk (blk_below (g := gb233) (o := .cells #[.bool a0_0, .slice A0_1 l0_1.length c0_1, .slice A0_2 l0_2.length c0_2, .slice A0_3 l0_3.length c0_3] 26 (0, 0)) (by (with_reducible repeat (first | refine blk_drewN ?_ _ | refine blk_drew ?_ | refine blk_alloc ?_ _)); exact BK233.out) hb); have n2_ := Aside0.mk (below_step (by repeat (first | (with_reducible first | exact HB.out | apply below_alloc | apply pw_below_drewN | apply below_drew1 | refine below_set ?_ GE233.out) | exact HB.out)) hb); clear HO239; clear BK233; clear HB; have HO239 := n0_; have BK233 := n1_; have HB := n2_; clear n0_ n1_ n2_; (try clear hb); (try clear hb2); (try clear hk); (try clear hi)))
                go_meet
                case rel => exact ⟨_, (((t240 == 101) != (decide (t256 > 1000)))), (by first | rfl | (simp; done) | (simp [*]; done)), H', ⟨by have := HJ4.out; first | omega | exact Nat.le_refl _⟩, ⟨by (with_reducible repeat (first | refine blk_drewN ?_ _ | refine blk_drew ?_ | refine blk_alloc ?_ _)); exact BK233.out⟩, ⟨by repeat (first | (with_reducible first | exact HB.out | apply below_alloc | apply pw_below_drewN | apply below_drew1 | refine below_set ?_ GE233.out) | exact HB.out)⟩⟩
              · rw [if_neg c55] at H
                have c55b0 : (t255 == 0) = false := beq_eq_false_iff_ne.mpr c55
                have c55b1 : (t255 != 0) = true := bne_iff_ne.mpr c55
                (first | rw [c55b0] | (simp only [i64_w, i32_w]; rw [c55b0]) | skip)
                have H' := Aside0.mk H
                clear H
                have hcz61_0 : w18.cell? ⟨gb233, 0, none⟩ = some (.bool a0_0) := (blk_cell BK233.out 0).trans rfl
                have hcz61_1 : w18.cell? ⟨gb233, 1, none⟩ = some (.slice A0_1 l0_1.length c0_1) := (blk_cell BK233.out 1).trans rfl
                have hcz61_2 : w18.cell? ⟨gb233, 2, none⟩ = some (.slice A0_2 l0_2.length c0_2) := (blk_cell BK233.out 2).trans rfl
                have hcz61_3 : w18.cell? ⟨gb233, 3, none⟩ = some (.slice A0_3 l0_3.length c0_3) := (blk_cell BK233.out 3).trans rfl
                have hfz61_0 := blk_frozen BK233.out 0
                have hfz61_1 := blk_frozen BK233.out 1
                have hfz61_2 := blk_frozen BK233.out 2
                have hfz61_3 := blk_frozen BK233.out 3
                go_wp2_with (first | ((with_reducible refine gate_callee (f := 13) rfl ?_); refine goesL_ (some 75) rfl rfl Try.func13 (by kernel_rfl) rfl #[.agg #[.bool a0_0, .slice A0_1 l0_1.length c0_1, .slice A0_2 l0_2.length c0_2, .slice A0_3 l0_3.length c0_3]] rfl (by (try simp only [List.map_toArray, List.map_cons, List.map_nil]); first | done | rfl | (simp only [List.length_drop, List.length_take]; rfl)) ?_; (with_reducible refine (node_Check.calls kj4 a0_0 _ _ l0_1 _ _ l0_2 _ _ l0_3 t255 _ ?side1 ?side2 ?side3 ?side4 ?side5 ?side6 A54.out).mono ?_); (case side1 => repeat (first | exact (Kd.C_below HR0_1.out HB.out) | (with_reducible refine Kd.C_alloc ?_ _) | (with_reducible refine Kd.C_drewN ?_ _) | (with_reducible refine Kd.C_drew ?_))); (case side2 => exact HC0_1.out); (case side3 => repeat (first | exact (Kd.C_below HR0_2.out HB.out) | (with_reducible refine Kd.C_alloc ?_ _) | (with_reducible refine Kd.C_drewN ?_ _) | (with_reducible refine Kd.C_drew ?_))); (case side4 => exact HC0_2.out); (case side5 => repeat (first | exact (Kd.C_below HR0_3.out HB.out) | (with_reducible refine Kd.C_alloc ?_ _) | (with_reducible refine Kd.C_drewN ?_ _) | (with_reducible refine Kd.C_drew ?_))); (case side6 => exact HC0_3.out); rintro e w62 ⟨rfl, hb⟩; refine ⟨_, rfl, ?_⟩; have n0_ := Aside0.mk (Kd.R_below (by (with_reducible repeat (first | apply Kd.R_alloc | apply Kd.R_drewN | apply Kd.R_drew)); exact HO239.out) hb); have n1_ := Aside0.mk (blk_below (g := gb233) (o := .cells #[.bool a0_0, .slice A0_1 l0_1.length c0_1, .slice A0_2 l0_2.length c0_2, .slice A0_3 l0_3.length c0_3] 26 (0, 0)) (by (with_reducible repeat (first | refine blk_drewN ?_ _ | refine blk_drew ?_ | refine blk_alloc ?_ _)); exact BK233.out) hb); have n2_ := Aside0.mk (below_step (by repeat (first | (with_reducible first | exact HB.out | apply below_alloc | apply pw_below_drewN | apply below_drew1 | refine below_set ?_ GE233.out) | exact HB.out)) hb); clear HO239; clear BK233; clear HB; have HO239 := n0_; have BK233 := n1_; have HB := n2_; clear n0_ n1_ n2_; (try clear hb); (try clear hb2); (try clear hk); (try clear hi)))
                go_meet
                case rel => exact ⟨_, (((t240 == 101) != false)), (by first | rfl | (simp; done) | (simp [*]; done)), H', ⟨by have := HJ4.out; first | omega | exact Nat.le_refl _⟩, ⟨by (with_reducible repeat (first | refine blk_drewN ?_ _ | refine blk_drew ?_ | refine blk_alloc ?_ _)); exact BK233.out⟩, ⟨by repeat (first | (with_reducible first | exact HB.out | apply below_alloc | apply pw_below_drewN | apply below_drew1 | refine below_set ?_ GE233.out) | exact HB.out)⟩⟩
            case rest =>
              clear HC53
              try clear c1
              try clear c2
              try clear p2
              try clear c3
              try clear c4
              try clear c5
              try clear c6
              try clear c9
              try clear c10
              try clear c11
              try clear c13
              try clear c14
              try clear c17
              try clear c19
              try clear c19b0
              try clear c19b1
              try clear c26
              try clear c33
              try clear c34
              try clear c34b0
              try clear c34b1
              try clear c36
              try clear c36b0
              try clear c36b1
              try clear c37
              try clear c37b0
              try clear c37b1
              try clear c38
              try clear c41
              try clear c41b0
              try clear c41b1
              try clear c42
              try clear c45
              try clear c49
              try clear c52
              try clear c55
              try clear c55b0
              try clear c55b1
              try clear hcz10_0
              try clear hcz10_1
              try clear hcz10_2
              try clear hcz10_3
              try clear hcz12_0
              try clear hcz12_1
              try clear hcz12_2
              try clear hcz12_3
              try clear hcz17_0
              try clear hcz17_1
              try clear hcz17_2
              try clear hcz17_3
              try clear hcz27_0
              try clear hcz27_1
              try clear hcz27_2
              try clear hcz27_3
              try clear hcz31_0
              try clear hcz31_1
              try clear hcz31_2
              try clear hcz31_3
              try clear hcz39_0
              try clear hcz39_1
              try clear hcz39_2
              try clear hcz39_3
              try clear hcz43_0
              try clear hcz43_1
              try clear hcz43_2
              try clear hcz43_3
              try clear hcz46_0
              try clear hcz46_1
              try clear hcz46_2
              try clear hcz46_3
              try clear hcz48_0
              try clear hcz48_1
              try clear hcz48_2
              try clear hcz48_3
              try clear hcz50_0
              try clear hcz50_1
              try clear hcz50_2
              try clear hcz50_3
              try clear hcz57_0
              try clear hcz57_1
              try clear hcz57_2
              try clear hcz57_3
              try clear hcz59_0
              try clear hcz59_1
              try clear hcz59_2
              try clear hcz59_3
              try clear hcz61_0
              try clear hcz61_1
              try clear hcz61_2
              try clear hcz61_3
              try clear hfz10_0
              try clear hfz10_1
              try clear hfz10_2
              try clear hfz10_3
              try clear hfz12_0
              try clear hfz12_1
              try clear hfz12_2
              try clear hfz12_3
              try clear hfz17_0
              try clear hfz17_1
              try clear hfz17_2
              try clear hfz17_3
              try clear hfz27_0
              try clear hfz27_1
              try clear hfz27_2
              try clear hfz27_3
              try clear hfz31_0
              try clear hfz31_1
              try clear hfz31_2
              try clear hfz31_3
              try clear hfz39_0
              try clear hfz39_1
              try clear hfz39_2
              try clear hfz39_3
              try clear hfz43_0
              try clear hfz43_1
              try clear hfz43_2
              try clear hfz43_3
              try clear hfz46_0
              try clear hfz46_1
              try clear hfz46_2
              try clear hfz46_3
              try clear hfz48_0
              try clear hfz48_1
              try clear hfz48_2
              try clear hfz48_3
              try clear hfz50_0
              try clear hfz50_1
              try clear hfz50_2
              try clear hfz50_3
              try clear hfz57_0
              try clear hfz57_1
              try clear hfz57_2
              try clear hfz57_3
              try clear hfz59_0
              try clear hfz59_1
              try clear hfz59_2
              try clear hfz59_3
              try clear hfz61_0
              try clear hfz61_1
              try clear hfz61_2
              try clear hfz61_3
              try clear p2
              obtain ⟨kq, x82_52, rfl, HA, HJ52, BK233, HB⟩ := hcut
              cases kq with
              | zero => exact absurd HA.out (by simp [tailracelaw10_NodeBack.j2])
              | succ kj52 =>
                have H := HA.out
                clear HA
                simp only [tailracelaw10_NodeBack.j2] at H
                by_cases c63 : x82_52 = true
                · subst c63
                  have H1 : (some false) = some r := by rw [if_pos rfl] at H; exact H
                  clear H
                  have H := H1
                  clear H1
                  obtain rfl := Option.some.inj H
                  go_wp2
                  go_ret
                  exact ⟨by first | rfl | (simp [errW_none, errW_some] <;> rfl) | (simp [*, errW_none, errW_some] <;> rfl), by repeat (first | (with_reducible first | exact HB.out | apply below_alloc | apply pw_below_drewN | apply below_drew1 | refine below_set ?_ GE233.out) | exact HB.out)⟩
                · replace c63 := Bool.eq_false_iff.mpr c63
                  subst c63
                  have H1 : (tailracelaw10_NodeBack.j3 kj52 a1 l2 t234) = some r := by rw [if_neg (show ¬ (false = true) by decide)] at H; exact H
                  clear H
                  have H := H1
                  clear H1
                  have H' := Aside0.mk H
                  clear H
                  go_wp2
                  go_meet
                  case rel => exact ⟨_, H', ⟨by have := HJ4.out; have := HJ52.out; first | omega | exact Nat.le_refl _⟩, ⟨by (with_reducible repeat (first | refine blk_drewN ?_ _ | refine blk_drew ?_ | refine blk_alloc ?_ _)); exact BK233.out⟩, ⟨by repeat (first | (with_reducible first | exact HB.out | apply below_alloc | apply pw_below_drewN | apply below_drew1 | refine below_set ?_ GE233.out) | exact HB.out)⟩⟩
        case rest =>
          clear HC16
          try clear c1
          try clear c2
          try clear p2
          try clear c3
          try clear c4
          try clear c5
          try clear c6
          try clear c9
          try clear c10
          try clear c11
          try clear c13
          try clear c14
          try clear c17
          try clear c19
          try clear c19b0
          try clear c19b1
          try clear c26
          try clear c33
          try clear c34
          try clear c34b0
          try clear c34b1
          try clear c36
          try clear c36b0
          try clear c36b1
          try clear c37
          try clear c37b0
          try clear c37b1
          try clear c38
          try clear c41
          try clear c41b0
          try clear c41b1
          try clear c42
          try clear c45
          try clear c49
          try clear c52
          try clear c55
          try clear c55b0
          try clear c55b1
          try clear c63
          try clear hcz10_0
          try clear hcz10_1
          try clear hcz10_2
          try clear hcz10_3
          try clear hcz12_0
          try clear hcz12_1
          try clear hcz12_2
          try clear hcz12_3
          try clear hcz17_0
          try clear hcz17_1
          try clear hcz17_2
          try clear hcz17_3
          try clear hcz27_0
          try clear hcz27_1
          try clear hcz27_2
          try clear hcz27_3
          try clear hcz31_0
          try clear hcz31_1
          try clear hcz31_2
          try clear hcz31_3
          try clear hcz39_0
          try clear hcz39_1
          try clear hcz39_2
          try clear hcz39_3
          try clear hcz43_0
          try clear hcz43_1
          try clear hcz43_2
          try clear hcz43_3
          try clear hcz46_0
          try clear hcz46_1
          try clear hcz46_2
          try clear hcz46_3
          try clear hcz48_0
          try clear hcz48_1
          try clear hcz48_2
          try clear hcz48_3
          try clear hcz50_0
          try clear hcz50_1
          try clear hcz50_2
          try clear hcz50_3
          try clear hcz57_0
          try clear hcz57_1
          try clear hcz57_2
          try clear hcz57_3
          try clear hcz59_0
          try clear hcz59_1
          try clear hcz59_2
          try clear hcz59_3
          try clear hcz61_0
          try clear hcz61_1
          try clear hcz61_2
          try clear hcz61_3
          try clear hfz10_0
          try clear hfz10_1
          try clear hfz10_2
          try clear hfz10_3
          try clear hfz12_0
          try clear hfz12_1
          try clear hfz12_2
          try clear hfz12_3
          try clear hfz17_0
          try clear hfz17_1
          try clear hfz17_2
          try clear hfz17_3
          try clear hfz27_0
          try clear hfz27_1
          try clear hfz27_2
          try clear hfz27_3
          try clear hfz31_0
          try clear hfz31_1
          try clear hfz31_2
          try clear hfz31_3
          try clear hfz39_0
          try clear hfz39_1
          try clear hfz39_2
          try clear hfz39_3
          try clear hfz43_0
          try clear hfz43_1
          try clear hfz43_2
          try clear hfz43_3
          try clear hfz46_0
          try clear hfz46_1
          try clear hfz46_2
          try clear hfz46_3
          try clear hfz48_0
          try clear hfz48_1
          try clear hfz48_2
          try clear hfz48_3
          try clear hfz50_0
          try clear hfz50_1
          try clear hfz50_2
          try clear hfz50_3
          try clear hfz57_0
          try clear hfz57_1
          try clear hfz57_2
          try clear hfz57_3
          try clear hfz59_0
          try clear hfz59_1
          try clear hfz59_2
          try clear hfz59_3
          try clear hfz61_0
          try clear hfz61_1
          try clear hfz61_2
          try clear hfz61_3
          try clear p2
          obtain ⟨kq, HA, HJ15, BK233, HB⟩ := hcut
          cases kq with
          | zero => exact absurd HA.out (by simp [tailracelaw10_NodeBack.j3])
          | succ kj15 =>
            have H := HA.out
            clear HA
            simp only [tailracelaw10_NodeBack.j3] at H
            replace H := Option.bind_eq_some_iff.mp H
            obtain ⟨⟨t257, t258, t261, t264, t267⟩, A640, H⟩ := H
            replace H : (if t267 = 0 then ((node_Encode.f t257 t258 t261 t264).bind fun bt269 => (if t234 = true then (if bt269.1 = a1 then (if (strOfNums bt269.2.1).toList = (strOfNums l2).toList then (some (bt269.2.2 == 0)) else (some false)) else (some false)) else (some false))) else (if t234 = true then (if (t258.length : Int) = 0 then (some ((t264.length : Int) == 0)) else (some false)) else (some false))) = some r := H
            have A64 := Aside0.mk A640
            clear A640
            by_cases c65 : t267 = 0
            · rw [if_pos c65] at H
              have c65b0 : (t267 == 0) = true := beq_iff_eq.mpr c65
              have c65b1 : (t267 != 0) = false := bne_eq_false_iff_eq.mpr c65
              clear c65
              replace H := Option.bind_eq_some_iff.mp H
              obtain ⟨⟨t269, t270, t273⟩, A660, H⟩ := H
              replace H : (if t234 = true then (if t269 = a1 then (if (strOfNums t270).toList = (strOfNums l2).toList then (some (t273 == 0)) else (some false)) else (some false)) else (some false)) = some r := H
              have A66 := Aside0.mk A660
              clear A660
              by_cases c67 : t234 = true
              · subst c67
                have H1 : (if t269 = a1 then (if (strOfNums t270).toList = (strOfNums l2).toList then (some (t273 == 0)) else (some false)) else (some false)) = some r := by rw [if_pos rfl] at H; exact H
                clear H
                have H := H1
                clear H1
                by_cases c68 : t269 = a1
                · rw [if_pos c68] at H
                  have c68b0 : (t269 == a1) = true := beq_iff_eq.mpr c68
                  have c68b1 : (t269 != a1) = false := bne_eq_false_iff_eq.mpr c68
                  clear c68
                  by_cases c69 : (strOfNums t270).toList = (strOfNums l2).toList
                  · rw [if_pos c69] at H
                    have c69b0 : ((strOfNums t270).toList == (strOfNums l2).toList) = true := beq_iff_eq.mpr c69
                    have c69b1 : ((strOfNums t270).toList != (strOfNums l2).toList) = false := bne_eq_false_iff_eq.mpr c69
                    clear c69
                    obtain rfl := Option.some.inj H
                    go_wp2_with (first | ((with_reducible refine gate_callee (f := 17) rfl ?_); refine goesL_ (some 86) rfl rfl Try.func17 (by kernel_rfl) rfl #[.int .i64 a1, .slice A2 l2.length c2] rfl (by (try simp only [List.map_toArray, List.map_cons, List.map_nil]); first | done | rfl | (simp only [List.length_drop, List.length_take]; rfl)) ?_; (with_reducible refine (node_Decode.calls a1 _ _ l2 t257 t258 t261 t264 t267 _ ?side1 ?side2 A64.out).mono ?_); (case side1 => repeat (first | exact (Kd.C_below HR2.out HB.out) | (with_reducible refine Kd.C_alloc ?_ _) | (with_reducible refine Kd.C_drewN ?_ _) | (with_reducible refine Kd.C_drew ?_))); (case side2 => exact HC2.out); rintro e w70 ⟨v259, v262, v265, rfl, ho0, ho1, ho2, hb⟩; refine ⟨_, rfl, ?_⟩; have n0_ := Aside0.mk (Kd.R_lower ho0 (below_size (by repeat (first | (with_reducible first | exact HB.out | apply below_alloc | apply pw_below_drewN | apply below_drew1 | refine below_set ?_ GE233.out) | exact HB.out)))); have n1_ := Aside0.mk (Kd.R_lower ho1 (below_size (by repeat (first | (with_reducible first | exact HB.out | apply below_alloc | apply pw_below_drewN | apply below_drew1 | refine below_set ?_ GE233.out) | exact HB.out)))); have n2_ := Aside0.mk (Kd.R_lower ho2 (below_size (by repeat (first | (with_reducible first | exact HB.out | apply below_alloc | apply pw_below_drewN | apply below_drew1 | refine below_set ?_ GE233.out) | exact HB.out)))); have n3_ := Aside0.mk (blk_below (g := gb233) (o := .cells #[.bool a0_0, .slice A0_1 l0_1.length c0_1, .slice A0_2 l0_2.length c0_2, .slice A0_3 l0_3.length c0_3] 26 (0, 0)) (by (with_reducible repeat (first | refine blk_drewN ?_ _ | refine blk_drew ?_ | refine blk_alloc ?_ _)); exact BK233.out) hb); have n4_ := Aside0.mk (below_step (by repeat (first | (with_reducible first | exact HB.out | apply below_alloc | apply pw_below_drewN | apply below_drew1 | refine below_set ?_ GE233.out) | exact HB.out)) hb); clear BK233; clear HB; have HO260 := n0_; have HO263 := n1_; have HO266 := n2_; have BK233 := n3_; have HB := n4_; clear n0_ n1_ n2_ n3_ n4_; (try clear hb); (try clear hb2); (try clear hk); (try clear hi); (try clear ho0); (try clear ho1); (try clear ho2)) | ((with_reducible refine gate_dst (N := 14) rfl ?_); (try (refine gate_guard (by rfl) ?_; dsimp only)); refine box_event ?hg (N := 14) ?hd (cs := #[.bool false, .slice none 0 0, .slice none 0 0, .slice none 0 0]) (t := 26) ?hr ?_; (case hd => rfl); (case hg => rfl); (case hr => first | (go_simp; done) | (go_simp; rfl)); intro gb268 hg w71 hbox hb; have n0_ := Aside0.mk (Kd.R_below (by (with_reducible repeat (first | apply Kd.R_alloc | apply Kd.R_drewN | apply Kd.R_drew)); exact HO260.out) hb); have n1_ := Aside0.mk (Kd.R_below (by (with_reducible repeat (first | apply Kd.R_alloc | apply Kd.R_drewN | apply Kd.R_drew)); exact HO263.out) hb); have n2_ := Aside0.mk (Kd.R_below (by (with_reducible repeat (first | apply Kd.R_alloc | apply Kd.R_drewN | apply Kd.R_drew)); exact HO266.out) hb); have n3_ := Aside0.mk (blk_below (g := gb233) (o := .cells #[.bool a0_0, .slice A0_1 l0_1.length c0_1, .slice A0_2 l0_2.length c0_2, .slice A0_3 l0_3.length c0_3] 26 (0, 0)) (by (with_reducible repeat (first | refine blk_drewN ?_ _ | refine blk_drew ?_ | refine blk_alloc ?_ _)); exact BK233.out) hb); have n4_ := Aside0.mk (below_step (by repeat (first | (with_reducible first | exact HB.out | apply below_alloc | apply pw_below_drewN | apply below_drew1 | refine below_set ?_ GE233.out) | exact HB.out)) hb); have n5_ := Aside0.mk (hbox); have n6_ := Aside0.mk ((by rw [hg]; exact (below_size (by repeat (first | (with_reducible first | exact HB.out | apply below_alloc | apply pw_below_drewN | apply below_drew1 | refine below_set ?_ GE233.out) | exact HB.out))) : w.heap.size ≤ gb268)); have n7_ := Aside0.mk ((by rw [hg]; exact (below_size (by repeat (first | (with_reducible first | exact HB.out | apply below_alloc | apply pw_below_drewN | apply below_drew1 | refine below_set ?_ GE233.out) | exact HB.out))) : w.heap.size ≤ gb268)); have n8_ := Aside0.mk ((by rw [hg]; exact Nat.ne_of_lt (blk_lt (g := gb233) (o := .cells #[.bool a0_0, .slice A0_1 l0_1.length c0_1, .slice A0_2 l0_2.length c0_2, .slice A0_3 l0_3.length c0_3] 26 (0, 0)) (by (with_reducible repeat (first | refine blk_drewN ?_ _ | refine blk_drew ?_ | refine blk_alloc ?_ _)); exact BK233.out)) : gb233 ≠ gb268)); have n9_ := Aside0.mk ((by rw [hg]; exact Nat.ne_of_gt (blk_lt (g := gb233) (o := .cells #[.bool a0_0, .slice A0_1 l0_1.length c0_1, .slice A0_2 l0_2.length c0_2, .slice A0_3 l0_3.length c0_3] 26 (0, 0)) (by (with_reducible repeat (first | refine blk_drewN ?_ _ | refine blk_drew ?_ | refine blk_alloc ?_ _)); exact BK233.out)) : gb268 ≠ gb233)); clear HO260; clear HO263; clear HO266; clear BK233; clear HB; have HO260 := n0_; have HO263 := n1_; have HO266 := n2_; have BK233 := n3_; have HB := n4_; have BK268 := n5_; have GW268 := n6_; have GE268 := n7_; have NB233_268 := n8_; have NB268_233 := n9_; clear n0_ n1_ n2_ n3_ n4_ n5_ n6_ n7_ n8_ n9_; clear hb hbox hg; have hnb72 := NB268_233.out; have hnc72 := NB233_268.out; have hcz73_0 : w71.cell? ⟨gb268, 0, none⟩ = some (.bool false) := (blk_cell BK268.out 0).trans rfl; have hcz73_1 : w71.cell? ⟨gb268, 1, none⟩ = some (.slice none 0 0) := (blk_cell BK268.out 1).trans rfl; have hcz73_2 : w71.cell? ⟨gb268, 2, none⟩ = some (.slice none 0 0) := (blk_cell BK268.out 2).trans rfl; have hcz73_3 : w71.cell? ⟨gb268, 3, none⟩ = some (.slice none 0 0) := (blk_cell BK268.out 3).trans rfl; have hfz73_0 := blk_frozen BK268.out 0; have hfz73_1 := blk_frozen BK268.out 1; have hfz73_2 := blk_frozen BK268.out 2; have hfz73_3 := blk_frozen BK268.out 3; obtain ⟨Ao74, co74, eo74⟩ := Kd.R_slice HO260.out; subst eo74; obtain ⟨Ao75, co75, eo75⟩ := Kd.R_slice HO263.out; subst eo75; obtain ⟨Ao76, co76, eo76⟩ := Kd.R_slice HO266.out; subst eo76) | ((with_reducible refine gate_callee (f := 11) rfl ?_); refine goesL_ (some 106) rfl rfl Try.func11 (by kernel_rfl) rfl #[.agg #[.bool t257, .slice Ao74 t258.length co74, .slice Ao75 t261.length co75, .slice Ao76 t264.length co76]] rfl (by (try simp only [List.map_toArray, List.map_cons, List.map_nil]); first | done | rfl | (simp only [List.length_drop, List.length_take]; rfl)) ?_; (with_reducible refine (node_Encode.calls t257 _ _ t258 _ _ t261 _ _ t264 t269 t270 t273 _ ?side1 ?side2 ?side3 ?side4 ?side5 ?side6 A66.out).mono ?_); (case side1 => refine (Kd.R_reads' (e := 9) (base := w.heap.size) (ok := fun k_ => some k_ ≠ (.slice Ao75 t261.length co75 : Value).ownBlock) (n := t258.length) (c := co74) ?_).2.2; exact (by (with_reducible repeat (first | apply Kd.R_alloc | apply Kd.R_drewN | apply Kd.R_drew)); exact (Kd.R_mono (Kd.R_far (p := ⟨gb268, 3, none⟩) (Kd.R_far (p := ⟨gb268, 2, none⟩) (Kd.R_far (p := ⟨gb268, 1, none⟩) (Kd.R_far (p := ⟨gb268, 0, none⟩) (Kd.R_types HO260.out BK268.out (by decide)) (fun _ hk => hk.2) (.bool t257)) (fun _ hk => hk.2) (.slice Ao74 t258.length co74)) (fun _ hk => hk.2) (.slice Ao75 t261.length co75)) (fun _ hk => hk.2) (.slice Ao76 t264.length co76)) (fun _ h_ => h_.1)))); (case side2 => exact (Kd.R_reads' HO260.out).2.1); (case side3 => refine (Kd.R_reads' (e := 9) (base := w.heap.size) (ok := fun k_ => some k_ ≠ (.slice Ao74 t258.length co74 : Value).ownBlock) (n := t261.length) (c := co75) ?_).2.2; exact (by (with_reducible repeat (first | apply Kd.R_alloc | apply Kd.R_drewN | apply Kd.R_drew)); exact (Kd.R_mono (Kd.R_far (p := ⟨gb268, 3, none⟩) (Kd.R_far (p := ⟨gb268, 2, none⟩) (Kd.R_far (p := ⟨gb268, 1, none⟩) (Kd.R_far (p := ⟨gb268, 0, none⟩) (Kd.R_types HO263.out BK268.out (by decide)) (fun _ hk => hk.2) (.bool t257)) (fun _ hk => hk.2) (.slice Ao74 t258.length co74)) (fun _ hk => hk.2) (.slice Ao75 t261.length co75)) (fun _ hk => hk.2) (.slice Ao76 t264.length co76)) (fun _ h_ => h_.1)))); (case side4 => exact (Kd.R_reads' HO263.out).2.1); (case side5 => refine (Kd.R_reads' (e := 3) (base := w.heap.size) (ok := fun k_ => True) (n := t264.length) (c := co76) ?_).2.2; exact (by (with_reducible repeat (first | apply Kd.R_alloc | apply Kd.R_drewN | apply Kd.R_drew)); exact (Kd.R_mono (Kd.R_far (p := ⟨gb268, 3, none⟩) (Kd.R_far (p := ⟨gb268, 2, none⟩) (Kd.R_far (p := ⟨gb268, 1, none⟩) (Kd.R_far (p := ⟨gb268, 0, none⟩) (Kd.R_types HO266.out BK268.out (by decide)) (fun _ hk => hk.2) (.bool t257)) (fun _ hk => hk.2) (.slice Ao74 t258.length co74)) (fun _ hk => hk.2) (.slice Ao75 t261.length co75)) (fun _ hk => hk.2) (.slice Ao76 t264.length co76)) (fun _ h_ => h_.1)))); (case side6 => exact (Kd.R_reads' HO266.out).2.1); rintro e w77 ⟨v271, rfl, ho0, hb⟩; refine ⟨_, rfl, ?_⟩; have n0_ := Aside0.mk (Kd.R_below (by (with_reducible repeat (first | apply Kd.R_alloc | apply Kd.R_drewN | apply Kd.R_drew)); exact (Kd.R_mono (Kd.R_far (p := ⟨gb268, 3, none⟩) (Kd.R_far (p := ⟨gb268, 2, none⟩) (Kd.R_far (p := ⟨gb268, 1, none⟩) (Kd.R_far (p := ⟨gb268, 0, none⟩) (Kd.R_types HO260.out BK268.out (by decide)) (fun _ hk => hk.2) (.bool t257)) (fun _ hk => hk.2) (.slice Ao74 t258.length co74)) (fun _ hk => hk.2) (.slice Ao75 t261.length co75)) (fun _ hk => hk.2) (.slice Ao76 t264.length co76)) (fun _ h_ => h_.1))) hb); have n1_ := Aside0.mk (Kd.R_below (by (with_reducible repeat (first | apply Kd.R_alloc | apply Kd.R_drewN | apply Kd.R_drew)); exact (Kd.R_mono (Kd.R_far (p := ⟨gb268, 3, none⟩) (Kd.R_far (p := ⟨gb268, 2, none⟩) (Kd.R_far (p := ⟨gb268, 1, none⟩) (Kd.R_far (p := ⟨gb268, 0, none⟩) (Kd.R_types HO263.out BK268.out (by decide)) (fun _ hk => hk.2) (.bool t257)) (fun _ hk => hk.2) (.slice Ao74 t258.length co74)) (fun _ hk => hk.2) (.slice Ao75 t261.length co75)) (fun _ hk => hk.2) (.slice Ao76 t264.length co76)) (fun _ h_ => h_.1))) hb); have n2_ := Aside0.mk (Kd.R_below (by (with_reducible repeat (first | apply Kd.R_alloc | apply Kd.R_drewN | apply Kd.R_drew)); exact (Kd.R_mono (Kd.R_far (p := ⟨gb268, 3, none⟩) (Kd.R_far (p := ⟨gb268, 2, none⟩) (Kd.R_far (p := ⟨gb268, 1, none⟩) (Kd.R_far (p := ⟨gb268, 0, none⟩) (Kd.R_types HO266.out BK268.out (by decide)) (fun _ hk => hk.2) (.bool t257)) (fun _ hk => hk.2) (.slice Ao74 t258.length co74)) (fun _ hk => hk.2) (.slice Ao75 t261.length co75)) (fun _ hk => hk.2) (.slice Ao76 t264.length co76)) (fun _ h_ => h_.1))) hb); have n3_ := Aside0.mk (Kd.R_lower ho0 (below_size (by repeat (first | (with_reducible first | exact HB.out | apply below_alloc | apply pw_below_drewN | apply below_drew1 | refine below_set ?_ GE233.out | refine below_set ?_ GE268.out) | exact HB.out)))); have n4_ := Aside0.mk (blk_below (g := gb233) (o := .cells #[.bool a0_0, .slice A0_1 l0_1.length c0_1, .slice A0_2 l0_2.length c0_2, .slice A0_3 l0_3.length c0_3] 26 (0, 0)) (by (with_reducible repeat (first | refine blk_drewN ?_ _ | refine blk_drew ?_ | refine blk_alloc ?_ _)); refine blk_far ?_ NB233_268.out _; (with_reducible repeat (first | refine blk_drewN ?_ _ | refine blk_drew ?_ | refine blk_alloc ?_ _)); refine blk_far ?_ NB233_268.out _; (with_reducible repeat (first | refine blk_drewN ?_ _ | refine blk_drew ?_ | refine blk_alloc ?_ _)); refine blk_far ?_ NB233_268.out _; (with_reducible repeat (first | refine blk_drewN ?_ _ | refine blk_drew ?_ | refine blk_alloc ?_ _)); refine blk_far ?_ NB233_268.out _; (with_reducible repeat (first | refine blk_drewN ?_ _ | refine blk_drew ?_ | refine blk_alloc ?_ _)); exact BK233.out) hb); have n5_ := Aside0.mk (blk_below (g := gb268) (o := .cells #[.bool t257, .slice Ao74 t258.length co74, .slice Ao75 t261.length co75, .slice Ao76 t264.length co76] 26 (0, 0)) (by (with_reducible repeat (first | refine blk_drewN ?_ _ | refine blk_drew ?_ | refine blk_alloc ?_ _)); refine blk_put (cs := #[.bool t257, .slice Ao74 t258.length co74, .slice Ao75 t261.length co75, .slice none 0 0]) ?_ 3 _ rfl; (with_reducible repeat (first | refine blk_drewN ?_ _ | refine blk_drew ?_ | refine blk_alloc ?_ _)); refine blk_put (cs := #[.bool t257, .slice Ao74 t258.length co74, .slice none 0 0, .slice none 0 0]) ?_ 2 _ rfl; (with_reducible repeat (first | refine blk_drewN ?_ _ | refine blk_drew ?_ | refine blk_alloc ?_ _)); refine blk_put (cs := #[.bool t257, .slice none 0 0, .slice none 0 0, .slice none 0 0]) ?_ 1 _ rfl; (with_reducible repeat (first | refine blk_drewN ?_ _ | refine blk_drew ?_ | refine blk_alloc ?_ _)); refine blk_put (cs := #[.bool false, .slice none 0 0, .slice none 0 0, .slice none 0 0]) ?_ 0 _ rfl; (with_reducible repeat (first | refine blk_drewN ?_ _ | refine blk_drew ?_ | refine blk_alloc ?_ _)); exact BK268.out) hb); have n6_ := Aside0.mk (below_step (by repeat (first | (with_reducible first | exact HB.out | apply below_alloc | apply pw_below_drewN | apply below_drew1 | refine below_set ?_ GE233.out | refine below_set ?_ GE268.out) | exact HB.out)) hb); clear HO260; clear HO263; clear HO266; clear BK233; clear BK268; clear HB; have HO260 := n0_; have HO263 := n1_; have HO266 := n2_; have HO272 := n3_; have BK233 := n4_; have BK268 := n5_; have HB := n6_; clear n0_ n1_ n2_ n3_ n4_ n5_ n6_; (try clear hb); (try clear hb2); (try clear hk); (try clear hi); (try clear ho0); have hcv78 := own_string (P := Try.prog) Try.underlying28 Try.underlying5 Try.underlying9 (Kd.own_of_R HO272.out); have hcv79 := Kd.C_string (P := Try.prog) (A := A2) (c := c2) Try.underlying28 Try.underlying5 Try.underlying9 (Kd.C_below HR2.out HB.out)))
                    go_ret
                    exact ⟨by first | rfl | (simp [errW_none, errW_some] <;> rfl) | (simp [*, errW_none, errW_some] <;> rfl), by repeat (first | (with_reducible first | exact HB.out | apply below_alloc | apply pw_below_drewN | apply below_drew1 | refine below_set ?_ GE233.out | refine below_set ?_ GE268.out) | exact HB.out)⟩
                  · rw [if_neg c69] at H
                    have c69b0 : ((strOfNums t270).toList == (strOfNums l2).toList) = false := beq_eq_false_iff_ne.mpr c69
                    have c69b1 : ((strOfNums t270).toList != (strOfNums l2).toList) = true := bne_iff_ne.mpr c69
                    obtain rfl := Option.some.inj H
                    go_wp2_with (first | ((with_reducible refine gate_callee (f := 17) rfl ?_); refine goesL_ (some 86) rfl rfl Try.func17 (by kernel_rfl) rfl #[.int .i64 a1, .slice A2 l2.length c2] rfl (by (try simp only [List.map_toArray, List.map_cons, List.map_nil]); first | done | rfl | (simp only [List.length_drop, List.length_take]; rfl)) ?_; (with_reducible refine (node_Decode.calls a1 _ _ l2 t257 t258 t261 t264 t267 _ ?side1 ?side2 A64.out).mono ?_); (case side1 => repeat (first | exact (Kd.C_below HR2.out HB.out) | (with_reducible refine Kd.C_alloc ?_ _) | (with_reducible refine Kd.C_drewN ?_ _) | (with_reducible refine Kd.C_drew ?_))); (case side2 => exact HC2.out); rintro e w80 ⟨v259, v262, v265, rfl, ho0, ho1, ho2, hb⟩; refine ⟨_, rfl, ?_⟩; have n0_ := Aside0.mk (Kd.R_lower ho0 (below_size (by repeat (first | (with_reducible first | exact HB.out | apply below_alloc | apply pw_below_drewN | apply below_drew1 | refine below_set ?_ GE233.out) | exact HB.out)))); have n1_ := Aside0.mk (Kd.R_lower ho1 (below_size (by repeat (first | (with_reducible first | exact HB.out | apply below_alloc | apply pw_below_drewN | apply below_drew1 | refine below_set ?_ GE233.out) | exact HB.out)))); have n2_ := Aside0.mk (Kd.R_lower ho2 (below_size (by repeat (first | (with_reducible first | exact HB.out | apply below_alloc | apply pw_below_drewN | apply below_drew1 | refine below_set ?_ GE233.out) | exact HB.out)))); have n3_ := Aside0.mk (blk_below (g := gb233) (o := .cells #[.bool a0_0, .slice A0_1 l0_1.length c0_1, .slice A0_2 l0_2.length c0_2, .slice A0_3 l0_3.length c0_3] 26 (0, 0)) (by (with_reducible repeat (first | refine blk_drewN ?_ _ | refine blk_drew ?_ | refine blk_alloc ?_ _)); exact BK233.out) hb); have n4_ := Aside0.mk (below_step (by repeat (first | (with_reducible first | exact HB.out | apply below_alloc | apply pw_below_drewN | apply below_drew1 | refine below_set ?_ GE233.out) | exact HB.out)) hb); clear BK233; clear HB; have HO260 := n0_; have HO263 := n1_; have HO266 := n2_; have BK233 := n3_; have HB := n4_; clear n0_ n1_ n2_ n3_ n4_; (try clear hb); (try clear hb2); (try clear hk); (try clear hi); (try clear ho0); (try clear ho1); (try clear ho2)) | ((with_reducible refine gate_dst (N := 14) rfl ?_); (try (refine gate_guard (by rfl) ?_; dsimp only)); refine box_event ?hg (N := 14) ?hd (cs := #[.bool false, .slice none 0 0, .slice none 0 0, .slice none 0 0]) (t := 26) ?hr ?_; (case hd => rfl); (case hg => rfl); (case hr => first | (go_simp; done) | (go_simp; rfl)); intro gb268 hg w81 hbox hb; have n0_ := Aside0.mk (Kd.R_below (by (with_reducible repeat (first | apply Kd.R_alloc | apply Kd.R_drewN | apply Kd.R_drew)); exact HO260.out) hb); have n1_ := Aside0.mk (Kd.R_below (by (with_reducible repeat (first | apply Kd.R_alloc | apply Kd.R_drewN | apply Kd.R_drew)); exact HO263.out) hb); have n2_ := Aside0.mk (Kd.R_below (by (with_reducible repeat (first | apply Kd.R_alloc | apply Kd.R_drewN | apply Kd.R_drew)); exact HO266.out) hb); have n3_ := Aside0.mk (blk_below (g := gb233) (o := .cells #[.bool a0_0, .slice A0_1 l0_1.length c0_1, .slice A0_2 l0_2.length c0_2, .slice A0_3 l0_3.length c0_3] 26 (0, 0)) (by (with_reducible repeat (first | refine blk_drewN ?_ _ | refine blk_drew ?_ | refine blk_alloc ?_ _)); exact BK233.out) hb); have n4_ := Aside0.mk (below_step (by repeat (first | (with_reducible first | exact HB.out | apply below_alloc | apply pw_below_drewN | apply below_drew1 | refine below_set ?_ GE233.out) | exact HB.out)) hb); have n5_ := Aside0.mk (hbox); have n6_ := Aside0.mk ((by rw [hg]; exact (below_size (by repeat (first | (with_reducible first | exact HB.out | apply below_alloc | apply pw_below_drewN | apply below_drew1 | refine below_set ?_ GE233.out) | exact HB.out))) : w.heap.size ≤ gb268)); have n7_ := Aside0.mk ((by rw [hg]; exact (below_size (by repeat (first | (with_reducible first | exact HB.out | apply below_alloc | apply pw_below_drewN | apply below_drew1 | refine below_set ?_ GE233.out) | exact HB.out))) : w.heap.size ≤ gb268)); have n8_ := Aside0.mk ((by rw [hg]; exact Nat.ne_of_lt (blk_lt (g := gb233) (o := .cells #[.bool a0_0, .slice A0_1 l0_1.length c0_1, .slice A0_2 l0_2.length c0_2, .slice A0_3 l0_3.length c0_3] 26 (0, 0)) (by (with_reducible repeat (first | refine blk_drewN ?_ _ | refine blk_drew ?_ | refine blk_alloc ?_ _)); exact BK233.out)) : gb233 ≠ gb268)); have n9_ := Aside0.mk ((by rw [hg]; exact Nat.ne_of_gt (blk_lt (g := gb233) (o := .cells #[.bool a0_0, .slice A0_1 l0_1.length c0_1, .slice A0_2 l0_2.length c0_2, .slice A0_3 l0_3.length c0_3] 26 (0, 0)) (by (with_reducible repeat (first | refine blk_drewN ?_ _ | refine blk_drew ?_ | refine blk_alloc ?_ _)); exact BK233.out)) : gb268 ≠ gb233)); clear HO260; clear HO263; clear HO266; clear BK233; clear HB; have HO260 := n0_; have HO263 := n1_; have HO266 := n2_; have BK233 := n3_; have HB := n4_; have BK268 := n5_; have GW268 := n6_; have GE268 := n7_; have NB233_268 := n8_; have NB268_233 := n9_; clear n0_ n1_ n2_ n3_ n4_ n5_ n6_ n7_ n8_ n9_; clear hb hbox hg; have hnb82 := NB268_233.out; have hnc82 := NB233_268.out; have hcz83_0 : w81.cell? ⟨gb268, 0, none⟩ = some (.bool false) := (blk_cell BK268.out 0).trans rfl; have hcz83_1 : w81.cell? ⟨gb268, 1, none⟩ = some (.slice none 0 0) := (blk_cell BK268.out 1).trans rfl; have hcz83_2 : w81.cell? ⟨gb268, 2, none⟩ = some (.slice none 0 0) := (blk_cell BK268.out 2).trans rfl; have hcz83_3 : w81.cell? ⟨gb268, 3, none⟩ = some (.slice none 0 0) := (blk_cell BK268.out 3).trans rfl; have hfz83_0 := blk_frozen BK268.out 0; have hfz83_1 := blk_frozen BK268.out 1; have hfz83_2 := blk_frozen BK268.out 2; have hfz83_3 := blk_frozen BK268.out 3; obtain ⟨Ao84, co84, eo84⟩ := Kd.R_slice HO260.out; subst eo84; obtain ⟨Ao85, co85, eo85⟩ := Kd.R_slice HO263.out; subst eo85; obtain ⟨Ao86, co86, eo86⟩ := Kd.R_slice HO266.out; subst eo86) | ((with_reducible refine gate_callee (f := 11) rfl ?_); refine goesL_ (some 106) rfl rfl Try.func11 (by kernel_rfl) rfl #[.agg #[.bool t257, .slice Ao84 t258.length co84, .slice Ao85 t261.length co85, .slice Ao86 t264.length co86]] rfl (by (try simp only [List.map_toArray, List.map_cons, List.map_nil]); first | done | rfl | (simp only [List.length_drop, List.length_take]; rfl)) ?_; (with_reducible refine (node_Encode.calls t257 _ _ t258 _ _ t261 _ _ t264 t269 t270 t273 _ ?side1 ?side2 ?side3 ?side4 ?side5 ?side6 A66.out).mono ?_); (case side1 => refine (Kd.R_reads' (e := 9) (base := w.heap.size) (ok := fun k_ => some k_ ≠ (.slice Ao85 t261.length co85 : Value).ownBlock) (n := t258.length) (c := co84) ?_).2.2; exact (by (with_reducible repeat (first | apply Kd.R_alloc | apply Kd.R_drewN | apply Kd.R_drew)); exact (Kd.R_mono (Kd.R_far (p := ⟨gb268, 3, none⟩) (Kd.R_far (p := ⟨gb268, 2, none⟩) (Kd.R_far (p := ⟨gb268, 1, none⟩) (Kd.R_far (p := ⟨gb268, 0, none⟩) (Kd.R_types HO260.out BK268.out (by decide)) (fun _ hk => hk.2) (.bool t257)) (fun _ hk => hk.2) (.slice Ao84 t258.length co84)) (fun _ hk => hk.2) (.slice Ao85 t261.length co85)) (fun _ hk => hk.2) (.slice Ao86 t264.length co86)) (fun _ h_ => h_.1)))); (case side2 => exact (Kd.R_reads' HO260.out).2.1); (case side3 => refine (Kd.R_reads' (e := 9) (base := w.heap.size) (ok := fun k_ => some k_ ≠ (.slice Ao84 t258.length co84 : Value).ownBlock) (n := t261.length) (c := co85) ?_).2.2; exact (by (with_reducible repeat (first | apply Kd.R_alloc | apply Kd.R_drewN | apply Kd.R_drew)); exact (Kd.R_mono (Kd.R_far (p := ⟨gb268, 3, none⟩) (Kd.R_far (p := ⟨gb268, 2, none⟩) (Kd.R_far (p := ⟨gb268, 1, none⟩) (Kd.R_far (p := ⟨gb268, 0, none⟩) (Kd.R_types HO263.out BK268.out (by decide)) (fun _ hk => hk.2) (.bool t257)) (fun _ hk => hk.2) (.slice Ao84 t258.length co84)) (fun _ hk => hk.2) (.slice Ao85 t261.length co85)) (fun _ hk => hk.2) (.slice Ao86 t264.length co86)) (fun _ h_ => h_.1)))); (case side4 => exact (Kd.R_reads' HO263.out).2.1); (case side5 => refine (Kd.R_reads' (e := 3) (base := w.heap.size) (ok := fun k_ => True) (n := t264.length) (c := co86) ?_).2.2; exact (by (with_reducible repeat (first | apply Kd.R_alloc | apply Kd.R_drewN | apply Kd.R_drew)); exact (Kd.R_mono (Kd.R_far (p := ⟨gb268, 3, none⟩) (Kd.R_far (p := ⟨gb268, 2, none⟩) (Kd.R_far (p := ⟨gb268, 1, none⟩) (Kd.R_far (p := ⟨gb268, 0, none⟩) (Kd.R_types HO266.out BK268.out (by decide)) (fun _ hk => hk.2) (.bool t257)) (fun _ hk => hk.2) (.slice Ao84 t258.length co84)) (fun _ hk => hk.2) (.slice Ao85 t261.length co85)) (fun _ hk => hk.2) (.slice Ao86 t264.length co86)) (fun _ h_ => h_.1)))); (case side6 => exact (Kd.R_reads' HO266.out).2.1); rintro e w87 ⟨v271, rfl, ho0, hb⟩; refine ⟨_, rfl, ?_⟩; have n0_ := Aside0.mk (Kd.R_below (by (with_reducible repeat (first | apply Kd.R_alloc | apply Kd.R_drewN | apply Kd.R_drew)); exact (Kd.R_mono (Kd.R_far (p := ⟨gb268, 3, none⟩) (Kd.R_far (p := ⟨gb268, 2, none⟩) (Kd.R_far (p := ⟨gb268, 1, none⟩) (Kd.R_far (p := ⟨gb268, 0, none⟩) (Kd.R_types HO260.out BK268.out (by decide)) (fun _ hk => hk.2) (.bool t257)) (fun _ hk => hk.2) (.slice Ao84 t258.length co84)) (fun _ hk => hk.2) (.slice Ao85 t261.length co85)) (fun _ hk => hk.2) (.slice Ao86 t264.length co86)) (fun _ h_ => h_.1))) hb); have n1_ := Aside0.mk (Kd.R_below (by (with_reducible repeat (first | apply Kd.R_alloc | apply Kd.R_drewN | apply Kd.R_drew)); exact (Kd.R_mono (Kd.R_far (p := ⟨gb268, 3, none⟩) (Kd.R_far (p := ⟨gb268, 2, none⟩) (Kd.R_far (p := ⟨gb268, 1, none⟩) (Kd.R_far (p := ⟨gb268, 0, none⟩) (Kd.R_types HO263.out BK268.out (by decide)) (fun _ hk => hk.2) (.bool t257)) (fun _ hk => hk.2) (.slice Ao84 t258.length co84)) (fun _ hk => hk.2) (.slice Ao85 t261.length co85)) (fun _ hk => hk.2) (.slice Ao86 t264.length co86)) (fun _ h_ => h_.1))) hb); have n2_ := Aside0.mk (Kd.R_below (by (with_reducible repeat (first | apply Kd.R_alloc | apply Kd.R_drewN | apply Kd.R_drew)); exact (Kd.R_mono (Kd.R_far (p := ⟨gb268, 3, none⟩) (Kd.R_far (p := ⟨gb268, 2, none⟩) (Kd.R_far (p := ⟨gb268, 1, none⟩) (Kd.R_far (p := ⟨gb268, 0, none⟩) (Kd.R_types HO266.out BK268.out (by decide)) (fun _ hk => hk.2) (.bool t257)) (fun _ hk => hk.2) (.slice Ao84 t258.length co84)) (fun _ hk => hk.2) (.slice Ao85 t261.length co85)) (fun _ hk => hk.2) (.slice Ao86 t264.length co86)) (fun _ h_ => h_.1))) hb); have n3_ := Aside0.mk (Kd.R_lower ho0 (below_size (by repeat (first | (with_reducible first | exact HB.out | apply below_alloc | apply pw_below_drewN | apply below_drew1 | refine below_set ?_ GE233.out | refine below_set ?_ GE268.out) | exact HB.out)))); have n4_ := Aside0.mk (blk_below (g := gb233) (o := .cells #[.bool a0_0, .slice A0_1 l0_1.length c0_1, .slice A0_2 l0_2.length c0_2, .slice A0_3 l0_3.length c0_3] 26 (0, 0)) (by (with_reducible repeat (first | refine blk_drewN ?_ _ | refine blk_drew ?_ | refine blk_alloc ?_ _)); refine blk_far ?_ NB233_268.out _; (with_reducible repeat (first | refine blk_drewN ?_ _ | refine blk_drew ?_ | refine blk_alloc ?_ _)); refine blk_far ?_ NB233_268.out _; (with_reducible repeat (first | refine blk_drewN ?_ _ | refine blk_drew ?_ | refine blk_alloc ?_ _)); refine blk_far ?_ NB233_268.out _; (with_reducible repeat (first | refine blk_drewN ?_ _ | refine blk_drew ?_ | refine blk_alloc ?_ _)); refine blk_far ?_ NB233_268.out _; (with_reducible repeat (first | refine blk_drewN ?_ _ | refine blk_drew ?_ | refine blk_alloc ?_ _)); exact BK233.out) hb); have n5_ := Aside0.mk (blk_below (g := gb268) (o := .cells #[.bool t257, .slice Ao84 t258.length co84, .slice Ao85 t261.length co85, .slice Ao86 t264.length co86] 26 (0, 0)) (by (with_reducible repeat (first | refine blk_drewN ?_ _ | refine blk_drew ?_ | refine blk_alloc ?_ _)); refine blk_put (cs := #[.bool t257, .slice Ao84 t258.length co84, .slice Ao85 t261.length co85, .slice none 0 0]) ?_ 3 _ rfl; (with_reducible repeat (first | refine blk_drewN ?_ _ | refine blk_drew ?_ | refine blk_alloc ?_ _)); refine blk_put (cs := #[.bool t257, .slice Ao84 t258.length co84, .slice none 0 0, .slice none 0 0]) ?_ 2 _ rfl; (with_reducible repeat (first | refine blk_drewN ?_ _ | refine blk_drew ?_ | refine blk_alloc ?_ _)); refine blk_put (cs := #[.bool t257, .slice none 0 0, .slice none 0 0, .slice none 0 0]) ?_ 1 _ rfl; (with_reducible repeat (first | refine blk_drewN ?_ _ | refine blk_drew ?_ | refine blk_alloc ?_ _)); refine blk_put (cs := #[.bool false, .slice none 0 0, .slice none 0 0, .slice none 0 0]) ?_ 0 _ rfl; (with_reducible repeat (first | refine blk_drewN ?_ _ | refine blk_drew ?_ | refine blk_alloc ?_ _)); exact BK268.out) hb); have n6_ := Aside0.mk (below_step (by repeat (first | (with_reducible first | exact HB.out | apply below_alloc | apply pw_below_drewN | apply below_drew1 | refine below_set ?_ GE233.out | refine below_set ?_ GE268.out) | exact HB.out)) hb); clear HO260; clear HO263; clear HO266; clear BK233; clear BK268; clear HB; have HO260 := n0_; have HO263 := n1_; have HO266 := n2_; have HO272 := n3_; have BK233 := n4_; have BK268 := n5_; have HB := n6_; clear n0_ n1_ n2_ n3_ n4_ n5_ n6_; (try clear hb); (try clear hb2); (try clear hk); (try clear hi); (try clear ho0); have hcv88 := own_string (P := Try.prog) Try.underlying28 Try.underlying5 Try.underlying9 (Kd.own_of_R HO272.out); have hcv89 := Kd.C_string (P := Try.prog) (A := A2) (c := c2) Try.underlying28 Try.underlying5 Try.underlying9 (Kd.C_below HR2.out HB.out)))
                    go_ret
                    exact ⟨by first | rfl | (simp [errW_none, errW_some] <;> rfl) | (simp [*, errW_none, errW_some] <;> rfl), by repeat (first | (with_reducible first | exact HB.out | apply below_alloc | apply pw_below_drewN | apply below_drew1 | refine below_set ?_ GE233.out | refine below_set ?_ GE268.out) | exact HB.out)⟩
                · rw [if_neg c68] at H
                  have c68b0 : (t269 == a1) = false := beq_eq_false_iff_ne.mpr c68
                  have c68b1 : (t269 != a1) = true := bne_iff_ne.mpr c68
                  obtain rfl := Option.some.inj H
                  go_wp2_with (first | ((with_reducible refine gate_callee (f := 17) rfl ?_); refine goesL_ (some 86) rfl rfl Try.func17 (by kernel_rfl) rfl #[.int .i64 a1, .slice A2 l2.length c2] rfl (by (try simp only [List.map_toArray, List.map_cons, List.map_nil]); first | done | rfl | (simp only [List.length_drop, List.length_take]; rfl)) ?_; (with_reducible refine (node_Decode.calls a1 _ _ l2 t257 t258 t261 t264 t267 _ ?side1 ?side2 A64.out).mono ?_); (case side1 => repeat (first | exact (Kd.C_below HR2.out HB.out) | (with_reducible refine Kd.C_alloc ?_ _) | (with_reducible refine Kd.C_drewN ?_ _) | (with_reducible refine Kd.C_drew ?_))); (case side2 => exact HC2.out); rintro e w90 ⟨v259, v262, v265, rfl, ho0, ho1, ho2, hb⟩; refine ⟨_, rfl, ?_⟩; have n0_ := Aside0.mk (Kd.R_lower ho0 (below_size (by repeat (first | (with_reducible first | exact HB.out | apply below_alloc | apply pw_below_drewN | apply below_drew1 | refine below_set ?_ GE233.out) | exact HB.out)))); have n1_ := Aside0.mk (Kd.R_lower ho1 (below_size (by repeat (first | (with_reducible first | exact HB.out | apply below_alloc | apply pw_below_drewN | apply below_drew1 | refine below_set ?_ GE233.out) | exact HB.out)))); have n2_ := Aside0.mk (Kd.R_lower ho2 (below_size (by repeat (first | (with_reducible first | exact HB.out | apply below_alloc | apply pw_below_drewN | apply below_drew1 | refine below_set ?_ GE233.out) | exact HB.out)))); have n3_ := Aside0.mk (blk_below (g := gb233) (o := .cells #[.bool a0_0, .slice A0_1 l0_1.length c0_1, .slice A0_2 l0_2.length c0_2, .slice A0_3 l0_3.length c0_3] 26 (0, 0)) (by (with_reducible repeat (first | refine blk_drewN ?_ _ | refine blk_drew ?_ | refine blk_alloc ?_ _)); exact BK233.out) hb); have n4_ := Aside0.mk (below_step (by repeat (first | (with_reducible first | exact HB.out | apply below_alloc | apply pw_below_drewN | apply below_drew1 | refine below_set ?_ GE233.out) | exact HB.out)) hb); clear BK233; clear HB; have HO260 := n0_; have HO263 := n1_; have HO266 := n2_; have BK233 := n3_; have HB := n4_; clear n0_ n1_ n2_ n3_ n4_; (try clear hb); (try clear hb2); (try clear hk); (try clear hi); (try clear ho0); (try clear ho1); (try clear ho2)) | ((with_reducible refine gate_dst (N := 14) rfl ?_); (try (refine gate_guard (by rfl) ?_; dsimp only)); refine box_event ?hg (N := 14) ?hd (cs := #[.bool false, .slice none 0 0, .slice none 0 0, .slice none 0 0]) (t := 26) ?hr ?_; (case hd => rfl); (case hg => rfl); (case hr => first | (go_simp; done) | (go_simp; rfl)); intro gb268 hg w91 hbox hb; have n0_ := Aside0.mk (Kd.R_below (by (with_reducible repeat (first | apply Kd.R_alloc | apply Kd.R_drewN | apply Kd.R_drew)); exact HO260.out) hb); have n1_ := Aside0.mk (Kd.R_below (by (with_reducible repeat (first | apply Kd.R_alloc | apply Kd.R_drewN | apply Kd.R_drew)); exact HO263.out) hb); have n2_ := Aside0.mk (Kd.R_below (by (with_reducible repeat (first | apply Kd.R_alloc | apply Kd.R_drewN | apply Kd.R_drew)); exact HO266.out) hb); have n3_ := Aside0.mk (blk_below (g := gb233) (o := .cells #[.bool a0_0, .slice A0_1 l0_1.length c0_1, .slice A0_2 l0_2.length c0_2, .slice A0_3 l0_3.length c0_3] 26 (0, 0)) (by (with_reducible repeat (first | refine blk_drewN ?_ _ | refine blk_drew ?_ | refine blk_alloc ?_ _)); exact BK233.out) hb); have n4_ := Aside0.mk (below_step (by repeat (first | (with_reducible first | exact HB.out | apply below_alloc | apply pw_below_drewN | apply below_drew1 | refine below_set ?_ GE233.out) | exact HB.out)) hb); have n5_ := Aside0.mk (hbox); have n6_ := Aside0.mk ((by rw [hg]; exact (below_size (by repeat (first | (with_reducible first | exact HB.out | apply below_alloc | apply pw_below_drewN | apply below_drew1 | refine below_set ?_ GE233.out) | exact HB.out))) : w.heap.size ≤ gb268)); have n7_ := Aside0.mk ((by rw [hg]; exact (below_size (by repeat (first | (with_reducible first | exact HB.out | apply below_alloc | apply pw_below_drewN | apply below_drew1 | refine below_set ?_ GE233.out) | exact HB.out))) : w.heap.size ≤ gb268)); have n8_ := Aside0.mk ((by rw [hg]; exact Nat.ne_of_lt (blk_lt (g := gb233) (o := .cells #[.bool a0_0, .slice A0_1 l0_1.length c0_1, .slice A0_2 l0_2.length c0_2, .slice A0_3 l0_3.length c0_3] 26 (0, 0)) (by (with_reducible repeat (first | refine blk_drewN ?_ _ | refine blk_drew ?_ | refine blk_alloc ?_ _)); exact BK233.out)) : gb233 ≠ gb268)); have n9_ := Aside0.mk ((by rw [hg]; exact Nat.ne_of_gt (blk_lt (g := gb233) (o := .cells #[.bool a0_0, .slice A0_1 l0_1.length c0_1, .slice A0_2 l0_2.length c0_2, .slice A0_3 l0_3.length c0_3] 26 (0, 0)) (by (with_reducible repeat (first | refine blk_drewN ?_ _ | refine blk_drew ?_ | refine blk_alloc ?_ _)); exact BK233.out)) : gb268 ≠ gb233)); clear HO260; clear HO263; clear HO266; clear BK233; clear HB; have HO260 := n0_; have HO263 := n1_; have HO266 := n2_; have BK233 := n3_; have HB := n4_; have BK268 := n5_; have GW268 := n6_; have GE268 := n7_; have NB233_268 := n8_; have NB268_233 := n9_; clear n0_ n1_ n2_ n3_ n4_ n5_ n6_ n7_ n8_ n9_; clear hb hbox hg; have hnb92 := NB268_233.out; have hnc92 := NB233_268.out; have hcz93_0 : w91.cell? ⟨gb268, 0, none⟩ = some (.bool false) := (blk_cell BK268.out 0).trans rfl; have hcz93_1 : w91.cell? ⟨gb268, 1, none⟩ = some (.slice none 0 0) := (blk_cell BK268.out 1).trans rfl; have hcz93_2 : w91.cell? ⟨gb268, 2, none⟩ = some (.slice none 0 0) := (blk_cell BK268.out 2).trans rfl; have hcz93_3 : w91.cell? ⟨gb268, 3, none⟩ = some (.slice none 0 0) := (blk_cell BK268.out 3).trans rfl; have hfz93_0 := blk_frozen BK268.out 0; have hfz93_1 := blk_frozen BK268.out 1; have hfz93_2 := blk_frozen BK268.out 2; have hfz93_3 := blk_frozen BK268.out 3; obtain ⟨Ao94, co94, eo94⟩ := Kd.R_slice HO260.out; subst eo94; obtain ⟨Ao95, co95, eo95⟩ := Kd.R_slice HO263.out; subst eo95; obtain ⟨Ao96, co96, eo96⟩ := Kd.R_slice HO266.out; subst eo96) | ((with_reducible refine gate_callee (f := 11) rfl ?_); refine goesL_ (some 106) rfl rfl Try.func11 (by kernel_rfl) rfl #[.agg #[.bool t257, .slice Ao94 t258.length co94, .slice Ao95 t261.length co95, .slice Ao96 t264.length co96]] rfl (by (try simp only [List.map_toArray, List.map_cons, List.map_nil]); first | done | rfl | (simp only [List.length_drop, List.length_take]; rfl)) ?_; (with_reducible refine (node_Encode.calls t257 _ _ t258 _ _ t261 _ _ t264 t269 t270 t273 _ ?side1 ?side2 ?side3 ?side4 ?side5 ?side6 A66.out).mono ?_); (case side1 => refine (Kd.R_reads' (e := 9) (base := w.heap.size) (ok := fun k_ => some k_ ≠ (.slice Ao95 t261.length co95 : Value).ownBlock) (n := t258.length) (c := co94) ?_).2.2; exact (by (with_reducible repeat (first | apply Kd.R_alloc | apply Kd.R_drewN | apply Kd.R_drew)); exact (Kd.R_mono (Kd.R_far (p := ⟨gb268, 3, none⟩) (Kd.R_far (p := ⟨gb268, 2, none⟩) (Kd.R_far (p := ⟨gb268, 1, none⟩) (Kd.R_far (p := ⟨gb268, 0, none⟩) (Kd.R_types HO260.out BK268.out (by decide)) (fun _ hk => hk.2) (.bool t257)) (fun _ hk => hk.2) (.slice Ao94 t258.length co94)) (fun _ hk => hk.2) (.slice Ao95 t261.length co95)) (fun _ hk => hk.2) (.slice Ao96 t264.length co96)) (fun _ h_ => h_.1)))); (case side2 => exact (Kd.R_reads' HO260.out).2.1); (case side3 => refine (Kd.R_reads' (e := 9) (base := w.heap.size) (ok := fun k_ => some k_ ≠ (.slice Ao94 t258.length co94 : Value).ownBlock) (n := t261.length) (c := co95) ?_).2.2; exact (by (with_reducible repeat (first | apply Kd.R_alloc | apply Kd.R_drewN | apply Kd.R_drew)); exact (Kd.R_mono (Kd.R_far (p := ⟨gb268, 3, none⟩) (Kd.R_far (p := ⟨gb268, 2, none⟩) (Kd.R_far (p := ⟨gb268, 1, none⟩) (Kd.R_far (p := ⟨gb268, 0, none⟩) (Kd.R_types HO263.out BK268.out (by decide)) (fun _ hk => hk.2) (.bool t257)) (fun _ hk => hk.2) (.slice Ao94 t258.length co94)) (fun _ hk => hk.2) (.slice Ao95 t261.length co95)) (fun _ hk => hk.2) (.slice Ao96 t264.length co96)) (fun _ h_ => h_.1)))); (case side4 => exact (Kd.R_reads' HO263.out).2.1); (case side5 => refine (Kd.R_reads' (e := 3) (base := w.heap.size) (ok := fun k_ => True) (n := t264.length) (c := co96) ?_).2.2; exact (by (with_reducible repeat (first | apply Kd.R_alloc | apply Kd.R_drewN | apply Kd.R_drew)); exact (Kd.R_mono (Kd.R_far (p := ⟨gb268, 3, none⟩) (Kd.R_far (p := ⟨gb268, 2, none⟩) (Kd.R_far (p := ⟨gb268, 1, none⟩) (Kd.R_far (p := ⟨gb268, 0, none⟩) (Kd.R_types HO266.out BK268.out (by decide)) (fun _ hk => hk.2) (.bool t257)) (fun _ hk => hk.2) (.slice Ao94 t258.length co94)) (fun _ hk => hk.2) (.slice Ao95 t261.length co95)) (fun _ hk => hk.2) (.slice Ao96 t264.length co96)) (fun _ h_ => h_.1)))); (case side6 => exact (Kd.R_reads' HO266.out).2.1); rintro e w97 ⟨v271, rfl, ho0, hb⟩; refine ⟨_, rfl, ?_⟩; have n0_ := Aside0.mk (Kd.R_below (by (with_reducible repeat (first | apply Kd.R_alloc | apply Kd.R_drewN | apply Kd.R_drew)); exact (Kd.R_mono (Kd.R_far (p := ⟨gb268, 3, none⟩) (Kd.R_far (p := ⟨gb268, 2, none⟩) (Kd.R_far (p := ⟨gb268, 1, none⟩) (Kd.R_far (p := ⟨gb268, 0, none⟩) (Kd.R_types HO260.out BK268.out (by decide)) (fun _ hk => hk.2) (.bool t257)) (fun _ hk => hk.2) (.slice Ao94 t258.length co94)) (fun _ hk => hk.2) (.slice Ao95 t261.length co95)) (fun _ hk => hk.2) (.slice Ao96 t264.length co96)) (fun _ h_ => h_.1))) hb); have n1_ := Aside0.mk (Kd.R_below (by (with_reducible repeat (first | apply Kd.R_alloc | apply Kd.R_drewN | apply Kd.R_drew)); exact (Kd.R_mono (Kd.R_far (p := ⟨gb268, 3, none⟩) (Kd.R_far (p := ⟨gb268, 2, none⟩) (Kd.R_far (p := ⟨gb268, 1, none⟩) (Kd.R_far (p := ⟨gb268, 0, none⟩) (Kd.R_types HO263.out BK268.out (by decide)) (fun _ hk => hk.2) (.bool t257)) (fun _ hk => hk.2) (.slice Ao94 t258.length co94)) (fun _ hk => hk.2) (.slice Ao95 t261.length co95)) (fun _ hk => hk.2) (.slice Ao96 t264.length co96)) (fun _ h_ => h_.1))) hb); have n2_ := Aside0.mk (Kd.R_below (by (with_reducible repeat (first | apply Kd.R_alloc | apply Kd.R_drewN | apply Kd.R_drew)); exact (Kd.R_mono (Kd.R_far (p := ⟨gb268, 3, none⟩) (Kd.R_far (p := ⟨gb268, 2, none⟩) (Kd.R_far (p := ⟨gb268, 1, none⟩) (Kd.R_far (p := ⟨gb268, 0, none⟩) (Kd.R_types HO266.out BK268.out (by decide)) (fun _ hk => hk.2) (.bool t257)) (fun _ hk => hk.2) (.slice Ao94 t258.length co94)) (fun _ hk => hk.2) (.slice Ao95 t261.length co95)) (fun _ hk => hk.2) (.slice Ao96 t264.length co96)) (fun _ h_ => h_.1))) hb); have n3_ := Aside0.mk (Kd.R_lower ho0 (below_size (by repeat (first | (with_reducible first | exact HB.out | apply below_alloc | apply pw_below_drewN | apply below_drew1 | refine below_set ?_ GE233.out | refine below_set ?_ GE268.out) | exact HB.out)))); have n4_ := Aside0.mk (blk_below (g := gb233) (o := .cells #[.bool a0_0, .slice A0_1 l0_1.length c0_1, .slice A0_2 l0_2.length c0_2, .slice A0_3 l0_3.length c0_3] 26 (0, 0)) (by (with_reducible repeat (first | refine blk_drewN ?_ _ | refine blk_drew ?_ | refine blk_alloc ?_ _)); refine blk_far ?_ NB233_268.out _; (with_reducible repeat (first | refine blk_drewN ?_ _ | refine blk_drew ?_ | refine blk_alloc ?_ _)); refine blk_far ?_ NB233_268.out _; (with_reducible repeat (first | refine blk_drewN ?_ _ | refine blk_drew ?_ | refine blk_alloc ?_ _)); refine blk_far ?_ NB233_268.out _; (with_reducible repeat (first | refine blk_drewN ?_ _ | refine blk_drew ?_ | refine blk_alloc ?_ _)); refine blk_far ?_ NB233_268.out _; (with_reducible repeat (first | refine blk_drewN ?_ _ | refine blk_drew ?_ | refine blk_alloc ?_ _)); exact BK233.out) hb); have n5_ := Aside0.mk (blk_below (g := gb268) (o := .cells #[.bool t257, .slice Ao94 t258.length co94, .slice Ao95 t261.length co95, .slice Ao96 t264.length co96] 26 (0, 0)) (by (with_reducible repeat (first | refine blk_drewN ?_ _ | refine blk_drew ?_ | refine blk_alloc ?_ _)); refine blk_put (cs := #[.bool t257, .slice Ao94 t258.length co94, .slice Ao95 t261.length co95, .slice none 0 0]) ?_ 3 _ rfl; (with_reducible repeat (first | refine blk_drewN ?_ _ | refine blk_drew ?_ | refine blk_alloc ?_ _)); refine blk_put (cs := #[.bool t257, .slice Ao94 t258.length co94, .slice none 0 0, .slice none 0 0]) ?_ 2 _ rfl; (with_reducible repeat (first | refine blk_drewN ?_ _ | refine blk_drew ?_ | refine blk_alloc ?_ _)); refine blk_put (cs := #[.bool t257, .slice none 0 0, .slice none 0 0, .slice none 0 0]) ?_ 1 _ rfl; (with_reducible repeat (first | refine blk_drewN ?_ _ | refine blk_drew ?_ | refine blk_alloc ?_ _)); refine blk_put (cs := #[.bool false, .slice none 0 0, .slice none 0 0, .slice none 0 0]) ?_ 0 _ rfl; (with_reducible repeat (first | refine blk_drewN ?_ _ | refine blk_drew ?_ | refine blk_alloc ?_ _)); exact BK268.out) hb); have n6_ := Aside0.mk (below_step (by repeat (first | (with_reducible first | exact HB.out | apply below_alloc | apply pw_below_drewN | apply below_drew1 | refine below_set ?_ GE233.out | refine below_set ?_ GE268.out) | exact HB.out)) hb); clear HO260; clear HO263; clear HO266; clear BK233; clear BK268; clear HB; have HO260 := n0_; have HO263 := n1_; have HO266 := n2_; have HO272 := n3_; have BK233 := n4_; have BK268 := n5_; have HB := n6_; clear n0_ n1_ n2_ n3_ n4_ n5_ n6_; (try clear hb); (try clear hb2); (try clear hk); (try clear hi); (try clear ho0)))
                  go_ret
                  exact ⟨by first | rfl | (simp [errW_none, errW_some] <;> rfl) | (simp [*, errW_none, errW_some] <;> rfl), by repeat (first | (with_reducible first | exact HB.out | apply below_alloc | apply pw_below_drewN | apply below_drew1 | refine below_set ?_ GE233.out | refine below_set ?_ GE268.out) | exact HB.out)⟩
              · replace c67 := Bool.eq_false_iff.mpr c67
                subst c67
                have H1 : (some false) = some r := by rw [if_neg (show ¬ (false = true) by decide)] at H; exact H
                clear H
                have H := H1
                clear H1
                obtain rfl := Option.some.inj H
                go_wp2_with (first | ((with_reducible refine gate_callee (f := 17) rfl ?_); refine goesL_ (some 86) rfl rfl Try.func17 (by kernel_rfl) rfl #[.int .i64 a1, .slice A2 l2.length c2] rfl (by (try simp only [List.map_toArray, List.map_cons, List.map_nil]); first | done | rfl | (simp only [List.length_drop, List.length_take]; rfl)) ?_; (with_reducible refine (node_Decode.calls a1 _ _ l2 t257 t258 t261 t264 t267 _ ?side1 ?side2 A64.out).mono ?_); (case side1 => repeat (first | exact (Kd.C_below HR2.out HB.out) | (with_reducible refine Kd.C_alloc ?_ _) | (with_reducible refine Kd.C_drewN ?_ _) | (with_reducible refine Kd.C_drew ?_))); (case side2 => exact HC2.out); rintro e w98 ⟨v259, v262, v265, rfl, ho0, ho1, ho2, hb⟩; refine ⟨_, rfl, ?_⟩; have n0_ := Aside0.mk (Kd.R_lower ho0 (below_size (by repeat (first | (with_reducible first | exact HB.out | apply below_alloc | apply pw_below_drewN | apply below_drew1 | refine below_set ?_ GE233.out) | exact HB.out)))); have n1_ := Aside0.mk (Kd.R_lower ho1 (below_size (by repeat (first | (with_reducible first | exact HB.out | apply below_alloc | apply pw_below_drewN | apply below_drew1 | refine below_set ?_ GE233.out) | exact HB.out)))); have n2_ := Aside0.mk (Kd.R_lower ho2 (below_size (by repeat (first | (with_reducible first | exact HB.out | apply below_alloc | apply pw_below_drewN | apply below_drew1 | refine below_set ?_ GE233.out) | exact HB.out)))); have n3_ := Aside0.mk (blk_below (g := gb233) (o := .cells #[.bool a0_0, .slice A0_1 l0_1.length c0_1, .slice A0_2 l0_2.length c0_2, .slice A0_3 l0_3.length c0_3] 26 (0, 0)) (by (with_reducible repeat (first | refine blk_drewN ?_ _ | refine blk_drew ?_ | refine blk_alloc ?_ _)); exact BK233.out) hb); have n4_ := Aside0.mk (below_step (by repeat (first | (with_reducible first | exact HB.out | apply below_alloc | apply pw_below_drewN | apply below_drew1 | refine below_set ?_ GE233.out) | exact HB.out)) hb); clear BK233; clear HB; have HO260 := n0_; have HO263 := n1_; have HO266 := n2_; have BK233 := n3_; have HB := n4_; clear n0_ n1_ n2_ n3_ n4_; (try clear hb); (try clear hb2); (try clear hk); (try clear hi); (try clear ho0); (try clear ho1); (try clear ho2)) | ((with_reducible refine gate_dst (N := 14) rfl ?_); (try (refine gate_guard (by rfl) ?_; dsimp only)); refine box_event ?hg (N := 14) ?hd (cs := #[.bool false, .slice none 0 0, .slice none 0 0, .slice none 0 0]) (t := 26) ?hr ?_; (case hd => rfl); (case hg => rfl); (case hr => first | (go_simp; done) | (go_simp; rfl)); intro gb268 hg w99 hbox hb; have n0_ := Aside0.mk (Kd.R_below (by (with_reducible repeat (first | apply Kd.R_alloc | apply Kd.R_drewN | apply Kd.R_drew)); exact HO260.out) hb); have n1_ := Aside0.mk (Kd.R_below (by (with_reducible repeat (first | apply Kd.R_alloc | apply Kd.R_drewN | apply Kd.R_drew)); exact HO263.out) hb); have n2_ := Aside0.mk (Kd.R_below (by (with_reducible repeat (first | apply Kd.R_alloc | apply Kd.R_drewN | apply Kd.R_drew)); exact HO266.out) hb); have n3_ := Aside0.mk (blk_below (g := gb233) (o := .cells #[.bool a0_0, .slice A0_1 l0_1.length c0_1, .slice A0_2 l0_2.length c0_2, .slice A0_3 l0_3.length c0_3] 26 (0, 0)) (by (with_reducible repeat (first | refine blk_drewN ?_ _ | refine blk_drew ?_ | refine blk_alloc ?_ _)); exact BK233.out) hb); have n4_ := Aside0.mk (below_step (by repeat (first | (with_reducible first | exact HB.out | apply below_alloc | apply pw_below_drewN | apply below_drew1 | refine below_set ?_ GE233.out) | exact HB.out)) hb); have n5_ := Aside0.mk (hbox); have n6_ := Aside0.mk ((by rw [hg]; exact (below_size (by repeat (first | (with_reducible first | exact HB.out | apply below_alloc | apply pw_below_drewN | apply below_drew1 | refine below_set ?_ GE233.out) | exact HB.out))) : w.heap.size ≤ gb268)); have n7_ := Aside0.mk ((by rw [hg]; exact (below_size (by repeat (first | (with_reducible first | exact HB.out | apply below_alloc | apply pw_below_drewN | apply below_drew1 | refine below_set ?_ GE233.out) | exact HB.out))) : w.heap.size ≤ gb268)); have n8_ := Aside0.mk ((by rw [hg]; exact Nat.ne_of_lt (blk_lt (g := gb233) (o := .cells #[.bool a0_0, .slice A0_1 l0_1.length c0_1, .slice A0_2 l0_2.length c0_2, .slice A0_3 l0_3.length c0_3] 26 (0, 0)) (by (with_reducible repeat (first | refine blk_drewN ?_ _ | refine blk_drew ?_ | refine blk_alloc ?_ _)); exact BK233.out)) : gb233 ≠ gb268)); have n9_ := Aside0.mk ((by rw [hg]; exact Nat.ne_of_gt (blk_lt (g := gb233) (o := .cells #[.bool a0_0, .slice A0_1 l0_1.length c0_1, .slice A0_2 l0_2.length c0_2, .slice A0_3 l0_3.length c0_3] 26 (0, 0)) (by (with_reducible repeat (first | refine blk_drewN ?_ _ | refine blk_drew ?_ | refine blk_alloc ?_ _)); exact BK233.out)) : gb268 ≠ gb233)); clear HO260; clear HO263; clear HO266; clear BK233; clear HB; have HO260 := n0_; have HO263 := n1_; have HO266 := n2_; have BK233 := n3_; have HB := n4_; have BK268 := n5_; have GW268 := n6_; have GE268 := n7_; have NB233_268 := n8_; have NB268_233 := n9_; clear n0_ n1_ n2_ n3_ n4_ n5_ n6_ n7_ n8_ n9_; clear hb hbox hg; have hnb100 := NB268_233.out; have hnc100 := NB233_268.out; have hcz101_0 : w99.cell? ⟨gb268, 0, none⟩ = some (.bool false) := (blk_cell BK268.out 0).trans rfl; have hcz101_1 : w99.cell? ⟨gb268, 1, none⟩ = some (.slice none 0 0) := (blk_cell BK268.out 1).trans rfl; have hcz101_2 : w99.cell? ⟨gb268, 2, none⟩ = some (.slice none 0 0) := (blk_cell BK268.out 2).trans rfl; have hcz101_3 : w99.cell? ⟨gb268, 3, none⟩ = some (.slice none 0 0) := (blk_cell BK268.out 3).trans rfl; have hfz101_0 := blk_frozen BK268.out 0; have hfz101_1 := blk_frozen BK268.out 1; have hfz101_2 := blk_frozen BK268.out 2; have hfz101_3 := blk_frozen BK268.out 3; obtain ⟨Ao102, co102, eo102⟩ := Kd.R_slice HO260.out; subst eo102; obtain ⟨Ao103, co103, eo103⟩ := Kd.R_slice HO263.out; subst eo103; obtain ⟨Ao104, co104, eo104⟩ := Kd.R_slice HO266.out; subst eo104) | ((with_reducible refine gate_callee (f := 11) rfl ?_); refine goesL_ (some 106) rfl rfl Try.func11 (by kernel_rfl) rfl #[.agg #[.bool t257, .slice Ao102 t258.length co102, .slice Ao103 t261.length co103, .slice Ao104 t264.length co104]] rfl (by (try simp only [List.map_toArray, List.map_cons, List.map_nil]); first | done | rfl | (simp only [List.length_drop, List.length_take]; rfl)) ?_; (with_reducible refine (node_Encode.calls t257 _ _ t258 _ _ t261 _ _ t264 t269 t270 t273 _ ?side1 ?side2 ?side3 ?side4 ?side5 ?side6 A66.out).mono ?_); (case side1 => refine (Kd.R_reads' (e := 9) (base := w.heap.size) (ok := fun k_ => some k_ ≠ (.slice Ao103 t261.length co103 : Value).ownBlock) (n := t258.length) (c := co102) ?_).2.2; exact (by (with_reducible repeat (first | apply Kd.R_alloc | apply Kd.R_drewN | apply Kd.R_drew)); exact (Kd.R_mono (Kd.R_far (p := ⟨gb268, 3, none⟩) (Kd.R_far (p := ⟨gb268, 2, none⟩) (Kd.R_far (p := ⟨gb268, 1, none⟩) (Kd.R_far (p := ⟨gb268, 0, none⟩) (Kd.R_types HO260.out BK268.out (by decide)) (fun _ hk => hk.2) (.bool t257)) (fun _ hk => hk.2) (.slice Ao102 t258.length co102)) (fun _ hk => hk.2) (.slice Ao103 t261.length co103)) (fun _ hk => hk.2) (.slice Ao104 t264.length co104)) (fun _ h_ => h_.1)))); (case side2 => exact (Kd.R_reads' HO260.out).2.1); (case side3 => refine (Kd.R_reads' (e := 9) (base := w.heap.size) (ok := fun k_ => some k_ ≠ (.slice Ao102 t258.length co102 : Value).ownBlock) (n := t261.length) (c := co103) ?_).2.2; exact (by (with_reducible repeat (first | apply Kd.R_alloc | apply Kd.R_drewN | apply Kd.R_drew)); exact (Kd.R_mono (Kd.R_far (p := ⟨gb268, 3, none⟩) (Kd.R_far (p := ⟨gb268, 2, none⟩) (Kd.R_far (p := ⟨gb268, 1, none⟩) (Kd.R_far (p := ⟨gb268, 0, none⟩) (Kd.R_types HO263.out BK268.out (by decide)) (fun _ hk => hk.2) (.bool t257)) (fun _ hk => hk.2) (.slice Ao102 t258.length co102)) (fun _ hk => hk.2) (.slice Ao103 t261.length co103)) (fun _ hk => hk.2) (.slice Ao104 t264.length co104)) (fun _ h_ => h_.1)))); (case side4 => exact (Kd.R_reads' HO263.out).2.1); (case side5 => refine (Kd.R_reads' (e := 3) (base := w.heap.size) (ok := fun k_ => True) (n := t264.length) (c := co104) ?_).2.2; exact (by (with_reducible repeat (first | apply Kd.R_alloc | apply Kd.R_drewN | apply Kd.R_drew)); exact (Kd.R_mono (Kd.R_far (p := ⟨gb268, 3, none⟩) (Kd.R_far (p := ⟨gb268, 2, none⟩) (Kd.R_far (p := ⟨gb268, 1, none⟩) (Kd.R_far (p := ⟨gb268, 0, none⟩) (Kd.R_types HO266.out BK268.out (by decide)) (fun _ hk => hk.2) (.bool t257)) (fun _ hk => hk.2) (.slice Ao102 t258.length co102)) (fun _ hk => hk.2) (.slice Ao103 t261.length co103)) (fun _ hk => hk.2) (.slice Ao104 t264.length co104)) (fun _ h_ => h_.1)))); (case side6 => exact (Kd.R_reads' HO266.out).2.1); rintro e w105 ⟨v271, rfl, ho0, hb⟩; refine ⟨_, rfl, ?_⟩; have n0_ := Aside0.mk (Kd.R_below (by (with_reducible repeat (first | apply Kd.R_alloc | apply Kd.R_drewN | apply Kd.R_drew)); exact (Kd.R_mono (Kd.R_far (p := ⟨gb268, 3, none⟩) (Kd.R_far (p := ⟨gb268, 2, none⟩) (Kd.R_far (p := ⟨gb268, 1, none⟩) (Kd.R_far (p := ⟨gb268, 0, none⟩) (Kd.R_types HO260.out BK268.out (by decide)) (fun _ hk => hk.2) (.bool t257)) (fun _ hk => hk.2) (.slice Ao102 t258.length co102)) (fun _ hk => hk.2) (.slice Ao103 t261.length co103)) (fun _ hk => hk.2) (.slice Ao104 t264.length co104)) (fun _ h_ => h_.1))) hb); have n1_ := Aside0.mk (Kd.R_below (by (with_reducible repeat (first | apply Kd.R_alloc | apply Kd.R_drewN | apply Kd.R_drew)); exact (Kd.R_mono (Kd.R_far (p := ⟨gb268, 3, none⟩) (Kd.R_far (p := ⟨gb268, 2, none⟩) (Kd.R_far (p := ⟨gb268, 1, none⟩) (Kd.R_far (p := ⟨gb268, 0, none⟩) (Kd.R_types HO263.out BK268.out (by decide)) (fun _ hk => hk.2) (.bool t257)) (fun _ hk => hk.2) (.slice Ao102 t258.length co102)) (fun _ hk => hk.2) (.slice Ao103 t261.length co103)) (fun _ hk => hk.2) (.slice Ao104 t264.length co104)) (fun _ h_ => h_.1))) hb); have n2_ := Aside0.mk (Kd.R_below (by (with_reducible repeat (first | apply Kd.R_alloc | apply Kd.R_drewN | apply Kd.R_drew)); exact (Kd.R_mono (Kd.R_far (p := ⟨gb268, 3, none⟩) (Kd.R_far (p := ⟨gb268, 2, none⟩) (Kd.R_far (p := ⟨gb268, 1, none⟩) (Kd.R_far (p := ⟨gb268, 0, none⟩) (Kd.R_types HO266.out BK268.out (by decide)) (fun _ hk => hk.2) (.bool t257)) (fun _ hk => hk.2) (.slice Ao102 t258.length co102)) (fun _ hk => hk.2) (.slice Ao103 t261.length co103)) (fun _ hk => hk.2) (.slice Ao104 t264.length co104)) (fun _ h_ => h_.1))) hb); have n3_ := Aside0.mk (Kd.R_lower ho0 (below_size (by repeat (first | (with_reducible first | exact HB.out | apply below_alloc | apply pw_below_drewN | apply below_drew1 | refine below_set ?_ GE233.out | refine below_set ?_ GE268.out) | exact HB.out)))); have n4_ := Aside0.mk (blk_below (g := gb233) (o := .cells #[.bool a0_0, .slice A0_1 l0_1.length c0_1, .slice A0_2 l0_2.length c0_2, .slice A0_3 l0_3.length c0_3] 26 (0, 0)) (by (with_reducible repeat (first | refine blk_drewN ?_ _ | refine blk_drew ?_ | refine blk_alloc ?_ _)); refine blk_far ?_ NB233_268.out _; (with_reducible repeat (first | refine blk_drewN ?_ _ | refine blk_drew ?_ | refine blk_alloc ?_ _)); refine blk_far ?_ NB233_268.out _; (with_reducible repeat (first | refine blk_drewN ?_ _ | refine blk_drew ?_ | refine blk_alloc ?_ _)); refine blk_far ?_ NB233_268.out _; (with_reducible repeat (first | refine blk_drewN ?_ _ | refine blk_drew ?_ | refine blk_alloc ?_ _)); refine blk_far ?_ NB233_268.out _; (with_reducible repeat (first | refine blk_drewN ?_ _ | refine blk_drew ?_ | refine blk_alloc ?_ _)); exact BK233.out) hb); have n5_ := Aside0.mk (blk_below (g := gb268) (o := .cells #[.bool t257, .slice Ao102 t258.length co102, .slice Ao103 t261.length co103, .slice Ao104 t264.length co104] 26 (0, 0)) (by (with_reducible repeat (first | refine blk_drewN ?_ _ | refine blk_drew ?_ | refine blk_alloc ?_ _)); refine blk_put (cs := #[.bool t257, .slice Ao102 t258.length co102, .slice Ao103 t261.length co103, .slice none 0 0]) ?_ 3 _ rfl; (with_reducible repeat (first | refine blk_drewN ?_ _ | refine blk_drew ?_ | refine blk_alloc ?_ _)); refine blk_put (cs := #[.bool t257, .slice Ao102 t258.length co102, .slice none 0 0, .slice none 0 0]) ?_ 2 _ rfl; (with_reducible repeat (first | refine blk_drewN ?_ _ | refine blk_drew ?_ | refine blk_alloc ?_ _)); refine blk_put (cs := #[.bool t257, .slice none 0 0, .slice none 0 0, .slice none 0 0]) ?_ 1 _ rfl; (with_reducible repeat (first | refine blk_drewN ?_ _ | refine blk_drew ?_ | refine blk_alloc ?_ _)); refine blk_put (cs := #[.bool false, .slice none 0 0, .slice none 0 0, .slice none 0 0]) ?_ 0 _ rfl; (with_reducible repeat (first | refine blk_drewN ?_ _ | refine blk_drew ?_ | refine blk_alloc ?_ _)); exact BK268.out) hb); have n6_ := Aside0.mk (below_step (by repeat (first | (with_reducible first | exact HB.out | apply below_alloc | apply pw_below_drewN | apply below_drew1 | refine below_set ?_ GE233.out | refine below_set ?_ GE268.out) | exact HB.out)) hb); clear HO260; clear HO263; clear HO266; clear BK233; clear BK268; clear HB; have HO260 := n0_; have HO263 := n1_; have HO266 := n2_; have HO272 := n3_; have BK233 := n4_; have BK268 := n5_; have HB := n6_; clear n0_ n1_ n2_ n3_ n4_ n5_ n6_; (try clear hb); (try clear hb2); (try clear hk); (try clear hi); (try clear ho0)))
                go_ret
                exact ⟨by first | rfl | (simp [errW_none, errW_some] <;> rfl) | (simp [*, errW_none, errW_some] <;> rfl), by repeat (first | (with_reducible first | exact HB.out | apply below_alloc | apply pw_below_drewN | apply below_drew1 | refine below_set ?_ GE233.out | refine below_set ?_ GE268.out) | exact HB.out)⟩
            · rw [if_neg c65] at H
              have c65b0 : (t267 == 0) = false := beq_eq_false_iff_ne.mpr c65
              have c65b1 : (t267 != 0) = true := bne_iff_ne.mpr c65
              by_cases c106 : t234 = true
              · subst c106
                have H1 : (if (t258.length : Int) = 0 then (some ((t264.length : Int) == 0)) else (some false)) = some r := by rw [if_pos rfl] at H; exact H
                clear H
                have H := H1
                clear H1
                by_cases c107 : (t258.length : Int) = 0
                · rw [if_pos c107] at H
                  have c107b0 : ((t258.length : Int) == 0) = true := beq_iff_eq.mpr c107
                  have c107b1 : ((t258.length : Int) != 0) = false := bne_eq_false_iff_eq.mpr c107
                  clear c107
                  obtain rfl := Option.some.inj H
                  go_wp2_with (first | ((with_reducible refine gate_callee (f := 17) rfl ?_); refine goesL_ (some 86) rfl rfl Try.func17 (by kernel_rfl) rfl #[.int .i64 a1, .slice A2 l2.length c2] rfl (by (try simp only [List.map_toArray, List.map_cons, List.map_nil]); first | done | rfl | (simp only [List.length_drop, List.length_take]; rfl)) ?_; (with_reducible refine (node_Decode.calls a1 _ _ l2 t257 t258 t261 t264 t267 _ ?side1 ?side2 A64.out).mono ?_); (case side1 => repeat (first | exact (Kd.C_below HR2.out HB.out) | (with_reducible refine Kd.C_alloc ?_ _) | (with_reducible refine Kd.C_drewN ?_ _) | (with_reducible refine Kd.C_drew ?_))); (case side2 => exact HC2.out); rintro e w108 ⟨v259, v262, v265, rfl, ho0, ho1, ho2, hb⟩; refine ⟨_, rfl, ?_⟩; have n0_ := Aside0.mk (Kd.R_lower ho0 (below_size (by repeat (first | (with_reducible first | exact HB.out | apply below_alloc | apply pw_below_drewN | apply below_drew1 | refine below_set ?_ GE233.out) | exact HB.out)))); have n1_ := Aside0.mk (Kd.R_lower ho1 (below_size (by repeat (first | (with_reducible first | exact HB.out | apply below_alloc | apply pw_below_drewN | apply below_drew1 | refine below_set ?_ GE233.out) | exact HB.out)))); have n2_ := Aside0.mk (Kd.R_lower ho2 (below_size (by repeat (first | (with_reducible first | exact HB.out | apply below_alloc | apply pw_below_drewN | apply below_drew1 | refine below_set ?_ GE233.out) | exact HB.out)))); have n3_ := Aside0.mk (blk_below (g := gb233) (o := .cells #[.bool a0_0, .slice A0_1 l0_1.length c0_1, .slice A0_2 l0_2.length c0_2, .slice A0_3 l0_3.length c0_3] 26 (0, 0)) (by (with_reducible repeat (first | refine blk_drewN ?_ _ | refine blk_drew ?_ | refine blk_alloc ?_ _)); exact BK233.out) hb); have n4_ := Aside0.mk (below_step (by repeat (first | (with_reducible first | exact HB.out | apply below_alloc | apply pw_below_drewN | apply below_drew1 | refine below_set ?_ GE233.out) | exact HB.out)) hb); clear BK233; clear HB; have HO260 := n0_; have HO263 := n1_; have HO266 := n2_; have BK233 := n3_; have HB := n4_; clear n0_ n1_ n2_ n3_ n4_; (try clear hb); (try clear hb2); (try clear hk); (try clear hi); (try clear ho0); (try clear ho1); (try clear ho2)) | ((with_reducible refine gate_dst (N := 14) rfl ?_); (try (refine gate_guard (by rfl) ?_; dsimp only)); refine box_event ?hg (N := 14) ?hd (cs := #[.bool false, .slice none 0 0, .slice none 0 0, .slice none 0 0]) (t := 26) ?hr ?_; (case hd => rfl); (case hg => rfl); (case hr => first | (go_simp; done) | (go_simp; rfl)); intro gb268 hg w109 hbox hb; have n0_ := Aside0.mk (Kd.R_below (by (with_reducible repeat (first | apply Kd.R_alloc | apply Kd.R_drewN | apply Kd.R_drew)); exact HO260.out) hb); have n1_ := Aside0.mk (Kd.R_below (by (with_reducible repeat (first | apply Kd.R_alloc | apply Kd.R_drewN | apply Kd.R_drew)); exact HO263.out) hb); have n2_ := Aside0.mk (Kd.R_below (by (with_reducible repeat (first | apply Kd.R_alloc | apply Kd.R_drewN | apply Kd.R_drew)); exact HO266.out) hb); have n3_ := Aside0.mk (blk_below (g := gb233) (o := .cells #[.bool a0_0, .slice A0_1 l0_1.length c0_1, .slice A0_2 l0_2.length c0_2, .slice A0_3 l0_3.length c0_3] 26 (0, 0)) (by (with_reducible repeat (first | refine blk_drewN ?_ _ | refine blk_drew ?_ | refine blk_alloc ?_ _)); exact BK233.out) hb); have n4_ := Aside0.mk (below_step (by repeat (first | (with_reducible first | exact HB.out | apply below_alloc | apply pw_below_drewN | apply below_drew1 | refine below_set ?_ GE233.out) | exact HB.out)) hb); have n5_ := Aside0.mk (hbox); have n6_ := Aside0.mk ((by rw [hg]; exact (below_size (by repeat (first | (with_reducible first | exact HB.out | apply below_alloc | apply pw_below_drewN | apply below_drew1 | refine below_set ?_ GE233.out) | exact HB.out))) : w.heap.size ≤ gb268)); have n7_ := Aside0.mk ((by rw [hg]; exact (below_size (by repeat (first | (with_reducible first | exact HB.out | apply below_alloc | apply pw_below_drewN | apply below_drew1 | refine below_set ?_ GE233.out) | exact HB.out))) : w.heap.size ≤ gb268)); have n8_ := Aside0.mk ((by rw [hg]; exact Nat.ne_of_lt (blk_lt (g := gb233) (o := .cells #[.bool a0_0, .slice A0_1 l0_1.length c0_1, .slice A0_2 l0_2.length c0_2, .slice A0_3 l0_3.length c0_3] 26 (0, 0)) (by (with_reducible repeat (first | refine blk_drewN ?_ _ | refine blk_drew ?_ | refine blk_alloc ?_ _)); exact BK233.out)) : gb233 ≠ gb268)); have n9_ := Aside0.mk ((by rw [hg]; exact Nat.ne_of_gt (blk_lt (g := gb233) (o := .cells #[.bool a0_0, .slice A0_1 l0_1.length c0_1, .slice A0_2 l0_2.length c0_2, .slice A0_3 l0_3.length c0_3] 26 (0, 0)) (by (with_reducible repeat (first | refine blk_drewN ?_ _ | refine blk_drew ?_ | refine blk_alloc ?_ _)); exact BK233.out)) : gb268 ≠ gb233)); clear HO260; clear HO263; clear HO266; clear BK233; clear HB; have HO260 := n0_; have HO263 := n1_; have HO266 := n2_; have BK233 := n3_; have HB := n4_; have BK268 := n5_; have GW268 := n6_; have GE268 := n7_; have NB233_268 := n8_; have NB268_233 := n9_; clear n0_ n1_ n2_ n3_ n4_ n5_ n6_ n7_ n8_ n9_; clear hb hbox hg; have hnb110 := NB268_233.out; have hnc110 := NB233_268.out; have hcz111_0 : w109.cell? ⟨gb268, 0, none⟩ = some (.bool false) := (blk_cell BK268.out 0).trans rfl; have hcz111_1 : w109.cell? ⟨gb268, 1, none⟩ = some (.slice none 0 0) := (blk_cell BK268.out 1).trans rfl; have hcz111_2 : w109.cell? ⟨gb268, 2, none⟩ = some (.slice none 0 0) := (blk_cell BK268.out 2).trans rfl; have hcz111_3 : w109.cell? ⟨gb268, 3, none⟩ = some (.slice none 0 0) := (blk_cell BK268.out 3).trans rfl; have hfz111_0 := blk_frozen BK268.out 0; have hfz111_1 := blk_frozen BK268.out 1; have hfz111_2 := blk_frozen BK268.out 2; have hfz111_3 := blk_frozen BK268.out 3; obtain ⟨Ao112, co112, eo112⟩ := Kd.R_slice HO260.out; subst eo112; obtain ⟨Ao113, co113, eo113⟩ := Kd.R_slice HO263.out; subst eo113; obtain ⟨Ao114, co114, eo114⟩ := Kd.R_slice HO266.out; subst eo114))
                  go_ret
                  exact ⟨by first | rfl | (simp [errW_none, errW_some] <;> rfl) | (simp [*, errW_none, errW_some] <;> rfl), by repeat (first | (with_reducible first | exact HB.out | apply below_alloc | apply pw_below_drewN | apply below_drew1 | refine below_set ?_ GE233.out | refine below_set ?_ GE268.out) | exact HB.out)⟩
                · rw [if_neg c107] at H
                  have c107b0 : ((t258.length : Int) == 0) = false := beq_eq_false_iff_ne.mpr c107
                  have c107b1 : ((t258.length : Int) != 0) = true := bne_iff_ne.mpr c107
                  have c107b2 : ¬ (t258 = []) := fun h_ => c107 (by rw [h_]; rfl)
                  obtain rfl := Option.some.inj H
                  go_wp2_with (first | ((with_reducible refine gate_callee (f := 17) rfl ?_); refine goesL_ (some 86) rfl rfl Try.func17 (by kernel_rfl) rfl #[.int .i64 a1, .slice A2 l2.length c2] rfl (by (try simp only [List.map_toArray, List.map_cons, List.map_nil]); first | done | rfl | (simp only [List.length_drop, List.length_take]; rfl)) ?_; (with_reducible refine (node_Decode.calls a1 _ _ l2 t257 t258 t261 t264 t267 _ ?side1 ?side2 A64.out).mono ?_); (case side1 => repeat (first | exact (Kd.C_below HR2.out HB.out) | (with_reducible refine Kd.C_alloc ?_ _) | (with_reducible refine Kd.C_drewN ?_ _) | (with_reducible refine Kd.C_drew ?_))); (case side2 => exact HC2.out); rintro e w115 ⟨v259, v262, v265, rfl, ho0, ho1, ho2, hb⟩; refine ⟨_, rfl, ?_⟩; have n0_ := Aside0.mk (Kd.R_lower ho0 (below_size (by repeat (first | (with_reducible first | exact HB.out | apply below_alloc | apply pw_below_drewN | apply below_drew1 | refine below_set ?_ GE233.out) | exact HB.out)))); have n1_ := Aside0.mk (Kd.R_lower ho1 (below_size (by repeat (first | (with_reducible first | exact HB.out | apply below_alloc | apply pw_below_drewN | apply below_drew1 | refine below_set ?_ GE233.out) | exact HB.out)))); have n2_ := Aside0.mk (Kd.R_lower ho2 (below_size (by repeat (first | (with_reducible first | exact HB.out | apply below_alloc | apply pw_below_drewN | apply below_drew1 | refine below_set ?_ GE233.out) | exact HB.out)))); have n3_ := Aside0.mk (blk_below (g := gb233) (o := .cells #[.bool a0_0, .slice A0_1 l0_1.length c0_1, .slice A0_2 l0_2.length c0_2, .slice A0_3 l0_3.length c0_3] 26 (0, 0)) (by (with_reducible repeat (first | refine blk_drewN ?_ _ | refine blk_drew ?_ | refine blk_alloc ?_ _)); exact BK233.out) hb); have n4_ := Aside0.mk (below_step (by repeat (first | (with_reducible first | exact HB.out | apply below_alloc | apply pw_below_drewN | apply below_drew1 | refine below_set ?_ GE233.out) | exact HB.out)) hb); clear BK233; clear HB; have HO260 := n0_; have HO263 := n1_; have HO266 := n2_; have BK233 := n3_; have HB := n4_; clear n0_ n1_ n2_ n3_ n4_; (try clear hb); (try clear hb2); (try clear hk); (try clear hi); (try clear ho0); (try clear ho1); (try clear ho2)) | ((with_reducible refine gate_dst (N := 14) rfl ?_); (try (refine gate_guard (by rfl) ?_; dsimp only)); refine box_event ?hg (N := 14) ?hd (cs := #[.bool false, .slice none 0 0, .slice none 0 0, .slice none 0 0]) (t := 26) ?hr ?_; (case hd => rfl); (case hg => rfl); (case hr => first | (go_simp; done) | (go_simp; rfl)); intro gb268 hg w116 hbox hb; have n0_ := Aside0.mk (Kd.R_below (by (with_reducible repeat (first | apply Kd.R_alloc | apply Kd.R_drewN | apply Kd.R_drew)); exact HO260.out) hb); have n1_ := Aside0.mk (Kd.R_below (by (with_reducible repeat (first | apply Kd.R_alloc | apply Kd.R_drewN | apply Kd.R_drew)); exact HO263.out) hb); have n2_ := Aside0.mk (Kd.R_below (by (with_reducible repeat (first | apply Kd.R_alloc | apply Kd.R_drewN | apply Kd.R_drew)); exact HO266.out) hb); have n3_ := Aside0.mk (blk_below (g := gb233) (o := .cells #[.bool a0_0, .slice A0_1 l0_1.length c0_1, .slice A0_2 l0_2.length c0_2, .slice A0_3 l0_3.length c0_3] 26 (0, 0)) (by (with_reducible repeat (first | refine blk_drewN ?_ _ | refine blk_drew ?_ | refine blk_alloc ?_ _)); exact BK233.out) hb); have n4_ := Aside0.mk (below_step (by repeat (first | (with_reducible first | exact HB.out | apply below_alloc | apply pw_below_drewN | apply below_drew1 | refine below_set ?_ GE233.out) | exact HB.out)) hb); have n5_ := Aside0.mk (hbox); have n6_ := Aside0.mk ((by rw [hg]; exact (below_size (by repeat (first | (with_reducible first | exact HB.out | apply below_alloc | apply pw_below_drewN | apply below_drew1 | refine below_set ?_ GE233.out) | exact HB.out))) : w.heap.size ≤ gb268)); have n7_ := Aside0.mk ((by rw [hg]; exact (below_size (by repeat (first | (with_reducible first | exact HB.out | apply below_alloc | apply pw_below_drewN | apply below_drew1 | refine below_set ?_ GE233.out) | exact HB.out))) : w.heap.size ≤ gb268)); have n8_ := Aside0.mk ((by rw [hg]; exact Nat.ne_of_lt (blk_lt (g := gb233) (o := .cells #[.bool a0_0, .slice A0_1 l0_1.length c0_1, .slice A0_2 l0_2.length c0_2, .slice A0_3 l0_3.length c0_3] 26 (0, 0)) (by (with_reducible repeat (first | refine blk_drewN ?_ _ | refine blk_drew ?_ | refine blk_alloc ?_ _)); exact BK233.out)) : gb233 ≠ gb268)); have n9_ := Aside0.mk ((by rw [hg]; exact Nat.ne_of_gt (blk_lt (g := gb233) (o := .cells #[.bool a0_0, .slice A0_1 l0_1.length c0_1, .slice A0_2 l0_2.length c0_2, .slice A0_3 l0_3.length c0_3] 26 (0, 0)) (by (with_reducible repeat (first | refine blk_drewN ?_ _ | refine blk_drew ?_ | refine blk_alloc ?_ _)); exact BK233.out)) : gb268 ≠ gb233)); clear HO260; clear HO263; clear HO266; clear BK233; clear HB; have HO260 := n0_; have HO263 := n1_; have HO266 := n2_; have BK233 := n3_; have HB := n4_; have BK268 := n5_; have GW268 := n6_; have GE268 := n7_; have NB233_268 := n8_; have NB268_233 := n9_; clear n0_ n1_ n2_ n3_ n4_ n5_ n6_ n7_ n8_ n9_; clear hb hbox hg; have hnb117 := NB268_233.out; have hnc117 := NB233_268.out; have hcz118_0 : w116.cell? ⟨gb268, 0, none⟩ = some (.bool false) := (blk_cell BK268.out 0).trans rfl; have hcz118_1 : w116.cell? ⟨gb268, 1, none⟩ = some (.slice none 0 0) := (blk_cell BK268.out 1).trans rfl; have hcz118_2 : w116.cell? ⟨gb268, 2, none⟩ = some (.slice none 0 0) := (blk_cell BK268.out 2).trans rfl; have hcz118_3 : w116.cell? ⟨gb268, 3, none⟩ = some (.slice none 0 0) := (blk_cell BK268.out 3).trans rfl; have hfz118_0 := blk_frozen BK268.out 0; have hfz118_1 := blk_frozen BK268.out 1; have hfz118_2 := blk_frozen BK268.out 2; have hfz118_3 := blk_frozen BK268.out 3; obtain ⟨Ao119, co119, eo119⟩ := Kd.R_slice HO260.out; subst eo119; obtain ⟨Ao120, co120, eo120⟩ := Kd.R_slice HO263.out; subst eo120; obtain ⟨Ao121, co121, eo121⟩ := Kd.R_slice HO266.out; subst eo121))
                  go_ret
                  exact ⟨by first | rfl | (simp [errW_none, errW_some] <;> rfl) | (simp [*, errW_none, errW_some] <;> rfl), by repeat (first | (with_reducible first | exact HB.out | apply below_alloc | apply pw_below_drewN | apply below_drew1 | refine below_set ?_ GE233.out | refine below_set ?_ GE268.out) | exact HB.out)⟩
              · replace c106 := Bool.eq_false_iff.mpr c106
                subst c106
                have H1 : (some false) = some r := by rw [if_neg (show ¬ (false = true) by decide)] at H; exact H
                clear H
                have H := H1
                clear H1
                obtain rfl := Option.some.inj H
                go_wp2_with (first | ((with_reducible refine gate_callee (f := 17) rfl ?_); refine goesL_ (some 86) rfl rfl Try.func17 (by kernel_rfl) rfl #[.int .i64 a1, .slice A2 l2.length c2] rfl (by (try simp only [List.map_toArray, List.map_cons, List.map_nil]); first | done | rfl | (simp only [List.length_drop, List.length_take]; rfl)) ?_; (with_reducible refine (node_Decode.calls a1 _ _ l2 t257 t258 t261 t264 t267 _ ?side1 ?side2 A64.out).mono ?_); (case side1 => repeat (first | exact (Kd.C_below HR2.out HB.out) | (with_reducible refine Kd.C_alloc ?_ _) | (with_reducible refine Kd.C_drewN ?_ _) | (with_reducible refine Kd.C_drew ?_))); (case side2 => exact HC2.out); rintro e w122 ⟨v259, v262, v265, rfl, ho0, ho1, ho2, hb⟩; refine ⟨_, rfl, ?_⟩; have n0_ := Aside0.mk (Kd.R_lower ho0 (below_size (by repeat (first | (with_reducible first | exact HB.out | apply below_alloc | apply pw_below_drewN | apply below_drew1 | refine below_set ?_ GE233.out) | exact HB.out)))); have n1_ := Aside0.mk (Kd.R_lower ho1 (below_size (by repeat (first | (with_reducible first | exact HB.out | apply below_alloc | apply pw_below_drewN | apply below_drew1 | refine below_set ?_ GE233.out) | exact HB.out)))); have n2_ := Aside0.mk (Kd.R_lower ho2 (below_size (by repeat (first | (with_reducible first | exact HB.out | apply below_alloc | apply pw_below_drewN | apply below_drew1 | refine below_set ?_ GE233.out) | exact HB.out)))); have n3_ := Aside0.mk (blk_below (g := gb233) (o := .cells #[.bool a0_0, .slice A0_1 l0_1.length c0_1, .slice A0_2 l0_2.length c0_2, .slice A0_3 l0_3.length c0_3] 26 (0, 0)) (by (with_reducible repeat (first | refine blk_drewN ?_ _ | refine blk_drew ?_ | refine blk_alloc ?_ _)); exact BK233.out) hb); have n4_ := Aside0.mk (below_step (by repeat (first | (with_reducible first | exact HB.out | apply below_alloc | apply pw_below_drewN | apply below_drew1 | refine below_set ?_ GE233.out) | exact HB.out)) hb); clear BK233; clear HB; have HO260 := n0_; have HO263 := n1_; have HO266 := n2_; have BK233 := n3_; have HB := n4_; clear n0_ n1_ n2_ n3_ n4_; (try clear hb); (try clear hb2); (try clear hk); (try clear hi); (try clear ho0); (try clear ho1); (try clear ho2)) | ((with_reducible refine gate_dst (N := 14) rfl ?_); (try (refine gate_guard (by rfl) ?_; dsimp only)); refine box_event ?hg (N := 14) ?hd (cs := #[.bool false, .slice none 0 0, .slice none 0 0, .slice none 0 0]) (t := 26) ?hr ?_; (case hd => rfl); (case hg => rfl); (case hr => first | (go_simp; done) | (go_simp; rfl)); intro gb268 hg w123 hbox hb; have n0_ := Aside0.mk (Kd.R_below (by (with_reducible repeat (first | apply Kd.R_alloc | apply Kd.R_drewN | apply Kd.R_drew)); exact HO260.out) hb); have n1_ := Aside0.mk (Kd.R_below (by (with_reducible repeat (first | apply Kd.R_alloc | apply Kd.R_drewN | apply Kd.R_drew)); exact HO263.out) hb); have n2_ := Aside0.mk (Kd.R_below (by (with_reducible repeat (first | apply Kd.R_alloc | apply Kd.R_drewN | apply Kd.R_drew)); exact HO266.out) hb); have n3_ := Aside0.mk (blk_below (g := gb233) (o := .cells #[.bool a0_0, .slice A0_1 l0_1.length c0_1, .slice A0_2 l0_2.length c0_2, .slice A0_3 l0_3.length c0_3] 26 (0, 0)) (by (with_reducible repeat (first | refine blk_drewN ?_ _ | refine blk_drew ?_ | refine blk_alloc ?_ _)); exact BK233.out) hb); have n4_ := Aside0.mk (below_step (by repeat (first | (with_reducible first | exact HB.out | apply below_alloc | apply pw_below_drewN | apply below_drew1 | refine below_set ?_ GE233.out) | exact HB.out)) hb); have n5_ := Aside0.mk (hbox); have n6_ := Aside0.mk ((by rw [hg]; exact (below_size (by repeat (first | (with_reducible first | exact HB.out | apply below_alloc | apply pw_below_drewN | apply below_drew1 | refine below_set ?_ GE233.out) | exact HB.out))) : w.heap.size ≤ gb268)); have n7_ := Aside0.mk ((by rw [hg]; exact (below_size (by repeat (first | (with_reducible first | exact HB.out | apply below_alloc | apply pw_below_drewN | apply below_drew1 | refine below_set ?_ GE233.out) | exact HB.out))) : w.heap.size ≤ gb268)); have n8_ := Aside0.mk ((by rw [hg]; exact Nat.ne_of_lt (blk_lt (g := gb233) (o := .cells #[.bool a0_0, .slice A0_1 l0_1.length c0_1, .slice A0_2 l0_2.length c0_2, .slice A0_3 l0_3.length c0_3] 26 (0, 0)) (by (with_reducible repeat (first | refine blk_drewN ?_ _ | refine blk_drew ?_ | refine blk_alloc ?_ _)); exact BK233.out)) : gb233 ≠ gb268)); have n9_ := Aside0.mk ((by rw [hg]; exact Nat.ne_of_gt (blk_lt (g := gb233) (o := .cells #[.bool a0_0, .slice A0_1 l0_1.length c0_1, .slice A0_2 l0_2.length c0_2, .slice A0_3 l0_3.length c0_3] 26 (0, 0)) (by (with_reducible repeat (first | refine blk_drewN ?_ _ | refine blk_drew ?_ | refine blk_alloc ?_ _)); exact BK233.out)) : gb268 ≠ gb233)); clear HO260; clear HO263; clear HO266; clear BK233; clear HB; have HO260 := n0_; have HO263 := n1_; have HO266 := n2_; have BK233 := n3_; have HB := n4_; have BK268 := n5_; have GW268 := n6_; have GE268 := n7_; have NB233_268 := n8_; have NB268_233 := n9_; clear n0_ n1_ n2_ n3_ n4_ n5_ n6_ n7_ n8_ n9_; clear hb hbox hg; have hnb124 := NB268_233.out; have hnc124 := NB233_268.out; have hcz125_0 : w123.cell? ⟨gb268, 0, none⟩ = some (.bool false) := (blk_cell BK268.out 0).trans rfl; have hcz125_1 : w123.cell? ⟨gb268, 1, none⟩ = some (.slice none 0 0) := (blk_cell BK268.out 1).trans rfl; have hcz125_2 : w123.cell? ⟨gb268, 2, none⟩ = some (.slice none 0 0) := (blk_cell BK268.out 2).trans rfl; have hcz125_3 : w123.cell? ⟨gb268, 3, none⟩ = some (.slice none 0 0) := (blk_cell BK268.out 3).trans rfl; have hfz125_0 := blk_frozen BK268.out 0; have hfz125_1 := blk_frozen BK268.out 1; have hfz125_2 := blk_frozen BK268.out 2; have hfz125_3 := blk_frozen BK268.out 3; obtain ⟨Ao126, co126, eo126⟩ := Kd.R_slice HO260.out; subst eo126; obtain ⟨Ao127, co127, eo127⟩ := Kd.R_slice HO263.out; subst eo127; obtain ⟨Ao128, co128, eo128⟩ := Kd.R_slice HO266.out; subst eo128))
                go_ret
                exact ⟨by first | rfl | (simp [errW_none, errW_some] <;> rfl) | (simp [*, errW_none, errW_some] <;> rfl), by repeat (first | (with_reducible first | exact HB.out | apply below_alloc | apply pw_below_drewN | apply below_drew1 | refine below_set ?_ GE233.out | refine below_set ?_ GE268.out) | exact HB.out)⟩

end Go.Proofs.Ytdjiclphnoepcaa.P
