-- Written by a program of this session (a patched print): not the kit's own print.
import Derived.Test.YtdjiclphnoepcaaPx0
namespace Go.Proofs.Ytdjiclphnoepcaa.P
open Go.RowKit Go.Proofs.YtdjiclphnoepcaaW.PrintWords Go.Proofs.YtdjiclphnoepcaaW.PrintLast Go.Proofs.YtdjiclphnoepcaaW.PrintMore
attribute [local go_sem] Go.Proofs.YtdjiclphnoepcaaOwn.leq_str Go.Proofs.YtdjiclphnoepcaaOwn.gtr_str Go.Proofs.YtdjiclphnoepcaaOwn.geq_str max2_int min2_int max_two min_two max_three min_three max_four min_four   -- for this text's walks alone
set_option linter.unusedVariables false
set_option linter.unusedSimpArgs false

/-! ### tailraceref10_Check: function 14 -/
mutual
def tailraceref10_Check.l0 : Nat → Int → Bool → List ByteArray → List ByteArray → List Int → Option (Int)
  | 0, _, _, _, _, _ => none
  | k + 1, x3, x123000, x123001, x123002, x123003 => if x3 < (x123001.length : Int) then (if 0 ≤ x3 then (if ((rdOf ByteArray.empty x123001 x3).size : Int) < 1 then (tailraceref10_Check.j1 k x3 true x123000 x123001 x123002 x123003) else (if ((rdOf ByteArray.empty x123001 x3).size : Int) > 120 then (tailraceref10_Check.j1 k x3 true x123000 x123001 x123002 x123003) else (if x3 > 0 then (if 0 ≤ (wrap64 (x3 - 1)) then (if (wrap64 (x3 - 1)) < (x123001.length : Int) then (tailraceref10_Check.j1 k x3 (!(Op.bytesLess ((rdOf ByteArray.empty x123001 (wrap64 (x3 - 1))).toList) ((rdOf ByteArray.empty x123001 x3).toList))) x123000 x123001 x123002 x123003) else (none)) else (none)) else (tailraceref10_Check.j1 k x3 false x123000 x123001 x123002 x123003)))) else (none)) else (if x123000 = true then (if (x123002.length : Int) = (x123001.length : Int) then (tailraceref10_Check.j2 k (decide ((x123003.length : Int) > 0)) x123000 x123001 x123002 x123003) else (tailraceref10_Check.j2 k true x123000 x123001 x123002 x123003)) else (if (x123001.length : Int) < 1 then (tailraceref10_Check.j4 k true x123000 x123001 x123002 x123003) else (if (x123003.length : Int) = (wrap64 ((x123001.length : Int) + 1)) then (tailraceref10_Check.j4 k (decide ((x123002.length : Int) > 0)) x123000 x123001 x123002 x123003) else (tailraceref10_Check.j4 k true x123000 x123001 x123002 x123003))))
def tailraceref10_Check.j1 : Nat → Int → Bool → Bool → List ByteArray → List ByteArray → List Int → Option (Int)
  | 0, _, _, _, _, _, _ => none
  | k + 1, x3, x46, x123000, x123001, x123002, x123003 => if x46 = true then (some 100) else (tailraceref10_Check.l0 k (wrap64 (x3 + 1)) x123000 x123001 x123002 x123003)
def tailraceref10_Check.j2 : Nat → Bool → Bool → List ByteArray → List ByteArray → List Int → Option (Int)
  | 0, _, _, _, _, _ => none
  | k + 1, x61, x123000, x123001, x123002, x123003 => if x61 = true then (some 100) else (tailraceref10_Check.l1 k 0 x123000 x123001 x123002 x123003)
def tailraceref10_Check.l1 : Nat → Int → Bool → List ByteArray → List ByteArray → List Int → Option (Int)
  | 0, _, _, _, _, _ => none
  | k + 1, x4, x123000, x123001, x123002, x123003 => if x4 < (x123002.length : Int) then (if 0 ≤ x4 then (if ((rdOf ByteArray.empty x123002 x4).size : Int) > 100 then (some 100) else (tailraceref10_Check.l1 k (wrap64 (x4 + 1)) x123000 x123001 x123002 x123003)) else (none)) else (some 0)
def tailraceref10_Check.j4 : Nat → Bool → Bool → List ByteArray → List ByteArray → List Int → Option (Int)
  | 0, _, _, _, _, _ => none
  | k + 1, x95, x123000, x123001, x123002, x123003 => if x95 = true then (some 100) else (tailraceref10_Check.l2 k 0 x123000 x123001 x123002 x123003)
def tailraceref10_Check.l2 : Nat → Int → Bool → List ByteArray → List ByteArray → List Int → Option (Int)
  | 0, _, _, _, _, _ => none
  | k + 1, x5, x123000, x123001, x123002, x123003 => if x5 < (x123003.length : Int) then (if 0 ≤ x5 then (if (rd x123003 x5) < 2 then (tailraceref10_Check.j6 k x5 true x123000 x123001 x123002 x123003) else (tailraceref10_Check.j6 k x5 (decide ((rd x123003 x5) > 2147483647)) x123000 x123001 x123002 x123003)) else (none)) else (some 0)
def tailraceref10_Check.j6 : Nat → Int → Bool → Bool → List ByteArray → List ByteArray → List Int → Option (Int)
  | 0, _, _, _, _, _, _ => none
  | k + 1, x5, x116, x123000, x123001, x123002, x123003 => if x116 = true then (some 100) else (tailraceref10_Check.l2 k (wrap64 (x5 + 1)) x123000 x123001 x123002 x123003)
end
def tailraceref10_Check.f (k : Nat) (a0_0 : Bool) (l0_1 : List ByteArray) (l0_2 : List ByteArray) (l0_3 : List Int) : Option (Int) := tailraceref10_Check.l0 k 0 a0_0 l0_1 l0_2 l0_3
theorem tailraceref10_Check.mono_l : ∀ k, (∀ y0 y1 y2 y3 y4, LeO (tailraceref10_Check.l0 k y0 y1 y2 y3 y4) (tailraceref10_Check.l0 (k + 1) y0 y1 y2 y3 y4)) ∧ (∀ y0 y1 y2 y3 y4 y5, LeO (tailraceref10_Check.j1 k y0 y1 y2 y3 y4 y5) (tailraceref10_Check.j1 (k + 1) y0 y1 y2 y3 y4 y5)) ∧ (∀ y0 y1 y2 y3 y4, LeO (tailraceref10_Check.j2 k y0 y1 y2 y3 y4) (tailraceref10_Check.j2 (k + 1) y0 y1 y2 y3 y4)) ∧ (∀ y0 y1 y2 y3 y4, LeO (tailraceref10_Check.l1 k y0 y1 y2 y3 y4) (tailraceref10_Check.l1 (k + 1) y0 y1 y2 y3 y4)) ∧ (∀ y0 y1 y2 y3 y4, LeO (tailraceref10_Check.j4 k y0 y1 y2 y3 y4) (tailraceref10_Check.j4 (k + 1) y0 y1 y2 y3 y4)) ∧ (∀ y0 y1 y2 y3 y4, LeO (tailraceref10_Check.l2 k y0 y1 y2 y3 y4) (tailraceref10_Check.l2 (k + 1) y0 y1 y2 y3 y4)) ∧ (∀ y0 y1 y2 y3 y4 y5, LeO (tailraceref10_Check.j6 k y0 y1 y2 y3 y4 y5) (tailraceref10_Check.j6 (k + 1) y0 y1 y2 y3 y4 y5))
  | 0 => ⟨fun _ _ _ _ _ r h => by simp [tailraceref10_Check.l0] at h, fun _ _ _ _ _ _ r h => by simp [tailraceref10_Check.j1] at h, fun _ _ _ _ _ r h => by simp [tailraceref10_Check.j2] at h, fun _ _ _ _ _ r h => by simp [tailraceref10_Check.l1] at h, fun _ _ _ _ _ r h => by simp [tailraceref10_Check.j4] at h, fun _ _ _ _ _ r h => by simp [tailraceref10_Check.l2] at h, fun _ _ _ _ _ _ r h => by simp [tailraceref10_Check.j6] at h⟩
  | k + 1 => by
    obtain ⟨ih0, ih1, ih2, ih3, ih4, ih5, ih6⟩ := tailraceref10_Check.mono_l k
    refine ⟨?_, ?_, ?_, ?_, ?_, ?_, ?_⟩
    · intro y0 y1 y2 y3 y4
      unfold tailraceref10_Check.l0
      repeat' first
      | (with_reducible exact ih0 _ _ _ _ _)
      | (with_reducible exact ih1 _ _ _ _ _ _)
      | (with_reducible exact ih2 _ _ _ _ _)
      | (with_reducible exact ih3 _ _ _ _ _)
      | (with_reducible exact ih4 _ _ _ _ _)
      | (with_reducible exact ih5 _ _ _ _ _)
      | (with_reducible exact ih6 _ _ _ _ _ _)
      | (with_reducible exact LeO.refl _)
      | (with_reducible exact LeO.none _)
      | (with_reducible refine LeO.ite ?_ ?_)
      | (with_reducible refine LeO.bind ?_ (fun _ => ?_))
      | exact ih0 _ _ _ _ _
      | exact ih1 _ _ _ _ _ _
      | exact ih2 _ _ _ _ _
      | exact ih3 _ _ _ _ _
      | exact ih4 _ _ _ _ _
      | exact ih5 _ _ _ _ _
      | exact ih6 _ _ _ _ _ _
      | exact LeO.none _
      | refine LeO.ite ?_ ?_
      | refine LeO.bind ?_ (fun _ => ?_)
    · intro y0 y1 y2 y3 y4 y5
      unfold tailraceref10_Check.j1
      repeat' first
      | (with_reducible exact ih0 _ _ _ _ _)
      | (with_reducible exact ih1 _ _ _ _ _ _)
      | (with_reducible exact ih2 _ _ _ _ _)
      | (with_reducible exact ih3 _ _ _ _ _)
      | (with_reducible exact ih4 _ _ _ _ _)
      | (with_reducible exact ih5 _ _ _ _ _)
      | (with_reducible exact ih6 _ _ _ _ _ _)
      | (with_reducible exact LeO.refl _)
      | (with_reducible exact LeO.none _)
      | (with_reducible refine LeO.ite ?_ ?_)
      | (with_reducible refine LeO.bind ?_ (fun _ => ?_))
      | exact ih0 _ _ _ _ _
      | exact ih1 _ _ _ _ _ _
      | exact ih2 _ _ _ _ _
      | exact ih3 _ _ _ _ _
      | exact ih4 _ _ _ _ _
      | exact ih5 _ _ _ _ _
      | exact ih6 _ _ _ _ _ _
      | exact LeO.none _
      | refine LeO.ite ?_ ?_
      | refine LeO.bind ?_ (fun _ => ?_)
    · intro y0 y1 y2 y3 y4
      unfold tailraceref10_Check.j2
      repeat' first
      | (with_reducible exact ih0 _ _ _ _ _)
      | (with_reducible exact ih1 _ _ _ _ _ _)
      | (with_reducible exact ih2 _ _ _ _ _)
      | (with_reducible exact ih3 _ _ _ _ _)
      | (with_reducible exact ih4 _ _ _ _ _)
      | (with_reducible exact ih5 _ _ _ _ _)
      | (with_reducible exact ih6 _ _ _ _ _ _)
      | (with_reducible exact LeO.refl _)
      | (with_reducible exact LeO.none _)
      | (with_reducible refine LeO.ite ?_ ?_)
      | (with_reducible refine LeO.bind ?_ (fun _ => ?_))
      | exact ih0 _ _ _ _ _
      | exact ih1 _ _ _ _ _ _
      | exact ih2 _ _ _ _ _
      | exact ih3 _ _ _ _ _
      | exact ih4 _ _ _ _ _
      | exact ih5 _ _ _ _ _
      | exact ih6 _ _ _ _ _ _
      | exact LeO.none _
      | refine LeO.ite ?_ ?_
      | refine LeO.bind ?_ (fun _ => ?_)
    · intro y0 y1 y2 y3 y4
      unfold tailraceref10_Check.l1
      repeat' first
      | (with_reducible exact ih0 _ _ _ _ _)
      | (with_reducible exact ih1 _ _ _ _ _ _)
      | (with_reducible exact ih2 _ _ _ _ _)
      | (with_reducible exact ih3 _ _ _ _ _)
      | (with_reducible exact ih4 _ _ _ _ _)
      | (with_reducible exact ih5 _ _ _ _ _)
      | (with_reducible exact ih6 _ _ _ _ _ _)
      | (with_reducible exact LeO.refl _)
      | (with_reducible exact LeO.none _)
      | (with_reducible refine LeO.ite ?_ ?_)
      | (with_reducible refine LeO.bind ?_ (fun _ => ?_))
      | exact ih0 _ _ _ _ _
      | exact ih1 _ _ _ _ _ _
      | exact ih2 _ _ _ _ _
      | exact ih3 _ _ _ _ _
      | exact ih4 _ _ _ _ _
      | exact ih5 _ _ _ _ _
      | exact ih6 _ _ _ _ _ _
      | exact LeO.none _
      | refine LeO.ite ?_ ?_
      | refine LeO.bind ?_ (fun _ => ?_)
    · intro y0 y1 y2 y3 y4
      unfold tailraceref10_Check.j4
      repeat' first
      | (with_reducible exact ih0 _ _ _ _ _)
      | (with_reducible exact ih1 _ _ _ _ _ _)
      | (with_reducible exact ih2 _ _ _ _ _)
      | (with_reducible exact ih3 _ _ _ _ _)
      | (with_reducible exact ih4 _ _ _ _ _)
      | (with_reducible exact ih5 _ _ _ _ _)
      | (with_reducible exact ih6 _ _ _ _ _ _)
      | (with_reducible exact LeO.refl _)
      | (with_reducible exact LeO.none _)
      | (with_reducible refine LeO.ite ?_ ?_)
      | (with_reducible refine LeO.bind ?_ (fun _ => ?_))
      | exact ih0 _ _ _ _ _
      | exact ih1 _ _ _ _ _ _
      | exact ih2 _ _ _ _ _
      | exact ih3 _ _ _ _ _
      | exact ih4 _ _ _ _ _
      | exact ih5 _ _ _ _ _
      | exact ih6 _ _ _ _ _ _
      | exact LeO.none _
      | refine LeO.ite ?_ ?_
      | refine LeO.bind ?_ (fun _ => ?_)
    · intro y0 y1 y2 y3 y4
      unfold tailraceref10_Check.l2
      repeat' first
      | (with_reducible exact ih0 _ _ _ _ _)
      | (with_reducible exact ih1 _ _ _ _ _ _)
      | (with_reducible exact ih2 _ _ _ _ _)
      | (with_reducible exact ih3 _ _ _ _ _)
      | (with_reducible exact ih4 _ _ _ _ _)
      | (with_reducible exact ih5 _ _ _ _ _)
      | (with_reducible exact ih6 _ _ _ _ _ _)
      | (with_reducible exact LeO.refl _)
      | (with_reducible exact LeO.none _)
      | (with_reducible refine LeO.ite ?_ ?_)
      | (with_reducible refine LeO.bind ?_ (fun _ => ?_))
      | exact ih0 _ _ _ _ _
      | exact ih1 _ _ _ _ _ _
      | exact ih2 _ _ _ _ _
      | exact ih3 _ _ _ _ _
      | exact ih4 _ _ _ _ _
      | exact ih5 _ _ _ _ _
      | exact ih6 _ _ _ _ _ _
      | exact LeO.none _
      | refine LeO.ite ?_ ?_
      | refine LeO.bind ?_ (fun _ => ?_)
    · intro y0 y1 y2 y3 y4 y5
      unfold tailraceref10_Check.j6
      repeat' first
      | (with_reducible exact ih0 _ _ _ _ _)
      | (with_reducible exact ih1 _ _ _ _ _ _)
      | (with_reducible exact ih2 _ _ _ _ _)
      | (with_reducible exact ih3 _ _ _ _ _)
      | (with_reducible exact ih4 _ _ _ _ _)
      | (with_reducible exact ih5 _ _ _ _ _)
      | (with_reducible exact ih6 _ _ _ _ _ _)
      | (with_reducible exact LeO.refl _)
      | (with_reducible exact LeO.none _)
      | (with_reducible refine LeO.ite ?_ ?_)
      | (with_reducible refine LeO.bind ?_ (fun _ => ?_))
      | exact ih0 _ _ _ _ _
      | exact ih1 _ _ _ _ _ _
      | exact ih2 _ _ _ _ _
      | exact ih3 _ _ _ _ _
      | exact ih4 _ _ _ _ _
      | exact ih5 _ _ _ _ _
      | exact ih6 _ _ _ _ _ _
      | exact LeO.none _
      | refine LeO.ite ?_ ?_
      | refine LeO.bind ?_ (fun _ => ?_)
theorem tailraceref10_Check.mono : ∀ a0 a1 a2 a3 k, LeO (tailraceref10_Check.f k a0 a1 a2 a3) (tailraceref10_Check.f (k + 1) a0 a1 a2 a3) := by
  intro a0 a1 a2 a3 k
  obtain ⟨ih0, ih1, ih2, ih3, ih4, ih5, ih6⟩ := tailraceref10_Check.mono_l k
  unfold tailraceref10_Check.f
  repeat' first
      | (with_reducible exact ih0 _ _ _ _ _)
      | (with_reducible exact ih1 _ _ _ _ _ _)
      | (with_reducible exact ih2 _ _ _ _ _)
      | (with_reducible exact ih3 _ _ _ _ _)
      | (with_reducible exact ih4 _ _ _ _ _)
      | (with_reducible exact ih5 _ _ _ _ _)
      | (with_reducible exact ih6 _ _ _ _ _ _)
      | (with_reducible exact LeO.refl _)
      | (with_reducible exact LeO.none _)
      | (with_reducible refine LeO.ite ?_ ?_)
      | (with_reducible refine LeO.bind ?_ (fun _ => ?_))
      | exact ih0 _ _ _ _ _
      | exact ih1 _ _ _ _ _ _
      | exact ih2 _ _ _ _ _
      | exact ih3 _ _ _ _ _
      | exact ih4 _ _ _ _ _
      | exact ih5 _ _ _ _ _
      | exact ih6 _ _ _ _ _ _
      | exact LeO.none _
      | refine LeO.ite ?_ ?_
      | refine LeO.bind ?_ (fun _ => ?_)
set_option maxHeartbeats 8000000 in
set_option maxRecDepth 100000 in
theorem tailraceref10_Check.calls (k : Nat) (a0_0 : Bool) (A0_1 : Option Addr) (c0_1 : Nat) (l0_1 : List ByteArray) (A0_2 : Option Addr) (c0_2 : Nat) (l0_2 : List ByteArray) (A0_3 : Option Addr) (c0_3 : Nat) (l0_3 : List Int) (r : Int) (w : World) (hr0_1 : Kd.C Kd.string w A0_1 l0_1.length l0_1) (hc0_1 : l0_1.length ≤ c0_1) (hr0_2 : Kd.C Kd.string w A0_2 l0_2.length l0_2) (hc0_2 : l0_2.length ≤ c0_2) (hr0_3 : Kd.C (Kd.int .i64) w A0_3 l0_3.length l0_3) (hc0_3 : l0_3.length ≤ c0_3) (h : tailraceref10_Check.f k a0_0 l0_1 l0_2 l0_3 = some r) :
    Calls Try.prog 14 #[.agg #[.bool a0_0, .slice A0_1 l0_1.length c0_1, .slice A0_2 l0_2.length c0_2, .slice A0_3 l0_3.length c0_3]] w fun e w' => e = .returned (.int .i64 r) ∧ Below w.heap.size w w' := by
  have hu26 := Try.underlying26
  have HR0_1 := Aside0.mk hr0_1
  have HC0_1 := Aside0.mk hc0_1
  clear hr0_1 hc0_1
  have HR0_2 := Aside0.mk hr0_2
  have HC0_2 := Aside0.mk hc0_2
  clear hr0_2 hc0_2
  have HR0_3 := Aside0.mk hr0_3
  have HC0_3 := Aside0.mk hc0_3
  clear hr0_3 hc0_3
  have HB := Aside0.mk (Below.refl w.heap.size w)
  have H : (tailraceref10_Check.l0 k 0 a0_0 l0_1 l0_2 l0_3) = some r := h
  clear h
  have H' := Aside0.mk H
  clear H
  go_enter Try.func14, Try.ntmps14
  go_wp2_with (first | ((with_reducible refine gate_dst (N := 1) rfl ?_); (try (refine gate_guard (by rfl) ?_; dsimp only)); refine box_event ?hg (N := 1) ?hd (cs := #[.bool a0_0, .slice A0_1 l0_1.length c0_1, .slice A0_2 l0_2.length c0_2, .slice A0_3 l0_3.length c0_3]) (t := 26) ?hr ?_; (case hd => rfl); (case hg => rfl); (case hr => first | (go_simp; done) | (go_simp; rfl)); intro gb122 hg w2 hbox hb; have n0_ := Aside0.mk (below_step (by repeat (first | (with_reducible first | exact HB.out | apply below_alloc | apply pw_below_drewN | apply below_drew1) | exact HB.out)) hb); have n1_ := Aside0.mk (hbox); have n2_ := Aside0.mk ((by rw [hg]; exact (below_size (by repeat (first | (with_reducible first | exact HB.out | apply below_alloc | apply pw_below_drewN | apply below_drew1) | exact HB.out))) : w.heap.size ≤ gb122)); have n3_ := Aside0.mk ((by rw [hg]; exact (below_size (by repeat (first | (with_reducible first | exact HB.out | apply below_alloc | apply pw_below_drewN | apply below_drew1) | exact HB.out))) : w.heap.size ≤ gb122)); clear HB; have HB := n0_; have BK122 := n1_; have GW122 := n2_; have GE122 := n3_; clear n0_ n1_ n2_ n3_; clear hb hbox hg))
  repeat (go_quiet (first | ((with_reducible refine gate_dst (N := 1) rfl ?_); (try (refine gate_guard (by rfl) ?_; dsimp only)); refine box_event ?hg (N := 1) ?hd (cs := #[.bool a0_0, .slice A0_1 l0_1.length c0_1, .slice A0_2 l0_2.length c0_2, .slice A0_3 l0_3.length c0_3]) (t := 26) ?hr ?_; (case hd => rfl); (case hg => rfl); (case hr => first | (go_simp; done) | (go_simp; rfl)); intro gb122 hg w2 hbox hb; have n0_ := Aside0.mk (below_step (by repeat (first | (with_reducible first | exact HB.out | apply below_alloc | apply pw_below_drewN | apply below_drew1) | exact HB.out)) hb); have n1_ := Aside0.mk (hbox); have n2_ := Aside0.mk ((by rw [hg]; exact (below_size (by repeat (first | (with_reducible first | exact HB.out | apply below_alloc | apply pw_below_drewN | apply below_drew1) | exact HB.out))) : w.heap.size ≤ gb122)); have n3_ := Aside0.mk ((by rw [hg]; exact (below_size (by repeat (first | (with_reducible first | exact HB.out | apply below_alloc | apply pw_below_drewN | apply below_drew1) | exact HB.out))) : w.heap.size ≤ gb122)); clear HB; have HB := n0_; have BK122 := n1_; have GW122 := n2_; have GE122 := n3_; clear n0_ n1_ n2_ n3_; clear hb hbox hg)); try go_wp2_with (first | ((with_reducible refine gate_dst (N := 1) rfl ?_); (try (refine gate_guard (by rfl) ?_; dsimp only)); refine box_event ?hg (N := 1) ?hd (cs := #[.bool a0_0, .slice A0_1 l0_1.length c0_1, .slice A0_2 l0_2.length c0_2, .slice A0_3 l0_3.length c0_3]) (t := 26) ?hr ?_; (case hd => rfl); (case hg => rfl); (case hr => first | (go_simp; done) | (go_simp; rfl)); intro gb122 hg w2 hbox hb; have n0_ := Aside0.mk (below_step (by repeat (first | (with_reducible first | exact HB.out | apply below_alloc | apply pw_below_drewN | apply below_drew1) | exact HB.out)) hb); have n1_ := Aside0.mk (hbox); have n2_ := Aside0.mk ((by rw [hg]; exact (below_size (by repeat (first | (with_reducible first | exact HB.out | apply below_alloc | apply pw_below_drewN | apply below_drew1) | exact HB.out))) : w.heap.size ≤ gb122)); have n3_ := Aside0.mk ((by rw [hg]; exact (below_size (by repeat (first | (with_reducible first | exact HB.out | apply below_alloc | apply pw_below_drewN | apply below_drew1) | exact HB.out))) : w.heap.size ≤ gb122)); clear HB; have HB := n0_; have BK122 := n1_; have GW122 := n2_; have GE122 := n3_; clear n0_ n1_ n2_ n3_; clear hb hbox hg)))
  go_loopg [3] k (fun kq v3 w' => ∃ (x3_1 : Int), v3 = .int .i64 x3_1 ∧ Aside0 (tailraceref10_Check.l0 kq x3_1 a0_0 l0_1 l0_2 l0_3 = some r) ∧ Aside0 (kq ≤ k) ∧ Aside0 (w'.heap[gb122]? = some (.cells #[.bool a0_0, (.slice A0_1 l0_1.length c0_1), (.slice A0_2 l0_2.length c0_2), (.slice A0_3 l0_3.length c0_3)] 26 (0, 0))) ∧ Aside0 (Below w.heap.size w w'))
  case atStart => exact ⟨(0), (by first | rfl | (simp; done) | (simp [*]; done)), H', ⟨Nat.le_refl _⟩, ⟨by (with_reducible repeat (first | refine blk_drewN ?_ _ | refine blk_drew ?_ | refine blk_alloc ?_ _)); exact BK122.out⟩, ⟨by repeat (first | (with_reducible first | exact HB.out | apply below_alloc | apply pw_below_drewN | apply below_drew1 | refine below_set ?_ GE122.out) | exact HB.out)⟩⟩
  case round =>
    clear H'
    try clear c1
    try clear p2
    obtain ⟨x3_1, rfl, HA, HK1, BK122, HB⟩ := hrel
    cases gk with
    | zero => exact absurd HA.out (by simp [tailraceref10_Check.l0])
    | succ k1 =>
      have H := HA.out
      clear HA
      simp only [tailraceref10_Check.l0] at H
      by_cases c3 : x3_1 < (l0_1.length : Int)
      · rw [if_pos c3] at H
        have c3b0 : decide (x3_1 < (l0_1.length : Int)) = true := decide_eq_true c3
        clear c3
        have HC4 := Aside0.mk H
        clear H
        have hcz5_0 : wr.cell? ⟨gb122, 0, none⟩ = some (.bool a0_0) := (blk_cell BK122.out 0).trans rfl
        have hcz5_1 : wr.cell? ⟨gb122, 1, none⟩ = some (.slice A0_1 l0_1.length c0_1) := (blk_cell BK122.out 1).trans rfl
        have hcz5_2 : wr.cell? ⟨gb122, 2, none⟩ = some (.slice A0_2 l0_2.length c0_2) := (blk_cell BK122.out 2).trans rfl
        have hcz5_3 : wr.cell? ⟨gb122, 3, none⟩ = some (.slice A0_3 l0_3.length c0_3) := (blk_cell BK122.out 3).trans rfl
        have hfz5_0 := blk_frozen BK122.out 0
        have hfz5_1 := blk_frozen BK122.out 1
        have hfz5_2 := blk_frozen BK122.out 2
        have hfz5_3 := blk_frozen BK122.out 3
        go_upto_region 4 with (fail)
        repeat (go_quiet (fail); go_upto_region 4 with (fail))
        go_cut [46] (fun v46 wc => ∃ (kq : Nat) (x46_3 : Bool), v46 = .bool x46_3 ∧ Aside0 (tailraceref10_Check.j1 kq x3_1 x46_3 a0_0 l0_1 l0_2 l0_3 = some r) ∧ Aside0 (kq ≤ k1) ∧ Aside0 (wc.heap[gb122]? = some (.cells #[.bool a0_0, (.slice A0_1 l0_1.length c0_1), (.slice A0_2 l0_2.length c0_2), (.slice A0_3 l0_3.length c0_3)] 26 (0, 0))) ∧ Aside0 (Below w.heap.size w wc))
        case first =>
          have H := HC4.out
          clear HC4
          by_cases c6 : 0 ≤ x3_1
          · rw [if_pos c6] at H
            have c6b0 : decide (0 ≤ x3_1) = true := decide_eq_true c6
            clear c6
            (first | rw [c6b0] | (simp only [i64_w, i32_w]; rw [c6b0]) | skip)
            by_cases c7 : ((rdOf ByteArray.empty l0_1 x3_1).size : Int) < 1
            · rw [if_pos c7] at H
              have c7b0 : decide (((rdOf ByteArray.empty l0_1 x3_1).size : Int) < 1) = true := decide_eq_true c7
              have c7b1 : decide ((rdOf ByteArray.empty l0_1 x3_1).size < 1) = true := decide_eq_true (by omega)
              clear c7
              have H' := Aside0.mk H
              clear H
              have hcz8_0 : wr.cell? ⟨gb122, 0, none⟩ = some (.bool a0_0) := (blk_cell BK122.out 0).trans rfl
              have hcz8_1 : wr.cell? ⟨gb122, 1, none⟩ = some (.slice A0_1 l0_1.length c0_1) := (blk_cell BK122.out 1).trans rfl
              have hcz8_2 : wr.cell? ⟨gb122, 2, none⟩ = some (.slice A0_2 l0_2.length c0_2) := (blk_cell BK122.out 2).trans rfl
              have hcz8_3 : wr.cell? ⟨gb122, 3, none⟩ = some (.slice A0_3 l0_3.length c0_3) := (blk_cell BK122.out 3).trans rfl
              have hfz8_0 := blk_frozen BK122.out 0
              have hfz8_1 := blk_frozen BK122.out 1
              have hfz8_2 := blk_frozen BK122.out 2
              have hfz8_3 := blk_frozen BK122.out 3
              have p123 : 0 ≤ (x3_1 : Int) := of_decide_eq_true (by first | (with_reducible assumption) | assumption)
              have q123 : x3_1 < (l0_1.length : Int) := of_decide_eq_true (by first | (with_reducible assumption) | assumption)
              obtain ⟨ad123, e123, hx123_0⟩ := Kd.at_string HR0_1.out x3_1 p123 q123
              cases e123
              replace hx123_0 := (HB.out.cell (World.block_lt_of_cell? w _ hx123_0)).trans hx123_0
              replace p123 := eq_true p123
              replace q123 := eq_true q123
              go_wp2
              repeat (go_quiet (fail); try go_wp2)
              go_meet
              case rel => exact ⟨_, (true), (by first | rfl | (simp; done) | (simp [*]; done)), H', ⟨by have := HK1.out; first | omega | exact Nat.le_refl _⟩, ⟨by (with_reducible repeat (first | refine blk_drewN ?_ _ | refine blk_drew ?_ | refine blk_alloc ?_ _)); exact BK122.out⟩, ⟨by repeat (first | (with_reducible first | exact HB.out | apply below_alloc | apply pw_below_drewN | apply below_drew1 | refine below_set ?_ GE122.out) | exact HB.out)⟩⟩
            · rw [if_neg c7] at H
              have c7b0 : decide (((rdOf ByteArray.empty l0_1 x3_1).size : Int) < 1) = false := decide_eq_false c7
              have c7b1 : decide ((rdOf ByteArray.empty l0_1 x3_1).size < 1) = false := decide_eq_false (by omega)
              clear c7
              by_cases c9 : ((rdOf ByteArray.empty l0_1 x3_1).size : Int) > 120
              · rw [if_pos c9] at H
                have c9b0 : decide (120 < ((rdOf ByteArray.empty l0_1 x3_1).size : Int)) = true := decide_eq_true c9
                have c9b1 : decide (120 < (rdOf ByteArray.empty l0_1 x3_1).size) = true := decide_eq_true (by omega)
                clear c9
                have H' := Aside0.mk H
                clear H
                have hcz10_0 : wr.cell? ⟨gb122, 0, none⟩ = some (.bool a0_0) := (blk_cell BK122.out 0).trans rfl
                have hcz10_1 : wr.cell? ⟨gb122, 1, none⟩ = some (.slice A0_1 l0_1.length c0_1) := (blk_cell BK122.out 1).trans rfl
                have hcz10_2 : wr.cell? ⟨gb122, 2, none⟩ = some (.slice A0_2 l0_2.length c0_2) := (blk_cell BK122.out 2).trans rfl
                have hcz10_3 : wr.cell? ⟨gb122, 3, none⟩ = some (.slice A0_3 l0_3.length c0_3) := (blk_cell BK122.out 3).trans rfl
                have hfz10_0 := blk_frozen BK122.out 0
                have hfz10_1 := blk_frozen BK122.out 1
                have hfz10_2 := blk_frozen BK122.out 2
                have hfz10_3 := blk_frozen BK122.out 3
                have p123 : 0 ≤ (x3_1 : Int) := of_decide_eq_true (by first | (with_reducible assumption) | assumption)
                have q123 : x3_1 < (l0_1.length : Int) := of_decide_eq_true (by first | (with_reducible assumption) | assumption)
                obtain ⟨ad123, e123, hx123_0⟩ := Kd.at_string HR0_1.out x3_1 p123 q123
                cases e123
                replace hx123_0 := (HB.out.cell (World.block_lt_of_cell? w _ hx123_0)).trans hx123_0
                replace p123 := eq_true p123
                replace q123 := eq_true q123
                have p124 : 0 ≤ (x3_1 : Int) := of_decide_eq_true (by first | (with_reducible assumption) | assumption)
                have q124 : x3_1 < (l0_1.length : Int) := of_decide_eq_true (by first | (with_reducible assumption) | assumption)
                obtain ⟨ad124, e124, hx124_0⟩ := Kd.at_string HR0_1.out x3_1 p124 q124
                obtain rfl : ad123 = ad124 := (by injection e124)
                replace hx124_0 := (HB.out.cell (World.block_lt_of_cell? w _ hx124_0)).trans hx124_0
                replace p124 := eq_true p124
                replace q124 := eq_true q124
                go_wp2
                repeat (go_quiet (fail); try go_wp2)
                go_meet
                case rel => exact ⟨_, (true), (by first | rfl | (simp; done) | (simp [*]; done)), H', ⟨by have := HK1.out; first | omega | exact Nat.le_refl _⟩, ⟨by (with_reducible repeat (first | refine blk_drewN ?_ _ | refine blk_drew ?_ | refine blk_alloc ?_ _)); exact BK122.out⟩, ⟨by repeat (first | (with_reducible first | exact HB.out | apply below_alloc | apply pw_below_drewN | apply below_drew1 | refine below_set ?_ GE122.out) | exact HB.out)⟩⟩
              · rw [if_neg c9] at H
                have c9b0 : decide (120 < ((rdOf ByteArray.empty l0_1 x3_1).size : Int)) = false := decide_eq_false c9
                have c9b1 : decide (120 < (rdOf ByteArray.empty l0_1 x3_1).size) = false := decide_eq_false (by omega)
                clear c9
                by_cases c11 : x3_1 > 0
                · rw [if_pos c11] at H
                  have c11b0 : decide (0 < x3_1) = true := decide_eq_true c11
                  clear c11
                  obtain ⟨ji12, hji12⟩ : ∃ j_ : Int, (wrap64 (x3_1 - 1)) = j_ := ⟨_, rfl⟩
                  replace H : (if 0 ≤ (ji12) then (if (ji12) < (l0_1.length : Int) then (tailraceref10_Check.j1 k1 x3_1 (!(Op.bytesLess ((rdOf ByteArray.empty l0_1 (ji12)).toList) ((rdOf ByteArray.empty l0_1 x3_1).toList))) a0_0 l0_1 l0_2 l0_3) else (none)) else (none)) = some r := by first | (rw [hji12] at H; exact H) | (simp only [hji12] at H ⊢; exact H)
                  have hji12w : (IntKind.i64.wrap (x3_1 - 1)) = ji12 := (i64_w _).trans hji12
                  by_cases c13 : 0 ≤ (ji12)
                  · rw [if_pos c13] at H
                    have c13b0 : decide (0 ≤ (ji12)) = true := decide_eq_true c13
                    clear c13
                    by_cases c14 : (ji12) < (l0_1.length : Int)
                    · rw [if_pos c14] at H
                      have c14b0 : decide ((ji12) < (l0_1.length : Int)) = true := decide_eq_true c14
                      clear c14
                      have H' := Aside0.mk H
                      clear H
                      have hcz15_0 : wr.cell? ⟨gb122, 0, none⟩ = some (.bool a0_0) := (blk_cell BK122.out 0).trans rfl
                      have hcz15_1 : wr.cell? ⟨gb122, 1, none⟩ = some (.slice A0_1 l0_1.length c0_1) := (blk_cell BK122.out 1).trans rfl
                      have hcz15_2 : wr.cell? ⟨gb122, 2, none⟩ = some (.slice A0_2 l0_2.length c0_2) := (blk_cell BK122.out 2).trans rfl
                      have hcz15_3 : wr.cell? ⟨gb122, 3, none⟩ = some (.slice A0_3 l0_3.length c0_3) := (blk_cell BK122.out 3).trans rfl
                      have hfz15_0 := blk_frozen BK122.out 0
                      have hfz15_1 := blk_frozen BK122.out 1
                      have hfz15_2 := blk_frozen BK122.out 2
                      have hfz15_3 := blk_frozen BK122.out 3
                      have p123 : 0 ≤ (x3_1 : Int) := of_decide_eq_true (by first | (with_reducible assumption) | assumption)
                      have q123 : x3_1 < (l0_1.length : Int) := of_decide_eq_true (by first | (with_reducible assumption) | assumption)
                      obtain ⟨ad123, e123, hx123_0⟩ := Kd.at_string HR0_1.out x3_1 p123 q123
                      cases e123
                      replace hx123_0 := (HB.out.cell (World.block_lt_of_cell? w _ hx123_0)).trans hx123_0
                      replace p123 := eq_true p123
                      replace q123 := eq_true q123
                      have p124 : 0 ≤ (x3_1 : Int) := of_decide_eq_true (by first | (with_reducible assumption) | assumption)
                      have q124 : x3_1 < (l0_1.length : Int) := of_decide_eq_true (by first | (with_reducible assumption) | assumption)
                      obtain ⟨ad124, e124, hx124_0⟩ := Kd.at_string HR0_1.out x3_1 p124 q124
                      obtain rfl : ad123 = ad124 := (by injection e124)
                      replace hx124_0 := (HB.out.cell (World.block_lt_of_cell? w _ hx124_0)).trans hx124_0
                      replace p124 := eq_true p124
                      replace q124 := eq_true q124
                      have p125 : 0 ≤ (x3_1 : Int) := of_decide_eq_true (by first | (with_reducible assumption) | assumption)
                      have q125 : x3_1 < (l0_1.length : Int) := of_decide_eq_true (by first | (with_reducible assumption) | assumption)
                      obtain ⟨ad125, e125, hx125_0⟩ := Kd.at_string HR0_1.out x3_1 p125 q125
                      obtain rfl : ad123 = ad125 := (by injection e125)
                      replace hx125_0 := (HB.out.cell (World.block_lt_of_cell? w _ hx125_0)).trans hx125_0
                      replace p125 := eq_true p125
                      replace q125 := eq_true q125
                      have p126 : 0 ≤ ((ji12) : Int) := of_decide_eq_true (by first | (with_reducible assumption) | assumption)
                      have q126 : (ji12) < (l0_1.length : Int) := of_decide_eq_true (by first | (with_reducible assumption) | assumption)
                      obtain ⟨ad126, e126, hx126_0⟩ := Kd.at_string HR0_1.out (ji12) p126 q126
                      obtain rfl : ad123 = ad126 := (by injection e126)
                      replace hx126_0 := (HB.out.cell (World.block_lt_of_cell? w _ hx126_0)).trans hx126_0
                      replace p126 := eq_true p126
                      replace q126 := eq_true q126
                      go_wp2
                      repeat (go_quiet (fail); try go_wp2)
                      go_meet
                      case rel => exact ⟨_, (!(Op.bytesLess ((rdOf ByteArray.empty l0_1 (ji12)).toList) ((rdOf ByteArray.empty l0_1 x3_1).toList))), (by first | rfl | (simp; done) | (simp only [← hji12] <;> (first | rfl | simp)) | (simp [*]; done)), H', ⟨by have := HK1.out; first | omega | exact Nat.le_refl _⟩, ⟨by (with_reducible repeat (first | refine blk_drewN ?_ _ | refine blk_drew ?_ | refine blk_alloc ?_ _)); exact BK122.out⟩, ⟨by repeat (first | (with_reducible first | exact HB.out | apply below_alloc | apply pw_below_drewN | apply below_drew1 | refine below_set ?_ GE122.out) | exact HB.out)⟩⟩
                    · rw [if_neg c14] at H
                      exact absurd H (by simp)
                  · rw [if_neg c13] at H
                    exact absurd H (by simp)
                · rw [if_neg c11] at H
                  have c11b0 : decide (0 < x3_1) = false := decide_eq_false c11
                  clear c11
                  have H' := Aside0.mk H
                  clear H
                  have hcz16_0 : wr.cell? ⟨gb122, 0, none⟩ = some (.bool a0_0) := (blk_cell BK122.out 0).trans rfl
                  have hcz16_1 : wr.cell? ⟨gb122, 1, none⟩ = some (.slice A0_1 l0_1.length c0_1) := (blk_cell BK122.out 1).trans rfl
                  have hcz16_2 : wr.cell? ⟨gb122, 2, none⟩ = some (.slice A0_2 l0_2.length c0_2) := (blk_cell BK122.out 2).trans rfl
                  have hcz16_3 : wr.cell? ⟨gb122, 3, none⟩ = some (.slice A0_3 l0_3.length c0_3) := (blk_cell BK122.out 3).trans rfl
                  have hfz16_0 := blk_frozen BK122.out 0
                  have hfz16_1 := blk_frozen BK122.out 1
                  have hfz16_2 := blk_frozen BK122.out 2
                  have hfz16_3 := blk_frozen BK122.out 3
                  have p123 : 0 ≤ (x3_1 : Int) := of_decide_eq_true (by first | (with_reducible assumption) | assumption)
                  have q123 : x3_1 < (l0_1.length : Int) := of_decide_eq_true (by first | (with_reducible assumption) | assumption)
                  obtain ⟨ad123, e123, hx123_0⟩ := Kd.at_string HR0_1.out x3_1 p123 q123
                  cases e123
                  replace hx123_0 := (HB.out.cell (World.block_lt_of_cell? w _ hx123_0)).trans hx123_0
                  replace p123 := eq_true p123
                  replace q123 := eq_true q123
                  have p124 : 0 ≤ (x3_1 : Int) := of_decide_eq_true (by first | (with_reducible assumption) | assumption)
                  have q124 : x3_1 < (l0_1.length : Int) := of_decide_eq_true (by first | (with_reducible assumption) | assumption)
                  obtain ⟨ad124, e124, hx124_0⟩ := Kd.at_string HR0_1.out x3_1 p124 q124
                  obtain rfl : ad123 = ad124 := (by injection e124)
                  replace hx124_0 := (HB.out.cell (World.block_lt_of_cell? w _ hx124_0)).trans hx124_0
                  replace p124 := eq_true p124
                  replace q124 := eq_true q124
                  go_wp2
                  repeat (go_quiet (fail); try go_wp2)
                  go_meet
                  case rel => exact ⟨_, (false), (by first | rfl | (simp; done) | (simp [*]; done)), H', ⟨by have := HK1.out; first | omega | exact Nat.le_refl _⟩, ⟨by (with_reducible repeat (first | refine blk_drewN ?_ _ | refine blk_drew ?_ | refine blk_alloc ?_ _)); exact BK122.out⟩, ⟨by repeat (first | (with_reducible first | exact HB.out | apply below_alloc | apply pw_below_drewN | apply below_drew1 | refine below_set ?_ GE122.out) | exact HB.out)⟩⟩
          · rw [if_neg c6] at H
            exact absurd H (by simp)
        case rest =>
          clear HC4
          try clear c1
          try clear p1
          try clear q1
          try clear hx1
          try clear p2
          try clear c3
          try clear c3b0
          try clear c6
          try clear c6b0
          try clear p6
          try clear c7
          try clear c7b0
          try clear c7b1
          try clear c9
          try clear c9b0
          try clear c9b1
          try clear c11
          try clear c11b0
          try clear p12
          try clear q12
          try clear hx12
          try clear c13
          try clear c13b0
          try clear c14
          try clear c14b0
          try clear hcz10_0
          try clear hcz10_1
          try clear hcz10_2
          try clear hcz10_3
          try clear hcz15_0
          try clear hcz15_1
          try clear hcz15_2
          try clear hcz15_3
          try clear hcz16_0
          try clear hcz16_1
          try clear hcz16_2
          try clear hcz16_3
          try clear hcz5_0
          try clear hcz5_1
          try clear hcz5_2
          try clear hcz5_3
          try clear hcz8_0
          try clear hcz8_1
          try clear hcz8_2
          try clear hcz8_3
          try clear hfz10_0
          try clear hfz10_1
          try clear hfz10_2
          try clear hfz10_3
          try clear hfz15_0
          try clear hfz15_1
          try clear hfz15_2
          try clear hfz15_3
          try clear hfz16_0
          try clear hfz16_1
          try clear hfz16_2
          try clear hfz16_3
          try clear hfz5_0
          try clear hfz5_1
          try clear hfz5_2
          try clear hfz5_3
          try clear hfz8_0
          try clear hfz8_1
          try clear hfz8_2
          try clear hfz8_3
          try clear hx123_0
          try clear hx124_0
          try clear hx125_0
          try clear hx126_0
          try clear p123
          try clear p124
          try clear p125
          try clear p126
          try clear p2
          try clear q123
          try clear q124
          try clear q125
          try clear q126
          obtain ⟨kq, x46_3, rfl, HA, HJ3, BK122, HB⟩ := hcut
          cases kq with
          | zero => exact absurd HA.out (by simp [tailraceref10_Check.j1])
          | succ kj3 =>
            have H := HA.out
            clear HA
            simp only [tailraceref10_Check.j1] at H
            by_cases c17 : x46_3 = true
            · subst c17
              have H1 : (some 100) = some r := by rw [if_pos rfl] at H; exact H
              clear H
              have H := H1
              clear H1
              obtain rfl := Option.some.inj H
              go_wp2
              repeat (go_quiet (fail); try go_wp2)
              go_ret
              exact ⟨by first | rfl | (simp [errW_none, errW_some] <;> rfl) | (simp [*, errW_none, errW_some] <;> rfl), by repeat (first | (with_reducible first | exact HB.out | apply below_alloc | apply pw_below_drewN | apply below_drew1 | refine below_set ?_ GE122.out) | exact HB.out)⟩
            · replace c17 := Bool.eq_false_iff.mpr c17
              subst c17
              have H1 : (tailraceref10_Check.l0 kj3 (wrap64 (x3_1 + 1)) a0_0 l0_1 l0_2 l0_3) = some r := by rw [if_neg (show ¬ (false = true) by decide)] at H; exact H
              clear H
              have H := H1
              clear H1
              have H' := Aside0.mk H
              clear H
              go_wp2
              repeat (go_quiet (fail); try go_wp2)
              go_roundg kj3
              case measure => have := HK1.out; have := HJ3.out; omega
              case rel => exact ⟨(wrap64 (x3_1 + 1)), (by first | rfl | (simp; done) | (simp [*]; done)), H', ⟨by have := HK1.out; have := HJ3.out; omega⟩, ⟨by (with_reducible repeat (first | refine blk_drewN ?_ _ | refine blk_drew ?_ | refine blk_alloc ?_ _)); exact BK122.out⟩, ⟨by repeat (first | (with_reducible first | exact HB.out | apply below_alloc | apply pw_below_drewN | apply below_drew1 | refine below_set ?_ GE122.out) | exact HB.out)⟩⟩
      · rw [if_neg c3] at H
        have c3b0 : decide (x3_1 < (l0_1.length : Int)) = false := decide_eq_false c3
        clear c3
        by_cases c18 : a0_0 = true
        · subst c18
          have H1 : (if (l0_2.length : Int) = (l0_1.length : Int) then (tailraceref10_Check.j2 k1 (decide ((l0_3.length : Int) > 0)) true l0_1 l0_2 l0_3) else (tailraceref10_Check.j2 k1 true true l0_1 l0_2 l0_3)) = some r := by rw [if_pos rfl] at H; exact H
          clear H
          have H := H1
          clear H1
          have HC19 := Aside0.mk H
          clear H
          have hcz20_0 : wr.cell? ⟨gb122, 0, none⟩ = some (.bool true) := (blk_cell BK122.out 0).trans rfl
          have hcz20_1 : wr.cell? ⟨gb122, 1, none⟩ = some (.slice A0_1 l0_1.length c0_1) := (blk_cell BK122.out 1).trans rfl
          have hcz20_2 : wr.cell? ⟨gb122, 2, none⟩ = some (.slice A0_2 l0_2.length c0_2) := (blk_cell BK122.out 2).trans rfl
          have hcz20_3 : wr.cell? ⟨gb122, 3, none⟩ = some (.slice A0_3 l0_3.length c0_3) := (blk_cell BK122.out 3).trans rfl
          have hfz20_0 := blk_frozen BK122.out 0
          have hfz20_1 := blk_frozen BK122.out 1
          have hfz20_2 := blk_frozen BK122.out 2
          have hfz20_3 := blk_frozen BK122.out 3
          go_upto_region 7 with (fail)
          repeat (go_quiet (fail); go_upto_region 7 with (fail))
          go_cut [61] (fun v61 wc => ∃ (kq : Nat) (x61_18 : Bool), v61 = .bool x61_18 ∧ Aside0 (tailraceref10_Check.j2 kq x61_18 true l0_1 l0_2 l0_3 = some r) ∧ Aside0 (kq ≤ k1) ∧ Aside0 (wc.heap[gb122]? = some (.cells #[.bool true, (.slice A0_1 l0_1.length c0_1), (.slice A0_2 l0_2.length c0_2), (.slice A0_3 l0_3.length c0_3)] 26 (0, 0))) ∧ Aside0 (Below w.heap.size w wc))
          case first =>
            have H := HC19.out
            clear HC19
            by_cases c21 : (l0_2.length : Int) = (l0_1.length : Int)
            · rw [if_pos c21] at H
              have c21b0 : ((l0_2.length : Int) == (l0_1.length : Int)) = true := beq_iff_eq.mpr c21
              have c21b1 : ((l0_2.length : Int) != (l0_1.length : Int)) = false := bne_eq_false_iff_eq.mpr c21
              have c21b2 : (l0_2.length == l0_1.length) = true := by first | simpa using c21 | (simp at c21 ⊢; omega)
              clear c21
              (first | rw [c21b0] | (simp only [i64_w, i32_w]; rw [c21b0]) | skip)
              have H' := Aside0.mk H
              clear H
              have hcz22_0 : wr.cell? ⟨gb122, 0, none⟩ = some (.bool true) := (blk_cell BK122.out 0).trans rfl
              have hcz22_1 : wr.cell? ⟨gb122, 1, none⟩ = some (.slice A0_1 l0_1.length c0_1) := (blk_cell BK122.out 1).trans rfl
              have hcz22_2 : wr.cell? ⟨gb122, 2, none⟩ = some (.slice A0_2 l0_2.length c0_2) := (blk_cell BK122.out 2).trans rfl
              have hcz22_3 : wr.cell? ⟨gb122, 3, none⟩ = some (.slice A0_3 l0_3.length c0_3) := (blk_cell BK122.out 3).trans rfl
              have hfz22_0 := blk_frozen BK122.out 0
              have hfz22_1 := blk_frozen BK122.out 1
              have hfz22_2 := blk_frozen BK122.out 2
              have hfz22_3 := blk_frozen BK122.out 3
              go_wp2
              repeat (go_quiet (fail); try go_wp2)
              go_meet
              case rel => exact ⟨_, (decide ((l0_3.length : Int) > 0)), (by first | rfl | (simp; done) | (simp [*]; done)), H', ⟨by have := HK1.out; first | omega | exact Nat.le_refl _⟩, ⟨by (with_reducible repeat (first | refine blk_drewN ?_ _ | refine blk_drew ?_ | refine blk_alloc ?_ _)); exact BK122.out⟩, ⟨by repeat (first | (with_reducible first | exact HB.out | apply below_alloc | apply pw_below_drewN | apply below_drew1 | refine below_set ?_ GE122.out) | exact HB.out)⟩⟩
            · rw [if_neg c21] at H
              have c21b0 : ((l0_2.length : Int) == (l0_1.length : Int)) = false := beq_eq_false_iff_ne.mpr c21
              have c21b1 : ((l0_2.length : Int) != (l0_1.length : Int)) = true := bne_iff_ne.mpr c21
              have c21b2 : (l0_2.length == l0_1.length) = false := by first | simpa using c21 | (simp at c21 ⊢; omega)
              (first | rw [c21b0] | (simp only [i64_w, i32_w]; rw [c21b0]) | skip)
              have H' := Aside0.mk H
              clear H
              have hcz23_0 : wr.cell? ⟨gb122, 0, none⟩ = some (.bool true) := (blk_cell BK122.out 0).trans rfl
              have hcz23_1 : wr.cell? ⟨gb122, 1, none⟩ = some (.slice A0_1 l0_1.length c0_1) := (blk_cell BK122.out 1).trans rfl
              have hcz23_2 : wr.cell? ⟨gb122, 2, none⟩ = some (.slice A0_2 l0_2.length c0_2) := (blk_cell BK122.out 2).trans rfl
              have hcz23_3 : wr.cell? ⟨gb122, 3, none⟩ = some (.slice A0_3 l0_3.length c0_3) := (blk_cell BK122.out 3).trans rfl
              have hfz23_0 := blk_frozen BK122.out 0
              have hfz23_1 := blk_frozen BK122.out 1
              have hfz23_2 := blk_frozen BK122.out 2
              have hfz23_3 := blk_frozen BK122.out 3
              go_wp2
              repeat (go_quiet (fail); try go_wp2)
              go_meet
              case rel => exact ⟨_, (true), (by first | rfl | (simp; done) | (simp [*]; done)), H', ⟨by have := HK1.out; first | omega | exact Nat.le_refl _⟩, ⟨by (with_reducible repeat (first | refine blk_drewN ?_ _ | refine blk_drew ?_ | refine blk_alloc ?_ _)); exact BK122.out⟩, ⟨by repeat (first | (with_reducible first | exact HB.out | apply below_alloc | apply pw_below_drewN | apply below_drew1 | refine below_set ?_ GE122.out) | exact HB.out)⟩⟩
          case rest =>
            clear HC19
            try clear c1
            try clear p1
            try clear q1
            try clear hx1
            try clear c2
            try clear p2
            try clear c3
            try clear c3b0
            try clear c6
            try clear c6b0
            try clear p6
            try clear c7
            try clear c7b0
            try clear c7b1
            try clear c9
            try clear c9b0
            try clear c9b1
            try clear c11
            try clear c11b0
            try clear p12
            try clear q12
            try clear hx12
            try clear c13
            try clear c13b0
            try clear c14
            try clear c14b0
            try clear c17
            try clear c18
            try clear c21
            try clear c21b0
            try clear c21b1
            try clear c21b2
            try clear hcz10_0
            try clear hcz10_1
            try clear hcz10_2
            try clear hcz10_3
            try clear hcz15_0
            try clear hcz15_1
            try clear hcz15_2
            try clear hcz15_3
            try clear hcz16_0
            try clear hcz16_1
            try clear hcz16_2
            try clear hcz16_3
            try clear hcz20_0
            try clear hcz20_1
            try clear hcz20_2
            try clear hcz20_3
            try clear hcz22_0
            try clear hcz22_1
            try clear hcz22_2
            try clear hcz22_3
            try clear hcz23_0
            try clear hcz23_1
            try clear hcz23_2
            try clear hcz23_3
            try clear hcz5_0
            try clear hcz5_1
            try clear hcz5_2
            try clear hcz5_3
            try clear hcz8_0
            try clear hcz8_1
            try clear hcz8_2
            try clear hcz8_3
            try clear hfz10_0
            try clear hfz10_1
            try clear hfz10_2
            try clear hfz10_3
            try clear hfz15_0
            try clear hfz15_1
            try clear hfz15_2
            try clear hfz15_3
            try clear hfz16_0
            try clear hfz16_1
            try clear hfz16_2
            try clear hfz16_3
            try clear hfz20_0
            try clear hfz20_1
            try clear hfz20_2
            try clear hfz20_3
            try clear hfz22_0
            try clear hfz22_1
            try clear hfz22_2
            try clear hfz22_3
            try clear hfz23_0
            try clear hfz23_1
            try clear hfz23_2
            try clear hfz23_3
            try clear hfz5_0
            try clear hfz5_1
            try clear hfz5_2
            try clear hfz5_3
            try clear hfz8_0
            try clear hfz8_1
            try clear hfz8_2
            try clear hfz8_3
            try clear hx123_0
            try clear hx124_0
            try clear hx125_0
            try clear hx126_0
            try clear p1
            try clear p12
            try clear p123
            try clear p124
            try clear p125
            try clear p126
            try clear p2
            try clear p6
            try clear q1
            try clear q12
            try clear q123
            try clear q124
            try clear q125
            try clear q126
            obtain ⟨kq, x61_18, rfl, HA, HJ18, BK122, HB⟩ := hcut
            cases kq with
            | zero => exact absurd HA.out (by simp [tailraceref10_Check.j2])
            | succ kj18 =>
              have H := HA.out
              clear HA
              simp only [tailraceref10_Check.j2] at H
              by_cases c24 : x61_18 = true
              · subst c24
                have H1 : (some 100) = some r := by rw [if_pos rfl] at H; exact H
                clear H
                have H := H1
                clear H1
                obtain rfl := Option.some.inj H
                go_wp2
                repeat (go_quiet (fail); try go_wp2)
                go_ret
                exact ⟨by first | rfl | (simp [errW_none, errW_some] <;> rfl) | (simp [*, errW_none, errW_some] <;> rfl), by repeat (first | (with_reducible first | exact HB.out | apply below_alloc | apply pw_below_drewN | apply below_drew1 | refine below_set ?_ GE122.out) | exact HB.out)⟩
              · replace c24 := Bool.eq_false_iff.mpr c24
                subst c24
                have H1 : (tailraceref10_Check.l1 kj18 0 true l0_1 l0_2 l0_3) = some r := by rw [if_neg (show ¬ (false = true) by decide)] at H; exact H
                clear H
                have H := H1
                clear H1
                have H' := Aside0.mk H
                clear H
                go_wp2
                repeat (go_quiet (fail); try go_wp2)
                go_loopg [4] kj18 (fun kq v4 w' => ∃ (x4_3 : Int), v4 = .int .i64 x4_3 ∧ Aside0 (tailraceref10_Check.l1 kq x4_3 true l0_1 l0_2 l0_3 = some r) ∧ Aside0 (kq ≤ kj18) ∧ Aside0 (w'.heap[gb122]? = some (.cells #[.bool true, (.slice A0_1 l0_1.length c0_1), (.slice A0_2 l0_2.length c0_2), (.slice A0_3 l0_3.length c0_3)] 26 (0, 0))) ∧ Aside0 (Below w.heap.size w w'))
                case atStart => exact ⟨(0), (by first | rfl | (simp; done) | (simp [*]; done)), H', ⟨Nat.le_refl _⟩, ⟨by (with_reducible repeat (first | refine blk_drewN ?_ _ | refine blk_drew ?_ | refine blk_alloc ?_ _)); exact BK122.out⟩, ⟨by repeat (first | (with_reducible first | exact HB.out | apply below_alloc | apply pw_below_drewN | apply below_drew1 | refine below_set ?_ GE122.out) | exact HB.out)⟩⟩
                case round =>
                  clear H'
                  try clear c1
                  try clear p1
                  try clear q1
                  try clear hx1
                  try clear c2
                  try clear p2
                  try clear c3
                  try clear c3b0
                  try clear c6
                  try clear c6b0
                  try clear p6
                  try clear c7
                  try clear c7b0
                  try clear c7b1
                  try clear c9
                  try clear c9b0
                  try clear c9b1
                  try clear c11
                  try clear c11b0
                  try clear p12
                  try clear q12
                  try clear hx12
                  try clear c13
                  try clear c13b0
                  try clear c14
                  try clear c14b0
                  try clear c17
                  try clear c18
                  try clear c21
                  try clear c21b0
                  try clear c21b1
                  try clear c21b2
                  try clear c24
                  try clear hcz10_0
                  try clear hcz10_1
                  try clear hcz10_2
                  try clear hcz10_3
                  try clear hcz15_0
                  try clear hcz15_1
                  try clear hcz15_2
                  try clear hcz15_3
                  try clear hcz16_0
                  try clear hcz16_1
                  try clear hcz16_2
                  try clear hcz16_3
                  try clear hcz20_0
                  try clear hcz20_1
                  try clear hcz20_2
                  try clear hcz20_3
                  try clear hcz22_0
                  try clear hcz22_1
                  try clear hcz22_2
                  try clear hcz22_3
                  try clear hcz23_0
                  try clear hcz23_1
                  try clear hcz23_2
                  try clear hcz23_3
                  try clear hcz5_0
                  try clear hcz5_1
                  try clear hcz5_2
                  try clear hcz5_3
                  try clear hcz8_0
                  try clear hcz8_1
                  try clear hcz8_2
                  try clear hcz8_3
                  try clear hfz10_0
                  try clear hfz10_1
                  try clear hfz10_2
                  try clear hfz10_3
                  try clear hfz15_0
                  try clear hfz15_1
                  try clear hfz15_2
                  try clear hfz15_3
                  try clear hfz16_0
                  try clear hfz16_1
                  try clear hfz16_2
                  try clear hfz16_3
                  try clear hfz20_0
                  try clear hfz20_1
                  try clear hfz20_2
                  try clear hfz20_3
                  try clear hfz22_0
                  try clear hfz22_1
                  try clear hfz22_2
                  try clear hfz22_3
                  try clear hfz23_0
                  try clear hfz23_1
                  try clear hfz23_2
                  try clear hfz23_3
                  try clear hfz5_0
                  try clear hfz5_1
                  try clear hfz5_2
                  try clear hfz5_3
                  try clear hfz8_0
                  try clear hfz8_1
                  try clear hfz8_2
                  try clear hfz8_3
                  try clear hx123_0
                  try clear hx124_0
                  try clear hx125_0
                  try clear hx126_0
                  try clear p1
                  try clear p12
                  try clear p123
                  try clear p124
                  try clear p125
                  try clear p126
                  try clear p2
                  try clear p6
                  try clear q1
                  try clear q12
                  try clear q123
                  try clear q124
                  try clear q125
                  try clear q126
                  obtain ⟨x4_3, rfl, HA, HK3, BK122, HB⟩ := hrel
                  cases gk with
                  | zero => exact absurd HA.out (by simp [tailraceref10_Check.l1])
                  | succ k3 =>
                    have H := HA.out
                    clear HA
                    simp only [tailraceref10_Check.l1] at H
                    by_cases c25 : x4_3 < (l0_2.length : Int)
                    · rw [if_pos c25] at H
                      have c25b0 : decide (x4_3 < (l0_2.length : Int)) = true := decide_eq_true c25
                      clear c25
                      by_cases c26 : 0 ≤ x4_3
                      · rw [if_pos c26] at H
                        have c26b0 : decide (0 ≤ x4_3) = true := decide_eq_true c26
                        clear c26
                        by_cases c27 : ((rdOf ByteArray.empty l0_2 x4_3).size : Int) > 100
                        · rw [if_pos c27] at H
                          have c27b0 : decide (100 < ((rdOf ByteArray.empty l0_2 x4_3).size : Int)) = true := decide_eq_true c27
                          have c27b1 : decide (100 < (rdOf ByteArray.empty l0_2 x4_3).size) = true := decide_eq_true (by omega)
                          clear c27
                          obtain rfl := Option.some.inj H
                          have hcz28_0 : wr.cell? ⟨gb122, 0, none⟩ = some (.bool true) := (blk_cell BK122.out 0).trans rfl
                          have hcz28_1 : wr.cell? ⟨gb122, 1, none⟩ = some (.slice A0_1 l0_1.length c0_1) := (blk_cell BK122.out 1).trans rfl
                          have hcz28_2 : wr.cell? ⟨gb122, 2, none⟩ = some (.slice A0_2 l0_2.length c0_2) := (blk_cell BK122.out 2).trans rfl
                          have hcz28_3 : wr.cell? ⟨gb122, 3, none⟩ = some (.slice A0_3 l0_3.length c0_3) := (blk_cell BK122.out 3).trans rfl
                          have hfz28_0 := blk_frozen BK122.out 0
                          have hfz28_1 := blk_frozen BK122.out 1
                          have hfz28_2 := blk_frozen BK122.out 2
                          have hfz28_3 := blk_frozen BK122.out 3
                          have p127 : 0 ≤ (x4_3 : Int) := of_decide_eq_true (by first | (with_reducible assumption) | assumption)
                          have q127 : x4_3 < (l0_2.length : Int) := of_decide_eq_true (by first | (with_reducible assumption) | assumption)
                          obtain ⟨ad127, e127, hx127_0⟩ := Kd.at_string HR0_2.out x4_3 p127 q127
                          cases e127
                          replace hx127_0 := (HB.out.cell (World.block_lt_of_cell? w _ hx127_0)).trans hx127_0
                          replace p127 := eq_true p127
                          replace q127 := eq_true q127
                          go_wp2
                          repeat (go_quiet (fail); try go_wp2)
                          go_ret
                          exact ⟨by first | rfl | (simp [errW_none, errW_some] <;> rfl) | (simp [*, errW_none, errW_some] <;> rfl), by repeat (first | (with_reducible first | exact HB.out | apply below_alloc | apply pw_below_drewN | apply below_drew1 | refine below_set ?_ GE122.out) | exact HB.out)⟩
                        · rw [if_neg c27] at H
                          have c27b0 : decide (100 < ((rdOf ByteArray.empty l0_2 x4_3).size : Int)) = false := decide_eq_false c27
                          have c27b1 : decide (100 < (rdOf ByteArray.empty l0_2 x4_3).size) = false := decide_eq_false (by omega)
                          clear c27
                          have H' := Aside0.mk H
                          clear H
                          have hcz29_0 : wr.cell? ⟨gb122, 0, none⟩ = some (.bool true) := (blk_cell BK122.out 0).trans rfl
                          have hcz29_1 : wr.cell? ⟨gb122, 1, none⟩ = some (.slice A0_1 l0_1.length c0_1) := (blk_cell BK122.out 1).trans rfl
                          have hcz29_2 : wr.cell? ⟨gb122, 2, none⟩ = some (.slice A0_2 l0_2.length c0_2) := (blk_cell BK122.out 2).trans rfl
                          have hcz29_3 : wr.cell? ⟨gb122, 3, none⟩ = some (.slice A0_3 l0_3.length c0_3) := (blk_cell BK122.out 3).trans rfl
                          have hfz29_0 := blk_frozen BK122.out 0
                          have hfz29_1 := blk_frozen BK122.out 1
                          have hfz29_2 := blk_frozen BK122.out 2
                          have hfz29_3 := blk_frozen BK122.out 3
                          have p127 : 0 ≤ (x4_3 : Int) := of_decide_eq_true (by first | (with_reducible assumption) | assumption)
                          have q127 : x4_3 < (l0_2.length : Int) := of_decide_eq_true (by first | (with_reducible assumption) | assumption)
                          obtain ⟨ad127, e127, hx127_0⟩ := Kd.at_string HR0_2.out x4_3 p127 q127
                          cases e127
                          replace hx127_0 := (HB.out.cell (World.block_lt_of_cell? w _ hx127_0)).trans hx127_0
                          replace p127 := eq_true p127
                          replace q127 := eq_true q127
                          go_wp2
                          repeat (go_quiet (fail); try go_wp2)
                          go_roundg k3
                          case measure => have := HK1.out; have := HJ18.out; have := HK3.out; omega
                          case rel => exact ⟨(wrap64 (x4_3 + 1)), (by first | rfl | (simp; done) | (simp [*]; done)), H', ⟨by have := HK1.out; have := HJ18.out; have := HK3.out; omega⟩, ⟨by (with_reducible repeat (first | refine blk_drewN ?_ _ | refine blk_drew ?_ | refine blk_alloc ?_ _)); exact BK122.out⟩, ⟨by repeat (first | (with_reducible first | exact HB.out | apply below_alloc | apply pw_below_drewN | apply below_drew1 | refine below_set ?_ GE122.out) | exact HB.out)⟩⟩
                      · rw [if_neg c26] at H
                        exact absurd H (by simp)
                    · rw [if_neg c25] at H
                      have c25b0 : decide (x4_3 < (l0_2.length : Int)) = false := decide_eq_false c25
                      clear c25
                      obtain rfl := Option.some.inj H
                      have hcz30_0 : wr.cell? ⟨gb122, 0, none⟩ = some (.bool true) := (blk_cell BK122.out 0).trans rfl
                      have hcz30_1 : wr.cell? ⟨gb122, 1, none⟩ = some (.slice A0_1 l0_1.length c0_1) := (blk_cell BK122.out 1).trans rfl
                      have hcz30_2 : wr.cell? ⟨gb122, 2, none⟩ = some (.slice A0_2 l0_2.length c0_2) := (blk_cell BK122.out 2).trans rfl
                      have hcz30_3 : wr.cell? ⟨gb122, 3, none⟩ = some (.slice A0_3 l0_3.length c0_3) := (blk_cell BK122.out 3).trans rfl
                      have hfz30_0 := blk_frozen BK122.out 0
                      have hfz30_1 := blk_frozen BK122.out 1
                      have hfz30_2 := blk_frozen BK122.out 2
                      have hfz30_3 := blk_frozen BK122.out 3
                      go_wp2
                      repeat (go_quiet (fail); try go_wp2)
                      go_ret
                      exact ⟨by first | rfl | (simp [errW_none, errW_some] <;> rfl) | (simp [*, errW_none, errW_some] <;> rfl), by repeat (first | (with_reducible first | exact HB.out | apply below_alloc | apply pw_below_drewN | apply below_drew1 | refine below_set ?_ GE122.out) | exact HB.out)⟩
        · replace c18 := Bool.eq_false_iff.mpr c18
          subst c18
          have H1 : (if (l0_1.length : Int) < 1 then (tailraceref10_Check.j4 k1 true false l0_1 l0_2 l0_3) else (if (l0_3.length : Int) = (wrap64 ((l0_1.length : Int) + 1)) then (tailraceref10_Check.j4 k1 (decide ((l0_2.length : Int) > 0)) false l0_1 l0_2 l0_3) else (tailraceref10_Check.j4 k1 true false l0_1 l0_2 l0_3))) = some r := by rw [if_neg (show ¬ (false = true) by decide)] at H; exact H
          clear H
          have H := H1
          clear H1
          have HC31 := Aside0.mk H
          clear H
          have hcz32_0 : wr.cell? ⟨gb122, 0, none⟩ = some (.bool false) := (blk_cell BK122.out 0).trans rfl
          have hcz32_1 : wr.cell? ⟨gb122, 1, none⟩ = some (.slice A0_1 l0_1.length c0_1) := (blk_cell BK122.out 1).trans rfl
          have hcz32_2 : wr.cell? ⟨gb122, 2, none⟩ = some (.slice A0_2 l0_2.length c0_2) := (blk_cell BK122.out 2).trans rfl
          have hcz32_3 : wr.cell? ⟨gb122, 3, none⟩ = some (.slice A0_3 l0_3.length c0_3) := (blk_cell BK122.out 3).trans rfl
          have hfz32_0 := blk_frozen BK122.out 0
          have hfz32_1 := blk_frozen BK122.out 1
          have hfz32_2 := blk_frozen BK122.out 2
          have hfz32_3 := blk_frozen BK122.out 3
          go_upto_region 15 with (fail)
          repeat (go_quiet (fail); go_upto_region 15 with (fail))
          go_cut [95] (fun v95 wc => ∃ (kq : Nat) (x95_30 : Bool), v95 = .bool x95_30 ∧ Aside0 (tailraceref10_Check.j4 kq x95_30 false l0_1 l0_2 l0_3 = some r) ∧ Aside0 (kq ≤ k1) ∧ Aside0 (wc.heap[gb122]? = some (.cells #[.bool false, (.slice A0_1 l0_1.length c0_1), (.slice A0_2 l0_2.length c0_2), (.slice A0_3 l0_3.length c0_3)] 26 (0, 0))) ∧ Aside0 (Below w.heap.size w wc))
          case first =>
            have H := HC31.out
            clear HC31
            by_cases c33 : (l0_1.length : Int) < 1
            · rw [if_pos c33] at H
              have c33b0 : decide ((l0_1.length : Int) < 1) = true := decide_eq_true c33
              have c33b1 : decide (l0_1.length < 1) = true := decide_eq_true (by omega)
              clear c33
              (first | rw [c33b0] | (simp only [i64_w, i32_w]; rw [c33b0]) | skip)
              have H' := Aside0.mk H
              clear H
              have hcz34_0 : wr.cell? ⟨gb122, 0, none⟩ = some (.bool false) := (blk_cell BK122.out 0).trans rfl
              have hcz34_1 : wr.cell? ⟨gb122, 1, none⟩ = some (.slice A0_1 l0_1.length c0_1) := (blk_cell BK122.out 1).trans rfl
              have hcz34_2 : wr.cell? ⟨gb122, 2, none⟩ = some (.slice A0_2 l0_2.length c0_2) := (blk_cell BK122.out 2).trans rfl
              have hcz34_3 : wr.cell? ⟨gb122, 3, none⟩ = some (.slice A0_3 l0_3.length c0_3) := (blk_cell BK122.out 3).trans rfl
              have hfz34_0 := blk_frozen BK122.out 0
              have hfz34_1 := blk_frozen BK122.out 1
              have hfz34_2 := blk_frozen BK122.out 2
              have hfz34_3 := blk_frozen BK122.out 3
              go_wp2
              repeat (go_quiet (fail); try go_wp2)
              go_meet
              case rel => exact ⟨_, (true), (by first | rfl | (simp; done) | (simp [*]; done)), H', ⟨by have := HK1.out; first | omega | exact Nat.le_refl _⟩, ⟨by (with_reducible repeat (first | refine blk_drewN ?_ _ | refine blk_drew ?_ | refine blk_alloc ?_ _)); exact BK122.out⟩, ⟨by repeat (first | (with_reducible first | exact HB.out | apply below_alloc | apply pw_below_drewN | apply below_drew1 | refine below_set ?_ GE122.out) | exact HB.out)⟩⟩
            · rw [if_neg c33] at H
              have c33b0 : decide ((l0_1.length : Int) < 1) = false := decide_eq_false c33
              have c33b1 : decide (l0_1.length < 1) = false := decide_eq_false (by omega)
              clear c33
              (first | rw [c33b0] | (simp only [i64_w, i32_w]; rw [c33b0]) | skip)
              by_cases c35 : (l0_3.length : Int) = (wrap64 ((l0_1.length : Int) + 1))
              · rw [if_pos c35] at H
                have c35b0 : ((l0_3.length : Int) == (wrap64 ((l0_1.length : Int) + 1))) = true := beq_iff_eq.mpr c35
                have c35b1 : ((l0_3.length : Int) != (wrap64 ((l0_1.length : Int) + 1))) = false := bne_eq_false_iff_eq.mpr c35
                clear c35
                have H' := Aside0.mk H
                clear H
                have hcz36_0 : wr.cell? ⟨gb122, 0, none⟩ = some (.bool false) := (blk_cell BK122.out 0).trans rfl
                have hcz36_1 : wr.cell? ⟨gb122, 1, none⟩ = some (.slice A0_1 l0_1.length c0_1) := (blk_cell BK122.out 1).trans rfl
                have hcz36_2 : wr.cell? ⟨gb122, 2, none⟩ = some (.slice A0_2 l0_2.length c0_2) := (blk_cell BK122.out 2).trans rfl
                have hcz36_3 : wr.cell? ⟨gb122, 3, none⟩ = some (.slice A0_3 l0_3.length c0_3) := (blk_cell BK122.out 3).trans rfl
                have hfz36_0 := blk_frozen BK122.out 0
                have hfz36_1 := blk_frozen BK122.out 1
                have hfz36_2 := blk_frozen BK122.out 2
                have hfz36_3 := blk_frozen BK122.out 3
                go_wp2
                repeat (go_quiet (fail); try go_wp2)
                go_meet
                case rel => exact ⟨_, (decide ((l0_2.length : Int) > 0)), (by first | rfl | (simp; done) | (simp [*]; done)), H', ⟨by have := HK1.out; first | omega | exact Nat.le_refl _⟩, ⟨by (with_reducible repeat (first | refine blk_drewN ?_ _ | refine blk_drew ?_ | refine blk_alloc ?_ _)); exact BK122.out⟩, ⟨by repeat (first | (with_reducible first | exact HB.out | apply below_alloc | apply pw_below_drewN | apply below_drew1 | refine below_set ?_ GE122.out) | exact HB.out)⟩⟩
              · rw [if_neg c35] at H
                have c35b0 : ((l0_3.length : Int) == (wrap64 ((l0_1.length : Int) + 1))) = false := beq_eq_false_iff_ne.mpr c35
                have c35b1 : ((l0_3.length : Int) != (wrap64 ((l0_1.length : Int) + 1))) = true := bne_iff_ne.mpr c35
                have H' := Aside0.mk H
                clear H
                have hcz37_0 : wr.cell? ⟨gb122, 0, none⟩ = some (.bool false) := (blk_cell BK122.out 0).trans rfl
                have hcz37_1 : wr.cell? ⟨gb122, 1, none⟩ = some (.slice A0_1 l0_1.length c0_1) := (blk_cell BK122.out 1).trans rfl
                have hcz37_2 : wr.cell? ⟨gb122, 2, none⟩ = some (.slice A0_2 l0_2.length c0_2) := (blk_cell BK122.out 2).trans rfl
                have hcz37_3 : wr.cell? ⟨gb122, 3, none⟩ = some (.slice A0_3 l0_3.length c0_3) := (blk_cell BK122.out 3).trans rfl
                have hfz37_0 := blk_frozen BK122.out 0
                have hfz37_1 := blk_frozen BK122.out 1
                have hfz37_2 := blk_frozen BK122.out 2
                have hfz37_3 := blk_frozen BK122.out 3
                go_wp2
                repeat (go_quiet (fail); try go_wp2)
                go_meet
                case rel => exact ⟨_, (true), (by first | rfl | (simp; done) | (simp [*]; done)), H', ⟨by have := HK1.out; first | omega | exact Nat.le_refl _⟩, ⟨by (with_reducible repeat (first | refine blk_drewN ?_ _ | refine blk_drew ?_ | refine blk_alloc ?_ _)); exact BK122.out⟩, ⟨by repeat (first | (with_reducible first | exact HB.out | apply below_alloc | apply pw_below_drewN | apply below_drew1 | refine below_set ?_ GE122.out) | exact HB.out)⟩⟩
          case rest =>
            clear HC31
            try clear c1
            try clear p1
            try clear q1
            try clear hx1
            try clear c2
            try clear p2
            try clear c3
            try clear c3b0
            try clear c6
            try clear c6b0
            try clear p6
            try clear c7
            try clear c7b0
            try clear c7b1
            try clear c9
            try clear c9b0
            try clear c9b1
            try clear c11
            try clear c11b0
            try clear p12
            try clear q12
            try clear hx12
            try clear c13
            try clear c13b0
            try clear c14
            try clear c14b0
            try clear c17
            try clear c18
            try clear c21
            try clear c21b0
            try clear c21b1
            try clear c21b2
            try clear c24
            try clear c25
            try clear c25b0
            try clear c26
            try clear c26b0
            try clear c27
            try clear c27b0
            try clear c27b1
            try clear c33
            try clear c33b0
            try clear c33b1
            try clear c35
            try clear c35b0
            try clear c35b1
            try clear hcz10_0
            try clear hcz10_1
            try clear hcz10_2
            try clear hcz10_3
            try clear hcz15_0
            try clear hcz15_1
            try clear hcz15_2
            try clear hcz15_3
            try clear hcz16_0
            try clear hcz16_1
            try clear hcz16_2
            try clear hcz16_3
            try clear hcz20_0
            try clear hcz20_1
            try clear hcz20_2
            try clear hcz20_3
            try clear hcz22_0
            try clear hcz22_1
            try clear hcz22_2
            try clear hcz22_3
            try clear hcz23_0
            try clear hcz23_1
            try clear hcz23_2
            try clear hcz23_3
            try clear hcz28_0
            try clear hcz28_1
            try clear hcz28_2
            try clear hcz28_3
            try clear hcz29_0
            try clear hcz29_1
            try clear hcz29_2
            try clear hcz29_3
            try clear hcz30_0
            try clear hcz30_1
            try clear hcz30_2
            try clear hcz30_3
            try clear hcz32_0
            try clear hcz32_1
            try clear hcz32_2
            try clear hcz32_3
            try clear hcz34_0
            try clear hcz34_1
            try clear hcz34_2
            try clear hcz34_3
            try clear hcz36_0
            try clear hcz36_1
            try clear hcz36_2
            try clear hcz36_3
            try clear hcz37_0
            try clear hcz37_1
            try clear hcz37_2
            try clear hcz37_3
            try clear hcz5_0
            try clear hcz5_1
            try clear hcz5_2
            try clear hcz5_3
            try clear hcz8_0
            try clear hcz8_1
            try clear hcz8_2
            try clear hcz8_3
            try clear hfz10_0
            try clear hfz10_1
            try clear hfz10_2
            try clear hfz10_3
            try clear hfz15_0
            try clear hfz15_1
            try clear hfz15_2
            try clear hfz15_3
            try clear hfz16_0
            try clear hfz16_1
            try clear hfz16_2
            try clear hfz16_3
            try clear hfz20_0
            try clear hfz20_1
            try clear hfz20_2
            try clear hfz20_3
            try clear hfz22_0
            try clear hfz22_1
            try clear hfz22_2
            try clear hfz22_3
            try clear hfz23_0
            try clear hfz23_1
            try clear hfz23_2
            try clear hfz23_3
            try clear hfz28_0
            try clear hfz28_1
            try clear hfz28_2
            try clear hfz28_3
            try clear hfz29_0
            try clear hfz29_1
            try clear hfz29_2
            try clear hfz29_3
            try clear hfz30_0
            try clear hfz30_1
            try clear hfz30_2
            try clear hfz30_3
            try clear hfz32_0
            try clear hfz32_1
            try clear hfz32_2
            try clear hfz32_3
            try clear hfz34_0
            try clear hfz34_1
            try clear hfz34_2
            try clear hfz34_3
            try clear hfz36_0
            try clear hfz36_1
            try clear hfz36_2
            try clear hfz36_3
            try clear hfz37_0
            try clear hfz37_1
            try clear hfz37_2
            try clear hfz37_3
            try clear hfz5_0
            try clear hfz5_1
            try clear hfz5_2
            try clear hfz5_3
            try clear hfz8_0
            try clear hfz8_1
            try clear hfz8_2
            try clear hfz8_3
            try clear hx123_0
            try clear hx124_0
            try clear hx125_0
            try clear hx126_0
            try clear hx127_0
            try clear p1
            try clear p12
            try clear p123
            try clear p124
            try clear p125
            try clear p126
            try clear p127
            try clear p2
            try clear p6
            try clear q1
            try clear q12
            try clear q123
            try clear q124
            try clear q125
            try clear q126
            try clear q127
            obtain ⟨kq, x95_30, rfl, HA, HJ30, BK122, HB⟩ := hcut
            cases kq with
            | zero => exact absurd HA.out (by simp [tailraceref10_Check.j4])
            | succ kj30 =>
              have H := HA.out
              clear HA
              simp only [tailraceref10_Check.j4] at H
              by_cases c38 : x95_30 = true
              · subst c38
                have H1 : (some 100) = some r := by rw [if_pos rfl] at H; exact H
                clear H
                have H := H1
                clear H1
                obtain rfl := Option.some.inj H
                go_wp2
                repeat (go_quiet (fail); try go_wp2)
                go_ret
                exact ⟨by first | rfl | (simp [errW_none, errW_some] <;> rfl) | (simp [*, errW_none, errW_some] <;> rfl), by repeat (first | (with_reducible first | exact HB.out | apply below_alloc | apply pw_below_drewN | apply below_drew1 | refine below_set ?_ GE122.out) | exact HB.out)⟩
              · replace c38 := Bool.eq_false_iff.mpr c38
                subst c38
                have H1 : (tailraceref10_Check.l2 kj30 0 false l0_1 l0_2 l0_3) = some r := by rw [if_neg (show ¬ (false = true) by decide)] at H; exact H
                clear H
                have H := H1
                clear H1
                have H' := Aside0.mk H
                clear H
                go_wp2
                repeat (go_quiet (fail); try go_wp2)
                go_loopg [5] kj30 (fun kq v5 w' => ∃ (x5_3 : Int), v5 = .int .i64 x5_3 ∧ Aside0 (tailraceref10_Check.l2 kq x5_3 false l0_1 l0_2 l0_3 = some r) ∧ Aside0 (kq ≤ kj30) ∧ Aside0 (w'.heap[gb122]? = some (.cells #[.bool false, (.slice A0_1 l0_1.length c0_1), (.slice A0_2 l0_2.length c0_2), (.slice A0_3 l0_3.length c0_3)] 26 (0, 0))) ∧ Aside0 (Below w.heap.size w w'))
                case atStart => exact ⟨(0), (by first | rfl | (simp; done) | (simp [*]; done)), H', ⟨Nat.le_refl _⟩, ⟨by (with_reducible repeat (first | refine blk_drewN ?_ _ | refine blk_drew ?_ | refine blk_alloc ?_ _)); exact BK122.out⟩, ⟨by repeat (first | (with_reducible first | exact HB.out | apply below_alloc | apply pw_below_drewN | apply below_drew1 | refine below_set ?_ GE122.out) | exact HB.out)⟩⟩
                case round =>
                  clear H'
                  try clear c1
                  try clear p1
                  try clear q1
                  try clear hx1
                  try clear c2
                  try clear p2
                  try clear c3
                  try clear c3b0
                  try clear c6
                  try clear c6b0
                  try clear p6
                  try clear c7
                  try clear c7b0
                  try clear c7b1
                  try clear c9
                  try clear c9b0
                  try clear c9b1
                  try clear c11
                  try clear c11b0
                  try clear p12
                  try clear q12
                  try clear hx12
                  try clear c13
                  try clear c13b0
                  try clear c14
                  try clear c14b0
                  try clear c17
                  try clear c18
                  try clear c21
                  try clear c21b0
                  try clear c21b1
                  try clear c21b2
                  try clear c24
                  try clear c25
                  try clear c25b0
                  try clear c26
                  try clear c26b0
                  try clear c27
                  try clear c27b0
                  try clear c27b1
                  try clear c33
                  try clear c33b0
                  try clear c33b1
                  try clear c35
                  try clear c35b0
                  try clear c35b1
                  try clear c38
                  try clear hcz10_0
                  try clear hcz10_1
                  try clear hcz10_2
                  try clear hcz10_3
                  try clear hcz15_0
                  try clear hcz15_1
                  try clear hcz15_2
                  try clear hcz15_3
                  try clear hcz16_0
                  try clear hcz16_1
                  try clear hcz16_2
                  try clear hcz16_3
                  try clear hcz20_0
                  try clear hcz20_1
                  try clear hcz20_2
                  try clear hcz20_3
                  try clear hcz22_0
                  try clear hcz22_1
                  try clear hcz22_2
                  try clear hcz22_3
                  try clear hcz23_0
                  try clear hcz23_1
                  try clear hcz23_2
                  try clear hcz23_3
                  try clear hcz28_0
                  try clear hcz28_1
                  try clear hcz28_2
                  try clear hcz28_3
                  try clear hcz29_0
                  try clear hcz29_1
                  try clear hcz29_2
                  try clear hcz29_3
                  try clear hcz30_0
                  try clear hcz30_1
                  try clear hcz30_2
                  try clear hcz30_3
                  try clear hcz32_0
                  try clear hcz32_1
                  try clear hcz32_2
                  try clear hcz32_3
                  try clear hcz34_0
                  try clear hcz34_1
                  try clear hcz34_2
                  try clear hcz34_3
                  try clear hcz36_0
                  try clear hcz36_1
                  try clear hcz36_2
                  try clear hcz36_3
                  try clear hcz37_0
                  try clear hcz37_1
                  try clear hcz37_2
                  try clear hcz37_3
                  try clear hcz5_0
                  try clear hcz5_1
                  try clear hcz5_2
                  try clear hcz5_3
                  try clear hcz8_0
                  try clear hcz8_1
                  try clear hcz8_2
                  try clear hcz8_3
                  try clear hfz10_0
                  try clear hfz10_1
                  try clear hfz10_2
                  try clear hfz10_3
                  try clear hfz15_0
                  try clear hfz15_1
                  try clear hfz15_2
                  try clear hfz15_3
                  try clear hfz16_0
                  try clear hfz16_1
                  try clear hfz16_2
                  try clear hfz16_3
                  try clear hfz20_0
                  try clear hfz20_1
                  try clear hfz20_2
                  try clear hfz20_3
                  try clear hfz22_0
                  try clear hfz22_1
                  try clear hfz22_2
                  try clear hfz22_3
                  try clear hfz23_0
                  try clear hfz23_1
                  try clear hfz23_2
                  try clear hfz23_3
                  try clear hfz28_0
                  try clear hfz28_1
                  try clear hfz28_2
                  try clear hfz28_3
                  try clear hfz29_0
                  try clear hfz29_1
                  try clear hfz29_2
                  try clear hfz29_3
                  try clear hfz30_0
                  try clear hfz30_1
                  try clear hfz30_2
                  try clear hfz30_3
                  try clear hfz32_0
                  try clear hfz32_1
                  try clear hfz32_2
                  try clear hfz32_3
                  try clear hfz34_0
                  try clear hfz34_1
                  try clear hfz34_2
                  try clear hfz34_3
                  try clear hfz36_0
                  try clear hfz36_1
                  try clear hfz36_2
                  try clear hfz36_3
                  try clear hfz37_0
                  try clear hfz37_1
                  try clear hfz37_2
                  try clear hfz37_3
                  try clear hfz5_0
                  try clear hfz5_1
                  try clear hfz5_2
                  try clear hfz5_3
                  try clear hfz8_0
                  try clear hfz8_1
                  try clear hfz8_2
                  try clear hfz8_3
                  try clear hx123_0
                  try clear hx124_0
                  try clear hx125_0
                  try clear hx126_0
                  try clear hx127_0
                  try clear p1
                  try clear p12
                  try clear p123
                  try clear p124
                  try clear p125
                  try clear p126
                  try clear p127
                  try clear p2
                  try clear p6
                  try clear q1
                  try clear q12
                  try clear q123
                  try clear q124
                  try clear q125
                  try clear q126
                  try clear q127
                  obtain ⟨x5_3, rfl, HA, HK3, BK122, HB⟩ := hrel
                  cases gk with
                  | zero => exact absurd HA.out (by simp [tailraceref10_Check.l2])
                  | succ k3 =>
                    have H := HA.out
                    clear HA
                    simp only [tailraceref10_Check.l2] at H
                    by_cases c39 : x5_3 < (l0_3.length : Int)
                    · rw [if_pos c39] at H
                      have c39b0 : decide (x5_3 < (l0_3.length : Int)) = true := decide_eq_true c39
                      clear c39
                      have HC40 := Aside0.mk H
                      clear H
                      have hcz41_0 : wr.cell? ⟨gb122, 0, none⟩ = some (.bool false) := (blk_cell BK122.out 0).trans rfl
                      have hcz41_1 : wr.cell? ⟨gb122, 1, none⟩ = some (.slice A0_1 l0_1.length c0_1) := (blk_cell BK122.out 1).trans rfl
                      have hcz41_2 : wr.cell? ⟨gb122, 2, none⟩ = some (.slice A0_2 l0_2.length c0_2) := (blk_cell BK122.out 2).trans rfl
                      have hcz41_3 : wr.cell? ⟨gb122, 3, none⟩ = some (.slice A0_3 l0_3.length c0_3) := (blk_cell BK122.out 3).trans rfl
                      have hfz41_0 := blk_frozen BK122.out 0
                      have hfz41_1 := blk_frozen BK122.out 1
                      have hfz41_2 := blk_frozen BK122.out 2
                      have hfz41_3 := blk_frozen BK122.out 3
                      go_upto_region 20 with (fail)
                      repeat (go_quiet (fail); go_upto_region 20 with (fail))
                      go_cut [116] (fun v116 wc => ∃ (kq : Nat) (x116_39 : Bool), v116 = .bool x116_39 ∧ Aside0 (tailraceref10_Check.j6 kq x5_3 x116_39 false l0_1 l0_2 l0_3 = some r) ∧ Aside0 (kq ≤ k3) ∧ Aside0 (wc.heap[gb122]? = some (.cells #[.bool false, (.slice A0_1 l0_1.length c0_1), (.slice A0_2 l0_2.length c0_2), (.slice A0_3 l0_3.length c0_3)] 26 (0, 0))) ∧ Aside0 (Below w.heap.size w wc))
                      case first =>
                        have H := HC40.out
                        clear HC40
                        by_cases c42 : 0 ≤ x5_3
                        · rw [if_pos c42] at H
                          have c42b0 : decide (0 ≤ x5_3) = true := decide_eq_true c42
                          clear c42
                          (first | rw [c42b0] | (simp only [i64_w, i32_w]; rw [c42b0]) | skip)
                          by_cases c43 : (rd l0_3 x5_3) < 2
                          · rw [if_pos c43] at H
                            have c43b0 : decide ((rd l0_3 x5_3) < 2) = true := decide_eq_true c43
                            clear c43
                            have H' := Aside0.mk H
                            clear H
                            have hcz44_0 : wr.cell? ⟨gb122, 0, none⟩ = some (.bool false) := (blk_cell BK122.out 0).trans rfl
                            have hcz44_1 : wr.cell? ⟨gb122, 1, none⟩ = some (.slice A0_1 l0_1.length c0_1) := (blk_cell BK122.out 1).trans rfl
                            have hcz44_2 : wr.cell? ⟨gb122, 2, none⟩ = some (.slice A0_2 l0_2.length c0_2) := (blk_cell BK122.out 2).trans rfl
                            have hcz44_3 : wr.cell? ⟨gb122, 3, none⟩ = some (.slice A0_3 l0_3.length c0_3) := (blk_cell BK122.out 3).trans rfl
                            have hfz44_0 := blk_frozen BK122.out 0
                            have hfz44_1 := blk_frozen BK122.out 1
                            have hfz44_2 := blk_frozen BK122.out 2
                            have hfz44_3 := blk_frozen BK122.out 3
                            have p128 : 0 ≤ (x5_3 : Int) := of_decide_eq_true (by first | (with_reducible assumption) | assumption)
                            have q128 : x5_3 < (l0_3.length : Int) := of_decide_eq_true (by first | (with_reducible assumption) | assumption)
                            obtain ⟨ad128, e128, hx128_0⟩ := Kd.at_int HR0_3.out x5_3 p128 q128
                            cases e128
                            replace hx128_0 := (HB.out.cell (World.block_lt_of_cell? w _ hx128_0)).trans hx128_0
                            replace p128 := eq_true p128
                            replace q128 := eq_true q128
                            go_wp2
                            repeat (go_quiet (fail); try go_wp2)
                            go_meet
                            case rel => exact ⟨_, (true), (by first | rfl | (simp; done) | (simp [*]; done)), H', ⟨by have := HK1.out; have := HJ30.out; have := HK3.out; first | omega | exact Nat.le_refl _⟩, ⟨by (with_reducible repeat (first | refine blk_drewN ?_ _ | refine blk_drew ?_ | refine blk_alloc ?_ _)); exact BK122.out⟩, ⟨by repeat (first | (with_reducible first | exact HB.out | apply below_alloc | apply pw_below_drewN | apply below_drew1 | refine below_set ?_ GE122.out) | exact HB.out)⟩⟩
                          · rw [if_neg c43] at H
                            have c43b0 : decide ((rd l0_3 x5_3) < 2) = false := decide_eq_false c43
                            clear c43
                            have H' := Aside0.mk H
                            clear H
                            have hcz45_0 : wr.cell? ⟨gb122, 0, none⟩ = some (.bool false) := (blk_cell BK122.out 0).trans rfl
                            have hcz45_1 : wr.cell? ⟨gb122, 1, none⟩ = some (.slice A0_1 l0_1.length c0_1) := (blk_cell BK122.out 1).trans rfl
                            have hcz45_2 : wr.cell? ⟨gb122, 2, none⟩ = some (.slice A0_2 l0_2.length c0_2) := (blk_cell BK122.out 2).trans rfl
                            have hcz45_3 : wr.cell? ⟨gb122, 3, none⟩ = some (.slice A0_3 l0_3.length c0_3) := (blk_cell BK122.out 3).trans rfl
                            have hfz45_0 := blk_frozen BK122.out 0
                            have hfz45_1 := blk_frozen BK122.out 1
                            have hfz45_2 := blk_frozen BK122.out 2
                            have hfz45_3 := blk_frozen BK122.out 3
                            have p128 : 0 ≤ (x5_3 : Int) := of_decide_eq_true (by first | (with_reducible assumption) | assumption)
                            have q128 : x5_3 < (l0_3.length : Int) := of_decide_eq_true (by first | (with_reducible assumption) | assumption)
                            obtain ⟨ad128, e128, hx128_0⟩ := Kd.at_int HR0_3.out x5_3 p128 q128
                            cases e128
                            replace hx128_0 := (HB.out.cell (World.block_lt_of_cell? w _ hx128_0)).trans hx128_0
                            replace p128 := eq_true p128
                            replace q128 := eq_true q128
                            have p129 : 0 ≤ (x5_3 : Int) := of_decide_eq_true (by first | (with_reducible assumption) | assumption)
                            have q129 : x5_3 < (l0_3.length : Int) := of_decide_eq_true (by first | (with_reducible assumption) | assumption)
                            obtain ⟨ad129, e129, hx129_0⟩ := Kd.at_int HR0_3.out x5_3 p129 q129
                            obtain rfl : ad128 = ad129 := (by injection e129)
                            replace hx129_0 := (HB.out.cell (World.block_lt_of_cell? w _ hx129_0)).trans hx129_0
                            replace p129 := eq_true p129
                            replace q129 := eq_true q129
                            go_wp2
                            repeat (go_quiet (fail); try go_wp2)
                            go_meet
                            case rel => exact ⟨_, (decide ((rd l0_3 x5_3) > 2147483647)), (by first | rfl | (simp; done) | (simp [*]; done)), H', ⟨by have := HK1.out; have := HJ30.out; have := HK3.out; first | omega | exact Nat.le_refl _⟩, ⟨by (with_reducible repeat (first | refine blk_drewN ?_ _ | refine blk_drew ?_ | refine blk_alloc ?_ _)); exact BK122.out⟩, ⟨by repeat (first | (with_reducible first | exact HB.out | apply below_alloc | apply pw_below_drewN | apply below_drew1 | refine below_set ?_ GE122.out) | exact HB.out)⟩⟩
                        · rw [if_neg c42] at H
                          exact absurd H (by simp)
                      case rest =>
                        clear HC40
                        try clear c1
                        try clear p1
                        try clear q1
                        try clear hx1
                        try clear c2
                        try clear p2
                        try clear c3
                        try clear c3b0
                        try clear c4
                        try clear c6
                        try clear c6b0
                        try clear p6
                        try clear c7
                        try clear c7b0
                        try clear c7b1
                        try clear c9
                        try clear c9b0
                        try clear c9b1
                        try clear c11
                        try clear c11b0
                        try clear p12
                        try clear q12
                        try clear hx12
                        try clear c13
                        try clear c13b0
                        try clear c14
                        try clear c14b0
                        try clear c17
                        try clear c18
                        try clear c21
                        try clear c21b0
                        try clear c21b1
                        try clear c21b2
                        try clear c24
                        try clear c25
                        try clear c25b0
                        try clear c26
                        try clear c26b0
                        try clear c27
                        try clear c27b0
                        try clear c27b1
                        try clear c33
                        try clear c33b0
                        try clear c33b1
                        try clear c35
                        try clear c35b0
                        try clear c35b1
                        try clear c38
                        try clear c39
                        try clear c39b0
                        try clear c42
                        try clear c42b0
                        try clear c43
                        try clear c43b0
                        try clear hcz10_0
                        try clear hcz10_1
                        try clear hcz10_2
                        try clear hcz10_3
                        try clear hcz15_0
                        try clear hcz15_1
                        try clear hcz15_2
                        try clear hcz15_3
                        try clear hcz16_0
                        try clear hcz16_1
                        try clear hcz16_2
                        try clear hcz16_3
                        try clear hcz20_0
                        try clear hcz20_1
                        try clear hcz20_2
                        try clear hcz20_3
                        try clear hcz22_0
                        try clear hcz22_1
                        try clear hcz22_2
                        try clear hcz22_3
                        try clear hcz23_0
                        try clear hcz23_1
                        try clear hcz23_2
                        try clear hcz23_3
                        try clear hcz28_0
                        try clear hcz28_1
                        try clear hcz28_2
                        try clear hcz28_3
                        try clear hcz29_0
                        try clear hcz29_1
                        try clear hcz29_2
                        try clear hcz29_3
                        try clear hcz30_0
                        try clear hcz30_1
                        try clear hcz30_2
                        try clear hcz30_3
                        try clear hcz32_0
                        try clear hcz32_1
                        try clear hcz32_2
                        try clear hcz32_3
                        try clear hcz34_0
                        try clear hcz34_1
                        try clear hcz34_2
                        try clear hcz34_3
                        try clear hcz36_0
                        try clear hcz36_1
                        try clear hcz36_2
                        try clear hcz36_3
                        try clear hcz37_0
                        try clear hcz37_1
                        try clear hcz37_2
                        try clear hcz37_3
                        try clear hcz41_0
                        try clear hcz41_1
                        try clear hcz41_2
                        try clear hcz41_3
                        try clear hcz44_0
                        try clear hcz44_1
                        try clear hcz44_2
                        try clear hcz44_3
                        try clear hcz45_0
                        try clear hcz45_1
                        try clear hcz45_2
                        try clear hcz45_3
                        try clear hcz5_0
                        try clear hcz5_1
                        try clear hcz5_2
                        try clear hcz5_3
                        try clear hcz8_0
                        try clear hcz8_1
                        try clear hcz8_2
                        try clear hcz8_3
                        try clear hfz10_0
                        try clear hfz10_1
                        try clear hfz10_2
                        try clear hfz10_3
                        try clear hfz15_0
                        try clear hfz15_1
                        try clear hfz15_2
                        try clear hfz15_3
                        try clear hfz16_0
                        try clear hfz16_1
                        try clear hfz16_2
                        try clear hfz16_3
                        try clear hfz20_0
                        try clear hfz20_1
                        try clear hfz20_2
                        try clear hfz20_3
                        try clear hfz22_0
                        try clear hfz22_1
                        try clear hfz22_2
                        try clear hfz22_3
                        try clear hfz23_0
                        try clear hfz23_1
                        try clear hfz23_2
                        try clear hfz23_3
                        try clear hfz28_0
                        try clear hfz28_1
                        try clear hfz28_2
                        try clear hfz28_3
                        try clear hfz29_0
                        try clear hfz29_1
                        try clear hfz29_2
                        try clear hfz29_3
                        try clear hfz30_0
                        try clear hfz30_1
                        try clear hfz30_2
                        try clear hfz30_3
                        try clear hfz32_0
                        try clear hfz32_1
                        try clear hfz32_2
                        try clear hfz32_3
                        try clear hfz34_0
                        try clear hfz34_1
                        try clear hfz34_2
                        try clear hfz34_3
                        try clear hfz36_0
                        try clear hfz36_1
                        try clear hfz36_2
                        try clear hfz36_3
                        try clear hfz37_0
                        try clear hfz37_1
                        try clear hfz37_2
                        try clear hfz37_3
                        try clear hfz41_0
                        try clear hfz41_1
                        try clear hfz41_2
                        try clear hfz41_3
                        try clear hfz44_0
                        try clear hfz44_1
                        try clear hfz44_2
                        try clear hfz44_3
                        try clear hfz45_0
                        try clear hfz45_1
                        try clear hfz45_2
                        try clear hfz45_3
                        try clear hfz5_0
                        try clear hfz5_1
                        try clear hfz5_2
                        try clear hfz5_3
                        try clear hfz8_0
                        try clear hfz8_1
                        try clear hfz8_2
                        try clear hfz8_3
                        try clear hx123_0
                        try clear hx124_0
                        try clear hx125_0
                        try clear hx126_0
                        try clear hx127_0
                        try clear hx128_0
                        try clear hx129_0
                        try clear p1
                        try clear p12
                        try clear p123
                        try clear p124
                        try clear p125
                        try clear p126
                        try clear p127
                        try clear p128
                        try clear p129
                        try clear p2
                        try clear p6
                        try clear q1
                        try clear q12
                        try clear q123
                        try clear q124
                        try clear q125
                        try clear q126
                        try clear q127
                        try clear q128
                        try clear q129
                        obtain ⟨kq, x116_39, rfl, HA, HJ39, BK122, HB⟩ := hcut
                        cases kq with
                        | zero => exact absurd HA.out (by simp [tailraceref10_Check.j6])
                        | succ kj39 =>
                          have H := HA.out
                          clear HA
                          simp only [tailraceref10_Check.j6] at H
                          by_cases c46 : x116_39 = true
                          · subst c46
                            have H1 : (some 100) = some r := by rw [if_pos rfl] at H; exact H
                            clear H
                            have H := H1
                            clear H1
                            obtain rfl := Option.some.inj H
                            go_wp2
                            repeat (go_quiet (fail); try go_wp2)
                            go_ret
                            exact ⟨by first | rfl | (simp [errW_none, errW_some] <;> rfl) | (simp [*, errW_none, errW_some] <;> rfl), by repeat (first | (with_reducible first | exact HB.out | apply below_alloc | apply pw_below_drewN | apply below_drew1 | refine below_set ?_ GE122.out) | exact HB.out)⟩
                          · replace c46 := Bool.eq_false_iff.mpr c46
                            subst c46
                            have H1 : (tailraceref10_Check.l2 kj39 (wrap64 (x5_3 + 1)) false l0_1 l0_2 l0_3) = some r := by rw [if_neg (show ¬ (false = true) by decide)] at H; exact H
                            clear H
                            have H := H1
                            clear H1
                            have H' := Aside0.mk H
                            clear H
                            go_wp2
                            repeat (go_quiet (fail); try go_wp2)
                            go_roundg kj39
                            case measure => have := HK1.out; have := HJ30.out; have := HK3.out; have := HJ39.out; omega
                            case rel => exact ⟨(wrap64 (x5_3 + 1)), (by first | rfl | (simp; done) | (simp [*]; done)), H', ⟨by have := HK1.out; have := HJ30.out; have := HK3.out; have := HJ39.out; omega⟩, ⟨by (with_reducible repeat (first | refine blk_drewN ?_ _ | refine blk_drew ?_ | refine blk_alloc ?_ _)); exact BK122.out⟩, ⟨by repeat (first | (with_reducible first | exact HB.out | apply below_alloc | apply pw_below_drewN | apply below_drew1 | refine below_set ?_ GE122.out) | exact HB.out)⟩⟩
                    · rw [if_neg c39] at H
                      have c39b0 : decide (x5_3 < (l0_3.length : Int)) = false := decide_eq_false c39
                      clear c39
                      obtain rfl := Option.some.inj H
                      have hcz47_0 : wr.cell? ⟨gb122, 0, none⟩ = some (.bool false) := (blk_cell BK122.out 0).trans rfl
                      have hcz47_1 : wr.cell? ⟨gb122, 1, none⟩ = some (.slice A0_1 l0_1.length c0_1) := (blk_cell BK122.out 1).trans rfl
                      have hcz47_2 : wr.cell? ⟨gb122, 2, none⟩ = some (.slice A0_2 l0_2.length c0_2) := (blk_cell BK122.out 2).trans rfl
                      have hcz47_3 : wr.cell? ⟨gb122, 3, none⟩ = some (.slice A0_3 l0_3.length c0_3) := (blk_cell BK122.out 3).trans rfl
                      have hfz47_0 := blk_frozen BK122.out 0
                      have hfz47_1 := blk_frozen BK122.out 1
                      have hfz47_2 := blk_frozen BK122.out 2
                      have hfz47_3 := blk_frozen BK122.out 3
                      go_wp2
                      repeat (go_quiet (fail); try go_wp2)
                      go_ret
                      exact ⟨by first | rfl | (simp [errW_none, errW_some] <;> rfl) | (simp [*, errW_none, errW_some] <;> rfl), by repeat (first | (with_reducible first | exact HB.out | apply below_alloc | apply pw_below_drewN | apply below_drew1 | refine below_set ?_ GE122.out) | exact HB.out)⟩

end Go.Proofs.Ytdjiclphnoepcaa.P
