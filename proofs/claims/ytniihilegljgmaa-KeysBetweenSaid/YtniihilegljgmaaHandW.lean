/- The calls at the head of all statements of layer 2 answer as they should. -/
import Derived.Test.YtniihilegljgmaaHandD
import Derived.Test.YtniihilegljgmaaHandR
import Derived.Test.YtniihilegljgmaaPx2
set_option linter.unusedVariables false
set_option linter.unusedSimpArgs false
namespace Go.Proofs.Ytniihilegljgmaa.P
open Go.RowKit Go.Proofs.YtniihilegljgmaaW.PrintWords Go.Proofs.YtniihilegljgmaaW.PrintLast Go.Proofs.YtniihilegljgmaaW.PrintMore Go.Proofs.YtniihilegljgmaaOwn
theorem up1 : keys_Row.f [⟨2, 0, ⟨#[97]⟩⟩] = some [2, 97, 0, 0] := by kernel_rfl
theorem up2 : keys_Decode.f [2, 97, 0] = some ([], 20) := by kernel_rfl
theorem up3 : keys_Decode.f [] = some ([], 0) := by kernel_rfl
theorem up4 : keys_Next.f 50 [1, 255] = some ([2], true) := by kernel_rfl
theorem up5 : keys_Next.f 50 [255] = some ([], false) := by kernel_rfl
theorem up6 : tailraceref02_Same.f [2, 97, 0, 0] [2, 97, 0, 0] = some true := by simp [tailraceref02_Same.f]
theorem up7 : tailraceref02_Same.f [2] [2] = some true := by simp [tailraceref02_Same.f]
theorem up8 : keys_Cmp.f [1] [2] = some (-1) := by kernel_rfl
theorem lit_B (W : World) (xs : List Int) (hx : xs.length ≤ 1000) : Kd.C (Kd.int .u8) (W.alloc (.cells (nums .u8 xs).toArray 5)) (some ⟨W.heap.size, 0, none⟩) xs.length xs := by
  have h : Kd.R (Kd.int .u8) 5 (W.alloc (.cells (nums .u8 xs).toArray 5)) W.heap.size (fun _ => True) (.slice (some ⟨W.heap.size, 0, none⟩) xs.length xs.length) xs := ⟨fun _ _ => trivial, OwnRow.lit W W.heap.size (inner := nums .u8 xs) (ps := xs) (Kd.reps_scalar xs) (Nat.le_refl _) (by omega)⟩
  obtain ⟨A, c, he, hl, hr⟩ := Kd.R_reads h
  injection he with h1 h2 h3
  subst h1
  exact hr
theorem lit_V (W : World) (v : S38) : Kd.C k38 (W.alloc (.cells #[.int .i64 v.f0, .int .i64 v.f1, .string v.f2] 38)) (some ⟨W.heap.size, 0, none⟩) 1 [v] := by
  have h : Kd.R k38 38 (W.alloc (.cells #[.int .i64 v.f0, .int .i64 v.f1, .string v.f2] 38)) W.heap.size (fun _ => True) (.slice (some ⟨W.heap.size, 0, none⟩) 1 1) [v] :=
    ⟨fun _ _ => trivial, OwnRow.lit W W.heap.size (inner := [.int .i64 v.f0, .int .i64 v.f1, .string v.f2]) (ps := [v]) (Reps.c3 (k38_mkM _ _ _ v) (Reps.none _ _)) (Nat.le_refl _) (by simp)⟩
  obtain ⟨A, c, he, hl, hr⟩ := Kd.R_reads h
  injection he with h1 h2 h3
  subst h1
  exact hr
def tailracelaw02_awake.f : Option Bool := some true
set_option maxHeartbeats 8000000 in
set_option maxRecDepth 100000 in
theorem tailracelaw02_awake.calls (r : Bool) (w : World) (h : tailracelaw02_awake.f = some r) :
    Calls Try.prog 10 #[] w fun e w' => e = .returned (.bool r) ∧ Below w.heap.size w w' := by
  obtain rfl : true = r := Option.some.inj h
  clear h
  have hu := Try.underlying38
  have T1 : True := trivial
  go_enter Try.func10, Try.ntmps10
  go_wp2_with
    (first
      | (go_at_call 15; refine (keys_Row.calls (some ⟨w.heap.size, 0, none⟩) 1 [⟨2, 0, ⟨#[97]⟩⟩] [2, 97, 0, 0] _ (lit_V w ⟨2, 0, ⟨#[97]⟩⟩) (Nat.le_refl _) up1).mono ?_
         rintro e w1 ⟨v1, rfl, hR, hb⟩
         obtain ⟨A1, c1, rfl, hc1, hC1⟩ := Kd.R_reads hR
         have HC1 := Aside0.mk (And.intro hc1 hC1)
         have HB1 := Aside0.mk (below_step (below_alloc (Below.refl _ w) _) hb)
         clear hR hb hc1 hC1)
      | (go_at_call 12; guard_hyp T1; refine (keys_Decode.calls (some ⟨w1.heap.size, 0, none⟩) 3 [2, 97, 0] [] 20 _ (by have h := lit_B w1 [2, 97, 0] (by decide); simpa [nums] using h) (Nat.le_refl _) up2).mono ?_
         rintro e w2 ⟨v2, rfl, hR, hb⟩
         obtain ⟨A2, c2, rfl⟩ := Kd.R_slice hR
         have HC2 := Aside0.mk (And.intro HC1.out.1 (Kd.C_below (Kd.C_alloc HC1.out.2 _) hb))
         have HB2 := Aside0.mk (below_step (below_alloc HB1.out _) hb)
         clear hR hb T1)
      | (go_at_call 12; guard_hyp HB2; refine (keys_Decode.calls none 0 [] [] 0 _ (Kd.C_nil _ _) (Nat.le_refl _) up3).mono ?_
         rintro e w3 ⟨v3, rfl, hR, hb⟩
         obtain ⟨A3, c3, rfl⟩ := Kd.R_slice hR
         have HC3 := Aside0.mk (And.intro HC2.out.1 (Kd.C_below HC2.out.2 hb))
         have HB3 := Aside0.mk (below_step HB2.out hb)
         have T2 : True := trivial
         clear hR hb)
      | (go_at_call 18; guard_hyp T2; refine (keys_Next.calls 50 (some ⟨w3.heap.size, 0, none⟩) 2 [1, 255] [2] true _ (by have h := lit_B w3 [1, 255] (by decide); simpa [nums] using h) (Nat.le_refl _) up4).mono ?_
         rintro e w4 ⟨v4, rfl, hR, hb⟩
         obtain ⟨A4, c4, rfl, hc4, hC4⟩ := Kd.R_reads hR
         have HC4 := Aside0.mk (And.intro HC3.out.1 (Kd.C_below (Kd.C_alloc HC3.out.2 _) hb))
         have HN4 := Aside0.mk (And.intro hc4 hC4)
         have HB4 := Aside0.mk (below_step (below_alloc HB3.out _) hb)
         clear hR hb T2 hc4 hC4)
      | (go_at_call 18; guard_hyp HB4; refine (keys_Next.calls 50 (some ⟨w4.heap.size, 0, none⟩) 1 [255] [] false _ (by have h := lit_B w4 [255] (by decide); simpa [nums] using h) (Nat.le_refl _) up5).mono ?_
         rintro e w5 ⟨v5, rfl, hR, hb⟩
         obtain ⟨A5, c5, rfl⟩ := Kd.R_slice hR
         have HC5 := Aside0.mk (And.intro HC4.out.1 (Kd.C_below (Kd.C_alloc HC4.out.2 _) hb))
         have HN5 := Aside0.mk (And.intro HN4.out.1 (Kd.C_below (Kd.C_alloc HN4.out.2 _) hb))
         have HB5 := Aside0.mk (below_step (below_alloc HB4.out _) hb)
         have T3 : True := trivial
         clear hR hb)
      | (go_at_call 14; guard_hyp T3; refine (tailraceref02_Same.calls A1 c1 [2, 97, 0, 0] (some ⟨w5.heap.size, 0, none⟩) 4 [2, 97, 0, 0] true _ (Kd.C_alloc HC5.out.2 _) HC5.out.1 (by have h := lit_B w5 [2, 97, 0, 0] (by decide); simpa [nums] using h) (Nat.le_refl _) up6).mono ?_
         rintro e w6 ⟨rfl, hd⟩
         have hb := Drawn0.below hd
         have HN6 := Aside0.mk (And.intro HN5.out.1 (Kd.C_below (Kd.C_alloc HN5.out.2 _) hb))
         have HB6 := Aside0.mk (below_step (below_alloc HB5.out _) hb)
         clear hd hb T3)
      | (go_at_call 14; guard_hyp HB6; refine (tailraceref02_Same.calls A4 c4 [2] (some ⟨w6.heap.size, 0, none⟩) 1 [2] true _ (Kd.C_alloc HN6.out.2 _) HN6.out.1 (by have h := lit_B w6 [2] (by decide); simpa [nums] using h) (Nat.le_refl _) up7).mono ?_
         rintro e w7 ⟨rfl, hd⟩
         have hb := Drawn0.below hd
         have HB7 := Aside0.mk (below_step (below_alloc HB6.out _) hb)
         clear hd hb)
      | (go_at_call 20; refine (keys_Cmp.calls (some ⟨w7.heap.size, 0, none⟩) 1 [1] (some ⟨w7.heap.size + 1, 0, none⟩) 1 [2] (-1) _ (Kd.C_alloc (by have h := lit_B w7 [1] (by decide); simpa [nums] using h) _) (Nat.le_refl _) (by have h := lit_B (w7.alloc (.cells #[.int .u8 1] 5)) [2] (by decide); rw [World.size_alloc] at h; simpa [nums] using h) (Nat.le_refl _) up8).mono ?_
         rintro e w9 ⟨rfl, hd⟩
         have HB9 := Aside0.mk (below_step (below_alloc (below_alloc HB7.out _) _) (Drawn0.below hd))
         clear hd))
  go_ret
  exact ⟨rfl, HB9.out⟩
end Go.Proofs.Ytniihilegljgmaa.P
