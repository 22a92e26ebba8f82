/- KeysBetween, by hand. -/
import Derived.Test.YtniihilegljgmaaK2
import Derived.Deep.LoopGhost
import Derived.Outline
import Derived.BigQuiet
set_option linter.unusedVariables false
set_option linter.unusedSimpArgs false
namespace Go.Proofs.Ytniihilegljgmaa.P
open Go.RowKit Go.Proofs.YtniihilegljgmaaW.PrintWords Go.Proofs.YtniihilegljgmaaW.PrintLast Go.Proofs.YtniihilegljgmaaW.PrintMore Go.Proofs.YtniihilegljgmaaOwn
/-- What begins with some is from these on, and ahead of what is behind all such. -/
theorem begins_in : ∀ (b t : List Int), cmpL cmpI b (b ++ t) ≤ 0 ∧ ∀ n, nxt b = some n → cmpL cmpI (b ++ t) n = -1
  | [], t => by
    refine ⟨?_, fun n h => by simp [nxt] at h⟩
    cases t <;> simp [cmpL]
  | x :: r, t => by
    have ih := begins_in r t
    refine ⟨?_, fun n h => ?_⟩
    · simp only [List.cons_append, cmpL, cm_int.self, if_true]; exact ih.1
    · simp only [nxt] at h
      split at h
      · rename_i m hm
        cases h
        simp only [List.cons_append, cmpL, cm_int.self, if_true]
        exact ih.2 m hm
      · split at h
        · cases h
        · cases h
          have e : cmpI x (x + 1) = -1 := by unfold cmpI; rw [if_pos (by omega)]
          simp only [List.cons_append, cmpL, e]
          rfl
theorem begins_out : ∀ (b c : List Int), Byt b → Byt c → ¬ c.take b.length = b → cmpL cmpI b c ≤ 0 → ∃ n, nxt b = some n ∧ ¬ cmpL cmpI c n < 0
  | [], c, _, _, h, _ => absurd (by simp) h
  | x :: r, [], _, _, _, h => by simp [cmpL] at h
  | x :: r, y :: d, hb, hc, h, hle => by
    have hx := hb x (by simp)
    have hy := hc y (by simp)
    simp only [cmpL] at hle
    rcases (by omega : x < y ∨ x = y ∨ y < x) with hlt | rfl | hgt
    · have e : cmpI y x = 1 := by unfold cmpI; rw [if_neg (by omega), if_pos hlt]
      rcases hn : nxt r with _ | m
      · refine ⟨[x + 1], by simp only [nxt, hn]; rw [if_neg (by omega)], ?_⟩
        simp only [cmpL]
        by_cases hz : y = x + 1
        · subst hz
          rw [if_pos (cm_int.self _)]
          cases d <;> simp [cmpL]
        · have e2 : cmpI y (x + 1) = 1 := by unfold cmpI; rw [if_neg (by omega), if_pos (by omega)]
          rw [e2, if_neg (by decide)]; decide
      · refine ⟨x :: m, by simp only [nxt, hn], ?_⟩
        simp only [cmpL, e]
        rw [if_neg (by decide)]; decide
    · rw [if_pos (cm_int.self x)] at hle
      obtain ⟨n, h1, h2⟩ := begins_out r d (fun z hz => hb z (by simp [hz])) (fun z hz => hc z (by simp [hz])) (fun hq => h (by simp [hq])) hle
      refine ⟨x :: n, by simp only [nxt, h1], ?_⟩
      simp only [cmpL]
      rw [if_pos (cm_int.self x)]; exact h2
    · have e : cmpI x y = 1 := by unfold cmpI; rw [if_neg (by omega), if_pos hgt]
      rw [e, if_neg (by decide)] at hle
      exact absurd hle (by decide)
theorem nxt_none : ∀ b : List Int, nxt b = none ↔ b.all (fun x => x == 255) = true
  | [] => by simp [nxt]
  | x :: r => by
    have ih := nxt_none r
    simp only [nxt, List.all_cons, Bool.and_eq_true]
    rcases hn : nxt r with _ | m
    · simp only [ih.1 hn, and_true]
      by_cases h : x = 255
      · simp [h]
      · simp [h]
    · have : ¬ r.all (fun x => x == 255) = true := fun h => by rw [ih.2 h] at hn; cases hn
      simp [this]
theorem all_take (l : List Int) (i : Nat) (h : i < l.length) : (l.take (i + 1)).all (fun x => x == 255) = ((l.take i).all (fun x => x == 255) && (l.getD i 0 == 255)) := by
  rw [List.take_succ_eq_append_getElem h, List.all_append]
  simp [List.getD_eq_getElem?_getD, h]
def Ends (w : World) (e : Ending) (w' : World) : Prop := e = .returned (.bool true) ∧ Below w.heap.size w w'
set_option maxHeartbeats 8000000 in
set_option maxRecDepth 100000 in
theorem between_big (A0 : Option Addr) (c0 : Nat) (l0 : List Int) (A1 : Option Addr) (c1 : Nat) (l1 : List Int) (w : World) (h : 2000 < l0.length ∨ 2000 < l1.length) :
    Calls Try.prog 7 #[.slice A0 l0.length c0, .slice A1 l1.length c1] w (Ends w) := by
  by_cases h0 : 2000 < l0.length
  · have hp : (2000 : Int) < (l0.length : Int) := by omega
    have hd : decide ((2000 : Int) < (l0.length : Int)) = true := decide_eq_true hp
    clear h h0
    go_enter Try.func7, Try.ntmps7
    go_wp2_with
      (go_at_call 10; refine (tailracelaw02_awake.calls true _ rfl).mono ?_
       rintro e w1 ⟨rfl, hb⟩
       have HB1 := Aside0.mk hb
       clear hb)
    go_ret
    exact ⟨rfl, HB1.out⟩
  · have hp : ¬ (2000 : Int) < (l0.length : Int) := by omega
    have hd : decide ((2000 : Int) < (l0.length : Int)) = false := decide_eq_false hp
    have hp1 : (2000 : Int) < (l1.length : Int) := by omega
    have hd1 : decide ((2000 : Int) < (l1.length : Int)) = true := decide_eq_true hp1
    clear h h0
    go_enter Try.func7, Try.ntmps7
    go_wp2_with
      (go_at_call 10; refine (tailracelaw02_awake.calls true _ rfl).mono ?_
       rintro e w1 ⟨rfl, hb⟩
       have HB1 := Aside0.mk hb
       clear hb)
    go_ret
    exact ⟨rfl, HB1.out⟩
set_option maxHeartbeats 8000000 in
set_option maxRecDepth 100000 in
theorem walk_ge1 (A0 : Option Addr) (c0 : Nat) (l0 : List Int) (A1 : Option Addr) (c1 : Nat) (l1 : List Int) (w : World) (hr0 : Aside0 (Kd.C (Kd.int .u8) w A0 l0.length l0)) (hc0 : Aside0 (l0.length ≤ c0)) (hr1 : Aside0 (Kd.C (Kd.int .u8) w A1 l1.length l1)) (hc1 : Aside0 (l1.length ≤ c1))
    (h0 : Aside0 (l0.length ≤ 2000)) (h1 : Aside0 (l1.length ≤ 2000))
    (BG : Bool) (hse : ((strOfNums (l1.take l0.length)).toList == (strOfNums l0).toList) = BG) (hl : (l0.length : Int) ≤ (l1.length : Int))
    (n : List Int) (is : Bool) (HN : Aside0 (keys_Next.f 5000 l0 = some (n, is))) (x : Int) (HC : Aside0 (keys_Cmp.f l0 l1 = some x))
    (hx : ¬ x ≤ 0) (HBG : Aside0 (BG = false))
    (hnz : 0 < l0.length) (HF : Aside0 (is = !(l0.all (fun x => x == 255)))) :
    Calls Try.prog 7 #[.slice A0 l0.length c0, .slice A1 l1.length c1] w (Ends w) := by
  have hp : ¬ (2000 : Int) < (l0.length : Int) := by have := h0.out; omega
  have hd : decide ((2000 : Int) < (l0.length : Int)) = false := decide_eq_false hp
  have hp1 : ¬ (2000 : Int) < (l1.length : Int) := by have := h1.out; omega
  have hd1 : decide ((2000 : Int) < (l1.length : Int)) = false := decide_eq_false hp1
  have hxd : decide (x ≤ 0) = false := decide_eq_false hx
  obtain rfl : BG = false := HBG.out
  obtain ⟨i0, hi, hzz⟩ := Option.map_eq_some_iff.1 info5
  simp only [Prod.mk.injEq] at hzz
  obtain ⟨_, hz1, _⟩ := hzz
  have HTK := Aside0.mk (show ∀ W : World, Kd.C (Kd.int .u8) W A1 l1.length l1 → Kd.C (Kd.int .u8) W A1 l0.length (l1.take l0.length) from fun W h => by have h2 := Kd.C_take h (show l0.length ≤ l1.length by omega); rw [List.length_take, Nat.min_eq_left (by omega)] at h2; exact h2)
  have ks : ∀ W : World, (Instr.slice 24 (.slice A1 l1.length c1) none (some (.int .i64 (l0.length : Int))) none).run Try.prog W = .ok (.slice A1 l0.length c1) W := fun W => by
    have := hc1.out
    simpa using cut_to (P := Try.prog) 24 5 .i64 Try.underlying24 hi A1 l1.length c1 (l0.length : Int) (by omega) (by omega) (by omega) W
  have HSE := Aside0.mk hse
  clear hi hz1 hse
  have hld : decide ((l0.length : Int) ≤ (l1.length : Int)) = true := decide_eq_true hl
  have hnp : (0 : Int) < (l0.length : Int) := by omega
  have hzd : decide ((0 : Int) < (l0.length : Int)) = true := decide_eq_true hnp
  have hzq : ((l0.length : Int) == 0) = false := by rw [beq_eq_false_iff_ne]; omega
  have HNZ := Aside0.mk hnz
  clear hnz
  go_enter Try.func7, Try.ntmps7
  go_wp2_with
    (first
      | (go_at_call 10; refine (tailracelaw02_awake.calls true _ rfl).mono ?_
         rintro e w1 ⟨rfl, hb⟩
         have HB1 := Aside0.mk hb
         have HR0 := Aside0.mk (Kd.C_below hr0.out hb)
         have HR1 := Aside0.mk (Kd.C_below hr1.out hb)
         have hcv0 := fun n : Nat => Kd.C_string (P := Try.prog) (w := w1.drewN n) (A := A0) (c := c0) Try.underlying24 Try.underlying5 Try.underlying9 HR0.out
         have hcv1 := fun n : Nat => Kd.C_string (P := Try.prog) (w := w1.drewN n) (A := A1) (c := c1) Try.underlying24 Try.underlying5 Try.underlying9 (HTK.out _ HR1.out)
         clear hb))
  go_quiet (fail)
  rw [HSE.out]
  clear hcv0 hcv1
  generalize hw2 : w1.drewN nq = w2
  have HB2 := Aside0.mk (show Below w.heap.size w w2 by rw [← hw2]; exact below_step HB1.out (Drawn0.below (Drawn0.step (Drawn0.refl _) nq)))
  have HQ0 := Aside0.mk (show Kd.C (Kd.int .u8) w2 A0 l0.length l0 by rw [← hw2]; exact HR0.out)
  have HQ1 := Aside0.mk (show Kd.C (Kd.int .u8) w2 A1 l1.length l1 by rw [← hw2]; exact HR1.out)
  clear hw2
  go_wp2_with
    (first
      | (go_at_call 18; refine (keys_Next.calls 5000 A0 c0 l0 n is _ HQ0.out hc0.out HN.out).mono ?_
         rintro e w3 ⟨v3, rfl, hR, hb⟩
         obtain ⟨A2, c2, rfl, hc2, hC2⟩ := Kd.R_reads hR
         have HB3 := Aside0.mk (below_step HB2.out hb)
         have HS0 := Aside0.mk (Kd.C_below HQ0.out hb)
         have HS1 := Aside0.mk (Kd.C_below HQ1.out hb)
         have HS2 := Aside0.mk (And.intro hc2 hC2)
         have T1 : True := trivial
         clear hb hR hc2 hC2)
      | (go_at_call 20; guard_hyp T1; refine (keys_Cmp.calls A0 c0 l0 A1 c1 l1 x _ HS0.out hc0.out HS1.out hc1.out HC.out).mono ?_
         rintro e w4 ⟨rfl, hdr⟩
         have hb := Drawn0.below hdr
         have HB4 := Aside0.mk (below_step HB3.out hb)
         have HU0 := Aside0.mk (Kd.C_below HS0.out hb)
         have HU1 := Aside0.mk (Kd.C_below HS1.out hb)
         have HU2 := Aside0.mk (And.intro HS2.out.1 (Kd.C_below HS2.out.2 hb))
         clear hdr hb T1))
  obtain ⟨wo, hwo⟩ : ∃ wo : World, wo = w4 := ⟨_, rfl⟩
  go_loopg [10, 11] l0.length (fun gk v10 v11 wr => ∃ i : Nat, v10 = .bool ((l0.take i).all (fun x => x == 255)) ∧ v11 = .int .i64 i ∧ Aside0 (gk + i = l0.length ∧ wr = wo))
  case atStart => exact ⟨0, by have := HNZ.out; simp [this], rfl, ⟨by omega, hwo.symm⟩⟩
  case round =>
    obtain ⟨i, rfl, rfl, HX⟩ := hrel
    obtain rfl : wo = wr := HX.out.2.symm
    subst hwo
    by_cases hi : (i : Int) < (l0.length : Int)
    · have hid : decide ((i : Int) < (l0.length : Int)) = true := decide_eq_true hi
      have hlt : i < l0.length := by omega
      obtain ⟨ad, rfl, y0⟩ := Kd.at_int HU0.out (i : Int) (by omega) (by omega)
      rw [Int.toNat_natCast] at y0
      have HT := Aside0.mk (all_take l0 i hlt)
      have e0 : rd l0 (i : Int) = l0.getD i 0 := by simp [rd]
      rw [e0] at y0
      clear e0
      generalize l0.getD i 0 = z at y0 HT
      have hi0 : (0 : Int) ≤ (i : Int) := by omega
      have hwr : IntKind.i64.wrap ((i : Int) + 1) = ((i + 1 : Nat) : Int) := by have := h0.out; rw [IntWalk.i64_in _ (by omega)]; omega
      have HLT := Aside0.mk hlt
      clear hlt
      generalize hF : (l0.take i).all (fun x => x == 255) = F at *
      cases F
      · go_wp2
        go_roundg (l0.length - (i + 1))
        case measure => have := HX.out.1; have := HLT.out; omega
        case rel => exact ⟨i + 1, by rw [HT.out]; rfl, by first | rfl | (rw [hwr]), ⟨by have := HX.out.1; have := HLT.out; omega, rfl⟩⟩
      · generalize hzb : (z == 255) = zb at *
        go_wp2
        go_roundg (l0.length - (i + 1))
        case measure => have := HX.out.1; have := HLT.out; omega
        case rel => exact ⟨i + 1, by rw [HT.out]; rfl, by first | rfl | (rw [hwr]), ⟨by have := HX.out.1; have := HLT.out; omega, rfl⟩⟩
    · have hid : decide ((i : Int) < (l0.length : Int)) = false := decide_eq_false hi
      have hie : i = l0.length := by have := HX.out.1; omega
      have HFF : Aside0 (is = !((l0.take i).all (fun x => x == 255))) := by rw [hie, List.take_length]; exact HF
      clear hie HF
      generalize (l0.take i).all (fun x => x == 255) = F at *
      go_wp2
      go_ret
      exact ⟨by rw [HFF.out]; simp, HB4.out⟩
set_option maxHeartbeats 8000000 in
set_option maxRecDepth 100000 in
theorem walk_ge2 (A0 : Option Addr) (c0 : Nat) (l0 : List Int) (A1 : Option Addr) (c1 : Nat) (l1 : List Int) (w : World) (hr0 : Aside0 (Kd.C (Kd.int .u8) w A0 l0.length l0)) (hc0 : Aside0 (l0.length ≤ c0)) (hr1 : Aside0 (Kd.C (Kd.int .u8) w A1 l1.length l1)) (hc1 : Aside0 (l1.length ≤ c1))
    (h0 : Aside0 (l0.length ≤ 2000)) (h1 : Aside0 (l1.length ≤ 2000))
    (BG : Bool) (hse : ((strOfNums (l1.take l0.length)).toList == (strOfNums l0).toList) = BG) (hl : (l0.length : Int) ≤ (l1.length : Int))
    (n : List Int) (is : Bool) (HN : Aside0 (keys_Next.f 5000 l0 = some (n, is))) (x : Int) (HC : Aside0 (keys_Cmp.f l0 l1 = some x))
    (hx : x ≤ 0) (his : is = false) (HBG : Aside0 (BG = true))
    (hnz : 0 < l0.length) (HF : Aside0 (is = !(l0.all (fun x => x == 255)))) :
    Calls Try.prog 7 #[.slice A0 l0.length c0, .slice A1 l1.length c1] w (Ends w) := by
  have hp : ¬ (2000 : Int) < (l0.length : Int) := by have := h0.out; omega
  have hd : decide ((2000 : Int) < (l0.length : Int)) = false := decide_eq_false hp
  have hp1 : ¬ (2000 : Int) < (l1.length : Int) := by have := h1.out; omega
  have hd1 : decide ((2000 : Int) < (l1.length : Int)) = false := decide_eq_false hp1
  have hxd : decide (x ≤ 0) = true := decide_eq_true hx
  subst his
  obtain rfl : BG = true := HBG.out
  obtain ⟨i0, hi, hzz⟩ := Option.map_eq_some_iff.1 info5
  simp only [Prod.mk.injEq] at hzz
  obtain ⟨_, hz1, _⟩ := hzz
  have HTK := Aside0.mk (show ∀ W : World, Kd.C (Kd.int .u8) W A1 l1.length l1 → Kd.C (Kd.int .u8) W A1 l0.length (l1.take l0.length) from fun W h => by have h2 := Kd.C_take h (show l0.length ≤ l1.length by omega); rw [List.length_take, Nat.min_eq_left (by omega)] at h2; exact h2)
  have ks : ∀ W : World, (Instr.slice 24 (.slice A1 l1.length c1) none (some (.int .i64 (l0.length : Int))) none).run Try.prog W = .ok (.slice A1 l0.length c1) W := fun W => by
    have := hc1.out
    simpa using cut_to (P := Try.prog) 24 5 .i64 Try.underlying24 hi A1 l1.length c1 (l0.length : Int) (by omega) (by omega) (by omega) W
  have HSE := Aside0.mk hse
  clear hi hz1 hse
  have hld : decide ((l0.length : Int) ≤ (l1.length : Int)) = true := decide_eq_true hl
  have hnp : (0 : Int) < (l0.length : Int) := by omega
  have hzd : decide ((0 : Int) < (l0.length : Int)) = true := decide_eq_true hnp
  have hzq : ((l0.length : Int) == 0) = false := by rw [beq_eq_false_iff_ne]; omega
  have HNZ := Aside0.mk hnz
  clear hnz
  go_enter Try.func7, Try.ntmps7
  go_wp2_with
    (first
      | (go_at_call 10; refine (tailracelaw02_awake.calls true _ rfl).mono ?_
         rintro e w1 ⟨rfl, hb⟩
         have HB1 := Aside0.mk hb
         have HR0 := Aside0.mk (Kd.C_below hr0.out hb)
         have HR1 := Aside0.mk (Kd.C_below hr1.out hb)
         have hcv0 := fun n : Nat => Kd.C_string (P := Try.prog) (w := w1.drewN n) (A := A0) (c := c0) Try.underlying24 Try.underlying5 Try.underlying9 HR0.out
         have hcv1 := fun n : Nat => Kd.C_string (P := Try.prog) (w := w1.drewN n) (A := A1) (c := c1) Try.underlying24 Try.underlying5 Try.underlying9 (HTK.out _ HR1.out)
         clear hb))
  go_quiet (fail)
  rw [HSE.out]
  clear hcv0 hcv1
  generalize hw2 : w1.drewN nq = w2
  have HB2 := Aside0.mk (show Below w.heap.size w w2 by rw [← hw2]; exact below_step HB1.out (Drawn0.below (Drawn0.step (Drawn0.refl _) nq)))
  have HQ0 := Aside0.mk (show Kd.C (Kd.int .u8) w2 A0 l0.length l0 by rw [← hw2]; exact HR0.out)
  have HQ1 := Aside0.mk (show Kd.C (Kd.int .u8) w2 A1 l1.length l1 by rw [← hw2]; exact HR1.out)
  clear hw2
  go_wp2_with
    (first
      | (go_at_call 18; refine (keys_Next.calls 5000 A0 c0 l0 n false _ HQ0.out hc0.out HN.out).mono ?_
         rintro e w3 ⟨v3, rfl, hR, hb⟩
         obtain ⟨A2, c2, rfl, hc2, hC2⟩ := Kd.R_reads hR
         have HB3 := Aside0.mk (below_step HB2.out hb)
         have HS0 := Aside0.mk (Kd.C_below HQ0.out hb)
         have HS1 := Aside0.mk (Kd.C_below HQ1.out hb)
         have HS2 := Aside0.mk (And.intro hc2 hC2)
         have T1 : True := trivial
         clear hb hR hc2 hC2)
      | (go_at_call 20; guard_hyp T1; refine (keys_Cmp.calls A0 c0 l0 A1 c1 l1 x _ HS0.out hc0.out HS1.out hc1.out HC.out).mono ?_
         rintro e w4 ⟨rfl, hdr⟩
         have hb := Drawn0.below hdr
         have HB4 := Aside0.mk (below_step HB3.out hb)
         have HU0 := Aside0.mk (Kd.C_below HS0.out hb)
         have HU1 := Aside0.mk (Kd.C_below HS1.out hb)
         have HU2 := Aside0.mk (And.intro HS2.out.1 (Kd.C_below HS2.out.2 hb))
         clear hdr hb T1))
  obtain ⟨wo, hwo⟩ : ∃ wo : World, wo = w4 := ⟨_, rfl⟩
  go_loopg [10, 11] l0.length (fun gk v10 v11 wr => ∃ i : Nat, v10 = .bool ((l0.take i).all (fun x => x == 255)) ∧ v11 = .int .i64 i ∧ Aside0 (gk + i = l0.length ∧ wr = wo))
  case atStart => exact ⟨0, by have := HNZ.out; simp [this], rfl, ⟨by omega, hwo.symm⟩⟩
  case round =>
    obtain ⟨i, rfl, rfl, HX⟩ := hrel
    obtain rfl : wo = wr := HX.out.2.symm
    subst hwo
    by_cases hi : (i : Int) < (l0.length : Int)
    · have hid : decide ((i : Int) < (l0.length : Int)) = true := decide_eq_true hi
      have hlt : i < l0.length := by omega
      obtain ⟨ad, rfl, y0⟩ := Kd.at_int HU0.out (i : Int) (by omega) (by omega)
      rw [Int.toNat_natCast] at y0
      have HT := Aside0.mk (all_take l0 i hlt)
      have e0 : rd l0 (i : Int) = l0.getD i 0 := by simp [rd]
      rw [e0] at y0
      clear e0
      generalize l0.getD i 0 = z at y0 HT
      have hi0 : (0 : Int) ≤ (i : Int) := by omega
      have hwr : IntKind.i64.wrap ((i : Int) + 1) = ((i + 1 : Nat) : Int) := by have := h0.out; rw [IntWalk.i64_in _ (by omega)]; omega
      have HLT := Aside0.mk hlt
      clear hlt
      generalize hF : (l0.take i).all (fun x => x == 255) = F at *
      cases F
      · go_wp2
        go_roundg (l0.length - (i + 1))
        case measure => have := HX.out.1; have := HLT.out; omega
        case rel => exact ⟨i + 1, by rw [HT.out]; rfl, by first | rfl | (rw [hwr]), ⟨by have := HX.out.1; have := HLT.out; omega, rfl⟩⟩
      · generalize hzb : (z == 255) = zb at *
        go_wp2
        go_roundg (l0.length - (i + 1))
        case measure => have := HX.out.1; have := HLT.out; omega
        case rel => exact ⟨i + 1, by rw [HT.out]; rfl, by first | rfl | (rw [hwr]), ⟨by have := HX.out.1; have := HLT.out; omega, rfl⟩⟩
    · have hid : decide ((i : Int) < (l0.length : Int)) = false := decide_eq_false hi
      have hie : i = l0.length := by have := HX.out.1; omega
      have HFF : Aside0 (false = !((l0.take i).all (fun x => x == 255))) := by rw [hie, List.take_length]; exact HF
      clear hie HF
      generalize (l0.take i).all (fun x => x == 255) = F at *
      obtain rfl : F = true := by have := HFF.out; cases F <;> simp at this ⊢
      go_wp2
      go_ret
      exact ⟨by rw [HFF.out]; simp, HB4.out⟩
set_option maxHeartbeats 8000000 in
set_option maxRecDepth 100000 in
theorem walk_ge3 (A0 : Option Addr) (c0 : Nat) (l0 : List Int) (A1 : Option Addr) (c1 : Nat) (l1 : List Int) (w : World) (hr0 : Aside0 (Kd.C (Kd.int .u8) w A0 l0.length l0)) (hc0 : Aside0 (l0.length ≤ c0)) (hr1 : Aside0 (Kd.C (Kd.int .u8) w A1 l1.length l1)) (hc1 : Aside0 (l1.length ≤ c1))
    (h0 : Aside0 (l0.length ≤ 2000)) (h1 : Aside0 (l1.length ≤ 2000))
    (BG : Bool) (hse : ((strOfNums (l1.take l0.length)).toList == (strOfNums l0).toList) = BG) (hl : (l0.length : Int) ≤ (l1.length : Int))
    (n : List Int) (is : Bool) (HN : Aside0 (keys_Next.f 5000 l0 = some (n, is))) (x : Int) (HC : Aside0 (keys_Cmp.f l0 l1 = some x))
    (hx : x ≤ 0) (his : is = true) (y : Int) (HC2 : Aside0 (keys_Cmp.f l1 n = some y)) (hy : ¬ y < 0) (HBG : Aside0 (BG = false))
    (hnz : 0 < l0.length) (HF : Aside0 (is = !(l0.all (fun x => x == 255)))) :
    Calls Try.prog 7 #[.slice A0 l0.length c0, .slice A1 l1.length c1] w (Ends w) := by
  have hp : ¬ (2000 : Int) < (l0.length : Int) := by have := h0.out; omega
  have hd : decide ((2000 : Int) < (l0.length : Int)) = false := decide_eq_false hp
  have hp1 : ¬ (2000 : Int) < (l1.length : Int) := by have := h1.out; omega
  have hd1 : decide ((2000 : Int) < (l1.length : Int)) = false := decide_eq_false hp1
  have hxd : decide (x ≤ 0) = true := decide_eq_true hx
  subst his
  have hyd : decide (y < 0) = false := decide_eq_false hy
  obtain rfl : BG = false := HBG.out
  obtain ⟨i0, hi, hzz⟩ := Option.map_eq_some_iff.1 info5
  simp only [Prod.mk.injEq] at hzz
  obtain ⟨_, hz1, _⟩ := hzz
  have HTK := Aside0.mk (show ∀ W : World, Kd.C (Kd.int .u8) W A1 l1.length l1 → Kd.C (Kd.int .u8) W A1 l0.length (l1.take l0.length) from fun W h => by have h2 := Kd.C_take h (show l0.length ≤ l1.length by omega); rw [List.length_take, Nat.min_eq_left (by omega)] at h2; exact h2)
  have ks : ∀ W : World, (Instr.slice 24 (.slice A1 l1.length c1) none (some (.int .i64 (l0.length : Int))) none).run Try.prog W = .ok (.slice A1 l0.length c1) W := fun W => by
    have := hc1.out
    simpa using cut_to (P := Try.prog) 24 5 .i64 Try.underlying24 hi A1 l1.length c1 (l0.length : Int) (by omega) (by omega) (by omega) W
  have HSE := Aside0.mk hse
  clear hi hz1 hse
  have hld : decide ((l0.length : Int) ≤ (l1.length : Int)) = true := decide_eq_true hl
  have hnp : (0 : Int) < (l0.length : Int) := by omega
  have hzd : decide ((0 : Int) < (l0.length : Int)) = true := decide_eq_true hnp
  have hzq : ((l0.length : Int) == 0) = false := by rw [beq_eq_false_iff_ne]; omega
  have HNZ := Aside0.mk hnz
  clear hnz
  go_enter Try.func7, Try.ntmps7
  go_wp2_with
    (first
      | (go_at_call 10; refine (tailracelaw02_awake.calls true _ rfl).mono ?_
         rintro e w1 ⟨rfl, hb⟩
         have HB1 := Aside0.mk hb
         have HR0 := Aside0.mk (Kd.C_below hr0.out hb)
         have HR1 := Aside0.mk (Kd.C_below hr1.out hb)
         have hcv0 := fun n : Nat => Kd.C_string (P := Try.prog) (w := w1.drewN n) (A := A0) (c := c0) Try.underlying24 Try.underlying5 Try.underlying9 HR0.out
         have hcv1 := fun n : Nat => Kd.C_string (P := Try.prog) (w := w1.drewN n) (A := A1) (c := c1) Try.underlying24 Try.underlying5 Try.underlying9 (HTK.out _ HR1.out)
         clear hb))
  go_quiet (fail)
  rw [HSE.out]
  clear hcv0 hcv1
  generalize hw2 : w1.drewN nq = w2
  have HB2 := Aside0.mk (show Below w.heap.size w w2 by rw [← hw2]; exact below_step HB1.out (Drawn0.below (Drawn0.step (Drawn0.refl _) nq)))
  have HQ0 := Aside0.mk (show Kd.C (Kd.int .u8) w2 A0 l0.length l0 by rw [← hw2]; exact HR0.out)
  have HQ1 := Aside0.mk (show Kd.C (Kd.int .u8) w2 A1 l1.length l1 by rw [← hw2]; exact HR1.out)
  clear hw2
  go_wp2_with
    (first
      | (go_at_call 18; refine (keys_Next.calls 5000 A0 c0 l0 n true _ HQ0.out hc0.out HN.out).mono ?_
         rintro e w3 ⟨v3, rfl, hR, hb⟩
         obtain ⟨A2, c2, rfl, hc2, hC2⟩ := Kd.R_reads hR
         have HB3 := Aside0.mk (below_step HB2.out hb)
         have HS0 := Aside0.mk (Kd.C_below HQ0.out hb)
         have HS1 := Aside0.mk (Kd.C_below HQ1.out hb)
         have HS2 := Aside0.mk (And.intro hc2 hC2)
         have T1 : True := trivial
         clear hb hR hc2 hC2)
      | (go_at_call 20; guard_hyp T1; refine (keys_Cmp.calls A0 c0 l0 A1 c1 l1 x _ HS0.out hc0.out HS1.out hc1.out HC.out).mono ?_
         rintro e w4 ⟨rfl, hdr⟩
         have hb := Drawn0.below hdr
         have HB4 := Aside0.mk (below_step HB3.out hb)
         have HU0 := Aside0.mk (Kd.C_below HS0.out hb)
         have HU1 := Aside0.mk (Kd.C_below HS1.out hb)
         have HU2 := Aside0.mk (And.intro HS2.out.1 (Kd.C_below HS2.out.2 hb))
         clear hdr hb T1)
      | (go_at_call 20; guard_hyp HB4; refine (keys_Cmp.calls A1 c1 l1 A2 c2 n y _ HU1.out hc1.out HU2.out.2 HU2.out.1 HC2.out).mono ?_
         rintro e w5 ⟨rfl, hdr⟩
         have hb := Drawn0.below hdr
         have HB5 := Aside0.mk (below_step HB4.out hb)
         have HV0 := Aside0.mk (Kd.C_below HU0.out hb)
         clear hdr hb))
  obtain ⟨wo, hwo⟩ : ∃ wo : World, wo = w5 := ⟨_, rfl⟩
  go_loopg [10, 11] l0.length (fun gk v10 v11 wr => ∃ i : Nat, v10 = .bool ((l0.take i).all (fun x => x == 255)) ∧ v11 = .int .i64 i ∧ Aside0 (gk + i = l0.length ∧ wr = wo))
  case atStart => exact ⟨0, by have := HNZ.out; simp [this], rfl, ⟨by omega, hwo.symm⟩⟩
  case round =>
    obtain ⟨i, rfl, rfl, HX⟩ := hrel
    obtain rfl : wo = wr := HX.out.2.symm
    subst hwo
    by_cases hi : (i : Int) < (l0.length : Int)
    · have hid : decide ((i : Int) < (l0.length : Int)) = true := decide_eq_true hi
      have hlt : i < l0.length := by omega
      obtain ⟨ad, rfl, y0⟩ := Kd.at_int HV0.out (i : Int) (by omega) (by omega)
      rw [Int.toNat_natCast] at y0
      have HT := Aside0.mk (all_take l0 i hlt)
      have e0 : rd l0 (i : Int) = l0.getD i 0 := by simp [rd]
      rw [e0] at y0
      clear e0
      generalize l0.getD i 0 = z at y0 HT
      have hi0 : (0 : Int) ≤ (i : Int) := by omega
      have hwr : IntKind.i64.wrap ((i : Int) + 1) = ((i + 1 : Nat) : Int) := by have := h0.out; rw [IntWalk.i64_in _ (by omega)]; omega
      have HLT := Aside0.mk hlt
      clear hlt
      generalize hF : (l0.take i).all (fun x => x == 255) = F at *
      cases F
      · go_wp2
        go_roundg (l0.length - (i + 1))
        case measure => have := HX.out.1; have := HLT.out; omega
        case rel => exact ⟨i + 1, by rw [HT.out]; rfl, by first | rfl | (rw [hwr]), ⟨by have := HX.out.1; have := HLT.out; omega, rfl⟩⟩
      · generalize hzb : (z == 255) = zb at *
        go_wp2
        go_roundg (l0.length - (i + 1))
        case measure => have := HX.out.1; have := HLT.out; omega
        case rel => exact ⟨i + 1, by rw [HT.out]; rfl, by first | rfl | (rw [hwr]), ⟨by have := HX.out.1; have := HLT.out; omega, rfl⟩⟩
    · have hid : decide ((i : Int) < (l0.length : Int)) = false := decide_eq_false hi
      have hie : i = l0.length := by have := HX.out.1; omega
      have HFF : Aside0 (true = !((l0.take i).all (fun x => x == 255))) := by rw [hie, List.take_length]; exact HF
      clear hie HF
      generalize (l0.take i).all (fun x => x == 255) = F at *
      obtain rfl : F = false := by have := HFF.out; cases F <;> simp at this ⊢
      go_wp2
      go_ret
      exact ⟨by rw [HFF.out]; simp, HB5.out⟩
set_option maxHeartbeats 8000000 in
set_option maxRecDepth 100000 in
theorem walk_ge4 (A0 : Option Addr) (c0 : Nat) (l0 : List Int) (A1 : Option Addr) (c1 : Nat) (l1 : List Int) (w : World) (hr0 : Aside0 (Kd.C (Kd.int .u8) w A0 l0.length l0)) (hc0 : Aside0 (l0.length ≤ c0)) (hr1 : Aside0 (Kd.C (Kd.int .u8) w A1 l1.length l1)) (hc1 : Aside0 (l1.length ≤ c1))
    (h0 : Aside0 (l0.length ≤ 2000)) (h1 : Aside0 (l1.length ≤ 2000))
    (BG : Bool) (hse : ((strOfNums (l1.take l0.length)).toList == (strOfNums l0).toList) = BG) (hl : (l0.length : Int) ≤ (l1.length : Int))
    (n : List Int) (is : Bool) (HN : Aside0 (keys_Next.f 5000 l0 = some (n, is))) (x : Int) (HC : Aside0 (keys_Cmp.f l0 l1 = some x))
    (hx : x ≤ 0) (his : is = true) (y : Int) (HC2 : Aside0 (keys_Cmp.f l1 n = some y)) (hy : y < 0) (HBG : Aside0 (BG = true))
    (hnz : 0 < l0.length) (HF : Aside0 (is = !(l0.all (fun x => x == 255)))) :
    Calls Try.prog 7 #[.slice A0 l0.length c0, .slice A1 l1.length c1] w (Ends w) := by
  have hp : ¬ (2000 : Int) < (l0.length : Int) := by have := h0.out; omega
  have hd : decide ((2000 : Int) < (l0.length : Int)) = false := decide_eq_false hp
  have hp1 : ¬ (2000 : Int) < (l1.length : Int) := by have := h1.out; omega
  have hd1 : decide ((2000 : Int) < (l1.length : Int)) = false := decide_eq_false hp1
  have hxd : decide (x ≤ 0) = true := decide_eq_true hx
  subst his
  have hyd : decide (y < 0) = true := decide_eq_true hy
  obtain rfl : BG = true := HBG.out
  obtain ⟨i0, hi, hzz⟩ := Option.map_eq_some_iff.1 info5
  simp only [Prod.mk.injEq] at hzz
  obtain ⟨_, hz1, _⟩ := hzz
  have HTK := Aside0.mk (show ∀ W : World, Kd.C (Kd.int .u8) W A1 l1.length l1 → Kd.C (Kd.int .u8) W A1 l0.length (l1.take l0.length) from fun W h => by have h2 := Kd.C_take h (show l0.length ≤ l1.length by omega); rw [List.length_take, Nat.min_eq_left (by omega)] at h2; exact h2)
  have ks : ∀ W : World, (Instr.slice 24 (.slice A1 l1.length c1) none (some (.int .i64 (l0.length : Int))) none).run Try.prog W = .ok (.slice A1 l0.length c1) W := fun W => by
    have := hc1.out
    simpa using cut_to (P := Try.prog) 24 5 .i64 Try.underlying24 hi A1 l1.length c1 (l0.length : Int) (by omega) (by omega) (by omega) W
  have HSE := Aside0.mk hse
  clear hi hz1 hse
  have hld : decide ((l0.length : Int) ≤ (l1.length : Int)) = true := decide_eq_true hl
  have hnp : (0 : Int) < (l0.length : Int) := by omega
  have hzd : decide ((0 : Int) < (l0.length : Int)) = true := decide_eq_true hnp
  have hzq : ((l0.length : Int) == 0) = false := by rw [beq_eq_false_iff_ne]; omega
  have HNZ := Aside0.mk hnz
  clear hnz
  go_enter Try.func7, Try.ntmps7
  go_wp2_with
    (first
      | (go_at_call 10; refine (tailracelaw02_awake.calls true _ rfl).mono ?_
         rintro e w1 ⟨rfl, hb⟩
         have HB1 := Aside0.mk hb
         have HR0 := Aside0.mk (Kd.C_below hr0.out hb)
         have HR1 := Aside0.mk (Kd.C_below hr1.out hb)
         have hcv0 := fun n : Nat => Kd.C_string (P := Try.prog) (w := w1.drewN n) (A := A0) (c := c0) Try.underlying24 Try.underlying5 Try.underlying9 HR0.out
         have hcv1 := fun n : Nat => Kd.C_string (P := Try.prog) (w := w1.drewN n) (A := A1) (c := c1) Try.underlying24 Try.underlying5 Try.underlying9 (HTK.out _ HR1.out)
         clear hb))
  go_quiet (fail)
  rw [HSE.out]
  clear hcv0 hcv1
  generalize hw2 : w1.drewN nq = w2
  have HB2 := Aside0.mk (show Below w.heap.size w w2 by rw [← hw2]; exact below_step HB1.out (Drawn0.below (Drawn0.step (Drawn0.refl _) nq)))
  have HQ0 := Aside0.mk (show Kd.C (Kd.int .u8) w2 A0 l0.length l0 by rw [← hw2]; exact HR0.out)
  have HQ1 := Aside0.mk (show Kd.C (Kd.int .u8) w2 A1 l1.length l1 by rw [← hw2]; exact HR1.out)
  clear hw2
  go_wp2_with
    (first
      | (go_at_call 18; refine (keys_Next.calls 5000 A0 c0 l0 n true _ HQ0.out hc0.out HN.out).mono ?_
         rintro e w3 ⟨v3, rfl, hR, hb⟩
         obtain ⟨A2, c2, rfl, hc2, hC2⟩ := Kd.R_reads hR
         have HB3 := Aside0.mk (below_step HB2.out hb)
         have HS0 := Aside0.mk (Kd.C_below HQ0.out hb)
         have HS1 := Aside0.mk (Kd.C_below HQ1.out hb)
         have HS2 := Aside0.mk (And.intro hc2 hC2)
         have T1 : True := trivial
         clear hb hR hc2 hC2)
      | (go_at_call 20; guard_hyp T1; refine (keys_Cmp.calls A0 c0 l0 A1 c1 l1 x _ HS0.out hc0.out HS1.out hc1.out HC.out).mono ?_
         rintro e w4 ⟨rfl, hdr⟩
         have hb := Drawn0.below hdr
         have HB4 := Aside0.mk (below_step HB3.out hb)
         have HU0 := Aside0.mk (Kd.C_below HS0.out hb)
         have HU1 := Aside0.mk (Kd.C_below HS1.out hb)
         have HU2 := Aside0.mk (And.intro HS2.out.1 (Kd.C_below HS2.out.2 hb))
         clear hdr hb T1)
      | (go_at_call 20; guard_hyp HB4; refine (keys_Cmp.calls A1 c1 l1 A2 c2 n y _ HU1.out hc1.out HU2.out.2 HU2.out.1 HC2.out).mono ?_
         rintro e w5 ⟨rfl, hdr⟩
         have hb := Drawn0.below hdr
         have HB5 := Aside0.mk (below_step HB4.out hb)
         have HV0 := Aside0.mk (Kd.C_below HU0.out hb)
         clear hdr hb))
  obtain ⟨wo, hwo⟩ : ∃ wo : World, wo = w5 := ⟨_, rfl⟩
  go_loopg [10, 11] l0.length (fun gk v10 v11 wr => ∃ i : Nat, v10 = .bool ((l0.take i).all (fun x => x == 255)) ∧ v11 = .int .i64 i ∧ Aside0 (gk + i = l0.length ∧ wr = wo))
  case atStart => exact ⟨0, by have := HNZ.out; simp [this], rfl, ⟨by omega, hwo.symm⟩⟩
  case round =>
    obtain ⟨i, rfl, rfl, HX⟩ := hrel
    obtain rfl : wo = wr := HX.out.2.symm
    subst hwo
    by_cases hi : (i : Int) < (l0.length : Int)
    · have hid : decide ((i : Int) < (l0.length : Int)) = true := decide_eq_true hi
      have hlt : i < l0.length := by omega
      obtain ⟨ad, rfl, y0⟩ := Kd.at_int HV0.out (i : Int) (by omega) (by omega)
      rw [Int.toNat_natCast] at y0
      have HT := Aside0.mk (all_take l0 i hlt)
      have e0 : rd l0 (i : Int) = l0.getD i 0 := by simp [rd]
      rw [e0] at y0
      clear e0
      generalize l0.getD i 0 = z at y0 HT
      have hi0 : (0 : Int) ≤ (i : Int) := by omega
      have hwr : IntKind.i64.wrap ((i : Int) + 1) = ((i + 1 : Nat) : Int) := by have := h0.out; rw [IntWalk.i64_in _ (by omega)]; omega
      have HLT := Aside0.mk hlt
      clear hlt
      generalize hF : (l0.take i).all (fun x => x == 255) = F at *
      cases F
      · go_wp2
        go_roundg (l0.length - (i + 1))
        case measure => have := HX.out.1; have := HLT.out; omega
        case rel => exact ⟨i + 1, by rw [HT.out]; rfl, by first | rfl | (rw [hwr]), ⟨by have := HX.out.1; have := HLT.out; omega, rfl⟩⟩
      · generalize hzb : (z == 255) = zb at *
        go_wp2
        go_roundg (l0.length - (i + 1))
        case measure => have := HX.out.1; have := HLT.out; omega
        case rel => exact ⟨i + 1, by rw [HT.out]; rfl, by first | rfl | (rw [hwr]), ⟨by have := HX.out.1; have := HLT.out; omega, rfl⟩⟩
    · have hid : decide ((i : Int) < (l0.length : Int)) = false := decide_eq_false hi
      have hie : i = l0.length := by have := HX.out.1; omega
      have HFF : Aside0 (true = !((l0.take i).all (fun x => x == 255))) := by rw [hie, List.take_length]; exact HF
      clear hie HF
      generalize (l0.take i).all (fun x => x == 255) = F at *
      obtain rfl : F = false := by have := HFF.out; cases F <;> simp at this ⊢
      go_wp2
      go_ret
      exact ⟨by rw [HFF.out]; simp, HB5.out⟩
set_option maxHeartbeats 8000000 in
set_option maxRecDepth 100000 in
theorem walk_lt1 (A0 : Option Addr) (c0 : Nat) (l0 : List Int) (A1 : Option Addr) (c1 : Nat) (l1 : List Int) (w : World) (hr0 : Aside0 (Kd.C (Kd.int .u8) w A0 l0.length l0)) (hc0 : Aside0 (l0.length ≤ c0)) (hr1 : Aside0 (Kd.C (Kd.int .u8) w A1 l1.length l1)) (hc1 : Aside0 (l1.length ≤ c1))
    (h0 : Aside0 (l0.length ≤ 2000)) (h1 : Aside0 (l1.length ≤ 2000))
    (hl : ¬ (l0.length : Int) ≤ (l1.length : Int))
    (n : List Int) (is : Bool) (HN : Aside0 (keys_Next.f 5000 l0 = some (n, is))) (x : Int) (HC : Aside0 (keys_Cmp.f l0 l1 = some x))
    (hx : ¬ x ≤ 0) (HBG : Aside0 (false = false))
    (hnz : 0 < l0.length) (HF : Aside0 (is = !(l0.all (fun x => x == 255)))) :
    Calls Try.prog 7 #[.slice A0 l0.length c0, .slice A1 l1.length c1] w (Ends w) := by
  have hp : ¬ (2000 : Int) < (l0.length : Int) := by have := h0.out; omega
  have hd : decide ((2000 : Int) < (l0.length : Int)) = false := decide_eq_false hp
  have hp1 : ¬ (2000 : Int) < (l1.length : Int) := by have := h1.out; omega
  have hd1 : decide ((2000 : Int) < (l1.length : Int)) = false := decide_eq_false hp1
  have hxd : decide (x ≤ 0) = false := decide_eq_false hx
  have hld : decide ((l0.length : Int) ≤ (l1.length : Int)) = false := decide_eq_false hl
  have hldn : decide (l0.length ≤ l1.length) = false := decide_eq_false (by omega)
  have hnp : (0 : Int) < (l0.length : Int) := by omega
  have hzd : decide ((0 : Int) < (l0.length : Int)) = true := decide_eq_true hnp
  have hzq : ((l0.length : Int) == 0) = false := by rw [beq_eq_false_iff_ne]; omega
  have HNZ := Aside0.mk hnz
  clear hnz
  go_enter Try.func7, Try.ntmps7
  go_wp2_with
    (first
      | (go_at_call 10; refine (tailracelaw02_awake.calls true _ rfl).mono ?_
         rintro e w1 ⟨rfl, hb⟩
         have HB1 := Aside0.mk hb
         have HR0 := Aside0.mk (Kd.C_below hr0.out hb)
         have HR1 := Aside0.mk (Kd.C_below hr1.out hb)
         clear hb))
  go_quiet (fail)
  generalize hw2 : w1.drewN nq = w2
  have HB2 := Aside0.mk (show Below w.heap.size w w2 by rw [← hw2]; exact below_step HB1.out (Drawn0.below (Drawn0.step (Drawn0.refl _) nq)))
  have HQ0 := Aside0.mk (show Kd.C (Kd.int .u8) w2 A0 l0.length l0 by rw [← hw2]; exact HR0.out)
  have HQ1 := Aside0.mk (show Kd.C (Kd.int .u8) w2 A1 l1.length l1 by rw [← hw2]; exact HR1.out)
  clear hw2
  go_wp2_with
    (first
      | (go_at_call 18; refine (keys_Next.calls 5000 A0 c0 l0 n is _ HQ0.out hc0.out HN.out).mono ?_
         rintro e w3 ⟨v3, rfl, hR, hb⟩
         obtain ⟨A2, c2, rfl, hc2, hC2⟩ := Kd.R_reads hR
         have HB3 := Aside0.mk (below_step HB2.out hb)
         have HS0 := Aside0.mk (Kd.C_below HQ0.out hb)
         have HS1 := Aside0.mk (Kd.C_below HQ1.out hb)
         have HS2 := Aside0.mk (And.intro hc2 hC2)
         have T1 : True := trivial
         clear hb hR hc2 hC2)
      | (go_at_call 20; guard_hyp T1; refine (keys_Cmp.calls A0 c0 l0 A1 c1 l1 x _ HS0.out hc0.out HS1.out hc1.out HC.out).mono ?_
         rintro e w4 ⟨rfl, hdr⟩
         have hb := Drawn0.below hdr
         have HB4 := Aside0.mk (below_step HB3.out hb)
         have HU0 := Aside0.mk (Kd.C_below HS0.out hb)
         have HU1 := Aside0.mk (Kd.C_below HS1.out hb)
         have HU2 := Aside0.mk (And.intro HS2.out.1 (Kd.C_below HS2.out.2 hb))
         clear hdr hb T1))
  obtain ⟨wo, hwo⟩ : ∃ wo : World, wo = w4 := ⟨_, rfl⟩
  go_loopg [10, 11] l0.length (fun gk v10 v11 wr => ∃ i : Nat, v10 = .bool ((l0.take i).all (fun x => x == 255)) ∧ v11 = .int .i64 i ∧ Aside0 (gk + i = l0.length ∧ wr = wo))
  case atStart => exact ⟨0, by have := HNZ.out; simp [this], rfl, ⟨by omega, hwo.symm⟩⟩
  case round =>
    obtain ⟨i, rfl, rfl, HX⟩ := hrel
    obtain rfl : wo = wr := HX.out.2.symm
    subst hwo
    by_cases hi : (i : Int) < (l0.length : Int)
    · have hid : decide ((i : Int) < (l0.length : Int)) = true := decide_eq_true hi
      have hlt : i < l0.length := by omega
      obtain ⟨ad, rfl, y0⟩ := Kd.at_int HU0.out (i : Int) (by omega) (by omega)
      rw [Int.toNat_natCast] at y0
      have HT := Aside0.mk (all_take l0 i hlt)
      have e0 : rd l0 (i : Int) = l0.getD i 0 := by simp [rd]
      rw [e0] at y0
      clear e0
      generalize l0.getD i 0 = z at y0 HT
      have hi0 : (0 : Int) ≤ (i : Int) := by omega
      have hwr : IntKind.i64.wrap ((i : Int) + 1) = ((i + 1 : Nat) : Int) := by have := h0.out; rw [IntWalk.i64_in _ (by omega)]; omega
      have HLT := Aside0.mk hlt
      clear hlt
      generalize hF : (l0.take i).all (fun x => x == 255) = F at *
      cases F
      · go_wp2
        go_roundg (l0.length - (i + 1))
        case measure => have := HX.out.1; have := HLT.out; omega
        case rel => exact ⟨i + 1, by rw [HT.out]; rfl, by first | rfl | (rw [hwr]), ⟨by have := HX.out.1; have := HLT.out; omega, rfl⟩⟩
      · generalize hzb : (z == 255) = zb at *
        go_wp2
        go_roundg (l0.length - (i + 1))
        case measure => have := HX.out.1; have := HLT.out; omega
        case rel => exact ⟨i + 1, by rw [HT.out]; rfl, by first | rfl | (rw [hwr]), ⟨by have := HX.out.1; have := HLT.out; omega, rfl⟩⟩
    · have hid : decide ((i : Int) < (l0.length : Int)) = false := decide_eq_false hi
      have hie : i = l0.length := by have := HX.out.1; omega
      have HFF : Aside0 (is = !((l0.take i).all (fun x => x == 255))) := by rw [hie, List.take_length]; exact HF
      clear hie HF
      generalize (l0.take i).all (fun x => x == 255) = F at *
      go_wp2
      go_ret
      exact ⟨by rw [HFF.out]; simp, HB4.out⟩
set_option maxHeartbeats 8000000 in
set_option maxRecDepth 100000 in
theorem walk_lt3 (A0 : Option Addr) (c0 : Nat) (l0 : List Int) (A1 : Option Addr) (c1 : Nat) (l1 : List Int) (w : World) (hr0 : Aside0 (Kd.C (Kd.int .u8) w A0 l0.length l0)) (hc0 : Aside0 (l0.length ≤ c0)) (hr1 : Aside0 (Kd.C (Kd.int .u8) w A1 l1.length l1)) (hc1 : Aside0 (l1.length ≤ c1))
    (h0 : Aside0 (l0.length ≤ 2000)) (h1 : Aside0 (l1.length ≤ 2000))
    (hl : ¬ (l0.length : Int) ≤ (l1.length : Int))
    (n : List Int) (is : Bool) (HN : Aside0 (keys_Next.f 5000 l0 = some (n, is))) (x : Int) (HC : Aside0 (keys_Cmp.f l0 l1 = some x))
    (hx : x ≤ 0) (his : is = true) (y : Int) (HC2 : Aside0 (keys_Cmp.f l1 n = some y)) (hy : ¬ y < 0) (HBG : Aside0 (false = false))
    (hnz : 0 < l0.length) (HF : Aside0 (is = !(l0.all (fun x => x == 255)))) :
    Calls Try.prog 7 #[.slice A0 l0.length c0, .slice A1 l1.length c1] w (Ends w) := by
  have hp : ¬ (2000 : Int) < (l0.length : Int) := by have := h0.out; omega
  have hd : decide ((2000 : Int) < (l0.length : Int)) = false := decide_eq_false hp
  have hp1 : ¬ (2000 : Int) < (l1.length : Int) := by have := h1.out; omega
  have hd1 : decide ((2000 : Int) < (l1.length : Int)) = false := decide_eq_false hp1
  have hxd : decide (x ≤ 0) = true := decide_eq_true hx
  subst his
  have hyd : decide (y < 0) = false := decide_eq_false hy
  have hld : decide ((l0.length : Int) ≤ (l1.length : Int)) = false := decide_eq_false hl
  have hldn : decide (l0.length ≤ l1.length) = false := decide_eq_false (by omega)
  have hnp : (0 : Int) < (l0.length : Int) := by omega
  have hzd : decide ((0 : Int) < (l0.length : Int)) = true := decide_eq_true hnp
  have hzq : ((l0.length : Int) == 0) = false := by rw [beq_eq_false_iff_ne]; omega
  have HNZ := Aside0.mk hnz
  clear hnz
  go_enter Try.func7, Try.ntmps7
  go_wp2_with
    (first
      | (go_at_call 10; refine (tailracelaw02_awake.calls true _ rfl).mono ?_
         rintro e w1 ⟨rfl, hb⟩
         have HB1 := Aside0.mk hb
         have HR0 := Aside0.mk (Kd.C_below hr0.out hb)
         have HR1 := Aside0.mk (Kd.C_below hr1.out hb)
         clear hb))
  go_quiet (fail)
  generalize hw2 : w1.drewN nq = w2
  have HB2 := Aside0.mk (show Below w.heap.size w w2 by rw [← hw2]; exact below_step HB1.out (Drawn0.below (Drawn0.step (Drawn0.refl _) nq)))
  have HQ0 := Aside0.mk (show Kd.C (Kd.int .u8) w2 A0 l0.length l0 by rw [← hw2]; exact HR0.out)
  have HQ1 := Aside0.mk (show Kd.C (Kd.int .u8) w2 A1 l1.length l1 by rw [← hw2]; exact HR1.out)
  clear hw2
  go_wp2_with
    (first
      | (go_at_call 18; refine (keys_Next.calls 5000 A0 c0 l0 n true _ HQ0.out hc0.out HN.out).mono ?_
         rintro e w3 ⟨v3, rfl, hR, hb⟩
         obtain ⟨A2, c2, rfl, hc2, hC2⟩ := Kd.R_reads hR
         have HB3 := Aside0.mk (below_step HB2.out hb)
         have HS0 := Aside0.mk (Kd.C_below HQ0.out hb)
         have HS1 := Aside0.mk (Kd.C_below HQ1.out hb)
         have HS2 := Aside0.mk (And.intro hc2 hC2)
         have T1 : True := trivial
         clear hb hR hc2 hC2)
      | (go_at_call 20; guard_hyp T1; refine (keys_Cmp.calls A0 c0 l0 A1 c1 l1 x _ HS0.out hc0.out HS1.out hc1.out HC.out).mono ?_
         rintro e w4 ⟨rfl, hdr⟩
         have hb := Drawn0.below hdr
         have HB4 := Aside0.mk (below_step HB3.out hb)
         have HU0 := Aside0.mk (Kd.C_below HS0.out hb)
         have HU1 := Aside0.mk (Kd.C_below HS1.out hb)
         have HU2 := Aside0.mk (And.intro HS2.out.1 (Kd.C_below HS2.out.2 hb))
         clear hdr hb T1)
      | (go_at_call 20; guard_hyp HB4; refine (keys_Cmp.calls A1 c1 l1 A2 c2 n y _ HU1.out hc1.out HU2.out.2 HU2.out.1 HC2.out).mono ?_
         rintro e w5 ⟨rfl, hdr⟩
         have hb := Drawn0.below hdr
         have HB5 := Aside0.mk (below_step HB4.out hb)
         have HV0 := Aside0.mk (Kd.C_below HU0.out hb)
         clear hdr hb))
  obtain ⟨wo, hwo⟩ : ∃ wo : World, wo = w5 := ⟨_, rfl⟩
  go_loopg [10, 11] l0.length (fun gk v10 v11 wr => ∃ i : Nat, v10 = .bool ((l0.take i).all (fun x => x == 255)) ∧ v11 = .int .i64 i ∧ Aside0 (gk + i = l0.length ∧ wr = wo))
  case atStart => exact ⟨0, by have := HNZ.out; simp [this], rfl, ⟨by omega, hwo.symm⟩⟩
  case round =>
    obtain ⟨i, rfl, rfl, HX⟩ := hrel
    obtain rfl : wo = wr := HX.out.2.symm
    subst hwo
    by_cases hi : (i : Int) < (l0.length : Int)
    · have hid : decide ((i : Int) < (l0.length : Int)) = true := decide_eq_true hi
      have hlt : i < l0.length := by omega
      obtain ⟨ad, rfl, y0⟩ := Kd.at_int HV0.out (i : Int) (by omega) (by omega)
      rw [Int.toNat_natCast] at y0
      have HT := Aside0.mk (all_take l0 i hlt)
      have e0 : rd l0 (i : Int) = l0.getD i 0 := by simp [rd]
      rw [e0] at y0
      clear e0
      generalize l0.getD i 0 = z at y0 HT
      have hi0 : (0 : Int) ≤ (i : Int) := by omega
      have hwr : IntKind.i64.wrap ((i : Int) + 1) = ((i + 1 : Nat) : Int) := by have := h0.out; rw [IntWalk.i64_in _ (by omega)]; omega
      have HLT := Aside0.mk hlt
      clear hlt
      generalize hF : (l0.take i).all (fun x => x == 255) = F at *
      cases F
      · go_wp2
        go_roundg (l0.length - (i + 1))
        case measure => have := HX.out.1; have := HLT.out; omega
        case rel => exact ⟨i + 1, by rw [HT.out]; rfl, by first | rfl | (rw [hwr]), ⟨by have := HX.out.1; have := HLT.out; omega, rfl⟩⟩
      · generalize hzb : (z == 255) = zb at *
        go_wp2
        go_roundg (l0.length - (i + 1))
        case measure => have := HX.out.1; have := HLT.out; omega
        case rel => exact ⟨i + 1, by rw [HT.out]; rfl, by first | rfl | (rw [hwr]), ⟨by have := HX.out.1; have := HLT.out; omega, rfl⟩⟩
    · have hid : decide ((i : Int) < (l0.length : Int)) = false := decide_eq_false hi
      have hie : i = l0.length := by have := HX.out.1; omega
      have HFF : Aside0 (true = !((l0.take i).all (fun x => x == 255))) := by rw [hie, List.take_length]; exact HF
      clear hie HF
      generalize (l0.take i).all (fun x => x == 255) = F at *
      obtain rfl : F = false := by have := HFF.out; cases F <;> simp at this ⊢
      go_wp2
      go_ret
      exact ⟨by rw [HFF.out]; simp, HB5.out⟩
set_option maxHeartbeats 8000000 in
set_option maxRecDepth 100000 in
theorem walk_nil (A0 : Option Addr) (c0 : Nat) (l0 : List Int) (A1 : Option Addr) (c1 : Nat) (l1 : List Int) (w : World) (hr0 : Aside0 (Kd.C (Kd.int .u8) w A0 l0.length l0)) (hc0 : Aside0 (l0.length ≤ c0)) (hr1 : Aside0 (Kd.C (Kd.int .u8) w A1 l1.length l1)) (hc1 : Aside0 (l1.length ≤ c1))
    (h0 : Aside0 (l0.length ≤ 2000)) (h1 : Aside0 (l1.length ≤ 2000))
    (BG : Bool) (hse : ((strOfNums (l1.take l0.length)).toList == (strOfNums l0).toList) = BG) (hl : (l0.length : Int) ≤ (l1.length : Int))
    (n : List Int) (is : Bool) (HN : Aside0 (keys_Next.f 5000 l0 = some (n, is))) (x : Int) (HC : Aside0 (keys_Cmp.f l0 l1 = some x))
    (hx : x ≤ 0) (his : is = false) (HBG : Aside0 (BG = true))
    (hz : l0.length = 0) :
    Calls Try.prog 7 #[.slice A0 l0.length c0, .slice A1 l1.length c1] w (Ends w) := by
  have hp : ¬ (2000 : Int) < (l0.length : Int) := by have := h0.out; omega
  have hd : decide ((2000 : Int) < (l0.length : Int)) = false := decide_eq_false hp
  have hp1 : ¬ (2000 : Int) < (l1.length : Int) := by have := h1.out; omega
  have hd1 : decide ((2000 : Int) < (l1.length : Int)) = false := decide_eq_false hp1
  have hxd : decide (x ≤ 0) = true := decide_eq_true hx
  subst his
  obtain rfl : BG = true := HBG.out
  obtain ⟨i0, hi, hzz⟩ := Option.map_eq_some_iff.1 info5
  simp only [Prod.mk.injEq] at hzz
  obtain ⟨_, hz1, _⟩ := hzz
  have HTK := Aside0.mk (show ∀ W : World, Kd.C (Kd.int .u8) W A1 l1.length l1 → Kd.C (Kd.int .u8) W A1 l0.length (l1.take l0.length) from fun W h => by have h2 := Kd.C_take h (show l0.length ≤ l1.length by omega); rw [List.length_take, Nat.min_eq_left (by omega)] at h2; exact h2)
  have ks : ∀ W : World, (Instr.slice 24 (.slice A1 l1.length c1) none (some (.int .i64 (l0.length : Int))) none).run Try.prog W = .ok (.slice A1 l0.length c1) W := fun W => by
    have := hc1.out
    simpa using cut_to (P := Try.prog) 24 5 .i64 Try.underlying24 hi A1 l1.length c1 (l0.length : Int) (by omega) (by omega) (by omega) W
  have HSE := Aside0.mk hse
  clear hi hz1 hse
  have hld : decide ((l0.length : Int) ≤ (l1.length : Int)) = true := decide_eq_true hl
  have hzi : (l0.length : Int) = 0 := by omega
  have hzd : decide ((0 : Int) < (l0.length : Int)) = false := decide_eq_false (by omega)
  have hzq : ((l0.length : Int) == 0) = true := by rw [hzi]; rfl
  have HZ := Aside0.mk hz
  clear hz hzi
  go_enter Try.func7, Try.ntmps7
  go_wp2_with
    (first
      | (go_at_call 10; refine (tailracelaw02_awake.calls true _ rfl).mono ?_
         rintro e w1 ⟨rfl, hb⟩
         have HB1 := Aside0.mk hb
         have HR0 := Aside0.mk (Kd.C_below hr0.out hb)
         have HR1 := Aside0.mk (Kd.C_below hr1.out hb)
         have hcv0 := fun n : Nat => Kd.C_string (P := Try.prog) (w := w1.drewN n) (A := A0) (c := c0) Try.underlying24 Try.underlying5 Try.underlying9 HR0.out
         have hcv1 := fun n : Nat => Kd.C_string (P := Try.prog) (w := w1.drewN n) (A := A1) (c := c1) Try.underlying24 Try.underlying5 Try.underlying9 (HTK.out _ HR1.out)
         clear hb))
  go_quiet (fail)
  rw [HSE.out]
  clear hcv0 hcv1
  generalize hw2 : w1.drewN nq = w2
  have HB2 := Aside0.mk (show Below w.heap.size w w2 by rw [← hw2]; exact below_step HB1.out (Drawn0.below (Drawn0.step (Drawn0.refl _) nq)))
  have HQ0 := Aside0.mk (show Kd.C (Kd.int .u8) w2 A0 l0.length l0 by rw [← hw2]; exact HR0.out)
  have HQ1 := Aside0.mk (show Kd.C (Kd.int .u8) w2 A1 l1.length l1 by rw [← hw2]; exact HR1.out)
  clear hw2
  go_wp2_with
    (first
      | (go_at_call 18; refine (keys_Next.calls 5000 A0 c0 l0 n false _ HQ0.out hc0.out HN.out).mono ?_
         rintro e w3 ⟨v3, rfl, hR, hb⟩
         obtain ⟨A2, c2, rfl, hc2, hC2⟩ := Kd.R_reads hR
         have HB3 := Aside0.mk (below_step HB2.out hb)
         have HS0 := Aside0.mk (Kd.C_below HQ0.out hb)
         have HS1 := Aside0.mk (Kd.C_below HQ1.out hb)
         have HS2 := Aside0.mk (And.intro hc2 hC2)
         have T1 : True := trivial
         clear hb hR hc2 hC2)
      | (go_at_call 20; guard_hyp T1; refine (keys_Cmp.calls A0 c0 l0 A1 c1 l1 x _ HS0.out hc0.out HS1.out hc1.out HC.out).mono ?_
         rintro e w4 ⟨rfl, hdr⟩
         have hb := Drawn0.below hdr
         have HB4 := Aside0.mk (below_step HB3.out hb)
         have HU0 := Aside0.mk (Kd.C_below HS0.out hb)
         have HU1 := Aside0.mk (Kd.C_below HS1.out hb)
         have HU2 := Aside0.mk (And.intro HS2.out.1 (Kd.C_below HS2.out.2 hb))
         clear hdr hb T1))
  go_loopg [10, 11] 1 (fun gk v10 v11 wr => ∃ i : Nat, v10 = .bool false ∧ v11 = .int .i64 i ∧ Aside0 (i = 0 ∧ wr = w4))
  case atStart => exact ⟨0, by have := HZ.out; simp [this], rfl, ⟨rfl, rfl⟩⟩
  case round =>
    obtain ⟨i, rfl, rfl, HX⟩ := hrel
    obtain rfl : w4 = wr := HX.out.2.symm
    obtain rfl : i = 0 := HX.out.1
    have hid : decide (((0 : Nat) : Int) < (l0.length : Int)) = false := by simpa using hzd
    have HE := HBG.out
    clear HE
    go_wp2
    · exfalso; have := HZ.out; omega
    go_ret
    exact ⟨rfl, HB4.out⟩
theorem prefix_len {b c : List Int} (h : c.take b.length = b) : b.length ≤ c.length := by
  have := congrArg List.length h
  rw [List.length_take] at this; omega
def tailracelaw02_KeysBetween.f (l0 l1 : List Int) : Option Bool := if (∀ x ∈ l0, 0 ≤ x ∧ x ≤ 255) ∧ (∀ x ∈ l1, 0 ≤ x ∧ x ≤ 255) then some true else none
theorem between_any (A0 : Option Addr) (c0 : Nat) (l0 : List Int) (A1 : Option Addr) (c1 : Nat) (l1 : List Int) (w : World) (hr0 : Kd.C (Kd.int .u8) w A0 l0.length l0) (hc0 : l0.length ≤ c0) (hr1 : Kd.C (Kd.int .u8) w A1 l1.length l1) (hc1 : l1.length ≤ c1) (B0 : Byt l0) (B1 : Byt l1) :
    Calls Try.prog 7 #[.slice A0 l0.length c0, .slice A1 l1.length c1] w (Ends w) := by
  by_cases g : 2000 < l0.length ∨ 2000 < l1.length
  · exact between_big A0 c0 l0 A1 c1 l1 w g
  have h0 : l0.length ≤ 2000 := by omega
  have h1 : l1.length ≤ 2000 := by omega
  have hN := Next_eq l0 (by omega) B0 5000 (by omega)
  have hC := Cmp_eq l0 l1 B0 B1
  by_cases hp : l1.take l0.length = l0
  · have hl := prefix_len hp
    have hse : ((strOfNums (l1.take l0.length)).toList == (strOfNums l0).toList) = true := by rw [hp]; exact beq_self_eq_true _
    obtain ⟨t, ht⟩ : ∃ t, l1 = l0 ++ t := ⟨l1.drop l0.length, by conv => lhs; rw [← List.take_append_drop l0.length l1, hp]⟩
    have hb := begins_in l0 t
    rw [← ht] at hb
    rcases hn : nxt l0 with _ | m
    · rw [hn] at hN
      by_cases hz : l0.length = 0
      · exact walk_nil A0 c0 l0 A1 c1 l1 w ⟨hr0⟩ ⟨hc0⟩ ⟨hr1⟩ ⟨hc1⟩ ⟨h0⟩ ⟨h1⟩ true hse (by omega) [] false ⟨hN⟩ _ ⟨hC⟩ hb.1 rfl ⟨rfl⟩ hz
      · exact walk_ge2 A0 c0 l0 A1 c1 l1 w ⟨hr0⟩ ⟨hc0⟩ ⟨hr1⟩ ⟨hc1⟩ ⟨h0⟩ ⟨h1⟩ true hse (by omega) [] false ⟨hN⟩ _ ⟨hC⟩ hb.1 rfl ⟨rfl⟩ (by omega) ⟨by rw [(nxt_none l0).1 hn]; rfl⟩
    · rw [hn] at hN
      have hne : 0 < l0.length := by
        rcases l0 with _ | ⟨x, r⟩
        · simp [nxt] at hn
        · simp
      have hall : l0.all (fun x => x == 255) = false := by
        rcases ha : l0.all (fun x => x == 255) with _ | _
        · rfl
        · rw [(nxt_none l0).2 ha] at hn; cases hn
      exact walk_ge4 A0 c0 l0 A1 c1 l1 w ⟨hr0⟩ ⟨hc0⟩ ⟨hr1⟩ ⟨hc1⟩ ⟨h0⟩ ⟨h1⟩ true hse (by omega) m true ⟨hN⟩ _ ⟨hC⟩ hb.1 rfl _ ⟨Cmp_eq l1 m B1 (nxt_byt B0 hn)⟩ (by rw [hb.2 m hn]; decide) ⟨rfl⟩ hne ⟨by rw [hall]; rfl⟩
  · have hne : 0 < l0.length := by
      rcases l0 with _ | ⟨x, r⟩
      · exact absurd (by simp) hp
      · simp
    have hse : l0.length ≤ l1.length → ((strOfNums (l1.take l0.length)).toList == (strOfNums l0).toList) = false := by
      intro hl
      rw [beq_eq_false_iff_ne]
      exact fun hq => hp (strOfNums_inj (fun x hx => B1 x (List.mem_of_mem_take hx)) B0 hq)
    by_cases hx : cmpL cmpI l0 l1 ≤ 0
    · obtain ⟨m, hn, hy⟩ := begins_out l0 l1 B0 B1 hp hx
      rw [hn] at hN
      have hall : l0.all (fun x => x == 255) = false := by
        rcases ha : l0.all (fun x => x == 255) with _ | _
        · rfl
        · rw [(nxt_none l0).2 ha] at hn; cases hn
      by_cases hl : l0.length ≤ l1.length
      · exact walk_ge3 A0 c0 l0 A1 c1 l1 w ⟨hr0⟩ ⟨hc0⟩ ⟨hr1⟩ ⟨hc1⟩ ⟨h0⟩ ⟨h1⟩ false (hse hl) (by omega) m true ⟨hN⟩ _ ⟨hC⟩ hx rfl _ ⟨Cmp_eq l1 m B1 (nxt_byt B0 hn)⟩ hy ⟨rfl⟩ hne ⟨by rw [hall]; rfl⟩
      · exact walk_lt3 A0 c0 l0 A1 c1 l1 w ⟨hr0⟩ ⟨hc0⟩ ⟨hr1⟩ ⟨hc1⟩ ⟨h0⟩ ⟨h1⟩ (by omega) m true ⟨hN⟩ _ ⟨hC⟩ hx rfl _ ⟨Cmp_eq l1 m B1 (nxt_byt B0 hn)⟩ hy ⟨rfl⟩ hne ⟨by rw [hall]; rfl⟩
    · obtain ⟨n, is, hN', hF⟩ : ∃ n is, keys_Next.f 5000 l0 = some (n, is) ∧ is = !(l0.all (fun x => x == 255)) := by
        rcases hn : nxt l0 with _ | m
        · rw [hn] at hN; exact ⟨[], false, hN, by rw [(nxt_none l0).1 hn]; rfl⟩
        · rw [hn] at hN
          refine ⟨m, true, hN, ?_⟩
          rcases ha : l0.all (fun x => x == 255) with _ | _
          · rfl
          · rw [(nxt_none l0).2 ha] at hn; cases hn
      by_cases hl : l0.length ≤ l1.length
      · exact walk_ge1 A0 c0 l0 A1 c1 l1 w ⟨hr0⟩ ⟨hc0⟩ ⟨hr1⟩ ⟨hc1⟩ ⟨h0⟩ ⟨h1⟩ false (hse hl) (by omega) n is ⟨hN'⟩ _ ⟨hC⟩ hx ⟨rfl⟩ hne ⟨hF⟩
      · exact walk_lt1 A0 c0 l0 A1 c1 l1 w ⟨hr0⟩ ⟨hc0⟩ ⟨hr1⟩ ⟨hc1⟩ ⟨h0⟩ ⟨h1⟩ (by omega) n is ⟨hN'⟩ _ ⟨hC⟩ hx ⟨rfl⟩ hne ⟨hF⟩
theorem tailracelaw02_KeysBetween.calls (A0 : Option Addr) (c0 : Nat) (l0 : List Int) (A1 : Option Addr) (c1 : Nat) (l1 : List Int) (r : Bool) (w : World) (hr0 : Kd.C (Kd.int .u8) w A0 l0.length l0) (hc0 : l0.length ≤ c0) (hr1 : Kd.C (Kd.int .u8) w A1 l1.length l1) (hc1 : l1.length ≤ c1) (h : tailracelaw02_KeysBetween.f l0 l1 = some r) :
    Calls Try.prog 7 #[.slice A0 l0.length c0, .slice A1 l1.length c1] w fun e w' => e = .returned (.bool r) ∧ Below w.heap.size w w' := by
  unfold tailracelaw02_KeysBetween.f at h
  split at h
  case isFalse => cases h
  rename_i hh
  cases h
  exact between_any A0 c0 l0 A1 c1 l1 w hr0 hc0 hr1 hc1 hh.1 hh.2
end Go.Proofs.Ytniihilegljgmaa.P
