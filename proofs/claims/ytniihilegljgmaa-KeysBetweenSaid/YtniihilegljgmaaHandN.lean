/- The document's Next and Cmp of bytes, by hand. -/
import Derived.Test.YtniihilegljgmaaHandC
import Derived.Test.YtniihilegljgmaaOrder
import Derived.Deep.LoopGhost
import Derived.Outline
set_option linter.unusedVariables false
set_option linter.unusedSimpArgs false
namespace Go.Proofs.Ytniihilegljgmaa.P
open Go.RowKit Go.Proofs.YtniihilegljgmaaW.PrintWords Go.Proofs.YtniihilegljgmaaW.PrintLast Go.Proofs.YtniihilegljgmaaW.PrintMore Go.Proofs.YtniihilegljgmaaOwn
attribute [local go_sem] gtr_str
def tailraceref02_Cmp.f (l0 : List Int) (l1 : List Int) : Option (Int) := some (cmpB (strOfNums l0).toList (strOfNums l1).toList)
set_option maxHeartbeats 8000000 in
set_option maxRecDepth 100000 in
theorem tailraceref02_Cmp.calls (A0 : Option Addr) (c0 : Nat) (l0 : List Int) (A1 : Option Addr) (c1 : Nat) (l1 : List Int) (r : Int) (w : World) (hr0 : Kd.C (Kd.int .u8) w A0 l0.length l0) (hc0 : l0.length ≤ c0) (hr1 : Kd.C (Kd.int .u8) w A1 l1.length l1) (hc1 : l1.length ≤ c1) (h : tailraceref02_Cmp.f l0 l1 = some r) :
    Calls Try.prog 21 #[.slice A0 l0.length c0, .slice A1 l1.length c1] w fun e w' => e = .returned (.int .i64 r) ∧ Drawn0 w w' := by
  have hcv4 := Kd.C_string (P := Try.prog) (A := A0) (c := c0) Try.underlying24 Try.underlying5 Try.underlying9 hr0
  have hcv5 := Kd.C_string (P := Try.prog) (A := A1) (c := c1) Try.underlying24 Try.underlying5 Try.underlying9 hr1
  have H := Option.some.inj h
  generalize strOfNums l0 = s at hcv4 H
  generalize strOfNums l1 = t at hcv5 H
  have kg : ∀ W : World, (binOp .gtr 9 (.string s) (.string t)).run Try.prog W = .ok (.bool (Op.bytesLess t.toList s.toList)) W := fun W => by rw [gtr_str]; rfl
  have kl : ∀ W : World, (binOp .lss 9 (.string s) (.string t)).run Try.prog W = .ok (.bool (Op.bytesLess s.toList t.toList)) W := fun W => by simp [binOp, Op.stringOp]
  clear hr0 hr1 hc0 hc1 h
  rcases h1 : Op.bytesLess s.toList t.toList with _ | _
  · rcases h2 : Op.bytesLess t.toList s.toList with _ | _
    · have e : cmpB s.toList t.toList = 0 := by
        rcases bl_tri s.toList t.toList with h | h | h
        · rw [h]; exact cmpB_self _
        · rw [h1] at h; cases h
        · rw [h2] at h; cases h
      rw [e] at H
      subst H
      clear e kl kg
      go_enter Try.func21, Try.ntmps21
      go_wp2
      go_ret
      exact ⟨rfl, Drawn0.refl _⟩
    · rw [cmpB_gt h2] at H
      subst H
      clear kl kg
      go_enter Try.func21, Try.ntmps21
      go_wp2
      go_ret
      exact ⟨rfl, Drawn0.refl _⟩
  · rw [cmpB_lt h1] at H
    subst H
    clear kl kg
    go_enter Try.func21, Try.ntmps21
    go_wp2
    go_ret
    exact ⟨rfl, Drawn0.refl _⟩
/-- The least bytes behind all that begin with some. -/
def nxt : List Int → Option (List Int)
  | [] => none
  | x :: r => match nxt r with | some n => some (x :: n) | none => if x = 255 then none else some [x + 1]
theorem nxt_snoc (x : Int) : ∀ p : List Int, nxt (p ++ [x]) = if x = 255 then nxt p else some (p ++ [x + 1])
  | [] => by simp only [List.nil_append, nxt]
  | y :: p => by
    have ih := nxt_snoc x p
    simp only [List.cons_append, nxt]
    rw [ih]
    by_cases h : x = 255
    · rw [if_pos h, if_pos h]
    · rw [if_neg h, if_neg h]
theorem nxt_take (b : List Int) (n : Nat) (h : n < b.length) : nxt (b.take (n + 1)) = if b.getD n 0 = 255 then nxt (b.take n) else some (b.take n ++ [b.getD n 0 + 1]) := by
  have e : b.take (n + 1) = b.take n ++ [b.getD n 0] := by
    rw [List.take_succ_eq_append_getElem h]; simp [List.getD_eq_getElem?_getD, h]
  rw [e, nxt_snoc]
def tailraceref02_Next.f (l0 : List Int) : Option (List Int × Bool) := if l0.length ≤ 100000000 ∧ ∀ x ∈ l0, 0 ≤ x ∧ x ≤ 255 then some (match nxt l0 with | none => ([], false) | some n => (n, true)) else none
def NPost (w : World) (q : Option (List Int)) (e : Ending) (w' : World) : Prop :=
  ∃ v, e = .returned (.tuple #[v, .bool (match q with | none => false | some _ => true)]) ∧ Kd.R (Kd.int .u8) 5 w' w.heap.size (fun _ => True) v (match q with | none => [] | some l => l) ∧ Below w.heap.size w w'
set_option maxHeartbeats 8000000 in
set_option maxRecDepth 100000 in
theorem next_any (A : Option Addr) (c : Nat) (b : List Int) (w : World) (hr : Kd.C (Kd.int .u8) w A b.length b) (hc : b.length ≤ c) (hb : ∀ x ∈ b, 0 ≤ x ∧ x ≤ 255) (hl : b.length ≤ 100000000) :
    Calls Try.prog 19 #[.slice A b.length c] w fun e w' => NPost w (nxt b) e w' := by
  obtain ⟨i0, hi, hzz⟩ := Option.map_eq_some_iff.1 info5
  simp only [Prod.mk.injEq] at hzz
  obtain ⟨_, hz1, _⟩ := hzz
  have HC := Aside0.mk hr
  have HB := Aside0.mk hb
  have HCC := Aside0.mk hc
  have ks : ∀ (m : Nat) (_ : m ≤ b.length) (W : World), (Instr.slice 24 (.slice A b.length c) none (some (.int .i64 (m : Int))) none).run Try.prog W = .ok (.slice A m c) W := fun m hm W => by
    simpa using cut_to (P := Try.prog) 24 5 .i64 Try.underlying24 hi A b.length c (m : Int) (by omega) (by omega) hc W
  have KS := Aside0.mk ks
  clear hr hc hb ks hi hz1
  go_enter Try.func19, Try.ntmps19
  go_wp2
  go_loopg [4] b.length (fun gk v4 wr => ∃ n : Nat, v4 = .int .i64 n ∧ Aside0 (gk = n ∧ n ≤ b.length ∧ nxt b = nxt (b.take n) ∧ wr = w))
  case atStart => exact ⟨b.length, rfl, ⟨rfl, Nat.le_refl _, by rw [List.take_length], rfl⟩⟩
  case round =>
    obtain ⟨n, rfl, HX⟩ := hrel
    obtain rfl : w = wr := HX.out.2.2.2.symm
    have hn : n ≤ b.length := HX.out.2.1
    rcases n with _ | n
    · have HQ := Aside0.mk (show nxt b = none by rw [HX.out.2.2.1]; rfl)
      have hd : decide ((0 : Int) < ((0 : Nat) : Int)) = false := by decide
      go_wp2
      go_ret2
      rw [HQ.out]
      exact ⟨_, rfl, Kd.R_nil _ _ _ _ _, Below.refl _ _⟩
    · have hlt : n < b.length := by omega
      obtain ⟨ad, rfl, y0⟩ := Kd.at_int HC.out (n : Int) (by omega) (by omega)
      rw [Int.toNat_natCast] at y0
      have e0 : rd b (n : Int) = b.getD n 0 := by simp [rd]
      rw [e0] at y0
      have hx := HB.out (b.getD n 0) (by rw [List.getD_eq_getElem?_getD, List.getElem?_eq_getElem hlt]; exact List.getElem_mem hlt)
      have HT := Aside0.mk (nxt_take b n hlt)
      obtain ⟨x, hx2⟩ : ∃ x, x = b.getD n 0 := ⟨_, rfl⟩
      rw [← hx2] at y0 hx HT
      obtain ⟨hx0, hx1⟩ := hx
      have e1 : ((n + 1 : Nat) : Int) - 1 = (n : Int) := by omega
      have hi0 : (0 : Int) ≤ (n : Int) := by omega
      have hi1 : (n : Int) < (b.length : Int) := by omega
      have hp : (0 : Int) < ((n + 1 : Nat) : Int) := by omega
      have hpd : decide ((0 : Int) < ((n + 1 : Nat) : Int)) = true := decide_eq_true hp
      have hwr : IntKind.i64.wrap (((n + 1 : Nat) : Int) - 1) = (n : Int) := by rw [e1]; exact IntWalk.i64_in _ (by omega)
      have HX2 := Aside0.mk hx2
      have HTC := Aside0.mk (show ∀ {W : World}, Below w.heap.size w W → Kd.C (Kd.int .u8) W (some ad) (n + 1) (b.take (n + 1)) from fun hb => by have h1 := Kd.C_take (Kd.C_below HC.out hb) hn; rw [List.length_take, Nat.min_eq_left (by omega)] at h1; exact h1)
      clear e0 hx2
      by_cases hx255 : x = 255
      · have hxq : (x == 255) = true := by simpa using hx255
        have HQ := Aside0.mk (show nxt b = nxt (b.take n) by rw [HX.out.2.2.1, HT.out, if_pos hx255])
        clear hx255
        go_wp2
        go_roundg n
        case measure => have := HX.out.1; omega
        case rel => exact ⟨n, rfl, ⟨rfl, by omega, HQ.out, rfl⟩⟩
      · have hxq : (x == 255) = false := by simpa using hx255
        have HQ := Aside0.mk (show nxt b = some (b.take n ++ [x + 1]) by rw [HX.out.2.2.1, HT.out, if_neg hx255])
        have HTA := Aside0.mk (show ([] ++ b.take (n + 1)).set n (x + 1) = b.take n ++ [x + 1] by
          rw [List.nil_append, List.take_succ_eq_append_getElem hlt, List.set_append_right _ _ (by rw [List.length_take]; omega), List.length_take, Nat.min_eq_left (by omega), Nat.sub_self]; rfl)
        have HLT := Aside0.mk (show ([] ++ b.take (n + 1)).length = n + 1 by rw [List.nil_append, List.length_take]; omega)
        have HRD := Aside0.mk (show rdOf (0 : Int) ([] ++ b.take (n + 1)) (n : Int) = x by rw [HX2.out]; simp [rdOf, List.getD_eq_getElem?_getD, hlt])
        have hx254 : x ≤ 254 := by omega
        have hw8 : IntKind.u8.wrap (x + 1) = x + 1 := by simp [IntKind.wrap_u8]; omega
        have hq0 : (((n + 1 : Nat) : Int) == 0) = false := by simp; omega
        have kk := KS.out (n + 1) hn
        have hi2 : (n : Int) < ((n + 1 : Nat) : Int) := by omega
        have hcc : n + 1 ≤ c := by have := HCC.out; omega
        clear hx255
        go_wp2_with
          (first
            | ((with_reducible refine gate_dst (N := 22) rfl ?_); refine Kd.R_lit (Kd.int .u8) (w0 := w) w.heap.size 5 ?hg (N := 22) ?hd (xs := ([] : List Int)) (inner := []) (ok := fun _ => True) (okp := fun _ => True) ?hr ?hp (fun _ hk => hk) trivial ?hB ?hS (by simp) ?_
               case hd => rfl
               case hg => rfl
               case hr => first | (go_simp; done) | (go_simp; rfl)
               case hp => exact Reps.none _ _
               case hB => exact Below.refl _ _
               case hS => exact Nat.le_refl _
               intro v6 w6 hO6 hB6 hg6 hn6
               have HO6 := Aside0.mk hO6
               have HB6 := Aside0.mk hB6
               clear hO6 hB6 hg6 hn6)
            | (at_builtin; guard_hyp HO6; refine Kd.R_append_rows (Kd.int .u8) (w0 := w) w.heap.size rfl (.tmp 22) (.tmp 25) 24 5 (.int .u8 0) 1 rfl Try.underlying24 info5 rfl (by decide) (by decide) v6 [] (b.take (n + 1)) (some ad) (n + 1) c (fun _ => True) (fun _ => False) rfl rfl ?aO ?aR (fun _ _ h => h) (fun _ h => h.elim) (fun _ _ => trivial) ?aB ?aS ?aL ?_
               case aO => exact HO6.out
               case aR => exact HTC.out HB6.out
               case aB => exact HB6.out
               case aS => exact HB6.out.size
               case aL => (simp; omega)
               intro v7 w7 hO7 hB7 hg7 hn7
               obtain ⟨g, cap, rfl, hgl, _⟩ := Kd.R_form hO7 (by rw [HLT.out]; omega)
               have qc := Kd.R_cell (0 : Int) hO7 (n : Int) (by omega) (by rw [HLT.out]; omega)
               rw [HRD.out, Int.toNat_natCast] at qc
               obtain ⟨qc1, qc2⟩ := qc
               have HP7 := Aside0.mk (Kd.R_put hO7 (n : Int) (x + 1)).1
               have HB7 := Aside0.mk (hB7.setCell hgl (p := ⟨g, n, none⟩) (.int .u8 (x + 1)))
               rw [HLT.out]
               clear hO7 hB7 hg7 hn7))
        go_ret2
        rw [HQ.out]
        exact ⟨_, rfl, by have h := HP7.out; rw [HLT.out, Int.toNat_natCast, HTA.out] at h; exact h, by have h := HB7.out; exact h⟩
theorem tailraceref02_Next.calls (A0 : Option Addr) (c0 : Nat) (l0 : List Int) (r1 : List Int) (r2 : Bool) (w : World) (hr0 : Kd.C (Kd.int .u8) w A0 l0.length l0) (hc0 : l0.length ≤ c0) (h : tailraceref02_Next.f l0 = some (r1, r2)) :
    Calls Try.prog 19 #[.slice A0 l0.length c0] w fun e w' => ∃ v0_ : Value, e = .returned (.tuple #[v0_, .bool r2]) ∧ Kd.R (Kd.int .u8) 5 w' w.heap.size (fun _ => True) v0_ r1 ∧ Below w.heap.size w w' := by
  unfold tailraceref02_Next.f at h
  split at h
  case isFalse => cases h
  rename_i hh
  have h := Option.some.inj h
  refine (next_any A0 c0 l0 w hr0 hc0 hh.2 hh.1).mono ?_
  intro e w' he
  unfold NPost at he
  rcases hq : nxt l0 with _ | l
  · rw [hq] at he h; cases h; exact he
  · rw [hq] at he h; cases h; exact he
end Go.Proofs.Ytniihilegljgmaa.P
