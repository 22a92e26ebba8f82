/- The reader of package keys, by hand: text, value. -/
import Derived.Test.YtniihilegljgmaaHandB
import Derived.Deep.LoopGhost
set_option linter.unusedVariables false
set_option linter.unusedSimpArgs false
namespace Go.Proofs.Ytniihilegljgmaa.P
open Go.RowKit Go.Proofs.YtniihilegljgmaaW.PrintWords Go.Proofs.YtniihilegljgmaaW.PrintLast Go.Proofs.YtniihilegljgmaaW.PrintMore Go.Proofs.YtniihilegljgmaaOwn
/-- A text's bytes, and the rest; none: it gives up. -/
def txtK : List Int → Option (List Int × List Int)
  | [] => none
  | x :: r => if x = 0 then (match r with | [] => none | y :: r2 => if y = 0 then some ([], r2) else if y = 255 then (txtK r2).map (fun p => (0 :: p.1, p.2)) else none) else (txtK r).map (fun p => (x :: p.1, p.2))
theorem txtK_ne {x : Int} {r : List Int} (h : x ≠ 0) : txtK (x :: r) = (txtK r).map (fun p => (x :: p.1, p.2)) := by
  cases r <;> simp [txtK, h]
/-- What a method that takes something leaves. -/
def GP {α : Type} (val : α → Value) (w0 w : World) (B : Nat) (q : Option (α × List Int)) (e : Ending) (w' : World) : Prop :=
  match q with
  | none => e = .panicked PAN ∧ KR w w' ∧ Below w0.heap.size w0 w'
  | some (s, r) => ∃ A2 c2, e = .returned (val s) ∧ RS w0 w' B r A2 c2 ∧ KR w w'
def TREL (w0 w : World) (B : Nat) (b : List Int) (gk : Nat) (v : Value) (rest acc : List Int) (A : Option Addr) (c : Nat) (wr : World) : Prop :=
  txtK b = (txtK rest).map (fun p => (acc ++ p.1, p.2)) ∧ RS w0 wr B rest A c ∧ KR w wr ∧ Kd.R (Kd.int .u8) 5 wr w.heap.size (fun _ => True) v acc ∧ rest.length ≤ gk ∧ acc.length + rest.length ≤ b.length
theorem map_map_txt {o : Option (List Int × List Int)} (acc : List Int) (x : Int) : (o.map (fun p => (x :: p.1, p.2))).map (fun p => (acc ++ p.1, p.2)) = o.map (fun p => ((acc ++ [x]) ++ p.1, p.2)) := by
  cases o <;> simp
theorem below_less {B C : Nat} {a b : World} (h : Below B a b) (hc : C ≤ B) : Below C a b := ⟨h.os, h.tape, h.output, h.size, fun i hi => h.block i (by omega)⟩
/-- A row of the method's own has grown: the reader, and all that was there, stand. -/
theorem grow_R {w0 w W w9 : World} {B : Nat} {rest acc : List Int} {A : Option Addr} {c : Nat} {v : Value} (hs : w0.heap.size ≤ w.heap.size) (hR : RS w0 W B rest A c) (hK : KR w W) (hO : Kd.R (Kd.int .u8) 5 W w.heap.size (fun _ => True) v acc)
    (hB : Below w.heap.size W w9) (hg : W.grownBy w9 v.ownBlock) : RS w0 w9 B rest A c ∧ KR w w9 := by
  refine ⟨⟨blk_grown hR.hb hg (Kd.R_ne hO hR.hb (by decide)), hR.hc, hR.hr, hR.gb, ?_, hR.by_⟩, ?_, Nat.le_trans hK.2 hB.size⟩
  · have h2 := below_less hB hs
    exact hR.bl.trans h2
  · intro k cs t fr hk ht
    have h1 := hK.1 k cs t fr hk ht
    rw [hB.block k (blk_lt hk), h1]
set_option maxHeartbeats 8000000 in
set_option maxRecDepth 100000 in
theorem text_any (w0 w : World) (B : Nat) (b : List Int) (A : Option Addr) (c : Nat) (h : RS w0 w B b A c) (hl : b.length ≤ 100000000) :
    Calls Try.prog 38 #[.pointer (some ⟨B, 0, none⟩)] w fun e w' => GP (fun l => .string (strOfNums l)) w0 w B (txtK b) e w' := by
  have hmf : ∀ (fn : Fn) (first cap : Array Value) (w : World), (Instr.makeFunc fn first cap).run Try.prog w = .ok (.func fn first cap) w := fun _ _ _ _ => rfl
  have H := Aside0.mk h
  have HS := Aside0.mk h.bl.size
  have HL := Aside0.mk hl
  clear h hl
  go_enter Try.func38, Try.ntmps38
  go_wp2
  go_loopg [3] b.length (fun gk v3 wr => ∃ (rest acc : List Int) (A : Option Addr) (c : Nat), Aside0 (TREL w0 w B b gk v3 rest acc A c wr))
  case atStart => exact ⟨b, [], A, c, ⟨by cases txtK b <;> simp, H.out, KR.refl w, Kd.R_nil _ _ _ _ _, Nat.le_refl _, by simp⟩⟩
  case round =>
    obtain ⟨rest, acc, A, c, HX⟩ := hrel
    obtain ⟨A3, c3, rfl⟩ := Kd.R_slice HX.out.2.2.2.1
    rcases rest with _ | ⟨x, r⟩
    · have HR := Aside0.mk HX.out.2.1
      go_wp2_with (go_at_call 36; refine (byte_none _ _ _ _ _ HR.out).mono ?_; rintro e w7 ⟨rfl, rfl⟩)
      refine ⟨rfl, ?_⟩
      rw [HX.out.1]
      exact ⟨rfl, HX.out.2.2.1, HR.out.bl⟩
    · have HR := Aside0.mk HX.out.2.1
      by_cases hx : x = 0
      · subst hx
        rcases r with _ | ⟨y, r⟩
        · have HT := Aside0.mk (show txtK b = none by rw [HX.out.1]; rfl)
          have TOK : True := trivial
          go_wp2_with
            (first
              | (go_at_call 36; guard_hyp TOK; refine (byte_yes HR.out).mono ?_
                 rintro e w7 ⟨A7, c7, rfl, hR, hK⟩
                 have HR7 := Aside0.mk hR
                 have HK7 := Aside0.mk hK
                 clear hR hK TOK)
              | (go_at_call 36; guard_hyp HK7; refine (byte_none _ _ _ _ _ HR7.out).mono ?_
                 rintro e w8 ⟨rfl, rfl⟩))
          refine ⟨rfl, ?_⟩
          rw [HT.out]
          exact ⟨rfl, HX.out.2.2.1.trans HK7.out, HR7.out.bl⟩
        · by_cases hy0 : y = 0
          · subst hy0
            have HT := Aside0.mk (show txtK b = some (acc, r) by rw [HX.out.1]; simp [txtK])
            have TOK : True := trivial
            go_wp2_with
              (first
                | (go_at_call 36; guard_hyp TOK; refine (byte_yes HR.out).mono ?_
                   rintro e w7 ⟨A7, c7, rfl, hR, hK⟩
                   have HR7 := Aside0.mk hR
                   have HK7 := Aside0.mk hK
                   clear hR hK TOK)
                | (go_at_call 36; guard_hyp HK7; refine (byte_yes HR7.out).mono ?_
                   rintro e w8 ⟨A8, c8, rfl, hR, hK⟩
                   have HR8 := Aside0.mk hR
                   have HK8 := Aside0.mk hK
                   have kc := Kd.C_string (P := Try.prog) Try.underlying24 Try.underlying5 Try.underlying9 (c := c3) (Kd.R_reads' (R_keepR HX.out.2.2.2.1 (HK7.out.trans HK8.out).1 (by intro q hq; simp [Kd.int, Kd.scalar] at hq; subst hq; decide))).2.2
                   clear hR hK))
            go_ret
            rw [HT.out]
            exact ⟨A8, c8, rfl, HR8.out, HX.out.2.2.1.trans (HK7.out.trans HK8.out)⟩
          · have hyq : (y == 0) = false := by simpa using hy0
            by_cases hy1 : y = 255
            · subst hy1
              have HT := Aside0.mk (show txtK b = (txtK r).map (fun p => ((acc ++ [0]) ++ p.1, p.2)) by rw [HX.out.1, ← map_map_txt]; simp [txtK])
              have TOK : True := trivial
              go_wp2_with
                (first
                  | (go_at_call 36; guard_hyp TOK; refine (byte_yes HR.out).mono ?_
                     rintro e w7 ⟨A7, c7, rfl, hR, hK⟩
                     have HR7 := Aside0.mk hR
                     have HK7 := Aside0.mk hK
                     clear hR hK TOK)
                  | (go_at_call 36; guard_hyp HK7; refine (byte_yes HR7.out).mono ?_
                     rintro e w8 ⟨A8, c8, rfl, hR, hK⟩
                     have HR8 := Aside0.mk hR
                     have HK8 := Aside0.mk hK
                     clear hR hK)
                  | (at_builtin; guard_hyp HR8; refine Kd.R_append (w0 := w8) (W := w8) (Kd.int .u8) w.heap.size ?x1 (.tmp 21) (.tmp 23) 24 5 (.int .u8 0) 1 ?x2 Try.underlying24 info5 rfl (by decide) (by decide) (.slice A3 acc.length c3) acc 0 [.int .u8 0] (fun _ => True) (fun _ => False) ?x3 ?x4 ?x5 (fun _ h => h.elim) (fun _ _ => trivial) ?x8 (Below.refl _ _) ?x10 ?x11 ?_
                     case x1 => rfl
                     case x2 => rfl
                     case x3 => rfl
                     case x4 => rfl
                     case x5 => rfl
                     case x8 => exact R_keepR HX.out.2.2.2.1 ((HK7.out.trans HK8.out)).1 (by intro q hq; simp [Kd.int, Kd.scalar] at hq; subst hq; decide)
                     case x10 => exact (HX.out.2.2.1.trans (HK7.out.trans HK8.out)).2
                     case x11 => (have h1 := HL.out; have h2 := HX.out.2.2.2.2.2; simp only [List.length_cons] at h2; omega)
                     intro v9 w9 hO9 hB9 hg9 hat9
                     have hG := grow_R HS.out HR8.out (HX.out.2.2.1.trans (HK7.out.trans HK8.out)) (R_keepR HX.out.2.2.2.1 ((HK7.out.trans HK8.out)).1 (by intro q hq; simp [Kd.int, Kd.scalar] at hq; subst hq; decide)) hB9 hg9
                     have HR9 := Aside0.mk hG.1
                     have HK9 := Aside0.mk hG.2
                     have HO9 := Aside0.mk hO9
                     clear hO9 hB9 hg9 hat9 hG))
              go_roundg r.length
              case measure => have h := HX.out.2.2.2.2.1; simp only [List.length_cons] at h; omega
              case rel => exact ⟨r, acc ++ [0], A8, c8, ⟨HT.out, HR9.out, HK9.out, HO9.out, Nat.le_refl _, by have h := HX.out.2.2.2.2.2; simp only [List.length_cons, List.length_append, List.length_nil] at h ⊢; omega⟩⟩
            · have hyq1 : (y == 255) = false := by simpa using hy1
              have HT := Aside0.mk (show txtK b = none by rw [HX.out.1]; simp [txtK, hy0, hy1])
              have TOK : True := trivial
              clear hy0 hy1
              go_wp2_with
                (first
                  | (go_at_call 36; guard_hyp TOK; refine (byte_yes HR.out).mono ?_
                     rintro e w7 ⟨A7, c7, rfl, hR, hK⟩
                     have HR7 := Aside0.mk hR
                     have HK7 := Aside0.mk hK
                     clear hR hK TOK)
                  | (go_at_call 36; guard_hyp HK7; refine (byte_yes HR7.out).mono ?_
                     rintro e w8 ⟨A8, c8, rfl, hR, hK⟩
                     have HR8 := Aside0.mk hR
                     have HK8 := Aside0.mk hK
                     clear hR hK))
              refine ⟨rfl, ?_⟩
              rw [HT.out]
              exact ⟨rfl, HX.out.2.2.1.trans (HK7.out.trans HK8.out), HR8.out.bl⟩
      · have hxq : (x == 0) = false := by simpa using hx
        have HT := Aside0.mk (show txtK b = (txtK r).map (fun p => ((acc ++ [x]) ++ p.1, p.2)) by rw [HX.out.1, ← map_map_txt]; rw [txtK_ne hx])
        have TOK : True := trivial
        clear hx
        go_wp2_with
          (first
            | (go_at_call 36; guard_hyp TOK; refine (byte_yes HR.out).mono ?_
               rintro e w7 ⟨A7, c7, rfl, hR, hK⟩
               have HR7 := Aside0.mk hR
               have HK7 := Aside0.mk hK
               clear hR hK TOK)
            | (at_builtin; guard_hyp HR7; refine Kd.R_append (w0 := w7) (W := w7) (Kd.int .u8) w.heap.size ?x1 (.tmp 21) (.tmp 23) 24 5 (.int .u8 0) 1 ?x2 Try.underlying24 info5 rfl (by decide) (by decide) (.slice A3 acc.length c3) acc x [.int .u8 x] (fun _ => True) (fun _ => False) ?x3 ?x4 ?x5 (fun _ h => h.elim) (fun _ _ => trivial) ?x8 (Below.refl _ _) ?x10 ?x11 ?_
               case x1 => rfl
               case x2 => rfl
               case x3 => rfl
               case x4 => rfl
               case x5 => rfl
               case x8 => exact R_keepR HX.out.2.2.2.1 (HK7.out).1 (by intro q hq; simp [Kd.int, Kd.scalar] at hq; subst hq; decide)
               case x10 => exact (HX.out.2.2.1.trans HK7.out).2
               case x11 => (have h1 := HL.out; have h2 := HX.out.2.2.2.2.2; simp only [List.length_cons] at h2; omega)
               intro v9 w9 hO9 hB9 hg9 hat9
               have hG := grow_R HS.out HR7.out (HX.out.2.2.1.trans HK7.out) (R_keepR HX.out.2.2.2.1 (HK7.out).1 (by intro q hq; simp [Kd.int, Kd.scalar] at hq; subst hq; decide)) hB9 hg9
               have HR9 := Aside0.mk hG.1
               have HK9 := Aside0.mk hG.2
               have HO9 := Aside0.mk hO9
               clear hO9 hB9 hg9 hat9 hG))
        go_roundg r.length
        case measure => have h := HX.out.2.2.2.2.1; simp only [List.length_cons] at h; omega
        case rel => exact ⟨r, acc ++ [x], A7, c7, ⟨HT.out, HR9.out, HK9.out, HO9.out, Nat.le_refl _, by have h := HX.out.2.2.2.2.2; simp only [List.length_cons, List.length_append, List.length_nil] at h ⊢; omega⟩⟩
end Go.Proofs.Ytniihilegljgmaa.P
