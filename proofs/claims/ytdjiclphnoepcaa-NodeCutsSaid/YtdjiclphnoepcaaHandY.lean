/- The contract of the law NodeCuts, by hand. -/
import Derived.Test.YtdjiclphnoepcaaRT
import Derived.Test.YtdjiclphnoepcaaRN
import Derived.Test.YtdjiclphnoepcaaHandW
import Derived.Outline
import Derived.Deep.CutBlock
import Derived.Deep.DeepCutAuto
set_option linter.unusedVariables false
set_option linter.unusedSimpArgs false
namespace Go.Proofs.Ytdjiclphnoepcaa.P
open Go.RowKit Go.Proofs.YtdjiclphnoepcaaW.PrintWords Go.Proofs.YtdjiclphnoepcaaW.PrintLast Go.Proofs.YtdjiclphnoepcaaW.PrintMore Go.Proofs.YtdjiclphnoepcaaOwn
/-- The law's node, boxed. -/
structure BX (w W : World) (leaf : Bool) (A1 : Option Addr) (c1 : Nat) (keys : List ByteArray) (A2 : Option Addr) (c2 : Nat) (vals : List ByteArray) (A3 : Option Addr) (c3 : Nat) (kids : List Int) : Prop where
  hb : W.heap[w.heap.size]? = some (Obj.cells #[.bool leaf, .slice A1 keys.length c1, .slice A2 vals.length c2, .slice A3 kids.length c3] 26 (0, 0))
  r1 : Kd.C Kd.string W A1 keys.length keys
  r2 : Kd.C Kd.string W A2 vals.length vals
  r3 : Kd.C (Kd.int .i64) W A3 kids.length kids
  bl : Below w.heap.size w W
section
variable {w W W1 : World} {leaf : Bool} {A1 A2 A3 : Option Addr} {c1 c2 c3 : Nat} {keys vals : List ByteArray} {kids : List Int}
theorem BX.below (h : BX w W leaf A1 c1 keys A2 c2 vals A3 c3 kids) (k : Below W.heap.size W W1) : BX w W1 leaf A1 c1 keys A2 c2 vals A3 c3 kids :=
  ⟨blk_below h.hb k, Kd.C_below h.r1 k, Kd.C_below h.r2 k, Kd.C_below h.r3 k, below_step h.bl k⟩
theorem BX.alloc (h : BX w W leaf A1 c1 keys A2 c2 vals A3 c3 kids) (o : Obj) : BX w (W.alloc o) leaf A1 c1 keys A2 c2 vals A3 c3 kids := h.below (below_alloc (Below.refl _ _) _)
theorem BX.start (h1 : Kd.C Kd.string w A1 keys.length keys) (h2 : Kd.C Kd.string w A2 vals.length vals) (h3 : Kd.C (Kd.int .i64) w A3 kids.length kids) (W : World)
    (hW : W = w.alloc (.cells #[.bool leaf, .slice A1 keys.length c1, .slice A2 vals.length c2, .slice A3 kids.length c3] 26)) : BX w W leaf A1 c1 keys A2 c2 vals A3 c3 kids := by
  subst hW
  exact ⟨blk_new w _, Kd.C_alloc h1 _, Kd.C_alloc h2 _, Kd.C_alloc h3 _, below_alloc (Below.refl _ w) _⟩
end
theorem C_grown0 {α : Type} {d : Kd α} {w w1 : World} {A : Option Addr} {n : Nat} {xs : List α} (h : Kd.C d w A n xs) (hg : w.grownBy w1 none) : Kd.C d w1 A n xs :=
  Kd.C_below h ⟨hg.os, hg.tape, hg.output, hg.size, fun i hi => hg.block i hi (by simp)⟩
section
variable (leaf : Bool) (A1 : Option Addr) (c1 : Nat) (keys : List ByteArray) (A2 : Option Addr) (c2 : Nat) (vals : List ByteArray) (A3 : Option Addr) (c3 : Nat) (kids : List Int) (cut : Int) (AM : Option Addr) (cM : Nat) (more : List Int) (w : World)
  (hr1 : Kd.C Kd.string w A1 keys.length keys) (hc1 : keys.length ≤ c1) (hr2 : Kd.C Kd.string w A2 vals.length vals) (hc2 : vals.length ≤ c2) (hr3 : Kd.C (Kd.int .i64) w A3 kids.length kids) (hc3 : kids.length ≤ c3) (hrM : Kd.C (Kd.int .u8) w AM more.length more) (hcM : more.length ≤ cM)
  (f1 : keys.length ≤ maxLen) (f2 : vals.length ≤ maxLen)
include hr1 hc1 hr2 hc2 hr3 hc3 f1 f2 hrM hcM
set_option maxHeartbeats 8000000 in
set_option maxRecDepth 100000 in
theorem cuts_few (hf : few keys vals kids = false) :
    Calls Try.prog 8 #[.agg #[.bool leaf, .slice A1 keys.length c1, .slice A2 vals.length c2, .slice A3 kids.length c3], .int .i64 cut, .slice AM more.length cM] w fun e w' => e = .returned (.bool true) ∧ Below w.heap.size w w' := by
  have hu := Try.underlying26
  have XS := Aside0.mk (BX.start (leaf := leaf) (c1 := c1) (c2 := c2) (c3 := c3) hr1 hr2 hr3)
  have HFEW := Aside0.mk (show tailracelaw10_Few.f 3000 leaf keys vals kids = some false by rw [Few_eq leaf keys vals kids f1 f2 3000 (by omega) (by omega), hf])
  have HC1 := Aside0.mk hc1
  have HC2 := Aside0.mk hc2
  have HC3 := Aside0.mk hc3
  have HRM := Aside0.mk (And.intro hrM hcM)
  clear hr1 hc1 hr2 hc2 hr3 hc3 f1 f2 hrM hcM hf
  go_enter Try.func8, Try.ntmps8
  go_wp2_with
    (first
      | (go_at_call 9; refine (tailracelaw10_awake.calls true _ rfl).mono ?_
         rintro e w1 ⟨rfl, hb⟩
         have X1 := Aside0.mk ((XS.out _ rfl).below hb)
         have qa0 : w1.cell? ⟨w.heap.size, 0, none⟩ = some (.bool leaf) := (blk_cell X1.out.hb 0).trans rfl
         have qa1 : w1.cell? ⟨w.heap.size, 1, none⟩ = some (.slice A1 keys.length c1) := (blk_cell X1.out.hb 1).trans rfl
         have qa2 : w1.cell? ⟨w.heap.size, 2, none⟩ = some (.slice A2 vals.length c2) := (blk_cell X1.out.hb 2).trans rfl
         have qa3 : w1.cell? ⟨w.heap.size, 3, none⟩ = some (.slice A3 kids.length c3) := (blk_cell X1.out.hb 3).trans rfl
         clear hb)
      | (go_at_call 10; refine (tailracelaw10_Few.calls 3000 leaf A1 c1 keys A2 c2 vals A3 c3 kids false _ X1.out.r1 HC1.out X1.out.r2 HC2.out X1.out.r3 HC3.out HFEW.out).mono ?_
         rintro e w2 ⟨rfl, hb⟩
         have X2 := Aside0.mk (X1.out.below hb)
         have qb0 : w2.cell? ⟨w.heap.size, 0, none⟩ = some (.bool leaf) := (blk_cell X2.out.hb 0).trans rfl
         have qb1 : w2.cell? ⟨w.heap.size, 1, none⟩ = some (.slice A1 keys.length c1) := (blk_cell X2.out.hb 1).trans rfl
         have qb2 : w2.cell? ⟨w.heap.size, 2, none⟩ = some (.slice A2 vals.length c2) := (blk_cell X2.out.hb 2).trans rfl
         have qb3 : w2.cell? ⟨w.heap.size, 3, none⟩ = some (.slice A3 kids.length c3) := (blk_cell X2.out.hb 3).trans rfl
         clear hb))
  go_ret
  exact ⟨rfl, X2.out.bl⟩
set_option maxHeartbeats 8000000 in
set_option maxRecDepth 100000 in
theorem cuts_more (hf : few keys vals kids = true) (hm : 50 < more.length) :
    Calls Try.prog 8 #[.agg #[.bool leaf, .slice A1 keys.length c1, .slice A2 vals.length c2, .slice A3 kids.length c3], .int .i64 cut, .slice AM more.length cM] w fun e w' => e = .returned (.bool true) ∧ Below w.heap.size w w' := by
  have hu := Try.underlying26
  have XS := Aside0.mk (BX.start (leaf := leaf) (c1 := c1) (c2 := c2) (c3 := c3) hr1 hr2 hr3)
  have HFEW := Aside0.mk (show tailracelaw10_Few.f 3000 leaf keys vals kids = some true by rw [Few_eq leaf keys vals kids f1 f2 3000 (by omega) (by omega), hf])
  have HC1 := Aside0.mk hc1
  have HC2 := Aside0.mk hc2
  have HC3 := Aside0.mk hc3
  have HRM := Aside0.mk (And.intro hrM hcM)
  have hmi : (50 : Int) < more.length := by omega
  clear hr1 hc1 hr2 hc2 hr3 hc3 f1 f2 hrM hcM hf
  go_enter Try.func8, Try.ntmps8
  go_wp2_with
    (first
      | (go_at_call 9; refine (tailracelaw10_awake.calls true _ rfl).mono ?_
         rintro e w1 ⟨rfl, hb⟩
         have X1 := Aside0.mk ((XS.out _ rfl).below hb)
         have qa0 : w1.cell? ⟨w.heap.size, 0, none⟩ = some (.bool leaf) := (blk_cell X1.out.hb 0).trans rfl
         have qa1 : w1.cell? ⟨w.heap.size, 1, none⟩ = some (.slice A1 keys.length c1) := (blk_cell X1.out.hb 1).trans rfl
         have qa2 : w1.cell? ⟨w.heap.size, 2, none⟩ = some (.slice A2 vals.length c2) := (blk_cell X1.out.hb 2).trans rfl
         have qa3 : w1.cell? ⟨w.heap.size, 3, none⟩ = some (.slice A3 kids.length c3) := (blk_cell X1.out.hb 3).trans rfl
         clear hb)
      | (go_at_call 10; refine (tailracelaw10_Few.calls 3000 leaf A1 c1 keys A2 c2 vals A3 c3 kids true _ X1.out.r1 HC1.out X1.out.r2 HC2.out X1.out.r3 HC3.out HFEW.out).mono ?_
         rintro e w2 ⟨rfl, hb⟩
         have X2 := Aside0.mk (X1.out.below hb)
         have qb0 : w2.cell? ⟨w.heap.size, 0, none⟩ = some (.bool leaf) := (blk_cell X2.out.hb 0).trans rfl
         have qb1 : w2.cell? ⟨w.heap.size, 1, none⟩ = some (.slice A1 keys.length c1) := (blk_cell X2.out.hb 1).trans rfl
         have qb2 : w2.cell? ⟨w.heap.size, 2, none⟩ = some (.slice A2 vals.length c2) := (blk_cell X2.out.hb 2).trans rfl
         have qb3 : w2.cell? ⟨w.heap.size, 3, none⟩ = some (.slice A3 kids.length c3) := (blk_cell X2.out.hb 3).trans rfl
         clear hb))
  go_ret
  exact ⟨rfl, X2.out.bl⟩
set_option maxHeartbeats 8000000 in
set_option maxRecDepth 100000 in
theorem cuts_bad (hf : few keys vals kids = true) (hm : more.length ≤ 50) (er : Int) (he : er = 100 ∨ er = 101) (hE : node_Encode.f leaf keys vals kids = some (0, [], er)) :
    Calls Try.prog 8 #[.agg #[.bool leaf, .slice A1 keys.length c1, .slice A2 vals.length c2, .slice A3 kids.length c3], .int .i64 cut, .slice AM more.length cM] w fun e w' => e = .returned (.bool true) ∧ Below w.heap.size w w' := by
  have hu := Try.underlying26
  have XS := Aside0.mk (BX.start (leaf := leaf) (c1 := c1) (c2 := c2) (c3 := c3) hr1 hr2 hr3)
  have HFEW := Aside0.mk (show tailracelaw10_Few.f 3000 leaf keys vals kids = some true by rw [Few_eq leaf keys vals kids f1 f2 3000 (by omega) (by omega), hf])
  have HC1 := Aside0.mk hc1
  have HC2 := Aside0.mk hc2
  have HC3 := Aside0.mk hc3
  have HRM := Aside0.mk (And.intro hrM hcM)
  have hmi : (more.length : Int) ≤ 50 := by omega
  have HENC := Aside0.mk hE
  clear hr1 hc1 hr2 hc2 hr3 hc3 f1 f2 hrM hcM hf hE
  rcases he with rfl | rfl
  all_goals
    go_enter Try.func8, Try.ntmps8
    go_wp2_with
      (first
        | (go_at_call 9; refine (tailracelaw10_awake.calls true _ rfl).mono ?_
           rintro e w1 ⟨rfl, hb⟩
           have X1 := Aside0.mk ((XS.out _ rfl).below hb)
           have qa0 : w1.cell? ⟨w.heap.size, 0, none⟩ = some (.bool leaf) := (blk_cell X1.out.hb 0).trans rfl
           have qa1 : w1.cell? ⟨w.heap.size, 1, none⟩ = some (.slice A1 keys.length c1) := (blk_cell X1.out.hb 1).trans rfl
           have qa2 : w1.cell? ⟨w.heap.size, 2, none⟩ = some (.slice A2 vals.length c2) := (blk_cell X1.out.hb 2).trans rfl
           have qa3 : w1.cell? ⟨w.heap.size, 3, none⟩ = some (.slice A3 kids.length c3) := (blk_cell X1.out.hb 3).trans rfl
           clear hb)
        | (go_at_call 10; refine (tailracelaw10_Few.calls 3000 leaf A1 c1 keys A2 c2 vals A3 c3 kids true _ X1.out.r1 HC1.out X1.out.r2 HC2.out X1.out.r3 HC3.out HFEW.out).mono ?_
           rintro e w2 ⟨rfl, hb⟩
           have X2 := Aside0.mk (X1.out.below hb)
           have qb0 : w2.cell? ⟨w.heap.size, 0, none⟩ = some (.bool leaf) := (blk_cell X2.out.hb 0).trans rfl
           have qb1 : w2.cell? ⟨w.heap.size, 1, none⟩ = some (.slice A1 keys.length c1) := (blk_cell X2.out.hb 1).trans rfl
           have qb2 : w2.cell? ⟨w.heap.size, 2, none⟩ = some (.slice A2 vals.length c2) := (blk_cell X2.out.hb 2).trans rfl
           have qb3 : w2.cell? ⟨w.heap.size, 3, none⟩ = some (.slice A3 kids.length c3) := (blk_cell X2.out.hb 3).trans rfl
           clear hb)
        | (go_at_call 11; refine (node_Encode.calls leaf A1 c1 keys A2 c2 vals A3 c3 kids 0 [] _ _ X2.out.r1 HC1.out X2.out.r2 HC2.out X2.out.r3 HC3.out HENC.out).mono ?_
           rintro e w3 ⟨v3, rfl, hR3, hb⟩
           have X3 := Aside0.mk (X2.out.below hb)
           obtain ⟨A9, c9, rfl⟩ := Kd.R_slice hR3
           clear hb hR3))
    go_ret
    exact ⟨rfl, X3.out.bl⟩
set_option maxHeartbeats 8000000 in
set_option maxRecDepth 100000 in
theorem cuts_good (hf : few keys vals kids = true) (hm : more.length ≤ 50) (kd : Int) (b : List Int) (m : Nat) (hb1 : 1 ≤ b.length) (hb2 : b.length ≤ 1000) (hml : m < b.length) (hc64 : -9223372036854775808 ≤ cut ∧ cut ≤ 9223372036854775807) (hcut : 0 ≤ cut → cut % b.length = m) (hcut2 : cut < 0 → (-(cut + 1)) % b.length = m) (hE : node_Encode.f leaf keys vals kids = some (kd, b, 0))
    (hD1 : node_Decode.f kd (b.take m) = some (false, [], [], [], 100)) (r1 : Bool) (r2 r3 : List ByteArray) (r4 : List Int) (r5 : Int) (hD2 : node_Decode.f kd ([] ++ b ++ more) = some (r1, r2, r3, r4, r5)) (h5 : (more.length = 0 ∧ r5 = 0) ∨ (0 < more.length ∧ r5 = 100)) :
    Calls Try.prog 8 #[.agg #[.bool leaf, .slice A1 keys.length c1, .slice A2 vals.length c2, .slice A3 kids.length c3], .int .i64 cut, .slice AM more.length cM] w fun e w' => e = .returned (.bool true) ∧ Below w.heap.size w w' := by
  have hu := Try.underlying26
  have XS := Aside0.mk (BX.start (leaf := leaf) (c1 := c1) (c2 := c2) (c3 := c3) hr1 hr2 hr3)
  have HFEW := Aside0.mk (show tailracelaw10_Few.f 3000 leaf keys vals kids = some true by rw [Few_eq leaf keys vals kids f1 f2 3000 (by omega) (by omega), hf])
  have HC1 := Aside0.mk hc1
  have HC2 := Aside0.mk hc2
  have HC3 := Aside0.mk hc3
  have HRM := Aside0.mk (And.intro hrM hcM)
  obtain ⟨i0, hi, hzz⟩ := Option.map_eq_some_iff.1 info5
  simp only [Prod.mk.injEq] at hzz
  obtain ⟨_, hz1, _⟩ := hzz
  have HENC := Aside0.mk hE
  have HD1 := Aside0.mk hD1
  have HD2 := Aside0.mk hD2
  have htl : (b.take m).length = m := by rw [List.length_take]; omega
  have HTL := Aside0.mk htl
  have HTB := Aside0.mk (show (b.take m).length ≤ b.length by omega)
  have HTK := Aside0.mk (show ∀ (W : World) (A : Option Addr), Kd.C (Kd.int .u8) W A b.length b → Kd.C (Kd.int .u8) W A (b.take m).length (b.take m) from fun W A h => Kd.C_take h (by omega))
  obtain ⟨n8, hn8⟩ : ∃ n8, ([] ++ b ++ more).length = n8 := ⟨_, rfl⟩
  have HLEN8 := Aside0.mk hn8
  have ks : ∀ (A : Option Addr) (c : Nat) (_ : b.length ≤ c) (W : World), (Instr.slice 28 (.slice A b.length c) none (some (.int .i64 (m : Int))) none).run Try.prog W = .ok (.slice A m c) W := fun A c hc W => by
    simpa using cut_to (P := Try.prog) 28 5 .i64 Try.underlying28 hi A b.length c (m : Int) (by omega) (by omega) hc W
  have hmi : (more.length : Int) ≤ 50 := by omega
  have hbp : (0 : Int) < b.length := by omega
  have hbz : ¬ ((b.length : Int) = 0) := by omega
  have hbz2 : ¬ (b.length = 0) := by omega
  obtain ⟨hc0, hc9⟩ := hc64
  have HM := Aside0.mk hm
  have HB2 := Aside0.mk hb2
  by_cases hneg : cut < 0
  · have hrem := hcut2 hneg
    clear hcut hcut2
    have hq0 : 0 ≤ -(cut + 1) := by omega
    have hq9 : -(cut + 1) ≤ 9223372036854775807 := by omega
    have htm : (-(cut + 1)).tmod (b.length : Int) = m := by rw [Int.tmod_eq_emod_of_nonneg hq0]; exact hrem
    clear hr1 hc1 hr2 hc2 hr3 hc3 f1 f2 hrM hcM hf hE hD1 hD2 htl hn8 hi hz1
    rcases h5 with ⟨hm0, rfl⟩ | ⟨hm0, rfl⟩
    all_goals
      first
        | have hq : ((more.length : Int) == 0) = true := by rw [hm0]; rfl
        | have hq : ((more.length : Int) == 0) = false := by simp; intro h; rw [h] at hm0; simp at hm0
      clear hm0
      go_enter Try.func8, Try.ntmps8
      go_wp2_with
        (first
          | (go_at_call 9; refine (tailracelaw10_awake.calls true _ rfl).mono ?_
             rintro e w1 ⟨rfl, hb⟩
             have X1 := Aside0.mk ((XS.out _ rfl).below hb)
             have qa0 : w1.cell? ⟨w.heap.size, 0, none⟩ = some (.bool leaf) := (blk_cell X1.out.hb 0).trans rfl
             have qa1 : w1.cell? ⟨w.heap.size, 1, none⟩ = some (.slice A1 keys.length c1) := (blk_cell X1.out.hb 1).trans rfl
             have qa2 : w1.cell? ⟨w.heap.size, 2, none⟩ = some (.slice A2 vals.length c2) := (blk_cell X1.out.hb 2).trans rfl
             have qa3 : w1.cell? ⟨w.heap.size, 3, none⟩ = some (.slice A3 kids.length c3) := (blk_cell X1.out.hb 3).trans rfl
             clear hb)
          | (go_at_call 10; refine (tailracelaw10_Few.calls 3000 leaf A1 c1 keys A2 c2 vals A3 c3 kids true _ X1.out.r1 HC1.out X1.out.r2 HC2.out X1.out.r3 HC3.out HFEW.out).mono ?_
             rintro e w2 ⟨rfl, hb⟩
             have X2 := Aside0.mk (X1.out.below hb)
             have qb0 : w2.cell? ⟨w.heap.size, 0, none⟩ = some (.bool leaf) := (blk_cell X2.out.hb 0).trans rfl
             have qb1 : w2.cell? ⟨w.heap.size, 1, none⟩ = some (.slice A1 keys.length c1) := (blk_cell X2.out.hb 1).trans rfl
             have qb2 : w2.cell? ⟨w.heap.size, 2, none⟩ = some (.slice A2 vals.length c2) := (blk_cell X2.out.hb 2).trans rfl
             have qb3 : w2.cell? ⟨w.heap.size, 3, none⟩ = some (.slice A3 kids.length c3) := (blk_cell X2.out.hb 3).trans rfl
             clear hb)
          | (go_at_call 11; refine (node_Encode.calls leaf A1 c1 keys A2 c2 vals A3 c3 kids kd b 0 _ X2.out.r1 HC1.out X2.out.r2 HC2.out X2.out.r3 HC3.out HENC.out).mono ?_
             rintro e w3 ⟨v3, rfl, hR3, hb⟩
             have X3 := Aside0.mk (X2.out.below hb)
             obtain ⟨A9, c9, rfl, hc9, hC9⟩ := Kd.R_reads hR3
             have HC9 := Aside0.mk (And.intro hc9 hC9)
             have TOK3 : True := trivial
             have hmc : m ≤ c9 := by omega
             clear hb hR3 hc9 hC9)
          | (go_at_call 17; guard_hyp TOK3; refine calls_of_args (show #[Value.int .i64 kd, .slice A9 m c9] = #[.int .i64 kd, .slice A9 (b.take m).length c9] by rw [HTL.out]) ?_; refine (node_Decode.calls kd A9 c9 (b.take m) false [] [] [] 100 _ (HTK.out _ _ HC9.out.2) (Nat.le_trans HTB.out HC9.out.1) HD1.out).mono ?_
             rintro e w4 ⟨v41, v42, v43, rfl, hR1, hR2, hR3, hb⟩
             have HB4 := Aside0.mk (below_step X3.out.bl hb)
             have HC4 := Aside0.mk (Kd.C_below HC9.out.2 hb)
             obtain ⟨A41, c41, rfl⟩ := Kd.R_slice hR1
             obtain ⟨A42, c42, rfl⟩ := Kd.R_slice hR2
             obtain ⟨A43, c43, rfl⟩ := Kd.R_slice hR3
             clear hb hR1 hR2 hR3 TOK3)
          | ((with_reducible refine gate_dst (N := 61) rfl ?_); refine Kd.R_lit (Kd.int .u8) (w0 := w) w.heap.size 5 ?hg (N := 61) ?hd (xs := ([] : List Int)) (inner := []) (ok := fun _ => True) (okp := fun _ => True) ?hr ?hp (fun _ hk => hk) trivial ?hB ?hS (by simp) ?_
             case hd => rfl
             case hg => rfl
             case hr => first | (go_simp; done) | (go_simp; rfl)
             case hp => exact Reps.none _ _
             case hB => exact below_alloc HB4.out _
             case hS => exact (below_alloc HB4.out _).size
             intro v6 w6 hO6 hB6 hg6 hn6
             have HO6 := Aside0.mk hO6
             have HB6 := Aside0.mk hB6
             have HC6 := Aside0.mk (C_grown0 (Kd.C_alloc HC4.out _) hg6)
             clear hO6 hB6 hg6 hn6)
          | (at_builtin; guard_hyp HC6; refine Kd.R_append_rows (Kd.int .u8) (w0 := w) w.heap.size rfl (.tmp 61) (.tmp 62) 28 5 (.int .u8 0) 1 rfl Try.underlying28 info5 rfl (by decide) (by decide) v6 [] b A9 b.length c9 (fun _ => True) (fun _ => False) rfl rfl ?aO ?aR (fun _ _ h => h) (fun _ h => h.elim) (fun _ _ => trivial) ?aB ?aS ?aL ?_
             case aO => exact HO6.out
             case aR => exact HC6.out
             case aB => exact HB6.out
             case aS => exact HB6.out.size
             case aL => (simp; omega)
             intro v7 w7 hO7 hB7 hg7 hn7
             have HO7 := Aside0.mk hO7
             have HB7 := Aside0.mk hB7
             clear hO7 hB7 hg7 hn7 HC6)
          | (at_builtin; guard_hyp HO7; refine Kd.R_append_rows (Kd.int .u8) (w0 := w) w.heap.size rfl (.tmp 63) (.tmp 64) 28 5 (.int .u8 0) 1 rfl Try.underlying28 info5 rfl (by decide) (by decide) v7 ([] ++ b) more AM more.length cM (fun _ => True) (fun _ => False) rfl rfl ?aO ?aR (fun _ _ h => h) (fun _ h => h.elim) (fun _ _ => trivial) ?aB ?aS ?aL ?_
             case aO => exact HO7.out
             case aR => exact Kd.C_below HRM.out.1 HB7.out
             case aB => exact HB7.out
             case aS => exact HB7.out.size
             case aL => (simp; omega)
             intro v8 w8 hO8 hB8 hg8 hn8
             obtain ⟨A8, c8, rfl, hc8, hC8⟩ := Kd.R_reads hO8
             rw [HLEN8.out] at hc8 hC8
             have HC8 := Aside0.mk (And.intro hc8 hC8)
             have HB8 := Aside0.mk hB8
             rw [HLEN8.out]
             clear hO8 hB8 hg8 hn8 hc8 hC8)
          | (go_at_call 17; guard_hyp HC8; refine calls_of_args (show #[Value.int .i64 kd, .slice A8 n8 c8] = #[.int .i64 kd, .slice A8 ([] ++ b ++ more).length c8] by rw [HLEN8.out]) ?_; refine (node_Decode.calls kd A8 c8 ([] ++ b ++ more) r1 r2 r3 r4 _ _ (by rw [HLEN8.out]; exact HC8.out.2) (by rw [HLEN8.out]; exact HC8.out.1) HD2.out).mono ?_
             rintro e w9 ⟨v91, v92, v93, rfl, hR1, hR2, hR3, hb⟩
             have HB9 := Aside0.mk (below_step HB8.out hb)
             obtain ⟨A91, c91, rfl⟩ := Kd.R_slice hR1
             obtain ⟨A92, c92, rfl⟩ := Kd.R_slice hR2
             obtain ⟨A93, c93, rfl⟩ := Kd.R_slice hR3
             clear hb hR1 hR2 hR3))
      go_ret
      exact ⟨rfl, below_alloc HB9.out _⟩
  · have h0 : 0 ≤ cut := by omega
    have hrem := hcut h0
    clear hcut hcut2
    have htm : cut.tmod (b.length : Int) = m := by rw [Int.tmod_eq_emod_of_nonneg h0]; exact hrem
    clear hr1 hc1 hr2 hc2 hr3 hc3 f1 f2 hrM hcM hf hE hD1 hD2 htl hn8 hi hz1 hneg
    rcases h5 with ⟨hm0, rfl⟩ | ⟨hm0, rfl⟩
    all_goals
      first
        | have hq : ((more.length : Int) == 0) = true := by rw [hm0]; rfl
        | have hq : ((more.length : Int) == 0) = false := by simp; intro h; rw [h] at hm0; simp at hm0
      clear hm0
      go_enter Try.func8, Try.ntmps8
      go_wp2_with
        (first
          | (go_at_call 9; refine (tailracelaw10_awake.calls true _ rfl).mono ?_
             rintro e w1 ⟨rfl, hb⟩
             have X1 := Aside0.mk ((XS.out _ rfl).below hb)
             have qa0 : w1.cell? ⟨w.heap.size, 0, none⟩ = some (.bool leaf) := (blk_cell X1.out.hb 0).trans rfl
             have qa1 : w1.cell? ⟨w.heap.size, 1, none⟩ = some (.slice A1 keys.length c1) := (blk_cell X1.out.hb 1).trans rfl
             have qa2 : w1.cell? ⟨w.heap.size, 2, none⟩ = some (.slice A2 vals.length c2) := (blk_cell X1.out.hb 2).trans rfl
             have qa3 : w1.cell? ⟨w.heap.size, 3, none⟩ = some (.slice A3 kids.length c3) := (blk_cell X1.out.hb 3).trans rfl
             clear hb)
          | (go_at_call 10; refine (tailracelaw10_Few.calls 3000 leaf A1 c1 keys A2 c2 vals A3 c3 kids true _ X1.out.r1 HC1.out X1.out.r2 HC2.out X1.out.r3 HC3.out HFEW.out).mono ?_
             rintro e w2 ⟨rfl, hb⟩
             have X2 := Aside0.mk (X1.out.below hb)
             have qb0 : w2.cell? ⟨w.heap.size, 0, none⟩ = some (.bool leaf) := (blk_cell X2.out.hb 0).trans rfl
             have qb1 : w2.cell? ⟨w.heap.size, 1, none⟩ = some (.slice A1 keys.length c1) := (blk_cell X2.out.hb 1).trans rfl
             have qb2 : w2.cell? ⟨w.heap.size, 2, none⟩ = some (.slice A2 vals.length c2) := (blk_cell X2.out.hb 2).trans rfl
             have qb3 : w2.cell? ⟨w.heap.size, 3, none⟩ = some (.slice A3 kids.length c3) := (blk_cell X2.out.hb 3).trans rfl
             clear hb)
          | (go_at_call 11; refine (node_Encode.calls leaf A1 c1 keys A2 c2 vals A3 c3 kids kd b 0 _ X2.out.r1 HC1.out X2.out.r2 HC2.out X2.out.r3 HC3.out HENC.out).mono ?_
             rintro e w3 ⟨v3, rfl, hR3, hb⟩
             have X3 := Aside0.mk (X2.out.below hb)
             obtain ⟨A9, c9, rfl, hc9, hC9⟩ := Kd.R_reads hR3
             have HC9 := Aside0.mk (And.intro hc9 hC9)
             have TOK3 : True := trivial
             have hmc : m ≤ c9 := by omega
             clear hb hR3 hc9 hC9)
          | (go_at_call 17; guard_hyp TOK3; refine calls_of_args (show #[Value.int .i64 kd, .slice A9 m c9] = #[.int .i64 kd, .slice A9 (b.take m).length c9] by rw [HTL.out]) ?_; refine (node_Decode.calls kd A9 c9 (b.take m) false [] [] [] 100 _ (HTK.out _ _ HC9.out.2) (Nat.le_trans HTB.out HC9.out.1) HD1.out).mono ?_
             rintro e w4 ⟨v41, v42, v43, rfl, hR1, hR2, hR3, hb⟩
             have HB4 := Aside0.mk (below_step X3.out.bl hb)
             have HC4 := Aside0.mk (Kd.C_below HC9.out.2 hb)
             obtain ⟨A41, c41, rfl⟩ := Kd.R_slice hR1
             obtain ⟨A42, c42, rfl⟩ := Kd.R_slice hR2
             obtain ⟨A43, c43, rfl⟩ := Kd.R_slice hR3
             clear hb hR1 hR2 hR3 TOK3)
          | ((with_reducible refine gate_dst (N := 61) rfl ?_); refine Kd.R_lit (Kd.int .u8) (w0 := w) w.heap.size 5 ?hg (N := 61) ?hd (xs := ([] : List Int)) (inner := []) (ok := fun _ => True) (okp := fun _ => True) ?hr ?hp (fun _ hk => hk) trivial ?hB ?hS (by simp) ?_
             case hd => rfl
             case hg => rfl
             case hr => first | (go_simp; done) | (go_simp; rfl)
             case hp => exact Reps.none _ _
             case hB => exact below_alloc HB4.out _
             case hS => exact (below_alloc HB4.out _).size
             intro v6 w6 hO6 hB6 hg6 hn6
             have HO6 := Aside0.mk hO6
             have HB6 := Aside0.mk hB6
             have HC6 := Aside0.mk (C_grown0 (Kd.C_alloc HC4.out _) hg6)
             clear hO6 hB6 hg6 hn6)
          | (at_builtin; guard_hyp HC6; refine Kd.R_append_rows (Kd.int .u8) (w0 := w) w.heap.size rfl (.tmp 61) (.tmp 62) 28 5 (.int .u8 0) 1 rfl Try.underlying28 info5 rfl (by decide) (by decide) v6 [] b A9 b.length c9 (fun _ => True) (fun _ => False) rfl rfl ?aO ?aR (fun _ _ h => h) (fun _ h => h.elim) (fun _ _ => trivial) ?aB ?aS ?aL ?_
             case aO => exact HO6.out
             case aR => exact HC6.out
             case aB => exact HB6.out
             case aS => exact HB6.out.size
             case aL => (simp; omega)
             intro v7 w7 hO7 hB7 hg7 hn7
             have HO7 := Aside0.mk hO7
             have HB7 := Aside0.mk hB7
             clear hO7 hB7 hg7 hn7 HC6)
          | (at_builtin; guard_hyp HO7; refine Kd.R_append_rows (Kd.int .u8) (w0 := w) w.heap.size rfl (.tmp 63) (.tmp 64) 28 5 (.int .u8 0) 1 rfl Try.underlying28 info5 rfl (by decide) (by decide) v7 ([] ++ b) more AM more.length cM (fun _ => True) (fun _ => False) rfl rfl ?aO ?aR (fun _ _ h => h) (fun _ h => h.elim) (fun _ _ => trivial) ?aB ?aS ?aL ?_
             case aO => exact HO7.out
             case aR => exact Kd.C_below HRM.out.1 HB7.out
             case aB => exact HB7.out
             case aS => exact HB7.out.size
             case aL => (simp; omega)
             intro v8 w8 hO8 hB8 hg8 hn8
             obtain ⟨A8, c8, rfl, hc8, hC8⟩ := Kd.R_reads hO8
             rw [HLEN8.out] at hc8 hC8
             have HC8 := Aside0.mk (And.intro hc8 hC8)
             have HB8 := Aside0.mk hB8
             rw [HLEN8.out]
             clear hO8 hB8 hg8 hn8 hc8 hC8)
          | (go_at_call 17; guard_hyp HC8; refine calls_of_args (show #[Value.int .i64 kd, .slice A8 n8 c8] = #[.int .i64 kd, .slice A8 ([] ++ b ++ more).length c8] by rw [HLEN8.out]) ?_; refine (node_Decode.calls kd A8 c8 ([] ++ b ++ more) r1 r2 r3 r4 _ _ (by rw [HLEN8.out]; exact HC8.out.2) (by rw [HLEN8.out]; exact HC8.out.1) HD2.out).mono ?_
             rintro e w9 ⟨v91, v92, v93, rfl, hR1, hR2, hR3, hb⟩
             have HB9 := Aside0.mk (below_step HB8.out hb)
             obtain ⟨A91, c91, rfl⟩ := Kd.R_slice hR1
             obtain ⟨A92, c92, rfl⟩ := Kd.R_slice hR2
             obtain ⟨A93, c93, rfl⟩ := Kd.R_slice hR3
             clear hb hR1 hR2 hR3))
      go_ret
      exact ⟨rfl, below_alloc HB9.out _⟩
end
/-- What the law NodeCuts answers. -/
def tailracelaw10_NodeCuts.f (a0_0 : Bool) (l0_1 : List ByteArray) (l0_2 : List ByteArray) (l0_3 : List Int) (a1 : Int) (l2 : List Int) : Option (Bool) :=
  if (l0_1.length ≤ maxLen ∧ l0_2.length ≤ maxLen) ∧ (-9223372036854775808 ≤ a1 ∧ a1 ≤ 9223372036854775807) ∧ ∀ x ∈ l2, 0 ≤ x ∧ x ≤ 255 then some true else none
theorem tailracelaw10_NodeCuts.calls (a0_0 : Bool) (A0_1 : Option Addr) (c0_1 : Nat) (l0_1 : List ByteArray) (A0_2 : Option Addr) (c0_2 : Nat) (l0_2 : List ByteArray) (A0_3 : Option Addr) (c0_3 : Nat) (l0_3 : List Int) (a1 : Int) (A2 : Option Addr) (c2 : Nat) (l2 : List Int) (r : Bool) (w : World) (hr0_1 : Kd.C Kd.string w A0_1 l0_1.length l0_1) (hc0_1 : l0_1.length ≤ c0_1) (hr0_2 : Kd.C Kd.string w A0_2 l0_2.length l0_2) (hc0_2 : l0_2.length ≤ c0_2) (hr0_3 : Kd.C (Kd.int .i64) w A0_3 l0_3.length l0_3) (hc0_3 : l0_3.length ≤ c0_3) (hr2 : Kd.C (Kd.int .u8) w A2 l2.length l2) (hc2 : l2.length ≤ c2) (h : tailracelaw10_NodeCuts.f a0_0 l0_1 l0_2 l0_3 a1 l2 = some r) :
    Calls Try.prog 8 #[.agg #[.bool a0_0, .slice A0_1 l0_1.length c0_1, .slice A0_2 l0_2.length c0_2, .slice A0_3 l0_3.length c0_3], .int .i64 a1, .slice A2 l2.length c2] w fun e w' => e = .returned (.bool r) ∧ Below w.heap.size w w' := by
  unfold tailracelaw10_NodeCuts.f at h
  split at h
  case isFalse => cases h
  rename_i hh
  obtain ⟨⟨f1, f2⟩, h64, hb⟩ := hh
  obtain rfl : true = r := Option.some.inj h
  by_cases hf : few l0_1 l0_2 l0_3 = true
  · by_cases hm : l2.length ≤ 50
    · have c0 := hf
      simp only [few, small, Bool.and_eq_true, decide_eq_true_eq, List.all_eq_true] at c0
      obtain ⟨⟨⟨k1, k2⟩, k3⟩, _, _⟩ := c0
      have e1 : node_Encode.f a0_0 l0_1 l0_2 l0_3 = some (encS a0_0 l0_1 l0_2 l0_3) := by unfold node_Encode.f; rw [if_pos ⟨by omega, by omega, by omega⟩]
      by_cases hk : chk a0_0 l0_1 l0_2 l0_3 = true
      · by_cases hs : sizN l0_1 l0_2 l0_3 ≤ 1000
        · have e3 : encS a0_0 l0_1 l0_2 l0_3 = (if a0_0 = true then 2 else 3, encB a0_0 l0_1 l0_2 l0_3, 0) := by unfold encS; rw [if_pos hk, if_pos hs]
          have hl := encB_length _ _ _ _ hk
          have hB := encB_byt a0_0 l0_1 l0_2 l0_3
          have hp : 1 ≤ (encB a0_0 l0_1 l0_2 l0_3).length := by simp [encB]
          have dcut := fun n hn => dec_cut a0_0 l0_1 l0_2 l0_3 hk hs hB n hn
          have dmore := dec_more a0_0 l0_1 l0_2 l0_3 l2 hk hs
          have dsame := dec_enc a0_0 l0_1 l0_2 l0_3 hk hs
          rw [e3] at e1
          generalize (if a0_0 = true then (2 : Int) else 3) = kd at e1 dcut dmore dsame
          generalize encB a0_0 l0_1 l0_2 l0_3 = b at e1 dcut dmore dsame hl hB hp
          have hbl : (0 : Int) < b.length := by omega
          obtain ⟨m, hm1, hm2, hm3⟩ : ∃ m : Nat, m < b.length ∧ (0 ≤ a1 → a1 % b.length = m) ∧ (a1 < 0 → (-(a1 + 1)) % b.length = m) := by
            by_cases hn : a1 < 0
            · have q1 := Int.emod_nonneg (-(a1 + 1)) (show (b.length : Int) ≠ 0 by omega)
              have q2 := Int.emod_lt_of_pos (-(a1 + 1)) hbl
              exact ⟨((-(a1 + 1)) % (b.length : Int)).toNat, by omega, fun h => by omega, fun _ => by omega⟩
            · have q1 := Int.emod_nonneg a1 (show (b.length : Int) ≠ 0 by omega)
              have q2 := Int.emod_lt_of_pos a1 hbl
              exact ⟨(a1 % (b.length : Int)).toNat, by omega, fun _ => by omega, fun h => by omega⟩
          have d1 : node_Decode.f kd (b.take m) = some (false, [], [], [], 100) := by rw [dec_f _ _ (fun x hx => hB x (List.mem_of_mem_take hx)), dcut m hm1]
          have hB2 : Byt ([] ++ b ++ l2) := fun x hx => by
            simp only [List.nil_append, List.mem_append] at hx
            exact hx.elim (hB x) (hb x)
          by_cases h0 : l2.length = 0
          · have d2 : node_Decode.f kd ([] ++ b ++ l2) = some (a0_0, l0_1, l0_2, l0_3, 0) := by rw [dec_f _ _ hB2, List.eq_nil_of_length_eq_zero h0, List.nil_append, List.append_nil, dsame]
            exact cuts_good a0_0 A0_1 c0_1 l0_1 A0_2 c0_2 l0_2 A0_3 c0_3 l0_3 a1 A2 c2 l2 w hr0_1 hc0_1 hr0_2 hc0_2 hr0_3 hc0_3 hr2 hc2 f1 f2 hf hm kd b m hp (by omega) hm1 h64 hm2 hm3 e1 d1 _ _ _ _ _ d2 (.inl ⟨h0, rfl⟩)
          · have d2 : node_Decode.f kd ([] ++ b ++ l2) = some (false, [], [], [], 100) := by rw [dec_f _ _ hB2, List.nil_append, dmore (fun e => h0 (by rw [e]; rfl))]
            exact cuts_good a0_0 A0_1 c0_1 l0_1 A0_2 c0_2 l0_2 A0_3 c0_3 l0_3 a1 A2 c2 l2 w hr0_1 hc0_1 hr0_2 hc0_2 hr0_3 hc0_3 hr2 hc2 f1 f2 hf hm kd b m hp (by omega) hm1 h64 hm2 hm3 e1 d1 _ _ _ _ _ d2 (.inr ⟨by omega, rfl⟩)
        · have e3 : encS a0_0 l0_1 l0_2 l0_3 = (0, [], 101) := by unfold encS; rw [if_pos hk, if_neg hs]
          exact cuts_bad a0_0 A0_1 c0_1 l0_1 A0_2 c0_2 l0_2 A0_3 c0_3 l0_3 a1 A2 c2 l2 w hr0_1 hc0_1 hr0_2 hc0_2 hr0_3 hc0_3 hr2 hc2 f1 f2 hf hm 101 (.inr rfl) (by rw [e1, e3])
      · have e3 : encS a0_0 l0_1 l0_2 l0_3 = (0, [], 100) := by unfold encS; rw [if_neg hk]
        exact cuts_bad a0_0 A0_1 c0_1 l0_1 A0_2 c0_2 l0_2 A0_3 c0_3 l0_3 a1 A2 c2 l2 w hr0_1 hc0_1 hr0_2 hc0_2 hr0_3 hc0_3 hr2 hc2 f1 f2 hf hm 100 (.inl rfl) (by rw [e1, e3])
    · exact cuts_more a0_0 A0_1 c0_1 l0_1 A0_2 c0_2 l0_2 A0_3 c0_3 l0_3 a1 A2 c2 l2 w hr0_1 hc0_1 hr0_2 hc0_2 hr0_3 hc0_3 hr2 hc2 f1 f2 hf (by omega)
  · exact cuts_few a0_0 A0_1 c0_1 l0_1 A0_2 c0_2 l0_2 A0_3 c0_3 l0_3 a1 A2 c2 l2 w hr0_1 hc0_1 hr0_2 hc0_2 hr0_3 hc0_3 hr2 hc2 f1 f2 (by simpa using hf)
end Go.Proofs.Ytdjiclphnoepcaa.P
