/- The reader of package keys, by hand: value. -/
import Derived.Test.YtniihilegljgmaaHandE
set_option linter.unusedVariables false
set_option linter.unusedSimpArgs false
namespace Go.Proofs.Ytniihilegljgmaa.P
open Go.RowKit Go.Proofs.YtniihilegljgmaaW.PrintWords Go.Proofs.YtniihilegljgmaaW.PrintLast Go.Proofs.YtniihilegljgmaaW.PrintMore Go.Proofs.YtniihilegljgmaaOwn
def numK (b : List Int) : Option (Int × List Int) := if b.length < 8 then none else some (numU (b.take 8) - 9223372036854775808, b.drop 8)
theorem number_any (w0 w : World) (B : Nat) (b : List Int) (A : Option Addr) (c : Nat) (h : RS w0 w B b A c) :
    Calls Try.prog 37 #[.pointer (some ⟨B, 0, none⟩)] w fun e w' => GP (Value.int .i64) w0 w B (numK b) e w' := by
  unfold numK
  by_cases hl : b.length < 8
  · rw [if_pos hl]
    exact (number_none w0 w B b A c h hl).mono fun e w' he => he
  · rw [if_neg hl]
    exact (number_some w0 w B b A c h (by omega)).mono fun e w' he => he
theorem GP_no {α : Type} {val : α → Value} {w0 w : World} {B : Nat} {q : Option (α × List Int)} {e : Ending} {w' : World} (h : GP val w0 w B q e w') (hq : q = none) : e = .panicked PAN ∧ KR w w' ∧ Below w0.heap.size w0 w' := by
  subst hq; exact h
theorem GP_yes {α : Type} {val : α → Value} {w0 w : World} {B : Nat} {q : Option (α × List Int)} {s : α} {r : List Int} {e : Ending} {w' : World} (h : GP val w0 w B q e w') (hq : q = some (s, r)) : ∃ A2 c2, e = .returned (val s) ∧ RS w0 w' B r A2 c2 ∧ KR w w' := by
  subst hq; exact h
/-- A value that may be, and the rest; none: it gives up. -/
def okK (v : S38) (r : List Int) : Option (S38 × List Int) := if value_Check.f v.f0 v.f1 v.f2 = some 0 then some (v, r) else none
def valK : List Int → Option (S38 × List Int)
  | [] => none
  | x :: r => if x = 1 then (match numK r with | none => none | some (n, r2) => okK ⟨1, n, ⟨#[]⟩⟩ r2) else if x = 2 then (match txtK r with | none => none | some (s, r2) => okK ⟨2, 0, strOfNums s⟩ r2) else none
theorem check_cases (a b : Int) (s : ByteArray) : value_Check.f a b s = some 0 ∨ value_Check.f a b s = some 10 := by
  unfold value_Check.f
  split <;> simp
def P3 (W : World) (T : Nat) (a b c : Value) : World := ((W.setCell ⟨T, 0, none⟩ a).setCell ⟨T, 1, none⟩ b).setCell ⟨T, 2, none⟩ c
theorem RS.set {w0 w : World} {B : Nat} {b : List Int} {A : Option Addr} {c : Nat} (h : RS w0 w B b A c) {T j : Nat} (h1 : B ≠ T) (h2 : w0.heap.size ≤ T) (v : Value) : RS w0 (w.setCell ⟨T, j, none⟩ v) B b A c :=
  ⟨blk_far h.hb h1 v, h.hc, h.hr, h.gb, h.bl.setCell h2 v, h.by_⟩
theorem KR.set {w W : World} (h : KR w W) {T j : Nat} (h2 : w.heap.size ≤ T) (v : Value) : KR w (W.setCell ⟨T, j, none⟩ v) :=
  ⟨fun k cs t fr hk ht => by rw [Below.heap_setCell W ⟨T, j, none⟩ v k (by have := blk_lt hk; show k ≠ T; omega)]; exact h.1 k cs t fr hk ht, by simpa [World.setCell] using h.2⟩
theorem P3_block {W : World} {T : Nat} {x0 x1 x2 : Value} (h : W.heap[T]? = some (Obj.cells #[x0, x1, x2] 38 (0, 0))) (a b c : Value) : (P3 W T a b c).heap[T]? = some (Obj.cells #[a, b, c] 38 (0, 0)) :=
  blk_put (blk_put (blk_put h 0 a rfl) 1 b rfl) 2 c rfl
theorem RS.p3 {w0 w : World} {B : Nat} {b : List Int} {A : Option Addr} {c : Nat} (h : RS w0 w B b A c) {T : Nat} (h1 : B ≠ T) (h2 : w0.heap.size ≤ T) (x y z : Value) : RS w0 (P3 w T x y z) B b A c := ((h.set h1 h2 x).set h1 h2 y).set h1 h2 z
theorem KR.p3 {w W : World} (h : KR w W) {T : Nat} (h2 : w.heap.size ≤ T) (x y z : Value) : KR w (P3 W T x y z) := ((h.set h2 x).set h2 y).set h2 z
section
variable (w0 w : World) (B : Nat) (b : List Int) (A : Option Addr) (c : Nat) (h : RS w0 w B b A c)
theorem value_start {x : Int} {r : List Int} (h : RS w0 w B (x :: r) A c) (W : World) (hW : W = w.alloc (.cells #[.int .i64 0, .int .i64 0, .string ⟨#[]⟩] 38)) :
    RS w0 W B (x :: r) A c ∧ KR w W ∧ W.heap[w.heap.size]? = some (Obj.cells #[.int .i64 0, .int .i64 0, .string ⟨#[]⟩] 38 (0, 0)) := by
  subst hW
  have hb := below_alloc (Below.refl w.heap.size w) (.cells #[.int .i64 0, .int .i64 0, .string ⟨#[]⟩] 38)
  exact ⟨h.below hb, KR.below hb, blk_new w _⟩
include h
set_option maxHeartbeats 8000000 in
set_option maxRecDepth 100000 in
theorem value_nil (hb : b = []) : Calls Try.prog 26 #[.pointer (some ⟨B, 0, none⟩)] w fun e w' => e = .panicked PAN ∧ KR w w' ∧ Below w0.heap.size w0 w' := by
  subst hb
  have hb2 := below_alloc (Below.refl w.heap.size w) (.cells #[.int .i64 0, .int .i64 0, .string ⟨#[]⟩] 38)
  have HR := Aside0.mk (show ∀ W, W = w.alloc (.cells #[.int .i64 0, .int .i64 0, .string ⟨#[]⟩] 38) → RS w0 W B [] A c ∧ KR w W from fun W hW => by subst hW; exact ⟨h.below hb2, KR.below hb2⟩)
  clear hb2 h
  have hu := Try.underlying38
  go_enter Try.func26, Try.ntmps26
  go_wp2_with (go_at_call 36; refine (byte_none w0 _ B A c (HR.out _ rfl).1).mono ?_; rintro e w7 ⟨rfl, rfl⟩)
  exact ⟨rfl, rfl, (HR.out _ rfl).2, (HR.out _ rfl).1.bl⟩
set_option maxHeartbeats 8000000 in
set_option maxRecDepth 100000 in
theorem value_num_none (r : List Int) (hb : b = 1 :: r) (hq : numK r = none) : Calls Try.prog 26 #[.pointer (some ⟨B, 0, none⟩)] w fun e w' => e = .panicked PAN ∧ KR w w' ∧ Below w0.heap.size w0 w' := by
  subst hb
  have HS := Aside0.mk (value_start w0 w B A c h)
  have HQ := Aside0.mk hq
  clear h hq
  have hu := Try.underlying38
  go_enter Try.func26, Try.ntmps26
  go_wp2_with
    (first
      | (go_at_call 36; guard_hyp HS; refine (byte_yes (HS.out _ rfl).1).mono ?_
         rintro e w7 ⟨A7, c7, rfl, hR, hK⟩
         have HR7 := Aside0.mk hR
         have HK7 := Aside0.mk ((HS.out _ rfl).2.1.trans hK)
         have HT7 := Aside0.mk (hK.1.blk (HS.out _ rfl).2.2 (by decide))
         have qc0 : w7.cell? ⟨w.heap.size, 0, none⟩ = some (.int .i64 0) := (blk_cell HT7.out 0).trans rfl
         have qf0 := blk_frozen HT7.out 0
         have qc1 : w7.cell? ⟨w.heap.size, 1, none⟩ = some (.int .i64 0) := (blk_cell HT7.out 1).trans rfl
         have qf1 := blk_frozen HT7.out 1
         have qc2 : w7.cell? ⟨w.heap.size, 2, none⟩ = some (.string ⟨#[]⟩) := (blk_cell HT7.out 2).trans rfl
         have qf2 := blk_frozen HT7.out 2
         clear hR hK HS)
      | (go_at_call 37; guard_hyp HR7; refine (number_any _ _ _ _ _ _ HR7.out).mono ?_
         rintro e w8 hh
         obtain ⟨rfl, hK, hb⟩ := GP_no hh HQ.out
         have HK8 := Aside0.mk (HK7.out.trans hK)
         have HB8 := Aside0.mk hb
         clear hh hK hb))
  exact ⟨rfl, rfl, HK8.out, HB8.out⟩
set_option maxHeartbeats 8000000 in
set_option maxRecDepth 100000 in
theorem value_num_ok (r r2 : List Int) (s : Int) (hb : b = 1 :: r) (hq : numK r = some (s, r2)) (hc : value_Check.f 1 s ⟨#[]⟩ = some 0) : Calls Try.prog 26 #[.pointer (some ⟨B, 0, none⟩)] w fun e w' => ∃ A2 c2, e = .returned (.agg #[.int .i64 1, .int .i64 s, .string ⟨#[]⟩]) ∧ RS w0 w' B r2 A2 c2 ∧ KR w w' := by
  subst hb
  have hbt := blk_lt h.hb
  have HBT := Aside0.mk (show B ≠ w.heap.size by omega)
  have HW0 := Aside0.mk h.bl.size
  have HS := Aside0.mk (value_start w0 w B A c h)
  have HQ := Aside0.mk hq
  have HCK := Aside0.mk hc
  clear h hq hc hbt
  have hu := Try.underlying38
  go_enter Try.func26, Try.ntmps26
  go_wp2_with
    (first
      | (go_at_call 36; guard_hyp HS; refine (byte_yes (HS.out _ rfl).1).mono ?_
         rintro e w7 ⟨A7, c7, rfl, hR, hK⟩
         have HR7 := Aside0.mk hR
         have HK7 := Aside0.mk ((HS.out _ rfl).2.1.trans hK)
         have HT7 := Aside0.mk (hK.1.blk (HS.out _ rfl).2.2 (by decide))
         have qc0 : w7.cell? ⟨w.heap.size, 0, none⟩ = some (.int .i64 0) := (blk_cell HT7.out 0).trans rfl
         have qf0 := blk_frozen HT7.out 0
         have qc1 : w7.cell? ⟨w.heap.size, 1, none⟩ = some (.int .i64 0) := (blk_cell HT7.out 1).trans rfl
         have qf1 := blk_frozen HT7.out 1
         have qc2 : w7.cell? ⟨w.heap.size, 2, none⟩ = some (.string ⟨#[]⟩) := (blk_cell HT7.out 2).trans rfl
         have qf2 := blk_frozen HT7.out 2
         clear hR hK HS)
      | (go_at_call 37; guard_hyp HR7; refine (number_any _ _ _ _ _ _ HR7.out).mono ?_
         rintro e w8 hh
         obtain ⟨A8, c8, rfl, hR, hK⟩ := GP_yes hh HQ.out
         have HR8 := Aside0.mk hR
         have HK8 := Aside0.mk (HK7.out.trans hK)
         have HT8 := Aside0.mk (hK.1.blk HT7.out (by decide))
         have rc0 : w8.cell? ⟨w.heap.size, 0, none⟩ = some (.int .i64 0) := (blk_cell HT8.out 0).trans rfl
         have rf0 := blk_frozen HT8.out 0
         have rc1 : w8.cell? ⟨w.heap.size, 1, none⟩ = some (.int .i64 0) := (blk_cell HT8.out 1).trans rfl
         have rf1 := blk_frozen HT8.out 1
         have rc2 : w8.cell? ⟨w.heap.size, 2, none⟩ = some (.string ⟨#[]⟩) := (blk_cell HT8.out 2).trans rfl
         have rf2 := blk_frozen HT8.out 2
         clear hh hR hK)
      | (go_at_call 33; guard_hyp HR8; refine (value_Check.calls 1 s ⟨#[]⟩ 0 _ HCK.out).mono ?_
         rintro e w10 ⟨rfl, hb⟩
         have HR10 := Aside0.mk ((RS.p3 HR8.out HBT.out HW0.out (.int .i64 1) (.int .i64 s) (.string ⟨#[]⟩)).below hb)
         have HK10 := Aside0.mk ((KR.p3 HK8.out (Nat.le_refl _) (.int .i64 1) (.int .i64 s) (.string ⟨#[]⟩)).trans (KR.below hb))
         have HT10 := Aside0.mk (blk_below (P3_block HT8.out (.int .i64 1) (.int .i64 s) (.string ⟨#[]⟩)) hb)
         have sc0 : w10.cell? ⟨w.heap.size, 0, none⟩ = some (.int .i64 1) := (blk_cell HT10.out 0).trans rfl
         have sf0 := blk_frozen HT10.out 0
         have sc1 : w10.cell? ⟨w.heap.size, 1, none⟩ = some (.int .i64 s) := (blk_cell HT10.out 1).trans rfl
         have sf1 := blk_frozen HT10.out 1
         have sc2 : w10.cell? ⟨w.heap.size, 2, none⟩ = some (.string ⟨#[]⟩) := (blk_cell HT10.out 2).trans rfl
         have sf2 := blk_frozen HT10.out 2
         clear hb))
  (try simp only [Exit.inBlock, Exit.then])
  refine bodyPost_ret (results_single (r := .cell 2 38) rfl (.cell w.heap.size 38 #[.int .i64 1, .int .i64 s, .string ⟨#[]⟩] (0, 0) _ rfl (P3_block HT10.out _ _ _) Try.underlying38 rfl (by kernel_rfl) .nil)) rfl ?_
  exact ⟨A8, c8, rfl, RS.p3 HR10.out HBT.out HW0.out _ _ _, KR.p3 HK10.out (Nat.le_refl _) _ _ _⟩
set_option maxHeartbeats 8000000 in
set_option maxRecDepth 100000 in
theorem value_num_bad (r r2 : List Int) (s : Int) (hb : b = 1 :: r) (hq : numK r = some (s, r2)) (hc : value_Check.f 1 s ⟨#[]⟩ = some 10) : Calls Try.prog 26 #[.pointer (some ⟨B, 0, none⟩)] w fun e w' => e = .panicked PAN ∧ KR w w' ∧ Below w0.heap.size w0 w' := by
  subst hb
  have hbt := blk_lt h.hb
  have HBT := Aside0.mk (show B ≠ w.heap.size by omega)
  have HW0 := Aside0.mk h.bl.size
  have HS := Aside0.mk (value_start w0 w B A c h)
  have HQ := Aside0.mk hq
  have HCK := Aside0.mk hc
  clear h hq hc hbt
  have hu := Try.underlying38
  go_enter Try.func26, Try.ntmps26
  go_wp2_with
    (first
      | (go_at_call 36; guard_hyp HS; refine (byte_yes (HS.out _ rfl).1).mono ?_
         rintro e w7 ⟨A7, c7, rfl, hR, hK⟩
         have HR7 := Aside0.mk hR
         have HK7 := Aside0.mk ((HS.out _ rfl).2.1.trans hK)
         have HT7 := Aside0.mk (hK.1.blk (HS.out _ rfl).2.2 (by decide))
         have qc0 : w7.cell? ⟨w.heap.size, 0, none⟩ = some (.int .i64 0) := (blk_cell HT7.out 0).trans rfl
         have qf0 := blk_frozen HT7.out 0
         have qc1 : w7.cell? ⟨w.heap.size, 1, none⟩ = some (.int .i64 0) := (blk_cell HT7.out 1).trans rfl
         have qf1 := blk_frozen HT7.out 1
         have qc2 : w7.cell? ⟨w.heap.size, 2, none⟩ = some (.string ⟨#[]⟩) := (blk_cell HT7.out 2).trans rfl
         have qf2 := blk_frozen HT7.out 2
         clear hR hK HS)
      | (go_at_call 37; guard_hyp HR7; refine (number_any _ _ _ _ _ _ HR7.out).mono ?_
         rintro e w8 hh
         obtain ⟨A8, c8, rfl, hR, hK⟩ := GP_yes hh HQ.out
         have HR8 := Aside0.mk hR
         have HK8 := Aside0.mk (HK7.out.trans hK)
         have HT8 := Aside0.mk (hK.1.blk HT7.out (by decide))
         have rc0 : w8.cell? ⟨w.heap.size, 0, none⟩ = some (.int .i64 0) := (blk_cell HT8.out 0).trans rfl
         have rf0 := blk_frozen HT8.out 0
         have rc1 : w8.cell? ⟨w.heap.size, 1, none⟩ = some (.int .i64 0) := (blk_cell HT8.out 1).trans rfl
         have rf1 := blk_frozen HT8.out 1
         have rc2 : w8.cell? ⟨w.heap.size, 2, none⟩ = some (.string ⟨#[]⟩) := (blk_cell HT8.out 2).trans rfl
         have rf2 := blk_frozen HT8.out 2
         clear hh hR hK)
      | (go_at_call 33; guard_hyp HR8; refine (value_Check.calls 1 s ⟨#[]⟩ 10 _ HCK.out).mono ?_
         rintro e w10 ⟨rfl, hb⟩
         have HR10 := Aside0.mk ((RS.p3 HR8.out HBT.out HW0.out (.int .i64 1) (.int .i64 s) (.string ⟨#[]⟩)).below hb)
         have HK10 := Aside0.mk ((KR.p3 HK8.out (Nat.le_refl _) (.int .i64 1) (.int .i64 s) (.string ⟨#[]⟩)).trans (KR.below hb))
         have HT10 := Aside0.mk (blk_below (P3_block HT8.out (.int .i64 1) (.int .i64 s) (.string ⟨#[]⟩)) hb)
         have sc0 : w10.cell? ⟨w.heap.size, 0, none⟩ = some (.int .i64 1) := (blk_cell HT10.out 0).trans rfl
         have sf0 := blk_frozen HT10.out 0
         have sc1 : w10.cell? ⟨w.heap.size, 1, none⟩ = some (.int .i64 s) := (blk_cell HT10.out 1).trans rfl
         have sf1 := blk_frozen HT10.out 1
         have sc2 : w10.cell? ⟨w.heap.size, 2, none⟩ = some (.string ⟨#[]⟩) := (blk_cell HT10.out 2).trans rfl
         have sf2 := blk_frozen HT10.out 2
         clear hb))
  exact ⟨rfl, rfl, HK10.out, HR10.out.bl⟩
set_option maxHeartbeats 8000000 in
set_option maxRecDepth 100000 in
theorem value_txt_none (r : List Int) (hb : b = 2 :: r) (hl : r.length ≤ 100000000) (hq : txtK r = none) : Calls Try.prog 26 #[.pointer (some ⟨B, 0, none⟩)] w fun e w' => e = .panicked PAN ∧ KR w w' ∧ Below w0.heap.size w0 w' := by
  subst hb
  have HS := Aside0.mk (value_start w0 w B A c h)
  have HQ := Aside0.mk hq
  have HLN := Aside0.mk hl
  clear hl
  clear h hq
  have hu := Try.underlying38
  go_enter Try.func26, Try.ntmps26
  go_wp2_with
    (first
      | (go_at_call 36; guard_hyp HS; refine (byte_yes (HS.out _ rfl).1).mono ?_
         rintro e w7 ⟨A7, c7, rfl, hR, hK⟩
         have HR7 := Aside0.mk hR
         have HK7 := Aside0.mk ((HS.out _ rfl).2.1.trans hK)
         have HT7 := Aside0.mk (hK.1.blk (HS.out _ rfl).2.2 (by decide))
         have qc0 : w7.cell? ⟨w.heap.size, 0, none⟩ = some (.int .i64 0) := (blk_cell HT7.out 0).trans rfl
         have qf0 := blk_frozen HT7.out 0
         have qc1 : w7.cell? ⟨w.heap.size, 1, none⟩ = some (.int .i64 0) := (blk_cell HT7.out 1).trans rfl
         have qf1 := blk_frozen HT7.out 1
         have qc2 : w7.cell? ⟨w.heap.size, 2, none⟩ = some (.string ⟨#[]⟩) := (blk_cell HT7.out 2).trans rfl
         have qf2 := blk_frozen HT7.out 2
         clear hR hK HS)
      | (go_at_call 38; guard_hyp HR7; refine (text_any _ _ _ _ _ _ HR7.out HLN.out).mono ?_
         rintro e w8 hh
         obtain ⟨rfl, hK, hb⟩ := GP_no hh HQ.out
         have HK8 := Aside0.mk (HK7.out.trans hK)
         have HB8 := Aside0.mk hb
         clear hh hK hb))
  exact ⟨rfl, rfl, HK8.out, HB8.out⟩
set_option maxHeartbeats 8000000 in
set_option maxRecDepth 100000 in
theorem value_txt_ok (r r2 : List Int) (s : List Int) (hb : b = 2 :: r) (hl : r.length ≤ 100000000) (hq : txtK r = some (s, r2)) (hc : value_Check.f 2 0 (strOfNums s) = some 0) : Calls Try.prog 26 #[.pointer (some ⟨B, 0, none⟩)] w fun e w' => ∃ A2 c2, e = .returned (.agg #[.int .i64 2, .int .i64 0, .string (strOfNums s)]) ∧ RS w0 w' B r2 A2 c2 ∧ KR w w' := by
  subst hb
  have hbt := blk_lt h.hb
  have HBT := Aside0.mk (show B ≠ w.heap.size by omega)
  have HW0 := Aside0.mk h.bl.size
  have HS := Aside0.mk (value_start w0 w B A c h)
  have HQ := Aside0.mk hq
  have HCK := Aside0.mk hc
  have HLN := Aside0.mk hl
  clear hl
  clear h hq hc hbt
  have hu := Try.underlying38
  go_enter Try.func26, Try.ntmps26
  go_wp2_with
    (first
      | (go_at_call 36; guard_hyp HS; refine (byte_yes (HS.out _ rfl).1).mono ?_
         rintro e w7 ⟨A7, c7, rfl, hR, hK⟩
         have HR7 := Aside0.mk hR
         have HK7 := Aside0.mk ((HS.out _ rfl).2.1.trans hK)
         have HT7 := Aside0.mk (hK.1.blk (HS.out _ rfl).2.2 (by decide))
         have qc0 : w7.cell? ⟨w.heap.size, 0, none⟩ = some (.int .i64 0) := (blk_cell HT7.out 0).trans rfl
         have qf0 := blk_frozen HT7.out 0
         have qc1 : w7.cell? ⟨w.heap.size, 1, none⟩ = some (.int .i64 0) := (blk_cell HT7.out 1).trans rfl
         have qf1 := blk_frozen HT7.out 1
         have qc2 : w7.cell? ⟨w.heap.size, 2, none⟩ = some (.string ⟨#[]⟩) := (blk_cell HT7.out 2).trans rfl
         have qf2 := blk_frozen HT7.out 2
         clear hR hK HS)
      | (go_at_call 38; guard_hyp HR7; refine (text_any _ _ _ _ _ _ HR7.out HLN.out).mono ?_
         rintro e w8 hh
         obtain ⟨A8, c8, rfl, hR, hK⟩ := GP_yes hh HQ.out
         have HR8 := Aside0.mk hR
         have HK8 := Aside0.mk (HK7.out.trans hK)
         have HT8 := Aside0.mk (hK.1.blk HT7.out (by decide))
         have rc0 : w8.cell? ⟨w.heap.size, 0, none⟩ = some (.int .i64 0) := (blk_cell HT8.out 0).trans rfl
         have rf0 := blk_frozen HT8.out 0
         have rc1 : w8.cell? ⟨w.heap.size, 1, none⟩ = some (.int .i64 0) := (blk_cell HT8.out 1).trans rfl
         have rf1 := blk_frozen HT8.out 1
         have rc2 : w8.cell? ⟨w.heap.size, 2, none⟩ = some (.string ⟨#[]⟩) := (blk_cell HT8.out 2).trans rfl
         have rf2 := blk_frozen HT8.out 2
         clear hh hR hK)
      | (go_at_call 33; guard_hyp HR8; refine (value_Check.calls 2 0 (strOfNums s) 0 _ HCK.out).mono ?_
         rintro e w10 ⟨rfl, hb⟩
         have HR10 := Aside0.mk ((RS.p3 HR8.out HBT.out HW0.out (.int .i64 2) (.int .i64 0) (.string (strOfNums s))).below hb)
         have HK10 := Aside0.mk ((KR.p3 HK8.out (Nat.le_refl _) (.int .i64 2) (.int .i64 0) (.string (strOfNums s))).trans (KR.below hb))
         have HT10 := Aside0.mk (blk_below (P3_block HT8.out (.int .i64 2) (.int .i64 0) (.string (strOfNums s))) hb)
         have sc0 : w10.cell? ⟨w.heap.size, 0, none⟩ = some (.int .i64 2) := (blk_cell HT10.out 0).trans rfl
         have sf0 := blk_frozen HT10.out 0
         have sc1 : w10.cell? ⟨w.heap.size, 1, none⟩ = some (.int .i64 0) := (blk_cell HT10.out 1).trans rfl
         have sf1 := blk_frozen HT10.out 1
         have sc2 : w10.cell? ⟨w.heap.size, 2, none⟩ = some (.string (strOfNums s)) := (blk_cell HT10.out 2).trans rfl
         have sf2 := blk_frozen HT10.out 2
         clear hb))
  (try simp only [Exit.inBlock, Exit.then])
  refine bodyPost_ret (results_single (r := .cell 2 38) rfl (.cell w.heap.size 38 #[.int .i64 2, .int .i64 0, .string (strOfNums s)] (0, 0) _ rfl (P3_block HT10.out _ _ _) Try.underlying38 rfl (by kernel_rfl) .nil)) rfl ?_
  exact ⟨A8, c8, rfl, RS.p3 HR10.out HBT.out HW0.out _ _ _, KR.p3 HK10.out (Nat.le_refl _) _ _ _⟩
set_option maxHeartbeats 8000000 in
set_option maxRecDepth 100000 in
theorem value_txt_bad (r r2 : List Int) (s : List Int) (hb : b = 2 :: r) (hl : r.length ≤ 100000000) (hq : txtK r = some (s, r2)) (hc : value_Check.f 2 0 (strOfNums s) = some 10) : Calls Try.prog 26 #[.pointer (some ⟨B, 0, none⟩)] w fun e w' => e = .panicked PAN ∧ KR w w' ∧ Below w0.heap.size w0 w' := by
  subst hb
  have hbt := blk_lt h.hb
  have HBT := Aside0.mk (show B ≠ w.heap.size by omega)
  have HW0 := Aside0.mk h.bl.size
  have HS := Aside0.mk (value_start w0 w B A c h)
  have HQ := Aside0.mk hq
  have HCK := Aside0.mk hc
  have HLN := Aside0.mk hl
  clear hl
  clear h hq hc hbt
  have hu := Try.underlying38
  go_enter Try.func26, Try.ntmps26
  go_wp2_with
    (first
      | (go_at_call 36; guard_hyp HS; refine (byte_yes (HS.out _ rfl).1).mono ?_
         rintro e w7 ⟨A7, c7, rfl, hR, hK⟩
         have HR7 := Aside0.mk hR
         have HK7 := Aside0.mk ((HS.out _ rfl).2.1.trans hK)
         have HT7 := Aside0.mk (hK.1.blk (HS.out _ rfl).2.2 (by decide))
         have qc0 : w7.cell? ⟨w.heap.size, 0, none⟩ = some (.int .i64 0) := (blk_cell HT7.out 0).trans rfl
         have qf0 := blk_frozen HT7.out 0
         have qc1 : w7.cell? ⟨w.heap.size, 1, none⟩ = some (.int .i64 0) := (blk_cell HT7.out 1).trans rfl
         have qf1 := blk_frozen HT7.out 1
         have qc2 : w7.cell? ⟨w.heap.size, 2, none⟩ = some (.string ⟨#[]⟩) := (blk_cell HT7.out 2).trans rfl
         have qf2 := blk_frozen HT7.out 2
         clear hR hK HS)
      | (go_at_call 38; guard_hyp HR7; refine (text_any _ _ _ _ _ _ HR7.out HLN.out).mono ?_
         rintro e w8 hh
         obtain ⟨A8, c8, rfl, hR, hK⟩ := GP_yes hh HQ.out
         have HR8 := Aside0.mk hR
         have HK8 := Aside0.mk (HK7.out.trans hK)
         have HT8 := Aside0.mk (hK.1.blk HT7.out (by decide))
         have rc0 : w8.cell? ⟨w.heap.size, 0, none⟩ = some (.int .i64 0) := (blk_cell HT8.out 0).trans rfl
         have rf0 := blk_frozen HT8.out 0
         have rc1 : w8.cell? ⟨w.heap.size, 1, none⟩ = some (.int .i64 0) := (blk_cell HT8.out 1).trans rfl
         have rf1 := blk_frozen HT8.out 1
         have rc2 : w8.cell? ⟨w.heap.size, 2, none⟩ = some (.string ⟨#[]⟩) := (blk_cell HT8.out 2).trans rfl
         have rf2 := blk_frozen HT8.out 2
         clear hh hR hK)
      | (go_at_call 33; guard_hyp HR8; refine (value_Check.calls 2 0 (strOfNums s) 10 _ HCK.out).mono ?_
         rintro e w10 ⟨rfl, hb⟩
         have HR10 := Aside0.mk ((RS.p3 HR8.out HBT.out HW0.out (.int .i64 2) (.int .i64 0) (.string (strOfNums s))).below hb)
         have HK10 := Aside0.mk ((KR.p3 HK8.out (Nat.le_refl _) (.int .i64 2) (.int .i64 0) (.string (strOfNums s))).trans (KR.below hb))
         have HT10 := Aside0.mk (blk_below (P3_block HT8.out (.int .i64 2) (.int .i64 0) (.string (strOfNums s))) hb)
         have sc0 : w10.cell? ⟨w.heap.size, 0, none⟩ = some (.int .i64 2) := (blk_cell HT10.out 0).trans rfl
         have sf0 := blk_frozen HT10.out 0
         have sc1 : w10.cell? ⟨w.heap.size, 1, none⟩ = some (.int .i64 0) := (blk_cell HT10.out 1).trans rfl
         have sf1 := blk_frozen HT10.out 1
         have sc2 : w10.cell? ⟨w.heap.size, 2, none⟩ = some (.string (strOfNums s)) := (blk_cell HT10.out 2).trans rfl
         have sf2 := blk_frozen HT10.out 2
         clear hb))
  exact ⟨rfl, rfl, HK10.out, HR10.out.bl⟩
set_option maxHeartbeats 8000000 in
set_option maxRecDepth 100000 in
theorem value_other (x : Int) (r : List Int) (hb : b = x :: r) (h1 : x ≠ 1) (h2 : x ≠ 2) : Calls Try.prog 26 #[.pointer (some ⟨B, 0, none⟩)] w fun e w' => e = .panicked PAN ∧ KR w w' ∧ Below w0.heap.size w0 w' := by
  subst hb
  have HS := Aside0.mk (value_start w0 w B A c h)
  have HCK := Aside0.mk (show value_Check.f 0 0 ⟨#[]⟩ = some 10 by simp [value_Check.f])
  have q1 : (x == 1) = false := by simpa using h1
  have q2 : (x == 2) = false := by simpa using h2
  clear h h1 h2
  have hu := Try.underlying38
  go_enter Try.func26, Try.ntmps26
  go_wp2_with
    (first
      | (go_at_call 36; guard_hyp HS; refine (byte_yes (HS.out _ rfl).1).mono ?_
         rintro e w7 ⟨A7, c7, rfl, hR, hK⟩
         have HR7 := Aside0.mk hR
         have HK7 := Aside0.mk ((HS.out _ rfl).2.1.trans hK)
         have HT7 := Aside0.mk (hK.1.blk (HS.out _ rfl).2.2 (by decide))
         have qc0 : w7.cell? ⟨w.heap.size, 0, none⟩ = some (.int .i64 0) := (blk_cell HT7.out 0).trans rfl
         have qf0 := blk_frozen HT7.out 0
         have qc1 : w7.cell? ⟨w.heap.size, 1, none⟩ = some (.int .i64 0) := (blk_cell HT7.out 1).trans rfl
         have qf1 := blk_frozen HT7.out 1
         have qc2 : w7.cell? ⟨w.heap.size, 2, none⟩ = some (.string ⟨#[]⟩) := (blk_cell HT7.out 2).trans rfl
         have qf2 := blk_frozen HT7.out 2
         clear hR hK HS)
      | (go_at_call 33; refine (value_Check.calls 0 0 ⟨#[]⟩ 10 _ HCK.out).mono ?_
         rintro e w10 ⟨rfl, hb⟩
         have HR10 := Aside0.mk (HR7.out.below hb)
         have HK10 := Aside0.mk (HK7.out.trans (KR.below hb))
         clear hb))
  exact ⟨rfl, rfl, HK10.out, HR10.out.bl⟩
end
theorem value_any (w0 w : World) (B : Nat) (b : List Int) (A : Option Addr) (c : Nat) (h : RS w0 w B b A c) (hl : b.length ≤ 100000000) :
    Calls Try.prog 26 #[.pointer (some ⟨B, 0, none⟩)] w fun e w' => GP (fun v : S38 => .agg #[.int .i64 v.f0, .int .i64 v.f1, .string v.f2]) w0 w B (valK b) e w' := by
  rcases b with _ | ⟨x, r⟩
  · exact (value_nil w0 w B [] A c h rfl).mono fun e w' he => he
  · have hr : r.length ≤ 100000000 := by simp only [List.length_cons] at hl; omega
    by_cases h1 : x = 1
    · subst h1
      rcases hq : numK r with _ | ⟨n, r2⟩
      · have e : valK (1 :: r) = none := by simp [valK, hq]
        rw [e]; exact (value_num_none w0 w B _ A c h r rfl hq).mono fun e w' he => he
      · rcases check_cases 1 n ⟨#[]⟩ with hc | hc
        · have e : valK (1 :: r) = some (⟨1, n, ⟨#[]⟩⟩, r2) := by simp [valK, hq, okK, hc]
          rw [e]; exact (value_num_ok w0 w B _ A c h r r2 n rfl hq hc).mono fun e w' he => he
        · have e : valK (1 :: r) = none := by simp [valK, hq, okK, hc]
          rw [e]; exact (value_num_bad w0 w B _ A c h r r2 n rfl hq hc).mono fun e w' he => he
    · by_cases h2 : x = 2
      · subst h2
        rcases hq : txtK r with _ | ⟨s, r2⟩
        · have e : valK (2 :: r) = none := by simp [valK, hq]
          rw [e]; exact (value_txt_none w0 w B _ A c h r rfl hr hq).mono fun e w' he => he
        · rcases check_cases 2 0 (strOfNums s) with hc | hc
          · have e : valK (2 :: r) = some (⟨2, 0, strOfNums s⟩, r2) := by simp [valK, hq, okK, hc]
            rw [e]; exact (value_txt_ok w0 w B _ A c h r r2 s rfl hr hq hc).mono fun e w' he => he
          · have e : valK (2 :: r) = none := by simp [valK, hq, okK, hc]
            rw [e]; exact (value_txt_bad w0 w B _ A c h r r2 s rfl hr hq hc).mono fun e w' he => he
      · have e : valK (x :: r) = none := by simp [valK, h1, h2]
        rw [e]; exact (value_other w0 w B _ A c h x r rfl h1 h2).mono fun e w' he => he
end Go.Proofs.Ytniihilegljgmaa.P
