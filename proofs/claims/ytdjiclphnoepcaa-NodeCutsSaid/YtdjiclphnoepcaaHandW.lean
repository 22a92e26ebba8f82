/- The contract of the laws' own check of a few answers, by hand: it answers true. -/
import Derived.Test.YtdjiclphnoepcaaHandI
import Derived.Test.YtdjiclphnoepcaaHandE
import Derived.Test.YtdjiclphnoepcaaPx3
import Derived.Outline
set_option linter.unusedVariables false
set_option linter.unusedSimpArgs false
namespace Go.Proofs.Ytdjiclphnoepcaa.P
open Go.RowKit Go.Proofs.YtdjiclphnoepcaaW.PrintWords Go.Proofs.YtdjiclphnoepcaaW.PrintLast Go.Proofs.YtdjiclphnoepcaaW.PrintMore Go.Proofs.YtdjiclphnoepcaaOwn
theorem up1 : node_Encode.f true [⟨#[97]⟩] [⟨#[120, 121]⟩] [] = some (2, [0, 1, 1, 97, 2, 120, 121], 0) := by kernel_rfl
theorem up2 : node_Decode.f 2 [0, 1, 1, 97, 2, 120, 121] = some (true, [⟨#[97]⟩], [⟨#[120, 121]⟩], [], 0) := by
  unfold node_Decode.f
  rw [if_pos (by decide)]
  exact congrArg some (by kernel_rfl)
theorem up3 : node_Decode.f 3 [0, 0, 0, 0, 0, 5] = some (false, [], [], [], 100) := by
  unfold node_Decode.f
  rw [if_pos (by decide)]
  exact congrArg some (by kernel_rfl)
theorem up4 : tailraceref10_Same.f 50 true [⟨#[97]⟩] [⟨#[120, 121]⟩] [] true [⟨#[97]⟩] [⟨#[120, 121]⟩] [] = some true := by kernel_rfl
theorem up5 : node_Size.f 50 true [⟨#[97]⟩] [⟨#[120, 121]⟩] [] = some 7 := by kernel_rfl
theorem up6 : node_Check.f 50 true [⟨#[97]⟩] [⟨#[120, 121]⟩] [] = some 0 := by kernel_rfl
theorem up7 : node_Check.f 50 false [] [] [] = some 100 := by kernel_rfl
theorem up8 : strOfNums [0, 1, 1, 97, 2, 120, 121] = ⟨#[0, 1, 1, 97, 2, 120, 121]⟩ := by kernel_rfl
theorem lit_C (W : World) (s : ByteArray) : Kd.C Kd.string (W.alloc (.cells #[.string s] 9)) (some ⟨W.heap.size, 0, none⟩) 1 [s] := by
  have h : Kd.R Kd.string 9 (W.alloc (.cells #[.string s] 9)) W.heap.size (fun _ => True) (.slice (some ⟨W.heap.size, 0, none⟩) 1 1) [s] := ⟨fun _ _ => trivial, OwnRow.lit W W.heap.size (inner := [.string s]) (ps := [s]) (Kd.reps_scalar [s]) (Nat.le_refl _) (by simp)⟩
  obtain ⟨A, c, he, hl, hr⟩ := Kd.R_reads h
  injection he with h1 h2 h3
  subst h1
  exact hr
theorem lit_B (W : World) (xs : List Int) (hx : xs.length ≤ 1000) : Kd.C (Kd.int .u8) (W.alloc (.cells (nums .u8 xs).toArray 5)) (some ⟨W.heap.size, 0, none⟩) xs.length xs := by
  have h : Kd.R (Kd.int .u8) 5 (W.alloc (.cells (nums .u8 xs).toArray 5)) W.heap.size (fun _ => True) (.slice (some ⟨W.heap.size, 0, none⟩) xs.length xs.length) xs := ⟨fun _ _ => trivial, OwnRow.lit W W.heap.size (inner := nums .u8 xs) (ps := xs) (Kd.reps_scalar xs) (Nat.le_refl _) (by omega)⟩
  obtain ⟨A, c, he, hl, hr⟩ := Kd.R_reads h
  injection he with h1 h2 h3
  subst h1
  exact hr
def L26 (w : World) : Array Value := #[.bool true, .slice (some ⟨w.heap.size, 0, none⟩) 1 1, .slice (some ⟨w.heap.size + 1, 0, none⟩) 1 1, .slice none 0 0]
def W1 (w : World) : World := ((w.alloc (.cells #[.string ⟨#[97]⟩] 9)).alloc (.cells #[.string ⟨#[120, 121]⟩] 9)).alloc (.cells (L26 w) 26)
theorem W1_facts (w W : World) (hW : W = W1 w) : W.heap[w.heap.size + 1 + 1]? = some (Obj.cells (L26 w) 26 (0, 0)) ∧ Kd.C Kd.string W (some ⟨w.heap.size, 0, none⟩) 1 [⟨#[97]⟩] ∧ Kd.C Kd.string W (some ⟨w.heap.size + 1, 0, none⟩) 1 [⟨#[120, 121]⟩] ∧ Below w.heap.size w W := by
  subst hW
  have h1 := lit_C w ⟨#[97]⟩
  have h2 := lit_C (w.alloc (.cells #[.string ⟨#[97]⟩] 9)) ⟨#[120, 121]⟩
  have h3 := blk_new ((w.alloc (.cells #[.string ⟨#[97]⟩] 9)).alloc (.cells #[.string ⟨#[120, 121]⟩] 9)) (.cells (L26 w) 26)
  simp only [World.size_alloc] at h2 h3
  exact ⟨h3, Kd.C_alloc (Kd.C_alloc h1 _) _, Kd.C_alloc h2 _, below_alloc (below_alloc (below_alloc (Below.refl _ w) _) _) _⟩
def tailracelaw10_awake.f : Option Bool := some true
set_option maxHeartbeats 8000000 in
set_option maxRecDepth 100000 in
theorem tailracelaw10_awake.calls (r : Bool) (w : World) (h : tailracelaw10_awake.f = some r) :
    Calls Try.prog 9 #[] w fun e w' => e = .returned (.bool r) ∧ Below w.heap.size w w' := by
  obtain rfl : true = r := Option.some.inj h
  clear h
  have hu := Try.underlying26
  have FF := Aside0.mk (W1_facts w)
  have U8 := Aside0.mk up8
  go_enter Try.func9, Try.ntmps9
  go_wp2_with (first
    | (go_at_call 11
       refine (node_Encode.calls true (some ⟨w.heap.size, 0, none⟩) 1 [⟨#[97]⟩] (some ⟨w.heap.size + 1, 0, none⟩) 1 [⟨#[120, 121]⟩] none 0 [] 2 [0, 1, 1, 97, 2, 120, 121] 0 _ (FF.out _ rfl).2.1 (Nat.le_refl _) (FF.out _ rfl).2.2.1 (Nat.le_refl _) (Kd.C_nil _ _) (Nat.le_refl _) up1).mono ?_
       rintro e w2 ⟨v2, rfl, hR2, hb2⟩
       obtain ⟨A2, c2, rfl, hc2, hC2⟩ := Kd.R_reads hR2
       have HC2 := Aside0.mk (And.intro hc2 hC2)
       have HL2 := Aside0.mk (blk_below (FF.out _ rfl).1 hb2)
       have HB2 := Aside0.mk (below_step (FF.out _ rfl).2.2.2 hb2)
       have HK2 := Aside0.mk (And.intro (Kd.C_below (FF.out _ rfl).2.1 hb2) (Kd.C_below (FF.out _ rfl).2.2.1 hb2))
       have kc2 := Kd.C_string (P := Try.prog) Try.underlying28 Try.underlying5 Try.underlying9 (c := c2) hC2
       clear hR2 hb2 hc2 hC2)
    | (guard_hyp HM3
       go_at_call 17
       refine (node_Decode.calls 3 (some ⟨w3.heap.size + 1, 0, none⟩) 6 [0, 0, 0, 0, 0, 5] false [] [] [] 100 _ (by have h := lit_B (w3.alloc (.cells #[.bool true, .slice A31 1 c31, .slice A32 1 c32, .slice A33 0 c33] 26)) [0, 0, 0, 0, 0, 5] (by decide); simpa [nums] using h) (Nat.le_refl _) up3).mono ?_
       rintro e w4 ⟨v41, v42, v43, rfl, hR41, hR42, hR43, hb4⟩
       obtain ⟨A41, c41, rfl⟩ := Kd.R_slice hR41
       obtain ⟨A42, c42, rfl⟩ := Kd.R_slice hR42
       obtain ⟨A43, c43, rfl⟩ := Kd.R_slice hR43
       have HL4 := Aside0.mk (blk_below (blk_alloc (blk_alloc HL3.out (.cells #[.bool true, .slice A31 1 c31, .slice A32 1 c32, .slice A33 0 c33] 26)) (.cells (nums .u8 [0, 0, 0, 0, 0, 5]).toArray 5)) hb4)
       have HN4 := Aside0.mk (blk_below (blk_alloc HN3.out (.cells (nums .u8 [0, 0, 0, 0, 0, 5]).toArray 5)) hb4)
       have HB4 := Aside0.mk (below_step (below_alloc (below_alloc HB3.out (.cells #[.bool true, .slice A31 1 c31, .slice A32 1 c32, .slice A33 0 c33] 26)) (.cells (nums .u8 [0, 0, 0, 0, 0, 5]).toArray 5)) hb4)
       have mv : ∀ {α : Type} {d : Kd α} {A : Option Addr} {n : Nat} {xs : List α}, Kd.C d w3 A n xs → Kd.C d w4 A n xs := fun h => Kd.C_below (Kd.C_alloc (Kd.C_alloc h (.cells #[.bool true, .slice A31 1 c31, .slice A32 1 c32, .slice A33 0 c33] 26)) (.cells (nums .u8 [0, 0, 0, 0, 0, 5]).toArray 5)) hb4
       have HK4 := Aside0.mk (And.intro (mv HK3.out.1) (mv HK3.out.2))
       have HM4 := Aside0.mk (And.intro HM3.out.1 (And.intro HM3.out.2.1 (And.intro (mv HM3.out.2.2.1) (And.intro (mv HM3.out.2.2.2.1) (mv HM3.out.2.2.2.2)))))
       have HC4 := Aside0.mk (mv HC3.out)
       have l40 : ∀ o, (w4.alloc o).cell? ⟨w.heap.size + 1 + 1, 0, none⟩ = some (.bool true) := fun o => (blk_cell (blk_alloc HL4.out o) 0).trans rfl
       have l41 : ∀ o, (w4.alloc o).cell? ⟨w.heap.size + 1 + 1, 1, none⟩ = some (.slice (some ⟨w.heap.size, 0, none⟩) 1 1) := fun o => (blk_cell (blk_alloc HL4.out o) 1).trans rfl
       have l42 : ∀ o, (w4.alloc o).cell? ⟨w.heap.size + 1 + 1, 2, none⟩ = some (.slice (some ⟨w.heap.size + 1, 0, none⟩) 1 1) := fun o => (blk_cell (blk_alloc HL4.out o) 2).trans rfl
       have l43 : ∀ o, (w4.alloc o).cell? ⟨w.heap.size + 1 + 1, 3, none⟩ = some (.slice none 0 0) := fun o => (blk_cell (blk_alloc HL4.out o) 3).trans rfl
       have n40 : ∀ o, (w4.alloc o).cell? ⟨w3.heap.size, 0, none⟩ = some (.bool true) := fun o => (blk_cell (blk_alloc HN4.out o) 0).trans rfl
       have n41 : ∀ o, (w4.alloc o).cell? ⟨w3.heap.size, 1, none⟩ = some (.slice A31 1 c31) := fun o => (blk_cell (blk_alloc HN4.out o) 1).trans rfl
       have n42 : ∀ o, (w4.alloc o).cell? ⟨w3.heap.size, 2, none⟩ = some (.slice A32 1 c32) := fun o => (blk_cell (blk_alloc HN4.out o) 2).trans rfl
       have n43 : ∀ o, (w4.alloc o).cell? ⟨w3.heap.size, 3, none⟩ = some (.slice A33 0 c33) := fun o => (blk_cell (blk_alloc HN4.out o) 3).trans rfl
       clear mv hR41 hR42 hR43 hb4 kc2)
    | (go_at_call 19
       refine (tailraceref10_Same.calls 50 true A31 c31 [⟨#[97]⟩] A32 c32 [⟨#[120, 121]⟩] A33 c33 [] true (some ⟨w.heap.size, 0, none⟩) 1 [⟨#[97]⟩] (some ⟨w.heap.size + 1, 0, none⟩) 1 [⟨#[120, 121]⟩] none 0 [] true _ (Kd.C_alloc HM4.out.2.2.1 _) HM4.out.1 (Kd.C_alloc HM4.out.2.2.2.1 _) HM4.out.2.1 (Kd.C_alloc HM4.out.2.2.2.2 _) (Nat.zero_le _) (Kd.C_alloc HK4.out.1 _) (Nat.le_refl _) (Kd.C_alloc HK4.out.2 _) (Nat.le_refl _) (Kd.C_nil _ _) (Nat.le_refl _) up4).mono ?_
       rintro e w5 ⟨rfl, hb5⟩
       have HL5 := Aside0.mk (blk_below (blk_alloc HL4.out _) hb5)
       have HB5 := Aside0.mk (below_step (below_alloc HB4.out _) hb5)
       have HK5 := Aside0.mk (And.intro (Kd.C_below (Kd.C_alloc HK4.out.1 _) hb5) (Kd.C_below (Kd.C_alloc HK4.out.2 _) hb5))
       have kc5 := Kd.C_string (P := Try.prog) Try.underlying28 Try.underlying5 Try.underlying9 (c := c2) (Kd.C_below (Kd.C_alloc HC4.out _) hb5)
       rw [up8, show ([0, 1, 1, 97, 2, 120, 121] : List Int).length = 7 from rfl] at kc5
       have l50 : w5.cell? ⟨w.heap.size + 1 + 1, 0, none⟩ = some (.bool true) := (blk_cell HL5.out 0).trans rfl
       have l51 : w5.cell? ⟨w.heap.size + 1 + 1, 1, none⟩ = some (.slice (some ⟨w.heap.size, 0, none⟩) 1 1) := (blk_cell HL5.out 1).trans rfl
       have l52 : w5.cell? ⟨w.heap.size + 1 + 1, 2, none⟩ = some (.slice (some ⟨w.heap.size + 1, 0, none⟩) 1 1) := (blk_cell HL5.out 2).trans rfl
       have l53 : w5.cell? ⟨w.heap.size + 1 + 1, 3, none⟩ = some (.slice none 0 0) := (blk_cell HL5.out 3).trans rfl
       clear hb5)
    | (go_at_call 15
       refine (node_Size.calls 50 true (some ⟨w.heap.size, 0, none⟩) 1 [⟨#[97]⟩] (some ⟨w.heap.size + 1, 0, none⟩) 1 [⟨#[120, 121]⟩] none 0 [] 7 _ HK5.out.1 (Nat.le_refl _) HK5.out.2 (Nat.le_refl _) (Kd.C_nil _ _) (Nat.le_refl _) up5).mono ?_
       rintro e w6 ⟨rfl, hb6⟩
       have HL6 := Aside0.mk (blk_below HL5.out hb6)
       have HB6 := Aside0.mk (below_step HB5.out hb6)
       have HK6 := Aside0.mk (And.intro (Kd.C_below HK5.out.1 hb6) (Kd.C_below HK5.out.2 hb6))
       have l60 : w6.cell? ⟨w.heap.size + 1 + 1, 0, none⟩ = some (.bool true) := (blk_cell HL6.out 0).trans rfl
       have l61 : w6.cell? ⟨w.heap.size + 1 + 1, 1, none⟩ = some (.slice (some ⟨w.heap.size, 0, none⟩) 1 1) := (blk_cell HL6.out 1).trans rfl
       have l62 : w6.cell? ⟨w.heap.size + 1 + 1, 2, none⟩ = some (.slice (some ⟨w.heap.size + 1, 0, none⟩) 1 1) := (blk_cell HL6.out 2).trans rfl
       have l63 : w6.cell? ⟨w.heap.size + 1 + 1, 3, none⟩ = some (.slice none 0 0) := (blk_cell HL6.out 3).trans rfl
       clear hb6)
    | (guard_hyp HB7
       go_at_call 13
       refine (node_Check.calls 50 false none 0 [] none 0 [] none 0 [] 100 _ (Kd.C_nil _ _) (Nat.le_refl _) (Kd.C_nil _ _) (Nat.le_refl _) (Kd.C_nil _ _) (Nat.le_refl _) up7).mono ?_
       rintro e w8 ⟨rfl, hb8⟩
       have HB8 := Aside0.mk (below_step HB7.out hb8)
       clear hb8)
    | (go_at_call 13
       refine (node_Check.calls 50 true (some ⟨w.heap.size, 0, none⟩) 1 [⟨#[97]⟩] (some ⟨w.heap.size + 1, 0, none⟩) 1 [⟨#[120, 121]⟩] none 0 [] 0 _ HK6.out.1 (Nat.le_refl _) HK6.out.2 (Nat.le_refl _) (Kd.C_nil _ _) (Nat.le_refl _) up6).mono ?_
       rintro e w7 ⟨rfl, hb7⟩
       have HB7 := Aside0.mk (below_step HB6.out hb7)
       clear hb7)
    | (go_at_call 17
       refine (node_Decode.calls 2 A2 c2 [0, 1, 1, 97, 2, 120, 121] true [⟨#[97]⟩] [⟨#[120, 121]⟩] [] 0 _ HC2.out.2 HC2.out.1 up2).mono ?_
       rintro e w3 ⟨v31, v32, v33, rfl, hR31, hR32, hR33, hb3⟩
       obtain ⟨A31, c31, rfl, hc31, hC31⟩ := Kd.R_reads hR31
       obtain ⟨A32, c32, rfl, hc32, hC32⟩ := Kd.R_reads hR32
       obtain ⟨A33, c33, rfl, hc33, hC33⟩ := Kd.R_reads hR33
       have HL3 := Aside0.mk (blk_below HL2.out hb3)
       have HB3 := Aside0.mk (below_step HB2.out hb3)
       have HK3 := Aside0.mk (And.intro (Kd.C_below HK2.out.1 hb3) (Kd.C_below HK2.out.2 hb3))
       have HC3 := Aside0.mk (Kd.C_below HC2.out.2 hb3)
       have HN3 := Aside0.mk (blk_new w3 (.cells #[.bool true, .slice A31 1 c31, .slice A32 1 c32, .slice A33 0 c33] 26))
       have HM3 := Aside0.mk (And.intro (show (1 : Nat) ≤ c31 from hc31) (And.intro (show (1 : Nat) ≤ c32 from hc32) (And.intro (show Kd.C Kd.string w3 A31 1 [⟨#[97]⟩] from hC31) (And.intro (show Kd.C Kd.string w3 A32 1 [⟨#[120, 121]⟩] from hC32) (show Kd.C (Kd.int .i64) w3 A33 0 [] from hC33)))))
       clear hR31 hR32 hR33 hb3 hc31 hc32 hc33 hC31 hC32 hC33))
  go_ret
  exact ⟨rfl, HB8.out⟩
end Go.Proofs.Ytdjiclphnoepcaa.P
