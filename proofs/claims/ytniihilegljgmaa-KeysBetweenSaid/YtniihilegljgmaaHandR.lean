/- The contract of keys.Row, by hand. -/
import Derived.Test.YtniihilegljgmaaHandB
import Derived.Deep.LoopGhost
set_option linter.unusedVariables false
set_option linter.unusedSimpArgs false
namespace Go.Proofs.Ytniihilegljgmaa.P
open Go.RowKit Go.Proofs.YtniihilegljgmaaW.PrintWords Go.Proofs.YtniihilegljgmaaW.PrintLast Go.Proofs.YtniihilegljgmaaW.PrintMore Go.Proofs.YtniihilegljgmaaOwn
/-- A number's eight bytes. -/
def eightK (n : Int) : List Int := [(n + 9223372036854775808) / 72057594037927936 % 256, (n + 9223372036854775808) / 281474976710656 % 256, (n + 9223372036854775808) / 1099511627776 % 256, (n + 9223372036854775808) / 4294967296 % 256, (n + 9223372036854775808) / 16777216 % 256, (n + 9223372036854775808) / 65536 % 256, (n + 9223372036854775808) / 256 % 256, (n + 9223372036854775808) % 256]
/-- A text's bytes, with 255 behind each 0. -/
def escK : List Int → List Int
  | [] => []
  | x :: r => if x = 0 then 0 :: 255 :: escK r else x :: escK r
def oneK (v : S38) : List Int := if v.f0 = 1 then 1 :: eightK v.f1 else if v.f0 = 2 then 2 :: (escK (bytesOf v.f2) ++ [0, 0]) else []
def rowK : List S38 → List Int
  | [] => []
  | v :: r => oneK v ++ rowK r
theorem escK_append (a b : List Int) : escK (a ++ b) = escK a ++ escK b := by
  induction a with
  | nil => rfl
  | cons x a ih => simp only [List.cons_append, escK, ih]; split <;> simp
theorem rowK_append (a b : List S38) : rowK (a ++ b) = rowK a ++ rowK b := by
  induction a with
  | nil => rfl
  | cons x a ih => simp only [List.cons_append, rowK, ih, List.append_assoc]
theorem rowK_take (l : List S38) (k : Nat) (h : k < l.length) : rowK (l.take (k + 1)) = rowK (l.take k) ++ oneK (l.getD k z38) := by
  rw [List.take_succ_eq_append_getElem h, rowK_append]; simp [rowK, h]
theorem escK_take (l : List Int) (k : Nat) (h : k < l.length) : escK (l.take (k + 1)) = escK (l.take k) ++ (if l.getD k 0 = 0 then [0, 255] else [l.getD k 0]) := by
  rw [List.take_succ_eq_append_getElem h, escK_append]; simp only [List.getD_eq_getElem?_getD, List.getElem?_eq_getElem h, Option.getD_some, escK]
theorem escK_len : ∀ l : List Int, (escK l).length ≤ 2 * l.length
  | [] => by simp [escK]
  | x :: r => by have := escK_len r; simp only [escK]; split <;> simp <;> omega
theorem oneK_len (v : S38) (m : Nat) (h : v.f2.size ≤ m) : (oneK v).length ≤ 9 + 2 * m := by
  have h1 := escK_len (bytesOf v.f2)
  rw [bytesOf_length] at h1
  unfold oneK
  split
  · simp [eightK]
  · split
    · simp; omega
    · simp
theorem rowK_len (m : Nat) : ∀ l : List S38, (∀ v ∈ l, v.f2.size ≤ m) → (rowK l).length ≤ l.length * (9 + 2 * m)
  | [], _ => by simp [rowK]
  | v :: r, h => by
    have h1 := oneK_len v m (h v (by simp))
    have h2 := rowK_len m r (fun x hx => h x (by simp [hx]))
    have h3 : (r.length + 1) * (9 + 2 * m) = r.length * (9 + 2 * m) + (9 + 2 * m) := Nat.succ_mul _ _
    simp only [rowK, List.length_append, List.length_cons]
    rw [h3]
    generalize r.length * (9 + 2 * m) = z at *
    omega
theorem eight_get (n : Int) (hn0 : -9223372036854775808 ≤ n) (hn1 : n ≤ 9223372036854775807) (j : Nat) (hj : j < 8) (sh : Int) (hsh : sh = 56 - 8 * (j : Int)) : (eightK n).take (j + 1) = (eightK n).take j ++ [(n + 9223372036854775808) / 2 ^ sh.toNat % 256] := by
  subst hsh
  have : j = 0 ∨ j = 1 ∨ j = 2 ∨ j = 3 ∨ j = 4 ∨ j = 5 ∨ j = 6 ∨ j = 7 := by omega
  rcases this with rfl | rfl | rfl | rfl | rfl | rfl | rfl | rfl <;> simp [eightK]
theorem xor_u64 (n : Int) (hn0 : -9223372036854775808 ≤ n) (hn1 : n ≤ 9223372036854775807) : Go.bits .xor .u64 (IntKind.u64.wrap n) 9223372036854775808 = n + 9223372036854775808 := by
  rw [IntKind.wrap_u64]
  obtain ⟨m, hm⟩ := Int.eq_ofNat_of_zero_le (Int.emod_nonneg n (show (18446744073709551616 : Int) ≠ 0 by decide))
  have hlt := Int.emod_lt_of_pos n (show (0 : Int) < 18446744073709551616 by decide)
  rw [hm, show (9223372036854775808 : Int) = ((9223372036854775808 : Nat) : Int) from rfl, u64_xor_nat m 9223372036854775808 (by omega) (by omega), xor63 m (by omega)]
  split <;> omega
theorem lit_two (W : World) : Kd.C (Kd.int .u8) (W.alloc (.cells #[.int .u8 0, .int .u8 0] 5)) (some ⟨W.heap.size, 0, none⟩) 2 [0, 0] := by
  have h := Kd.R_of_own (enc := Value.int .u8) (h1 := fun _ => rfl) (ok := fun _ => True) (own_lit W W.heap.size 5 .u8 [0, 0] (Nat.le_refl _) (by decide)) (fun _ _ => trivial)
  obtain ⟨A, c, he, hl, hr⟩ := Kd.R_reads h
  injection he with h1 h2 h3
  subst h1
  exact hr
theorem own_fresh0 {w : World} {base : Nat} {ok : Nat → Prop} {v : Value} {xs : List Int} (h : Kd.R (Kd.int .u8) 5 w base ok v xs) : some w.heap.size ≠ v.ownBlock := fun he => by
  obtain ⟨inner, ho⟩ := Kd.R_own h
  have := own_lt ho w.heap.size he.symm
  omega
set_option maxHeartbeats 8000000 in
set_option maxRecDepth 100000 in
theorem row_any (A : Option Addr) (c : Nat) (l0 : List S38) (w : World) (hr : Kd.C k38 w A l0.length l0) (hc : l0.length ≤ c) (hl : l0.length ≤ 10000) (hs : ∀ v ∈ l0, v.f2.size ≤ 1000 ∧ -9223372036854775808 ≤ v.f1 ∧ v.f1 ≤ 9223372036854775807) :
    Calls Try.prog 15 #[.slice A l0.length c] w fun e w' => ∃ v, e = .returned v ∧ Kd.R (Kd.int .u8) 5 w' w.heap.size (fun _ => True) v (rowK l0) ∧ Below w.heap.size w w' := by
  have HC := Aside0.mk hr
  have HS := Aside0.mk hs
  have HL := Aside0.mk hl
  have kb := fun (s : ByteArray) (W : World) => print_bytes (P := Try.prog) 9 24 5 Try.underlying9 Try.underlying24 Try.underlying5 s W
  clear hr hs
  go_enter Try.func15, Try.ntmps15
  go_wp2
  go_loopg [2, 10] l0.length (fun gk v2 v10 wr => ∃ (k : Nat), v10 = .int .i64 k ∧ Aside0 (gk = l0.length - k ∧ k ≤ l0.length ∧ Kd.R (Kd.int .u8) 5 wr w.heap.size (fun _ => True) v2 (rowK (l0.take k)) ∧ Below w.heap.size w wr))
  case atStart => exact ⟨0, rfl, ⟨rfl, Nat.zero_le _, Kd.R_nil _ _ _ _ _, Below.refl _ _⟩⟩
  case round =>
    obtain ⟨k, rfl, HX⟩ := hrel
    obtain ⟨wo, rfl⟩ : ∃ wo : World, wo = wr := ⟨_, rfl⟩
    obtain ⟨A2, c2, rfl⟩ := Kd.R_slice HX.out.2.2.1
    by_cases hlt : k < l0.length
    · have HK := Aside0.mk (show k + 1 ≤ l0.length by omega)
      have hC2 := Kd.C_below HC.out HX.out.2.2.2
      obtain ⟨ad, rfl, y0, y1, y2⟩ := at_T38 hC2 (k : Int) (by omega) (by omega)
      have HROW := Aside0.mk (rowK_take l0 k hlt)
      have hmem : l0.getD k z38 ∈ l0 := by rw [List.getD_eq_getElem?_getD, List.getElem?_eq_getElem hlt]; exact List.getElem_mem hlt
      have hsz := HS.out _ hmem
      have e38 : rd_T38 l0 (k : Int) = l0.getD k z38 := by simp [rd_T38]
      rw [e38] at y0 y1 y2
      obtain ⟨⟨x0, x1, x2⟩, hx⟩ : ∃ x, x = l0.getD k z38 := ⟨_, rfl⟩
      rw [← hx] at y0 y1 y2 HROW hsz
      simp only [Int.toNat_natCast] at y0 y1 y2
      simp only at y0 y1 y2 hsz
      have HX1 := Aside0.mk hsz.2
      have HX2 := Aside0.mk hsz.1
      obtain ⟨acc, hacc⟩ : ∃ acc, acc = rowK (l0.take k) := ⟨_, rfl⟩
      have HLEN := Aside0.mk (show acc.length ≤ 20090000 by
        have h1 := rowK_len 1000 (l0.take k) (fun v hv => (HS.out v (List.mem_of_mem_take hv)).1)
        have h2 : (l0.take k).length ≤ 10000 := by rw [List.length_take]; have := HL.out; omega
        rw [hacc]
        have h3 : (l0.take k).length * (9 + 2 * 1000) ≤ 10000 * 2009 := Nat.mul_le_mul h2 (by omega)
        exact Nat.le_trans h1 h3)
      have HO := Aside0.mk (show Kd.R (Kd.int .u8) 5 wo w.heap.size (fun _ => True) (.slice A2 acc.length c2) acc by rw [hacc]; exact HX.out.2.2.1)
      have HBL := Aside0.mk HX.out.2.2.2
      rw [← hacc] at HROW
      have HACC := Aside0.mk hacc
      rw [← hacc]
      clear hC2 hmem hsz e38 hx hacc
      by_cases hx1 : x0 = 1
      · subst hx1
        have HLA := Aside0.mk (show (acc.length + 1) * 1 ≤ 140737488355328 by have h1 := HLEN.out; omega)
        go_wp2_with
          (first
            | (at_builtin; refine Kd.R_append (w0 := w) (W := (wo.alloc (.cells #[.int .i64 1, .int .i64 x1, .string x2] 38))) (Kd.int .u8) w.heap.size ?x1 (.tmp 18) (.tmp 19) 24 5 (.int .u8 0) 1 ?x2 Try.underlying24 info5 rfl (by decide) (by decide) (.slice A2 acc.length c2) acc 1 [.int .u8 1] (fun _ => True) (fun _ => False) ?x3 ?x4 ?x5 (fun _ h => h.elim) (fun _ _ => trivial) ?x8 ?x9 ?x10 ?x11 ?_
               case x1 => rfl
               case x2 => rfl
               case x3 => rfl
               case x4 => first | rfl | (rw [World.size_alloc]; rfl)
               case x5 => first | rfl | (rw [World.size_alloc]; rfl)
               case x8 => exact Kd.R_alloc HO.out _
               case x9 => exact below_alloc HBL.out _
               case x10 => exact (below_alloc HBL.out _).size
               case x11 => exact HLA.out
               intro v5 w5 hO5 hB5 hg5 hat5
               have HO5 := Aside0.mk hO5
               have HB5 := Aside0.mk hB5
               have HG5 := Aside0.mk (blk_grown (blk_new wo (.cells #[.int .i64 1, .int .i64 x1, .string x2] 38)) hg5 (own_fresh0 HO.out))
               have qe0 : w5.cell? ⟨wo.heap.size, 0, none⟩ = some (.int .i64 1) := (blk_cell HG5.out 0).trans rfl
               have qe1 : w5.cell? ⟨wo.heap.size, 1, none⟩ = some (.int .i64 x1) := (blk_cell HG5.out 1).trans rfl
               have qe2 : w5.cell? ⟨wo.heap.size, 2, none⟩ = some (.string x2) := (blk_cell HG5.out 2).trans rfl
               clear hO5 hB5 hg5 hat5))
        go_loopg [2, 5] 8 (fun gk2 v2 v5 wr => ∃ (j : Nat) (sh : Int), v5 = .int .i64 sh ∧ Aside0 (gk2 = 8 - j ∧ j ≤ 8 ∧ sh = 56 - 8 * (j : Int) ∧ Kd.R (Kd.int .u8) 5 wr w.heap.size (fun _ => True) v2 (acc ++ 1 :: (eightK x1).take j) ∧ wr.heap[wo.heap.size]? = some (Obj.cells #[.int .i64 1, .int .i64 x1, .string x2] 38 (0, 0)) ∧ Below w.heap.size w wr))
        case atStart => exact ⟨0, 56, rfl, ⟨rfl, by omega, rfl, by simpa using HO5.out, HG5.out, HB5.out⟩⟩
        case round =>
          obtain ⟨j, sh, rfl, HY⟩ := hrel
          obtain ⟨A6, c6, rfl⟩ := Kd.R_slice HY.out.2.2.2.1
          have hsh := HY.out.2.2.1
          have hj8 := HY.out.2.1
          have qa0 : wr.cell? ⟨wo.heap.size, 1, none⟩ = some (.int .i64 x1) := (blk_cell HY.out.2.2.2.2.1 1).trans rfl
          by_cases hj : j < 8
          · have hsh0 : (0 : Int) ≤ sh := by omega
            have hsh1 : sh ≤ 56 := by omega
            have HE := Aside0.mk (eight_get x1 HX1.out.1 HX1.out.2 j hj sh hsh)
            have hxor := xor_u64 x1 HX1.out.1 HX1.out.2
            obtain ⟨u, hu⟩ : ∃ u, u = x1 + 9223372036854775808 := ⟨_, rfl⟩
            rw [← hu] at hxor
            have hub : 0 ≤ u ∧ u ≤ 18446744073709551615 := by have h := HX1.out; omega
            obtain ⟨hu0, hu1⟩ := hub
            obtain ⟨q, hq⟩ : ∃ q, u / 2 ^ sh.toNat = q := ⟨_, rfl⟩
            have hq2 : u / 2 ^ min sh.toNat 64 = q := by rw [Nat.min_eq_left (by omega)]; exact hq
            have HQ := Aside0.mk (show (eightK x1).take (j + 1) = (eightK x1).take j ++ [q % 256] by rw [HE.out, ← hu, hq])
            have hw8 : IntKind.u8.wrap q = q % 256 := by simp [IntKind.wrap_u8]
            have HLJ := Aside0.mk (show ((acc ++ 1 :: (eightK x1).take j).length + 1) * 1 ≤ 140737488355328 by have h1 := HLEN.out; have h2 := List.length_take_le j (eightK x1); simp only [List.length_append, List.length_cons]; omega)
            have HS := Aside0.mk hsh
            have HU := Aside0.mk hu
            have HJ := Aside0.mk hj
            clear HE hsh hu hj8 hj
            go_wp2_with
              (first
                | (at_builtin; refine Kd.R_append (w0 := w) (W := wr) (Kd.int .u8) w.heap.size ?x1 (.tmp 25) (.tmp 33) 24 5 (.int .u8 0) 1 ?x2 Try.underlying24 info5 rfl (by decide) (by decide) (.slice A6 (acc ++ 1 :: (eightK x1).take j).length c6) (acc ++ 1 :: (eightK x1).take j) (q % 256) [.int .u8 (q % 256)] (fun _ => True) (fun _ => False) ?x3 ?x4 ?x5 (fun _ h => h.elim) (fun _ _ => trivial) ?x8 ?x9 ?x10 ?x11 ?_
                   case x1 => rfl
                   case x2 => rfl
                   case x3 => rfl
                   case x4 => first | rfl | (rw [World.size_alloc]; rfl)
                   case x5 => first | rfl | (rw [World.size_alloc]; rfl)
                   case x8 => exact HY.out.2.2.2.1
                   case x9 => exact HY.out.2.2.2.2.2
                   case x10 => exact (HY.out.2.2.2.2.2).size
                   case x11 => exact HLJ.out
                   intro v7 w7 hO7 hB7 hg7 hat7
                   have HO7 := Aside0.mk hO7
                   have HB7 := Aside0.mk hB7
                   have HG7 := Aside0.mk (blk_grown HY.out.2.2.2.2.1 hg7 (Kd.R_ne HY.out.2.2.2.1 HY.out.2.2.2.2.1 (by decide)))
                   clear hO7 hB7 hg7 hat7))
            go_roundg (8 - (j + 1))
            case measure => have h1 := HY.out.1; have h2 := HJ.out; omega
            case rel => exact ⟨j + 1, sh - 8, rfl, ⟨rfl, by have h2 := HJ.out; omega, by rw [HS.out]; push_cast; omega, by have h := HO7.out; rw [HQ.out]; simpa using h, HG7.out, HB7.out⟩⟩
          · have hj9 : j = 8 := by omega
            have hshn : ¬ (0 ≤ sh) := by omega
            have hshd : decide (0 ≤ sh) = false := decide_eq_false hshn
            have HO8 := Aside0.mk (show Kd.R (Kd.int .u8) 5 wr w.heap.size (fun _ => True) (.slice A6 (acc ++ 1 :: (eightK x1).take j).length c6) (rowK (l0.take (k + 1))) by rw [show rowK (l0.take (k + 1)) = acc ++ 1 :: (eightK x1).take j by rw [HROW.out, hj9]; simp [oneK, eightK]]; exact HY.out.2.2.2.1)
            clear hj9 hsh hj8 hj hshn
            go_wp2
            go_roundg (l0.length - (k + 1))
            case measure => have h1 := HX.out.1; have h2 := HK.out; omega
            case rel => exact ⟨k + 1, by go_num, ⟨rfl, HK.out, HO8.out, HY.out.2.2.2.2.2⟩⟩
      · by_cases hx2 : x0 = 2
        · subst hx2
          clear hx1
          have HLA := Aside0.mk (show (acc.length + 1) * 1 ≤ 140737488355328 by have h1 := HLEN.out; omega)
          go_wp2_with
            (first
              | (at_builtin; refine Kd.R_append (w0 := w) (W := (wo.alloc (.cells #[.int .i64 2, .int .i64 x1, .string x2] 38))) (Kd.int .u8) w.heap.size ?x1 (.tmp 37) (.tmp 38) 24 5 (.int .u8 0) 1 ?x2 Try.underlying24 info5 rfl (by decide) (by decide) (.slice A2 acc.length c2) acc 2 [.int .u8 2] (fun _ => True) (fun _ => False) ?x3 ?x4 ?x5 (fun _ h => h.elim) (fun _ _ => trivial) ?x8 ?x9 ?x10 ?x11 ?_
                 case x1 => rfl
                 case x2 => rfl
                 case x3 => rfl
                 case x4 => first | rfl | (rw [World.size_alloc]; rfl)
                 case x5 => first | rfl | (rw [World.size_alloc]; rfl)
                 case x8 => exact Kd.R_alloc HO.out _
                 case x9 => exact below_alloc HBL.out _
                 case x10 => exact (below_alloc HBL.out _).size
                 case x11 => exact HLA.out
                 intro v5 w5 hO5 hB5 hg5 hat5
                 have HO5 := Aside0.mk hO5
                 have HB5 := Aside0.mk hB5
                 have HG5 := Aside0.mk (blk_grown (blk_new wo (.cells #[.int .i64 2, .int .i64 x1, .string x2] 38)) hg5 (own_fresh0 HO.out))
                 have qe0 : w5.cell? ⟨wo.heap.size, 0, none⟩ = some (.int .i64 2) := (blk_cell HG5.out 0).trans rfl
                 have qe1 : w5.cell? ⟨wo.heap.size, 1, none⟩ = some (.int .i64 x1) := (blk_cell HG5.out 1).trans rfl
                 have qe2 : w5.cell? ⟨wo.heap.size, 2, none⟩ = some (.string x2) := (blk_cell HG5.out 2).trans rfl
                 have hcv := kb x2 w5
                 clear hO5 hB5 hg5 hat5))
          have hsx : ((bytesOf x2).length) = x2.size := bytesOf_length x2
          have HRD := Aside0.mk (bytes_reads w5 5 x2 (by have := HX2.out; omega))
          have hbb := bytes_below (Below.refl w5.heap.size w5) (Nat.le_refl _) 5 x2
          have HO6 := Aside0.mk (Kd.R_below (Kd.R_mono (Kd.R_bound HO5.out) (fun k hk => show k ≠ w5.heap.size by have := hk.2.2.1; omega)) hbb)
          have HB6 := Aside0.mk (below_step HB5.out hbb)
          have HZ6 := Aside0.mk (show w5.heap.size < (Lib.bytesWorld w5 5 x2).heap.size by rw [Lib.bytesWorld_size]; omega)
          have HSX := Aside0.mk hsx
          clear hbb hsx hcv qe0 qe1 qe2
          generalize hw6 : Lib.bytesWorld w5 5 x2 = w6 at *
          clear hw6
          have hx2s : x2.size ≤ 1000 := HX2.out
          go_loopg [2, 44] x2.size (fun gk2 v2 v44 wr => ∃ (j : Nat), v44 = .int .i64 j ∧ Aside0 (gk2 = x2.size - j ∧ j ≤ x2.size ∧ Kd.R (Kd.int .u8) 5 wr w.heap.size (fun k => k ≠ w5.heap.size) v2 (acc ++ 2 :: escK ((bytesOf x2).take j)) ∧ Below w.heap.size w wr ∧ wr.heap[w5.heap.size]? = w6.heap[w5.heap.size]? ∧ w5.heap.size < wr.heap.size))
          case atStart => exact ⟨0, rfl, ⟨rfl, Nat.zero_le _, by simpa [escK] using HO6.out, HB6.out, rfl, HZ6.out⟩⟩
          case round =>
            obtain ⟨j, rfl, HY⟩ := hrel
            obtain ⟨A6, c6, rfl⟩ := Kd.R_slice HY.out.2.2.1
            have hel : (escK ((bytesOf x2).take j)).length ≤ 2000 := by have h1 := escK_len ((bytesOf x2).take j); have h2 := List.length_take_le j (bytesOf x2); have h3 := HSX.out; have h4 := HX2.out; have h5 := List.length_take_le' j (bytesOf x2); omega
            have HEL := Aside0.mk hel
            have HLJ := Aside0.mk (show ((acc ++ 2 :: escK ((bytesOf x2).take j)).length + 1) * 1 ≤ 140737488355328 by have h1 := HLEN.out; have h2 := HEL.out; simp only [List.length_append, List.length_cons]; omega)
            have HLJ2 := Aside0.mk (show ∀ b : Int, ((acc ++ 2 :: escK ((bytesOf x2).take j) ++ [b]).length + 1) * 1 ≤ 140737488355328 by intro b; have h1 := HLEN.out; have h2 := HEL.out; simp only [List.length_append, List.length_cons, List.length_nil]; omega)
            have HLJ3 := Aside0.mk (show ((acc ++ 2 :: escK ((bytesOf x2).take j)).length + 2) * 1 ≤ 140737488355328 by have h1 := HLEN.out; have h2 := HEL.out; simp only [List.length_append, List.length_cons]; omega)
            clear hel
            by_cases hj : j < x2.size
            · obtain ⟨ad5, e5, hc5⟩ := HRD.out.2.2 (by omega)
              cases e5
              have hcell : wr.cell? ⟨w5.heap.size, j, none⟩ = some (.int .u8 ((bytesOf x2).getD j 0)) := by
                have h1 := hc5 j hj
                rw [add_plain] at h1
                exact (World.cell?_of_block (a := ⟨w5.heap.size, j, none⟩) HY.out.2.2.2.2.1).trans h1
              have HES := Aside0.mk (escK_take (bytesOf x2) j (by rw [HSX.out]; exact hj))
              obtain ⟨b, hb⟩ : ∃ b, b = (bytesOf x2).getD j 0 := ⟨_, rfl⟩
              rw [← hb] at hcell HES
              clear hb hc5
              have HJ := Aside0.mk hj
              have hj0 : (0 : Int) ≤ (j : Int) := by omega
              have hj1 : (j : Int) < (x2.size : Int) := by omega
              by_cases hb0 : b = 0
              · have HESZ := Aside0.mk (show acc ++ 2 :: escK ((bytesOf x2).take (j + 1)) = (acc ++ 2 :: escK ((bytesOf x2).take j) ++ [b]) ++ [255] by rw [HES.out, if_pos hb0, hb0]; simp)
                have hbq : (b == 0) = true := by rw [hb0]; rfl
                clear hb0 HES
                go_wp2_with
                  (first
                    | (at_builtin; guard_hyp HO7; refine Kd.R_append (w0 := w) (W := w7) (Kd.int .u8) w.heap.size ?x1 (.tmp 54) (.tmp 55) 24 5 (.int .u8 0) 1 ?x2 Try.underlying24 info5 rfl (by decide) (by decide) v7 (acc ++ 2 :: escK ((bytesOf x2).take j) ++ [b]) 255 [.int .u8 255] (fun k => k ≠ w5.heap.size) (fun _ => False) ?x3 ?x4 ?x5 (fun _ h => h.elim) ?x7 ?x8 ?x9 ?x10 ?x11 ?_
                       case x1 => rfl
                       case x2 => rfl
                       case x3 => rfl
                       case x4 => first | rfl | (rw [World.size_alloc]; rfl)
                       case x5 => first | rfl | (rw [World.size_alloc]; rfl)
                       case x7 => exact (fun k hk he => by have := HM7.out; omega)
                       case x8 => exact HO7.out
                       case x9 => exact HB7.out
                       case x10 => exact (HB7.out).size
                       case x11 => exact HLJ2.out b
                       intro v8 w8 hO8 hB8 hg8 hat8
                       have HO8 := Aside0.mk hO8
                       have HB8 := Aside0.mk hB8
                       have HK8 := Aside0.mk ((hg8.block _ HM7.out (fun e => HO7.out.1 _ e.symm rfl)).trans HK7.out)
                       have HM8 := Aside0.mk (Nat.lt_of_lt_of_le HM7.out hg8.size)
                       clear hO8 hB8 hg8 hat8)
                    | (at_builtin; refine Kd.R_append (w0 := w) (W := wr) (Kd.int .u8) w.heap.size ?x1 (.tmp 48) (.tmp 50) 24 5 (.int .u8 0) 1 ?x2 Try.underlying24 info5 rfl (by decide) (by decide) (.slice A6 (acc ++ 2 :: escK ((bytesOf x2).take j)).length c6) (acc ++ 2 :: escK ((bytesOf x2).take j)) b [.int .u8 b] (fun k => k ≠ w5.heap.size) (fun _ => False) ?x3 ?x4 ?x5 (fun _ h => h.elim) ?x7 ?x8 ?x9 ?x10 ?x11 ?_
                       case x1 => rfl
                       case x2 => rfl
                       case x3 => rfl
                       case x4 => first | rfl | (rw [World.size_alloc]; rfl)
                       case x5 => first | rfl | (rw [World.size_alloc]; rfl)
                       case x7 => exact (fun k hk he => by have := HY.out.2.2.2.2.2; omega)
                       case x8 => exact HY.out.2.2.1
                       case x9 => exact HY.out.2.2.2.1
                       case x10 => exact (HY.out.2.2.2.1).size
                       case x11 => exact HLJ.out
                       intro v7 w7 hO7 hB7 hg7 hat7
                       have HO7 := Aside0.mk hO7
                       have HB7 := Aside0.mk hB7
                       have HK7 := Aside0.mk ((hg7.block _ HY.out.2.2.2.2.2 (fun e => HY.out.2.2.1.1 _ e.symm rfl)).trans HY.out.2.2.2.2.1)
                       have HM7 := Aside0.mk (Nat.lt_of_lt_of_le HY.out.2.2.2.2.2 hg7.size)
                       clear hO7 hB7 hg7 hat7))
                go_roundg (x2.size - (j + 1))
                case measure => have h1 := HY.out.1; have h2 := HJ.out; omega
                case rel => exact ⟨j + 1, by go_num, ⟨rfl, by have h2 := HJ.out; omega, by rw [HESZ.out]; exact HO8.out, HB8.out, HK8.out, HM8.out⟩⟩
              · have HESZ := Aside0.mk (show acc ++ 2 :: escK ((bytesOf x2).take (j + 1)) = (acc ++ 2 :: escK ((bytesOf x2).take j) ++ [b]) by rw [HES.out, if_neg hb0]; simp)
                have hbq : (b == 0) = false := by simpa using hb0
                clear hb0 HES
                go_wp2_with
                  (first
                    | (at_builtin; refine Kd.R_append (w0 := w) (W := wr) (Kd.int .u8) w.heap.size ?x1 (.tmp 48) (.tmp 50) 24 5 (.int .u8 0) 1 ?x2 Try.underlying24 info5 rfl (by decide) (by decide) (.slice A6 (acc ++ 2 :: escK ((bytesOf x2).take j)).length c6) (acc ++ 2 :: escK ((bytesOf x2).take j)) b [.int .u8 b] (fun k => k ≠ w5.heap.size) (fun _ => False) ?x3 ?x4 ?x5 (fun _ h => h.elim) ?x7 ?x8 ?x9 ?x10 ?x11 ?_
                       case x1 => rfl
                       case x2 => rfl
                       case x3 => rfl
                       case x4 => first | rfl | (rw [World.size_alloc]; rfl)
                       case x5 => first | rfl | (rw [World.size_alloc]; rfl)
                       case x7 => exact (fun k hk he => by have := HY.out.2.2.2.2.2; omega)
                       case x8 => exact HY.out.2.2.1
                       case x9 => exact HY.out.2.2.2.1
                       case x10 => exact (HY.out.2.2.2.1).size
                       case x11 => exact HLJ.out
                       intro v7 w7 hO7 hB7 hg7 hat7
                       have HO7 := Aside0.mk hO7
                       have HB7 := Aside0.mk hB7
                       have HK7 := Aside0.mk ((hg7.block _ HY.out.2.2.2.2.2 (fun e => HY.out.2.2.1.1 _ e.symm rfl)).trans HY.out.2.2.2.2.1)
                       have HM7 := Aside0.mk (Nat.lt_of_lt_of_le HY.out.2.2.2.2.2 hg7.size)
                       clear hO7 hB7 hg7 hat7))
                go_roundg (x2.size - (j + 1))
                case measure => have h1 := HY.out.1; have h2 := HJ.out; omega
                case rel => exact ⟨j + 1, by go_num, ⟨rfl, by have h2 := HJ.out; omega, by rw [HESZ.out]; exact HO7.out, HB7.out, HK7.out, HM7.out⟩⟩
            · have hj9 : j = x2.size := by have := HY.out.2.1; omega
              have HRW := Aside0.mk (show rowK (l0.take (k + 1)) = (acc ++ 2 :: escK ((bytesOf x2).take j)) ++ [0, 0] by rw [HROW.out, hj9, List.take_of_length_le (by rw [HSX.out]; exact Nat.le_refl _)]; simp [oneK])
              have hjn : ¬ ((j : Int) < (x2.size : Int)) := by omega
              have HZ : True := trivial
              clear hj9 hj
              go_wp2_with
                (first
                  | (at_builtin; guard_hyp HZ; refine Kd.R_append_rows (Kd.int .u8) (w0 := w) w.heap.size rfl (.tmp 58) (.tmp 59) 24 5 (.int .u8 0) 1 rfl Try.underlying24 info5 rfl (by decide) (by decide) (.slice A6 (acc ++ 2 :: escK ((bytesOf x2).take j)).length c6) (acc ++ 2 :: escK ((bytesOf x2).take j)) [0, 0] (some ⟨wr.heap.size, 0, none⟩) 2 2 (fun _ => True) (fun _ => False) rfl rfl ?aO ?aR (fun _ _ h => h) (fun _ h => h.elim) (fun _ _ => trivial) ?aB ?aS ?aL ?_
                     case aO => exact Kd.R_alloc (Kd.R_mono HY.out.2.2.1 (fun _ _ => trivial)) _
                     case aR => exact lit_two wr
                     case aB => exact below_alloc HY.out.2.2.2.1 _
                     case aS => exact (below_alloc HY.out.2.2.2.1 _).size
                     case aL => exact HLJ3.out
                     intro v9 w9 hO9 hB9 hg9 hn9
                     have HO9 := Aside0.mk hO9
                     have HB9 := Aside0.mk hB9
                     clear hO9 hB9 hg9 hn9))
              go_roundg (l0.length - (k + 1))
              case measure => have h1 := HX.out.1; have h2 := HK.out; omega
              case rel => exact ⟨k + 1, by go_num, ⟨rfl, HK.out, by rw [HRW.out]; exact HO9.out, HB9.out⟩⟩
        · have q1 : (x0 == 1) = false := by simpa using hx1
          have q2 : (x0 == 2) = false := by simpa using hx2
          have HO8 := Aside0.mk (show Kd.R (Kd.int .u8) 5 (wo.alloc (.cells #[.int .i64 x0, .int .i64 x1, .string x2] 38)) w.heap.size (fun _ => True) _ (rowK (l0.take (k + 1))) by rw [HROW.out]; simpa [oneK, hx1, hx2] using Kd.R_alloc HO.out _)
          clear hx1 hx2
          go_wp2
          go_roundg (l0.length - (k + 1))
          case measure => have h1 := HX.out.1; have h2 := HK.out; omega
          case rel => exact ⟨k + 1, by go_num, ⟨rfl, HK.out, HO8.out, below_alloc HBL.out _⟩⟩
    · obtain rfl : k = l0.length := by have := HX.out.2.1; omega
      have HO9 := Aside0.mk (show Kd.R (Kd.int .u8) 5 wo w.heap.size (fun _ => True) _ (rowK l0) by have h := HX.out.2.2.1; rw [List.take_length] at h; exact h)
      go_wp2
      go_ret
      exact ⟨_, rfl, by have h := HX.out.2.2.1; rw [List.take_length] at h ⊢; exact h, HX.out.2.2.2⟩
def keys_Row.f (l0 : List (S38)) : Option (List Int) := if l0.length ≤ 10000 ∧ ∀ v ∈ l0, v.f2.size ≤ 1000 ∧ -9223372036854775808 ≤ v.f1 ∧ v.f1 ≤ 9223372036854775807 then some (rowK l0) else none
theorem keys_Row.calls (A0 : Option Addr) (c0 : Nat) (l0 : List (S38)) (r : List Int) (w : World) (hr0 : Kd.C k38 w A0 l0.length l0) (hc0 : l0.length ≤ c0) (h : keys_Row.f l0 = some r) :
    Calls Try.prog 15 #[.slice A0 l0.length c0] w fun e w' => ∃ v0_ : Value, e = .returned (v0_) ∧ Kd.R (Kd.int .u8) 5 w' w.heap.size (fun _ => True) v0_ r ∧ Below w.heap.size w w' := by
  unfold keys_Row.f at h
  split at h
  case isFalse => cases h
  rename_i hh
  obtain rfl := Option.some.inj h
  exact row_any A0 c0 l0 w hr0 hc0 hh.1 hh.2
end Go.Proofs.Ytniihilegljgmaa.P
