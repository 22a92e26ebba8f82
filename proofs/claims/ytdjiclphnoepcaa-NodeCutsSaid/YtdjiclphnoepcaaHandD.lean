/- The contract of node.Decode, by hand: its closures, its loop. -/
import Derived.Test.YtdjiclphnoepcaaNS
import Derived.Outline
import Derived.Laws.BitsLemmas
set_option linter.unusedVariables false
set_option linter.unusedSimpArgs false
namespace Go.Proofs.Ytdjiclphnoepcaa.P
open Go.RowKit Go.Proofs.YtdjiclphnoepcaaW.PrintWords Go.Proofs.YtdjiclphnoepcaaW.PrintLast Go.Proofs.YtdjiclphnoepcaaW.PrintMore Go.Proofs.YtdjiclphnoepcaaOwn
/-- Blocks of other types stay. -/
def KeepD (w w' : World) : Prop := ∀ (k : Nat) (cs : Array Value) (t : TypeId) (fr : Nat × Nat), w.heap[k]? = some (Obj.cells cs t fr) → t ≠ 4 → t ≠ 28 → w'.heap[k]? = w.heap[k]?
theorem KeepD.trans {w w1 w2 : World} (h : KeepD w w1) (k : KeepD w1 w2) : KeepD w w2 := fun b cs t fr hb h1 h2 => by
  have e := h b cs t fr hb h1 h2
  rw [k b cs t fr (e.trans hb) h1 h2, e]
theorem KeepD.refl (w : World) : KeepD w w := fun _ _ _ _ _ _ _ => rfl
theorem KeepD.blk {w w' : World} (h : KeepD w w') {k : Nat} {cs : Array Value} {t : TypeId} (hb : w.heap[k]? = some (Obj.cells cs t (0, 0))) (h1 : t ≠ 4) (h2 : t ≠ 28) : w'.heap[k]? = some (Obj.cells cs t (0, 0)) := (h k cs t _ hb h1 h2).trans hb
theorem KeepD.of_below {w w' : World} (h : Below w.heap.size w w') : KeepD w w' := fun k _ _ _ hb _ _ => h.block k (blk_lt hb)
theorem KeepD.of_set {w : World} {B j : Nat} {cs : Array Value} {t : TypeId} (hB : w.heap[B]? = some (Obj.cells cs t (0, 0))) (ht : t = 4 ∨ t = 28) (v : Value) : KeepD w (w.setCell ⟨B, j, none⟩ v) := fun k cs' t' fr hb h1 h2 => by
  refine Below.heap_setCell w ⟨B, j, none⟩ v k (fun e => ?_)
  have e2 : k = B := e
  subst e2
  rw [hB] at hb
  injection hb with hb
  injection hb with _ hb
  subst hb
  rcases ht with h | h
  · exact h1 h
  · exact h2 h
/-- The reader's two variables. -/
structure St (w0 w : World) (Bs Bb : Nat) (sh : Bool) (b : List Int) (A : Option Addr) (c : Nat) : Prop where
  hs : w.heap[Bs]? = some (Obj.cells #[.bool sh] 4 (0, 0))
  hb : w.heap[Bb]? = some (Obj.cells #[.slice A b.length c] 28 (0, 0))
  hc : b.length ≤ c
  hr : Kd.C (Kd.int .u8) w0 A b.length b
  gs : w0.heap.size ≤ Bs
  gb : w0.heap.size ≤ Bb
  bl : Below w0.heap.size w0 w
def takeS (n : Nat) (sh : Bool) (b : List Int) : List Int × Bool × List Int :=
  if (sh || decide (b.length < n)) = true then (List.replicate n 0, true, b) else (b.take n, false, b.drop n)
theorem made_C (W : World) (n : Nat) (hn : n ≤ 1000) : Kd.C (Kd.int .u8) (W.alloc (.cells (madeCells #[.int .u8 0] n) 5)) (some ⟨W.heap.size, 0, none⟩) n (List.replicate n (0 : Int)) := by
  have h := Kd.R_of_own (enc := Value.int .u8) (h1 := fun _ => rfl) (ok := fun _ => True) (own_made' W W.heap.size 5 .u8 n (Nat.le_refl _) (by omega)) (fun _ _ => trivial)
  obtain ⟨A, c, he, hl, hr⟩ := Kd.R_reads h
  injection he with h1 h2 h3
  subst h1
  have e : (List.replicate n (0 : Int)).length = n := by simp
  rw [e] at hr
  exact hr
set_option maxHeartbeats 8000000 in
set_option maxRecDepth 100000 in
theorem take_any (w0 w : World) (Bs Bb : Nat) (sh : Bool) (b : List Int) (A : Option Addr) (c : Nat) (n : Nat) (hn : n ≤ 1000) (h : St w0 w Bs Bb sh b A c) :
    Calls Try.prog 25 #[.int .i64 n, .pointer (some ⟨Bs, 0, none⟩), .pointer (some ⟨Bb, 0, none⟩)] w fun e w' => ∃ A1 c1 A2 c2, e = .returned (.slice A1 (takeS n sh b).1.length c1) ∧ (takeS n sh b).1.length ≤ c1 ∧
      Kd.C (Kd.int .u8) w' A1 (takeS n sh b).1.length (takeS n sh b).1 ∧ St w0 w' Bs Bb (takeS n sh b).2.1 (takeS n sh b).2.2 A2 c2 ∧ KeepD w w' ∧ w.heap.size ≤ w'.heap.size := by
  obtain ⟨i0, hi, hzz⟩ := Option.map_eq_some_iff.1 info5
  simp only [Prod.mk.injEq] at hzz
  obtain ⟨_, hz1, _⟩ := hzz
  have hne := blk_ne h.hs h.hb (by decide)
  have z1 : w.cell? ⟨Bs, 0, none⟩ = some (.bool sh) := (blk_cell h.hs 0).trans rfl
  have z2 : w.cell? ⟨Bb, 0, none⟩ = some (.slice A b.length c) := (blk_cell h.hb 0).trans rfl
  have f1 := blk_frozen h.hs 0
  have S1 : ∀ v, (w.setCell ⟨Bs, 0, none⟩ v).heap[Bs]? = some (Obj.cells #[v] 4 (0, 0)) := fun v => blk_put h.hs 0 v rfl
  have S2 : ∀ v, (w.setCell ⟨Bs, 0, none⟩ v).heap[Bb]? = some (Obj.cells #[.slice A b.length c] 28 (0, 0)) := fun v => blk_far h.hb (Ne.symm hne) v
  have y1 : ∀ v, (w.setCell ⟨Bs, 0, none⟩ v).cell? ⟨Bs, 0, none⟩ = some v := fun v => (blk_cell (S1 v) 0).trans rfl
  have y2 : ∀ v, (w.setCell ⟨Bs, 0, none⟩ v).cell? ⟨Bb, 0, none⟩ = some (.slice A b.length c) := fun v => (blk_cell (S2 v) 0).trans rfl
  have y3 : ∀ v, (w.setCell ⟨Bs, 0, none⟩ v).frozen? ⟨Bb, 0, none⟩ = false := fun v => blk_frozen (S2 v) 0
  have hmk := print_make (P := Try.prog) 28 5 .u8 1 Try.underlying28 info5 (by decide) n (by omega)
  have HST := Aside0.mk h
  have T1 := Aside0.mk S1
  have T2 := Aside0.mk S2
  have HH := Aside0.mk (And.intro hi hz1)
  clear h S1 S2 hi hz1
  by_cases hcase : (sh || decide (b.length < n)) = true
  · have ht : takeS n sh b = (List.replicate n 0, true, b) := by unfold takeS; rw [if_pos hcase]
    rw [ht]
    have hend : ∀ W : World, W = w.setCell ⟨Bs, 0, none⟩ (.bool true) → ∃ A1 c1 A2 c2, Ending.returned (.slice (some ⟨w.heap.size, 0, none⟩) n n) = Ending.returned (.slice A1 (List.replicate n (0 : Int)).length c1) ∧ (List.replicate n (0 : Int)).length ≤ c1 ∧
        Kd.C (Kd.int .u8) (W.alloc (.cells (madeCells #[.int .u8 0] n) 5)) A1 (List.replicate n (0 : Int)).length (List.replicate n (0 : Int)) ∧ St w0 (W.alloc (.cells (madeCells #[.int .u8 0] n) 5)) Bs Bb true b A2 c2 ∧ KeepD w (W.alloc (.cells (madeCells #[.int .u8 0] n) 5)) ∧ w.heap.size ≤ (W.alloc (.cells (madeCells #[.int .u8 0] n) 5)).heap.size := by
      rintro W rfl
      have hS := HST.out
      have esz : (w.setCell ⟨Bs, 0, none⟩ (.bool true)).heap.size = w.heap.size := by simp
      refine ⟨some ⟨(w.setCell ⟨Bs, 0, none⟩ (.bool true)).heap.size, 0, none⟩, n, A, c, by rw [esz]; simp, by simp, ?_, ⟨blk_alloc (T1.out _) _, blk_alloc (T2.out _) _, hS.hc, hS.hr, hS.gs, hS.gb, ?_⟩, ?_, ?_⟩
      · simpa using made_C (w.setCell ⟨Bs, 0, none⟩ (.bool true)) n hn
      · exact below_alloc (hS.bl.setCell hS.gs _) _
      · exact (KeepD.of_set hS.hs (.inl rfl) _).trans (KeepD.of_below (Below.alloc (Below.refl _ _) (Nat.le_refl _) _))
      · simp
    have HEND := Aside0.mk hend
    clear hend ht
    cases sh
    · have hlt : b.length < n := by simpa using hcase
      go_enter Try.func25, Try.ntmps25
      go_wp2
      go_ret
      exact HEND.out _ rfl
    · go_enter Try.func25, Try.ntmps25
      go_wp2
      go_ret
      exact HEND.out _ rfl
  · have hsh : sh = false := by cases sh <;> simp_all
    subst hsh
    have hge : ¬ b.length < n := by simpa using hcase
    have ht : takeS n false b = (b.take n, false, b.drop n) := by unfold takeS; rw [if_neg hcase]
    rw [ht]
    have k1 : ∀ W : World, (Instr.slice 28 (.slice A b.length c) none (some (.int .i64 (n : Int))) none).run Try.prog W = .ok (.slice A n c) W := fun W => by
      simpa using cut_to (P := Try.prog) 28 5 .i64 Try.underlying28 HH.out.1 A b.length c (n : Int) (by omega) (by omega) HST.out.hc W
    have k2 : ∀ W : World, (Instr.slice 28 (.slice A b.length c) (some (.int .i64 (n : Int))) none none).run Try.prog W = .ok (.slice (if c = n then A else A.map (·.add (n * 1))) (b.length - n) (c - n)) W := fun W => by
      simpa using cut_from (P := Try.prog) 28 5 .i64 Try.underlying28 HH.out.1 1 HH.out.2 A b.length c (n : Int) (by omega) (by omega) W
    obtain ⟨A2, hA2⟩ : ∃ A2, A2 = (if c = n then A else A.map (·.add (n * 1))) := ⟨_, rfl⟩
    rw [← hA2] at k2
    have HA2 := Aside0.mk hA2
    clear hA2 ht
    go_enter Try.func25, Try.ntmps25
    go_wp2
    go_ret
    have hS := HST.out
    have hl1 : (b.take n).length = n := by rw [List.length_take]; omega
    have hl2 : (b.drop n).length = b.length - n := List.length_drop
    have hb2 := blk_put (T2.out (.bool false)) 0 (.slice A2 (b.length - n) (c - n)) rfl
    have hbl : Below w0.heap.size w0 ((w.setCell ⟨Bs, 0, none⟩ (.bool false)).setCell ⟨Bb, 0, none⟩ (.slice A2 (b.length - n) (c - n))) := (hS.bl.setCell hS.gs _).setCell hS.gb _
    refine ⟨A, c, A2, c - n, by rw [hl1]; rfl, by rw [hl1]; have := hS.hc; omega, Kd.C_below (Kd.C_take hS.hr (by omega)) hbl, ⟨blk_far (T1.out _) hne _, by rw [hl2]; exact hb2, by rw [hl2]; have := hS.hc; omega, by rw [HA2.out]; exact Kd.C_drop hS.hr (by omega) hS.hc, hS.gs, hS.gb, hbl⟩, (KeepD.of_set hS.hs (.inl rfl) _).trans (KeepD.of_set (T2.out _) (.inr rfl) _), by simp⟩

def numS (l : List Int) : Int := l.foldl (fun x y => x * 256 + y) 0
theorem numS_snoc (l : List Int) (y : Int) : numS (l ++ [y]) = numS l * 256 + y := by simp [numS]
theorem numS_bound : ∀ (n : Nat) (l : List Int), l.length = n → (∀ x ∈ l, 0 ≤ x ∧ x ≤ 255) → 0 ≤ numS l ∧ numS l < 256 ^ n
  | 0, l, h, _ => by
    have : l = [] := List.eq_nil_of_length_eq_zero h
    subst this; simp [numS]
  | n + 1, l, h, hb => by
    have hne : l ≠ [] := by rintro rfl; simp at h
    have e := (List.dropLast_concat_getLast hne).symm
    have hl : l.dropLast.length = n := by simp [h]
    have ih := numS_bound n l.dropLast hl (fun x hx => hb x (List.dropLast_subset l hx))
    have hy := hb (l.getLast hne) (List.getLast_mem hne)
    rw [e, numS_snoc]
    have h2 : (256 : Int) ^ (n + 1) = 256 ^ n * 256 := by rw [Int.pow_succ]
    rw [h2]
    omega
theorem or_byte (x y : Int) (h0 : 0 ≤ x) (h1 : x ≤ 16777215) (h2 : 0 ≤ y) (h3 : y ≤ 255) : Go.bits .or .i64 (x * 256) y = x * 256 + y :=
  bits_join .i64 63 (by decide) (fun n h0 h1 => IntWalk.i64_in n (by omega)) 8 (x * 256) y (by omega) (by omega) (by omega) h2 (by omega) (by omega)
theorem takeS_in {n : Nat} {sh : Bool} {b : List Int} (hb : ∀ x ∈ b, 0 ≤ x ∧ x ≤ 255) : (∀ x ∈ (takeS n sh b).1, 0 ≤ x ∧ x ≤ 255) ∧ (∀ x ∈ (takeS n sh b).2.2, 0 ≤ x ∧ x ≤ 255) ∧ (takeS n sh b).1.length = n := by
  unfold takeS
  split
  · exact ⟨fun x hx => by have := List.eq_of_mem_replicate hx; omega, hb, by simp⟩
  · rename_i h
    simp at h
    exact ⟨fun x hx => hb x (List.mem_of_mem_take hx), fun x hx => hb x (List.mem_of_mem_drop hx), by simp; omega⟩
theorem at_u8 {w : World} {A : Option Addr} {n : Nat} {xs : List Int} (h : Kd.C (Kd.int .u8) w A n xs) (k : Nat) (hk : k < n) : ∃ ad, A = some ad ∧ w.cell? (ad.add k) = some (.int .u8 (rd xs k)) := by
  obtain ⟨ad, e, hx⟩ := Kd.at_int h (k : Int) (by omega) (by omega)
  exact ⟨ad, e, by simpa using hx⟩
def FB (Bs Bb : Nat) : Value := .func (Fn.func 25) #[] #[.pointer (some ⟨Bs, 0, none⟩), .pointer (some ⟨Bb, 0, none⟩)]
set_option maxHeartbeats 8000000 in
set_option maxRecDepth 100000 in
theorem number_any (w0 w : World) (Bs Bb Bt : Nat) (sh : Bool) (b : List Int) (A : Option Addr) (c : Nat) (n : Nat) (hn : n ≤ 4) (h : St w0 w Bs Bb sh b A c) (hb : ∀ x ∈ b, 0 ≤ x ∧ x ≤ 255)
    (hT : w.heap[Bt]? = some (Obj.cells #[FB Bs Bb] 43 (0, 0))) :
    Calls Try.prog 26 #[.int .i64 n, .pointer (some ⟨Bt, 0, none⟩)] w fun e w' => ∃ A2 c2, e = .returned (.int .i64 (numS (takeS n sh b).1)) ∧ St w0 w' Bs Bb (takeS n sh b).2.1 (takeS n sh b).2.2 A2 c2 ∧ KeepD w w' ∧ w.heap.size ≤ w'.heap.size := by
  have z1 : w.cell? ⟨Bt, 0, none⟩ = some (.func (Fn.func 25) #[] #[.pointer (some ⟨Bs, 0, none⟩), .pointer (some ⟨Bb, 0, none⟩)]) := (blk_cell hT 0).trans rfl
  obtain ⟨hi1, _, hi3⟩ := takeS_in (n := n) (sh := sh) hb
  have HST := Aside0.mk h
  have HN := Aside0.mk hn
  clear h hb hT hn
  obtain ⟨l, hl⟩ : ∃ l, l = (takeS n sh b).1 := ⟨_, rfl⟩
  rw [← hl] at hi1 hi3
  have HIN := Aside0.mk hi1
  have HLEN := Aside0.mk hi3
  have HL := Aside0.mk hl
  clear hi1 hi3
  rw [← hl]
  clear hl
  go_enter Try.func26, Try.ntmps26
  go_wp2_with (first | (go_at_call 25; refine (take_any w0 _ Bs Bb sh b A c n (by have := HN.out; omega) HST.out).mono ?_; rintro e w1 ⟨A1, c1, A2, c2, rfl, hl1, hC, hS, hK, hsz⟩; rw [← HL.out] at hl1 hC; have hcl : (takeS n sh b).1.length = l.length := by { rw [← HL.out] }; rw [hcl]; have HC := Aside0.mk hC; have HS1 := Aside0.mk hS; have HK1 := Aside0.mk hK; have HZ := Aside0.mk hsz; clear hl1 hC hS hK hsz hcl))
  go_loop [4, 11] (fun x i => ∃ k : Nat, k ≤ l.length ∧ i = .int .i64 k ∧ x = .int .i64 (numS (l.take k))) (fun _ i => l.length - (intOf i).toNat)
  case atStart => exact ⟨0, Nat.zero_le _, rfl, by simp [numS]⟩
  case round =>
    obtain ⟨k, hk, rfl, rfl⟩ := hrel
    by_cases hlt : k < l.length
    · obtain ⟨ad, ea, hx⟩ := at_u8 HC.out k hlt
      subst ea
      have hln := HLEN.out
      have hnn := HN.out
      have hb1 := numS_bound k (l.take k) (by rw [List.length_take]; omega) (fun x hx => HIN.out x (List.mem_of_mem_take hx))
      have hy := HIN.out (rd l k) (by rw [rd_nat, List.getD_eq_getElem?_getD, List.getElem?_eq_getElem hlt]; exact List.getElem_mem hlt)
      have hX : 0 ≤ numS (l.take k) ∧ numS (l.take k) ≤ 16777215 := by
        have : (256 : Int) ^ k ≤ 16777216 := by
          have hk3 : k ≤ 3 := by omega
          rcases (by omega : k = 0 ∨ k = 1 ∨ k = 2 ∨ k = 3) with rfl | rfl | rfl | rfl <;> decide
        omega
      have hstep : numS (l.take (k + 1)) = numS (l.take k) * 256 + rd l k := by
        rw [List.take_succ_eq_append_getElem hlt, numS_snoc, rd_nat, List.getD_eq_getElem?_getD, List.getElem?_eq_getElem hlt]; rfl
      have HSTEP := Aside0.mk hstep
      have HOR := Aside0.mk (or_byte (numS (l.take k)) (rd l k) hX.1 hX.2 hy.1 hy.2)
      obtain ⟨X, hXe⟩ : ∃ X, X = numS (l.take k) := ⟨_, rfl⟩
      rw [← hXe] at hX ⊢
      obtain ⟨hX0, hX1⟩ := hX
      obtain ⟨hy0, hy1⟩ := hy
      have HXE := Aside0.mk hXe
      have hl4 : l.length ≤ 4 := by omega
      clear hXe hstep hb1 hln hnn
      go_wp2
      go_round
      case rel => exact ⟨k + 1, by omega, by go_num, by { have h := HOR.out; rw [← HXE.out] at h; rw [HSTEP.out, ← HXE.out, ← h] }⟩
      case measure => simp [intOf]; omega
    · obtain rfl : k = l.length := by omega
      go_wp2
      go_ret
      exact ⟨rfl, ⟨_, _, HS1.out⟩, HK1.out, HZ.out⟩
end Go.Proofs.Ytdjiclphnoepcaa.P
