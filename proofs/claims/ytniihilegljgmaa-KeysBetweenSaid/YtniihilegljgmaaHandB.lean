/- The reader of package keys, by hand: its methods take what stands there, or give up. -/
import Derived.Test.YtniihilegljgmaaHandA
import Derived.Test.YtniihilegljgmaaHandC
import Derived.Test.YtniihilegljgmaaOrder
import Derived.Outline
import Derived.Laws.BitsAllLaws
import Derived.Defers
import Derived.Recover
set_option linter.unusedVariables false
set_option linter.unusedSimpArgs false
namespace Go.Proofs.Ytniihilegljgmaa.P
open Go.RowKit Go.Proofs.YtniihilegljgmaaW.PrintWords Go.Proofs.YtniihilegljgmaaW.PrintLast Go.Proofs.YtniihilegljgmaaW.PrintMore Go.Proofs.YtniihilegljgmaaOwn
def KeepR (w w' : World) : Prop := ∀ (k : Nat) (cs : Array Value) (t : TypeId) (fr : Nat × Nat), w.heap[k]? = some (Obj.cells cs t fr) → t ≠ 42 → w'.heap[k]? = w.heap[k]?
theorem KeepR.trans {w w1 w2 : World} (h : KeepR w w1) (k : KeepR w1 w2) : KeepR w w2 := fun b cs t fr hb h1 => by
  have e := h b cs t fr hb h1
  rw [k b cs t fr (e.trans hb) h1, e]
theorem KeepR.refl (w : World) : KeepR w w := fun _ _ _ _ _ _ => rfl
theorem KeepR.of_below {w w' : World} (h : Below w.heap.size w w') : KeepR w w' := fun k _ _ _ hb _ => h.block k (blk_lt hb)
theorem KeepR.blk {w w' : World} (h : KeepR w w') {k : Nat} {cs : Array Value} {t : TypeId} (hb : w.heap[k]? = some (Obj.cells cs t (0, 0))) (h1 : t ≠ 42) : w'.heap[k]? = some (Obj.cells cs t (0, 0)) := (h k cs t _ hb h1).trans hb
theorem KeepR.of_set {w : World} {B j : Nat} {cs : Array Value} (hB : w.heap[B]? = some (Obj.cells cs 42 (0, 0))) (v : Value) : KeepR w (w.setCell ⟨B, j, none⟩ v) := fun k cs' t fr hb h1 => by
  have hne : k ≠ B := by
    rintro rfl
    rw [hb] at hB
    injection hB with hB
    injection hB with _ h2
    exact h1 h2
  exact Below.heap_setCell w ⟨B, j, none⟩ v k hne
theorem R_keepR {α : Type} {d : Kd α} {e : Nat} {w w' : World} {base : Nat} {ok : Nat → Prop} {v : Value} {xs : List α} (h : d.R e w base ok v xs) (hk : KeepR w w') (ht : ∀ q, q ∈ e :: d.E → q ≠ 42) : d.R e w' base ok v xs :=
  Kd.R_mono (Kd.R_move (Kd.R_bound h) (fun k hk2 => by
    obtain ⟨_, _, _, q, hq, cells, hc⟩ := hk2
    exact hk k cells q _ hc (ht q hq))) (fun _ hk2 => hk2.1)
/-- The reader in memory: what is left of the bytes. -/
structure RS (w0 w : World) (B : Nat) (b : List Int) (A : Option Addr) (c : Nat) : Prop where
  hb : w.heap[B]? = some (Obj.cells #[.slice A b.length c] 42 (0, 0))
  hc : b.length ≤ c
  hr : Kd.C (Kd.int .u8) w0 A b.length b
  gb : w0.heap.size ≤ B
  bl : Below w0.heap.size w0 w
  by_ : ∀ x ∈ b, 0 ≤ x ∧ x ≤ 255
theorem RS.below {w0 w w1 : World} {B : Nat} {b : List Int} {A : Option Addr} {c : Nat} (h : RS w0 w B b A c) (k : Below w.heap.size w w1) : RS w0 w1 B b A c :=
  ⟨blk_below h.hb k, h.hc, h.hr, h.gb, below_step h.bl k, h.by_⟩
/-- What the reader gives up by. -/
def PAN : List PanicEntry := [{ v := .iface 26 (.int .i64 20), recovered := false }]
theorem at_u8 {w : World} {A : Option Addr} {n : Nat} {xs : List Int} (h : Kd.C (Kd.int .u8) w A n xs) (k : Nat) (hk : k < n) : ∃ ad, A = some ad ∧ w.cell? (ad.add k) = some (.int .u8 (rd xs k)) := by
  obtain ⟨ad, e, hx⟩ := Kd.at_int h (k : Int) (by omega) (by omega)
  exact ⟨ad, e, by simpa using hx⟩
set_option maxHeartbeats 8000000 in
set_option maxRecDepth 100000 in
theorem byte_none (w0 w : World) (B : Nat) (A : Option Addr) (c : Nat) (h : RS w0 w B [] A c) :
    Calls Try.prog 36 #[.pointer (some ⟨B, 0, none⟩)] w fun e w' => e = .panicked PAN ∧ w = w' := by
  have z1 : w.cell? ⟨B, 0, none⟩ = some (.slice A 0 c) := (blk_cell h.hb 0).trans rfl
  clear h
  go_enter Try.func36, Try.ntmps36
  go_wp2
  exact ⟨rfl, rfl, rfl⟩
set_option maxHeartbeats 8000000 in
set_option maxRecDepth 100000 in
theorem byte_some (w0 w : World) (B : Nat) (x : Int) (b : List Int) (A : Option Addr) (c : Nat) (h : RS w0 w B (x :: b) A c) :
    Calls Try.prog 36 #[.pointer (some ⟨B, 0, none⟩)] w fun e w' => e = .returned (.int .u8 x) ∧ ∃ A2 c2, RS w0 w' B b A2 c2 ∧ KeepR w w' ∧ w.heap.size ≤ w'.heap.size := by
  obtain ⟨i0, hi, hzz⟩ := Option.map_eq_some_iff.1 info5
  simp only [Prod.mk.injEq] at hzz
  obtain ⟨_, hz1, _⟩ := hzz
  have z1 : w.cell? ⟨B, 0, none⟩ = some (.slice A (x :: b).length c) := (blk_cell h.hb 0).trans rfl
  have f1 := blk_frozen h.hb 0
  obtain ⟨ad, rfl, y0⟩ := at_u8 (Kd.C_below h.hr h.bl) 0 (by simp)
  have y1 : w.cell? ad = some (.int .u8 x) := by have h2 := y0; simpa [Addr.add, rd] using h2
  obtain ⟨n, hn⟩ : ∃ n, n = (x :: b).length := ⟨_, rfl⟩
  have hn1 : n = b.length + 1 := by rw [hn]; simp
  have hcn : n ≤ c := by rw [hn]; exact h.hc
  obtain ⟨A2, hA2⟩ : ∃ A2, A2 = (if c = 1 then some ad else (some ad : Option Addr).map (·.add (1 * 1))) := ⟨_, rfl⟩
  have k2 : ∀ W : World, (Instr.slice 24 (.slice (some ad) n c) (some (.int .i64 1)) none none).run Try.prog W = .ok (.slice A2 (n - 1) (c - 1)) W := fun W => by
    have h2 := cut_from (P := Try.prog) 24 5 .i64 Try.underlying24 hi 1 hz1 (some ad) n c (1 : Int) (by omega) (by omega) W
    rw [hA2]; simpa using h2
  have hD : ∀ W, Kd.C (Kd.int .u8) W (some ad) (x :: b).length (x :: b) → Kd.C (Kd.int .u8) W A2 b.length b := fun W hW => by
    have := Kd.C_drop (m := 1) hW (by simp) (show (x :: b).length ≤ c from h.hc)
    rw [show (Kd.int .u8).sz = 1 from rfl] at this
    rw [hA2]; simpa using this
  rw [← hn] at z1
  have HE := Aside0.mk (show RS w0 (w.setCell ⟨B, 0, none⟩ (.slice A2 (n - 1) (c - 1))) B b A2 (c - 1) from
    ⟨by rw [show n - 1 = b.length by omega]; exact blk_put h.hb 0 _ rfl, by omega, hD _ h.hr, h.gb, h.bl.setCell h.gb _, fun y hy => h.by_ y (by simp [hy])⟩)
  have HK := Aside0.mk (show KeepR w (w.setCell ⟨B, 0, none⟩ (.slice A2 (n - 1) (c - 1))) from KeepR.of_set h.hb _)
  have l0 : 0 < n := by omega
  have l1 : 1 ≤ n := by omega
  have hnz : ((n : Int) == 0) = false := by simp; omega
  clear y0 h hn hn1 hA2 hD hi hz1
  go_enter Try.func36, Try.ntmps36
  go_wp2
  go_ret
  exact ⟨rfl, A2, c - 1, HE.out, HK.out, by simp [World.setCell]⟩
def numU (l : List Int) : Int := l.foldl (fun x y => x * 256 + y) 0
theorem numU_snoc (l : List Int) (y : Int) : numU (l ++ [y]) = numU l * 256 + y := by simp [numU]
theorem numU_bound : ∀ (n : Nat) (l : List Int), l.length = n → (∀ x ∈ l, 0 ≤ x ∧ x ≤ 255) → 0 ≤ numU l ∧ numU l < 256 ^ n
  | 0, l, h, _ => by
    have : l = [] := List.eq_nil_of_length_eq_zero h
    subst this; simp [numU]
  | n + 1, l, h, hb => by
    have hne : l ≠ [] := by rintro rfl; simp at h
    have e := (List.dropLast_concat_getLast hne).symm
    have hl : l.dropLast.length = n := by simp [h]
    have ih := numU_bound n l.dropLast hl (fun x hx => hb x (List.dropLast_subset l hx))
    have hy := hb (l.getLast hne) (List.getLast_mem hne)
    rw [e, numU_snoc]
    have h2 : (256 : Int) ^ (n + 1) = 256 ^ n * 256 := by rw [Int.pow_succ]
    rw [h2]
    omega
theorem or_u64 (v x : Int) (h0 : 0 ≤ v) (h1 : v ≤ 72057594037927935) (h2 : 0 ≤ x) (h3 : x ≤ 255) : Go.bits .or .u64 (v * 256) x = v * 256 + x :=
  bits_join .u64 64 (by decide) (fun n h0 h1 => IntWalk.u64_in n (by omega)) 8 (v * 256) x (by omega) (by omega) (by omega) h2 (by omega) (by omega)
theorem xor63 (v : Nat) (h : v < 18446744073709551616) : v ^^^ 9223372036854775808 = if v < 9223372036854775808 then v + 9223372036854775808 else v - 9223372036854775808 := by
  have key : ∀ u : Nat, u < 9223372036854775808 → u ^^^ 9223372036854775808 = u + 9223372036854775808 := fun u hu => by
    have h1 := Nat.two_pow_add_eq_or_of_lt (i := 63) (b := u) (by simpa using hu) 1
    have h2 : (9223372036854775808 : Nat) = 2 ^ 63 := by decide
    have h3 : u ^^^ 2 ^ 63 = u ||| 2 ^ 63 := by
      apply Nat.eq_of_testBit_eq
      intro i
      rw [Nat.testBit_xor, Nat.testBit_or, Nat.testBit_two_pow]
      by_cases hi : 63 = i
      · subst hi
        have : u.testBit 63 = false := Nat.testBit_lt_two_pow (by simpa using hu)
        simp [this]
      · simp [hi]
    rw [h2, h3, Nat.or_comm]
    have h4 : (2 : Nat) ^ 63 * 1 = 2 ^ 63 := by decide
    rw [h4] at h1
    rw [← h1]
    omega
  split
  · rename_i hv; exact key v hv
  · rename_i hv
    obtain ⟨u, rfl⟩ : ∃ u, v = u + 9223372036854775808 := ⟨v - 9223372036854775808, by omega⟩
    rw [← key u (by omega), Nat.xor_assoc, Nat.xor_self, Nat.xor_zero]
    rw [key u (by omega)]; omega
theorem xor_i64 (v : Int) (h0 : 0 ≤ v) (h1 : v ≤ 18446744073709551615) : IntKind.i64.wrap (Go.bits .xor .u64 v 9223372036854775808) = v - 9223372036854775808 := by
  obtain ⟨n, rfl⟩ := Int.eq_ofNat_of_zero_le h0
  rw [show (9223372036854775808 : Int) = ((9223372036854775808 : Nat) : Int) from rfl, u64_xor_nat n 9223372036854775808 (by omega) (by omega), xor63 n (by omega), IntKind.wrap_i64]
  split <;> omega
/-- What a method of the reader leaves of the world that is not the reader. -/
def KR (w w' : World) : Prop := KeepR w w' ∧ w.heap.size ≤ w'.heap.size
theorem KR.refl (w : World) : KR w w := ⟨KeepR.refl w, Nat.le_refl _⟩
theorem KR.trans {a b c : World} (h : KR a b) (k : KR b c) : KR a c := ⟨h.1.trans k.1, Nat.le_trans h.2 k.2⟩
theorem KR.below {w w' : World} (h : Below w.heap.size w w') : KR w w' := ⟨KeepR.of_below h, h.size⟩
theorem byte_yes {w0 w : World} {B : Nat} {x : Int} {b : List Int} {A : Option Addr} {c : Nat} (h : RS w0 w B (x :: b) A c) :
    Calls Try.prog 36 #[.pointer (some ⟨B, 0, none⟩)] w fun e w' => ∃ A2 c2, e = .returned (.int .u8 x) ∧ RS w0 w' B b A2 c2 ∧ KR w w' :=
  (byte_some w0 w B x b A c h).mono fun e w' ⟨he, A2, c2, h1, h2, h3⟩ => ⟨A2, c2, he, h1, h2, h3⟩
theorem numU_seven (l : List Int) (h : l.length ≤ 7) (hb : ∀ x ∈ l, 0 ≤ x ∧ x ≤ 255) : 0 ≤ numU l ∧ numU l ≤ 72057594037927935 := by
  have h1 := numU_bound l.length l rfl hb
  have h2 : (256 : Nat) ^ l.length ≤ 256 ^ 7 := Nat.pow_le_pow_right (by omega) h
  have h3 : ((256 : Int) ^ l.length) = (((256 : Nat) ^ l.length : Nat) : Int) := by rw [Int.natCast_pow]; rfl
  have h4 : (256 : Nat) ^ 7 = 72057594037927936 := by decide
  rw [h3] at h1
  omega
set_option maxHeartbeats 8000000 in
set_option maxRecDepth 100000 in
theorem number_none (w0 w : World) (B : Nat) (b : List Int) (A : Option Addr) (c : Nat) (h : RS w0 w B b A c) (hl : b.length < 8) :
    Calls Try.prog 37 #[.pointer (some ⟨B, 0, none⟩)] w fun e w' => e = .panicked PAN ∧ KR w w' ∧ Below w0.heap.size w0 w' := by
  have H := Aside0.mk h
  clear h
  go_enter Try.func37, Try.ntmps37
  go_wp2
  go_loopw [3, 4] (fun v3 v4 wr => ∃ (k : Nat) (A : Option Addr) (c : Nat) (v : Int), v4 = .int .i64 k ∧ k ≤ b.length ∧ v3 = .int .u64 v ∧ Aside0 (v = numU (b.take k) ∧ RS w0 wr B (b.drop k) A c ∧ KR w wr)) (fun _ v4 _ => 8 - (intOf v4).toNat)
  case atStart => exact ⟨0, A, c, 0, rfl, Nat.zero_le _, rfl, ⟨rfl, H.out, KR.refl w⟩⟩
  case round =>
    obtain ⟨k, A, c, v, rfl, hk, rfl, HX⟩ := hrel
    have hB := H.out.by_
    have hv : 0 ≤ v ∧ v ≤ 72057594037927935 := by rw [HX.out.1]; exact numU_seven _ (by rw [List.length_take]; omega) (fun x hx => hB x (List.mem_of_mem_take hx))
    obtain ⟨hv0, hv1⟩ := hv
    have hlt : k < 8 := by omega
    by_cases hc : k < b.length
    · have hd := drop_getD b 0 k hc
      have hx : 0 ≤ b.getD k 0 ∧ b.getD k 0 ≤ 255 := hB _ (by rw [List.getD_eq_getElem?_getD, List.getElem?_eq_getElem hc]; exact List.getElem_mem hc)
      have HV := Aside0.mk (show numU (b.take (k + 1)) = v * 256 + b.getD k 0 by rw [HX.out.1, ← numU_snoc, List.take_succ_eq_append_getElem hc]; simp [List.getD_eq_getElem?_getD, hc])
      have HR := Aside0.mk (show RS w0 wr B (b.getD k 0 :: b.drop (k + 1)) A c by rw [← hd]; exact HX.out.2.1)
      obtain ⟨x, hx2⟩ : ∃ x, x = b.getD k 0 := ⟨_, rfl⟩
      rw [← hx2] at hx HV HR
      obtain ⟨hx0, hx1⟩ := hx
      have hor := or_u64 v x hv0 hv1 hx0 hx1
      have HK := Aside0.mk HX.out.2.2
      clear hd hx2 hB HX
      go_wp2_with
        (first
          | (go_at_call 36; refine (byte_yes HR.out).mono ?_
             rintro e w7 ⟨A7, c7, rfl, hR, hK⟩
             have HR7 := Aside0.mk hR
             have HK7 := Aside0.mk (HK.out.trans hK)
             clear hR hK))
      go_roundw
      case rel => exact ⟨k + 1, A7, c7, _, by go_num, by omega, rfl, ⟨HV.out.symm, HR7.out, HK7.out⟩⟩
      case measure => simp [intOf]; omega
    · have HR := Aside0.mk (show RS w0 wr B [] A c by have h := HX.out.2.1; rw [List.drop_eq_nil_of_le (by omega)] at h; exact h)
      have HK := Aside0.mk (And.intro HX.out.2.2 HX.out.2.1.bl)
      clear HX hB
      go_wp2_with (go_at_call 36; refine (byte_none _ _ _ _ _ HR.out).mono ?_; rintro e w7 ⟨rfl, rfl⟩)
      exact ⟨rfl, rfl, HK.out⟩
set_option maxHeartbeats 8000000 in
set_option maxRecDepth 100000 in
theorem number_some (w0 w : World) (B : Nat) (b : List Int) (A : Option Addr) (c : Nat) (h : RS w0 w B b A c) (hl : 8 ≤ b.length) :
    Calls Try.prog 37 #[.pointer (some ⟨B, 0, none⟩)] w fun e w' => ∃ A2 c2, e = .returned (.int .i64 (numU (b.take 8) - 9223372036854775808)) ∧ RS w0 w' B (b.drop 8) A2 c2 ∧ KR w w' := by
  have H := Aside0.mk h
  clear h
  go_enter Try.func37, Try.ntmps37
  go_wp2
  go_loopw [3, 4] (fun v3 v4 wr => ∃ (k : Nat) (A : Option Addr) (c : Nat) (v : Int), v4 = .int .i64 k ∧ k ≤ 8 ∧ v3 = .int .u64 v ∧ Aside0 (v = numU (b.take k) ∧ RS w0 wr B (b.drop k) A c ∧ KR w wr)) (fun _ v4 _ => 8 - (intOf v4).toNat)
  case atStart => exact ⟨0, A, c, 0, rfl, Nat.zero_le _, rfl, ⟨rfl, H.out, KR.refl w⟩⟩
  case round =>
    obtain ⟨k, A, c, v, rfl, hk, rfl, HX⟩ := hrel
    have hB := H.out.by_
    by_cases hlt : k < 8
    · have hv : 0 ≤ v ∧ v ≤ 72057594037927935 := by rw [HX.out.1]; exact numU_seven _ (by rw [List.length_take]; omega) (fun x hx => hB x (List.mem_of_mem_take hx))
      obtain ⟨hv0, hv1⟩ := hv
      have hc : k < b.length := by omega
      have hd := drop_getD b 0 k hc
      have hx : 0 ≤ b.getD k 0 ∧ b.getD k 0 ≤ 255 := hB _ (by rw [List.getD_eq_getElem?_getD, List.getElem?_eq_getElem hc]; exact List.getElem_mem hc)
      have HV := Aside0.mk (show numU (b.take (k + 1)) = v * 256 + b.getD k 0 by rw [HX.out.1, ← numU_snoc, List.take_succ_eq_append_getElem hc]; simp [List.getD_eq_getElem?_getD, hc])
      have HR := Aside0.mk (show RS w0 wr B (b.getD k 0 :: b.drop (k + 1)) A c by rw [← hd]; exact HX.out.2.1)
      obtain ⟨x, hx2⟩ : ∃ x, x = b.getD k 0 := ⟨_, rfl⟩
      rw [← hx2] at hx HV HR
      obtain ⟨hx0, hx1⟩ := hx
      have hor := or_u64 v x hv0 hv1 hx0 hx1
      have HK := Aside0.mk HX.out.2.2
      clear hd hx2 hB HX
      go_wp2_with
        (first
          | (go_at_call 36; refine (byte_yes HR.out).mono ?_
             rintro e w7 ⟨A7, c7, rfl, hR, hK⟩
             have HR7 := Aside0.mk hR
             have HK7 := Aside0.mk (HK.out.trans hK)
             clear hR hK))
      go_roundw
      case rel => exact ⟨k + 1, A7, c7, _, by go_num, by omega, rfl, ⟨HV.out.symm, HR7.out, HK7.out⟩⟩
      case measure => simp [intOf]; omega
    · obtain rfl : k = 8 := by omega
      have hv := numU_bound 8 (b.take 8) (by rw [List.length_take]; omega) (fun x hx => hB x (List.mem_of_mem_take hx))
      have h256 : (256 : Int) ^ 8 = 18446744073709551616 := by decide
      rw [← HX.out.1, h256] at hv
      have hxor := xor_i64 v hv.1 (by omega)
      clear hv h256 hB
      go_wp2
      go_ret
      exact ⟨A, c, by rw [← HX.out.1]; rfl, HX.out.2.1, HX.out.2.2⟩
end Go.Proofs.Ytniihilegljgmaa.P
