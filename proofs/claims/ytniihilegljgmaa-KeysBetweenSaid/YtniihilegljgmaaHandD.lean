/- The contract of keys.Decode, by hand. -/
import Derived.Test.YtniihilegljgmaaHandV
import Derived.Deep.RegionLaw
import Derived.Deep.RegionHeld3
set_option linter.unusedVariables false
set_option linter.unusedSimpArgs false
namespace Go.Proofs.Ytniihilegljgmaa.P
open Go.RowKit Go.Proofs.YtniihilegljgmaaW.PrintWords Go.Proofs.YtniihilegljgmaaW.PrintLast Go.Proofs.YtniihilegljgmaaW.PrintMore Go.Proofs.YtniihilegljgmaaOwn
set_option maxHeartbeats 8000000 in
set_option maxRecDepth 100000 in
theorem caught_nil (w : World) : Calls Try.prog 25 #[.nilIface] w fun e w' => e = .returned (.int .i64 0) ∧ w = w' := by
  go_enter Try.func25, Try.ntmps25
  go_wp2
  go_ret
  exact ⟨rfl, rfl⟩
set_option maxHeartbeats 8000000 in
set_option maxRecDepth 100000 in
theorem caught_key (w : World) : Calls Try.prog 25 #[.iface 26 (.int .i64 20)] w fun e w' => e = .returned (.int .i64 20) ∧ w = w' := by
  have hta : ∀ w : World, (Instr.typeAssert (.iface 26 (.int .i64 20)) 20 26 true).run Try.prog w = .ok (.tuple #[.int .i64 20, .bool true]) w := fun w => by kernel_rfl
  go_enter Try.func25, Try.ntmps25
  go_wp2
  go_ret
  exact ⟨rfl, rfl⟩
set_option maxHeartbeats 8000000 in
set_option maxRecDepth 100000 in
theorem catch_panicking (pe po : Nat) (xe : Int) (vo : Value) (hvo : vo.cells.size = 1) (older : List PanicEntry) (w : World) (he : w.heap[pe]? = some (Obj.cells #[.int .i64 xe] 26 (0, 0))) (ho : w.heap[po]? = some (Obj.cells #[vo] 23 (0, 0))) :
    CallsD Try.prog 24 #[.pointer (some ⟨pe, 0, none⟩), .pointer (some ⟨po, 0, none⟩)] (.panicking ({ v := .iface 26 (.int .i64 20), recovered := false } :: older)) w fun e u' w' =>
      e = .returned (.tuple #[]) ∧ u' = .panicking ({ v := .iface 26 (.int .i64 20), recovered := true } :: older) ∧ w' = (w.setCell ⟨pe, 0, none⟩ (.int .i64 20)).setCell ⟨po, 0, none⟩ (.slice none 0 0) := by
  have hc : w.cell? ⟨pe, 0, none⟩ = some (.int .i64 xe) := (blk_cell he 0).trans rfl
  have hz := blk_frozen he 0
  have hne := blk_ne ho he (by decide)
  have ho2 := blk_far (p := ⟨pe, 0, none⟩) ho hne (.int .i64 20)
  have hc2 : (w.setCell ⟨pe, 0, none⟩ (.int .i64 20)).cell? ⟨po, 0, none⟩ = some vo := (blk_cell ho2 0).trans rfl
  have hz2 := blk_frozen ho2 0
  have hc3 : (w.setCell ⟨pe, 0, none⟩ (.int .i64 20)).cell? ⟨pe, 0, none⟩ = some (.int .i64 20) := (blk_cell (blk_put he 0 (.int .i64 20) rfl) 0).trans rfl
  clear he ho ho2 hne
  refine callsD_of_wpS Try.func24 rfl fun c₀ cs hu => ?_
  apply wpS_seq
  apply wpS_region
  simp [wpOpsS, go_sem, recoverD, hu, Try.ntmps24, Exit.thenS]
  refine (caught_key w).mono ?_
  rintro e w'' ⟨rfl, rfl⟩
  simp [go_sem, hc, hz]
  apply wpS_seq
  apply wpS_region
  simp [wpOpsS, go_sem, hc3, Exit.thenS]
  refine wpS_cond (t := true) (by simp [Act.eval, Array.replicate]) ?_
  simp only [if_true]
  apply wpS_region
  simp [wpOpsS, go_sem, hc2, hz2, bodyPostS, results, Try.results24]
set_option maxHeartbeats 8000000 in
set_option maxRecDepth 100000 in
theorem catch_idle (pe po : Nat) (xe : Int) (w : World) (he : w.heap[pe]? = some (Obj.cells #[.int .i64 xe] 26 (0, 0))) :
    CallsD Try.prog 24 #[.pointer (some ⟨pe, 0, none⟩), .pointer (some ⟨po, 0, none⟩)] .returning w fun e u' w' =>
      e = .returned (.tuple #[]) ∧ u' = .returning ∧ w' = w.setCell ⟨pe, 0, none⟩ (.int .i64 0) := by
  have hc : w.cell? ⟨pe, 0, none⟩ = some (.int .i64 xe) := (blk_cell he 0).trans rfl
  have hz := blk_frozen he 0
  have hc3 : (w.setCell ⟨pe, 0, none⟩ (.int .i64 0)).cell? ⟨pe, 0, none⟩ = some (.int .i64 0) := (blk_cell (blk_put he 0 (.int .i64 0) rfl) 0).trans rfl
  clear he
  refine callsD_of_wpS Try.func24 rfl fun c₀ cs hu => ?_
  apply wpS_seq
  apply wpS_region
  simp [wpOpsS, go_sem, recoverD, hu, Try.ntmps24, Exit.thenS]
  refine (caught_nil w).mono ?_
  rintro e w'' ⟨rfl, rfl⟩
  simp [go_sem, hc, hz]
  apply wpS_seq
  apply wpS_region
  simp [wpOpsS, go_sem, hc3, Exit.thenS]
  refine wpS_cond (t := false) (by simp [Act.eval, Array.replicate]) ?_
  simp only [Bool.false_eq_true, if_false]
  refine wpS_of_wp (wp_skip ?_)
  cases c₀
  simp_all [bodyPostS, results, Try.results24]
theorem numK_len {b : List Int} {n : Int} {r : List Int} (h : numK b = some (n, r)) : r.length < b.length ∧ ∀ x ∈ r, x ∈ b := by
  unfold numK at h
  split at h
  · cases h
  · cases h
    exact ⟨by rw [List.length_drop]; omega, fun x hx => List.mem_of_mem_drop hx⟩
theorem txtK_len : ∀ (n : Nat) (b : List Int) (s r : List Int), b.length ≤ n → txtK b = some (s, r) → r.length < b.length ∧ (∀ x ∈ r, x ∈ b)
  | _, [], _, _, _, h => by simp [txtK] at h
  | 0, _ :: _, _, _, hn, _ => by simp at hn
  | n + 1, x :: b, s, r, hn, h => by
    by_cases hx : x = 0
    · subst hx
      rcases b with _ | ⟨y, b⟩
      · simp [txtK] at h
      · simp only [txtK, if_true] at h
        split at h
        · cases h; exact ⟨by simp; omega, fun z hz => by simp [hz]⟩
        · split at h
          · obtain ⟨⟨s', r'⟩, h1, h2⟩ := Option.map_eq_some_iff.1 h
            simp only [Prod.mk.injEq] at h2
            obtain ⟨_, rfl⟩ := h2
            have := txtK_len n b s' r' (by simp only [List.length_cons] at hn; omega) h1
            exact ⟨by simp only [List.length_cons]; omega, fun z hz => by simp [this.2 z hz]⟩
          · cases h
    · rw [txtK_ne hx] at h
      obtain ⟨⟨s', r'⟩, h1, h2⟩ := Option.map_eq_some_iff.1 h
      simp only [Prod.mk.injEq] at h2
      obtain ⟨_, rfl⟩ := h2
      have := txtK_len n b s' r' (by simp only [List.length_cons] at hn; omega) h1
      exact ⟨by simp only [List.length_cons]; omega, fun z hz => by simp [this.2 z hz]⟩
theorem valK_len {b : List Int} {v : S38} {r : List Int} (h : valK b = some (v, r)) : r.length < b.length ∧ ∀ x ∈ r, x ∈ b := by
  rcases b with _ | ⟨x, b⟩
  · simp [valK] at h
  · simp only [valK] at h
    split at h
    · split at h
      · cases h
      · rename_i n r2 hq
        unfold okK at h
        split at h
        · cases h
          have := numK_len hq
          exact ⟨by simp only [List.length_cons]; omega, fun z hz => by simp [this.2 z hz]⟩
        · cases h
    · split at h
      · split at h
        · cases h
        · rename_i n r2 hq
          unfold okK at h
          split at h
          · cases h
            have := txtK_len b.length b _ _ (Nat.le_refl _) hq
            exact ⟨by simp only [List.length_cons]; omega, fun z hz => by simp [this.2 z hz]⟩
          · cases h
      · cases h
/-- The row of bytes; none: an error. -/
def decK : Nat → List Int → Option (List S38)
  | _, [] => some []
  | 0, _ :: _ => none
  | n + 1, x :: b => match valK (x :: b) with | none => none | some (v, r) => (decK n r).map (fun l => v :: l)
theorem decK_more : ∀ (n m : Nat) (b : List Int), b.length ≤ n → b.length ≤ m → decK n b = decK m b
  | n, m, [], _, _ => by cases n <;> cases m <;> rfl
  | 0, _, _ :: _, h, _ => by simp at h
  | _, 0, _ :: _, _, h => by simp at h
  | n + 1, m + 1, x :: b, h1, h2 => by
    simp only [decK]
    rcases hv : valK (x :: b) with _ | ⟨v, r⟩
    · rfl
    · have := (valK_len hv).1
      simp only
      rw [decK_more n m r (by simp only [List.length_cons] at *; omega) (by simp only [List.length_cons] at *; omega)]
def decR (b : List Int) : Option (List S38) := decK b.length b
theorem decR_nil : decR [] = some [] := rfl
theorem decR_none {b : List Int} (hb : b ≠ []) (h : valK b = none) : decR b = none := by
  rcases b with _ | ⟨x, b⟩
  · exact absurd rfl hb
  · simp only [decR, List.length_cons, decK]; rw [h]
theorem decR_some {b r : List Int} {v : S38} (h : valK b = some (v, r)) : decR b = (decR r).map (fun l => v :: l) := by
  rcases b with _ | ⟨x, b⟩
  · simp [valK] at h
  · have := (valK_len h).1
    simp only [decR, List.length_cons, decK]
    rw [h]
    simp only
    rw [decK_more b.length r.length r (by simp only [List.length_cons] at this; omega) (Nat.le_refl _)]
def DREL (w : World) (b : List Int) (gk : Nat) (v2 : Value) (rest : List Int) (acc : List S38) (A : Option Addr) (c : Nat) (wr : World) : Prop :=
  decR b = (decR rest).map (fun l => acc ++ l) ∧ RS w wr (w.heap.size + 1 + 1) rest A c ∧ wr.heap[w.heap.size]? = some (Obj.cells #[v2] 23 (0, 0)) ∧ wr.heap[w.heap.size + 1]? = some (Obj.cells #[.int .i64 0] 26 (0, 0)) ∧
    Kd.R k38 38 wr w.heap.size (fun _ => True) v2 acc ∧ rest.length ≤ gk ∧ acc.length + rest.length ≤ b.length
def KPost (w : World) (q : Option (List S38)) (e : Ending) (w' : World) : Prop :=
  ∃ v, e = .returned (.tuple #[v, .int .i64 (match q with | none => 20 | some _ => 0)]) ∧ Kd.R k38 38 w' w.heap.size (fun _ => True) v (match q with | none => [] | some l => l) ∧ Below w.heap.size w w'
theorem DREL.next {w W w9 : World} {b r2 : List Int} {gk : Nat} {acc : List S38} {v : S38} {A : Option Addr} {c : Nat} {v2 v9 : Value} (hd : decR b = (decR r2).map (fun l => (acc ++ [v]) ++ l)) (hR : RS w W (w.heap.size + 1 + 1) r2 A c) (hO : W.heap[w.heap.size]? = some (Obj.cells #[v2] 23 (0, 0))) (hE : W.heap[w.heap.size + 1]? = some (Obj.cells #[.int .i64 0] 26 (0, 0)))
    (hv : Kd.R k38 38 W w.heap.size (fun _ => True) v2 acc) (h9 : Kd.R k38 38 w9 w.heap.size (fun _ => True) v9 (acc ++ [v])) (hB : Below w.heap.size w w9) (hg : W.grownBy w9 v2.ownBlock) (hl : r2.length ≤ gk) (hl2 : (acc ++ [v]).length + r2.length ≤ b.length) :
    DREL w b gk v9 r2 (acc ++ [v]) A c (w9.setCell ⟨w.heap.size, 0, none⟩ v9) := by
  have b1 := blk_grown hO hg (Kd.R_ne hv hO (by decide))
  have b2 := blk_grown hE hg (Kd.R_ne hv hE (by decide))
  have b3 := blk_grown hR.hb hg (Kd.R_ne hv hR.hb (by decide))
  have hR9 : RS w w9 (w.heap.size + 1 + 1) r2 A c := ⟨b3, hR.hc, hR.hr, hR.gb, hB, hR.by_⟩
  exact ⟨hd, hR9.set (by omega) (Nat.le_refl _) v9, blk_put b1 0 v9 rfl, blk_far b2 (by simp) v9, Kd.R_set h9 b1 (by decide) _ _, hl, hl2⟩
theorem dec_start (w : World) (b : List Int) (A : Option Addr) (c : Nat) (hr : Kd.C (Kd.int .u8) w A b.length b) (hc : b.length ≤ c) (hb : ∀ x ∈ b, 0 ≤ x ∧ x ≤ 255) (W : World)
    (hW : W = ((w.alloc (.cells #[.slice none 0 0] 23)).alloc (.cells #[.int .i64 0] 26)).alloc (.cells #[.slice A b.length c] 42)) : DREL w b b.length (.slice none 0 0) b [] A c W := by
  subst hW
  have n1 := blk_new w (.cells #[.slice none 0 0] 23)
  have n2 := blk_new (w.alloc (.cells #[.slice none 0 0] 23)) (.cells #[.int .i64 0] 26)
  have n3 := blk_new ((w.alloc (.cells #[.slice none 0 0] 23)).alloc (.cells #[.int .i64 0] 26)) (.cells #[.slice A b.length c] 42)
  simp only [World.size_alloc] at n1 n2 n3
  exact ⟨by cases decR b <;> simp, ⟨n3, hc, hr, by omega, below_alloc (below_alloc (below_alloc (Below.refl _ w) _) _) _, hb⟩, blk_alloc (blk_alloc n1 _) _, blk_alloc n2 _, Kd.R_nil _ _ _ _ _, Nat.le_refl _, by simp⟩
set_option maxHeartbeats 8000000 in
set_option maxRecDepth 100000 in
theorem decode_any (A : Option Addr) (c : Nat) (b : List Int) (w : World) (hr : Kd.C (Kd.int .u8) w A b.length b) (hc : b.length ≤ c) (hb : ∀ x ∈ b, 0 ≤ x ∧ x ≤ 255) (hl : b.length ≤ 100000000) :
    Calls Try.prog 12 #[.slice A b.length c] w fun e w' => KPost w (decR b) e w' := by
  have hmf : ∀ (fn : Fn) (first cap : Array Value) (w : World), (Instr.makeFunc fn first cap).run Try.prog w = .ok (.func fn first cap) w := fun _ _ _ _ => rfl
  have HS := Aside0.mk (dec_start w b A c hr hc hb)
  have HL := Aside0.mk hl
  clear hr hc hb hl
  go_enter_defers Try.func12, Try.ntmps12
  go_wp2
  go_loopg [14] b.length (fun gk v14 wr => ∃ (v2 : Value) (rest : List Int) (acc : List S38) (A : Option Addr) (c : Nat), Aside0 (DREL w b gk v2 rest acc A c wr))
  case atStart => exact ⟨.slice none 0 0, b, [], A, c, ⟨HS.out _ rfl⟩⟩
  case round =>
    obtain ⟨v2, rest, acc, A, c, HX⟩ := hrel
    obtain ⟨A2, c2, rfl⟩ := Kd.R_slice HX.out.2.2.2.2.1
    have qr : wr.cell? ⟨w.heap.size + 1 + 1, 0, none⟩ = some (.slice A rest.length c) := (blk_cell HX.out.2.1.hb 0).trans rfl
    have qo : wr.cell? ⟨w.heap.size, 0, none⟩ = some (.slice A2 acc.length c2) := (blk_cell HX.out.2.2.1 0).trans rfl
    have fo := blk_frozen HX.out.2.2.1 0
    have qe : wr.cell? ⟨w.heap.size + 1, 0, none⟩ = some (.int .i64 0) := (blk_cell HX.out.2.2.2.1 0).trans rfl
    have fe := blk_frozen HX.out.2.2.2.1 0
    rcases rest with _ | ⟨x, r⟩
    · have e1 := blk_put HX.out.2.2.1 0 (.slice A2 acc.length c2) rfl
      have e2 := blk_far (p := ⟨w.heap.size, 0, none⟩) HX.out.2.2.2.1 (by simp) (.slice A2 acc.length c2)
      have e3 := blk_put e2 0 (.int .i64 0) rfl
      have e4 := blk_far (p := ⟨w.heap.size + 1, 0, none⟩) e1 (by simp) (.int .i64 0)
      have e5 := blk_put e3 0 (.int .i64 0) rfl
      have e6 := blk_far (p := ⟨w.heap.size + 1, 0, none⟩) e4 (by simp) (.int .i64 0)
      have c5 : World.cell? (World.setCell (World.setCell (World.setCell wr ⟨w.heap.size, 0, none⟩ (.slice A2 acc.length c2)) ⟨w.heap.size + 1, 0, none⟩ (.int .i64 0)) ⟨w.heap.size + 1, 0, none⟩ (.int .i64 0)) ⟨w.heap.size + 1, 0, none⟩ = some (.int .i64 0) := (blk_cell e5 0).trans rfl
      have c6 : World.cell? (World.setCell (World.setCell (World.setCell wr ⟨w.heap.size, 0, none⟩ (.slice A2 acc.length c2)) ⟨w.heap.size + 1, 0, none⟩ (.int .i64 0)) ⟨w.heap.size + 1, 0, none⟩ (.int .i64 0)) ⟨w.heap.size, 0, none⟩ = some (.slice A2 acc.length c2) := (blk_cell e6 0).trans rfl
      have HE3 := Aside0.mk e3
      have ht : ∀ q, q ∈ 38 :: k38.E → q ≠ 23 ∧ q ≠ 26 := by decide
      have HR := Aside0.mk (Kd.R_set (Kd.R_set (Kd.R_set HX.out.2.2.2.2.1 HX.out.2.2.1 (fun q hq => (ht q hq).1) 0 (.slice A2 acc.length c2)) e2 (fun q hq => (ht q hq).2) 0 (.int .i64 0)) e3 (fun q hq => (ht q hq).2) 0 (.int .i64 0))
      have HBL := Aside0.mk (((HX.out.2.1.bl.setCell (Nat.le_refl _) (p := ⟨w.heap.size, 0, none⟩) (.slice A2 acc.length c2)).setCell (p := ⟨w.heap.size + 1, 0, none⟩) (Nat.le_succ _) (.int .i64 0)).setCell (p := ⟨w.heap.size + 1, 0, none⟩) (Nat.le_succ _) (.int .i64 0))
      have HQ := Aside0.mk (show decR b = some acc by rw [HX.out.1]; simp [decR_nil])
      clear e1 e2 e3 e4 e5 e6 ht
      go_wp2
      refine leaves_cons (f := 24) (args := #[.pointer (some ⟨w.heap.size + 1, 0, none⟩), .pointer (some ⟨w.heap.size, 0, none⟩)]) (by simp) (by simp [go_sem]) ?_
      refine (catch_idle (w.heap.size + 1) w.heap.size 0 _ HE3.out).mono ?_
      rintro e u' w'' ⟨rfl, rfl, rfl⟩
      simp [Leaves, settle, results, Try.results12, go_sem, c5, c6]
      rw [HQ.out]
      exact ⟨_, rfl, HR.out, HBL.out⟩
    · have HLN := Aside0.mk (show (x :: r).length ≤ 100000000 by have h1 := HX.out.2.2.2.2.2.2; have h2 := HL.out; omega)
      have hpos : (0 : Int) < ((x :: r).length : Int) := by simp only [List.length_cons]; omega
      obtain ⟨nn, hnn⟩ : ∃ nn, nn = (x :: r).length := ⟨_, rfl⟩
      rw [← hnn] at hpos qr
      have HNN := Aside0.mk hnn
      clear hnn
      rcases hq : valK (x :: r) with _ | ⟨v, r2⟩
      · have HQ := Aside0.mk hq
        have HDN := Aside0.mk (show decR b = none by rw [HX.out.1, decR_none (by simp) hq]; rfl)
        clear hq
        go_wp2
        refine wp_region_any (by kernel_rfl) ?_
        change wpAny _ _ _ _ _ _ _ (World.drew _)
        refine wpAny_ready (rs := [0, 1]) (by kernel_rfl) (by simp) ?_
        refine AllReady.cons rfl (fun K hK => ?_) ?_
        · go_simp
          refine hK _ _ ?_
          clear hK K
          refine wpAny_ready (rs := [1]) (by kernel_rfl) (by simp) ?_
          refine AllReady.cons rfl (fun K hK => ?_) AllReady.nil
          go_simp
          refine hK _ _ ?_
          clear hK K
          refine wpAny_ready (rs := [2]) (by kernel_rfl) (by simp) ?_
          refine AllReady.cons rfl (fun K hK => ?_) AllReady.nil
          go_simp
          go_at_call 26
          refine (value_any w _ (w.heap.size + 1 + 1) (x :: r) A c (HX.out.2.1.below (below_drew (Below.refl _ _))) HLN.out).mono ?_
          rintro e w7 hh
          obtain ⟨rfl, hK, hb⟩ := GP_no hh HQ.out
          have HE7 := Aside0.mk (hK.1.blk (show wr.drew.heap[w.heap.size + 1]? = _ from HX.out.2.2.2.1) (by decide))
          have HO7 := Aside0.mk (hK.1.blk (show wr.drew.heap[w.heap.size]? = _ from HX.out.2.2.1) (by decide))
          have HE8 := Aside0.mk (blk_far (p := ⟨w.heap.size, 0, none⟩) (blk_put HE7.out 0 (.int .i64 20) rfl) (by simp) (.slice none 0 0))
          have HO8 := Aside0.mk (blk_put (blk_far (p := ⟨w.heap.size + 1, 0, none⟩) HO7.out (by simp) (.int .i64 20)) 0 (.slice none 0 0) rfl)
          have HB8 := Aside0.mk ((hb.setCell (p := ⟨w.heap.size + 1, 0, none⟩) (Nat.le_succ _) (.int .i64 20)).setCell (p := ⟨w.heap.size, 0, none⟩) (Nat.le_refl _) (.slice none 0 0))
          clear hh hK hb
          change bodyPostD Try.prog Try.f12 _ (Exit.panic PAN) _ _
          refine leaves_cons (f := 24) (args := #[.pointer (some ⟨w.heap.size + 1, 0, none⟩), .pointer (some ⟨w.heap.size, 0, none⟩)]) (by simp) (by simp [go_sem]) ?_
          refine (catch_panicking (w.heap.size + 1) w.heap.size 0 (.slice A2 acc.length c2) rfl [] _ HE7.out HO7.out).mono ?_
          rintro e u' w'' ⟨rfl, rfl, rfl⟩
          have c5 := (blk_cell HE8.out 0).trans rfl
          have c6 := (blk_cell HO8.out 0).trans rfl
          simp [Leaves, settle, results, Try.results12, go_sem, c5, c6]
          rw [HDN.out]
          exact ⟨_, rfl, Kd.R_nil _ _ _ _ _, HB8.out⟩
        refine AllReady.cons rfl (fun K hK => ?_) AllReady.nil
        go_simp
        refine hK _ _ ?_
        clear hK K
        refine wpAny_ready (rs := [0, 2]) (by kernel_rfl) (by simp) ?_
        refine AllReady.cons rfl (fun K hK => ?_) ?_
        · go_simp
          refine hK _ _ ?_
          clear hK K
          refine wpAny_ready (rs := [2]) (by kernel_rfl) (by simp) ?_
          refine AllReady.cons rfl (fun K hK => ?_) AllReady.nil
          go_simp
          go_at_call 26
          refine (value_any w _ (w.heap.size + 1 + 1) (x :: r) A c (HX.out.2.1.below (below_drew (Below.refl _ _))) HLN.out).mono ?_
          rintro e w7 hh
          obtain ⟨rfl, hK, hb⟩ := GP_no hh HQ.out
          have HE7 := Aside0.mk (hK.1.blk (show wr.drew.heap[w.heap.size + 1]? = _ from HX.out.2.2.2.1) (by decide))
          have HO7 := Aside0.mk (hK.1.blk (show wr.drew.heap[w.heap.size]? = _ from HX.out.2.2.1) (by decide))
          have HE8 := Aside0.mk (blk_far (p := ⟨w.heap.size, 0, none⟩) (blk_put HE7.out 0 (.int .i64 20) rfl) (by simp) (.slice none 0 0))
          have HO8 := Aside0.mk (blk_put (blk_far (p := ⟨w.heap.size + 1, 0, none⟩) HO7.out (by simp) (.int .i64 20)) 0 (.slice none 0 0) rfl)
          have HB8 := Aside0.mk ((hb.setCell (p := ⟨w.heap.size + 1, 0, none⟩) (Nat.le_succ _) (.int .i64 20)).setCell (p := ⟨w.heap.size, 0, none⟩) (Nat.le_refl _) (.slice none 0 0))
          clear hh hK hb
          change bodyPostD Try.prog Try.f12 _ (Exit.panic PAN) _ _
          refine leaves_cons (f := 24) (args := #[.pointer (some ⟨w.heap.size + 1, 0, none⟩), .pointer (some ⟨w.heap.size, 0, none⟩)]) (by simp) (by simp [go_sem]) ?_
          refine (catch_panicking (w.heap.size + 1) w.heap.size 0 (.slice A2 acc.length c2) rfl [] _ HE7.out HO7.out).mono ?_
          rintro e u' w'' ⟨rfl, rfl, rfl⟩
          have c5 := (blk_cell HE8.out 0).trans rfl
          have c6 := (blk_cell HO8.out 0).trans rfl
          simp [Leaves, settle, results, Try.results12, go_sem, c5, c6]
          rw [HDN.out]
          exact ⟨_, rfl, Kd.R_nil _ _ _ _ _, HB8.out⟩
        refine AllReady.cons rfl (fun K hK => ?_) AllReady.nil
        go_simp
        go_at_call 26
        refine (value_any w _ (w.heap.size + 1 + 1) (x :: r) A c (HX.out.2.1.below (below_drew (Below.refl _ _))) HLN.out).mono ?_
        rintro e w7 hh
        obtain ⟨rfl, hK, hb⟩ := GP_no hh HQ.out
        have HE7 := Aside0.mk (hK.1.blk (show wr.drew.heap[w.heap.size + 1]? = _ from HX.out.2.2.2.1) (by decide))
        have HO7 := Aside0.mk (hK.1.blk (show wr.drew.heap[w.heap.size]? = _ from HX.out.2.2.1) (by decide))
        have HE8 := Aside0.mk (blk_far (p := ⟨w.heap.size, 0, none⟩) (blk_put HE7.out 0 (.int .i64 20) rfl) (by simp) (.slice none 0 0))
        have HO8 := Aside0.mk (blk_put (blk_far (p := ⟨w.heap.size + 1, 0, none⟩) HO7.out (by simp) (.int .i64 20)) 0 (.slice none 0 0) rfl)
        have HB8 := Aside0.mk ((hb.setCell (p := ⟨w.heap.size + 1, 0, none⟩) (Nat.le_succ _) (.int .i64 20)).setCell (p := ⟨w.heap.size, 0, none⟩) (Nat.le_refl _) (.slice none 0 0))
        clear hh hK hb
        change bodyPostD Try.prog Try.f12 _ (Exit.panic PAN) _ _
        refine leaves_cons (f := 24) (args := #[.pointer (some ⟨w.heap.size + 1, 0, none⟩), .pointer (some ⟨w.heap.size, 0, none⟩)]) (by simp) (by simp [go_sem]) ?_
        refine (catch_panicking (w.heap.size + 1) w.heap.size 0 (.slice A2 acc.length c2) rfl [] _ HE7.out HO7.out).mono ?_
        rintro e u' w'' ⟨rfl, rfl, rfl⟩
        have c5 := (blk_cell HE8.out 0).trans rfl
        have c6 := (blk_cell HO8.out 0).trans rfl
        simp [Leaves, settle, results, Try.results12, go_sem, c5, c6]
        rw [HDN.out]
        exact ⟨_, rfl, Kd.R_nil _ _ _ _ _, HB8.out⟩
      · have HQ := Aside0.mk hq
        have HLE := Aside0.mk (show (acc ++ [v]).length + r2.length ≤ b.length by have h1 := HX.out.2.2.2.2.2.2; have h2 := (valK_len hq).1; simp only [List.length_append, List.length_singleton]; omega)
        have HLA := Aside0.mk (show (acc.length + 1) * 32 ≤ 140737488355328 by have h1 := HX.out.2.2.2.2.2.2; have h2 := HL.out; have h3 := (valK_len hq).1; omega)
        have HM := Aside0.mk (show r2.length < gk by have h1 := HX.out.2.2.2.2.2.1; have h2 := (valK_len hq).1; omega)
        have HD := Aside0.mk (show decR b = (decR r2).map (fun l => (acc ++ [v]) ++ l) by rw [HX.out.1, decR_some hq]; cases decR r2 <;> simp)
        clear hq
        go_wp2
        refine wp_region_noPanic ?_
        go_region_law
          (first
            | (go_simp; go_at_call 26; refine (value_any w _ (w.heap.size + 1 + 1) (x :: r) A c (HX.out.2.1.below (below_drew (Below.refl _ _))) HLN.out).mono ?_
               rintro e w7 hh
               obtain ⟨A7, c7, rfl, hR, hK⟩ := GP_yes hh HQ.out
               have HR7 := Aside0.mk hR
               have HE7 := Aside0.mk (hK.1.blk (show wr.drew.heap[w.heap.size + 1]? = _ from HX.out.2.2.2.1) (by decide))
               have HO7 := Aside0.mk (hK.1.blk (show wr.drew.heap[w.heap.size]? = _ from HX.out.2.2.1) (by decide))
               have HV7 := Aside0.mk (R_keepR (show Kd.R k38 38 wr.drew w.heap.size (fun _ => True) _ acc from HX.out.2.2.2.2.1) hK.1 (by decide))
               have q7 : w7.cell? ⟨w.heap.size, 0, none⟩ = some (.slice A2 acc.length c2) := (blk_cell HO7.out 0).trans rfl
               have q7a : ∀ o, (w7.alloc o).cell? ⟨w.heap.size, 0, none⟩ = some (.slice A2 acc.length c2) := fun o => (blk_cell (blk_alloc HO7.out o) 0).trans rfl
               clear hh hK hR)
            | (refine Kd.R_append_step (w0 := w) (W := w7) k38 w.heap.size (by rfl) (.tmp 15) (.tmp 18) 23 38 (.agg #[.int .i64 0, .int .i64 0, .string ⟨#[]⟩]) 32 rfl Try.underlying23 info38 rfl (by decide) (by decide) (.slice A2 acc.length c2) acc v [.int .i64 v.f0, .int .i64 v.f1, .string v.f2] (fun _ => True) (fun _ => False) ?x1 ?x2 ?x3 ?x4 ?x5 ?x6 ?x7 ?x8 ?x9 ?_
               case x1 => rfl
               case x2 => rfl
               case x3 => exact k38_mkM _ _ _ _
               case x4 => exact fun _ h => h.elim
               case x5 => exact fun _ _ => trivial
               case x6 => exact HV7.out
               case x7 => exact HR7.out.bl
               case x8 => exact HR7.out.bl.size
               case x9 => exact HLA.out
               intro v9 w9 hO9 hB9 hg9 hat9
               have HD9 := Aside0.mk (DREL.next HD.out HR7.out HO7.out HE7.out HV7.out hO9 hB9 hg9 (Nat.le_refl _) HLE.out)
               have HB1 := Aside0.mk (blk_grown HO7.out hg9 (Kd.R_ne HV7.out HO7.out (by decide)))
               obtain ⟨A9, c9, rfl⟩ := Kd.R_slice hO9
               have q9 : w9.cell? ⟨w.heap.size, 0, none⟩ = some (.slice A2 acc.length c2) := (blk_cell HB1.out 0).trans rfl
               have f9 := blk_frozen HB1.out 0
               simp only [List.length_append, List.length_singleton] at HD9
               clear hO9 hB9 hg9 hat9))
        all_goals
          refine NoPanic.normal ?_
          go_wp2
          go_roundg r2.length
          case measure => exact HM.out
          case rel => exact ⟨_, r2, acc ++ [v], _, _, HD9⟩
def keys_Decode.f (l0 : List Int) : Option ((List (S38)) × Int) := if l0.length ≤ 100000000 ∧ ∀ x ∈ l0, 0 ≤ x ∧ x ≤ 255 then some (match decR l0 with | none => ([], 20) | some l => (l, 0)) else none
theorem keys_Decode.calls (A0 : Option Addr) (c0 : Nat) (l0 : List Int) (r1 : List (S38)) (r2 : Int) (w : World) (hr0 : Kd.C (Kd.int .u8) w A0 l0.length l0) (hc0 : l0.length ≤ c0) (h : keys_Decode.f l0 = some (r1, r2)) :
    Calls Try.prog 12 #[.slice A0 l0.length c0] w fun e w' => ∃ v0_ : Value, e = .returned (.tuple #[v0_, .int .i64 r2]) ∧ Kd.R k38 38 w' w.heap.size (fun _ => True) v0_ r1 ∧ Below w.heap.size w w' := by
  unfold keys_Decode.f at h
  split at h
  case isFalse => cases h
  rename_i hh
  have h := Option.some.inj h
  refine (decode_any A0 c0 l0 w hr0 hc0 hh.2 hh.1).mono ?_
  intro e w' he
  unfold KPost at he
  rcases hq : decR l0 with _ | l
  · rw [hq] at he h
    cases h
    exact he
  · rw [hq] at he h
    cases h
    exact he
end Go.Proofs.Ytniihilegljgmaa.P
