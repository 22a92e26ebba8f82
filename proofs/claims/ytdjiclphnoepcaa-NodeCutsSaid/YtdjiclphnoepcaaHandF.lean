/- The contract of node.Decode, by hand: the walk. -/
import Derived.Test.YtdjiclphnoepcaaHandN
import Derived.Outline
import Derived.Deep.RegionHeld3
import Derived.Deep.AppendLies
import Derived.Deep.RegionLaw
import Derived.Deep.CutBlock
import Derived.Deep.DeepCutAuto
import Derived.Laws.EntriesVeiled
set_option linter.unusedVariables false
set_option linter.unusedSimpArgs false
namespace Go.Proofs.Ytdjiclphnoepcaa.P
open Go.RowKit Go.Proofs.YtdjiclphnoepcaaW.PrintWords Go.Proofs.YtdjiclphnoepcaaW.PrintLast Go.Proofs.YtdjiclphnoepcaaW.PrintMore Go.Proofs.YtdjiclphnoepcaaOwn
/-- What node.Decode has read. -/
structure DS where
  sh : Bool
  b : List Int
  keys : List ByteArray
  vals : List ByteArray
  kids : List Int
def nuS (n : Nat) (sh : Bool) (b : List Int) : Int × Bool × List Int := (numS (takeS n sh b).1, (takeS n sh b).2)
def txS (sh : Bool) (b : List Int) : ByteArray × Bool × List Int := (strOfNums (takeS (nuS 1 sh b).1.toNat (nuS 1 sh b).2.1 (nuS 1 sh b).2.2).1, (takeS (nuS 1 sh b).1.toNat (nuS 1 sh b).2.1 (nuS 1 sh b).2.2).2)
def keyS (d : DS) : DS := ⟨(txS d.sh d.b).2.1, (txS d.sh d.b).2.2, d.keys ++ [(txS d.sh d.b).1], d.vals, d.kids⟩
def valS (d : DS) : DS := ⟨(txS d.sh d.b).2.1, (txS d.sh d.b).2.2, d.keys, d.vals ++ [(txS d.sh d.b).1], d.kids⟩
def kidS (d : DS) : DS := ⟨(nuS 4 d.sh d.b).2.1, (nuS 4 d.sh d.b).2.2, d.keys, d.vals, d.kids ++ [(nuS 4 d.sh d.b).1]⟩
def stepS (leaf : Bool) (d : DS) : DS := if leaf then valS (keyS d) else kidS (keyS d)
def itS (leaf : Bool) : Nat → DS → DS
  | 0, d => d
  | n + 1, d => if d.sh then d else itS leaf n (stepS leaf d)
def DRel (w0 w : World) (leaf : Bool) (d : DS) : Prop := ∃ A c vK vV vI, St w0 w (w0.heap.size + 1 + 1 + 1) w0.heap.size d.sh d.b A c ∧ NSt w0 w (w0.heap.size + 1 + 1) (w0.heap.size + 1) (w0.heap.size + 1 + 1 + 1 + 1) (FB (w0.heap.size + 1 + 1 + 1) w0.heap.size) leaf d.keys d.vals d.kids vK vV vI ∧ ∀ x ∈ d.b, 0 ≤ x ∧ x ≤ 255
theorem DRel.drew {w0 w : World} {leaf : Bool} {d : DS} (h : DRel w0 w leaf d) : DRel w0 w.drew leaf d := by
  obtain ⟨A, c, vK, vV, vI, hS, hN, hb⟩ := h
  exact ⟨A, c, vK, vV, vI, hS.drew, hN.drew, hb⟩
theorem nuS_bound (n : Nat) (sh : Bool) (b : List Int) (hb : ∀ x ∈ b, 0 ≤ x ∧ x ≤ 255) : 0 ≤ (nuS n sh b).1 ∧ (nuS n sh b).1 < 256 ^ n := numS_bound n _ (takeS_in (n := n) (sh := sh) hb).2.2 (takeS_in (n := n) (sh := sh) hb).1
theorem nuS_in (n : Nat) (sh : Bool) (b : List Int) (hb : ∀ x ∈ b, 0 ≤ x ∧ x ≤ 255) : ∀ x ∈ (nuS n sh b).2.2, 0 ≤ x ∧ x ≤ 255 := (takeS_in (n := n) (sh := sh) hb).2.1
theorem txS_in (sh : Bool) (b : List Int) (hb : ∀ x ∈ b, 0 ≤ x ∧ x ≤ 255) : ∀ x ∈ (txS sh b).2.2, 0 ≤ x ∧ x ≤ 255 := (takeS_in (n := (nuS 1 sh b).1.toNat) (sh := (nuS 1 sh b).2.1) (nuS_in 1 sh b hb)).2.1
theorem start_rel (leaf : Bool) (A1 : Option Addr) (c1 : Nat) (b : List Int) (w : World) (hr : Kd.C (Kd.int .u8) w A1 b.length b) (hc : b.length ≤ c1) (hb : ∀ x ∈ b, 0 ≤ x ∧ x ≤ 255) (W : World)
    (hW : W = ((((w.alloc (.cells #[.slice A1 b.length c1] 28)).alloc (.cells (Z26 false) 26)).alloc (.cells (Z26 leaf) 26)).alloc (.cells #[.bool false] 4)).alloc (.cells #[FB (w.heap.size + 1 + 1 + 1) w.heap.size] 43)) :
    DRel w W leaf ⟨false, b, [], [], []⟩ := by
  obtain ⟨hS, hT, hN, hR⟩ := start_facts leaf A1 c1 b w hr hc W hW
  exact ⟨A1, c1, _, _, _, hS, ⟨hN, hR, hT, Kd.R_nil _ _ _ _ _, Kd.R_nil _ _ _ _ _, Kd.R_nil _ _ _ _ _, by omega, by omega⟩, hb⟩
theorem R_typed {α : Type} {d : Kd α} {e base : Nat} {w : World} {ok : Nat → Prop} {v : Value} {xs : List α} (h : d.R e w base ok v xs) : ∀ k, v.ownBlock = some k → ∃ cells, w.heap[k]? = some (.cells cells e (0, 0)) := by
  obtain ⟨_, ho⟩ := Kd.R_own h
  exact fun k hk => own_typed ho k hk
section
variable {w w8 w9 : World} {leaf sh : Bool} {b : List Int} {A : Option Addr} {c : Nat} {keys vals : List ByteArray} {kids : List Int} {vK vV vI v1 : Value}
theorem pushI_rel (hS : St w w8 (w.heap.size + 1 + 1 + 1) w.heap.size sh b A c) (hN : NSt w w8 (w.heap.size + 1 + 1) (w.heap.size + 1) (w.heap.size + 1 + 1 + 1 + 1) (FB (w.heap.size + 1 + 1 + 1) w.heap.size) leaf keys vals kids vK vV vI) (hb : ∀ x ∈ b, 0 ≤ x ∧ x ≤ 255) {x : Int}
    (hO : Kd.R (Kd.int .i64) 3 w9 w.heap.size (fun _ => True) v1 (kids ++ [x])) (hB : Below w.heap.size w w9) (hg : w8.grownBy w9 vI.ownBlock) : DRel w (w9.setCell ⟨(w.heap.size + 1 + 1), 3, none⟩ v1) leaf ⟨sh, b, keys, vals, kids ++ [x]⟩ :=
  ⟨A, c, _, _, _, hS.push hg (R_typed hN.ri) (by decide) hN.hn hN.gn hB, hN.pushI hO hg, hb⟩
theorem pushK_rel (hS : St w w8 (w.heap.size + 1 + 1 + 1) w.heap.size sh b A c) (hN : NSt w w8 (w.heap.size + 1 + 1) (w.heap.size + 1) (w.heap.size + 1 + 1 + 1 + 1) (FB (w.heap.size + 1 + 1 + 1) w.heap.size) leaf keys vals kids vK vV vI) (hb : ∀ x ∈ b, 0 ≤ x ∧ x ≤ 255) {s : ByteArray}
    (hO : Kd.R Kd.string 9 w9 w.heap.size (fun k => some k ≠ vV.ownBlock) v1 (keys ++ [s])) (hB : Below w.heap.size w w9) (hg : w8.grownBy w9 vK.ownBlock) (hat : v1.ownBlock = vK.ownBlock ∨ ∃ b, v1.ownBlock = some b ∧ w8.heap.size ≤ b) : DRel w (w9.setCell ⟨(w.heap.size + 1 + 1), 1, none⟩ v1) leaf ⟨sh, b, keys ++ [s], vals, kids⟩ :=
  ⟨A, c, _, _, _, hS.push hg (R_typed hN.rk) (by decide) hN.hn hN.gn hB, hN.pushK hO hg hat, hb⟩
theorem pushV_rel (hS : St w w8 (w.heap.size + 1 + 1 + 1) w.heap.size sh b A c) (hN : NSt w w8 (w.heap.size + 1 + 1) (w.heap.size + 1) (w.heap.size + 1 + 1 + 1 + 1) (FB (w.heap.size + 1 + 1 + 1) w.heap.size) leaf keys vals kids vK vV vI) (hb : ∀ x ∈ b, 0 ≤ x ∧ x ≤ 255) {s : ByteArray}
    (hO : Kd.R Kd.string 9 w9 w.heap.size (fun k => some k ≠ vK.ownBlock) v1 (vals ++ [s])) (hB : Below w.heap.size w w9) (hg : w8.grownBy w9 vV.ownBlock) (hat : v1.ownBlock = vV.ownBlock ∨ ∃ b, v1.ownBlock = some b ∧ w8.heap.size ≤ b) : DRel w (w9.setCell ⟨(w.heap.size + 1 + 1), 2, none⟩ v1) leaf ⟨sh, b, keys, vals ++ [s], kids⟩ :=
  ⟨A, c, _, _, _, hS.push hg (R_typed hN.rv) (by decide) hN.hn hN.gn hB, hN.pushV hO hg hat, hb⟩
end
def runS (leaf : Bool) (b : List Int) : DS := itS leaf (nuS 2 false b).1.toNat (if leaf then ⟨(nuS 2 false b).2.1, (nuS 2 false b).2.2, [], [], []⟩ else kidS ⟨(nuS 2 false b).2.1, (nuS 2 false b).2.2, [], [], []⟩)
def resS (leaf : Bool) (d : DS) : Bool × List ByteArray × List ByteArray × List Int × Int := if d.sh = false ∧ d.b = [] ∧ chk leaf d.keys d.vals d.kids = true then (leaf, d.keys, d.vals, d.kids, 0) else (false, [], [], [], 100)
def DPost (w : World) (r : Bool × List ByteArray × List ByteArray × List Int × Int) (e : Ending) (w' : World) : Prop :=
  ∃ v1_ v2_ v3_ : Value, e = .returned (.tuple #[.agg #[.bool r.1, v1_, v2_, v3_], .int .i64 r.2.2.2.2]) ∧ Kd.R Kd.string 9 w' w.heap.size (fun k_ => some k_ ≠ (v2_ : Value).ownBlock) v1_ r.2.1 ∧ Kd.R Kd.string 9 w' w.heap.size (fun k_ => some k_ ≠ (v1_ : Value).ownBlock) v2_ r.2.2.1 ∧ Kd.R (Kd.int .i64) 3 w' w.heap.size (fun _ => True) v3_ r.2.2.2.1 ∧ Below w.heap.size w w'
theorem itS_sh (leaf : Bool) : ∀ (n : Nat) (d : DS), d.sh = true → itS leaf n d = d
  | 0, _, _ => rfl
  | n + 1, d, h => by rw [itS, if_pos h]
def RES (W : World) (B : Nat) (a b c d : Value) : World := (((W.setCell ⟨B, 0, none⟩ a).setCell ⟨B, 1, none⟩ b).setCell ⟨B, 2, none⟩ c).setCell ⟨B, 3, none⟩ d
theorem res_block {W : World} {B : Nat} {x0 x1 x2 x3 : Value} (h : W.heap[B]? = some (Obj.cells #[x0, x1, x2, x3] 26 (0, 0))) (a b c d : Value) : (RES W B a b c d).heap[B]? = some (Obj.cells #[a, b, c, d] 26 (0, 0)) :=
  blk_put (blk_put (blk_put (blk_put h 0 a rfl) 1 b rfl) 2 c rfl) 3 d rfl
theorem res_R {α : Type} {dd : Kd α} {e base : Nat} {ok : Nat → Prop} {v : Value} {xs : List α} {W : World} {B : Nat} {x0 x1 x2 x3 : Value} (hr : dd.R e W base ok v xs) (h : W.heap[B]? = some (Obj.cells #[x0, x1, x2, x3] 26 (0, 0))) (ht : ∀ q, q ∈ e :: dd.E → q ≠ 26) (a b c d : Value) : dd.R e (RES W B a b c d) base ok v xs := by
  have h1 := blk_put h 0 a rfl
  have h2 := blk_put h1 1 b rfl
  have h3 := blk_put h2 2 c rfl
  exact Kd.R_set (Kd.R_set (Kd.R_set (Kd.R_set hr h ht _ _) h1 ht _ _) h2 ht _ _) h3 ht _ _
theorem res_below {w W : World} {B : Nat} (hb : Below w.heap.size w W) (h : w.heap.size ≤ B) (a b c d : Value) : Below w.heap.size w (RES W B a b c d) := (((hb.setCell h _).setCell h _).setCell h _).setCell h _
theorem fin_fail {w W : World} (h : W.heap[(w.heap.size + 1)]? = some (Obj.cells (Z26 false) 26 (0, 0))) (hb : Below w.heap.size w W) {leaf : Bool} {d : DS} (hr : ¬ (d.sh = false ∧ d.b = [] ∧ chk leaf d.keys d.vals d.kids = true)) :
    DPost w (resS leaf d) (.returned (.tuple #[.agg #[.bool false, .slice none 0 0, .slice none 0 0, .slice none 0 0], .int .i64 100])) (RES W (w.heap.size + 1) (.bool false) (.slice none 0 0) (.slice none 0 0) (.slice none 0 0)) := by
  unfold resS
  rw [if_neg hr]
  exact ⟨_, _, _, rfl, Kd.R_nil _ _ _ _ _, Kd.R_nil _ _ _ _ _, Kd.R_nil _ _ _ _ _, res_below hb (by omega) _ _ _ _⟩
theorem fin_ok {w W : World} {leaf : Bool} {d : DS} {vK vV vI : Value} (hN : NSt w W (w.heap.size + 1 + 1) (w.heap.size + 1) (w.heap.size + 1 + 1 + 1 + 1) (FB (w.heap.size + 1 + 1 + 1) w.heap.size) leaf d.keys d.vals d.kids vK vV vI) (hb : Below w.heap.size w W) (hr : d.sh = false ∧ d.b = [] ∧ chk leaf d.keys d.vals d.kids = true) :
    DPost w (resS leaf d) (.returned (.tuple #[.agg #[.bool leaf, vK, vV, vI], .int .i64 0])) (RES W (w.heap.size + 1) (.bool leaf) vK vV vI) := by
  unfold resS
  rw [if_pos hr]
  exact ⟨_, _, _, rfl, res_R hN.rk hN.hR (by intro q hq; simp [Kd.string, Kd.scalar] at hq; subst hq; decide) _ _ _ _, res_R hN.rv hN.hR (by intro q hq; simp [Kd.string, Kd.scalar] at hq; subst hq; decide) _ _ _ _, res_R hN.ri hN.hR (by intro q hq; simp [Kd.int, Kd.scalar] at hq; subst hq; decide) _ _ _ _, res_below hb (by omega) _ _ _ _⟩
def DLen (d : DS) (k : Nat) : Prop := d.keys.length ≤ k ∧ d.vals.length ≤ k ∧ d.kids.length ≤ k + 1

set_option maxHeartbeats 8000000 in
set_option maxRecDepth 100000 in
theorem dec_inner (A1 : Option Addr) (c1 : Nat) (b : List Int) (w : World) (hr : Kd.C (Kd.int .u8) w A1 b.length b) (hc : b.length ≤ c1) (hl : b.length ≤ 1000) (hb : ∀ x ∈ b, 0 ≤ x ∧ x ≤ 255) :
    Calls Try.prog 17 #[.int .i64 3, .slice A1 b.length c1] w fun e w' => DPost w (resS false (runS false b)) e w' := by
  have hu := Try.underlying26
  have SF := Aside0.mk (start_rel false A1 c1 b w hr hc hb)
  have HB := Aside0.mk hb
  clear hr hc hb
  obtain ⟨n2, hn2⟩ : ∃ n2 : Nat, (nuS 2 false b).1 = n2 := ⟨(nuS 2 false b).1.toNat, by have := nuS_bound 2 false b HB.out; omega⟩
  have N2 := Aside0.mk hn2
  clear hn2
  go_enter Try.func17, Try.ntmps17
  go_upto_region 9 with (first | (refine wp_scope_body ?_) | go_step3 | (go_at_call 26; obtain ⟨A2, c2, vK2, vV2, vI2, hS2, hN2, hb2⟩ := SF.out _ rfl; refine (number_any w _ (w.heap.size + 1 + 1 + 1) w.heap.size (w.heap.size + 1 + 1 + 1 + 1) false b A2 c2 2 (by decide) hS2 HB.out hN2.hT).mono ?_; rintro e w7 ⟨A3, c3, rfl, hS3, hK3, hz3⟩; have hN3 := hN2.keepD hK3; rw [show numS (takeS 2 false b).1 = (n2 : Int) from N2.out]; have HD := Aside0.mk (show DRel w w7 false ⟨(nuS 2 false b).2.1, (nuS 2 false b).2.2, [], [], []⟩ from ⟨A3, c3, vK2, vV2, vI2, hS3, hN3, nuS_in 2 false b HB.out⟩); have q70 : w7.cell? ⟨(w.heap.size + 1 + 1), 0, none⟩ = some (.bool false) := (blk_cell hN3.hn 0).trans rfl; clear hS2 hN2 hb2 hS3 hK3 hz3 hN3))
  go_cut [] (fun wc => Aside0 (DRel w wc false (kidS ⟨(nuS 2 false b).2.1, (nuS 2 false b).2.2, [], [], []⟩)))
  case first =>
    obtain ⟨A, c, vK, vV, vI, hS, hN, hBY⟩ := HD.out
    have HS := Aside0.mk hS
    have HN := Aside0.mk hN
    have HBY := Aside0.mk hBY
    clear hS hN hBY
    have q73 : w7.cell? ⟨(w.heap.size + 1 + 1), 3, none⟩ = some vI := (blk_cell HN.out.hn 3).trans rfl
    go_region_law
      (first
        | (go_simp; go_at_call 26; refine (number_any w _ (w.heap.size + 1 + 1 + 1) w.heap.size (w.heap.size + 1 + 1 + 1 + 1) ((nuS 2 false b).2.1) ((nuS 2 false b).2.2) A c 4 (by decide) HS.out.drew HBY.out HN.out.hT).mono ?_
           rintro e w8 ⟨A3, c3, rfl, hS8, hK8, hz8⟩
           have HS8 := Aside0.mk hS8
           have HN8 := Aside0.mk (HN.out.keepD hK8)
           have q83 : w8.cell? ⟨(w.heap.size + 1 + 1), 3, none⟩ = some vI := (blk_cell HN8.out.hn 3).trans rfl
           have q83a : ∀ o, (w8.alloc o).cell? ⟨(w.heap.size + 1 + 1), 3, none⟩ = some vI := fun o => (blk_cell (blk_alloc HN8.out.hn o) 3).trans rfl
           clear hS8 hK8 hz8)
        | (refine Kd.R_append_step (w0 := w) (Kd.int .i64) w.heap.size (by rfl) (.tmp 34) (.tmp 37) 24 3 (.int .i64 0) 8 rfl Try.underlying24 info3 rfl (by decide) (by decide) vI [] (numS (takeS 4 ((nuS 2 false b).2.1) ((nuS 2 false b).2.2)).1) [.int .i64 (numS (takeS 4 ((nuS 2 false b).2.1) ((nuS 2 false b).2.2)).1)] (fun _ => True) (fun _ => False) rfl rfl rfl (fun _ h => h.elim) (fun _ _ => trivial) HN8.out.ri HS8.out.bl HS8.out.bl.size (by decide) ?_
           intro v9 w9 hO9 hB9 hg9 hat9
           have HD9 := Aside0.mk (pushI_rel HS8.out HN8.out (nuS_in 4 _ _ HBY.out) hO9 hB9 hg9)
           have HN9 := Aside0.mk (blk_grown HN8.out.hn hg9 (Kd.R_ne HN8.out.ri HN8.out.hn (by decide)))
           obtain ⟨A9, c9, rfl⟩ := Kd.R_slice hO9
           have q93 : w9.cell? ⟨(w.heap.size + 1 + 1), 3, none⟩ = some vI := (blk_cell HN9.out 3).trans rfl
           have f93 := blk_frozen HN9.out 3
           clear hO9 hB9 hg9 hat9))
    all_goals (go_wp2; go_meet; case rel => exact HD9)
  case rest =>
    have HD := hcut
    clear hcut
    obtain ⟨d0, hd0⟩ : ∃ d0, d0 = kidS ⟨(nuS 2 false b).2.1, (nuS 2 false b).2.2, [], [], []⟩ := ⟨_, rfl⟩
    rw [← hd0] at HD
    have HL0 := Aside0.mk (show DLen d0 0 by subst hd0; exact ⟨by simp [kidS], by simp [kidS], by simp [kidS]⟩)
    have HRUN := Aside0.mk (show runS false b = itS false n2 d0 by rw [hd0, runS, N2.out]; rfl)
    clear hd0
    go_wp2_with (first | (refine wp_scope_body ?_) | go_step3)
    go_loopw [41] (fun v41 wr => ∃ (k : Nat) (d : DS), v41 = .int .i64 k ∧ k ≤ n2 ∧ Aside0 (DRel w wr false d ∧ DLen d k ∧ itS false (n2 - k) d = itS false n2 d0)) (fun v41 _ => n2 - (intOf v41).toNat)
    case atStart => exact ⟨0, d0, rfl, Nat.zero_le _, ⟨HD.out, HL0.out, rfl⟩⟩
    case round =>
      obtain ⟨k, d, rfl, hk, HX⟩ := hrel
      obtain ⟨hRel, hLen, hIt⟩ := HX.out
      obtain ⟨A, c, vK, vV, vI, hS, hN, hBY⟩ := hRel
      have HS := Aside0.mk hS
      have HN := Aside0.mk hN
      have HBY := Aside0.mk hBY
      have HLEN := Aside0.mk hLen
      have HIT := Aside0.mk hIt
      have NB := Aside0.mk (show n2 ≤ 65535 by have h1 := nuS_bound 2 false b HB.out; have h2 := N2.out; omega)
      clear hS hN hBY hLen hIt HX
      have hnb : n2 ≤ 65535 := NB.out
      obtain ⟨d_sh, d_b, d_keys, d_vals, d_kids⟩ := d
      by_cases hlt : k < n2
      · have qs : wr.cell? ⟨(w.heap.size + 1 + 1 + 1), 0, none⟩ = some (.bool d_sh) := (blk_cell HS.out.hs 0).trans rfl
        have q0 : wr.cell? ⟨(w.heap.size + 1 + 1), 0, none⟩ = some (.bool false) := (blk_cell HN.out.hn 0).trans rfl
        have q1 : wr.cell? ⟨(w.heap.size + 1 + 1), 1, none⟩ = some vK := (blk_cell HN.out.hn 1).trans rfl
        have qT : wr.cell? ⟨(w.heap.size + 1 + 1 + 1 + 1), 0, none⟩ = some (.func (Fn.func 25) #[] #[.pointer (some ⟨(w.heap.size + 1 + 1 + 1), 0, none⟩), .pointer (some ⟨w.heap.size, 0, none⟩)]) := (blk_cell HN.out.hT 0).trans rfl
        cases d_sh
        · obtain ⟨m1, hm1⟩ : ∃ m1 : Nat, (nuS 1 false d_b).1 = m1 := ⟨(nuS 1 false d_b).1.toNat, by have := nuS_bound 1 false d_b HBY.out; omega⟩
          have M1B := Aside0.mk (show m1 ≤ 255 by have := nuS_bound 1 false d_b HBY.out; omega)
          have HM1 := Aside0.mk hm1
          clear hm1
          go_upto_region 13 with (first | (refine wp_scope_body ?_) | go_step3)
          go_cut [] (fun wc => Aside0 (DRel w wc false (keyS ⟨false, d_b, d_keys, d_vals, d_kids⟩)))
          case first =>
            go_region_law
              (first
                | (go_simp; go_at_call 26; refine (number_any w _ (w.heap.size + 1 + 1 + 1) w.heap.size (w.heap.size + 1 + 1 + 1 + 1) (false) (d_b) A c 1 (by decide) HS.out.drew HBY.out HN.out.hT).mono ?_
                   rintro e w8 ⟨A3, c3, rfl, hS8, hK8, hz8⟩
                   rw [show numS (takeS 1 (false) (d_b)).1 = (m1 : Int) from HM1.out]
                   have HS8 := Aside0.mk hS8
                   have HN8 := Aside0.mk (HN.out.keepD hK8)
                   have q81 : w8.cell? ⟨(w.heap.size + 1 + 1), 1, none⟩ = some vK := (blk_cell HN8.out.hn 1).trans rfl
                   have q8T : w8.cell? ⟨(w.heap.size + 1 + 1 + 1 + 1), 0, none⟩ = some (.func (Fn.func 25) #[] #[.pointer (some ⟨(w.heap.size + 1 + 1 + 1), 0, none⟩), .pointer (some ⟨w.heap.size, 0, none⟩)]) := (blk_cell HN8.out.hT 0).trans rfl
                   clear hS8 hK8 hz8)
                | (go_simp; go_at_call 25; refine (take_any w _ (w.heap.size + 1 + 1 + 1) w.heap.size (nuS 1 (false) (d_b)).2.1 (nuS 1 (false) (d_b)).2.2 A3 c3 m1 (by have := M1B.out; omega) HS8.out).mono ?_
                   rintro e w10 ⟨A4, c4, A5, c5, rfl, hl10, hC10, hS10, hK10, hz10⟩
                   have HS10 := Aside0.mk hS10
                   have HN10 := Aside0.mk (HN8.out.keepD hK10)
                   have kc := Kd.C_string Try.underlying28 Try.underlying5 Try.underlying9 (c := c4) hC10
                   have q101 : w10.cell? ⟨(w.heap.size + 1 + 1), 1, none⟩ = some vK := (blk_cell HN10.out.hn 1).trans rfl
                   have q10a : ∀ o, (w10.alloc o).cell? ⟨(w.heap.size + 1 + 1), 1, none⟩ = some vK := fun o => (blk_cell (blk_alloc HN10.out.hn o) 1).trans rfl
                   clear hl10 hC10 hS10 hK10 hz10)
                | (refine Kd.R_append_step (w0 := w) Kd.string w.heap.size (by rfl) (.tmp 45) (.tmp 51) 23 9 (.string ⟨#[]⟩) 16 rfl Try.underlying23 info9 rfl (by decide) (by decide) vK d_keys (strOfNums (takeS m1 (nuS 1 (false) (d_b)).2.1 (nuS 1 (false) (d_b)).2.2).1) [.string (strOfNums (takeS m1 (nuS 1 (false) (d_b)).2.1 (nuS 1 (false) (d_b)).2.2).1)] (fun k => some k ≠ vV.ownBlock) (fun _ => False) ?x1 ?x2 ?x3 ?x4 ?x5 ?x6 ?x7 ?x8 ?x9 ?_
                   case x1 => rfl
                   case x2 => rfl
                   case x3 => rfl
                   case x4 => exact fun _ h => h.elim
                   case x5 => exact own_fresh HN10.out.rv
                   case x6 => exact HN10.out.rk
                   case x7 => exact HS10.out.bl
                   case x8 => exact HS10.out.bl.size
                   case x9 => (have h1 : d_keys.length ≤ k := HLEN.out.1; have h2 := NB.out; omega)
                   intro v11 w11 hO11 hB11 hg11 hat11
                   have hD := pushK_rel HS10.out HN10.out (takeS_in (n := m1) (sh := (nuS 1 (false) (d_b)).2.1) (nuS_in 1 (false) (d_b) HBY.out)).2.1 hO11 hB11 hg11 hat11
                   have HD11 := Aside0.mk hD
                   have HN11 := Aside0.mk (blk_grown HN10.out.hn hg11 (Kd.R_ne HN10.out.rk HN10.out.hn (by decide)))
                   obtain ⟨A11, c11, rfl⟩ := Kd.R_slice hO11
                   have q111 : w11.cell? ⟨(w.heap.size + 1 + 1), 1, none⟩ = some vK := (blk_cell HN11.out 1).trans rfl
                   have f11 := blk_frozen HN11.out 1
                   clear hO11 hB11 hg11 hat11 hD))
            all_goals (go_wp2; go_meet; case rel => exact ⟨by have h := HD11.out; unfold keyS txS; rw [HM1.out]; simpa using h⟩)
          case rest =>
            have HDK := hcut
            clear hcut q0 q1 qT qs
            obtain ⟨d1, hd1⟩ : ∃ d1, d1 = keyS ⟨false, d_b, d_keys, d_vals, d_kids⟩ := ⟨_, rfl⟩
            rw [← hd1] at HDK
            have hL1 : d1.vals.length ≤ k ∧ d1.kids.length ≤ k + 1 ∧ d1.keys.length ≤ k + 1 := by have h := HLEN.out; subst hd1; exact ⟨h.2.1, h.2.2, by simp only [keyS, List.length_append, List.length_singleton]; exact Nat.succ_le_succ h.1⟩
            have HL1 := Aside0.mk hL1
            have HD1 := Aside0.mk hd1
            clear hd1 hL1 HS HN HBY
            obtain ⟨A, c, vK, vV, vI, hS, hN, hBY⟩ := HDK.out
            have HS := Aside0.mk hS
            have HN := Aside0.mk hN
            have HBY := Aside0.mk hBY
            clear hS hN hBY
            have q0 : wc.cell? ⟨(w.heap.size + 1 + 1), 0, none⟩ = some (.bool false) := (blk_cell HN.out.hn 0).trans rfl
            have q3 : wc.cell? ⟨(w.heap.size + 1 + 1), 3, none⟩ = some vI := (blk_cell HN.out.hn 3).trans rfl
            go_upto_region 16 with (fail)
            go_region_law
              (first
                | (go_simp; go_at_call 26; refine (number_any w _ (w.heap.size + 1 + 1 + 1) w.heap.size (w.heap.size + 1 + 1 + 1 + 1) (d1.sh) (d1.b) A c 4 (by decide) HS.out.drew HBY.out HN.out.hT).mono ?_
                   rintro e w8 ⟨A3, c3, rfl, hS8, hK8, hz8⟩
                   have HS8 := Aside0.mk hS8
                   have HN8 := Aside0.mk (HN.out.keepD hK8)
                   have q83 : w8.cell? ⟨(w.heap.size + 1 + 1), 3, none⟩ = some vI := (blk_cell HN8.out.hn 3).trans rfl
                   have q83a : ∀ o, (w8.alloc o).cell? ⟨(w.heap.size + 1 + 1), 3, none⟩ = some vI := fun o => (blk_cell (blk_alloc HN8.out.hn o) 3).trans rfl
                   clear hS8 hK8 hz8)
                | (refine Kd.R_append_step (w0 := w) (Kd.int .i64) w.heap.size (by rfl) (.tmp 67) (.tmp 70) 24 3 (.int .i64 0) 8 rfl Try.underlying24 info3 rfl (by decide) (by decide) vI d1.kids (numS (takeS 4 (d1.sh) (d1.b)).1) [.int .i64 (numS (takeS 4 (d1.sh) (d1.b)).1)] (fun _ => True) (fun _ => False) rfl rfl rfl (fun _ h => h.elim) (fun _ _ => trivial) HN8.out.ri HS8.out.bl HS8.out.bl.size (by have h1 := HL1.out.2.1; have h2 := NB.out; omega) ?_
                   intro v9 w9 hO9 hB9 hg9 hat9
                   have HD9 := Aside0.mk (pushI_rel HS8.out HN8.out (nuS_in 4 _ _ HBY.out) hO9 hB9 hg9)
                   have HN9 := Aside0.mk (blk_grown HN8.out.hn hg9 (Kd.R_ne HN8.out.ri HN8.out.hn (by decide)))
                   obtain ⟨A9, c9, rfl⟩ := Kd.R_slice hO9
                   have q93 : w9.cell? ⟨(w.heap.size + 1 + 1), 3, none⟩ = some vI := (blk_cell HN9.out 3).trans rfl
                   have f93 := blk_frozen HN9.out 3
                   clear hO9 hB9 hg9 hat9))
            all_goals
              go_wp2
              go_roundw
              case rel => exact ⟨k + 1, kidS d1, by go_num, by omega, ⟨⟨by have h := HD9.out; simp only [List.length_append, List.length_singleton] at h; exact h, by refine ⟨HL1.out.2.2, Nat.le_succ_of_le HL1.out.1, ?_⟩; simp only [kidS, List.length_append, List.length_singleton]; exact Nat.succ_le_succ HL1.out.2.1, by have h := HIT.out; rw [show n2 - k = (n2 - (k + 1)) + 1 by omega, itS, if_neg (by simp)] at h; rw [← h, HD1.out]; rfl⟩⟩⟩
              case measure => simp [intOf]; omega
        · have p0 : wr.cell? ⟨(w.heap.size + 1), 0, none⟩ = some (.bool false) := (blk_cell HN.out.hR 0).trans rfl
          have p1 : wr.cell? ⟨(w.heap.size + 1), 1, none⟩ = some (.slice none 0 0) := (blk_cell HN.out.hR 1).trans rfl
          have p2 : wr.cell? ⟨(w.heap.size + 1), 2, none⟩ = some (.slice none 0 0) := (blk_cell HN.out.hR 2).trans rfl
          have p3 : wr.cell? ⟨(w.heap.size + 1), 3, none⟩ = some (.slice none 0 0) := (blk_cell HN.out.hR 3).trans rfl
          have z0 := blk_frozen HN.out.hR 0
          have z1 := blk_frozen HN.out.hR 1
          have z2 := blk_frozen HN.out.hR 2
          have z3 := blk_frozen HN.out.hR 3
          go_wp2
          (try simp only [Exit.inBlock, Exit.then])
          refine bodyPost_ret (results_ct rfl _ _ (w.heap.size + 1) 26 #[.bool false, .slice none 0 0, .slice none 0 0, .slice none 0 0] (0, 0) _ rfl (res_block HN.out.hR _ _ _ _) Try.underlying26 rfl (by kernel_rfl)) rfl ?_
          rw [HRUN.out, ← HIT.out, itS_sh _ _ _ rfl]
          exact fin_fail HN.out.hR HS.out.bl (by simp)
      · obtain rfl : k = n2 := by omega
        have hIT2 := HIT.out
        rw [Nat.sub_self] at hIT2
        have HIT2 := Aside0.mk hIT2
        clear hIT2
        have p0 : wr.cell? ⟨(w.heap.size + 1), 0, none⟩ = some (.bool false) := (blk_cell HN.out.hR 0).trans rfl
        have p1 : wr.cell? ⟨(w.heap.size + 1), 1, none⟩ = some (.slice none 0 0) := (blk_cell HN.out.hR 1).trans rfl
        have p2 : wr.cell? ⟨(w.heap.size + 1), 2, none⟩ = some (.slice none 0 0) := (blk_cell HN.out.hR 2).trans rfl
        have p3 : wr.cell? ⟨(w.heap.size + 1), 3, none⟩ = some (.slice none 0 0) := (blk_cell HN.out.hR 3).trans rfl
        have z0 := blk_frozen HN.out.hR 0
        have z1 := blk_frozen HN.out.hR 1
        have z2 := blk_frozen HN.out.hR 2
        have z3 := blk_frozen HN.out.hR 3
        have qs : wr.cell? ⟨(w.heap.size + 1 + 1 + 1), 0, none⟩ = some (.bool d_sh) := (blk_cell HS.out.hs 0).trans rfl
        have qb : wr.cell? ⟨w.heap.size, 0, none⟩ = some (.slice A d_b.length c) := (blk_cell HS.out.hb 0).trans rfl
        cases d_sh
        · by_cases hb0 : d_b.length = 0
          · obtain ⟨AK, cK, rfl, hcK, hCK⟩ := Kd.R_reads HN.out.rk
            obtain ⟨AV, cV, rfl, hcV, hCV⟩ := Kd.R_reads HN.out.rv
            obtain ⟨AI, cI, rfl, hcI, hCI⟩ := Kd.R_reads HN.out.ri
            have q0 : wr.cell? ⟨(w.heap.size + 1 + 1), 0, none⟩ = some (.bool false) := (blk_cell HN.out.hn 0).trans rfl
            have q1 : wr.cell? ⟨(w.heap.size + 1 + 1), 1, none⟩ = some (.slice AK d_keys.length cK) := (blk_cell HN.out.hn 1).trans rfl
            have q2 : wr.cell? ⟨(w.heap.size + 1 + 1), 2, none⟩ = some (.slice AV d_vals.length cV) := (blk_cell HN.out.hn 2).trans rfl
            have q3 : wr.cell? ⟨(w.heap.size + 1 + 1), 3, none⟩ = some (.slice AI d_kids.length cI) := (blk_cell HN.out.hn 3).trans rfl
            have HCK := Aside0.mk (And.intro hcK hCK)
            have HCV := Aside0.mk (And.intro hcV hCV)
            have HCI := Aside0.mk (And.intro hcI hCI)
            have hb1 : d_b = [] := List.eq_nil_of_length_eq_zero hb0
            have HB1 := Aside0.mk hb1
            clear hcK hCK hcV hCV hcI hCI hb1
            have hq := node_Check_eq false d_keys d_vals d_kids (by have h : d_keys.length ≤ k := HLEN.out.1; omega) (by have h : d_vals.length ≤ k := HLEN.out.2.1; omega) (by have h : d_kids.length ≤ k + 1 := HLEN.out.2.2; omega) (2 * d_keys.length + d_vals.length + d_kids.length + 3 + 1) (Nat.lt_succ_self _)
            by_cases hk2 : chk false d_keys d_vals d_kids = true
            · rw [if_pos hk2] at hq
              have HQ := Aside0.mk hq
              have HK2 := Aside0.mk hk2
              clear hq hk2
              go_wp2_with (first | (go_at_call 13; refine (node_Check.calls _ false AK cK d_keys AV cV d_vals AI cI d_kids 0 _ HCK.out.2 HCK.out.1 HCV.out.2 HCV.out.1 HCI.out.2 HCI.out.1 HQ.out).mono ?_; rintro e w1 ⟨rfl, hb⟩; have HB2 := Aside0.mk (below_step HS.out.bl hb); have HN1 := Aside0.mk (HN.out.below hb); clear hb p0 p1 p2 p3 z0 z1 z2 z3 q0 q1 q2 q3; have p0 : w1.cell? ⟨(w.heap.size + 1), 0, none⟩ = some (.bool false) := (blk_cell HN1.out.hR 0).trans rfl; have p1 : w1.cell? ⟨(w.heap.size + 1), 1, none⟩ = some (.slice none 0 0) := (blk_cell HN1.out.hR 1).trans rfl; have p2 : w1.cell? ⟨(w.heap.size + 1), 2, none⟩ = some (.slice none 0 0) := (blk_cell HN1.out.hR 2).trans rfl; have p3 : w1.cell? ⟨(w.heap.size + 1), 3, none⟩ = some (.slice none 0 0) := (blk_cell HN1.out.hR 3).trans rfl; have z0 := blk_frozen HN1.out.hR 0; have z1 := blk_frozen HN1.out.hR 1; have z2 := blk_frozen HN1.out.hR 2; have z3 := blk_frozen HN1.out.hR 3; have q0 : w1.cell? ⟨(w.heap.size + 1 + 1), 0, none⟩ = some (.bool false) := (blk_cell HN1.out.hn 0).trans rfl; have q1 : w1.cell? ⟨(w.heap.size + 1 + 1), 1, none⟩ = some (.slice AK d_keys.length cK) := (blk_cell HN1.out.hn 1).trans rfl; have q2 : w1.cell? ⟨(w.heap.size + 1 + 1), 2, none⟩ = some (.slice AV d_vals.length cV) := (blk_cell HN1.out.hn 2).trans rfl; have q3 : w1.cell? ⟨(w.heap.size + 1 + 1), 3, none⟩ = some (.slice AI d_kids.length cI) := (blk_cell HN1.out.hn 3).trans rfl))
              (try simp only [Exit.inBlock, Exit.then])
              refine bodyPost_ret (results_ct rfl _ _ (w.heap.size + 1) 26 #[.bool false, .slice AK d_keys.length cK, .slice AV d_vals.length cV, .slice AI d_kids.length cI] (0, 0) _ rfl (res_block HN1.out.hR _ _ _ _) Try.underlying26 rfl (by kernel_rfl)) rfl ?_
              rw [HRUN.out, ← HIT2.out]
              exact fin_ok (d := ⟨false, d_b, d_keys, d_vals, d_kids⟩) HN1.out HB2.out ⟨rfl, HB1.out, HK2.out⟩
            · rw [if_neg hk2] at hq
              have HQ := Aside0.mk hq
              have HK2 := Aside0.mk hk2
              clear hq hk2
              go_wp2_with (first | (go_at_call 13; refine (node_Check.calls _ false AK cK d_keys AV cV d_vals AI cI d_kids 100 _ HCK.out.2 HCK.out.1 HCV.out.2 HCV.out.1 HCI.out.2 HCI.out.1 HQ.out).mono ?_; rintro e w1 ⟨rfl, hb⟩; have HB2 := Aside0.mk (below_step HS.out.bl hb); have HN1 := Aside0.mk (HN.out.below hb); clear hb p0 p1 p2 p3 z0 z1 z2 z3 q0 q1 q2 q3; have p0 : w1.cell? ⟨(w.heap.size + 1), 0, none⟩ = some (.bool false) := (blk_cell HN1.out.hR 0).trans rfl; have p1 : w1.cell? ⟨(w.heap.size + 1), 1, none⟩ = some (.slice none 0 0) := (blk_cell HN1.out.hR 1).trans rfl; have p2 : w1.cell? ⟨(w.heap.size + 1), 2, none⟩ = some (.slice none 0 0) := (blk_cell HN1.out.hR 2).trans rfl; have p3 : w1.cell? ⟨(w.heap.size + 1), 3, none⟩ = some (.slice none 0 0) := (blk_cell HN1.out.hR 3).trans rfl; have z0 := blk_frozen HN1.out.hR 0; have z1 := blk_frozen HN1.out.hR 1; have z2 := blk_frozen HN1.out.hR 2; have z3 := blk_frozen HN1.out.hR 3; have q0 : w1.cell? ⟨(w.heap.size + 1 + 1), 0, none⟩ = some (.bool false) := (blk_cell HN1.out.hn 0).trans rfl; have q1 : w1.cell? ⟨(w.heap.size + 1 + 1), 1, none⟩ = some (.slice AK d_keys.length cK) := (blk_cell HN1.out.hn 1).trans rfl; have q2 : w1.cell? ⟨(w.heap.size + 1 + 1), 2, none⟩ = some (.slice AV d_vals.length cV) := (blk_cell HN1.out.hn 2).trans rfl; have q3 : w1.cell? ⟨(w.heap.size + 1 + 1), 3, none⟩ = some (.slice AI d_kids.length cI) := (blk_cell HN1.out.hn 3).trans rfl))
              (try simp only [Exit.inBlock, Exit.then])
              refine bodyPost_ret (results_ct rfl _ _ (w.heap.size + 1) 26 #[.bool false, .slice none 0 0, .slice none 0 0, .slice none 0 0] (0, 0) _ rfl (res_block HN1.out.hR _ _ _ _) Try.underlying26 rfl (by kernel_rfl)) rfl ?_
              rw [HRUN.out, ← HIT2.out]
              exact fin_fail HN1.out.hR HB2.out (fun h => HK2.out h.2.2)
          · go_wp2
            (try simp only [Exit.inBlock, Exit.then])
            refine bodyPost_ret (results_ct rfl _ _ (w.heap.size + 1) 26 #[.bool false, .slice none 0 0, .slice none 0 0, .slice none 0 0] (0, 0) _ rfl (res_block HN.out.hR _ _ _ _) Try.underlying26 rfl (by kernel_rfl)) rfl ?_
            rw [HRUN.out, ← HIT2.out]
            exact fin_fail HN.out.hR HS.out.bl (fun h => hb0 (by have h2 : d_b = [] := h.2.1; rw [h2]; rfl))
        · go_wp2
          (try simp only [Exit.inBlock, Exit.then])
          refine bodyPost_ret (results_ct rfl _ _ (w.heap.size + 1) 26 #[.bool false, .slice none 0 0, .slice none 0 0, .slice none 0 0] (0, 0) _ rfl (res_block HN.out.hR _ _ _ _) Try.underlying26 rfl (by kernel_rfl)) rfl ?_
          rw [HRUN.out, ← HIT2.out]
          exact fin_fail HN.out.hR HS.out.bl (by simp [itS])

end Go.Proofs.Ytdjiclphnoepcaa.P
