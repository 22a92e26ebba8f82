/- The document's parse, by hand: the walk. -/
import Derived.Test.YtdjiclphnoepcaaHandS
import Derived.Laws.EntriesVeiled
import Derived.Outline
import Derived.Deep.CutBlock
import Derived.Deep.DeepCutAuto
set_option linter.unusedVariables false
set_option linter.unusedSimpArgs false
namespace Go.Proofs.Ytdjiclphnoepcaa.P
open Go.RowKit Go.Proofs.YtdjiclphnoepcaaW.PrintWords Go.Proofs.YtdjiclphnoepcaaW.PrintLast Go.Proofs.YtdjiclphnoepcaaW.PrintMore Go.Proofs.YtdjiclphnoepcaaOwn
/-- What the walk knows of the node and of the bytes that are left. -/
def PRel (w0 w : World) (leaf : Bool) (p : PS) (A : Option Addr) (c : Nat) : Prop :=
  Kd.C (Kd.int .u8) w0 A p.b.length p.b ∧ p.b.length ≤ c ∧ (∀ x ∈ p.b, 0 ≤ x ∧ x ≤ 255) ∧ Below w0.heap.size w0 w ∧ ∃ vK vV vI, NPt w0 w (w0.heap.size + 1) w0.heap.size leaf p.keys p.vals p.kids vK vV vI
def parS (leaf : Bool) (b : List Int) : Bool × PS :=
  if b.length < 2 then (false, ⟨b, [], [], []⟩) else
    if leaf then prS leaf (rd b 0 * 256 + rd b 1).toNat ⟨b.drop 2, [], [], []⟩ else
      match kidP (b.drop 2) with
      | none => (false, ⟨b, [], [], []⟩)
      | some (k, r) => prS leaf (rd b 0 * 256 + rd b 1).toNat ⟨r, [], [], [k]⟩
def PPost (w : World) (leaf : Bool) (q : Bool × PS) (e : Ending) (w' : World) : Prop :=
  ∃ v1_ v2_ v3_ : Value, e = .returned (.tuple #[.agg #[.bool leaf, v1_, v2_, v3_], .bool (q.1 && decide (q.2.b.length = 0))]) ∧ Kd.R Kd.string 9 w' w.heap.size (fun k_ => some k_ ≠ (v2_ : Value).ownBlock) v1_ q.2.keys ∧ Kd.R Kd.string 9 w' w.heap.size (fun k_ => some k_ ≠ (v1_ : Value).ownBlock) v2_ q.2.vals ∧ Kd.R (Kd.int .i64) 3 w' w.heap.size (fun _ => True) v3_ q.2.kids ∧ Below w.heap.size w w'
theorem start_P (leaf : Bool) (w : World) (W : World) (hW : W = (w.alloc (.cells (Z26 false) 26)).alloc (.cells (Z26 leaf) 26)) : NPt w W (w.heap.size + 1) w.heap.size leaf [] [] [] (.slice none 0 0) (.slice none 0 0) (.slice none 0 0) ∧ Below w.heap.size w W := by
  subst hW
  have n1 := blk_new w (.cells (Z26 false) 26)
  have n2 := blk_new (w.alloc (.cells (Z26 false) 26)) (.cells (Z26 leaf) 26)
  rw [World.size_alloc] at n2
  exact ⟨⟨n2, blk_alloc n1 _, Kd.R_nil _ _ _ _ _, Kd.R_nil _ _ _ _ _, Kd.R_nil _ _ _ _ _, by omega, by omega⟩, below_alloc (below_alloc (Below.refl _ w) _) _⟩
theorem cut_no {w : World} {b : List Int} {A : Option Addr} {c : Nat} (hC : Kd.C (Kd.int .u8) w A b.length b) (hc : b.length ≤ c) (hb : ∀ x ∈ b, 0 ≤ x ∧ x ≤ 255) (h : cutS b = none) :
    Calls Try.prog 30 #[.slice A b.length c] w fun e w' => e = .returned (.tuple #[.string ⟨#[]⟩, .slice none 0 0, .bool false]) ∧ w = w' := by
  refine (cut_any w b A c hC hc hb).mono ?_
  rintro e w' (⟨_, h1, h2⟩ | ⟨s, r, A2, c2, hh, _⟩)
  · exact ⟨h1, h2.symm⟩
  · rw [h] at hh; cases hh
theorem cut_yes {w : World} {b : List Int} {A : Option Addr} {c : Nat} (hC : Kd.C (Kd.int .u8) w A b.length b) (hc : b.length ≤ c) (hb : ∀ x ∈ b, 0 ≤ x ∧ x ≤ 255) {s : ByteArray} {r : List Int} (h : cutS b = some (s, r)) :
    Calls Try.prog 30 #[.slice A b.length c] w fun e w' => ∃ A2 c2, e = .returned (.tuple #[.string s, .slice A2 r.length c2, .bool true]) ∧ (∀ W, Kd.C (Kd.int .u8) W A b.length b → Kd.C (Kd.int .u8) W A2 r.length r) ∧ r.length ≤ c2 ∧ w' = w.drew ∧ ∀ x ∈ r, 0 ≤ x ∧ x ≤ 255 := by
  refine (cut_any w b A c hC hc hb).mono ?_
  rintro e w' (⟨h1, _⟩ | ⟨s', r', A2, c2, hh, h2⟩)
  · rw [h] at h1; cases h1
  · rw [h] at hh; cases hh; exact ⟨A2, c2, h2⟩
theorem kid_no {w : World} {b : List Int} {A : Option Addr} {c : Nat} (hC : Kd.C (Kd.int .u8) w A b.length b) (hc : b.length ≤ c) (hb : ∀ x ∈ b, 0 ≤ x ∧ x ≤ 255) (h : kidP b = none) :
    Calls Try.prog 29 #[.slice A b.length c] w fun e w' => e = .returned (.tuple #[.int .i64 0, .slice none 0 0, .bool false]) ∧ w = w' := by
  refine (kid_any2 w b A c hC hc hb).mono ?_
  rintro e w' (⟨_, h1, h2⟩ | ⟨s, r, A2, c2, hh, _⟩)
  · exact ⟨h1, h2.symm⟩
  · rw [h] at hh; cases hh
theorem kid_yes {w : World} {b : List Int} {A : Option Addr} {c : Nat} (hC : Kd.C (Kd.int .u8) w A b.length b) (hc : b.length ≤ c) (hb : ∀ x ∈ b, 0 ≤ x ∧ x ≤ 255) {s : Int} {r : List Int} (h : kidP b = some (s, r)) :
    Calls Try.prog 29 #[.slice A b.length c] w fun e w' => ∃ A2 c2, e = .returned (.tuple #[.int .i64 s, .slice A2 r.length c2, .bool true]) ∧ (∀ W, Kd.C (Kd.int .u8) W A b.length b → Kd.C (Kd.int .u8) W A2 r.length r) ∧ r.length ≤ c2 ∧ w' = w.drew ∧ ∀ x ∈ r, 0 ≤ x ∧ x ≤ 255 := by
  refine (kid_any2 w b A c hC hc hb).mono ?_
  rintro e w' (⟨h1, _⟩ | ⟨s', r', A2, c2, hh, h2⟩)
  · rw [h] at h1; cases h1
  · rw [h] at hh; cases hh; exact ⟨A2, c2, h2⟩
def RES2 (W : World) (B : Nat) (a b c d : Value) : World := (((W.setCell ⟨B, 0, none⟩ a).setCell ⟨B, 1, none⟩ b).setCell ⟨B, 2, none⟩ c).setCell ⟨B, 3, none⟩ d
theorem fin_P {w W : World} {leaf ok : Bool} {q : Bool × PS} {vK vV vI : Value} (hN : NPt w W (w.heap.size + 1) w.heap.size leaf q.2.keys q.2.vals q.2.kids vK vV vI) (hb : Below w.heap.size w W) (hok : ok = (q.1 && decide (q.2.b.length = 0))) :
    PPost w leaf q (.returned (.tuple #[.agg #[.bool leaf, vK, vV, vI], .bool ok])) (RES W w.heap.size (.bool leaf) vK vV vI) := by
  subst hok
  exact ⟨_, _, _, rfl, res_R hN.rk hN.hR (by intro q hq; simp [Kd.string, Kd.scalar] at hq; subst hq; decide) _ _ _ _, res_R hN.rv hN.hR (by intro q hq; simp [Kd.string, Kd.scalar] at hq; subst hq; decide) _ _ _ _, res_R hN.ri hN.hR (by intro q hq; simp [Kd.int, Kd.scalar] at hq; subst hq; decide) _ _ _ _, res_below hb (Nat.le_refl _) _ _ _ _⟩
def PLen (p : PS) (k : Nat) : Prop := p.keys.length ≤ k ∧ p.vals.length ≤ k ∧ p.kids.length ≤ k + 1
set_option maxHeartbeats 8000000 in
set_option maxRecDepth 100000 in
theorem parse_leaf (A : Option Addr) (c : Nat) (b : List Int) (w : World) (hC : Kd.C (Kd.int .u8) w A b.length b) (hc : b.length ≤ c) (hb : ∀ x ∈ b, 0 ≤ x ∧ x ≤ 255) (h2 : 2 ≤ b.length) :
    Calls Try.prog 27 #[.bool true, .slice A b.length c] w fun e w' => PPost w true (parS true b) e w' := by
  have hu := Try.underlying26
  obtain ⟨i0, hi, hzz⟩ := Option.map_eq_some_iff.1 info5
  simp only [Prod.mk.injEq] at hzz
  obtain ⟨_, hz1, _⟩ := hzz
  obtain ⟨ad, rfl, y0⟩ := at_u8 hC 0 (by omega)
  obtain ⟨ad1, e1, y1⟩ := at_u8 hC 1 (by omega)
  cases e1
  obtain ⟨A2, hA2⟩ : ∃ A2, A2 = (if c = 2 then some ad else (some ad : Option Addr).map (·.add (2 * 1))) := ⟨_, rfl⟩
  have k2 : ∀ W : World, (Instr.slice 28 (.slice (some ad) b.length c) (some (.int .i64 2)) none none).run Try.prog W = .ok (.slice A2 (b.length - 2) (c - 2)) W := fun W => by
    rw [hA2]; simpa using cut_from (P := Try.prog) 28 5 .i64 Try.underlying28 hi 1 hz1 (some ad) b.length c (2 : Int) (by omega) (by omega) W
  have hB : ∀ j : Nat, j < b.length → 0 ≤ rd b j ∧ rd b j ≤ 255 := fun j hj => hb _ (by rw [rd_nat, List.getD_eq_getElem?_getD, List.getElem?_eq_getElem hj]; exact List.getElem_mem hj)
  have b0 := hB 0 (by omega)
  have b1 := hB 1 (by omega)
  have HD := Aside0.mk (show Kd.C (Kd.int .u8) w A2 (b.drop 2).length (b.drop 2) by rw [hA2]; exact Kd.C_drop hC h2 hc)
  have HB2 := Aside0.mk (show ∀ x ∈ b.drop 2, 0 ≤ x ∧ x ≤ 255 from fun x hx => hb x (List.mem_of_mem_drop hx))
  have hl2 : (b.drop 2).length = b.length - 2 := List.length_drop
  have hlc : (b.drop 2).length ≤ c - 2 := by omega
  have HLC := Aside0.mk hlc
  have HL2 := Aside0.mk hl2
  simp only [Int.ofNat_zero, Int.ofNat_one, Int.cast_ofNat_Int] at y0 y1 b0 b1
  obtain ⟨x0, hx0⟩ : ∃ x0, x0 = rd b 0 := ⟨_, rfl⟩
  obtain ⟨x1, hx1⟩ : ∃ x1, x1 = rd b 1 := ⟨_, rfl⟩
  rw [← hx0] at y0 b0
  rw [← hx1] at y1 b1
  obtain ⟨b00, b01⟩ := b0
  obtain ⟨b10, b11⟩ := b1
  have HX := Aside0.mk (And.intro hx0 hx1)
  have l0 : 0 < b.length := by omega
  have l1 : 1 < b.length := by omega
  have z0 : w.cell? ad = some (.int .u8 x0) := by have h := y0; simpa [Addr.add] using h
  have z1 : w.cell? ⟨ad.block, ad.off + 1, none⟩ = some (.int .u8 x1) := by have h := y1; simpa [Addr.add] using h
  have FZ := Aside0.mk (start_P true w)
  have lt0 : ad.block < w.heap.size := World.block_lt_of_cell? _ _ z0
  have za : ∀ o o', ((w.alloc o).alloc o').cell? ad = some (.int .u8 x0) := fun o o' => (World.cell?_alloc_lt _ _ _ (by rw [World.size_alloc]; omega)).trans ((World.cell?_alloc_lt _ _ _ lt0).trans z0)
  have zb : ∀ o o', ((w.alloc o).alloc o').cell? ⟨ad.block, ad.off + 1, none⟩ = some (.int .u8 x1) := fun o o' => (World.cell?_alloc_lt _ _ _ (by rw [World.size_alloc]; show ad.block < _; omega)).trans ((World.cell?_alloc_lt w o ⟨ad.block, ad.off + 1, none⟩ lt0).trans z1)
  obtain ⟨n, hn⟩ : ∃ n : Nat, x0 * 256 + x1 = n := ⟨(x0 * 256 + x1).toNat, by omega⟩
  have NB := Aside0.mk (show n ≤ 65535 by omega)
  have HNN := Aside0.mk hn
  clear y0 y1 hB hA2 hC hb hi hz1 hx0 hx1 hl2 hlc
  go_enter Try.func27, Try.ntmps27
  go_wp2_with (first | (refine wp_scope_body ?_) | go_step3)
  go_region
  go_wp2_with (first | (refine wp_scope_body ?_) | go_step3)
  obtain ⟨p0, hp0⟩ : ∃ p0 : PS, p0 = ⟨b.drop 2, [], [], []⟩ := ⟨_, rfl⟩
  have HP0 := Aside0.mk hp0
  have HPAR := Aside0.mk (show parS true b = prS true n p0 by rw [hp0, parS, if_neg (by omega), if_pos rfl, ← HX.out.1, ← HX.out.2, HNN.out]; simp)
  clear hp0
  go_loopw [1, 11] (fun v1 v11 wr => ∃ (k : Nat) (p : PS) (A : Option Addr) (c : Nat), v1 = .slice A p.b.length c ∧ v11 = .int .i64 k ∧ k ≤ n ∧ Aside0 (PRel w wr true p A c ∧ PLen p k ∧ prS true (n - k) p = prS true n p0)) (fun _ v11 _ => n - (intOf v11).toNat)
  case atStart => exact ⟨0, ⟨b.drop 2, [], [], []⟩, A2, c - 2, by rw [HL2.out], rfl, Nat.zero_le _, ⟨⟨HD.out, HLC.out, HB2.out, below_drew1 (FZ.out _ rfl).2, _, _, _, (FZ.out _ rfl).1.drew⟩, ⟨Nat.zero_le _, Nat.zero_le _, Nat.zero_le _⟩, by rw [HP0.out]; rfl⟩⟩
  case round =>
    obtain ⟨k, p, A, c, rfl, rfl, hk, HX⟩ := hrel
    obtain ⟨⟨hC0, hcc, hBY, hBl, vK, vV, vI, hN⟩, hLen, hIt⟩ := HX.out
    have hnb : n ≤ 65535 := NB.out
    obtain ⟨p_b, p_keys, p_vals, p_kids⟩ := p
    have HC0 := Aside0.mk hC0
    have HCC := Aside0.mk hcc
    have HBY := Aside0.mk hBY
    have HBL := Aside0.mk hBl
    have HN := Aside0.mk hN
    have HLEN := Aside0.mk hLen
    have HIT := Aside0.mk hIt
    clear hC0 hcc hBY hBl hN hLen hIt HX
    by_cases hlt : k < n
    · obtain ⟨m, hm⟩ : ∃ m, n - k = m + 1 := ⟨n - k - 1, by omega⟩
      have HM := Aside0.mk hm
      clear hm
      obtain ⟨AK, cK, rfl⟩ := Kd.R_slice HN.out.rk
      obtain ⟨AV, cV, rfl⟩ := Kd.R_slice HN.out.rv
      obtain ⟨AI, cI, rfl⟩ := Kd.R_slice HN.out.ri
      have TOK7 : True := trivial
      have TOK11 : True := trivial
      rcases hcu : cutS p_b with _ | ⟨s, r⟩
      · have HROUND := Aside0.mk (show roundS true ⟨p_b, p_keys, p_vals, p_kids⟩ = (false, ⟨p_b, p_keys, p_vals, p_kids⟩) by simp only [roundS]; rw [hcu])
        have HCU := Aside0.mk hcu
        clear hcu
        have q0 : wr.cell? ⟨(w.heap.size + 1), 0, none⟩ = some (.bool true) := (blk_cell HN.out.hn 0).trans rfl
        have q1 : wr.cell? ⟨(w.heap.size + 1), 1, none⟩ = some ((.slice AK p_keys.length cK)) := (blk_cell HN.out.hn 1).trans rfl
        have q2 : wr.cell? ⟨(w.heap.size + 1), 2, none⟩ = some ((.slice AV p_vals.length cV)) := (blk_cell HN.out.hn 2).trans rfl
        have q3 : wr.cell? ⟨(w.heap.size + 1), 3, none⟩ = some ((.slice AI p_kids.length cI)) := (blk_cell HN.out.hn 3).trans rfl
        have pr0 : wr.cell? ⟨w.heap.size, 0, none⟩ = some (.bool false) := (blk_cell HN.out.hR 0).trans rfl
        have pf0 := blk_frozen HN.out.hR 0
        have pr1 : wr.cell? ⟨w.heap.size, 1, none⟩ = some (.slice none 0 0) := (blk_cell HN.out.hR 1).trans rfl
        have pf1 := blk_frozen HN.out.hR 1
        have pr2 : wr.cell? ⟨w.heap.size, 2, none⟩ = some (.slice none 0 0) := (blk_cell HN.out.hR 2).trans rfl
        have pf2 := blk_frozen HN.out.hR 2
        have pr3 : wr.cell? ⟨w.heap.size, 3, none⟩ = some (.slice none 0 0) := (blk_cell HN.out.hR 3).trans rfl
        have pf3 := blk_frozen HN.out.hR 3
        go_wp2_with (first | (go_at_call 30; refine (cut_no (Kd.C_below HC0.out HBL.out) HCC.out HBY.out HCU.out).mono ?_; rintro e w7 ⟨rfl, rfl⟩))
        (try simp only [Exit.inBlock, Exit.then])
        refine bodyPost_ret (results_ct rfl _ _ w.heap.size 26 #[.bool true, (.slice AK p_keys.length cK), (.slice AV p_vals.length cV), (.slice AI p_kids.length cI)] (0, 0) _ rfl (res_block HN.out.hR _ _ _ _) Try.underlying26 rfl (by kernel_rfl)) rfl ?_
        rw [HPAR.out, ← HIT.out, HM.out, prS, if_neg (by rw [HROUND.out]; simp), HROUND.out]
        exact fin_P (q := (false, ⟨p_b, p_keys, p_vals, p_kids⟩)) HN.out HBL.out (by simp)
      · rcases hcv : cutS r with _ | ⟨v, r2⟩
        · have HROUND := Aside0.mk (show roundS true ⟨p_b, p_keys, p_vals, p_kids⟩ = (false, ⟨p_b, p_keys ++ [s], p_vals, p_kids⟩) by simp only [roundS]; rw [hcu]; simp [entS, hcv])
          have HCU := Aside0.mk hcu
          have HCV := Aside0.mk hcv
          clear hcu hcv
          go_wp2_with
            (first
              | (go_at_call 30; guard_hyp TOK7; refine (cut_yes (Kd.C_below HC0.out HBL.out) HCC.out HBY.out HCU.out).mono ?_
                 rintro e w7 ⟨A7, c7, rfl, hC2, hc2, hw7, hBY2⟩
                 have HN7 := Aside0.mk (show NPt w w7 (w.heap.size + 1) w.heap.size true p_keys p_vals p_kids (.slice AK p_keys.length cK) (.slice AV p_vals.length cV) (.slice AI p_kids.length cI) by rw [hw7]; exact HN.out.drew)
                 have HB7 := Aside0.mk (show Below w.heap.size w w7 by rw [hw7]; exact below_drew1 HBL.out)
                 have HC7 := Aside0.mk (hC2 _ HC0.out)
                 have HCC7 := Aside0.mk hc2
                 have HBY7 := Aside0.mk hBY2
                 have q71 : w7.cell? ⟨(w.heap.size + 1), 1, none⟩ = some (.slice AK p_keys.length cK) := (blk_cell HN7.out.hn 1).trans rfl
                 clear hC2 hc2 hw7 hBY2 TOK7)
              | (at_builtin; guard_hyp HCC7; refine Kd.R_append (w0 := w) (W := w7) Kd.string w.heap.size ?x1 (.tmp 72) (.tmp 74) 23 9 (.string ⟨#[]⟩) 16 ?x2 Try.underlying23 info9 rfl (by decide) (by decide) (.slice AK p_keys.length cK) p_keys s [.string s] (fun k => some k ≠ (Value.ownBlock (.slice AV p_vals.length cV))) (fun _ => False) ?x3 ?x4 ?x5 ?x6 ?x7 ?x8 ?x9 ?x10 ?x11 ?_
                 case x1 => rfl
                 case x2 => rfl
                 case x3 => rfl
                 case x4 => rfl
                 case x5 => rfl
                 case x6 => exact fun _ h => h.elim
                 case x7 => exact own_fresh HN7.out.rv
                 case x8 => exact HN7.out.rk
                 case x9 => exact HB7.out
                 case x10 => exact HB7.out.size
                 case x11 => (have h1 : p_keys.length ≤ k := HLEN.out.1; omega)
                 intro v9 w9 hO9 hB9 hg9 hat9
                 have HN9 := Aside0.mk (HN7.out.pushK hO9 hg9 hat9)
                 have HX9 := Aside0.mk (blk_grown HN7.out.hn hg9 (Kd.R_ne HN7.out.rk HN7.out.hn (by decide)))
                 have HB9 := Aside0.mk (hB9.setCell HN7.out.gn (p := ⟨(w.heap.size + 1), 1, none⟩) v9)
                 obtain ⟨A9, c9, rfl⟩ := Kd.R_slice hO9
                 have q9 : w9.cell? ⟨(w.heap.size + 1), 1, none⟩ = some (.slice AK p_keys.length cK) := (blk_cell HX9.out 1).trans rfl
                 have f9 := blk_frozen HX9.out 1
                 simp only [List.length_append, List.length_singleton] at HN9 HB9
                 clear hO9 hB9 hg9 hat9
                 have q90 : (w9.setCell ⟨(w.heap.size + 1), 1, none⟩ (.slice A9 (p_keys.length + 1) c9)).cell? ⟨(w.heap.size + 1), 0, none⟩ = some (.bool true) := (blk_cell HN9.out.hn 0).trans rfl
                 have q91 : (w9.setCell ⟨(w.heap.size + 1), 1, none⟩ (.slice A9 (p_keys.length + 1) c9)).cell? ⟨(w.heap.size + 1), 1, none⟩ = some ((.slice A9 (p_keys.length + 1) c9)) := (blk_cell HN9.out.hn 1).trans rfl
                 have q92 : (w9.setCell ⟨(w.heap.size + 1), 1, none⟩ (.slice A9 (p_keys.length + 1) c9)).cell? ⟨(w.heap.size + 1), 2, none⟩ = some ((.slice AV p_vals.length cV)) := (blk_cell HN9.out.hn 2).trans rfl
                 have q93 : (w9.setCell ⟨(w.heap.size + 1), 1, none⟩ (.slice A9 (p_keys.length + 1) c9)).cell? ⟨(w.heap.size + 1), 3, none⟩ = some ((.slice AI p_kids.length cI)) := (blk_cell HN9.out.hn 3).trans rfl
                 have p9r0 : (w9.setCell ⟨(w.heap.size + 1), 1, none⟩ (.slice A9 (p_keys.length + 1) c9)).cell? ⟨w.heap.size, 0, none⟩ = some (.bool false) := (blk_cell HN9.out.hR 0).trans rfl
                 have p9f0 := blk_frozen HN9.out.hR 0
                 have p9r1 : (w9.setCell ⟨(w.heap.size + 1), 1, none⟩ (.slice A9 (p_keys.length + 1) c9)).cell? ⟨w.heap.size, 1, none⟩ = some (.slice none 0 0) := (blk_cell HN9.out.hR 1).trans rfl
                 have p9f1 := blk_frozen HN9.out.hR 1
                 have p9r2 : (w9.setCell ⟨(w.heap.size + 1), 1, none⟩ (.slice A9 (p_keys.length + 1) c9)).cell? ⟨w.heap.size, 2, none⟩ = some (.slice none 0 0) := (blk_cell HN9.out.hR 2).trans rfl
                 have p9f2 := blk_frozen HN9.out.hR 2
                 have p9r3 : (w9.setCell ⟨(w.heap.size + 1), 1, none⟩ (.slice A9 (p_keys.length + 1) c9)).cell? ⟨w.heap.size, 3, none⟩ = some (.slice none 0 0) := (blk_cell HN9.out.hR 3).trans rfl
                 have p9f3 := blk_frozen HN9.out.hR 3)
              | (go_at_call 30; guard_hyp HN9; refine (cut_no (Kd.C_below HC7.out HB9.out) HCC7.out HBY7.out HCV.out).mono ?_
                 rintro e w10 ⟨rfl, rfl⟩))
          (try simp only [Exit.inBlock, Exit.then])
          refine bodyPost_ret (results_ct rfl _ _ w.heap.size 26 #[.bool true, (.slice A9 (p_keys.length + 1) c9), (.slice AV p_vals.length cV), (.slice AI p_kids.length cI)] (0, 0) _ rfl (res_block HN9.out.hR _ _ _ _) Try.underlying26 rfl (by kernel_rfl)) rfl ?_
          rw [HPAR.out, ← HIT.out, HM.out, prS, if_neg (by rw [HROUND.out]; simp), HROUND.out]
          exact fin_P (q := (false, ⟨p_b, p_keys ++ [s], p_vals, p_kids⟩)) HN9.out HB9.out (by simp)
        · have HROUND := Aside0.mk (show roundS true ⟨p_b, p_keys, p_vals, p_kids⟩ = (true, ⟨r2, p_keys ++ [s], p_vals ++ [v], p_kids⟩) by simp only [roundS]; rw [hcu]; simp [entS, hcv])
          have HCU := Aside0.mk hcu
          have HCV := Aside0.mk hcv
          clear hcu hcv
          go_wp2_with
            (first
              | (go_at_call 30; guard_hyp TOK7; refine (cut_yes (Kd.C_below HC0.out HBL.out) HCC.out HBY.out HCU.out).mono ?_
                 rintro e w7 ⟨A7, c7, rfl, hC2, hc2, hw7, hBY2⟩
                 have HN7 := Aside0.mk (show NPt w w7 (w.heap.size + 1) w.heap.size true p_keys p_vals p_kids (.slice AK p_keys.length cK) (.slice AV p_vals.length cV) (.slice AI p_kids.length cI) by rw [hw7]; exact HN.out.drew)
                 have HB7 := Aside0.mk (show Below w.heap.size w w7 by rw [hw7]; exact below_drew1 HBL.out)
                 have HC7 := Aside0.mk (hC2 _ HC0.out)
                 have HCC7 := Aside0.mk hc2
                 have HBY7 := Aside0.mk hBY2
                 have q71 : w7.cell? ⟨(w.heap.size + 1), 1, none⟩ = some (.slice AK p_keys.length cK) := (blk_cell HN7.out.hn 1).trans rfl
                 clear hC2 hc2 hw7 hBY2 TOK7)
              | (at_builtin; guard_hyp HCC7; refine Kd.R_append (w0 := w) (W := w7) Kd.string w.heap.size ?x1 (.tmp 72) (.tmp 74) 23 9 (.string ⟨#[]⟩) 16 ?x2 Try.underlying23 info9 rfl (by decide) (by decide) (.slice AK p_keys.length cK) p_keys s [.string s] (fun k => some k ≠ (Value.ownBlock (.slice AV p_vals.length cV))) (fun _ => False) ?x3 ?x4 ?x5 ?x6 ?x7 ?x8 ?x9 ?x10 ?x11 ?_
                 case x1 => rfl
                 case x2 => rfl
                 case x3 => rfl
                 case x4 => rfl
                 case x5 => rfl
                 case x6 => exact fun _ h => h.elim
                 case x7 => exact own_fresh HN7.out.rv
                 case x8 => exact HN7.out.rk
                 case x9 => exact HB7.out
                 case x10 => exact HB7.out.size
                 case x11 => (have h1 : p_keys.length ≤ k := HLEN.out.1; omega)
                 intro v9 w9 hO9 hB9 hg9 hat9
                 have HN9 := Aside0.mk (HN7.out.pushK hO9 hg9 hat9)
                 have HX9 := Aside0.mk (blk_grown HN7.out.hn hg9 (Kd.R_ne HN7.out.rk HN7.out.hn (by decide)))
                 have HB9 := Aside0.mk (hB9.setCell HN7.out.gn (p := ⟨(w.heap.size + 1), 1, none⟩) v9)
                 obtain ⟨A9, c9, rfl⟩ := Kd.R_slice hO9
                 have q9 : w9.cell? ⟨(w.heap.size + 1), 1, none⟩ = some (.slice AK p_keys.length cK) := (blk_cell HX9.out 1).trans rfl
                 have f9 := blk_frozen HX9.out 1
                 simp only [List.length_append, List.length_singleton] at HN9 HB9
                 clear hO9 hB9 hg9 hat9)
              | (go_at_call 30; guard_hyp HN9; refine (cut_yes (Kd.C_below HC7.out HB9.out) HCC7.out HBY7.out HCV.out).mono ?_
                 rintro e w11 ⟨A11, c11, rfl, hC2, hc2, hw7, hBY2⟩
                 have HN11 := Aside0.mk (show NPt w w11 (w.heap.size + 1) w.heap.size true (p_keys ++ [s]) p_vals p_kids (.slice A9 (p_keys.length + 1) c9) (.slice AV p_vals.length cV) (.slice AI p_kids.length cI) by rw [hw7]; exact HN9.out.drew)
                 have HB11 := Aside0.mk (show Below w.heap.size w w11 by rw [hw7]; exact below_drew1 HB9.out)
                 have HC11 := Aside0.mk (hC2 _ HC7.out)
                 have HCC11 := Aside0.mk hc2
                 have HBY11 := Aside0.mk hBY2
                 have q111 : w11.cell? ⟨(w.heap.size + 1), 2, none⟩ = some (.slice AV p_vals.length cV) := (blk_cell HN11.out.hn 2).trans rfl
                 clear hC2 hc2 hw7 hBY2 TOK11)
              | (at_builtin; guard_hyp HCC11; refine Kd.R_append (w0 := w) (W := w11) Kd.string w.heap.size ?x1 (.tmp 88) (.tmp 90) 23 9 (.string ⟨#[]⟩) 16 ?x2 Try.underlying23 info9 rfl (by decide) (by decide) (.slice AV p_vals.length cV) p_vals v [.string v] (fun k => some k ≠ (Value.ownBlock (.slice A9 (p_keys.length + 1) c9))) (fun _ => False) ?x3 ?x4 ?x5 ?x6 ?x7 ?x8 ?x9 ?x10 ?x11 ?_
                 case x1 => rfl
                 case x2 => rfl
                 case x3 => rfl
                 case x4 => rfl
                 case x5 => rfl
                 case x6 => exact fun _ h => h.elim
                 case x7 => exact own_fresh HN11.out.rk
                 case x8 => exact HN11.out.rv
                 case x9 => exact HB11.out
                 case x10 => exact HB11.out.size
                 case x11 => (have h1 : p_vals.length ≤ k := HLEN.out.2.1; omega)
                 intro v13 w13 hO13 hB13 hg13 hat13
                 have HN13 := Aside0.mk (HN11.out.pushV hO13 hg13 hat13)
                 have HX13 := Aside0.mk (blk_grown HN11.out.hn hg13 (Kd.R_ne HN11.out.rv HN11.out.hn (by decide)))
                 have HB13 := Aside0.mk (hB13.setCell HN11.out.gn (p := ⟨(w.heap.size + 1), 2, none⟩) v13)
                 obtain ⟨A13, c13, rfl⟩ := Kd.R_slice hO13
                 have q13 : w13.cell? ⟨(w.heap.size + 1), 2, none⟩ = some (.slice AV p_vals.length cV) := (blk_cell HX13.out 2).trans rfl
                 have f13 := blk_frozen HX13.out 2
                 simp only [List.length_append, List.length_singleton] at HN13 HB13
                 clear hO13 hB13 hg13 hat13))
          go_roundw
          case rel => exact ⟨k + 1, ⟨r2, p_keys ++ [s], p_vals ++ [v], p_kids⟩, A11, c11, rfl, by go_num, by omega, ⟨⟨⟨HC11.out, HCC11.out, HBY11.out, HB13.out, _, _, _, HN13.out⟩, ⟨by have h1 := HLEN.out.1; simpa using h1, by have h1 := HLEN.out.2.1; simpa using h1, by have h1 := HLEN.out.2.2; exact Nat.le_succ_of_le h1⟩, by have h := HIT.out; rw [show n - k = (n - (k + 1)) + 1 by omega, prS, if_pos (by rw [HROUND.out]), HROUND.out] at h; exact h⟩⟩⟩
          case measure => simp [intOf]; omega
    · obtain rfl : k = n := by omega
      obtain ⟨AK, cK, rfl⟩ := Kd.R_slice HN.out.rk
      obtain ⟨AV, cV, rfl⟩ := Kd.R_slice HN.out.rv
      obtain ⟨AI, cI, rfl⟩ := Kd.R_slice HN.out.ri
      have q0 : wr.cell? ⟨(w.heap.size + 1), 0, none⟩ = some (.bool true) := (blk_cell HN.out.hn 0).trans rfl
      have q1 : wr.cell? ⟨(w.heap.size + 1), 1, none⟩ = some ((.slice AK p_keys.length cK)) := (blk_cell HN.out.hn 1).trans rfl
      have q2 : wr.cell? ⟨(w.heap.size + 1), 2, none⟩ = some ((.slice AV p_vals.length cV)) := (blk_cell HN.out.hn 2).trans rfl
      have q3 : wr.cell? ⟨(w.heap.size + 1), 3, none⟩ = some ((.slice AI p_kids.length cI)) := (blk_cell HN.out.hn 3).trans rfl
      have pr0 : wr.cell? ⟨w.heap.size, 0, none⟩ = some (.bool false) := (blk_cell HN.out.hR 0).trans rfl
      have pf0 := blk_frozen HN.out.hR 0
      have pr1 : wr.cell? ⟨w.heap.size, 1, none⟩ = some (.slice none 0 0) := (blk_cell HN.out.hR 1).trans rfl
      have pf1 := blk_frozen HN.out.hR 1
      have pr2 : wr.cell? ⟨w.heap.size, 2, none⟩ = some (.slice none 0 0) := (blk_cell HN.out.hR 2).trans rfl
      have pf2 := blk_frozen HN.out.hR 2
      have pr3 : wr.cell? ⟨w.heap.size, 3, none⟩ = some (.slice none 0 0) := (blk_cell HN.out.hR 3).trans rfl
      have pf3 := blk_frozen HN.out.hR 3
      go_wp2
      (try simp only [Exit.inBlock, Exit.then])
      refine bodyPost_ret (results_ct rfl _ _ w.heap.size 26 #[.bool true, (.slice AK p_keys.length cK), (.slice AV p_vals.length cV), (.slice AI p_kids.length cI)] (0, 0) _ rfl (res_block HN.out.hR _ _ _ _) Try.underlying26 rfl (by kernel_rfl)) rfl ?_
      have h := HIT.out
      rw [Nat.sub_self] at h
      rw [HPAR.out, ← h]
      exact fin_P (q := (true, ⟨p_b, p_keys, p_vals, p_kids⟩)) HN.out HBL.out (by rw [Bool.eq_iff_iff]; simp)
set_option maxHeartbeats 8000000 in
set_option maxRecDepth 100000 in
theorem parse_inner (A : Option Addr) (c : Nat) (b : List Int) (w : World) (hC : Kd.C (Kd.int .u8) w A b.length b) (hc : b.length ≤ c) (hb : ∀ x ∈ b, 0 ≤ x ∧ x ≤ 255) (h2 : 2 ≤ b.length) :
    Calls Try.prog 27 #[.bool false, .slice A b.length c] w fun e w' => PPost w false (parS false b) e w' := by
  have hu := Try.underlying26
  obtain ⟨i0, hi, hzz⟩ := Option.map_eq_some_iff.1 info5
  simp only [Prod.mk.injEq] at hzz
  obtain ⟨_, hz1, _⟩ := hzz
  obtain ⟨ad, rfl, y0⟩ := at_u8 hC 0 (by omega)
  obtain ⟨ad1, e1, y1⟩ := at_u8 hC 1 (by omega)
  cases e1
  obtain ⟨A2, hA2⟩ : ∃ A2, A2 = (if c = 2 then some ad else (some ad : Option Addr).map (·.add (2 * 1))) := ⟨_, rfl⟩
  have k2 : ∀ W : World, (Instr.slice 28 (.slice (some ad) b.length c) (some (.int .i64 2)) none none).run Try.prog W = .ok (.slice A2 (b.length - 2) (c - 2)) W := fun W => by
    rw [hA2]; simpa using cut_from (P := Try.prog) 28 5 .i64 Try.underlying28 hi 1 hz1 (some ad) b.length c (2 : Int) (by omega) (by omega) W
  have hB : ∀ j : Nat, j < b.length → 0 ≤ rd b j ∧ rd b j ≤ 255 := fun j hj => hb _ (by rw [rd_nat, List.getD_eq_getElem?_getD, List.getElem?_eq_getElem hj]; exact List.getElem_mem hj)
  have b0 := hB 0 (by omega)
  have b1 := hB 1 (by omega)
  have HD := Aside0.mk (show Kd.C (Kd.int .u8) w A2 (b.drop 2).length (b.drop 2) by rw [hA2]; exact Kd.C_drop hC h2 hc)
  have HB2 := Aside0.mk (show ∀ x ∈ b.drop 2, 0 ≤ x ∧ x ≤ 255 from fun x hx => hb x (List.mem_of_mem_drop hx))
  have hl2 : (b.drop 2).length = b.length - 2 := List.length_drop
  have hlc : (b.drop 2).length ≤ c - 2 := by omega
  have HLC := Aside0.mk hlc
  have HL2 := Aside0.mk hl2
  simp only [Int.ofNat_zero, Int.ofNat_one, Int.cast_ofNat_Int] at y0 y1 b0 b1
  obtain ⟨x0, hx0⟩ : ∃ x0, x0 = rd b 0 := ⟨_, rfl⟩
  obtain ⟨x1, hx1⟩ : ∃ x1, x1 = rd b 1 := ⟨_, rfl⟩
  rw [← hx0] at y0 b0
  rw [← hx1] at y1 b1
  obtain ⟨b00, b01⟩ := b0
  obtain ⟨b10, b11⟩ := b1
  have HX := Aside0.mk (And.intro hx0 hx1)
  have l0 : 0 < b.length := by omega
  have l1 : 1 < b.length := by omega
  have z0 : w.cell? ad = some (.int .u8 x0) := by have h := y0; simpa [Addr.add] using h
  have z1 : w.cell? ⟨ad.block, ad.off + 1, none⟩ = some (.int .u8 x1) := by have h := y1; simpa [Addr.add] using h
  have FZ := Aside0.mk (start_P false w)
  have lt0 : ad.block < w.heap.size := World.block_lt_of_cell? _ _ z0
  have za : ∀ o o', ((w.alloc o).alloc o').cell? ad = some (.int .u8 x0) := fun o o' => (World.cell?_alloc_lt _ _ _ (by rw [World.size_alloc]; omega)).trans ((World.cell?_alloc_lt _ _ _ lt0).trans z0)
  have zb : ∀ o o', ((w.alloc o).alloc o').cell? ⟨ad.block, ad.off + 1, none⟩ = some (.int .u8 x1) := fun o o' => (World.cell?_alloc_lt _ _ _ (by rw [World.size_alloc]; show ad.block < _; omega)).trans ((World.cell?_alloc_lt w o ⟨ad.block, ad.off + 1, none⟩ lt0).trans z1)
  obtain ⟨n, hn⟩ : ∃ n : Nat, x0 * 256 + x1 = n := ⟨(x0 * 256 + x1).toNat, by omega⟩
  have NB := Aside0.mk (show n ≤ 65535 by omega)
  have HNN := Aside0.mk hn
  clear y0 y1 hB hA2 hC hb hi hz1 hx0 hx1 hl2 hlc
  rcases hkk : kidP (b.drop 2) with _ | ⟨kk, r0⟩
  · have FZ := Aside0.mk (show ∀ W, W = (w.alloc (.cells #[.bool false, .slice none 0 0, .slice none 0 0, .slice none 0 0] 26)).alloc (.cells #[.bool false, .slice none 0 0, .slice none 0 0, .slice none 0 0] 26) → NPt w W (w.heap.size + 1) w.heap.size false [] [] [] (.slice none 0 0) (.slice none 0 0) (.slice none 0 0) ∧ Below w.heap.size w W from FZ.out)
    have HPAR := Aside0.mk (show parS false b = (false, ⟨b, [], [], []⟩) by rw [parS, if_neg (by omega), if_neg (by simp), hkk])
    have HKK := Aside0.mk hkk
    clear hkk
    have HE := Aside0.mk (show ∀ W, W = (w.alloc (.cells #[.bool false, .slice none 0 0, .slice none 0 0, .slice none 0 0] 26)).alloc (.cells #[.bool false, .slice none 0 0, .slice none 0 0, .slice none 0 0] 26) → W.drew.heap[w.heap.size]? = some (Obj.cells (Z26 false) 26 (0, 0)) ∧ PPost w false (false, ⟨b, [], [], []⟩) (.returned (.tuple #[.agg #[.bool false, .slice none 0 0, .slice none 0 0, .slice none 0 0], .bool false])) W.drew from
      fun W hW => ⟨(FZ.out W hW).1.hR, _, _, _, rfl, Kd.R_nil _ _ _ _ _, Kd.R_nil _ _ _ _ _, Kd.R_nil _ _ _ _ _, below_drew1 (FZ.out W hW).2⟩)
    go_enter Try.func27, Try.ntmps27
    go_wp2_with (first | (refine wp_scope_body ?_) | go_step3)
    go_region
    go_wp2_with (first | (refine wp_scope_body ?_) | go_step3 | (go_at_call 29; refine calls_of_args (show #[Value.slice A2 (b.length - 2) (c - 2)] = #[.slice A2 (b.drop 2).length (c - 2)] by rw [HL2.out]) ?_; refine (kid_no (Kd.C_below HD.out (below_drew1 (FZ.out _ rfl).2)) HLC.out HB2.out HKK.out).mono ?_; rintro e w7 ⟨rfl, rfl⟩))
    (try simp only [Exit.inBlock, Exit.then])
    refine bodyPost_ret (results_ct rfl _ _ w.heap.size 26 #[.bool false, .slice none 0 0, .slice none 0 0, .slice none 0 0] (0, 0) _ rfl (HE.out _ rfl).1 Try.underlying26 rfl (by kernel_rfl)) rfl ?_
    rw [HPAR.out]
    exact (HE.out _ rfl).2
  · obtain ⟨p0, hp0⟩ : ∃ p0 : PS, p0 = ⟨r0, [], [], [kk]⟩ := ⟨_, rfl⟩
    have HP0 := Aside0.mk hp0
    have HPAR := Aside0.mk (show parS false b = prS false n p0 by rw [hp0, parS, if_neg (by omega), if_neg (by simp), hkk, ← HX.out.1, ← HX.out.2, HNN.out]; simp)
    have HKK := Aside0.mk hkk
    clear hkk hp0
    go_enter Try.func27, Try.ntmps27
    go_wp2_with (first | (refine wp_scope_body ?_) | go_step3)
    go_region
    go_wp2_with
      (first
        | (refine wp_scope_body ?_)
        | go_step3
        | (go_at_call 29; refine calls_of_args (show #[Value.slice A2 (b.length - 2) (c - 2)] = #[.slice A2 (b.drop 2).length (c - 2)] by rw [HL2.out]) ?_; refine (kid_yes (Kd.C_below HD.out (below_drew1 (FZ.out _ rfl).2)) HLC.out HB2.out HKK.out).mono ?_
           rintro e w7 ⟨A7, c7, rfl, hC2, hc2, hw7, hBY2⟩
           have HN7 := Aside0.mk (show NPt w w7 (w.heap.size + 1) w.heap.size false [] [] [] (.slice none 0 0) (.slice none 0 0) (.slice none 0 0) by rw [hw7]; exact (FZ.out _ rfl).1.drew.drew)
           have HB7 := Aside0.mk (show Below w.heap.size w w7 by rw [hw7]; exact below_drew1 (below_drew1 (FZ.out _ rfl).2))
           have HC7 := Aside0.mk (hC2 _ HD.out)
           have HCC7 := Aside0.mk hc2
           have HBY7 := Aside0.mk hBY2
           have q71 : w7.cell? ⟨(w.heap.size + 1), 3, none⟩ = some (.slice none 0 0) := (blk_cell HN7.out.hn 3).trans rfl
           clear hC2 hc2 hw7 hBY2)
        | (at_builtin; guard_hyp HCC7; refine Kd.R_append (w0 := w) (W := w7) (Kd.int .i64) w.heap.size ?x1 (.tmp 51) (.tmp 53) 24 3 (.int .i64 0) 8 ?x2 Try.underlying24 info3 rfl (by decide) (by decide) (.slice none 0 0) [] kk [.int .i64 kk] (fun k => True) (fun _ => False) ?x3 ?x4 ?x5 ?x6 ?x7 ?x8 ?x9 ?x10 ?x11 ?_
           case x1 => rfl
           case x2 => rfl
           case x3 => rfl
           case x4 => rfl
           case x5 => rfl
           case x6 => exact fun _ h => h.elim
           case x7 => exact fun _ _ => trivial
           case x8 => exact HN7.out.ri
           case x9 => exact HB7.out
           case x10 => exact HB7.out.size
           case x11 => (simp)
           intro v9 w9 hO9 hB9 hg9 hat9
           have HN9 := Aside0.mk (HN7.out.pushI hO9 hg9)
           have HX9 := Aside0.mk (blk_grown HN7.out.hn hg9 (Kd.R_ne HN7.out.ri HN7.out.hn (by decide)))
           have HB9 := Aside0.mk (hB9.setCell HN7.out.gn (p := ⟨(w.heap.size + 1), 3, none⟩) v9)
           obtain ⟨A9, c9, rfl⟩ := Kd.R_slice hO9
           have q9 : w9.cell? ⟨(w.heap.size + 1), 3, none⟩ = some (.slice none 0 0) := (blk_cell HX9.out 3).trans rfl
           have f9 := blk_frozen HX9.out 3
           simp only [List.nil_append, List.length_singleton] at HN9 HB9
           clear hO9 hB9 hg9 hat9))
    go_loopw [1, 11] (fun v1 v11 wr => ∃ (k : Nat) (p : PS) (A : Option Addr) (c : Nat), v1 = .slice A p.b.length c ∧ v11 = .int .i64 k ∧ k ≤ n ∧ Aside0 (PRel w wr false p A c ∧ PLen p k ∧ prS false (n - k) p = prS false n p0)) (fun _ v11 _ => n - (intOf v11).toNat)
    case atStart => exact ⟨0, ⟨r0, [], [], [kk]⟩, A7, c7, rfl, rfl, Nat.zero_le _, ⟨⟨HC7.out, HCC7.out, HBY7.out, HB9.out, _, _, _, HN9.out⟩, ⟨Nat.zero_le _, Nat.zero_le _, by simp⟩, by rw [HP0.out]; rfl⟩⟩
    case round =>
      obtain ⟨k, p, A, c, rfl, rfl, hk, HX⟩ := hrel
      obtain ⟨⟨hC0, hcc, hBY, hBl, vK, vV, vI, hN⟩, hLen, hIt⟩ := HX.out
      have hnb : n ≤ 65535 := NB.out
      obtain ⟨p_b, p_keys, p_vals, p_kids⟩ := p
      have HC0 := Aside0.mk hC0
      have HCC := Aside0.mk hcc
      have HBY := Aside0.mk hBY
      have HBL := Aside0.mk hBl
      have HN := Aside0.mk hN
      have HLEN := Aside0.mk hLen
      have HIT := Aside0.mk hIt
      clear hC0 hcc hBY hBl hN hLen hIt HX
      by_cases hlt : k < n
      · obtain ⟨m, hm⟩ : ∃ m, n - k = m + 1 := ⟨n - k - 1, by omega⟩
        have HM := Aside0.mk hm
        clear hm
        obtain ⟨AK, cK, rfl⟩ := Kd.R_slice HN.out.rk
        obtain ⟨AV, cV, rfl⟩ := Kd.R_slice HN.out.rv
        obtain ⟨AI, cI, rfl⟩ := Kd.R_slice HN.out.ri
        have TOK7 : True := trivial
        have TOK11 : True := trivial
        rcases hcu : cutS p_b with _ | ⟨s, r⟩
        · have HROUND := Aside0.mk (show roundS false ⟨p_b, p_keys, p_vals, p_kids⟩ = (false, ⟨p_b, p_keys, p_vals, p_kids⟩) by simp only [roundS]; rw [hcu])
          have HCU := Aside0.mk hcu
          clear hcu
          have q0 : wr.cell? ⟨(w.heap.size + 1), 0, none⟩ = some (.bool false) := (blk_cell HN.out.hn 0).trans rfl
          have q1 : wr.cell? ⟨(w.heap.size + 1), 1, none⟩ = some ((.slice AK p_keys.length cK)) := (blk_cell HN.out.hn 1).trans rfl
          have q2 : wr.cell? ⟨(w.heap.size + 1), 2, none⟩ = some ((.slice AV p_vals.length cV)) := (blk_cell HN.out.hn 2).trans rfl
          have q3 : wr.cell? ⟨(w.heap.size + 1), 3, none⟩ = some ((.slice AI p_kids.length cI)) := (blk_cell HN.out.hn 3).trans rfl
          have pr0 : wr.cell? ⟨w.heap.size, 0, none⟩ = some (.bool false) := (blk_cell HN.out.hR 0).trans rfl
          have pf0 := blk_frozen HN.out.hR 0
          have pr1 : wr.cell? ⟨w.heap.size, 1, none⟩ = some (.slice none 0 0) := (blk_cell HN.out.hR 1).trans rfl
          have pf1 := blk_frozen HN.out.hR 1
          have pr2 : wr.cell? ⟨w.heap.size, 2, none⟩ = some (.slice none 0 0) := (blk_cell HN.out.hR 2).trans rfl
          have pf2 := blk_frozen HN.out.hR 2
          have pr3 : wr.cell? ⟨w.heap.size, 3, none⟩ = some (.slice none 0 0) := (blk_cell HN.out.hR 3).trans rfl
          have pf3 := blk_frozen HN.out.hR 3
          go_wp2_with (first | (go_at_call 30; refine (cut_no (Kd.C_below HC0.out HBL.out) HCC.out HBY.out HCU.out).mono ?_; rintro e w7 ⟨rfl, rfl⟩))
          (try simp only [Exit.inBlock, Exit.then])
          refine bodyPost_ret (results_ct rfl _ _ w.heap.size 26 #[.bool false, (.slice AK p_keys.length cK), (.slice AV p_vals.length cV), (.slice AI p_kids.length cI)] (0, 0) _ rfl (res_block HN.out.hR _ _ _ _) Try.underlying26 rfl (by kernel_rfl)) rfl ?_
          rw [HPAR.out, ← HIT.out, HM.out, prS, if_neg (by rw [HROUND.out]; simp), HROUND.out]
          exact fin_P (q := (false, ⟨p_b, p_keys, p_vals, p_kids⟩)) HN.out HBL.out (by simp)
        · rcases hcv : kidP r with _ | ⟨v, r2⟩
          · have HROUND := Aside0.mk (show roundS false ⟨p_b, p_keys, p_vals, p_kids⟩ = (false, ⟨p_b, p_keys ++ [s], p_vals, p_kids⟩) by simp only [roundS]; rw [hcu]; simp [entS, hcv])
            have HCU := Aside0.mk hcu
            have HCV := Aside0.mk hcv
            clear hcu hcv
            go_wp2_with
              (first
                | (go_at_call 30; guard_hyp TOK7; refine (cut_yes (Kd.C_below HC0.out HBL.out) HCC.out HBY.out HCU.out).mono ?_
                   rintro e w7 ⟨A7, c7, rfl, hC2, hc2, hw7, hBY2⟩
                   have HN7 := Aside0.mk (show NPt w w7 (w.heap.size + 1) w.heap.size false p_keys p_vals p_kids (.slice AK p_keys.length cK) (.slice AV p_vals.length cV) (.slice AI p_kids.length cI) by rw [hw7]; exact HN.out.drew)
                   have HB7 := Aside0.mk (show Below w.heap.size w w7 by rw [hw7]; exact below_drew1 HBL.out)
                   have HC7 := Aside0.mk (hC2 _ HC0.out)
                   have HCC7 := Aside0.mk hc2
                   have HBY7 := Aside0.mk hBY2
                   have q71 : w7.cell? ⟨(w.heap.size + 1), 1, none⟩ = some (.slice AK p_keys.length cK) := (blk_cell HN7.out.hn 1).trans rfl
                   clear hC2 hc2 hw7 hBY2 TOK7)
                | (at_builtin; guard_hyp HCC7; refine Kd.R_append (w0 := w) (W := w7) Kd.string w.heap.size ?x1 (.tmp 72) (.tmp 74) 23 9 (.string ⟨#[]⟩) 16 ?x2 Try.underlying23 info9 rfl (by decide) (by decide) (.slice AK p_keys.length cK) p_keys s [.string s] (fun k => some k ≠ (Value.ownBlock (.slice AV p_vals.length cV))) (fun _ => False) ?x3 ?x4 ?x5 ?x6 ?x7 ?x8 ?x9 ?x10 ?x11 ?_
                   case x1 => rfl
                   case x2 => rfl
                   case x3 => rfl
                   case x4 => rfl
                   case x5 => rfl
                   case x6 => exact fun _ h => h.elim
                   case x7 => exact own_fresh HN7.out.rv
                   case x8 => exact HN7.out.rk
                   case x9 => exact HB7.out
                   case x10 => exact HB7.out.size
                   case x11 => (have h1 : p_keys.length ≤ k := HLEN.out.1; omega)
                   intro v9 w9 hO9 hB9 hg9 hat9
                   have HN9 := Aside0.mk (HN7.out.pushK hO9 hg9 hat9)
                   have HX9 := Aside0.mk (blk_grown HN7.out.hn hg9 (Kd.R_ne HN7.out.rk HN7.out.hn (by decide)))
                   have HB9 := Aside0.mk (hB9.setCell HN7.out.gn (p := ⟨(w.heap.size + 1), 1, none⟩) v9)
                   obtain ⟨A9, c9, rfl⟩ := Kd.R_slice hO9
                   have q9 : w9.cell? ⟨(w.heap.size + 1), 1, none⟩ = some (.slice AK p_keys.length cK) := (blk_cell HX9.out 1).trans rfl
                   have f9 := blk_frozen HX9.out 1
                   simp only [List.length_append, List.length_singleton] at HN9 HB9
                   clear hO9 hB9 hg9 hat9
                   have q90 : (w9.setCell ⟨(w.heap.size + 1), 1, none⟩ (.slice A9 (p_keys.length + 1) c9)).cell? ⟨(w.heap.size + 1), 0, none⟩ = some (.bool false) := (blk_cell HN9.out.hn 0).trans rfl
                   have q91 : (w9.setCell ⟨(w.heap.size + 1), 1, none⟩ (.slice A9 (p_keys.length + 1) c9)).cell? ⟨(w.heap.size + 1), 1, none⟩ = some ((.slice A9 (p_keys.length + 1) c9)) := (blk_cell HN9.out.hn 1).trans rfl
                   have q92 : (w9.setCell ⟨(w.heap.size + 1), 1, none⟩ (.slice A9 (p_keys.length + 1) c9)).cell? ⟨(w.heap.size + 1), 2, none⟩ = some ((.slice AV p_vals.length cV)) := (blk_cell HN9.out.hn 2).trans rfl
                   have q93 : (w9.setCell ⟨(w.heap.size + 1), 1, none⟩ (.slice A9 (p_keys.length + 1) c9)).cell? ⟨(w.heap.size + 1), 3, none⟩ = some ((.slice AI p_kids.length cI)) := (blk_cell HN9.out.hn 3).trans rfl
                   have p9r0 : (w9.setCell ⟨(w.heap.size + 1), 1, none⟩ (.slice A9 (p_keys.length + 1) c9)).cell? ⟨w.heap.size, 0, none⟩ = some (.bool false) := (blk_cell HN9.out.hR 0).trans rfl
                   have p9f0 := blk_frozen HN9.out.hR 0
                   have p9r1 : (w9.setCell ⟨(w.heap.size + 1), 1, none⟩ (.slice A9 (p_keys.length + 1) c9)).cell? ⟨w.heap.size, 1, none⟩ = some (.slice none 0 0) := (blk_cell HN9.out.hR 1).trans rfl
                   have p9f1 := blk_frozen HN9.out.hR 1
                   have p9r2 : (w9.setCell ⟨(w.heap.size + 1), 1, none⟩ (.slice A9 (p_keys.length + 1) c9)).cell? ⟨w.heap.size, 2, none⟩ = some (.slice none 0 0) := (blk_cell HN9.out.hR 2).trans rfl
                   have p9f2 := blk_frozen HN9.out.hR 2
                   have p9r3 : (w9.setCell ⟨(w.heap.size + 1), 1, none⟩ (.slice A9 (p_keys.length + 1) c9)).cell? ⟨w.heap.size, 3, none⟩ = some (.slice none 0 0) := (blk_cell HN9.out.hR 3).trans rfl
                   have p9f3 := blk_frozen HN9.out.hR 3)
                | (go_at_call 29; guard_hyp HN9; refine (kid_no (Kd.C_below HC7.out HB9.out) HCC7.out HBY7.out HCV.out).mono ?_
                   rintro e w10 ⟨rfl, rfl⟩))
            (try simp only [Exit.inBlock, Exit.then])
            refine bodyPost_ret (results_ct rfl _ _ w.heap.size 26 #[.bool false, (.slice A9 (p_keys.length + 1) c9), (.slice AV p_vals.length cV), (.slice AI p_kids.length cI)] (0, 0) _ rfl (res_block HN9.out.hR _ _ _ _) Try.underlying26 rfl (by kernel_rfl)) rfl ?_
            rw [HPAR.out, ← HIT.out, HM.out, prS, if_neg (by rw [HROUND.out]; simp), HROUND.out]
            exact fin_P (q := (false, ⟨p_b, p_keys ++ [s], p_vals, p_kids⟩)) HN9.out HB9.out (by simp)
          · have HROUND := Aside0.mk (show roundS false ⟨p_b, p_keys, p_vals, p_kids⟩ = (true, ⟨r2, p_keys ++ [s], p_vals, p_kids ++ [v]⟩) by simp only [roundS]; rw [hcu]; simp [entS, hcv])
            have HCU := Aside0.mk hcu
            have HCV := Aside0.mk hcv
            clear hcu hcv
            go_wp2_with
              (first
                | (go_at_call 30; guard_hyp TOK7; refine (cut_yes (Kd.C_below HC0.out HBL.out) HCC.out HBY.out HCU.out).mono ?_
                   rintro e w7 ⟨A7, c7, rfl, hC2, hc2, hw7, hBY2⟩
                   have HN7 := Aside0.mk (show NPt w w7 (w.heap.size + 1) w.heap.size false p_keys p_vals p_kids (.slice AK p_keys.length cK) (.slice AV p_vals.length cV) (.slice AI p_kids.length cI) by rw [hw7]; exact HN.out.drew)
                   have HB7 := Aside0.mk (show Below w.heap.size w w7 by rw [hw7]; exact below_drew1 HBL.out)
                   have HC7 := Aside0.mk (hC2 _ HC0.out)
                   have HCC7 := Aside0.mk hc2
                   have HBY7 := Aside0.mk hBY2
                   have q71 : w7.cell? ⟨(w.heap.size + 1), 1, none⟩ = some (.slice AK p_keys.length cK) := (blk_cell HN7.out.hn 1).trans rfl
                   clear hC2 hc2 hw7 hBY2 TOK7)
                | (at_builtin; guard_hyp HCC7; refine Kd.R_append (w0 := w) (W := w7) Kd.string w.heap.size ?x1 (.tmp 72) (.tmp 74) 23 9 (.string ⟨#[]⟩) 16 ?x2 Try.underlying23 info9 rfl (by decide) (by decide) (.slice AK p_keys.length cK) p_keys s [.string s] (fun k => some k ≠ (Value.ownBlock (.slice AV p_vals.length cV))) (fun _ => False) ?x3 ?x4 ?x5 ?x6 ?x7 ?x8 ?x9 ?x10 ?x11 ?_
                   case x1 => rfl
                   case x2 => rfl
                   case x3 => rfl
                   case x4 => rfl
                   case x5 => rfl
                   case x6 => exact fun _ h => h.elim
                   case x7 => exact own_fresh HN7.out.rv
                   case x8 => exact HN7.out.rk
                   case x9 => exact HB7.out
                   case x10 => exact HB7.out.size
                   case x11 => (have h1 : p_keys.length ≤ k := HLEN.out.1; omega)
                   intro v9 w9 hO9 hB9 hg9 hat9
                   have HN9 := Aside0.mk (HN7.out.pushK hO9 hg9 hat9)
                   have HX9 := Aside0.mk (blk_grown HN7.out.hn hg9 (Kd.R_ne HN7.out.rk HN7.out.hn (by decide)))
                   have HB9 := Aside0.mk (hB9.setCell HN7.out.gn (p := ⟨(w.heap.size + 1), 1, none⟩) v9)
                   obtain ⟨A9, c9, rfl⟩ := Kd.R_slice hO9
                   have q9 : w9.cell? ⟨(w.heap.size + 1), 1, none⟩ = some (.slice AK p_keys.length cK) := (blk_cell HX9.out 1).trans rfl
                   have f9 := blk_frozen HX9.out 1
                   simp only [List.length_append, List.length_singleton] at HN9 HB9
                   clear hO9 hB9 hg9 hat9)
                | (go_at_call 29; guard_hyp HN9; refine (kid_yes (Kd.C_below HC7.out HB9.out) HCC7.out HBY7.out HCV.out).mono ?_
                   rintro e w11 ⟨A11, c11, rfl, hC2, hc2, hw7, hBY2⟩
                   have HN11 := Aside0.mk (show NPt w w11 (w.heap.size + 1) w.heap.size false (p_keys ++ [s]) p_vals p_kids (.slice A9 (p_keys.length + 1) c9) (.slice AV p_vals.length cV) (.slice AI p_kids.length cI) by rw [hw7]; exact HN9.out.drew)
                   have HB11 := Aside0.mk (show Below w.heap.size w w11 by rw [hw7]; exact below_drew1 HB9.out)
                   have HC11 := Aside0.mk (hC2 _ HC7.out)
                   have HCC11 := Aside0.mk hc2
                   have HBY11 := Aside0.mk hBY2
                   have q111 : w11.cell? ⟨(w.heap.size + 1), 3, none⟩ = some (.slice AI p_kids.length cI) := (blk_cell HN11.out.hn 3).trans rfl
                   clear hC2 hc2 hw7 hBY2 TOK11)
                | (at_builtin; guard_hyp HCC11; refine Kd.R_append (w0 := w) (W := w11) (Kd.int .i64) w.heap.size ?x1 (.tmp 104) (.tmp 106) 24 3 (.int .i64 0) 8 ?x2 Try.underlying24 info3 rfl (by decide) (by decide) (.slice AI p_kids.length cI) p_kids v [.int .i64 v] (fun k => True) (fun _ => False) ?x3 ?x4 ?x5 ?x6 ?x7 ?x8 ?x9 ?x10 ?x11 ?_
                   case x1 => rfl
                   case x2 => rfl
                   case x3 => rfl
                   case x4 => rfl
                   case x5 => rfl
                   case x6 => exact fun _ h => h.elim
                   case x7 => exact fun _ _ => trivial
                   case x8 => exact HN11.out.ri
                   case x9 => exact HB11.out
                   case x10 => exact HB11.out.size
                   case x11 => (have h1 : p_kids.length ≤ k + 1 := HLEN.out.2.2; omega)
                   intro v13 w13 hO13 hB13 hg13 hat13
                   have HN13 := Aside0.mk (HN11.out.pushI hO13 hg13)
                   have HX13 := Aside0.mk (blk_grown HN11.out.hn hg13 (Kd.R_ne HN11.out.ri HN11.out.hn (by decide)))
                   have HB13 := Aside0.mk (hB13.setCell HN11.out.gn (p := ⟨(w.heap.size + 1), 3, none⟩) v13)
                   obtain ⟨A13, c13, rfl⟩ := Kd.R_slice hO13
                   have q13 : w13.cell? ⟨(w.heap.size + 1), 3, none⟩ = some (.slice AI p_kids.length cI) := (blk_cell HX13.out 3).trans rfl
                   have f13 := blk_frozen HX13.out 3
                   simp only [List.length_append, List.length_singleton] at HN13 HB13
                   clear hO13 hB13 hg13 hat13))
            go_roundw
            case rel => exact ⟨k + 1, ⟨r2, p_keys ++ [s], p_vals, p_kids ++ [v]⟩, A11, c11, rfl, by go_num, by omega, ⟨⟨⟨HC11.out, HCC11.out, HBY11.out, HB13.out, _, _, _, HN13.out⟩, ⟨by have h1 := HLEN.out.1; simpa using h1, by have h1 := HLEN.out.2.1; exact Nat.le_succ_of_le h1, by have h1 := HLEN.out.2.2; simpa using h1⟩, by have h := HIT.out; rw [show n - k = (n - (k + 1)) + 1 by omega, prS, if_pos (by rw [HROUND.out]), HROUND.out] at h; exact h⟩⟩⟩
            case measure => simp [intOf]; omega
      · obtain rfl : k = n := by omega
        obtain ⟨AK, cK, rfl⟩ := Kd.R_slice HN.out.rk
        obtain ⟨AV, cV, rfl⟩ := Kd.R_slice HN.out.rv
        obtain ⟨AI, cI, rfl⟩ := Kd.R_slice HN.out.ri
        have q0 : wr.cell? ⟨(w.heap.size + 1), 0, none⟩ = some (.bool false) := (blk_cell HN.out.hn 0).trans rfl
        have q1 : wr.cell? ⟨(w.heap.size + 1), 1, none⟩ = some ((.slice AK p_keys.length cK)) := (blk_cell HN.out.hn 1).trans rfl
        have q2 : wr.cell? ⟨(w.heap.size + 1), 2, none⟩ = some ((.slice AV p_vals.length cV)) := (blk_cell HN.out.hn 2).trans rfl
        have q3 : wr.cell? ⟨(w.heap.size + 1), 3, none⟩ = some ((.slice AI p_kids.length cI)) := (blk_cell HN.out.hn 3).trans rfl
        have pr0 : wr.cell? ⟨w.heap.size, 0, none⟩ = some (.bool false) := (blk_cell HN.out.hR 0).trans rfl
        have pf0 := blk_frozen HN.out.hR 0
        have pr1 : wr.cell? ⟨w.heap.size, 1, none⟩ = some (.slice none 0 0) := (blk_cell HN.out.hR 1).trans rfl
        have pf1 := blk_frozen HN.out.hR 1
        have pr2 : wr.cell? ⟨w.heap.size, 2, none⟩ = some (.slice none 0 0) := (blk_cell HN.out.hR 2).trans rfl
        have pf2 := blk_frozen HN.out.hR 2
        have pr3 : wr.cell? ⟨w.heap.size, 3, none⟩ = some (.slice none 0 0) := (blk_cell HN.out.hR 3).trans rfl
        have pf3 := blk_frozen HN.out.hR 3
        go_wp2
        (try simp only [Exit.inBlock, Exit.then])
        refine bodyPost_ret (results_ct rfl _ _ w.heap.size 26 #[.bool false, (.slice AK p_keys.length cK), (.slice AV p_vals.length cV), (.slice AI p_kids.length cI)] (0, 0) _ rfl (res_block HN.out.hR _ _ _ _) Try.underlying26 rfl (by kernel_rfl)) rfl ?_
        have h := HIT.out
        rw [Nat.sub_self] at h
        rw [HPAR.out, ← h]
        exact fin_P (q := (true, ⟨p_b, p_keys, p_vals, p_kids⟩)) HN.out HBL.out (by rw [Bool.eq_iff_iff]; simp)
set_option maxHeartbeats 8000000 in
set_option maxRecDepth 100000 in
theorem parse_short (leaf : Bool) (A : Option Addr) (c : Nat) (b : List Int) (w : World) (h2 : b.length < 2) :
    Calls Try.prog 27 #[.bool leaf, .slice A b.length c] w fun e w' => PPost w leaf (parS leaf b) e w' := by
  have hu := Try.underlying26
  have FZ := Aside0.mk (start_P leaf w)
  have HPAR := Aside0.mk (show parS leaf b = (false, ⟨b, [], [], []⟩) by rw [parS, if_pos h2])
  have hh : (b.length : Int) < 2 := by omega
  have HR := Aside0.mk (show ∀ W, W = (w.alloc (.cells (Z26 leaf) 26)).alloc (.cells (Z26 leaf) 26) → W.heap[w.heap.size]? = some (Obj.cells (Z26 leaf) 26 (0, 0)) ∧ PPost w leaf (false, ⟨b, [], [], []⟩) (.returned (.tuple #[.agg #[.bool leaf, .slice none 0 0, .slice none 0 0, .slice none 0 0], .bool false])) W from fun W hW => by
    subst hW
    have n1 := blk_new w (.cells (Z26 leaf) 26)
    exact ⟨blk_alloc n1 _, _, _, _, rfl, Kd.R_nil _ _ _ _ _, Kd.R_nil _ _ _ _ _, Kd.R_nil _ _ _ _ _, below_alloc (below_alloc (Below.refl _ w) _) _⟩)
  clear FZ
  go_enter Try.func27, Try.ntmps27
  go_wp2_with (first | (refine wp_scope_body ?_) | go_step3)
  (try simp only [Exit.inBlock, Exit.then])
  refine bodyPost_ret (results_ct rfl _ _ w.heap.size 26 #[.bool leaf, .slice none 0 0, .slice none 0 0, .slice none 0 0] (0, 0) _ rfl (HR.out _ rfl).1 Try.underlying26 rfl (by kernel_rfl)) rfl ?_
  rw [HPAR.out]
  exact (HR.out _ rfl).2
def parR (leaf : Bool) (b : List Int) : Bool × List ByteArray × List ByteArray × List Int × Bool := (leaf, (parS leaf b).2.keys, (parS leaf b).2.vals, (parS leaf b).2.kids, ((parS leaf b).1 && decide ((parS leaf b).2.b.length = 0)))
def tailraceref10_parse.f (a0 : Bool) (l1 : List Int) : Option (Bool × List ByteArray × List ByteArray × List Int × Bool) := if ∀ x ∈ l1, 0 ≤ x ∧ x ≤ 255 then some (parR a0 l1) else none
theorem tailraceref10_parse.calls (a0 : Bool) (A1 : Option Addr) (c1 : Nat) (l1 : List Int) (r1 : Bool) (r2 : List ByteArray) (r3 : List ByteArray) (r4 : List Int) (r5 : Bool) (w : World) (hr1 : Kd.C (Kd.int .u8) w A1 l1.length l1) (hc1 : l1.length ≤ c1) (h : tailraceref10_parse.f a0 l1 = some (r1, r2, r3, r4, r5)) :
    Calls Try.prog 27 #[.bool a0, .slice A1 l1.length c1] w fun e w' => ∃ v1_ v2_ v3_ : Value, e = .returned (.tuple #[.agg #[.bool r1, v1_, v2_, v3_], .bool r5]) ∧ Kd.R Kd.string 9 w' w.heap.size (fun k_ => some k_ ≠ (v2_ : Value).ownBlock) v1_ r2 ∧ Kd.R Kd.string 9 w' w.heap.size (fun k_ => some k_ ≠ (v1_ : Value).ownBlock) v2_ r3 ∧ Kd.R (Kd.int .i64) 3 w' w.heap.size (fun _ => True) v3_ r4 ∧ Below w.heap.size w w' := by
  unfold tailraceref10_parse.f at h
  split at h
  case isFalse => cases h
  rename_i hb
  have h := Option.some.inj h
  unfold parR at h
  injection h with h1 h
  injection h with h2 h
  injection h with h3 h
  injection h with h4 h5
  subst h1 h2 h3 h4 h5
  by_cases hl : l1.length < 2
  · exact parse_short a0 A1 c1 l1 w hl
  · cases a0
    · exact parse_inner A1 c1 l1 w hr1 hc1 hb (by omega)
    · exact parse_leaf A1 c1 l1 w hr1 hc1 hb (by omega)
end Go.Proofs.Ytdjiclphnoepcaa.P
