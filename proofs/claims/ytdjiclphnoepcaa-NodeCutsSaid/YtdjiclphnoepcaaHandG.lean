/- The contract of node.Decode, by hand: the walk at a leaf. -/
import Derived.Test.YtdjiclphnoepcaaHandF
import Derived.Outline
import Derived.Deep.RegionHeld3
import Derived.Deep.AppendLies
import Derived.Deep.RegionLaw
import Derived.Deep.CutBlock
import Derived.Deep.DeepCutAuto
import Derived.Laws.EntriesVeiled
set_option linter.unusedVariables false
set_option linter.unusedSimpArgs false
namespace Go.Proofs.Ytdjiclphnoepcaa.P
open Go.RowKit Go.Proofs.YtdjiclphnoepcaaW.PrintWords Go.Proofs.YtdjiclphnoepcaaW.PrintLast Go.Proofs.YtdjiclphnoepcaaW.PrintMore Go.Proofs.YtdjiclphnoepcaaOwn

set_option maxHeartbeats 8000000 in
set_option maxRecDepth 100000 in
theorem dec_leaf (A1 : Option Addr) (c1 : Nat) (b : List Int) (w : World) (hr : Kd.C (Kd.int .u8) w A1 b.length b) (hc : b.length ≤ c1) (hl : b.length ≤ 1000) (hb : ∀ x ∈ b, 0 ≤ x ∧ x ≤ 255) :
    Calls Try.prog 17 #[.int .i64 2, .slice A1 b.length c1] w fun e w' => DPost w (resS true (runS true b)) e w' := by
  have hu := Try.underlying26
  have SF := Aside0.mk (start_rel true A1 c1 b w hr hc hb)
  have HB := Aside0.mk hb
  clear hr hc hb
  obtain ⟨n2, hn2⟩ : ∃ n2 : Nat, (nuS 2 false b).1 = n2 := ⟨(nuS 2 false b).1.toNat, by have := nuS_bound 2 false b HB.out; omega⟩
  have N2 := Aside0.mk hn2
  clear hn2
  go_enter Try.func17, Try.ntmps17
  go_wp2_with (first | (refine wp_scope_body ?_) | go_step3 | (go_at_call 26; obtain ⟨A2, c2, vK2, vV2, vI2, hS2, hN2, hb2⟩ := SF.out _ rfl; refine (number_any w _ (w.heap.size + 1 + 1 + 1) w.heap.size (w.heap.size + 1 + 1 + 1 + 1) false b A2 c2 2 (by decide) hS2 HB.out hN2.hT).mono ?_; rintro e w7 ⟨A3, c3, rfl, hS3, hK3, hz3⟩; have hN3 := hN2.keepD hK3; rw [show numS (takeS 2 false b).1 = (n2 : Int) from N2.out]; have HD := Aside0.mk (show DRel w w7 true ⟨(nuS 2 false b).2.1, (nuS 2 false b).2.2, [], [], []⟩ from ⟨A3, c3, vK2, vV2, vI2, hS3, hN3, nuS_in 2 false b HB.out⟩); have q70 : w7.cell? ⟨(w.heap.size + 1 + 1), 0, none⟩ = some (.bool true) := (blk_cell hN3.hn 0).trans rfl; clear hS2 hN2 hb2 hS3 hK3 hz3 hN3))
  obtain ⟨d0, hd0⟩ : ∃ d0, d0 = (⟨(nuS 2 false b).2.1, (nuS 2 false b).2.2, [], [], []⟩ : DS) := ⟨_, rfl⟩
  rw [← hd0] at HD
  have HL0 := Aside0.mk (show DLen d0 0 by subst hd0; exact ⟨by simp, by simp, by simp⟩)
  have HRUN := Aside0.mk (show runS true b = itS true n2 d0 by rw [hd0, runS, N2.out]; rfl)
  clear hd0
  go_loopw [41] (fun v41 wr => ∃ (k : Nat) (d : DS), v41 = .int .i64 k ∧ k ≤ n2 ∧ Aside0 (DRel w wr true d ∧ DLen d k ∧ itS true (n2 - k) d = itS true n2 d0)) (fun v41 _ => n2 - (intOf v41).toNat)
  case atStart => exact ⟨0, d0, rfl, Nat.zero_le _, ⟨HD.out, HL0.out, rfl⟩⟩
  case round =>
    obtain ⟨k, d, rfl, hk, HX⟩ := hrel
    obtain ⟨hRel, hLen, hIt⟩ := HX.out
    obtain ⟨A, c, vK, vV, vI, hS, hN, hBY⟩ := hRel
    have HS := Aside0.mk hS
    have HN := Aside0.mk hN
    have HBY := Aside0.mk hBY
    have HLEN := Aside0.mk hLen
    have HIT := Aside0.mk hIt
    have NB := Aside0.mk (show n2 ≤ 65535 by have h1 := nuS_bound 2 false b HB.out; have h2 := N2.out; omega)
    clear hS hN hBY hLen hIt HX
    have hnb : n2 ≤ 65535 := NB.out
    obtain ⟨d_sh, d_b, d_keys, d_vals, d_kids⟩ := d
    by_cases hlt : k < n2
    · have qs : wr.cell? ⟨(w.heap.size + 1 + 1 + 1), 0, none⟩ = some (.bool d_sh) := (blk_cell HS.out.hs 0).trans rfl
      have q0 : wr.cell? ⟨(w.heap.size + 1 + 1), 0, none⟩ = some (.bool true) := (blk_cell HN.out.hn 0).trans rfl
      have q1 : wr.cell? ⟨(w.heap.size + 1 + 1), 1, none⟩ = some vK := (blk_cell HN.out.hn 1).trans rfl
      have qT : wr.cell? ⟨(w.heap.size + 1 + 1 + 1 + 1), 0, none⟩ = some (.func (Fn.func 25) #[] #[.pointer (some ⟨(w.heap.size + 1 + 1 + 1), 0, none⟩), .pointer (some ⟨w.heap.size, 0, none⟩)]) := (blk_cell HN.out.hT 0).trans rfl
      cases d_sh
      · obtain ⟨m1, hm1⟩ : ∃ m1 : Nat, (nuS 1 false d_b).1 = m1 := ⟨(nuS 1 false d_b).1.toNat, by have := nuS_bound 1 false d_b HBY.out; omega⟩
        have M1B := Aside0.mk (show m1 ≤ 255 by have := nuS_bound 1 false d_b HBY.out; omega)
        have HM1 := Aside0.mk hm1
        clear hm1
        go_upto_region 13 with (first | (refine wp_scope_body ?_) | go_step3)
        go_cut [] (fun wc => Aside0 (DRel w wc true (keyS ⟨false, d_b, d_keys, d_vals, d_kids⟩)))
        case first =>
          go_region_law
            (first
              | (go_simp; go_at_call 26; refine (number_any w _ (w.heap.size + 1 + 1 + 1) w.heap.size (w.heap.size + 1 + 1 + 1 + 1) (false) (d_b) A c 1 (by decide) HS.out.drew HBY.out HN.out.hT).mono ?_
                 rintro e w8 ⟨A3, c3, rfl, hS8, hK8, hz8⟩
                 rw [show numS (takeS 1 (false) (d_b)).1 = (m1 : Int) from HM1.out]
                 have HS8 := Aside0.mk hS8
                 have HN8 := Aside0.mk (HN.out.keepD hK8)
                 have q81 : w8.cell? ⟨(w.heap.size + 1 + 1), 1, none⟩ = some vK := (blk_cell HN8.out.hn 1).trans rfl
                 have q8T : w8.cell? ⟨(w.heap.size + 1 + 1 + 1 + 1), 0, none⟩ = some (.func (Fn.func 25) #[] #[.pointer (some ⟨(w.heap.size + 1 + 1 + 1), 0, none⟩), .pointer (some ⟨w.heap.size, 0, none⟩)]) := (blk_cell HN8.out.hT 0).trans rfl
                 clear hS8 hK8 hz8)
              | (go_simp; go_at_call 25; refine (take_any w _ (w.heap.size + 1 + 1 + 1) w.heap.size (nuS 1 (false) (d_b)).2.1 (nuS 1 (false) (d_b)).2.2 A3 c3 m1 (by have := M1B.out; omega) HS8.out).mono ?_
                 rintro e w10 ⟨A4, c4, A5, c5, rfl, hl10, hC10, hS10, hK10, hz10⟩
                 have HS10 := Aside0.mk hS10
                 have HN10 := Aside0.mk (HN8.out.keepD hK10)
                 have kc := Kd.C_string Try.underlying28 Try.underlying5 Try.underlying9 (c := c4) hC10
                 have q101 : w10.cell? ⟨(w.heap.size + 1 + 1), 1, none⟩ = some vK := (blk_cell HN10.out.hn 1).trans rfl
                 have q10a : ∀ o, (w10.alloc o).cell? ⟨(w.heap.size + 1 + 1), 1, none⟩ = some vK := fun o => (blk_cell (blk_alloc HN10.out.hn o) 1).trans rfl
                 clear hl10 hC10 hS10 hK10 hz10)
              | (refine Kd.R_append_step (w0 := w) Kd.string w.heap.size (by rfl) (.tmp 45) (.tmp 51) 23 9 (.string ⟨#[]⟩) 16 rfl Try.underlying23 info9 rfl (by decide) (by decide) vK d_keys (strOfNums (takeS m1 (nuS 1 (false) (d_b)).2.1 (nuS 1 (false) (d_b)).2.2).1) [.string (strOfNums (takeS m1 (nuS 1 (false) (d_b)).2.1 (nuS 1 (false) (d_b)).2.2).1)] (fun k => some k ≠ vV.ownBlock) (fun _ => False) ?x1 ?x2 ?x3 ?x4 ?x5 ?x6 ?x7 ?x8 ?x9 ?_
                 case x1 => rfl
                 case x2 => rfl
                 case x3 => rfl
                 case x4 => exact fun _ h => h.elim
                 case x5 => exact own_fresh HN10.out.rv
                 case x6 => exact HN10.out.rk
                 case x7 => exact HS10.out.bl
                 case x8 => exact HS10.out.bl.size
                 case x9 => (have h1 : d_keys.length ≤ k := HLEN.out.1; have h2 := NB.out; omega)
                 intro v11 w11 hO11 hB11 hg11 hat11
                 have hD := pushK_rel HS10.out HN10.out (takeS_in (n := m1) (sh := (nuS 1 (false) (d_b)).2.1) (nuS_in 1 (false) (d_b) HBY.out)).2.1 hO11 hB11 hg11 hat11
                 have HD11 := Aside0.mk hD
                 have HN11 := Aside0.mk (blk_grown HN10.out.hn hg11 (Kd.R_ne HN10.out.rk HN10.out.hn (by decide)))
                 obtain ⟨A11, c11, rfl⟩ := Kd.R_slice hO11
                 have q111 : w11.cell? ⟨(w.heap.size + 1 + 1), 1, none⟩ = some vK := (blk_cell HN11.out 1).trans rfl
                 have f11 := blk_frozen HN11.out 1
                 clear hO11 hB11 hg11 hat11 hD))
          all_goals (go_wp2; go_meet; case rel => exact ⟨by have h := HD11.out; unfold keyS txS; rw [HM1.out]; simpa using h⟩)
        case rest =>
          have HDK := hcut
          clear hcut q0 q1 qT qs
          obtain ⟨d1, hd1⟩ : ∃ d1, d1 = keyS ⟨false, d_b, d_keys, d_vals, d_kids⟩ := ⟨_, rfl⟩
          rw [← hd1] at HDK
          have hL1 : d1.vals.length ≤ k ∧ d1.kids.length ≤ k + 1 ∧ d1.keys.length ≤ k + 1 := by have h := HLEN.out; subst hd1; exact ⟨h.2.1, h.2.2, by simp only [keyS, List.length_append, List.length_singleton]; exact Nat.succ_le_succ h.1⟩
          have HL1 := Aside0.mk hL1
          have HD1 := Aside0.mk hd1
          clear hd1 hL1 HS HN HBY
          obtain ⟨A, c, vK, vV, vI, hS, hN, hBY⟩ := HDK.out
          have HS := Aside0.mk hS
          have HN := Aside0.mk hN
          have HBY := Aside0.mk hBY
          clear hS hN hBY
          have q0 : wc.cell? ⟨(w.heap.size + 1 + 1), 0, none⟩ = some (.bool true) := (blk_cell HN.out.hn 0).trans rfl
          have q2 : wc.cell? ⟨(w.heap.size + 1 + 1), 2, none⟩ = some vV := (blk_cell HN.out.hn 2).trans rfl
          have qT : wc.cell? ⟨(w.heap.size + 1 + 1 + 1 + 1), 0, none⟩ = some (.func (Fn.func 25) #[] #[.pointer (some ⟨(w.heap.size + 1 + 1 + 1), 0, none⟩), .pointer (some ⟨w.heap.size, 0, none⟩)]) := (blk_cell HN.out.hT 0).trans rfl
          clear HM1 M1B
          obtain ⟨m1, hm1⟩ : ∃ m1 : Nat, (nuS 1 d1.sh d1.b).1 = m1 := ⟨(nuS 1 d1.sh d1.b).1.toNat, by have := nuS_bound 1 d1.sh d1.b HBY.out; omega⟩
          have M1B := Aside0.mk (show m1 ≤ 255 by have := nuS_bound 1 d1.sh d1.b HBY.out; omega)
          have HM1 := Aside0.mk hm1
          clear hm1
          go_upto_region 15 with (fail)
          go_region_law
            (first
              | (go_simp; go_at_call 26; refine (number_any w _ (w.heap.size + 1 + 1 + 1) w.heap.size (w.heap.size + 1 + 1 + 1 + 1) (d1.sh) (d1.b) A c 1 (by decide) HS.out.drew HBY.out HN.out.hT).mono ?_
                 rintro e w8 ⟨A3, c3, rfl, hS8, hK8, hz8⟩
                 rw [show numS (takeS 1 (d1.sh) (d1.b)).1 = (m1 : Int) from HM1.out]
                 have HS8 := Aside0.mk hS8
                 have HN8 := Aside0.mk (HN.out.keepD hK8)
                 have q82 : w8.cell? ⟨(w.heap.size + 1 + 1), 2, none⟩ = some vV := (blk_cell HN8.out.hn 2).trans rfl
                 have q8T : w8.cell? ⟨(w.heap.size + 1 + 1 + 1 + 1), 0, none⟩ = some (.func (Fn.func 25) #[] #[.pointer (some ⟨(w.heap.size + 1 + 1 + 1), 0, none⟩), .pointer (some ⟨w.heap.size, 0, none⟩)]) := (blk_cell HN8.out.hT 0).trans rfl
                 clear hS8 hK8 hz8)
              | (go_simp; go_at_call 25; refine (take_any w _ (w.heap.size + 1 + 1 + 1) w.heap.size (nuS 1 (d1.sh) (d1.b)).2.1 (nuS 1 (d1.sh) (d1.b)).2.2 A3 c3 m1 (by have := M1B.out; omega) HS8.out).mono ?_
                 rintro e w10 ⟨A4, c4, A5, c5, rfl, hl10, hC10, hS10, hK10, hz10⟩
                 have HS10 := Aside0.mk hS10
                 have HN10 := Aside0.mk (HN8.out.keepD hK10)
                 have kc := Kd.C_string Try.underlying28 Try.underlying5 Try.underlying9 (c := c4) hC10
                 have q102 : w10.cell? ⟨(w.heap.size + 1 + 1), 2, none⟩ = some vV := (blk_cell HN10.out.hn 2).trans rfl
                 have q10a : ∀ o, (w10.alloc o).cell? ⟨(w.heap.size + 1 + 1), 2, none⟩ = some vV := fun o => (blk_cell (blk_alloc HN10.out.hn o) 2).trans rfl
                 clear hl10 hC10 hS10 hK10 hz10)
              | (refine Kd.R_append_step (w0 := w) Kd.string w.heap.size (by rfl) (.tmp 57) (.tmp 63) 23 9 (.string ⟨#[]⟩) 16 rfl Try.underlying23 info9 rfl (by decide) (by decide) vV d1.vals (strOfNums (takeS m1 (nuS 1 (d1.sh) (d1.b)).2.1 (nuS 1 (d1.sh) (d1.b)).2.2).1) [.string (strOfNums (takeS m1 (nuS 1 (d1.sh) (d1.b)).2.1 (nuS 1 (d1.sh) (d1.b)).2.2).1)] (fun k => some k ≠ vK.ownBlock) (fun _ => False) ?x1 ?x2 ?x3 ?x4 ?x5 ?x6 ?x7 ?x8 ?x9 ?_
                 case x1 => rfl
                 case x2 => rfl
                 case x3 => rfl
                 case x4 => exact fun _ h => h.elim
                 case x5 => exact own_fresh HN10.out.rk
                 case x6 => exact HN10.out.rv
                 case x7 => exact HS10.out.bl
                 case x8 => exact HS10.out.bl.size
                 case x9 => (have h1 := HL1.out.1; have h2 := NB.out; omega)
                 intro v11 w11 hO11 hB11 hg11 hat11
                 have hD := pushV_rel HS10.out HN10.out (takeS_in (n := m1) (sh := (nuS 1 (d1.sh) (d1.b)).2.1) (nuS_in 1 (d1.sh) (d1.b) HBY.out)).2.1 hO11 hB11 hg11 hat11
                 have HD11 := Aside0.mk hD
                 have HN11 := Aside0.mk (blk_grown HN10.out.hn hg11 (Kd.R_ne HN10.out.rv HN10.out.hn (by decide)))
                 obtain ⟨A11, c11, rfl⟩ := Kd.R_slice hO11
                 have q112 : w11.cell? ⟨(w.heap.size + 1 + 1), 2, none⟩ = some vV := (blk_cell HN11.out 2).trans rfl
                 have f11 := blk_frozen HN11.out 2
                 clear hO11 hB11 hg11 hat11 hD))
          all_goals
            go_wp2
            go_roundw
            case rel => exact ⟨k + 1, valS d1, by go_num, by omega, ⟨⟨by have h := HD11.out; unfold valS txS; rw [HM1.out]; simpa using h, by refine ⟨HL1.out.2.2, ?_, Nat.le_succ_of_le HL1.out.2.1⟩; simp only [valS, List.length_append, List.length_singleton]; exact Nat.succ_le_succ HL1.out.1, by have h := HIT.out; rw [show n2 - k = (n2 - (k + 1)) + 1 by omega, itS, if_neg (by simp)] at h; rw [← h, HD1.out]; rfl⟩⟩⟩
            case measure => simp [intOf]; omega
      · have p0 : wr.cell? ⟨(w.heap.size + 1), 0, none⟩ = some (.bool false) := (blk_cell HN.out.hR 0).trans rfl
        have p1 : wr.cell? ⟨(w.heap.size + 1), 1, none⟩ = some (.slice none 0 0) := (blk_cell HN.out.hR 1).trans rfl
        have p2 : wr.cell? ⟨(w.heap.size + 1), 2, none⟩ = some (.slice none 0 0) := (blk_cell HN.out.hR 2).trans rfl
        have p3 : wr.cell? ⟨(w.heap.size + 1), 3, none⟩ = some (.slice none 0 0) := (blk_cell HN.out.hR 3).trans rfl
        have z0 := blk_frozen HN.out.hR 0
        have z1 := blk_frozen HN.out.hR 1
        have z2 := blk_frozen HN.out.hR 2
        have z3 := blk_frozen HN.out.hR 3
        go_wp2
        (try simp only [Exit.inBlock, Exit.then])
        refine bodyPost_ret (results_ct rfl _ _ (w.heap.size + 1) 26 #[.bool false, .slice none 0 0, .slice none 0 0, .slice none 0 0] (0, 0) _ rfl (res_block HN.out.hR _ _ _ _) Try.underlying26 rfl (by kernel_rfl)) rfl ?_
        rw [HRUN.out, ← HIT.out, itS_sh _ _ _ rfl]
        exact fin_fail HN.out.hR HS.out.bl (by simp)
    · obtain rfl : k = n2 := by omega
      have hIT2 := HIT.out
      rw [Nat.sub_self] at hIT2
      have HIT2 := Aside0.mk hIT2
      clear hIT2
      have p0 : wr.cell? ⟨(w.heap.size + 1), 0, none⟩ = some (.bool false) := (blk_cell HN.out.hR 0).trans rfl
      have p1 : wr.cell? ⟨(w.heap.size + 1), 1, none⟩ = some (.slice none 0 0) := (blk_cell HN.out.hR 1).trans rfl
      have p2 : wr.cell? ⟨(w.heap.size + 1), 2, none⟩ = some (.slice none 0 0) := (blk_cell HN.out.hR 2).trans rfl
      have p3 : wr.cell? ⟨(w.heap.size + 1), 3, none⟩ = some (.slice none 0 0) := (blk_cell HN.out.hR 3).trans rfl
      have z0 := blk_frozen HN.out.hR 0
      have z1 := blk_frozen HN.out.hR 1
      have z2 := blk_frozen HN.out.hR 2
      have z3 := blk_frozen HN.out.hR 3
      have qs : wr.cell? ⟨(w.heap.size + 1 + 1 + 1), 0, none⟩ = some (.bool d_sh) := (blk_cell HS.out.hs 0).trans rfl
      have qb : wr.cell? ⟨w.heap.size, 0, none⟩ = some (.slice A d_b.length c) := (blk_cell HS.out.hb 0).trans rfl
      cases d_sh
      · by_cases hb0 : d_b.length = 0
        · obtain ⟨AK, cK, rfl, hcK, hCK⟩ := Kd.R_reads HN.out.rk
          obtain ⟨AV, cV, rfl, hcV, hCV⟩ := Kd.R_reads HN.out.rv
          obtain ⟨AI, cI, rfl, hcI, hCI⟩ := Kd.R_reads HN.out.ri
          have q0 : wr.cell? ⟨(w.heap.size + 1 + 1), 0, none⟩ = some (.bool true) := (blk_cell HN.out.hn 0).trans rfl
          have q1 : wr.cell? ⟨(w.heap.size + 1 + 1), 1, none⟩ = some (.slice AK d_keys.length cK) := (blk_cell HN.out.hn 1).trans rfl
          have q2 : wr.cell? ⟨(w.heap.size + 1 + 1), 2, none⟩ = some (.slice AV d_vals.length cV) := (blk_cell HN.out.hn 2).trans rfl
          have q3 : wr.cell? ⟨(w.heap.size + 1 + 1), 3, none⟩ = some (.slice AI d_kids.length cI) := (blk_cell HN.out.hn 3).trans rfl
          have HCK := Aside0.mk (And.intro hcK hCK)
          have HCV := Aside0.mk (And.intro hcV hCV)
          have HCI := Aside0.mk (And.intro hcI hCI)
          have hb1 : d_b = [] := List.eq_nil_of_length_eq_zero hb0
          have HB1 := Aside0.mk hb1
          clear hcK hCK hcV hCV hcI hCI hb1
          have hq := node_Check_eq true d_keys d_vals d_kids (by have h : d_keys.length ≤ k := HLEN.out.1; omega) (by have h : d_vals.length ≤ k := HLEN.out.2.1; omega) (by have h : d_kids.length ≤ k + 1 := HLEN.out.2.2; omega) (2 * d_keys.length + d_vals.length + d_kids.length + 3 + 1) (Nat.lt_succ_self _)
          by_cases hk2 : chk true d_keys d_vals d_kids = true
          · rw [if_pos hk2] at hq
            have HQ := Aside0.mk hq
            have HK2 := Aside0.mk hk2
            clear hq hk2
            go_wp2_with (first | (go_at_call 13; refine (node_Check.calls _ true AK cK d_keys AV cV d_vals AI cI d_kids 0 _ HCK.out.2 HCK.out.1 HCV.out.2 HCV.out.1 HCI.out.2 HCI.out.1 HQ.out).mono ?_; rintro e w1 ⟨rfl, hb⟩; have HB2 := Aside0.mk (below_step HS.out.bl hb); have HN1 := Aside0.mk (HN.out.below hb); clear hb p0 p1 p2 p3 z0 z1 z2 z3 q0 q1 q2 q3; have p0 : w1.cell? ⟨(w.heap.size + 1), 0, none⟩ = some (.bool false) := (blk_cell HN1.out.hR 0).trans rfl; have p1 : w1.cell? ⟨(w.heap.size + 1), 1, none⟩ = some (.slice none 0 0) := (blk_cell HN1.out.hR 1).trans rfl; have p2 : w1.cell? ⟨(w.heap.size + 1), 2, none⟩ = some (.slice none 0 0) := (blk_cell HN1.out.hR 2).trans rfl; have p3 : w1.cell? ⟨(w.heap.size + 1), 3, none⟩ = some (.slice none 0 0) := (blk_cell HN1.out.hR 3).trans rfl; have z0 := blk_frozen HN1.out.hR 0; have z1 := blk_frozen HN1.out.hR 1; have z2 := blk_frozen HN1.out.hR 2; have z3 := blk_frozen HN1.out.hR 3; have q0 : w1.cell? ⟨(w.heap.size + 1 + 1), 0, none⟩ = some (.bool true) := (blk_cell HN1.out.hn 0).trans rfl; have q1 : w1.cell? ⟨(w.heap.size + 1 + 1), 1, none⟩ = some (.slice AK d_keys.length cK) := (blk_cell HN1.out.hn 1).trans rfl; have q2 : w1.cell? ⟨(w.heap.size + 1 + 1), 2, none⟩ = some (.slice AV d_vals.length cV) := (blk_cell HN1.out.hn 2).trans rfl; have q3 : w1.cell? ⟨(w.heap.size + 1 + 1), 3, none⟩ = some (.slice AI d_kids.length cI) := (blk_cell HN1.out.hn 3).trans rfl))
            (try simp only [Exit.inBlock, Exit.then])
            refine bodyPost_ret (results_ct rfl _ _ (w.heap.size + 1) 26 #[.bool true, .slice AK d_keys.length cK, .slice AV d_vals.length cV, .slice AI d_kids.length cI] (0, 0) _ rfl (res_block HN1.out.hR _ _ _ _) Try.underlying26 rfl (by kernel_rfl)) rfl ?_
            rw [HRUN.out, ← HIT2.out]
            exact fin_ok (d := ⟨false, d_b, d_keys, d_vals, d_kids⟩) HN1.out HB2.out ⟨rfl, HB1.out, HK2.out⟩
          · rw [if_neg hk2] at hq
            have HQ := Aside0.mk hq
            have HK2 := Aside0.mk hk2
            clear hq hk2
            go_wp2_with (first | (go_at_call 13; refine (node_Check.calls _ true AK cK d_keys AV cV d_vals AI cI d_kids 100 _ HCK.out.2 HCK.out.1 HCV.out.2 HCV.out.1 HCI.out.2 HCI.out.1 HQ.out).mono ?_; rintro e w1 ⟨rfl, hb⟩; have HB2 := Aside0.mk (below_step HS.out.bl hb); have HN1 := Aside0.mk (HN.out.below hb); clear hb p0 p1 p2 p3 z0 z1 z2 z3 q0 q1 q2 q3; have p0 : w1.cell? ⟨(w.heap.size + 1), 0, none⟩ = some (.bool false) := (blk_cell HN1.out.hR 0).trans rfl; have p1 : w1.cell? ⟨(w.heap.size + 1), 1, none⟩ = some (.slice none 0 0) := (blk_cell HN1.out.hR 1).trans rfl; have p2 : w1.cell? ⟨(w.heap.size + 1), 2, none⟩ = some (.slice none 0 0) := (blk_cell HN1.out.hR 2).trans rfl; have p3 : w1.cell? ⟨(w.heap.size + 1), 3, none⟩ = some (.slice none 0 0) := (blk_cell HN1.out.hR 3).trans rfl; have z0 := blk_frozen HN1.out.hR 0; have z1 := blk_frozen HN1.out.hR 1; have z2 := blk_frozen HN1.out.hR 2; have z3 := blk_frozen HN1.out.hR 3; have q0 : w1.cell? ⟨(w.heap.size + 1 + 1), 0, none⟩ = some (.bool true) := (blk_cell HN1.out.hn 0).trans rfl; have q1 : w1.cell? ⟨(w.heap.size + 1 + 1), 1, none⟩ = some (.slice AK d_keys.length cK) := (blk_cell HN1.out.hn 1).trans rfl; have q2 : w1.cell? ⟨(w.heap.size + 1 + 1), 2, none⟩ = some (.slice AV d_vals.length cV) := (blk_cell HN1.out.hn 2).trans rfl; have q3 : w1.cell? ⟨(w.heap.size + 1 + 1), 3, none⟩ = some (.slice AI d_kids.length cI) := (blk_cell HN1.out.hn 3).trans rfl))
            (try simp only [Exit.inBlock, Exit.then])
            refine bodyPost_ret (results_ct rfl _ _ (w.heap.size + 1) 26 #[.bool false, .slice none 0 0, .slice none 0 0, .slice none 0 0] (0, 0) _ rfl (res_block HN1.out.hR _ _ _ _) Try.underlying26 rfl (by kernel_rfl)) rfl ?_
            rw [HRUN.out, ← HIT2.out]
            exact fin_fail HN1.out.hR HB2.out (fun h => HK2.out h.2.2)
        · go_wp2
          (try simp only [Exit.inBlock, Exit.then])
          refine bodyPost_ret (results_ct rfl _ _ (w.heap.size + 1) 26 #[.bool false, .slice none 0 0, .slice none 0 0, .slice none 0 0] (0, 0) _ rfl (res_block HN.out.hR _ _ _ _) Try.underlying26 rfl (by kernel_rfl)) rfl ?_
          rw [HRUN.out, ← HIT2.out]
          exact fin_fail HN.out.hR HS.out.bl (fun h => hb0 (by have h2 : d_b = [] := h.2.1; rw [h2]; rfl))
      · go_wp2
        (try simp only [Exit.inBlock, Exit.then])
        refine bodyPost_ret (results_ct rfl _ _ (w.heap.size + 1) 26 #[.bool false, .slice none 0 0, .slice none 0 0, .slice none 0 0] (0, 0) _ rfl (res_block HN.out.hR _ _ _ _) Try.underlying26 rfl (by kernel_rfl)) rfl ?_
        rw [HRUN.out, ← HIT2.out]
        exact fin_fail HN.out.hR HS.out.bl (by simp [itS])

end Go.Proofs.Ytdjiclphnoepcaa.P
