/- The contract of node.Decode, by hand: the calls that it turns down at once; all together. -/
import Derived.Test.YtdjiclphnoepcaaHandF
import Derived.Test.YtdjiclphnoepcaaHandG
set_option linter.unusedVariables false
set_option linter.unusedSimpArgs false
namespace Go.Proofs.Ytdjiclphnoepcaa.P
open Go.RowKit Go.Proofs.YtdjiclphnoepcaaW.PrintWords Go.Proofs.YtdjiclphnoepcaaW.PrintLast Go.Proofs.YtdjiclphnoepcaaW.PrintMore Go.Proofs.YtdjiclphnoepcaaOwn
set_option maxHeartbeats 8000000 in
set_option maxRecDepth 100000 in
theorem dec_bad (a0 : Int) (A1 : Option Addr) (c1 : Nat) (b : List Int) (w : World) (h : ¬ ((a0 = 2 ∨ a0 = 3) ∧ b.length ≤ 1000)) :
    Calls Try.prog 17 #[.int .i64 a0, .slice A1 b.length c1] w fun e w' => DPost w (false, [], [], [], 100) e w' := by
  have hu := Try.underlying26
  have HX := Aside0.mk (blk_new (w.alloc (.cells #[.slice A1 b.length c1] 28)) (.cells (Z26 false) 26))
  have HE := Aside0.mk (show DPost w (false, [], [], [], 100) (.returned (.tuple #[.agg #[.bool false, .slice none 0 0, .slice none 0 0, .slice none 0 0], .int .i64 100])) ((w.alloc (.cells #[.slice A1 b.length c1] 28)).alloc (.cells (Z26 false) 26)) from
    ⟨_, _, _, rfl, Kd.R_nil _ _ _ _ _, Kd.R_nil _ _ _ _ _, Kd.R_nil _ _ _ _ _, below_alloc (below_alloc (Below.refl _ w) _) _⟩)
  by_cases h2 : a0 = 2
  · subst h2
    have hl : 1000 < b.length := by simp at h; omega
    clear h
    go_enter Try.func17, Try.ntmps17
    go_wp2_with (first | (refine wp_scope_body ?_) | go_step3)
    (try simp only [Exit.inBlock, Exit.then])
    refine bodyPost_ret (results_ct rfl _ _ (w.heap.size + 1) 26 #[.bool false, .slice none 0 0, .slice none 0 0, .slice none 0 0] (0, 0) _ rfl (by have h := HX.out; rw [World.size_alloc] at h; exact h) Try.underlying26 rfl (by kernel_rfl)) rfl ?_
    exact HE.out
  · by_cases h3 : a0 = 3
    · subst h3
      have hl : 1000 < b.length := by simp at h; omega
      clear h
      go_enter Try.func17, Try.ntmps17
      go_wp2_with (first | (refine wp_scope_body ?_) | go_step3)
      (try simp only [Exit.inBlock, Exit.then])
      refine bodyPost_ret (results_ct rfl _ _ (w.heap.size + 1) 26 #[.bool false, .slice none 0 0, .slice none 0 0, .slice none 0 0] (0, 0) _ rfl (by have h := HX.out; rw [World.size_alloc] at h; exact h) Try.underlying26 rfl (by kernel_rfl)) rfl ?_
      exact HE.out
    · clear h
      have h2b : (a0 != 2) = true := bne_iff_ne.mpr h2
      have h3b : (a0 != 3) = true := bne_iff_ne.mpr h3
      go_enter Try.func17, Try.ntmps17
      go_wp2_with (first | (refine wp_scope_body ?_) | go_step3)
      (try simp only [Exit.inBlock, Exit.then])
      refine bodyPost_ret (results_ct rfl _ _ (w.heap.size + 1) 26 #[.bool false, .slice none 0 0, .slice none 0 0, .slice none 0 0] (0, 0) _ rfl (by have h := HX.out; rw [World.size_alloc] at h; exact h) Try.underlying26 rfl (by kernel_rfl)) rfl ?_
      exact HE.out
/-- What node.Decode answers. -/
def decF (a0 : Int) (l : List Int) : Bool × List ByteArray × List ByteArray × List Int × Int := if (a0 = 2 ∨ a0 = 3) ∧ l.length ≤ 1000 then resS (decide (a0 = 2)) (runS (decide (a0 = 2)) l) else (false, [], [], [], 100)
def node_Decode.f (a0 : Int) (l1 : List Int) : Option (Bool × List ByteArray × List ByteArray × List Int × Int) := if ∀ x ∈ l1, 0 ≤ x ∧ x ≤ 255 then some (decF a0 l1) else none
theorem node_Decode.calls (a0 : Int) (A1 : Option Addr) (c1 : Nat) (l1 : List Int) (r1 : Bool) (r2 : List ByteArray) (r3 : List ByteArray) (r4 : List Int) (r5 : Int) (w : World) (hr1 : Kd.C (Kd.int .u8) w A1 l1.length l1) (hc1 : l1.length ≤ c1) (h : node_Decode.f a0 l1 = some (r1, r2, r3, r4, r5)) :
    Calls Try.prog 17 #[.int .i64 a0, .slice A1 l1.length c1] w fun e w' => ∃ v1_ v2_ v3_ : Value, e = .returned (.tuple #[.agg #[.bool r1, v1_, v2_, v3_], .int .i64 r5]) ∧ Kd.R Kd.string 9 w' w.heap.size (fun k_ => some k_ ≠ (v2_ : Value).ownBlock) v1_ r2 ∧ Kd.R Kd.string 9 w' w.heap.size (fun k_ => some k_ ≠ (v1_ : Value).ownBlock) v2_ r3 ∧ Kd.R (Kd.int .i64) 3 w' w.heap.size (fun _ => True) v3_ r4 ∧ Below w.heap.size w w' := by
  unfold node_Decode.f at h
  split at h
  case isFalse => cases h
  rename_i hb
  have h := Option.some.inj h
  unfold decF at h
  by_cases hg : (a0 = 2 ∨ a0 = 3) ∧ l1.length ≤ 1000
  · rw [if_pos hg] at h
    rcases hg.1 with rfl | rfl
    · refine (dec_leaf A1 c1 l1 w hr1 hc1 hg.2 hb).mono ?_
      intro e w' he
      rw [show resS true (runS true l1) = (r1, r2, r3, r4, r5) from h] at he
      exact he
    · refine (dec_inner A1 c1 l1 w hr1 hc1 hg.2 hb).mono ?_
      intro e w' he
      rw [show resS false (runS false l1) = (r1, r2, r3, r4, r5) from h] at he
      exact he
  · rw [if_neg hg] at h
    refine (dec_bad a0 A1 c1 l1 w hg).mono ?_
    intro e w' he
    rw [h] at he
    exact he
end Go.Proofs.Ytdjiclphnoepcaa.P
