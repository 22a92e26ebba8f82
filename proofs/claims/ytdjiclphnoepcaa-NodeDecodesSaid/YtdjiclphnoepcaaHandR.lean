/- The node that the document's parse builds, in memory: how it moves, and how it grows. -/
import Derived.Test.YtdjiclphnoepcaaHandQ
set_option linter.unusedVariables false
set_option linter.unusedSimpArgs false
namespace Go.Proofs.Ytdjiclphnoepcaa.P
open Go.RowKit Go.Proofs.YtdjiclphnoepcaaW.PrintWords Go.Proofs.YtdjiclphnoepcaaW.PrintLast Go.Proofs.YtdjiclphnoepcaaW.PrintMore Go.Proofs.YtdjiclphnoepcaaOwn
structure NPt (w0 w : World) (Bn BR : Nat) (leaf : Bool) (keys vals : List ByteArray) (kids : List Int) (vK vV vI : Value) : Prop where
  hn : w.heap[Bn]? = some (Obj.cells #[.bool leaf, vK, vV, vI] 26 (0, 0))
  hR : w.heap[BR]? = some (Obj.cells (Z26 false) 26 (0, 0))
  rk : Kd.R Kd.string 9 w w0.heap.size (fun k => some k ≠ vV.ownBlock) vK keys
  rv : Kd.R Kd.string 9 w w0.heap.size (fun k => some k ≠ vK.ownBlock) vV vals
  ri : Kd.R (Kd.int .i64) 3 w w0.heap.size (fun _ => True) vI kids
  gn : w0.heap.size ≤ Bn
  nr : Bn ≠ BR
section
variable {w0 w w' : World} {Bn BR : Nat} {leaf : Bool} {keys vals : List ByteArray} {kids : List Int} {vK vV vI : Value}
theorem NPt.keepD (h : NPt w0 w Bn BR leaf keys vals kids vK vV vI) (k : KeepD w w') : NPt w0 w' Bn BR leaf keys vals kids vK vV vI :=
  ⟨k.blk h.hn (by decide) (by decide), k.blk h.hR (by decide) (by decide), 
    R_keepD h.rk k (by intro q hq; simp [Kd.string, Kd.scalar] at hq; subst hq; decide), R_keepD h.rv k (by intro q hq; simp [Kd.string, Kd.scalar] at hq; subst hq; decide), R_keepD h.ri k (by intro q hq; simp [Kd.int, Kd.scalar] at hq; subst hq; decide), h.gn, h.nr⟩
theorem NPt.below (h : NPt w0 w Bn BR leaf keys vals kids vK vV vI) (k : Below w.heap.size w w') : NPt w0 w' Bn BR leaf keys vals kids vK vV vI := h.keepD (KeepD.of_below k)
theorem NPt.drew (h : NPt w0 w Bn BR leaf keys vals kids vK vV vI) : NPt w0 w.drew Bn BR leaf keys vals kids vK vV vI := h.keepD (fun _ _ _ _ _ _ _ => rfl)
theorem NPt.pushK (h : NPt w0 w Bn BR leaf keys vals kids vK vV vI) {v1 : Value} {w9 : World} {s : ByteArray} (hO : Kd.R Kd.string 9 w9 w0.heap.size (fun k => some k ≠ vV.ownBlock) v1 (keys ++ [s])) (hg : w.grownBy w9 vK.ownBlock)
    (hat : v1.ownBlock = vK.ownBlock ∨ ∃ b, v1.ownBlock = some b ∧ w.heap.size ≤ b) : NPt w0 (w9.setCell ⟨Bn, 1, none⟩ v1) Bn BR leaf (keys ++ [s]) vals kids v1 vV vI := by
  have neK : ∀ (k : Nat) (cs : Array Value) (t : TypeId), w.heap[k]? = some (Obj.cells cs t (0, 0)) → t ≠ 9 → some k ≠ vK.ownBlock := fun k cs t hk ht => Kd.R_ne h.rk hk (Ne.symm ht)
  have hn9 := blk_grown h.hn hg (neK _ _ _ h.hn (by decide))
  have hv9 : Kd.R Kd.string 9 w9 w0.heap.size (fun k => some k ≠ v1.ownBlock) vV vals := by
    refine Kd.R_mono (Kd.R_grown (Kd.R_bound h.rv) hg (fun k hk => hk.1)) (fun k hk => ?_)
    rcases hat with e | ⟨b, e, hb⟩
    · rw [e]; exact hk.1
    · rw [e]; intro e2; injection e2 with e2; have := hk.2.2.1; omega
  have hi9 : Kd.R (Kd.int .i64) 3 w9 w0.heap.size (fun _ => True) vI kids := Kd.R_mono (Kd.R_grown (Kd.R_bound h.ri) hg (fun k hk => by
    obtain ⟨_, _, _, q, hq, cells, hc⟩ := hk
    simp [Kd.int, Kd.scalar] at hq; subst hq
    exact neK k cells 3 hc (by decide))) (fun _ _ => trivial)
  exact ⟨blk_put hn9 1 _ rfl, blk_far (blk_grown h.hR hg (neK _ _ _ h.hR (by decide))) (Ne.symm h.nr) _,
    Kd.R_set hO hn9 (by intro q hq; simp [Kd.string, Kd.scalar] at hq; subst hq; decide) _ _, Kd.R_set hv9 hn9 (by intro q hq; simp [Kd.string, Kd.scalar] at hq; subst hq; decide) _ _, Kd.R_set hi9 hn9 (by intro q hq; simp [Kd.int, Kd.scalar] at hq; subst hq; decide) _ _, h.gn, h.nr⟩
theorem NPt.pushV (h : NPt w0 w Bn BR leaf keys vals kids vK vV vI) {v1 : Value} {w9 : World} {s : ByteArray} (hO : Kd.R Kd.string 9 w9 w0.heap.size (fun k => some k ≠ vK.ownBlock) v1 (vals ++ [s])) (hg : w.grownBy w9 vV.ownBlock)
    (hat : v1.ownBlock = vV.ownBlock ∨ ∃ b, v1.ownBlock = some b ∧ w.heap.size ≤ b) : NPt w0 (w9.setCell ⟨Bn, 2, none⟩ v1) Bn BR leaf keys (vals ++ [s]) kids vK v1 vI := by
  have neV : ∀ (k : Nat) (cs : Array Value) (t : TypeId), w.heap[k]? = some (Obj.cells cs t (0, 0)) → t ≠ 9 → some k ≠ vV.ownBlock := fun k cs t hk ht => Kd.R_ne h.rv hk (Ne.symm ht)
  have hn9 := blk_grown h.hn hg (neV _ _ _ h.hn (by decide))
  have hk9 : Kd.R Kd.string 9 w9 w0.heap.size (fun k => some k ≠ v1.ownBlock) vK keys := by
    refine Kd.R_mono (Kd.R_grown (Kd.R_bound h.rk) hg (fun k hk => hk.1)) (fun k hk => ?_)
    rcases hat with e | ⟨b, e, hb⟩
    · rw [e]; exact hk.1
    · rw [e]; intro e2; injection e2 with e2; have := hk.2.2.1; omega
  have hi9 : Kd.R (Kd.int .i64) 3 w9 w0.heap.size (fun _ => True) vI kids := Kd.R_mono (Kd.R_grown (Kd.R_bound h.ri) hg (fun k hk => by
    obtain ⟨_, _, _, q, hq, cells, hc⟩ := hk
    simp [Kd.int, Kd.scalar] at hq; subst hq
    exact neV k cells 3 hc (by decide))) (fun _ _ => trivial)
  exact ⟨blk_put hn9 2 _ rfl, blk_far (blk_grown h.hR hg (neV _ _ _ h.hR (by decide))) (Ne.symm h.nr) _,
    Kd.R_set hk9 hn9 (by intro q hq; simp [Kd.string, Kd.scalar] at hq; subst hq; decide) _ _, Kd.R_set hO hn9 (by intro q hq; simp [Kd.string, Kd.scalar] at hq; subst hq; decide) _ _, Kd.R_set hi9 hn9 (by intro q hq; simp [Kd.int, Kd.scalar] at hq; subst hq; decide) _ _, h.gn, h.nr⟩
theorem NPt.pushI (h : NPt w0 w Bn BR leaf keys vals kids vK vV vI) {v1 : Value} {w9 : World} {x : Int} (hO : Kd.R (Kd.int .i64) 3 w9 w0.heap.size (fun _ => True) v1 (kids ++ [x])) (hg : w.grownBy w9 vI.ownBlock) : NPt w0 (w9.setCell ⟨Bn, 3, none⟩ v1) Bn BR leaf keys vals (kids ++ [x]) vK vV v1 := by
  have neI : ∀ (k : Nat) (cs : Array Value) (t : TypeId), w.heap[k]? = some (Obj.cells cs t (0, 0)) → t ≠ 3 → some k ≠ vI.ownBlock := fun k cs t hk ht => Kd.R_ne h.ri hk (Ne.symm ht)
  have hn9 := blk_grown h.hn hg (neI _ _ _ h.hn (by decide))
  have mv : ∀ {ok : Nat → Prop} {v : Value} {xs : List ByteArray}, Kd.R Kd.string 9 w w0.heap.size ok v xs → Kd.R Kd.string 9 w9 w0.heap.size ok v xs := fun hr => Kd.R_mono (Kd.R_grown (Kd.R_bound hr) hg (fun k hk => by
    obtain ⟨_, _, _, q, hq, cells, hc⟩ := hk
    simp [Kd.string, Kd.scalar] at hq; subst hq
    exact neI k cells 9 hc (by decide))) (fun _ hk => hk.1)
  exact ⟨blk_put hn9 3 _ rfl, blk_far (blk_grown h.hR hg (neI _ _ _ h.hR (by decide))) (Ne.symm h.nr) _,
    Kd.R_set (mv h.rk) hn9 (by intro q hq; simp [Kd.string, Kd.scalar] at hq; subst hq; decide) _ _, Kd.R_set (mv h.rv) hn9 (by intro q hq; simp [Kd.string, Kd.scalar] at hq; subst hq; decide) _ _, Kd.R_set hO hn9 (by intro q hq; simp [Kd.int, Kd.scalar] at hq; subst hq; decide) _ _, h.gn, h.nr⟩
end
end Go.Proofs.Ytdjiclphnoepcaa.P
