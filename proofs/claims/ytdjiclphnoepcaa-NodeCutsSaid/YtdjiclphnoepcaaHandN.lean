/- The node that node.Decode builds, in memory: how it moves, and how it grows. -/
import Derived.Test.YtdjiclphnoepcaaHandD
set_option linter.unusedVariables false
set_option linter.unusedSimpArgs false
namespace Go.Proofs.Ytdjiclphnoepcaa.P
open Go.RowKit Go.Proofs.YtdjiclphnoepcaaW.PrintWords Go.Proofs.YtdjiclphnoepcaaW.PrintLast Go.Proofs.YtdjiclphnoepcaaW.PrintMore Go.Proofs.YtdjiclphnoepcaaOwn
theorem St.drew {w0 w : World} {Bs Bb : Nat} {sh : Bool} {b : List Int} {A : Option Addr} {c : Nat} (h : St w0 w Bs Bb sh b A c) : St w0 w.drew Bs Bb sh b A c := ⟨h.hs, h.hb, h.hc, h.hr, h.gs, h.gb, h.bl.drew⟩
def Z26 (leaf : Bool) : Array Value := #[.bool leaf, .slice none 0 0, .slice none 0 0, .slice none 0 0]
theorem start_facts (leaf : Bool) (A1 : Option Addr) (c1 : Nat) (b : List Int) (w : World) (hr : Kd.C (Kd.int .u8) w A1 b.length b) (hc : b.length ≤ c1) (W : World)
    (hW : W = ((((w.alloc (.cells #[.slice A1 b.length c1] 28)).alloc (.cells (Z26 false) 26)).alloc (.cells (Z26 leaf) 26)).alloc (.cells #[.bool false] 4)).alloc (.cells #[FB (w.heap.size + 1 + 1 + 1) w.heap.size] 43)) :
    St w W (w.heap.size + 1 + 1 + 1) w.heap.size false b A1 c1 ∧ W.heap[w.heap.size + 1 + 1 + 1 + 1]? = some (Obj.cells #[FB (w.heap.size + 1 + 1 + 1) w.heap.size] 43 (0, 0)) ∧
      W.heap[w.heap.size + 1 + 1]? = some (Obj.cells (Z26 leaf) 26 (0, 0)) ∧ W.heap[w.heap.size + 1]? = some (Obj.cells (Z26 false) 26 (0, 0)) := by
  subst hW
  have n1 := blk_new w (.cells #[.slice A1 b.length c1] 28)
  have n2 := blk_new (w.alloc (.cells #[.slice A1 b.length c1] 28)) (.cells (Z26 false) 26)
  have n3 := blk_new ((w.alloc (.cells #[.slice A1 b.length c1] 28)).alloc (.cells (Z26 false) 26)) (.cells (Z26 leaf) 26)
  have n4 := blk_new (((w.alloc (.cells #[.slice A1 b.length c1] 28)).alloc (.cells (Z26 false) 26)).alloc (.cells (Z26 leaf) 26)) (.cells #[.bool false] 4)
  have n5 := blk_new ((((w.alloc (.cells #[.slice A1 b.length c1] 28)).alloc (.cells (Z26 false) 26)).alloc (.cells (Z26 leaf) 26)).alloc (.cells #[.bool false] 4)) (.cells #[FB (w.heap.size + 1 + 1 + 1) w.heap.size] 43)
  simp only [World.size_alloc] at n1 n2 n3 n4 n5
  refine ⟨⟨blk_alloc n4 _, blk_alloc (blk_alloc (blk_alloc (blk_alloc n1 _) _) _) _, hc, hr, by omega, Nat.le_refl _, ?_⟩, n5, blk_alloc (blk_alloc n3 _) _, blk_alloc (blk_alloc (blk_alloc n2 _) _) _⟩
  exact below_alloc (below_alloc (below_alloc (below_alloc (below_alloc (Below.refl _ w) _) _) _) _) _
theorem R_keepD {α : Type} {d : Kd α} {e : Nat} {w w' : World} {base : Nat} {ok : Nat → Prop} {v : Value} {xs : List α} (h : d.R e w base ok v xs) (hk : KeepD w w') (ht : ∀ q, q ∈ e :: d.E → q ≠ 4 ∧ q ≠ 28) : d.R e w' base ok v xs :=
  Kd.R_mono (Kd.R_move (Kd.R_bound h) (fun k hk2 => by
    obtain ⟨_, _, _, q, hq, cells, hc⟩ := hk2
    exact hk k cells q _ hc (ht q hq).1 (ht q hq).2)) (fun _ hk2 => hk2.1)
structure NSt (w0 w : World) (Bn BR BT : Nat) (F : Value) (leaf : Bool) (keys vals : List ByteArray) (kids : List Int) (vK vV vI : Value) : Prop where
  hn : w.heap[Bn]? = some (Obj.cells #[.bool leaf, vK, vV, vI] 26 (0, 0))
  hR : w.heap[BR]? = some (Obj.cells (Z26 false) 26 (0, 0))
  hT : w.heap[BT]? = some (Obj.cells #[F] 43 (0, 0))
  rk : Kd.R Kd.string 9 w w0.heap.size (fun k => some k ≠ vV.ownBlock) vK keys
  rv : Kd.R Kd.string 9 w w0.heap.size (fun k => some k ≠ vK.ownBlock) vV vals
  ri : Kd.R (Kd.int .i64) 3 w w0.heap.size (fun _ => True) vI kids
  gn : w0.heap.size ≤ Bn
  nr : Bn ≠ BR
section
variable {w0 w w' : World} {Bn BR BT : Nat} {F : Value} {leaf : Bool} {keys vals : List ByteArray} {kids : List Int} {vK vV vI : Value}
theorem NSt.keepD (h : NSt w0 w Bn BR BT F leaf keys vals kids vK vV vI) (k : KeepD w w') : NSt w0 w' Bn BR BT F leaf keys vals kids vK vV vI :=
  ⟨k.blk h.hn (by decide) (by decide), k.blk h.hR (by decide) (by decide), k.blk h.hT (by decide) (by decide),
    R_keepD h.rk k (by intro q hq; simp [Kd.string, Kd.scalar] at hq; subst hq; decide), R_keepD h.rv k (by intro q hq; simp [Kd.string, Kd.scalar] at hq; subst hq; decide), R_keepD h.ri k (by intro q hq; simp [Kd.int, Kd.scalar] at hq; subst hq; decide), h.gn, h.nr⟩
theorem NSt.below (h : NSt w0 w Bn BR BT F leaf keys vals kids vK vV vI) (k : Below w.heap.size w w') : NSt w0 w' Bn BR BT F leaf keys vals kids vK vV vI := h.keepD (KeepD.of_below k)
theorem NSt.drew (h : NSt w0 w Bn BR BT F leaf keys vals kids vK vV vI) : NSt w0 w.drew Bn BR BT F leaf keys vals kids vK vV vI := h.keepD (fun _ _ _ _ _ _ _ => rfl)
theorem own_fresh {d : Kd ByteArray} {e base : Nat} {ok : Nat → Prop} {v : Value} {xs : List ByteArray} (h : d.R e w base ok v xs) : ∀ k, w.heap.size ≤ k → some k ≠ v.ownBlock := fun k hk he => by
  obtain ⟨inner, ho⟩ := Kd.R_own h
  have := own_lt ho k he.symm
  omega
theorem NSt.pushK (h : NSt w0 w Bn BR BT F leaf keys vals kids vK vV vI) {v1 : Value} {w9 : World} {s : ByteArray} (hO : Kd.R Kd.string 9 w9 w0.heap.size (fun k => some k ≠ vV.ownBlock) v1 (keys ++ [s])) (hg : w.grownBy w9 vK.ownBlock)
    (hat : v1.ownBlock = vK.ownBlock ∨ ∃ b, v1.ownBlock = some b ∧ w.heap.size ≤ b) : NSt w0 (w9.setCell ⟨Bn, 1, none⟩ v1) Bn BR BT F leaf (keys ++ [s]) vals kids v1 vV vI := by
  have neK : ∀ (k : Nat) (cs : Array Value) (t : TypeId), w.heap[k]? = some (Obj.cells cs t (0, 0)) → t ≠ 9 → some k ≠ vK.ownBlock := fun k cs t hk ht => Kd.R_ne h.rk hk (Ne.symm ht)
  have hn9 := blk_grown h.hn hg (neK _ _ _ h.hn (by decide))
  have hv9 : Kd.R Kd.string 9 w9 w0.heap.size (fun k => some k ≠ v1.ownBlock) vV vals := by
    refine Kd.R_mono (Kd.R_grown (Kd.R_bound h.rv) hg (fun k hk => hk.1)) (fun k hk => ?_)
    rcases hat with e | ⟨b, e, hb⟩
    · rw [e]; exact hk.1
    · rw [e]; intro e2; injection e2 with e2; have := hk.2.2.1; omega
  have hi9 : Kd.R (Kd.int .i64) 3 w9 w0.heap.size (fun _ => True) vI kids := Kd.R_mono (Kd.R_grown (Kd.R_bound h.ri) hg (fun k hk => by
    obtain ⟨_, _, _, q, hq, cells, hc⟩ := hk
    simp [Kd.int, Kd.scalar] at hq; subst hq
    exact neK k cells 3 hc (by decide))) (fun _ _ => trivial)
  exact ⟨blk_put hn9 1 _ rfl, blk_far (blk_grown h.hR hg (neK _ _ _ h.hR (by decide))) (Ne.symm h.nr) _, blk_far (blk_grown h.hT hg (neK _ _ _ h.hT (by decide))) (Ne.symm (blk_ne h.hn h.hT (by decide))) _,
    Kd.R_set hO hn9 (by intro q hq; simp [Kd.string, Kd.scalar] at hq; subst hq; decide) _ _, Kd.R_set hv9 hn9 (by intro q hq; simp [Kd.string, Kd.scalar] at hq; subst hq; decide) _ _, Kd.R_set hi9 hn9 (by intro q hq; simp [Kd.int, Kd.scalar] at hq; subst hq; decide) _ _, h.gn, h.nr⟩
theorem NSt.pushV (h : NSt w0 w Bn BR BT F leaf keys vals kids vK vV vI) {v1 : Value} {w9 : World} {s : ByteArray} (hO : Kd.R Kd.string 9 w9 w0.heap.size (fun k => some k ≠ vK.ownBlock) v1 (vals ++ [s])) (hg : w.grownBy w9 vV.ownBlock)
    (hat : v1.ownBlock = vV.ownBlock ∨ ∃ b, v1.ownBlock = some b ∧ w.heap.size ≤ b) : NSt w0 (w9.setCell ⟨Bn, 2, none⟩ v1) Bn BR BT F leaf keys (vals ++ [s]) kids vK v1 vI := by
  have neV : ∀ (k : Nat) (cs : Array Value) (t : TypeId), w.heap[k]? = some (Obj.cells cs t (0, 0)) → t ≠ 9 → some k ≠ vV.ownBlock := fun k cs t hk ht => Kd.R_ne h.rv hk (Ne.symm ht)
  have hn9 := blk_grown h.hn hg (neV _ _ _ h.hn (by decide))
  have hk9 : Kd.R Kd.string 9 w9 w0.heap.size (fun k => some k ≠ v1.ownBlock) vK keys := by
    refine Kd.R_mono (Kd.R_grown (Kd.R_bound h.rk) hg (fun k hk => hk.1)) (fun k hk => ?_)
    rcases hat with e | ⟨b, e, hb⟩
    · rw [e]; exact hk.1
    · rw [e]; intro e2; injection e2 with e2; have := hk.2.2.1; omega
  have hi9 : Kd.R (Kd.int .i64) 3 w9 w0.heap.size (fun _ => True) vI kids := Kd.R_mono (Kd.R_grown (Kd.R_bound h.ri) hg (fun k hk => by
    obtain ⟨_, _, _, q, hq, cells, hc⟩ := hk
    simp [Kd.int, Kd.scalar] at hq; subst hq
    exact neV k cells 3 hc (by decide))) (fun _ _ => trivial)
  exact ⟨blk_put hn9 2 _ rfl, blk_far (blk_grown h.hR hg (neV _ _ _ h.hR (by decide))) (Ne.symm h.nr) _, blk_far (blk_grown h.hT hg (neV _ _ _ h.hT (by decide))) (Ne.symm (blk_ne h.hn h.hT (by decide))) _,
    Kd.R_set hk9 hn9 (by intro q hq; simp [Kd.string, Kd.scalar] at hq; subst hq; decide) _ _, Kd.R_set hO hn9 (by intro q hq; simp [Kd.string, Kd.scalar] at hq; subst hq; decide) _ _, Kd.R_set hi9 hn9 (by intro q hq; simp [Kd.int, Kd.scalar] at hq; subst hq; decide) _ _, h.gn, h.nr⟩
theorem NSt.pushI (h : NSt w0 w Bn BR BT F leaf keys vals kids vK vV vI) {v1 : Value} {w9 : World} {x : Int} (hO : Kd.R (Kd.int .i64) 3 w9 w0.heap.size (fun _ => True) v1 (kids ++ [x])) (hg : w.grownBy w9 vI.ownBlock) : NSt w0 (w9.setCell ⟨Bn, 3, none⟩ v1) Bn BR BT F leaf keys vals (kids ++ [x]) vK vV v1 := by
  have neI : ∀ (k : Nat) (cs : Array Value) (t : TypeId), w.heap[k]? = some (Obj.cells cs t (0, 0)) → t ≠ 3 → some k ≠ vI.ownBlock := fun k cs t hk ht => Kd.R_ne h.ri hk (Ne.symm ht)
  have hn9 := blk_grown h.hn hg (neI _ _ _ h.hn (by decide))
  have mv : ∀ {ok : Nat → Prop} {v : Value} {xs : List ByteArray}, Kd.R Kd.string 9 w w0.heap.size ok v xs → Kd.R Kd.string 9 w9 w0.heap.size ok v xs := fun hr => Kd.R_mono (Kd.R_grown (Kd.R_bound hr) hg (fun k hk => by
    obtain ⟨_, _, _, q, hq, cells, hc⟩ := hk
    simp [Kd.string, Kd.scalar] at hq; subst hq
    exact neI k cells 9 hc (by decide))) (fun _ hk => hk.1)
  exact ⟨blk_put hn9 3 _ rfl, blk_far (blk_grown h.hR hg (neI _ _ _ h.hR (by decide))) (Ne.symm h.nr) _, blk_far (blk_grown h.hT hg (neI _ _ _ h.hT (by decide))) (Ne.symm (blk_ne h.hn h.hT (by decide))) _,
    Kd.R_set (mv h.rk) hn9 (by intro q hq; simp [Kd.string, Kd.scalar] at hq; subst hq; decide) _ _, Kd.R_set (mv h.rv) hn9 (by intro q hq; simp [Kd.string, Kd.scalar] at hq; subst hq; decide) _ _, Kd.R_set hO hn9 (by intro q hq; simp [Kd.int, Kd.scalar] at hq; subst hq; decide) _ _, h.gn, h.nr⟩
/-- The reader's two variables, behind what an append and a store do elsewhere. -/
theorem St.push {Bs Bb : Nat} {sh : Bool} {b : List Int} {A : Option Addr} {c : Nat} (h : St w0 w Bs Bb sh b A c) {w9 : World} {v v1 : Value} {e : Nat} {j : Nat} (hg : w.grownBy w9 v.ownBlock) (ht : ∀ k, v.ownBlock = some k → ∃ cells, w.heap[k]? = some (.cells cells e (0, 0))) (he : e ≠ 4 ∧ e ≠ 28)
    {cs : Array Value} (hn : w.heap[Bn]? = some (Obj.cells cs 26 (0, 0))) (gn : w0.heap.size ≤ Bn) (hB : Below w0.heap.size w0 w9) : St w0 (w9.setCell ⟨Bn, j, none⟩ v1) Bs Bb sh b A c := by
  have ne : ∀ (k : Nat) (cs : Array Value) (t : TypeId), w.heap[k]? = some (Obj.cells cs t (0, 0)) → t ≠ e → some k ≠ v.ownBlock := fun k cs t hk hte he2 => by
    obtain ⟨c2, hc2⟩ := ht k he2.symm
    rw [hk] at hc2
    injection hc2 with hc2
    injection hc2 with _ hc2
    exact hte hc2
  exact ⟨blk_far (blk_grown h.hs hg (ne _ _ _ h.hs (Ne.symm he.1))) (blk_ne h.hs hn (by decide)) _, blk_far (blk_grown h.hb hg (ne _ _ _ h.hb (Ne.symm he.2))) (blk_ne h.hb hn (by decide)) _, h.hc, h.hr, h.gs, h.gb, hB.setCell gn _⟩
end
end Go.Proofs.Ytdjiclphnoepcaa.P
