/- The contract of node.Encode, by hand: its closures, its loops. -/
import Derived.Test.YtdjiclphnoepcaaNS
set_option linter.unusedVariables false
set_option linter.unusedSimpArgs false
namespace Go.Proofs.Ytdjiclphnoepcaa.P
open Go.RowKit Go.Proofs.YtdjiclphnoepcaaW.PrintWords Go.Proofs.YtdjiclphnoepcaaW.PrintLast Go.Proofs.YtdjiclphnoepcaaW.PrintMore Go.Proofs.YtdjiclphnoepcaaOwn
/-- Blocks of other types stay. -/
def KeepT (w w' : World) : Prop := ∀ (k : Nat) (cs : Array Value) (t : TypeId) (fr : Nat × Nat), w.heap[k]? = some (Obj.cells cs t fr) → t ≠ 28 → t ≠ 5 → w'.heap[k]? = w.heap[k]?
theorem KeepT.trans {w w1 w2 : World} (h : KeepT w w1) (k : KeepT w1 w2) : KeepT w w2 := fun b cs t fr hb h1 h2 => by
  have e := h b cs t fr hb h1 h2
  rw [k b cs t fr (e.trans hb) h1 h2, e]
theorem KeepT.refl (w : World) : KeepT w w := fun _ _ _ _ _ _ _ => rfl
theorem KeepT.blk {w w' : World} (h : KeepT w w') {k : Nat} {cs : Array Value} {t : TypeId} (hb : w.heap[k]? = some (Obj.cells cs t (0, 0))) (h1 : t ≠ 28) (h2 : t ≠ 5) : w'.heap[k]? = some (Obj.cells cs t (0, 0)) := (h k cs t _ hb h1 h2).trans hb
theorem KeepT.of_below {w w' : World} (h : Below w.heap.size w w') : KeepT w w' := fun k _ _ _ hb _ _ => h.block k (blk_lt hb)
theorem KeepT.of_grown {w w' : World} {row : Option Nat} (h : w.grownBy w' row) (hr : ∀ k, row = some k → ∃ cells, w.heap[k]? = some (.cells cells 5 (0, 0))) : KeepT w w' := fun k cs t fr hb h1 h2 => by
  refine h.block k (blk_lt hb) (fun e => ?_)
  obtain ⟨c, hc⟩ := hr k e.symm
  rw [hb] at hc
  injection hc with hc
  injection hc with _ hc
  exact h2 hc
theorem KeepT.of_set {w : World} {B j : Nat} {cs : Array Value} (hB : w.heap[B]? = some (Obj.cells cs 28 (0, 0))) (v : Value) : KeepT w (w.setCell ⟨B, j, none⟩ v) := fun k cs' t fr hb h1 _ => by
  refine Below.heap_setCell w ⟨B, j, none⟩ v k (fun e => ?_)
  have e2 : k = B := e
  subst e2
  rw [hB] at hb
  injection hb with hb
  injection hb with _ hb
  exact h1 hb.symm
/-- The bytes so far, in a variable of their own. -/
def Boxed (w0 w : World) (B : Nat) (xs : List Int) : Prop :=
  ∃ v, w.heap[B]? = some (.cells #[v] 28 (0, 0)) ∧ w.ownsRow w0.heap.size 5 1 v xs.length (nums .u8 xs) ∧ w0.heap.size ≤ B ∧ Below w0.heap.size w0 w
def tx (s : ByteArray) : List Int := ((s.size : Int) % 256) :: bytesOf s
def four (x : Int) : List Int := [(x / 16777216) % 256, (x / 65536) % 256, (x / 256) % 256, x % 256]
set_option maxHeartbeats 8000000 in
set_option maxRecDepth 100000 in
theorem text_any (w0 w : World) (B : Nat) (xs : List Int) (s : ByteArray) (hb : Boxed w0 w B xs) (hl : xs.length + s.size + 1 ≤ 140737488355328) :
    Calls Try.prog 20 #[.string s, .pointer (some ⟨B, 0, none⟩)] w fun e w' => e = .returned (.tuple #[]) ∧ Boxed w0 w' B (xs ++ tx s) ∧ KeepT w w' := by
  obtain ⟨v, hB, hO, hge, hBl⟩ := hb
  have hc : w.cell? ⟨B, 0, none⟩ = some v := (blk_cell hB 0).trans rfl
  have HL := Aside0.mk hl
  have HO := Aside0.mk hO
  have HBl := Aside0.mk hBl
  have HB := Aside0.mk hB
  clear hl hO hBl hB
  have HGE := Aside0.mk hge
  clear hge
  go_enter Try.func20, Try.ntmps20
  go_wp2_with (first | (at_builtin; refine print_append_num (w0 := w0) w0.heap.size rfl (.tmp 3) (.tmp 7) 28 5 .u8 1 rfl Try.underlying28 info5 (by decide) v xs ((s.size : Int) % 256) rfl rfl ?aO ?aB ?aS ?aL ?_; (case aO => exact HO.out); (case aB => exact HBl.out); (case aS => exact HBl.out.size); (case aL => have := HL.out; omega); intro v1 w1 hO1 hB1 hg1 _; have HO1 := Aside0.mk hO1; have HB1 := Aside0.mk hB1; have HG1 := Aside0.mk hg1; clear hO1 hB1 hg1) | (at_builtin; refine print_append_str (w0 := w0) w0.heap.size rfl (.tmp 8) (.tmp 9) 28 9 5 rfl Try.underlying28 Try.underlying9 info5 v1 (xs ++ [((s.size : Int) % 256)]) s rfl rfl ?bO ?bB ?bS ?bL ?_; (case bO => exact HO1.out); (case bB => exact HB1.out); (case bS => exact HB1.out.size); (case bL => have := HL.out; simp; omega); intro v2 w2 hO2 hB2 hg2; obtain ⟨A2, c2, rfl⟩ := own_slice hO2; have HO2 := Aside0.mk hO2; have HB2 := Aside0.mk hB2; have HG2 := Aside0.mk hg2; clear hO2 hB2 hg2; have HK1 := Aside0.mk (blk_grown HB.out HG1.out (own_ne HO.out HB.out (by decide))); have HK2 := Aside0.mk (blk_grown HK1.out HG2.out (own_ne HO1.out HK1.out (by decide))); have hc2 : w2.cell? ⟨B, 0, none⟩ = some v := (blk_cell HK2.out 0).trans rfl; have hf2 := blk_frozen HK2.out 0))
  first | go_end0 | ((try simp only [Exit.inBlock, Exit.then]); refine bodyPost_ret (results_none rfl _ _ _) rfl ?_)
  refine ⟨rfl, ⟨_, blk_put HK2.out 0 _ rfl, ?_, HGE.out, (HB2.out.setCell HGE.out _)⟩, ?_⟩
  · have e : xs ++ tx s = xs ++ [((s.size : Int) % 256)] ++ bytesOf s := by simp [tx]
    rw [e]
    have h := own_setCell (p := ⟨B, 0, none⟩) HO2.out (own_ne HO2.out HK2.out (by decide)) (.slice A2 (xs ++ [((s.size : Int) % 256)] ++ bytesOf s).length c2)
    simp only [List.length_append, List.length_cons, List.length_nil, Nat.add_assoc] at h ⊢
    simpa [Nat.add_comm, Nat.add_left_comm] using h
  · refine ((KeepT.of_grown HG1.out (fun k hk => own_typed HO.out k hk)).trans (KeepT.of_grown HG2.out (fun k hk => own_typed HO1.out k hk))).trans (KeepT.of_set HK2.out _)

set_option maxHeartbeats 8000000 in
set_option maxRecDepth 100000 in
theorem kid_any (w0 w : World) (B : Nat) (xs : List Int) (x : Int) (hb : Boxed w0 w B xs) (hx0 : 0 ≤ x) (hx1 : x ≤ 9223372036854775807) (hl : xs.length + 4 ≤ 140737488355328) :
    Calls Try.prog 21 #[.int .i64 x, .pointer (some ⟨B, 0, none⟩)] w fun e w' => e = .returned (.tuple #[]) ∧ Boxed w0 w' B (xs ++ four x) ∧ KeepT w w' := by
  obtain ⟨v, hB, hO, hge, hBl⟩ := hb
  have hc : w.cell? ⟨B, 0, none⟩ = some v := (blk_cell hB 0).trans rfl
  have HL := Aside0.mk hl
  have HO := Aside0.mk hO
  have HBl := Aside0.mk hBl
  have HB := Aside0.mk hB
  clear hl hO hBl hB
  have HGE := Aside0.mk hge
  clear hge
  have HLIT := Aside0.mk (own_lit w w0.heap.size 5 .u8 (four x) HBl.out.size (by simp [four]))
  have HNB := Aside0.mk (blk_alloc HB.out (.cells #[.int .u8 ((x / 16777216) % 256), .int .u8 ((x / 65536) % 256), .int .u8 ((x / 256) % 256), .int .u8 (x % 256)] 5))
  go_enter Try.func21, Try.ntmps21
  go_wp2_with (first | (at_builtin; refine print_append_row (w0 := w0) w0.heap.size rfl (.tmp 3) (.tmp 15) 28 5 .u8 1 rfl Try.underlying28 info5 (by decide) v xs (four x) _ _ _ rfl rfl ?aO ?aR ?aB ?aS ?aL ?_; (case aO => exact HO.out.alloc _); (case aR => exact own_reads' HLIT.out); (case aB => exact HBl.out.alloc HBl.out.size _); (case aS => have := HBl.out.size; simp; omega); (case aL => have := HL.out; omega); intro v2 w2 hO2 hB2 hg2 _; obtain ⟨A2, c2, rfl⟩ := own_slice hO2; have HO2 := Aside0.mk hO2; have HB2 := Aside0.mk hB2; have HG2 := Aside0.mk hg2; clear hO2 hB2 hg2; have HK2 := Aside0.mk (blk_grown HNB.out HG2.out (own_ne HO.out HB.out (by decide))); have hc2 : w2.cell? ⟨B, 0, none⟩ = some v := (blk_cell HK2.out 0).trans rfl; have hf2 := blk_frozen HK2.out 0))
  first | go_end0 | ((try simp only [Exit.inBlock, Exit.then]); refine bodyPost_ret (results_none rfl _ _ _) rfl ?_)
  refine ⟨rfl, ⟨_, blk_put HK2.out 0 _ rfl, ?_, HGE.out, (HB2.out.setCell HGE.out _)⟩, ?_⟩
  · have h := own_setCell (p := ⟨B, 0, none⟩) HO2.out (own_ne HO2.out HK2.out (by decide)) (.slice A2 (xs ++ four x).length c2)
    simp only [List.length_append] at h ⊢
    exact h
  · refine ((KeepT.of_below (Below.alloc (Below.refl _ w) (Nat.le_refl _) _)).trans (KeepT.of_grown HG2.out (fun k hk => ?_))).trans (KeepT.of_set HK2.out _)
    obtain ⟨c, hc⟩ := own_typed HO.out k hk
    exact ⟨c, blk_alloc hc _⟩

def encL : List ByteArray → List ByteArray → List Int
  | k :: ks, v :: vs => tx k ++ tx v ++ encL ks vs
  | _, _ => []
def encI : List ByteArray → List Int → List Int
  | k :: ks, x :: xs => tx k ++ four x ++ encI ks xs
  | _, _ => []
theorem encL_take : ∀ (ks vs : List ByteArray) (i : Nat), i < ks.length → i < vs.length → encL (ks.take (i + 1)) (vs.take (i + 1)) = encL (ks.take i) (vs.take i) ++ tx (ks.getD i ByteArray.empty) ++ tx (vs.getD i ByteArray.empty)
  | [], _, _, h, _ => by simp at h
  | _ :: _, [], _, _, h => by simp at h
  | k :: ks, v :: vs, 0, _, _ => by simp [encL]
  | k :: ks, v :: vs, i + 1, h, h' => by
    have := encL_take ks vs i (by simpa using h) (by simpa using h')
    simp only [List.take_succ_cons, encL, this, List.getD_cons_succ, List.append_assoc]
theorem encI_take : ∀ (ks : List ByteArray) (vs : List Int) (i : Nat), i < ks.length → i < vs.length → encI (ks.take (i + 1)) (vs.take (i + 1)) = encI (ks.take i) (vs.take i) ++ tx (ks.getD i ByteArray.empty) ++ four (vs.getD i 0)
  | [], _, _, h, _ => by simp at h
  | _ :: _, [], _, _, h => by simp at h
  | k :: ks, v :: vs, 0, _, _ => by simp [encI]
  | k :: ks, v :: vs, i + 1, h, h' => by
    have := encI_take ks vs i (by simpa using h) (by simpa using h')
    simp only [List.take_succ_cons, encI, this, List.getD_cons_succ, List.append_assoc]
theorem tx_length (s : ByteArray) : (tx s).length = s.size + 1 := by simp [tx, bytesOf_length]
theorem encL_length : ∀ ks vs : List ByteArray, ((encL ks vs).length : Int) ≤ ks.length + vs.length + sumS ks + sumS vs
  | [], vs => by have := sumS_nonneg vs; simp [encL, sumS]; omega
  | _ :: ks, [] => by have := sumS_nonneg ks; simp [encL, sumS]; omega
  | k :: ks, v :: vs => by
    have := encL_length ks vs
    simp only [encL, List.length_append, tx_length, List.length_cons, sumS]
    omega
theorem encI_length : ∀ (ks : List ByteArray) (vs : List Int), ((encI ks vs).length : Int) ≤ ks.length + 4 * vs.length + sumS ks
  | [], vs => by simp [encI, sumS]; omega
  | _ :: ks, [] => by have := sumS_nonneg ks; simp [encI, sumS]; omega
  | k :: ks, v :: vs => by
    have := encI_length ks vs
    simp only [encI, List.length_append, tx_length, List.length_cons, sumS, four, List.length_nil]
    omega
theorem sumS_take_le : ∀ (l : List ByteArray) (i : Nat), sumS (l.take i) ≤ sumS l
  | [], i => by simp
  | a :: l, 0 => by have := sumS_nonneg (a :: l); simpa [sumS] using this
  | a :: l, i + 1 => by have := sumS_take_le l i; simp only [List.take_succ_cons, sumS]; omega
theorem size_le_sumS : ∀ (l : List ByteArray) (i : Nat), ((l.getD i ByteArray.empty).size : Int) ≤ sumS l
  | [], i => by simp [sumS]
  | a :: l, 0 => by have := sumS_nonneg l; simp [sumS]; omega
  | a :: l, i + 1 => by have := size_le_sumS l i; simp only [List.getD_cons_succ, sumS]; omega
def encB (leaf : Bool) (keys vals : List ByteArray) (kids : List Int) : List Int :=
  [((keys.length : Int) / 256) % 256, (keys.length : Int) % 256] ++ (if leaf then encL keys vals else four (kids.getD 0 0) ++ encI keys kids.tail)
theorem chk_sizes {leaf : Bool} {keys vals : List ByteArray} {kids : List Int} (h : chk leaf keys vals kids = true) : (∀ s ∈ keys, s.size ≤ 120) ∧ (∀ s ∈ vals, s.size ≤ 100) := by
  have hr : ∀ (l : List ByteArray) (p : Option ByteArray), riseFrom p l = true → ∀ s ∈ l, s.size ≤ 120 := by
    intro l
    induction l with
    | nil => intro p _ s hs; simp at hs
    | cons a l ih =>
      intro p hp s hs
      simp only [riseFrom, Bool.and_eq_true, okK, decide_eq_true_eq] at hp
      rcases List.mem_cons.1 hs with rfl | hs
      · exact hp.1.1.2
      · exact ih _ hp.2 s hs
  unfold chk at h
  rw [Bool.and_eq_true] at h
  refine ⟨hr keys none h.1, fun s hs => ?_⟩
  have h2 := h.2
  cases leaf
  · simp only [Bool.false_eq_true, if_false, Bool.and_eq_true, decide_eq_true_eq] at h2
    have : vals = [] := List.eq_nil_of_length_eq_zero h2.1.2
    rw [this] at hs; simp at hs
  · simp only [if_true, Bool.and_eq_true, decide_eq_true_eq, List.all_eq_true] at h2
    exact h2.2 s hs
theorem chk_leaf {keys vals : List ByteArray} {kids : List Int} (h : chk true keys vals kids = true) : vals.length = keys.length ∧ kids = [] := by
  unfold chk at h
  simp only [if_true, Bool.and_eq_true, decide_eq_true_eq] at h
  exact ⟨h.2.1.1, List.eq_nil_of_length_eq_zero h.2.1.2⟩
theorem chk_inner {keys vals : List ByteArray} {kids : List Int} (h : chk false keys vals kids = true) : 0 < keys.length ∧ kids.length = keys.length + 1 ∧ vals = [] ∧ ∀ x ∈ kids, 2 ≤ x ∧ x ≤ 2147483647 := by
  unfold chk at h
  simp only [Bool.false_eq_true, if_false, Bool.and_eq_true, decide_eq_true_eq, List.all_eq_true] at h
  exact ⟨h.2.1.1.1, h.2.1.1.2, List.eq_nil_of_length_eq_zero h.2.1.2, h.2.2⟩
section
variable (leaf : Bool) (keys vals : List ByteArray) (kids : List Int) (A1 A2 A3 : Option Addr) (c1 c2 c3 : Nat) (w : World)
  (hr1 : Kd.C Kd.string w A1 keys.length keys) (hc1 : keys.length ≤ c1) (hr2 : Kd.C Kd.string w A2 vals.length vals) (hc2 : vals.length ≤ c2) (hr3 : Kd.C (Kd.int .i64) w A3 kids.length kids) (hc3 : kids.length ≤ c3)
  (b1 : keys.length ≤ 1000000) (b2 : vals.length ≤ 1000000) (b3 : kids.length ≤ 1000000)
include hr1 hc1 hr2 hc2 hr3 hc3 b1 b2 b3
set_option maxHeartbeats 8000000 in
set_option maxRecDepth 100000 in
theorem enc_bad (hk : chk leaf keys vals kids = false) :
    Calls Try.prog 11 #[.agg #[.bool leaf, .slice A1 keys.length c1, .slice A2 vals.length c2, .slice A3 kids.length c3]] w fun e w' => e = .returned (.tuple #[.int .i64 0, .slice none 0 0, .int .i64 100]) ∧ Below w.heap.size w w' := by
  have hq := Aside0.mk (node_Check_eq leaf keys vals kids (by omega) (by omega) (by omega) (2 * keys.length + vals.length + kids.length + 4) (by omega))
  rw [hk] at hq
  have hu := Try.underlying26
  have H1 := Aside0.mk hr1
  have H2 := Aside0.mk hr2
  have H3 := Aside0.mk hr3
  have C1 := Aside0.mk hc1
  have C2 := Aside0.mk hc2
  have C3 := Aside0.mk hc3
  have HB := Aside0.mk (below_alloc (Below.refl w.heap.size w) (.cells #[.bool leaf, .slice A1 keys.length c1, .slice A2 vals.length c2, .slice A3 kids.length c3] 26))
  clear hr1 hr2 hr3 hc1 hc2 hc3 b1 b2 b3 hk
  go_enter Try.func11, Try.ntmps11
  go_wp2_with (first | (go_at_call 13; refine (node_Check.calls _ leaf A1 c1 keys A2 c2 vals A3 c3 kids 100 _ (Kd.C_below H1.out HB.out) C1.out (Kd.C_below H2.out HB.out) C2.out (Kd.C_below H3.out HB.out) C3.out hq.out).mono ?_; rintro e w1 ⟨rfl, hb⟩; have HB1 := Aside0.mk (below_step HB.out hb); clear hb))
  go_ret3
  exact ⟨rfl, HB1.out⟩
set_option maxHeartbeats 8000000 in
set_option maxRecDepth 100000 in
theorem enc_big (hk : chk leaf keys vals kids = true) (hs : 1000 < sizN keys vals kids) :
    Calls Try.prog 11 #[.agg #[.bool leaf, .slice A1 keys.length c1, .slice A2 vals.length c2, .slice A3 kids.length c3]] w fun e w' => e = .returned (.tuple #[.int .i64 0, .slice none 0 0, .int .i64 101]) ∧ Below w.heap.size w w' := by
  have hq := Aside0.mk (node_Check_eq leaf keys vals kids (by omega) (by omega) (by omega) (2 * keys.length + vals.length + kids.length + 4) (by omega))
  have hsz := chk_sizes hk
  have hq2 := Aside0.mk (node_Size_eq leaf keys vals kids (by omega) (by omega) (by omega) (fun s hs => Nat.le_trans (hsz.1 s hs) (by omega)) (fun s hs => Nat.le_trans (hsz.2 s hs) (by omega)) (keys.length + vals.length + 2) (by omega))
  rw [hk] at hq
  have hu := Try.underlying26
  have HK := Aside0.mk hk
  have H1 := Aside0.mk hr1
  have H2 := Aside0.mk hr2
  have H3 := Aside0.mk hr3
  have C1 := Aside0.mk hc1
  have C2 := Aside0.mk hc2
  have C3 := Aside0.mk hc3
  have HB := Aside0.mk (below_alloc (Below.refl w.heap.size w) (.cells #[.bool leaf, .slice A1 keys.length c1, .slice A2 vals.length c2, .slice A3 kids.length c3] 26))
  have BK := Aside0.mk (blk_new w (.cells #[.bool leaf, .slice A1 keys.length c1, .slice A2 vals.length c2, .slice A3 kids.length c3] 26))
  clear hr1 hr2 hr3 hc1 hc2 hc3 b1 b2 b3 hk hsz
  go_enter Try.func11, Try.ntmps11
  go_wp2_with (first | (go_at_call 13; refine (node_Check.calls _ leaf A1 c1 keys A2 c2 vals A3 c3 kids 0 _ (Kd.C_below H1.out HB.out) C1.out (Kd.C_below H2.out HB.out) C2.out (Kd.C_below H3.out HB.out) C3.out hq.out).mono ?_; rintro e w1 ⟨rfl, hb⟩; have HB1 := Aside0.mk (below_step HB.out hb); have BK1 := Aside0.mk (blk_below BK.out hb); clear hb; have zw1_0 : w1.cell? ⟨w.heap.size, 0, none⟩ = some (.bool leaf) := (blk_cell BK1.out 0).trans rfl; have zw1_1 : w1.cell? ⟨w.heap.size, 1, none⟩ = some (.slice A1 keys.length c1) := (blk_cell BK1.out 1).trans rfl; have zw1_2 : w1.cell? ⟨w.heap.size, 2, none⟩ = some (.slice A2 vals.length c2) := (blk_cell BK1.out 2).trans rfl; have zw1_3 : w1.cell? ⟨w.heap.size, 3, none⟩ = some (.slice A3 kids.length c3) := (blk_cell BK1.out 3).trans rfl) | (go_at_call 15; refine (node_Size.calls _ leaf A1 c1 keys A2 c2 vals A3 c3 kids (sizN keys vals kids) _ (Kd.C_below H1.out HB1.out) C1.out (Kd.C_below H2.out HB1.out) C2.out (Kd.C_below H3.out HB1.out) C3.out hq2.out).mono ?_; rintro e w2 ⟨rfl, hb⟩; have HB2 := Aside0.mk (below_step HB1.out (by first | exact hb | exact Drawn0.below ⟨hb⟩ | exact Drawn0.below hb)); clear hb))
  all_goals first | (exfalso; omega) | skip
  go_ret3
  exact ⟨rfl, HB2.out⟩
end
theorem boxed_start (w0 W : World) (hB : Below w0.heap.size w0 W) (xs : List Int) (hl : xs.length ≤ 1000) :
    Boxed w0 ((W.alloc (.cells (nums .u8 xs).toArray 5)).alloc (.cells #[.slice (some ⟨W.heap.size, 0, none⟩) xs.length xs.length] 28)) (W.heap.size + 1) xs := by
  refine ⟨_, by simpa using blk_new (W.alloc (.cells (nums .u8 xs).toArray 5)) (.cells #[.slice (some ⟨W.heap.size, 0, none⟩) xs.length xs.length] 28), ?_, ?_, ?_⟩
  · exact (own_lit W w0.heap.size 5 .u8 xs hB.size (by omega)).alloc _
  · have := hB.size; omega
  · exact below_alloc (below_alloc hB _) _
theorem Boxed.below {w0 w : World} {B : Nat} {xs : List Int} (h : Boxed w0 w B xs) : Below w0.heap.size w0 w := by
  obtain ⟨_, _, _, _, h⟩ := h
  exact h
theorem enc_bound {keys vals : List ByteArray} {kids : List Int} (hs : sizN keys vals kids ≤ 1000) (k : Nat) : (encL (keys.take k) (vals.take k)).length ≤ 2000 ∧ (keys.getD k ByteArray.empty).size ≤ 1000 ∧ (vals.getD k ByteArray.empty).size ≤ 1000 ∧ (encI (keys.take k) (kids.tail.take k)).length ≤ 5000 := by
  unfold sizN at hs
  have h1 := encL_length (keys.take k) (vals.take k)
  have h2 := sumS_take_le keys k
  have h3 := sumS_take_le vals k
  have h4 := size_le_sumS keys k
  have h5 := size_le_sumS vals k
  have h6 := sumS_nonneg keys
  have h7 := sumS_nonneg vals
  have h8 : (keys.take k).length ≤ keys.length := List.length_take_le' _ _
  have h9 : (vals.take k).length ≤ vals.length := List.length_take_le' _ _
  have h10 := encI_length (keys.take k) (kids.tail.take k)
  have h11 : (kids.tail.take k).length ≤ kids.tail.length := List.length_take_le' _ _
  have h12 : kids.tail.length ≤ kids.length := by simp
  refine ⟨?_, ?_, ?_, ?_⟩ <;> omega
theorem at_str {w : World} {A : Option Addr} {n : Nat} {xs : List ByteArray} (h : Kd.C Kd.string w A n xs) (k : Nat) (hk : k < n) : ∃ ad, A = some ad ∧ w.cell? (ad.add k) = some (.string (rdOf ByteArray.empty xs k)) := by
  obtain ⟨ad, e, hx⟩ := Kd.at_string h (k : Int) (by omega) (by omega)
  exact ⟨ad, e, by simpa using hx⟩
theorem at_num {w : World} {A : Option Addr} {n : Nat} {xs : List Int} (h : Kd.C (Kd.int .i64) w A n xs) (k : Nat) (hk : k < n) : ∃ ad, A = some ad ∧ w.cell? (ad.add k) = some (.int .i64 (rd xs k)) := by
  obtain ⟨ad, e, hx⟩ := Kd.at_int h (k : Int) (by omega) (by omega)
  exact ⟨ad, e, by simpa using hx⟩
section
variable (keys vals : List ByteArray) (kids : List Int) (A1 A2 A3 : Option Addr) (c1 c2 c3 : Nat) (w : World)
  (hr1 : Kd.C Kd.string w A1 keys.length keys) (hc1 : keys.length ≤ c1) (hr2 : Kd.C Kd.string w A2 vals.length vals) (hc2 : vals.length ≤ c2) (hr3 : Kd.C (Kd.int .i64) w A3 kids.length kids) (hc3 : kids.length ≤ c3)
  (b1 : keys.length ≤ 1000000) (b2 : vals.length ≤ 1000000) (b3 : kids.length ≤ 1000000)
include hr1 hc1 hr2 hc2 hr3 hc3 b1 b2 b3
set_option maxHeartbeats 8000000 in
set_option maxRecDepth 100000 in
theorem enc_leaf (hk : chk true keys vals kids = true) (hs : sizN keys vals kids ≤ 1000) :
    Calls Try.prog 11 #[.agg #[.bool true, .slice A1 keys.length c1, .slice A2 vals.length c2, .slice A3 kids.length c3]] w fun e w' => ∃ v, e = .returned (.tuple #[.int .i64 2, v, .int .i64 0]) ∧ w'.ownsRow w.heap.size 5 1 v (encB true keys vals kids).length (nums .u8 (encB true keys vals kids)) ∧ Below w.heap.size w w' := by
  have hq := Aside0.mk (node_Check_eq true keys vals kids (by omega) (by omega) (by omega) (2 * keys.length + vals.length + kids.length + 4) (by omega))
  have hsz := chk_sizes hk
  have hq2 := Aside0.mk (node_Size_eq true keys vals kids (by omega) (by omega) (by omega) (fun s hs => Nat.le_trans (hsz.1 s hs) (by omega)) (fun s hs => Nat.le_trans (hsz.2 s hs) (by omega)) (keys.length + vals.length + 2) (by omega))
  rw [hk] at hq
  have hu := Try.underlying26
  have HK := Aside0.mk hk
  have H1 := Aside0.mk hr1
  have H2 := Aside0.mk hr2
  have H3 := Aside0.mk hr3
  have C1 := Aside0.mk hc1
  have C2 := Aside0.mk hc2
  have C3 := Aside0.mk hc3
  have HB := Aside0.mk (below_alloc (Below.refl w.heap.size w) (.cells #[.bool true, .slice A1 keys.length c1, .slice A2 vals.length c2, .slice A3 kids.length c3] 26))
  have BK := Aside0.mk (blk_new w (.cells #[.bool true, .slice A1 keys.length c1, .slice A2 vals.length c2, .slice A3 kids.length c3] 26))
  have HL := Aside0.mk (chk_leaf hk)
  clear hr1 hr2 hr3 hc1 hc2 hc3 b2 b3 hk hsz
  go_enter Try.func11, Try.ntmps11
  go_wp2_with (first | (go_at_call 13; refine (node_Check.calls _ true A1 c1 keys A2 c2 vals A3 c3 kids 0 _ (Kd.C_below H1.out HB.out) C1.out (Kd.C_below H2.out HB.out) C2.out (Kd.C_below H3.out HB.out) C3.out hq.out).mono ?_; rintro e w1 ⟨rfl, hb⟩; have HB1 := Aside0.mk (below_step HB.out hb); have BK1 := Aside0.mk (blk_below BK.out hb); clear hb; have zw1_0 : w1.cell? ⟨w.heap.size, 0, none⟩ = some (.bool true) := (blk_cell BK1.out 0).trans rfl; have zw1_1 : w1.cell? ⟨w.heap.size, 1, none⟩ = some (.slice A1 keys.length c1) := (blk_cell BK1.out 1).trans rfl; have zw1_2 : w1.cell? ⟨w.heap.size, 2, none⟩ = some (.slice A2 vals.length c2) := (blk_cell BK1.out 2).trans rfl; have zw1_3 : w1.cell? ⟨w.heap.size, 3, none⟩ = some (.slice A3 kids.length c3) := (blk_cell BK1.out 3).trans rfl) | (go_at_call 15; refine (node_Size.calls _ true A1 c1 keys A2 c2 vals A3 c3 kids (sizN keys vals kids) _ (Kd.C_below H1.out HB1.out) C1.out (Kd.C_below H2.out HB1.out) C2.out (Kd.C_below H3.out HB1.out) C3.out hq2.out).mono ?_; rintro e w2 ⟨rfl, hb⟩; have HB2 := Aside0.mk (below_step HB1.out hb); have BK2 := Aside0.mk (blk_below BK1.out hb); clear hb; have zw2_0 : w2.cell? ⟨w.heap.size, 0, none⟩ = some (.bool true) := (blk_cell BK2.out 0).trans rfl; have zw2_1 : w2.cell? ⟨w.heap.size, 1, none⟩ = some (.slice A1 keys.length c1) := (blk_cell BK2.out 1).trans rfl; have zw2_2 : w2.cell? ⟨w.heap.size, 2, none⟩ = some (.slice A2 vals.length c2) := (blk_cell BK2.out 2).trans rfl; have zw2_3 : w2.cell? ⟨w.heap.size, 3, none⟩ = some (.slice A3 kids.length c3) := (blk_cell BK2.out 3).trans rfl; have y0 : ∀ o1 o2, ((w2.alloc o1).alloc o2).cell? ⟨w.heap.size, 0, none⟩ = some (.bool true) := fun o1 o2 => (blk_cell (blk_alloc (blk_alloc BK2.out o1) o2) 0).trans rfl; have y1 : ∀ o1 o2, ((w2.alloc o1).alloc o2).cell? ⟨w.heap.size, 1, none⟩ = some (.slice A1 keys.length c1) := fun o1 o2 => (blk_cell (blk_alloc (blk_alloc BK2.out o1) o2) 1).trans rfl; have y2 : ∀ o1 o2, ((w2.alloc o1).alloc o2).cell? ⟨w.heap.size, 2, none⟩ = some (.slice A2 vals.length c2) := fun o1 o2 => (blk_cell (blk_alloc (blk_alloc BK2.out o1) o2) 2).trans rfl; have y3 : ∀ o1 o2, ((w2.alloc o1).alloc o2).cell? ⟨w.heap.size, 3, none⟩ = some (.slice A3 kids.length c3) := fun o1 o2 => (blk_cell (blk_alloc (blk_alloc BK2.out o1) o2) 3).trans rfl))
  all_goals first | (exfalso; omega) | skip
  go_loopw [37] (fun i wr => ∃ k : Nat, k ≤ keys.length ∧ i = .int .i64 k ∧ Aside0 (Boxed w wr (w2.heap.size + 1) ([((keys.length : Int) / 256) % 256, (keys.length : Int) % 256] ++ encL (keys.take k) (vals.take k))) ∧ Aside0 (wr.heap[w.heap.size]? = some (.cells #[.bool true, .slice A1 keys.length c1, .slice A2 vals.length c2, .slice A3 kids.length c3] 26 (0, 0)))) (fun i _ => keys.length - (intOf i).toNat)
  case atStart =>
    refine ⟨0, Nat.zero_le _, rfl, ⟨?_⟩, ⟨blk_alloc (blk_alloc BK2.out _) _⟩⟩
    have h := boxed_start w w2 HB2.out [((keys.length : Int) / 256) % 256, (keys.length : Int) % 256] (by simp)
    simpa [encL, nums] using h
  case round =>
    obtain ⟨k, hk, rfl, HX, BR⟩ := hrel
    have HS := Aside0.mk hs
    clear hs y0 y1 y2 y3 zw1_0 zw1_1 zw1_2 zw1_3 zw2_0 zw2_1 zw2_2 zw2_3
    by_cases hlt : k < keys.length
    · have hE := enc_bound HS.out k
      obtain ⟨hE1, hE2, hE3, _⟩ := hE
      have HN1 := Aside0.mk (show ([((keys.length : Int) / 256) % 256, (keys.length : Int) % 256] ++ encL (keys.take k) (vals.take k)).length + (rdOf ByteArray.empty keys k).size + 1 ≤ 140737488355328 by rw [rdOf_nat]; simp only [List.length_append, List.length_cons, List.length_nil]; omega)
      have HN2 := Aside0.mk (show ([((keys.length : Int) / 256) % 256, (keys.length : Int) % 256] ++ encL (keys.take k) (vals.take k) ++ tx (rdOf ByteArray.empty keys k)).length + (rdOf ByteArray.empty vals k).size + 1 ≤ 140737488355328 by rw [rdOf_nat, rdOf_nat]; simp only [List.length_append, List.length_cons, List.length_nil, tx_length]; omega)
      clear hE1 hE2 hE3
      obtain ⟨ad1, ea1, hx1⟩ := at_str (Kd.C_below H1.out HX.out.below) k hlt
      obtain ⟨ad2, ea2, _⟩ := at_str (Kd.C_below H2.out HX.out.below) k (by have := HL.out.1; omega)
      subst ea1
      subst ea2
      have hkv : k < vals.length := by have := HL.out.1; omega
      go_wp2_with (first | (go_at_call 20; refine (text_any w _ (w2.heap.size + 1) _ (rdOf ByteArray.empty keys k) HX.out HN1.out).mono ?_; rintro e w3 ⟨rfl, hX3, hK3⟩; have HX3 := Aside0.mk hX3; have BR3 := Aside0.mk (hK3.blk BR.out (by decide) (by decide)); clear hX3 hK3 HX BR; obtain ⟨ad3, ea3, hx3⟩ := at_str (Kd.C_below H2.out HX3.out.below) k hkv; (obtain rfl : ad2 = ad3 := by injection ea3); clear ea3; have zz : w3.cell? ⟨w.heap.size, 2, none⟩ = some (.slice (some ad2) vals.length c2) := (blk_cell BR3.out 2).trans rfl) | (go_at_call 20; refine (text_any w _ (w2.heap.size + 1) _ (rdOf ByteArray.empty vals k) HX3.out HN2.out).mono ?_; rintro e w4 ⟨rfl, hX4, hK4⟩; have HX4 := Aside0.mk hX4; have BR4 := Aside0.mk (hK4.blk BR3.out (by decide) (by decide)); clear hX4 hK4 HX3 BR3))
      go_roundw
      case rel =>
        refine ⟨k + 1, by omega, by go_num, ⟨?_⟩, BR4⟩
        have h := HX4.out
        rw [rdOf_nat, rdOf_nat, List.append_assoc, List.append_assoc] at h
        rw [encL_take keys vals k hlt hkv, List.append_assoc]
        exact h
      case measure => simp [intOf]; omega
    · obtain rfl : k = keys.length := by omega
      obtain ⟨v, hvB, hvO, _, hvBl⟩ := HX.out
      obtain ⟨A9, c9, rfl⟩ := own_slice hvO
      have hcv : wr.cell? ⟨w2.heap.size + 1, 0, none⟩ = some (.slice A9 _ c9) := (blk_cell hvB 0).trans rfl
      have HV := Aside0.mk hvO
      have HW := Aside0.mk hvBl
      clear hvO hvBl hvB
      go_wp2
      go_quiet (fail)
      go_wp2
      go_ret3
      have e : encB true keys vals kids = [((keys.length : Int) / 256) % 256, (keys.length : Int) % 256] ++ encL (keys.take keys.length) (vals.take keys.length) := by
        unfold encB; rw [if_pos rfl, List.take_length, List.take_of_length_le (by have := HL.out.1; omega)]
      rw [e]
      exact ⟨_, rfl, by first | exact HV.out | (have h := HV.out; simp at h ⊢; exact h), by repeat (first | exact HW.out | apply pw_below_drewN | apply below_drew1)⟩
set_option maxHeartbeats 8000000 in
set_option maxRecDepth 100000 in
theorem enc_inner (hk : chk false keys vals kids = true) (hs : sizN keys vals kids ≤ 1000) :
    Calls Try.prog 11 #[.agg #[.bool false, .slice A1 keys.length c1, .slice A2 vals.length c2, .slice A3 kids.length c3]] w fun e w' => ∃ v, e = .returned (.tuple #[.int .i64 3, v, .int .i64 0]) ∧ w'.ownsRow w.heap.size 5 1 v (encB false keys vals kids).length (nums .u8 (encB false keys vals kids)) ∧ Below w.heap.size w w' := by
  have hq := Aside0.mk (node_Check_eq false keys vals kids (by omega) (by omega) (by omega) (2 * keys.length + vals.length + kids.length + 4) (by omega))
  have hsz := chk_sizes hk
  have hq2 := Aside0.mk (node_Size_eq false keys vals kids (by omega) (by omega) (by omega) (fun s hs => Nat.le_trans (hsz.1 s hs) (by omega)) (fun s hs => Nat.le_trans (hsz.2 s hs) (by omega)) (keys.length + vals.length + 2) (by omega))
  rw [hk] at hq
  have hu := Try.underlying26
  have HK := Aside0.mk hk
  have H1 := Aside0.mk hr1
  have H2 := Aside0.mk hr2
  have H3 := Aside0.mk hr3
  have C1 := Aside0.mk hc1
  have C2 := Aside0.mk hc2
  have C3 := Aside0.mk hc3
  have HB := Aside0.mk (below_alloc (Below.refl w.heap.size w) (.cells #[.bool false, .slice A1 keys.length c1, .slice A2 vals.length c2, .slice A3 kids.length c3] 26))
  have BK := Aside0.mk (blk_new w (.cells #[.bool false, .slice A1 keys.length c1, .slice A2 vals.length c2, .slice A3 kids.length c3] 26))
  have HL := Aside0.mk (chk_inner hk)
  clear hr1 hr2 hr3 hc1 hc2 hc3 b2 b3 hk hsz
  have hkl : kids.length = keys.length + 1 := HL.out.2.1
  obtain ⟨ad3, ea3, hx30⟩ := at_num H3.out 0 (by omega)
  subst ea3
  have HX30 := Aside0.mk hx30
  clear hx30
  have hkb : ∀ i, i < kids.length → 2 ≤ kids.getD i 0 ∧ kids.getD i 0 ≤ 2147483647 := fun i hi => by
    have := HL.out.2.2.2 (kids.getD i 0) (by rw [List.getD_eq_getElem?_getD, List.getElem?_eq_getElem hi]; exact List.getElem_mem hi)
    exact this
  have HKB := Aside0.mk hkb
  clear hkb
  obtain ⟨x0, hx0⟩ : ∃ x0, x0 = rd kids ((0 : Nat) : Int) := ⟨_, rfl⟩
  have hb0 : 2 ≤ x0 ∧ x0 ≤ 2147483647 := by have := HKB.out 0 (by omega); rw [hx0, rd_nat]; exact this
  obtain ⟨hb01, hb02⟩ := hb0
  rw [← hx0] at HX30
  have HX0 := Aside0.mk hx0
  clear hx0
  have HKL := Aside0.mk hkl
  clear hkl
  have hpos : 0 < kids.length := by have := HKL.out; omega
  go_enter Try.func11, Try.ntmps11
  go_wp2_with (first | (go_at_call 13; refine (node_Check.calls _ false A1 c1 keys A2 c2 vals (some ad3) c3 kids 0 _ (Kd.C_below H1.out HB.out) C1.out (Kd.C_below H2.out HB.out) C2.out (Kd.C_below H3.out HB.out) C3.out hq.out).mono ?_; rintro e w1 ⟨rfl, hb⟩; have HB1 := Aside0.mk (below_step HB.out hb); have BK1 := Aside0.mk (blk_below BK.out hb); clear hb; have zw1_0 : w1.cell? ⟨w.heap.size, 0, none⟩ = some (.bool false) := (blk_cell BK1.out 0).trans rfl; have zw1_1 : w1.cell? ⟨w.heap.size, 1, none⟩ = some (.slice A1 keys.length c1) := (blk_cell BK1.out 1).trans rfl; have zw1_2 : w1.cell? ⟨w.heap.size, 2, none⟩ = some (.slice A2 vals.length c2) := (blk_cell BK1.out 2).trans rfl; have zw1_3 : w1.cell? ⟨w.heap.size, 3, none⟩ = some (.slice (some ad3) kids.length c3) := (blk_cell BK1.out 3).trans rfl) | (go_at_call 15; refine (node_Size.calls _ false A1 c1 keys A2 c2 vals (some ad3) c3 kids (sizN keys vals kids) _ (Kd.C_below H1.out HB1.out) C1.out (Kd.C_below H2.out HB1.out) C2.out (Kd.C_below H3.out HB1.out) C3.out hq2.out).mono ?_; rintro e w2 ⟨rfl, hb⟩; have HB2 := Aside0.mk (below_step HB1.out hb); have BK2 := Aside0.mk (blk_below BK1.out hb); clear hb; have zw2_0 : w2.cell? ⟨w.heap.size, 0, none⟩ = some (.bool false) := (blk_cell BK2.out 0).trans rfl; have zw2_1 : w2.cell? ⟨w.heap.size, 1, none⟩ = some (.slice A1 keys.length c1) := (blk_cell BK2.out 1).trans rfl; have zw2_2 : w2.cell? ⟨w.heap.size, 2, none⟩ = some (.slice A2 vals.length c2) := (blk_cell BK2.out 2).trans rfl; have zw2_3 : w2.cell? ⟨w.heap.size, 3, none⟩ = some (.slice (some ad3) kids.length c3) := (blk_cell BK2.out 3).trans rfl; have HST := Aside0.mk (show Boxed w ((w2.alloc (.cells #[.int .u8 (((keys.length : Int) / 256) % 256), .int .u8 ((keys.length : Int) % 256)] 5)).alloc (.cells #[.slice (some ⟨w2.heap.size, 0, none⟩) 2 2] 28)) (w2.heap.size + 1) [((keys.length : Int) / 256) % 256, (keys.length : Int) % 256] by { have h := boxed_start w w2 HB2.out [((keys.length : Int) / 256) % 256, (keys.length : Int) % 256] (by simp); simpa [nums] using h }); have y0 : ∀ o1 o2, ((w2.alloc o1).alloc o2).cell? ⟨w.heap.size, 0, none⟩ = some (.bool false) := fun o1 o2 => (blk_cell (blk_alloc (blk_alloc BK2.out o1) o2) 0).trans rfl; have y1 : ∀ o1 o2, ((w2.alloc o1).alloc o2).cell? ⟨w.heap.size, 1, none⟩ = some (.slice A1 keys.length c1) := fun o1 o2 => (blk_cell (blk_alloc (blk_alloc BK2.out o1) o2) 1).trans rfl; have y2 : ∀ o1 o2, ((w2.alloc o1).alloc o2).cell? ⟨w.heap.size, 2, none⟩ = some (.slice A2 vals.length c2) := fun o1 o2 => (blk_cell (blk_alloc (blk_alloc BK2.out o1) o2) 2).trans rfl; have yc : ∀ o1 o2, ((w2.alloc o1).alloc o2).cell? ad3 = some (.int .i64 x0) := fun o1 o2 => by { have h := pw_cell_below (below_alloc (below_alloc HB2.out o1) o2) HX30.out; exact h }; have y3 : ∀ o1 o2, ((w2.alloc o1).alloc o2).cell? ⟨w.heap.size, 3, none⟩ = some (.slice (some ad3) kids.length c3) := fun o1 o2 => (blk_cell (blk_alloc (blk_alloc BK2.out o1) o2) 3).trans rfl) | (go_at_call 21; refine (kid_any w _ (w2.heap.size + 1) _ x0 HST.out (by omega) (by omega) (by simp)).mono ?_; rintro e w3 ⟨rfl, hX3, hK3⟩; have HX3 := Aside0.mk hX3; have BR3 := Aside0.mk (hK3.blk (blk_alloc (blk_alloc BK2.out _) _) (by decide) (by decide)); clear hX3 hK3 HST; have zz1 : w3.cell? ⟨w.heap.size, 1, none⟩ = some (.slice A1 keys.length c1) := (blk_cell BR3.out 1).trans rfl))
  all_goals first | (exfalso; omega) | skip
  go_loopw [63] (fun i wr => ∃ k : Nat, k ≤ keys.length ∧ i = .int .i64 k ∧ Aside0 (Boxed w wr (w2.heap.size + 1) ([((keys.length : Int) / 256) % 256, (keys.length : Int) % 256] ++ four x0 ++ encI (keys.take k) (kids.tail.take k))) ∧ Aside0 (wr.heap[w.heap.size]? = some (.cells #[.bool false, .slice A1 keys.length c1, .slice A2 vals.length c2, .slice (some ad3) kids.length c3] 26 (0, 0)))) (fun i _ => keys.length - (intOf i).toNat)
  case atStart =>
    exact ⟨0, Nat.zero_le _, rfl, ⟨by simpa [encI] using HX3.out⟩, BR3⟩
  case round =>
    obtain ⟨k, hk, rfl, HX, BR⟩ := hrel
    have HS := Aside0.mk hs
    clear hs y0 y1 y2 y3 yc zw1_0 zw1_1 zw1_2 zw1_3 zw2_0 zw2_1 zw2_2 zw2_3 zz1
    by_cases hlt : k < keys.length
    · have hE := enc_bound HS.out k
      obtain ⟨_, hE2, _, hE4⟩ := hE
      have HN1 := Aside0.mk (show ([((keys.length : Int) / 256) % 256, (keys.length : Int) % 256] ++ four x0 ++ encI (keys.take k) (kids.tail.take k)).length + (rdOf ByteArray.empty keys k).size + 1 ≤ 140737488355328 by rw [rdOf_nat]; simp only [List.length_append, List.length_cons, List.length_nil, four]; omega)
      have HN2 := Aside0.mk (show ([((keys.length : Int) / 256) % 256, (keys.length : Int) % 256] ++ four x0 ++ encI (keys.take k) (kids.tail.take k) ++ tx (rdOf ByteArray.empty keys k)).length + 4 ≤ 140737488355328 by rw [rdOf_nat]; simp only [List.length_append, List.length_cons, List.length_nil, tx_length, four]; omega)
      clear hE2 hE4
      obtain ⟨ad1, ea1, hx1⟩ := at_str (Kd.C_below H1.out HX.out.below) k hlt
      subst ea1
      have hkk : k + 1 < kids.length := by have := HKL.out; omega
      obtain ⟨x, hx⟩ : ∃ x, x = rd kids ((k + 1 : Nat) : Int) := ⟨_, rfl⟩
      have hb0 : 2 ≤ x ∧ x ≤ 2147483647 := by have := HKB.out (k + 1) hkk; rw [hx, rd_nat]; exact this
      obtain ⟨hbx1, hbx2⟩ := hb0
      have HXX := Aside0.mk hx
      clear hx
      go_wp2_with (first | (go_at_call 20; refine (text_any w _ (w2.heap.size + 1) _ (rdOf ByteArray.empty keys k) HX.out HN1.out).mono ?_; rintro e w4 ⟨rfl, hX4, hK4⟩; have HX4 := Aside0.mk hX4; have BR4 := Aside0.mk (hK4.blk BR.out (by decide) (by decide)); clear hX4 hK4 HX BR; obtain ⟨ad4, ea4, hx4⟩ := at_num (Kd.C_below H3.out HX4.out.below) (k + 1) hkk; (obtain rfl : ad3 = ad4 := by injection ea4); clear ea4; rw [← HXX.out] at hx4; have hx5 : w4.cell? ⟨ad3.block, ad3.off + (k + 1), none⟩ = some (.int .i64 x) := by { have h := hx4; unfold Addr.add at h; simpa using h }; clear hx4; have zz : w4.cell? ⟨w.heap.size, 3, none⟩ = some (.slice (some ad3) kids.length c3) := (blk_cell BR4.out 3).trans rfl) | (go_at_call 21; refine (kid_any w _ (w2.heap.size + 1) _ x HX4.out (by omega) (by omega) HN2.out).mono ?_; rintro e w5 ⟨rfl, hX5, hK5⟩; have HX5 := Aside0.mk hX5; have BR5 := Aside0.mk (hK5.blk BR4.out (by decide) (by decide)); clear hX5 hK5 HX4 BR4))
      go_roundw
      case rel =>
        refine ⟨k + 1, by omega, by go_num, ⟨?_⟩, BR5⟩
        have h := HX5.out
        have hkt : k < kids.tail.length := by simp; omega
        have e : kids.tail.getD k 0 = x := by rw [HXX.out, rd_nat]; simp [List.getD_eq_getElem?_getD, List.getElem?_tail]
        rw [encI_take keys kids.tail k hlt hkt, e]
        rw [rdOf_nat] at h
        simpa [List.append_assoc] using h
      case measure => simp [intOf]; omega
    · obtain rfl : k = keys.length := by omega
      obtain ⟨v, hvB, hvO, _, hvBl⟩ := HX.out
      obtain ⟨A9, c9, rfl⟩ := own_slice hvO
      have hcv : wr.cell? ⟨w2.heap.size + 1, 0, none⟩ = some (.slice A9 _ c9) := (blk_cell hvB 0).trans rfl
      have HV := Aside0.mk hvO
      have HW := Aside0.mk hvBl
      clear hvO hvBl hvB
      go_wp2
      go_quiet (fail)
      go_wp2
      go_ret3
      have e : encB false keys vals kids = [((keys.length : Int) / 256) % 256, (keys.length : Int) % 256] ++ four x0 ++ encI (keys.take keys.length) (kids.tail.take keys.length) := by
        unfold encB
        rw [if_neg (by simp), List.take_length, List.take_of_length_le (by simp; have := HKL.out; omega), HX0.out, rd_nat, List.append_assoc]
      rw [e]
      exact ⟨_, rfl, by first | exact HV.out | (have h := HV.out; simp at h ⊢; exact h), by repeat (first | exact HW.out | apply pw_below_drewN | apply below_drew1)⟩
end

def encS (leaf : Bool) (keys vals : List ByteArray) (kids : List Int) : Int × List Int × Int :=
  if chk leaf keys vals kids = true then (if sizN keys vals kids ≤ 1000 then (if leaf = true then 2 else 3, encB leaf keys vals kids, 0) else (0, [], 101)) else (0, [], 100)
def node_Encode.f (a0_0 : Bool) (l0_1 : List ByteArray) (l0_2 : List ByteArray) (l0_3 : List Int) : Option (Int × List Int × Int) :=
  if l0_1.length ≤ 1000000 ∧ l0_2.length ≤ 1000000 ∧ l0_3.length ≤ 1000000 then some (encS a0_0 l0_1 l0_2 l0_3) else none
theorem node_Encode.calls (a0_0 : Bool) (A0_1 : Option Addr) (c0_1 : Nat) (l0_1 : List ByteArray) (A0_2 : Option Addr) (c0_2 : Nat) (l0_2 : List ByteArray) (A0_3 : Option Addr) (c0_3 : Nat) (l0_3 : List Int) (r1 : Int) (r2 : List Int) (r3 : Int) (w : World) (hr0_1 : Kd.C Kd.string w A0_1 l0_1.length l0_1) (hc0_1 : l0_1.length ≤ c0_1) (hr0_2 : Kd.C Kd.string w A0_2 l0_2.length l0_2) (hc0_2 : l0_2.length ≤ c0_2) (hr0_3 : Kd.C (Kd.int .i64) w A0_3 l0_3.length l0_3) (hc0_3 : l0_3.length ≤ c0_3) (h : node_Encode.f a0_0 l0_1 l0_2 l0_3 = some (r1, r2, r3)) :
    Calls Try.prog 11 #[.agg #[.bool a0_0, .slice A0_1 l0_1.length c0_1, .slice A0_2 l0_2.length c0_2, .slice A0_3 l0_3.length c0_3]] w fun e w' => ∃ v1_ : Value, e = .returned (.tuple #[.int .i64 r1, v1_, .int .i64 r3]) ∧ Kd.R (Kd.int .u8) 5 w' w.heap.size (fun _ => True) v1_ r2 ∧ Below w.heap.size w w' := by
  unfold node_Encode.f at h
  split at h
  case isFalse => cases h
  rename_i hsm
  have h := Option.some.inj h
  unfold encS at h
  by_cases hk : chk a0_0 l0_1 l0_2 l0_3 = true
  · rw [if_pos hk] at h
    by_cases hs : sizN l0_1 l0_2 l0_3 ≤ 1000
    · rw [if_pos hs] at h
      simp only [Prod.mk.injEq] at h
      obtain ⟨rfl, rfl, rfl⟩ := h
      cases a0_0
      · refine (enc_inner l0_1 l0_2 l0_3 A0_1 A0_2 A0_3 c0_1 c0_2 c0_3 w hr0_1 hc0_1 hr0_2 hc0_2 hr0_3 hc0_3 hsm.1 hsm.2.1 hsm.2.2 hk hs).mono ?_
        rintro e w' ⟨v, rfl, ho, hb⟩
        exact ⟨v, rfl, Kd.R_of_own ho (fun _ _ => trivial), hb⟩
      · refine (enc_leaf l0_1 l0_2 l0_3 A0_1 A0_2 A0_3 c0_1 c0_2 c0_3 w hr0_1 hc0_1 hr0_2 hc0_2 hr0_3 hc0_3 hsm.1 hsm.2.1 hsm.2.2 hk hs).mono ?_
        rintro e w' ⟨v, rfl, ho, hb⟩
        exact ⟨v, rfl, Kd.R_of_own ho (fun _ _ => trivial), hb⟩
    · rw [if_neg hs] at h
      simp only [Prod.mk.injEq] at h
      obtain ⟨rfl, rfl, rfl⟩ := h
      refine (enc_big a0_0 l0_1 l0_2 l0_3 A0_1 A0_2 A0_3 c0_1 c0_2 c0_3 w hr0_1 hc0_1 hr0_2 hc0_2 hr0_3 hc0_3 hsm.1 hsm.2.1 hsm.2.2 hk (by omega)).mono ?_
      rintro e w' ⟨rfl, hb⟩
      exact ⟨_, rfl, Kd.R_nil _ _ _ _ _, hb⟩
  · rw [if_neg hk] at h
    simp only [Prod.mk.injEq] at h
    obtain ⟨rfl, rfl, rfl⟩ := h
    refine (enc_bad a0_0 l0_1 l0_2 l0_3 A0_1 A0_2 A0_3 c0_1 c0_2 c0_3 w hr0_1 hc0_1 hr0_2 hc0_2 hr0_3 hc0_3 hsm.1 hsm.2.1 hsm.2.2 (by simpa using hk)).mono ?_
    rintro e w' ⟨rfl, hb⟩
    exact ⟨_, rfl, Kd.R_nil _ _ _ _ _, hb⟩
end Go.Proofs.Ytdjiclphnoepcaa.P
