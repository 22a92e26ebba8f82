/- Plain laws of nodes' bytes: what is encoded is decoded as itself, and the other way; cut bytes, and more bytes. -/
import Derived.Test.YtdjiclphnoepcaaHandI
import Derived.Test.YtdjiclphnoepcaaHandE
set_option linter.unusedVariables false
set_option linter.unusedSimpArgs false
namespace Go.Proofs.Ytdjiclphnoepcaa.P
open Go.RowKit Go.Proofs.YtdjiclphnoepcaaW.PrintWords Go.Proofs.YtdjiclphnoepcaaW.PrintLast Go.Proofs.YtdjiclphnoepcaaW.PrintMore Go.Proofs.YtdjiclphnoepcaaOwn
def Byt (b : List Int) : Prop := ∀ x ∈ b, 0 ≤ x ∧ x ≤ 255
theorem byt_wf {b : List Int} (h : ∀ y ∈ b, (Lit.int .u8 y).wf = true) : Byt b := fun x hx => by
  have h1 := h x hx
  simp only [Lit.wf, Bool.and_eq_true, decide_eq_true_eq] at h1
  have h2 : IntKind.u8.min = 0 := by decide
  have h3 : IntKind.u8.max = 255 := by decide
  omega
theorem dec_f (a : Int) (b : List Int) (hb : Byt b) : node_Decode.f a b = some (decF a b) := by unfold node_Decode.f; exact if_pos hb
theorem strOfNums_bytesOf (s : ByteArray) : strOfNums (bytesOf s) = s := by
  unfold strOfNums bytesOf
  cases s with
  | mk d =>
    congr 1
    apply Array.ext'
    simp [List.map_map, Function.comp_def]
theorem bytesOf_strOfNums (l : List Int) (h : Byt l) : bytesOf (strOfNums l) = l := by
  unfold strOfNums bytesOf
  simp only [List.map_map]
  rw [List.map_congr_left (g := id), List.map_id]
  intro x hx
  have := h x hx
  simp [Function.comp_def]
  omega
theorem size_strOfNums (l : List Int) : (strOfNums l).size = l.length := by
  unfold strOfNums; simp [ByteArray.size]
theorem tx_byt (s : ByteArray) : Byt (tx s) := by
  intro x hx
  simp only [tx, bytesOf, List.mem_cons, List.mem_map] at hx
  rcases hx with rfl | ⟨y, _, rfl⟩
  · omega
  · have := UInt8.toNat_lt y; omega
theorem takeS_app (s r : List Int) : takeS s.length false (s ++ r) = (s, false, r) := by
  unfold takeS
  rw [if_neg (by simp)]
  simp
theorem takeS_no {n : Nat} {sh : Bool} {b : List Int} (h : (takeS n sh b).2.1 = false) : sh = false ∧ n ≤ b.length ∧ takeS n sh b = (b.take n, false, b.drop n) ∧ b = (takeS n sh b).1 ++ (takeS n sh b).2.2 ∧ (takeS n sh b).1.length = n := by
  unfold takeS at h ⊢
  split at h
  · simp at h
  · rename_i h2
    simp at h2
    rw [if_neg (by simp; exact h2)]
    exact ⟨h2.1, h2.2, rfl, (List.take_append_drop n b).symm, by simp; omega⟩
theorem nuS_one (x : Int) (r : List Int) : nuS 1 false (x :: r) = (x, false, r) := by
  have := takeS_app [x] r
  simp only [List.length_singleton, List.singleton_append] at this
  unfold nuS
  rw [this]; simp [numS]
theorem numS_four (x : Int) (h0 : 0 ≤ x) (h1 : x ≤ 4294967295) : numS (four x) = x := by
  simp only [numS, four, List.foldl_cons, List.foldl_nil]
  omega
theorem nuS_four (x : Int) (r : List Int) (h0 : 0 ≤ x) (h1 : x ≤ 4294967295) : nuS 4 false (four x ++ r) = (x, false, r) := by
  have := takeS_app (four x) r
  rw [show (four x).length = 4 from rfl] at this
  unfold nuS
  rw [this, numS_four x h0 h1]
theorem four_numS (l : List Int) (h : l.length = 4) (hb : Byt l) : four (numS l) = l := by
  match l, h with
  | [a, b, c, d], _ =>
    have h1 := hb a (by simp)
    have h2 := hb b (by simp)
    have h3 := hb c (by simp)
    have h4 := hb d (by simp)
    simp only [numS, four, List.foldl_cons, List.foldl_nil, List.cons.injEq, and_true]
    refine ⟨?_, ?_, ?_, ?_⟩ <;> omega
theorem txS_tx (s : ByteArray) (r : List Int) (hs : s.size ≤ 255) : txS false (tx s ++ r) = (s, false, r) := by
  unfold txS
  have e : tx s ++ r = ((s.size : Int) % 256) :: (bytesOf s ++ r) := rfl
  rw [e, nuS_one]
  simp only
  have e2 : ((s.size : Int) % 256).toNat = (bytesOf s).length := by rw [bytesOf_length]; omega
  rw [e2, takeS_app, strOfNums_bytesOf]
/-- A text that was taken stood there. -/
theorem txS_no {sh : Bool} {b : List Int} (hb : Byt b) (h : (txS sh b).2.1 = false) : sh = false ∧ (txS sh b).1.size ≤ 255 ∧ b = tx (txS sh b).1 ++ (txS sh b).2.2 := by
  unfold txS at h ⊢
  simp only at h ⊢
  obtain ⟨h1, h2, h3, h4, h5⟩ := takeS_no h
  have h6 : (takeS 1 sh b).2.1 = false := h1
  obtain ⟨g1, g2, g3, g4, g5⟩ := takeS_no h6
  obtain ⟨x, r, rfl⟩ : ∃ x r, b = x :: r := by
    cases b with
    | nil => simp at g2
    | cons x r => exact ⟨x, r, rfl⟩
  subst g1
  have e := nuS_one x r
  rw [e] at h2 h3 h4 h5 ⊢
  simp only at h2 h3 h4 h5 ⊢
  have hx := hb x (by simp)
  refine ⟨trivial, by rw [size_strOfNums, h5]; omega, ?_⟩
  have hB : Byt (takeS x.toNat false r).1 := by
    rw [h3]; intro y hy; exact hb y (by simp [List.mem_of_mem_take hy])
  unfold tx
  rw [bytesOf_strOfNums _ hB, size_strOfNums, h5]
  rw [show (((x.toNat : Nat) : Int)) % 256 = x by omega]
  show x :: r = x :: ((takeS x.toNat false r).1 ++ (takeS x.toNat false r).2.2)
  rw [← h4]
theorem nu4_no {sh : Bool} {b : List Int} (hb : Byt b) (h : (nuS 4 sh b).2.1 = false) : sh = false ∧ 0 ≤ (nuS 4 sh b).1 ∧ (nuS 4 sh b).1 ≤ 4294967295 ∧ b = four (nuS 4 sh b).1 ++ (nuS 4 sh b).2.2 := by
  unfold nuS at h ⊢
  simp only at h ⊢
  obtain ⟨h1, h2, h3, h4, h5⟩ := takeS_no h
  have hB : Byt (takeS 4 sh b).1 := by
    rw [h3]; intro y hy; exact hb y (List.mem_of_mem_take hy)
  have hn := numS_bound 4 _ h5 hB
  refine ⟨h1, hn.1, by have := hn.2; omega, ?_⟩
  rw [four_numS _ h5 hB]
  exact h4
theorem tx_rest {sh : Bool} {b : List Int} (hb : Byt b) : Byt (txS sh b).2.2 := txS_in sh b hb
theorem nu_rest {n : Nat} {sh : Bool} {b : List Int} (hb : Byt b) : Byt (nuS n sh b).2.2 := nuS_in n sh b hb
/-- Entries that were encoded are read. -/
theorem it_encL : ∀ (ks vs : List ByteArray) (r : List Int) (K V : List ByteArray) (I : List Int), vs.length = ks.length → (∀ s ∈ ks, s.size ≤ 255) → (∀ s ∈ vs, s.size ≤ 255) →
    itS true ks.length ⟨false, encL ks vs ++ r, K, V, I⟩ = ⟨false, r, K ++ ks, V ++ vs, I⟩
  | [], [], r, K, V, I, _, _, _ => by simp [itS, encL]
  | [], _ :: _, r, K, V, I, h, _, _ => by simp at h
  | _ :: _, [], r, K, V, I, h, _, _ => by simp at h
  | k :: ks, v :: vs, r, K, V, I, h, h1, h2 => by
    have e1 := txS_tx k (tx v ++ (encL ks vs ++ r)) (h1 k (by simp))
    have e2 := txS_tx v (encL ks vs ++ r) (h2 v (by simp))
    have e : encL (k :: ks) (v :: vs) ++ r = tx k ++ (tx v ++ (encL ks vs ++ r)) := by simp [encL]
    rw [e, List.length_cons, itS, if_neg (by simp), stepS, if_pos rfl]
    unfold keyS valS
    simp only [e1, e2]
    rw [it_encL ks vs r _ _ _ (by simpa using h) (fun s hs => h1 s (by simp [hs])) (fun s hs => h2 s (by simp [hs]))]
    simp
theorem it_encI : ∀ (ks : List ByteArray) (xs : List Int) (r : List Int) (K V : List ByteArray) (I : List Int), xs.length = ks.length → (∀ s ∈ ks, s.size ≤ 255) → (∀ x ∈ xs, 0 ≤ x ∧ x ≤ 4294967295) →
    itS false ks.length ⟨false, encI ks xs ++ r, K, V, I⟩ = ⟨false, r, K ++ ks, V, I ++ xs⟩
  | [], [], r, K, V, I, _, _, _ => by simp [itS, encI]
  | [], _ :: _, r, K, V, I, h, _, _ => by simp at h
  | _ :: _, [], r, K, V, I, h, _, _ => by simp at h
  | k :: ks, v :: vs, r, K, V, I, h, h1, h2 => by
    have e1 := txS_tx k (four v ++ (encI ks vs ++ r)) (h1 k (by simp))
    have e2 := nuS_four v (encI ks vs ++ r) (h2 v (by simp)).1 (h2 v (by simp)).2
    have e : encI (k :: ks) (v :: vs) ++ r = tx k ++ (four v ++ (encI ks vs ++ r)) := by simp [encI]
    rw [e, List.length_cons, itS, if_neg (by simp), stepS, if_neg (by simp)]
    unfold keyS kidS
    simp only [e1, e2]
    rw [it_encI ks vs r _ _ _ (by simpa using h) (fun s hs => h1 s (by simp [hs])) (fun s hs => h2 s (by simp [hs]))]
    simp
/-- Entries that were read were encoded. -/
theorem it_leaf_no : ∀ (n : Nat) (b : List Int) (sh : Bool) (K V : List ByteArray) (I : List Int), Byt b → (itS true n ⟨sh, b, K, V, I⟩).sh = false →
    sh = false ∧ ∃ ks vs, ks.length = n ∧ vs.length = n ∧ (∀ s ∈ ks, s.size ≤ 255) ∧ (∀ s ∈ vs, s.size ≤ 255) ∧ b = encL ks vs ++ (itS true n ⟨sh, b, K, V, I⟩).b ∧
      (itS true n ⟨sh, b, K, V, I⟩).keys = K ++ ks ∧ (itS true n ⟨sh, b, K, V, I⟩).vals = V ++ vs ∧ (itS true n ⟨sh, b, K, V, I⟩).kids = I
  | 0, b, sh, K, V, I, hb, h => ⟨h, [], [], rfl, rfl, by simp, by simp, by simp [encL, itS], by simp [itS], by simp [itS], rfl⟩
  | n + 1, b, sh, K, V, I, hb, h => by
    by_cases hs : sh = true
    · subst hs
      rw [itS, if_pos rfl] at h
      cases h
    · obtain rfl : sh = false := by simpa using hs
      rw [itS, if_neg (by simp), stepS, if_pos rfl] at h ⊢
      unfold keyS valS at h ⊢
      simp only at h ⊢
      have hb1 : Byt (txS false b).2.2 := tx_rest hb
      have hb2 : Byt (txS (txS false b).2.1 (txS false b).2.2).2.2 := tx_rest hb1
      obtain ⟨g1, ks, vs, l1, l2, s1, s2, eb, ek, ev, ei⟩ := it_leaf_no n _ _ _ _ _ hb2 h
      obtain ⟨g2, z2, e2⟩ := txS_no hb1 g1
      obtain ⟨_, z1, e1⟩ := txS_no hb g2
      refine ⟨trivial, (txS false b).1 :: ks, (txS (txS false b).2.1 (txS false b).2.2).1 :: vs, by simp [l1], by simp [l2], ?_, ?_, ?_, ?_, ?_, ei⟩
      · intro s hs; rcases List.mem_cons.1 hs with rfl | hs
        · exact z1
        · exact s1 s hs
      · intro s hs; rcases List.mem_cons.1 hs with rfl | hs
        · exact z2
        · exact s2 s hs
      · simp only [encL, List.append_assoc]
        rw [← eb, ← e2]
        exact e1
      · rw [ek]; simp
      · rw [ev]; simp
theorem it_inner_no : ∀ (n : Nat) (b : List Int) (sh : Bool) (K V : List ByteArray) (I : List Int), Byt b → (itS false n ⟨sh, b, K, V, I⟩).sh = false →
    sh = false ∧ ∃ (ks : List ByteArray) (xs : List Int), ks.length = n ∧ xs.length = n ∧ (∀ s ∈ ks, s.size ≤ 255) ∧ (∀ x ∈ xs, 0 ≤ x ∧ x ≤ 4294967295) ∧ b = encI ks xs ++ (itS false n ⟨sh, b, K, V, I⟩).b ∧
      (itS false n ⟨sh, b, K, V, I⟩).keys = K ++ ks ∧ (itS false n ⟨sh, b, K, V, I⟩).vals = V ∧ (itS false n ⟨sh, b, K, V, I⟩).kids = I ++ xs
  | 0, b, sh, K, V, I, hb, h => ⟨h, [], [], rfl, rfl, by simp, by simp, by simp [encI, itS], by simp [itS], by simp [itS], by simp [itS]⟩
  | n + 1, b, sh, K, V, I, hb, h => by
    by_cases hs : sh = true
    · subst hs
      rw [itS, if_pos rfl] at h
      cases h
    · obtain rfl : sh = false := by simpa using hs
      rw [itS, if_neg (by simp), stepS, if_neg (by simp)] at h ⊢
      unfold keyS kidS at h ⊢
      simp only at h ⊢
      have hb1 : Byt (txS false b).2.2 := tx_rest hb
      have hb2 : Byt (nuS 4 (txS false b).2.1 (txS false b).2.2).2.2 := nu_rest hb1
      obtain ⟨g1, ks, vs, l1, l2, s1, s2, eb, ek, ev, ei⟩ := it_inner_no n _ _ _ _ _ hb2 h
      obtain ⟨g2, z2, z3, e2⟩ := nu4_no hb1 g1
      obtain ⟨_, z1, e1⟩ := txS_no hb g2
      refine ⟨trivial, (txS false b).1 :: ks, (nuS 4 (txS false b).2.1 (txS false b).2.2).1 :: vs, by simp [l1], by simp [l2], ?_, ?_, ?_, ?_, ev, ?_⟩
      · intro s hs; rcases List.mem_cons.1 hs with rfl | hs
        · exact z1
        · exact s1 s hs
      · intro s hs; rcases List.mem_cons.1 hs with rfl | hs
        · exact ⟨z2, z3⟩
        · exact s2 s hs
      · simp only [encI, List.append_assoc]
        rw [← eb, ← e2]
        exact e1
      · rw [ek]; simp
      · rw [ei]; simp
theorem nuS_two (x y : Int) (r : List Int) : nuS 2 false (x :: y :: r) = (x * 256 + y, false, r) := by
  have := takeS_app [x, y] r
  simp only [List.length_cons, List.length_nil, Nat.zero_add, List.cons_append, List.nil_append] at this
  unfold nuS
  rw [this]; simp [numS]
theorem encB_length (leaf : Bool) (keys vals : List ByteArray) (kids : List Int) (h : chk leaf keys vals kids = true) : ((encB leaf keys vals kids).length : Int) = sizN keys vals kids := by
  have hL : ∀ ks vs : List ByteArray, vs.length = ks.length → ((encL ks vs).length : Int) = ks.length + vs.length + sumS ks + sumS vs := by
    intro ks
    induction ks with
    | nil => intro vs h; obtain rfl := List.eq_nil_of_length_eq_zero h; simp [encL, sumS]
    | cons k ks ih =>
      intro vs h
      cases vs with
      | nil => simp at h
      | cons v vs =>
        have := ih vs (by simpa using h)
        simp only [encL, List.length_append, tx_length, sumS, List.length_cons]
        omega
  have hI : ∀ (ks : List ByteArray) (vs : List Int), vs.length = ks.length → ((encI ks vs).length : Int) = ks.length + 4 * vs.length + sumS ks := by
    intro ks
    induction ks with
    | nil => intro vs h; obtain rfl := List.eq_nil_of_length_eq_zero h; simp [encI, sumS]
    | cons k ks ih =>
      intro vs h
      cases vs with
      | nil => simp at h
      | cons v vs =>
        have := ih vs (by simpa using h)
        simp only [encI, List.length_append, tx_length, sumS, List.length_cons, show ∀ x, (four x).length = 4 from fun _ => rfl]
        omega
  cases leaf
  · obtain ⟨h1, h2, h3, h4⟩ := chk_inner h
    cases kids with
    | nil => simp at h2
    | cons x xs =>
      have h5 : xs.length = keys.length := by simpa using h2
      have := hI keys xs h5
      subst h3
      simp only [encB, Bool.false_eq_true, if_false, List.length_append, List.length_cons, List.length_nil, sizN, sumS, List.tail_cons, show ∀ x, (four x).length = 4 from fun _ => rfl]
      omega
  · obtain ⟨h1, h2⟩ := chk_leaf h
    have := hL keys vals h1
    subst h2
    simp only [encB, if_true, List.length_append, List.length_cons, List.length_nil, sizN]
    omega
theorem chk_len {leaf : Bool} {keys vals : List ByteArray} {kids : List Int} (hs : sizN keys vals kids ≤ 1000) : keys.length ≤ 1000 := by
  have h1 := sumS_nonneg keys
  have h2 := sumS_nonneg vals
  unfold sizN at hs
  omega
/-- What is encoded is decoded, with what is behind it left. -/
theorem run_encB (leaf : Bool) (keys vals : List ByteArray) (kids r : List Int) (h : chk leaf keys vals kids = true) (hs : sizN keys vals kids ≤ 1000) :
    runS leaf (encB leaf keys vals kids ++ r) = ⟨false, r, keys, vals, kids⟩ := by
  have hl := chk_len (leaf := leaf) hs
  obtain ⟨z1, z2⟩ := chk_sizes h
  have z1' : ∀ s ∈ keys, s.size ≤ 255 := fun s hs => by have := z1 s hs; omega
  have z2' : ∀ s ∈ vals, s.size ≤ 255 := fun s hs => by have := z2 s hs; omega
  have e0 : ∀ t : List Int, nuS 2 false (((keys.length : Int) / 256) % 256 :: (keys.length : Int) % 256 :: t) = ((keys.length : Int), false, t) := fun t => by
    rw [nuS_two]
    simp only [Prod.mk.injEq, and_true]
    omega
  unfold runS
  cases leaf
  · obtain ⟨h1, h2, h3, h4⟩ := chk_inner h
    cases kids with
    | nil => simp at h2
    | cons x xs =>
      have h5 : xs.length = keys.length := by simpa using h2
      subst h3
      have hx : ∀ y ∈ x :: xs, 0 ≤ y ∧ y ≤ 4294967295 := fun y hy => by have := h4 y hy; omega
      have e : encB false keys [] (x :: xs) ++ r = ((keys.length : Int) / 256) % 256 :: (keys.length : Int) % 256 :: (four x ++ (encI keys xs ++ r)) := by simp [encB]
      rw [e, e0]
      simp only [Bool.false_eq_true, if_false, Int.toNat_natCast]
      unfold kidS
      simp only
      rw [nuS_four x _ (hx x (by simp)).1 (hx x (by simp)).2]
      simp only
      rw [it_encI keys xs r _ _ _ h5 z1' (fun y hy => hx y (by simp [hy]))]
      simp
  · obtain ⟨h1, h2⟩ := chk_leaf h
    subst h2
    have e : encB true keys vals [] ++ r = ((keys.length : Int) / 256) % 256 :: (keys.length : Int) % 256 :: (encL keys vals ++ r) := by simp [encB]
    rw [e, e0]
    simp only [if_true, Int.toNat_natCast]
    rw [it_encL keys vals r _ _ _ h1 z1' z2']
    simp
/-- What is decoded was encoded. -/
theorem run_no {leaf : Bool} {b : List Int} (hb : Byt b) (h : (runS leaf b).sh = false) (hk : chk leaf (runS leaf b).keys (runS leaf b).vals (runS leaf b).kids = true) (hl : b.length ≤ 1000) :
    b = encB leaf (runS leaf b).keys (runS leaf b).vals (runS leaf b).kids ++ (runS leaf b).b := by
  unfold runS at h hk ⊢
  have go : ∀ x : Int, (nuS 2 false b).1 = x → (nuS 2 false b).2.1 = false → ∃ t, b = (x / 256) % 256 :: x % 256 :: t ∧ (nuS 2 false b).2.2 = t ∧ 0 ≤ x := by
    intro x hx hsh
    obtain ⟨_, g2, g3, g4, g5⟩ := takeS_no hsh
    match b, g2, hb with
    | u :: v :: t, _, hb =>
      have h1 := hb u (by simp)
      have h2 := hb v (by simp)
      rw [nuS_two] at hx ⊢
      simp only at hx ⊢
      refine ⟨t, ?_, rfl, by omega⟩
      have q1 : x / 256 % 256 = u := by omega
      have q2 : x % 256 = v := by omega
      rw [q1, q2]
  cases leaf
  · simp only [Bool.false_eq_true, if_false] at h hk ⊢
    unfold kidS at h hk ⊢
    simp only at h hk ⊢
    have hb1 : Byt (nuS 2 false b).2.2 := nu_rest hb
    have hb2 : Byt (nuS 4 (nuS 2 false b).2.1 (nuS 2 false b).2.2).2.2 := nu_rest hb1
    obtain ⟨g1, ks, xs, l1, l2, s1, s2, eb, ek, ev, ei⟩ := it_inner_no _ _ _ _ _ _ hb2 h
    obtain ⟨g2, z2, z3, e2⟩ := nu4_no hb1 g1
    obtain ⟨t, e3, e4, x0⟩ := go _ rfl g2
    rw [ek, ev, ei]
    simp only [List.nil_append] at eb
    simp only [List.nil_append, encB, Bool.false_eq_true, if_false, List.cons_append, List.getD_cons_zero, List.tail_cons, List.append_assoc, List.singleton_append]
    rw [l1, ← eb, ← e2, e4, Int.toNat_of_nonneg x0]
    exact e3
  · simp only [if_true] at h hk ⊢
    have hb1 : Byt (nuS 2 false b).2.2 := nu_rest hb
    obtain ⟨g1, ks, vs, l1, l2, s1, s2, eb, ek, ev, ei⟩ := it_leaf_no _ _ _ _ _ _ hb1 h
    obtain ⟨t, e3, e4, x0⟩ := go _ rfl g1
    rw [ek, ev, ei]
    simp only [List.nil_append, encB, if_true, List.cons_append, List.append_assoc]
    rw [l1, ← eb, e4, Int.toNat_of_nonneg x0]
    exact e3
/-- A node is decoded as itself. -/
theorem dec_enc (leaf : Bool) (keys vals : List ByteArray) (kids : List Int) (h : chk leaf keys vals kids = true) (hs : sizN keys vals kids ≤ 1000) :
    decF (if leaf = true then 2 else 3) (encB leaf keys vals kids) = (leaf, keys, vals, kids, 0) := by
  have hr := run_encB leaf keys vals kids [] h hs
  have hl := encB_length leaf keys vals kids h
  rw [List.append_nil] at hr
  have hd : decide ((if leaf = true then (2 : Int) else 3) = 2) = leaf := by cases leaf <;> simp
  have hg : ((if leaf = true then (2 : Int) else 3) = 2 ∨ (if leaf = true then (2 : Int) else 3) = 3) := by cases leaf <;> simp
  generalize (if leaf = true then (2 : Int) else 3) = a at hd hg
  unfold decF
  rw [if_pos ⟨hg, by omega⟩, hd, hr]
  unfold resS
  rw [if_pos ⟨rfl, rfl, h⟩]
/-- More bytes behind a node's are none. -/
theorem dec_more (leaf : Bool) (keys vals : List ByteArray) (kids more : List Int) (h : chk leaf keys vals kids = true) (hs : sizN keys vals kids ≤ 1000) (hm : more ≠ []) :
    decF (if leaf = true then 2 else 3) (encB leaf keys vals kids ++ more) = (false, [], [], [], 100) := by
  have hr := run_encB leaf keys vals kids more h hs
  have hd : decide ((if leaf = true then (2 : Int) else 3) = 2) = leaf := by cases leaf <;> simp
  generalize (if leaf = true then (2 : Int) else 3) = a at hd
  unfold decF
  split
  · rename_i hh
    rw [hd, hr]
    unfold resS
    rw [if_neg (by simp [hm])]
  · rfl
/-- The decoded node's bytes. -/
theorem dec_ok {a : Int} {b : List Int} {leaf : Bool} {keys vals : List ByteArray} {kids : List Int} (hb : Byt b) (h : decF a b = (leaf, keys, vals, kids, 0)) :
    chk leaf keys vals kids = true ∧ sizN keys vals kids ≤ 1000 ∧ encB leaf keys vals kids = b ∧ a = (if leaf = true then 2 else 3) := by
  unfold decF at h
  split at h
  · rename_i hh
    unfold resS at h
    split at h
    · rename_i h3
      obtain ⟨h4, h5, h6⟩ := h3
      have e := run_no hb h4 h6 hh.2
      rw [h5, List.append_nil] at e
      simp only [Prod.mk.injEq] at h
      obtain ⟨p1, p2, p3, p4, _⟩ := h
      subst p1
      rw [p2, p3, p4] at h6 e
      refine ⟨h6, ?_, e.symm, ?_⟩
      · rw [← encB_length _ _ _ _ h6, ← e]; omega
      · rcases hh.1 with rfl | rfl <;> simp
    · simp at h
  · simp at h
theorem dec_cases (a : Int) (b : List Int) : decF a b = (false, [], [], [], 100) ∨ (decF a b).2.2.2.2 = 0 := by
  unfold decF resS
  split
  · split
    · exact .inr rfl
    · exact .inl rfl
  · exact .inl rfl
/-- Bytes that are cut are none. -/
theorem dec_cut (leaf : Bool) (keys vals : List ByteArray) (kids : List Int) (h : chk leaf keys vals kids = true) (hs : sizN keys vals kids ≤ 1000) (hb : Byt (encB leaf keys vals kids)) (n : Nat) (hn : n < (encB leaf keys vals kids).length) :
    decF (if leaf = true then 2 else 3) ((encB leaf keys vals kids).take n) = (false, [], [], [], 100) := by
  rcases dec_cases (if leaf = true then 2 else 3) ((encB leaf keys vals kids).take n) with e | e
  · exact e
  exfalso
  obtain ⟨l2, k2, v2, i2, z⟩ : ∃ l2 k2 v2 i2, decF (if leaf = true then 2 else 3) ((encB leaf keys vals kids).take n) = (l2, k2, v2, i2, 0) := ⟨_, _, _, _, by rw [← e]⟩
  obtain ⟨q1, q2, q3, q4⟩ := dec_ok (fun x hx => hb x (List.mem_of_mem_take hx)) z
  have ll : l2 = leaf := by revert q4; cases l2 <;> cases leaf <;> simp
  subst ll
  have hr := run_encB l2 k2 v2 i2 ((encB l2 keys vals kids).drop n) q1 q2
  rw [q3, List.take_append_drop] at hr
  have hr2 := run_encB l2 keys vals kids [] h hs
  rw [List.append_nil, hr] at hr2
  simp only [DS.mk.injEq] at hr2
  have := hr2.2.1
  have h9 : ((encB l2 keys vals kids).drop n).length = 0 := by rw [this]; rfl
  rw [List.length_drop] at h9
  omega
theorem encL_byt : ∀ ks vs : List ByteArray, Byt (encL ks vs)
  | [], _ => by simp [encL, Byt]
  | _ :: _, [] => by simp [encL, Byt]
  | k :: ks, v :: vs => by
    intro x hx
    simp only [encL, List.mem_append] at hx
    rcases hx with (hx | hx) | hx
    · exact tx_byt _ x hx
    · exact tx_byt _ x hx
    · exact encL_byt ks vs x hx
theorem four_byt (y : Int) : Byt (four y) := by
  intro x hx
  simp only [four, List.mem_cons, List.not_mem_nil, or_false] at hx
  omega
theorem encI_byt : ∀ (ks : List ByteArray) (vs : List Int), Byt (encI ks vs)
  | [], _ => by simp [encI, Byt]
  | _ :: _, [] => by simp [encI, Byt]
  | k :: ks, v :: vs => by
    intro x hx
    simp only [encI, List.mem_append] at hx
    rcases hx with (hx | hx) | hx
    · exact tx_byt _ x hx
    · exact four_byt _ x hx
    · exact encI_byt ks vs x hx
theorem encB_byt (leaf : Bool) (keys vals : List ByteArray) (kids : List Int) : Byt (encB leaf keys vals kids) := by
  intro x hx
  simp only [encB, List.mem_append, List.mem_cons, List.not_mem_nil, or_false] at hx
  rcases hx with (rfl | rfl) | hx
  · omega
  · omega
  · split at hx
    · exact encL_byt _ _ x hx
    · rcases List.mem_append.1 hx with hx | hx
      · exact four_byt _ x hx
      · exact encI_byt _ _ x hx
end Go.Proofs.Ytdjiclphnoepcaa.P
