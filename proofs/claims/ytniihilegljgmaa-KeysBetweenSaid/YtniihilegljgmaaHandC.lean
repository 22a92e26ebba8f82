/- The contracts of bytes.Clone and bytes.Compare, by hand. -/
import Derived.Test.YtniihilegljgmaaPx0
import Derived.Lib.BytesEntry
import Derived.Lib.Bytealg
import Derived.Laws.Externs
import Derived.WalkSpells
set_option linter.unusedVariables false
set_option linter.unusedSimpArgs false
namespace Go.Proofs.Ytniihilegljgmaa.P
open Go.RowKit Go.Proofs.YtniihilegljgmaaW.PrintWords Go.Proofs.YtniihilegljgmaaW.PrintLast Go.Proofs.YtniihilegljgmaaW.PrintMore Go.Proofs.YtniihilegljgmaaOwn
theorem run_bytes_C {P : Program} {w : World} {A : Option Addr} {n c : Nat} {xs : List Int} (h : Kd.C (Kd.int .u8) w A n xs) : (Extern.Bytes.bytesOf (.slice A n c)).run P w = .ok ⟨(Lib.bytesOf xs).toArray⟩ w := by
  have hn := Kd.C_len h
  cases A with
  | none =>
    have : n = 0 := by
      rcases Nat.eq_zero_or_pos n with h0 | h0
      · exact h0
      · obtain ⟨ad, e, _⟩ := Kd.at_int h 0 (by omega) (by omega); cases e
    subst this
    obtain rfl : xs = [] := List.eq_nil_of_length_eq_zero hn
    rfl
  | some ad =>
    have hl := Lib.run_loadBytesX (P := P) w xs ad .empty (fun j x hj => by
      have hjl := (List.getElem?_eq_some_iff.1 hj).1
      obtain ⟨ad2, e, hx⟩ := Kd.at_int h (j : Int) (by omega) (by omega)
      cases e
      rw [Int.toNat_natCast] at hx
      rw [hx]
      simp [rd, List.getD_eq_getElem?_getD, hj])
    rw [hn] at hl
    have he : (⟨ByteArray.empty.data ++ (Lib.bytesOf xs).toArray⟩ : ByteArray) = ⟨(Lib.bytesOf xs).toArray⟩ := by
      apply ByteArray.ext
      show (#[] : Array UInt8) ++ (Lib.bytesOf xs).toArray = (Lib.bytesOf xs).toArray
      simp
    rw [he] at hl
    exact hl
theorem run_compare_C {P : Program} {w : World} {A B : Option Addr} {n c m d : Nat} {xs ys : List Int} (h : Kd.C (Kd.int .u8) w A n xs) (k : Kd.C (Kd.int .u8) w B m ys) :
    (Extern.BytealgCompare.compare #[.slice A n c, .slice B m d]).run P w = .ok (.int .i64 (Lib.compareBytes (Lib.bytesOf xs) (Lib.bytesOf ys))) w := by
  change Sem.run P (do pure (goInt (Extern.BytealgCompare.cmp (← Extern.Bytes.bytesOf (.slice A n c)) (← Extern.Bytes.bytesOf (.slice B m d))))) w = _
  simp only [Sem.run_bind, run_bytes_C h, run_bytes_C k, Sem.run_pure, Result.andThen]
  rw [Lib.cmp_eq]
  rfl
def bytes_Compare.f (l0 : List Int) (l1 : List Int) : Option (Int) := some (Lib.compareBytes (Lib.bytesOf l0) (Lib.bytesOf l1))
set_option maxHeartbeats 8000000 in
set_option maxRecDepth 100000 in
theorem bytes_Compare.calls (A0 : Option Addr) (c0 : Nat) (l0 : List Int) (A1 : Option Addr) (c1 : Nat) (l1 : List Int) (r : Int) (w : World) (hr0 : Kd.C (Kd.int .u8) w A0 l0.length l0) (hc0 : l0.length ≤ c0) (hr1 : Kd.C (Kd.int .u8) w A1 l1.length l1) (hc1 : l1.length ≤ c1) (h : bytes_Compare.f l0 l1 = some r) :
    Calls Try.prog 32 #[.slice A0 l0.length c0, .slice A1 l1.length c1] w fun e w' => e = .returned (.int .i64 r) ∧ Drawn0 w w' := by
  have h2 := Option.some.inj h
  have kx := run_callFunc_extern (P := Try.prog) (f := 40) (e := Extern.BytealgCompare.compare) Try.func40 (by kernel_rfl) (by kernel_rfl) (by kernel_rfl) (by kernel_rfl) #[.slice A0 l0.length c0, .slice A1 l1.length c1] w
  rw [run_compare_C hr0 hr1, h2] at kx
  simp only [Result.andThen] at kx
  clear hr0 hc0 hr1 hc1 h h2
  go_enter Try.func32, Try.ntmps32
  go_wp2
  go_ret
  exact ⟨rfl, Drawn0.refl _⟩
def bytes_Clone.f (l0 : List Int) : Option (List Int) := if l0.length ≤ 100000000 then some l0 else none
set_option maxHeartbeats 8000000 in
set_option maxRecDepth 100000 in
theorem bytes_Clone.calls (A0 : Option Addr) (c0 : Nat) (l0 : List Int) (r : List Int) (w : World) (hr0 : Kd.C (Kd.int .u8) w A0 l0.length l0) (hc0 : l0.length ≤ c0) (h : bytes_Clone.f l0 = some r) :
    Calls Try.prog 31 #[.slice A0 l0.length c0] w fun e w' => ∃ v0_ : Value, e = .returned (v0_) ∧ Kd.R (Kd.int .u8) 5 w' w.heap.size (fun _ => True) v0_ r ∧ Below w.heap.size w w' := by
  unfold bytes_Clone.f at h
  split at h
  case isFalse => cases h
  rename_i hl
  obtain rfl := Option.some.inj h
  clear h
  have HL := Aside0.mk hl
  have HC := Aside0.mk hr0
  have keq := fun W => Lib.run_eql_slice_nil (P := Try.prog) W 24 5 A0 l0.length c0 0 0 Try.underlying24
  cases A0 with
  | none =>
    have h0 : l0.length = 0 := by
      rcases Nat.eq_zero_or_pos l0.length with h0 | h0
      · exact h0
      · obtain ⟨ad, e, _⟩ := Kd.at_int hr0 0 (by omega) (by omega); cases e
    have HN := Aside0.mk (List.eq_nil_of_length_eq_zero h0)
    clear h0 hr0 hl
    go_enter Try.func31, Try.ntmps31
    go_wp2
    go_ret
    exact ⟨_, rfl, by rw [HN.out]; exact Kd.R_nil _ _ _ _ _, Below.refl _ _⟩
  | some ad =>
    clear hr0 hl
    go_enter Try.func31, Try.ntmps31
    go_wp2_with
      (first
        | ((with_reducible refine gate_dst (N := 5) rfl ?_); refine Kd.R_lit (Kd.int .u8) (w0 := w) w.heap.size 5 ?hg (N := 5) ?hd (xs := ([] : List Int)) (inner := []) (ok := fun _ => True) (okp := fun _ => True) ?hr ?hp (fun _ hk => hk) trivial (Below.refl _ _) (Nat.le_refl _) (by simp) ?_
           case hd => rfl
           case hg => rfl
           case hr => first | (go_simp; done) | (go_simp; rfl)
           case hp => exact Reps.none _ _
           intro v6 w6 hO6 hB6 hg6 hn6
           have HO6 := Aside0.mk hO6
           have HB6 := Aside0.mk hB6
           clear hO6 hB6 hg6 hn6)
        | (at_builtin; refine Kd.R_append_rows (Kd.int .u8) (w0 := w) w.heap.size rfl (.tmp 5) (.tmp 6) 24 5 (.int .u8 0) 1 rfl Try.underlying24 info5 rfl (by decide) (by decide) v6 [] l0 (some ad) l0.length c0 (fun _ => True) (fun _ => False) rfl rfl ?aO ?aR (fun _ _ h => h) (fun _ h => h.elim) (fun _ _ => trivial) ?aB ?aS ?aL ?_
           case aO => exact HO6.out
           case aR => exact Kd.C_below HC.out HB6.out
           case aB => exact HB6.out
           case aS => exact HB6.out.size
           case aL => (have := HL.out; simp; omega)
           intro v7 w7 hO7 hB7 hg7 hn7
           have HO7 := Aside0.mk hO7
           have HB7 := Aside0.mk hB7
           clear hO7 hB7 hg7 hn7))
    go_ret
    exact ⟨_, rfl, HO7.out, HB7.out⟩
end Go.Proofs.Ytniihilegljgmaa.P
