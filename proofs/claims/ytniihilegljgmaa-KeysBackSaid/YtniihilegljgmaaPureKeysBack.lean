import Derived.Test.YtniihilegljgmaaPx7
import Derived.Test.YtniihilegljgmaaK2
import Derived.Test.YtniihilegljgmaaKinds
set_option linter.unusedVariables false
set_option linter.unusedSimpArgs false
namespace Go.Proofs.Ytniihilegljgmaa.Pure
open Go.RowKit Go.Proofs.Ytniihilegljgmaa.P Go.Proofs.YtniihilegljgmaaW.PrintWords Go.Proofs.YtniihilegljgmaaW.PrintLast

theorem ints {l : List S38} (h : ∀ y ∈ l, fit38 y) (hf : Few l) : ∀ v ∈ l, v.f2.size ≤ 1000 ∧ -9223372036854775808 ≤ v.f1 ∧ v.f1 ≤ 9223372036854775807 := fun v hv => by
  have h1 := h v hv
  have h2 := hf.2 v hv
  obtain ⟨_, h3, _⟩ := h1
  simp only [Lit.wf, Bool.and_eq_true, decide_eq_true_eq] at h3
  have h4 : IntKind.i64.min = -9223372036854775808 := by decide
  have h5 : IntKind.i64.max = 9223372036854775807 := by decide
  omega
theorem KeysBack : ∀ (l0 : List S38) (l1 : List Int), (List.length l0 ≤ maxLen ∧ ∀ y_ ∈ l0, fit38 y_) → (List.length l1 ≤ maxLen ∧ ∀ y_ ∈ l1, (Lit.int .u8 y_).wf = true) → ∃ k, tailracelaw02_KeysBack.f k l0 l1 = some true := by
  intro l0 l1 h0 h1
  refine ⟨300000, ?_⟩
  have B1 := byt_wf h1.2
  unfold tailracelaw02_KeysBack.f
  rw [show tailracelaw02_awake.f = some true from rfl]
  simp only [Option.bind_some]
  obtain ⟨b0, e0, f0⟩ := few_eq l0 300000 (by omega)
  rw [e0]
  simp only [Option.bind_some]
  cases b0
  · rfl
  rw [if_pos rfl]
  by_cases g1 : (l1.length : Int) > 2000
  · rw [decide_eq_true g1]; rfl
  rw [decide_eq_false g1]
  have F0 := f0 rfl
  have s0 := ints h0.2 F0
  have n0 := F0.1
  have r0 := rowK_len 200 l0 F0.2
  simp only [tailracelaw02_KeysBack.j0]
  rw [if_neg (by decide), Row_eq l0 (by omega) s0]
  simp only [Option.bind_some]
  generalize hL : l0.length * (9 + 2 * 200) = L at r0
  rw [Decode_eq (rowK l0) (by omega) (rowK_byt l0)]
  simp only [Option.bind_some]
  have J : tailracelaw02_KeysBack.j1 299999 l1 true false = some true := by
    simp only [tailracelaw02_KeysBack.j1]
    rw [if_neg (by decide), Decode_eq l1 (by omega) B1]
    rcases hn : decR l1 with _ | m
    · simp
    · have hr := row_dec l1.length l1 m (Nat.le_refl _) B1 hn
      simp only [Option.bind_some, if_true]
      rw [Row_eq m (by omega) (ok_ints hr.2.1), hr.1]
      simp only [Option.bind_some]
      obtain ⟨g, e, hg⟩ := good_eq m (by omega) 299998 (by omega)
      rw [Same_eq l1 l1 B1 B1, e, hg.2 hr.2.1]
      simp
  obtain ⟨g, e, hg⟩ := good_eq l0 (by omega) 299999 (by omega)
  rw [e]
  by_cases hok : ∀ v ∈ l0, Ok v
  · rw [dec_row l0 hok, hg.2 hok]
    simp only
    rw [same_self l0 (by omega) _ (by omega)]
    simp only [Option.bind_some, if_true]
    exact J
  · have hf : g = false := by
      cases g
      · rfl
      · exact absurd (hg.1 rfl) hok
    rw [hf]
    rcases hd : decR (rowK l0) with _ | m
    · obtain ⟨c, hc⟩ := same_some [] l0 (by simp) 299999 (by omega)
      simp only
      rw [hc]
      simp only [Option.bind_some]
      exact J
    · have hm := row_dec (rowK l0).length (rowK l0) m (Nat.le_refl _) (rowK_byt l0) hd
      obtain ⟨c, hc⟩ := same_some m l0 (by omega) 299999 (by omega)
      simp only
      rw [hc]
      simp only [Option.bind_some]
      exact J

end Go.Proofs.Ytniihilegljgmaa.Pure
