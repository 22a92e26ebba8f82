import Derived.Test.YtniihilegljgmaaWWords
import Derived.Deep.Slices
import Derived.ChangeOld
import Derived.ProofKit
set_option linter.unusedVariables false
set_option linter.unusedSimpArgs false
namespace Go.Proofs.YtniihilegljgmaaOwn
open Go.Proofs.YtniihilegljgmaaW.PrintWords
/-- What a reading of cells of type T tells, by kind. -/
def Rd (P : Program) {α : Type} (T : TypeId) (d : Kd α) (Fit : α → Prop) : Prop :=
  d.sz = P.cellsOf T ∧ ∀ (H : Type) (enc : TypeId × Value → H) (w : World) (spare : Nat → Bool) (held : Bool) (fuel : Nat) (cs : List Value) (x : DataW H × List MemPlace),
    DataW.trod enc P w 0 spare held fuel T cs = some x → ∃ a, d.K w a cs ∧ Fit a
section
variable {P : Program}
theorem rd_int {T : TypeId} {k : IntKind} (hu : P.underlying T = some (.int k)) (hc : P.cellsOf T = 1) : Rd P T (Kd.int k) (fun x => (Lit.int k x).wf = true) := by
  refine ⟨hc.symm, fun H enc w spare held fuel cs x h => ?_⟩
  obtain ⟨n, rfl, _, hw⟩ := DataW.trod_int hu h
  exact ⟨n, rfl, hw⟩
theorem rd_bool {T : TypeId} (hu : P.underlying T = some .bool) (hc : P.cellsOf T = 1) : Rd P T Kd.bool (fun _ => True) := by
  refine ⟨hc.symm, fun H enc w spare held fuel cs x h => ?_⟩
  obtain ⟨b, rfl, _⟩ := DataW.trod_bool hu h
  exact ⟨b, rfl, trivial⟩
theorem rd_string {T : TypeId} (hu : P.underlying T = some .string) (hc : P.cellsOf T = 1) : Rd P T Kd.string (fun x => x.size ≤ maxLen) := by
  refine ⟨hc.symm, fun H enc w spare held fuel cs x h => ?_⟩
  obtain ⟨s, rfl, _, hs⟩ := DataW.trod_string hu h
  exact ⟨s, rfl, hs⟩
theorem choose_list {α : Type} {R : Nat → α → Prop} : ∀ (n : Nat), (∀ i, i < n → ∃ a, R i a) → ∃ l : List α, l.length = n ∧ ∀ i a, l[i]? = some a → R i a
  | 0, _ => ⟨[], rfl, fun i a h => by simp at h⟩
  | n + 1, h => by
    obtain ⟨l, hl, hR⟩ := choose_list n (fun i hi => h i (by omega))
    obtain ⟨a, ha⟩ := h n (by omega)
    refine ⟨l ++ [a], by simp [hl], fun i b hb => ?_⟩
    rcases Nat.lt_or_ge i l.length with hi | hi
    · rw [List.getElem?_append_left hi] at hb
      exact hR i b hb
    · rw [List.getElem?_append_right hi] at hb
      obtain rfl : i = n := by
        rcases Nat.lt_or_ge (i - l.length) 1 with h1 | h1
        · omega
        · rw [List.getElem?_eq_none (by simpa using h1)] at hb; simp at hb
      have : b = a := by simpa [hl] using hb.symm
      rw [this]; exact ha
theorem rd_slice {α : Type} {T e : TypeId} {d : Kd α} {Fit : α → Prop} (hu : P.underlying T = some (.slice e)) (hc : P.cellsOf T = 1) (hd : Rd P e d Fit) :
    Rd P T (Kd.slice e d) (fun l => l.length ≤ maxLen ∧ ∀ x ∈ l, Fit x) := by
  refine ⟨hc.symm, fun H enc w spare held fuel cs x h => ?_⟩
  rcases Go.Deep.open_slice hu h with ⟨rfl, rfl⟩ | ⟨a, len, cap, m, n, D, Pl, rfl, _, hl, hm, hmm, rfl, hel⟩
  · exact ⟨[], ⟨none, 0, rfl, Nat.le_refl _, rfl, by simp, fun h => absurd h (by simp)⟩, by simp, by simp⟩
  · have hlm : len ≤ m := by rw [hmm]; split <;> omega
    obtain ⟨l, hll, hR⟩ := choose_list (R := fun i (b : α) => ∃ cs', w.cells? 0 (a.add (i * P.cellsOf e)) (P.cellsOf e) = some cs' ∧ d.K w b cs' ∧ Fit b) len (fun i hi => by
      obtain ⟨cs', h1, h2⟩ := hel i (by omega)
      obtain ⟨b, hb⟩ := hd.2 _ _ _ _ _ _ _ _ h2
      exact ⟨b, cs', h1, hb⟩)
    refine ⟨l, ⟨some a, cap, by rw [hll], by omega, rfl, by simp only [maxLen] at hm; omega, fun _ => ⟨a, rfl, fun j p hj => ?_⟩⟩, by omega, fun b hb => ?_⟩
    · obtain ⟨cs', h1, h2, _⟩ := hR j p hj
      obtain ⟨_, h3, h4⟩ := World.cells?_some h1
      refine ⟨cs', d.K_len h2, h2, fun i u hu => ?_⟩
      rcases Nat.lt_or_ge i cs'.length with hi | hi
      · have := h4 i (by omega)
        rw [add_add] at this
        rw [hd.1, this, hu]
      · rw [List.getElem?_eq_none hi] at hu; simp at hu
    · obtain ⟨i, hi⟩ := List.getElem?_of_mem hb
      obtain ⟨_, _, _, h3⟩ := hR i b hi
      exact h3
/-- Fields in line, from an offset on. -/
def RdF (P : Program) {α : Type} (fs : List Field) (o : Nat) (d : Kd α) (Fit : α → Prop) : Prop :=
  ∀ (H : Type) (enc : TypeId × Value → H) (w : World) (spare : Nat → Bool) (held : Bool) (fuel : Nat) (cs : List Value), cs.length = o + d.sz →
    (∀ f ∈ fs, ∃ y, DataW.trod enc P w 0 spare held fuel f.type ((cs.drop f.offset).take (P.cellsOf f.type)) = some y) → ∃ a, d.K w a (cs.drop o) ∧ Fit a
theorem rdf_last {α : Type} {f : Field} {d : Kd α} {Fit : α → Prop} (hd : Rd P f.type d Fit) : RdF P [f] f.offset d Fit := by
  intro H enc w spare held fuel cs hl h
  obtain ⟨y, hx⟩ := h f (by simp)
  obtain ⟨a, ha⟩ := hd.2 _ _ _ _ _ _ _ _ hx
  rw [List.take_of_length_le (by rw [List.length_drop, hl, hd.1]; omega)] at ha
  exact ⟨a, ha⟩
theorem rdf_cons {α β : Type} {f : Field} {fs : List Field} {o : Nat} {d : Kd α} {d' : Kd β} {Fit : α → Prop} {Fit' : β → Prop} (hd : Rd P f.type d Fit) (ho : o = f.offset + d.sz) (hfs : RdF P fs o d' Fit') :
    RdF P (f :: fs) f.offset (Kd.pair d d') (fun x => Fit x.1 ∧ Fit' x.2) := by
  intro H enc w spare held fuel cs hl h
  have hl' : cs.length = f.offset + (d.sz + d'.sz) := hl
  obtain ⟨y, hx⟩ := h f (by simp)
  obtain ⟨a, ha, hfa⟩ := hd.2 _ _ _ _ _ _ _ _ hx
  obtain ⟨b, hb, hfb⟩ := hfs _ _ _ _ _ _ _ (by omega) (fun g hg => h g (by simp [hg]))
  refine ⟨(a, b), ⟨_, _, ?_, ha, hb⟩, hfa, hfb⟩
  rw [← hd.1, ho, ← List.drop_drop]
  exact (List.take_append_drop _ _).symm
theorem rd_struct {α β : Type} {T : TypeId} {fs : Array Field} {d : Kd α} {d' : Kd β} {Fit : α → Prop} (f : β → α) (g : α → β) (hfg : ∀ x, f (g x) = x) (hu : P.underlying T = some (.struct fs)) (hc : d.sz = P.cellsOf T)
    (hK : ∀ w y cs, d.K w (f y) cs → d'.K w y cs) (hsz : d'.sz = d.sz) (hfs : RdF P fs.toList 0 d Fit) : Rd P T d' (fun y => Fit (f y)) := by
  refine ⟨by rw [hsz, hc], fun H enc w spare held fuel cs x h => ?_⟩
  obtain ⟨xs, n, rfl, _, hl, hxl, hx⟩ := DataW.trod_struct hu h
  obtain ⟨a, ha, hfa⟩ := hfs H enc w spare held n cs (by rw [hl, hc]; omega) (fun f hf => by
    obtain ⟨i, hi⟩ := List.getElem?_of_mem hf
    have hi' : fs[i]? = some f := by simpa using hi
    have h1 := hx i f hi'
    have h2 : i < xs.length := by rw [hxl]; exact (Array.getElem?_eq_some_iff.1 hi').1
    exact ⟨xs[i], by rw [h1, List.getElem?_eq_getElem h2]⟩)
  exact ⟨g a, hK _ _ _ (by rw [hfg]; simpa using ha), by show Fit (f (g a)); rw [hfg]; exact hfa⟩
theorem okWide_agg {w : World} {r : Reach} {base : Nat} {T : TypeId} {fs : Array Field} {v : Value} (hu : P.underlying T = some (.struct fs)) (h : Value.okWide P w r base T v) : ∃ cs, v = .agg cs ∧ v.cells = cs := by
  unfold Value.okWide at h
  rw [hu] at h
  obtain ⟨cs, rfl, _⟩ := h
  exact ⟨cs, rfl, rfl⟩
end
end Go.Proofs.YtniihilegljgmaaOwn
