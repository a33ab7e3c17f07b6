/- By a program, out of the translation (wip/myprint.py). -/
import Derived.Test.YtelkjbacdpmnfaaA0
import Derived.Test.YtelkjbacdpmnfaaAPlainAlike
namespace Go.Proofs.Ytelkjbacdpmnfaa.A
open Go.RowKit Go.Proofs.YtelkjbacdpmnfaaW.PrintWords Go.Proofs.YtelkjbacdpmnfaaW.PrintLast Go.Proofs.YtelkjbacdpmnfaaW.PrintMore
attribute [local go_sem] max2_int min2_int max_two min_two max_three min_three max_four min_four   -- for this text's walks alone
set_option linter.unusedVariables false
set_option linter.unusedSimpArgs false

/-! of each state the least one that shows the same, round by round -/
section
variable {n L : Nat} {st : Nat → Nat → Nat} {acc : Nat → Bool}
def Eqv (K : Nat → Nat → Prop) : Prop := (∀ s, K s s) ∧ (∀ s u, K s u → K u s) ∧ ∀ s u v, K s u → K u v → K s v
/-- Of each state below k the least one that K ties it to. -/
def NormTo (K : Nat → Nat → Prop) (k : Nat) (f : Nat → Int) : Prop := ∀ s, s < k → ∃ u : Nat, f s = (u : Int) ∧ u ≤ s ∧ K u s ∧ ∀ v, v < u → ¬ K v s
def Nrm (n : Nat) (f : Nat → Int) : Prop := ∀ s, s < n → ∃ u : Nat, f s = (u : Int) ∧ u ≤ s ∧ f u = (u : Int)
def Shows (L : Nat) (st : Nat → Nat → Nat) (f : Nat → Int) (s u : Nat) : Prop := f s = f u ∧ ∀ c, c < L → f (st s c) = f (st u c)
theorem shows_eqv (f : Nat → Int) : Eqv (Shows L st f) := ⟨fun _ => ⟨rfl, fun _ _ => rfl⟩, fun _ _ h => ⟨h.1.symm, fun c hc => (h.2 c hc).symm⟩, fun _ _ _ h k => ⟨h.1.trans k.1, fun c hc => (h.2 c hc).trans (k.2 c hc)⟩⟩
theorem ends_eqv (acc : Nat → Bool) : Eqv (fun s u => acc s = acc u) := ⟨fun _ => rfl, fun _ _ h => h.symm, fun _ _ _ h k => h.trans k⟩
theorem NormTo.iff {K : Nat → Nat → Prop} (hK : Eqv K) {k : Nat} {f : Nat → Int} (h : NormTo K k f) {s u : Nat} (hs : s < k) (hu : u < k) : f s = f u ↔ K s u := by
  obtain ⟨a, e1, l1, k1, m1⟩ := h s hs
  obtain ⟨b, e2, l2, k2, m2⟩ := h u hu
  rw [e1, e2]
  constructor
  · intro e
    obtain rfl : a = b := by omega
    exact hK.2.2 _ _ _ (hK.2.1 _ _ k1) k2
  · intro e
    rcases Nat.lt_trichotomy a b with h1 | h1 | h1
    · exact absurd (hK.2.2 _ _ _ k1 e) (m2 a h1)
    · rw [h1]
    · exact absurd (hK.2.2 _ _ _ k2 (hK.2.1 _ _ e)) (m1 b h1)
theorem NormTo.nrm {K : Nat → Nat → Prop} (hK : Eqv K) {k : Nat} {f : Nat → Int} (h : NormTo K k f) : Nrm k f := by
  intro s hs
  obtain ⟨a, e1, l1, k1, m1⟩ := h s hs
  exact ⟨a, e1, l1, ((h.iff hK (by omega) hs).2 k1).trans e1⟩
/-- A state's row is gone through: it stands for itself. -/
theorem NormTo.own {K : Nat → Nat → Prop} (hK : Eqv K) {k : Nat} {f g : Nat → Int} (h : NormTo K k f) (hg : ∀ s, s < k → g s = f s) (hk : g k = (k : Int)) (hn : ∀ v, v < k → ¬ K v k) : NormTo K (k + 1) g := by
  intro s hs
  rcases Nat.lt_or_ge s k with h1 | h1
  · obtain ⟨a, e1, r⟩ := h s h1
    exact ⟨a, (hg s h1).trans e1, r⟩
  · obtain rfl : s = k := by omega
    exact ⟨s, hk, Nat.le_refl _, hK.1 s, hn⟩
theorem NormTo.tied {K : Nat → Nat → Prop} {k u : Nat} {f g : Nat → Int} (h : NormTo K k f) (hg : ∀ s, s < k → g s = f s) (hu : u < k) (hk : g k = (u : Int)) (hK : K u k) (hn : ∀ v, v < u → ¬ K v k) : NormTo K (k + 1) g := by
  intro s hs
  rcases Nat.lt_or_ge s k with h1 | h1
  · obtain ⟨a, e1, r⟩ := h s h1
    exact ⟨a, (hg s h1).trans e1, r⟩
  · obtain rfl : s = k := by omega
    exact ⟨u, hk, by omega, hK, hn⟩
/-- One that stands for another is none that ties first. -/
theorem NormTo.skip {K : Nat → Nat → Prop} (hK : Eqv K) {k u : Nat} {f : Nat → Int} (h : NormTo K k f) (hu : u < k) (hne : f u ≠ (u : Int)) (hn : ∀ v, v < u → ¬ K v k) : ¬ K u k := by
  intro hc
  obtain ⟨a, e1, l1, k1, _⟩ := h u hu
  rcases Nat.lt_or_ge a u with h1 | h1
  · exact hn a h1 (hK.2.2 _ _ _ k1 hc)
  · obtain rfl : a = u := by omega
    exact hne e1
/-- What holds of the states of a round. -/
structure Kept (n L : Nat) (st : Nat → Nat → Nat) (acc : Nat → Bool) (f : Nat → Int) : Prop where
  nrm : Nrm n f
  parts : Parts n acc f
  coarse : Coarse n L st acc f
theorem Kept.start {f : Nat → Int} (h : NormTo (fun s u => acc s = acc u) n f) : Kept n L st acc f :=
  ⟨h.nrm (ends_eqv acc), fun _ _ hs hu e => (h.iff (ends_eqv acc) hs hu).1 e, fun _ _ hs hu a => (h.iff (ends_eqv acc) hs hu).2 a.ends⟩
theorem finer_shows {f g : Nat → Int} (h : NormTo (Shows L st f) n g) : Finer n f g := fun _ _ hs hu e => ((h.iff (shows_eqv f) hs hu).1 e).1
theorem Kept.next {f g : Nat → Int} (hC : Shuts n L st) (k : Kept n L st acc f) (h : NormTo (Shows L st f) n g) : Kept n L st acc g :=
  ⟨h.nrm (shows_eqv f), k.parts.finer (finer_shows h), fun s u hs hu a => (h.iff (shows_eqv f) hs hu).2 ⟨k.coarse s u hs hu a, fun c hc => k.coarse _ _ (hC s c hs hc) (hC u c hu hc) (a.step hc)⟩⟩
theorem Nrm.same {f g : Nat → Int} (hf : Nrm n f) (hg : Nrm n g) (h : Finer n f g) (k : Finer n g f) {s : Nat} (hs : s < n) : f s = g s := by
  obtain ⟨u, e1, l1, i1⟩ := hf s hs
  obtain ⟨v, e2, l2, i2⟩ := hg s hs
  have a1 := k u s (by omega) hs (i1.trans e1.symm)
  have a2 := h v s (by omega) hs (i2.trans e2.symm)
  obtain ⟨x, b1, b2, _⟩ := hg u (by omega)
  obtain ⟨y, c1, c2, _⟩ := hf v (by omega)
  rw [e1, e2]
  omega
/-- Where a round changes something, there are more. -/
theorem Kept.more {f g : Nat → Int} (k : Kept n L st acc f) (h : NormTo (Shows L st f) n g) {s : Nat} (hs : s < n) (hne : g s ≠ f s) : cnt n f < cnt n g := by
  refine Nat.lt_of_le_of_ne (cnt_le (finer_shows h)) fun e => hne ?_
  exact ((h.nrm (shows_eqv f)).same k.nrm (finer_back (finer_shows h) e) (finer_shows h) hs)
/-- Where it changes nothing, they are alike. -/
theorem Kept.ends {B : List Int} (hB : B.length = n) {g : Nat → Int} (hC : Shuts n L st) (k : Kept n L st acc (fun s => B.getD s 0)) (h : NormTo (Shows L st (fun s => B.getD s 0)) n g) (he : ∀ s, s < n → g s = B.getD s 0) : IsClasses n L st acc B := by
  refine ⟨hB, fun s hs => ?_⟩
  obtain ⟨u, e1, l1, i1⟩ := k.nrm s hs
  have hst : Stable n L st (fun s => B.getD s 0) := fun s u hs hu e c hc => ((h.iff (shows_eqv _) hs hu).1 (((he s hs).trans e).trans (he u hu).symm)).2 c hc
  refine ⟨u, e1, l1, alike_of hC hst k.parts (by omega) hs (i1.trans e1.symm), fun v hv a => ?_⟩
  have h1 := k.coarse v s (by omega) hs a
  obtain ⟨x, e2, l2, _⟩ := k.nrm v (by omega)
  simp only at h1 e1 e2
  omega
/-- Blocks that are told apart by what is alike, as the least of each. -/
theorem classes_of {B C : List Int} (hB : B.length = n) (hb : ∀ s u, s < n → u < n → (B.getD s 0 = B.getD u 0 ↔ Alike L st acc s u)) (hC : C.length = n) (h : ∀ s, s < n → C.getD s 0 = ((B.idxOf (B.getD s 0) : Nat) : Int)) : IsClasses n L st acc C := by
  refine ⟨hC, fun s hs => ⟨_, h s hs, ?_, ?_, fun v hv a => ?_⟩⟩
  · rw [List.getD_eq_getElem?_getD, List.getElem?_eq_getElem (by omega)]
    simp only [Option.getD_some]
    refine Nat.le_of_not_lt fun hlt => ?_
    have h2 := List.not_of_lt_findIdx (p := (· == B[s])) (xs := B) (i := s) hlt
    simp at h2
  · have hm : B.getD s 0 ∈ B := by
      rw [List.getD_eq_getElem?_getD, List.getElem?_eq_getElem (by omega)]
      exact List.getElem_mem (by omega)
    have hi := List.idxOf_lt_length_iff.2 hm
    refine (hb _ s (by omega) hs).1 ?_
    rw [List.getD_eq_getElem?_getD (l := B), List.getElem?_eq_getElem hi]
    exact List.getElem_idxOf hi
  · have hm : B.getD s 0 ∈ B := by
      rw [List.getD_eq_getElem?_getD, List.getElem?_eq_getElem (by omega)]
      exact List.getElem_mem (by omega)
    have hi := List.idxOf_lt_length_iff.2 hm
    have e := (hb v s (by omega) hs).2 a
    have h2 := List.not_of_lt_findIdx (p := (· == B.getD s 0)) (xs := B) (i := v) hv
    rw [List.getD_eq_getElem?_getD (i := v), List.getElem?_eq_getElem (by omega)] at e
    simp only [Option.getD_some] at e
    rw [e] at h2
    simp at h2
end

end Go.Proofs.Ytelkjbacdpmnfaa.A
