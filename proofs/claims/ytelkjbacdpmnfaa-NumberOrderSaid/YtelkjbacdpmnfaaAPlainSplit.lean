/- By a program, out of the translation (wip/myprint.py). -/
import Derived.Test.YtelkjbacdpmnfaaA0
import Derived.Test.YtelkjbacdpmnfaaAAnyOrder
import Derived.Test.YtelkjbacdpmnfaaAPlainAlike
namespace Go.Proofs.Ytelkjbacdpmnfaa.A
open Go.RowKit Go.Proofs.YtelkjbacdpmnfaaW.PrintWords Go.Proofs.YtelkjbacdpmnfaaW.PrintLast Go.Proofs.YtelkjbacdpmnfaaW.PrintMore
attribute [local go_sem] max2_int min2_int max_two min_two max_three min_three max_four min_four   -- for this text's walks alone
set_option linter.unusedVariables false
set_option linter.unusedSimpArgs false

/-! blocks that are split by a letter -/
def stL (nx : List (List Int)) (s c : Nat) : Nat := ((nx.getD s []).getD c 0).toNat
def acL (ac : List Bool) (s : Nat) : Bool := ac.getD s false
def fL (B : List Int) (s : Nat) : Int := B.getD s 0
/-- What a state shows: its block, and the block that a letter leads to. -/
def faceOf (nx : List (List Int)) (B : List Int) (c k : Nat) : Int × Int := (B.getD k 0, B.getD ((nx.getD k []).getD c 0).toNat 0)
/-- The faces met, each once. -/
def facesMet (nx : List (List Int)) (B : List Int) (c k : Nat) : List (Int × Int) := metBy (faceOf nx B c) k
theorem facesMet_le (nx : List (List Int)) (B : List Int) (c : Nat) (k : Nat) : (facesMet nx B c k).length ≤ k := by
  unfold facesMet
  rw [metBy_length]
  exact cnt_le_n _ _
def splitTo (nx : List (List Int)) (B : List Int) (c : Nat) (k : Nat) : List Int := (List.range B.length).map fun s => if s < k then numBy (faceOf nx B c) s else 0
theorem splitTo_succ (nx : List (List Int)) (B : List Int) (c k : Nat) (hk : k < B.length) : splitTo nx B c (k + 1) = (splitTo nx B c k).set k (((facesMet nx B c (k + 1)).idxOf (faceOf nx B c k) : Nat) : Int) := by
  apply List.ext_getElem (by simp [splitTo])
  intro i h1 h2
  simp only [splitTo, List.getElem_map, List.getElem_range, List.getElem_set]
  by_cases h : k = i
  · subst h
    simp
    rfl
  · rw [if_neg h]
    by_cases h3 : i < k
    · rw [if_pos (by omega), if_pos h3]
    · rw [if_neg (by omega), if_neg h3]
theorem facesMet_old {nx : List (List Int)} {B : List Int} {c k : Nat} (h : faceOf nx B c k ∈ facesMet nx B c k) : facesMet nx B c (k + 1) = facesMet nx B c k := if_pos h
theorem facesMet_new {nx : List (List Int)} {B : List Int} {c k : Nat} (h : faceOf nx B c k ∉ facesMet nx B c k) : facesMet nx B c (k + 1) = facesMet nx B c k ++ [faceOf nx B c k] := if_neg h
section
variable {nx : List (List Int)} {B : List Int} {c : Nat}
theorem splitTo_length (k : Nat) : (splitTo nx B c k).length = B.length := by simp [splitTo]
theorem fL_split {s : Nat} (hs : s < B.length) : fL (splitTo nx B c B.length) s = numBy (faceOf nx B c) s := by
  unfold fL splitTo
  rw [List.getD_eq_getElem?_getD, List.getElem?_eq_getElem (by simpa using hs)]
  simp [hs]
theorem split_iff {s u : Nat} (hs : s < B.length) (hu : u < B.length) : fL (splitTo nx B c B.length) s = fL (splitTo nx B c B.length) u ↔ fL B s = fL B u ∧ fL B (stL nx s c) = fL B (stL nx u c) := by
  rw [fL_split hs, fL_split hu, numBy_iff, faceOf, faceOf, Prod.mk.injEq]
  rfl
theorem cnt_congr {f g : Nat → Int} {n : Nat} (h : ∀ s, s < n → f s = g s) : cnt n f = cnt n g := by
  have h1 : Finer n f g := fun s u hs hu e => by rw [h s hs, h u hu, e]
  have h2 : Finer n g f := fun s u hs hu e => by rw [← h s hs, ← h u hu, e]
  exact Nat.le_antisymm (cnt_le h1) (cnt_le h2)
theorem split_cnt : cnt B.length (fL (splitTo nx B c B.length)) = (facesMet nx B c B.length).length := by
  rw [cnt_congr (g := numBy (faceOf nx B c)) (fun s hs => fL_split hs), facesMet, metBy_length]
theorem split_finer : Finer B.length (fL B) (fL (splitTo nx B c B.length)) := fun _ _ hs hu e => ((split_iff hs hu).1 e).1
theorem split_coarse {L : Nat} {acc : Nat → Bool} (hc : c < L) (hC : Shuts B.length L (stL nx)) (h : Coarse B.length L (stL nx) acc (fL B)) : Coarse B.length L (stL nx) acc (fL (splitTo nx B c B.length)) := fun s u hs hu ha =>
  (split_iff hs hu).2 ⟨h s u hs hu ha, h _ _ (hC s c hs hc) (hC u c hu hc) (ha.step hc)⟩
theorem numBy_range {α : Type} [BEq α] [LawfulBEq α] (g : Nat → α) (s : Nat) : 0 ≤ numBy g s ∧ numBy g s ≤ s := by
  refine ⟨by unfold numBy; omega, ?_⟩
  have h1 := List.idxOf_lt_length_iff.2 (metBy_self g s)
  have h2 := cnt_le_n (s + 1) (numBy g)
  rw [← metBy_length] at h2
  unfold numBy
  omega
theorem split_range {x : Int} (h : x ∈ splitTo nx B c B.length) : 0 ≤ x ∧ x < B.length := by
  unfold splitTo at h
  obtain ⟨s, hs, rfl⟩ := List.mem_map.1 h
  have hs := List.mem_range.1 hs
  have := numBy_range (faceOf nx B c) s
  rw [if_pos hs]
  omega
end
/-- Blocks behind a round of letters, as far as the round has come. -/
structure Round (n L : Nat) (nx : List (List Int)) (acc : Nat → Bool) (B0 B : List Int) (c : Nat) : Prop where
  len : B.length = n
  fine : Finer n (fL B0) (fL B)
  coarse : Coarse n L (stL nx) acc (fL B)
  kept : ∀ s u, s < n → u < n → fL B s = fL B u → ∀ c', c' < c → fL B0 (stL nx s c') = fL B0 (stL nx u c')
  low : ∀ x ∈ B, 0 ≤ x ∧ x < 1000
theorem Round.zero {n L : Nat} {nx : List (List Int)} {acc : Nat → Bool} {B : List Int} (hl : B.length = n) (hc : Coarse n L (stL nx) acc (fL B)) (hr : ∀ x ∈ B, 0 ≤ x ∧ x < 1000) : Round n L nx acc B B 0 := ⟨hl, Finer.refl _, hc, fun _ _ _ _ _ _ h => absurd h (Nat.not_lt_zero _), hr⟩
theorem Round.next {n L : Nat} {nx : List (List Int)} {acc : Nat → Bool} {B0 B : List Int} {c : Nat} (h : Round n L nx acc B0 B c) (hn : n ≤ 1000) (hc : c < L) (hC : Shuts n L (stL nx)) : Round n L nx acc B0 (splitTo nx B c B.length) (c + 1) := by
  obtain ⟨rfl, h2, h3, h4, h5⟩ := h
  refine ⟨splitTo_length _, h2.trans split_finer, split_coarse hc hC h3, fun s u hs hu e c' hc' => ?_, fun x hx => ?_⟩
  · obtain ⟨e1, e2⟩ := (split_iff hs hu).1 e
    rcases Nat.lt_or_ge c' c with h | h
    · exact h4 s u hs hu e1 c' h
    · obtain rfl : c' = c := by omega
      exact h2 _ _ (hC s c' hs hc) (hC u c' hu hc) e2
  · have := split_range hx
    omega
/-- Where a round has split nothing, the blocks are kept by all letters. -/
theorem Round.done {n L : Nat} {nx : List (List Int)} {acc : Nat → Bool} {B0 B : List Int} (h : Round n L nx acc B0 B L) (he : cnt n (fL B0) = cnt n (fL B)) (hC : Shuts n L (stL nx)) : Stable n L (stL nx) (fL B) := fun s u hs hu e c hc =>
  finer_back h.fine he _ _ (hC s c hs hc) (hC u c hu hc) (h.kept s u hs hu e c hc)
theorem blocks_iff {n L : Nat} {nx : List (List Int)} {acc : Nat → Bool} {B0 B : List Int} (h : Round n L nx acc B0 B L) (he : cnt n (fL B0) = cnt n (fL B)) (hp : Parts n acc (fL B0)) (hC : Shuts n L (stL nx)) {s u : Nat} (hs : s < n) (hu : u < n) : fL B s = fL B u ↔ Alike L (stL nx) acc s u :=
  ⟨alike_of hC (h.done he hC) (hp.finer h.fine) hs hu, h.coarse s u hs hu⟩

end Go.Proofs.Ytelkjbacdpmnfaa.A
