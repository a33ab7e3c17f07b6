/- By a program, out of the translation (wip/myprint.py). -/
import Derived.Test.YtelkjbacdpmnfaaA0
import Derived.Test.YtelkjbacdpmnfaaAPlainAlike
namespace Go.Proofs.Ytelkjbacdpmnfaa.A
open Go.RowKit Go.Proofs.YtelkjbacdpmnfaaW.PrintWords Go.Proofs.YtelkjbacdpmnfaaW.PrintLast Go.Proofs.YtelkjbacdpmnfaaW.PrintMore
attribute [local go_sem] max2_int min2_int max_two min_two max_three min_three max_four min_four   -- for this text's walks alone
set_option linter.unusedVariables false
set_option linter.unusedSimpArgs false

/-! states that are reached, one behind the other -/
section
variable {n L : Nat} {st : Nat → Nat → Nat}
def Gets (L : Nat) (st : Nat → Nat → Nat) (s : Nat) : Prop := ∃ w : List Nat, (∀ c ∈ w, c < L) ∧ runS st 0 w = s
def IsReach (n L : Nat) (st : Nat → Nat → Nat) (out : List Bool) : Prop := out.length = n ∧ ∀ s, s < n → (out.getD s false = true ↔ Gets L st s)
theorem IsReach.unique {a b : List Bool} (ha : IsReach n L st a) (hb : IsReach n L st b) : a = b := by
  apply List.ext_getElem (ha.1.trans hb.1.symm)
  intro i h1 h2
  have e := (ha.2 i (by rw [← ha.1]; exact h1)).trans (hb.2 i (by rw [← hb.1]; exact h2)).symm
  rw [List.getD_eq_getElem?_getD, List.getElem?_eq_getElem h1, List.getD_eq_getElem?_getD, List.getElem?_eq_getElem h2] at e
  simp only [Option.getD_some] at e
  cases h : a[i] <;> cases h' : b[i] <;> simp_all
theorem runS_snoc (st : Nat → Nat → Nat) : ∀ (w : List Nat) (s c : Nat), runS st s (w ++ [c]) = st (runS st s w) c
  | [], _, _ => rfl
  | d :: w, s, c => runS_snoc st w (st s d) c
theorem Gets.zero : Gets L st 0 := ⟨[], by simp, rfl⟩
theorem Gets.step {s c : Nat} (h : Gets L st s) (hc : c < L) : Gets L st (st s c) := by
  obtain ⟨w, hw, rfl⟩ := h
  refine ⟨w ++ [c], fun x hx => ?_, runS_snoc st w 0 c⟩
  rcases List.mem_append.1 hx with hx | hx
  · exact hw x hx
  · rw [List.mem_singleton.1 hx]; exact hc
structure Bfs (n L : Nat) (st : Nat → Nat → Nat) (out : List Bool) (l : List Nat) (i c : Nat) : Prop where
  len : out.length = n
  low : ∀ s ∈ l, s < n
  many : l.length = out.countP id
  mem : ∀ s, s < n → (out.getD s false = true ↔ s ∈ l)
  got : ∀ s ∈ l, Gets L st s
  first : 0 ∈ l
  done : ∀ j, j < i → ∀ c', c' < L → st (l.getD j 0) c' ∈ l
  now : ∀ c', c' < c → st (l.getD i 0) c' ∈ l
  at_ : i ≤ l.length
theorem countP_set_new : ∀ (out : List Bool) (s : Nat), s < out.length → out.getD s false = false → (out.set s true).countP id = out.countP id + 1
  | [], _, h, _ => by simp at h
  | b :: out, 0, _, h => by
    simp at h
    subst h
    simp
  | b :: out, s + 1, h, hb => by
    have ih := countP_set_new out s (by simpa using h) (by simpa using hb)
    rw [List.set_cons_succ, List.countP_cons, List.countP_cons, ih]
    omega
variable {out : List Bool} {l : List Nat} {i c : Nat}
theorem Bfs.most (h : Bfs n L st out l i c) : l.length ≤ n := by
  rw [h.many, ← h.len]
  exact List.countP_le_length
theorem Bfs.start (hn : 0 < n) : Bfs n L st ((List.replicate n false).set 0 true) [0] 0 0 := by
  refine ⟨by simp, by simp [hn], ?_, fun s hs => ?_, by simpa using Gets.zero, by simp, by simp, by simp, by simp⟩
  · rw [countP_set_new _ _ (by simpa using hn) (by cases n <;> simp [List.replicate_succ] at *)]
    have : (List.replicate n false).countP id = 0 := by simp [List.countP_replicate]
    simp [this]
  · rw [List.getD_eq_getElem?_getD, List.getElem?_set]
    by_cases h : s = 0
    · subst h; simp [hn]
    · rw [if_neg (by omega)]
      simp [List.getElem?_replicate, hs, h]
theorem Bfs.cur (h : Bfs n L st out l i c) (hi : i < l.length) : l.getD i 0 ∈ l ∧ l.getD i 0 < n := by
  have : l.getD i 0 ∈ l := by
    rw [List.getD_eq_getElem?_getD, List.getElem?_eq_getElem hi]
    simp
  exact ⟨this, h.low _ this⟩
theorem Bfs.old (h : Bfs n L st out l i c) (hm : st (l.getD i 0) c ∈ l) : Bfs n L st out l i (c + 1) :=
  ⟨h.len, h.low, h.many, h.mem, h.got, h.first, h.done, fun c' hc' => by
    rcases Nat.lt_or_ge c' c with h1 | h1
    · exact h.now c' h1
    · obtain rfl : c' = c := by omega
      exact hm, h.at_⟩
theorem getD_snoc {l : List Nat} {j x : Nat} (h : j < l.length) : (l ++ [x]).getD j 0 = l.getD j 0 := by
  rw [List.getD_eq_getElem?_getD, List.getD_eq_getElem?_getD, List.getElem?_append_left h]
theorem Bfs.new (h : Bfs n L st out l i c) (hi : i < l.length) (hc : c < L) (hx : st (l.getD i 0) c < n) (hm : out.getD (st (l.getD i 0) c) false = false) : Bfs n L st (out.set (st (l.getD i 0) c) true) (l ++ [st (l.getD i 0) c]) i (c + 1) := by
  generalize hs : st (l.getD i 0) c = s at *
  refine ⟨by simpa using h.len, fun t ht => ?_, ?_, fun t ht => ?_, fun t ht => ?_, by simp [h.first], fun j hj c' hc' => ?_, fun c' hc' => ?_, by simp; omega⟩
  · rcases List.mem_append.1 ht with ht | ht
    · exact h.low t ht
    · rw [List.mem_singleton.1 ht]; exact hx
  · rw [countP_set_new _ _ (by rw [h.len]; exact hx) hm, List.length_append, h.many]
    rfl
  · rw [List.getD_eq_getElem?_getD, List.getElem?_set]
    by_cases he : s = t
    · subst he
      simp [h.len, hx]
    · rw [if_neg he, ← List.getD_eq_getElem?_getD, h.mem t ht]
      have : t ≠ s := fun e => he e.symm
      simp [this]
  · rcases List.mem_append.1 ht with ht | ht
    · exact h.got t ht
    · rw [List.mem_singleton.1 ht, ← hs]
      exact (h.got _ (h.cur hi).1).step hc
  · rw [getD_snoc (by omega)]
    exact List.mem_append.2 (.inl (h.done j hj c' hc'))
  · rw [getD_snoc hi]
    rcases Nat.lt_or_ge c' c with h1 | h1
    · exact List.mem_append.2 (.inl (h.now c' h1))
    · obtain rfl : c' = c := by omega
      rw [hs]
      simp
theorem Bfs.turn (h : Bfs n L st out l i L) (hi : i < l.length) : Bfs n L st out l (i + 1) 0 :=
  ⟨h.len, h.low, h.many, h.mem, h.got, h.first, fun j hj c' hc' => by
    rcases Nat.lt_or_ge j i with h1 | h1
    · exact h.done j h1 c' hc'
    · obtain rfl : j = i := by omega
      exact h.now c' hc', fun c' hc' => absurd hc' (Nat.not_lt_zero _), hi⟩
theorem Bfs.end_ (h : Bfs n L st out l i c) (hi : i = l.length) : IsReach n L st out := by
  refine ⟨h.len, fun s hs => ?_⟩
  rw [h.mem s hs]
  refine ⟨h.got s, fun ⟨w, hw, e⟩ => ?_⟩
  have key : ∀ (w : List Nat) (t : Nat), t ∈ l → (∀ c ∈ w, c < L) → runS st t w ∈ l := by
    intro w
    induction w with
    | nil => intro t ht _; exact ht
    | cons c w ih =>
      intro t ht hw
      refine ih _ ?_ (fun x hx => hw x (by simp [hx]))
      obtain ⟨j, hj, e⟩ := List.mem_iff_getElem.1 ht
      have := h.done j (by omega) c (hw c (by simp))
      rw [List.getD_eq_getElem?_getD, List.getElem?_eq_getElem hj] at this
      simpa [e] using this
  rw [← e]
  exact key w 0 h.first hw
end

end Go.Proofs.Ytelkjbacdpmnfaa.A
