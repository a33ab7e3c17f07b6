/- By a program, out of the translation (wip/myprint.py). -/
import Derived.Test.YtelkjbacdpmnfaaA0
import Derived.Test.YtelkjbacdpmnfaaAAnyOrder
namespace Go.Proofs.Ytelkjbacdpmnfaa.A
open Go.RowKit Go.Proofs.YtelkjbacdpmnfaaW.PrintWords Go.Proofs.YtelkjbacdpmnfaaW.PrintLast Go.Proofs.YtelkjbacdpmnfaaW.PrintMore
attribute [local go_sem] max2_int min2_int max_two min_two max_three min_three max_four min_four   -- for this text's walks alone
set_option linter.unusedVariables false
set_option linter.unusedSimpArgs false

/-! states that are alike: the coarsest parting that is kept by all letters -/
section
variable {n L : Nat} {st : Nat → Nat → Nat} {acc : Nat → Bool}
def runS (st : Nat → Nat → Nat) : Nat → List Nat → Nat
  | s, [] => s
  | s, c :: w => runS st (st s c) w
/-- No row tells two states apart. -/
def Alike (L : Nat) (st : Nat → Nat → Nat) (acc : Nat → Bool) (s u : Nat) : Prop := ∀ w : List Nat, (∀ c ∈ w, c < L) → acc (runS st s w) = acc (runS st u w)
def Stable (n L : Nat) (st : Nat → Nat → Nat) (f : Nat → Int) : Prop := ∀ s u, s < n → u < n → f s = f u → ∀ c, c < L → f (st s c) = f (st u c)
def Parts (n : Nat) (acc : Nat → Bool) (f : Nat → Int) : Prop := ∀ s u, s < n → u < n → f s = f u → acc s = acc u
def Coarse (n L : Nat) (st : Nat → Nat → Nat) (acc : Nat → Bool) (f : Nat → Int) : Prop := ∀ s u, s < n → u < n → Alike L st acc s u → f s = f u
def Shuts (n L : Nat) (st : Nat → Nat → Nat) : Prop := ∀ s c, s < n → c < L → st s c < n
/-- g parts all that f parts. -/
def Finer (n : Nat) (f g : Nat → Int) : Prop := ∀ s u, s < n → u < n → g s = g u → f s = f u
theorem Alike.refl (s : Nat) : Alike L st acc s s := fun _ _ => rfl
theorem Alike.symm {s u : Nat} (h : Alike L st acc s u) : Alike L st acc u s := fun w hw => (h w hw).symm
theorem Alike.trans {s u v : Nat} (h : Alike L st acc s u) (k : Alike L st acc u v) : Alike L st acc s v := fun w hw => (h w hw).trans (k w hw)
theorem Alike.ends {s u : Nat} (h : Alike L st acc s u) : acc s = acc u := h [] (by simp)
theorem Alike.step {s u : Nat} (h : Alike L st acc s u) {c : Nat} (hc : c < L) : Alike L st acc (st s c) (st u c) := fun w hw => h (c :: w) (by
  intro x hx
  rcases List.mem_cons.1 hx with rfl | hx
  · exact hc
  · exact hw x hx)
theorem runS_lt (hC : Shuts n L st) : ∀ (w : List Nat) (s : Nat), s < n → (∀ c ∈ w, c < L) → runS st s w < n
  | [], s, hs, _ => hs
  | c :: w, s, hs, hw => runS_lt hC w _ (hC s c hs (hw c (by simp))) (fun x hx => hw x (by simp [hx]))
theorem alike_of {f : Nat → Int} (hC : Shuts n L st) (h1 : Stable n L st f) (h2 : Parts n acc f) {s u : Nat} (hs : s < n) (hu : u < n) (h : f s = f u) : Alike L st acc s u := by
  intro w
  induction w generalizing s u with
  | nil => intro _; exact h2 s u hs hu h
  | cons c w ih =>
    intro hw
    have hc := hw c (by simp)
    exact ih (hC s c hs hc) (hC u c hu hc) (h1 s u hs hu h c hc) (fun x hx => hw x (by simp [hx]))
theorem Finer.refl (f : Nat → Int) : Finer n f f := fun _ _ _ _ h => h
theorem Finer.trans {f g h : Nat → Int} (a : Finer n f g) (b : Finer n g h) : Finer n f h := fun s u hs hu e => a s u hs hu (b s u hs hu e)
theorem Parts.finer {f g : Nat → Int} (h : Parts n acc f) (k : Finer n f g) : Parts n acc g := fun s u hs hu e => h s u hs hu (k s u hs hu e)
/-! how many blocks there are -/
def isFirst (f : Nat → Int) (s : Nat) : Bool := (List.range s).all fun u => f u != f s
def cnt (n : Nat) (f : Nat → Int) : Nat := (List.range n).countP (isFirst f)
theorem isFirst_iff {f : Nat → Int} {s : Nat} : isFirst f s = true ↔ ∀ u, u < s → f u ≠ f s := by simp [isFirst]
theorem cnt_le_n (n : Nat) (f : Nat → Int) : cnt n f ≤ n := by
  have := List.countP_le_length (p := isFirst f) (l := List.range n)
  simpa [cnt] using this
theorem first_mono {f g : Nat → Int} (h : Finer n f g) {s : Nat} (hs : s < n) (k : isFirst f s = true) : isFirst g s = true := by
  rw [isFirst_iff] at k ⊢
  exact fun u hu e => k u hu (h u s (by omega) hs e)
theorem cnt_le {f g : Nat → Int} (h : Finer n f g) : cnt n f ≤ cnt n g := List.countP_mono_left fun s hs k => first_mono h (List.mem_range.1 hs) k
theorem countP_same {α : Type} {p q : α → Bool} : ∀ {l : List α}, (∀ x ∈ l, p x = true → q x = true) → l.countP p = l.countP q → ∀ x ∈ l, q x = true → p x = true
  | [], _, _, x, hx, _ => by simp at hx
  | y :: l, h, he, x, hx, hq => by
    have hl : l.countP p ≤ l.countP q := List.countP_mono_left fun z hz => h z (by simp [hz])
    have hy := h y (by simp)
    rw [List.countP_cons, List.countP_cons] at he
    rcases List.mem_cons.1 hx with rfl | hx
    · rw [hq, if_pos rfl] at he
      cases hp : p x
      · rw [hp, if_neg (by decide)] at he
        omega
      · rfl
    · refine countP_same (fun z hz => h z (by simp [hz])) ?_ x hx hq
      cases hp : p y
      · rw [hp, if_neg (by decide)] at he
        cases hq' : q y
        · rw [hq', if_neg (by decide)] at he; omega
        · rw [hq', if_pos rfl] at he; omega
      · rw [hp, hy hp, if_pos rfl] at he
        omega
theorem has_first (f : Nat → Int) (s : Nat) : ∃ u, u ≤ s ∧ f u = f s ∧ isFirst f u = true := by
  induction s using Nat.strongRecOn with
  | _ s ih =>
    by_cases h : isFirst f s = true
    · exact ⟨s, Nat.le_refl _, rfl, h⟩
    · rw [isFirst_iff] at h
      obtain ⟨u, hu, e⟩ : ∃ u, u < s ∧ f u = f s := Classical.byContradiction fun hn => h fun u hu e => hn ⟨u, hu, e⟩
      obtain ⟨v, hv, e2, h2⟩ := ih u hu
      exact ⟨v, by omega, e2.trans e, h2⟩
theorem first_unique {f : Nat → Int} {s u : Nat} (h : f s = f u) (hs : isFirst f s = true) (hu : isFirst f u = true) : s = u := by
  rw [isFirst_iff] at hs hu
  rcases Nat.lt_trichotomy s u with h1 | h1 | h1
  · exact absurd h (hu s h1)
  · exact h1
  · exact absurd h.symm (hs u h1)
theorem finer_back {f g : Nat → Int} (h : Finer n f g) (he : cnt n f = cnt n g) : Finer n g f := by
  have key : ∀ s, s < n → ∀ u, u ≤ s → f u = f s → isFirst f u = true → g s = g u := by
    intro s hs u hu e hf
    obtain ⟨v, hv, e2, h2⟩ := has_first g s
    have h3 := countP_same (l := List.range n) (fun x hx => first_mono h (List.mem_range.1 hx)) he v (List.mem_range.2 (by omega)) h2
    have e3 := h v s (by omega) hs e2
    rw [first_unique (e3.trans e.symm) h3 hf] at e2
    exact e2.symm
  intro s u hs hu e
  obtain ⟨v, hv, e2, h2⟩ := has_first f s
  by_cases hvu : v ≤ u
  · rw [key s hs v hv e2 h2, key u hu v hvu (e2.trans e) h2]
  · have h4 := isFirst_iff.1 h2 u (by omega)
    exact absurd (e2.trans e).symm h4
/-! what was met, each once -/
def metBy {α : Type} [BEq α] [LawfulBEq α] (g : Nat → α) : Nat → List α
  | 0 => []
  | k + 1 => if g k ∈ metBy g k then metBy g k else metBy g k ++ [g k]
theorem mem_metBy {α : Type} [BEq α] [LawfulBEq α] {g : Nat → α} {x : α} : ∀ {k : Nat}, x ∈ metBy g k ↔ ∃ s, s < k ∧ g s = x
  | 0 => by simp [metBy]
  | k + 1 => by
    have ih := mem_metBy (g := g) (x := x) (k := k)
    have e : (∃ s, s < k + 1 ∧ g s = x) ↔ (∃ s, s < k ∧ g s = x) ∨ g k = x := by
      constructor
      · rintro ⟨s, hs, e⟩
        by_cases h : s = k
        · subst h; exact .inr e
        · exact .inl ⟨s, by omega, e⟩
      · rintro (⟨s, hs, e⟩ | e)
        · exact ⟨s, by omega, e⟩
        · exact ⟨k, by omega, e⟩
    rw [e, ← ih, metBy]
    split
    · rename_i h
      constructor
      · exact .inl
      · rintro (h1 | rfl)
        · exact h1
        · exact h
    · simp [eq_comm]
def numBy {α : Type} [BEq α] [LawfulBEq α] (g : Nat → α) (s : Nat) : Int := (((metBy g (s + 1)).idxOf (g s) : Nat) : Int)
theorem metBy_self {α : Type} [BEq α] [LawfulBEq α] (g : Nat → α) (s : Nat) : g s ∈ metBy g (s + 1) := mem_metBy.2 ⟨s, by omega, rfl⟩
theorem idx_grows {α : Type} [BEq α] [LawfulBEq α] (g : Nat → α) {x : α} {k : Nat} (hx : x ∈ metBy g k) : ∀ d : Nat, (metBy g (k + d)).idxOf x = (metBy g k).idxOf x
  | 0 => rfl
  | d + 1 => by
    have ih := idx_grows g hx d
    have hm : x ∈ metBy g (k + d) := by
      obtain ⟨s, hs, e⟩ := mem_metBy.1 hx
      exact mem_metBy.2 ⟨s, by omega, e⟩
    rw [show k + (d + 1) = k + d + 1 from rfl, metBy]
    split
    · exact ih
    · rw [List.idxOf_append, if_pos hm, ih]
theorem numBy_at {α : Type} [BEq α] [LawfulBEq α] (g : Nat → α) {s k : Nat} (h : s < k) : numBy g s = (((metBy g k).idxOf (g s) : Nat) : Int) := by
  obtain ⟨d, rfl⟩ : ∃ d, k = s + 1 + d := ⟨k - (s + 1), by omega⟩
  rw [numBy, idx_grows g (metBy_self g s) d]
theorem numBy_iff {α : Type} [BEq α] [LawfulBEq α] (g : Nat → α) (s u : Nat) : numBy g s = numBy g u ↔ g s = g u := by
  obtain ⟨k, h1, h2⟩ : ∃ k, s < k ∧ u < k := ⟨s + u + 1, by omega, by omega⟩
  rw [numBy_at g h1, numBy_at g h2]
  constructor
  · intro h
    have h' : (metBy g k).idxOf (g s) = (metBy g k).idxOf (g u) := by omega
    have m1 : g s ∈ metBy g k := mem_metBy.2 ⟨s, h1, rfl⟩
    have m2 : g u ∈ metBy g k := mem_metBy.2 ⟨u, h2, rfl⟩
    have e1 := List.getElem_idxOf (List.idxOf_lt_length_iff.2 m1)
    have e2 := List.getElem_idxOf (List.idxOf_lt_length_iff.2 m2)
    rw [← e1, ← e2]
    simp only [h']
  · intro h
    rw [h]
theorem metBy_length {α : Type} [BEq α] [LawfulBEq α] (g : Nat → α) : ∀ k : Nat, (metBy g k).length = cnt k (numBy g)
  | 0 => rfl
  | k + 1 => by
    have ih := metBy_length g k
    have hf : isFirst (numBy g) k = true ↔ g k ∉ metBy g k := by
      rw [isFirst_iff, mem_metBy]
      constructor
      · rintro h ⟨s, hs, e⟩
        exact h s hs ((numBy_iff g s k).2 e)
      · intro h u hu e
        exact h ⟨u, hu, (numBy_iff g u k).1 e⟩
    rw [cnt, List.range_succ, List.countP_append, ← cnt, ← ih, metBy]
    by_cases h : g k ∈ metBy g k
    · rw [if_pos h]
      have : isFirst (numBy g) k = false := Bool.eq_false_iff.2 fun e => hf.1 e h
      simp [this]
    · rw [if_neg h]
      simp [hf.2 h]
/-! of each state the least one that is alike -/
def IsClasses (n L : Nat) (st : Nat → Nat → Nat) (acc : Nat → Bool) (cl : List Int) : Prop :=
  cl.length = n ∧ ∀ s, s < n → ∃ u : Nat, cl.getD s 0 = (u : Int) ∧ u ≤ s ∧ Alike L st acc u s ∧ ∀ v, v < u → ¬ Alike L st acc v s
theorem IsClasses.unique {a b : List Int} (ha : IsClasses n L st acc a) (hb : IsClasses n L st acc b) : a = b := by
  apply List.ext_getElem (ha.1.trans hb.1.symm)
  intro i h1 h2
  obtain ⟨u, e1, l1, a1, m1⟩ := ha.2 i (by rw [← ha.1]; exact h1)
  obtain ⟨v, e2, l2, a2, m2⟩ := hb.2 i (by rw [← hb.1]; exact h2)
  rw [List.getD_eq_getElem?_getD, List.getElem?_eq_getElem h1] at e1
  rw [List.getD_eq_getElem?_getD, List.getElem?_eq_getElem h2] at e2
  simp at e1 e2
  rw [e1, e2]
  rcases Nat.lt_trichotomy u v with h | h | h
  · exact absurd a1 (m2 u h)
  · rw [h]
  · exact absurd a2 (m1 v h)
end

end Go.Proofs.Ytelkjbacdpmnfaa.A
