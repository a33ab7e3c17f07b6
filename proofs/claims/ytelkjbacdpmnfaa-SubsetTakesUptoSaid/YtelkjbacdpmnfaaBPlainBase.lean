/- Contracts. -/
import Derived.Test.YtelkjbacdpmnfaaB0
import Derived.Test.YtelkjbacdpmnfaaBWordsB

namespace Go.Proofs.Ytelkjbacdpmnfaa.A
open Go.RowKit Go.W_.PrintWords Go.W_.PrintLast Go.W_.PrintMore
attribute [local go_sem] max2_int min2_int max_two min_two max_three min_three max_four min_four
set_option linter.unusedVariables false
set_option linter.unusedSimpArgs false

section
variable {n L : Nat} {st : Nat → Nat → Nat} {acc : Nat → Bool}
def runS (st : Nat → Nat → Nat) : Nat → List Nat → Nat
 | s, [] => s
 | s, c :: w => runS st (st s c) w
/-- No row tells two states apart. -/
def Alike (L : Nat) (st : Nat → Nat → Nat) (acc : Nat → Bool) (s u : Nat) : Prop := ∀ w : List Nat, (∀ c ∈ w, c < L) → acc (runS st s w) = acc (runS st u w)
def Stable (n L : Nat) (st : Nat → Nat → Nat) (f : Nat → Int) : Prop := ∀ s u, s < n → u < n → f s = f u → ∀ c, c < L → f (st s c) = f (st u c)
def Coarse (n L : Nat) (st : Nat → Nat → Nat) (acc : Nat → Bool) (f : Nat → Int) : Prop := ∀ s u, s < n → u < n → Alike L st acc s u → f s = f u
def Shuts (n L : Nat) (st : Nat → Nat → Nat) : Prop := ∀ s c, s < n → c < L → st s c < n
/-- g parts all that f parts. -/
def Finer (n : Nat) (f g : Nat → Int) : Prop := ∀ s u, s < n → u < n → g s = g u → f s = f u
theorem Alike.refl (s : Nat) : Alike L st acc s s := fun _ _ => rfl
theorem Alike.symm {s u : Nat} (h : Alike L st acc s u) : Alike L st acc u s := fun w hw => (h w hw).symm
theorem Alike.trans {s u v : Nat} (h : Alike L st acc s u) (k : Alike L st acc u v) : Alike L st acc s v := fun w hw => (h w hw).trans (k w hw)
theorem Alike.ends {s u : Nat} (h : Alike L st acc s u) : acc s = acc u := h [] (by simp)
theorem Alike.step {s u : Nat} (h : Alike L st acc s u) {c : Nat} (hc : c < L) : Alike L st acc (st s c) (st u c) := fun w hw => h (c :: w) (by
 intro x hx
 rcases List.mem_cons.1 hx with rfl | hx
 ·exact hc
 ·exact hw x hx)
theorem runS_lt (hC : Shuts n L st) : ∀ (w : List Nat) (s : Nat), s < n → (∀ c ∈ w, c < L) → runS st s w < n
 | [], s, hs, _ => hs
 | c :: w, s, hs, hw => runS_lt hC w _ (hC s c hs (hw c (by simp))) (fun x hx => hw x (by simp [hx]))
theorem Finer.refl (f : Nat → Int) : Finer n f f := fun _ _ _ _ h => h
theorem Finer.trans {f g h : Nat → Int} (a : Finer n f g) (b : Finer n g h) : Finer n f h := fun s u hs hu e => a s u hs hu (b s u hs hu e)
def isFirst (f : Nat → Int) (s : Nat) : Bool := (List.range s).all fun u => f u != f s
def cnt (n : Nat) (f : Nat → Int) : Nat := (List.range n).countP (isFirst f)
theorem isFirst_iff {f : Nat → Int} {s : Nat} : isFirst f s = true ↔ ∀ u, u < s → f u ≠ f s := by simp [isFirst]
theorem cnt_le_n (n : Nat) (f : Nat → Int) : cnt n f ≤ n := by
 have := List.countP_le_length (p := isFirst f) (l := List.range n)
 simpa [cnt] using this
theorem first_mono {f g : Nat → Int} (h : Finer n f g) {s : Nat} (hs : s < n) (k : isFirst f s = true) : isFirst g s = true := by
 rw [isFirst_iff] at k ⊢
 exact fun u hu e => k u hu (h u s (by omega) hs e)
theorem countP_same {α : Type} {p q : α → Bool} : ∀ {l : List α}, (∀ x ∈ l, p x = true → q x = true) → l.countP p = l.countP q → ∀ x ∈ l, q x = true → p x = true
 | [], _, _, x, hx, _ => by simp at hx
 | y :: l, h, he, x, hx, hq => by
  have hl : l.countP p ≤ l.countP q := List.countP_mono_left fun z hz => h z (by simp [hz])
  have hy := h y (by simp)
  rw [List.countP_cons, List.countP_cons] at he
  rcases List.mem_cons.1 hx with rfl | hx
  ·rw [hq, if_pos rfl] at he
   cases hp : p x
   ·rw [hp, if_neg (by decide)] at he
    omega
   ·rfl
  ·refine countP_same (fun z hz => h z (by simp [hz])) ?_ x hx hq
   cases hp : p y
   ·rw [hp, if_neg (by decide)] at he
    cases hq' : q y
    ·rw [hq', if_neg (by decide)] at he; omega
    ·rw [hq', if_pos rfl] at he; omega
   ·rw [hp, hy hp, if_pos rfl] at he
    omega
theorem has_first (f : Nat → Int) (s : Nat) : ∃ u, u ≤ s ∧ f u = f s ∧ isFirst f u = true := by
 induction s using Nat.strongRecOn with
 | _ s ih =>
  by_cases h : isFirst f s = true
  ·exact ⟨s, Nat.le_refl _, rfl, h⟩
  ·rw [isFirst_iff] at h
   obtain ⟨u, hu, e⟩ : ∃ u, u < s ∧ f u = f s := Classical.byContradiction fun hn => h fun u hu e => hn ⟨u, hu, e⟩
   obtain ⟨v, hv, e2, h2⟩ := ih u hu
   exact ⟨v, by omega, e2.trans e, h2⟩
theorem first_unique {f : Nat → Int} {s u : Nat} (h : f s = f u) (hs : isFirst f s = true) (hu : isFirst f u = true) : s = u := by
 rw [isFirst_iff] at hs hu
 rcases Nat.lt_trichotomy s u with h1 | h1 | h1
 ·exact absurd h (hu s h1)
 ·exact h1
 ·exact absurd h.symm (hs u h1)
theorem finer_back {f g : Nat → Int} (h : Finer n f g) (he : cnt n f = cnt n g) : Finer n g f := by
 have key : ∀ s, s < n → ∀ u, u ≤ s → f u = f s → isFirst f u = true → g s = g u := by
  intro s hs u hu e hf
  obtain ⟨v, hv, e2, h2⟩ := has_first g s
  have h3 := countP_same (l := List.range n) (fun x hx => first_mono h (List.mem_range.1 hx)) he v (List.mem_range.2 (by omega)) h2
  have e3 := h v s (by omega) hs e2
  rw [first_unique (e3.trans e.symm) h3 hf] at e2
  exact e2.symm
 intro s u hs hu e
 obtain ⟨v, hv, e2, h2⟩ := has_first f s
 by_cases hvu : v ≤ u
 ·rw [key s hs v hv e2 h2, key u hu v hvu (e2.trans e) h2]
 ·have h4 := isFirst_iff.1 h2 u (by omega)
  exact absurd (e2.trans e).symm h4
def metBy {α : Type} [BEq α] [LawfulBEq α] (g : Nat → α) : Nat → List α
 | 0 => []
 | k + 1 => if g k ∈ metBy g k then metBy g k else metBy g k ++ [g k]
theorem mem_metBy {α : Type} [BEq α] [LawfulBEq α] {g : Nat → α} {x : α} : ∀ {k : Nat}, x ∈ metBy g k ↔ ∃ s, s < k ∧ g s = x
 | 0 => by simp [metBy]
 | k + 1 => by
  have ih := mem_metBy (g := g) (x := x) (k := k)
  have e : (∃ s, s < k + 1 ∧ g s = x) ↔ (∃ s, s < k ∧ g s = x) ∨ g k = x := by
   constructor
   ·rintro ⟨s, hs, e⟩
    by_cases h : s = k
    ·subst h; exact .inr e
    ·exact .inl ⟨s, by omega, e⟩
   ·rintro (⟨s, hs, e⟩ | e)
    ·exact ⟨s, by omega, e⟩
    ·exact ⟨k, by omega, e⟩
  rw [e, ← ih, metBy]
  split
  ·rename_i h
   constructor
   ·exact .inl
   ·rintro (h1 | rfl)
    ·exact h1
    ·exact h
  ·simp [eq_comm]
def numBy {α : Type} [BEq α] [LawfulBEq α] (g : Nat → α) (s : Nat) : Int := (((metBy g (s + 1)).idxOf (g s) : Nat) : Int)
theorem metBy_self {α : Type} [BEq α] [LawfulBEq α] (g : Nat → α) (s : Nat) : g s ∈ metBy g (s + 1) := mem_metBy.2 ⟨s, by omega, rfl⟩
theorem idx_grows {α : Type} [BEq α] [LawfulBEq α] (g : Nat → α) {x : α} {k : Nat} (hx : x ∈ metBy g k) : ∀ d : Nat, (metBy g (k + d)).idxOf x = (metBy g k).idxOf x
 | 0 => rfl
 | d + 1 => by
  have ih := idx_grows g hx d
  have hm : x ∈ metBy g (k + d) := by
   obtain ⟨s, hs, e⟩ := mem_metBy.1 hx
   exact mem_metBy.2 ⟨s, by omega, e⟩
  rw [show k + (d + 1) = k + d + 1 from rfl, metBy]
  split
  ·exact ih
  ·rw [List.idxOf_append, if_pos hm, ih]
theorem numBy_at {α : Type} [BEq α] [LawfulBEq α] (g : Nat → α) {s k : Nat} (h : s < k) : numBy g s = (((metBy g k).idxOf (g s) : Nat) : Int) := by
 obtain ⟨d, rfl⟩ : ∃ d, k = s + 1 + d := ⟨k - (s + 1), by omega⟩
 rw [numBy, idx_grows g (metBy_self g s) d]
theorem numBy_iff {α : Type} [BEq α] [LawfulBEq α] (g : Nat → α) (s u : Nat) : numBy g s = numBy g u ↔ g s = g u := by
 obtain ⟨k, h1, h2⟩ : ∃ k, s < k ∧ u < k := ⟨s + u + 1, by omega, by omega⟩
 rw [numBy_at g h1, numBy_at g h2]
 constructor
 ·intro h
  have h' : (metBy g k).idxOf (g s) = (metBy g k).idxOf (g u) := by omega
  have m1 : g s ∈ metBy g k := mem_metBy.2 ⟨s, h1, rfl⟩
  have m2 : g u ∈ metBy g k := mem_metBy.2 ⟨u, h2, rfl⟩
  have e1 := List.getElem_idxOf (List.idxOf_lt_length_iff.2 m1)
  have e2 := List.getElem_idxOf (List.idxOf_lt_length_iff.2 m2)
  rw [← e1, ← e2]
  simp only [h']
 ·intro h
  rw [h]
theorem metBy_length {α : Type} [BEq α] [LawfulBEq α] (g : Nat → α) : ∀ k : Nat, (metBy g k).length = cnt k (numBy g)
 | 0 => rfl
 | k + 1 => by
  have ih := metBy_length g k
  have hf : isFirst (numBy g) k = true ↔ g k ∉ metBy g k := by
   rw [isFirst_iff, mem_metBy]
   constructor
   ·rintro h ⟨s, hs, e⟩
    exact h s hs ((numBy_iff g s k).2 e)
   ·intro h u hu e
    exact h ⟨u, hu, (numBy_iff g u k).1 e⟩
  rw [cnt, List.range_succ, List.countP_append, ← cnt, ← ih, metBy]
  by_cases h : g k ∈ metBy g k
  ·rw [if_pos h]
   have : isFirst (numBy g) k = false := Bool.eq_false_iff.2 fun e => hf.1 e h
   simp [this]
  ·rw [if_neg h]
   simp [hf.2 h]
def IsClasses (n L : Nat) (st : Nat → Nat → Nat) (acc : Nat → Bool) (cl : List Int) : Prop :=
 cl.length = n ∧ ∀ s, s < n → ∃ u : Nat, cl.getD s 0 = (u : Int) ∧ u ≤ s ∧ Alike L st acc u s ∧ ∀ v, v < u → ¬ Alike L st acc v s
theorem IsClasses.unique {a b : List Int} (ha : IsClasses n L st acc a) (hb : IsClasses n L st acc b) : a = b := by
 apply List.ext_getElem (ha.1.trans hb.1.symm)
 intro i h1 h2
 obtain ⟨u, e1, l1, a1, m1⟩ := ha.2 i (by rw [← ha.1]; exact h1)
 obtain ⟨v, e2, l2, a2, m2⟩ := hb.2 i (by rw [← hb.1]; exact h2)
 rw [List.getD_eq_getElem?_getD, List.getElem?_eq_getElem h1] at e1
 rw [List.getD_eq_getElem?_getD, List.getElem?_eq_getElem h2] at e2
 simp at e1 e2
 rw [e1, e2]
 rcases Nat.lt_trichotomy u v with h | h | h
 ·exact absurd a1 (m2 u h)
 ·rw [h]
 ·exact absurd a2 (m1 v h)
end
section
variable {n L : Nat} {st : Nat → Nat → Nat}
def Gets (L : Nat) (st : Nat → Nat → Nat) (s : Nat) : Prop := ∃ w : List Nat, (∀ c ∈ w, c < L) ∧ runS st 0 w = s
def IsReach (n L : Nat) (st : Nat → Nat → Nat) (out : List Bool) : Prop := out.length = n ∧ ∀ s, s < n → (out.getD s false = true ↔ Gets L st s)
theorem IsReach.unique {a b : List Bool} (ha : IsReach n L st a) (hb : IsReach n L st b) : a = b := by
 apply List.ext_getElem (ha.1.trans hb.1.symm)
 intro i h1 h2
 have e := (ha.2 i (by rw [← ha.1]; exact h1)).trans (hb.2 i (by rw [← hb.1]; exact h2)).symm
 rw [List.getD_eq_getElem?_getD, List.getElem?_eq_getElem h1, List.getD_eq_getElem?_getD, List.getElem?_eq_getElem h2] at e
 simp only [Option.getD_some] at e
 cases h : a[i] <;> cases h' : b[i] <;> simp_all
theorem runS_snoc (st : Nat → Nat → Nat) : ∀ (w : List Nat) (s c : Nat), runS st s (w ++ [c]) = st (runS st s w) c
 | [], _, _ => rfl
 | d :: w, s, c => runS_snoc st w (st s d) c
theorem Gets.zero : Gets L st 0 := ⟨[], by simp, rfl⟩
theorem Gets.step {s c : Nat} (h : Gets L st s) (hc : c < L) : Gets L st (st s c) := by
 obtain ⟨w, hw, rfl⟩ := h
 refine ⟨w ++ [c], fun x hx => ?_, runS_snoc st w 0 c⟩
 rcases List.mem_append.1 hx with hx | hx
 ·exact hw x hx
 ·rw [List.mem_singleton.1 hx]; exact hc
structure Bfs (n L : Nat) (st : Nat → Nat → Nat) (out : List Bool) (l : List Nat) (i c : Nat) : Prop where
 len : out.length = n
 low : ∀ s ∈ l, s < n
 many : l.length = out.countP id
 mem : ∀ s, s < n → (out.getD s false = true ↔ s ∈ l)
 got : ∀ s ∈ l, Gets L st s
 first : 0 ∈ l
 done : ∀ j, j < i → ∀ c', c' < L → st (l.getD j 0) c' ∈ l
 now : ∀ c', c' < c → st (l.getD i 0) c' ∈ l
 at_ : i ≤ l.length
theorem countP_set_new : ∀ (out : List Bool) (s : Nat), s < out.length → out.getD s false = false → (out.set s true).countP id = out.countP id + 1
 | [], _, h, _ => by simp at h
 | b :: out, 0, _, h => by
  simp at h
  subst h
  simp
 | b :: out, s + 1, h, hb => by
  have ih := countP_set_new out s (by simpa using h) (by simpa using hb)
  rw [sC, List.countP_cons, List.countP_cons, ih]
  omega
variable {out : List Bool} {l : List Nat} {i c : Nat}
theorem Bfs.most (h : Bfs n L st out l i c) : l.length ≤ n := by
 rw [h.many, ← h.len]
 exact List.countP_le_length
theorem Bfs.start (hn : 0 < n) : Bfs n L st ((List.replicate n false).set 0 true) [0] 0 0 := by
 refine ⟨by simp, by simp [hn], ?_, fun s hs => ?_, by simpa using Gets.zero, by simp, by simp, by simp, by simp⟩
 ·rw [countP_set_new _ _ (by simpa using hn) (by cases n <;> simp [List.replicate_succ] at *)]
  have : (List.replicate n false).countP id = 0 := by simp [List.countP_replicate]
  simp [this]
 ·rw [List.getD_eq_getElem?_getD, List.getElem?_set]
  by_cases h : s = 0
  ·subst h; simp [hn]
  ·rw [if_neg (by omega)]
   simp [List.getElem?_replicate, hs, h]
theorem Bfs.cur (h : Bfs n L st out l i c) (hi : i < l.length) : l.getD i 0 ∈ l ∧ l.getD i 0 < n := by
 have : l.getD i 0 ∈ l := by
  rw [List.getD_eq_getElem?_getD, List.getElem?_eq_getElem hi]
  simp
 exact ⟨this, h.low _ this⟩
theorem Bfs.old (h : Bfs n L st out l i c) (hm : st (l.getD i 0) c ∈ l) : Bfs n L st out l i (c + 1) :=
 ⟨h.len, h.low, h.many, h.mem, h.got, h.first, h.done, fun c' hc' => by
  rcases Nat.lt_or_ge c' c with h1 | h1
  ·exact h.now c' h1
  ·obtain rfl : c' = c := by omega
   exact hm, h.at_⟩
theorem getD_snoc {l : List Nat} {j x : Nat} (h : j < l.length) : (l ++ [x]).getD j 0 = l.getD j 0 := by
 rw [List.getD_eq_getElem?_getD, List.getD_eq_getElem?_getD, List.getElem?_append_left h]
theorem Bfs.new (h : Bfs n L st out l i c) (hi : i < l.length) (hc : c < L) (hx : st (l.getD i 0) c < n) (hm : out.getD (st (l.getD i 0) c) false = false) : Bfs n L st (out.set (st (l.getD i 0) c) true) (l ++ [st (l.getD i 0) c]) i (c + 1) := by
 generalize hs : st (l.getD i 0) c = s at *
 refine ⟨by simpa using h.len, fun t ht => ?_, ?_, fun t ht => ?_, fun t ht => ?_, by simp [h.first], fun j hj c' hc' => ?_, fun c' hc' => ?_, by simp; omega⟩
 ·rcases List.mem_append.1 ht with ht | ht
  ·exact h.low t ht
  ·rw [List.mem_singleton.1 ht]; exact hx
 ·rw [countP_set_new _ _ (by rw [h.len]; exact hx) hm, List.length_append, h.many]
  rfl
 ·rw [List.getD_eq_getElem?_getD, List.getElem?_set]
  by_cases he : s = t
  ·subst he
   simp [h.len, hx]
  ·rw [if_neg he, ← List.getD_eq_getElem?_getD, h.mem t ht]
   have : t ≠ s := fun e => he e.symm
   simp [this]
 ·rcases List.mem_append.1 ht with ht | ht
  ·exact h.got t ht
  ·rw [List.mem_singleton.1 ht, ← hs]
   exact (h.got _ (h.cur hi).1).step hc
 ·rw [getD_snoc (by omega)]
  exact List.mem_append.2 (.inl (h.done j hj c' hc'))
 ·rw [getD_snoc hi]
  rcases Nat.lt_or_ge c' c with h1 | h1
  ·exact List.mem_append.2 (.inl (h.now c' h1))
  ·obtain rfl : c' = c := by omega
   rw [hs]
   simp
theorem Bfs.turn (h : Bfs n L st out l i L) (hi : i < l.length) : Bfs n L st out l (i + 1) 0 :=
 ⟨h.len, h.low, h.many, h.mem, h.got, h.first, fun j hj c' hc' => by
  rcases Nat.lt_or_ge j i with h1 | h1
  ·exact h.done j h1 c' hc'
  ·obtain rfl : j = i := by omega
   exact h.now c' hc', fun c' hc' => absurd hc' (Nat.not_lt_zero _), hi⟩
end
def stL (nx : List (List Int)) (s c : Nat) : Nat := ((nx.getD s []).getD c 0).toNat
def acL (ac : List Bool) (s : Nat) : Bool := ac.getD s false
def fL (B : List Int) (s : Nat) : Int := B.getD s 0
/-- What a state shows: its block, and the block that a letter leads to. -/
def faceOf (nx : List (List Int)) (B : List Int) (c k : Nat) : Int × Int := (B.getD k 0, B.getD ((nx.getD k []).getD c 0).toNat 0)
def splitTo (nx : List (List Int)) (B : List Int) (c : Nat) (k : Nat) : List Int := (List.range B.length).map fun s => if s < k then numBy (faceOf nx B c) s else 0
section
variable {nx : List (List Int)} {B : List Int} {c : Nat}
theorem splitTo_length (k : Nat) : (splitTo nx B c k).length = B.length := by simp [splitTo]
theorem fL_split {s : Nat} (hs : s < B.length) : fL (splitTo nx B c B.length) s = numBy (faceOf nx B c) s := by
 unfold fL splitTo
 rw [List.getD_eq_getElem?_getD, List.getElem?_eq_getElem (by simpa using hs)]
 simp [hs]
theorem split_iff {s u : Nat} (hs : s < B.length) (hu : u < B.length) : fL (splitTo nx B c B.length) s = fL (splitTo nx B c B.length) u ↔ fL B s = fL B u ∧ fL B (stL nx s c) = fL B (stL nx u c) := by
 rw [fL_split hs, fL_split hu, numBy_iff, faceOf, faceOf, Prod.mk.injEq]
 rfl
theorem split_finer : Finer B.length (fL B) (fL (splitTo nx B c B.length)) := fun _ _ hs hu e => ((split_iff hs hu).1 e).1
theorem split_coarse {L : Nat} {acc : Nat → Bool} (hc : c < L) (hC : Shuts B.length L (stL nx)) (h : Coarse B.length L (stL nx) acc (fL B)) : Coarse B.length L (stL nx) acc (fL (splitTo nx B c B.length)) := fun s u hs hu ha =>
 (split_iff hs hu).2 ⟨h s u hs hu ha, h _ _ (hC s c hs hc) (hC u c hu hc) (ha.step hc)⟩
theorem numBy_range {α : Type} [BEq α] [LawfulBEq α] (g : Nat → α) (s : Nat) : 0 ≤ numBy g s ∧ numBy g s ≤ s := by
 refine ⟨by unfold numBy; omega, ?_⟩
 have h1 := List.idxOf_lt_length_iff.2 (metBy_self g s)
 have h2 := cnt_le_n (s + 1) (numBy g)
 rw [← metBy_length] at h2
 unfold numBy
 omega
theorem split_range {x : Int} (h : x ∈ splitTo nx B c B.length) : 0 ≤ x ∧ x < B.length := by
 unfold splitTo at h
 obtain ⟨s, hs, rfl⟩ := List.mem_map.1 h
 have hs := List.mem_range.1 hs
 have := numBy_range (faceOf nx B c) s
 rw [if_pos hs]
 omega
end
/-- Blocks behind a round of letters, as far as the round has come. -/
structure Round (n L : Nat) (nx : List (List Int)) (acc : Nat → Bool) (B0 B : List Int) (c : Nat) : Prop where
 len : B.length = n
 fine : Finer n (fL B0) (fL B)
 coarse : Coarse n L (stL nx) acc (fL B)
 kept : ∀ s u, s < n → u < n → fL B s = fL B u → ∀ c', c' < c → fL B0 (stL nx s c') = fL B0 (stL nx u c')
 low : ∀ x ∈ B, 0 ≤ x ∧ x < 1000
theorem Round.zero {n L : Nat} {nx : List (List Int)} {acc : Nat → Bool} {B : List Int} (hl : B.length = n) (hc : Coarse n L (stL nx) acc (fL B)) (hr : ∀ x ∈ B, 0 ≤ x ∧ x < 1000) : Round n L nx acc B B 0 := ⟨hl, Finer.refl _, hc, fun _ _ _ _ _ _ h => absurd h (Nat.not_lt_zero _), hr⟩
theorem Round.next {n L : Nat} {nx : List (List Int)} {acc : Nat → Bool} {B0 B : List Int} {c : Nat} (h : Round n L nx acc B0 B c) (hn : n ≤ 1000) (hc : c < L) (hC : Shuts n L (stL nx)) : Round n L nx acc B0 (splitTo nx B c B.length) (c + 1) := by
 obtain ⟨rfl, h2, h3, h4, h5⟩ := h
 refine ⟨splitTo_length _, h2.trans split_finer, split_coarse hc hC h3, fun s u hs hu e c' hc' => ?_, fun x hx => ?_⟩
 ·obtain ⟨e1, e2⟩ := (split_iff hs hu).1 e
  rcases Nat.lt_or_ge c' c with h | h
  ·exact h4 s u hs hu e1 c' h
  ·obtain rfl : c' = c := by omega
   exact h2 _ _ (hC s c' hs hc) (hC u c' hu hc) e2
 ·have := split_range hx
  omega
/-- Where a round has split nothing, the blocks are kept by all letters. -/
theorem Round.done {n L : Nat} {nx : List (List Int)} {acc : Nat → Bool} {B0 B : List Int} (h : Round n L nx acc B0 B L) (he : cnt n (fL B0) = cnt n (fL B)) (hC : Shuts n L (stL nx)) : Stable n L (stL nx) (fL B) := fun s u hs hu e c hc =>
 finer_back h.fine he _ _ (hC s c hs hc) (hC u c hu hc) (h.kept s u hs hu e c hc)
section
variable {σ : Type} {L N : Nat} {st : σ → Nat → σ} {s0 : σ} {ok : σ → Prop} {code : σ → Nat}
def runW (st : σ → Nat → σ) : σ → List Nat → σ
 | s, [] => s
 | s, c :: w => runW st (st s c) w
theorem runW_snoc (st : σ → Nat → σ) : ∀ (w : List Nat) (s : σ) (c : Nat), runW st s (w ++ [c]) = st (runW st s w) c
 | [], _, _ => rfl
 | d :: w, s, c => runW_snoc st w (st s d) c
theorem nodup_bound : ∀ (N : Nat) (l : List Nat), l.Nodup → (∀ x ∈ l, x < N) → l.length ≤ N
 | 0, l, _, h => by
  cases l with
  | nil => simp
  | cons x l => exact absurd (h x (by simp)) (Nat.not_lt_zero _)
 | N + 1, l, hn, h => by
  by_cases hm : N ∈ l
  ·have h1 := nodup_bound N (l.erase N) (hn.erase N) (fun x hx => by
    have h2 := (List.Nodup.mem_erase_iff hn).1 hx
    have := h x h2.2
    have := h2.1
    omega)
   rw [List.length_erase_of_mem hm] at h1
   omega
  ·have := nodup_bound N l hn (fun x hx => by
    have := h x hx
    have : x ≠ N := fun e => hm (e ▸ hx)
    omega)
   omega
structure Wbfs (L : Nat) (st : σ → Nat → σ) (s0 : σ) (ok : σ → Prop) (l : List σ) (i c : Nat) : Prop where
 good : ∀ x ∈ l, ok x
 once : l.Nodup
 got : ∀ x ∈ l, ∃ w : List Nat, (∀ c ∈ w, c < L) ∧ runW st s0 w = x
 first : l.head? = some s0
 done : ∀ j x, j < i → l[j]? = some x → ∀ c', c' < L → st x c' ∈ l
 now : ∀ x, l[i]? = some x → ∀ c', c' < c → st x c' ∈ l
 at_ : i ≤ l.length
variable {l : List σ} {i c : Nat}
theorem Wbfs.start (h : ok s0) : Wbfs L st s0 ok [s0] 0 0 :=
 ⟨by simpa using h, by simp, fun x hx => ⟨[], by simp, (List.mem_singleton.1 hx).symm⟩, rfl, fun j x hj => absurd hj (Nat.not_lt_zero _), fun x _ c' hc => absurd hc (Nat.not_lt_zero _), by simp⟩
theorem Wbfs.most (h : Wbfs L st s0 ok l i c) (hc : ∀ x, ok x → code x < N) (hi : ∀ x y, ok x → ok y → code x = code y → x = y) : l.length ≤ N := by
 have h1 := nodup_bound N (l.map code) (List.pairwise_map.2 (h.once.imp_of_mem fun hx hy hne e => hne (hi _ _ (h.good _ hx) (h.good _ hy) e))) (fun y hy => by
  obtain ⟨x, hx, rfl⟩ := List.mem_map.1 hy
  exact hc x (h.good x hx))
 simpa using h1
theorem Wbfs.old {x : σ} (h : Wbfs L st s0 ok l i c) (hx : l[i]? = some x) (hm : st x c ∈ l) : Wbfs L st s0 ok l i (c + 1) :=
 ⟨h.good, h.once, h.got, h.first, h.done, fun y hy c' hc' => by
  obtain rfl : x = y := Option.some.inj (hx.symm.trans hy)
  rcases Nat.lt_or_ge c' c with h1 | h1
  ·exact h.now x hx c' h1
  ·obtain rfl : c' = c := by omega
   exact hm, h.at_⟩
theorem get_snoc {l : List σ} {j : Nat} {x y : σ} (hj : j < l.length) (h : (l ++ [y])[j]? = some x) : l[j]? = some x := by
 rwa [List.getElem?_append_left hj] at h
theorem Wbfs.new {x : σ} (h : Wbfs L st s0 ok l i c) (hx : l[i]? = some x) (hc : c < L) (hok : ok (st x c)) (hm : st x c ∉ l) : Wbfs L st s0 ok (l ++ [st x c]) i (c + 1) := by
 have hi : i < l.length := (List.getElem?_eq_some_iff.1 hx).1
 have hxm : x ∈ l := List.mem_of_getElem? hx
 refine ⟨fun y hy => ?_, ?_, fun y hy => ?_, ?_, fun j y hj hy c' hc' => ?_, fun y hy c' hc' => ?_, by simp; omega⟩
 ·rcases List.mem_append.1 hy with hy | hy
  ·exact h.good y hy
  ·rw [List.mem_singleton.1 hy]; exact hok
 ·refine List.nodup_append.2 ⟨h.once, by simp, fun a ha b hb => ?_⟩
  rw [List.mem_singleton.1 hb]
  exact fun e => hm (e ▸ ha)
 ·rcases List.mem_append.1 hy with hy | hy
  ·exact h.got y hy
  ·obtain ⟨w, hw, e⟩ := h.got x hxm
   refine ⟨w ++ [c], fun z hz => ?_, by rw [runW_snoc, e, List.mem_singleton.1 hy]⟩
   rcases List.mem_append.1 hz with hz | hz
   ·exact hw z hz
   ·rw [List.mem_singleton.1 hz]; exact hc
 ·have h1 := h.first
  cases l with
  | nil => cases h1
  | cons a l => exact h1
 ·exact List.mem_append.2 (.inl (h.done j y hj (get_snoc (by omega) hy) c' hc'))
 ·have hy := get_snoc hi hy
  obtain rfl : x = y := Option.some.inj (hx.symm.trans hy)
  rcases Nat.lt_or_ge c' c with h1 | h1
  ·exact List.mem_append.2 (.inl (h.now x hx c' h1))
  ·obtain rfl : c' = c := by omega
   simp
theorem Wbfs.turn (h : Wbfs L st s0 ok l i L) (hi : i < l.length) : Wbfs L st s0 ok l (i + 1) 0 :=
 ⟨h.good, h.once, h.got, h.first, fun j x hj hx c' hc' => by
  rcases Nat.lt_or_ge j i with h1 | h1
  ·exact h.done j x h1 hx c' hc'
  ·obtain rfl : j = i := by omega
   exact h.now x hx c' hc', fun x _ c' hc' => absurd hc' (Nat.not_lt_zero _), hi⟩
theorem Wbfs.zero_mem (h : Wbfs L st s0 ok l i c) : s0 ∈ l := by
 have h1 := h.first
 cases l with
 | nil => cases h1
 | cons a l => simp at h1; simp [h1]
theorem Wbfs.all (h : Wbfs L st s0 ok l i c) (hi : i = l.length) : ∀ w : List Nat, (∀ c ∈ w, c < L) → runW st s0 w ∈ l := by
 have key : ∀ (w : List Nat) (x : σ), x ∈ l → (∀ c ∈ w, c < L) → runW st x w ∈ l := by
  intro w
  induction w with
  | nil => intro x hx _; exact hx
  | cons c w ih =>
   intro x hx hw
   refine ih _ ?_ (fun y hy => hw y (by simp [hy]))
   obtain ⟨j, hj, e⟩ := List.mem_iff_getElem.1 hx
   exact h.done j x (by omega) (List.getElem?_eq_some_iff.2 ⟨hj, e⟩) c (hw c (by simp))
 exact fun w hw => key w s0 h.zero_mem hw
end
section
variable {σ : Type} [DecidableEq σ]
def growTo (st : σ → Nat → σ) (s : σ) (l : List σ) : Nat → List σ
 | 0 => l
 | c + 1 => if st s c ∈ growTo st s l c then growTo st s l c else growTo st s l c ++ [st s c]
def metUpto (L : Nat) (st : σ → Nat → σ) (s0 : σ) : Nat → List σ
 | 0 => [s0]
 | i + 1 => match (metUpto L st s0 i)[i]? with
  | none => metUpto L st s0 i
  | some s => growTo st s (metUpto L st s0 i) L
def metAt (L : Nat) (st : σ → Nat → σ) (s0 : σ) (i c : Nat) : List σ := match (metUpto L st s0 i)[i]? with
 | none => metUpto L st s0 i
 | some s => growTo st s (metUpto L st s0 i) c
variable {L : Nat} {st : σ → Nat → σ} {s0 : σ} {ok : σ → Prop}
theorem growTo_get {s x : σ} {l : List σ} {j : Nat} (h : l[j]? = some x) : ∀ c, (growTo st s l c)[j]? = some x
 | 0 => h
 | c + 1 => by
  unfold growTo
  split
  ·exact growTo_get h c
  ·rw [List.getElem?_append_left (List.getElem?_eq_some_iff.1 (growTo_get h c)).1]
   exact growTo_get h c
theorem metAt_zero (i : Nat) : metAt L st s0 i 0 = metUpto L st s0 i := by unfold metAt; split <;> rfl
theorem metAt_turn (i : Nat) : metUpto L st s0 (i + 1) = metAt L st s0 i L := rfl
theorem metAt_cur {i c : Nat} {s : σ} (h : (metAt L st s0 i c)[i]? = some s) : (metUpto L st s0 i)[i]? = some s := by
 unfold metAt at h
 split at h
 next h1 => rw [h1] at h; cases h
 next t h1 =>
  rw [growTo_get h1 c] at h
  rw [h1, h]
theorem metAt_old {i c : Nat} {s : σ} (h : (metAt L st s0 i c)[i]? = some s) (hm : st s c ∈ metAt L st s0 i c) : metAt L st s0 i (c + 1) = metAt L st s0 i c := by
 have h1 := metAt_cur h
 unfold metAt at hm ⊢
 rw [h1] at hm ⊢
 simp only [growTo] at hm ⊢
 rw [if_pos hm]
theorem metAt_new {i c : Nat} {s : σ} (h : (metAt L st s0 i c)[i]? = some s) (hm : st s c ∉ metAt L st s0 i c) : metAt L st s0 i (c + 1) = metAt L st s0 i c ++ [st s c] := by
 have h1 := metAt_cur h
 unfold metAt at hm ⊢
 rw [h1] at hm ⊢
 simp only [growTo] at hm ⊢
 rw [if_neg hm]
/-- Where one has come to. -/
structure MetIs (L : Nat) (st : σ → Nat → σ) (s0 : σ) (ok : σ → Prop) (l : List σ) (i c : Nat) : Prop where
 bfs : Wbfs L st s0 ok l i c
 is_ : l = metAt L st s0 i c
theorem MetIs.start (h : ok s0) : MetIs L st s0 ok [s0] 0 0 := ⟨Wbfs.start h, by rw [metAt_zero]; rfl⟩
variable {l : List σ} {i c : Nat}
theorem MetIs.old {x : σ} (h : MetIs L st s0 ok l i c) (hx : l[i]? = some x) (hm : st x c ∈ l) : MetIs L st s0 ok l i (c + 1) :=
 ⟨h.bfs.old hx hm, by
  have e := h.is_
  subst e
  exact (metAt_old hx hm).symm⟩
theorem MetIs.new {x : σ} (h : MetIs L st s0 ok l i c) (hx : l[i]? = some x) (hc : c < L) (hok : ok (st x c)) (hm : st x c ∉ l) : MetIs L st s0 ok (l ++ [st x c]) i (c + 1) :=
 ⟨h.bfs.new hx hc hok hm, by
  have e := h.is_
  subst e
  exact (metAt_new hx hm).symm⟩
theorem MetIs.turn (h : MetIs L st s0 ok l i L) (hi : i < l.length) : MetIs L st s0 ok l (i + 1) 0 := ⟨h.bfs.turn hi, by rw [metAt_zero, metAt_turn]; exact h.is_⟩
/-- All that is met. -/
def MetAll (L : Nat) (st : σ → Nat → σ) (s0 : σ) (ok : σ → Prop) (l : List σ) : Prop := MetIs L st s0 ok l l.length 0
theorem MetAll.is_ (h : MetAll L st s0 ok l) : l = metUpto L st s0 l.length := (MetIs.is_ h).trans (metAt_zero _)
theorem MetAll.stays (h : MetAll L st s0 ok l) (d : Nat) : metUpto L st s0 (l.length + d) = l := by
 induction d with
 | zero => exact h.is_.symm
 | succ d ih =>
  rw [← Nat.add_assoc]
  unfold metUpto
  rw [ih, List.getElem?_eq_none (by omega)]
theorem MetAll.shut (h : MetAll L st s0 ok l) {x : σ} (hx : x ∈ l) {c : Nat} (hc : c < L) : st x c ∈ l := by
 obtain ⟨j, hj, e⟩ := List.mem_iff_getElem.1 hx
 exact h.bfs.done j x hj (List.getElem?_eq_some_iff.2 ⟨hj, e⟩) c hc
end
section
/-- Two rows, one beside the other. -/
def Rel2 {σ τ : Type} (R : σ → τ → Prop) (l : List σ) (m : List τ) : Prop := l.length = m.length ∧ ∀ (i : Nat) (x : σ) (y : τ), l[i]? = some x → m[i]? = some y → R x y
variable {σ τ : Type} [DecidableEq σ] [DecidableEq τ] {R : σ → τ → Prop}
/-- What is beside one is beside no other. -/
def OneOne {σ τ : Type} (R : σ → τ → Prop) : Prop := ∀ x y x' y', R x y → R x' y' → (x = x' ↔ y = y')
omit [DecidableEq σ] [DecidableEq τ] in
theorem Rel2.snoc {l : List σ} {m : List τ} (h : Rel2 R l m) {x : σ} {y : τ} (hxy : R x y) : Rel2 R (l ++ [x]) (m ++ [y]) := by
 refine ⟨by simp [h.1], fun i a b ha hb => ?_⟩
 rcases Nat.lt_or_ge i l.length with hi | hi
 ·rw [List.getElem?_append_left hi] at ha
  rw [List.getElem?_append_left (by rw [← h.1]; exact hi)] at hb
  exact h.2 i a b ha hb
 ·rw [List.getElem?_append_right hi] at ha
  rw [List.getElem?_append_right (by rw [← h.1]; exact hi), ← h.1] at hb
  cases hj : i - l.length with
  | zero =>
   rw [hj] at ha hb
   simp at ha hb
   subst ha
   subst hb
   exact hxy
  | succ j => rw [hj] at ha; simp at ha
omit [DecidableEq σ] [DecidableEq τ] in
theorem Rel2.mem {l : List σ} {m : List τ} (h : Rel2 R l m) (ho : OneOne R) {x : σ} {y : τ} (hxy : R x y) : x ∈ l ↔ y ∈ m := by
 constructor
 ·intro hx
  obtain ⟨j, hj, e⟩ := List.mem_iff_getElem.1 hx
  have hj2 : j < m.length := by rw [← h.1]; exact hj
  have h3 := h.2 j l[j] m[j] (List.getElem?_eq_getElem hj) (List.getElem?_eq_getElem hj2)
  rw [(ho _ _ _ _ hxy h3).1 e.symm]
  exact List.getElem_mem hj2
 ·intro hy
  obtain ⟨j, hj, e⟩ := List.mem_iff_getElem.1 hy
  have hj2 : j < l.length := by rw [h.1]; exact hj
  have h3 := h.2 j l[j] m[j] (List.getElem?_eq_getElem hj2) (List.getElem?_eq_getElem hj)
  rw [(ho _ _ _ _ hxy h3).2 e.symm]
  exact List.getElem_mem hj2
variable {L : Nat} {st : σ → Nat → σ} {s0 : σ} {ok : σ → Prop} {st' : τ → Nat → τ} {t0 : τ} {ok' : τ → Prop}
theorem grow_step (ho : OneOne R) (hs : ∀ x y c, c < L → R x y → R (st x c) (st' y c)) {l : List σ} {m : List τ} (h : Rel2 R l m) {x : σ} {y : τ} (hxy : R x y) : ∀ c, c ≤ L → Rel2 R (growTo st x l c) (growTo st' y m c)
 | 0, _ => h
 | c + 1, hc => by
  have ih := grow_step ho hs h hxy c (by omega)
  have h2 := hs x y c (by omega) hxy
  unfold growTo
  have e := ih.mem ho h2
  by_cases hm : st x c ∈ growTo st x l c
  ·rw [if_pos hm, if_pos (e.1 hm)]
   exact ih
  ·rw [if_neg hm, if_neg (fun h3 => hm (e.2 h3))]
   exact ih.snoc h2
theorem met_step (ho : OneOne R) (hs : ∀ x y c, c < L → R x y → R (st x c) (st' y c)) (h0 : R s0 t0) : ∀ i, Rel2 R (metUpto L st s0 i) (metUpto L st' t0 i)
 | 0 => ⟨rfl, fun i x y hx hy => by
  cases i with
  | zero => simp [metUpto] at hx hy; subst hx; subst hy; exact h0
  | succ i => simp [metUpto] at hx⟩
 | i + 1 => by
  have ih := met_step ho hs h0 i
  unfold metUpto
  cases h1 : (metUpto L st s0 i)[i]? with
  | none =>
   have h2 : (metUpto L st' t0 i)[i]? = none := by
    rw [List.getElem?_eq_none_iff] at h1 ⊢
    rw [← ih.1]
    exact h1
   rw [h2]
   exact ih
  | some x =>
   have hl := (List.getElem?_eq_some_iff.1 h1).1
   obtain ⟨y, h2⟩ : ∃ y, (metUpto L st' t0 i)[i]? = some y := ⟨_, List.getElem?_eq_getElem (by rw [← ih.1]; exact hl)⟩
   rw [h2]
   exact grow_step ho hs ih (ih.2 i x y h1 h2) L (Nat.le_refl _)
theorem met_all (ho : OneOne R) (hs : ∀ x y c, c < L → R x y → R (st x c) (st' y c)) (h0 : R s0 t0) {l : List σ} {m : List τ} (hl : MetAll L st s0 ok l) (hm : MetAll L st' t0 ok' m) : Rel2 R l m := by
 have h := met_step ho hs h0 (l.length + m.length)
 rwa [hl.stays, Nat.add_comm, hm.stays] at h
theorem MetAll.unique {l m : List σ} (hl : MetAll L st s0 ok l) (hm : MetAll L st s0 ok m) : l = m := by
 have h := met_all (R := Eq) (fun x y x' y' h1 h2 => by rw [h1, h2]) (fun x y c _ h => by rw [h]) rfl hl hm
 apply List.ext_getElem h.1
 intro i h1 h2
 exact h.2 i _ _ (List.getElem?_eq_getElem h1) (List.getElem?_eq_getElem h2)
/-- The edges, by numbers. -/
def numNext (L : Nat) (st : σ → Nat → σ) (l : List σ) : List (List Int) := l.map fun s => (List.range L).map fun c => ((l.idxOf (st s c) : Nat) : Int)
end
section
variable {σ : Type} [DecidableEq σ] {L : Nat} {st : σ → Nat → σ} {s0 : σ} {ok : σ → Prop} {l : List σ} {i c : Nat}
def rowP (st : σ → Nat → σ) (l : List σ) (s : σ) (c : Nat) : List Int := (List.range c).map fun c => ((l.idxOf (st s c) : Nat) : Int)
def numP (L : Nat) (st : σ → Nat → σ) (l : List σ) (i : Nat) : List (List Int) := (l.take i).map fun s => rowP st l s L
theorem idxOf_snocP {s : σ} (hm : s ∉ l) : (l ++ [s]).idxOf s = l.length := by
 rw [List.idxOf_append, if_neg hm]
 simp
theorem idxOf_moreP {s : σ} (hm : s ∈ l) (y : σ) : (l ++ [y]).idxOf s = l.idxOf s := by rw [List.idxOf_append, if_pos hm]
theorem rowP_length (s : σ) : (rowP st l s c).length = c := by simp [rowP]
theorem rowP_snoc (s : σ) : rowP st l s (c + 1) = rowP st l s c ++ [((l.idxOf (st s c) : Nat) : Int)] := by
 unfold rowP
 rw [List.range_succ, List.map_append]
 rfl
theorem rowP_grow {s y : σ} (h : ∀ c', c' < c → st s c' ∈ l) : rowP st (l ++ [y]) s c = rowP st l s c := by
 unfold rowP
 apply List.map_congr_left
 intro c' hc
 rw [idxOf_moreP (h c' (List.mem_range.1 hc))]
theorem numP_length : (numP L st l i).length = min i l.length := by simp [numP]
theorem numP_growAt (h : Wbfs L st s0 ok l i c) (y : σ) : numP L st (l ++ [y]) i = numP L st l i := by
 unfold numP
 rw [List.take_append_of_le_length h.at_]
 apply List.map_congr_left
 intro s hs
 obtain ⟨j, hj, e⟩ := List.mem_iff_getElem.1 hs
 rw [List.length_take] at hj
 rw [List.getElem_take] at e
 exact rowP_grow fun c' hc' => h.done j s (by omega) (List.getElem?_eq_some_iff.2 ⟨by omega, e⟩) c' hc'
omit [DecidableEq σ] in
theorem take_turnP {s : σ} (hs : l[i]? = some s) : l.take (i + 1) = l.take i ++ [s] := by
 obtain ⟨h1, h2⟩ := List.getElem?_eq_some_iff.1 hs
 rw [List.take_succ_eq_append_getElem h1, h2]
theorem numP_turn {s : σ} (hs : l[i]? = some s) : numP L st l (i + 1) = numP L st l i ++ [rowP st l s L] := by
 unfold numP
 rw [take_turnP hs, List.map_append]
 rfl
theorem numP_all : numP L st l l.length = numNext L st l := by
 unfold numP numNext
 rw [List.take_length]
 rfl
/-- What is met within a budget: round by round, until all is met or there is too much. -/
def prodRun (L : Nat) (st : σ → Nat → σ) (most : Int) : Nat → List σ → Nat → Option (List σ)
 | 0, _, _ => none
 | k + 1, M, i => match M[i]? with
  | none => some M
  | some s => if (M.length : Int) ≤ most then prodRun L st most k (growTo st s M L) (i + 1) else some M
theorem prodRun_mono (L : Nat) (st : σ → Nat → σ) (most : Int) : ∀ (k : Nat) (M : List σ) (i : Nat) (r : List σ), prodRun L st most k M i = some r → prodRun L st most (k + 1) M i = some r
 | 0, _, _, _, h => by cases h
 | k + 1, M, i, r, h => by
  unfold prodRun at h ⊢
  split
  ·rename_i e; rw [e] at h; exact h
  ·rename_i s e
   rw [e] at h
   dsimp only at h
   split
   ·rename_i hm; rw [if_pos hm] at h; exact prodRun_mono L st most k _ _ _ h
   ·rename_i hm; rw [if_neg hm] at h; exact h
theorem Wbfs.grow {s : σ} (hs : l[i]? = some s) (hok : ∀ c, c < L → ok (st s c)) (h : Wbfs L st s0 ok l i 0) : ∀ c, c ≤ L → Wbfs L st s0 ok (growTo st s l c) i c
 | 0, _ => h
 | c + 1, hc => by
  have ih := Wbfs.grow hs hok h c (by omega)
  have e := growTo_get (st := st) (s := s) hs c
  unfold growTo
  split
  ·rename_i hm; exact ih.old e hm
  ·rename_i hm; exact ih.new e (by omega) (hok c (by omega)) hm
theorem growTo_length {s : σ} : ∀ c, (growTo st s l c).length ≤ l.length + c
 | 0 => Nat.le_refl _
 | c + 1 => by
  have ih := growTo_length (s := s) c
  unfold growTo
  split
  ·omega
  ·simp; omega
theorem growTo_ge {s : σ} : ∀ c, l.length ≤ (growTo st s l c).length
 | 0 => Nat.le_refl _
 | c + 1 => by
  have ih := growTo_ge (s := s) c
  unfold growTo
  split
  ·omega
  ·simp; omega
theorem growTo_old {s : σ} {c : Nat} (h : st s c ∈ growTo st s l c) : growTo st s l (c + 1) = growTo st s l c := by
 show (if _ then _ else _) = _
 rw [if_pos h]
theorem growTo_new {s : σ} {c : Nat} (h : st s c ∉ growTo st s l c) : growTo st s l (c + 1) = growTo st s l c ++ [st s c] := by
 show (if _ then _ else _) = _
 rw [if_neg h]
theorem prodRun_step {most : Int} {k : Nat} {M r : List σ} {i : Nat} {s : σ} (h : prodRun L st most k M i = some r) (hs : M[i]? = some s) (hm : (M.length : Int) ≤ most) : ∃ k', prodRun L st most k' (growTo st s M L) (i + 1) = some r := by
 cases k with
 | zero => cases h
 | succ k =>
  unfold prodRun at h
  rw [hs] at h
  dsimp only at h
  rw [if_pos hm] at h
  exact ⟨k, h⟩
theorem prodRun_over {most : Int} {k : Nat} {M r : List σ} {i : Nat} (h : prodRun L st most k M i = some r) (hm : ¬ (M.length : Int) ≤ most) : r = M := by
 cases k with
 | zero => cases h
 | succ k =>
  unfold prodRun at h
  split at h
  ·exact (Option.some.inj h).symm
  ·rw [if_neg hm] at h
   exact (Option.some.inj h).symm
theorem prodRun_end {most : Int} {k : Nat} {M r : List σ} {i : Nat} (h : prodRun L st most k M i = some r) (hi : M.length ≤ i) : r = M := by
 cases k with
 | zero => cases h
 | succ k =>
  unfold prodRun at h
  rw [List.getElem?_eq_none hi] at h
  exact (Option.some.inj h).symm
end
/-- The states that are kept: of each class the first one that is reached. -/
def codesOf (C : List Int) (K : List Int) : List Int := K.map fun t => C.getD t.toNat 0
def keptTo (R : List Bool) (C : List Int) : Nat → List Int
 | 0 => []
 | s + 1 => if R.getD s false = true ∧ C.getD s 0 ∉ codesOf C (keptTo R C s) then keptTo R C s ++ [(s : Int)] else keptTo R C s
def numOf (M : List Int) (x : Int) : Int := if x ∈ M then ((M.idxOf x : Nat) : Int) else 0
def ofRow (nx : List (List Int)) (C K : List Int) (s : Int) : List Int := (nx.getD s.toNat []).map fun q => numOf (codesOf C K) (C.getD q.toNat 0)
def ofNext (nx : List (List Int)) (C K M : List Int) : List (List Int) := M.map (ofRow nx C K)
def ofEnds (ac : List Bool) (M : List Int) : List Bool := M.map fun s => ac.getD s.toNat false
theorem keptTo_new {R : List Bool} {C : List Int} {s : Nat} (h : R.getD s false = true) (k : C.getD s 0 ∉ codesOf C (keptTo R C s)) : keptTo R C (s + 1) = keptTo R C s ++ [(s : Int)] := if_pos ⟨h, k⟩
theorem keptTo_length (R : List Bool) (C : List Int) : ∀ k : Nat, (keptTo R C k).length ≤ k
 | 0 => Nat.le_refl _
 | k + 1 => by
  have := keptTo_length R C k
  unfold keptTo
  split
  ·simp; omega
  ·omega
theorem codesOf_snoc (C K : List Int) (s : Nat) : codesOf C (K ++ [(s : Int)]) = codesOf C K ++ [C.getD s 0] := by simp [codesOf]
theorem codesOf_length (C K : List Int) : (codesOf C K).length = K.length := by simp [codesOf]
/-- What Of asks of the states reached and of the classes. -/
def ofOk (nx : List (List Int)) (ac R : List Bool) (C : List Int) : Bool :=
 decide (R.length = nx.length) && decide (C.length = nx.length) && decide (ac.length = nx.length) && decide (nx.length ≤ 1000) && nx.all (fun r => decide (r.length ≤ 1000) && r.all fun x => decide (0 ≤ x) && decide (x < nx.length)) && C.all fun x => decide (0 ≤ x) && decide (x < nx.length)
structure OfOk (nx : List (List Int)) (ac R : List Bool) (C : List Int) : Prop where
 r : R.length = nx.length
 c : C.length = nx.length
 a : ac.length = nx.length
 n : nx.length ≤ 1000
 rows : ∀ r ∈ nx, r.length ≤ 1000 ∧ ∀ x ∈ r, 0 ≤ x ∧ x < nx.length
 cl : ∀ x ∈ C, 0 ≤ x ∧ x < nx.length
theorem OfOk.intro {nx : List (List Int)} {ac R : List Bool} {C : List Int} (h : OfOk nx ac R C) : ofOk nx ac R C = true := by
 unfold ofOk
 simp only [Bool.and_eq_true, decide_eq_true_eq, List.all_eq_true]
 exact ⟨⟨⟨⟨⟨h.r, h.c⟩, h.a⟩, h.n⟩, h.rows⟩, h.cl⟩
theorem OfOk.code {nx : List (List Int)} {ac R : List Bool} {C : List Int} (h : OfOk nx ac R C) {s : Nat} (hs : s < nx.length) : 0 ≤ C.getD s 0 ∧ C.getD s 0 < nx.length := by
 refine h.cl _ ?_
 rw [List.getD_eq_getElem?_getD, List.getElem?_eq_getElem (by rw [h.c]; exact hs)]
 exact List.getElem_mem _
theorem OfOk.row {nx : List (List Int)} {ac R : List Bool} {C : List Int} (h : OfOk nx ac R C) {s c : Nat} (hs : s < nx.length) (hc : c < (nx.getD s []).length) : 0 ≤ (nx.getD s []).getD c 0 ∧ (nx.getD s []).getD c 0 < nx.length := by
 have h1 : nx.getD s [] ∈ nx := by
  rw [List.getD_eq_getElem?_getD, List.getElem?_eq_getElem hs]
  exact List.getElem_mem _
 refine (h.rows _ h1).2 _ ?_
 generalize nx.getD s [] = l at hc
 rw [List.getD_eq_getElem?_getD, List.getElem?_eq_getElem hc]
 exact List.getElem_mem _
theorem ofNext_length (nx : List (List Int)) (C K M : List Int) : (ofNext nx C K M).length = M.length := by simp [ofNext]
theorem ofEnds_length (ac : List Bool) (M : List Int) : (ofEnds ac M).length = M.length := by simp [ofEnds]
theorem ofRow_length {nx : List (List Int)} {C K : List Int} {t : Nat} : (ofRow nx C K (t : Int)).length = (nx.getD t []).length := by unfold ofRow; rw [List.length_map, Int.toNat_natCast]
theorem getD_mem {α : Type} (l : List α) (d : α) (i : Nat) (h : i < l.length) : l.getD i d ∈ l := by
 rw [List.getD_eq_getElem?_getD, List.getElem?_eq_getElem h]
 simp
theorem small_len {α : Type} {l : List (List α)} {i : Nat} {d : List α} (hr : ∀ x ∈ l, x.length ≤ 1000000) (h : i < l.length) : (l.getD i d).length ≤ 1000000 := hr _ (getD_mem l d i h)

end Go.Proofs.Ytelkjbacdpmnfaa.A
