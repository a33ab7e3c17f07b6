/- By a program, out of the translation (wip/myprint.py). -/
import Derived.Test.YtelkjbacdpmnfaaA0
import Derived.Test.YtelkjbacdpmnfaaAPlainAlike
namespace Go.Proofs.Ytelkjbacdpmnfaa.A
open Go.RowKit Go.Proofs.YtelkjbacdpmnfaaW.PrintWords Go.Proofs.YtelkjbacdpmnfaaW.PrintLast Go.Proofs.YtelkjbacdpmnfaaW.PrintMore
attribute [local go_sem] max2_int min2_int max_two min_two max_three min_three max_four min_four   -- for this text's walks alone
set_option linter.unusedVariables false
set_option linter.unusedSimpArgs false

/-! what is met from one thing by letters, each once -/
section
variable {σ : Type} {L N : Nat} {st : σ → Nat → σ} {s0 : σ} {ok : σ → Prop} {code : σ → Nat}
def runW (st : σ → Nat → σ) : σ → List Nat → σ
  | s, [] => s
  | s, c :: w => runW st (st s c) w
theorem runW_snoc (st : σ → Nat → σ) : ∀ (w : List Nat) (s : σ) (c : Nat), runW st s (w ++ [c]) = st (runW st s w) c
  | [], _, _ => rfl
  | d :: w, s, c => runW_snoc st w (st s d) c
theorem nodup_bound : ∀ (N : Nat) (l : List Nat), l.Nodup → (∀ x ∈ l, x < N) → l.length ≤ N
  | 0, l, _, h => by
    cases l with
    | nil => simp
    | cons x l => exact absurd (h x (by simp)) (Nat.not_lt_zero _)
  | N + 1, l, hn, h => by
    by_cases hm : N ∈ l
    · have h1 := nodup_bound N (l.erase N) (hn.erase N) (fun x hx => by
        have h2 := (List.Nodup.mem_erase_iff hn).1 hx
        have := h x h2.2
        have := h2.1
        omega)
      rw [List.length_erase_of_mem hm] at h1
      omega
    · have := nodup_bound N l hn (fun x hx => by
        have := h x hx
        have : x ≠ N := fun e => hm (e ▸ hx)
        omega)
      omega
structure Wbfs (L : Nat) (st : σ → Nat → σ) (s0 : σ) (ok : σ → Prop) (l : List σ) (i c : Nat) : Prop where
  good : ∀ x ∈ l, ok x
  once : l.Nodup
  got : ∀ x ∈ l, ∃ w : List Nat, (∀ c ∈ w, c < L) ∧ runW st s0 w = x
  first : l.head? = some s0
  done : ∀ j x, j < i → l[j]? = some x → ∀ c', c' < L → st x c' ∈ l
  now : ∀ x, l[i]? = some x → ∀ c', c' < c → st x c' ∈ l
  at_ : i ≤ l.length
variable {l : List σ} {i c : Nat}
theorem Wbfs.start (h : ok s0) : Wbfs L st s0 ok [s0] 0 0 :=
  ⟨by simpa using h, by simp, fun x hx => ⟨[], by simp, (List.mem_singleton.1 hx).symm⟩, rfl, fun j x hj => absurd hj (Nat.not_lt_zero _), fun x _ c' hc => absurd hc (Nat.not_lt_zero _), by simp⟩
theorem Wbfs.most (h : Wbfs L st s0 ok l i c) (hc : ∀ x, ok x → code x < N) (hi : ∀ x y, ok x → ok y → code x = code y → x = y) : l.length ≤ N := by
  have h1 := nodup_bound N (l.map code) (List.pairwise_map.2 (h.once.imp_of_mem fun hx hy hne e => hne (hi _ _ (h.good _ hx) (h.good _ hy) e))) (fun y hy => by
    obtain ⟨x, hx, rfl⟩ := List.mem_map.1 hy
    exact hc x (h.good x hx))
  simpa using h1
theorem Wbfs.old {x : σ} (h : Wbfs L st s0 ok l i c) (hx : l[i]? = some x) (hm : st x c ∈ l) : Wbfs L st s0 ok l i (c + 1) :=
  ⟨h.good, h.once, h.got, h.first, h.done, fun y hy c' hc' => by
    obtain rfl : x = y := Option.some.inj (hx.symm.trans hy)
    rcases Nat.lt_or_ge c' c with h1 | h1
    · exact h.now x hx c' h1
    · obtain rfl : c' = c := by omega
      exact hm, h.at_⟩
theorem get_snoc {l : List σ} {j : Nat} {x y : σ} (hj : j < l.length) (h : (l ++ [y])[j]? = some x) : l[j]? = some x := by
  rwa [List.getElem?_append_left hj] at h
theorem Wbfs.new {x : σ} (h : Wbfs L st s0 ok l i c) (hx : l[i]? = some x) (hc : c < L) (hok : ok (st x c)) (hm : st x c ∉ l) : Wbfs L st s0 ok (l ++ [st x c]) i (c + 1) := by
  have hi : i < l.length := (List.getElem?_eq_some_iff.1 hx).1
  have hxm : x ∈ l := List.mem_of_getElem? hx
  refine ⟨fun y hy => ?_, ?_, fun y hy => ?_, ?_, fun j y hj hy c' hc' => ?_, fun y hy c' hc' => ?_, by simp; omega⟩
  · rcases List.mem_append.1 hy with hy | hy
    · exact h.good y hy
    · rw [List.mem_singleton.1 hy]; exact hok
  · refine List.nodup_append.2 ⟨h.once, by simp, fun a ha b hb => ?_⟩
    rw [List.mem_singleton.1 hb]
    exact fun e => hm (e ▸ ha)
  · rcases List.mem_append.1 hy with hy | hy
    · exact h.got y hy
    · obtain ⟨w, hw, e⟩ := h.got x hxm
      refine ⟨w ++ [c], fun z hz => ?_, by rw [runW_snoc, e, List.mem_singleton.1 hy]⟩
      rcases List.mem_append.1 hz with hz | hz
      · exact hw z hz
      · rw [List.mem_singleton.1 hz]; exact hc
  · have h1 := h.first
    cases l with
    | nil => cases h1
    | cons a l => exact h1
  · exact List.mem_append.2 (.inl (h.done j y hj (get_snoc (by omega) hy) c' hc'))
  · have hy := get_snoc hi hy
    obtain rfl : x = y := Option.some.inj (hx.symm.trans hy)
    rcases Nat.lt_or_ge c' c with h1 | h1
    · exact List.mem_append.2 (.inl (h.now x hx c' h1))
    · obtain rfl : c' = c := by omega
      simp
theorem Wbfs.turn (h : Wbfs L st s0 ok l i L) (hi : i < l.length) : Wbfs L st s0 ok l (i + 1) 0 :=
  ⟨h.good, h.once, h.got, h.first, fun j x hj hx c' hc' => by
    rcases Nat.lt_or_ge j i with h1 | h1
    · exact h.done j x h1 hx c' hc'
    · obtain rfl : j = i := by omega
      exact h.now x hx c' hc', fun x _ c' hc' => absurd hc' (Nat.not_lt_zero _), hi⟩
theorem Wbfs.zero_mem (h : Wbfs L st s0 ok l i c) : s0 ∈ l := by
  have h1 := h.first
  cases l with
  | nil => cases h1
  | cons a l => simp at h1; simp [h1]
theorem Wbfs.all (h : Wbfs L st s0 ok l i c) (hi : i = l.length) : ∀ w : List Nat, (∀ c ∈ w, c < L) → runW st s0 w ∈ l := by
  have key : ∀ (w : List Nat) (x : σ), x ∈ l → (∀ c ∈ w, c < L) → runW st x w ∈ l := by
    intro w
    induction w with
    | nil => intro x hx _; exact hx
    | cons c w ih =>
      intro x hx hw
      refine ih _ ?_ (fun y hy => hw y (by simp [hy]))
      obtain ⟨j, hj, e⟩ := List.mem_iff_getElem.1 hx
      exact h.done j x (by omega) (List.getElem?_eq_some_iff.2 ⟨hj, e⟩) c (hw c (by simp))
  exact fun w hw => key w s0 h.zero_mem hw
end
/-! pairs of states -/
def stP (st1 st2 : Nat → Nat → Nat) (p : Nat × Nat) (c : Nat) : Nat × Nat := (st1 p.1 c, st2 p.2 c)
theorem runW_pair (st1 st2 : Nat → Nat → Nat) : ∀ (w : List Nat) (p : Nat × Nat), runW (stP st1 st2) p w = (runS st1 p.1 w, runS st2 p.2 w)
  | [], _ => rfl
  | c :: w, p => runW_pair st1 st2 w (stP st1 st2 p c)
def inP (n m : Nat) (p : Nat × Nat) : Prop := p.1 < n ∧ p.2 < m
theorem code_lt {n m : Nat} {p : Nat × Nat} (h : inP n m p) : p.1 * m + p.2 < n * m := by
  have h1 : (p.1 + 1) * m ≤ n * m := Nat.mul_le_mul_right m h.1
  have h2 := h.2
  rw [Nat.succ_mul] at h1
  omega
theorem code_inj {n m : Nat} {p q : Nat × Nat} (hp : inP n m p) (hq : inP n m q) (e : p.1 * m + p.2 = q.1 * m + q.2) : p = q := by
  have h1 : p.1 = q.1 := by
    have a := congrArg (· / m) e
    have hm : 0 < m := by have := hp.2; omega
    rw [Nat.mul_comm p.1, Nat.mul_comm q.1, Nat.mul_add_div hm, Nat.mul_add_div hm, Nat.div_eq_of_lt hp.2, Nat.div_eq_of_lt hq.2] at a
    simpa using a
  have h2 : p.2 = q.2 := by rw [h1] at e; omega
  exact Prod.ext h1 h2

end Go.Proofs.Ytelkjbacdpmnfaa.A
