/- By a program, out of the translation (wip/myprint.py). -/
import Derived.Test.YtelkjbacdpmnfaaA0
import Derived.Test.YtelkjbacdpmnfaaACaesuraref19Again
import Derived.Test.YtelkjbacdpmnfaaACaesuraref19Either
import Derived.Test.YtelkjbacdpmnfaaACaesuraref19Join
import Derived.Test.YtelkjbacdpmnfaaACaesuraref19Of
import Derived.Test.YtelkjbacdpmnfaaAPlainOne
import Derived.Test.YtelkjbacdpmnfaaAThompsonAgain
import Derived.Test.YtelkjbacdpmnfaaAThompsonEither
import Derived.Test.YtelkjbacdpmnfaaAThompsonGood
import Derived.Test.YtelkjbacdpmnfaaAThompsonJoin
import Derived.Test.YtelkjbacdpmnfaaAThompsonNets
import Derived.Test.YtelkjbacdpmnfaaAThompsonOf
import Derived.Test.YtelkjbacdpmnfaaAThompsonRows
namespace Go.Proofs.Ytelkjbacdpmnfaa.A
open Go.RowKit Go.Proofs.YtelkjbacdpmnfaaW.PrintWords Go.Proofs.YtelkjbacdpmnfaaW.PrintLast Go.Proofs.YtelkjbacdpmnfaaW.PrintMore
attribute [local go_sem] max2_int min2_int max_two min_two max_three min_three max_four min_four   -- for this text's walks alone
set_option linter.unusedVariables false
set_option linter.unusedSimpArgs false

theorem laid_small {frm tt : Int} : ∀ (nx : List (List Int)) (ac : List Bool), (∀ l ∈ nx, (l.length : Int) ≤ 64) → ∀ x ∈ laidL nx ac frm tt, x.length ≤ 65 := by
  intro nx
  induction nx with
  | nil => intro ac _ x hx; simp [laidL] at hx
  | cons l nx ih =>
    intro ac h x hx
    cases ac with
    | nil => simp [laidL] at hx
    | cons e ac =>
      simp only [laidL, List.zipWith_cons_cons, List.mem_cons] at hx
      rcases hx with rfl | hx
      · have := h l (by simp)
        unfold laidRow
        rw [List.length_append, laidFrom_length]
        split <;> simp <;> omega
      · exact ih ac (fun l' hl' => h l' (by simp [hl'])) x hx
theorem goodB_small {a : Int} {nx : List (List Int)} {ac : List Bool} (h : goodB a nx ac = true) : ∀ l ∈ nx, (l.length : Int) ≤ 64 := by
  intro l hl
  obtain ⟨_, h2, _, _, _, hr⟩ := goodB_elim h
  have := (hr l hl).1
  omega
/-- A net's lists are not long. -/
def SmallNet (l : List (List S82)) : Prop := l.length ≤ 1000000 ∧ ∀ x ∈ l, x.length ≤ 1000000
theorem SmallNet.nil : SmallNet [] := ⟨by simp, by simp⟩
theorem small_laid {a : Int} {nx : List (List Int)} {ac : List Bool} (h : goodB a nx ac = true) (frm tt : Int) : SmallNet (laidL nx ac frm tt) := by
  have hl := goodB_laid h frm tt
  have hn := goodB_len h
  exact ⟨by omega, fun x hx => by have := laid_small (frm := frm) (tt := tt) nx ac (goodB_small h) x hx; omega⟩
theorem SmallNet.append {l l' : List (List S82)} (h : SmallNet l) (h' : SmallNet l') (hl : l.length ≤ 100000) (hl' : l'.length ≤ 100000) : SmallNet (l ++ l') := by
  refine ⟨by rw [List.length_append]; omega, fun x hx => ?_⟩
  rcases List.mem_append.1 hx with hx | hx
  · exact h.2 x hx
  · exact h'.2 x hx
theorem small_start (l : List S82) (h : l.length ≤ 2) : SmallNet [l, []] := by
  refine ⟨by simp, fun x hx => ?_⟩
  simp at hx
  rcases hx with rfl | rfl
  · omega
  · simp

/-- What both packages answer. -/
def BothSay (r : Int × List (List S82) × Bool) (f : Option (Int × List (List S82) × Bool)) (g : Nat → Option (Int × List (List S82) × Bool)) : Prop := f = some r ∧ Ev g r ∧ SmallNet r.2.1
theorem both_Of (a : Int) (nx : List (List Int)) (ac : List Bool) : ∃ r, BothSay r (caesuraref19_Of.f a nx ac) (fun k => thompson_Of.f k a nx ac) := by
  have h := ev_Of a nx ac
  unfold caesuraref19_Of.f
  cases hg : goodB a nx ac with
  | false => rw [hg] at h; exact ⟨(0, [], false), rfl, by simpa using h, SmallNet.nil⟩
  | true =>
    rw [hg] at h
    have hl := goodB_laid hg 2 1
    have hn := goodB_len hg
    exact ⟨(a, netOf nx ac, true), rfl, by simpa using h, SmallNet.append (small_start _ (by simp)) (small_laid hg 2 1) (by simp) (by omega)⟩
theorem both_Again (a : Int) (nx : List (List Int)) (ac : List Bool) : ∃ r, BothSay r (caesuraref19_Again.f a nx ac) (fun k => thompson_Again.f k a nx ac) := by
  have h := ev_Again a nx ac
  unfold caesuraref19_Again.f
  cases hg : goodB a nx ac with
  | false => rw [hg] at h; exact ⟨(0, [], false), rfl, by simpa using h, SmallNet.nil⟩
  | true =>
    rw [hg] at h
    have hl := goodB_laid hg 2 0
    have hn := goodB_len hg
    exact ⟨(a, netAgain nx ac, true), rfl, by simpa using h, SmallNet.append (small_start _ (by simp)) (small_laid hg 2 0) (by simp) (by omega)⟩
theorem both_Join (a : Int) (nx : List (List Int)) (ac : List Bool) (a' : Int) (nx' : List (List Int)) (ac' : List Bool) : ∃ r, BothSay r (caesuraref19_Join.f a nx ac a' nx' ac') (fun k => thompson_Join.f k a nx ac a' nx' ac') := by
  have h := ev_Join a nx ac a' nx' ac'
  unfold caesuraref19_Join.f
  cases hb : bothB a nx ac a' nx' ac' with
  | false => rw [hb] at h; exact ⟨(0, [], false), rfl, by simpa using h, SmallNet.nil⟩
  | true =>
    rw [hb] at h
    obtain ⟨hg, hg', _⟩ := bothB_elim hb
    have hl := goodB_laid hg 2 (2 + nx.length)
    have hn := goodB_len hg
    have hl' := goodB_laid hg' (2 + nx.length) 1
    have hn' := goodB_len hg'
    refine ⟨(a, netJoin nx ac nx' ac', true), ?_, by simpa using h, ?_⟩
    · simp [netJoin, laidL]
    · exact SmallNet.append (small_start _ (by simp)) (SmallNet.append (small_laid hg _ _) (small_laid hg' _ _) (by omega) (by omega)) (by simp) (by rw [List.length_append]; omega)
theorem both_Either (a : Int) (nx : List (List Int)) (ac : List Bool) (a' : Int) (nx' : List (List Int)) (ac' : List Bool) : ∃ r, BothSay r (caesuraref19_Either.f a nx ac a' nx' ac') (fun k => thompson_Either.f k a nx ac a' nx' ac') := by
  have h := ev_Either a nx ac a' nx' ac'
  unfold caesuraref19_Either.f
  cases hb : bothB a nx ac a' nx' ac' with
  | false => rw [hb] at h; exact ⟨(0, [], false), rfl, by simpa using h, SmallNet.nil⟩
  | true =>
    rw [hb] at h
    obtain ⟨hg, hg', _⟩ := bothB_elim hb
    have hl := goodB_laid hg 2 1
    have hn := goodB_len hg
    have hl' := goodB_laid hg' (2 + nx.length) 1
    have hn' := goodB_len hg'
    refine ⟨(a, netEither nx ac nx' ac', true), ?_, by simpa using h, ?_⟩
    · simp [netEither, laidL]
    · exact SmallNet.append (small_start _ (by simp)) (SmallNet.append (small_laid hg _ _) (small_laid hg' _ _) (by omega) (by omega)) (by simp) (by rw [List.length_append]; omega)

end Go.Proofs.Ytelkjbacdpmnfaa.A
