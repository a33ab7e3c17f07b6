/- By a program, out of the translation (wip/myprint.py). -/
import Derived.Test.YtelkjbacdpmnfaaA0
import Derived.Test.YtelkjbacdpmnfaaACaesurakeepLargeLists
import Derived.Test.YtelkjbacdpmnfaaACaesuralaw19Large
import Derived.Test.YtelkjbacdpmnfaaACaesuralaw19Wakes
import Derived.Test.YtelkjbacdpmnfaaAPlainGood
import Derived.Test.YtelkjbacdpmnfaaAThompsonAgain
import Derived.Test.YtelkjbacdpmnfaaAThompsonEither
import Derived.Test.YtelkjbacdpmnfaaAThompsonGood
import Derived.Test.YtelkjbacdpmnfaaAThompsonJoin
import Derived.Test.YtelkjbacdpmnfaaAThompsonLaid
import Derived.Test.YtelkjbacdpmnfaaAThompsonNets
import Derived.Test.YtelkjbacdpmnfaaAThompsonNothing
import Derived.Test.YtelkjbacdpmnfaaAThompsonOf
import Derived.Test.YtelkjbacdpmnfaaAThompsonRows
namespace Go.Proofs.Ytelkjbacdpmnfaa.A
open Go.RowKit Go.Proofs.YtelkjbacdpmnfaaW.PrintWords Go.Proofs.YtelkjbacdpmnfaaW.PrintLast Go.Proofs.YtelkjbacdpmnfaaW.PrintMore
attribute [local go_sem] max2_int min2_int max_two min_two max_three min_three max_four min_four   -- for this text's walks alone
set_option linter.unusedVariables false
set_option linter.unusedSimpArgs false

/-! LargeLists -/
/-- How much lists hold: one each, and their elements (at most so many each). -/
def lsum (most : Int) (l : List (List Int)) : Int := (l.map fun x => 1 + min (x.length : Int) most).sum
theorem lsum_nonneg (most : Int) (hm : 0 ≤ most) (l : List (List Int)) : (l.length : Int) ≤ lsum most l := by
  induction l with
  | nil => simp [lsum]
  | cons x l ih => simp only [lsum, List.map_cons, List.sum_cons, List.length_cons] at *; omega
theorem mn_min (x y : Int) : mn x y = min x y := by unfold mn; omega
theorem ev_LargeLists_l0 (most : Int) (hm : 0 ≤ most) (hM : most ≤ 1000000) (l : List (List Int)) :
    ∀ (d i : Nat) (s : Int), i + d = l.length → (i : Int) ≤ s → s ≤ 2 * most + 1 → Ev (fun k => caesurakeep_LargeLists.l0 k l most s (i : Int)) (decide (s + lsum most (l.drop i) > most)) := by
  intro d
  induction d with
  | zero =>
    intro i s hi hs hs2
    rw [List.drop_of_length_le (by omega)]
    refine Ev.step (f := fun _ => some (decide (s > most))) (fun k => ?_) (by simpa [lsum] using Ev.now _)
    simp only [caesurakeep_LargeLists.l0]
    rw [if_neg (by omega)]
  | succ d ih =>
    intro i s hi hs hs2
    have hil : i < l.length := by omega
    have hdr := drop_cons_getD l [] i hil
    have hnn := lsum_nonneg most hm (l.drop i)
    by_cases h1 : s ≤ most
    · refine Ev.step (f := fun k => caesurakeep_LargeLists.l0 k l most (s + (1 + min ((l.getD i []).length : Int) most)) ((i + 1 : Nat) : Int)) (fun k => ?_) ?_
      · simp only [caesurakeep_LargeLists.l0, rd5_nat, mn_min]
        rw [if_pos (by omega), if_pos h1, if_pos (by omega), wadd (x := 1) (by omega) (by omega), wadd (x := s) (by omega) (by omega), wadd (x := (i : Int)) (by omega) (by omega), nat_succ_cast]
      · have h := ih (i + 1) (s + (1 + min ((l.getD i []).length : Int) most)) (by omega) (by omega) (by omega)
        rw [hdr]
        have e : lsum most (l.getD i [] :: l.drop (i + 1)) = (1 + min ((l.getD i []).length : Int) most) + lsum most (l.drop (i + 1)) := by simp [lsum]
        have e2 : s + (1 + min ((l.getD i []).length : Int) most + lsum most (l.drop (i + 1))) = s + (1 + min ((l.getD i []).length : Int) most) + lsum most (l.drop (i + 1)) := by omega
        rw [e, e2]
        exact h
    · refine Ev.step (f := fun _ => some (decide (s > most))) (fun k => ?_) ?_
      · simp only [caesurakeep_LargeLists.l0]
        rw [if_pos (by omega), if_neg h1]
      · rw [decide_eq_true (show s > most by omega), decide_eq_true (show s + lsum most (l.drop i) > most by omega)]
        exact Ev.now _
theorem ev_LargeLists (most : Int) (hm : 0 ≤ most) (hM : most ≤ 1000000) (l : List (List Int)) : Ev (fun k => caesurakeep_LargeLists.f k l most) (decide (lsum most l > most)) := by
  have h := ev_LargeLists_l0 most hm hM l l.length 0 0 (by omega) (by omega) (by omega)
  simpa [caesurakeep_LargeLists.f] using h
/-- Is an automaton too large? -/
def largeB (nx : List (List Int)) (ac : List Bool) : Bool := decide (lsum 4000 nx > 4000) || decide ((ac.length : Int) > 3000)
theorem ev_Large (a : Int) (nx : List (List Int)) (ac : List Bool) : Ev (fun k => caesuralaw19_Large.f k a nx ac) (largeB nx ac) := by
  unfold caesuralaw19_Large.f largeB
  refine Ev.bind (ev_LargeLists 4000 (by omega) (by omega) nx) ?_
  cases decide (lsum 4000 nx > 4000)
  · simpa using Ev.now _
  · simpa using Ev.now _

/-! laid -/
def laidL (nx : List (List Int)) (ac : List Bool) (frm tt : Int) : List (List S82) := List.zipWith (laidRow frm tt) nx ac
theorem laidL_length (nx : List (List Int)) (ac : List Bool) (frm tt : Int) (h : ac.length = nx.length) : (laidL nx ac frm tt).length = nx.length := by
  simp [laidL, h]
theorem goodB_elim {a : Int} {nx : List (List Int)} {ac : List Bool} (h : goodB a nx ac = true) :
    1 ≤ a ∧ a ≤ 64 ∧ 1 ≤ nx.length ∧ nx.length ≤ 1000 ∧ ac.length = nx.length ∧ ∀ l ∈ nx, (l.length : Int) = a ∧ ∀ x ∈ l, 0 ≤ x ∧ x < nx.length := by
  unfold goodB at h
  simp only [Bool.and_eq_true, decide_eq_true_eq, Bool.not_eq_true', List.any_eq_false] at h
  obtain ⟨⟨⟨⟨⟨h1, h2⟩, h3⟩, h4⟩, h5⟩, h6⟩ := h
  refine ⟨h1, h2, by omega, by omega, by omega, fun l hl => ?_⟩
  have h7 := h6 l hl
  unfold BadRow at h7
  simp only [Bool.or_eq_true, Bool.not_eq_true', decide_eq_false_iff_not, not_or, Decidable.not_not, List.any_eq_true, not_exists, not_and] at h7
  refine ⟨h7.1, fun x hx => ?_⟩
  have h8 := h7.2 x hx
  unfold OutOf at h8
  simp only [Bool.or_eq_true, decide_eq_true_eq, not_or] at h8
  omega
theorem ev_laid_l1 (a : Int) (nx : List (List Int)) (ac : List Bool) (frm tt : Int) (hf : 0 ≤ frm) (hf2 : frm ≤ 1000000) (i : Nat) (hi : i < nx.length) (hn : nx.length ≤ 1000) (row : List Int) (hrow : ∀ x ∈ row, 0 ≤ x ∧ x < 1000) (hrl : row.length ≤ 64) (R : List (List S82)) (acc : List (List S82)) (hacc : acc.length ≤ 1000)
    (pre : List S82) (hR : Ev (fun k => thompson_laid.l0 k frm tt (acc ++ [pre ++ laidFrom frm 0 row]) nx (nx.length : Int) ((i + 1 : Nat) : Int) a nx ac) R) :
    ∀ (d c : Nat) (cur : List S82), c + d = row.length → cur ++ laidFrom frm c (row.drop c) = pre ++ laidFrom frm 0 row → cur.length ≤ c + 1 →
      Ev (fun k => thompson_laid.l1 k frm tt acc cur nx (nx.length : Int) (i : Int) row (row.length : Int) (c : Int) a nx ac) R := by
  intro d
  induction d with
  | zero =>
    intro c cur hc he hcl
    rw [List.drop_of_length_le (by omega)] at he
    simp only [laidFrom, List.append_nil] at he
    refine Ev.step (f := fun k => thompson_laid.l0 k frm tt (acc ++ [pre ++ laidFrom frm 0 row]) nx (nx.length : Int) ((i + 1 : Nat) : Int) a nx ac) (fun k => ?_) hR
    simp only [thompson_laid.l1]
    rw [if_neg (by omega), if_pos (by omega), wadd (by omega) (by omega), nat_succ_cast, he]
  | succ d ih =>
    intro c cur hc he hcl
    have hcr : c < row.length := by omega
    have hx := hrow (row.getD c 0) (by rw [List.getD_eq_getElem?_getD, List.getElem?_eq_getElem hcr]; simp)
    rw [drop_cons_getD row 0 c hcr] at he
    refine Ev.step (f := fun k => thompson_laid.l1 k frm tt acc (cur ++ [⟨(c : Int), frm + row.getD c 0⟩]) nx (nx.length : Int) (i : Int) row (row.length : Int) ((c + 1 : Nat) : Int) a nx ac) (fun k => ?_) (ih (c + 1) _ (by omega) (by rw [← he]; simp [laidFrom]) (by simp; omega))
    simp only [thompson_laid.l1, rd_nat]
    rw [if_pos (by omega), if_pos (by omega), if_pos (by omega), if_pos (by omega), wadd (x := frm) (by omega) (by omega), wadd (by omega) (by omega), nat_succ_cast]
theorem ev_laid_l0 (a : Int) (nx : List (List Int)) (ac : List Bool) (frm tt : Int) (hf : 0 ≤ frm) (hf2 : frm ≤ 1000000) (hg : goodB a nx ac = true) :
    ∀ (d i : Nat) (acc : List (List S82)), i + d = nx.length → acc.length = i → Ev (fun k => thompson_laid.l0 k frm tt acc nx (nx.length : Int) (i : Int) a nx ac) (acc ++ List.zipWith (laidRow frm tt) (nx.drop i) (ac.drop i)) := by
  obtain ⟨ha1, ha2, hn1, hn2, hal, hrows⟩ := goodB_elim hg
  intro d
  induction d with
  | zero =>
    intro i acc hi hacc
    rw [List.drop_of_length_le (by omega), List.zipWith_nil_left, List.append_nil]
    refine Ev.step (f := fun _ => some acc) (fun k => ?_) (Ev.now _)
    simp only [thompson_laid.l0]
    rw [if_neg (by omega)]
  | succ d ih =>
    intro i acc hi hacc
    have hil : i < nx.length := by omega
    have hia : i < ac.length := by omega
    have hr := hrows (nx.getD i []) (by rw [List.getD_eq_getElem?_getD, List.getElem?_eq_getElem hil]; simp)
    rw [drop_cons_getD nx [] i hil, drop_cons_getD ac false i hia, List.zipWith_cons_cons]
    have hnext := ih (i + 1) (acc ++ [laidRow frm tt (nx.getD i []) (ac.getD i false)]) (by omega) (by simp [hacc])
    rw [List.append_assoc] at hnext
    have hl1 : ∀ (pre : List S82), pre.length ≤ 1 → laidRow frm tt (nx.getD i []) (ac.getD i false) = pre ++ laidFrom frm 0 (nx.getD i []) →
        Ev (fun k => thompson_laid.j1 k frm tt acc (nx.getD i []) pre nx (nx.length : Int) (i : Int) a nx ac) (acc ++ ([laidRow frm tt (nx.getD i []) (ac.getD i false)] ++ List.zipWith (laidRow frm tt) (nx.drop (i + 1)) (ac.drop (i + 1)))) := by
      intro pre hp he
      refine Ev.step (f := fun k => thompson_laid.l1 k frm tt acc pre nx (nx.length : Int) (i : Int) (nx.getD i []) ((nx.getD i []).length : Int) ((0 : Nat) : Int) a nx ac) (fun k => by simp only [thompson_laid.j1]; rfl) ?_
      refine ev_laid_l1 a nx ac frm tt hf hf2 i hil hn2 (nx.getD i []) (fun x hx => by have := hr.2 x hx; omega) (by omega) _ acc (by omega) pre (by rw [← he]; exact hnext) _ 0 pre (Nat.zero_add _) rfl (by omega)
    cases hac : ac.getD i false with
    | true =>
      refine Ev.step (f := fun k => thompson_laid.j1 k frm tt acc (nx.getD i []) [noth tt] nx (nx.length : Int) (i : Int) a nx ac) (fun k => ?_) ?_
      · simp only [thompson_laid.l0, rd5_nat, rdb_nat, thompson_nothing.f, Option.bind_some]
        rw [if_pos (by omega), if_pos (by omega), if_pos (by omega), if_pos (by omega), if_pos hac, if_pos (by simp)]
        rfl
      · have h := hl1 [noth tt] (by simp) (by rw [hac]; rfl)
        rw [hac] at h
        exact h
    | false =>
      refine Ev.step (f := fun k => thompson_laid.j1 k frm tt acc (nx.getD i []) [] nx (nx.length : Int) (i : Int) a nx ac) (fun k => ?_) ?_
      · simp only [thompson_laid.l0, rd5_nat, rdb_nat, thompson_nothing.f, Option.bind_some]
        rw [if_pos (by omega), if_pos (by omega), if_pos (by omega), if_pos (by omega), if_neg (by rw [hac]; simp)]
      · have h := hl1 [] (by simp) (by rw [hac]; rfl)
        rw [hac] at h
        exact h
theorem ev_laid (a : Int) (nx : List (List Int)) (ac : List Bool) (frm tt : Int) (hf : 0 ≤ frm) (hf2 : frm ≤ 1000000) (hg : goodB a nx ac = true) : Ev (fun k => thompson_laid.f k a nx ac frm tt) (laidL nx ac frm tt) := by
  have h := ev_laid_l0 a nx ac frm tt hf hf2 hg nx.length 0 [] (by omega) rfl
  simpa [thompson_laid.f, laidL] using h
theorem goodB_laid {a : Int} {nx : List (List Int)} {ac : List Bool} (hg : goodB a nx ac = true) (frm tt : Int) : (laidL nx ac frm tt).length = nx.length := laidL_length _ _ _ _ (goodB_elim hg).2.2.2.2.1

/-! the nets -/
def netOf (nx : List (List Int)) (ac : List Bool) : List (List S82) := [[noth 2], []] ++ laidL nx ac 2 1
def netAgain (nx : List (List Int)) (ac : List Bool) : List (List S82) := [[noth 1, noth 2], []] ++ laidL nx ac 2 0
def netJoin (nx : List (List Int)) (ac : List Bool) (nx' : List (List Int)) (ac' : List Bool) : List (List S82) := [[noth 2], []] ++ (laidL nx ac 2 (2 + nx.length) ++ laidL nx' ac' (2 + nx.length) 1)
def netEither (nx : List (List Int)) (ac : List Bool) (nx' : List (List Int)) (ac' : List Bool) : List (List S82) := [[noth 2, noth (2 + nx.length)], []] ++ (laidL nx ac 2 1 ++ laidL nx' ac' (2 + nx.length) 1)
theorem ev_Of (a : Int) (nx : List (List Int)) (ac : List Bool) : Ev (fun k => thompson_Of.f k a nx ac) (if goodB a nx ac = true then (a, netOf nx ac, true) else (0, [], false)) := by
  unfold thompson_Of.f
  cases hg : goodB a nx ac with
  | false => simpa using Ev.now _
  | true =>
    simp only [if_true]
    refine Ev.bind (ev_laid a nx ac 2 1 (by omega) (by omega) hg) ?_
    have hl := goodB_laid hg 2 1
    have hn := goodB_len hg
    rw [if_pos (by omega), decide_eq_true (by omega)]
    exact Ev.now _
theorem ev_Again (a : Int) (nx : List (List Int)) (ac : List Bool) : Ev (fun k => thompson_Again.f k a nx ac) (if goodB a nx ac = true then (a, netAgain nx ac, true) else (0, [], false)) := by
  unfold thompson_Again.f
  cases hg : goodB a nx ac with
  | false => simpa using Ev.now _
  | true =>
    simp only [if_true]
    refine Ev.bind (ev_laid a nx ac 2 0 (by omega) (by omega) hg) ?_
    have hl := goodB_laid hg 2 0
    have hn := goodB_len hg
    rw [if_pos (by omega), decide_eq_true (by omega)]
    exact Ev.now _
theorem bothB_elim {k : Int} {nx : List (List Int)} {ac : List Bool} {k' : Int} {nx' : List (List Int)} {ac' : List Bool} (h : bothB k nx ac k' nx' ac' = true) : goodB k nx ac = true ∧ goodB k' nx' ac' = true ∧ k = k' := by
  unfold bothB at h
  simp only [Bool.and_eq_true, beq_iff_eq] at h
  exact ⟨h.1.1, h.1.2, h.2⟩
theorem ev_Join (a : Int) (nx : List (List Int)) (ac : List Bool) (a' : Int) (nx' : List (List Int)) (ac' : List Bool) : Ev (fun k => thompson_Join.f k a nx ac a' nx' ac') (if bothB a nx ac a' nx' ac' = true then (a, netJoin nx ac nx' ac', true) else (0, [], false)) := by
  unfold thompson_Join.f
  cases hb : bothB a nx ac a' nx' ac' with
  | false => simpa using Ev.now _
  | true =>
    obtain ⟨hg, hg', _⟩ := bothB_elim hb
    have hn := goodB_len hg
    have hn' := goodB_len hg'
    simp only [if_true]
    refine Ev.bind (ev_laid a nx ac 2 _ (by omega) (by omega) hg) ?_
    refine Ev.bind (ev_laid a' nx' ac' _ 1 (by omega) (by omega) hg') ?_
    have hl : (laidL nx ac 2 (2 + nx.length) ++ laidL nx' ac' (2 + nx.length) 1).length = nx.length + nx'.length := by rw [List.length_append, goodB_laid hg, goodB_laid hg']
    rw [if_pos (by omega), decide_eq_true (by omega)]
    exact Ev.now _
theorem ev_Either (a : Int) (nx : List (List Int)) (ac : List Bool) (a' : Int) (nx' : List (List Int)) (ac' : List Bool) : Ev (fun k => thompson_Either.f k a nx ac a' nx' ac') (if bothB a nx ac a' nx' ac' = true then (a, netEither nx ac nx' ac', true) else (0, [], false)) := by
  unfold thompson_Either.f
  cases hb : bothB a nx ac a' nx' ac' with
  | false => simpa using Ev.now _
  | true =>
    obtain ⟨hg, hg', _⟩ := bothB_elim hb
    have hn := goodB_len hg
    have hn' := goodB_len hg'
    simp only [if_true]
    refine Ev.bind (ev_laid a nx ac 2 1 (by omega) (by omega) hg) ?_
    refine Ev.bind (ev_laid a' nx' ac' _ 1 (by omega) (by omega) hg') ?_
    have hl : (laidL nx ac 2 1 ++ laidL nx' ac' (2 + nx.length) 1).length = nx.length + nx'.length := by rw [List.length_append, goodB_laid hg, goodB_laid hg']
    rw [if_pos (by omega), decide_eq_true (by omega)]
    exact Ev.now _
theorem ev_wakes19 : Ev (fun k => caesuralaw19_wakes.f k) true := Ev.of (fun k => caesuralaw19_wakes.mono k) (k := 60) (by decide +kernel)

end Go.Proofs.Ytelkjbacdpmnfaa.A
