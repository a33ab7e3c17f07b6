/- By a program, out of the translation (wip/myprint.py). -/
import Derived.Test.YtelkjbacdpmnfaaA0
import Derived.Test.YtelkjbacdpmnfaaACaesuraref19GoodNet
import Derived.Test.YtelkjbacdpmnfaaAPlainGood
import Derived.Test.YtelkjbacdpmnfaaAPlainOne
import Derived.Test.YtelkjbacdpmnfaaAThompsonGood
import Derived.Test.YtelkjbacdpmnfaaAThompsonGoodNet
import Derived.Test.YtelkjbacdpmnfaaAThompsonRows
namespace Go.Proofs.Ytelkjbacdpmnfaa.A
open Go.RowKit Go.Proofs.YtelkjbacdpmnfaaW.PrintWords Go.Proofs.YtelkjbacdpmnfaaW.PrintLast Go.Proofs.YtelkjbacdpmnfaaW.PrintMore
attribute [local go_sem] max2_int min2_int max_two min_two max_three min_three max_four min_four   -- for this text's walks alone
set_option linter.unusedVariables false
set_option linter.unusedSimpArgs false

theorem rd82_nat (l : List S82) (i : Nat) : rd_T82 l (i : Int) = l.getD i z82 := by unfold rd_T82; rw [Int.toNat_natCast]
theorem getD_mem {α : Type} (l : List α) (d : α) (i : Nat) (h : i < l.length) : l.getD i d ∈ l := by
  rw [List.getD_eq_getElem?_getD, List.getElem?_eq_getElem h]
  simp
theorem take_getD_snoc {α : Type} (l : List α) (d : α) (i : Nat) (h : i < l.length) : l.take (i + 1) = l.take i ++ [l.getD i d] := by
  rw [List.take_succ_eq_append_getElem h, List.getD_eq_getElem?_getD, List.getElem?_eq_getElem h]
  simp
theorem small_len {α : Type} {l : List (List α)} {i : Nat} {d : List α} (hr : ∀ x ∈ l, x.length ≤ 1000000) (h : i < l.length) : (l.getD i d).length ≤ 1000000 := hr _ (getD_mem l d i h)

/-! the reference's GoodNet -/
theorem ev_refGoodNet_l1 (a : Int) (l : List (List S82)) (ha : 1 ≤ a) (ha2 : a ≤ 64) (hl : l.length ≤ 4000) (i : Nat) (hi : i < l.length) (hs : (l.getD i []).length ≤ 1000000) (R : Bool) (h : Ev (fun k => caesuraref19_GoodNet.l0 k ((i + 1 : Nat) : Int) a l) R) :
    ∀ (d c : Nat), c + d = (l.getD i []).length → Ev (fun k => caesuraref19_GoodNet.l1 k (i : Int) (c : Int) a l) (if ((l.getD i []).drop c).any (BadEdge a l.length) then false else R) := by
  intro d
  induction d with
  | zero =>
    intro c hc
    rw [List.drop_of_length_le (by omega)]
    refine Ev.step (f := fun k => caesuraref19_GoodNet.l0 k ((i + 1 : Nat) : Int) a l) (fun k => ?_) (by simpa using h)
    simp only [caesuraref19_GoodNet.l1, rd2_nat]
    rw [if_pos (by omega), if_pos (by omega), if_neg (by omega), wadd (by omega) (by omega), nat_succ_cast]
  | succ d ih =>
    intro c hc
    have hcl : c < (l.getD i []).length := by omega
    rw [drop_cons_getD _ z82 c hcl, List.any_cons]
    by_cases hb : BadEdge a l.length ((l.getD i []).getD c z82) = true
    · rw [hb, Bool.true_or, if_pos rfl]
      refine Ev.step (f := fun _ => some false) (fun k => ?_) (Ev.now _)
      simp only [caesuraref19_GoodNet.l1, rd2_nat, rd82_nat]
      rw [if_pos (by omega), if_pos (by omega), if_pos (by omega), if_pos (by omega)]
      generalize (l.getD i []).getD c z82 = e at hb ⊢
      unfold BadEdge at hb
      simp only [Bool.or_eq_true, Bool.and_eq_true, Bool.not_eq_true', decide_eq_true_eq, decide_eq_false_iff_not] at hb
      by_cases h1 : e.f0 < -1
      · rw [if_pos h1]
      · by_cases h2 : e.f0 ≥ a
        · rw [if_neg h1, if_pos h2]
        · by_cases h3 : e.f1 < 0
          · rw [if_neg h1, if_neg h2, if_pos h3]
          · rw [if_neg h1, if_neg h2, if_neg h3, if_pos (by omega)]
    · have hbf : BadEdge a l.length ((l.getD i []).getD c z82) = false := by simpa using hb
      rw [hbf, Bool.false_or]
      refine Ev.step (f := fun k => caesuraref19_GoodNet.l1 k (i : Int) ((c + 1 : Nat) : Int) a l) (fun k => ?_) (ih (c + 1) (by omega))
      simp only [caesuraref19_GoodNet.l1, rd2_nat, rd82_nat]
      rw [if_pos (by omega), if_pos (by omega), if_pos (by omega), if_pos (by omega), wadd (by omega) (by omega), nat_succ_cast]
      generalize (l.getD i []).getD c z82 = e at hbf ⊢
      unfold BadEdge at hbf
      simp only [Bool.or_eq_false_iff, Bool.and_eq_false_iff, Bool.not_eq_false', decide_eq_true_eq, decide_eq_false_iff_not] at hbf
      rw [if_neg (by omega), if_neg (by omega), if_neg (by omega), if_neg (by omega)]
theorem ev_refGoodNet (a : Int) (l : List (List S82)) (hr : ∀ x ∈ l, x.length ≤ 1000000) : Ev (fun k => caesuraref19_GoodNet.f k a l) (goodNetB a l) := by
  have hj : Ev (fun k => caesuraref19_GoodNet.j0 k true a l) false := Ev.step (f := fun _ => some false) (fun k => by simp only [caesuraref19_GoodNet.j0, if_true]) (Ev.now _)
  unfold caesuraref19_GoodNet.f goodNetB
  by_cases h1 : a < 1
  · simp only [if_pos h1]
    rw [decide_eq_false (show ¬ 1 ≤ a by omega)]
    simpa using hj
  · by_cases h2 : a > 64
    · simp only [if_neg h1, if_pos h2]
      rw [decide_eq_false (show ¬ a ≤ 64 by omega)]
      simpa using hj
    · by_cases h3 : (l.length : Int) < 2
      · simp only [if_neg h1, if_neg h2, if_pos h3]
        rw [decide_eq_false (show ¬ 2 ≤ (l.length : Int) by omega)]
        simpa using hj
      · simp only [if_neg h1, if_neg h2, if_neg h3]
        rw [decide_eq_true (show 1 ≤ a by omega), decide_eq_true (show a ≤ 64 by omega), decide_eq_true (show 2 ≤ (l.length : Int) by omega)]
        by_cases h4 : (l.length : Int) > 4000
        · rw [decide_eq_true h4, decide_eq_false (show ¬ (l.length : Int) ≤ 4000 by omega)]
          simpa using hj
        · rw [decide_eq_false h4, decide_eq_true (show (l.length : Int) ≤ 4000 by omega)]
          have key : ∀ (d i : Nat), i + d = l.length → Ev (fun k => caesuraref19_GoodNet.l0 k (i : Int) a l) (!(l.drop i).any (BadEdges a l.length)) := by
            intro d
            induction d with
            | zero =>
              intro i hi
              rw [List.drop_of_length_le (by omega)]
              refine Ev.step (f := fun _ => some true) (fun k => ?_) (Ev.now _)
              simp only [caesuraref19_GoodNet.l0]
              rw [if_neg (by omega)]
            | succ d ih =>
              intro i hi
              have hil : i < l.length := by omega
              rw [drop_cons_getD _ [] i hil, List.any_cons]
              refine Ev.step (f := fun k => caesuraref19_GoodNet.l1 k (i : Int) ((0 : Nat) : Int) a l) (fun k => ?_) ?_
              · simp only [caesuraref19_GoodNet.l0]
                rw [if_pos (by omega)]
                rfl
              · have h := ev_refGoodNet_l1 a l (by omega) (by omega) (by omega) i hil (small_len hr hil) _ (ih (i + 1) (by omega)) _ 0 (Nat.zero_add _)
                have e : (!(BadEdges a l.length (l.getD i []) || (l.drop (i + 1)).any (BadEdges a l.length))) = (if ((l.getD i []).drop 0).any (BadEdge a l.length) then false else !(l.drop (i + 1)).any (BadEdges a l.length)) := by
                  rw [List.drop_zero]
                  unfold BadEdges
                  cases (l.getD i []).any (BadEdge a l.length) <;> simp
                rw [e]
                exact h
          refine Ev.step (f := fun k => caesuraref19_GoodNet.l0 k 0 a l) (fun k => ?_) (by simpa using key l.length 0 (by omega))
          simp only [caesuraref19_GoodNet.j0]
          rw [if_neg (by decide)]
theorem laid_small {frm tt : Int} : ∀ (nx : List (List Int)) (ac : List Bool), (∀ l ∈ nx, (l.length : Int) ≤ 64) → ∀ x ∈ laidL nx ac frm tt, x.length ≤ 65 := by
  intro nx
  induction nx with
  | nil => intro ac _ x hx; simp [laidL] at hx
  | cons l nx ih =>
    intro ac h x hx
    cases ac with
    | nil => simp [laidL] at hx
    | cons e ac =>
      simp only [laidL, List.zipWith_cons_cons, List.mem_cons] at hx
      rcases hx with rfl | hx
      · have := h l (by simp)
        unfold laidRow
        rw [List.length_append, laidFrom_length]
        split <;> simp <;> omega
      · exact ih ac (fun l' hl' => h l' (by simp [hl'])) x hx
theorem goodB_small {a : Int} {nx : List (List Int)} {ac : List Bool} (h : goodB a nx ac = true) : ∀ l ∈ nx, (l.length : Int) ≤ 64 := by
  intro l hl
  obtain ⟨_, h2, _, _, _, hr⟩ := goodB_elim h
  have := (hr l hl).1
  omega

end Go.Proofs.Ytelkjbacdpmnfaa.A
