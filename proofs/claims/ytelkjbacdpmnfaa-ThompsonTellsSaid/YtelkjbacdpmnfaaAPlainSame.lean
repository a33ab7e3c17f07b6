/- By a program, out of the translation (wip/myprint.py). -/
import Derived.Test.YtelkjbacdpmnfaaA0
import Derived.Test.YtelkjbacdpmnfaaACaesurakeepAutomaton
import Derived.Test.YtelkjbacdpmnfaaACaesurakeepBools
import Derived.Test.YtelkjbacdpmnfaaACaesurakeepInts
import Derived.Test.YtelkjbacdpmnfaaACaesurakeepLists
import Derived.Test.YtelkjbacdpmnfaaACaesurakeepNet
import Derived.Test.YtelkjbacdpmnfaaACaesurakeepOwnAutomaton
import Derived.Test.YtelkjbacdpmnfaaACaesurakeepOwnLists
import Derived.Test.YtelkjbacdpmnfaaACaesurakeepOwnNet
import Derived.Test.YtelkjbacdpmnfaaACaesuraref19GoodNet
import Derived.Test.YtelkjbacdpmnfaaAPlainGood
import Derived.Test.YtelkjbacdpmnfaaAThompsonGoodNet
namespace Go.Proofs.Ytelkjbacdpmnfaa.A
open Go.RowKit Go.Proofs.YtelkjbacdpmnfaaW.PrintWords Go.Proofs.YtelkjbacdpmnfaaW.PrintLast Go.Proofs.YtelkjbacdpmnfaaW.PrintMore
attribute [local go_sem] max2_int min2_int max_two min_two max_three min_three max_four min_four   -- for this text's walks alone
set_option linter.unusedVariables false
set_option linter.unusedSimpArgs false

theorem rd82_nat (l : List S82) (i : Nat) : rd_T82 l (i : Int) = l.getD i z82 := by unfold rd_T82; rw [Int.toNat_natCast]
theorem getD_mem {α : Type} (l : List α) (d : α) (i : Nat) (h : i < l.length) : l.getD i d ∈ l := by
  rw [List.getD_eq_getElem?_getD, List.getElem?_eq_getElem h]
  simp
theorem take_getD_snoc {α : Type} (l : List α) (d : α) (i : Nat) (h : i < l.length) : l.take (i + 1) = l.take i ++ [l.getD i d] := by
  rw [List.take_succ_eq_append_getElem h, List.getD_eq_getElem?_getD, List.getElem?_eq_getElem h]
  simp
theorem small_len {α : Type} {l : List (List α)} {i : Nat} {d : List α} (hr : ∀ x ∈ l, x.length ≤ 1000000) (h : i < l.length) : (l.getD i d).length ≤ 1000000 := hr _ (getD_mem l d i h)

/-! a copy of lists is the lists -/
theorem ev_OwnLists (l : List (List Int)) (hn : l.length ≤ 1000000) (hr : ∀ x ∈ l, x.length ≤ 1000000) : Ev (fun k => caesurakeep_OwnLists.f k l) l := by
  have key : ∀ (d i : Nat), i + d = l.length → Ev (fun k => caesurakeep_OwnLists.l0 k l (l.take i) (i : Int)) l := by
    intro d
    induction d with
    | zero =>
      intro i hi
      refine Ev.step (f := fun _ => some (l.take i)) (fun k => ?_) ?_
      · simp only [caesurakeep_OwnLists.l0]
        rw [if_neg (by omega)]
      · rw [List.take_of_length_le (by omega)]
        exact Ev.now _
    | succ d ih =>
      intro i hi
      have hil : i < l.length := by omega
      have hs := small_len (d := []) hr hil
      have ht : (l.take i).length ≤ 1000000 := by rw [List.length_take]; omega
      refine Ev.step (f := fun k => caesurakeep_OwnLists.l0 k l (l.take (i + 1)) ((i + 1 : Nat) : Int)) (fun k => ?_) (ih (i + 1) (by omega))
      simp only [caesurakeep_OwnLists.l0, rd5_nat, Option.bind_some, List.length_nil, List.nil_append]
      rw [if_pos (by omega), if_pos (by omega), if_pos (by omega), if_pos (by omega), wadd (by omega) (by omega), nat_succ_cast, ← take_getD_snoc l [] i hil]
  have h := key l.length 0 (by omega)
  simpa [caesurakeep_OwnLists.f] using h
theorem ev_OwnNet (a : Int) (l : List (List S82)) (hn : l.length ≤ 1000000) (hr : ∀ x ∈ l, x.length ≤ 1000000) : Ev (fun k => caesurakeep_OwnNet.f k a l) (a, l) := by
  have key : ∀ (d i : Nat), i + d = l.length → Ev (fun k => caesurakeep_OwnNet.l0 k (i : Int) a l a (l.take i)) (a, l) := by
    intro d
    induction d with
    | zero =>
      intro i hi
      refine Ev.step (f := fun _ => some (a, l.take i)) (fun k => ?_) ?_
      · simp only [caesurakeep_OwnNet.l0]
        rw [if_neg (by omega)]
      · rw [List.take_of_length_le (by omega)]
        exact Ev.now _
    | succ d ih =>
      intro i hi
      have hil : i < l.length := by omega
      have hs := small_len (d := []) hr hil
      have ht : (l.take i).length ≤ 1000000 := by rw [List.length_take]; omega
      refine Ev.step (f := fun k => caesurakeep_OwnNet.l0 k ((i + 1 : Nat) : Int) a l a (l.take (i + 1))) (fun k => ?_) (ih (i + 1) (by omega))
      simp only [caesurakeep_OwnNet.l0, rd2_nat, Option.bind_some, List.length_nil, List.nil_append]
      rw [if_pos (by omega), if_pos (by omega), if_pos (by omega), if_pos (by omega), wadd (by omega) (by omega), nat_succ_cast, ← take_getD_snoc l [] i hil]
  have h := key l.length 0 (by omega)
  simpa [caesurakeep_OwnNet.f] using h
theorem ev_OwnAutomaton (a : Int) (nx : List (List Int)) (ac : List Bool) (hn : nx.length ≤ 1000000) (hr : ∀ x ∈ nx, x.length ≤ 1000000) (ha : ac.length ≤ 1000000) : Ev (fun k => caesurakeep_OwnAutomaton.f k a nx ac) (a, nx, ac) := by
  unfold caesurakeep_OwnAutomaton.f
  refine Ev.bind (ev_OwnLists nx hn hr) ?_
  simp only [Option.bind_some, List.length_nil, List.nil_append]
  refine Ev.congr (f := fun _ => some (a, nx, ac)) (fun k => ?_) (Ev.now _)
  rw [if_pos (by omega)]

/-! what is alike is told alike -/
theorem ev_Ints_same (l : List Int) (hn : l.length ≤ 1000000) : Ev (fun k => caesurakeep_Ints.f k l l) true := by
  have key : ∀ (d i : Nat), i + d = l.length → Ev (fun k => caesurakeep_Ints.l0 k l l (i : Int)) true := by
    intro d
    induction d with
    | zero =>
      intro i hi
      refine Ev.step (f := fun _ => some true) (fun k => ?_) (Ev.now _)
      simp only [caesurakeep_Ints.l0]
      rw [if_neg (by omega)]
    | succ d ih =>
      intro i hi
      refine Ev.step (f := fun k => caesurakeep_Ints.l0 k l l ((i + 1 : Nat) : Int)) (fun k => ?_) (ih (i + 1) (by omega))
      simp only [caesurakeep_Ints.l0, rd_nat]
      rw [if_pos (by omega), if_pos (by omega), if_pos (by omega), if_pos trivial, wadd (by omega) (by omega), nat_succ_cast]
  have h := key l.length 0 (by omega)
  simpa [caesurakeep_Ints.f] using h
theorem ev_Bools_same (l : List Bool) (hn : l.length ≤ 1000000) : Ev (fun k => caesurakeep_Bools.f k l l) true := by
  have key : ∀ (d i : Nat), i + d = l.length → Ev (fun k => caesurakeep_Bools.l0 k l l (i : Int)) true := by
    intro d
    induction d with
    | zero =>
      intro i hi
      refine Ev.step (f := fun _ => some true) (fun k => ?_) (Ev.now _)
      simp only [caesurakeep_Bools.l0]
      rw [if_neg (by omega)]
    | succ d ih =>
      intro i hi
      refine Ev.step (f := fun k => caesurakeep_Bools.l0 k l l ((i + 1 : Nat) : Int)) (fun k => ?_) (ih (i + 1) (by omega))
      simp only [caesurakeep_Bools.l0, rdb_nat, bne_self_eq_false]
      rw [if_pos (by omega), if_pos (by omega), if_pos (by omega), if_neg (by decide), wadd (by omega) (by omega), nat_succ_cast]
  have h := key l.length 0 (by omega)
  simpa [caesurakeep_Bools.f] using h
theorem ev_Lists_same (l : List (List Int)) (hn : l.length ≤ 1000000) (hr : ∀ x ∈ l, x.length ≤ 1000000) : Ev (fun k => caesurakeep_Lists.f k l l) true := by
  have key : ∀ (d i : Nat), i + d = l.length → Ev (fun k => caesurakeep_Lists.l0 k l l (i : Int)) true := by
    intro d
    induction d with
    | zero =>
      intro i hi
      refine Ev.step (f := fun _ => some true) (fun k => ?_) (Ev.now _)
      simp only [caesurakeep_Lists.l0]
      rw [if_neg (by omega)]
    | succ d ih =>
      intro i hi
      have hil : i < l.length := by omega
      have hs := small_len (d := []) hr hil
      refine Ev.step (f := fun k => (caesurakeep_Ints.f k (l.getD i []) (l.getD i [])).bind fun t103 => if t103 = true then caesurakeep_Lists.l0 k l l ((i + 1 : Nat) : Int) else some false) (fun k => ?_) (Ev.bind (ev_Ints_same _ hs) ?_)
      · simp only [caesurakeep_Lists.l0, rd5_nat]
        rw [if_pos (by omega), if_pos (by omega), if_pos (by omega), wadd (by omega) (by omega), nat_succ_cast]
      · simpa using ih (i + 1) (by omega)
  have h := key l.length 0 (by omega)
  simpa [caesurakeep_Lists.f] using h
theorem ev_Automaton_same (a : Int) (nx : List (List Int)) (ac : List Bool) (hn : nx.length ≤ 1000000) (hr : ∀ x ∈ nx, x.length ≤ 1000000) (ha : ac.length ≤ 1000000) : Ev (fun k => caesurakeep_Automaton.f k a nx ac a nx ac) true := by
  unfold caesurakeep_Automaton.f
  simp only [if_true]
  refine Ev.bind (ev_Lists_same nx hn hr) ?_
  simp only [if_true]
  refine Ev.bind (ev_Bools_same ac ha) ?_
  exact Ev.now _
theorem ev_Net_same_l1 (a : Int) (l : List (List S82)) (i : Nat) (hi : i < l.length) (hl : l.length ≤ 1000000) (hs : (l.getD i []).length ≤ 1000000) (h : Ev (fun k => caesurakeep_Net.l0 k ((i + 1 : Nat) : Int) a l a l) true) :
    ∀ (d c : Nat), c + d = (l.getD i []).length → Ev (fun k => caesurakeep_Net.l1 k (i : Int) (c : Int) a l a l) true := by
  intro d
  induction d with
  | zero =>
    intro c hc
    refine Ev.step (f := fun k => caesurakeep_Net.l0 k ((i + 1 : Nat) : Int) a l a l) (fun k => ?_) h
    simp only [caesurakeep_Net.l1, rd2_nat]
    rw [if_pos (by omega), if_pos (by omega), if_neg (by omega), wadd (by omega) (by omega), nat_succ_cast]
  | succ d ih =>
    intro c hc
    refine Ev.step (f := fun k => caesurakeep_Net.l1 k (i : Int) ((c + 1 : Nat) : Int) a l a l) (fun k => ?_) (ih (c + 1) (by omega))
    simp only [caesurakeep_Net.l1, rd2_nat, beq_self_eq_true, Bool.not_true, Bool.or_self]
    rw [if_pos (by omega), if_pos (by omega), if_pos (by omega), if_pos (by omega), if_pos (by omega), if_pos (by omega), if_neg (by decide), wadd (by omega) (by omega), nat_succ_cast]
theorem ev_Net_same (a : Int) (l : List (List S82)) (hn : l.length ≤ 1000000) (hr : ∀ x ∈ l, x.length ≤ 1000000) : Ev (fun k => caesurakeep_Net.f k a l a l) true := by
  have key : ∀ (d i : Nat), i + d = l.length → Ev (fun k => caesurakeep_Net.l0 k (i : Int) a l a l) true := by
    intro d
    induction d with
    | zero =>
      intro i hi
      refine Ev.step (f := fun _ => some true) (fun k => ?_) (Ev.now _)
      simp only [caesurakeep_Net.l0]
      rw [if_neg (by omega)]
    | succ d ih =>
      intro i hi
      have hil : i < l.length := by omega
      refine Ev.step (f := fun k => caesurakeep_Net.l1 k (i : Int) ((0 : Nat) : Int) a l a l) (fun k => ?_) (ev_Net_same_l1 a l i hil hn (small_len hr hil) (ih (i + 1) (by omega)) _ 0 (Nat.zero_add _))
      simp only [caesurakeep_Net.l0, rd2_nat]
      rw [if_pos (by omega), if_pos (by omega), if_pos (by omega), if_pos trivial]
      rfl
  have h := key l.length 0 (by omega)
  unfold caesurakeep_Net.f
  simp only [if_true, bne_self_eq_false]
  refine Ev.step (f := fun k => caesurakeep_Net.l0 k 0 a l a l) (fun k => ?_) h
  simp only [caesurakeep_Net.j0]
  rw [if_neg (by decide)]

/-! the reference's GoodNet -/
theorem ev_refGoodNet_l1 (a : Int) (l : List (List S82)) (ha : 1 ≤ a) (ha2 : a ≤ 64) (hl : l.length ≤ 4000) (i : Nat) (hi : i < l.length) (hs : (l.getD i []).length ≤ 1000000) (R : Bool) (h : Ev (fun k => caesuraref19_GoodNet.l0 k ((i + 1 : Nat) : Int) a l) R) :
    ∀ (d c : Nat), c + d = (l.getD i []).length → Ev (fun k => caesuraref19_GoodNet.l1 k (i : Int) (c : Int) a l) (if ((l.getD i []).drop c).any (BadEdge a l.length) then false else R) := by
  intro d
  induction d with
  | zero =>
    intro c hc
    rw [List.drop_of_length_le (by omega)]
    refine Ev.step (f := fun k => caesuraref19_GoodNet.l0 k ((i + 1 : Nat) : Int) a l) (fun k => ?_) (by simpa using h)
    simp only [caesuraref19_GoodNet.l1, rd2_nat]
    rw [if_pos (by omega), if_pos (by omega), if_neg (by omega), wadd (by omega) (by omega), nat_succ_cast]
  | succ d ih =>
    intro c hc
    have hcl : c < (l.getD i []).length := by omega
    rw [drop_cons_getD _ z82 c hcl, List.any_cons]
    by_cases hb : BadEdge a l.length ((l.getD i []).getD c z82) = true
    · rw [hb, Bool.true_or, if_pos rfl]
      refine Ev.step (f := fun _ => some false) (fun k => ?_) (Ev.now _)
      simp only [caesuraref19_GoodNet.l1, rd2_nat, rd82_nat]
      rw [if_pos (by omega), if_pos (by omega), if_pos (by omega), if_pos (by omega)]
      generalize (l.getD i []).getD c z82 = e at hb ⊢
      unfold BadEdge at hb
      simp only [Bool.or_eq_true, Bool.and_eq_true, Bool.not_eq_true', decide_eq_true_eq, decide_eq_false_iff_not] at hb
      by_cases h1 : e.f0 < -1
      · rw [if_pos h1]
      · by_cases h2 : e.f0 ≥ a
        · rw [if_neg h1, if_pos h2]
        · by_cases h3 : e.f1 < 0
          · rw [if_neg h1, if_neg h2, if_pos h3]
          · rw [if_neg h1, if_neg h2, if_neg h3, if_pos (by omega)]
    · have hbf : BadEdge a l.length ((l.getD i []).getD c z82) = false := by simpa using hb
      rw [hbf, Bool.false_or]
      refine Ev.step (f := fun k => caesuraref19_GoodNet.l1 k (i : Int) ((c + 1 : Nat) : Int) a l) (fun k => ?_) (ih (c + 1) (by omega))
      simp only [caesuraref19_GoodNet.l1, rd2_nat, rd82_nat]
      rw [if_pos (by omega), if_pos (by omega), if_pos (by omega), if_pos (by omega), wadd (by omega) (by omega), nat_succ_cast]
      generalize (l.getD i []).getD c z82 = e at hbf ⊢
      unfold BadEdge at hbf
      simp only [Bool.or_eq_false_iff, Bool.and_eq_false_iff, Bool.not_eq_false', decide_eq_true_eq, decide_eq_false_iff_not] at hbf
      rw [if_neg (by omega), if_neg (by omega), if_neg (by omega), if_neg (by omega)]
theorem ev_refGoodNet (a : Int) (l : List (List S82)) (hr : ∀ x ∈ l, x.length ≤ 1000000) : Ev (fun k => caesuraref19_GoodNet.f k a l) (goodNetB a l) := by
  have hj : Ev (fun k => caesuraref19_GoodNet.j0 k true a l) false := Ev.step (f := fun _ => some false) (fun k => by simp only [caesuraref19_GoodNet.j0, if_true]) (Ev.now _)
  unfold caesuraref19_GoodNet.f goodNetB
  by_cases h1 : a < 1
  · simp only [if_pos h1]
    rw [decide_eq_false (show ¬ 1 ≤ a by omega)]
    simpa using hj
  · by_cases h2 : a > 64
    · simp only [if_neg h1, if_pos h2]
      rw [decide_eq_false (show ¬ a ≤ 64 by omega)]
      simpa using hj
    · by_cases h3 : (l.length : Int) < 2
      · simp only [if_neg h1, if_neg h2, if_pos h3]
        rw [decide_eq_false (show ¬ 2 ≤ (l.length : Int) by omega)]
        simpa using hj
      · simp only [if_neg h1, if_neg h2, if_neg h3]
        rw [decide_eq_true (show 1 ≤ a by omega), decide_eq_true (show a ≤ 64 by omega), decide_eq_true (show 2 ≤ (l.length : Int) by omega)]
        by_cases h4 : (l.length : Int) > 4000
        · rw [decide_eq_true h4, decide_eq_false (show ¬ (l.length : Int) ≤ 4000 by omega)]
          simpa using hj
        · rw [decide_eq_false h4, decide_eq_true (show (l.length : Int) ≤ 4000 by omega)]
          have key : ∀ (d i : Nat), i + d = l.length → Ev (fun k => caesuraref19_GoodNet.l0 k (i : Int) a l) (!(l.drop i).any (BadEdges a l.length)) := by
            intro d
            induction d with
            | zero =>
              intro i hi
              rw [List.drop_of_length_le (by omega)]
              refine Ev.step (f := fun _ => some true) (fun k => ?_) (Ev.now _)
              simp only [caesuraref19_GoodNet.l0]
              rw [if_neg (by omega)]
            | succ d ih =>
              intro i hi
              have hil : i < l.length := by omega
              rw [drop_cons_getD _ [] i hil, List.any_cons]
              refine Ev.step (f := fun k => caesuraref19_GoodNet.l1 k (i : Int) ((0 : Nat) : Int) a l) (fun k => ?_) ?_
              · simp only [caesuraref19_GoodNet.l0]
                rw [if_pos (by omega)]
                rfl
              · have h := ev_refGoodNet_l1 a l (by omega) (by omega) (by omega) i hil (small_len hr hil) _ (ih (i + 1) (by omega)) _ 0 (Nat.zero_add _)
                have e : (!(BadEdges a l.length (l.getD i []) || (l.drop (i + 1)).any (BadEdges a l.length))) = (if ((l.getD i []).drop 0).any (BadEdge a l.length) then false else !(l.drop (i + 1)).any (BadEdges a l.length)) := by
                  rw [List.drop_zero]
                  unfold BadEdges
                  cases (l.getD i []).any (BadEdge a l.length) <;> simp
                rw [e]
                exact h
          refine Ev.step (f := fun k => caesuraref19_GoodNet.l0 k 0 a l) (fun k => ?_) (by simpa using key l.length 0 (by omega))
          simp only [caesuraref19_GoodNet.j0]
          rw [if_neg (by decide)]

end Go.Proofs.Ytelkjbacdpmnfaa.A
