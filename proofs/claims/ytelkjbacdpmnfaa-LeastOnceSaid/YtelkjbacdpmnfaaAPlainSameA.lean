/- By a program, out of the translation (wip/myprint.py). -/
import Derived.Test.YtelkjbacdpmnfaaA0
import Derived.Test.YtelkjbacdpmnfaaACaesurakeepAutomaton
import Derived.Test.YtelkjbacdpmnfaaACaesurakeepBools
import Derived.Test.YtelkjbacdpmnfaaACaesurakeepInts
import Derived.Test.YtelkjbacdpmnfaaACaesurakeepLists
import Derived.Test.YtelkjbacdpmnfaaACaesurakeepOwnAutomaton
import Derived.Test.YtelkjbacdpmnfaaACaesurakeepOwnLists
import Derived.Test.YtelkjbacdpmnfaaAPlainGood
import Derived.Test.YtelkjbacdpmnfaaAPlainRows
namespace Go.Proofs.Ytelkjbacdpmnfaa.A
open Go.RowKit Go.Proofs.YtelkjbacdpmnfaaW.PrintWords Go.Proofs.YtelkjbacdpmnfaaW.PrintLast Go.Proofs.YtelkjbacdpmnfaaW.PrintMore
attribute [local go_sem] max2_int min2_int max_two min_two max_three min_three max_four min_four   -- for this text's walks alone
set_option linter.unusedVariables false
set_option linter.unusedSimpArgs false

/-! a copy of lists is the lists -/
theorem ev_OwnLists (l : List (List Int)) (hn : l.length ≤ 1000000) (hr : ∀ x ∈ l, x.length ≤ 1000000) : Ev (fun k => caesurakeep_OwnLists.f k l) l := by
  have key : ∀ (d i : Nat), i + d = l.length → Ev (fun k => caesurakeep_OwnLists.l0 k l (l.take i) (i : Int)) l := by
    intro d
    induction d with
    | zero =>
      intro i hi
      refine Ev.step (f := fun _ => some (l.take i)) (fun k => ?_) ?_
      · simp only [caesurakeep_OwnLists.l0]
        rw [if_neg (by omega)]
      · rw [List.take_of_length_le (by omega)]
        exact Ev.now _
    | succ d ih =>
      intro i hi
      have hil : i < l.length := by omega
      have hs := small_len (d := []) hr hil
      have ht : (l.take i).length ≤ 1000000 := by rw [List.length_take]; omega
      refine Ev.step (f := fun k => caesurakeep_OwnLists.l0 k l (l.take (i + 1)) ((i + 1 : Nat) : Int)) (fun k => ?_) (ih (i + 1) (by omega))
      simp only [caesurakeep_OwnLists.l0, rd5_nat, Option.bind_some, List.length_nil, List.nil_append]
      rw [if_pos (by omega), if_pos (by omega), if_pos (by omega), if_pos (by omega), wadd (by omega) (by omega), nat_succ_cast, ← take_getD_snoc l [] i hil]
  have h := key l.length 0 (by omega)
  simpa [caesurakeep_OwnLists.f] using h
theorem ev_OwnAutomaton (a : Int) (nx : List (List Int)) (ac : List Bool) (hn : nx.length ≤ 1000000) (hr : ∀ x ∈ nx, x.length ≤ 1000000) (ha : ac.length ≤ 1000000) : Ev (fun k => caesurakeep_OwnAutomaton.f k a nx ac) (a, nx, ac) := by
  unfold caesurakeep_OwnAutomaton.f
  refine Ev.bind (ev_OwnLists nx hn hr) ?_
  simp only [Option.bind_some, List.length_nil, List.nil_append]
  refine Ev.congr (f := fun _ => some (a, nx, ac)) (fun k => ?_) (Ev.now _)
  rw [if_pos (by omega)]

/-! what is alike is told alike -/
theorem ev_Ints_same (l : List Int) (hn : l.length ≤ 1000000) : Ev (fun k => caesurakeep_Ints.f k l l) true := by
  have key : ∀ (d i : Nat), i + d = l.length → Ev (fun k => caesurakeep_Ints.l0 k l l (i : Int)) true := by
    intro d
    induction d with
    | zero =>
      intro i hi
      refine Ev.step (f := fun _ => some true) (fun k => ?_) (Ev.now _)
      simp only [caesurakeep_Ints.l0]
      rw [if_neg (by omega)]
    | succ d ih =>
      intro i hi
      refine Ev.step (f := fun k => caesurakeep_Ints.l0 k l l ((i + 1 : Nat) : Int)) (fun k => ?_) (ih (i + 1) (by omega))
      simp only [caesurakeep_Ints.l0, rd_nat]
      rw [if_pos (by omega), if_pos (by omega), if_pos (by omega), if_pos trivial, wadd (by omega) (by omega), nat_succ_cast]
  have h := key l.length 0 (by omega)
  simpa [caesurakeep_Ints.f] using h
theorem ev_Bools_same (l : List Bool) (hn : l.length ≤ 1000000) : Ev (fun k => caesurakeep_Bools.f k l l) true := by
  have key : ∀ (d i : Nat), i + d = l.length → Ev (fun k => caesurakeep_Bools.l0 k l l (i : Int)) true := by
    intro d
    induction d with
    | zero =>
      intro i hi
      refine Ev.step (f := fun _ => some true) (fun k => ?_) (Ev.now _)
      simp only [caesurakeep_Bools.l0]
      rw [if_neg (by omega)]
    | succ d ih =>
      intro i hi
      refine Ev.step (f := fun k => caesurakeep_Bools.l0 k l l ((i + 1 : Nat) : Int)) (fun k => ?_) (ih (i + 1) (by omega))
      simp only [caesurakeep_Bools.l0, rdb_nat, bne_self_eq_false]
      rw [if_pos (by omega), if_pos (by omega), if_pos (by omega), if_neg (by decide), wadd (by omega) (by omega), nat_succ_cast]
  have h := key l.length 0 (by omega)
  simpa [caesurakeep_Bools.f] using h
theorem ev_Lists_same (l : List (List Int)) (hn : l.length ≤ 1000000) (hr : ∀ x ∈ l, x.length ≤ 1000000) : Ev (fun k => caesurakeep_Lists.f k l l) true := by
  have key : ∀ (d i : Nat), i + d = l.length → Ev (fun k => caesurakeep_Lists.l0 k l l (i : Int)) true := by
    intro d
    induction d with
    | zero =>
      intro i hi
      refine Ev.step (f := fun _ => some true) (fun k => ?_) (Ev.now _)
      simp only [caesurakeep_Lists.l0]
      rw [if_neg (by omega)]
    | succ d ih =>
      intro i hi
      have hil : i < l.length := by omega
      have hs := small_len (d := []) hr hil
      refine Ev.step (f := fun k => (caesurakeep_Ints.f k (l.getD i []) (l.getD i [])).bind fun t103 => if t103 = true then caesurakeep_Lists.l0 k l l ((i + 1 : Nat) : Int) else some false) (fun k => ?_) (Ev.bind (ev_Ints_same _ hs) ?_)
      · simp only [caesurakeep_Lists.l0, rd5_nat]
        rw [if_pos (by omega), if_pos (by omega), if_pos (by omega), wadd (by omega) (by omega), nat_succ_cast]
      · simpa using ih (i + 1) (by omega)
  have h := key l.length 0 (by omega)
  simpa [caesurakeep_Lists.f] using h
theorem ev_Automaton_same (a : Int) (nx : List (List Int)) (ac : List Bool) (hn : nx.length ≤ 1000000) (hr : ∀ x ∈ nx, x.length ≤ 1000000) (ha : ac.length ≤ 1000000) : Ev (fun k => caesurakeep_Automaton.f k a nx ac a nx ac) true := by
  unfold caesurakeep_Automaton.f
  simp only [if_true]
  refine Ev.bind (ev_Lists_same nx hn hr) ?_
  simp only [if_true]
  refine Ev.bind (ev_Bools_same ac ha) ?_
  exact Ev.now _

end Go.Proofs.Ytelkjbacdpmnfaa.A
