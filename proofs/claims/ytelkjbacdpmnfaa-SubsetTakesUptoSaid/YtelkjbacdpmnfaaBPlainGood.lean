/- Contracts. -/
import Derived.Test.YtelkjbacdpmnfaaB0
import Derived.Test.YtelkjbacdpmnfaaBCaesuraref19Good
import Derived.Test.YtelkjbacdpmnfaaBThompsonGood


namespace Go.Proofs.Ytelkjbacdpmnfaa.A
open Go.RowKit Go.W_.PrintWords Go.W_.PrintLast Go.W_.PrintMore
attribute [local go_sem] max2_int min2_int max_two min_two max_three min_three max_four min_four
set_option linter.unusedVariables false
set_option linter.unusedSimpArgs false

theorem wadd {x y : Int} (h0 : -4611686018427387904 ≤ x + y) (h : x + y < 4611686018427387904) : wrap64 (x + y) = x + y := by unfold wrap64; omega
theorem wself {x : Int} (h0 : -4611686018427387904 ≤ x) (h : x < 4611686018427387904) : wrap64 x = x := by unfold wrap64; omega
theorem rd5_nat (l : List (List Int)) (i : Nat) : rd_L5 l (i : Int) = l.getD i [] := by unfold rd_L5; rw [Int.toNat_natCast]
theorem rd2_nat (l : List (List S82)) (i : Nat) : rd_L2 l (i : Int) = l.getD i [] := by unfold rd_L2; rw [Int.toNat_natCast]
theorem rd_nat (l : List Int) (i : Nat) : rd l (i : Int) = l.getD i 0 := by unfold rd; rw [Int.toNat_natCast]
theorem rdb_nat (l : List Bool) (i : Nat) : rdOf false l (i : Int) = l.getD i false := by unfold rdOf; rw [Int.toNat_natCast]
theorem drop_cons_getD {α : Type} (l : List α) (d : α) (i : Nat) (h : i < l.length) : l.drop i = l.getD i d :: l.drop (i + 1) := by
 rw [List.drop_eq_getElem_cons h]
 simp [List.getD_eq_getElem?_getD, List.getElem?_eq_getElem h]
theorem nat_succ_cast (i : Nat) : ((i : Int) + 1) = ((i + 1 : Nat) : Int) := by omega

theorem ev_refGood_l1 (a : Int) (nx : List (List Int)) (ac : List Bool) (hn : nx.length ≤ 1000) (ha : a ≤ 64) (i : Nat) (hi : i < nx.length) (hl : ((nx.getD i []).length : Int) = a) (R : Bool)
  (hR : Ev (fun k => cr19_Good.l0 k ((i + 1 : Nat) : Int) a nx ac) R) :
  ∀ (d c : Nat), c + d = (nx.getD i []).length → Ev (fun k => cr19_Good.l1 k (i : Int) (c : Int) a nx ac) (if ((nx.getD i []).drop c).any (OutOf nx.length) then false else R) := by
 intro d
 induction d with
 | zero =>
  intro c hc
  rw [List.drop_of_length_le (by omega)]
  refine Ev.step (f := fun k => cr19_Good.l0 k ((i + 1 : Nat) : Int) a nx ac) (fun k => ?_) (by simpa using hR)
  simp only [cr19_Good.l1]
  rw [if_neg (by omega), wadd (by omega) (by omega), nat_succ_cast]
 | succ d ih =>
  intro c hc
  have hcl : c < (nx.getD i []).length := by omega
  rw [drop_cons_getD _ 0 c hcl, List.any_cons]
  by_cases h1 : (nx.getD i []).getD c 0 < 0
  ·refine Ev.step (f := fun _ => some false) (fun k => ?_) ?_
   ·simp only [cr19_Good.l1, rd5_nat, rd_nat]
    rw [if_pos (by omega), if_pos (by omega), if_pos (by omega), if_pos (by omega), if_pos (by omega), if_pos h1]
   ·have hb : OutOf (nx.length : Int) ((nx.getD i []).getD c 0) = true := by unfold OutOf; rw [decide_eq_true h1]; rfl
    rw [hb, Bool.true_or, if_pos rfl]
    exact Ev.now _
  ·by_cases h2 : (nx.getD i []).getD c 0 ≥ (nx.length : Int)
   ·refine Ev.step (f := fun _ => some false) (fun k => ?_) ?_
    ·simp only [cr19_Good.l1, rd5_nat, rd_nat]
     rw [if_pos (by omega), if_pos (by omega), if_pos (by omega), if_pos (by omega), if_pos (by omega), if_neg h1, if_pos h2]
    ·have hb : OutOf (nx.length : Int) ((nx.getD i []).getD c 0) = true := by unfold OutOf; rw [decide_eq_true (show (nx.length : Int) ≤ (nx.getD i []).getD c 0 from h2)]; simp
     rw [hb, Bool.true_or, if_pos rfl]
     exact Ev.now _
   ·have hb : OutOf (nx.length : Int) ((nx.getD i []).getD c 0) = false := by
     unfold OutOf
     rw [decide_eq_false h1, decide_eq_false h2]
     rfl
    rw [hb, Bool.false_or]
    refine Ev.step (f := fun k => cr19_Good.l1 k (i : Int) ((c + 1 : Nat) : Int) a nx ac) (fun k => ?_) (ih (c + 1) (by omega))
    simp only [cr19_Good.l1, rd5_nat, rd_nat]
    rw [if_pos (by omega), if_pos (by omega), if_pos (by omega), if_pos (by omega), if_pos (by omega), if_neg h1, if_neg h2, wadd (by omega) (by omega), nat_succ_cast]

theorem ev_refGood_l0 (a : Int) (nx : List (List Int)) (ac : List Bool) (hn : nx.length ≤ 1000) (ha : a ≤ 64) :
  ∀ (d i : Nat), i + d = nx.length → Ev (fun k => cr19_Good.l0 k (i : Int) a nx ac) (!(nx.drop i).any (BadRow a nx.length)) := by
 intro d
 induction d with
 | zero =>
  intro i hi
  rw [List.drop_of_length_le (by omega)]
  refine Ev.step (f := fun _ => some true) (fun k => ?_) (Ev.now _)
  simp only [cr19_Good.l0]
  rw [if_neg (by omega)]
 | succ d ih =>
  intro i hi
  have hil : i < nx.length := by omega
  rw [drop_cons_getD _ [] i hil, List.any_cons]
  by_cases h1 : ((nx.getD i []).length : Int) = a
  ·refine Ev.step (f := fun k => cr19_Good.l1 k (i : Int) ((0 : Nat) : Int) a nx ac) (fun k => ?_) ?_
   ·simp only [cr19_Good.l0, rd5_nat]
    rw [if_pos (by omega), if_pos (by omega), if_pos h1]
    rfl
   ·have h := ev_refGood_l1 a nx ac hn ha i hil h1 _ (ih (i + 1) (by omega)) _ 0 (Nat.zero_add _)
    have e : (!(BadRow a nx.length (nx.getD i []) || (nx.drop (i + 1)).any (BadRow a nx.length))) = (if ((nx.getD i []).drop 0).any (OutOf nx.length) then false else !(nx.drop (i + 1)).any (BadRow a nx.length)) := by
     unfold BadRow
     rw [List.drop_zero, decide_eq_true h1]
     cases (nx.getD i []).any (OutOf nx.length) <;> simp
    rw [e]
    exact h
  ·refine Ev.step (f := fun _ => some false) (fun k => ?_) ?_
   ·simp only [cr19_Good.l0, rd5_nat]
    rw [if_pos (by omega), if_pos (by omega), if_neg h1]
   ·have e : BadRow a nx.length (nx.getD i []) = true := by unfold BadRow; rw [decide_eq_false h1]; rfl
    rw [e]
    exact Ev.now _

/-- The reference's Good is the program's. -/
theorem ev_refGood (a : Int) (nx : List (List Int)) (ac : List Bool) : Ev (fun k => cr19_Good.f k a nx ac) (goodB a nx ac) := by
 have hj : Ev (fun k => cr19_Good.j0 k true a nx ac) false := Ev.step (f := fun _ => some false) (fun k => by simp only [cr19_Good.j0, if_true]) (Ev.now _)
 unfold cr19_Good.f goodB
 by_cases h1 : a < 1
 ·simp only [if_pos h1]
  rw [decide_eq_false (show ¬ 1 ≤ a by omega)]
  exact hj
 ·by_cases h2 : a > 64
  ·simp only [if_neg h1, if_pos h2]
   rw [decide_eq_false (show ¬ a ≤ 64 by omega)]
   simpa using hj
  ·by_cases h3 : (nx.length : Int) < 1
   ·simp only [if_neg h1, if_neg h2, if_pos h3]
    rw [decide_eq_false (show ¬ 1 ≤ (nx.length : Int) by omega)]
    simpa using hj
   ·by_cases h4 : (nx.length : Int) > 1000
    ·simp only [if_neg h1, if_neg h2, if_neg h3, if_pos h4]
     rw [decide_eq_false (show ¬ (nx.length : Int) ≤ 1000 by omega)]
     simpa using hj
    ·simp only [if_neg h1, if_neg h2, if_neg h3, if_neg h4]
     rw [decide_eq_true (show 1 ≤ a by omega), decide_eq_true (show a ≤ 64 by omega), decide_eq_true (show 1 ≤ (nx.length : Int) by omega), decide_eq_true (show (nx.length : Int) ≤ 1000 by omega)]
     by_cases h5 : (ac.length : Int) = nx.length
     ·rw [decide_eq_true h5]
      refine Ev.step (f := fun k => cr19_Good.l0 k ((0 : Nat) : Int) a nx ac) (fun k => ?_) ?_
      ·simp only [cr19_Good.j0]
       rw [if_neg (by simp [h5])]
       rfl
      ·have h := ev_refGood_l0 a nx ac (by omega) (by omega) nx.length 0 (by omega)
       simpa using h
     ·rw [decide_eq_false h5]
      have e : ((ac.length : Int) != nx.length) = true := by simpa using h5
      rw [e]
      simpa using hj


end Go.Proofs.Ytelkjbacdpmnfaa.A
