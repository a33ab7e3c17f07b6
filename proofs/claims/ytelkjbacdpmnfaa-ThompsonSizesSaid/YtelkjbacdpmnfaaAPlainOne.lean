/- By a program, out of the translation (wip/myprint.py). -/
import Derived.Test.YtelkjbacdpmnfaaA0
import Derived.Test.YtelkjbacdpmnfaaACaesurakeepLargeLists
import Derived.Test.YtelkjbacdpmnfaaACaesuralaw19Large
import Derived.Test.YtelkjbacdpmnfaaACaesuralaw19Wakes
import Derived.Test.YtelkjbacdpmnfaaACaesuraref19Good
import Derived.Test.YtelkjbacdpmnfaaAThompsonAgain
import Derived.Test.YtelkjbacdpmnfaaAThompsonEither
import Derived.Test.YtelkjbacdpmnfaaAThompsonGood
import Derived.Test.YtelkjbacdpmnfaaAThompsonJoin
import Derived.Test.YtelkjbacdpmnfaaAThompsonLaid
import Derived.Test.YtelkjbacdpmnfaaAThompsonMade
import Derived.Test.YtelkjbacdpmnfaaAThompsonNets
import Derived.Test.YtelkjbacdpmnfaaAThompsonNothing
import Derived.Test.YtelkjbacdpmnfaaAThompsonOf
namespace Go.Proofs.Ytelkjbacdpmnfaa.A
open Go.RowKit Go.Proofs.YtelkjbacdpmnfaaW.PrintWords Go.Proofs.YtelkjbacdpmnfaaW.PrintLast Go.Proofs.YtelkjbacdpmnfaaW.PrintMore
attribute [local go_sem] max2_int min2_int max_two min_two max_three min_three max_four min_four   -- for this text's walks alone
set_option linter.unusedVariables false
set_option linter.unusedSimpArgs false

theorem wadd {x y : Int} (h0 : -4611686018427387904 ≤ x + y) (h : x + y < 4611686018427387904) : wrap64 (x + y) = x + y := by unfold wrap64; omega
theorem wself {x : Int} (h0 : -4611686018427387904 ≤ x) (h : x < 4611686018427387904) : wrap64 x = x := by unfold wrap64; omega
theorem rd5_nat (l : List (List Int)) (i : Nat) : rd_L5 l (i : Int) = l.getD i [] := by unfold rd_L5; rw [Int.toNat_natCast]
theorem rd2_nat (l : List (List S82)) (i : Nat) : rd_L2 l (i : Int) = l.getD i [] := by unfold rd_L2; rw [Int.toNat_natCast]
theorem rd_nat (l : List Int) (i : Nat) : rd l (i : Int) = l.getD i 0 := by unfold rd; rw [Int.toNat_natCast]
theorem rdb_nat (l : List Bool) (i : Nat) : rdOf false l (i : Int) = l.getD i false := by unfold rdOf; rw [Int.toNat_natCast]
theorem drop_cons_getD {α : Type} (l : List α) (d : α) (i : Nat) (h : i < l.length) : l.drop i = l.getD i d :: l.drop (i + 1) := by
  rw [List.drop_eq_getElem_cons h]
  simp [List.getD_eq_getElem?_getD, List.getElem?_eq_getElem h]
theorem nat_succ_cast (i : Nat) : ((i : Int) + 1) = ((i + 1 : Nat) : Int) := by omega

/-! the reference's Good -/
theorem ev_refGood_l1 (a : Int) (nx : List (List Int)) (ac : List Bool) (hn : nx.length ≤ 1000) (ha : a ≤ 64) (i : Nat) (hi : i < nx.length) (hl : ((nx.getD i []).length : Int) = a) (R : Bool)
    (hR : Ev (fun k => caesuraref19_Good.l0 k ((i + 1 : Nat) : Int) a nx ac) R) :
    ∀ (d c : Nat), c + d = (nx.getD i []).length → Ev (fun k => caesuraref19_Good.l1 k (i : Int) (c : Int) a nx ac) (if ((nx.getD i []).drop c).any (OutOf nx.length) then false else R) := by
  intro d
  induction d with
  | zero =>
    intro c hc
    rw [List.drop_of_length_le (by omega)]
    refine Ev.step (f := fun k => caesuraref19_Good.l0 k ((i + 1 : Nat) : Int) a nx ac) (fun k => ?_) (by simpa using hR)
    simp only [caesuraref19_Good.l1]
    rw [if_neg (by omega), wadd (by omega) (by omega), nat_succ_cast]
  | succ d ih =>
    intro c hc
    have hcl : c < (nx.getD i []).length := by omega
    rw [drop_cons_getD _ 0 c hcl, List.any_cons]
    by_cases h1 : (nx.getD i []).getD c 0 < 0
    · refine Ev.step (f := fun _ => some false) (fun k => ?_) ?_
      · simp only [caesuraref19_Good.l1, rd5_nat, rd_nat]
        rw [if_pos (by omega), if_pos (by omega), if_pos (by omega), if_pos (by omega), if_pos (by omega), if_pos h1]
      · have hb : OutOf (nx.length : Int) ((nx.getD i []).getD c 0) = true := by unfold OutOf; rw [decide_eq_true h1]; rfl
        rw [hb, Bool.true_or, if_pos rfl]
        exact Ev.now _
    · by_cases h2 : (nx.getD i []).getD c 0 ≥ (nx.length : Int)
      · refine Ev.step (f := fun _ => some false) (fun k => ?_) ?_
        · simp only [caesuraref19_Good.l1, rd5_nat, rd_nat]
          rw [if_pos (by omega), if_pos (by omega), if_pos (by omega), if_pos (by omega), if_pos (by omega), if_neg h1, if_pos h2]
        · have hb : OutOf (nx.length : Int) ((nx.getD i []).getD c 0) = true := by unfold OutOf; rw [decide_eq_true (show (nx.length : Int) ≤ (nx.getD i []).getD c 0 from h2)]; simp
          rw [hb, Bool.true_or, if_pos rfl]
          exact Ev.now _
      · have hb : OutOf (nx.length : Int) ((nx.getD i []).getD c 0) = false := by
          unfold OutOf
          rw [decide_eq_false h1, decide_eq_false h2]
          rfl
        rw [hb, Bool.false_or]
        refine Ev.step (f := fun k => caesuraref19_Good.l1 k (i : Int) ((c + 1 : Nat) : Int) a nx ac) (fun k => ?_) (ih (c + 1) (by omega))
        simp only [caesuraref19_Good.l1, rd5_nat, rd_nat]
        rw [if_pos (by omega), if_pos (by omega), if_pos (by omega), if_pos (by omega), if_pos (by omega), if_neg h1, if_neg h2, wadd (by omega) (by omega), nat_succ_cast]

theorem ev_refGood_l0 (a : Int) (nx : List (List Int)) (ac : List Bool) (hn : nx.length ≤ 1000) (ha : a ≤ 64) :
    ∀ (d i : Nat), i + d = nx.length → Ev (fun k => caesuraref19_Good.l0 k (i : Int) a nx ac) (!(nx.drop i).any (BadRow a nx.length)) := by
  intro d
  induction d with
  | zero =>
    intro i hi
    rw [List.drop_of_length_le (by omega)]
    refine Ev.step (f := fun _ => some true) (fun k => ?_) (Ev.now _)
    simp only [caesuraref19_Good.l0]
    rw [if_neg (by omega)]
  | succ d ih =>
    intro i hi
    have hil : i < nx.length := by omega
    rw [drop_cons_getD _ [] i hil, List.any_cons]
    by_cases h1 : ((nx.getD i []).length : Int) = a
    · refine Ev.step (f := fun k => caesuraref19_Good.l1 k (i : Int) ((0 : Nat) : Int) a nx ac) (fun k => ?_) ?_
      · simp only [caesuraref19_Good.l0, rd5_nat]
        rw [if_pos (by omega), if_pos (by omega), if_pos h1]
        rfl
      · have h := ev_refGood_l1 a nx ac hn ha i hil h1 _ (ih (i + 1) (by omega)) _ 0 (Nat.zero_add _)
        have e : (!(BadRow a nx.length (nx.getD i []) || (nx.drop (i + 1)).any (BadRow a nx.length))) = (if ((nx.getD i []).drop 0).any (OutOf nx.length) then false else !(nx.drop (i + 1)).any (BadRow a nx.length)) := by
          unfold BadRow
          rw [List.drop_zero, decide_eq_true h1]
          cases (nx.getD i []).any (OutOf nx.length) <;> simp
        rw [e]
        exact h
    · refine Ev.step (f := fun _ => some false) (fun k => ?_) ?_
      · simp only [caesuraref19_Good.l0, rd5_nat]
        rw [if_pos (by omega), if_pos (by omega), if_neg h1]
      · have e : BadRow a nx.length (nx.getD i []) = true := by unfold BadRow; rw [decide_eq_false h1]; rfl
        rw [e]
        exact Ev.now _

/-- The reference's Good is the program's. -/
theorem ev_refGood (a : Int) (nx : List (List Int)) (ac : List Bool) : Ev (fun k => caesuraref19_Good.f k a nx ac) (goodB a nx ac) := by
  have hj : Ev (fun k => caesuraref19_Good.j0 k true a nx ac) false := Ev.step (f := fun _ => some false) (fun k => by simp only [caesuraref19_Good.j0, if_true]) (Ev.now _)
  unfold caesuraref19_Good.f goodB
  by_cases h1 : a < 1
  · simp only [if_pos h1]
    rw [decide_eq_false (show ¬ 1 ≤ a by omega)]
    exact hj
  · by_cases h2 : a > 64
    · simp only [if_neg h1, if_pos h2]
      rw [decide_eq_false (show ¬ a ≤ 64 by omega)]
      simpa using hj
    · by_cases h3 : (nx.length : Int) < 1
      · simp only [if_neg h1, if_neg h2, if_pos h3]
        rw [decide_eq_false (show ¬ 1 ≤ (nx.length : Int) by omega)]
        simpa using hj
      · by_cases h4 : (nx.length : Int) > 1000
        · simp only [if_neg h1, if_neg h2, if_neg h3, if_pos h4]
          rw [decide_eq_false (show ¬ (nx.length : Int) ≤ 1000 by omega)]
          simpa using hj
        · simp only [if_neg h1, if_neg h2, if_neg h3, if_neg h4]
          rw [decide_eq_true (show 1 ≤ a by omega), decide_eq_true (show a ≤ 64 by omega), decide_eq_true (show 1 ≤ (nx.length : Int) by omega), decide_eq_true (show (nx.length : Int) ≤ 1000 by omega)]
          by_cases h5 : (ac.length : Int) = nx.length
          · rw [decide_eq_true h5]
            refine Ev.step (f := fun k => caesuraref19_Good.l0 k ((0 : Nat) : Int) a nx ac) (fun k => ?_) ?_
            · simp only [caesuraref19_Good.j0]
              rw [if_neg (by simp [h5])]
              rfl
            · have h := ev_refGood_l0 a nx ac (by omega) (by omega) nx.length 0 (by omega)
              simpa using h
          · rw [decide_eq_false h5]
            have e : ((ac.length : Int) != nx.length) = true := by simpa using h5
            rw [e]
            simpa using hj

/-! LargeLists -/
/-- How much lists hold: one each, and their elements (at most so many each). -/
def lsum (most : Int) (l : List (List Int)) : Int := (l.map fun x => 1 + min (x.length : Int) most).sum
theorem lsum_nonneg (most : Int) (hm : 0 ≤ most) (l : List (List Int)) : (l.length : Int) ≤ lsum most l := by
  induction l with
  | nil => simp [lsum]
  | cons x l ih => simp only [lsum, List.map_cons, List.sum_cons, List.length_cons] at *; omega
theorem mn_min (x y : Int) : mn x y = min x y := by unfold mn; omega
theorem ev_LargeLists_l0 (most : Int) (hm : 0 ≤ most) (hM : most ≤ 1000000) (l : List (List Int)) :
    ∀ (d i : Nat) (s : Int), i + d = l.length → (i : Int) ≤ s → s ≤ 2 * most + 1 → Ev (fun k => caesurakeep_LargeLists.l0 k l most s (i : Int)) (decide (s + lsum most (l.drop i) > most)) := by
  intro d
  induction d with
  | zero =>
    intro i s hi hs hs2
    rw [List.drop_of_length_le (by omega)]
    refine Ev.step (f := fun _ => some (decide (s > most))) (fun k => ?_) (by simpa [lsum] using Ev.now _)
    simp only [caesurakeep_LargeLists.l0]
    rw [if_neg (by omega)]
  | succ d ih =>
    intro i s hi hs hs2
    have hil : i < l.length := by omega
    have hdr := drop_cons_getD l [] i hil
    have hnn := lsum_nonneg most hm (l.drop i)
    by_cases h1 : s ≤ most
    · refine Ev.step (f := fun k => caesurakeep_LargeLists.l0 k l most (s + (1 + min ((l.getD i []).length : Int) most)) ((i + 1 : Nat) : Int)) (fun k => ?_) ?_
      · simp only [caesurakeep_LargeLists.l0, rd5_nat, mn_min]
        rw [if_pos (by omega), if_pos h1, if_pos (by omega), wadd (x := 1) (by omega) (by omega), wadd (x := s) (by omega) (by omega), wadd (x := (i : Int)) (by omega) (by omega), nat_succ_cast]
      · have h := ih (i + 1) (s + (1 + min ((l.getD i []).length : Int) most)) (by omega) (by omega) (by omega)
        rw [hdr]
        have e : lsum most (l.getD i [] :: l.drop (i + 1)) = (1 + min ((l.getD i []).length : Int) most) + lsum most (l.drop (i + 1)) := by simp [lsum]
        have e2 : s + (1 + min ((l.getD i []).length : Int) most + lsum most (l.drop (i + 1))) = s + (1 + min ((l.getD i []).length : Int) most) + lsum most (l.drop (i + 1)) := by omega
        rw [e, e2]
        exact h
    · refine Ev.step (f := fun _ => some (decide (s > most))) (fun k => ?_) ?_
      · simp only [caesurakeep_LargeLists.l0]
        rw [if_pos (by omega), if_neg h1]
      · rw [decide_eq_true (show s > most by omega), decide_eq_true (show s + lsum most (l.drop i) > most by omega)]
        exact Ev.now _
theorem ev_LargeLists (most : Int) (hm : 0 ≤ most) (hM : most ≤ 1000000) (l : List (List Int)) : Ev (fun k => caesurakeep_LargeLists.f k l most) (decide (lsum most l > most)) := by
  have h := ev_LargeLists_l0 most hm hM l l.length 0 0 (by omega) (by omega) (by omega)
  simpa [caesurakeep_LargeLists.f] using h
/-- Is an automaton too large? -/
def largeB (nx : List (List Int)) (ac : List Bool) : Bool := decide (lsum 4000 nx > 4000) || decide ((ac.length : Int) > 3000)
theorem ev_Large (a : Int) (nx : List (List Int)) (ac : List Bool) : Ev (fun k => caesuralaw19_Large.f k a nx ac) (largeB nx ac) := by
  unfold caesuralaw19_Large.f largeB
  refine Ev.bind (ev_LargeLists 4000 (by omega) (by omega) nx) ?_
  cases decide (lsum 4000 nx > 4000)
  · simpa using Ev.now _
  · simpa using Ev.now _

/-! laid -/
def laidFrom (frm : Int) : Nat → List Int → List S82
  | _, [] => []
  | c, x :: l => ⟨c, frm + x⟩ :: laidFrom frm (c + 1) l
def laidRow (frm tt : Int) (l : List Int) (e : Bool) : List S82 := (if e then [noth tt] else []) ++ laidFrom frm 0 l
def laidL (nx : List (List Int)) (ac : List Bool) (frm tt : Int) : List (List S82) := List.zipWith (laidRow frm tt) nx ac
theorem laidFrom_length (frm : Int) (l : List Int) : ∀ c, (laidFrom frm c l).length = l.length := by
  induction l with
  | nil => intro c; rfl
  | cons x l ih => intro c; simp [laidFrom, ih]
theorem laidL_length (nx : List (List Int)) (ac : List Bool) (frm tt : Int) (h : ac.length = nx.length) : (laidL nx ac frm tt).length = nx.length := by
  simp [laidL, h]
theorem goodB_elim {a : Int} {nx : List (List Int)} {ac : List Bool} (h : goodB a nx ac = true) :
    1 ≤ a ∧ a ≤ 64 ∧ 1 ≤ nx.length ∧ nx.length ≤ 1000 ∧ ac.length = nx.length ∧ ∀ l ∈ nx, (l.length : Int) = a ∧ ∀ x ∈ l, 0 ≤ x ∧ x < nx.length := by
  unfold goodB at h
  simp only [Bool.and_eq_true, decide_eq_true_eq, Bool.not_eq_true', List.any_eq_false] at h
  obtain ⟨⟨⟨⟨⟨h1, h2⟩, h3⟩, h4⟩, h5⟩, h6⟩ := h
  refine ⟨h1, h2, by omega, by omega, by omega, fun l hl => ?_⟩
  have h7 := h6 l hl
  unfold BadRow at h7
  simp only [Bool.or_eq_true, Bool.not_eq_true', decide_eq_false_iff_not, not_or, Decidable.not_not, List.any_eq_true, not_exists, not_and] at h7
  refine ⟨h7.1, fun x hx => ?_⟩
  have h8 := h7.2 x hx
  unfold OutOf at h8
  simp only [Bool.or_eq_true, decide_eq_true_eq, not_or] at h8
  omega
theorem ev_laid_l1 (a : Int) (nx : List (List Int)) (ac : List Bool) (frm tt : Int) (hf : 0 ≤ frm) (hf2 : frm ≤ 1000000) (i : Nat) (hi : i < nx.length) (hn : nx.length ≤ 1000) (row : List Int) (hrow : ∀ x ∈ row, 0 ≤ x ∧ x < 1000) (hrl : row.length ≤ 64) (R : List (List S82)) (acc : List (List S82)) (hacc : acc.length ≤ 1000)
    (pre : List S82) (hR : Ev (fun k => thompson_laid.l0 k frm tt (acc ++ [pre ++ laidFrom frm 0 row]) nx (nx.length : Int) ((i + 1 : Nat) : Int) a nx ac) R) :
    ∀ (d c : Nat) (cur : List S82), c + d = row.length → cur ++ laidFrom frm c (row.drop c) = pre ++ laidFrom frm 0 row → cur.length ≤ c + 1 →
      Ev (fun k => thompson_laid.l1 k frm tt acc cur nx (nx.length : Int) (i : Int) row (row.length : Int) (c : Int) a nx ac) R := by
  intro d
  induction d with
  | zero =>
    intro c cur hc he hcl
    rw [List.drop_of_length_le (by omega)] at he
    simp only [laidFrom, List.append_nil] at he
    refine Ev.step (f := fun k => thompson_laid.l0 k frm tt (acc ++ [pre ++ laidFrom frm 0 row]) nx (nx.length : Int) ((i + 1 : Nat) : Int) a nx ac) (fun k => ?_) hR
    simp only [thompson_laid.l1]
    rw [if_neg (by omega), if_pos (by omega), wadd (by omega) (by omega), nat_succ_cast, he]
  | succ d ih =>
    intro c cur hc he hcl
    have hcr : c < row.length := by omega
    have hx := hrow (row.getD c 0) (by rw [List.getD_eq_getElem?_getD, List.getElem?_eq_getElem hcr]; simp)
    rw [drop_cons_getD row 0 c hcr] at he
    refine Ev.step (f := fun k => thompson_laid.l1 k frm tt acc (cur ++ [⟨(c : Int), frm + row.getD c 0⟩]) nx (nx.length : Int) (i : Int) row (row.length : Int) ((c + 1 : Nat) : Int) a nx ac) (fun k => ?_) (ih (c + 1) _ (by omega) (by rw [← he]; simp [laidFrom]) (by simp; omega))
    simp only [thompson_laid.l1, rd_nat]
    rw [if_pos (by omega), if_pos (by omega), if_pos (by omega), if_pos (by omega), wadd (x := frm) (by omega) (by omega), wadd (by omega) (by omega), nat_succ_cast]
theorem ev_laid_l0 (a : Int) (nx : List (List Int)) (ac : List Bool) (frm tt : Int) (hf : 0 ≤ frm) (hf2 : frm ≤ 1000000) (hg : goodB a nx ac = true) :
    ∀ (d i : Nat) (acc : List (List S82)), i + d = nx.length → acc.length = i → Ev (fun k => thompson_laid.l0 k frm tt acc nx (nx.length : Int) (i : Int) a nx ac) (acc ++ List.zipWith (laidRow frm tt) (nx.drop i) (ac.drop i)) := by
  obtain ⟨ha1, ha2, hn1, hn2, hal, hrows⟩ := goodB_elim hg
  intro d
  induction d with
  | zero =>
    intro i acc hi hacc
    rw [List.drop_of_length_le (by omega), List.zipWith_nil_left, List.append_nil]
    refine Ev.step (f := fun _ => some acc) (fun k => ?_) (Ev.now _)
    simp only [thompson_laid.l0]
    rw [if_neg (by omega)]
  | succ d ih =>
    intro i acc hi hacc
    have hil : i < nx.length := by omega
    have hia : i < ac.length := by omega
    have hr := hrows (nx.getD i []) (by rw [List.getD_eq_getElem?_getD, List.getElem?_eq_getElem hil]; simp)
    rw [drop_cons_getD nx [] i hil, drop_cons_getD ac false i hia, List.zipWith_cons_cons]
    have hnext := ih (i + 1) (acc ++ [laidRow frm tt (nx.getD i []) (ac.getD i false)]) (by omega) (by simp [hacc])
    rw [List.append_assoc] at hnext
    have hl1 : ∀ (pre : List S82), pre.length ≤ 1 → laidRow frm tt (nx.getD i []) (ac.getD i false) = pre ++ laidFrom frm 0 (nx.getD i []) →
        Ev (fun k => thompson_laid.j1 k frm tt acc (nx.getD i []) pre nx (nx.length : Int) (i : Int) a nx ac) (acc ++ ([laidRow frm tt (nx.getD i []) (ac.getD i false)] ++ List.zipWith (laidRow frm tt) (nx.drop (i + 1)) (ac.drop (i + 1)))) := by
      intro pre hp he
      refine Ev.step (f := fun k => thompson_laid.l1 k frm tt acc pre nx (nx.length : Int) (i : Int) (nx.getD i []) ((nx.getD i []).length : Int) ((0 : Nat) : Int) a nx ac) (fun k => by simp only [thompson_laid.j1]; rfl) ?_
      refine ev_laid_l1 a nx ac frm tt hf hf2 i hil hn2 (nx.getD i []) (fun x hx => by have := hr.2 x hx; omega) (by omega) _ acc (by omega) pre (by rw [← he]; exact hnext) _ 0 pre (Nat.zero_add _) rfl (by omega)
    cases hac : ac.getD i false with
    | true =>
      refine Ev.step (f := fun k => thompson_laid.j1 k frm tt acc (nx.getD i []) [noth tt] nx (nx.length : Int) (i : Int) a nx ac) (fun k => ?_) ?_
      · simp only [thompson_laid.l0, rd5_nat, rdb_nat, thompson_nothing.f, Option.bind_some]
        rw [if_pos (by omega), if_pos (by omega), if_pos (by omega), if_pos (by omega), if_pos hac, if_pos (by simp)]
        rfl
      · have h := hl1 [noth tt] (by simp) (by rw [hac]; rfl)
        rw [hac] at h
        exact h
    | false =>
      refine Ev.step (f := fun k => thompson_laid.j1 k frm tt acc (nx.getD i []) [] nx (nx.length : Int) (i : Int) a nx ac) (fun k => ?_) ?_
      · simp only [thompson_laid.l0, rd5_nat, rdb_nat, thompson_nothing.f, Option.bind_some]
        rw [if_pos (by omega), if_pos (by omega), if_pos (by omega), if_pos (by omega), if_neg (by rw [hac]; simp)]
      · have h := hl1 [] (by simp) (by rw [hac]; rfl)
        rw [hac] at h
        exact h
theorem ev_laid (a : Int) (nx : List (List Int)) (ac : List Bool) (frm tt : Int) (hf : 0 ≤ frm) (hf2 : frm ≤ 1000000) (hg : goodB a nx ac = true) : Ev (fun k => thompson_laid.f k a nx ac frm tt) (laidL nx ac frm tt) := by
  have h := ev_laid_l0 a nx ac frm tt hf hf2 hg nx.length 0 [] (by omega) rfl
  simpa [thompson_laid.f, laidL] using h
theorem goodB_laid {a : Int} {nx : List (List Int)} {ac : List Bool} (hg : goodB a nx ac = true) (frm tt : Int) : (laidL nx ac frm tt).length = nx.length := laidL_length _ _ _ _ (goodB_elim hg).2.2.2.2.1

/-! the nets -/
def netOf (nx : List (List Int)) (ac : List Bool) : List (List S82) := [[noth 2], []] ++ laidL nx ac 2 1
def netAgain (nx : List (List Int)) (ac : List Bool) : List (List S82) := [[noth 1, noth 2], []] ++ laidL nx ac 2 0
def netJoin (nx : List (List Int)) (ac : List Bool) (nx' : List (List Int)) (ac' : List Bool) : List (List S82) := [[noth 2], []] ++ (laidL nx ac 2 (2 + nx.length) ++ laidL nx' ac' (2 + nx.length) 1)
def netEither (nx : List (List Int)) (ac : List Bool) (nx' : List (List Int)) (ac' : List Bool) : List (List S82) := [[noth 2, noth (2 + nx.length)], []] ++ (laidL nx ac 2 1 ++ laidL nx' ac' (2 + nx.length) 1)
theorem ev_Of (a : Int) (nx : List (List Int)) (ac : List Bool) : Ev (fun k => thompson_Of.f k a nx ac) (if goodB a nx ac = true then (a, netOf nx ac, true) else (0, [], false)) := by
  unfold thompson_Of.f
  cases hg : goodB a nx ac with
  | false => simpa using Ev.now _
  | true =>
    simp only [if_true]
    refine Ev.bind (ev_laid a nx ac 2 1 (by omega) (by omega) hg) ?_
    have hl := goodB_laid hg 2 1
    have hn := goodB_len hg
    rw [if_pos (by omega), decide_eq_true (by omega)]
    exact Ev.now _
theorem ev_Again (a : Int) (nx : List (List Int)) (ac : List Bool) : Ev (fun k => thompson_Again.f k a nx ac) (if goodB a nx ac = true then (a, netAgain nx ac, true) else (0, [], false)) := by
  unfold thompson_Again.f
  cases hg : goodB a nx ac with
  | false => simpa using Ev.now _
  | true =>
    simp only [if_true]
    refine Ev.bind (ev_laid a nx ac 2 0 (by omega) (by omega) hg) ?_
    have hl := goodB_laid hg 2 0
    have hn := goodB_len hg
    rw [if_pos (by omega), decide_eq_true (by omega)]
    exact Ev.now _
theorem bothB_elim {k : Int} {nx : List (List Int)} {ac : List Bool} {k' : Int} {nx' : List (List Int)} {ac' : List Bool} (h : bothB k nx ac k' nx' ac' = true) : goodB k nx ac = true ∧ goodB k' nx' ac' = true ∧ k = k' := by
  unfold bothB at h
  simp only [Bool.and_eq_true, beq_iff_eq] at h
  exact ⟨h.1.1, h.1.2, h.2⟩
theorem ev_Join (a : Int) (nx : List (List Int)) (ac : List Bool) (a' : Int) (nx' : List (List Int)) (ac' : List Bool) : Ev (fun k => thompson_Join.f k a nx ac a' nx' ac') (if bothB a nx ac a' nx' ac' = true then (a, netJoin nx ac nx' ac', true) else (0, [], false)) := by
  unfold thompson_Join.f
  cases hb : bothB a nx ac a' nx' ac' with
  | false => simpa using Ev.now _
  | true =>
    obtain ⟨hg, hg', _⟩ := bothB_elim hb
    have hn := goodB_len hg
    have hn' := goodB_len hg'
    simp only [if_true]
    refine Ev.bind (ev_laid a nx ac 2 _ (by omega) (by omega) hg) ?_
    refine Ev.bind (ev_laid a' nx' ac' _ 1 (by omega) (by omega) hg') ?_
    have hl : (laidL nx ac 2 (2 + nx.length) ++ laidL nx' ac' (2 + nx.length) 1).length = nx.length + nx'.length := by rw [List.length_append, goodB_laid hg, goodB_laid hg']
    rw [if_pos (by omega), decide_eq_true (by omega)]
    exact Ev.now _
theorem ev_Either (a : Int) (nx : List (List Int)) (ac : List Bool) (a' : Int) (nx' : List (List Int)) (ac' : List Bool) : Ev (fun k => thompson_Either.f k a nx ac a' nx' ac') (if bothB a nx ac a' nx' ac' = true then (a, netEither nx ac nx' ac', true) else (0, [], false)) := by
  unfold thompson_Either.f
  cases hb : bothB a nx ac a' nx' ac' with
  | false => simpa using Ev.now _
  | true =>
    obtain ⟨hg, hg', _⟩ := bothB_elim hb
    have hn := goodB_len hg
    have hn' := goodB_len hg'
    simp only [if_true]
    refine Ev.bind (ev_laid a nx ac 2 1 (by omega) (by omega) hg) ?_
    refine Ev.bind (ev_laid a' nx' ac' _ 1 (by omega) (by omega) hg') ?_
    have hl : (laidL nx ac 2 1 ++ laidL nx' ac' (2 + nx.length) 1).length = nx.length + nx'.length := by rw [List.length_append, goodB_laid hg, goodB_laid hg']
    rw [if_pos (by omega), decide_eq_true (by omega)]
    exact Ev.now _
theorem ev_wakes19 : Ev (fun k => caesuralaw19_wakes.f k) true := Ev.of (fun k => caesuralaw19_wakes.mono k) (k := 60) (by decide +kernel)

end Go.Proofs.Ytelkjbacdpmnfaa.A
