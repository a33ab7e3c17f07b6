/- By a program, out of the translation (wip/myprint.py). -/
import Derived.Test.YtelkjbacdpmnfaaA0
import Derived.Test.YtelkjbacdpmnfaaANumberOf
import Derived.Test.YtelkjbacdpmnfaaAPlainAut
import Derived.Test.YtelkjbacdpmnfaaAPlainBase
import Derived.Test.YtelkjbacdpmnfaaAPlainGood
import Derived.Test.YtelkjbacdpmnfaaAThompsonGood
namespace Go.Proofs.Ytelkjbacdpmnfaa.A
open Go.RowKit Go.Proofs.YtelkjbacdpmnfaaW.PrintWords Go.Proofs.YtelkjbacdpmnfaaW.PrintLast Go.Proofs.YtelkjbacdpmnfaaW.PrintMore
attribute [local go_sem] max2_int min2_int max_two min_two max_three min_three max_four min_four   -- for this text's walks alone
set_option linter.unusedVariables false
set_option linter.unusedSimpArgs false

/-! automata numbered as they are met: the program's and the reference's -/
section
variable {n L : Nat} {st : Nat → Nat → Nat} {l : List Nat} {i c : Nat}
/-- Of each state its number, d for one that is not met. -/
def marks (d : Int) (n : Nat) (l : List Nat) : List Int := (List.range n).map fun s => if s ∈ l then ((l.idxOf s : Nat) : Int) else d
def insTo (n : Nat) (l : List Nat) : List Bool := (List.range n).map fun s => decide (s ∈ l)
theorem marks_length (d : Int) (n : Nat) (l : List Nat) : (marks d n l).length = n := by simp [marks]
theorem insTo_length (n : Nat) (l : List Nat) : (insTo n l).length = n := by simp [insTo]
theorem marks_get {d : Int} {s : Nat} (hs : s < n) : (marks d n l).getD s 0 = if s ∈ l then ((l.idxOf s : Nat) : Int) else d := by
  rw [List.getD_eq_getElem?_getD]
  unfold marks
  rw [List.getElem?_map, List.getElem?_range hs]
  rfl
theorem insTo_get {s : Nat} (hs : s < n) : (insTo n l).getD s false = decide (s ∈ l) := by
  rw [List.getD_eq_getElem?_getD]
  unfold insTo
  rw [List.getElem?_map, List.getElem?_range hs]
  rfl
theorem idxOf_snoc {s : Nat} (hm : s ∉ l) : (l ++ [s]).idxOf s = l.length := by
  rw [List.idxOf_append, if_neg hm]
  simp
theorem idxOf_more {s : Nat} (hm : s ∈ l) (y : Nat) : (l ++ [y]).idxOf s = l.idxOf s := by rw [List.idxOf_append, if_pos hm]
theorem marks_set {d : Int} {s : Nat} (hs : s < n) (hm : s ∉ l) : (marks d n l).set s (l.length : Int) = marks d n (l ++ [s]) := by
  apply List.ext_getElem (by simp [marks])
  intro j h1 h2
  rw [List.getElem_set]
  have hj : j < n := by simpa [marks] using h2
  simp only [marks, List.getElem_map, List.getElem_range]
  by_cases he : s = j
  · subst he
    rw [if_pos rfl, if_pos (by simp), idxOf_snoc hm]
  · rw [if_neg he]
    by_cases hjl : j ∈ l
    · rw [if_pos hjl, if_pos (by simp [hjl]), idxOf_more hjl]
    · rw [if_neg hjl, if_neg (by simp [hjl, Ne.symm he])]
theorem insTo_set {s : Nat} : (insTo n l).set s true = insTo n (l ++ [s]) := by
  apply List.ext_getElem (by simp [insTo])
  intro j h1 h2
  rw [List.getElem_set]
  simp only [insTo, List.getElem_map, List.getElem_range]
  by_cases he : s = j
  · subst he
    rw [if_pos rfl]
    simp
  · rw [if_neg he]
    simp [Ne.symm he]
def rowTo (st : Nat → Nat → Nat) (l : List Nat) (s : Nat) (c : Nat) : List Int := (List.range c).map fun c => ((l.idxOf (st s c) : Nat) : Int)
def numTo (L : Nat) (st : Nat → Nat → Nat) (l : List Nat) (i : Nat) : List (List Int) := (l.take i).map fun s => rowTo st l s L
def endsAt (ac : List Bool) (l : List Nat) (i : Nat) : List Bool := (l.take i).map (acL ac)
theorem rowTo_length (s : Nat) : (rowTo st l s c).length = c := by simp [rowTo]
theorem rowTo_snoc (s : Nat) : rowTo st l s (c + 1) = rowTo st l s c ++ [((l.idxOf (st s c) : Nat) : Int)] := by
  unfold rowTo
  rw [List.range_succ, List.map_append]
  rfl
theorem rowTo_grow {s y : Nat} (h : ∀ c', c' < c → st s c' ∈ l) : rowTo st (l ++ [y]) s c = rowTo st l s c := by
  unfold rowTo
  apply List.map_congr_left
  intro c' hc
  rw [idxOf_more (h c' (List.mem_range.1 hc))]
variable {s0 : Nat} {ok : Nat → Prop}
theorem numTo_grow (h : Wbfs L st s0 ok l i c) (y : Nat) : numTo L st (l ++ [y]) i = numTo L st l i := by
  unfold numTo
  rw [List.take_append_of_le_length h.at_]
  apply List.map_congr_left
  intro s hs
  obtain ⟨j, hj, e⟩ := List.mem_iff_getElem.1 hs
  rw [List.length_take] at hj
  rw [List.getElem_take] at e
  exact rowTo_grow fun c' hc' => h.done j s (by omega) (List.getElem?_eq_some_iff.2 ⟨by omega, e⟩) c' hc'
theorem endsAt_grow (ac : List Bool) (h : i ≤ l.length) (y : Nat) : endsAt ac (l ++ [y]) i = endsAt ac l i := by
  unfold endsAt
  rw [List.take_append_of_le_length h]
theorem take_turn (hi : i < l.length) : l.take (i + 1) = l.take i ++ [l.getD i 0] := by
  rw [List.take_succ_eq_append_getElem hi, List.getD_eq_getElem?_getD, List.getElem?_eq_getElem hi]
  rfl
theorem numTo_turn (hi : i < l.length) : numTo L st l (i + 1) = numTo L st l i ++ [rowTo st l (l.getD i 0) L] := by
  unfold numTo
  rw [take_turn hi, List.map_append]
  rfl
theorem endsAt_turn (ac : List Bool) (hi : i < l.length) : endsAt ac l (i + 1) = endsAt ac l i ++ [ac.getD (l.getD i 0) false] := by
  unfold endsAt
  rw [take_turn hi, List.map_append]
  rfl
theorem numTo_length : (numTo L st l i).length ≤ l.length := by simp [numTo]; omega
theorem endsAt_length (ac : List Bool) : (endsAt ac l i).length ≤ l.length := by simp [endsAt]; omega
theorem MetIs.cur (h : MetIs L st s0 ok l i c) (hi : i < l.length) : l[i]? = some (l.getD i 0) ∧ l.getD i 0 ∈ l ∧ ok (l.getD i 0) := by
  have e : l[i]? = some (l.getD i 0) := by
    rw [List.getD_eq_getElem?_getD, List.getElem?_eq_getElem hi]
    rfl
  exact ⟨e, List.mem_of_getElem? e, h.bfs.good _ (List.mem_of_getElem? e)⟩
theorem MetIs.most (h : MetIs L st s0 (fun s => s < n) l i c) : l.length ≤ n := h.bfs.most (code := fun s => s) (fun _ h => h) (fun _ _ _ _ e => e)
end
section
variable {a : Int} {nx : List (List Int)} {ac : List Bool}
/-- What the automaton meets. -/
abbrev MetIn (a : Int) (nx : List (List Int)) (l : List Nat) (i c : Nat) : Prop := MetIs a.toNat (stL nx) 0 (fun s => s < nx.length) l i c
abbrev MetOf (a : Int) (nx : List (List Int)) (l : List Nat) : Prop := MetAll a.toNat (stL nx) 0 (fun s => s < nx.length) l
def numdOf (a : Int) (nx : List (List Int)) (ac : List Bool) (l : List Nat) : Int × List (List Int) × List Bool × Bool := (a, numNext a.toNat (stL nx) l, l.map (acL ac), true)
theorem num_end {l : List Nat} {i : Nat} (hB : MetIn a nx l i 0) (hi : ¬ i < l.length) : MetOf a nx l ∧ numdOf a nx ac l = (a, numTo a.toNat (stL nx) l i, endsAt ac l i, true) := by
  have e : i = l.length := by have := hB.bfs.at_; omega
  subst e
  refine ⟨hB, ?_⟩
  unfold numdOf numTo endsAt
  rw [List.take_length]
  rfl
theorem ev_numdOf_l2 (h : Aut a nx ac) (i : Nat)
    (hnext : ∀ (l : List Nat), i < l.length → MetIn a nx l (i + 1) 0 → ∃ m, Ev (fun k => number_Of.l1 k (marks (-1) nx.length l) (castL l) ((i + 1 : Nat) : Int) a nx ac a (numTo a.toNat (stL nx) l (i + 1)) (endsAt ac l (i + 1))) (numdOf a nx ac m) ∧ MetOf a nx m) :
    ∀ (d c : Nat) (l : List Nat), c + d = a.toNat → i < l.length → MetIn a nx l i c → ∃ m, Ev (fun k => number_Of.l2 k (marks (-1) nx.length l) (castL l) (i : Int) (rowTo (stL nx) l (l.getD i 0) c) (nx.getD (l.getD i 0) []) ((nx.getD (l.getD i 0) []).length : Int) (c : Int) a nx ac a (numTo a.toNat (stL nx) l i) (endsAt ac l i)) (numdOf a nx ac m) ∧ MetOf a nx m := by
  intro d
  induction d with
  | zero =>
    intro c l hc hi hB
    obtain rfl : c = a.toNat := by omega
    obtain ⟨m, hm, hI⟩ := hnext l hi (hB.turn hi)
    rw [numTo_turn hi, endsAt_turn ac hi] at hm
    refine ⟨m, Ev.step (fun k => ?_) hm, hI⟩
    obtain ⟨hx, hmem, hlow⟩ := hB.cur hi
    have hl := h.len hlow
    have hmo := hB.most
    have hn2 := h.n2
    have he := h.ends
    have hz : (castL l).length = l.length := castL_length l
    have h1 := numTo_length (L := a.toNat) (st := stL nx) (l := l) (i := i)
    have h2 := endsAt_length (l := l) (i := i) ac
    simp only [number_Of.l2, rd_nat, castL_getD hi, hz, rdb_nat]
    rw [if_neg (by omega), if_pos (by omega), if_pos (by omega), if_pos (by omega), if_pos (by omega), if_pos (by omega), if_pos (by omega), wadd (by omega) (by omega), nat_succ_cast]
  | succ d ih =>
    intro c l hc hi hB
    have hcl : c < a.toNat := by omega
    obtain ⟨hx, hmem, hlow⟩ := hB.cur hi
    have hl := h.len hlow
    have hst := h.st hlow hcl
    have hsh := h.shuts _ c hlow hcl
    have hmo := hB.most
    have hn2 := h.n2
    have ha1 := h.a1
    have ha2 := h.a2
    have hz : (castL l).length = l.length := castL_length l
    have hr := rowTo_length (st := stL nx) (l := l) (c := c) (l.getD i 0)
    have hk := marks_length (-1) nx.length l
    by_cases hm : stL nx (l.getD i 0) c ∈ l
    · obtain ⟨m, hm2, hI⟩ := ih (c + 1) l (by omega) hi (hB.old hx hm)
      rw [rowTo_snoc] at hm2
      refine ⟨m, Ev.step (fun k => ?_) hm2, hI⟩
      simp only [number_Of.l2, rd_nat, hst, marks_get hsh, if_pos hm]
      rw [if_pos (by omega), if_pos (by omega), if_pos (by omega), if_pos (by omega), if_pos (by rw [hk]; omega), if_neg (by omega), if_pos (by omega), wadd (by omega) (by omega), nat_succ_cast]
    · obtain ⟨m, hm2, hI⟩ := ih (c + 1) (l ++ [stL nx (l.getD i 0) c]) (by omega) (by simp; omega) (hB.new hx hcl hsh hm)
      rw [getD_snoc hi, rowTo_snoc, rowTo_grow (hB.bfs.now _ hx), numTo_grow hB.bfs, endsAt_grow ac hB.bfs.at_, castL_snoc, idxOf_snoc hm] at hm2
      refine ⟨m, Ev.step (fun k => ?_) hm2, hI⟩
      simp only [number_Of.l2, rd_nat, hst, marks_get hsh, if_neg hm, Option.bind_some, Int.toNat_natCast, hz, marks_set hsh hm]
      rw [if_pos (by omega), if_pos (by omega), if_pos (by omega), if_pos (by omega), if_pos (by rw [hk]; omega), if_pos (by omega), if_pos (by omega), if_pos (by omega), if_pos (by simp), idxOf_snoc hm, wadd (by omega) (by omega), nat_succ_cast]
theorem ev_numdOf_l1 (h : Aut a nx ac) :
    ∀ (m i : Nat) (l : List Nat), nx.length - i = m → MetIn a nx l i 0 → ∃ m, Ev (fun k => number_Of.l1 k (marks (-1) nx.length l) (castL l) (i : Int) a nx ac a (numTo a.toNat (stL nx) l i) (endsAt ac l i)) (numdOf a nx ac m) ∧ MetOf a nx m := by
  intro m
  induction m using Nat.strongRecOn with
  | _ m ih =>
    intro i l hm hB
    have hmo := hB.most
    have hz : (castL l).length = l.length := castL_length l
    by_cases hi : i < l.length
    · obtain ⟨hx, hmem, hlow⟩ := hB.cur hi
      obtain ⟨R, hR, hI⟩ := ev_numdOf_l2 h i (fun l hi hB => ih (nx.length - (i + 1)) (by have := hB.most; omega) (i + 1) l rfl hB) a.toNat 0 l (by omega) hi hB
      refine ⟨R, Ev.step (fun k => ?_) hR, hI⟩
      simp only [number_Of.l1, hz, rd_nat, castL_getD hi, rd5_nat]
      rw [if_pos (by omega), if_pos (by omega), if_pos (by omega), if_pos (by omega)]
      rfl
    · obtain ⟨h1, h2⟩ := num_end (ac := ac) hB hi
      refine ⟨l, ?_, h1⟩
      rw [h2]
      refine Ev.step (f := fun _ => some (a, numTo a.toNat (stL nx) l i, endsAt ac l i, true)) (fun k => ?_) (Ev.now _)
      simp only [number_Of.l1, hz]
      rw [if_neg (by omega)]
theorem ev_numdOf_l0 (h : Aut a nx ac) : ∀ (d i : Nat), i + d = nx.length → ∃ m, Ev (fun k => number_Of.l0 k (List.replicate i (-1) ++ List.replicate d 0) (nx.length : Int) (i : Int) a nx ac) (numdOf a nx ac m) ∧ MetOf a nx m := by
  have h1 := h.n1
  have h2 := h.n2
  intro d
  induction d with
  | zero =>
    intro i hi
    obtain rfl : i = nx.length := by omega
    obtain ⟨m, hm, hI⟩ := ev_numdOf_l1 h nx.length 0 [0] (by omega) (MetIs.start (show 0 < nx.length by omega))
    refine ⟨m, Ev.step (fun k => ?_) hm, hI⟩
    have e : (List.replicate nx.length (-1 : Int)).set 0 0 = marks (-1) nx.length [0] := by
      have h3 := marks_set (d := -1) (n := nx.length) (l := []) (s := 0) (by omega) (by simp)
      have h4 : marks (-1) nx.length [] = List.replicate nx.length (-1) := by
        apply List.ext_getElem (by simp [marks])
        intro j h5 h6
        simp [marks]
      rw [h4] at h3
      exact h3
    simp only [number_Of.l0, List.append_nil, List.replicate_zero, List.length_replicate]
    rw [if_neg (by omega), if_pos (by omega)]
    rw [show (0 : Int).toNat = 0 from rfl, e]
    rfl
  | succ d ih =>
    intro i hi
    obtain ⟨m, hm, hI⟩ := ih (i + 1) (by omega)
    refine ⟨m, Ev.step (fun k => ?_) hm, hI⟩
    have e : (List.replicate i (-1 : Int) ++ List.replicate (d + 1) 0).set i (-1) = List.replicate (i + 1) (-1) ++ List.replicate d 0 := by
      rw [List.set_append_right _ _ (by simp), List.length_replicate, Nat.sub_self, List.replicate_succ, List.set_cons_zero, List.replicate_succ', List.append_assoc]
      rfl
    simp only [number_Of.l0, List.length_append, List.length_replicate, Int.toNat_natCast, e]
    rw [if_pos (by omega), if_pos (by omega), if_pos (by omega), wadd (by omega) (by omega), nat_succ_cast]
theorem ev_numdOf (hg : goodB a nx ac = true) : ∃ l, Ev (fun k => number_Of.f k a nx ac) (numdOf a nx ac l) ∧ MetOf a nx l := by
  have h := Aut.of hg
  have h1 := h.n1
  have h2 := h.n2
  obtain ⟨m, hm, hI⟩ := ev_numdOf_l0 h nx.length 0 (by omega)
  refine ⟨m, Ev.congr (fun k => ?_) hm, hI⟩
  unfold number_Of.f thompson_Good.f
  simp only [Option.bind_some, hg, Int.toNat_natCast, List.length_replicate, List.replicate_zero, List.nil_append]
  rw [if_pos trivial, if_pos (by omega), if_pos (by omega)]
  rfl
end

end Go.Proofs.Ytelkjbacdpmnfaa.A
