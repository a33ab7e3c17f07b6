/- By a program, out of the translation (wip/myprint.py). -/
import Derived.Test.YtelkjbacdpmnfaaA0
import Derived.Test.YtelkjbacdpmnfaaAPlainAut
import Derived.Test.YtelkjbacdpmnfaaAPlainBase
import Derived.Test.YtelkjbacdpmnfaaAPlainModel
import Derived.Test.YtelkjbacdpmnfaaAPlainNumber
import Derived.Test.YtelkjbacdpmnfaaAThompsonGood
namespace Go.Proofs.Ytelkjbacdpmnfaa.A
open Go.RowKit Go.Proofs.YtelkjbacdpmnfaaW.PrintWords Go.Proofs.YtelkjbacdpmnfaaW.PrintLast Go.Proofs.YtelkjbacdpmnfaaW.PrintMore
attribute [local go_sem] max2_int min2_int max_two min_two max_three min_three max_four min_four   -- for this text's walks alone
set_option linter.unusedVariables false
set_option linter.unusedSimpArgs false

/-! what is numbered as it is met; automata that take the same rows have one Canon -/
section
variable {a : Int} {nx : List (List Int)} {ac : List Bool} {l : List Nat}
theorem met_first (hm : MetOf a nx l) : l[0]? = some 0 := by
  have h := hm.bfs.first
  cases l with
  | nil => cases h
  | cons x l => simp at h; subst h; rfl
theorem met_pos (hm : MetOf a nx l) : 0 < l.length := (List.getElem?_eq_some_iff.1 (met_first hm)).1
theorem met_low (hm : MetOf a nx l) {s : Nat} (hs : s ∈ l) : s < nx.length := hm.bfs.good s hs
theorem met_at (hm : MetOf a nx l) {s : Nat} (hs : s ∈ l) : l[l.idxOf s]? = some s := by
  have h1 := List.idxOf_lt_length_iff.2 hs
  rw [List.getElem?_eq_getElem h1, List.getElem_idxOf h1]
theorem met_inj (hm : MetOf a nx l) {i j s : Nat} (hi : l[i]? = some s) (hj : l[j]? = some s) : i = j := by
  obtain ⟨h1, e1⟩ := List.getElem?_eq_some_iff.1 hi
  obtain ⟨h2, e2⟩ := List.getElem?_eq_some_iff.1 hj
  rcases Nat.lt_trichotomy i j with h3 | h3 | h3
  · exact absurd (e1.trans e2.symm) (List.pairwise_iff_getElem.1 hm.bfs.once _ _ h1 h2 h3)
  · exact h3
  · exact absurd (e2.trans e1.symm) (List.pairwise_iff_getElem.1 hm.bfs.once _ _ h2 h1 h3)
theorem num_length : (numNext a.toNat (stL nx) l).length = l.length := by simp [numNext]
theorem num_row {i : Nat} (hi : i < l.length) : (numNext a.toNat (stL nx) l).getD i [] = (List.range a.toNat).map fun c => ((l.idxOf (stL nx (l.getD i 0) c) : Nat) : Int) := by
  rw [List.getD_eq_getElem?_getD, List.getD_eq_getElem?_getD]
  unfold numNext
  rw [List.getElem?_map, List.getElem?_eq_getElem hi]
  rfl
theorem num_st {i c : Nat} (hi : i < l.length) (hc : c < a.toNat) : stL (numNext a.toNat (stL nx) l) i c = l.idxOf (stL nx (l.getD i 0) c) := by
  show ((((numNext a.toNat (stL nx) l).getD i []).getD c 0).toNat) = _
  rw [num_row hi, List.getD_eq_getElem?_getD, List.getElem?_map, List.getElem?_range hc]
  rfl
theorem met_cur {i : Nat} (hi : i < l.length) : l[i]? = some (l.getD i 0) := by
  rw [List.getD_eq_getElem?_getD, List.getElem?_eq_getElem hi]
  rfl
theorem num_step (hm : MetOf a nx l) {i c s : Nat} (hi : l[i]? = some s) (hc : c < a.toNat) : l[stL (numNext a.toNat (stL nx) l) i c]? = some (stL nx s c) := by
  have h1 := (List.getElem?_eq_some_iff.1 hi).1
  have e : l.getD i 0 = s := Option.some.inj ((met_cur h1).symm.trans hi)
  rw [num_st h1 hc, e]
  exact met_at hm (MetAll.shut hm (List.mem_of_getElem? hi) hc)
theorem num_run (hm : MetOf a nx l) : ∀ (w : List Nat) {i s : Nat}, l[i]? = some s → (∀ c ∈ w, c < a.toNat) → l[runS (stL (numNext a.toNat (stL nx) l)) i w]? = some (runS (stL nx) s w)
  | [], _, _, h, _ => h
  | c :: w, _, _, h, hw => num_run hm w (num_step hm h (hw c (by simp))) (fun x hx => hw x (by simp [hx]))
theorem num_ends {i s : Nat} (hi : l[i]? = some s) : acL (l.map (acL ac)) i = acL ac s := by
  rw [acL, List.getD_eq_getElem?_getD, List.getElem?_map, hi]
  rfl
theorem num_takes (hm : MetOf a nx l) {w : List Nat} (hw : ∀ c ∈ w, c < a.toNat) : acL (l.map (acL ac)) (runS (stL (numNext a.toNat (stL nx) l)) 0 w) = acL ac (runS (stL nx) 0 w) := num_ends (num_run hm w (met_first hm) hw)
theorem good_of {a : Int} {X : List (List Int)} {Y : List Bool} (h1 : 1 ≤ a) (h2 : a ≤ 64) (h3 : 1 ≤ X.length) (h4 : X.length ≤ 1000) (h5 : Y.length = X.length) (h6 : ∀ i, i < X.length → ((X.getD i []).length : Int) = a ∧ ∀ x ∈ X.getD i [], 0 ≤ x ∧ x < X.length) : goodB a X Y = true := by
  unfold goodB
  simp only [Bool.and_eq_true, decide_eq_true_eq, Bool.not_eq_true', List.any_eq_false]
  refine ⟨⟨⟨⟨⟨h1, h2⟩, by omega⟩, by omega⟩, by omega⟩, fun r hr => ?_⟩
  obtain ⟨i, hi, rfl⟩ := List.mem_iff_getElem.1 hr
  have e : X[i] = X.getD i [] := by rw [List.getD_eq_getElem?_getD, List.getElem?_eq_getElem hi]; rfl
  rw [e]
  have h7 := h6 i hi
  unfold BadRow
  simp only [Bool.or_eq_true, Bool.not_eq_true', decide_eq_false_iff_not, not_or, Decidable.not_not, List.any_eq_true, not_exists, not_and]
  refine ⟨h7.1, fun x hx => ?_⟩
  have h8 := h7.2 x hx
  unfold OutOf
  simp only [Bool.or_eq_true, decide_eq_true_eq, not_or]
  omega
theorem num_good (h : Aut a nx ac) (hm : MetOf a nx l) : goodB a (numNext a.toNat (stL nx) l) (l.map (acL ac)) = true := by
  have ha1 := h.a1
  have ha2 := h.a2
  have hn2 := h.n2
  have hp := met_pos hm
  have hmo : l.length ≤ nx.length := MetIs.most hm
  refine good_of ha1 ha2 (by rw [num_length]; omega) (by rw [num_length]; omega) (by rw [num_length, List.length_map]) fun i hi => ?_
  rw [num_length] at hi ⊢
  rw [num_row hi]
  refine ⟨by simp; omega, fun x hx => ?_⟩
  obtain ⟨c, hc, rfl⟩ := List.mem_map.1 hx
  have h1 := List.idxOf_lt_length_iff.2 (MetAll.shut hm (List.mem_of_getElem? (met_cur hi)) (List.mem_range.1 hc))
  omega
/-- Numbered once more it is the same. -/
theorem num_again (hm : MetOf a nx l) {l' : List Nat} (hm' : MetOf a (numNext a.toNat (stL nx) l) l') : l' = List.range l.length ∧ numNext a.toNat (stL (numNext a.toNat (stL nx) l)) l' = numNext a.toNat (stL nx) l ∧ l'.map (acL (l.map (acL ac))) = l.map (acL ac) := by
  have ho : OneOne (fun i s : Nat => l[i]? = some s) := fun x y x' y' h1 h2 => ⟨fun e => by subst e; exact Option.some.inj (h1.symm.trans h2), fun e => by subst e; exact met_inj hm h1 h2⟩
  have hs : ∀ (x y c : Nat), c < a.toNat → l[x]? = some y → l[stL (numNext a.toNat (stL nx) l) x c]? = some (stL nx y c) := fun x y c hc h => num_step hm h hc
  have hr := met_all ho hs (met_first hm) hm' hm
  have e : l' = List.range l.length := by
    apply List.ext_getElem (by rw [List.length_range]; exact hr.1)
    intro i h1 h2
    rw [List.length_range] at h2
    rw [List.getElem_range]
    exact met_inj hm (hr.2 i l'[i] l[i] (List.getElem?_eq_getElem h1) (List.getElem?_eq_getElem h2)) (List.getElem?_eq_getElem h2)
  refine ⟨e, numNext_step ho hs hr, ?_⟩
  apply List.ext_getElem (by rw [List.length_map, List.length_map]; exact hr.1)
  intro i h1 h2
  rw [List.length_map] at h1 h2
  rw [List.getElem_map, List.getElem_map]
  exact num_ends (hr.2 i l'[i] l[i] (List.getElem?_eq_getElem h1) (List.getElem?_eq_getElem h2))
end
section
variable {a : Int} {nx nx' : List (List Int)} {ac ac' : List Bool}
/-- The same rows are taken. -/
def SameRows (a : Int) (nx : List (List Int)) (ac : List Bool) (nx' : List (List Int)) (ac' : List Bool) : Prop := ∀ w : List Nat, (∀ c ∈ w, c < a.toNat) → acL ac (runS (stL nx) 0 w) = acL ac' (runS (stL nx') 0 w)
/-- The least automaton, numbered as it is met. -/
def CanonIs (a : Int) (nx : List (List Int)) (ac : List Bool) (X : List (List Int)) (Y : List Bool) : Prop :=
  ∃ R C l, Model a nx ac R C ∧ MetOf a (bnx nx R C) l ∧ X = numNext a.toNat (stL (bnx nx R C)) l ∧ Y = l.map (acL (bac nx ac R C))
variable {X X' : List (List Int)} {Y Y' : List Bool}
theorem CanonIs.takes (h : CanonIs a nx ac X Y) : SameRows a X Y nx ac := by
  obtain ⟨R, C, l, M, hm, rfl, rfl⟩ := h
  exact fun w hw => (num_takes hm hw).trans (M.takes hw)
theorem CanonIs.good (h : CanonIs a nx ac X Y) : goodB a X Y = true := by
  obtain ⟨R, C, l, M, hm, rfl, rfl⟩ := h
  exact num_good (Aut.of M.good) hm
theorem CanonIs.ends (h : CanonIs a nx ac X Y) : Y.length = X.length := (Aut.of h.good).ends
theorem CanonIs.most (h : CanonIs a nx ac X Y) : X.length ≤ nx.length := by
  obtain ⟨R, C, l, M, hm, rfl, rfl⟩ := h
  rw [num_length]
  refine Nat.le_trans (MetIs.most hm) ?_
  rw [bnx_length]
  exact keptTo_length R C nx.length
/-- Two that take the same, ends turned round or not, are met in step. -/
theorem canon_step (f : Bool → Bool) (hf : ∀ x y, f x = f y → x = y) (h : CanonIs a nx ac X Y) (h' : CanonIs a nx' ac' X' Y') (hs : ∀ w : List Nat, (∀ c ∈ w, c < a.toNat) → f (acL ac (runS (stL nx) 0 w)) = acL ac' (runS (stL nx') 0 w)) : X = X' ∧ Y' = Y.map f := by
  obtain ⟨R, C, l, M, hm, rfl, rfl⟩ := h
  obtain ⟨R', C', l', M', hm', rfl, rfl⟩ := h'
  have hA := Aut.of M.good
  have hA' := Aut.of M'.good
  have hR : OneOne (fun s t : Nat => s < (bnx nx R C).length ∧ t < (bnx nx' R' C').length ∧ ∀ w : List Nat, (∀ c ∈ w, c < a.toNat) → f (acL (bac nx ac R C) (runS (stL (bnx nx R C)) s w)) = acL (bac nx' ac' R' C') (runS (stL (bnx nx' R' C')) t w)) := by
    rintro x y x' y' ⟨h1, h2, h3⟩ ⟨h4, h5, h6⟩
    constructor
    · rintro rfl
      exact M'.apart_b (by rw [bnx_length] at h2; exact h2) (by rw [bnx_length] at h5; exact h5) (fun w hw => (h3 w hw).symm.trans (h6 w hw))
    · rintro rfl
      exact M.apart_b (by rw [bnx_length] at h1; exact h1) (by rw [bnx_length] at h4; exact h4) (fun w hw => hf _ _ ((h3 w hw).trans (h6 w hw).symm))
  have hst : ∀ (x y c : Nat), c < a.toNat → (x < (bnx nx R C).length ∧ y < (bnx nx' R' C').length ∧ ∀ w : List Nat, (∀ c ∈ w, c < a.toNat) → f (acL (bac nx ac R C) (runS (stL (bnx nx R C)) x w)) = acL (bac nx' ac' R' C') (runS (stL (bnx nx' R' C')) y w)) →
      (stL (bnx nx R C) x c < (bnx nx R C).length ∧ stL (bnx nx' R' C') y c < (bnx nx' R' C').length ∧ ∀ w : List Nat, (∀ c ∈ w, c < a.toNat) → f (acL (bac nx ac R C) (runS (stL (bnx nx R C)) (stL (bnx nx R C) x c) w)) = acL (bac nx' ac' R' C') (runS (stL (bnx nx' R' C')) (stL (bnx nx' R' C') y c) w)) := by
    rintro x y c hc ⟨h1, h2, h3⟩
    exact ⟨hA.shuts _ _ h1 hc, hA'.shuts _ _ h2 hc, fun w hw => h3 (c :: w) (fun d hd => by
      rcases List.mem_cons.1 hd with hd | hd
      · rw [hd]; exact hc
      · exact hw d hd)⟩
  have h1 := hA.n1
  have h2 := hA'.n1
  have hr := met_all hR hst ⟨by omega, by omega, fun w hw => by rw [M.takes hw, M'.takes hw]; exact hs w hw⟩ hm hm'
  refine ⟨numNext_step hR hst hr, ?_⟩
  apply List.ext_getElem (by simp [hr.1])
  intro i h3 h4
  simp only [List.length_map] at h3 h4
  rw [List.getElem_map, List.getElem_map, List.getElem_map]
  have h5 := (hr.2 i l[i] l'[i] (List.getElem?_eq_getElem h4) (List.getElem?_eq_getElem h3)).2.2 [] (by simp)
  exact h5.symm
theorem canon_same (h : CanonIs a nx ac X Y) (h' : CanonIs a nx' ac' X' Y') : (X = X' ∧ Y = Y') ↔ SameRows a nx ac nx' ac' := by
  constructor
  · rintro ⟨rfl, rfl⟩
    exact fun w hw => (h.takes w hw).symm.trans (h'.takes w hw)
  · intro hs
    obtain ⟨h1, h2⟩ := canon_step (fun b => b) (fun _ _ e => e) h h' hs
    exact ⟨h1, by rw [h2, List.map_id']⟩
theorem canon_unique (h : CanonIs a nx ac X Y) (h' : CanonIs a nx ac X' Y') : X = X' ∧ Y = Y' := (canon_same h h').2 (fun _ _ => rfl)
end

end Go.Proofs.Ytelkjbacdpmnfaa.A
