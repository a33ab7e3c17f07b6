/- By a program, out of the translation (wip/myprint.py). -/
import Derived.Test.YtelkjbacdpmnfaaA0
import Derived.Test.YtelkjbacdpmnfaaAAnyOrder
import Derived.Test.YtelkjbacdpmnfaaAPlainAlike
import Derived.Test.YtelkjbacdpmnfaaAPlainAut
import Derived.Test.YtelkjbacdpmnfaaAPlainModel
import Derived.Test.YtelkjbacdpmnfaaAPlainOf
import Derived.Test.YtelkjbacdpmnfaaAPlainReach
import Derived.Test.YtelkjbacdpmnfaaAPlainRefOf
import Derived.Test.YtelkjbacdpmnfaaAPlainSplit
import Derived.Test.YtelkjbacdpmnfaaAThompsonGood
namespace Go.Proofs.Ytelkjbacdpmnfaa.A
open Go.RowKit Go.Proofs.YtelkjbacdpmnfaaW.PrintWords Go.Proofs.YtelkjbacdpmnfaaW.PrintLast Go.Proofs.YtelkjbacdpmnfaaW.PrintMore
attribute [local go_sem] max2_int min2_int max_two min_two max_three min_three max_four min_four   -- for this text's walks alone
set_option linter.unusedVariables false
set_option linter.unusedSimpArgs false

/-! all ends, or none; a state that is not reached -/
section
variable {a : Int} {nx : List (List Int)} {ac : List Bool} {en : Bool}
theorem good_ends (h : goodB a nx ac = true) {ac' : List Bool} (hl : ac'.length = ac.length) : goodB a nx ac' = true := by
  unfold goodB at h ⊢
  rw [hl]
  exact h
/-- Where all ends, or none, one state is kept. -/
theorem kept_same {R' : List Bool} {C' : List Int} (h : goodB a nx (List.replicate nx.length en) = true) (hR : IsReach nx.length a.toNat (stL nx) R') (hC : IsClasses nx.length a.toNat (stL nx) (acL (List.replicate nx.length en)) C') : kepts nx R' C' = [0] := by
  have hA := Aut.of h
  have hn := hA.n1
  have hcl : ∀ s, s < nx.length → C'.getD s 0 = 0 := by
    intro s hs
    obtain ⟨u, e, hu, _, hm⟩ := hC.2 s hs
    have h0 : u = 0 := Classical.byContradiction fun hne => hm 0 (by omega) (fun w hw => by
      have e1 := runS_lt hA.shuts w 0 (by omega) hw
      have e2 := runS_lt hA.shuts w s hs hw
      unfold acL
      rw [List.getD_eq_getElem?_getD, List.getElem?_replicate, if_pos e1, List.getD_eq_getElem?_getD, List.getElem?_replicate, if_pos e2])
    rw [e, h0]
    rfl
  have hr : R'.getD 0 false = true := (hR.2 0 (by omega)).2 Gets.zero
  have key : ∀ k, k + 1 ≤ nx.length → keptTo R' C' (k + 1) = [0] := by
    intro k
    induction k with
    | zero => intro _; exact keptTo_new hr (by simp [keptTo, codesOf])
    | succ k ih =>
      intro hk
      have e := ih (by omega)
      rw [keptTo_old, e]
      rw [e, hcl (k + 1) (by omega)]
      intro h2
      refine h2.2 ?_
      have := hcl 0 (by omega)
      simp [codesOf, this]
      simpa using this.symm
  unfold kepts
  have := key (nx.length - 1) (by omega)
  rwa [show nx.length - 1 + 1 = nx.length by omega] at this
/-! one more state, to which nothing leads -/
theorem getD_more {α : Type} (l : List α) (x d : α) {i : Nat} (h : i < l.length) : (l ++ [x]).getD i d = l.getD i d := by
  rw [List.getD_eq_getElem?_getD, List.getD_eq_getElem?_getD, List.getElem?_append_left h]
theorem stL_more (r : List Int) {s c : Nat} (hs : s < nx.length) : stL (nx ++ [r]) s c = stL nx s c := by
  unfold stL
  rw [getD_more _ _ _ hs]
theorem run_more (h : Aut a nx ac) (r : List Int) : ∀ (w : List Nat) (s : Nat), s < nx.length → (∀ c ∈ w, c < a.toNat) → runS (stL (nx ++ [r])) s w = runS (stL nx) s w
  | [], _, _, _ => rfl
  | c :: w, s, hs, hw => by
    show runS _ (stL (nx ++ [r]) s c) w = runS _ (stL nx s c) w
    rw [stL_more r hs]
    exact run_more h r w _ (h.shuts s c hs (hw c (by simp))) (fun x hx => hw x (by simp [hx]))
theorem good_more (h : goodB a nx ac = true) (hn : nx.length ≤ 40) : goodB a (nx ++ [List.replicate a.toNat 0]) (ac ++ [en]) = true := by
  have hA := Aut.of h
  have ha1 := hA.a1
  have ha2 := hA.a2
  have hn1 := hA.n1
  have he := hA.ends
  unfold goodB
  simp only [Bool.and_eq_true, decide_eq_true_eq, Bool.not_eq_true', List.any_eq_false, List.length_append, List.length_cons, List.length_nil]
  refine ⟨⟨⟨⟨⟨ha1, ha2⟩, by omega⟩, by omega⟩, by omega⟩, fun r hr => ?_⟩
  unfold BadRow
  simp only [Bool.or_eq_true, Bool.not_eq_true', decide_eq_false_iff_not, not_or, Decidable.not_not, List.any_eq_true, not_exists, not_and]
  unfold OutOf
  simp only [Bool.or_eq_true, decide_eq_true_eq, not_or]
  rcases List.mem_append.1 hr with hr | hr
  · obtain ⟨s, hs, rfl⟩ := List.mem_iff_getElem.1 hr
    have e : nx[s] = nx.getD s [] := by rw [List.getD_eq_getElem?_getD, List.getElem?_eq_getElem hs]; rfl
    rw [e]
    refine ⟨hA.rows s hs, fun x hx => ?_⟩
    obtain ⟨c, hc, rfl⟩ := List.mem_iff_getElem.1 hx
    have hl := hA.len hs
    have h1 := hA.to_ s c hs (by omega)
    rw [List.getD_eq_getElem?_getD (i := c), List.getElem?_eq_getElem hc] at h1
    simp only [Option.getD_some] at h1
    omega
  · rw [List.mem_singleton.1 hr]
    refine ⟨by simp; omega, fun x hx => ?_⟩
    rw [List.eq_of_mem_replicate hx]
    omega
theorem gets_more (h : Aut a nx ac) (r : List Int) {s : Nat} : Gets a.toNat (stL (nx ++ [r])) s ↔ Gets a.toNat (stL nx) s := by
  have hn := h.n1
  constructor
  · rintro ⟨w, hw, e⟩
    exact ⟨w, hw, by rw [← e, run_more h r w 0 (by omega) hw]⟩
  · rintro ⟨w, hw, e⟩
    exact ⟨w, hw, by rw [← e, run_more h r w 0 (by omega) hw]⟩
theorem alike_more (h : Aut a nx ac) (r : List Int) {s u : Nat} (hs : s < nx.length) (hu : u < nx.length) : Alike a.toNat (stL (nx ++ [r])) (acL (ac ++ [en])) s u ↔ Alike a.toNat (stL nx) (acL ac) s u := by
  have he := h.ends
  have key : ∀ (w : List Nat) (t : Nat), t < nx.length → (∀ c ∈ w, c < a.toNat) → acL (ac ++ [en]) (runS (stL (nx ++ [r])) t w) = acL ac (runS (stL nx) t w) := by
    intro w t ht hw
    rw [run_more h r w t ht hw]
    unfold acL
    rw [getD_more _ _ _ (by rw [he]; exact runS_lt h.shuts w t ht hw)]
  exact ⟨fun al w hw => by rw [← key w s hs hw, ← key w u hu hw]; exact al w hw, fun al w hw => by rw [key w s hs hw, key w u hu hw]; exact al w hw⟩
theorem kept_congr {R R' : List Bool} {C C' : List Int} : ∀ k : Nat, (∀ s, s < k → R'.getD s false = R.getD s false ∧ C'.getD s 0 = C.getD s 0) → keptTo R' C' k = keptTo R C k ∧ codesOf C' (keptTo R C k) = codesOf C (keptTo R C k)
  | 0, _ => ⟨rfl, rfl⟩
  | k + 1, h => by
    obtain ⟨e1, e2⟩ := kept_congr k (fun s hs => h s (by omega))
    obtain ⟨h1, h2⟩ := h k (by omega)
    unfold keptTo
    rw [e1, e2, h1, h2]
    refine ⟨rfl, ?_⟩
    split
    · rw [codesOf_snoc, codesOf_snoc, e2, h2]
    · exact e2
/-- A state that is not reached changes nothing. -/
theorem least_more {R R' : List Bool} {C C' : List Int} (h : Aut a nx ac) (M : Model a nx ac R C) (hR : IsReach (nx ++ [List.replicate a.toNat 0]).length a.toNat (stL (nx ++ [List.replicate a.toNat 0])) R') (hC : IsClasses (nx ++ [List.replicate a.toNat 0]).length a.toNat (stL (nx ++ [List.replicate a.toNat 0])) (acL (ac ++ [en])) C') :
    leastOf a (nx ++ [List.replicate a.toNat 0]) (ac ++ [en]) R' C' = leastOf a nx ac R C := by
  have hn := h.n1
  have he := h.ends
  have hlen : (nx ++ [List.replicate a.toNat 0]).length = nx.length + 1 := by simp
  rw [hlen] at hR hC
  have hlow : ∀ s, s < nx.length → R'.getD s false = R.getD s false ∧ C'.getD s 0 = C.getD s 0 := by
    intro s hs
    refine ⟨?_, ?_⟩
    · have h1 := hR.2 s (by omega)
      have h2 := M.reach.2 s hs
      have h3 := h1.trans ((gets_more h _).trans h2.symm)
      cases hx : R'.getD s false <;> cases hy : R.getD s false <;> simp_all
    · obtain ⟨x, e1, l1, a1, m1⟩ := hC.2 s (by omega)
      obtain ⟨y, e2, l2, a2, m2⟩ := M.cls.2 s hs
      rw [e1, e2]
      rcases Nat.lt_trichotomy x y with h4 | h4 | h4
      · exact absurd ((alike_more h _ (by omega) hs).1 a1) (m2 x h4)
      · rw [h4]
      · exact absurd ((alike_more h _ (by omega) hs).2 a2) (m1 y h4)
  have hlast : R'.getD nx.length false = false := by
    refine Bool.eq_false_iff.2 fun h1 => ?_
    have h2 := (gets_more h _).1 ((hR.2 nx.length (by omega)).1 h1)
    have := M.got_lt h2
    omega
  obtain ⟨k1, k2⟩ := kept_congr nx.length hlow
  have hk : keptTo R' C' (nx.length + 1) = keptTo R C nx.length := by
    rw [keptTo_old (by rw [hlast]; simp), k1]
  unfold leastOf
  rw [hlen, hk]
  refine Prod.ext rfl (Prod.ext ?_ (Prod.ext ?_ rfl))
  · show ofNext _ _ _ _ = ofNext _ _ _ _
    unfold ofNext
    refine List.map_congr_left fun t ht => ?_
    obtain ⟨s, e, hs, _⟩ := kept_reached ht
    subst e
    unfold ofRow
    rw [Int.toNat_natCast, getD_more _ _ _ hs, k2]
    refine List.map_congr_left fun q hq => ?_
    obtain ⟨c, hc, rfl⟩ := List.mem_iff_getElem.1 hq
    have hl := h.len hs
    have h1 := h.to_ s c hs (by have := h.a1; omega)
    rw [List.getD_eq_getElem?_getD (i := c), List.getElem?_eq_getElem hc] at h1
    simp only [Option.getD_some] at h1
    rw [(hlow _ (by omega)).2]
  · show ofEnds _ _ = ofEnds _ _
    unfold ofEnds
    refine List.map_congr_left fun t ht => ?_
    obtain ⟨s, e, hs, _⟩ := kept_reached ht
    subst e
    rw [Int.toNat_natCast, getD_more _ _ _ (by omega)]
end

end Go.Proofs.Ytelkjbacdpmnfaa.A
