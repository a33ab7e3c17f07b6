/- By a program, out of the translation (wip/myprint.py). -/
import Derived.Test.YtelkjbacdpmnfaaA0
import Derived.Test.YtelkjbacdpmnfaaAPlainAut
import Derived.Test.YtelkjbacdpmnfaaAPlainBase
import Derived.Test.YtelkjbacdpmnfaaAPlainLeastOf
import Derived.Test.YtelkjbacdpmnfaaAThompsonGood
namespace Go.Proofs.Ytelkjbacdpmnfaa.A
open Go.RowKit Go.Proofs.YtelkjbacdpmnfaaW.PrintWords Go.Proofs.YtelkjbacdpmnfaaW.PrintLast Go.Proofs.YtelkjbacdpmnfaaW.PrintMore
attribute [local go_sem] max2_int min2_int max_two min_two max_three min_three max_four min_four   -- for this text's walks alone
set_option linter.unusedVariables false
set_option linter.unusedSimpArgs false

/-! the least automaton's states: each a class of states that are reached -/
section
variable {a : Int} {nx : List (List Int)} {ac R : List Bool} {C : List Int}
theorem kept_reached {t : Int} : ∀ {k : Nat}, t ∈ keptTo R C k → ∃ s : Nat, t = (s : Int) ∧ s < k ∧ R.getD s false = true
  | 0, h => by simp [keptTo] at h
  | k + 1, h => by
    unfold keptTo at h
    split at h
    · rename_i hk
      rcases List.mem_append.1 h with h | h
      · obtain ⟨s, e, hs, hr⟩ := kept_reached h
        exact ⟨s, e, by omega, hr⟩
      · exact ⟨k, List.mem_singleton.1 h, by omega, hk.1⟩
    · obtain ⟨s, e, hs, hr⟩ := kept_reached h
      exact ⟨s, e, by omega, hr⟩
theorem codes_nodup : ∀ (k : Nat), (codesOf C (keptTo R C k)).Nodup
  | 0 => List.nodup_nil
  | k + 1 => by
    have ih := codes_nodup k
    unfold keptTo
    split
    · rename_i hk
      rw [codesOf_snoc]
      refine List.nodup_append.2 ⟨ih, by simp, fun x hx y hy => ?_⟩
      rw [List.mem_singleton.1 hy]
      exact fun e => hk.2 (e ▸ hx)
    · exact ih
theorem codes_full {s : Nat} (hr : R.getD s false = true) : ∀ {k : Nat}, s < k → C.getD s 0 ∈ codesOf C (keptTo R C k)
  | 0, h => absurd h (Nat.not_lt_zero _)
  | k + 1, h => by
    unfold keptTo
    rcases Nat.lt_or_ge s k with h1 | h1
    · have ih := codes_full hr h1
      split
      · rw [codesOf_snoc]; exact List.mem_append.2 (.inl ih)
      · exact ih
    · obtain rfl : s = k := by omega
      split
      · rw [codesOf_snoc]; simp
      · rename_i hk
        exact Classical.byContradiction fun hn => hk ⟨hr, hn⟩
theorem class_eq {n L : Nat} {st : Nat → Nat → Nat} {acc : Nat → Bool} (hC : IsClasses n L st acc C) {s u : Nat} (hs : s < n) (hu : u < n) : C.getD s 0 = C.getD u 0 ↔ Alike L st acc s u := by
  obtain ⟨x, e1, l1, a1, m1⟩ := hC.2 s hs
  obtain ⟨y, e2, l2, a2, m2⟩ := hC.2 u hu
  rw [e1, e2]
  constructor
  · intro e
    obtain rfl : x = y := by omega
    exact a1.symm.trans a2
  · intro e
    rcases Nat.lt_trichotomy x y with h | h | h
    · exact absurd (a1.trans e) (m2 x h)
    · rw [h]
    · exact absurd (a2.trans e.symm) (m1 y h)
theorem idxOf_nodup {l : List Int} (h : l.Nodup) {i : Nat} (hi : i < l.length) : l.idxOf (l.getD i 0) = i := by
  have hm : l.getD i 0 ∈ l := getD_in l 0 hi
  have h1 := List.idxOf_lt_length_iff.2 hm
  have h2 := List.getElem_idxOf h1
  have e : l.getD i 0 = l[i] := by rw [List.getD_eq_getElem?_getD, List.getElem?_eq_getElem hi]; rfl
  rcases Nat.lt_trichotomy (l.idxOf (l.getD i 0)) i with h3 | h3 | h3
  · exact absurd (h2.trans e) (List.pairwise_iff_getElem.1 h _ _ h1 hi h3)
  · exact h3
  · exact absurd (h2.trans e).symm (List.pairwise_iff_getElem.1 h _ _ hi h1 h3)
/-- What is known of the states reached and of the classes. -/
structure Model (a : Int) (nx : List (List Int)) (ac R : List Bool) (C : List Int) : Prop where
  aut : Aut a nx ac
  reach : IsReach nx.length a.toNat (stL nx) R
  cls : IsClasses nx.length a.toNat (stL nx) (acL ac) C
def kepts (nx : List (List Int)) (R : List Bool) (C : List Int) : List Int := keptTo R C nx.length
def repOf (nx : List (List Int)) (R : List Bool) (C : List Int) (i : Nat) : Nat := ((kepts nx R C).getD i 0).toNat
def qnOf (nx : List (List Int)) (R : List Bool) (C : List Int) (s : Nat) : Nat := (codesOf C (kepts nx R C)).idxOf (C.getD s 0)
def bnx (nx : List (List Int)) (R : List Bool) (C : List Int) : List (List Int) := ofNext nx C (kepts nx R C) (kepts nx R C)
def bac (nx : List (List Int)) (ac R : List Bool) (C : List Int) : List Bool := ofEnds ac (kepts nx R C)
theorem leastOf_eq : leastOf a nx ac R C = (a, bnx nx R C, bac nx ac R C, true) := rfl
theorem bnx_length : (bnx nx R C).length = (kepts nx R C).length := ofNext_length _ _ _ _
theorem bac_length : (bac nx ac R C).length = (kepts nx R C).length := ofEnds_length _ _
theorem rep_is {i : Nat} (hi : i < (kepts nx R C).length) : (kepts nx R C).getD i 0 = ((repOf nx R C i : Nat) : Int) ∧ repOf nx R C i < nx.length ∧ R.getD (repOf nx R C i) false = true := by
  obtain ⟨s, e, hs, hr⟩ := kept_reached (getD_in (kepts nx R C) 0 hi)
  unfold repOf
  rw [e]
  exact ⟨by simp, by simpa using hs, by simpa using hr⟩
theorem codes_at {i : Nat} (hi : i < (kepts nx R C).length) : (codesOf C (kepts nx R C)).getD i 0 = C.getD (repOf nx R C i) 0 := by
  unfold codesOf repOf
  rw [List.getD_eq_getElem?_getD, List.getElem?_map, List.getElem?_eq_getElem hi, List.getD_eq_getElem?_getD (l := kepts nx R C), List.getElem?_eq_getElem hi]
  rfl
theorem Model.gets (M : Model a nx ac R C) {i : Nat} (hi : i < (kepts nx R C).length) : Gets a.toNat (stL nx) (repOf nx R C i) := (M.reach.2 _ (rep_is hi).2.1).1 (rep_is hi).2.2
theorem Model.got_lt (M : Model a nx ac R C) {s : Nat} (h : Gets a.toNat (stL nx) s) : s < nx.length := by
  obtain ⟨w, hw, rfl⟩ := h
  exact runS_lt M.aut.shuts w 0 (by have := M.aut.n1; omega) hw
theorem Model.in_codes (M : Model a nx ac R C) {s : Nat} (h : Gets a.toNat (stL nx) s) : C.getD s 0 ∈ codesOf C (kepts nx R C) := codes_full ((M.reach.2 s (M.got_lt h)).2 h) (M.got_lt h)
theorem Model.qn_lt (M : Model a nx ac R C) {s : Nat} (h : Gets a.toNat (stL nx) s) : qnOf nx R C s < (kepts nx R C).length := by
  have := List.idxOf_lt_length_iff.2 (M.in_codes h)
  rwa [codesOf_length] at this
theorem Model.rep_qn (M : Model a nx ac R C) {s : Nat} (h : Gets a.toNat (stL nx) s) : Alike a.toNat (stL nx) (acL ac) (repOf nx R C (qnOf nx R C s)) s := by
  have hq := M.qn_lt h
  refine (class_eq M.cls (rep_is hq).2.1 (M.got_lt h)).1 ?_
  rw [← codes_at hq, List.getD_eq_getElem?_getD, List.getElem?_eq_getElem (by rw [codesOf_length]; exact hq)]
  exact List.getElem_idxOf _
theorem Model.qn_rep (_ : Model a nx ac R C) {i : Nat} (hi : i < (kepts nx R C).length) : qnOf nx R C (repOf nx R C i) = i := by
  unfold qnOf
  rw [← codes_at hi]
  exact idxOf_nodup (codes_nodup _) (by rw [codesOf_length]; exact hi)
theorem Model.qn_alike (M : Model a nx ac R C) {s u : Nat} (hs : s < nx.length) (hu : u < nx.length) (h : Alike a.toNat (stL nx) (acL ac) s u) : qnOf nx R C s = qnOf nx R C u := by
  unfold qnOf
  rw [(class_eq M.cls hs hu).2 h]
theorem bnx_row {i : Nat} (hi : i < (kepts nx R C).length) : (bnx nx R C).getD i [] = ofRow nx C (kepts nx R C) ((repOf nx R C i : Nat) : Int) := by
  unfold bnx ofNext
  rw [List.getD_eq_getElem?_getD, List.getElem?_map, List.getElem?_eq_getElem hi]
  have e := (rep_is hi).1
  rw [List.getD_eq_getElem?_getD, List.getElem?_eq_getElem hi] at e
  simp only [Option.getD_some] at e
  simp only [Option.map_some, Option.getD_some, e]
theorem Model.st_b (M : Model a nx ac R C) {i c : Nat} (hi : i < (kepts nx R C).length) (hc : c < a.toNat) : ((bnx nx R C).getD i []).getD c 0 = ((qnOf nx R C (stL nx (repOf nx R C i) c) : Nat) : Int) := by
  have hr := rep_is hi
  rw [bnx_row hi]
  unfold ofRow
  rw [Int.toNat_natCast, List.getD_eq_getElem?_getD, List.getElem?_map, List.getElem?_eq_getElem (by rw [M.aut.len hr.2.1]; exact hc)]
  have e := M.aut.st hr.2.1 hc
  rw [List.getD_eq_getElem?_getD (i := c), List.getElem?_eq_getElem (by rw [M.aut.len hr.2.1]; exact hc)] at e
  simp only [Option.getD_some] at e
  simp only [Option.map_some, Option.getD_some, e, Int.toNat_natCast]
  unfold numOf
  rw [if_pos (M.in_codes ((M.gets hi).step hc))]
  rfl
theorem Model.stb (M : Model a nx ac R C) {i c : Nat} (hi : i < (kepts nx R C).length) (hc : c < a.toNat) : stL (bnx nx R C) i c = qnOf nx R C (stL nx (repOf nx R C i) c) := by
  unfold stL
  rw [M.st_b hi hc, Int.toNat_natCast]
  rfl
theorem acb {i : Nat} (hi : i < (kepts nx R C).length) : acL (bac nx ac R C) i = acL ac (repOf nx R C i) := by
  unfold acL bac ofEnds repOf
  rw [List.getD_eq_getElem?_getD, List.getElem?_map, List.getElem?_eq_getElem hi, List.getD_eq_getElem?_getD (l := kepts nx R C), List.getElem?_eq_getElem hi]
  rfl
theorem Model.first (M : Model a nx ac R C) : repOf nx R C 0 = 0 ∧ 0 < (kepts nx R C).length := by
  have hn := M.aut.n1
  have hr : R.getD 0 false = true := (M.reach.2 0 (by omega)).2 Gets.zero
  have key : ∀ k : Nat, ∃ l, keptTo R C (k + 1) = 0 :: l := by
    intro k
    induction k with
    | zero => exact ⟨[], keptTo_new hr (by simp [keptTo, codesOf])⟩
    | succ k ih =>
      obtain ⟨l, e⟩ := ih
      rw [keptTo]
      split
      · exact ⟨l ++ [((k + 1 : Nat) : Int)], by rw [e]; rfl⟩
      · exact ⟨l, e⟩
  obtain ⟨l, e⟩ := key (nx.length - 1)
  rw [show nx.length - 1 + 1 = nx.length by omega] at e
  unfold repOf kepts
  rw [e]
  simp
theorem Model.qn_zero (M : Model a nx ac R C) : qnOf nx R C 0 = 0 := by
  have h := M.qn_rep M.first.2
  rwa [M.first.1] at h
/-- The row of letters leads alike. -/
theorem Model.hom (M : Model a nx ac R C) : ∀ (w : List Nat) (s : Nat), Gets a.toNat (stL nx) s → (∀ c ∈ w, c < a.toNat) → runS (stL (bnx nx R C)) (qnOf nx R C s) w = qnOf nx R C (runS (stL nx) s w)
  | [], _, _, _ => rfl
  | c :: w, s, hs, hw => by
    have hc := hw c (by simp)
    have hq := M.qn_lt hs
    have ha := (M.rep_qn hs).step hc
    have e : stL (bnx nx R C) (qnOf nx R C s) c = qnOf nx R C (stL nx s c) := by
      rw [M.stb hq hc]
      exact M.qn_alike (M.aut.shuts _ c (rep_is hq).2.1 hc) (M.aut.shuts _ c (M.got_lt hs) hc) ha
    show runS _ (stL (bnx nx R C) (qnOf nx R C s) c) w = _
    rw [e]
    exact M.hom w _ (hs.step hc) (fun x hx => hw x (by simp [hx]))
theorem Model.ends_b (M : Model a nx ac R C) {s : Nat} (hs : Gets a.toNat (stL nx) s) : acL (bac nx ac R C) (qnOf nx R C s) = acL ac s := by
  rw [acb (M.qn_lt hs)]
  exact (M.rep_qn hs).ends
theorem Gets.run {L : Nat} {st : Nat → Nat → Nat} : ∀ (w : List Nat) {s : Nat}, Gets L st s → (∀ c ∈ w, c < L) → Gets L st (runS st s w)
  | [], _, h, _ => h
  | c :: w, _, h, hw => Gets.run w (h.step (hw c (by simp))) (fun x hx => hw x (by simp [hx]))
/-- The least automaton takes what the automaton takes. -/
theorem Model.takes (M : Model a nx ac R C) {w : List Nat} (hw : ∀ c ∈ w, c < a.toNat) : acL (bac nx ac R C) (runS (stL (bnx nx R C)) 0 w) = acL ac (runS (stL nx) 0 w) := by
  have h := M.hom w 0 Gets.zero hw
  rw [M.qn_zero] at h
  rw [h]
  exact M.ends_b (Gets.zero.run w hw)
theorem Model.good (M : Model a nx ac R C) : goodB a (bnx nx R C) (bac nx ac R C) = true := by
  have h := M.aut
  have ha1 := h.a1
  have ha2 := h.a2
  have hn2 := h.n2
  have hf := M.first.2
  have hK := keptTo_length R C nx.length
  have hl := bnx_length (nx := nx) (R := R) (C := C)
  have hl2 := bac_length (nx := nx) (ac := ac) (R := R) (C := C)
  unfold kepts at hl hl2 hf
  unfold goodB
  simp only [Bool.and_eq_true, decide_eq_true_eq, Bool.not_eq_true', List.any_eq_false]
  refine ⟨⟨⟨⟨⟨ha1, ha2⟩, by omega⟩, by omega⟩, by omega⟩, fun r hr => ?_⟩
  obtain ⟨i, hi, rfl⟩ := List.mem_iff_getElem.1 hr
  have hi' : i < (kepts nx R C).length := by unfold kepts; omega
  have e : (bnx nx R C)[i] = (bnx nx R C).getD i [] := by rw [List.getD_eq_getElem?_getD, List.getElem?_eq_getElem hi]; rfl
  have hrl : ((bnx nx R C).getD i []).length = a.toNat := by rw [bnx_row hi', ofRow_length, h.len (rep_is hi').2.1]
  rw [e]
  unfold BadRow
  simp only [Bool.or_eq_true, Bool.not_eq_true', decide_eq_false_iff_not, not_or, Decidable.not_not, List.any_eq_true, not_exists, not_and]
  refine ⟨by omega, fun x hx => ?_⟩
  obtain ⟨c, hc, rfl⟩ := List.mem_iff_getElem.1 hx
  have hcl : c < a.toNat := by omega
  have e2 := M.st_b hi' hcl
  rw [List.getD_eq_getElem?_getD (i := c), List.getElem?_eq_getElem hc] at e2
  simp only [Option.getD_some] at e2
  rw [e2]
  have hq := M.qn_lt ((M.gets hi').step hcl)
  unfold OutOf
  simp only [Bool.or_eq_true, decide_eq_true_eq, not_or]
  unfold kepts at hq
  omega
theorem Model.rep_zero (M : Model a nx ac R C) {i : Nat} (hi : i < (kepts nx R C).length) : Gets a.toNat (stL (bnx nx R C)) i := by
  obtain ⟨w, hw, e⟩ := M.gets hi
  refine ⟨w, hw, ?_⟩
  have h := M.hom w 0 Gets.zero hw
  rw [M.qn_zero, e, M.qn_rep hi] at h
  exact h
/-- All its states are reached. -/
theorem Model.reach_b (M : Model a nx ac R C) : IsReach (bnx nx R C).length a.toNat (stL (bnx nx R C)) (List.replicate (bnx nx R C).length true) := by
  refine ⟨by simp, fun s hs => ?_⟩
  rw [List.getD_eq_getElem?_getD, List.getElem?_replicate, if_pos hs]
  exact ⟨fun _ => M.rep_zero (by rw [bnx_length] at hs; exact hs), fun _ => rfl⟩
theorem Model.run_rep (M : Model a nx ac R C) {i : Nat} (hi : i < (kepts nx R C).length) {w : List Nat} (hw : ∀ c ∈ w, c < a.toNat) : acL (bac nx ac R C) (runS (stL (bnx nx R C)) i w) = acL ac (runS (stL nx) (repOf nx R C i) w) := by
  have h := M.hom w (repOf nx R C i) (M.gets hi) hw
  rw [M.qn_rep hi] at h
  rw [h]
  exact M.ends_b ((M.gets hi).run w hw)
theorem Model.apart_b (M : Model a nx ac R C) {i j : Nat} (hi : i < (kepts nx R C).length) (hj : j < (kepts nx R C).length) (h : Alike a.toNat (stL (bnx nx R C)) (acL (bac nx ac R C)) i j) : i = j := by
  have ha : Alike a.toNat (stL nx) (acL ac) (repOf nx R C i) (repOf nx R C j) := fun w hw => by
    rw [← M.run_rep hi hw, ← M.run_rep hj hw]
    exact h w hw
  rw [← M.qn_rep hi, ← M.qn_rep hj]
  exact M.qn_alike (rep_is hi).2.1 (rep_is hj).2.1 ha
/-- Each of its states is alone. -/
theorem Model.classes_b (M : Model a nx ac R C) : IsClasses (bnx nx R C).length a.toNat (stL (bnx nx R C)) (acL (bac nx ac R C)) ((List.range (bnx nx R C).length).map fun (i : Nat) => (i : Int)) := by
  refine ⟨by simp, fun s hs => ⟨s, ?_, Nat.le_refl _, Alike.refl s, fun v hv h => ?_⟩⟩
  · rw [List.getD_eq_getElem?_getD, List.getElem?_map, List.getElem?_range hs]
    rfl
  · rw [bnx_length] at hs
    have := M.apart_b (by omega) hs h
    omega
theorem kept_all (n : Nat) : ∀ k, k ≤ n → keptTo (List.replicate n true) ((List.range n).map fun (i : Nat) => (i : Int)) k = (List.range k).map fun (i : Nat) => (i : Int)
  | 0, _ => rfl
  | k + 1, h => by
    have ih := kept_all n k (by omega)
    have hc : ∀ i, i < n → (((List.range n).map fun (i : Nat) => (i : Int)) : List Int).getD i 0 = (i : Int) := fun i hi => by
      rw [List.getD_eq_getElem?_getD, List.getElem?_map, List.getElem?_range hi]
      rfl
    rw [keptTo_new, ih, List.range_succ, List.map_append]
    · rfl
    · rw [List.getD_eq_getElem?_getD, List.getElem?_replicate, if_pos (by omega)]
      rfl
    · rw [ih, hc k (by omega)]
      unfold codesOf
      simp only [List.mem_map, List.mem_range, not_exists, not_and, forall_exists_index, and_imp]
      rintro x y hy rfl
      rw [Int.toNat_natCast, hc y (by omega)]
      omega
/-- Made so once more it is as great. -/
theorem kept_again (n : Nat) (nx' : List (List Int)) (hn : nx'.length = n) : (kepts nx' (List.replicate n true) ((List.range n).map fun (i : Nat) => (i : Int))).length = n := by
  unfold kepts
  rw [hn, kept_all n n (Nat.le_refl _)]
  simp
end

end Go.Proofs.Ytelkjbacdpmnfaa.A
