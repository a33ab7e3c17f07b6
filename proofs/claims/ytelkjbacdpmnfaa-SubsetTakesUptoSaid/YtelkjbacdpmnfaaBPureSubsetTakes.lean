/- The plain law of SubsetTakes: what the walk computes answers true, for every input whose rows of edges are not too long. No conditions but that numbers are of their kinds. -/
import Derived.Test.YtelkjbacdpmnfaaB0
import Derived.Test.YtelkjbacdpmnfaaBShort
import Derived.Test.YtelkjbacdpmnfaaBWordsB
import Derived.Test.YtelkjbacdpmnfaaBPlainBase
import Derived.Test.YtelkjbacdpmnfaaBWordsA
import Derived.Maps.OwnSet
import Derived.DeepKeys5
import Derived.Test.YtelkjbacdpmnfaaBThompsonGood
import Derived.Test.YtelkjbacdpmnfaaBPlainGood
import Derived.Test.YtelkjbacdpmnfaaBPlainAut
import Derived.Test.YtelkjbacdpmnfaaBProdF
import Derived.Test.YtelkjbacdpmnfaaBSets
import Derived.Test.YtelkjbacdpmnfaaBSets
import Derived.Test.YtelkjbacdpmnfaaBSets
import Derived.Test.YtelkjbacdpmnfaaBSets
import Derived.Test.YtelkjbacdpmnfaaBThompsonGoodNet
import Derived.Test.YtelkjbacdpmnfaaBCaesuraref19GoodNet
import Derived.Test.YtelkjbacdpmnfaaBPlainOne
import Derived.Test.YtelkjbacdpmnfaaBCaesurakeepAutomaton
import Derived.Test.YtelkjbacdpmnfaaBCaesurakeepBools
import Derived.Test.YtelkjbacdpmnfaaBCaesurakeepInts
import Derived.Test.YtelkjbacdpmnfaaBCaesurakeepLists
import Derived.Test.YtelkjbacdpmnfaaBSubsetTakes
import Derived.Test.YtelkjbacdpmnfaaBCaesuralaw20SubsetTakes























namespace Go.Proofs.Ytelkjbacdpmnfaa.A
open Go.RowKit Go.W_.PrintWords Go.W_.PrintLast Go.W_.PrintMore
attribute [local go_sem] max2_int min2_int max_two min_two max_three min_three max_four min_four
set_option linter.unusedVariables false
set_option linter.unusedSimpArgs false


end Go.Proofs.Ytelkjbacdpmnfaa.A

namespace Go.Proofs.Ytelkjbacdpmnfaa.A
open Go.RowKit Go.W_.PrintWords Go.W_.PrintLast Go.W_.PrintMore
attribute [local go_sem] max2_int min2_int max_two min_two max_three min_three max_four min_four
set_option linter.unusedVariables false
set_option linter.unusedSimpArgs false

section
variable {a : Int} {nx : List (List Int)} {ac R : List Bool} {C : List Int}
theorem kept_reached {t : Int} : ∀ {k : Nat}, t ∈ keptTo R C k → ∃ s : Nat, t = (s : Int) ∧ s < k ∧ R.getD s false = true
 | 0, h => by simp [keptTo] at h
 | k + 1, h => by
  unfold keptTo at h
  split at h
  ·rename_i hk
   rcases List.mem_append.1 h with h | h
   ·obtain ⟨s, e, hs, hr⟩ := kept_reached h
    exact ⟨s, e, by omega, hr⟩
   ·exact ⟨k, List.mem_singleton.1 h, by omega, hk.1⟩
  ·obtain ⟨s, e, hs, hr⟩ := kept_reached h
   exact ⟨s, e, by omega, hr⟩
theorem codes_nodup : ∀ (k : Nat), (codesOf C (keptTo R C k)).Nodup
 | 0 => List.nodup_nil
 | k + 1 => by
  have ih := codes_nodup k
  unfold keptTo
  split
  ·rename_i hk
   rw [codesOf_snoc]
   refine List.nodup_append.2 ⟨ih, by simp, fun x hx y hy => ?_⟩
   rw [List.mem_singleton.1 hy]
   exact fun e => hk.2 (e ▸ hx)
  ·exact ih
theorem codes_full {s : Nat} (hr : R.getD s false = true) : ∀ {k : Nat}, s < k → C.getD s 0 ∈ codesOf C (keptTo R C k)
 | 0, h => absurd h (Nat.not_lt_zero _)
 | k + 1, h => by
  unfold keptTo
  rcases Nat.lt_or_ge s k with h1 | h1
  ·have ih := codes_full hr h1
   split
   ·rw [codesOf_snoc]; exact List.mem_append.2 (.inl ih)
   ·exact ih
  ·obtain rfl : s = k := by omega
   split
   ·rw [codesOf_snoc]; simp
   ·rename_i hk
    exact Classical.byContradiction fun hn => hk ⟨hr, hn⟩
theorem class_eq {n L : Nat} {st : Nat → Nat → Nat} {acc : Nat → Bool} (hC : IsClasses n L st acc C) {s u : Nat} (hs : s < n) (hu : u < n) : C.getD s 0 = C.getD u 0 ↔ Alike L st acc s u := by
 obtain ⟨x, e1, l1, a1, m1⟩ := hC.2 s hs
 obtain ⟨y, e2, l2, a2, m2⟩ := hC.2 u hu
 rw [e1, e2]
 constructor
 ·intro e
  obtain rfl : x = y := by omega
  exact a1.symm.trans a2
 ·intro e
  rcases Nat.lt_trichotomy x y with h | h | h
  ·exact absurd (a1.trans e) (m2 x h)
  ·rw [h]
  ·exact absurd (a2.trans e.symm) (m1 y h)
theorem idxOf_nodup {l : List Int} (h : l.Nodup) {i : Nat} (hi : i < l.length) : l.idxOf (l.getD i 0) = i := by
 have hm : l.getD i 0 ∈ l := getD_in l 0 hi
 have h1 := List.idxOf_lt_length_iff.2 hm
 have h2 := List.getElem_idxOf h1
 have e : l.getD i 0 = l[i] := by rw [List.getD_eq_getElem?_getD, List.getElem?_eq_getElem hi]; rfl
 rcases Nat.lt_trichotomy (l.idxOf (l.getD i 0)) i with h3 | h3 | h3
 ·exact absurd (h2.trans e) (List.pairwise_iff_getElem.1 h _ _ h1 hi h3)
 ·exact h3
 ·exact absurd (h2.trans e).symm (List.pairwise_iff_getElem.1 h _ _ hi h1 h3)
/-- What is known of the states reached and of the classes. -/
structure Model (a : Int) (nx : List (List Int)) (ac R : List Bool) (C : List Int) : Prop where
 aut : Aut a nx ac
 reach : IsReach nx.length a.toNat (stL nx) R
 cls : IsClasses nx.length a.toNat (stL nx) (acL ac) C
def kepts (nx : List (List Int)) (R : List Bool) (C : List Int) : List Int := keptTo R C nx.length
def repOf (nx : List (List Int)) (R : List Bool) (C : List Int) (i : Nat) : Nat := ((kepts nx R C).getD i 0).toNat
def qnOf (nx : List (List Int)) (R : List Bool) (C : List Int) (s : Nat) : Nat := (codesOf C (kepts nx R C)).idxOf (C.getD s 0)
def bnx (nx : List (List Int)) (R : List Bool) (C : List Int) : List (List Int) := ofNext nx C (kepts nx R C) (kepts nx R C)
def bac (nx : List (List Int)) (ac R : List Bool) (C : List Int) : List Bool := ofEnds ac (kepts nx R C)
theorem bnx_length : (bnx nx R C).length = (kepts nx R C).length := ofNext_length _ _ _ _
theorem bac_length : (bac nx ac R C).length = (kepts nx R C).length := ofEnds_length _ _
theorem rep_is {i : Nat} (hi : i < (kepts nx R C).length) : (kepts nx R C).getD i 0 = ((repOf nx R C i : Nat) : Int) ∧ repOf nx R C i < nx.length ∧ R.getD (repOf nx R C i) false = true := by
 obtain ⟨s, e, hs, hr⟩ := kept_reached (getD_in (kepts nx R C) 0 hi)
 unfold repOf
 rw [e]
 exact ⟨by simp, by simpa using hs, by simpa using hr⟩
theorem codes_at {i : Nat} (hi : i < (kepts nx R C).length) : (codesOf C (kepts nx R C)).getD i 0 = C.getD (repOf nx R C i) 0 := by
 unfold codesOf repOf
 rw [List.getD_eq_getElem?_getD, List.getElem?_map, List.getElem?_eq_getElem hi, List.getD_eq_getElem?_getD (l := kepts nx R C), List.getElem?_eq_getElem hi]
 rfl
theorem Model.gets (M : Model a nx ac R C) {i : Nat} (hi : i < (kepts nx R C).length) : Gets a.toNat (stL nx) (repOf nx R C i) := (M.reach.2 _ (rep_is hi).2.1).1 (rep_is hi).2.2
theorem Model.got_lt (M : Model a nx ac R C) {s : Nat} (h : Gets a.toNat (stL nx) s) : s < nx.length := by
 obtain ⟨w, hw, rfl⟩ := h
 exact runS_lt M.aut.shuts w 0 (by have := M.aut.n1; omega) hw
theorem Model.in_codes (M : Model a nx ac R C) {s : Nat} (h : Gets a.toNat (stL nx) s) : C.getD s 0 ∈ codesOf C (kepts nx R C) := codes_full ((M.reach.2 s (M.got_lt h)).2 h) (M.got_lt h)
theorem Model.qn_lt (M : Model a nx ac R C) {s : Nat} (h : Gets a.toNat (stL nx) s) : qnOf nx R C s < (kepts nx R C).length := by
 have := List.idxOf_lt_length_iff.2 (M.in_codes h)
 rwa [codesOf_length] at this
theorem Model.rep_qn (M : Model a nx ac R C) {s : Nat} (h : Gets a.toNat (stL nx) s) : Alike a.toNat (stL nx) (acL ac) (repOf nx R C (qnOf nx R C s)) s := by
 have hq := M.qn_lt h
 refine (class_eq M.cls (rep_is hq).2.1 (M.got_lt h)).1 ?_
 rw [← codes_at hq, List.getD_eq_getElem?_getD, List.getElem?_eq_getElem (by rw [codesOf_length]; exact hq)]
 exact List.getElem_idxOf _
theorem Model.qn_rep (_ : Model a nx ac R C) {i : Nat} (hi : i < (kepts nx R C).length) : qnOf nx R C (repOf nx R C i) = i := by
 unfold qnOf
 rw [← codes_at hi]
 exact idxOf_nodup (codes_nodup _) (by rw [codesOf_length]; exact hi)
theorem Model.qn_alike (M : Model a nx ac R C) {s u : Nat} (hs : s < nx.length) (hu : u < nx.length) (h : Alike a.toNat (stL nx) (acL ac) s u) : qnOf nx R C s = qnOf nx R C u := by
 unfold qnOf
 rw [(class_eq M.cls hs hu).2 h]
theorem bnx_row {i : Nat} (hi : i < (kepts nx R C).length) : (bnx nx R C).getD i [] = ofRow nx C (kepts nx R C) ((repOf nx R C i : Nat) : Int) := by
 unfold bnx ofNext
 rw [List.getD_eq_getElem?_getD, List.getElem?_map, List.getElem?_eq_getElem hi]
 have e := (rep_is hi).1
 rw [List.getD_eq_getElem?_getD, List.getElem?_eq_getElem hi] at e
 simp only [Option.getD_some] at e
 simp only [Option.map_some, Option.getD_some, e]
theorem Model.st_b (M : Model a nx ac R C) {i c : Nat} (hi : i < (kepts nx R C).length) (hc : c < a.toNat) : ((bnx nx R C).getD i []).getD c 0 = ((qnOf nx R C (stL nx (repOf nx R C i) c) : Nat) : Int) := by
 have hr := rep_is hi
 rw [bnx_row hi]
 unfold ofRow
 rw [Int.toNat_natCast, List.getD_eq_getElem?_getD, List.getElem?_map, List.getElem?_eq_getElem (by rw [M.aut.len hr.2.1]; exact hc)]
 have e := M.aut.st hr.2.1 hc
 rw [List.getD_eq_getElem?_getD (i := c), List.getElem?_eq_getElem (by rw [M.aut.len hr.2.1]; exact hc)] at e
 simp only [Option.getD_some] at e
 simp only [Option.map_some, Option.getD_some, e, Int.toNat_natCast]
 unfold numOf
 rw [if_pos (M.in_codes ((M.gets hi).step hc))]
 rfl
theorem Model.stb (M : Model a nx ac R C) {i c : Nat} (hi : i < (kepts nx R C).length) (hc : c < a.toNat) : stL (bnx nx R C) i c = qnOf nx R C (stL nx (repOf nx R C i) c) := by
 unfold stL
 rw [M.st_b hi hc, Int.toNat_natCast]
 rfl
theorem acb {i : Nat} (hi : i < (kepts nx R C).length) : acL (bac nx ac R C) i = acL ac (repOf nx R C i) := by
 unfold acL bac ofEnds repOf
 rw [List.getD_eq_getElem?_getD, List.getElem?_map, List.getElem?_eq_getElem hi, List.getD_eq_getElem?_getD (l := kepts nx R C), List.getElem?_eq_getElem hi]
 rfl
theorem Model.first (M : Model a nx ac R C) : repOf nx R C 0 = 0 ∧ 0 < (kepts nx R C).length := by
 have hn := M.aut.n1
 have hr : R.getD 0 false = true := (M.reach.2 0 (by omega)).2 Gets.zero
 have key : ∀ k : Nat, ∃ l, keptTo R C (k + 1) = 0 :: l := by
  intro k
  induction k with
  | zero => exact ⟨[], keptTo_new hr (by simp [keptTo, codesOf])⟩
  | succ k ih =>
   obtain ⟨l, e⟩ := ih
   rw [keptTo]
   split
   ·exact ⟨l ++ [((k + 1 : Nat) : Int)], by rw [e]; rfl⟩
   ·exact ⟨l, e⟩
 obtain ⟨l, e⟩ := key (nx.length - 1)
 rw [show nx.length - 1 + 1 = nx.length by omega] at e
 unfold repOf kepts
 rw [e]
 simp
theorem Model.qn_zero (M : Model a nx ac R C) : qnOf nx R C 0 = 0 := by
 have h := M.qn_rep M.first.2
 rwa [M.first.1] at h
/-- The row of letters leads alike. -/
theorem Model.hom (M : Model a nx ac R C) : ∀ (w : List Nat) (s : Nat), Gets a.toNat (stL nx) s → (∀ c ∈ w, c < a.toNat) → runS (stL (bnx nx R C)) (qnOf nx R C s) w = qnOf nx R C (runS (stL nx) s w)
 | [], _, _, _ => rfl
 | c :: w, s, hs, hw => by
  have hc := hw c (by simp)
  have hq := M.qn_lt hs
  have ha := (M.rep_qn hs).step hc
  have e : stL (bnx nx R C) (qnOf nx R C s) c = qnOf nx R C (stL nx s c) := by
   rw [M.stb hq hc]
   exact M.qn_alike (M.aut.shuts _ c (rep_is hq).2.1 hc) (M.aut.shuts _ c (M.got_lt hs) hc) ha
  show runS _ (stL (bnx nx R C) (qnOf nx R C s) c) w = _
  rw [e]
  exact M.hom w _ (hs.step hc) (fun x hx => hw x (by simp [hx]))
theorem Model.ends_b (M : Model a nx ac R C) {s : Nat} (hs : Gets a.toNat (stL nx) s) : acL (bac nx ac R C) (qnOf nx R C s) = acL ac s := by
 rw [acb (M.qn_lt hs)]
 exact (M.rep_qn hs).ends
theorem Gets.run {L : Nat} {st : Nat → Nat → Nat} : ∀ (w : List Nat) {s : Nat}, Gets L st s → (∀ c ∈ w, c < L) → Gets L st (runS st s w)
 | [], _, h, _ => h
 | c :: w, _, h, hw => Gets.run w (h.step (hw c (by simp))) (fun x hx => hw x (by simp [hx]))
/-- The least automaton takes what the automaton takes. -/
theorem Model.takes (M : Model a nx ac R C) {w : List Nat} (hw : ∀ c ∈ w, c < a.toNat) : acL (bac nx ac R C) (runS (stL (bnx nx R C)) 0 w) = acL ac (runS (stL nx) 0 w) := by
 have h := M.hom w 0 Gets.zero hw
 rw [M.qn_zero] at h
 rw [h]
 exact M.ends_b (Gets.zero.run w hw)
theorem Model.good (M : Model a nx ac R C) : goodB a (bnx nx R C) (bac nx ac R C) = true := by
 have h := M.aut
 have ha1 := h.a1
 have ha2 := h.a2
 have hn2 := h.n2
 have hf := M.first.2
 have hK := keptTo_length R C nx.length
 have hl := bnx_length (nx := nx) (R := R) (C := C)
 have hl2 := bac_length (nx := nx) (ac := ac) (R := R) (C := C)
 unfold kepts at hl hl2 hf
 unfold goodB
 simp only [Bool.and_eq_true, decide_eq_true_eq, Bool.not_eq_true', List.any_eq_false]
 refine ⟨⟨⟨⟨⟨ha1, ha2⟩, by omega⟩, by omega⟩, by omega⟩, fun r hr => ?_⟩
 obtain ⟨i, hi, rfl⟩ := List.mem_iff_getElem.1 hr
 have hi' : i < (kepts nx R C).length := by unfold kepts; omega
 have e : (bnx nx R C)[i] = (bnx nx R C).getD i [] := by rw [List.getD_eq_getElem?_getD, List.getElem?_eq_getElem hi]; rfl
 have hrl : ((bnx nx R C).getD i []).length = a.toNat := by rw [bnx_row hi', ofRow_length, h.len (rep_is hi').2.1]
 rw [e]
 unfold BadRow
 simp only [Bool.or_eq_true, Bool.not_eq_true', decide_eq_false_iff_not, not_or, Decidable.not_not, List.any_eq_true, not_exists, not_and]
 refine ⟨by omega, fun x hx => ?_⟩
 obtain ⟨c, hc, rfl⟩ := List.mem_iff_getElem.1 hx
 have hcl : c < a.toNat := by omega
 have e2 := M.st_b hi' hcl
 rw [List.getD_eq_getElem?_getD (i := c), List.getElem?_eq_getElem hc] at e2
 simp only [Option.getD_some] at e2
 rw [e2]
 have hq := M.qn_lt ((M.gets hi').step hcl)
 unfold OutOf
 simp only [Bool.or_eq_true, decide_eq_true_eq, not_or]
 unfold kepts at hq
 omega
end

end Go.Proofs.Ytelkjbacdpmnfaa.A

namespace Go.Proofs.Ytelkjbacdpmnfaa.A
open Go.RowKit Go.W_.PrintWords Go.W_.PrintLast Go.W_.PrintMore
attribute [local go_sem] max2_int min2_int max_two min_two max_three min_three max_four min_four
set_option linter.unusedVariables false
set_option linter.unusedSimpArgs false

section
variable {n L : Nat} {st : Nat → Nat → Nat} {l : List Nat} {i c : Nat}
variable {s0 : Nat} {ok : Nat → Prop}
theorem MetIs.cur (h : MetIs L st s0 ok l i c) (hi : i < l.length) : l[i]? = some (l.getD i 0) ∧ l.getD i 0 ∈ l ∧ ok (l.getD i 0) := by
 have e : l[i]? = some (l.getD i 0) := by
  rw [List.getD_eq_getElem?_getD, List.getElem?_eq_getElem hi]
  rfl
 exact ⟨e, List.mem_of_getElem? e, h.bfs.good _ (List.mem_of_getElem? e)⟩
theorem MetIs.most (h : MetIs L st s0 (fun s => s < n) l i c) : l.length ≤ n := h.bfs.most (code := fun s => s) (fun _ h => h) (fun _ _ _ _ e => e)
end
section
variable {a : Int} {nx : List (List Int)} {ac : List Bool}
abbrev MetOf (a : Int) (nx : List (List Int)) (l : List Nat) : Prop := MetAll a.toNat (stL nx) 0 (fun s => s < nx.length) l
end

end Go.Proofs.Ytelkjbacdpmnfaa.A

namespace Go.Proofs.Ytelkjbacdpmnfaa.A
open Go.RowKit Go.W_.PrintWords Go.W_.PrintLast Go.W_.PrintMore
attribute [local go_sem] max2_int min2_int max_two min_two max_three min_three max_four min_four
set_option linter.unusedVariables false
set_option linter.unusedSimpArgs false

section
variable {a : Int} {nx : List (List Int)} {ac : List Bool} {l : List Nat}
theorem met_first (hm : MetOf a nx l) : l[0]? = some 0 := by
 have h := hm.bfs.first
 cases l with
 | nil => cases h
 | cons x l => simp at h; subst h; rfl
theorem met_pos (hm : MetOf a nx l) : 0 < l.length := (List.getElem?_eq_some_iff.1 (met_first hm)).1
theorem met_at (hm : MetOf a nx l) {s : Nat} (hs : s ∈ l) : l[l.idxOf s]? = some s := by
 have h1 := List.idxOf_lt_length_iff.2 hs
 rw [List.getElem?_eq_getElem h1, List.getElem_idxOf h1]
theorem num_length : (numNext a.toNat (stL nx) l).length = l.length := by simp [numNext]
theorem num_row {i : Nat} (hi : i < l.length) : (numNext a.toNat (stL nx) l).getD i [] = (List.range a.toNat).map fun c => ((l.idxOf (stL nx (l.getD i 0) c) : Nat) : Int) := by
 rw [List.getD_eq_getElem?_getD, List.getD_eq_getElem?_getD]
 unfold numNext
 rw [List.getElem?_map, List.getElem?_eq_getElem hi]
 rfl
theorem num_st {i c : Nat} (hi : i < l.length) (hc : c < a.toNat) : stL (numNext a.toNat (stL nx) l) i c = l.idxOf (stL nx (l.getD i 0) c) := by
 show ((((numNext a.toNat (stL nx) l).getD i []).getD c 0).toNat) = _
 rw [num_row hi, List.getD_eq_getElem?_getD, List.getElem?_map, List.getElem?_range hc]
 rfl
theorem met_cur {i : Nat} (hi : i < l.length) : l[i]? = some (l.getD i 0) := by
 rw [List.getD_eq_getElem?_getD, List.getElem?_eq_getElem hi]
 rfl
theorem num_step (hm : MetOf a nx l) {i c s : Nat} (hi : l[i]? = some s) (hc : c < a.toNat) : l[stL (numNext a.toNat (stL nx) l) i c]? = some (stL nx s c) := by
 have h1 := (List.getElem?_eq_some_iff.1 hi).1
 have e : l.getD i 0 = s := Option.some.inj ((met_cur h1).symm.trans hi)
 rw [num_st h1 hc, e]
 exact met_at hm (MetAll.shut hm (List.mem_of_getElem? hi) hc)
theorem num_run (hm : MetOf a nx l) : ∀ (w : List Nat) {i s : Nat}, l[i]? = some s → (∀ c ∈ w, c < a.toNat) → l[runS (stL (numNext a.toNat (stL nx) l)) i w]? = some (runS (stL nx) s w)
 | [], _, _, h, _ => h
 | c :: w, _, _, h, hw => num_run hm w (num_step hm h (hw c (by simp))) (fun x hx => hw x (by simp [hx]))
theorem num_ends {i s : Nat} (hi : l[i]? = some s) : acL (l.map (acL ac)) i = acL ac s := by
 rw [acL, List.getD_eq_getElem?_getD, List.getElem?_map, hi]
 rfl
theorem num_takes (hm : MetOf a nx l) {w : List Nat} (hw : ∀ c ∈ w, c < a.toNat) : acL (l.map (acL ac)) (runS (stL (numNext a.toNat (stL nx) l)) 0 w) = acL ac (runS (stL nx) 0 w) := num_ends (num_run hm w (met_first hm) hw)
theorem good_of {a : Int} {X : List (List Int)} {Y : List Bool} (h1 : 1 ≤ a) (h2 : a ≤ 64) (h3 : 1 ≤ X.length) (h4 : X.length ≤ 1000) (h5 : Y.length = X.length) (h6 : ∀ i, i < X.length → ((X.getD i []).length : Int) = a ∧ ∀ x ∈ X.getD i [], 0 ≤ x ∧ x < X.length) : goodB a X Y = true := by
 unfold goodB
 simp only [Bool.and_eq_true, decide_eq_true_eq, Bool.not_eq_true', List.any_eq_false]
 refine ⟨⟨⟨⟨⟨h1, h2⟩, by omega⟩, by omega⟩, by omega⟩, fun r hr => ?_⟩
 obtain ⟨i, hi, rfl⟩ := List.mem_iff_getElem.1 hr
 have e : X[i] = X.getD i [] := by rw [List.getD_eq_getElem?_getD, List.getElem?_eq_getElem hi]; rfl
 rw [e]
 have h7 := h6 i hi
 unfold BadRow
 simp only [Bool.or_eq_true, Bool.not_eq_true', decide_eq_false_iff_not, not_or, Decidable.not_not, List.any_eq_true, not_exists, not_and]
 refine ⟨h7.1, fun x hx => ?_⟩
 have h8 := h7.2 x hx
 unfold OutOf
 simp only [Bool.or_eq_true, decide_eq_true_eq, not_or]
 omega
theorem num_good (h : Aut a nx ac) (hm : MetOf a nx l) : goodB a (numNext a.toNat (stL nx) l) (l.map (acL ac)) = true := by
 have ha1 := h.a1
 have ha2 := h.a2
 have hn2 := h.n2
 have hp := met_pos hm
 have hmo : l.length ≤ nx.length := MetIs.most hm
 refine good_of ha1 ha2 (by rw [num_length]; omega) (by rw [num_length]; omega) (by rw [num_length, List.length_map]) fun i hi => ?_
 rw [num_length] at hi ⊢
 rw [num_row hi]
 refine ⟨by simp; omega, fun x hx => ?_⟩
 obtain ⟨c, hc, rfl⟩ := List.mem_map.1 hx
 have h1 := List.idxOf_lt_length_iff.2 (MetAll.shut hm (List.mem_of_getElem? (met_cur hi)) (List.mem_range.1 hc))
 omega
end
section
variable {a : Int} {nx nx' : List (List Int)} {ac ac' : List Bool}
/-- The same rows are taken. -/
def SameRows (a : Int) (nx : List (List Int)) (ac : List Bool) (nx' : List (List Int)) (ac' : List Bool) : Prop := ∀ w : List Nat, (∀ c ∈ w, c < a.toNat) → acL ac (runS (stL nx) 0 w) = acL ac' (runS (stL nx') 0 w)
/-- The least automaton, numbered as it is met. -/
def CanonIs (a : Int) (nx : List (List Int)) (ac : List Bool) (X : List (List Int)) (Y : List Bool) : Prop :=
 ∃ R C l, Model a nx ac R C ∧ MetOf a (bnx nx R C) l ∧ X = numNext a.toNat (stL (bnx nx R C)) l ∧ Y = l.map (acL (bac nx ac R C))
variable {X X' : List (List Int)} {Y Y' : List Bool}
theorem CanonIs.takes (h : CanonIs a nx ac X Y) : SameRows a X Y nx ac := by
 obtain ⟨R, C, l, M, hm, rfl, rfl⟩ := h
 exact fun w hw => (num_takes hm hw).trans (M.takes hw)
theorem CanonIs.good (h : CanonIs a nx ac X Y) : goodB a X Y = true := by
 obtain ⟨R, C, l, M, hm, rfl, rfl⟩ := h
 exact num_good (Aut.of M.good) hm
theorem CanonIs.ends (h : CanonIs a nx ac X Y) : Y.length = X.length := (Aut.of h.good).ends
theorem CanonIs.most (h : CanonIs a nx ac X Y) : X.length ≤ nx.length := by
 obtain ⟨R, C, l, M, hm, rfl, rfl⟩ := h
 rw [num_length]
 refine Nat.le_trans (MetIs.most hm) ?_
 rw [bnx_length]
 exact keptTo_length R C nx.length
end

end Go.Proofs.Ytelkjbacdpmnfaa.A

namespace Go.Proofs.Ytelkjbacdpmnfaa.A
open Go.RowKit Go.W_.PrintWords Go.W_.PrintLast Go.W_.PrintMore
attribute [local go_sem] max2_int min2_int max_two min_two max_three min_three max_four min_four
set_option linter.unusedVariables false
set_option linter.unusedSimpArgs false

section
variable {σ : Type} [DecidableEq σ] {L : Nat} {st : σ → Nat → σ} {s0 : σ} {ok : σ → Prop}
theorem MetIs.round20 {l : List σ} {i : Nat} (h : MetIs L st s0 ok l i 0) {s : σ} (hs : l[i]? = some s) (hok : ∀ c, c < L → ok (st s c)) : MetIs L st s0 ok (growTo st s l L) (i + 1) 0 := by
 have hi := (List.getElem?_eq_some_iff.1 hs).1
 have hge := growTo_ge (st := st) (s := s) (l := l) L
 refine ⟨(Wbfs.grow hs hok h.bfs L (Nat.le_refl _)).turn (by omega), ?_⟩
 have e := h.is_
 rw [metAt_zero] at e
 rw [metAt_zero, metAt_turn]
 unfold metAt
 rw [← e, hs]
theorem prodRun_any (hok : ∀ s c, ok s → c < L → ok (st s c)) (most : Int) : ∀ (d i : Nat) (l : List σ), most.toNat + 1 - i = d → MetIs L st s0 ok l i 0 → ∃ M j, Ev (fun k => prodRun L st most k l i) M ∧ ((M.length : Int) ≤ most ∧ MetAll L st s0 ok M ∨ most < (M.length : Int) ∧ MetIs L st s0 ok M j 0) := by
 intro d
 induction d using Nat.strongRecOn with
 | _ d ih =>
  intro i l hd hM
  have hat := hM.bfs.at_
  by_cases hm : (l.length : Int) ≤ most
  ·by_cases hil : i < l.length
   ·have hs : l[i]? = some l[i] := List.getElem?_eq_getElem hil
    obtain ⟨M, j, h1, h2⟩ := ih (most.toNat + 1 - (i + 1)) (by omega) (i + 1) (growTo st l[i] l L) rfl (MetIs.round20 hM hs (fun c hcl => hok _ c (hM.bfs.good _ (List.mem_of_getElem? hs)) hcl))
    refine ⟨M, j, Ev.step (fun k => ?_) h1, h2⟩
    simp only [prodRun, hs, if_pos hm]
   ·have e : i = l.length := by omega
    refine ⟨l, 0, ?_, .inl ⟨hm, by subst e; exact hM⟩⟩
    refine Ev.step (f := fun _ => some l) (fun k => ?_) (Ev.now _)
    simp only [prodRun, List.getElem?_eq_none (show l.length ≤ i by omega)]
  ·refine ⟨l, i, ?_, .inr ⟨by omega, hM⟩⟩
   refine Ev.step (f := fun _ => some l) (fun k => ?_) (Ev.now _)
   simp only [prodRun, if_neg hm]
   split <;> rfl
theorem Wbfs.le_list {l : List σ} {i c : Nat} (h : Wbfs L st s0 ok l i c) {F : List σ} (h0 : s0 ∈ F) (hF : ∀ x ∈ F, ∀ c, c < L → st x c ∈ F) : l.length ≤ F.length := by
 have hrun : ∀ (w : List Nat) (x : σ), x ∈ F → (∀ c ∈ w, c < L) → runW st x w ∈ F := by
  intro w
  induction w with
  | nil => intro x hx _; exact hx
  | cons c w ih => intro x hx hw; exact ih _ (hF x hx c (hw c (by simp))) (fun y hy => hw y (by simp [hy]))
 have hm : ∀ x ∈ l, x ∈ F := fun x hx => by
  obtain ⟨w, hw, rfl⟩ := h.got x hx
  exact hrun w s0 h0 hw
 have h1 := nodup_bound F.length (l.map fun x => F.idxOf x) (List.pairwise_map.2 (h.once.imp_of_mem fun {x y} hx hy hne e => hne (by
  have h2 := List.idxOf_lt_length_iff.2 (hm x hx)
  have h3 := List.idxOf_lt_length_iff.2 (hm y hy)
  rw [← List.getElem_idxOf h2, ← List.getElem_idxOf h3]
  congr 1))) (fun y hy => by
  obtain ⟨x, hx, rfl⟩ := List.mem_map.1 hy
  exact List.idxOf_lt_length_iff.2 (hm x hx))
 simpa using h1
end
section
variable {a : Int} {L : List (List S82)} {M : List (List Bool)}
abbrev SubAll (a : Int) (L : List (List S82)) (M : List (List Bool)) : Prop := MetAll a.toNat (stepV L) (firstV L) (fun V => V.length = L.length) M
def subN (a : Int) (L : List (List S82)) (M : List (List Bool)) : List (List Int) := numNext a.toNat (stepV L) M
theorem subN_length : (subN a L M).length = M.length := by simp [subN, numNext]
theorem subN_row {x : List Int} (hx : x ∈ subN a L M) : x.length = a.toNat := by
 unfold subN numNext at hx
 obtain ⟨s, _, rfl⟩ := List.mem_map.1 hx
 simp
theorem sub_at {V : List Bool} (hV : V ∈ M) : M[M.idxOf V]? = some V := by
 have h1 := List.idxOf_lt_length_iff.2 hV
 rw [List.getElem?_eq_getElem h1, List.getElem_idxOf h1]
theorem sub_stL {i c : Nat} {V : List Bool} (hi : M[i]? = some V) (hc : c < a.toNat) : stL (subN a L M) i c = M.idxOf (stepV L V c) := by
 show ((((subN a L M).getD i []).getD c 0).toNat) = _
 unfold subN numNext
 rw [List.getD_eq_getElem?_getD, List.getD_eq_getElem?_getD, List.getElem?_map, hi]
 simp only [Option.map_some, Option.getD_some]
 rw [List.getElem?_map, List.getElem?_range hc, idx_vec]
 rfl
theorem sub_st (hF : SubAll a L M) {i c : Nat} {V : List Bool} (hi : M[i]? = some V) (hc : c < a.toNat) : M[stL (subN a L M) i c]? = some (stepV L V c) := by
 rw [sub_stL hi hc]
 exact sub_at (MetAll.shut hF (List.mem_of_getElem? hi) hc)
theorem sub_first (hF : SubAll a L M) : M[0]? = some (firstV L) := by
 have h := hF.bfs.first
 cases M with
 | nil => cases h
 | cons x l => simp at h; subst h; rfl
theorem sub_run (hF : SubAll a L M) : ∀ (w : List Nat) {i : Nat} {V : List Bool}, M[i]? = some V → (∀ c ∈ w, c < a.toNat) → M[runS (stL (subN a L M)) i w]? = some (runW (stepV L) V w)
 | [], _, _, h, _ => h
 | c :: w, _, V, h, hw => sub_run hF w (V := stepV L V c) (sub_st hF h (hw c (by simp))) (fun x hx => hw x (by simp [hx]))
theorem sub_takes (hF : SubAll a L M) {w : List Nat} (hw : ∀ c ∈ w, c < a.toNat) : acL (M.map endV) (runS (stL (subN a L M)) 0 w) = endV (runW (stepV L) (firstV L) w) := by
 have h := sub_run hF w (sub_first hF) hw
 rw [acL, List.getD_eq_getElem?_getD, List.getElem?_map, h]
 rfl
theorem sub_pos (hF : SubAll a L M) : 0 < M.length := (List.getElem?_eq_some_iff.1 (sub_first hF)).1
theorem sub_good (ha : 1 ≤ a) (ha2 : a ≤ 64) (hF : SubAll a L M) (hl : M.length ≤ 1000) : goodB a (subN a L M) (M.map endV) = true := by
 have hp := sub_pos hF
 refine good_of ha ha2 (by rw [subN_length]; omega) (by rw [subN_length]; omega) (by rw [subN_length, List.length_map]) fun i hi => ?_
 rw [subN_length] at hi ⊢
 have hm : (subN a L M).getD i [] ∈ subN a L M := getD_in _ _ (by rw [subN_length]; exact hi)
 refine ⟨by rw [subN_row hm]; omega, fun x hx => ?_⟩
 unfold subN numNext at hx
 rw [List.getD_eq_getElem?_getD, List.getElem?_map, List.getElem?_eq_getElem hi] at hx
 obtain ⟨c, hc, rfl⟩ := List.mem_map.1 hx
 have h1 := List.idxOf_lt_length_iff.2 (MetAll.shut hF (List.getElem_mem hi) (List.mem_range.1 hc))
 rw [idx_vec] at h1
 omega
theorem ev_subOf (hg : goodNetB a L = true) (hR : rowsOk L) (most : Int) : ∃ M j, Ev (fun k => subset_Of.f k a L most) (subRes a L (prodMost most) M) ∧ ((M.length : Int) ≤ prodMost most ∧ SubAll a L M ∨ prodMost most < (M.length : Int) ∧ MetIs a.toNat (stepV L) (firstV L) (fun V => V.length = L.length) M j 0) := by
 obtain ⟨M, j, h1, h2⟩ := prodRun_any (L := a.toNat) (st := stepV L) (s0 := firstV L) (ok := fun V => V.length = L.length) (fun s c _ _ => stepV_length L s c) (prodMost most) _ 0 [firstV L] rfl (MetIs.start (vecOf_length _ _))
 refine ⟨M, j, ?_, h2⟩
 unfold subset_Of.f subF
 simp only [rowsOkB_of hR, hg, if_true]
 exact Ev.bind h1 (Ev.now _)
theorem subRes_ok {m : Int} (h : (M.length : Int) ≤ m) : subRes a L m M = (a, subN a L M, M.map endV, 0) := by
 unfold subRes
 rw [if_neg (by omega)]
 rfl
theorem subRes_over {m : Int} (h : m < (M.length : Int)) : subRes a L m M = (0, [], [], 14) := by
 unfold subRes
 rw [if_pos (by omega)]
theorem goesV_run {w : List Nat} (hw : ∀ c ∈ w, c < a.toNat) (V : List Bool) : goesV a L V (castL w) = endV (runW (stepV L) V w) := by
 induction w generalizing V with
 | nil => rfl
 | cons c w ih =>
  have hc := hw c (by simp)
  show goesV a L V ((c : Int) :: castL w) = _
  unfold goesV
  rw [if_neg (by omega), Int.toNat_natCast]
  exact ih (fun x hx => hw x (by simp [hx])) _
end
theorem prodMost_small20 {m : Int} (h : m ≤ 1000) : prodMost m = m := by
 unfold prodMost
 rw [if_neg (by omega)]

end Go.Proofs.Ytelkjbacdpmnfaa.A

namespace Go.Proofs.Ytelkjbacdpmnfaa.A
open Go.RowKit Go.W_.PrintWords Go.W_.PrintLast Go.W_.PrintMore
attribute [local go_sem] max2_int min2_int max_two min_two max_three min_three max_four min_four
set_option linter.unusedVariables false
set_option linter.unusedSimpArgs false

section
variable {a : Int} {L : List (List S82)} {M : List (List Bool)}
theorem sub_rowlen {s : Nat} (hs : s < M.length) : (rd_L5 (subN a L M) (s : Int)).length = a.toNat := by
 rw [rd5_nat]
 exact subN_row (getD_in _ _ (by rw [subN_length]; exact hs))
theorem sub_rd {s c : Nat} {V : List Bool} (hs : M[s]? = some V) (hc : c < a.toNat) : rd (rd_L5 (subN a L M) (s : Int)) (c : Int) = ((M.idxOf (stepV L V c) : Nat) : Int) := by
 rw [rd5_nat, rd_nat]
 unfold subN numNext
 rw [List.getD_eq_getElem?_getD, List.getD_eq_getElem?_getD, List.getElem?_map, hs]
 simp only [Option.map_some, Option.getD_some]
 rw [List.getElem?_map, List.getElem?_range hc, idx_vec]
 rfl
theorem ev_subsetOf_self (hg : goodNetB a L = true) (hR : rowsOk L) (hF : SubAll a L M) (hl : M.length ≤ 1000) : Ev (fun k => subset_Of.f k a L (M.length : Int)) (a, subN a L M, M.map endV, 0) := by
 obtain ⟨M', j, h1, h2⟩ := ev_subOf hg hR (M.length : Int)
 rw [prodMost_small20 (show (M.length : Int) ≤ 1000 by omega)] at h1 h2
 have hshut : ∀ x ∈ M, ∀ c, c < a.toNat → stepV L x c ∈ M := fun x hx c hc => MetAll.shut hF hx hc
 have h0 : firstV L ∈ M := List.mem_of_getElem? (sub_first hF)
 rcases h2 with ⟨h3, h2⟩ | ⟨h3, h2⟩
 ·obtain rfl := h2.unique hF
  rw [subRes_ok h3] at h1
  exact h1
 ·have := h2.bfs.le_list h0 hshut
  omega
theorem ev_subsetOf_less (hg : goodNetB a L = true) (hR : rowsOk L) (hF : SubAll a L M) (hl : M.length ≤ 1000) : Ev (fun k => subset_Of.f k a L ((M.length : Int) - 1)) (0, [], [], 14) := by
 obtain ⟨M', j, h1, h2⟩ := ev_subOf hg hR ((M.length : Int) - 1)
 rw [prodMost_small20 (show (M.length : Int) - 1 ≤ 1000 by omega)] at h1 h2
 rcases h2 with ⟨h3, h2⟩ | ⟨h3, h2⟩
 ·obtain rfl := h2.unique hF
  omega
 ·rw [subRes_over h3] at h1
  exact h1
end

end Go.Proofs.Ytelkjbacdpmnfaa.A

namespace Go.Proofs.Ytelkjbacdpmnfaa.A
open Go.RowKit Go.W_.PrintWords Go.W_.PrintLast Go.W_.PrintMore
attribute [local go_sem] max2_int min2_int max_two min_two max_three min_three max_four min_four
set_option linter.unusedVariables false
set_option linter.unusedSimpArgs false

section
variable {σ : Type} [DecidableEq σ] {L : Nat} {st : σ → Nat → σ} {s0 : σ} {ok : σ → Prop} {l : List σ}
theorem growTo_more20 {s x : σ} {m : List σ} {j c : Nat} (h : (growTo st s m c)[j]? = some x) : ∀ d, (growTo st s m (c + d))[j]? = some x
 | 0 => h
 | d + 1 => by
  show (growTo st s m (c + d + 1))[j]? = some x
  unfold growTo
  split
  ·exact growTo_more20 h d
  ·rw [List.getElem?_append_left (List.getElem?_eq_some_iff.1 (growTo_more20 h d)).1]
   exact growTo_more20 h d
theorem metUpto_more20 {x : σ} {i j : Nat} (h : (metUpto L st s0 i)[j]? = some x) : ∀ d, (metUpto L st s0 (i + d))[j]? = some x
 | 0 => h
 | d + 1 => by
  show (metUpto L st s0 (i + d + 1))[j]? = some x
  unfold metUpto
  split
  ·exact metUpto_more20 h d
  next s hs => exact growTo_more20 (c := 0) (metUpto_more20 h d) L ▸ (by rw [Nat.zero_add])
theorem metAt_pre20 (hl : MetAll L st s0 ok l) {i c j : Nat} {x : σ} (hc : c ≤ L) (h : (metAt L st s0 i c)[j]? = some x) : l[j]? = some x := by
 have h1 : (metUpto L st s0 (i + 1))[j]? = some x := by
  rw [metAt_turn]
  unfold metAt at h ⊢
  split at h
  ·exact h
  ·have h2 := growTo_more20 h (L - c)
   rwa [show c + (L - c) = L by omega] at h2
 have h3 := metUpto_more20 h1 l.length
 rw [show i + 1 + l.length = l.length + (i + 1) by omega, hl.stays] at h3
 exact h3
theorem metUpto_has20 (hl : MetAll L st s0 ok l) {i : Nat} (hi : i < l.length) : (metUpto L st s0 i)[i]? = l[i]? := by
 cases h : (metUpto L st s0 i)[i]? with
 | some x =>
  have h2 := metUpto_more20 h l.length
  rw [show i + l.length = l.length + i by omega, hl.stays] at h2
  exact h2.symm
 | none =>
  have hst : ∀ d, metUpto L st s0 (i + d) = metUpto L st s0 i := by
   intro d
   induction d with
   | zero => rfl
   | succ d ih =>
    show metUpto L st s0 (i + d + 1) = _
    have hn : (metUpto L st s0 (i + d))[i + d]? = none := by
     rw [ih, List.getElem?_eq_none]
     have := List.getElem?_eq_none_iff.1 h
     omega
    show (match (metUpto L st s0 (i + d))[i + d]? with | none => metUpto L st s0 (i + d) | some s => growTo st s (metUpto L st s0 (i + d)) L) = _
    rw [hn]
    exact ih
  have h2 := hst l.length
  rw [show i + l.length = l.length + i by omega, hl.stays] at h2
  have := List.getElem?_eq_none_iff.1 h
  rw [← h2] at this
  omega
omit [DecidableEq σ] in
theorem idx_at20 [BEq σ] [LawfulBEq σ] (hn : l.Nodup) {j : Nat} {x : σ} (h : l[j]? = some x) : l.idxOf x = j := by
 obtain ⟨hj, e⟩ := List.getElem?_eq_some_iff.1 h
 have hm : x ∈ l := List.mem_of_getElem? h
 have h1 := List.idxOf_lt_length_iff.2 hm
 have h2 := List.getElem_idxOf h1
 exact (List.getElem_inj hn).1 (h2.trans e.symm)
/-- What a step meets. -/
theorem met_step20 (hl : MetAll L st s0 ok l) [BEq σ] [LawfulBEq σ] {i c : Nat} {s : σ} (hs : l[i]? = some s) (hc : c < L) : (l.idxOf (st s c) < (metAt L st s0 i c).length ∧ metAt L st s0 i (c + 1) = metAt L st s0 i c) ∨ (l.idxOf (st s c) = (metAt L st s0 i c).length ∧ (metAt L st s0 i (c + 1)).length = (metAt L st s0 i c).length + 1) := by
 have hi := (List.getElem?_eq_some_iff.1 hs).1
 have h0 := (metUpto_has20 hl hi).trans hs
 have hcur : (metAt L st s0 i c)[i]? = some s := by
  unfold metAt
  rw [h0]
  exact growTo_get h0 c
 by_cases hm : st s c ∈ metAt L st s0 i c
 ·left
  obtain ⟨j, hj, e⟩ := List.mem_iff_getElem.1 hm
  have h1 := metAt_pre20 hl (Nat.le_of_lt hc) (List.getElem?_eq_some_iff.2 ⟨hj, e⟩)
  rw [idx_at20 hl.bfs.once h1]
  exact ⟨hj, metAt_old hcur hm⟩
 ·right
  have h1 := metAt_new hcur hm
  have h2 : (metAt L st s0 i (c + 1))[(metAt L st s0 i c).length]? = some (st s c) := by rw [h1]; simp
  have h3 := metAt_pre20 hl (show c + 1 ≤ L by omega) h2
  rw [idx_at20 hl.bfs.once h3, h1]
  exact ⟨rfl, by simp⟩
end

end Go.Proofs.Ytelkjbacdpmnfaa.A

namespace Go.Proofs.Ytelkjbacdpmnfaa.A
open Go.RowKit Go.W_.PrintWords Go.W_.PrintLast Go.W_.PrintMore
attribute [local go_sem] max2_int min2_int max_two min_two max_three min_three max_four min_four
set_option linter.unusedVariables false
set_option linter.unusedSimpArgs false

theorem rd82_nat (l : List S82) (i : Nat) : rd_T82 l (i : Int) = l.getD i z82 := by unfold rd_T82; rw [Int.toNat_natCast]
theorem ev_refGoodNet_l1 (a : Int) (l : List (List S82)) (ha : 1 ≤ a) (ha2 : a ≤ 64) (hl : l.length ≤ 4000) (i : Nat) (hi : i < l.length) (hs : (l.getD i []).length ≤ 1000000) (R : Bool) (h : Ev (fun k => cr19_GoodNet.l0 k ((i + 1 : Nat) : Int) a l) R) :
  ∀ (d c : Nat), c + d = (l.getD i []).length → Ev (fun k => cr19_GoodNet.l1 k (i : Int) (c : Int) a l) (if ((l.getD i []).drop c).any (BadEdge a l.length) then false else R) := by
 intro d
 induction d with
 | zero =>
  intro c hc
  rw [List.drop_of_length_le (by omega)]
  refine Ev.step (f := fun k => cr19_GoodNet.l0 k ((i + 1 : Nat) : Int) a l) (fun k => ?_) (by simpa using h)
  simp only [cr19_GoodNet.l1, rd2_nat]
  rw [if_pos (by omega), if_pos (by omega), if_neg (by omega), wadd (by omega) (by omega), nat_succ_cast]
 | succ d ih =>
  intro c hc
  have hcl : c < (l.getD i []).length := by omega
  rw [drop_cons_getD _ z82 c hcl, List.any_cons]
  by_cases hb : BadEdge a l.length ((l.getD i []).getD c z82) = true
  ·rw [hb, Bool.true_or, if_pos rfl]
   refine Ev.step (f := fun _ => some false) (fun k => ?_) (Ev.now _)
   simp only [cr19_GoodNet.l1, rd2_nat, rd82_nat]
   rw [if_pos (by omega), if_pos (by omega), if_pos (by omega), if_pos (by omega)]
   generalize (l.getD i []).getD c z82 = e at hb ⊢
   unfold BadEdge at hb
   simp only [Bool.or_eq_true, Bool.and_eq_true, Bool.not_eq_true', decide_eq_true_eq, decide_eq_false_iff_not] at hb
   by_cases h1 : e.f0 < -1
   ·rw [if_pos h1]
   ·by_cases h2 : e.f0 ≥ a
    ·rw [if_neg h1, if_pos h2]
    ·by_cases h3 : e.f1 < 0
     ·rw [if_neg h1, if_neg h2, if_pos h3]
     ·rw [if_neg h1, if_neg h2, if_neg h3, if_pos (by omega)]
  ·have hbf : BadEdge a l.length ((l.getD i []).getD c z82) = false := by simpa using hb
   rw [hbf, Bool.false_or]
   refine Ev.step (f := fun k => cr19_GoodNet.l1 k (i : Int) ((c + 1 : Nat) : Int) a l) (fun k => ?_) (ih (c + 1) (by omega))
   simp only [cr19_GoodNet.l1, rd2_nat, rd82_nat]
   rw [if_pos (by omega), if_pos (by omega), if_pos (by omega), if_pos (by omega), wadd (by omega) (by omega), nat_succ_cast]
   generalize (l.getD i []).getD c z82 = e at hbf ⊢
   unfold BadEdge at hbf
   simp only [Bool.or_eq_false_iff, Bool.and_eq_false_iff, Bool.not_eq_false', decide_eq_true_eq, decide_eq_false_iff_not] at hbf
   rw [if_neg (by omega), if_neg (by omega), if_neg (by omega), if_neg (by omega)]
theorem ev_refGoodNet (a : Int) (l : List (List S82)) (hr : ∀ x ∈ l, x.length ≤ 1000000) : Ev (fun k => cr19_GoodNet.f k a l) (goodNetB a l) := by
 have hj : Ev (fun k => cr19_GoodNet.j0 k true a l) false := Ev.step (f := fun _ => some false) (fun k => by simp only [cr19_GoodNet.j0, if_true]) (Ev.now _)
 unfold cr19_GoodNet.f goodNetB
 by_cases h1 : a < 1
 ·simp only [if_pos h1]
  rw [decide_eq_false (show ¬ 1 ≤ a by omega)]
  simpa using hj
 ·by_cases h2 : a > 64
  ·simp only [if_neg h1, if_pos h2]
   rw [decide_eq_false (show ¬ a ≤ 64 by omega)]
   simpa using hj
  ·by_cases h3 : (l.length : Int) < 2
   ·simp only [if_neg h1, if_neg h2, if_pos h3]
    rw [decide_eq_false (show ¬ 2 ≤ (l.length : Int) by omega)]
    simpa using hj
   ·simp only [if_neg h1, if_neg h2, if_neg h3]
    rw [decide_eq_true (show 1 ≤ a by omega), decide_eq_true (show a ≤ 64 by omega), decide_eq_true (show 2 ≤ (l.length : Int) by omega)]
    by_cases h4 : (l.length : Int) > 4000
    ·rw [decide_eq_true h4, decide_eq_false (show ¬ (l.length : Int) ≤ 4000 by omega)]
     simpa using hj
    ·rw [decide_eq_false h4, decide_eq_true (show (l.length : Int) ≤ 4000 by omega)]
     have key : ∀ (d i : Nat), i + d = l.length → Ev (fun k => cr19_GoodNet.l0 k (i : Int) a l) (!(l.drop i).any (BadEdges a l.length)) := by
      intro d
      induction d with
      | zero =>
       intro i hi
       rw [List.drop_of_length_le (by omega)]
       refine Ev.step (f := fun _ => some true) (fun k => ?_) (Ev.now _)
       simp only [cr19_GoodNet.l0]
       rw [if_neg (by omega)]
      | succ d ih =>
       intro i hi
       have hil : i < l.length := by omega
       rw [drop_cons_getD _ [] i hil, List.any_cons]
       refine Ev.step (f := fun k => cr19_GoodNet.l1 k (i : Int) ((0 : Nat) : Int) a l) (fun k => ?_) ?_
       ·simp only [cr19_GoodNet.l0]
        rw [if_pos (by omega)]
        rfl
       ·have h := ev_refGoodNet_l1 a l (by omega) (by omega) (by omega) i hil (small_len hr hil) _ (ih (i + 1) (by omega)) _ 0 (Nat.zero_add _)
        have e : (!(BadEdges a l.length (l.getD i []) || (l.drop (i + 1)).any (BadEdges a l.length))) = (if ((l.getD i []).drop 0).any (BadEdge a l.length) then false else !(l.drop (i + 1)).any (BadEdges a l.length)) := by
         rw [List.drop_zero]
         unfold BadEdges
         cases (l.getD i []).any (BadEdge a l.length) <;> simp
        rw [e]
        exact h
     refine Ev.step (f := fun k => cr19_GoodNet.l0 k 0 a l) (fun k => ?_) (by simpa using key l.length 0 (by omega))
     simp only [cr19_GoodNet.j0]
     rw [if_neg (by decide)]
end Go.Proofs.Ytelkjbacdpmnfaa.A

namespace Go.Proofs.Ytelkjbacdpmnfaa.A
open Go.RowKit Go.W_.PrintWords Go.W_.PrintLast Go.W_.PrintMore
attribute [local go_sem] max2_int min2_int max_two min_two max_three min_three max_four min_four
set_option linter.unusedVariables false
set_option linter.unusedSimpArgs false

theorem ev_Ints_same (l : List Int) (hn : l.length ≤ 1000000) : Ev (fun k => ck_Ints.f k l l) true := by
 have key : ∀ (d i : Nat), i + d = l.length → Ev (fun k => ck_Ints.l0 k l l (i : Int)) true := by
  intro d
  induction d with
  | zero =>
   intro i hi
   refine Ev.step (f := fun _ => some true) (fun k => ?_) (Ev.now _)
   simp only [ck_Ints.l0]
   rw [if_neg (by omega)]
  | succ d ih =>
   intro i hi
   refine Ev.step (f := fun k => ck_Ints.l0 k l l ((i + 1 : Nat) : Int)) (fun k => ?_) (ih (i + 1) (by omega))
   simp only [ck_Ints.l0, rd_nat]
   rw [if_pos (by omega), if_pos (by omega), if_pos (by omega), if_pos trivial, wadd (by omega) (by omega), nat_succ_cast]
 have h := key l.length 0 (by omega)
 simpa [ck_Ints.f] using h
theorem ev_Bools_same (l : List Bool) (hn : l.length ≤ 1000000) : Ev (fun k => ck_Bools.f k l l) true := by
 have key : ∀ (d i : Nat), i + d = l.length → Ev (fun k => ck_Bools.l0 k l l (i : Int)) true := by
  intro d
  induction d with
  | zero =>
   intro i hi
   refine Ev.step (f := fun _ => some true) (fun k => ?_) (Ev.now _)
   simp only [ck_Bools.l0]
   rw [if_neg (by omega)]
  | succ d ih =>
   intro i hi
   refine Ev.step (f := fun k => ck_Bools.l0 k l l ((i + 1 : Nat) : Int)) (fun k => ?_) (ih (i + 1) (by omega))
   simp only [ck_Bools.l0, rdb_nat, bne_self_eq_false]
   rw [if_pos (by omega), if_pos (by omega), if_pos (by omega), if_neg (by decide), wadd (by omega) (by omega), nat_succ_cast]
 have h := key l.length 0 (by omega)
 simpa [ck_Bools.f] using h
theorem ev_Lists_same (l : List (List Int)) (hn : l.length ≤ 1000000) (hr : ∀ x ∈ l, x.length ≤ 1000000) : Ev (fun k => ck_Lists.f k l l) true := by
 have key : ∀ (d i : Nat), i + d = l.length → Ev (fun k => ck_Lists.l0 k l l (i : Int)) true := by
  intro d
  induction d with
  | zero =>
   intro i hi
   refine Ev.step (f := fun _ => some true) (fun k => ?_) (Ev.now _)
   simp only [ck_Lists.l0]
   rw [if_neg (by omega)]
  | succ d ih =>
   intro i hi
   have hil : i < l.length := by omega
   have hs := small_len (d := []) hr hil
   refine Ev.step (f := fun k => (ck_Ints.f k (l.getD i []) (l.getD i [])).bind fun t103 => if t103 = true then ck_Lists.l0 k l l ((i + 1 : Nat) : Int) else some false) (fun k => ?_) (Ev.bind (ev_Ints_same _ hs) ?_)
   ·simp only [ck_Lists.l0, rd5_nat]
    rw [if_pos (by omega), if_pos (by omega), if_pos (by omega), wadd (by omega) (by omega), nat_succ_cast]
   ·simpa using ih (i + 1) (by omega)
 have h := key l.length 0 (by omega)
 simpa [ck_Lists.f] using h
theorem ev_Automaton_same (a : Int) (nx : List (List Int)) (ac : List Bool) (hn : nx.length ≤ 1000000) (hr : ∀ x ∈ nx, x.length ≤ 1000000) (ha : ac.length ≤ 1000000) : Ev (fun k => ck_Automaton.f k a nx ac a nx ac) true := by
 unfold ck_Automaton.f
 simp only [if_true]
 refine Ev.bind (ev_Lists_same nx hn hr) ?_
 simp only [if_true]
 refine Ev.bind (ev_Bools_same ac ha) ?_
 exact Ev.now _

end Go.Proofs.Ytelkjbacdpmnfaa.A

namespace Go.Proofs.Ytelkjbacdpmnfaa.A
open Go.RowKit Go.W_.PrintWords Go.W_.PrintLast Go.W_.PrintMore
attribute [local go_sem] max2_int min2_int max_two min_two max_three min_three max_four min_four
set_option linter.unusedVariables false
set_option linter.unusedSimpArgs false

theorem ev_subsetTakes {a : Int} {nx : List (List Int)} {ac : List Bool} (hg : goodB a nx ac = true) {w : List Nat} (hw : ∀ c ∈ w, c < a.toNat) (hl : w.length ≤ 1000) : Ev (fun k => subset_Takes.f k a nx ac (castL w)) (acL ac (runS (stL nx) 0 w)) := by
 have h := Aut.of hg
 have hen := h.ends
 have hn1 := h.n1
 have key : ∀ (d i s : Nat), i + d = w.length → s < nx.length → Ev (fun k => subset_Takes.l0 k (s : Int) (castL w) (w.length : Int) (i : Int) a nx ac) (acL ac (runS (stL nx) s (w.drop i))) := by
  intro d
  induction d with
  | zero =>
   intro i s hi hs
   rw [List.drop_of_length_le (by omega)]
   refine Ev.step (f := fun _ => some (acL ac s)) (fun k => ?_) (Ev.now _)
   simp only [subset_Takes.l0, rdb_nat]
   rw [if_neg (by omega), if_pos (by omega), if_pos (by omega)]
   rfl
  | succ d ih =>
   intro i s hi hs
   have hil : i < w.length := by omega
   obtain ⟨c, hc⟩ : ∃ c, c = w.getD i 0 := ⟨_, rfl⟩
   have hcl : c < a.toNat := by rw [hc]; exact hw _ (getD_in w 0 hil)
   have e : w.drop i = c :: w.drop (i + 1) := by
    rw [List.drop_eq_getElem_cons hil, hc, List.getD_eq_getElem?_getD, List.getElem?_eq_getElem hil]
    rfl
   have hlen := h.len hs
   rw [e]
   refine Ev.step (fun k => ?_) (ih (i + 1) (stL nx s c) (by omega) (h.shuts s c hs hcl))
   simp only [subset_Takes.l0, rd_nat, castL_getD hil, ← hc, rd5_nat, castL_length, h.st hs hcl]
   rw [if_pos (by omega), if_pos (by omega), if_pos (by omega), if_neg (by omega), if_neg (by omega), if_pos (by omega), if_pos (by omega), if_pos (by omega), if_pos (by omega), wadd (by omega) (by omega), nat_succ_cast]
 have h0 := key w.length 0 0 (by omega) (by omega)
 rw [List.drop_zero] at h0
 refine Ev.congr (fun k => ?_) h0
 unfold subset_Takes.f thompson_Good.f
 rw [hg, castL_length]
 rfl

end Go.Proofs.Ytelkjbacdpmnfaa.A

namespace Go.Proofs.Ytelkjbacdpmnfaa.A
open Go.RowKit Go.W_.PrintWords Go.W_.PrintLast
set_option linter.unusedVariables false

theorem ev_succ20 {α : Type} {g : Nat → Option α} {r : α} (h : Ev (fun k => g (k + 1)) r) : Ev g r := Ev.step (fun _ => rfl) h
theorem ev_wakes20 : Ev (fun k => cl20_wakes.f k) true := Ev.now _
section
variable {a : Int} {L : List (List S82)} {M : List (List Bool)}
abbrev metL (a : Int) (L : List (List S82)) (s c : Nat) : Nat := (metAt a.toNat (stepV L) (firstV L) s c).length
theorem subsetTakes_l2 (h1 : 1 ≤ a) (h2 : a ≤ 64) (hF : SubAll a L M) (hl : M.length ≤ 1000) {x5 : List Int} {x10 x12 : Int} {s : Nat} {V : List Bool} (hs : M[s]? = some V) {b1 : Int} {b2 : List (List Int)} {b3 : List Bool} (hnext : Ev (fun k => cl20_SubsetTakes.l1 k x5 x10 x12 ((metL a L s a.toNat : Nat) : Int) ((s + 1 : Nat) : Int) a L a (subN a L M) (M.map endV) b1 b2 b3) true) :
  ∀ (d c : Nat), c + d = a.toNat → Ev (fun k => cl20_SubsetTakes.l2 k x5 x10 x12 ((metL a L s c : Nat) : Int) (s : Int) (c : Int) a L a (subN a L M) (M.map endV) b1 b2 b3) true := by
 have hsl := (List.getElem?_eq_some_iff.1 hs).1
 intro d
 induction d with
 | zero =>
  intro c hc
  obtain rfl : c = a.toNat := by omega
  refine Ev.step (fun k => ?_) hnext
  simp only [cl20_SubsetTakes.l2]
  rw [if_neg (by omega), wadd (by omega) (by omega), nat_succ_cast]
 | succ d ih =>
  intro c hc
  have hcl : c < a.toNat := by omega
  have hih := ih (c + 1) (by omega)
  have hml : metL a L s (c + 1) ≤ M.length := by
   rcases Nat.lt_or_ge M.length (metL a L s (c + 1)) with h | h
   ·have h3 := metAt_pre20 hF (i := s) (c := c + 1) (by omega) (List.getElem?_eq_getElem (show M.length < (metAt a.toNat (stepV L) (firstV L) s (c + 1)).length from h))
    rw [List.getElem?_eq_none (Nat.le_refl _)] at h3
    cases h3
   ·exact h
  refine Ev.step (fun k => ?_) hih
  simp only [cl20_SubsetTakes.l2, sub_rowlen hsl, sub_rd hs hcl, subN_length]
  rw [if_pos (by omega), if_pos (by omega), if_pos (by omega), if_pos (by omega), if_pos (by omega)]
  rcases met_step20 hF hs hcl with ⟨h3, h4⟩ | ⟨h3, h4⟩
  ·have h5 : metL a L s (c + 1) = metL a L s c := by unfold metL; rw [h4]
   have h3' : M.idxOf (stepV L V c) < metL a L s c := h3
   rw [if_neg (by omega), if_neg (by omega), wadd (by omega) (by omega), nat_succ_cast, h5]
  ·have h5 : metL a L s (c + 1) = metL a L s c + 1 := h4
   have h3' : M.idxOf (stepV L V c) = metL a L s c := h3
   rw [if_neg (by omega), if_pos (by omega), wadd (by omega) (by omega), wadd (by omega) (by omega), nat_succ_cast, nat_succ_cast, h5]
theorem subsetTakes_l1 (h1 : 1 ≤ a) (h2 : a ≤ 64) (hF : SubAll a L M) (hl : M.length ≤ 1000) {x5 : List Int} {x10 x12 : Int} {b1 : Int} {b2 : List (List Int)} {b3 : List Bool} (hend : Ev (fun k => cl20_SubsetTakes.l1 k x5 x10 x12 (M.length : Int) (M.length : Int) a L a (subN a L M) (M.map endV) b1 b2 b3) true) :
  ∀ (d s : Nat), s + d = M.length → Ev (fun k => cl20_SubsetTakes.l1 k x5 x10 x12 (((metUpto a.toNat (stepV L) (firstV L) s).length : Nat) : Int) (s : Int) a L a (subN a L M) (M.map endV) b1 b2 b3) true := by
 intro d
 induction d with
 | zero =>
  intro s hs
  obtain rfl : s = M.length := by omega
  have e := MetAll.is_ hF
  rw [← e]
  exact hend
 | succ d ih =>
  intro s hs
  have hsl : s < M.length := by omega
  have h := subsetTakes_l2 h1 h2 hF hl (x5 := x5) (x10 := x10) (x12 := x12) (List.getElem?_eq_getElem hsl) (b1 := b1) (b2 := b2) (b3 := b3) (ih (s + 1) (by omega)) a.toNat 0 (by omega)
  unfold metL at h
  rw [metAt_zero] at h
  refine Ev.step (fun k => ?_) h
  simp only [cl20_SubsetTakes.l1, subN_length]
  rw [if_pos (by omega)]
  rfl
theorem subsetTakes_end (hg : goodNetB a L = true) (hR : rowsOk L) (x1 : List Int) (w : List Nat) (hw : ∀ c ∈ w, c < a.toNat) (hl : w.length ≤ 1000) (x6 : Int) (h6 : ¬ x6 < (x1.length : Int)) :
  Ev (fun k => cl20_SubsetTakes.l0 k x1 (castL w) x6 a L) true := by
 have hO := NetOk.of hg
 obtain ⟨M, j, h1, h2⟩ := ev_subOf hg hR 120
 have e120 : prodMost 120 = 120 := rfl
 rw [e120] at h1 h2
 refine ev_succ20 ?_
 simp only [cl20_SubsetTakes.l0, if_neg h6]
 refine Ev.bind h1 ?_
 rcases h2 with ⟨h3, hF⟩ | ⟨h3, _⟩
 ·rw [subRes_ok h3]
  have hG := sub_good hO.a1 hO.a2 hF (by omega)
  have hE := ev_refGood a (subN a L M) (M.map endV)
  rw [hG] at hE
  simp only [if_true]
  refine Ev.bind hE ?_
  simp only [if_true, subN_length]
  have hp := sub_pos hF
  rw [show wrap64 ((M.length : Int) - 1) = (M.length : Int) - 1 from wself (by omega) (by omega)]
  refine Ev.bind (ev_subsetOf_self hg hR hF (by omega)) (Ev.bind (ev_subsetOf_less hg hR hF (by omega)) ?_)
  have hz := subsetTakes_l1 hO.a1 hO.a2 hF (by omega) (x5 := castL w) (x10 := 0) (x12 := 14) (b1 := a) (b2 := subN a L M) (b3 := M.map endV) ?_ M.length 0 (by omega)
  ·exact hz
  ·refine ev_succ20 ?_
   simp only [cl20_SubsetTakes.l1, subN_length]
   simp only [if_neg (show ¬ (M.length : Int) < (M.length : Int) by omega), if_true]
   refine Ev.bind (ev_Automaton_same a (subN a L M) (M.map endV) (by rw [subN_length]; omega) (fun r hr => by rw [subN_row hr]; have := hO.a2; omega) (by rw [List.length_map]; omega)) ?_
   simp only [if_true]
   refine Ev.bind (ev_subsetTakes hG hw hl) ?_
   have hgo : subset_Goes.f a L (castL w) = some (endV (runW (stepV L) (firstV L) w)) := by
    unfold subset_Goes.f goesF
    rw [if_pos (rowsOkB_of hR), if_pos hg, goesV_run hw]
   simp only [hgo, Option.bind_some]
   rw [sub_takes hF hw]
   simp only [beq_self_eq_true, if_true]
   exact Ev.bind ev_wakes20 (Ev.now _)
 ·rw [subRes_over h3]
  simp only [List.length_nil]
  exact Ev.bind ev_wakes20 (Ev.now _)
end
theorem subsetTakes_ev (a : Int) (L : List (List S82)) (x1 : List Int) (hx : ∀ x ∈ x1, (Lit.int .u8 x).wf = true) (hR1 : ∀ r ∈ L, r.length ≤ 1000000) : Ev (fun k => cl20_SubsetTakes.f k a L x1) true := by
 have hR : rowsOk L := fun r hr => Nat.le_trans (hR1 r hr) (by decide)
 have hj : Ev (fun k => cl20_SubsetTakes.j0 k x1 true a L) true := by
  refine ev_succ20 ?_
  simp only [cl20_SubsetTakes.j0, if_true]
  exact Ev.bind ev_wakes20 (Ev.now _)
 unfold cl20_SubsetTakes.f
 refine Ev.bind (ev_refGoodNet a L hR1) ?_
 cases hg : goodNetB a L with
 | false =>
  simp only [Bool.false_eq_true, if_false]
  exact hj
 | true =>
  simp only [if_true]
  by_cases h5 : (L.length : Int) > 30
  ·simp only [if_pos h5]
   exact hj
  ·simp only [if_neg h5]
   by_cases h6 : (x1.length : Int) > 30
   ·simp only [decide_eq_true h6]
    exact hj
   ·simp only [decide_eq_false h6]
    refine ev_succ20 ?_
    simp only [cl20_SubsetTakes.j0, Bool.false_eq_true, if_false]
    have ha := (NetOk.of hg).a1
    have hr : ∀ x ∈ x1, wrap64 x = x ∧ 0 ≤ x := fun x hm => by
     have h3 := hx x hm
     simp only [Lit.wf, Bool.and_eq_true, decide_eq_true_eq] at h3
     have h4 : (0 : Int) ≤ x := h3.1
     have h5 : x ≤ (255 : Int) := h3.2
     exact ⟨wself (by omega) (by omega), h4⟩
    obtain ⟨w, hw⟩ : ∃ w : List Nat, w = x1.map fun x => (Int.tmod (wrap64 x) a).toNat := ⟨_, rfl⟩
    have hwl : w.length = x1.length := by rw [hw]; simp
    have hwc : ∀ c ∈ w, c < a.toNat := fun c hc => by
     rw [hw] at hc
     obtain ⟨x, hm, rfl⟩ := List.mem_map.1 hc
     obtain ⟨e, h0⟩ := hr x hm
     rw [e]
     have := Int.tmod_lt_of_pos x (show 0 < a by omega)
     have := Int.tmod_nonneg a h0
     omega
    have key : ∀ (d i : Nat), i + d = x1.length → Ev (fun k => cl20_SubsetTakes.l0 k x1 (castL (w.take i)) (i : Int) a L) true := by
     intro d
     induction d with
     | zero =>
      intro i hi
      rw [List.take_of_length_le (by omega)]
      exact subsetTakes_end hg hR x1 w hwc (by omega) _ (by omega)
     | succ d ih =>
      intro i hi
      have hil : i < x1.length := by omega
      have hih := ih (i + 1) (by omega)
      have e : castL (w.take (i + 1)) = castL (w.take i) ++ [Int.tmod (wrap64 (x1.getD i 0)) a] := by
       rw [List.take_succ_eq_append_getElem (by omega), castL_snoc]
       congr 2
       simp only [hw, List.getElem_map]
       obtain ⟨e, h0⟩ := hr x1[i] (List.getElem_mem hil)
       rw [List.getD_eq_getElem?_getD, List.getElem?_eq_getElem hil]
       simp only [Option.getD_some]
       rw [e]
       have := Int.tmod_nonneg a h0
       omega
      rw [e] at hih
      refine Ev.step (fun k => ?_) hih
      simp only [cl20_SubsetTakes.l0, rd_nat, castL_length, List.length_take]
      rw [if_pos (by omega), if_pos (by omega), if_neg (by omega), if_pos (by omega), wadd (by omega) (by omega), nat_succ_cast]
    exact key x1.length 0 (by omega)
theorem subsetTakes_pure (a0_0 : Int) (l0_1 : List (List (S82))) (l1 : List Int) (wa0 : (Lit.int .i64 a0_0).wf = true) (wl0 : ∀ x ∈ l0_1, ∀ e ∈ x, (Lit.int .i64 e.f0).wf = true ∧ (Lit.int .i64 e.f1).wf = true) (wl1 : ∀ x ∈ l1, (Lit.int .u8 x).wf = true) (hR1 : ∀ r ∈ l0_1, r.length ≤ 1000000) : ∃ k, cl20_SubsetTakes.f k a0_0 l0_1 l1 = some true :=
 (subsetTakes_ev a0_0 l0_1 l1 wl1 hR1).rounds
end Go.Proofs.Ytelkjbacdpmnfaa.A
