/- The law NumberApart: the walk's ways together, with the plain texts. No conditions. -/
import Derived.Test.YtelkjbacdpmnfaaB0
import Derived.Test.YtelkjbacdpmnfaaBLeastClasses
import Derived.Test.YtelkjbacdpmnfaaBLeastOf
import Derived.Test.YtelkjbacdpmnfaaBLeastReach
import Derived.Test.YtelkjbacdpmnfaaBPlainAut
import Derived.Test.YtelkjbacdpmnfaaBPlainBase
import Derived.Test.YtelkjbacdpmnfaaBThompsonGood
import Derived.Test.YtelkjbacdpmnfaaBNumberOf
import Derived.Test.YtelkjbacdpmnfaaBPlainGood
import Derived.Test.YtelkjbacdpmnfaaBLeastBlocks
import Derived.Test.YtelkjbacdpmnfaaBLeastSplit
import Derived.Test.YtelkjbacdpmnfaaBSlicesIndexIntInt
import Derived.Test.YtelkjbacdpmnfaaBNumberAlike
import Derived.Test.YtelkjbacdpmnfaaBNumberCanon
import Derived.Test.YtelkjbacdpmnfaaBNumberSame
import Derived.Test.YtelkjbacdpmnfaaBProdF
import Derived.Test.YtelkjbacdpmnfaaBCaesuralaw24Wakes
import Derived.Test.YtelkjbacdpmnfaaBProductNot
import Derived.Test.YtelkjbacdpmnfaaBWordsA
import Derived.Test.YtelkjbacdpmnfaaBApartMain
import Derived.Test.YtelkjbacdpmnfaaBCaesuralaw22Wakes
namespace Go.Proofs.Ytelkjbacdpmnfaa.A
open Go.RowKit Go.W_.PrintWords Go.W_.PrintLast Go.W_.PrintMore
attribute [local go_sem] max2_int min2_int max_two min_two max_three min_three max_four min_four
set_option linter.unusedVariables false
set_option linter.unusedSimpArgs false

section
variable {a : Int} {nx : List (List Int)} {ac R : List Bool} {C : List Int}
theorem ofOk_of (h : Aut a nx ac) (hR : IsReach nx.length a.toNat (stL nx) R) (hC : IsClasses nx.length a.toNat (stL nx) (acL ac) C) : OfOk nx ac R C := by
  have ha2 := h.a2
  refine ⟨hR.1, hC.1, h.ends, h.n2, fun r hr => ?_, fun x hx => ?_⟩
  · obtain ⟨s, hs, rfl⟩ := List.mem_iff_getElem.1 hr
    have e : nx[s] = nx.getD s [] := by rw [List.getD_eq_getElem?_getD, List.getElem?_eq_getElem hs]; rfl
    rw [e]
    have hl := h.len hs
    refine ⟨by omega, fun x hx => ?_⟩
    obtain ⟨c, hc, rfl⟩ := List.mem_iff_getElem.1 hx
    have h1 := h.to_ s c hs (by omega)
    rwa [List.getD_eq_getElem?_getD (i := c), List.getElem?_eq_getElem hc] at h1
  · obtain ⟨s, hs, rfl⟩ := List.mem_iff_getElem.1 hx
    obtain ⟨u, e, hu, _⟩ := hC.2 s (by rw [← hC.1]; exact hs)
    rw [List.getD_eq_getElem?_getD, List.getElem?_eq_getElem hs] at e
    simp only [Option.getD_some] at e
    have := hC.1
    omega
def leastOf (a : Int) (nx : List (List Int)) (ac R : List Bool) (C : List Int) : Int × List (List Int) × List Bool × Bool := (a, ofNext nx C (keptTo R C nx.length) (keptTo R C nx.length), ofEnds ac (keptTo R C nx.length), true)
theorem ev_leastOf (hg : goodB a nx ac = true) (hR : Ev (fun k => least_Reach.f k a nx ac) R) (hC : Ev (fun k => least_Classes.f k a nx ac) C) (ho : OfOk nx ac R C) : Ev (fun k => least_Of.f k a nx ac) (leastOf a nx ac R C) := by
  refine Ev.congr (f := fun k => (least_Reach.f k a nx ac).bind fun R => (least_Classes.f k a nx ac).bind fun C => if ofOk nx ac R C = true then some (leastOf a nx ac R C) else none) (fun k => ?_) ?_
  · unfold least_Of.f thompson_Good.f
    rw [hg]
    rfl
  · refine Ev.bind (f := fun k R => (least_Classes.f k a nx ac).bind fun C => if ofOk nx ac R C = true then some (leastOf a nx ac R C) else none) hR ?_
    refine Ev.bind (f := fun k C => if ofOk nx ac R C = true then some (leastOf a nx ac R C) else none) hC ?_
    exact Ev.congr (f := fun _ => some (leastOf a nx ac R C)) (fun k => if_pos ho.intro) (Ev.now _)
end

end Go.Proofs.Ytelkjbacdpmnfaa.A

namespace Go.Proofs.Ytelkjbacdpmnfaa.A
open Go.RowKit Go.W_.PrintWords Go.W_.PrintLast Go.W_.PrintMore
attribute [local go_sem] max2_int min2_int max_two min_two max_three min_three max_four min_four
set_option linter.unusedVariables false
set_option linter.unusedSimpArgs false

section
variable {a : Int} {nx : List (List Int)} {ac R : List Bool} {C : List Int}
theorem kept_reached {t : Int} : ∀ {k : Nat}, t ∈ keptTo R C k → ∃ s : Nat, t = (s : Int) ∧ s < k ∧ R.getD s false = true
  | 0, h => by simp [keptTo] at h
  | k + 1, h => by
    unfold keptTo at h
    split at h
    · rename_i hk
      rcases List.mem_append.1 h with h | h
      · obtain ⟨s, e, hs, hr⟩ := kept_reached h
        exact ⟨s, e, by omega, hr⟩
      · exact ⟨k, List.mem_singleton.1 h, by omega, hk.1⟩
    · obtain ⟨s, e, hs, hr⟩ := kept_reached h
      exact ⟨s, e, by omega, hr⟩
theorem codes_nodup : ∀ (k : Nat), (codesOf C (keptTo R C k)).Nodup
  | 0 => List.nodup_nil
  | k + 1 => by
    have ih := codes_nodup k
    unfold keptTo
    split
    · rename_i hk
      rw [codesOf_snoc]
      refine List.nodup_append.2 ⟨ih, by simp, fun x hx y hy => ?_⟩
      rw [List.mem_singleton.1 hy]
      exact fun e => hk.2 (e ▸ hx)
    · exact ih
theorem codes_full {s : Nat} (hr : R.getD s false = true) : ∀ {k : Nat}, s < k → C.getD s 0 ∈ codesOf C (keptTo R C k)
  | 0, h => absurd h (Nat.not_lt_zero _)
  | k + 1, h => by
    unfold keptTo
    rcases Nat.lt_or_ge s k with h1 | h1
    · have ih := codes_full hr h1
      split
      · rw [codesOf_snoc]; exact List.mem_append.2 (.inl ih)
      · exact ih
    · obtain rfl : s = k := by omega
      split
      · rw [codesOf_snoc]; simp
      · rename_i hk
        exact Classical.byContradiction fun hn => hk ⟨hr, hn⟩
theorem class_eq {n L : Nat} {st : Nat → Nat → Nat} {acc : Nat → Bool} (hC : IsClasses n L st acc C) {s u : Nat} (hs : s < n) (hu : u < n) : C.getD s 0 = C.getD u 0 ↔ Alike L st acc s u := by
  obtain ⟨x, e1, l1, a1, m1⟩ := hC.2 s hs
  obtain ⟨y, e2, l2, a2, m2⟩ := hC.2 u hu
  rw [e1, e2]
  constructor
  · intro e
    obtain rfl : x = y := by omega
    exact a1.symm.trans a2
  · intro e
    rcases Nat.lt_trichotomy x y with h | h | h
    · exact absurd (a1.trans e) (m2 x h)
    · rw [h]
    · exact absurd (a2.trans e.symm) (m1 y h)
theorem idxOf_nodup {l : List Int} (h : l.Nodup) {i : Nat} (hi : i < l.length) : l.idxOf (l.getD i 0) = i := by
  have hm : l.getD i 0 ∈ l := getD_in l 0 hi
  have h1 := List.idxOf_lt_length_iff.2 hm
  have h2 := List.getElem_idxOf h1
  have e : l.getD i 0 = l[i] := by rw [List.getD_eq_getElem?_getD, List.getElem?_eq_getElem hi]; rfl
  rcases Nat.lt_trichotomy (l.idxOf (l.getD i 0)) i with h3 | h3 | h3
  · exact absurd (h2.trans e) (List.pairwise_iff_getElem.1 h _ _ h1 hi h3)
  · exact h3
  · exact absurd (h2.trans e).symm (List.pairwise_iff_getElem.1 h _ _ hi h1 h3)
/-- What is known of the states reached and of the classes. -/
structure Model (a : Int) (nx : List (List Int)) (ac R : List Bool) (C : List Int) : Prop where
  aut : Aut a nx ac
  reach : IsReach nx.length a.toNat (stL nx) R
  cls : IsClasses nx.length a.toNat (stL nx) (acL ac) C
def kepts (nx : List (List Int)) (R : List Bool) (C : List Int) : List Int := keptTo R C nx.length
def repOf (nx : List (List Int)) (R : List Bool) (C : List Int) (i : Nat) : Nat := ((kepts nx R C).getD i 0).toNat
def qnOf (nx : List (List Int)) (R : List Bool) (C : List Int) (s : Nat) : Nat := (codesOf C (kepts nx R C)).idxOf (C.getD s 0)
def bnx (nx : List (List Int)) (R : List Bool) (C : List Int) : List (List Int) := ofNext nx C (kepts nx R C) (kepts nx R C)
def bac (nx : List (List Int)) (ac R : List Bool) (C : List Int) : List Bool := ofEnds ac (kepts nx R C)
theorem leastOf_eq : leastOf a nx ac R C = (a, bnx nx R C, bac nx ac R C, true) := rfl
theorem bnx_length : (bnx nx R C).length = (kepts nx R C).length := ofNext_length _ _ _ _
theorem bac_length : (bac nx ac R C).length = (kepts nx R C).length := ofEnds_length _ _
theorem rep_is {i : Nat} (hi : i < (kepts nx R C).length) : (kepts nx R C).getD i 0 = ((repOf nx R C i : Nat) : Int) ∧ repOf nx R C i < nx.length ∧ R.getD (repOf nx R C i) false = true := by
  obtain ⟨s, e, hs, hr⟩ := kept_reached (getD_in (kepts nx R C) 0 hi)
  unfold repOf
  rw [e]
  exact ⟨by simp, by simpa using hs, by simpa using hr⟩
theorem codes_at {i : Nat} (hi : i < (kepts nx R C).length) : (codesOf C (kepts nx R C)).getD i 0 = C.getD (repOf nx R C i) 0 := by
  unfold codesOf repOf
  rw [List.getD_eq_getElem?_getD, List.getElem?_map, List.getElem?_eq_getElem hi, List.getD_eq_getElem?_getD (l := kepts nx R C), List.getElem?_eq_getElem hi]
  rfl
theorem Model.gets (M : Model a nx ac R C) {i : Nat} (hi : i < (kepts nx R C).length) : Gets a.toNat (stL nx) (repOf nx R C i) := (M.reach.2 _ (rep_is hi).2.1).1 (rep_is hi).2.2
theorem Model.got_lt (M : Model a nx ac R C) {s : Nat} (h : Gets a.toNat (stL nx) s) : s < nx.length := by
  obtain ⟨w, hw, rfl⟩ := h
  exact runS_lt M.aut.shuts w 0 (by have := M.aut.n1; omega) hw
theorem Model.in_codes (M : Model a nx ac R C) {s : Nat} (h : Gets a.toNat (stL nx) s) : C.getD s 0 ∈ codesOf C (kepts nx R C) := codes_full ((M.reach.2 s (M.got_lt h)).2 h) (M.got_lt h)
theorem Model.qn_lt (M : Model a nx ac R C) {s : Nat} (h : Gets a.toNat (stL nx) s) : qnOf nx R C s < (kepts nx R C).length := by
  have := List.idxOf_lt_length_iff.2 (M.in_codes h)
  rwa [codesOf_length] at this
theorem Model.rep_qn (M : Model a nx ac R C) {s : Nat} (h : Gets a.toNat (stL nx) s) : Alike a.toNat (stL nx) (acL ac) (repOf nx R C (qnOf nx R C s)) s := by
  have hq := M.qn_lt h
  refine (class_eq M.cls (rep_is hq).2.1 (M.got_lt h)).1 ?_
  rw [← codes_at hq, List.getD_eq_getElem?_getD, List.getElem?_eq_getElem (by rw [codesOf_length]; exact hq)]
  exact List.getElem_idxOf _
theorem Model.qn_rep (_ : Model a nx ac R C) {i : Nat} (hi : i < (kepts nx R C).length) : qnOf nx R C (repOf nx R C i) = i := by
  unfold qnOf
  rw [← codes_at hi]
  exact idxOf_nodup (codes_nodup _) (by rw [codesOf_length]; exact hi)
theorem Model.qn_alike (M : Model a nx ac R C) {s u : Nat} (hs : s < nx.length) (hu : u < nx.length) (h : Alike a.toNat (stL nx) (acL ac) s u) : qnOf nx R C s = qnOf nx R C u := by
  unfold qnOf
  rw [(class_eq M.cls hs hu).2 h]
theorem bnx_row {i : Nat} (hi : i < (kepts nx R C).length) : (bnx nx R C).getD i [] = ofRow nx C (kepts nx R C) ((repOf nx R C i : Nat) : Int) := by
  unfold bnx ofNext
  rw [List.getD_eq_getElem?_getD, List.getElem?_map, List.getElem?_eq_getElem hi]
  have e := (rep_is hi).1
  rw [List.getD_eq_getElem?_getD, List.getElem?_eq_getElem hi] at e
  simp only [Option.getD_some] at e
  simp only [Option.map_some, Option.getD_some, e]
theorem Model.st_b (M : Model a nx ac R C) {i c : Nat} (hi : i < (kepts nx R C).length) (hc : c < a.toNat) : ((bnx nx R C).getD i []).getD c 0 = ((qnOf nx R C (stL nx (repOf nx R C i) c) : Nat) : Int) := by
  have hr := rep_is hi
  rw [bnx_row hi]
  unfold ofRow
  rw [Int.toNat_natCast, List.getD_eq_getElem?_getD, List.getElem?_map, List.getElem?_eq_getElem (by rw [M.aut.len hr.2.1]; exact hc)]
  have e := M.aut.st hr.2.1 hc
  rw [List.getD_eq_getElem?_getD (i := c), List.getElem?_eq_getElem (by rw [M.aut.len hr.2.1]; exact hc)] at e
  simp only [Option.getD_some] at e
  simp only [Option.map_some, Option.getD_some, e, Int.toNat_natCast]
  unfold numOf
  rw [if_pos (M.in_codes ((M.gets hi).step hc))]
  rfl
theorem Model.stb (M : Model a nx ac R C) {i c : Nat} (hi : i < (kepts nx R C).length) (hc : c < a.toNat) : stL (bnx nx R C) i c = qnOf nx R C (stL nx (repOf nx R C i) c) := by
  unfold stL
  rw [M.st_b hi hc, Int.toNat_natCast]
  rfl
theorem acb {i : Nat} (hi : i < (kepts nx R C).length) : acL (bac nx ac R C) i = acL ac (repOf nx R C i) := by
  unfold acL bac ofEnds repOf
  rw [List.getD_eq_getElem?_getD, List.getElem?_map, List.getElem?_eq_getElem hi, List.getD_eq_getElem?_getD (l := kepts nx R C), List.getElem?_eq_getElem hi]
  rfl
theorem Model.first (M : Model a nx ac R C) : repOf nx R C 0 = 0 ∧ 0 < (kepts nx R C).length := by
  have hn := M.aut.n1
  have hr : R.getD 0 false = true := (M.reach.2 0 (by omega)).2 Gets.zero
  have key : ∀ k : Nat, ∃ l, keptTo R C (k + 1) = 0 :: l := by
    intro k
    induction k with
    | zero => exact ⟨[], keptTo_new hr (by simp [keptTo, codesOf])⟩
    | succ k ih =>
      obtain ⟨l, e⟩ := ih
      rw [keptTo]
      split
      · exact ⟨l ++ [((k + 1 : Nat) : Int)], by rw [e]; rfl⟩
      · exact ⟨l, e⟩
  obtain ⟨l, e⟩ := key (nx.length - 1)
  rw [show nx.length - 1 + 1 = nx.length by omega] at e
  unfold repOf kepts
  rw [e]
  simp
theorem Model.qn_zero (M : Model a nx ac R C) : qnOf nx R C 0 = 0 := by
  have h := M.qn_rep M.first.2
  rwa [M.first.1] at h
/-- The row of letters leads alike. -/
theorem Model.hom (M : Model a nx ac R C) : ∀ (w : List Nat) (s : Nat), Gets a.toNat (stL nx) s → (∀ c ∈ w, c < a.toNat) → runS (stL (bnx nx R C)) (qnOf nx R C s) w = qnOf nx R C (runS (stL nx) s w)
  | [], _, _, _ => rfl
  | c :: w, s, hs, hw => by
    have hc := hw c (by simp)
    have hq := M.qn_lt hs
    have ha := (M.rep_qn hs).step hc
    have e : stL (bnx nx R C) (qnOf nx R C s) c = qnOf nx R C (stL nx s c) := by
      rw [M.stb hq hc]
      exact M.qn_alike (M.aut.shuts _ c (rep_is hq).2.1 hc) (M.aut.shuts _ c (M.got_lt hs) hc) ha
    show runS _ (stL (bnx nx R C) (qnOf nx R C s) c) w = _
    rw [e]
    exact M.hom w _ (hs.step hc) (fun x hx => hw x (by simp [hx]))
theorem Model.ends_b (M : Model a nx ac R C) {s : Nat} (hs : Gets a.toNat (stL nx) s) : acL (bac nx ac R C) (qnOf nx R C s) = acL ac s := by
  rw [acb (M.qn_lt hs)]
  exact (M.rep_qn hs).ends
theorem Gets.run {L : Nat} {st : Nat → Nat → Nat} : ∀ (w : List Nat) {s : Nat}, Gets L st s → (∀ c ∈ w, c < L) → Gets L st (runS st s w)
  | [], _, h, _ => h
  | c :: w, _, h, hw => Gets.run w (h.step (hw c (by simp))) (fun x hx => hw x (by simp [hx]))
/-- The least automaton takes what the automaton takes. -/
theorem Model.takes (M : Model a nx ac R C) {w : List Nat} (hw : ∀ c ∈ w, c < a.toNat) : acL (bac nx ac R C) (runS (stL (bnx nx R C)) 0 w) = acL ac (runS (stL nx) 0 w) := by
  have h := M.hom w 0 Gets.zero hw
  rw [M.qn_zero] at h
  rw [h]
  exact M.ends_b (Gets.zero.run w hw)
theorem Model.good (M : Model a nx ac R C) : goodB a (bnx nx R C) (bac nx ac R C) = true := by
  have h := M.aut
  have ha1 := h.a1
  have ha2 := h.a2
  have hn2 := h.n2
  have hf := M.first.2
  have hK := keptTo_length R C nx.length
  have hl := bnx_length (nx := nx) (R := R) (C := C)
  have hl2 := bac_length (nx := nx) (ac := ac) (R := R) (C := C)
  unfold kepts at hl hl2 hf
  unfold goodB
  simp only [Bool.and_eq_true, decide_eq_true_eq, Bool.not_eq_true', List.any_eq_false]
  refine ⟨⟨⟨⟨⟨ha1, ha2⟩, by omega⟩, by omega⟩, by omega⟩, fun r hr => ?_⟩
  obtain ⟨i, hi, rfl⟩ := List.mem_iff_getElem.1 hr
  have hi' : i < (kepts nx R C).length := by unfold kepts; omega
  have e : (bnx nx R C)[i] = (bnx nx R C).getD i [] := by rw [List.getD_eq_getElem?_getD, List.getElem?_eq_getElem hi]; rfl
  have hrl : ((bnx nx R C).getD i []).length = a.toNat := by rw [bnx_row hi', ofRow_length, h.len (rep_is hi').2.1]
  rw [e]
  unfold BadRow
  simp only [Bool.or_eq_true, Bool.not_eq_true', decide_eq_false_iff_not, not_or, Decidable.not_not, List.any_eq_true, not_exists, not_and]
  refine ⟨by omega, fun x hx => ?_⟩
  obtain ⟨c, hc, rfl⟩ := List.mem_iff_getElem.1 hx
  have hcl : c < a.toNat := by omega
  have e2 := M.st_b hi' hcl
  rw [List.getD_eq_getElem?_getD (i := c), List.getElem?_eq_getElem hc] at e2
  simp only [Option.getD_some] at e2
  rw [e2]
  have hq := M.qn_lt ((M.gets hi').step hcl)
  unfold OutOf
  simp only [Bool.or_eq_true, decide_eq_true_eq, not_or]
  unfold kepts at hq
  omega
theorem Model.run_rep (M : Model a nx ac R C) {i : Nat} (hi : i < (kepts nx R C).length) {w : List Nat} (hw : ∀ c ∈ w, c < a.toNat) : acL (bac nx ac R C) (runS (stL (bnx nx R C)) i w) = acL ac (runS (stL nx) (repOf nx R C i) w) := by
  have h := M.hom w (repOf nx R C i) (M.gets hi) hw
  rw [M.qn_rep hi] at h
  rw [h]
  exact M.ends_b ((M.gets hi).run w hw)
theorem Model.apart_b (M : Model a nx ac R C) {i j : Nat} (hi : i < (kepts nx R C).length) (hj : j < (kepts nx R C).length) (h : Alike a.toNat (stL (bnx nx R C)) (acL (bac nx ac R C)) i j) : i = j := by
  have ha : Alike a.toNat (stL nx) (acL ac) (repOf nx R C i) (repOf nx R C j) := fun w hw => by
    rw [← M.run_rep hi hw, ← M.run_rep hj hw]
    exact h w hw
  rw [← M.qn_rep hi, ← M.qn_rep hj]
  exact M.qn_alike (rep_is hi).2.1 (rep_is hj).2.1 ha
end

end Go.Proofs.Ytelkjbacdpmnfaa.A

namespace Go.Proofs.Ytelkjbacdpmnfaa.A
open Go.RowKit Go.W_.PrintWords Go.W_.PrintLast Go.W_.PrintMore
attribute [local go_sem] max2_int min2_int max_two min_two max_three min_three max_four min_four
set_option linter.unusedVariables false
set_option linter.unusedSimpArgs false

section
variable {n L : Nat} {st : Nat → Nat → Nat} {l : List Nat} {i c : Nat}
/-- Of each state its number, d for one that is not met. -/
def marks (d : Int) (n : Nat) (l : List Nat) : List Int := (List.range n).map fun s => if s ∈ l then ((l.idxOf s : Nat) : Int) else d
theorem marks_length (d : Int) (n : Nat) (l : List Nat) : (marks d n l).length = n := by simp [marks]
theorem marks_get {d : Int} {s : Nat} (hs : s < n) : (marks d n l).getD s 0 = if s ∈ l then ((l.idxOf s : Nat) : Int) else d := by
  rw [List.getD_eq_getElem?_getD]
  unfold marks
  rw [List.getElem?_map, List.getElem?_range hs]
  rfl
theorem idxOf_snoc {s : Nat} (hm : s ∉ l) : (l ++ [s]).idxOf s = l.length := by
  rw [List.idxOf_append, if_neg hm]
  simp
theorem idxOf_more {s : Nat} (hm : s ∈ l) (y : Nat) : (l ++ [y]).idxOf s = l.idxOf s := by rw [List.idxOf_append, if_pos hm]
theorem marks_set {d : Int} {s : Nat} (hs : s < n) (hm : s ∉ l) : (marks d n l).set s (l.length : Int) = marks d n (l ++ [s]) := by
  apply List.ext_getElem (by simp [marks])
  intro j h1 h2
  rw [List.getElem_set]
  have hj : j < n := by simpa [marks] using h2
  simp only [marks, List.getElem_map, List.getElem_range]
  by_cases he : s = j
  · subst he
    rw [if_pos rfl, if_pos (by simp), idxOf_snoc hm]
  · rw [if_neg he]
    by_cases hjl : j ∈ l
    · rw [if_pos hjl, if_pos (by simp [hjl]), idxOf_more hjl]
    · rw [if_neg hjl, if_neg (by simp [hjl, Ne.symm he])]
def rowTo (st : Nat → Nat → Nat) (l : List Nat) (s : Nat) (c : Nat) : List Int := (List.range c).map fun c => ((l.idxOf (st s c) : Nat) : Int)
def numTo (L : Nat) (st : Nat → Nat → Nat) (l : List Nat) (i : Nat) : List (List Int) := (l.take i).map fun s => rowTo st l s L
def endsAt (ac : List Bool) (l : List Nat) (i : Nat) : List Bool := (l.take i).map (acL ac)
theorem rowTo_length (s : Nat) : (rowTo st l s c).length = c := by simp [rowTo]
theorem rowTo_snoc (s : Nat) : rowTo st l s (c + 1) = rowTo st l s c ++ [((l.idxOf (st s c) : Nat) : Int)] := by
  unfold rowTo
  rw [List.range_succ, List.map_append]
  rfl
theorem rowTo_grow {s y : Nat} (h : ∀ c', c' < c → st s c' ∈ l) : rowTo st (l ++ [y]) s c = rowTo st l s c := by
  unfold rowTo
  apply List.map_congr_left
  intro c' hc
  rw [idxOf_more (h c' (List.mem_range.1 hc))]
variable {s0 : Nat} {ok : Nat → Prop}
theorem numTo_grow (h : Wbfs L st s0 ok l i c) (y : Nat) : numTo L st (l ++ [y]) i = numTo L st l i := by
  unfold numTo
  rw [List.take_append_of_le_length h.at_]
  apply List.map_congr_left
  intro s hs
  obtain ⟨j, hj, e⟩ := List.mem_iff_getElem.1 hs
  rw [List.length_take] at hj
  rw [List.getElem_take] at e
  exact rowTo_grow fun c' hc' => h.done j s (by omega) (List.getElem?_eq_some_iff.2 ⟨by omega, e⟩) c' hc'
theorem endsAt_grow (ac : List Bool) (h : i ≤ l.length) (y : Nat) : endsAt ac (l ++ [y]) i = endsAt ac l i := by
  unfold endsAt
  rw [List.take_append_of_le_length h]
theorem take_turn (hi : i < l.length) : l.take (i + 1) = l.take i ++ [l.getD i 0] := by
  rw [List.take_succ_eq_append_getElem hi, List.getD_eq_getElem?_getD, List.getElem?_eq_getElem hi]
  rfl
theorem numTo_turn (hi : i < l.length) : numTo L st l (i + 1) = numTo L st l i ++ [rowTo st l (l.getD i 0) L] := by
  unfold numTo
  rw [take_turn hi, List.map_append]
  rfl
theorem endsAt_turn (ac : List Bool) (hi : i < l.length) : endsAt ac l (i + 1) = endsAt ac l i ++ [ac.getD (l.getD i 0) false] := by
  unfold endsAt
  rw [take_turn hi, List.map_append]
  rfl
theorem numTo_length : (numTo L st l i).length ≤ l.length := by simp [numTo]; omega
theorem endsAt_length (ac : List Bool) : (endsAt ac l i).length ≤ l.length := by simp [endsAt]; omega
theorem MetIs.cur (h : MetIs L st s0 ok l i c) (hi : i < l.length) : l[i]? = some (l.getD i 0) ∧ l.getD i 0 ∈ l ∧ ok (l.getD i 0) := by
  have e : l[i]? = some (l.getD i 0) := by
    rw [List.getD_eq_getElem?_getD, List.getElem?_eq_getElem hi]
    rfl
  exact ⟨e, List.mem_of_getElem? e, h.bfs.good _ (List.mem_of_getElem? e)⟩
theorem MetIs.most (h : MetIs L st s0 (fun s => s < n) l i c) : l.length ≤ n := h.bfs.most (code := fun s => s) (fun _ h => h) (fun _ _ _ _ e => e)
end
section
variable {a : Int} {nx : List (List Int)} {ac : List Bool}
/-- What the automaton meets. -/
abbrev MetIn (a : Int) (nx : List (List Int)) (l : List Nat) (i c : Nat) : Prop := MetIs a.toNat (stL nx) 0 (fun s => s < nx.length) l i c
abbrev MetOf (a : Int) (nx : List (List Int)) (l : List Nat) : Prop := MetAll a.toNat (stL nx) 0 (fun s => s < nx.length) l
def numdOf (a : Int) (nx : List (List Int)) (ac : List Bool) (l : List Nat) : Int × List (List Int) × List Bool × Bool := (a, numNext a.toNat (stL nx) l, l.map (acL ac), true)
theorem num_end {l : List Nat} {i : Nat} (hB : MetIn a nx l i 0) (hi : ¬ i < l.length) : MetOf a nx l ∧ numdOf a nx ac l = (a, numTo a.toNat (stL nx) l i, endsAt ac l i, true) := by
  have e : i = l.length := by have := hB.bfs.at_; omega
  subst e
  refine ⟨hB, ?_⟩
  unfold numdOf numTo endsAt
  rw [List.take_length]
  rfl
theorem ev_numdOf_l2 (h : Aut a nx ac) (i : Nat)
    (hnext : ∀ (l : List Nat), i < l.length → MetIn a nx l (i + 1) 0 → ∃ m, Ev (fun k => number_Of.l1 k (marks (-1) nx.length l) (castL l) ((i + 1 : Nat) : Int) a nx ac a (numTo a.toNat (stL nx) l (i + 1)) (endsAt ac l (i + 1))) (numdOf a nx ac m) ∧ MetOf a nx m) :
    ∀ (d c : Nat) (l : List Nat), c + d = a.toNat → i < l.length → MetIn a nx l i c → ∃ m, Ev (fun k => number_Of.l2 k (marks (-1) nx.length l) (castL l) (i : Int) (rowTo (stL nx) l (l.getD i 0) c) (nx.getD (l.getD i 0) []) ((nx.getD (l.getD i 0) []).length : Int) (c : Int) a nx ac a (numTo a.toNat (stL nx) l i) (endsAt ac l i)) (numdOf a nx ac m) ∧ MetOf a nx m := by
  intro d
  induction d with
  | zero =>
    intro c l hc hi hB
    obtain rfl : c = a.toNat := by omega
    obtain ⟨m, hm, hI⟩ := hnext l hi (hB.turn hi)
    rw [numTo_turn hi, endsAt_turn ac hi] at hm
    refine ⟨m, Ev.step (fun k => ?_) hm, hI⟩
    obtain ⟨hx, hmem, hlow⟩ := hB.cur hi
    have hl := h.len hlow
    have hmo := hB.most
    have hn2 := h.n2
    have he := h.ends
    have hz : (castL l).length = l.length := castL_length l
    have h1 := numTo_length (L := a.toNat) (st := stL nx) (l := l) (i := i)
    have h2 := endsAt_length (l := l) (i := i) ac
    simp only [number_Of.l2, rd_nat, castL_getD hi, hz, rdb_nat]
    rw [if_neg (by omega), if_pos (by omega), if_pos (by omega), if_pos (by omega), if_pos (by omega), if_pos (by omega), if_pos (by omega), wadd (by omega) (by omega), nat_succ_cast]
  | succ d ih =>
    intro c l hc hi hB
    have hcl : c < a.toNat := by omega
    obtain ⟨hx, hmem, hlow⟩ := hB.cur hi
    have hl := h.len hlow
    have hst := h.st hlow hcl
    have hsh := h.shuts _ c hlow hcl
    have hmo := hB.most
    have hn2 := h.n2
    have ha1 := h.a1
    have ha2 := h.a2
    have hz : (castL l).length = l.length := castL_length l
    have hr := rowTo_length (st := stL nx) (l := l) (c := c) (l.getD i 0)
    have hk := marks_length (-1) nx.length l
    by_cases hm : stL nx (l.getD i 0) c ∈ l
    · obtain ⟨m, hm2, hI⟩ := ih (c + 1) l (by omega) hi (hB.old hx hm)
      rw [rowTo_snoc] at hm2
      refine ⟨m, Ev.step (fun k => ?_) hm2, hI⟩
      simp only [number_Of.l2, rd_nat, hst, marks_get hsh, if_pos hm]
      rw [if_pos (by omega), if_pos (by omega), if_pos (by omega), if_pos (by omega), if_pos (by rw [hk]; omega), if_neg (by omega), if_pos (by omega), wadd (by omega) (by omega), nat_succ_cast]
    · obtain ⟨m, hm2, hI⟩ := ih (c + 1) (l ++ [stL nx (l.getD i 0) c]) (by omega) (by simp; omega) (hB.new hx hcl hsh hm)
      rw [getD_snoc hi, rowTo_snoc, rowTo_grow (hB.bfs.now _ hx), numTo_grow hB.bfs, endsAt_grow ac hB.bfs.at_, castL_snoc, idxOf_snoc hm] at hm2
      refine ⟨m, Ev.step (fun k => ?_) hm2, hI⟩
      simp only [number_Of.l2, rd_nat, hst, marks_get hsh, if_neg hm, Option.bind_some, Int.toNat_natCast, hz, marks_set hsh hm]
      rw [if_pos (by omega), if_pos (by omega), if_pos (by omega), if_pos (by omega), if_pos (by rw [hk]; omega), if_pos (by omega), if_pos (by omega), if_pos (by omega), if_pos (by simp), idxOf_snoc hm, wadd (by omega) (by omega), nat_succ_cast]
theorem ev_numdOf_l1 (h : Aut a nx ac) :
    ∀ (m i : Nat) (l : List Nat), nx.length - i = m → MetIn a nx l i 0 → ∃ m, Ev (fun k => number_Of.l1 k (marks (-1) nx.length l) (castL l) (i : Int) a nx ac a (numTo a.toNat (stL nx) l i) (endsAt ac l i)) (numdOf a nx ac m) ∧ MetOf a nx m := by
  intro m
  induction m using Nat.strongRecOn with
  | _ m ih =>
    intro i l hm hB
    have hmo := hB.most
    have hz : (castL l).length = l.length := castL_length l
    by_cases hi : i < l.length
    · obtain ⟨hx, hmem, hlow⟩ := hB.cur hi
      obtain ⟨R, hR, hI⟩ := ev_numdOf_l2 h i (fun l hi hB => ih (nx.length - (i + 1)) (by have := hB.most; omega) (i + 1) l rfl hB) a.toNat 0 l (by omega) hi hB
      refine ⟨R, Ev.step (fun k => ?_) hR, hI⟩
      simp only [number_Of.l1, hz, rd_nat, castL_getD hi, rd5_nat]
      rw [if_pos (by omega), if_pos (by omega), if_pos (by omega), if_pos (by omega)]
      rfl
    · obtain ⟨h1, h2⟩ := num_end (ac := ac) hB hi
      refine ⟨l, ?_, h1⟩
      rw [h2]
      refine Ev.step (f := fun _ => some (a, numTo a.toNat (stL nx) l i, endsAt ac l i, true)) (fun k => ?_) (Ev.now _)
      simp only [number_Of.l1, hz]
      rw [if_neg (by omega)]
theorem ev_numdOf_l0 (h : Aut a nx ac) : ∀ (d i : Nat), i + d = nx.length → ∃ m, Ev (fun k => number_Of.l0 k (List.replicate i (-1) ++ List.replicate d 0) (nx.length : Int) (i : Int) a nx ac) (numdOf a nx ac m) ∧ MetOf a nx m := by
  have h1 := h.n1
  have h2 := h.n2
  intro d
  induction d with
  | zero =>
    intro i hi
    obtain rfl : i = nx.length := by omega
    obtain ⟨m, hm, hI⟩ := ev_numdOf_l1 h nx.length 0 [0] (by omega) (MetIs.start (show 0 < nx.length by omega))
    refine ⟨m, Ev.step (fun k => ?_) hm, hI⟩
    have e : (List.replicate nx.length (-1 : Int)).set 0 0 = marks (-1) nx.length [0] := by
      have h3 := marks_set (d := -1) (n := nx.length) (l := []) (s := 0) (by omega) (by simp)
      have h4 : marks (-1) nx.length [] = List.replicate nx.length (-1) := by
        apply List.ext_getElem (by simp [marks])
        intro j h5 h6
        simp [marks]
      rw [h4] at h3
      exact h3
    simp only [number_Of.l0, List.append_nil, List.replicate_zero, List.length_replicate]
    rw [if_neg (by omega), if_pos (by omega)]
    rw [show (0 : Int).toNat = 0 from rfl, e]
    rfl
  | succ d ih =>
    intro i hi
    obtain ⟨m, hm, hI⟩ := ih (i + 1) (by omega)
    refine ⟨m, Ev.step (fun k => ?_) hm, hI⟩
    have e : (List.replicate i (-1 : Int) ++ List.replicate (d + 1) 0).set i (-1) = List.replicate (i + 1) (-1) ++ List.replicate d 0 := by
      rw [List.set_append_right _ _ (by simp), List.length_replicate, Nat.sub_self, List.replicate_succ, sB, List.replicate_succ', List.append_assoc]
      rfl
    simp only [number_Of.l0, List.length_append, List.length_replicate, Int.toNat_natCast, e]
    rw [if_pos (by omega), if_pos (by omega), if_pos (by omega), wadd (by omega) (by omega), nat_succ_cast]
theorem ev_numdOf (hg : goodB a nx ac = true) : ∃ l, Ev (fun k => number_Of.f k a nx ac) (numdOf a nx ac l) ∧ MetOf a nx l := by
  have h := Aut.of hg
  have h1 := h.n1
  have h2 := h.n2
  obtain ⟨m, hm, hI⟩ := ev_numdOf_l0 h nx.length 0 (by omega)
  refine ⟨m, Ev.congr (fun k => ?_) hm, hI⟩
  unfold number_Of.f thompson_Good.f
  simp only [Option.bind_some, hg, Int.toNat_natCast, List.length_replicate, List.replicate_zero, List.nil_append]
  rw [if_pos trivial, if_pos (by omega), if_pos (by omega)]
  rfl
end

end Go.Proofs.Ytelkjbacdpmnfaa.A

namespace Go.Proofs.Ytelkjbacdpmnfaa.A
open Go.RowKit Go.W_.PrintWords Go.W_.PrintLast Go.W_.PrintMore
attribute [local go_sem] max2_int min2_int max_two min_two max_three min_three max_four min_four
set_option linter.unusedVariables false
set_option linter.unusedSimpArgs false

section
variable {a : Int} {nx : List (List Int)} {ac : List Bool} {l : List Nat}
theorem met_first (hm : MetOf a nx l) : l[0]? = some 0 := by
  have h := hm.bfs.first
  cases l with
  | nil => cases h
  | cons x l => simp at h; subst h; rfl
theorem met_pos (hm : MetOf a nx l) : 0 < l.length := (List.getElem?_eq_some_iff.1 (met_first hm)).1
theorem met_at (hm : MetOf a nx l) {s : Nat} (hs : s ∈ l) : l[l.idxOf s]? = some s := by
  have h1 := List.idxOf_lt_length_iff.2 hs
  rw [List.getElem?_eq_getElem h1, List.getElem_idxOf h1]
theorem num_length : (numNext a.toNat (stL nx) l).length = l.length := by simp [numNext]
theorem num_row {i : Nat} (hi : i < l.length) : (numNext a.toNat (stL nx) l).getD i [] = (List.range a.toNat).map fun c => ((l.idxOf (stL nx (l.getD i 0) c) : Nat) : Int) := by
  rw [List.getD_eq_getElem?_getD, List.getD_eq_getElem?_getD]
  unfold numNext
  rw [List.getElem?_map, List.getElem?_eq_getElem hi]
  rfl
theorem num_st {i c : Nat} (hi : i < l.length) (hc : c < a.toNat) : stL (numNext a.toNat (stL nx) l) i c = l.idxOf (stL nx (l.getD i 0) c) := by
  show ((((numNext a.toNat (stL nx) l).getD i []).getD c 0).toNat) = _
  rw [num_row hi, List.getD_eq_getElem?_getD, List.getElem?_map, List.getElem?_range hc]
  rfl
theorem met_cur {i : Nat} (hi : i < l.length) : l[i]? = some (l.getD i 0) := by
  rw [List.getD_eq_getElem?_getD, List.getElem?_eq_getElem hi]
  rfl
theorem num_step (hm : MetOf a nx l) {i c s : Nat} (hi : l[i]? = some s) (hc : c < a.toNat) : l[stL (numNext a.toNat (stL nx) l) i c]? = some (stL nx s c) := by
  have h1 := (List.getElem?_eq_some_iff.1 hi).1
  have e : l.getD i 0 = s := Option.some.inj ((met_cur h1).symm.trans hi)
  rw [num_st h1 hc, e]
  exact met_at hm (MetAll.shut hm (List.mem_of_getElem? hi) hc)
theorem num_run (hm : MetOf a nx l) : ∀ (w : List Nat) {i s : Nat}, l[i]? = some s → (∀ c ∈ w, c < a.toNat) → l[runS (stL (numNext a.toNat (stL nx) l)) i w]? = some (runS (stL nx) s w)
  | [], _, _, h, _ => h
  | c :: w, _, _, h, hw => num_run hm w (num_step hm h (hw c (by simp))) (fun x hx => hw x (by simp [hx]))
theorem num_ends {i s : Nat} (hi : l[i]? = some s) : acL (l.map (acL ac)) i = acL ac s := by
  rw [acL, List.getD_eq_getElem?_getD, List.getElem?_map, hi]
  rfl
theorem num_takes (hm : MetOf a nx l) {w : List Nat} (hw : ∀ c ∈ w, c < a.toNat) : acL (l.map (acL ac)) (runS (stL (numNext a.toNat (stL nx) l)) 0 w) = acL ac (runS (stL nx) 0 w) := num_ends (num_run hm w (met_first hm) hw)
theorem good_of {a : Int} {X : List (List Int)} {Y : List Bool} (h1 : 1 ≤ a) (h2 : a ≤ 64) (h3 : 1 ≤ X.length) (h4 : X.length ≤ 1000) (h5 : Y.length = X.length) (h6 : ∀ i, i < X.length → ((X.getD i []).length : Int) = a ∧ ∀ x ∈ X.getD i [], 0 ≤ x ∧ x < X.length) : goodB a X Y = true := by
  unfold goodB
  simp only [Bool.and_eq_true, decide_eq_true_eq, Bool.not_eq_true', List.any_eq_false]
  refine ⟨⟨⟨⟨⟨h1, h2⟩, by omega⟩, by omega⟩, by omega⟩, fun r hr => ?_⟩
  obtain ⟨i, hi, rfl⟩ := List.mem_iff_getElem.1 hr
  have e : X[i] = X.getD i [] := by rw [List.getD_eq_getElem?_getD, List.getElem?_eq_getElem hi]; rfl
  rw [e]
  have h7 := h6 i hi
  unfold BadRow
  simp only [Bool.or_eq_true, Bool.not_eq_true', decide_eq_false_iff_not, not_or, Decidable.not_not, List.any_eq_true, not_exists, not_and]
  refine ⟨h7.1, fun x hx => ?_⟩
  have h8 := h7.2 x hx
  unfold OutOf
  simp only [Bool.or_eq_true, decide_eq_true_eq, not_or]
  omega
theorem num_good (h : Aut a nx ac) (hm : MetOf a nx l) : goodB a (numNext a.toNat (stL nx) l) (l.map (acL ac)) = true := by
  have ha1 := h.a1
  have ha2 := h.a2
  have hn2 := h.n2
  have hp := met_pos hm
  have hmo : l.length ≤ nx.length := MetIs.most hm
  refine good_of ha1 ha2 (by rw [num_length]; omega) (by rw [num_length]; omega) (by rw [num_length, List.length_map]) fun i hi => ?_
  rw [num_length] at hi ⊢
  rw [num_row hi]
  refine ⟨by simp; omega, fun x hx => ?_⟩
  obtain ⟨c, hc, rfl⟩ := List.mem_map.1 hx
  have h1 := List.idxOf_lt_length_iff.2 (MetAll.shut hm (List.mem_of_getElem? (met_cur hi)) (List.mem_range.1 hc))
  omega
end
section
variable {a : Int} {nx nx' : List (List Int)} {ac ac' : List Bool}
/-- The same rows are taken. -/
def SameRows (a : Int) (nx : List (List Int)) (ac : List Bool) (nx' : List (List Int)) (ac' : List Bool) : Prop := ∀ w : List Nat, (∀ c ∈ w, c < a.toNat) → acL ac (runS (stL nx) 0 w) = acL ac' (runS (stL nx') 0 w)
/-- The least automaton, numbered as it is met. -/
def CanonIs (a : Int) (nx : List (List Int)) (ac : List Bool) (X : List (List Int)) (Y : List Bool) : Prop :=
  ∃ R C l, Model a nx ac R C ∧ MetOf a (bnx nx R C) l ∧ X = numNext a.toNat (stL (bnx nx R C)) l ∧ Y = l.map (acL (bac nx ac R C))
variable {X X' : List (List Int)} {Y Y' : List Bool}
theorem CanonIs.takes (h : CanonIs a nx ac X Y) : SameRows a X Y nx ac := by
  obtain ⟨R, C, l, M, hm, rfl, rfl⟩ := h
  exact fun w hw => (num_takes hm hw).trans (M.takes hw)
theorem CanonIs.good (h : CanonIs a nx ac X Y) : goodB a X Y = true := by
  obtain ⟨R, C, l, M, hm, rfl, rfl⟩ := h
  exact num_good (Aut.of M.good) hm
theorem CanonIs.ends (h : CanonIs a nx ac X Y) : Y.length = X.length := (Aut.of h.good).ends
theorem CanonIs.most (h : CanonIs a nx ac X Y) : X.length ≤ nx.length := by
  obtain ⟨R, C, l, M, hm, rfl, rfl⟩ := h
  rw [num_length]
  refine Nat.le_trans (MetIs.most hm) ?_
  rw [bnx_length]
  exact keptTo_length R C nx.length
/-- Two that take the same, ends turned round or not, are met in step. -/
theorem canon_step (f : Bool → Bool) (hf : ∀ x y, f x = f y → x = y) (h : CanonIs a nx ac X Y) (h' : CanonIs a nx' ac' X' Y') (hs : ∀ w : List Nat, (∀ c ∈ w, c < a.toNat) → f (acL ac (runS (stL nx) 0 w)) = acL ac' (runS (stL nx') 0 w)) : X = X' ∧ Y' = Y.map f := by
  obtain ⟨R, C, l, M, hm, rfl, rfl⟩ := h
  obtain ⟨R', C', l', M', hm', rfl, rfl⟩ := h'
  have hA := Aut.of M.good
  have hA' := Aut.of M'.good
  have hR : OneOne (fun s t : Nat => s < (bnx nx R C).length ∧ t < (bnx nx' R' C').length ∧ ∀ w : List Nat, (∀ c ∈ w, c < a.toNat) → f (acL (bac nx ac R C) (runS (stL (bnx nx R C)) s w)) = acL (bac nx' ac' R' C') (runS (stL (bnx nx' R' C')) t w)) := by
    rintro x y x' y' ⟨h1, h2, h3⟩ ⟨h4, h5, h6⟩
    constructor
    · rintro rfl
      exact M'.apart_b (by rw [bnx_length] at h2; exact h2) (by rw [bnx_length] at h5; exact h5) (fun w hw => (h3 w hw).symm.trans (h6 w hw))
    · rintro rfl
      exact M.apart_b (by rw [bnx_length] at h1; exact h1) (by rw [bnx_length] at h4; exact h4) (fun w hw => hf _ _ ((h3 w hw).trans (h6 w hw).symm))
  have hst : ∀ (x y c : Nat), c < a.toNat → (x < (bnx nx R C).length ∧ y < (bnx nx' R' C').length ∧ ∀ w : List Nat, (∀ c ∈ w, c < a.toNat) → f (acL (bac nx ac R C) (runS (stL (bnx nx R C)) x w)) = acL (bac nx' ac' R' C') (runS (stL (bnx nx' R' C')) y w)) →
      (stL (bnx nx R C) x c < (bnx nx R C).length ∧ stL (bnx nx' R' C') y c < (bnx nx' R' C').length ∧ ∀ w : List Nat, (∀ c ∈ w, c < a.toNat) → f (acL (bac nx ac R C) (runS (stL (bnx nx R C)) (stL (bnx nx R C) x c) w)) = acL (bac nx' ac' R' C') (runS (stL (bnx nx' R' C')) (stL (bnx nx' R' C') y c) w)) := by
    rintro x y c hc ⟨h1, h2, h3⟩
    exact ⟨hA.shuts _ _ h1 hc, hA'.shuts _ _ h2 hc, fun w hw => h3 (c :: w) (fun d hd => by
      rcases List.mem_cons.1 hd with hd | hd
      · rw [hd]; exact hc
      · exact hw d hd)⟩
  have h1 := hA.n1
  have h2 := hA'.n1
  have hr := met_all hR hst ⟨by omega, by omega, fun w hw => by rw [M.takes hw, M'.takes hw]; exact hs w hw⟩ hm hm'
  refine ⟨numNext_step hR hst hr, ?_⟩
  apply List.ext_getElem (by simp [hr.1])
  intro i h3 h4
  simp only [List.length_map] at h3 h4
  rw [List.getElem_map, List.getElem_map, List.getElem_map]
  have h5 := (hr.2 i l[i] l'[i] (List.getElem?_eq_getElem h4) (List.getElem?_eq_getElem h3)).2.2 [] (by simp)
  exact h5.symm
theorem canon_same (h : CanonIs a nx ac X Y) (h' : CanonIs a nx' ac' X' Y') : (X = X' ∧ Y = Y') ↔ SameRows a nx ac nx' ac' := by
  constructor
  · rintro ⟨rfl, rfl⟩
    exact fun w hw => (h.takes w hw).symm.trans (h'.takes w hw)
  · intro hs
    obtain ⟨h1, h2⟩ := canon_step (fun b => b) (fun _ _ e => e) h h' hs
    exact ⟨h1, by rw [h2, List.map_id']⟩
end

end Go.Proofs.Ytelkjbacdpmnfaa.A

namespace Go.Proofs.Ytelkjbacdpmnfaa.A
open Go.RowKit Go.W_.PrintWords Go.W_.PrintLast Go.W_.PrintMore
attribute [local go_sem] max2_int min2_int max_two min_two max_three min_three max_four min_four
set_option linter.unusedVariables false
set_option linter.unusedSimpArgs false

section
variable {n L : Nat} {st : Nat → Nat → Nat} {acc : Nat → Bool}
def Eqv (K : Nat → Nat → Prop) : Prop := (∀ s, K s s) ∧ (∀ s u, K s u → K u s) ∧ ∀ s u v, K s u → K u v → K s v
/-- Of each state below k the least one that K ties it to. -/
def NormTo (K : Nat → Nat → Prop) (k : Nat) (f : Nat → Int) : Prop := ∀ s, s < k → ∃ u : Nat, f s = (u : Int) ∧ u ≤ s ∧ K u s ∧ ∀ v, v < u → ¬ K v s
def Nrm (n : Nat) (f : Nat → Int) : Prop := ∀ s, s < n → ∃ u : Nat, f s = (u : Int) ∧ u ≤ s ∧ f u = (u : Int)
def Shows (L : Nat) (st : Nat → Nat → Nat) (f : Nat → Int) (s u : Nat) : Prop := f s = f u ∧ ∀ c, c < L → f (st s c) = f (st u c)
theorem shows_eqv (f : Nat → Int) : Eqv (Shows L st f) := ⟨fun _ => ⟨rfl, fun _ _ => rfl⟩, fun _ _ h => ⟨h.1.symm, fun c hc => (h.2 c hc).symm⟩, fun _ _ _ h k => ⟨h.1.trans k.1, fun c hc => (h.2 c hc).trans (k.2 c hc)⟩⟩
theorem ends_eqv (acc : Nat → Bool) : Eqv (fun s u => acc s = acc u) := ⟨fun _ => rfl, fun _ _ h => h.symm, fun _ _ _ h k => h.trans k⟩
theorem NormTo.iff {K : Nat → Nat → Prop} (hK : Eqv K) {k : Nat} {f : Nat → Int} (h : NormTo K k f) {s u : Nat} (hs : s < k) (hu : u < k) : f s = f u ↔ K s u := by
  obtain ⟨a, e1, l1, k1, m1⟩ := h s hs
  obtain ⟨b, e2, l2, k2, m2⟩ := h u hu
  rw [e1, e2]
  constructor
  · intro e
    obtain rfl : a = b := by omega
    exact hK.2.2 _ _ _ (hK.2.1 _ _ k1) k2
  · intro e
    rcases Nat.lt_trichotomy a b with h1 | h1 | h1
    · exact absurd (hK.2.2 _ _ _ k1 e) (m2 a h1)
    · rw [h1]
    · exact absurd (hK.2.2 _ _ _ k2 (hK.2.1 _ _ e)) (m1 b h1)
theorem NormTo.nrm {K : Nat → Nat → Prop} (hK : Eqv K) {k : Nat} {f : Nat → Int} (h : NormTo K k f) : Nrm k f := by
  intro s hs
  obtain ⟨a, e1, l1, k1, m1⟩ := h s hs
  exact ⟨a, e1, l1, ((h.iff hK (by omega) hs).2 k1).trans e1⟩
/-- A state's row is gone through: it stands for itself. -/
theorem NormTo.own {K : Nat → Nat → Prop} (hK : Eqv K) {k : Nat} {f g : Nat → Int} (h : NormTo K k f) (hg : ∀ s, s < k → g s = f s) (hk : g k = (k : Int)) (hn : ∀ v, v < k → ¬ K v k) : NormTo K (k + 1) g := by
  intro s hs
  rcases Nat.lt_or_ge s k with h1 | h1
  · obtain ⟨a, e1, r⟩ := h s h1
    exact ⟨a, (hg s h1).trans e1, r⟩
  · obtain rfl : s = k := by omega
    exact ⟨s, hk, Nat.le_refl _, hK.1 s, hn⟩
/-- One that stands for another is none that ties first. -/
theorem NormTo.skip {K : Nat → Nat → Prop} (hK : Eqv K) {k u : Nat} {f : Nat → Int} (h : NormTo K k f) (hu : u < k) (hne : f u ≠ (u : Int)) (hn : ∀ v, v < u → ¬ K v k) : ¬ K u k := by
  intro hc
  obtain ⟨a, e1, l1, k1, _⟩ := h u hu
  rcases Nat.lt_or_ge a u with h1 | h1
  · exact hn a h1 (hK.2.2 _ _ _ k1 hc)
  · obtain rfl : a = u := by omega
    exact hne e1
/-- What holds of the states of a round. -/
structure Kept (n L : Nat) (st : Nat → Nat → Nat) (acc : Nat → Bool) (f : Nat → Int) : Prop where
  nrm : Nrm n f
  parts : Parts n acc f
  coarse : Coarse n L st acc f
theorem Kept.start {f : Nat → Int} (h : NormTo (fun s u => acc s = acc u) n f) : Kept n L st acc f :=
  ⟨h.nrm (ends_eqv acc), fun _ _ hs hu e => (h.iff (ends_eqv acc) hs hu).1 e, fun _ _ hs hu a => (h.iff (ends_eqv acc) hs hu).2 a.ends⟩
theorem finer_shows {f g : Nat → Int} (h : NormTo (Shows L st f) n g) : Finer n f g := fun _ _ hs hu e => ((h.iff (shows_eqv f) hs hu).1 e).1
theorem Kept.next {f g : Nat → Int} (hC : Shuts n L st) (k : Kept n L st acc f) (h : NormTo (Shows L st f) n g) : Kept n L st acc g :=
  ⟨h.nrm (shows_eqv f), k.parts.finer (finer_shows h), fun s u hs hu a => (h.iff (shows_eqv f) hs hu).2 ⟨k.coarse s u hs hu a, fun c hc => k.coarse _ _ (hC s c hs hc) (hC u c hu hc) (a.step hc)⟩⟩
theorem Nrm.same {f g : Nat → Int} (hf : Nrm n f) (hg : Nrm n g) (h : Finer n f g) (k : Finer n g f) {s : Nat} (hs : s < n) : f s = g s := by
  obtain ⟨u, e1, l1, i1⟩ := hf s hs
  obtain ⟨v, e2, l2, i2⟩ := hg s hs
  have a1 := k u s (by omega) hs (i1.trans e1.symm)
  have a2 := h v s (by omega) hs (i2.trans e2.symm)
  obtain ⟨x, b1, b2, _⟩ := hg u (by omega)
  obtain ⟨y, c1, c2, _⟩ := hf v (by omega)
  rw [e1, e2]
  omega
/-- Where a round changes something, there are more. -/
theorem Kept.more {f g : Nat → Int} (k : Kept n L st acc f) (h : NormTo (Shows L st f) n g) {s : Nat} (hs : s < n) (hne : g s ≠ f s) : cnt n f < cnt n g := by
  refine Nat.lt_of_le_of_ne (cnt_le (finer_shows h)) fun e => hne ?_
  exact ((h.nrm (shows_eqv f)).same k.nrm (finer_back (finer_shows h) e) (finer_shows h) hs)
/-- Where it changes nothing, they are alike. -/
theorem Kept.ends {B : List Int} (hB : B.length = n) {g : Nat → Int} (hC : Shuts n L st) (k : Kept n L st acc (fun s => B.getD s 0)) (h : NormTo (Shows L st (fun s => B.getD s 0)) n g) (he : ∀ s, s < n → g s = B.getD s 0) : IsClasses n L st acc B := by
  refine ⟨hB, fun s hs => ?_⟩
  obtain ⟨u, e1, l1, i1⟩ := k.nrm s hs
  have hst : Stable n L st (fun s => B.getD s 0) := fun s u hs hu e c hc => ((h.iff (shows_eqv _) hs hu).1 (((he s hs).trans e).trans (he u hu).symm)).2 c hc
  refine ⟨u, e1, l1, alike_of hC hst k.parts (by omega) hs (i1.trans e1.symm), fun v hv a => ?_⟩
  have h1 := k.coarse v s (by omega) hs a
  obtain ⟨x, e2, l2, _⟩ := k.nrm v (by omega)
  simp only at h1 e1 e2
  omega
/-- Blocks that are told apart by what is alike, as the least of each. -/
theorem classes_of {B C : List Int} (hB : B.length = n) (hb : ∀ s u, s < n → u < n → (B.getD s 0 = B.getD u 0 ↔ Alike L st acc s u)) (hC : C.length = n) (h : ∀ s, s < n → C.getD s 0 = ((B.idxOf (B.getD s 0) : Nat) : Int)) : IsClasses n L st acc C := by
  refine ⟨hC, fun s hs => ⟨_, h s hs, ?_, ?_, fun v hv a => ?_⟩⟩
  · rw [List.getD_eq_getElem?_getD, List.getElem?_eq_getElem (by omega)]
    simp only [Option.getD_some]
    refine Nat.le_of_not_lt fun hlt => ?_
    have h2 := List.not_of_lt_findIdx (p := (· == B[s])) (xs := B) (i := s) hlt
    simp at h2
  · have hm : B.getD s 0 ∈ B := by
      rw [List.getD_eq_getElem?_getD, List.getElem?_eq_getElem (by omega)]
      exact List.getElem_mem (by omega)
    have hi := List.idxOf_lt_length_iff.2 hm
    refine (hb _ s (by omega) hs).1 ?_
    rw [List.getD_eq_getElem?_getD (l := B), List.getElem?_eq_getElem hi]
    exact List.getElem_idxOf hi
  · have hm : B.getD s 0 ∈ B := by
      rw [List.getD_eq_getElem?_getD, List.getElem?_eq_getElem (by omega)]
      exact List.getElem_mem (by omega)
    have hi := List.idxOf_lt_length_iff.2 hm
    have e := (hb v s (by omega) hs).2 a
    have h2 := List.not_of_lt_findIdx (p := (· == B.getD s 0)) (xs := B) (i := v) hv
    rw [List.getD_eq_getElem?_getD (i := v), List.getElem?_eq_getElem (by omega)] at e
    simp only [Option.getD_some] at e
    rw [e] at h2
    simp at h2
end

end Go.Proofs.Ytelkjbacdpmnfaa.A

namespace Go.Proofs.Ytelkjbacdpmnfaa.A
open Go.RowKit Go.W_.PrintWords Go.W_.PrintLast Go.W_.PrintMore
attribute [local go_sem] max2_int min2_int max_two min_two max_three min_three max_four min_four
set_option linter.unusedVariables false
set_option linter.unusedSimpArgs false

def endsTo (ac : List Bool) (i : Nat) : List Int := (List.range ac.length).map fun s => if s < i ∧ ac.getD s false = true then 1 else 0
theorem endsTo_zero (ac : List Bool) : endsTo ac 0 = List.replicate ac.length 0 := by
  apply List.ext_getElem (by simp [endsTo])
  intro i h1 h2
  simp [endsTo]
theorem endsTo_getD (ac : List Bool) {i s : Nat} (hs : s < ac.length) : (endsTo ac i).getD s 0 = if s < i ∧ ac.getD s false = true then 1 else 0 := by
  unfold endsTo
  rw [List.getD_eq_getElem?_getD, List.getElem?_map, List.getElem?_range hs]
  rfl
theorem endsTo_set (ac : List Bool) {i : Nat} (hi : i < ac.length) (h : ac.getD i false = true) : (endsTo ac i).set i 1 = endsTo ac (i + 1) := by
  apply List.ext_getElem (by simp [endsTo])
  intro j h1 h2
  simp only [endsTo, List.getElem_set, List.getElem_map, List.getElem_range]
  by_cases hj : i = j
  · subst hj
    simp
    simpa using h
  · rw [if_neg hj]
    by_cases h3 : j < i
    · simp [h3, show j < i + 1 by omega]
    · simp [h3, show ¬ j < i + 1 by omega]
theorem endsTo_skip (ac : List Bool) {i : Nat} (h : ac.getD i false = false) : endsTo ac (i + 1) = endsTo ac i := by
  apply List.ext_getElem (by simp [endsTo])
  intro j h1 h2
  simp only [endsTo, List.getElem_map, List.getElem_range]
  by_cases hj : j = i
  · subst hj
    rw [if_neg (by simp only [h]; simp), if_neg (by simp)]
  · by_cases h3 : j < i
    · simp [h3, show j < i + 1 by omega]
    · simp [h3, show ¬ j < i + 1 by omega]
theorem cnt_pos {n : Nat} {f : Nat → Int} (h : 0 < n) : 0 < cnt n f := List.countP_pos_iff.2 ⟨0, List.mem_range.2 h, isFirst_iff.2 fun u hu => absurd hu (Nat.not_lt_zero _)⟩
theorem split_ok {a : Int} {nx : List (List Int)} {ac : List Bool} (h : Aut a nx ac) {B : List Int} (hB : B.length = nx.length) (hr : ∀ x ∈ B, 0 ≤ x ∧ x < 1000) {c : Nat} (hc : c < a.toNat) : splitOk nx B (c : Int) = true := by
  unfold splitOk
  simp only [Bool.and_eq_true, decide_eq_true_eq, List.all_eq_true]
  have hn2 := h.n2
  refine ⟨⟨⟨⟨by omega, hB.symm⟩, by omega⟩, fun r hr => ?_⟩, fun x hx => ?_⟩
  · obtain ⟨s, hs, rfl⟩ := List.mem_iff_getElem.1 hr
    have e : nx[s] = nx.getD s [] := by rw [List.getD_eq_getElem?_getD, List.getElem?_eq_getElem hs]; rfl
    rw [e, Int.toNat_natCast, hB]
    have h1 := h.len hs
    have h2 := h.to_ s c hs (by omega)
    exact ⟨⟨by omega, h2.1⟩, h2.2⟩
  · have := hr x hx
    simp only [Lit.wf, Bool.and_eq_true, decide_eq_true_eq]
    exact ⟨by show (-9223372036854775808 : Int) ≤ _; omega, by show _ ≤ (9223372036854775807 : Int); omega⟩
section
variable {a : Int} {nx : List (List Int)} {ac : List Bool}
/-- Blocks that are told apart by what is alike. -/
def IsBlocks (a : Int) (nx : List (List Int)) (ac : List Bool) (B : List Int) : Prop := B.length = nx.length ∧ ∀ s u, s < nx.length → u < nx.length → (B.getD s 0 = B.getD u 0 ↔ Alike a.toNat (stL nx) (acL ac) s u)
theorem ev_blocks_l2 (h : Aut a nx ac) {B0 : List Int} {many : Nat} (hp : Parts nx.length (acL ac) (fL B0)) (hm : many = 0 ∨ many = cnt nx.length (fL B0))
    (hnext : ∀ (B : List Int) (m : Nat), many < m → m = cnt nx.length (fL B) → Parts nx.length (acL ac) (fL B) → B.length = nx.length → (∀ x ∈ B, 0 ≤ x ∧ x < 1000) → Coarse nx.length a.toNat (stL nx) (acL ac) (fL B) → ∃ R, Ev (fun k => least_blocks.l1 k B (m : Int) a nx ac) R ∧ IsBlocks a nx ac R) :
    ∀ (d c : Nat) (B : List Int) (m : Nat), c + d = a.toNat → Round nx.length a.toNat nx (acL ac) B0 B c → (0 < c → m = cnt nx.length (fL B)) → ∃ R, Ev (fun k => least_blocks.l2 k B (m : Int) (many : Int) a (c : Int) a nx ac) R ∧ IsBlocks a nx ac R := by
  have ha1 := h.a1
  have ha2 := h.a2
  have hn2 := h.n2
  have hn1 := h.n1
  intro d
  induction d with
  | zero =>
    intro c B m hc hR hmc
    obtain rfl : c = a.toNat := by omega
    have hmc := hmc (by omega)
    have hcp := cnt_pos (n := nx.length) (f := fL B) (by omega)
    by_cases he : m = many
    · refine ⟨B, Ev.step (f := fun _ => some B) (fun k => ?_) (Ev.now _), hR.len, fun s u hs hu => ?_⟩
      · simp only [least_blocks.l2]
        rw [if_neg (by omega), if_pos (by omega)]
      · exact blocks_iff hR (by omega) hp h.shuts hs hu
    · have hlt := cnt_le hR.fine
      obtain ⟨R, hE, hI⟩ := hnext B m (by omega) hmc (hp.finer hR.fine) hR.len hR.low hR.coarse
      refine ⟨R, Ev.step (fun k => ?_) hE, hI⟩
      simp only [least_blocks.l2]
      rw [if_neg (by omega), if_neg (by omega)]
  | succ d ih =>
    intro c B m hc hR hmc
    have hcl : c < a.toNat := by omega
    have hR2 := hR.next hn2 hcl h.shuts
    have hl := hR.len
    obtain ⟨R, hE, hI⟩ := ih (c + 1) (splitTo nx B c B.length) ((facesMet nx B c B.length).length) (by omega) hR2 (fun _ => by rw [← hl, ← split_cnt])
    refine ⟨R, Ev.step (fun k => ?_) hE, hI⟩
    simp only [least_blocks.l2]
    have hf : least_split.f a nx ac B (c : Int) = some (splitTo nx B c B.length, (((facesMet nx B c B.length).length : Nat) : Int)) := by
      unfold least_split.f
      rw [if_pos (split_ok h hR.len hR.low hcl), Int.toNat_natCast]
    rw [if_pos (by omega), hf, wadd (by omega) (by omega), nat_succ_cast]
    rfl
theorem ev_blocks_l1 (h : Aut a nx ac) : ∀ (d : Nat) (B : List Int) (many : Nat), nx.length - many = d → (many = 0 ∨ many = cnt nx.length (fL B)) → Parts nx.length (acL ac) (fL B) → B.length = nx.length → (∀ x ∈ B, 0 ≤ x ∧ x < 1000) → Coarse nx.length a.toNat (stL nx) (acL ac) (fL B) → ∃ R, Ev (fun k => least_blocks.l1 k B (many : Int) a nx ac) R ∧ IsBlocks a nx ac R := by
  intro d
  induction d using Nat.strongRecOn with
  | _ d ih =>
    intro B many hd hm hp hl hr hco
    have hle := cnt_le_n nx.length (fL B)
    obtain ⟨R, hE, hI⟩ := ev_blocks_l2 h hp hm (fun B' m' h1 h2 h3 h4 h5 h6 => ih (nx.length - m') (by have := cnt_le_n nx.length (fL B'); omega) B' m' rfl (.inr h2) h3 h4 h5 h6) a.toNat 0 B many (by omega) (Round.zero hl hco hr) (fun h0 => absurd h0 (Nat.lt_irrefl _))
    exact ⟨R, Ev.step (fun k => rfl) hE, hI⟩
theorem ev_blocks (h : Aut a nx ac) : ∃ B, Ev (fun k => least_blocks.f k a nx ac) B ∧ IsBlocks a nx ac B := by
  have hn2 := h.n2
  have hen := h.ends
  have h0 : ∃ R, Ev (fun k => least_blocks.l1 k (endsTo ac ac.length) ((0 : Nat) : Int) a nx ac) R ∧ IsBlocks a nx ac R := by
    have hg : ∀ s, s < nx.length → fL (endsTo ac ac.length) s = if acL ac s = true then 1 else 0 := fun s hs => by
      unfold fL acL
      rw [endsTo_getD ac (by omega)]
      simp [show s < ac.length by omega]
    refine ev_blocks_l1 h nx.length (endsTo ac ac.length) 0 (by omega) (.inl rfl) (fun s u hs hu e => ?_) (by simp [endsTo, hen]) (fun x hx => ?_) (fun s u hs hu al => ?_)
    · rw [hg s hs, hg u hu] at e
      cases h1 : acL ac s <;> cases h2 : acL ac u <;> simp_all
    · unfold endsTo at hx
      obtain ⟨s, _, rfl⟩ := List.mem_map.1 hx
      split <;> omega
    · rw [hg s hs, hg u hu, al.ends]
  obtain ⟨R, hE, hI⟩ := h0
  have key : ∀ (d i : Nat), i + d = ac.length → Ev (fun k => least_blocks.l0 k (endsTo ac i) ac (ac.length : Int) (i : Int) a nx ac) R := by
    intro d
    induction d with
    | zero =>
      intro i hi
      obtain rfl : i = ac.length := by omega
      refine Ev.step (fun k => ?_) hE
      simp only [least_blocks.l0]
      rw [if_neg (by omega)]
      rfl
    | succ d ih =>
      intro i hi
      have hil : i < ac.length := by omega
      have hz : (endsTo ac i).length = ac.length := by simp [endsTo]
      cases hb : ac.getD i false with
      | true =>
        refine Ev.step (fun k => ?_) (ih (i + 1) (by omega))
        simp only [least_blocks.l0, rdb_nat, hb, hz, Int.toNat_natCast]
        rw [if_pos (by omega), if_pos (by omega), if_pos (by omega), if_pos trivial, if_pos (by omega), endsTo_set ac hil hb, wadd (by omega) (by omega), nat_succ_cast]
      | false =>
        refine Ev.step (fun k => ?_) (ih (i + 1) (by omega))
        simp only [least_blocks.l0, rdb_nat, hb]
        rw [if_pos (by omega), if_pos (by omega), if_pos (by omega), if_neg (by decide), endsTo_skip ac hb, wadd (by omega) (by omega), nat_succ_cast]
  refine ⟨R, Ev.congr (fun k => ?_) (key ac.length 0 (by omega)), hI⟩
  unfold least_blocks.f
  rw [if_pos (by omega), if_pos (by omega), endsTo_zero, hen, Int.toNat_natCast]
  rfl
theorem ev_Index (l : List Int) (v : Int) (hl : l.length ≤ 1000000) : ∀ (d i : Nat), i + d = l.length → v ∉ l.take i → v ∈ l → Ev (fun k => slices_Index_int_int.l0 k l v (l.length : Int) (i : Int)) ((l.idxOf v : Nat) : Int) := by
  intro d
  induction d with
  | zero =>
    intro i hi hn hm
    rw [List.take_of_length_le (by omega)] at hn
    exact absurd hm hn
  | succ d ih =>
    intro i hi hn hm
    have hil : i < l.length := by omega
    by_cases he : v = l.getD i 0
    · refine Ev.step (f := fun _ => some (i : Int)) (fun k => ?_) ?_
      · simp only [slices_Index_int_int.l0, rd_nat]
        rw [if_pos (by omega), if_pos (by omega), if_pos (by omega), if_pos he]
      · have e : l.idxOf v = i := by
          have h1 : l = l.take i ++ v :: l.drop (i + 1) := by
            rw [he, ← drop_cons_getD l 0 i hil, List.take_append_drop]
          rw [h1, List.idxOf_append, if_neg hn, List.idxOf_cons_self, List.length_take]
          omega
        rw [e]
        exact Ev.now _
    · refine Ev.step (fun k => ?_) (ih (i + 1) (by omega) ?_ hm)
      · simp only [slices_Index_int_int.l0, rd_nat]
        rw [if_pos (by omega), if_pos (by omega), if_pos (by omega), if_neg he, wadd (by omega) (by omega), nat_succ_cast]
      · rw [List.take_succ_eq_append_getElem hil, List.mem_append, not_or]
        refine ⟨hn, fun h => he ?_⟩
        rw [List.mem_singleton.1 h, List.getD_eq_getElem?_getD, List.getElem?_eq_getElem hil]
        rfl
theorem ev_leastClasses (hg : goodB a nx ac = true) : ∃ C, Ev (fun k => least_Classes.f k a nx ac) C ∧ IsClasses nx.length a.toNat (stL nx) (acL ac) C := by
  have h := Aut.of hg
  have hn2 := h.n2
  obtain ⟨B, hE, hl, hB⟩ := ev_blocks h
  have key : ∀ (d i : Nat), i + d = B.length → Ev (fun k => least_Classes.l0 k B ((B.take i).map fun v => ((B.idxOf v : Nat) : Int)) B (B.length : Int) (i : Int)) (B.map fun v => ((B.idxOf v : Nat) : Int)) := by
    intro d
    induction d with
    | zero =>
      intro i hi
      rw [List.take_of_length_le (by omega)]
      refine Ev.step (f := fun _ => some _) (fun k => ?_) (Ev.now _)
      simp only [least_Classes.l0]
      rw [if_neg (by omega)]
    | succ d ih =>
      intro i hi
      have hil : i < B.length := by omega
      have hI := ev_Index B (B.getD i 0) (by omega) B.length 0 (by omega) (by simp) (getD_in B 0 hil)
      refine Ev.step (f := fun k => (slices_Index_int_int.f k B (B.getD i 0)).bind fun t => least_Classes.l0 k B ((B.take i).map (fun v => ((B.idxOf v : Nat) : Int)) ++ [t]) B (B.length : Int) ((i + 1 : Nat) : Int)) (fun k => ?_) ?_
      · simp only [least_Classes.l0, rd_nat, List.length_map, List.length_take]
        rw [if_pos (by omega), if_pos (by omega), if_pos (by omega), wadd (by omega) (by omega), nat_succ_cast]
        simp only [if_pos (show min i B.length < 17592186044416 by omega)]
      · refine Ev.bind (f := fun k t => least_Classes.l0 k B ((B.take i).map (fun v => ((B.idxOf v : Nat) : Int)) ++ [t]) B (B.length : Int) ((i + 1 : Nat) : Int)) (a := ((B.idxOf (B.getD i 0) : Nat) : Int)) hI ?_
        have e : (B.take i).map (fun v => ((B.idxOf v : Nat) : Int)) ++ [((B.idxOf (B.getD i 0) : Nat) : Int)] = (B.take (i + 1)).map fun v => ((B.idxOf v : Nat) : Int) := by
          rw [List.take_succ_eq_append_getElem hil, List.map_append, List.getD_eq_getElem?_getD, List.getElem?_eq_getElem hil]
          rfl
        rw [e]
        exact ih (i + 1) (by omega)
  refine ⟨B.map fun v => ((B.idxOf v : Nat) : Int), ?_, classes_of hl hB (by simp [hl]) (fun s hs => ?_)⟩
  · refine Ev.congr (f := fun k => (least_blocks.f k a nx ac).bind fun t => least_Classes.l0 k t [] t (t.length : Int) 0) (fun k => ?_) ?_
    · unfold least_Classes.f thompson_Good.f
      rw [hg]
      rfl
    exact Ev.bind (f := fun k t => least_Classes.l0 k t [] t (t.length : Int) 0) hE (key B.length 0 (by omega))
  · rw [List.getD_eq_getElem?_getD, List.getElem?_map, List.getElem?_eq_getElem (by omega), List.getD_eq_getElem?_getD, List.getElem?_eq_getElem (by omega)]
    rfl
end

end Go.Proofs.Ytelkjbacdpmnfaa.A

namespace Go.Proofs.Ytelkjbacdpmnfaa.A
open Go.RowKit Go.W_.PrintWords Go.W_.PrintLast Go.W_.PrintMore
attribute [local go_sem] max2_int min2_int max_two min_two max_three min_three max_four min_four
set_option linter.unusedVariables false
set_option linter.unusedSimpArgs false

theorem ev_leastP {a : Int} {nx : List (List Int)} {ac : List Bool} (hg : goodB a nx ac = true) : ∃ R C, Ev (fun k => least_Reach.f k a nx ac) R ∧ Ev (fun k => least_Classes.f k a nx ac) C ∧ IsReach nx.length a.toNat (stL nx) R ∧ IsClasses nx.length a.toNat (stL nx) (acL ac) C ∧ OfOk nx ac R C := by
  obtain ⟨R, h1, h2⟩ := ev_leastReach hg
  obtain ⟨C, h3, h4⟩ := ev_leastClasses hg
  exact ⟨R, C, h1, h3, h2, h4, ofOk_of (Aut.of hg) h2 h4⟩
end Go.Proofs.Ytelkjbacdpmnfaa.A

namespace Go.Proofs.Ytelkjbacdpmnfaa.A
open Go.RowKit Go.W_.PrintWords Go.W_.PrintLast Go.W_.PrintMore
attribute [local go_sem] max2_int min2_int max_two min_two max_three min_three max_four min_four
set_option linter.unusedVariables false
set_option linter.unusedSimpArgs false

section
variable {a : Int} {nx : List (List Int)} {ac : List Bool}
theorem ev_canon (hg : goodB a nx ac = true) : ∃ X Y, CanonIs a nx ac X Y ∧ Ev (fun k => number_Canon.f k a nx ac) (a, X, Y, true) := by
  obtain ⟨R, C, r1, c1, hR, hC, ho⟩ := ev_leastP hg
  have M : Model a nx ac R C := ⟨Aut.of hg, hR, hC⟩
  obtain ⟨l, h1, h2⟩ := ev_numdOf M.good
  refine ⟨_, _, ⟨R, C, l, M, h2, rfl, rfl⟩, ?_⟩
  unfold number_Canon.f
  refine Ev.bind (ev_leastOf hg r1 c1 ho) ?_
  rw [leastOf_eq]
  simp only [if_true]
  refine Ev.bind h1 (Ev.now _)
/-- Alike in all? -/
def sameB (a : Int) (X : List (List Int)) (Y : List Bool) (b : Int) (X' : List (List Int)) (Y' : List Bool) : Bool := decide (a = b) && (decide (Y = Y') && decide (X = X'))
theorem good_sameSmall {a : Int} {X : List (List Int)} {Y : List Bool} (hg : goodB a X Y = true) : sameSmall X Y := by
  have h := Aut.of hg
  have h2 := h.n2
  have h3 := h.ends
  have ha := h.a2
  refine ⟨⟨by omega, fun r hr => ?_⟩, by omega⟩
  obtain ⟨i, hi, rfl⟩ := List.mem_iff_getElem.1 hr
  have h4 := h.rows i hi
  rw [List.getD_eq_getElem?_getD, List.getElem?_eq_getElem hi, Option.getD_some] at h4
  omega
theorem ev_same {a b : Int} {X X' : List (List Int)} {Y Y' : List Bool} (h : sameSmall X Y) (h' : sameSmall X' Y') : Ev (fun _ => number_Same.f a X Y b X' Y') (sameB a X Y b X' Y') := by
  refine Ev.congr (f := fun _ => some (sameB a X Y b X' Y')) (fun k => ?_) (Ev.now _)
  unfold number_Same.f
  rw [if_pos ⟨h, h'⟩]
  rfl
/-- Whether two automata take the same rows, as it is told. -/
def alikeB (a : Int) (X : List (List Int)) (Y : List Bool) (b : Int) (X' : List (List Int)) (Y' : List Bool) (u v : Bool) : Bool := if u = true then (if v = true then sameB a X Y b X' Y' else false) else false
theorem ev_alike {b : Int} {nx' : List (List Int)} {ac' : List Bool} {X X' : List (List Int)} {Y Y' : List Bool} {c d : Int} {u v : Bool} (h : Ev (fun k => number_Canon.f k a nx ac) (c, X, Y, u)) (h' : Ev (fun k => number_Canon.f k b nx' ac') (d, X', Y', v)) (hs : u = true → v = true → sameSmall X Y ∧ sameSmall X' Y') : Ev (fun k => number_Alike.f k a nx ac b nx' ac') (alikeB c X Y d X' Y' u v) := by
  unfold number_Alike.f
  refine Ev.bind h (Ev.bind h' ?_)
  unfold alikeB
  cases u with
  | false => exact Ev.congr (f := fun _ => some false) (fun k => by simp) (Ev.now _)
  | true =>
    cases v with
    | false => exact Ev.congr (f := fun _ => some false) (fun k => by simp) (Ev.now _)
    | true =>
      simp only [if_true]
      exact Ev.bind (ev_same (hs rfl rfl).1 (hs rfl rfl).2) (Ev.now _)
theorem ev_alike_good {nx' : List (List Int)} {ac' : List Bool} {X X' : List (List Int)} {Y Y' : List Bool} (hc : CanonIs a nx ac X Y) (hc' : CanonIs a nx' ac' X' Y') (h : Ev (fun k => number_Canon.f k a nx ac) (a, X, Y, true)) (h' : Ev (fun k => number_Canon.f k a nx' ac') (a, X', Y', true)) : ∃ t, Ev (fun k => number_Alike.f k a nx ac a nx' ac') t ∧ (t = true ↔ SameRows a nx ac nx' ac') := by
  refine ⟨_, ev_alike h h' (fun _ _ => ⟨good_sameSmall hc.good, good_sameSmall hc'.good⟩), ?_⟩
  rw [← canon_same hc hc']
  unfold alikeB sameB
  simp [and_comm]
end

end Go.Proofs.Ytelkjbacdpmnfaa.A

namespace Go.Proofs.Ytelkjbacdpmnfaa.A
open Go.RowKit Go.W_.PrintWords Go.W_.PrintLast Go.W_.PrintMore
attribute [local go_sem] max2_int min2_int max_two min_two max_three min_three max_four min_four
set_option linter.unusedVariables false
set_option linter.unusedSimpArgs false

section
variable {σ : Type} [DecidableEq σ] {L : Nat} {st : σ → Nat → σ} {s0 : σ} {ok : σ → Prop} {l : List σ} {i : Nat}
theorem MetIs.round (h : MetIs L st s0 ok l i 0) {s : σ} (hs : l[i]? = some s) (hok : ∀ c, c < L → ok (st s c)) : MetIs L st s0 ok (growTo st s l L) (i + 1) 0 := by
  have hi := (List.getElem?_eq_some_iff.1 hs).1
  have hge := growTo_ge (st := st) (s := s) (l := l) L
  refine ⟨(Wbfs.grow hs hok h.bfs L (Nat.le_refl _)).turn (by omega), ?_⟩
  have e := h.is_
  rw [metAt_zero] at e
  rw [metAt_zero, metAt_turn]
  unfold metAt
  rw [← e, hs]
end

end Go.Proofs.Ytelkjbacdpmnfaa.A

namespace Go.Proofs.Ytelkjbacdpmnfaa.A
open Go.RowKit Go.W_.PrintWords Go.W_.PrintLast Go.W_.PrintMore
attribute [local go_sem] max2_int min2_int max_two min_two max_three min_three max_four min_four
set_option linter.unusedVariables false
set_option linter.unusedSimpArgs false


end Go.Proofs.Ytelkjbacdpmnfaa.A

namespace Go.Proofs.Ytelkjbacdpmnfaa.A
open Go.RowKit Go.W_.PrintWords Go.W_.PrintLast Go.W_.PrintMore
attribute [local go_sem] max2_int min2_int max_two min_two max_three min_three max_four min_four
set_option linter.unusedVariables false
set_option linter.unusedSimpArgs false


end Go.Proofs.Ytelkjbacdpmnfaa.A

namespace Go.Proofs.Ytelkjbacdpmnfaa.A
open Go.RowKit Go.W_.PrintWords Go.W_.PrintLast Go.W_.PrintMore
attribute [local go_sem] max2_int min2_int max_two min_two max_three min_three max_four min_four
set_option linter.unusedVariables false
set_option linter.unusedSimpArgs false


end Go.Proofs.Ytelkjbacdpmnfaa.A

namespace Go.Proofs.Ytelkjbacdpmnfaa.A
open Go.RowKit Go.W_.PrintWords Go.W_.PrintLast Go.W_.PrintMore
attribute [local go_sem] max2_int min2_int max_two min_two max_three min_three max_four min_four
set_option linter.unusedVariables false
set_option linter.unusedSimpArgs false

section
variable {a : Int} {nx mx : List (List Int)} {ac bc : List Bool} {F : List (Nat × Nat)}
theorem alike_good (hg : goodB a nx ac = true) (hg' : goodB a mx bc = true) : ∃ t, Ev (fun k => number_Alike.f k a nx ac a mx bc) t ∧ (t = true ↔ SameRows a nx ac mx bc) := by
  obtain ⟨X, Y, c1, c2⟩ := ev_canon hg
  obtain ⟨X', Y', c3, c4⟩ := ev_canon hg'
  exact ev_alike_good c1 c3 c2 c4
end

end Go.Proofs.Ytelkjbacdpmnfaa.A

namespace Go.Proofs.Ytelkjbacdpmnfaa.A
open Go.RowKit Go.W_.PrintWords Go.W_.PrintLast Go.W_.PrintMore
attribute [local go_sem] max2_int min2_int max_two min_two max_three min_three max_four min_four
set_option linter.unusedVariables false
set_option linter.unusedSimpArgs false

theorem apart_same {a : Int} {nx mx : List (List Int)} {ac bc : List Bool} {M : List (Nat × Nat)} (h : Wbfs a.toNat (prodSt nx mx) (0, 0) (inP nx.length mx.length) M M.length 0) : sameUp ac bc M M.length = true ↔ SameRows a nx ac mx bc := by
  unfold sameUp
  rw [List.take_length, List.all_eq_true]
  constructor
  · intro h1 w hw
    have h2 := h1 _ (h.all rfl w hw)
    rw [show runW (prodSt nx mx) (0, 0) w = (runS (stL nx) 0 w, runS (stL mx) 0 w) from runW_pair (stL nx) (stL mx) w (0, 0)] at h2
    simpa using h2
  · intro h1 p hp
    obtain ⟨w, hw, rfl⟩ := h.got p hp
    rw [show runW (prodSt nx mx) (0, 0) w = (runS (stL nx) 0 w, runS (stL mx) 0 w) from runW_pair (stL nx) (stL mx) w (0, 0)]
    have h2 := h1 w hw
    simpa using h2
theorem wakes22_any (k : Nat) : caesuralaw22_wakes.f k = some true := rfl
theorem caesuralaw22_NumberApart.told (a0_0 : Int) (A0_1 : Option Addr) (c0_1 : Nat) (l0_1 : List (List Int)) (A0_2 : Option Addr) (c0_2 : Nat) (l0_2 : List Bool) (a1_0 : Int) (A1_1 : Option Addr) (c1_1 : Nat) (l1_1 : List (List Int)) (A1_2 : Option Addr) (c1_2 : Nat) (l1_2 : List Bool) (w : World) (hr0_1 : Kd.C (Kd.slice 3 (Kd.int .i64)) w A0_1 l0_1.length l0_1) (hc0_1 : l0_1.length ≤ c0_1) (hr0_2 : Kd.C Kd.bool w A0_2 l0_2.length l0_2) (hc0_2 : l0_2.length ≤ c0_2) (hr1_1 : Kd.C (Kd.slice 3 (Kd.int .i64)) w A1_1 l1_1.length l1_1) (hc1_1 : l1_1.length ≤ c1_1) (hr1_2 : Kd.C Kd.bool w A1_2 l1_2.length l1_2) (hc1_2 : l1_2.length ≤ c1_2) :
    Calls Try.prog 15 #[.agg #[.int .i64 a0_0, .slice A0_1 l0_1.length c0_1, .slice A0_2 l0_2.length c0_2], .agg #[.int .i64 a1_0, .slice A1_1 l1_1.length c1_1, .slice A1_2 l1_2.length c1_2]] w fun e w' => e = .returned (.bool true) ∧ Below w.heap.size w w' := by
  have hw := wakes22_any 0
  obtain ⟨k0, h0⟩ := (ev_refGood a0_0 l0_1 l0_2).rounds
  obtain ⟨k1, h1⟩ := (ev_refGood a1_0 l1_1 l1_2).rounds
  cases hg0 : goodB a0_0 l0_1 l0_2 with
  | false =>
    rw [hg0] at h0
    exact apart_short0 k0 0 0 a0_0 A0_1 c0_1 l0_1 A0_2 c0_2 l0_2 a1_0 A1_1 c1_1 l1_1 A1_2 c1_2 l1_2 w hr0_1 hc0_1 hr0_2 hc0_2 hr1_1 hc1_1 hr1_2 hc1_2 h0 hw
  | true =>
    rw [hg0] at h0
    cases hg1 : goodB a1_0 l1_1 l1_2 with
    | false =>
      rw [hg1] at h1
      exact apart_short1 k0 k1 0 a0_0 A0_1 c0_1 l0_1 A0_2 c0_2 l0_2 a1_0 A1_1 c1_1 l1_1 A1_2 c1_2 l1_2 w hr0_1 hc0_1 hr0_2 hc0_2 hr1_1 hc1_1 hr1_2 hc1_2 h0 h1 hw
    | true =>
      rw [hg1] at h1
      by_cases h4 : a0_0 = a1_0
      · by_cases h5 : (l0_1.length : Int) > 20
        · exact apart_short3 k0 k1 0 a0_0 A0_1 c0_1 l0_1 A0_2 c0_2 l0_2 a1_0 A1_1 c1_1 l1_1 A1_2 c1_2 l1_2 w hr0_1 hc0_1 hr0_2 hc0_2 hr1_1 hc1_1 hr1_2 hc1_2 h0 h1 h4 h5 hw
        by_cases h6 : (l1_1.length : Int) > 20
        · exact apart_short4 k0 k1 0 a0_0 A0_1 c0_1 l0_1 A0_2 c0_2 l0_2 a1_0 A1_1 c1_1 l1_1 A1_2 c1_2 l1_2 w hr0_1 hc0_1 hr0_2 hc0_2 hr1_1 hc1_1 hr1_2 hc1_2 h0 h1 h4 h5 h6 hw
        · subst h4
          obtain ⟨t, e1, e2⟩ := alike_good hg0 hg1
          obtain ⟨kl, e1⟩ := e1.rounds
          refine apart_main k0 k1 0 kl a0_0 A0_1 c0_1 l0_1 A0_2 c0_2 l0_2 a0_0 A1_1 c1_1 l1_1 A1_2 c1_2 l1_2 w hr0_1 hc0_1 hr0_2 hc0_2 hr1_1 hc1_1 hr1_2 hc1_2 h0 h1 hg0 hg1 rfl h5 h6 (fun M hM => ?_) hw
          rw [e1]
          have h7 := apart_same (ac := l0_2) (bc := l1_2) hM
          rw [← e2] at h7
          congr 1
          cases t <;> cases hs : sameUp l0_2 l1_2 M M.length <;> simp_all
      · exact apart_short2 k0 k1 0 a0_0 A0_1 c0_1 l0_1 A0_2 c0_2 l0_2 a1_0 A1_1 c1_1 l1_1 A1_2 c1_2 l1_2 w hr0_1 hc0_1 hr0_2 hc0_2 hr1_1 hc1_1 hr1_2 hc1_2 h0 h1 h4 hw

end Go.Proofs.Ytelkjbacdpmnfaa.A
