/- By a program, out of the translation (wip/myprint.py). -/
import Derived.Test.YtelkjbacdpmnfaaA0
import Derived.Test.YtelkjbacdpmnfaaACaesuraref21Classes
import Derived.Test.YtelkjbacdpmnfaaACaesuraref21Of
import Derived.Test.YtelkjbacdpmnfaaACaesuraref21Reach
import Derived.Test.YtelkjbacdpmnfaaALeastClasses
import Derived.Test.YtelkjbacdpmnfaaALeastOf
import Derived.Test.YtelkjbacdpmnfaaALeastReach
import Derived.Test.YtelkjbacdpmnfaaAPlainAlike
import Derived.Test.YtelkjbacdpmnfaaAPlainAut
import Derived.Test.YtelkjbacdpmnfaaAPlainGood
import Derived.Test.YtelkjbacdpmnfaaAPlainOf
import Derived.Test.YtelkjbacdpmnfaaAPlainReach
import Derived.Test.YtelkjbacdpmnfaaAPlainSplit
import Derived.Test.YtelkjbacdpmnfaaAThompsonGood
namespace Go.Proofs.Ytelkjbacdpmnfaa.A
open Go.RowKit Go.Proofs.YtelkjbacdpmnfaaW.PrintWords Go.Proofs.YtelkjbacdpmnfaaW.PrintLast Go.Proofs.YtelkjbacdpmnfaaW.PrintMore
attribute [local go_sem] max2_int min2_int max_two min_two max_three min_three max_four min_four   -- for this text's walks alone
set_option linter.unusedVariables false
set_option linter.unusedSimpArgs false

/-! the least automaton: the program's and the reference's -/
section
variable {a : Int} {nx : List (List Int)} {ac R : List Bool} {C : List Int}
theorem ofOk_of (h : Aut a nx ac) (hR : IsReach nx.length a.toNat (stL nx) R) (hC : IsClasses nx.length a.toNat (stL nx) (acL ac) C) : OfOk nx ac R C := by
  have ha2 := h.a2
  refine ⟨hR.1, hC.1, h.ends, h.n2, fun r hr => ?_, fun x hx => ?_⟩
  · obtain ⟨s, hs, rfl⟩ := List.mem_iff_getElem.1 hr
    have e : nx[s] = nx.getD s [] := by rw [List.getD_eq_getElem?_getD, List.getElem?_eq_getElem hs]; rfl
    rw [e]
    have hl := h.len hs
    refine ⟨by omega, fun x hx => ?_⟩
    obtain ⟨c, hc, rfl⟩ := List.mem_iff_getElem.1 hx
    have h1 := h.to_ s c hs (by omega)
    rwa [List.getD_eq_getElem?_getD (i := c), List.getElem?_eq_getElem hc] at h1
  · obtain ⟨s, hs, rfl⟩ := List.mem_iff_getElem.1 hx
    obtain ⟨u, e, hu, _⟩ := hC.2 s (by rw [← hC.1]; exact hs)
    rw [List.getD_eq_getElem?_getD, List.getElem?_eq_getElem hs] at e
    simp only [Option.getD_some] at e
    have := hC.1
    omega
def leastOf (a : Int) (nx : List (List Int)) (ac R : List Bool) (C : List Int) : Int × List (List Int) × List Bool × Bool := (a, ofNext nx C (keptTo R C nx.length) (keptTo R C nx.length), ofEnds ac (keptTo R C nx.length), true)
theorem ev_leastOf (hg : goodB a nx ac = true) (hR : Ev (fun k => least_Reach.f k a nx ac) R) (hC : Ev (fun k => least_Classes.f k a nx ac) C) (ho : OfOk nx ac R C) : Ev (fun k => least_Of.f k a nx ac) (leastOf a nx ac R C) := by
  refine Ev.congr (f := fun k => (least_Reach.f k a nx ac).bind fun R => (least_Classes.f k a nx ac).bind fun C => if ofOk nx ac R C = true then some (leastOf a nx ac R C) else none) (fun k => ?_) ?_
  · unfold least_Of.f thompson_Good.f
    rw [hg]
    rfl
  · refine Ev.bind (f := fun k R => (least_Classes.f k a nx ac).bind fun C => if ofOk nx ac R C = true then some (leastOf a nx ac R C) else none) hR ?_
    refine Ev.bind (f := fun k C => if ofOk nx ac R C = true then some (leastOf a nx ac R C) else none) hC ?_
    exact Ev.congr (f := fun _ => some (leastOf a nx ac R C)) (fun k => if_pos ho.intro) (Ev.now _)
theorem ev_leastOf_bad (hg : goodB a nx ac = false) : Ev (fun k => least_Of.f k a nx ac) (0, [], [], false) := by
  refine Ev.congr (f := fun _ => some (0, [], [], false)) (fun k => ?_) (Ev.now _)
  unfold least_Of.f thompson_Good.f
  simp [hg]
/-! the reference's -/
def doneL (n : Nat) (M : List Int) : List Bool := (List.range n).map fun (x : Nat) => decide ((x : Int) ∈ M)
def atL (n : Nat) (M : List Int) : List Int := (List.range n).map fun (x : Nat) => numOf M (x : Int)
theorem doneL_getD {n : Nat} {M : List Int} {x : Nat} (hx : x < n) : (doneL n M).getD x false = decide ((x : Int) ∈ M) := by
  unfold doneL
  rw [List.getD_eq_getElem?_getD, List.getElem?_map, List.getElem?_range hx]
  rfl
theorem atL_getD {n : Nat} {M : List Int} {x : Nat} (hx : x < n) : (atL n M).getD x 0 = numOf M (x : Int) := by
  unfold atL
  rw [List.getD_eq_getElem?_getD, List.getElem?_map, List.getElem?_range hx]
  rfl
theorem doneL_set {n : Nat} {M : List Int} {x : Nat} (hx : x < n) : (doneL n M).set x true = doneL n (M ++ [(x : Int)]) := by
  apply List.ext_getElem (by simp [doneL])
  intro i h1 h2
  simp only [doneL, List.getElem_set, List.getElem_map, List.getElem_range, List.mem_append, List.mem_singleton]
  by_cases h : x = i
  · subst h
    simp
  · rw [if_neg h]
    have : ¬ (i : Int) = (x : Int) := by omega
    simp [this]
theorem atL_set {n : Nat} {M : List Int} {x : Nat} (hx : x < n) (hn : (x : Int) ∉ M) : (atL n M).set x (M.length : Int) = atL n (M ++ [(x : Int)]) := by
  apply List.ext_getElem (by simp [atL])
  intro i h1 h2
  simp only [atL, List.getElem_set, List.getElem_map, List.getElem_range, numOf, List.mem_append, List.mem_singleton, List.idxOf_append]
  by_cases h : x = i
  · subst h
    simp [hn]
  · rw [if_neg h]
    have h3 : ¬ (i : Int) = (x : Int) := by omega
    by_cases h4 : (i : Int) ∈ M
    · simp [h4]
    · simp [h4, h3]
theorem refOf_l2 (h : Aut a nx ac) (ho : OfOk nx ac R C) {K : List Int} {i t : Nat} (hil : i < K.length) (hK1 : K.length ≤ nx.length) (hKi : K.getD i 0 = (t : Int)) (ht : t < nx.length) {r : Int × List (List Int) × List Bool × Bool}
    (hnext : Ev (fun k => caesuraref21_Of.l1 k C (atL nx.length (codesOf C K)) K ((i + 1 : Nat) : Int) a nx ac a (ofNext nx C K (K.take (i + 1))) (ofEnds ac (K.take (i + 1)))) r) :
    ∀ (d j : Nat), j + d = a.toNat → Ev (fun k => caesuraref21_Of.l2 k C (atL nx.length (codesOf C K)) K (i : Int) ((ofRow nx C K (t : Int)).take j) (j : Int) a nx ac a (ofNext nx C K (K.take i)) (ofEnds ac (K.take i))) r := by
  have ha1 := h.a1
  have ha2 := h.a2
  have hn2 := h.n2
  have hl := h.len ht
  have hrl : (ofRow nx C K (t : Int)).length = a.toNat := by rw [ofRow_length, hl]
  have hen := h.ends
  intro d
  induction d with
  | zero =>
    intro j hj
    obtain rfl : j = a.toNat := by omega
    rw [List.take_of_length_le (by omega)]
    refine Ev.step (fun k => ?_) hnext
    simp only [caesuraref21_Of.l2, rd_nat, hKi, rdb_nat, ofNext_length, ofEnds_length, List.length_take]
    rw [if_neg (by omega), if_pos (by omega), if_pos (by omega), if_pos (by omega), if_pos (by omega), if_pos (by omega), if_pos (by omega), wadd (by omega) (by omega), nat_succ_cast, ← ofNext_succ hil hKi, ← ofEnds_succ hil hKi]
  | succ d ih =>
    intro j hj
    have hjl : j < a.toNat := by omega
    have hx := h.shuts t j ht hjl
    have hcode := ho.code hx
    obtain ⟨x, hx2⟩ : ∃ x : Nat, C.getD (stL nx t j) 0 = (x : Int) := ⟨(C.getD (stL nx t j) 0).toNat, by omega⟩
    have hCl := ho.c
    have hz : (atL nx.length (codesOf C K)).length = nx.length := by simp [atL]
    refine Ev.step (fun k => ?_) (ih (j + 1) (by omega))
    simp only [caesuraref21_Of.l2, rd_nat, hKi, rd5_nat, h.st ht hjl, hx2, hz, List.length_take, hrl]
    rw [if_pos (by omega), if_pos (by omega), if_pos (by omega), if_pos (by omega), if_pos (by omega), if_pos (by omega), if_pos (by omega), if_pos (by omega), if_pos (by omega), if_pos (by omega), if_pos (by omega), if_pos (by omega), wadd (by omega) (by omega), nat_succ_cast, atL_getD (by omega), ← ofRow_succ (tN := stL nx t j) rfl (by omega) (h.st ht hjl), hx2]
theorem refOf_l1 (h : Aut a nx ac) (ho : OfOk nx ac R C) : ∀ (d i : Nat), i + d = (keptTo R C nx.length).length → Ev (fun k => caesuraref21_Of.l1 k C (atL nx.length (codesOf C (keptTo R C nx.length))) (keptTo R C nx.length) (i : Int) a nx ac a (ofNext nx C (keptTo R C nx.length) ((keptTo R C nx.length).take i)) (ofEnds ac ((keptTo R C nx.length).take i))) (leastOf a nx ac R C) := by
  have hK1 := keptTo_length R C nx.length
  have hn2 := h.n2
  obtain ⟨K, hK⟩ : ∃ K, K = keptTo R C nx.length := ⟨_, rfl⟩
  unfold leastOf
  rw [← hK] at hK1 ⊢
  intro d
  induction d with
  | zero =>
    intro i hi
    rw [List.take_of_length_le (by omega)]
    refine Ev.step (f := fun _ => some _) (fun k => ?_) (Ev.now _)
    simp only [caesuraref21_Of.l1]
    rw [if_neg (by omega)]
  | succ d ih =>
    intro i hi
    have hil : i < K.length := by omega
    obtain ⟨t, ht, htn⟩ := kept_nat hK hil
    refine Ev.step (fun k => ?_) (refOf_l2 h ho hil hK1 ht htn (ih (i + 1) (by omega)) a.toNat 0 (by omega))
    simp only [caesuraref21_Of.l1]
    rw [if_pos (by omega)]
    rfl
theorem refOf_l0 (h : Aut a nx ac) (ho : OfOk nx ac R C) : ∀ (d s : Nat), s + d = nx.length → Ev (fun k => caesuraref21_Of.l0 k R C (atL nx.length (codesOf C (keptTo R C s))) (keptTo R C s) (doneL nx.length (codesOf C (keptTo R C s))) (s : Int) a nx ac) (leastOf a nx ac R C) := by
  have hn2 := h.n2
  have hRl := ho.r
  have hCl := ho.c
  intro d
  induction d with
  | zero =>
    intro s hs
    obtain rfl : s = nx.length := by omega
    refine Ev.step (fun k => ?_) (refOf_l1 h ho (keptTo R C nx.length).length 0 (by omega))
    simp only [caesuraref21_Of.l0]
    rw [if_neg (by omega)]
    rfl
  | succ d ih =>
    intro s hs
    have hsl : s < nx.length := by omega
    have hcode := ho.code hsl
    obtain ⟨x, hx⟩ : ∃ x : Nat, C.getD s 0 = (x : Int) := ⟨(C.getD s 0).toNat, by omega⟩
    have hxl : x < nx.length := by omega
    have hkl := keptTo_length R C s
    have hih := ih (s + 1) (by omega)
    have hz1 : ∀ M, (doneL nx.length M).length = nx.length := fun M => by simp [doneL]
    have hz2 : ∀ M, (atL nx.length M).length = nx.length := fun M => by simp [atL]
    cases hb : R.getD s false with
    | false =>
      rw [keptTo_old (by rw [hb]; simp)] at hih
      refine Ev.step (fun k => ?_) hih
      simp only [caesuraref21_Of.l0, rdb_nat, hb]
      rw [if_pos (by omega), if_pos (by omega), if_pos (by omega), if_neg (by decide), wadd (by omega) (by omega), nat_succ_cast]
    | true =>
      by_cases hm : (x : Int) ∈ codesOf C (keptTo R C s)
      · rw [keptTo_old (by rw [hx]; exact fun e => e.2 hm)] at hih
        refine Ev.step (fun k => ?_) hih
        simp only [caesuraref21_Of.l0, rdb_nat, hb, rd_nat, hx, hz1, doneL_getD hxl, decide_eq_true hm]
        rw [if_pos (by omega), if_pos (by omega), if_pos (by omega), if_pos trivial, if_pos (by omega), if_pos (by omega), if_pos (by omega), if_pos trivial, wadd (by omega) (by omega), nat_succ_cast]
      · rw [keptTo_new hb (by rw [hx]; exact hm), codesOf_snoc, hx, ← doneL_set hxl, ← atL_set hxl hm, codesOf_length] at hih
        refine Ev.step (fun k => ?_) hih
        simp only [caesuraref21_Of.l0, rdb_nat, hb, rd_nat, hx, hz1, hz2, doneL_getD hxl, decide_eq_false hm, Int.toNat_natCast]
        rw [if_pos (by omega), if_pos (by omega), if_pos (by omega), if_pos trivial, if_pos (by omega), if_pos (by omega), if_pos (by omega), if_neg (by decide), if_pos (by omega), if_pos (by omega), wadd (by omega) (by omega), nat_succ_cast]
theorem ev_refOf (hg : goodB a nx ac = true) (hR : Ev (fun k => caesuraref21_Reach.f k a nx ac) R) (hC : Ev (fun k => caesuraref21_Classes.f k a nx ac) C) (ho : OfOk nx ac R C) : Ev (fun k => caesuraref21_Of.f k a nx ac) (leastOf a nx ac R C) := by
  have h := Aut.of hg
  have hn2 := h.n2
  have hGo := ev_refGood a nx ac
  rw [hg] at hGo
  unfold caesuraref21_Of.f
  refine Ev.bind hGo (Ev.congr (f := fun k => (caesuraref21_Reach.f k a nx ac).bind fun R => (caesuraref21_Classes.f k a nx ac).bind fun C => caesuraref21_Of.l0 k R C (atL nx.length []) [] (doneL nx.length []) 0 a nx ac) (fun k => ?_) ?_)
  · rw [if_pos rfl]
    have e1 : List.replicate ((nx.length : Int)).toNat (0 : Int) = atL nx.length [] := by
      rw [Int.toNat_natCast]
      apply List.ext_getElem (by simp [atL])
      intro i h1 h2
      simp [atL, numOf]
    have e2 : List.replicate ((nx.length : Int)).toNat false = doneL nx.length [] := by
      rw [Int.toNat_natCast]
      apply List.ext_getElem (by simp [doneL])
      intro i h1 h2
      simp [doneL]
    rw [e1, e2]
    have p1 : (0 : Int) ≤ (nx.length : Int) := by omega
    have p2 : ((nx.length : Int)).toNat ≤ 35184372088832 := by omega
    have p3 : ((nx.length : Int)).toNat ≤ 281474976710656 := by omega
    simp only [if_pos p1, if_pos p2, if_pos p3]
  · refine Ev.bind (f := fun k R => (caesuraref21_Classes.f k a nx ac).bind fun C => caesuraref21_Of.l0 k R C (atL nx.length []) [] (doneL nx.length []) 0 a nx ac) hR ?_
    refine Ev.bind (f := fun k C => caesuraref21_Of.l0 k R C (atL nx.length []) [] (doneL nx.length []) 0 a nx ac) hC ?_
    exact refOf_l0 h ho nx.length 0 (by omega)
theorem ev_refOf_bad (hg : goodB a nx ac = false) : Ev (fun k => caesuraref21_Of.f k a nx ac) (0, [], [], false) := by
  have hGo := ev_refGood a nx ac
  rw [hg] at hGo
  unfold caesuraref21_Of.f
  exact Ev.bind hGo (Ev.congr (f := fun _ => some (0, [], [], false)) (fun k => by simp) (Ev.now _))
end

end Go.Proofs.Ytelkjbacdpmnfaa.A
