/- By a program, out of the translation (wip/myprint.py). -/
import Derived.Test.YtelkjbacdpmnfaaA0
import Derived.Test.YtelkjbacdpmnfaaAPlainAut
import Derived.Test.YtelkjbacdpmnfaaAPlainBase
import Derived.Test.YtelkjbacdpmnfaaAPlainCanon
import Derived.Test.YtelkjbacdpmnfaaAThompsonGood
namespace Go.Proofs.Ytelkjbacdpmnfaa.A
open Go.RowKit Go.Proofs.YtelkjbacdpmnfaaW.PrintWords Go.Proofs.YtelkjbacdpmnfaaW.PrintLast Go.Proofs.YtelkjbacdpmnfaaW.PrintMore
attribute [local go_sem] max2_int min2_int max_two min_two max_three min_three max_four min_four   -- for this text's walks alone
set_option linter.unusedVariables false
set_option linter.unusedSimpArgs false

/-! an automaton whose states stand twice -/
/-- Which of a state's two an edge leads to. -/
def dblBit (T : List Int) (j : Nat) : Bool := decide (j < T.length) && decide (Int.tmod (T.getD j 0) 2 = 1)
def dblSt (L : Nat) (nx : List (List Int)) (T : List Int) (i c : Nat) : Nat := stL nx (i % nx.length) c + if dblBit T (i * L + c) = true then nx.length else 0
def dblRow (L : Nat) (nx : List (List Int)) (T : List Int) (i c : Nat) : List Int := (List.range c).map fun c => ((dblSt L nx T i c : Nat) : Int)
def dblNext (L : Nat) (nx : List (List Int)) (T : List Int) (i : Nat) : List (List Int) := (List.range i).map fun s => dblRow L nx T s L
def dblAcc (n : Nat) (ac : List Bool) (i : Nat) : List Bool := (List.range i).map fun s => acL ac (s % n)
theorem tmod_nat (i n : Nat) : Int.tmod (i : Int) (n : Int) = ((i % n : Nat) : Int) := (Int.ofNat_tmod i n).symm
section
variable {a : Int} {nx : List (List Int)} {ac : List Bool} {T : List Int}
theorem dblRow_snoc (L i c : Nat) : dblRow L nx T i (c + 1) = dblRow L nx T i c ++ [((dblSt L nx T i c : Nat) : Int)] := by
  unfold dblRow
  rw [List.range_succ, List.map_append]
  rfl
theorem dblNext_snoc (L i : Nat) : dblNext L nx T (i + 1) = dblNext L nx T i ++ [dblRow L nx T i L] := by
  unfold dblNext
  rw [List.range_succ, List.map_append]
  rfl
theorem dblAcc_snoc (n i : Nat) : dblAcc n ac (i + 1) = dblAcc n ac i ++ [acL ac (i % n)] := by
  unfold dblAcc
  rw [List.range_succ, List.map_append]
  rfl
theorem dblRow_length (L i c : Nat) : (dblRow L nx T i c).length = c := by simp [dblRow]
theorem dblNext_length (L i : Nat) : (dblNext L nx T i).length = i := by simp [dblNext]
theorem dblAcc_length (n i : Nat) : (dblAcc n ac i).length = i := by simp [dblAcc]
theorem dblNext_get {L m i : Nat} (hi : i < m) : (dblNext L nx T m).getD i [] = dblRow L nx T i L := by
  unfold dblNext
  rw [List.getD_eq_getElem?_getD, List.getElem?_map, List.getElem?_range hi]
  rfl
theorem dbl_st {L m i c : Nat} (hi : i < m) (hc : c < L) : stL (dblNext L nx T m) i c = dblSt L nx T i c := by
  show (((dblNext L nx T m).getD i []).getD c 0).toNat = _
  rw [dblNext_get hi]
  unfold dblRow
  rw [List.getD_eq_getElem?_getD, List.getElem?_map, List.getElem?_range hc]
  rfl
theorem dbl_low (h : Aut a nx ac) {i c : Nat} (hc : c < a.toNat) : dblSt a.toNat nx T i c < 2 * nx.length ∧ dblSt a.toNat nx T i c % nx.length = stL nx (i % nx.length) c := by
  have h1 := h.n1
  have h2 := h.shuts (i % nx.length) c (Nat.mod_lt _ (by omega)) hc
  unfold dblSt
  split
  · refine ⟨by omega, ?_⟩
    rw [Nat.add_mod_right, Nat.mod_eq_of_lt h2]
  · refine ⟨by omega, ?_⟩
    rw [Nat.add_zero, Nat.mod_eq_of_lt h2]
theorem dbl_good (h : Aut a nx ac) (hn : nx.length ≤ 20) : goodB a (dblNext a.toNat nx T (2 * nx.length)) (dblAcc nx.length ac (2 * nx.length)) = true := by
  have h1 := h.n1
  have ha := h.a1
  refine good_of h.a1 h.a2 (by rw [dblNext_length]; omega) (by rw [dblNext_length]; omega) (by rw [dblNext_length, dblAcc_length]) fun i hi => ?_
  rw [dblNext_length] at hi ⊢
  rw [dblNext_get hi]
  refine ⟨by rw [dblRow_length]; omega, fun x hx => ?_⟩
  obtain ⟨c, hc, rfl⟩ := List.mem_map.1 hx
  have := (dbl_low (T := T) h (i := i) (List.mem_range.1 hc)).1
  omega
theorem dbl_run (h : Aut a nx ac) : ∀ (w : List Nat) (i : Nat), i < 2 * nx.length → (∀ c ∈ w, c < a.toNat) → runS (stL (dblNext a.toNat nx T (2 * nx.length))) i w < 2 * nx.length ∧ runS (stL (dblNext a.toNat nx T (2 * nx.length))) i w % nx.length = runS (stL nx) (i % nx.length) w
  | [], i, hi, _ => ⟨hi, rfl⟩
  | c :: w, i, hi, hw => by
    have hc := hw c (by simp)
    have h1 := dbl_low (T := T) h (i := i) hc
    have e := dbl_st (nx := nx) (T := T) hi hc
    have h2 := dbl_run h w (dblSt a.toNat nx T i c) h1.1 (fun d hd => hw d (by simp [hd]))
    rw [h1.2] at h2
    show runS (stL (dblNext a.toNat nx T (2 * nx.length))) (stL (dblNext a.toNat nx T (2 * nx.length)) i c) w < _ ∧ runS (stL (dblNext a.toNat nx T (2 * nx.length))) (stL (dblNext a.toNat nx T (2 * nx.length)) i c) w % nx.length = runS (stL nx) (stL nx (i % nx.length) c) w
    rw [e]
    exact h2
theorem dbl_same (h : Aut a nx ac) : SameRows a nx ac (dblNext a.toNat nx T (2 * nx.length)) (dblAcc nx.length ac (2 * nx.length)) := by
  intro w hw
  have h1 := h.n1
  obtain ⟨h2, h3⟩ := dbl_run (T := T) h w 0 (by omega) hw
  rw [Nat.zero_mod] at h3
  rw [← h3]
  generalize runS (stL (dblNext a.toNat nx T (2 * nx.length))) 0 w = s at h2
  show _ = (dblAcc nx.length ac (2 * nx.length)).getD s false
  unfold dblAcc
  rw [List.getD_eq_getElem?_getD, List.getElem?_map, List.getElem?_range h2]
  rfl
end

end Go.Proofs.Ytelkjbacdpmnfaa.A
