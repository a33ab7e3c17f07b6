/- By a program, out of the translation (wip/myprint.py). -/
import Derived.Test.YtelkjbacdpmnfaaA0
import Derived.Test.YtelkjbacdpmnfaaAAnyOrder
namespace Go.Proofs.Ytelkjbacdpmnfaa.A
open Go.RowKit Go.Proofs.YtelkjbacdpmnfaaW.PrintWords Go.Proofs.YtelkjbacdpmnfaaW.PrintLast Go.Proofs.YtelkjbacdpmnfaaW.PrintMore
attribute [local go_sem] max2_int min2_int max_two min_two max_three min_three max_four min_four   -- for this text's walks alone
set_option linter.unusedVariables false
set_option linter.unusedSimpArgs false

/-! the automaton of what is reached and unlike -/
/-- The states that are kept: of each class the first one that is reached. -/
def codesOf (C : List Int) (K : List Int) : List Int := K.map fun t => C.getD t.toNat 0
def keptTo (R : List Bool) (C : List Int) : Nat → List Int
  | 0 => []
  | s + 1 => if R.getD s false = true ∧ C.getD s 0 ∉ codesOf C (keptTo R C s) then keptTo R C s ++ [(s : Int)] else keptTo R C s
def numOf (M : List Int) (x : Int) : Int := if x ∈ M then ((M.idxOf x : Nat) : Int) else 0
def ofRow (nx : List (List Int)) (C K : List Int) (s : Int) : List Int := (nx.getD s.toNat []).map fun q => numOf (codesOf C K) (C.getD q.toNat 0)
def ofNext (nx : List (List Int)) (C K M : List Int) : List (List Int) := M.map (ofRow nx C K)
def ofEnds (ac : List Bool) (M : List Int) : List Bool := M.map fun s => ac.getD s.toNat false
theorem keptTo_old {R : List Bool} {C : List Int} {s : Nat} (h : ¬ (R.getD s false = true ∧ C.getD s 0 ∉ codesOf C (keptTo R C s))) : keptTo R C (s + 1) = keptTo R C s := if_neg h
theorem keptTo_new {R : List Bool} {C : List Int} {s : Nat} (h : R.getD s false = true) (k : C.getD s 0 ∉ codesOf C (keptTo R C s)) : keptTo R C (s + 1) = keptTo R C s ++ [(s : Int)] := if_pos ⟨h, k⟩
theorem keptTo_mem {R : List Bool} {C : List Int} {t : Int} : ∀ {k : Nat}, t ∈ keptTo R C k → 0 ≤ t ∧ t < k
  | 0, h => by simp [keptTo] at h
  | k + 1, h => by
    unfold keptTo at h
    split at h
    · rcases List.mem_append.1 h with h | h
      · have := keptTo_mem h; omega
      · have := List.mem_singleton.1 h; omega
    · have := keptTo_mem h; omega
theorem keptTo_length (R : List Bool) (C : List Int) : ∀ k : Nat, (keptTo R C k).length ≤ k
  | 0 => Nat.le_refl _
  | k + 1 => by
    have := keptTo_length R C k
    unfold keptTo
    split
    · simp; omega
    · omega
theorem codesOf_snoc (C K : List Int) (s : Nat) : codesOf C (K ++ [(s : Int)]) = codesOf C K ++ [C.getD s 0] := by simp [codesOf]
theorem codesOf_length (C K : List Int) : (codesOf C K).length = K.length := by simp [codesOf]
/-- What Of asks of the states reached and of the classes. -/
def ofOk (nx : List (List Int)) (ac R : List Bool) (C : List Int) : Bool :=
  decide (R.length = nx.length) && decide (C.length = nx.length) && decide (ac.length = nx.length) && decide (nx.length ≤ 1000) && nx.all (fun r => decide (r.length ≤ 1000) && r.all fun x => decide (0 ≤ x) && decide (x < nx.length)) && C.all fun x => decide (0 ≤ x) && decide (x < nx.length)
structure OfOk (nx : List (List Int)) (ac R : List Bool) (C : List Int) : Prop where
  r : R.length = nx.length
  c : C.length = nx.length
  a : ac.length = nx.length
  n : nx.length ≤ 1000
  rows : ∀ r ∈ nx, r.length ≤ 1000 ∧ ∀ x ∈ r, 0 ≤ x ∧ x < nx.length
  cl : ∀ x ∈ C, 0 ≤ x ∧ x < nx.length
theorem ofOk_elim {nx : List (List Int)} {ac R : List Bool} {C : List Int} (h : ofOk nx ac R C = true) : OfOk nx ac R C := by
  unfold ofOk at h
  simp only [Bool.and_eq_true, decide_eq_true_eq, List.all_eq_true] at h
  obtain ⟨⟨⟨⟨⟨h1, h2⟩, h3⟩, h4⟩, h5⟩, h6⟩ := h
  exact ⟨h1, h2, h3, h4, h5, h6⟩
theorem OfOk.intro {nx : List (List Int)} {ac R : List Bool} {C : List Int} (h : OfOk nx ac R C) : ofOk nx ac R C = true := by
  unfold ofOk
  simp only [Bool.and_eq_true, decide_eq_true_eq, List.all_eq_true]
  exact ⟨⟨⟨⟨⟨h.r, h.c⟩, h.a⟩, h.n⟩, h.rows⟩, h.cl⟩
theorem OfOk.code {nx : List (List Int)} {ac R : List Bool} {C : List Int} (h : OfOk nx ac R C) {s : Nat} (hs : s < nx.length) : 0 ≤ C.getD s 0 ∧ C.getD s 0 < nx.length := by
  refine h.cl _ ?_
  rw [List.getD_eq_getElem?_getD, List.getElem?_eq_getElem (by rw [h.c]; exact hs)]
  exact List.getElem_mem _
theorem OfOk.row {nx : List (List Int)} {ac R : List Bool} {C : List Int} (h : OfOk nx ac R C) {s c : Nat} (hs : s < nx.length) (hc : c < (nx.getD s []).length) : 0 ≤ (nx.getD s []).getD c 0 ∧ (nx.getD s []).getD c 0 < nx.length := by
  have h1 : nx.getD s [] ∈ nx := by
    rw [List.getD_eq_getElem?_getD, List.getElem?_eq_getElem hs]
    exact List.getElem_mem _
  refine (h.rows _ h1).2 _ ?_
  generalize nx.getD s [] = l at hc
  rw [List.getD_eq_getElem?_getD, List.getElem?_eq_getElem hc]
  exact List.getElem_mem _
theorem OfOk.width {nx : List (List Int)} {ac R : List Bool} {C : List Int} (h : OfOk nx ac R C) {s : Nat} (hs : s < nx.length) : (nx.getD s []).length ≤ 1000 := by
  refine (h.rows _ ?_).1
  rw [List.getD_eq_getElem?_getD, List.getElem?_eq_getElem hs]
  exact List.getElem_mem _
theorem ofRow_succ {nx : List (List Int)} {C K : List Int} {t j tN : Nat} {Rw : List Int} (hR : Rw = nx.getD t []) (hj : j < Rw.length) (ht : Rw.getD j 0 = (tN : Int)) : (ofRow nx C K (t : Int)).take j ++ [numOf (codesOf C K) (C.getD tN 0)] = (ofRow nx C K (t : Int)).take (j + 1) := by
  have h1 : ofRow nx C K (t : Int) = Rw.map fun q => numOf (codesOf C K) (C.getD q.toNat 0) := by unfold ofRow; rw [Int.toNat_natCast, hR]
  rw [h1, List.take_succ_eq_append_getElem (by simpa using hj)]
  congr 2
  rw [List.getElem_map]
  rw [List.getD_eq_getElem?_getD, List.getElem?_eq_getElem hj] at ht
  simp only [Option.getD_some] at ht
  rw [ht, Int.toNat_natCast]
theorem kept_nat {R : List Bool} {C K : List Int} {s i : Nat} (hK : K = keptTo R C s) (hi : i < K.length) : ∃ t : Nat, K.getD i 0 = (t : Int) ∧ t < s := by
  have h : K.getD i 0 ∈ keptTo R C s := by
    rw [← hK, List.getD_eq_getElem?_getD, List.getElem?_eq_getElem hi]
    exact List.getElem_mem _
  have := keptTo_mem h
  exact ⟨(K.getD i 0).toNat, by omega, by omega⟩
theorem ofNext_succ {nx : List (List Int)} {C K : List Int} {i t : Nat} (hi : i < K.length) (ht : K.getD i 0 = (t : Int)) : ofNext nx C K (K.take i) ++ [ofRow nx C K (t : Int)] = ofNext nx C K (K.take (i + 1)) := by
  rw [List.getD_eq_getElem?_getD, List.getElem?_eq_getElem hi] at ht
  simp only [Option.getD_some] at ht
  rw [List.take_succ_eq_append_getElem hi, ofNext, ofNext, List.map_append, ← ht]
  rfl
theorem ofEnds_succ {ac : List Bool} {K : List Int} {i t : Nat} (hi : i < K.length) (ht : K.getD i 0 = (t : Int)) : ofEnds ac (K.take i) ++ [ac.getD t false] = ofEnds ac (K.take (i + 1)) := by
  rw [List.getD_eq_getElem?_getD, List.getElem?_eq_getElem hi] at ht
  simp only [Option.getD_some] at ht
  rw [List.take_succ_eq_append_getElem hi, ofEnds, ofEnds, List.map_append]
  congr 1
  rw [List.map_singleton, ht, Int.toNat_natCast]
theorem ofNext_length (nx : List (List Int)) (C K M : List Int) : (ofNext nx C K M).length = M.length := by simp [ofNext]
theorem ofEnds_length (ac : List Bool) (M : List Int) : (ofEnds ac M).length = M.length := by simp [ofEnds]
theorem ofRow_length {nx : List (List Int)} {C K : List Int} {t : Nat} : (ofRow nx C K (t : Int)).length = (nx.getD t []).length := by unfold ofRow; rw [List.length_map, Int.toNat_natCast]

end Go.Proofs.Ytelkjbacdpmnfaa.A
