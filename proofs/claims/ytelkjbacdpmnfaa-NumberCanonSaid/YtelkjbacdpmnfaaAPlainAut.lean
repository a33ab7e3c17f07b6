/- By a program, out of the translation (wip/myprint.py). -/
import Derived.Test.YtelkjbacdpmnfaaA0
import Derived.Test.YtelkjbacdpmnfaaALeastReach
import Derived.Test.YtelkjbacdpmnfaaAPlainBase
import Derived.Test.YtelkjbacdpmnfaaAPlainGood
import Derived.Test.YtelkjbacdpmnfaaAThompsonGood
namespace Go.Proofs.Ytelkjbacdpmnfaa.A
open Go.RowKit Go.Proofs.YtelkjbacdpmnfaaW.PrintWords Go.Proofs.YtelkjbacdpmnfaaW.PrintLast Go.Proofs.YtelkjbacdpmnfaaW.PrintMore
attribute [local go_sem] max2_int min2_int max_two min_two max_three min_three max_four min_four   -- for this text's walks alone
set_option linter.unusedVariables false
set_option linter.unusedSimpArgs false

/-! good automata, and the states that they reach: the program's and the reference's -/
structure Aut (a : Int) (nx : List (List Int)) (ac : List Bool) : Prop where
  a1 : 1 ≤ a
  a2 : a ≤ 64
  n1 : 1 ≤ nx.length
  n2 : nx.length ≤ 1000
  ends : ac.length = nx.length
  rows : ∀ s, s < nx.length → ((nx.getD s []).length : Int) = a
  to_ : ∀ s c : Nat, s < nx.length → (c : Int) < a → 0 ≤ (nx.getD s []).getD c 0 ∧ (nx.getD s []).getD c 0 < nx.length
theorem getD_in {α : Type} (l : List α) (d : α) {i : Nat} (h : i < l.length) : l.getD i d ∈ l := by
  rw [List.getD_eq_getElem?_getD, List.getElem?_eq_getElem h]
  exact List.getElem_mem h
theorem Aut.of {a : Int} {nx : List (List Int)} {ac : List Bool} (h : goodB a nx ac = true) : Aut a nx ac := by
  unfold goodB at h
  simp only [Bool.and_eq_true, decide_eq_true_eq, Bool.not_eq_true', List.any_eq_false] at h
  obtain ⟨⟨⟨⟨⟨h1, h2⟩, h3⟩, h4⟩, h5⟩, h6⟩ := h
  have key : ∀ l ∈ nx, (l.length : Int) = a ∧ ∀ x ∈ l, 0 ≤ x ∧ x < nx.length := by
    intro l hl
    have h7 := h6 l hl
    unfold BadRow at h7
    simp only [Bool.or_eq_true, Bool.not_eq_true', decide_eq_false_iff_not, not_or, Decidable.not_not, List.any_eq_true, not_exists, not_and] at h7
    refine ⟨h7.1, fun x hx => ?_⟩
    have h8 := h7.2 x hx
    unfold OutOf at h8
    simp only [Bool.or_eq_true, decide_eq_true_eq, not_or] at h8
    omega
  refine ⟨h1, h2, by omega, by omega, by omega, fun s hs => (key _ (getD_in nx [] hs)).1, fun s c hs hc => ?_⟩
  obtain ⟨e, hx⟩ := key _ (getD_in nx [] hs)
  exact hx _ (getD_in _ 0 (by omega))
section
variable {a : Int} {nx : List (List Int)} {ac : List Bool}
theorem Aut.st (h : Aut a nx ac) {s c : Nat} (hs : s < nx.length) (hc : c < a.toNat) : (nx.getD s []).getD c 0 = ((stL nx s c : Nat) : Int) := by
  have := h.to_ s c hs (by omega)
  unfold stL
  omega
theorem Aut.shuts (h : Aut a nx ac) : Shuts nx.length a.toNat (stL nx) := by
  intro s c hs hc
  have := h.to_ s c hs (by omega)
  unfold stL
  omega
theorem Aut.len (h : Aut a nx ac) {s : Nat} (hs : s < nx.length) : (nx.getD s []).length = a.toNat := by
  have := h.rows s hs
  omega
end
def castL (l : List Nat) : List Int := l.map fun (s : Nat) => (s : Int)
theorem castL_length (l : List Nat) : (castL l).length = l.length := by simp [castL]
theorem castL_snoc (l : List Nat) (s : Nat) : castL (l ++ [s]) = castL l ++ [(s : Int)] := by simp [castL]
theorem castL_getD {l : List Nat} {i : Nat} (h : i < l.length) : (castL l).getD i 0 = ((l.getD i 0 : Nat) : Int) := by
  unfold castL
  rw [List.getD_eq_getElem?_getD, List.getD_eq_getElem?_getD, List.getElem?_map, List.getElem?_eq_getElem h]
  rfl
theorem castL_drop (l : List Nat) (i : Nat) : castL (l.drop i) = (castL l).drop i := by simp [castL, List.map_drop]
theorem drop_getD {l : List Nat} {i : Nat} : (l.drop i).getD 0 0 = l.getD i 0 := by
  rw [List.getD_eq_getElem?_getD, List.getD_eq_getElem?_getD, List.getElem?_drop]
  simp
theorem ev_leastReach_l1 {a : Int} {nx : List (List Int)} {ac : List Bool} (h : Aut a nx ac) (i : Nat)
    (hnext : ∀ (out : List Bool) (l : List Nat), i < l.length → Bfs nx.length a.toNat (stL nx) out l (i + 1) 0 → ∃ R, Ev (fun k => least_Reach.l0 k out (castL (l.drop (i + 1))) a nx ac) R ∧ IsReach nx.length a.toNat (stL nx) R) :
    ∀ (d c : Nat) (out : List Bool) (l : List Nat), c + d = a.toNat → i < l.length → Bfs nx.length a.toNat (stL nx) out l i c → ∃ R, Ev (fun k => least_Reach.l1 k out (castL (l.drop i)) (nx.getD (l.getD i 0) []) ((nx.getD (l.getD i 0) []).length : Int) (c : Int) a nx ac) R ∧ IsReach nx.length a.toNat (stL nx) R := by
  intro d
  induction d with
  | zero =>
    intro c out l hc hi hB
    obtain rfl : c = a.toNat := by omega
    obtain ⟨R, hR, hI⟩ := hnext out l hi (hB.turn hi)
    refine ⟨R, Ev.step (f := fun k => least_Reach.l0 k out (castL (l.drop (i + 1))) a nx ac) (fun k => ?_) hR, hI⟩
    have hl := h.len (hB.cur hi).2
    have e : (castL (l.drop i)).drop (1 : Int).toNat = castL (l.drop (i + 1)) := by
      rw [castL_drop, castL_drop, List.drop_drop]
      rfl
    have hz : 1 ≤ ((castL (l.drop i)).length : Int) := by rw [castL_length, List.length_drop]; omega
    simp only [least_Reach.l1]
    rw [if_neg (by omega), if_pos hz, e]
  | succ d ih =>
    intro c out l hc hi hB
    have hcl : c < a.toNat := by omega
    obtain ⟨hm, hlow⟩ := hB.cur hi
    have hl := h.len hlow
    have hst := h.st hlow hcl
    have hx := h.shuts _ c hlow hcl
    have hmo := hB.most
    have hn2 := h.n2
    have ha1 := h.a1
    have ha2 := h.a2
    have hz : (castL (l.drop i)).length < 17592186044416 := by rw [castL_length, List.length_drop]; omega
    have hol : ((stL nx (l.getD i 0) c : Nat) : Int) < (out.length : Int) := by rw [hB.len]; omega
    cases hb : out.getD (stL nx (l.getD i 0) c) false with
    | true =>
      obtain ⟨R, hR, hI⟩ := ih (c + 1) out l (by omega) hi (hB.old ((hB.mem _ hx).1 hb))
      refine ⟨R, Ev.step (f := fun k => least_Reach.l1 k out (castL (l.drop i)) (nx.getD (l.getD i 0) []) ((nx.getD (l.getD i 0) []).length : Int) ((c + 1 : Nat) : Int) a nx ac) (fun k => ?_) hR, hI⟩
      simp only [least_Reach.l1, rd_nat, hst, rdb_nat, hb]
      rw [if_pos (by omega), if_pos (by omega), if_pos (by omega), if_pos (by omega), if_pos hol, if_pos trivial, wadd (by omega) (by omega), nat_succ_cast]
    | false =>
      obtain ⟨R, hR, hI⟩ := ih (c + 1) (out.set (stL nx (l.getD i 0) c) true) (l ++ [stL nx (l.getD i 0) c]) (by omega) (by simp; omega) (hB.new hi hcl hx hb)
      rw [getD_snoc hi, List.drop_append_of_le_length (by omega), castL_snoc] at hR
      refine ⟨R, Ev.step (fun k => ?_) hR, hI⟩
      simp only [least_Reach.l1, rd_nat, hst, rdb_nat, hb, Int.toNat_natCast]
      rw [if_pos (by omega), if_pos (by omega), if_pos (by omega), if_pos (by omega), if_pos hol, if_neg (by decide), if_pos hz, wadd (by omega) (by omega), nat_succ_cast]
theorem ev_leastReach_l0 {a : Int} {nx : List (List Int)} {ac : List Bool} (h : Aut a nx ac) :
    ∀ (m i : Nat) (out : List Bool) (l : List Nat), nx.length - i = m → Bfs nx.length a.toNat (stL nx) out l i 0 → ∃ R, Ev (fun k => least_Reach.l0 k out (castL (l.drop i)) a nx ac) R ∧ IsReach nx.length a.toNat (stL nx) R := by
  intro m
  induction m using Nat.strongRecOn with
  | _ m ih =>
    intro i out l hm hB
    have hmo := hB.most
    have hat := hB.at_
    by_cases hi : i < l.length
    · obtain ⟨hmem, hlow⟩ := hB.cur hi
      obtain ⟨R, hR, hI⟩ := ev_leastReach_l1 h i (fun out l hi hB => ih (nx.length - (i + 1)) (by have := hB.most; omega) (i + 1) out l rfl hB) a.toNat 0 out l (by omega) hi hB
      refine ⟨R, Ev.step (fun k => ?_) hR, hI⟩
      have hz : (castL (l.drop i)).length = l.length - i := by rw [castL_length, List.length_drop]
      have e : rd (castL (l.drop i)) 0 = ((l.getD i 0 : Nat) : Int) := by
        have h1 := rd_nat (castL (l.drop i)) 0
        rw [show ((0 : Nat) : Int) = 0 from rfl] at h1
        rw [h1, castL_getD (by rw [List.length_drop]; omega), drop_getD]
      simp only [least_Reach.l0, hz, e, rd5_nat]
      rw [if_pos (by omega), if_pos (by omega), if_pos (by omega), if_pos (by omega)]
      rfl
    · refine ⟨out, Ev.step (f := fun _ => some out) (fun k => ?_) (Ev.now _), hB.end_ (by omega)⟩
      have hz : (castL (l.drop i)).length = 0 := by rw [castL_length, List.length_drop]; omega
      simp only [least_Reach.l0, hz]
      rw [if_neg (by decide)]
theorem ev_leastReach {a : Int} {nx : List (List Int)} {ac : List Bool} (hg : goodB a nx ac = true) : ∃ R, Ev (fun k => least_Reach.f k a nx ac) R ∧ IsReach nx.length a.toNat (stL nx) R := by
  have h := Aut.of hg
  have h1 := h.n1
  have h2 := h.n2
  obtain ⟨R, hR, hI⟩ := ev_leastReach_l0 h nx.length 0 _ [0] (by omega) (Bfs.start (by omega))
  refine ⟨R, Ev.congr (fun k => ?_) hR, hI⟩
  unfold least_Reach.f thompson_Good.f
  simp only [Option.bind_some, hg, Int.toNat_natCast, List.length_replicate]
  rw [if_pos trivial, if_pos (by omega), if_pos (by omega), if_pos (by omega)]
  simp [castL]
/-- What is not good reaches nothing. -/
theorem ev_leastReach_bad {a : Int} {nx : List (List Int)} {ac : List Bool} (hg : goodB a nx ac = false) : Ev (fun k => least_Reach.f k a nx ac) [] := by
  refine Ev.congr (f := fun _ => some []) (fun k => ?_) (Ev.now _)
  unfold least_Reach.f thompson_Good.f
  simp [hg]

end Go.Proofs.Ytelkjbacdpmnfaa.A
