/- The plain law of LeastTakes: what the walk computes answers true, for every input. No conditions but that numbers are of their kinds. -/
import Derived.Test.YtelkjbacdpmnfaaACaesuralaw21LeastTakes
import Derived.Test.YtelkjbacdpmnfaaAPlainLeast
import Derived.Test.YtelkjbacdpmnfaaAPlainLight
import Derived.Test.YtelkjbacdpmnfaaAPlainModel
import Derived.Test.YtelkjbacdpmnfaaAPlainTakes21
namespace Go.Proofs.Ytelkjbacdpmnfaa.A
open Go.RowKit Go.Proofs.YtelkjbacdpmnfaaW.PrintWords Go.Proofs.YtelkjbacdpmnfaaW.PrintLast
set_option linter.unusedVariables false

theorem ev_succ21 {α : Type} {g : Nat → Option α} {r : α} (h : Ev (fun k => g (k + 1)) r) : Ev g r := Ev.step (fun _ => rfl) h
theorem ev_wakes21 : Ev (fun k => caesuralaw21_wakes.f k) true := Ev.now _
theorem leastTakes_l1 (x5 : List Int) (a : Int) (nx : List (List Int)) (ac : List Bool) (bx : List (List Int)) (bc : List Bool) (m : Nat) (hm : m ≤ 1000) (h : Ev (fun k => (subset_Takes.f k a nx ac x5).bind fun t136 => (subset_Takes.f k a bx bc x5).bind fun t137 => if (t136 == t137) = true then (caesuralaw21_wakes.f k).bind fun t138 => some t138 else none) true) :
    ∀ (d s : Nat), s + d = m → Ev (fun k => caesuralaw21_LeastTakes.l1 k x5 (List.replicate m true) ((List.range m).map fun (i : Nat) => (i : Int)) (s : Int) a nx ac a bx bc) true := by
  intro d
  induction d with
  | zero =>
    intro s hs
    refine Ev.step (fun k => ?_) h
    simp only [caesuralaw21_LeastTakes.l1, List.length_replicate]
    rw [if_neg (by omega)]
  | succ d ih =>
    intro s hs
    refine Ev.step (fun k => ?_) (ih (s + 1) (by omega))
    have e1 : (List.replicate m true).getD s false = true := by rw [List.getD_eq_getElem?_getD, List.getElem?_replicate, if_pos (by omega)]; rfl
    have e2 : (((List.range m).map fun (i : Nat) => (i : Int)) : List Int).getD s 0 = (s : Int) := by rw [List.getD_eq_getElem?_getD, List.getElem?_map, List.getElem?_range (by omega)]; rfl
    simp only [caesuralaw21_LeastTakes.l1, List.length_replicate, List.length_map, List.length_range, rdb_nat, rd_nat, e1, e2]
    rw [if_pos (by omega), if_pos (by omega), if_pos trivial, if_pos (by omega), if_pos trivial, wadd (by omega) (by omega), nat_succ_cast]
theorem leastTakes_end {a : Int} {nx : List (List Int)} {ac : List Bool} (hg : goodB a nx ac = true) (x1 : List Int) (w : List Nat) (hw : ∀ c ∈ w, c < a.toNat) (hl : w.length ≤ 1000) (x6 : Int) (h6 : ¬ x6 < (x1.length : Int)) :
    Ev (fun k => caesuralaw21_LeastTakes.l0 k x1 (castL w) x6 a nx ac) true := by
  obtain ⟨R, C, r1, _, c1, _, hR, hC, ho⟩ := ev_least hg
  have M : Model a nx ac R C := ⟨Aut.of hg, hR, hC⟩
  obtain ⟨R', C', r2, _, c2, _, hR', hC', ho'⟩ := ev_least M.good
  obtain rfl := hR'.unique M.reach_b
  obtain rfl := hC'.unique M.classes_b
  obtain ⟨m, hm⟩ : ∃ m, (bnx nx R C).length = m := ⟨_, rfl⟩
  have hmn : m ≤ nx.length := by rw [← hm, bnx_length]; exact keptTo_length _ _ _
  have hn2 := M.aut.n2
  have hk := kept_again m (bnx nx R C) hm
  rw [hm] at r2 c2 ho'
  have hlen : ((leastOf a (bnx nx R C) (bac nx ac R C) (List.replicate m true) ((List.range m).map fun (i : Nat) => (i : Int))).2.1.length : Int) = ((bnx nx R C).length : Int) := by
    rw [leastOf_eq]
    show (((bnx (bnx nx R C) (List.replicate m true) ((List.range m).map fun (i : Nat) => (i : Int))).length : Nat) : Int) = _
    rw [bnx_length, hk, hm]
  rw [hm] at hlen
  have hG := ev_refGood a (bnx nx R C) (bac nx ac R C)
  rw [M.good] at hG
  refine ev_succ21 ?_
  simp only [caesuralaw21_LeastTakes.l0, if_neg h6]
  refine Ev.bind (ev_leastOf hg r1 c1 ho) ?_
  rw [leastOf_eq]
  simp only [if_true]
  refine Ev.bind hG ?_
  simp only [if_true]
  simp only [if_neg (show ¬ ((bnx nx R C).length : Int) > (nx.length : Int) by omega)]
  refine Ev.bind (ev_leastOf M.good r2 c2 ho') (Ev.bind r2 (Ev.bind c2 ?_))
  have e3 : (leastOf a (bnx nx R C) (bac nx ac R C) (List.replicate m true) ((List.range m).map fun (i : Nat) => (i : Int))).2.2.2 = true := rfl
  simp only [if_pos e3, if_pos hlen, List.length_replicate, List.length_map, List.length_range, hm]
  simp only [if_true]
  refine leastTakes_l1 (castL w) a nx ac _ _ m (by omega) ?_ m 0 (by omega)
  refine Ev.bind (ev_subsetTakes hg hw hl) (Ev.bind (ev_subsetTakes M.good hw hl) ?_)
  rw [M.takes hw]
  simp only [beq_self_eq_true, if_true]
  exact Ev.bind ev_wakes21 (Ev.now _)
theorem leastTakes_ev (a : Int) (nx : List (List Int)) (ac : List Bool) (x1 : List Int) (hx : ∀ x ∈ x1, (Lit.int .u8 x).wf = true) : Ev (fun k => caesuralaw21_LeastTakes.f k a nx ac x1) true := by
  unfold caesuralaw21_LeastTakes.f
  refine Ev.bind (ev_Light a nx ac) ?_
  cases hl : lightB nx ac with
  | false =>
    simp only [Bool.false_eq_true, if_false]
    exact Ev.bind ev_wakes21 (Ev.now _)
  | true =>
    simp only [if_true]
    refine Ev.bind (ev_refGood a nx ac) ?_
    cases hg : goodB a nx ac with
    | false =>
      simp only [Bool.false_eq_true, if_false]
      exact Ev.bind ev_wakes21 (Ev.now _)
    | true =>
      simp only [if_true]
      by_cases h6 : (x1.length : Int) > 60
      · simp only [if_pos h6]
        exact Ev.bind ev_wakes21 (Ev.now _)
      · simp only [if_neg h6]
        have ha := (Aut.of hg).a1
        have hr : ∀ x ∈ x1, wrap64 x = x ∧ 0 ≤ x := fun x hm => by
          have h3 := hx x hm
          simp only [Lit.wf, Bool.and_eq_true, decide_eq_true_eq] at h3
          have h4 : (0 : Int) ≤ x := h3.1
          have h5 : x ≤ (255 : Int) := h3.2
          exact ⟨wself (by omega) (by omega), h4⟩
        obtain ⟨w, hw⟩ : ∃ w : List Nat, w = x1.map fun x => (Int.tmod (wrap64 x) a).toNat := ⟨_, rfl⟩
        have hwl : w.length = x1.length := by rw [hw]; simp
        have hwc : ∀ c ∈ w, c < a.toNat := fun c hc => by
          rw [hw] at hc
          obtain ⟨x, hm, rfl⟩ := List.mem_map.1 hc
          obtain ⟨e, h0⟩ := hr x hm
          rw [e]
          have := Int.tmod_lt_of_pos x (show 0 < a by omega)
          have := Int.tmod_nonneg a h0
          omega
        have key : ∀ (d i : Nat), i + d = x1.length → Ev (fun k => caesuralaw21_LeastTakes.l0 k x1 (castL (w.take i)) (i : Int) a nx ac) true := by
          intro d
          induction d with
          | zero =>
            intro i hi
            rw [List.take_of_length_le (by omega)]
            exact leastTakes_end hg x1 w hwc (by omega) _ (by omega)
          | succ d ih =>
            intro i hi
            have hil : i < x1.length := by omega
            have hih := ih (i + 1) (by omega)
            have e : castL (w.take (i + 1)) = castL (w.take i) ++ [Int.tmod (wrap64 (x1.getD i 0)) a] := by
              rw [List.take_succ_eq_append_getElem (by omega), castL_snoc]
              congr 2
              simp only [hw, List.getElem_map]
              obtain ⟨e, h0⟩ := hr x1[i] (List.getElem_mem hil)
              rw [List.getD_eq_getElem?_getD, List.getElem?_eq_getElem hil]
              simp only [Option.getD_some]
              rw [e]
              have := Int.tmod_nonneg a h0
              omega
            rw [e] at hih
            refine Ev.step (fun k => ?_) hih
            simp only [caesuralaw21_LeastTakes.l0, rd_nat, castL_length, List.length_take]
            rw [if_pos (by omega), if_pos (by omega), if_neg (by omega), if_pos (by omega), wadd (by omega) (by omega), nat_succ_cast]
        exact key x1.length 0 (by omega)
theorem leastTakes_pure (a0_0 : Int) (l0_1 : List (List Int)) (l0_2 : List Bool) (l1 : List Int) (wa0 : (Lit.int .i64 a0_0).wf = true) (wl0 : ∀ x ∈ l0_1, ∀ n ∈ x, (Lit.int .i64 n).wf = true) (wm0 : l0_1.length ≤ 9223372036854775807) (wl1 : ∀ x ∈ l1, (Lit.int .u8 x).wf = true) : ∃ k, caesuralaw21_LeastTakes.f k a0_0 l0_1 l0_2 l1 = some true :=
  (leastTakes_ev a0_0 l0_1 l0_2 l1 wl1).rounds
end Go.Proofs.Ytelkjbacdpmnfaa.A
