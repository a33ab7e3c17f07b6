/- The law ProductBudget: the walk's ways together, with the plain texts. No conditions. -/
import Derived.Test.YtelkjbacdpmnfaaA0
import Derived.Test.YtelkjbacdpmnfaaACaesurakeepLargeLists
import Derived.Test.YtelkjbacdpmnfaaAPlainGood
import Derived.Test.YtelkjbacdpmnfaaACaesuralaw21Light
import Derived.Test.YtelkjbacdpmnfaaAPlainAut
import Derived.Test.YtelkjbacdpmnfaaAPlainBase
import Derived.Test.YtelkjbacdpmnfaaAProdF
import Derived.Test.YtelkjbacdpmnfaaAThompsonGood
import Derived.Test.YtelkjbacdpmnfaaACaesuralaw24Wakes
import Derived.Test.YtelkjbacdpmnfaaACaesurakeepAutomaton
import Derived.Test.YtelkjbacdpmnfaaACaesurakeepBools
import Derived.Test.YtelkjbacdpmnfaaACaesurakeepInts
import Derived.Test.YtelkjbacdpmnfaaACaesurakeepLists
import Derived.Test.YtelkjbacdpmnfaaABudgetMain
namespace Go.Proofs.Ytelkjbacdpmnfaa.A
open Go.RowKit Go.Proofs.YtelkjbacdpmnfaaW.PrintWords Go.Proofs.YtelkjbacdpmnfaaW.PrintLast Go.Proofs.YtelkjbacdpmnfaaW.PrintMore
attribute [local go_sem] max2_int min2_int max_two min_two max_three min_three max_four min_four   -- for this text's walks alone
set_option linter.unusedVariables false
set_option linter.unusedSimpArgs false

/-! LargeLists -/
/-- How much lists hold: one each, and their elements (at most so many each). -/
def lsum (most : Int) (l : List (List Int)) : Int := (l.map fun x => 1 + min (x.length : Int) most).sum
theorem lsum_nonneg (most : Int) (hm : 0 ≤ most) (l : List (List Int)) : (l.length : Int) ≤ lsum most l := by
  induction l with
  | nil => simp [lsum]
  | cons x l ih => simp only [lsum, List.map_cons, List.sum_cons, List.length_cons] at *; omega
theorem mn_min (x y : Int) : mn x y = min x y := by unfold mn; omega
theorem ev_LargeLists_l0 (most : Int) (hm : 0 ≤ most) (hM : most ≤ 1000000) (l : List (List Int)) :
    ∀ (d i : Nat) (s : Int), i + d = l.length → (i : Int) ≤ s → s ≤ 2 * most + 1 → Ev (fun k => caesurakeep_LargeLists.l0 k l most s (i : Int)) (decide (s + lsum most (l.drop i) > most)) := by
  intro d
  induction d with
  | zero =>
    intro i s hi hs hs2
    rw [List.drop_of_length_le (by omega)]
    refine Ev.step (f := fun _ => some (decide (s > most))) (fun k => ?_) (by simpa [lsum] using Ev.now _)
    simp only [caesurakeep_LargeLists.l0]
    rw [if_neg (by omega)]
  | succ d ih =>
    intro i s hi hs hs2
    have hil : i < l.length := by omega
    have hdr := drop_cons_getD l [] i hil
    have hnn := lsum_nonneg most hm (l.drop i)
    by_cases h1 : s ≤ most
    · refine Ev.step (f := fun k => caesurakeep_LargeLists.l0 k l most (s + (1 + min ((l.getD i []).length : Int) most)) ((i + 1 : Nat) : Int)) (fun k => ?_) ?_
      · simp only [caesurakeep_LargeLists.l0, rd5_nat, mn_min]
        rw [if_pos (by omega), if_pos h1, if_pos (by omega), wadd (x := 1) (by omega) (by omega), wadd (x := s) (by omega) (by omega), wadd (x := (i : Int)) (by omega) (by omega), nat_succ_cast]
      · have h := ih (i + 1) (s + (1 + min ((l.getD i []).length : Int) most)) (by omega) (by omega) (by omega)
        rw [hdr]
        have e : lsum most (l.getD i [] :: l.drop (i + 1)) = (1 + min ((l.getD i []).length : Int) most) + lsum most (l.drop (i + 1)) := by simp [lsum]
        have e2 : s + (1 + min ((l.getD i []).length : Int) most + lsum most (l.drop (i + 1))) = s + (1 + min ((l.getD i []).length : Int) most) + lsum most (l.drop (i + 1)) := by omega
        rw [e, e2]
        exact h
    · refine Ev.step (f := fun _ => some (decide (s > most))) (fun k => ?_) ?_
      · simp only [caesurakeep_LargeLists.l0]
        rw [if_pos (by omega), if_neg h1]
      · rw [decide_eq_true (show s > most by omega), decide_eq_true (show s + lsum most (l.drop i) > most by omega)]
        exact Ev.now _
theorem ev_LargeLists (most : Int) (hm : 0 ≤ most) (hM : most ≤ 1000000) (l : List (List Int)) : Ev (fun k => caesurakeep_LargeLists.f k l most) (decide (lsum most l > most)) := by
  have h := ev_LargeLists_l0 most hm hM l l.length 0 0 (by omega) (by omega) (by omega)
  simpa [caesurakeep_LargeLists.f] using h
/-- Is an automaton too large? -/
theorem lsum_mem {most : Int} (hm : 0 ≤ most) : ∀ {l : List (List Int)} {x : List Int}, x ∈ l → 1 + min (x.length : Int) most ≤ lsum most l
  | y :: l, x, h => by
    have := lsum_nonneg most hm l
    rcases List.mem_cons.1 h with rfl | h
    · simp only [lsum, List.map_cons, List.sum_cons] at *; omega
    · have := lsum_mem hm h
      simp only [lsum, List.map_cons, List.sum_cons] at *; omega

end Go.Proofs.Ytelkjbacdpmnfaa.A

namespace Go.Proofs.Ytelkjbacdpmnfaa.A
open Go.RowKit Go.Proofs.YtelkjbacdpmnfaaW.PrintWords Go.Proofs.YtelkjbacdpmnfaaW.PrintLast Go.Proofs.YtelkjbacdpmnfaaW.PrintMore
attribute [local go_sem] max2_int min2_int max_two min_two max_three min_three max_four min_four   -- for this text's walks alone
set_option linter.unusedVariables false
set_option linter.unusedSimpArgs false

/-! automata that are light -/
def lightB (nx : List (List Int)) (ac : List Bool) : Bool := !decide (lsum 1500 nx > 1500) && (decide ((ac.length : Int) ≤ 300) && decide ((nx.length : Int) ≤ 60))
theorem ev_Light (a : Int) (nx : List (List Int)) (ac : List Bool) : Ev (fun k => caesuralaw21_Light.f k a nx ac) (lightB nx ac) := by
  unfold caesuralaw21_Light.f lightB
  refine Ev.bind (ev_LargeLists 1500 (by omega) (by omega) nx) ?_
  cases decide (lsum 1500 nx > 1500)
  · by_cases h : (ac.length : Int) ≤ 300
    · simpa [h] using Ev.now _
    · simpa [h] using Ev.now _
  · simpa using Ev.now _
theorem light_small {nx : List (List Int)} {ac : List Bool} (h : lightB nx ac = true) : nx.length ≤ 60 ∧ (∀ x ∈ nx, x.length ≤ 1500) ∧ ac.length ≤ 300 := by
  unfold lightB at h
  simp only [Bool.and_eq_true, Bool.not_eq_true', decide_eq_false_iff_not, decide_eq_true_eq] at h
  have h1 := lsum_nonneg 1500 (by omega) nx
  refine ⟨by omega, fun x hx => ?_, by omega⟩
  have := lsum_mem (most := 1500) (by omega) hx
  omega

end Go.Proofs.Ytelkjbacdpmnfaa.A

namespace Go.Proofs.Ytelkjbacdpmnfaa.A
open Go.RowKit Go.Proofs.YtelkjbacdpmnfaaW.PrintWords Go.Proofs.YtelkjbacdpmnfaaW.PrintLast Go.Proofs.YtelkjbacdpmnfaaW.PrintMore
attribute [local go_sem] max2_int min2_int max_two min_two max_three min_three max_four min_four   -- for this text's walks alone
set_option linter.unusedVariables false
set_option linter.unusedSimpArgs false

/-! two automata at once: what is met, by any budget -/
section
variable {σ : Type} [DecidableEq σ] {L : Nat} {st : σ → Nat → σ} {s0 : σ} {ok : σ → Prop} {l : List σ} {i : Nat}
theorem growTo_more' {s x : σ} {m : List σ} {j c : Nat} (h : (growTo st s m c)[j]? = some x) : ∀ d, (growTo st s m (c + d))[j]? = some x
  | 0 => h
  | d + 1 => by
    show (growTo st s m (c + d + 1))[j]? = some x
    unfold growTo
    split
    · exact growTo_more' h d
    · rw [List.getElem?_append_left (List.getElem?_eq_some_iff.1 (growTo_more' h d)).1]
      exact growTo_more' h d
theorem metUpto_more' {x : σ} {i j : Nat} (h : (metUpto L st s0 i)[j]? = some x) : ∀ d, (metUpto L st s0 (i + d))[j]? = some x
  | 0 => h
  | d + 1 => by
    show (metUpto L st s0 (i + d + 1))[j]? = some x
    unfold metUpto
    split
    · exact metUpto_more' h d
    next s hs => exact growTo_more' (c := 0) (metUpto_more' h d) L ▸ (by rw [Nat.zero_add])
theorem metUpto_length (hl : MetAll L st s0 ok l) (i : Nat) : (metUpto L st s0 i).length ≤ l.length := by
  have h1 : ∀ j, j < (metUpto L st s0 i).length → j < l.length := fun j hj => by
    have h2 := metUpto_more' (List.getElem?_eq_getElem hj) l.length
    rw [show i + l.length = l.length + i by omega, hl.stays] at h2
    exact (List.getElem?_eq_some_iff.1 h2).1
  rcases Nat.lt_or_ge l.length (metUpto L st s0 i).length with h | h
  · exact absurd (h1 l.length h) (by omega)
  · exact h
theorem MetIs.round (h : MetIs L st s0 ok l i 0) {s : σ} (hs : l[i]? = some s) (hok : ∀ c, c < L → ok (st s c)) : MetIs L st s0 ok (growTo st s l L) (i + 1) 0 := by
  have hi := (List.getElem?_eq_some_iff.1 hs).1
  have hge := growTo_ge (st := st) (s := s) (l := l) L
  refine ⟨(Wbfs.grow hs hok h.bfs L (Nat.le_refl _)).turn (by omega), ?_⟩
  have e := h.is_
  rw [metAt_zero] at e
  rw [metAt_zero, metAt_turn]
  unfold metAt
  rw [← e, hs]
/-- What is met within a budget: all of it, or too much. -/
theorem prodRun_met {N : Nat} {code : σ → Nat} (hc : ∀ x, ok x → code x < N) (hi : ∀ x y, ok x → ok y → code x = code y → x = y) (hok : ∀ s c, ok s → c < L → ok (st s c)) (most : Int) :
    ∀ (d i : Nat) (l : List σ), N - i = d → MetIs L st s0 ok l i 0 → ∃ M j, Ev (fun k => prodRun L st most k l i) M ∧ ((M.length : Int) ≤ most ∧ MetAll L st s0 ok M ∨ most < (M.length : Int) ∧ MetIs L st s0 ok M j 0) := by
  intro d
  induction d using Nat.strongRecOn with
  | _ d ih =>
    intro i l hd hM
    have hat := hM.bfs.at_
    have hmo := hM.bfs.most hc hi
    by_cases hm : (l.length : Int) ≤ most
    · by_cases hil : i < l.length
      · have hs : l[i]? = some l[i] := List.getElem?_eq_getElem hil
        obtain ⟨M, j, h1, h2⟩ := ih (N - (i + 1)) (by omega) (i + 1) (growTo st l[i] l L) rfl (hM.round hs (fun c hcl => hok _ c (hM.bfs.good _ (List.mem_of_getElem? hs)) hcl))
        refine ⟨M, j, Ev.step (fun k => ?_) h1, h2⟩
        simp only [prodRun, hs, if_pos hm]
      · have e : i = l.length := by omega
        refine ⟨l, 0, ?_, .inl ⟨hm, by subst e; exact hM⟩⟩
        refine Ev.step (f := fun _ => some l) (fun k => ?_) (Ev.now _)
        simp only [prodRun, List.getElem?_eq_none (show l.length ≤ i by omega)]
    · refine ⟨l, i, ?_, .inr ⟨by omega, hM⟩⟩
      refine Ev.step (f := fun _ => some l) (fun k => ?_) (Ev.now _)
      simp only [prodRun, if_neg hm]
      split <;> rfl
end
section
variable {a : Int} {nx mx : List (List Int)} {ac bc : List Bool}
theorem prod_ok (hA : Aut a nx ac) (hB : Aut a mx bc) (p : Nat × Nat) (c : Nat) (hp : inP nx.length mx.length p) (hc : c < a.toNat) : inP nx.length mx.length (prodSt nx mx p c) := ⟨hA.shuts _ c hp.1 hc, hB.shuts _ c hp.2 hc⟩
/-- All pairs that are met. -/
abbrev ProdAll (a : Int) (nx mx : List (List Int)) (F : List (Nat × Nat)) : Prop := MetAll a.toNat (prodSt nx mx) (0, 0) (inP nx.length mx.length) F
theorem prod_start (hA : Aut a nx ac) (hB : Aut a mx bc) : MetIs a.toNat (prodSt nx mx) (0, 0) (inP nx.length mx.length) [(0, 0)] 0 0 := MetIs.start ⟨by have := hA.n1; show 0 < _; omega, by have := hB.n1; show 0 < _; omega⟩
theorem prod_all (hA : Aut a nx ac) (hB : Aut a mx bc) : ∃ F, ProdAll a nx mx F := by
  obtain ⟨M, j, h1, h2⟩ := prodRun_met (N := nx.length * mx.length) (fun _ => code_lt) (fun _ _ => code_inj) (prod_ok hA hB) ((nx.length * mx.length : Nat) : Int) _ 0 [(0, 0)] rfl (prod_start hA hB)
  rcases h2 with ⟨_, h3⟩ | ⟨h3, h4⟩
  · exact ⟨M, h3⟩
  · have h6 := h4.bfs.most (N := nx.length * mx.length) (fun _ => code_lt) (fun _ _ => code_inj)
    omega
theorem prod_most {F : List (Nat × Nat)} (hF : ProdAll a nx mx F) : F.length ≤ nx.length * mx.length := hF.bfs.most (fun _ => code_lt) (fun _ _ => code_inj)
/-- A product, by any budget. -/
theorem ev_prod (hg : goodB a nx ac = true) (hg2 : goodB a mx bc = true) {F : List (Nat × Nat)} (hF : ProdAll a nx mx F) (E : Bool → Bool → Bool) (most : Int) :
    Ev (fun k => prodF E k a nx ac a mx bc most) (prodRes E a nx ac mx bc (prodMost most) F) := by
  have hA := Aut.of hg
  have hB := Aut.of hg2
  obtain ⟨M, j, h1, h2⟩ := prodRun_met (N := nx.length * mx.length) (fun _ => code_lt) (fun _ _ => code_inj) (prod_ok hA hB) (prodMost most) _ 0 [(0, 0)] rfl (prod_start hA hB)
  have e : prodRes E a nx ac mx bc (prodMost most) M = prodRes E a nx ac mx bc (prodMost most) F := by
    rcases h2 with ⟨_, h3⟩ | ⟨h3, h4⟩
    · rw [MetAll.unique h3 hF]
    · have h5 : M.length ≤ F.length := by
        have e := h4.is_
        rw [metAt_zero] at e
        rw [e]
        exact metUpto_length hF _
      unfold prodRes
      rw [if_pos (by omega), if_pos (by omega)]
  rw [← e]
  unfold prodF
  simp only [hg, hg2, if_true]
  exact Ev.bind h1 (Ev.now _)
theorem ev_prod_bad {b : Int} (h : ¬ (goodB a nx ac = true ∧ goodB b mx bc = true ∧ a = b)) (E : Bool → Bool → Bool) (most : Int) : Ev (fun k => prodF E k a nx ac b mx bc most) (0, [], [], 1) := by
  refine Ev.congr (f := fun _ => some (0, [], [], 1)) (fun k => ?_) (Ev.now _)
  unfold prodF
  by_cases h1 : goodB a nx ac = true
  · by_cases h2 : goodB b mx bc = true
    · by_cases h3 : a = b
      · exact absurd ⟨h1, h2, h3⟩ h
      · rw [if_pos h1, if_pos h2, if_neg h3]
    · rw [if_pos h1, if_neg h2]
  · rw [if_neg h1]
end

end Go.Proofs.Ytelkjbacdpmnfaa.A

namespace Go.Proofs.Ytelkjbacdpmnfaa.A
open Go.RowKit Go.Proofs.YtelkjbacdpmnfaaW.PrintWords Go.Proofs.YtelkjbacdpmnfaaW.PrintLast Go.Proofs.YtelkjbacdpmnfaaW.PrintMore
attribute [local go_sem] max2_int min2_int max_two min_two max_three min_three max_four min_four   -- for this text's walks alone
set_option linter.unusedVariables false
set_option linter.unusedSimpArgs false

/-! products: their sizes -/
section
variable {a : Int} {nx mx : List (List Int)} {ac bc : List Bool} {F : List (Nat × Nat)}
def prodN (a : Int) (nx mx : List (List Int)) (F : List (Nat × Nat)) : List (List Int) := numNext a.toNat (prodSt nx mx) F
def prodA (E : Bool → Bool → Bool) (ac bc : List Bool) (F : List (Nat × Nat)) : List Bool := F.map (prodEnd E ac bc)
theorem prodN_length : (prodN a nx mx F).length = F.length := by simp [prodN, numNext]
theorem prodA_length (E : Bool → Bool → Bool) : (prodA E ac bc F).length = F.length := by simp [prodA]
theorem prodN_row {x : List Int} (hx : x ∈ prodN a nx mx F) : x.length = a.toNat := by
  obtain ⟨s, _, rfl⟩ := List.mem_map.1 hx
  simp
theorem prod_pos (hF : ProdAll a nx mx F) : 0 < F.length := by
  have h := hF.bfs.first
  cases F with
  | nil => cases h
  | cons x l => simp
theorem prodRes_ok (E : Bool → Bool → Bool) {m : Int} (h : (F.length : Int) ≤ m) : prodRes E a nx ac mx bc m F = (a, prodN a nx mx F, prodA E ac bc F, 0) := by
  unfold prodRes
  rw [if_neg (by omega)]
  rfl
theorem prodRes_over (E : Bool → Bool → Bool) {m : Int} (h : m < (F.length : Int)) : prodRes E a nx ac mx bc m F = (0, [], [], 14) := by
  unfold prodRes
  rw [if_pos (by omega)]
theorem prodMost_small {m : Int} (h : m ≤ 1000) : prodMost m = m := by
  unfold prodMost
  rw [if_neg (by omega)]
theorem wakes24_any (k : Nat) : caesuralaw24_wakes.f k = some true := rfl
end

end Go.Proofs.Ytelkjbacdpmnfaa.A

namespace Go.Proofs.Ytelkjbacdpmnfaa.A
open Go.RowKit Go.Proofs.YtelkjbacdpmnfaaW.PrintWords Go.Proofs.YtelkjbacdpmnfaaW.PrintLast Go.Proofs.YtelkjbacdpmnfaaW.PrintMore
attribute [local go_sem] max2_int min2_int max_two min_two max_three min_three max_four min_four   -- for this text's walks alone
set_option linter.unusedVariables false
set_option linter.unusedSimpArgs false

/-! what is alike is told alike -/
theorem ev_Ints_same (l : List Int) (hn : l.length ≤ 1000000) : Ev (fun k => caesurakeep_Ints.f k l l) true := by
  have key : ∀ (d i : Nat), i + d = l.length → Ev (fun k => caesurakeep_Ints.l0 k l l (i : Int)) true := by
    intro d
    induction d with
    | zero =>
      intro i hi
      refine Ev.step (f := fun _ => some true) (fun k => ?_) (Ev.now _)
      simp only [caesurakeep_Ints.l0]
      rw [if_neg (by omega)]
    | succ d ih =>
      intro i hi
      refine Ev.step (f := fun k => caesurakeep_Ints.l0 k l l ((i + 1 : Nat) : Int)) (fun k => ?_) (ih (i + 1) (by omega))
      simp only [caesurakeep_Ints.l0, rd_nat]
      rw [if_pos (by omega), if_pos (by omega), if_pos (by omega), if_pos trivial, wadd (by omega) (by omega), nat_succ_cast]
  have h := key l.length 0 (by omega)
  simpa [caesurakeep_Ints.f] using h
theorem ev_Bools_same (l : List Bool) (hn : l.length ≤ 1000000) : Ev (fun k => caesurakeep_Bools.f k l l) true := by
  have key : ∀ (d i : Nat), i + d = l.length → Ev (fun k => caesurakeep_Bools.l0 k l l (i : Int)) true := by
    intro d
    induction d with
    | zero =>
      intro i hi
      refine Ev.step (f := fun _ => some true) (fun k => ?_) (Ev.now _)
      simp only [caesurakeep_Bools.l0]
      rw [if_neg (by omega)]
    | succ d ih =>
      intro i hi
      refine Ev.step (f := fun k => caesurakeep_Bools.l0 k l l ((i + 1 : Nat) : Int)) (fun k => ?_) (ih (i + 1) (by omega))
      simp only [caesurakeep_Bools.l0, rdb_nat, bne_self_eq_false]
      rw [if_pos (by omega), if_pos (by omega), if_pos (by omega), if_neg (by decide), wadd (by omega) (by omega), nat_succ_cast]
  have h := key l.length 0 (by omega)
  simpa [caesurakeep_Bools.f] using h
theorem ev_Lists_same (l : List (List Int)) (hn : l.length ≤ 1000000) (hr : ∀ x ∈ l, x.length ≤ 1000000) : Ev (fun k => caesurakeep_Lists.f k l l) true := by
  have key : ∀ (d i : Nat), i + d = l.length → Ev (fun k => caesurakeep_Lists.l0 k l l (i : Int)) true := by
    intro d
    induction d with
    | zero =>
      intro i hi
      refine Ev.step (f := fun _ => some true) (fun k => ?_) (Ev.now _)
      simp only [caesurakeep_Lists.l0]
      rw [if_neg (by omega)]
    | succ d ih =>
      intro i hi
      have hil : i < l.length := by omega
      have hs := small_len (d := []) hr hil
      refine Ev.step (f := fun k => (caesurakeep_Ints.f k (l.getD i []) (l.getD i [])).bind fun t103 => if t103 = true then caesurakeep_Lists.l0 k l l ((i + 1 : Nat) : Int) else some false) (fun k => ?_) (Ev.bind (ev_Ints_same _ hs) ?_)
      · simp only [caesurakeep_Lists.l0, rd5_nat]
        rw [if_pos (by omega), if_pos (by omega), if_pos (by omega), wadd (by omega) (by omega), nat_succ_cast]
      · simpa using ih (i + 1) (by omega)
  have h := key l.length 0 (by omega)
  simpa [caesurakeep_Lists.f] using h
theorem ev_Automaton_same (a : Int) (nx : List (List Int)) (ac : List Bool) (hn : nx.length ≤ 1000000) (hr : ∀ x ∈ nx, x.length ≤ 1000000) (ha : ac.length ≤ 1000000) : Ev (fun k => caesurakeep_Automaton.f k a nx ac a nx ac) true := by
  unfold caesurakeep_Automaton.f
  simp only [if_true]
  refine Ev.bind (ev_Lists_same nx hn hr) ?_
  simp only [if_true]
  refine Ev.bind (ev_Bools_same ac ha) ?_
  exact Ev.now _

end Go.Proofs.Ytelkjbacdpmnfaa.A

namespace Go.Proofs.Ytelkjbacdpmnfaa.A
open Go.RowKit Go.Proofs.YtelkjbacdpmnfaaW.PrintWords Go.Proofs.YtelkjbacdpmnfaaW.PrintLast Go.Proofs.YtelkjbacdpmnfaaW.PrintMore
attribute [local go_sem] max2_int min2_int max_two min_two max_three min_three max_four min_four   -- for this text's walks alone
set_option linter.unusedVariables false
set_option linter.unusedSimpArgs false

/-! the statement ProductBudget: all ways -/
theorem caesuralaw24_ProductBudget.told (a0_0 : Int) (A0_1 : Option Addr) (c0_1 : Nat) (l0_1 : List (List Int)) (A0_2 : Option Addr) (c0_2 : Nat) (l0_2 : List Bool) (a1_0 : Int) (A1_1 : Option Addr) (c1_1 : Nat) (l1_1 : List (List Int)) (A1_2 : Option Addr) (c1_2 : Nat) (l1_2 : List Bool) (w : World) (hr0_1 : Kd.C (Kd.slice 3 (Kd.int .i64)) w A0_1 l0_1.length l0_1) (hc0_1 : l0_1.length ≤ c0_1) (hr0_2 : Kd.C Kd.bool w A0_2 l0_2.length l0_2) (hc0_2 : l0_2.length ≤ c0_2) (hr1_1 : Kd.C (Kd.slice 3 (Kd.int .i64)) w A1_1 l1_1.length l1_1) (hc1_1 : l1_1.length ≤ c1_1) (hr1_2 : Kd.C Kd.bool w A1_2 l1_2.length l1_2) (hc1_2 : l1_2.length ≤ c1_2) :
    Calls Try.prog 22 #[.agg #[.int .i64 a0_0, .slice A0_1 l0_1.length c0_1, .slice A0_2 l0_2.length c0_2], .agg #[.int .i64 a1_0, .slice A1_1 l1_1.length c1_1, .slice A1_2 l1_2.length c1_2]] w fun e w' => e = .returned (.bool true) ∧ Below w.heap.size w w' := by
  have hw := wakes24_any 0
  obtain ⟨k0, h0⟩ := (ev_Light a0_0 l0_1 l0_2).rounds
  obtain ⟨k1, h1⟩ := (ev_Light a1_0 l1_1 l1_2).rounds
  obtain ⟨k2, h2⟩ := (ev_refGood a0_0 l0_1 l0_2).rounds
  obtain ⟨k3, h3⟩ := (ev_refGood a1_0 l1_1 l1_2).rounds
  cases hb0 : lightB l0_1 l0_2 with
  | false =>
    rw [hb0] at h0
    exact budget_short0 k0 k1 k2 k3 0 a0_0 A0_1 c0_1 l0_1 A0_2 c0_2 l0_2 a1_0 A1_1 c1_1 l1_1 A1_2 c1_2 l1_2 w hr0_1 hc0_1 hr0_2 hc0_2 hr1_1 hc1_1 hr1_2 hc1_2 h0 hw
  | true =>
    rw [hb0] at h0
    cases hb1 : lightB l1_1 l1_2 with
    | false =>
      rw [hb1] at h1
      exact budget_short1 k0 k1 k2 k3 0 a0_0 A0_1 c0_1 l0_1 A0_2 c0_2 l0_2 a1_0 A1_1 c1_1 l1_1 A1_2 c1_2 l1_2 w hr0_1 hc0_1 hr0_2 hc0_2 hr1_1 hc1_1 hr1_2 hc1_2 h0 h1 hw
    | true =>
      rw [hb1] at h1
      cases hg0 : goodB a0_0 l0_1 l0_2 with
      | false =>
        rw [hg0] at h2
        exact budget_short2 k0 k1 k2 k3 0 a0_0 A0_1 c0_1 l0_1 A0_2 c0_2 l0_2 a1_0 A1_1 c1_1 l1_1 A1_2 c1_2 l1_2 w hr0_1 hc0_1 hr0_2 hc0_2 hr1_1 hc1_1 hr1_2 hc1_2 h0 h1 h2 hw
      | true =>
        rw [hg0] at h2
        cases hg1 : goodB a1_0 l1_1 l1_2 with
        | false =>
          rw [hg1] at h3
          exact budget_short3 k0 k1 k2 k3 0 a0_0 A0_1 c0_1 l0_1 A0_2 c0_2 l0_2 a1_0 A1_1 c1_1 l1_1 A1_2 c1_2 l1_2 w hr0_1 hc0_1 hr0_2 hc0_2 hr1_1 hc1_1 hr1_2 hc1_2 h0 h1 h2 h3 hw
        | true =>
          rw [hg1] at h3
          by_cases h4 : a0_0 = a1_0
          · by_cases h5 : wrap64 ((l0_1.length : Int) * (l1_1.length : Int)) > 900
            · exact budget_short5 k0 k1 k2 k3 0 a0_0 A0_1 c0_1 l0_1 A0_2 c0_2 l0_2 a1_0 A1_1 c1_1 l1_1 A1_2 c1_2 l1_2 w hr0_1 hc0_1 hr0_2 hc0_2 hr1_1 hc1_1 hr1_2 hc1_2 h0 h1 h2 h3 h4 h5 hw
            · subst h4
              obtain ⟨s1, _, _⟩ := light_small hb0
              obtain ⟨s2, _, _⟩ := light_small hb1
              have hA := Aut.of hg0
              have ha1 := hA.a1
              have ha2 := hA.a2
              obtain ⟨F, hF⟩ := prod_all hA (Aut.of hg1)
              have hp := prod_pos hF
              have hmo := prod_most hF
              have hmul : l0_1.length * l1_1.length ≤ 60 * 60 := Nat.mul_le_mul s1 s2
              rw [← Int.natCast_mul, wself (by omega) (by omega)] at h5
              have hle : (F.length : Int) ≤ 900 := by omega
              have e0 := ev_prod hg0 hg1 hF (fun x y => x && y) 1000
              have e1 := ev_prod hg0 hg1 hF (fun x y => x || y) 1000
              have e2 := ev_prod hg0 hg1 hF (fun x y => x && !y) 1000
              have e3 := ev_prod hg0 hg1 hF (fun x y => x && y) ((prodN a0_0 l0_1 l1_1 F).length : Int)
              have e4 := ev_prod hg0 hg1 hF (fun x y => x && y) (wrap64 (((prodN a0_0 l0_1 l1_1 F).length : Int) - 1))
              have e5 := ev_prod hg0 hg1 hF (fun x y => x || y) (wrap64 (((prodN a0_0 l0_1 l1_1 F).length : Int) - 1))
              have hN := prodN_length (a := a0_0) (nx := l0_1) (mx := l1_1) (F := F)
              rw [show prodMost 1000 = 1000 from prodMost_small (by omega), prodRes_ok _ (by omega)] at e0 e1 e2
              rw [prodMost_small (by omega), prodRes_ok _ (by omega)] at e3
              rw [prodMost_small (by rw [wself (by omega) (by omega)]; omega), prodRes_over _ (by rw [wself (by omega) (by omega)]; omega)] at e4 e5
              obtain ⟨q0, e0⟩ := e0.rounds
              obtain ⟨q1, e1⟩ := e1.rounds
              obtain ⟨q2, e2⟩ := e2.rounds
              obtain ⟨q3, e3⟩ := e3.rounds
              obtain ⟨q4, e4⟩ := e4.rounds
              obtain ⟨q5, e5⟩ := e5.rounds
              have hrow : ∀ x ∈ prodN a0_0 l0_1 l1_1 F, x.length ≤ 1000000 := fun x hx => by have := prodN_row hx; omega
              obtain ⟨p0, e6⟩ := (ev_Lists_same (prodN a0_0 l0_1 l1_1 F) (by omega) hrow).rounds
              obtain ⟨p2, e7⟩ := (ev_Automaton_same a0_0 (prodN a0_0 l0_1 l1_1 F) (prodA (fun x y => x && y) l0_2 l1_2 F) (by omega) hrow (by rw [prodA_length]; omega)).rounds
              exact budget_main k0 k1 k2 k3 0 q0 q1 q2 q3 q4 q5 p0 p0 p2 a0_0 A0_1 c0_1 l0_1 A0_2 c0_2 l0_2 a0_0 A1_1 c1_1 l1_1 A1_2 c1_2 l1_2 (prodN a0_0 l0_1 l1_1 F) _ _ _ w hr0_1 hc0_1 hr0_2 hc0_2 hr1_1 hc1_1 hr1_2 hc1_2 h0 h1 h2 h3 rfl (by rw [← Int.natCast_mul, wself (by omega) (by omega)]; exact h5) (by omega) hw e0 e1 e2 e3 e4 e5 e6 e6 e7
          · exact budget_short4 k0 k1 k2 k3 0 a0_0 A0_1 c0_1 l0_1 A0_2 c0_2 l0_2 a1_0 A1_1 c1_1 l1_1 A1_2 c1_2 l1_2 w hr0_1 hc0_1 hr0_2 hc0_2 hr1_1 hc1_1 hr1_2 hc1_2 h0 h1 h2 h3 h4 hw

end Go.Proofs.Ytelkjbacdpmnfaa.A
