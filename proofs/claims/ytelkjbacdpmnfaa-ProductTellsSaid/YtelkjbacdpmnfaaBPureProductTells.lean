/- The law ProductTells: the walk's ways together, with the plain texts. No conditions. -/
import Derived.Test.YtelkjbacdpmnfaaB0
import Derived.Test.YtelkjbacdpmnfaaBCaesurakeepLargeLists
import Derived.Test.YtelkjbacdpmnfaaBPlainGood
import Derived.Test.YtelkjbacdpmnfaaBCaesuralaw21Light
import Derived.Test.YtelkjbacdpmnfaaBPlainAut
import Derived.Test.YtelkjbacdpmnfaaBPlainBase
import Derived.Test.YtelkjbacdpmnfaaBProductNot
import Derived.Test.YtelkjbacdpmnfaaBThompsonGood
import Derived.Test.YtelkjbacdpmnfaaBCaesurakeepOwnAutomaton
import Derived.Test.YtelkjbacdpmnfaaBCaesurakeepOwnLists
import Derived.Test.YtelkjbacdpmnfaaBProdF
import Derived.Test.YtelkjbacdpmnfaaBCaesuralaw24Wakes
import Derived.Test.YtelkjbacdpmnfaaBCaesurakeepAutomaton
import Derived.Test.YtelkjbacdpmnfaaBCaesurakeepBools
import Derived.Test.YtelkjbacdpmnfaaBCaesurakeepInts
import Derived.Test.YtelkjbacdpmnfaaBCaesurakeepLists
import Derived.Test.YtelkjbacdpmnfaaBPTellsMain
import Derived.Test.YtelkjbacdpmnfaaBRef24Words
namespace Go.Proofs.Ytelkjbacdpmnfaa.A
open Go.RowKit Go.W_.PrintWords Go.W_.PrintLast Go.W_.PrintMore
attribute [local go_sem] max2_int min2_int max_two min_two max_three min_three max_four min_four
set_option linter.unusedVariables false
set_option linter.unusedSimpArgs false

/-- How much lists hold: one each, and their elements (at most so many each). -/
def lsum (most : Int) (l : List (List Int)) : Int := (l.map fun x => 1 + min (x.length : Int) most).sum
theorem lsum_nonneg (most : Int) (hm : 0 ≤ most) (l : List (List Int)) : (l.length : Int) ≤ lsum most l := by
  induction l with
  | nil => simp [lsum]
  | cons x l ih => simp only [lsum, List.map_cons, List.sum_cons, List.length_cons] at *; omega
theorem mn_min (x y : Int) : mn x y = min x y := by unfold mn; omega
theorem ev_LargeLists_l0 (most : Int) (hm : 0 ≤ most) (hM : most ≤ 1000000) (l : List (List Int)) :
    ∀ (d i : Nat) (s : Int), i + d = l.length → (i : Int) ≤ s → s ≤ 2 * most + 1 → Ev (fun k => caesurakeep_LargeLists.l0 k l most s (i : Int)) (decide (s + lsum most (l.drop i) > most)) := by
  intro d
  induction d with
  | zero =>
    intro i s hi hs hs2
    rw [List.drop_of_length_le (by omega)]
    refine Ev.step (f := fun _ => some (decide (s > most))) (fun k => ?_) (by simpa [lsum] using Ev.now _)
    simp only [caesurakeep_LargeLists.l0]
    rw [if_neg (by omega)]
  | succ d ih =>
    intro i s hi hs hs2
    have hil : i < l.length := by omega
    have hdr := drop_cons_getD l [] i hil
    have hnn := lsum_nonneg most hm (l.drop i)
    by_cases h1 : s ≤ most
    · refine Ev.step (f := fun k => caesurakeep_LargeLists.l0 k l most (s + (1 + min ((l.getD i []).length : Int) most)) ((i + 1 : Nat) : Int)) (fun k => ?_) ?_
      · simp only [caesurakeep_LargeLists.l0, rd5_nat, mn_min]
        rw [if_pos (by omega), if_pos h1, if_pos (by omega), wadd (x := 1) (by omega) (by omega), wadd (x := s) (by omega) (by omega), wadd (x := (i : Int)) (by omega) (by omega), nat_succ_cast]
      · have h := ih (i + 1) (s + (1 + min ((l.getD i []).length : Int) most)) (by omega) (by omega) (by omega)
        rw [hdr]
        have e : lsum most (l.getD i [] :: l.drop (i + 1)) = (1 + min ((l.getD i []).length : Int) most) + lsum most (l.drop (i + 1)) := by simp [lsum]
        have e2 : s + (1 + min ((l.getD i []).length : Int) most + lsum most (l.drop (i + 1))) = s + (1 + min ((l.getD i []).length : Int) most) + lsum most (l.drop (i + 1)) := by omega
        rw [e, e2]
        exact h
    · refine Ev.step (f := fun _ => some (decide (s > most))) (fun k => ?_) ?_
      · simp only [caesurakeep_LargeLists.l0]
        rw [if_pos (by omega), if_neg h1]
      · rw [decide_eq_true (show s > most by omega), decide_eq_true (show s + lsum most (l.drop i) > most by omega)]
        exact Ev.now _
theorem ev_LargeLists (most : Int) (hm : 0 ≤ most) (hM : most ≤ 1000000) (l : List (List Int)) : Ev (fun k => caesurakeep_LargeLists.f k l most) (decide (lsum most l > most)) := by
  have h := ev_LargeLists_l0 most hm hM l l.length 0 0 (by omega) (by omega) (by omega)
  simpa [caesurakeep_LargeLists.f] using h
/-- Is an automaton too large? -/
theorem lsum_mem {most : Int} (hm : 0 ≤ most) : ∀ {l : List (List Int)} {x : List Int}, x ∈ l → 1 + min (x.length : Int) most ≤ lsum most l
  | y :: l, x, h => by
    have := lsum_nonneg most hm l
    rcases List.mem_cons.1 h with rfl | h
    · simp only [lsum, List.map_cons, List.sum_cons] at *; omega
    · have := lsum_mem hm h
      simp only [lsum, List.map_cons, List.sum_cons] at *; omega

end Go.Proofs.Ytelkjbacdpmnfaa.A

namespace Go.Proofs.Ytelkjbacdpmnfaa.A
open Go.RowKit Go.W_.PrintWords Go.W_.PrintLast Go.W_.PrintMore
attribute [local go_sem] max2_int min2_int max_two min_two max_three min_three max_four min_four
set_option linter.unusedVariables false
set_option linter.unusedSimpArgs false

def lightB (nx : List (List Int)) (ac : List Bool) : Bool := !decide (lsum 1500 nx > 1500) && (decide ((ac.length : Int) ≤ 300) && decide ((nx.length : Int) ≤ 60))
theorem ev_Light (a : Int) (nx : List (List Int)) (ac : List Bool) : Ev (fun k => caesuralaw21_Light.f k a nx ac) (lightB nx ac) := by
  unfold caesuralaw21_Light.f lightB
  refine Ev.bind (ev_LargeLists 1500 (by omega) (by omega) nx) ?_
  cases decide (lsum 1500 nx > 1500)
  · by_cases h : (ac.length : Int) ≤ 300
    · simpa [h] using Ev.now _
    · simpa [h] using Ev.now _
  · simpa using Ev.now _
theorem light_small {nx : List (List Int)} {ac : List Bool} (h : lightB nx ac = true) : nx.length ≤ 60 ∧ (∀ x ∈ nx, x.length ≤ 1500) ∧ ac.length ≤ 300 := by
  unfold lightB at h
  simp only [Bool.and_eq_true, Bool.not_eq_true', decide_eq_false_iff_not, decide_eq_true_eq] at h
  have h1 := lsum_nonneg 1500 (by omega) nx
  refine ⟨by omega, fun x hx => ?_, by omega⟩
  have := lsum_mem (most := 1500) (by omega) hx
  omega

end Go.Proofs.Ytelkjbacdpmnfaa.A

namespace Go.Proofs.Ytelkjbacdpmnfaa.A
open Go.RowKit Go.W_.PrintWords Go.W_.PrintLast Go.W_.PrintMore
attribute [local go_sem] max2_int min2_int max_two min_two max_three min_three max_four min_four
set_option linter.unusedVariables false
set_option linter.unusedSimpArgs false

section
variable {a : Int} {nx : List (List Int)} {ac : List Bool}
theorem ev_Not_l0 (h : Aut a nx ac) : ∀ (d i : Nat), i + d = nx.length → Ev (fun k => product_Not.l0 k nx (nx.length : Int) (i : Int) a nx ac a (nx.take i) ((ac.take i).map (!·))) (a, nx, ac.map (!·), true) := by
  have hn := h.n2
  have he := h.ends
  have ha := h.a2
  intro d
  induction d with
  | zero =>
    intro i hi
    rw [List.take_of_length_le (by omega), List.take_of_length_le (by omega)]
    refine Ev.step (f := fun _ => some (a, nx, ac.map (!·), true)) (fun k => ?_) (Ev.now _)
    simp only [product_Not.l0]
    rw [if_neg (by omega)]
  | succ d ih =>
    intro i hi
    have hil : i < nx.length := by omega
    have hl := h.len hil
    have h1 := ih (i + 1) (by omega)
    rw [take_getD_snoc nx [] i hil, take_getD_snoc ac false i (by omega), List.map_append] at h1
    refine Ev.step (fun k => ?_) h1
    simp only [product_Not.l0, rd5_nat, rdb_nat, Option.bind_some, List.nil_append, List.length_take, List.length_map, List.length_nil]
    rw [if_pos (by omega), if_pos (by omega), if_pos (by omega), if_pos (by omega), if_pos (by omega), if_pos (by omega), if_pos (by omega), wadd (by omega) (by omega), nat_succ_cast]
    rfl
theorem ev_Not (hg : goodB a nx ac = true) : Ev (fun k => product_Not.f k a nx ac) (a, nx, ac.map (!·), true) := by
  have h1 := ev_Not_l0 (Aut.of hg) nx.length 0 (by omega)
  refine Ev.congr (fun k => ?_) h1
  unfold product_Not.f thompson_Good.f
  simp only [Option.bind_some, hg, if_true]
  rfl
theorem ev_Not_bad (hg : goodB a nx ac = false) : Ev (fun k => product_Not.f k a nx ac) (0, [], [], false) := by
  refine Ev.congr (f := fun _ => some (0, [], [], false)) (fun k => ?_) (Ev.now _)
  unfold product_Not.f thompson_Good.f
  simp [hg]
end

end Go.Proofs.Ytelkjbacdpmnfaa.A

namespace Go.Proofs.Ytelkjbacdpmnfaa.A
open Go.RowKit Go.W_.PrintWords Go.W_.PrintLast Go.W_.PrintMore
attribute [local go_sem] max2_int min2_int max_two min_two max_three min_three max_four min_four
set_option linter.unusedVariables false
set_option linter.unusedSimpArgs false

theorem ev_OwnLists (l : List (List Int)) (hn : l.length ≤ 1000000) (hr : ∀ x ∈ l, x.length ≤ 1000000) : Ev (fun k => caesurakeep_OwnLists.f k l) l := by
  have key : ∀ (d i : Nat), i + d = l.length → Ev (fun k => caesurakeep_OwnLists.l0 k l (l.take i) (i : Int)) l := by
    intro d
    induction d with
    | zero =>
      intro i hi
      refine Ev.step (f := fun _ => some (l.take i)) (fun k => ?_) ?_
      · simp only [caesurakeep_OwnLists.l0]
        rw [if_neg (by omega)]
      · rw [List.take_of_length_le (by omega)]
        exact Ev.now _
    | succ d ih =>
      intro i hi
      have hil : i < l.length := by omega
      have hs := small_len (d := []) hr hil
      have ht : (l.take i).length ≤ 1000000 := by rw [List.length_take]; omega
      refine Ev.step (f := fun k => caesurakeep_OwnLists.l0 k l (l.take (i + 1)) ((i + 1 : Nat) : Int)) (fun k => ?_) (ih (i + 1) (by omega))
      simp only [caesurakeep_OwnLists.l0, rd5_nat, Option.bind_some, List.length_nil, List.nil_append]
      rw [if_pos (by omega), if_pos (by omega), if_pos (by omega), if_pos (by omega), wadd (by omega) (by omega), nat_succ_cast, ← take_getD_snoc l [] i hil]
  have h := key l.length 0 (by omega)
  simpa [caesurakeep_OwnLists.f] using h
theorem ev_OwnAutomaton (a : Int) (nx : List (List Int)) (ac : List Bool) (hn : nx.length ≤ 1000000) (hr : ∀ x ∈ nx, x.length ≤ 1000000) (ha : ac.length ≤ 1000000) : Ev (fun k => caesurakeep_OwnAutomaton.f k a nx ac) (a, nx, ac) := by
  unfold caesurakeep_OwnAutomaton.f
  refine Ev.bind (ev_OwnLists nx hn hr) ?_
  simp only [Option.bind_some, List.length_nil, List.nil_append]
  refine Ev.congr (f := fun _ => some (a, nx, ac)) (fun k => ?_) (Ev.now _)
  rw [if_pos (by omega)]


end Go.Proofs.Ytelkjbacdpmnfaa.A

namespace Go.Proofs.Ytelkjbacdpmnfaa.A
open Go.RowKit Go.W_.PrintWords Go.W_.PrintLast Go.W_.PrintMore
attribute [local go_sem] max2_int min2_int max_two min_two max_three min_three max_four min_four
set_option linter.unusedVariables false
set_option linter.unusedSimpArgs false

section
variable {σ : Type} [DecidableEq σ] {L : Nat} {st : σ → Nat → σ} {s0 : σ} {ok : σ → Prop} {l : List σ} {i : Nat}
theorem growTo_more' {s x : σ} {m : List σ} {j c : Nat} (h : (growTo st s m c)[j]? = some x) : ∀ d, (growTo st s m (c + d))[j]? = some x
  | 0 => h
  | d + 1 => by
    show (growTo st s m (c + d + 1))[j]? = some x
    unfold growTo
    split
    · exact growTo_more' h d
    · rw [List.getElem?_append_left (List.getElem?_eq_some_iff.1 (growTo_more' h d)).1]
      exact growTo_more' h d
theorem metUpto_more' {x : σ} {i j : Nat} (h : (metUpto L st s0 i)[j]? = some x) : ∀ d, (metUpto L st s0 (i + d))[j]? = some x
  | 0 => h
  | d + 1 => by
    show (metUpto L st s0 (i + d + 1))[j]? = some x
    unfold metUpto
    split
    · exact metUpto_more' h d
    next s hs => exact growTo_more' (c := 0) (metUpto_more' h d) L ▸ (by rw [Nat.zero_add])
theorem metUpto_length (hl : MetAll L st s0 ok l) (i : Nat) : (metUpto L st s0 i).length ≤ l.length := by
  have h1 : ∀ j, j < (metUpto L st s0 i).length → j < l.length := fun j hj => by
    have h2 := metUpto_more' (List.getElem?_eq_getElem hj) l.length
    rw [show i + l.length = l.length + i by omega, hl.stays] at h2
    exact (List.getElem?_eq_some_iff.1 h2).1
  rcases Nat.lt_or_ge l.length (metUpto L st s0 i).length with h | h
  · exact absurd (h1 l.length h) (by omega)
  · exact h
theorem MetIs.round (h : MetIs L st s0 ok l i 0) {s : σ} (hs : l[i]? = some s) (hok : ∀ c, c < L → ok (st s c)) : MetIs L st s0 ok (growTo st s l L) (i + 1) 0 := by
  have hi := (List.getElem?_eq_some_iff.1 hs).1
  have hge := growTo_ge (st := st) (s := s) (l := l) L
  refine ⟨(Wbfs.grow hs hok h.bfs L (Nat.le_refl _)).turn (by omega), ?_⟩
  have e := h.is_
  rw [metAt_zero] at e
  rw [metAt_zero, metAt_turn]
  unfold metAt
  rw [← e, hs]
/-- What is met within a budget: all of it, or too much. -/
theorem prodRun_met {N : Nat} {code : σ → Nat} (hc : ∀ x, ok x → code x < N) (hi : ∀ x y, ok x → ok y → code x = code y → x = y) (hok : ∀ s c, ok s → c < L → ok (st s c)) (most : Int) :
    ∀ (d i : Nat) (l : List σ), N - i = d → MetIs L st s0 ok l i 0 → ∃ M j, Ev (fun k => prodRun L st most k l i) M ∧ ((M.length : Int) ≤ most ∧ MetAll L st s0 ok M ∨ most < (M.length : Int) ∧ MetIs L st s0 ok M j 0) := by
  intro d
  induction d using Nat.strongRecOn with
  | _ d ih =>
    intro i l hd hM
    have hat := hM.bfs.at_
    have hmo := hM.bfs.most hc hi
    by_cases hm : (l.length : Int) ≤ most
    · by_cases hil : i < l.length
      · have hs : l[i]? = some l[i] := List.getElem?_eq_getElem hil
        obtain ⟨M, j, h1, h2⟩ := ih (N - (i + 1)) (by omega) (i + 1) (growTo st l[i] l L) rfl (hM.round hs (fun c hcl => hok _ c (hM.bfs.good _ (List.mem_of_getElem? hs)) hcl))
        refine ⟨M, j, Ev.step (fun k => ?_) h1, h2⟩
        simp only [prodRun, hs, if_pos hm]
      · have e : i = l.length := by omega
        refine ⟨l, 0, ?_, .inl ⟨hm, by subst e; exact hM⟩⟩
        refine Ev.step (f := fun _ => some l) (fun k => ?_) (Ev.now _)
        simp only [prodRun, List.getElem?_eq_none (show l.length ≤ i by omega)]
    · refine ⟨l, i, ?_, .inr ⟨by omega, hM⟩⟩
      refine Ev.step (f := fun _ => some l) (fun k => ?_) (Ev.now _)
      simp only [prodRun, if_neg hm]
      split <;> rfl
end
section
variable {a : Int} {nx mx : List (List Int)} {ac bc : List Bool}
theorem prod_ok (hA : Aut a nx ac) (hB : Aut a mx bc) (p : Nat × Nat) (c : Nat) (hp : inP nx.length mx.length p) (hc : c < a.toNat) : inP nx.length mx.length (prodSt nx mx p c) := ⟨hA.shuts _ c hp.1 hc, hB.shuts _ c hp.2 hc⟩
/-- All pairs that are met. -/
abbrev ProdAll (a : Int) (nx mx : List (List Int)) (F : List (Nat × Nat)) : Prop := MetAll a.toNat (prodSt nx mx) (0, 0) (inP nx.length mx.length) F
theorem prod_start (hA : Aut a nx ac) (hB : Aut a mx bc) : MetIs a.toNat (prodSt nx mx) (0, 0) (inP nx.length mx.length) [(0, 0)] 0 0 := MetIs.start ⟨by have := hA.n1; show 0 < _; omega, by have := hB.n1; show 0 < _; omega⟩
theorem prod_all (hA : Aut a nx ac) (hB : Aut a mx bc) : ∃ F, ProdAll a nx mx F := by
  obtain ⟨M, j, h1, h2⟩ := prodRun_met (N := nx.length * mx.length) (fun _ => code_lt) (fun _ _ => code_inj) (prod_ok hA hB) ((nx.length * mx.length : Nat) : Int) _ 0 [(0, 0)] rfl (prod_start hA hB)
  rcases h2 with ⟨_, h3⟩ | ⟨h3, h4⟩
  · exact ⟨M, h3⟩
  · have h6 := h4.bfs.most (N := nx.length * mx.length) (fun _ => code_lt) (fun _ _ => code_inj)
    omega
theorem prod_most {F : List (Nat × Nat)} (hF : ProdAll a nx mx F) : F.length ≤ nx.length * mx.length := hF.bfs.most (fun _ => code_lt) (fun _ _ => code_inj)
/-- A product, by any budget. -/
theorem ev_prod (hg : goodB a nx ac = true) (hg2 : goodB a mx bc = true) {F : List (Nat × Nat)} (hF : ProdAll a nx mx F) (E : Bool → Bool → Bool) (most : Int) :
    Ev (fun k => prodF E k a nx ac a mx bc most) (prodRes E a nx ac mx bc (prodMost most) F) := by
  have hA := Aut.of hg
  have hB := Aut.of hg2
  obtain ⟨M, j, h1, h2⟩ := prodRun_met (N := nx.length * mx.length) (fun _ => code_lt) (fun _ _ => code_inj) (prod_ok hA hB) (prodMost most) _ 0 [(0, 0)] rfl (prod_start hA hB)
  have e : prodRes E a nx ac mx bc (prodMost most) M = prodRes E a nx ac mx bc (prodMost most) F := by
    rcases h2 with ⟨_, h3⟩ | ⟨h3, h4⟩
    · rw [MetAll.unique h3 hF]
    · have h5 : M.length ≤ F.length := by
        have e := h4.is_
        rw [metAt_zero] at e
        rw [e]
        exact metUpto_length hF _
      unfold prodRes
      rw [if_pos (by omega), if_pos (by omega)]
  rw [← e]
  unfold prodF
  simp only [hg, hg2, if_true]
  exact Ev.bind h1 (Ev.now _)
theorem ev_prod_bad {b : Int} (h : ¬ (goodB a nx ac = true ∧ goodB b mx bc = true ∧ a = b)) (E : Bool → Bool → Bool) (most : Int) : Ev (fun k => prodF E k a nx ac b mx bc most) (0, [], [], 1) := by
  refine Ev.congr (f := fun _ => some (0, [], [], 1)) (fun k => ?_) (Ev.now _)
  unfold prodF
  by_cases h1 : goodB a nx ac = true
  · by_cases h2 : goodB b mx bc = true
    · by_cases h3 : a = b
      · exact absurd ⟨h1, h2, h3⟩ h
      · rw [if_pos h1, if_pos h2, if_neg h3]
    · rw [if_pos h1, if_neg h2]
  · rw [if_neg h1]
end

end Go.Proofs.Ytelkjbacdpmnfaa.A

namespace Go.Proofs.Ytelkjbacdpmnfaa.A
open Go.RowKit Go.W_.PrintWords Go.W_.PrintLast Go.W_.PrintMore
attribute [local go_sem] max2_int min2_int max_two min_two max_three min_three max_four min_four
set_option linter.unusedVariables false
set_option linter.unusedSimpArgs false

section
variable {a : Int} {nx mx : List (List Int)} {ac bc : List Bool} {F : List (Nat × Nat)}
def prodN (a : Int) (nx mx : List (List Int)) (F : List (Nat × Nat)) : List (List Int) := numNext a.toNat (prodSt nx mx) F
def prodA (E : Bool → Bool → Bool) (ac bc : List Bool) (F : List (Nat × Nat)) : List Bool := F.map (prodEnd E ac bc)
theorem prodN_length : (prodN a nx mx F).length = F.length := by simp [prodN, numNext]
theorem prodA_length (E : Bool → Bool → Bool) : (prodA E ac bc F).length = F.length := by simp [prodA]
theorem prodN_row {x : List Int} (hx : x ∈ prodN a nx mx F) : x.length = a.toNat := by
  obtain ⟨s, _, rfl⟩ := List.mem_map.1 hx
  simp
theorem prodRes_ok (E : Bool → Bool → Bool) {m : Int} (h : (F.length : Int) ≤ m) : prodRes E a nx ac mx bc m F = (a, prodN a nx mx F, prodA E ac bc F, 0) := by
  unfold prodRes
  rw [if_neg (by omega)]
  rfl
theorem prodRes_over (E : Bool → Bool → Bool) {m : Int} (h : m < (F.length : Int)) : prodRes E a nx ac mx bc m F = (0, [], [], 14) := by
  unfold prodRes
  rw [if_pos (by omega)]
theorem wakes24_any (k : Nat) : caesuralaw24_wakes.f k = some true := rfl
end

end Go.Proofs.Ytelkjbacdpmnfaa.A

namespace Go.Proofs.Ytelkjbacdpmnfaa.A
open Go.RowKit Go.W_.PrintWords Go.W_.PrintLast Go.W_.PrintMore
attribute [local go_sem] max2_int min2_int max_two min_two max_three min_three max_four min_four
set_option linter.unusedVariables false
set_option linter.unusedSimpArgs false

theorem ev_Ints_same (l : List Int) (hn : l.length ≤ 1000000) : Ev (fun k => caesurakeep_Ints.f k l l) true := by
  have key : ∀ (d i : Nat), i + d = l.length → Ev (fun k => caesurakeep_Ints.l0 k l l (i : Int)) true := by
    intro d
    induction d with
    | zero =>
      intro i hi
      refine Ev.step (f := fun _ => some true) (fun k => ?_) (Ev.now _)
      simp only [caesurakeep_Ints.l0]
      rw [if_neg (by omega)]
    | succ d ih =>
      intro i hi
      refine Ev.step (f := fun k => caesurakeep_Ints.l0 k l l ((i + 1 : Nat) : Int)) (fun k => ?_) (ih (i + 1) (by omega))
      simp only [caesurakeep_Ints.l0, rd_nat]
      rw [if_pos (by omega), if_pos (by omega), if_pos (by omega), if_pos trivial, wadd (by omega) (by omega), nat_succ_cast]
  have h := key l.length 0 (by omega)
  simpa [caesurakeep_Ints.f] using h
theorem ev_Bools_same (l : List Bool) (hn : l.length ≤ 1000000) : Ev (fun k => caesurakeep_Bools.f k l l) true := by
  have key : ∀ (d i : Nat), i + d = l.length → Ev (fun k => caesurakeep_Bools.l0 k l l (i : Int)) true := by
    intro d
    induction d with
    | zero =>
      intro i hi
      refine Ev.step (f := fun _ => some true) (fun k => ?_) (Ev.now _)
      simp only [caesurakeep_Bools.l0]
      rw [if_neg (by omega)]
    | succ d ih =>
      intro i hi
      refine Ev.step (f := fun k => caesurakeep_Bools.l0 k l l ((i + 1 : Nat) : Int)) (fun k => ?_) (ih (i + 1) (by omega))
      simp only [caesurakeep_Bools.l0, rdb_nat, bne_self_eq_false]
      rw [if_pos (by omega), if_pos (by omega), if_pos (by omega), if_neg (by decide), wadd (by omega) (by omega), nat_succ_cast]
  have h := key l.length 0 (by omega)
  simpa [caesurakeep_Bools.f] using h
theorem ev_Lists_same (l : List (List Int)) (hn : l.length ≤ 1000000) (hr : ∀ x ∈ l, x.length ≤ 1000000) : Ev (fun k => caesurakeep_Lists.f k l l) true := by
  have key : ∀ (d i : Nat), i + d = l.length → Ev (fun k => caesurakeep_Lists.l0 k l l (i : Int)) true := by
    intro d
    induction d with
    | zero =>
      intro i hi
      refine Ev.step (f := fun _ => some true) (fun k => ?_) (Ev.now _)
      simp only [caesurakeep_Lists.l0]
      rw [if_neg (by omega)]
    | succ d ih =>
      intro i hi
      have hil : i < l.length := by omega
      have hs := small_len (d := []) hr hil
      refine Ev.step (f := fun k => (caesurakeep_Ints.f k (l.getD i []) (l.getD i [])).bind fun t103 => if t103 = true then caesurakeep_Lists.l0 k l l ((i + 1 : Nat) : Int) else some false) (fun k => ?_) (Ev.bind (ev_Ints_same _ hs) ?_)
      · simp only [caesurakeep_Lists.l0, rd5_nat]
        rw [if_pos (by omega), if_pos (by omega), if_pos (by omega), wadd (by omega) (by omega), nat_succ_cast]
      · simpa using ih (i + 1) (by omega)
  have h := key l.length 0 (by omega)
  simpa [caesurakeep_Lists.f] using h
theorem ev_Automaton_same (a : Int) (nx : List (List Int)) (ac : List Bool) (hn : nx.length ≤ 1000000) (hr : ∀ x ∈ nx, x.length ≤ 1000000) (ha : ac.length ≤ 1000000) : Ev (fun k => caesurakeep_Automaton.f k a nx ac a nx ac) true := by
  unfold caesurakeep_Automaton.f
  simp only [if_true]
  refine Ev.bind (ev_Lists_same nx hn hr) ?_
  simp only [if_true]
  refine Ev.bind (ev_Bools_same ac ha) ?_
  exact Ev.now _

end Go.Proofs.Ytelkjbacdpmnfaa.A

namespace Go.Proofs.Ytelkjbacdpmnfaa.A
open Go.RowKit Go.W_.PrintWords Go.W_.PrintLast Go.W_.PrintMore
attribute [local go_sem] max2_int min2_int max_two min_two max_three min_three max_four min_four
set_option linter.unusedVariables false
set_option linter.unusedSimpArgs false

theorem prod_any (a : Int) (nx : List (List Int)) (ac : List Bool) (b : Int) (mx : List (List Int)) (bc : List Bool) (E : Bool → Bool → Bool) (most : Int) :
    ∃ r1 X Y n, Ev (fun k => prodF E k a nx ac b mx bc most) (r1, X, Y, n) ∧ X.length ≤ 1000000 ∧ (∀ x ∈ X, x.length ≤ 1000000) ∧ Y.length ≤ 1000000 := by
  by_cases h : goodB a nx ac = true ∧ goodB b mx bc = true ∧ a = b
  · obtain ⟨h1, h2, rfl⟩ := h
    have hA := Aut.of h1
    have hB := Aut.of h2
    obtain ⟨F, hF⟩ := prod_all hA hB
    have h3 := ev_prod h1 h2 hF E most
    have hm := prod_most hF
    have hl : nx.length * mx.length ≤ 1000 * 1000 := Nat.mul_le_mul hA.n2 hB.n2
    by_cases hb : (F.length : Int) ≤ prodMost most
    · rw [prodRes_ok E hb] at h3
      refine ⟨_, _, _, _, h3, by rw [prodN_length]; omega, fun x hx => ?_, by rw [prodA_length]; omega⟩
      have h4 := prodN_row hx
      have := hA.a2
      have := hA.a1
      omega
    · rw [prodRes_over E (by omega)] at h3
      exact ⟨_, _, _, _, h3, by simp, by simp, by simp⟩
  · exact ⟨_, _, _, _, ev_prod_bad h E most, by simp, by simp, by simp⟩
theorem refE1 : refE 1 = fun x y => x && y := by
  funext x y
  simp [refE]
theorem refE2 : refE 2 = fun x y => x || y := by
  funext x y
  simp [refE]
theorem refE3 : refE 3 = fun x y => x && !y := by
  funext x y
  simp [refE]
theorem caesuralaw24_ProductTells.told (a0_0 : Int) (A0_1 : Option Addr) (c0_1 : Nat) (l0_1 : List (List Int)) (A0_2 : Option Addr) (c0_2 : Nat) (l0_2 : List Bool) (a1_0 : Int) (A1_1 : Option Addr) (c1_1 : Nat) (l1_1 : List (List Int)) (A1_2 : Option Addr) (c1_2 : Nat) (l1_2 : List Bool) (a2 : Int) (w : World) (hr0_1 : Kd.C (Kd.slice 3 (Kd.int .i64)) w A0_1 l0_1.length l0_1) (hc0_1 : l0_1.length ≤ c0_1) (hr0_2 : Kd.C Kd.bool w A0_2 l0_2.length l0_2) (hc0_2 : l0_2.length ≤ c0_2) (hr1_1 : Kd.C (Kd.slice 3 (Kd.int .i64)) w A1_1 l1_1.length l1_1) (hc1_1 : l1_1.length ≤ c1_1) (hr1_2 : Kd.C Kd.bool w A1_2 l1_2.length l1_2) (hc1_2 : l1_2.length ≤ c1_2) :
    Calls Try.prog 19 #[.agg #[.int .i64 a0_0, .slice A0_1 l0_1.length c0_1, .slice A0_2 l0_2.length c0_2], .agg #[.int .i64 a1_0, .slice A1_1 l1_1.length c1_1, .slice A1_2 l1_2.length c1_2], .int .i64 a2] w fun e w' => e = .returned (.bool true) ∧ Below w.heap.size w w' := by
  have hw := wakes24_any 0
  obtain ⟨k0, h0⟩ := (ev_Light a0_0 l0_1 l0_2).rounds
  obtain ⟨k1, h1⟩ := (ev_Light a1_0 l1_1 l1_2).rounds
  cases hb0 : lightB l0_1 l0_2 with
  | false =>
    rw [hb0] at h0
    exact ptells_short0 k0 0 0 a0_0 A0_1 c0_1 l0_1 A0_2 c0_2 l0_2 a1_0 A1_1 c1_1 l1_1 A1_2 c1_2 l1_2 a2 w hr0_1 hc0_1 hr0_2 hc0_2 hr1_1 hc1_1 hr1_2 hc1_2 h0 hw
  | true =>
    rw [hb0] at h0
    cases hb1 : lightB l1_1 l1_2 with
    | false =>
      rw [hb1] at h1
      exact ptells_short1 k0 k1 0 a0_0 A0_1 c0_1 l0_1 A0_2 c0_2 l0_2 a1_0 A1_1 c1_1 l1_1 A1_2 c1_2 l1_2 a2 w hr0_1 hc0_1 hr0_2 hc0_2 hr1_1 hc1_1 hr1_2 hc1_2 h0 h1 hw
    | true =>
      rw [hb1] at h1
      obtain ⟨s1, s2, s3⟩ := light_small hb0
      obtain ⟨t1, t2, t3⟩ := light_small hb1
      have s2' : ∀ x ∈ l0_1, x.length ≤ 1000000 := fun x hx => by have := s2 x hx; omega
      have t2' : ∀ x ∈ l1_1, x.length ≤ 1000000 := fun x hx => by have := t2 x hx; omega
      obtain ⟨x1, X1, Y1, n1, e1, u1, u2, u3⟩ := prod_any a0_0 l0_1 l0_2 a1_0 l1_1 l1_2 (fun x y => x && y) (if (300 : Int) < a2 then 300 else a2)
      obtain ⟨x2, X2, Y2, n2, e2, u4, u5, u6⟩ := prod_any a0_0 l0_1 l0_2 a1_0 l1_1 l1_2 (fun x y => x || y) (if (300 : Int) < a2 then 300 else a2)
      obtain ⟨x3, X3, Y3, n3, e3, u7, u8, u9⟩ := prod_any a0_0 l0_1 l0_2 a1_0 l1_1 l1_2 (fun x y => x && !y) (if (300 : Int) < a2 then 300 else a2)
      obtain ⟨q1, e1⟩ := e1.rounds
      obtain ⟨q2, e2⟩ := e2.rounds
      obtain ⟨q3, e3⟩ := e3.rounds
      have f1 := e1
      have f2 := e2
      have f3 := e3
      rw [← refE1] at f1
      rw [← refE2] at f2
      rw [← refE3] at f3
      obtain ⟨j1, o1⟩ := (ev_OwnAutomaton a0_0 l0_1 l0_2 (by omega) s2' (by omega)).rounds
      obtain ⟨j2, o2⟩ := (ev_OwnAutomaton a1_0 l1_1 l1_2 (by omega) t2' (by omega)).rounds
      obtain ⟨i1, v1⟩ := (ev_Automaton_same x1 X1 Y1 u1 u2 u3).rounds
      obtain ⟨i2, v2⟩ := (ev_Automaton_same x2 X2 Y2 u4 u5 u6).rounds
      obtain ⟨i3, v3⟩ := (ev_Automaton_same x3 X3 Y3 u7 u8 u9).rounds
      obtain ⟨i5, v5⟩ := (ev_Automaton_same a0_0 l0_1 l0_2 (by omega) s2' (by omega)).rounds
      obtain ⟨i6, v6⟩ := (ev_Automaton_same a1_0 l1_1 l1_2 (by omega) t2' (by omega)).rounds
      obtain ⟨j3, g1⟩ := (ev_refGood a0_0 l0_1 l0_2).rounds
      have main := fun (x4 : Int) (X4 : List (List Int)) (Y4 : List Bool) (gd : Bool) (q4 i4 : Nat) => ptells_main k0 k1 0 q1 q2 q3 q4 q1 q2 q3 j1 j2 j3 i1 i2 i3 i4 i5 i6 a0_0 A0_1 c0_1 l0_1 A0_2 c0_2 l0_2 a1_0 A1_1 c1_1 l1_1 A1_2 c1_2 l1_2 a2 (if (300 : Int) < a2 then 300 else a2) x1 X1 Y1 n1 x2 X2 Y2 n2 x3 X3 Y3 n3 x4 X4 Y4 (l0_2.map (!·)) gd w hr0_1 hc0_1 hr0_2 hc0_2 hr1_1 hc1_1 hr1_2 hc1_2 h0 h1 rfl
      cases hg : goodB a0_0 l0_1 l0_2 with
      | true =>
        rw [hg] at g1
        obtain ⟨q4, e4⟩ := (ev_Not hg).rounds
        obtain ⟨i4, v4⟩ := (ev_Automaton_same a0_0 l0_1 (l0_2.map (!·)) (by omega) s2' (by rw [List.length_map]; omega)).rounds
        have hA := Aut.of hg
        exact main _ _ _ true q4 i4 (fun _ => by have := hA.ends; have := hA.n1; omega) (by omega) rfl hw e1 e2 e3 f1 f2 f3 e4 o1 o2 g1 v1 v2 v3 (fun _ => v4) (fun h => by cases h) v5 v6
      | false =>
        rw [hg] at g1
        obtain ⟨q4, e4⟩ := (ev_Not_bad hg).rounds
        obtain ⟨i4, v4⟩ := (ev_Automaton_same 0 [] [] (by simp) (by simp) (by simp)).rounds
        exact main _ _ _ false q4 i4 (fun h => by cases h) (by omega) rfl hw e1 e2 e3 f1 f2 f3 e4 o1 o2 g1 v1 v2 v3 (fun h => by cases h) (fun _ => v4) v5 v6

end Go.Proofs.Ytelkjbacdpmnfaa.A
