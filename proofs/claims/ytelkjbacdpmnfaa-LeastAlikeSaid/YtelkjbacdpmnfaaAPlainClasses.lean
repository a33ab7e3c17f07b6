/- By a program, out of the translation (wip/myprint.py). -/
import Derived.Test.YtelkjbacdpmnfaaA0
import Derived.Test.YtelkjbacdpmnfaaALeastBlocks
import Derived.Test.YtelkjbacdpmnfaaALeastClasses
import Derived.Test.YtelkjbacdpmnfaaALeastSplit
import Derived.Test.YtelkjbacdpmnfaaAPlainAlike
import Derived.Test.YtelkjbacdpmnfaaAPlainAut
import Derived.Test.YtelkjbacdpmnfaaAPlainGood
import Derived.Test.YtelkjbacdpmnfaaAPlainNorm
import Derived.Test.YtelkjbacdpmnfaaAPlainSplit
import Derived.Test.YtelkjbacdpmnfaaASlicesIndexIntInt
import Derived.Test.YtelkjbacdpmnfaaAThompsonGood
namespace Go.Proofs.Ytelkjbacdpmnfaa.A
open Go.RowKit Go.Proofs.YtelkjbacdpmnfaaW.PrintWords Go.Proofs.YtelkjbacdpmnfaaW.PrintLast Go.Proofs.YtelkjbacdpmnfaaW.PrintMore
attribute [local go_sem] max2_int min2_int max_two min_two max_three min_three max_four min_four   -- for this text's walks alone
set_option linter.unusedVariables false
set_option linter.unusedSimpArgs false

/-! the classes of alike states: the program's and the reference's -/
def endsTo (ac : List Bool) (i : Nat) : List Int := (List.range ac.length).map fun s => if s < i ∧ ac.getD s false = true then 1 else 0
theorem endsTo_zero (ac : List Bool) : endsTo ac 0 = List.replicate ac.length 0 := by
  apply List.ext_getElem (by simp [endsTo])
  intro i h1 h2
  simp [endsTo]
theorem endsTo_getD (ac : List Bool) {i s : Nat} (hs : s < ac.length) : (endsTo ac i).getD s 0 = if s < i ∧ ac.getD s false = true then 1 else 0 := by
  unfold endsTo
  rw [List.getD_eq_getElem?_getD, List.getElem?_map, List.getElem?_range hs]
  rfl
theorem endsTo_set (ac : List Bool) {i : Nat} (hi : i < ac.length) (h : ac.getD i false = true) : (endsTo ac i).set i 1 = endsTo ac (i + 1) := by
  apply List.ext_getElem (by simp [endsTo])
  intro j h1 h2
  simp only [endsTo, List.getElem_set, List.getElem_map, List.getElem_range]
  by_cases hj : i = j
  · subst hj
    simp
    simpa using h
  · rw [if_neg hj]
    by_cases h3 : j < i
    · simp [h3, show j < i + 1 by omega]
    · simp [h3, show ¬ j < i + 1 by omega]
theorem endsTo_skip (ac : List Bool) {i : Nat} (h : ac.getD i false = false) : endsTo ac (i + 1) = endsTo ac i := by
  apply List.ext_getElem (by simp [endsTo])
  intro j h1 h2
  simp only [endsTo, List.getElem_map, List.getElem_range]
  by_cases hj : j = i
  · subst hj
    rw [if_neg (by simp only [h]; simp), if_neg (by simp)]
  · by_cases h3 : j < i
    · simp [h3, show j < i + 1 by omega]
    · simp [h3, show ¬ j < i + 1 by omega]
theorem cnt_pos {n : Nat} {f : Nat → Int} (h : 0 < n) : 0 < cnt n f := List.countP_pos_iff.2 ⟨0, List.mem_range.2 h, isFirst_iff.2 fun u hu => absurd hu (Nat.not_lt_zero _)⟩
theorem split_ok {a : Int} {nx : List (List Int)} {ac : List Bool} (h : Aut a nx ac) {B : List Int} (hB : B.length = nx.length) (hr : ∀ x ∈ B, 0 ≤ x ∧ x < 1000) {c : Nat} (hc : c < a.toNat) : splitOk nx B (c : Int) = true := by
  unfold splitOk
  simp only [Bool.and_eq_true, decide_eq_true_eq, List.all_eq_true]
  have hn2 := h.n2
  refine ⟨⟨⟨⟨by omega, hB.symm⟩, by omega⟩, fun r hr => ?_⟩, fun x hx => ?_⟩
  · obtain ⟨s, hs, rfl⟩ := List.mem_iff_getElem.1 hr
    have e : nx[s] = nx.getD s [] := by rw [List.getD_eq_getElem?_getD, List.getElem?_eq_getElem hs]; rfl
    rw [e, Int.toNat_natCast, hB]
    have h1 := h.len hs
    have h2 := h.to_ s c hs (by omega)
    exact ⟨⟨by omega, h2.1⟩, h2.2⟩
  · have := hr x hx
    simp only [Lit.wf, Bool.and_eq_true, decide_eq_true_eq]
    exact ⟨by show (-9223372036854775808 : Int) ≤ _; omega, by show _ ≤ (9223372036854775807 : Int); omega⟩
section
variable {a : Int} {nx : List (List Int)} {ac : List Bool}
/-- Blocks that are told apart by what is alike. -/
def IsBlocks (a : Int) (nx : List (List Int)) (ac : List Bool) (B : List Int) : Prop := B.length = nx.length ∧ ∀ s u, s < nx.length → u < nx.length → (B.getD s 0 = B.getD u 0 ↔ Alike a.toNat (stL nx) (acL ac) s u)
theorem ev_blocks_l2 (h : Aut a nx ac) {B0 : List Int} {many : Nat} (hp : Parts nx.length (acL ac) (fL B0)) (hm : many = 0 ∨ many = cnt nx.length (fL B0))
    (hnext : ∀ (B : List Int) (m : Nat), many < m → m = cnt nx.length (fL B) → Parts nx.length (acL ac) (fL B) → B.length = nx.length → (∀ x ∈ B, 0 ≤ x ∧ x < 1000) → Coarse nx.length a.toNat (stL nx) (acL ac) (fL B) → ∃ R, Ev (fun k => least_blocks.l1 k B (m : Int) a nx ac) R ∧ IsBlocks a nx ac R) :
    ∀ (d c : Nat) (B : List Int) (m : Nat), c + d = a.toNat → Round nx.length a.toNat nx (acL ac) B0 B c → (0 < c → m = cnt nx.length (fL B)) → ∃ R, Ev (fun k => least_blocks.l2 k B (m : Int) (many : Int) a (c : Int) a nx ac) R ∧ IsBlocks a nx ac R := by
  have ha1 := h.a1
  have ha2 := h.a2
  have hn2 := h.n2
  have hn1 := h.n1
  intro d
  induction d with
  | zero =>
    intro c B m hc hR hmc
    obtain rfl : c = a.toNat := by omega
    have hmc := hmc (by omega)
    have hcp := cnt_pos (n := nx.length) (f := fL B) (by omega)
    by_cases he : m = many
    · refine ⟨B, Ev.step (f := fun _ => some B) (fun k => ?_) (Ev.now _), hR.len, fun s u hs hu => ?_⟩
      · simp only [least_blocks.l2]
        rw [if_neg (by omega), if_pos (by omega)]
      · exact blocks_iff hR (by omega) hp h.shuts hs hu
    · have hlt := cnt_le hR.fine
      obtain ⟨R, hE, hI⟩ := hnext B m (by omega) hmc (hp.finer hR.fine) hR.len hR.low hR.coarse
      refine ⟨R, Ev.step (fun k => ?_) hE, hI⟩
      simp only [least_blocks.l2]
      rw [if_neg (by omega), if_neg (by omega)]
  | succ d ih =>
    intro c B m hc hR hmc
    have hcl : c < a.toNat := by omega
    have hR2 := hR.next hn2 hcl h.shuts
    have hl := hR.len
    obtain ⟨R, hE, hI⟩ := ih (c + 1) (splitTo nx B c B.length) ((facesMet nx B c B.length).length) (by omega) hR2 (fun _ => by rw [← hl, ← split_cnt])
    refine ⟨R, Ev.step (fun k => ?_) hE, hI⟩
    simp only [least_blocks.l2]
    have hf : least_split.f a nx ac B (c : Int) = some (splitTo nx B c B.length, (((facesMet nx B c B.length).length : Nat) : Int)) := by
      unfold least_split.f
      rw [if_pos (split_ok h hR.len hR.low hcl), Int.toNat_natCast]
    rw [if_pos (by omega), hf, wadd (by omega) (by omega), nat_succ_cast]
    rfl
theorem ev_blocks_l1 (h : Aut a nx ac) : ∀ (d : Nat) (B : List Int) (many : Nat), nx.length - many = d → (many = 0 ∨ many = cnt nx.length (fL B)) → Parts nx.length (acL ac) (fL B) → B.length = nx.length → (∀ x ∈ B, 0 ≤ x ∧ x < 1000) → Coarse nx.length a.toNat (stL nx) (acL ac) (fL B) → ∃ R, Ev (fun k => least_blocks.l1 k B (many : Int) a nx ac) R ∧ IsBlocks a nx ac R := by
  intro d
  induction d using Nat.strongRecOn with
  | _ d ih =>
    intro B many hd hm hp hl hr hco
    have hle := cnt_le_n nx.length (fL B)
    obtain ⟨R, hE, hI⟩ := ev_blocks_l2 h hp hm (fun B' m' h1 h2 h3 h4 h5 h6 => ih (nx.length - m') (by have := cnt_le_n nx.length (fL B'); omega) B' m' rfl (.inr h2) h3 h4 h5 h6) a.toNat 0 B many (by omega) (Round.zero hl hco hr) (fun h0 => absurd h0 (Nat.lt_irrefl _))
    exact ⟨R, Ev.step (fun k => rfl) hE, hI⟩
theorem ev_blocks (h : Aut a nx ac) : ∃ B, Ev (fun k => least_blocks.f k a nx ac) B ∧ IsBlocks a nx ac B := by
  have hn2 := h.n2
  have hen := h.ends
  have h0 : ∃ R, Ev (fun k => least_blocks.l1 k (endsTo ac ac.length) ((0 : Nat) : Int) a nx ac) R ∧ IsBlocks a nx ac R := by
    have hg : ∀ s, s < nx.length → fL (endsTo ac ac.length) s = if acL ac s = true then 1 else 0 := fun s hs => by
      unfold fL acL
      rw [endsTo_getD ac (by omega)]
      simp [show s < ac.length by omega]
    refine ev_blocks_l1 h nx.length (endsTo ac ac.length) 0 (by omega) (.inl rfl) (fun s u hs hu e => ?_) (by simp [endsTo, hen]) (fun x hx => ?_) (fun s u hs hu al => ?_)
    · rw [hg s hs, hg u hu] at e
      cases h1 : acL ac s <;> cases h2 : acL ac u <;> simp_all
    · unfold endsTo at hx
      obtain ⟨s, _, rfl⟩ := List.mem_map.1 hx
      split <;> omega
    · rw [hg s hs, hg u hu, al.ends]
  obtain ⟨R, hE, hI⟩ := h0
  have key : ∀ (d i : Nat), i + d = ac.length → Ev (fun k => least_blocks.l0 k (endsTo ac i) ac (ac.length : Int) (i : Int) a nx ac) R := by
    intro d
    induction d with
    | zero =>
      intro i hi
      obtain rfl : i = ac.length := by omega
      refine Ev.step (fun k => ?_) hE
      simp only [least_blocks.l0]
      rw [if_neg (by omega)]
      rfl
    | succ d ih =>
      intro i hi
      have hil : i < ac.length := by omega
      have hz : (endsTo ac i).length = ac.length := by simp [endsTo]
      cases hb : ac.getD i false with
      | true =>
        refine Ev.step (fun k => ?_) (ih (i + 1) (by omega))
        simp only [least_blocks.l0, rdb_nat, hb, hz, Int.toNat_natCast]
        rw [if_pos (by omega), if_pos (by omega), if_pos (by omega), if_pos trivial, if_pos (by omega), endsTo_set ac hil hb, wadd (by omega) (by omega), nat_succ_cast]
      | false =>
        refine Ev.step (fun k => ?_) (ih (i + 1) (by omega))
        simp only [least_blocks.l0, rdb_nat, hb]
        rw [if_pos (by omega), if_pos (by omega), if_pos (by omega), if_neg (by decide), endsTo_skip ac hb, wadd (by omega) (by omega), nat_succ_cast]
  refine ⟨R, Ev.congr (fun k => ?_) (key ac.length 0 (by omega)), hI⟩
  unfold least_blocks.f
  rw [if_pos (by omega), if_pos (by omega), endsTo_zero, hen, Int.toNat_natCast]
  rfl
theorem ev_Index (l : List Int) (v : Int) (hl : l.length ≤ 1000000) : ∀ (d i : Nat), i + d = l.length → v ∉ l.take i → v ∈ l → Ev (fun k => slices_Index_int_int.l0 k l v (l.length : Int) (i : Int)) ((l.idxOf v : Nat) : Int) := by
  intro d
  induction d with
  | zero =>
    intro i hi hn hm
    rw [List.take_of_length_le (by omega)] at hn
    exact absurd hm hn
  | succ d ih =>
    intro i hi hn hm
    have hil : i < l.length := by omega
    by_cases he : v = l.getD i 0
    · refine Ev.step (f := fun _ => some (i : Int)) (fun k => ?_) ?_
      · simp only [slices_Index_int_int.l0, rd_nat]
        rw [if_pos (by omega), if_pos (by omega), if_pos (by omega), if_pos he]
      · have e : l.idxOf v = i := by
          have h1 : l = l.take i ++ v :: l.drop (i + 1) := by
            rw [he, ← drop_cons_getD l 0 i hil, List.take_append_drop]
          rw [h1, List.idxOf_append, if_neg hn, List.idxOf_cons_self, List.length_take]
          omega
        rw [e]
        exact Ev.now _
    · refine Ev.step (fun k => ?_) (ih (i + 1) (by omega) ?_ hm)
      · simp only [slices_Index_int_int.l0, rd_nat]
        rw [if_pos (by omega), if_pos (by omega), if_pos (by omega), if_neg he, wadd (by omega) (by omega), nat_succ_cast]
      · rw [List.take_succ_eq_append_getElem hil, List.mem_append, not_or]
        refine ⟨hn, fun h => he ?_⟩
        rw [List.mem_singleton.1 h, List.getD_eq_getElem?_getD, List.getElem?_eq_getElem hil]
        rfl
theorem ev_leastClasses (hg : goodB a nx ac = true) : ∃ C, Ev (fun k => least_Classes.f k a nx ac) C ∧ IsClasses nx.length a.toNat (stL nx) (acL ac) C := by
  have h := Aut.of hg
  have hn2 := h.n2
  obtain ⟨B, hE, hl, hB⟩ := ev_blocks h
  have key : ∀ (d i : Nat), i + d = B.length → Ev (fun k => least_Classes.l0 k B ((B.take i).map fun v => ((B.idxOf v : Nat) : Int)) B (B.length : Int) (i : Int)) (B.map fun v => ((B.idxOf v : Nat) : Int)) := by
    intro d
    induction d with
    | zero =>
      intro i hi
      rw [List.take_of_length_le (by omega)]
      refine Ev.step (f := fun _ => some _) (fun k => ?_) (Ev.now _)
      simp only [least_Classes.l0]
      rw [if_neg (by omega)]
    | succ d ih =>
      intro i hi
      have hil : i < B.length := by omega
      have hI := ev_Index B (B.getD i 0) (by omega) B.length 0 (by omega) (by simp) (getD_in B 0 hil)
      refine Ev.step (f := fun k => (slices_Index_int_int.f k B (B.getD i 0)).bind fun t => least_Classes.l0 k B ((B.take i).map (fun v => ((B.idxOf v : Nat) : Int)) ++ [t]) B (B.length : Int) ((i + 1 : Nat) : Int)) (fun k => ?_) ?_
      · simp only [least_Classes.l0, rd_nat, List.length_map, List.length_take]
        rw [if_pos (by omega), if_pos (by omega), if_pos (by omega), wadd (by omega) (by omega), nat_succ_cast]
        simp only [if_pos (show min i B.length < 17592186044416 by omega)]
      · refine Ev.bind (f := fun k t => least_Classes.l0 k B ((B.take i).map (fun v => ((B.idxOf v : Nat) : Int)) ++ [t]) B (B.length : Int) ((i + 1 : Nat) : Int)) (a := ((B.idxOf (B.getD i 0) : Nat) : Int)) hI ?_
        have e : (B.take i).map (fun v => ((B.idxOf v : Nat) : Int)) ++ [((B.idxOf (B.getD i 0) : Nat) : Int)] = (B.take (i + 1)).map fun v => ((B.idxOf v : Nat) : Int) := by
          rw [List.take_succ_eq_append_getElem hil, List.map_append, List.getD_eq_getElem?_getD, List.getElem?_eq_getElem hil]
          rfl
        rw [e]
        exact ih (i + 1) (by omega)
  refine ⟨B.map fun v => ((B.idxOf v : Nat) : Int), ?_, classes_of hl hB (by simp [hl]) (fun s hs => ?_)⟩
  · refine Ev.congr (f := fun k => (least_blocks.f k a nx ac).bind fun t => least_Classes.l0 k t [] t (t.length : Int) 0) (fun k => ?_) ?_
    · unfold least_Classes.f thompson_Good.f
      rw [hg]
      rfl
    exact Ev.bind (f := fun k t => least_Classes.l0 k t [] t (t.length : Int) 0) hE (key B.length 0 (by omega))
  · rw [List.getD_eq_getElem?_getD, List.getElem?_map, List.getElem?_eq_getElem (by omega), List.getD_eq_getElem?_getD, List.getElem?_eq_getElem (by omega)]
    rfl
theorem ev_leastClasses_bad (hg : goodB a nx ac = false) : Ev (fun k => least_Classes.f k a nx ac) [] := by
  refine Ev.congr (f := fun _ => some []) (fun k => ?_) (Ev.now _)
  unfold least_Classes.f thompson_Good.f
  simp [hg]
end

end Go.Proofs.Ytelkjbacdpmnfaa.A
