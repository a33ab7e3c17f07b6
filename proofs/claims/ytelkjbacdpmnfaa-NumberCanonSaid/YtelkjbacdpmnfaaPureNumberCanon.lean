/- The law NumberCanon: the walk's ways together, with the plain texts. No conditions. -/
import Derived.Test.YtelkjbacdpmnfaaA0
import Derived.Test.YtelkjbacdpmnfaaAPlainBase
import Derived.Test.YtelkjbacdpmnfaaALeastBlocks
import Derived.Test.YtelkjbacdpmnfaaALeastClasses
import Derived.Test.YtelkjbacdpmnfaaALeastSplit
import Derived.Test.YtelkjbacdpmnfaaAPlainAut
import Derived.Test.YtelkjbacdpmnfaaAPlainGood
import Derived.Test.YtelkjbacdpmnfaaASlicesIndexIntInt
import Derived.Test.YtelkjbacdpmnfaaAThompsonGood
import Derived.Test.YtelkjbacdpmnfaaALeastReach
import Derived.Test.YtelkjbacdpmnfaaAPlainLeastOf
import Derived.Test.YtelkjbacdpmnfaaANumberAlike
import Derived.Test.YtelkjbacdpmnfaaANumberCanon
import Derived.Test.YtelkjbacdpmnfaaANumberOf
import Derived.Test.YtelkjbacdpmnfaaANumberSame
import Derived.Test.YtelkjbacdpmnfaaAPlainCanon
import Derived.Test.YtelkjbacdpmnfaaAPlainModel
import Derived.Test.YtelkjbacdpmnfaaAPlainNumber
import Derived.Test.YtelkjbacdpmnfaaACaesurakeepLargeLists
import Derived.Test.YtelkjbacdpmnfaaACaesuralaw21Light
import Derived.Test.YtelkjbacdpmnfaaASubsetTakes
import Derived.Test.YtelkjbacdpmnfaaACaesuralaw22Wakes
import Derived.Test.YtelkjbacdpmnfaaANCanonMain
import Derived.Test.YtelkjbacdpmnfaaAPlainDbl
import Derived.Test.YtelkjbacdpmnfaaAPlainRowOf
namespace Go.Proofs.Ytelkjbacdpmnfaa.A
open Go.RowKit Go.Proofs.YtelkjbacdpmnfaaW.PrintWords Go.Proofs.YtelkjbacdpmnfaaW.PrintLast Go.Proofs.YtelkjbacdpmnfaaW.PrintMore
attribute [local go_sem] max2_int min2_int max_two min_two max_three min_three max_four min_four   -- for this text's walks alone
set_option linter.unusedVariables false
set_option linter.unusedSimpArgs false

/-! of each state the least one that shows the same, round by round -/
section
variable {n L : Nat} {st : Nat → Nat → Nat} {acc : Nat → Bool}
def Eqv (K : Nat → Nat → Prop) : Prop := (∀ s, K s s) ∧ (∀ s u, K s u → K u s) ∧ ∀ s u v, K s u → K u v → K s v
/-- Of each state below k the least one that K ties it to. -/
def NormTo (K : Nat → Nat → Prop) (k : Nat) (f : Nat → Int) : Prop := ∀ s, s < k → ∃ u : Nat, f s = (u : Int) ∧ u ≤ s ∧ K u s ∧ ∀ v, v < u → ¬ K v s
def Nrm (n : Nat) (f : Nat → Int) : Prop := ∀ s, s < n → ∃ u : Nat, f s = (u : Int) ∧ u ≤ s ∧ f u = (u : Int)
def Shows (L : Nat) (st : Nat → Nat → Nat) (f : Nat → Int) (s u : Nat) : Prop := f s = f u ∧ ∀ c, c < L → f (st s c) = f (st u c)
theorem shows_eqv (f : Nat → Int) : Eqv (Shows L st f) := ⟨fun _ => ⟨rfl, fun _ _ => rfl⟩, fun _ _ h => ⟨h.1.symm, fun c hc => (h.2 c hc).symm⟩, fun _ _ _ h k => ⟨h.1.trans k.1, fun c hc => (h.2 c hc).trans (k.2 c hc)⟩⟩
theorem ends_eqv (acc : Nat → Bool) : Eqv (fun s u => acc s = acc u) := ⟨fun _ => rfl, fun _ _ h => h.symm, fun _ _ _ h k => h.trans k⟩
theorem NormTo.iff {K : Nat → Nat → Prop} (hK : Eqv K) {k : Nat} {f : Nat → Int} (h : NormTo K k f) {s u : Nat} (hs : s < k) (hu : u < k) : f s = f u ↔ K s u := by
  obtain ⟨a, e1, l1, k1, m1⟩ := h s hs
  obtain ⟨b, e2, l2, k2, m2⟩ := h u hu
  rw [e1, e2]
  constructor
  · intro e
    obtain rfl : a = b := by omega
    exact hK.2.2 _ _ _ (hK.2.1 _ _ k1) k2
  · intro e
    rcases Nat.lt_trichotomy a b with h1 | h1 | h1
    · exact absurd (hK.2.2 _ _ _ k1 e) (m2 a h1)
    · rw [h1]
    · exact absurd (hK.2.2 _ _ _ k2 (hK.2.1 _ _ e)) (m1 b h1)
theorem NormTo.nrm {K : Nat → Nat → Prop} (hK : Eqv K) {k : Nat} {f : Nat → Int} (h : NormTo K k f) : Nrm k f := by
  intro s hs
  obtain ⟨a, e1, l1, k1, m1⟩ := h s hs
  exact ⟨a, e1, l1, ((h.iff hK (by omega) hs).2 k1).trans e1⟩
/-- A state's row is gone through: it stands for itself. -/
theorem NormTo.own {K : Nat → Nat → Prop} (hK : Eqv K) {k : Nat} {f g : Nat → Int} (h : NormTo K k f) (hg : ∀ s, s < k → g s = f s) (hk : g k = (k : Int)) (hn : ∀ v, v < k → ¬ K v k) : NormTo K (k + 1) g := by
  intro s hs
  rcases Nat.lt_or_ge s k with h1 | h1
  · obtain ⟨a, e1, r⟩ := h s h1
    exact ⟨a, (hg s h1).trans e1, r⟩
  · obtain rfl : s = k := by omega
    exact ⟨s, hk, Nat.le_refl _, hK.1 s, hn⟩
theorem NormTo.tied {K : Nat → Nat → Prop} {k u : Nat} {f g : Nat → Int} (h : NormTo K k f) (hg : ∀ s, s < k → g s = f s) (hu : u < k) (hk : g k = (u : Int)) (hK : K u k) (hn : ∀ v, v < u → ¬ K v k) : NormTo K (k + 1) g := by
  intro s hs
  rcases Nat.lt_or_ge s k with h1 | h1
  · obtain ⟨a, e1, r⟩ := h s h1
    exact ⟨a, (hg s h1).trans e1, r⟩
  · obtain rfl : s = k := by omega
    exact ⟨u, hk, by omega, hK, hn⟩
/-- One that stands for another is none that ties first. -/
theorem NormTo.skip {K : Nat → Nat → Prop} (hK : Eqv K) {k u : Nat} {f : Nat → Int} (h : NormTo K k f) (hu : u < k) (hne : f u ≠ (u : Int)) (hn : ∀ v, v < u → ¬ K v k) : ¬ K u k := by
  intro hc
  obtain ⟨a, e1, l1, k1, _⟩ := h u hu
  rcases Nat.lt_or_ge a u with h1 | h1
  · exact hn a h1 (hK.2.2 _ _ _ k1 hc)
  · obtain rfl : a = u := by omega
    exact hne e1
/-- What holds of the states of a round. -/
structure Kept (n L : Nat) (st : Nat → Nat → Nat) (acc : Nat → Bool) (f : Nat → Int) : Prop where
  nrm : Nrm n f
  parts : Parts n acc f
  coarse : Coarse n L st acc f
theorem Kept.start {f : Nat → Int} (h : NormTo (fun s u => acc s = acc u) n f) : Kept n L st acc f :=
  ⟨h.nrm (ends_eqv acc), fun _ _ hs hu e => (h.iff (ends_eqv acc) hs hu).1 e, fun _ _ hs hu a => (h.iff (ends_eqv acc) hs hu).2 a.ends⟩
theorem finer_shows {f g : Nat → Int} (h : NormTo (Shows L st f) n g) : Finer n f g := fun _ _ hs hu e => ((h.iff (shows_eqv f) hs hu).1 e).1
theorem Kept.next {f g : Nat → Int} (hC : Shuts n L st) (k : Kept n L st acc f) (h : NormTo (Shows L st f) n g) : Kept n L st acc g :=
  ⟨h.nrm (shows_eqv f), k.parts.finer (finer_shows h), fun s u hs hu a => (h.iff (shows_eqv f) hs hu).2 ⟨k.coarse s u hs hu a, fun c hc => k.coarse _ _ (hC s c hs hc) (hC u c hu hc) (a.step hc)⟩⟩
theorem Nrm.same {f g : Nat → Int} (hf : Nrm n f) (hg : Nrm n g) (h : Finer n f g) (k : Finer n g f) {s : Nat} (hs : s < n) : f s = g s := by
  obtain ⟨u, e1, l1, i1⟩ := hf s hs
  obtain ⟨v, e2, l2, i2⟩ := hg s hs
  have a1 := k u s (by omega) hs (i1.trans e1.symm)
  have a2 := h v s (by omega) hs (i2.trans e2.symm)
  obtain ⟨x, b1, b2, _⟩ := hg u (by omega)
  obtain ⟨y, c1, c2, _⟩ := hf v (by omega)
  rw [e1, e2]
  omega
/-- Where a round changes something, there are more. -/
theorem Kept.more {f g : Nat → Int} (k : Kept n L st acc f) (h : NormTo (Shows L st f) n g) {s : Nat} (hs : s < n) (hne : g s ≠ f s) : cnt n f < cnt n g := by
  refine Nat.lt_of_le_of_ne (cnt_le (finer_shows h)) fun e => hne ?_
  exact ((h.nrm (shows_eqv f)).same k.nrm (finer_back (finer_shows h) e) (finer_shows h) hs)
/-- Where it changes nothing, they are alike. -/
theorem Kept.ends {B : List Int} (hB : B.length = n) {g : Nat → Int} (hC : Shuts n L st) (k : Kept n L st acc (fun s => B.getD s 0)) (h : NormTo (Shows L st (fun s => B.getD s 0)) n g) (he : ∀ s, s < n → g s = B.getD s 0) : IsClasses n L st acc B := by
  refine ⟨hB, fun s hs => ?_⟩
  obtain ⟨u, e1, l1, i1⟩ := k.nrm s hs
  have hst : Stable n L st (fun s => B.getD s 0) := fun s u hs hu e c hc => ((h.iff (shows_eqv _) hs hu).1 (((he s hs).trans e).trans (he u hu).symm)).2 c hc
  refine ⟨u, e1, l1, alike_of hC hst k.parts (by omega) hs (i1.trans e1.symm), fun v hv a => ?_⟩
  have h1 := k.coarse v s (by omega) hs a
  obtain ⟨x, e2, l2, _⟩ := k.nrm v (by omega)
  simp only at h1 e1 e2
  omega
/-- Blocks that are told apart by what is alike, as the least of each. -/
theorem classes_of {B C : List Int} (hB : B.length = n) (hb : ∀ s u, s < n → u < n → (B.getD s 0 = B.getD u 0 ↔ Alike L st acc s u)) (hC : C.length = n) (h : ∀ s, s < n → C.getD s 0 = ((B.idxOf (B.getD s 0) : Nat) : Int)) : IsClasses n L st acc C := by
  refine ⟨hC, fun s hs => ⟨_, h s hs, ?_, ?_, fun v hv a => ?_⟩⟩
  · rw [List.getD_eq_getElem?_getD, List.getElem?_eq_getElem (by omega)]
    simp only [Option.getD_some]
    refine Nat.le_of_not_lt fun hlt => ?_
    have h2 := List.not_of_lt_findIdx (p := (· == B[s])) (xs := B) (i := s) hlt
    simp at h2
  · have hm : B.getD s 0 ∈ B := by
      rw [List.getD_eq_getElem?_getD, List.getElem?_eq_getElem (by omega)]
      exact List.getElem_mem (by omega)
    have hi := List.idxOf_lt_length_iff.2 hm
    refine (hb _ s (by omega) hs).1 ?_
    rw [List.getD_eq_getElem?_getD (l := B), List.getElem?_eq_getElem hi]
    exact List.getElem_idxOf hi
  · have hm : B.getD s 0 ∈ B := by
      rw [List.getD_eq_getElem?_getD, List.getElem?_eq_getElem (by omega)]
      exact List.getElem_mem (by omega)
    have hi := List.idxOf_lt_length_iff.2 hm
    have e := (hb v s (by omega) hs).2 a
    have h2 := List.not_of_lt_findIdx (p := (· == B.getD s 0)) (xs := B) (i := v) hv
    rw [List.getD_eq_getElem?_getD (i := v), List.getElem?_eq_getElem (by omega)] at e
    simp only [Option.getD_some] at e
    rw [e] at h2
    simp at h2
end

end Go.Proofs.Ytelkjbacdpmnfaa.A

namespace Go.Proofs.Ytelkjbacdpmnfaa.A
open Go.RowKit Go.Proofs.YtelkjbacdpmnfaaW.PrintWords Go.Proofs.YtelkjbacdpmnfaaW.PrintLast Go.Proofs.YtelkjbacdpmnfaaW.PrintMore
attribute [local go_sem] max2_int min2_int max_two min_two max_three min_three max_four min_four   -- for this text's walks alone
set_option linter.unusedVariables false
set_option linter.unusedSimpArgs false

/-! the classes of alike states: the program's and the reference's -/
def endsTo (ac : List Bool) (i : Nat) : List Int := (List.range ac.length).map fun s => if s < i ∧ ac.getD s false = true then 1 else 0
theorem endsTo_zero (ac : List Bool) : endsTo ac 0 = List.replicate ac.length 0 := by
  apply List.ext_getElem (by simp [endsTo])
  intro i h1 h2
  simp [endsTo]
theorem endsTo_getD (ac : List Bool) {i s : Nat} (hs : s < ac.length) : (endsTo ac i).getD s 0 = if s < i ∧ ac.getD s false = true then 1 else 0 := by
  unfold endsTo
  rw [List.getD_eq_getElem?_getD, List.getElem?_map, List.getElem?_range hs]
  rfl
theorem endsTo_set (ac : List Bool) {i : Nat} (hi : i < ac.length) (h : ac.getD i false = true) : (endsTo ac i).set i 1 = endsTo ac (i + 1) := by
  apply List.ext_getElem (by simp [endsTo])
  intro j h1 h2
  simp only [endsTo, List.getElem_set, List.getElem_map, List.getElem_range]
  by_cases hj : i = j
  · subst hj
    simp
    simpa using h
  · rw [if_neg hj]
    by_cases h3 : j < i
    · simp [h3, show j < i + 1 by omega]
    · simp [h3, show ¬ j < i + 1 by omega]
theorem endsTo_skip (ac : List Bool) {i : Nat} (h : ac.getD i false = false) : endsTo ac (i + 1) = endsTo ac i := by
  apply List.ext_getElem (by simp [endsTo])
  intro j h1 h2
  simp only [endsTo, List.getElem_map, List.getElem_range]
  by_cases hj : j = i
  · subst hj
    rw [if_neg (by simp only [h]; simp), if_neg (by simp)]
  · by_cases h3 : j < i
    · simp [h3, show j < i + 1 by omega]
    · simp [h3, show ¬ j < i + 1 by omega]
theorem cnt_pos {n : Nat} {f : Nat → Int} (h : 0 < n) : 0 < cnt n f := List.countP_pos_iff.2 ⟨0, List.mem_range.2 h, isFirst_iff.2 fun u hu => absurd hu (Nat.not_lt_zero _)⟩
theorem split_ok {a : Int} {nx : List (List Int)} {ac : List Bool} (h : Aut a nx ac) {B : List Int} (hB : B.length = nx.length) (hr : ∀ x ∈ B, 0 ≤ x ∧ x < 1000) {c : Nat} (hc : c < a.toNat) : splitOk nx B (c : Int) = true := by
  unfold splitOk
  simp only [Bool.and_eq_true, decide_eq_true_eq, List.all_eq_true]
  have hn2 := h.n2
  refine ⟨⟨⟨⟨by omega, hB.symm⟩, by omega⟩, fun r hr => ?_⟩, fun x hx => ?_⟩
  · obtain ⟨s, hs, rfl⟩ := List.mem_iff_getElem.1 hr
    have e : nx[s] = nx.getD s [] := by rw [List.getD_eq_getElem?_getD, List.getElem?_eq_getElem hs]; rfl
    rw [e, Int.toNat_natCast, hB]
    have h1 := h.len hs
    have h2 := h.to_ s c hs (by omega)
    exact ⟨⟨by omega, h2.1⟩, h2.2⟩
  · have := hr x hx
    simp only [Lit.wf, Bool.and_eq_true, decide_eq_true_eq]
    exact ⟨by show (-9223372036854775808 : Int) ≤ _; omega, by show _ ≤ (9223372036854775807 : Int); omega⟩
section
variable {a : Int} {nx : List (List Int)} {ac : List Bool}
/-- Blocks that are told apart by what is alike. -/
def IsBlocks (a : Int) (nx : List (List Int)) (ac : List Bool) (B : List Int) : Prop := B.length = nx.length ∧ ∀ s u, s < nx.length → u < nx.length → (B.getD s 0 = B.getD u 0 ↔ Alike a.toNat (stL nx) (acL ac) s u)
theorem ev_blocks_l2 (h : Aut a nx ac) {B0 : List Int} {many : Nat} (hp : Parts nx.length (acL ac) (fL B0)) (hm : many = 0 ∨ many = cnt nx.length (fL B0))
    (hnext : ∀ (B : List Int) (m : Nat), many < m → m = cnt nx.length (fL B) → Parts nx.length (acL ac) (fL B) → B.length = nx.length → (∀ x ∈ B, 0 ≤ x ∧ x < 1000) → Coarse nx.length a.toNat (stL nx) (acL ac) (fL B) → ∃ R, Ev (fun k => least_blocks.l1 k B (m : Int) a nx ac) R ∧ IsBlocks a nx ac R) :
    ∀ (d c : Nat) (B : List Int) (m : Nat), c + d = a.toNat → Round nx.length a.toNat nx (acL ac) B0 B c → (0 < c → m = cnt nx.length (fL B)) → ∃ R, Ev (fun k => least_blocks.l2 k B (m : Int) (many : Int) a (c : Int) a nx ac) R ∧ IsBlocks a nx ac R := by
  have ha1 := h.a1
  have ha2 := h.a2
  have hn2 := h.n2
  have hn1 := h.n1
  intro d
  induction d with
  | zero =>
    intro c B m hc hR hmc
    obtain rfl : c = a.toNat := by omega
    have hmc := hmc (by omega)
    have hcp := cnt_pos (n := nx.length) (f := fL B) (by omega)
    by_cases he : m = many
    · refine ⟨B, Ev.step (f := fun _ => some B) (fun k => ?_) (Ev.now _), hR.len, fun s u hs hu => ?_⟩
      · simp only [least_blocks.l2]
        rw [if_neg (by omega), if_pos (by omega)]
      · exact blocks_iff hR (by omega) hp h.shuts hs hu
    · have hlt := cnt_le hR.fine
      obtain ⟨R, hE, hI⟩ := hnext B m (by omega) hmc (hp.finer hR.fine) hR.len hR.low hR.coarse
      refine ⟨R, Ev.step (fun k => ?_) hE, hI⟩
      simp only [least_blocks.l2]
      rw [if_neg (by omega), if_neg (by omega)]
  | succ d ih =>
    intro c B m hc hR hmc
    have hcl : c < a.toNat := by omega
    have hR2 := hR.next hn2 hcl h.shuts
    have hl := hR.len
    obtain ⟨R, hE, hI⟩ := ih (c + 1) (splitTo nx B c B.length) ((facesMet nx B c B.length).length) (by omega) hR2 (fun _ => by rw [← hl, ← split_cnt])
    refine ⟨R, Ev.step (fun k => ?_) hE, hI⟩
    simp only [least_blocks.l2]
    have hf : least_split.f a nx ac B (c : Int) = some (splitTo nx B c B.length, (((facesMet nx B c B.length).length : Nat) : Int)) := by
      unfold least_split.f
      rw [if_pos (split_ok h hR.len hR.low hcl), Int.toNat_natCast]
    rw [if_pos (by omega), hf, wadd (by omega) (by omega), nat_succ_cast]
    rfl
theorem ev_blocks_l1 (h : Aut a nx ac) : ∀ (d : Nat) (B : List Int) (many : Nat), nx.length - many = d → (many = 0 ∨ many = cnt nx.length (fL B)) → Parts nx.length (acL ac) (fL B) → B.length = nx.length → (∀ x ∈ B, 0 ≤ x ∧ x < 1000) → Coarse nx.length a.toNat (stL nx) (acL ac) (fL B) → ∃ R, Ev (fun k => least_blocks.l1 k B (many : Int) a nx ac) R ∧ IsBlocks a nx ac R := by
  intro d
  induction d using Nat.strongRecOn with
  | _ d ih =>
    intro B many hd hm hp hl hr hco
    have hle := cnt_le_n nx.length (fL B)
    obtain ⟨R, hE, hI⟩ := ev_blocks_l2 h hp hm (fun B' m' h1 h2 h3 h4 h5 h6 => ih (nx.length - m') (by have := cnt_le_n nx.length (fL B'); omega) B' m' rfl (.inr h2) h3 h4 h5 h6) a.toNat 0 B many (by omega) (Round.zero hl hco hr) (fun h0 => absurd h0 (Nat.lt_irrefl _))
    exact ⟨R, Ev.step (fun k => rfl) hE, hI⟩
theorem ev_blocks (h : Aut a nx ac) : ∃ B, Ev (fun k => least_blocks.f k a nx ac) B ∧ IsBlocks a nx ac B := by
  have hn2 := h.n2
  have hen := h.ends
  have h0 : ∃ R, Ev (fun k => least_blocks.l1 k (endsTo ac ac.length) ((0 : Nat) : Int) a nx ac) R ∧ IsBlocks a nx ac R := by
    have hg : ∀ s, s < nx.length → fL (endsTo ac ac.length) s = if acL ac s = true then 1 else 0 := fun s hs => by
      unfold fL acL
      rw [endsTo_getD ac (by omega)]
      simp [show s < ac.length by omega]
    refine ev_blocks_l1 h nx.length (endsTo ac ac.length) 0 (by omega) (.inl rfl) (fun s u hs hu e => ?_) (by simp [endsTo, hen]) (fun x hx => ?_) (fun s u hs hu al => ?_)
    · rw [hg s hs, hg u hu] at e
      cases h1 : acL ac s <;> cases h2 : acL ac u <;> simp_all
    · unfold endsTo at hx
      obtain ⟨s, _, rfl⟩ := List.mem_map.1 hx
      split <;> omega
    · rw [hg s hs, hg u hu, al.ends]
  obtain ⟨R, hE, hI⟩ := h0
  have key : ∀ (d i : Nat), i + d = ac.length → Ev (fun k => least_blocks.l0 k (endsTo ac i) ac (ac.length : Int) (i : Int) a nx ac) R := by
    intro d
    induction d with
    | zero =>
      intro i hi
      obtain rfl : i = ac.length := by omega
      refine Ev.step (fun k => ?_) hE
      simp only [least_blocks.l0]
      rw [if_neg (by omega)]
      rfl
    | succ d ih =>
      intro i hi
      have hil : i < ac.length := by omega
      have hz : (endsTo ac i).length = ac.length := by simp [endsTo]
      cases hb : ac.getD i false with
      | true =>
        refine Ev.step (fun k => ?_) (ih (i + 1) (by omega))
        simp only [least_blocks.l0, rdb_nat, hb, hz, Int.toNat_natCast]
        rw [if_pos (by omega), if_pos (by omega), if_pos (by omega), if_pos trivial, if_pos (by omega), endsTo_set ac hil hb, wadd (by omega) (by omega), nat_succ_cast]
      | false =>
        refine Ev.step (fun k => ?_) (ih (i + 1) (by omega))
        simp only [least_blocks.l0, rdb_nat, hb]
        rw [if_pos (by omega), if_pos (by omega), if_pos (by omega), if_neg (by decide), endsTo_skip ac hb, wadd (by omega) (by omega), nat_succ_cast]
  refine ⟨R, Ev.congr (fun k => ?_) (key ac.length 0 (by omega)), hI⟩
  unfold least_blocks.f
  rw [if_pos (by omega), if_pos (by omega), endsTo_zero, hen, Int.toNat_natCast]
  rfl
theorem ev_Index (l : List Int) (v : Int) (hl : l.length ≤ 1000000) : ∀ (d i : Nat), i + d = l.length → v ∉ l.take i → v ∈ l → Ev (fun k => slices_Index_int_int.l0 k l v (l.length : Int) (i : Int)) ((l.idxOf v : Nat) : Int) := by
  intro d
  induction d with
  | zero =>
    intro i hi hn hm
    rw [List.take_of_length_le (by omega)] at hn
    exact absurd hm hn
  | succ d ih =>
    intro i hi hn hm
    have hil : i < l.length := by omega
    by_cases he : v = l.getD i 0
    · refine Ev.step (f := fun _ => some (i : Int)) (fun k => ?_) ?_
      · simp only [slices_Index_int_int.l0, rd_nat]
        rw [if_pos (by omega), if_pos (by omega), if_pos (by omega), if_pos he]
      · have e : l.idxOf v = i := by
          have h1 : l = l.take i ++ v :: l.drop (i + 1) := by
            rw [he, ← drop_cons_getD l 0 i hil, List.take_append_drop]
          rw [h1, List.idxOf_append, if_neg hn, List.idxOf_cons_self, List.length_take]
          omega
        rw [e]
        exact Ev.now _
    · refine Ev.step (fun k => ?_) (ih (i + 1) (by omega) ?_ hm)
      · simp only [slices_Index_int_int.l0, rd_nat]
        rw [if_pos (by omega), if_pos (by omega), if_pos (by omega), if_neg he, wadd (by omega) (by omega), nat_succ_cast]
      · rw [List.take_succ_eq_append_getElem hil, List.mem_append, not_or]
        refine ⟨hn, fun h => he ?_⟩
        rw [List.mem_singleton.1 h, List.getD_eq_getElem?_getD, List.getElem?_eq_getElem hil]
        rfl
theorem ev_leastClasses (hg : goodB a nx ac = true) : ∃ C, Ev (fun k => least_Classes.f k a nx ac) C ∧ IsClasses nx.length a.toNat (stL nx) (acL ac) C := by
  have h := Aut.of hg
  have hn2 := h.n2
  obtain ⟨B, hE, hl, hB⟩ := ev_blocks h
  have key : ∀ (d i : Nat), i + d = B.length → Ev (fun k => least_Classes.l0 k B ((B.take i).map fun v => ((B.idxOf v : Nat) : Int)) B (B.length : Int) (i : Int)) (B.map fun v => ((B.idxOf v : Nat) : Int)) := by
    intro d
    induction d with
    | zero =>
      intro i hi
      rw [List.take_of_length_le (by omega)]
      refine Ev.step (f := fun _ => some _) (fun k => ?_) (Ev.now _)
      simp only [least_Classes.l0]
      rw [if_neg (by omega)]
    | succ d ih =>
      intro i hi
      have hil : i < B.length := by omega
      have hI := ev_Index B (B.getD i 0) (by omega) B.length 0 (by omega) (by simp) (getD_in B 0 hil)
      refine Ev.step (f := fun k => (slices_Index_int_int.f k B (B.getD i 0)).bind fun t => least_Classes.l0 k B ((B.take i).map (fun v => ((B.idxOf v : Nat) : Int)) ++ [t]) B (B.length : Int) ((i + 1 : Nat) : Int)) (fun k => ?_) ?_
      · simp only [least_Classes.l0, rd_nat, List.length_map, List.length_take]
        rw [if_pos (by omega), if_pos (by omega), if_pos (by omega), wadd (by omega) (by omega), nat_succ_cast]
        simp only [if_pos (show min i B.length < 17592186044416 by omega)]
      · refine Ev.bind (f := fun k t => least_Classes.l0 k B ((B.take i).map (fun v => ((B.idxOf v : Nat) : Int)) ++ [t]) B (B.length : Int) ((i + 1 : Nat) : Int)) (a := ((B.idxOf (B.getD i 0) : Nat) : Int)) hI ?_
        have e : (B.take i).map (fun v => ((B.idxOf v : Nat) : Int)) ++ [((B.idxOf (B.getD i 0) : Nat) : Int)] = (B.take (i + 1)).map fun v => ((B.idxOf v : Nat) : Int) := by
          rw [List.take_succ_eq_append_getElem hil, List.map_append, List.getD_eq_getElem?_getD, List.getElem?_eq_getElem hil]
          rfl
        rw [e]
        exact ih (i + 1) (by omega)
  refine ⟨B.map fun v => ((B.idxOf v : Nat) : Int), ?_, classes_of hl hB (by simp [hl]) (fun s hs => ?_)⟩
  · refine Ev.congr (f := fun k => (least_blocks.f k a nx ac).bind fun t => least_Classes.l0 k t [] t (t.length : Int) 0) (fun k => ?_) ?_
    · unfold least_Classes.f thompson_Good.f
      rw [hg]
      rfl
    exact Ev.bind (f := fun k t => least_Classes.l0 k t [] t (t.length : Int) 0) hE (key B.length 0 (by omega))
  · rw [List.getD_eq_getElem?_getD, List.getElem?_map, List.getElem?_eq_getElem (by omega), List.getD_eq_getElem?_getD, List.getElem?_eq_getElem (by omega)]
    rfl
theorem ev_leastClasses_bad (hg : goodB a nx ac = false) : Ev (fun k => least_Classes.f k a nx ac) [] := by
  refine Ev.congr (f := fun _ => some []) (fun k => ?_) (Ev.now _)
  unfold least_Classes.f thompson_Good.f
  simp [hg]
end

end Go.Proofs.Ytelkjbacdpmnfaa.A

namespace Go.Proofs.Ytelkjbacdpmnfaa.A
open Go.RowKit Go.Proofs.YtelkjbacdpmnfaaW.PrintWords Go.Proofs.YtelkjbacdpmnfaaW.PrintLast Go.Proofs.YtelkjbacdpmnfaaW.PrintMore
attribute [local go_sem] max2_int min2_int max_two min_two max_three min_three max_four min_four   -- for this text's walks alone
set_option linter.unusedVariables false
set_option linter.unusedSimpArgs false

/-! the least automaton: the program's alone -/
theorem ev_leastP {a : Int} {nx : List (List Int)} {ac : List Bool} (hg : goodB a nx ac = true) : ∃ R C, Ev (fun k => least_Reach.f k a nx ac) R ∧ Ev (fun k => least_Classes.f k a nx ac) C ∧ IsReach nx.length a.toNat (stL nx) R ∧ IsClasses nx.length a.toNat (stL nx) (acL ac) C ∧ OfOk nx ac R C := by
  obtain ⟨R, h1, h2⟩ := ev_leastReach hg
  obtain ⟨C, h3, h4⟩ := ev_leastClasses hg
  exact ⟨R, C, h1, h3, h2, h4, ofOk_of (Aut.of hg) h2 h4⟩
theorem leastOf_small {a : Int} {nx : List (List Int)} {ac R : List Bool} {C : List Int} (h : OfOk nx ac R C) : (leastOf a nx ac R C).2.1.length ≤ 1000 ∧ (∀ x ∈ (leastOf a nx ac R C).2.1, x.length ≤ 1000) ∧ (leastOf a nx ac R C).2.2.1.length ≤ 1000 := by
  have h1 := keptTo_length R C nx.length
  have h2 := h.n
  unfold leastOf
  refine ⟨by simp only [ofNext_length]; omega, fun x hx => ?_, by simp only [ofEnds_length]; omega⟩
  unfold ofNext at hx
  obtain ⟨t, ht, rfl⟩ := List.mem_map.1 hx
  obtain ⟨h3, h4⟩ := keptTo_mem ht
  obtain ⟨s, rfl⟩ : ∃ s : Nat, t = (s : Int) := ⟨t.toNat, by omega⟩
  rw [ofRow_length]
  exact h.width (by omega)

end Go.Proofs.Ytelkjbacdpmnfaa.A

namespace Go.Proofs.Ytelkjbacdpmnfaa.A
open Go.RowKit Go.Proofs.YtelkjbacdpmnfaaW.PrintWords Go.Proofs.YtelkjbacdpmnfaaW.PrintLast Go.Proofs.YtelkjbacdpmnfaaW.PrintMore
attribute [local go_sem] max2_int min2_int max_two min_two max_three min_three max_four min_four   -- for this text's walks alone
set_option linter.unusedVariables false
set_option linter.unusedSimpArgs false

/-! number.Canon, number.Same, number.Alike -/
section
variable {a : Int} {nx : List (List Int)} {ac : List Bool}
theorem ev_canon (hg : goodB a nx ac = true) : ∃ X Y, CanonIs a nx ac X Y ∧ Ev (fun k => number_Canon.f k a nx ac) (a, X, Y, true) := by
  obtain ⟨R, C, r1, c1, hR, hC, ho⟩ := ev_leastP hg
  have M : Model a nx ac R C := ⟨Aut.of hg, hR, hC⟩
  obtain ⟨l, h1, h2⟩ := ev_numdOf M.good
  refine ⟨_, _, ⟨R, C, l, M, h2, rfl, rfl⟩, ?_⟩
  unfold number_Canon.f
  refine Ev.bind (ev_leastOf hg r1 c1 ho) ?_
  rw [leastOf_eq]
  simp only [if_true]
  refine Ev.bind h1 (Ev.now _)
theorem ev_canon_bad (hg : goodB a nx ac = false) : Ev (fun k => number_Canon.f k a nx ac) (0, [], [], false) := by
  unfold number_Canon.f
  exact Ev.bind (ev_leastOf_bad hg) (Ev.congr (f := fun _ => some (0, [], [], false)) (fun k => by simp) (Ev.now _))
theorem ev_numdOf_bad (hg : goodB a nx ac = false) : Ev (fun k => number_Of.f k a nx ac) (0, [], [], false) := by
  refine Ev.congr (f := fun _ => some (0, [], [], false)) (fun k => ?_) (Ev.now _)
  unfold number_Of.f thompson_Good.f
  simp [hg]
/-- Alike in all? -/
def sameB (a : Int) (X : List (List Int)) (Y : List Bool) (b : Int) (X' : List (List Int)) (Y' : List Bool) : Bool := decide (a = b) && (decide (Y = Y') && decide (X = X'))
theorem good_sameSmall {a : Int} {X : List (List Int)} {Y : List Bool} (hg : goodB a X Y = true) : sameSmall X Y := by
  have h := Aut.of hg
  have h2 := h.n2
  have h3 := h.ends
  have ha := h.a2
  refine ⟨⟨by omega, fun r hr => ?_⟩, by omega⟩
  obtain ⟨i, hi, rfl⟩ := List.mem_iff_getElem.1 hr
  have h4 := h.rows i hi
  rw [List.getD_eq_getElem?_getD, List.getElem?_eq_getElem hi, Option.getD_some] at h4
  omega
theorem ev_same {a b : Int} {X X' : List (List Int)} {Y Y' : List Bool} (h : sameSmall X Y) (h' : sameSmall X' Y') : Ev (fun _ => number_Same.f a X Y b X' Y') (sameB a X Y b X' Y') := by
  refine Ev.congr (f := fun _ => some (sameB a X Y b X' Y')) (fun k => ?_) (Ev.now _)
  unfold number_Same.f
  rw [if_pos ⟨h, h'⟩]
  rfl
/-- Whether two automata take the same rows, as it is told. -/
def alikeB (a : Int) (X : List (List Int)) (Y : List Bool) (b : Int) (X' : List (List Int)) (Y' : List Bool) (u v : Bool) : Bool := if u = true then (if v = true then sameB a X Y b X' Y' else false) else false
theorem ev_alike {b : Int} {nx' : List (List Int)} {ac' : List Bool} {X X' : List (List Int)} {Y Y' : List Bool} {c d : Int} {u v : Bool} (h : Ev (fun k => number_Canon.f k a nx ac) (c, X, Y, u)) (h' : Ev (fun k => number_Canon.f k b nx' ac') (d, X', Y', v)) (hs : u = true → v = true → sameSmall X Y ∧ sameSmall X' Y') : Ev (fun k => number_Alike.f k a nx ac b nx' ac') (alikeB c X Y d X' Y' u v) := by
  unfold number_Alike.f
  refine Ev.bind h (Ev.bind h' ?_)
  unfold alikeB
  cases u with
  | false => exact Ev.congr (f := fun _ => some false) (fun k => by simp) (Ev.now _)
  | true =>
    cases v with
    | false => exact Ev.congr (f := fun _ => some false) (fun k => by simp) (Ev.now _)
    | true =>
      simp only [if_true]
      exact Ev.bind (ev_same (hs rfl rfl).1 (hs rfl rfl).2) (Ev.now _)
theorem ev_alike_good {nx' : List (List Int)} {ac' : List Bool} {X X' : List (List Int)} {Y Y' : List Bool} (hc : CanonIs a nx ac X Y) (hc' : CanonIs a nx' ac' X' Y') (h : Ev (fun k => number_Canon.f k a nx ac) (a, X, Y, true)) (h' : Ev (fun k => number_Canon.f k a nx' ac') (a, X', Y', true)) : ∃ t, Ev (fun k => number_Alike.f k a nx ac a nx' ac') t ∧ (t = true ↔ SameRows a nx ac nx' ac') := by
  refine ⟨_, ev_alike h h' (fun _ _ => ⟨good_sameSmall hc.good, good_sameSmall hc'.good⟩), ?_⟩
  rw [← canon_same hc hc']
  unfold alikeB sameB
  simp [and_comm]
end

end Go.Proofs.Ytelkjbacdpmnfaa.A

namespace Go.Proofs.Ytelkjbacdpmnfaa.A
open Go.RowKit Go.Proofs.YtelkjbacdpmnfaaW.PrintWords Go.Proofs.YtelkjbacdpmnfaaW.PrintLast Go.Proofs.YtelkjbacdpmnfaaW.PrintMore
attribute [local go_sem] max2_int min2_int max_two min_two max_three min_three max_four min_four   -- for this text's walks alone
set_option linter.unusedVariables false
set_option linter.unusedSimpArgs false

/-! LargeLists -/
/-- How much lists hold: one each, and their elements (at most so many each). -/
def lsum (most : Int) (l : List (List Int)) : Int := (l.map fun x => 1 + min (x.length : Int) most).sum
theorem lsum_nonneg (most : Int) (hm : 0 ≤ most) (l : List (List Int)) : (l.length : Int) ≤ lsum most l := by
  induction l with
  | nil => simp [lsum]
  | cons x l ih => simp only [lsum, List.map_cons, List.sum_cons, List.length_cons] at *; omega
theorem mn_min (x y : Int) : mn x y = min x y := by unfold mn; omega
theorem ev_LargeLists_l0 (most : Int) (hm : 0 ≤ most) (hM : most ≤ 1000000) (l : List (List Int)) :
    ∀ (d i : Nat) (s : Int), i + d = l.length → (i : Int) ≤ s → s ≤ 2 * most + 1 → Ev (fun k => caesurakeep_LargeLists.l0 k l most s (i : Int)) (decide (s + lsum most (l.drop i) > most)) := by
  intro d
  induction d with
  | zero =>
    intro i s hi hs hs2
    rw [List.drop_of_length_le (by omega)]
    refine Ev.step (f := fun _ => some (decide (s > most))) (fun k => ?_) (by simpa [lsum] using Ev.now _)
    simp only [caesurakeep_LargeLists.l0]
    rw [if_neg (by omega)]
  | succ d ih =>
    intro i s hi hs hs2
    have hil : i < l.length := by omega
    have hdr := drop_cons_getD l [] i hil
    have hnn := lsum_nonneg most hm (l.drop i)
    by_cases h1 : s ≤ most
    · refine Ev.step (f := fun k => caesurakeep_LargeLists.l0 k l most (s + (1 + min ((l.getD i []).length : Int) most)) ((i + 1 : Nat) : Int)) (fun k => ?_) ?_
      · simp only [caesurakeep_LargeLists.l0, rd5_nat, mn_min]
        rw [if_pos (by omega), if_pos h1, if_pos (by omega), wadd (x := 1) (by omega) (by omega), wadd (x := s) (by omega) (by omega), wadd (x := (i : Int)) (by omega) (by omega), nat_succ_cast]
      · have h := ih (i + 1) (s + (1 + min ((l.getD i []).length : Int) most)) (by omega) (by omega) (by omega)
        rw [hdr]
        have e : lsum most (l.getD i [] :: l.drop (i + 1)) = (1 + min ((l.getD i []).length : Int) most) + lsum most (l.drop (i + 1)) := by simp [lsum]
        have e2 : s + (1 + min ((l.getD i []).length : Int) most + lsum most (l.drop (i + 1))) = s + (1 + min ((l.getD i []).length : Int) most) + lsum most (l.drop (i + 1)) := by omega
        rw [e, e2]
        exact h
    · refine Ev.step (f := fun _ => some (decide (s > most))) (fun k => ?_) ?_
      · simp only [caesurakeep_LargeLists.l0]
        rw [if_pos (by omega), if_neg h1]
      · rw [decide_eq_true (show s > most by omega), decide_eq_true (show s + lsum most (l.drop i) > most by omega)]
        exact Ev.now _
theorem ev_LargeLists (most : Int) (hm : 0 ≤ most) (hM : most ≤ 1000000) (l : List (List Int)) : Ev (fun k => caesurakeep_LargeLists.f k l most) (decide (lsum most l > most)) := by
  have h := ev_LargeLists_l0 most hm hM l l.length 0 0 (by omega) (by omega) (by omega)
  simpa [caesurakeep_LargeLists.f] using h
/-- Is an automaton too large? -/
theorem lsum_mem {most : Int} (hm : 0 ≤ most) : ∀ {l : List (List Int)} {x : List Int}, x ∈ l → 1 + min (x.length : Int) most ≤ lsum most l
  | y :: l, x, h => by
    have := lsum_nonneg most hm l
    rcases List.mem_cons.1 h with rfl | h
    · simp only [lsum, List.map_cons, List.sum_cons] at *; omega
    · have := lsum_mem hm h
      simp only [lsum, List.map_cons, List.sum_cons] at *; omega

end Go.Proofs.Ytelkjbacdpmnfaa.A

namespace Go.Proofs.Ytelkjbacdpmnfaa.A
open Go.RowKit Go.Proofs.YtelkjbacdpmnfaaW.PrintWords Go.Proofs.YtelkjbacdpmnfaaW.PrintLast Go.Proofs.YtelkjbacdpmnfaaW.PrintMore
attribute [local go_sem] max2_int min2_int max_two min_two max_three min_three max_four min_four   -- for this text's walks alone
set_option linter.unusedVariables false
set_option linter.unusedSimpArgs false

/-! automata that are light -/
def lightB (nx : List (List Int)) (ac : List Bool) : Bool := !decide (lsum 1500 nx > 1500) && (decide ((ac.length : Int) ≤ 300) && decide ((nx.length : Int) ≤ 60))
theorem ev_Light (a : Int) (nx : List (List Int)) (ac : List Bool) : Ev (fun k => caesuralaw21_Light.f k a nx ac) (lightB nx ac) := by
  unfold caesuralaw21_Light.f lightB
  refine Ev.bind (ev_LargeLists 1500 (by omega) (by omega) nx) ?_
  cases decide (lsum 1500 nx > 1500)
  · by_cases h : (ac.length : Int) ≤ 300
    · simpa [h] using Ev.now _
    · simpa [h] using Ev.now _
  · simpa using Ev.now _
theorem light_small {nx : List (List Int)} {ac : List Bool} (h : lightB nx ac = true) : nx.length ≤ 60 ∧ (∀ x ∈ nx, x.length ≤ 1500) ∧ ac.length ≤ 300 := by
  unfold lightB at h
  simp only [Bool.and_eq_true, Bool.not_eq_true', decide_eq_false_iff_not, decide_eq_true_eq] at h
  have h1 := lsum_nonneg 1500 (by omega) nx
  refine ⟨by omega, fun x hx => ?_, by omega⟩
  have := lsum_mem (most := 1500) (by omega) hx
  omega

end Go.Proofs.Ytelkjbacdpmnfaa.A

namespace Go.Proofs.Ytelkjbacdpmnfaa.A
open Go.RowKit Go.Proofs.YtelkjbacdpmnfaaW.PrintWords Go.Proofs.YtelkjbacdpmnfaaW.PrintLast Go.Proofs.YtelkjbacdpmnfaaW.PrintMore
attribute [local go_sem] max2_int min2_int max_two min_two max_three min_three max_four min_four   -- for this text's walks alone
set_option linter.unusedVariables false
set_option linter.unusedSimpArgs false

/-! what an automaton takes -/
theorem ev_subsetTakes {a : Int} {nx : List (List Int)} {ac : List Bool} (hg : goodB a nx ac = true) {w : List Nat} (hw : ∀ c ∈ w, c < a.toNat) (hl : w.length ≤ 1000) : Ev (fun k => subset_Takes.f k a nx ac (castL w)) (acL ac (runS (stL nx) 0 w)) := by
  have h := Aut.of hg
  have hen := h.ends
  have hn1 := h.n1
  have key : ∀ (d i s : Nat), i + d = w.length → s < nx.length → Ev (fun k => subset_Takes.l0 k (s : Int) (castL w) (w.length : Int) (i : Int) a nx ac) (acL ac (runS (stL nx) s (w.drop i))) := by
    intro d
    induction d with
    | zero =>
      intro i s hi hs
      rw [List.drop_of_length_le (by omega)]
      refine Ev.step (f := fun _ => some (acL ac s)) (fun k => ?_) (Ev.now _)
      simp only [subset_Takes.l0, rdb_nat]
      rw [if_neg (by omega), if_pos (by omega), if_pos (by omega)]
      rfl
    | succ d ih =>
      intro i s hi hs
      have hil : i < w.length := by omega
      obtain ⟨c, hc⟩ : ∃ c, c = w.getD i 0 := ⟨_, rfl⟩
      have hcl : c < a.toNat := by rw [hc]; exact hw _ (getD_in w 0 hil)
      have e : w.drop i = c :: w.drop (i + 1) := by
        rw [List.drop_eq_getElem_cons hil, hc, List.getD_eq_getElem?_getD, List.getElem?_eq_getElem hil]
        rfl
      have hlen := h.len hs
      rw [e]
      refine Ev.step (fun k => ?_) (ih (i + 1) (stL nx s c) (by omega) (h.shuts s c hs hcl))
      simp only [subset_Takes.l0, rd_nat, castL_getD hil, ← hc, rd5_nat, castL_length, h.st hs hcl]
      rw [if_pos (by omega), if_pos (by omega), if_pos (by omega), if_neg (by omega), if_neg (by omega), if_pos (by omega), if_pos (by omega), if_pos (by omega), if_pos (by omega), wadd (by omega) (by omega), nat_succ_cast]
  have h0 := key w.length 0 0 (by omega) (by omega)
  rw [List.drop_zero] at h0
  refine Ev.congr (fun k => ?_) h0
  unfold subset_Takes.f thompson_Good.f
  rw [hg, castL_length]
  rfl

end Go.Proofs.Ytelkjbacdpmnfaa.A

namespace Go.Proofs.Ytelkjbacdpmnfaa.A
open Go.RowKit Go.Proofs.YtelkjbacdpmnfaaW.PrintWords Go.Proofs.YtelkjbacdpmnfaaW.PrintLast Go.Proofs.YtelkjbacdpmnfaaW.PrintMore
attribute [local go_sem] max2_int min2_int max_two min_two max_three min_three max_four min_four   -- for this text's walks alone
set_option linter.unusedVariables false
set_option linter.unusedSimpArgs false

/-! the statement NumberCanon: all ways -/
theorem caesuralaw22_NumberCanon.told (a0_0 : Int) (A0_1 : Option Addr) (c0_1 : Nat) (l0_1 : List (List Int)) (A0_2 : Option Addr) (c0_2 : Nat) (l0_2 : List Bool) (A1 : Option Addr) (c1 : Nat) (l1 : List Int) (A2 : Option Addr) (c2 : Nat) (l2 : List Int) (w : World) (hr0_1 : Kd.C (Kd.slice 3 (Kd.int .i64)) w A0_1 l0_1.length l0_1) (hc0_1 : l0_1.length ≤ c0_1) (hr0_2 : Kd.C Kd.bool w A0_2 l0_2.length l0_2) (hc0_2 : l0_2.length ≤ c0_2) (hr1 : Kd.C (Kd.int .u8) w A1 l1.length l1) (hc1 : l1.length ≤ c1) (hr2 : Kd.C (Kd.int .u8) w A2 l2.length l2) (hc2 : l2.length ≤ c2) (hwl1 : ∀ y ∈ l1, (Lit.int .u8 y).wf = true) (hwl2 : ∀ y ∈ l2, (Lit.int .u8 y).wf = true) :
    Calls Try.prog 18 #[.agg #[.int .i64 a0_0, .slice A0_1 l0_1.length c0_1, .slice A0_2 l0_2.length c0_2], .slice A1 l1.length c1, .slice A2 l2.length c2] w fun e w' => e = .returned (.bool true) ∧ Below w.heap.size w w' := by
  have hw : caesuralaw22_wakes.f 0 = some true := rfl
  obtain ⟨k0, h0⟩ := (ev_Light a0_0 l0_1 l0_2).rounds
  obtain ⟨k1, h1⟩ := (ev_refGood a0_0 l0_1 l0_2).rounds
  cases hb0 : lightB l0_1 l0_2 with
  | false =>
    rw [hb0] at h0
    exact ncanon_short0 k0 0 0 a0_0 A0_1 c0_1 l0_1 A0_2 c0_2 l0_2 A1 c1 l1 A2 c2 l2 w hr0_1 hc0_1 hr0_2 hc0_2 hr1 hc1 hr2 hc2 h0 hw
  | true =>
    rw [hb0] at h0
    cases hg : goodB a0_0 l0_1 l0_2 with
    | false =>
      rw [hg] at h1
      exact ncanon_short1 k0 k1 0 a0_0 A0_1 c0_1 l0_1 A0_2 c0_2 l0_2 A1 c1 l1 A2 c2 l2 w hr0_1 hc0_1 hr0_2 hc0_2 hr1 hc1 hr2 hc2 h0 h1 hw
    | true =>
      rw [hg] at h1
      by_cases h5 : (l0_1.length : Int) > 20
      · exact ncanon_short2 k0 k1 0 a0_0 A0_1 c0_1 l0_1 A0_2 c0_2 l0_2 A1 c1 l1 A2 c2 l2 w hr0_1 hc0_1 hr0_2 hc0_2 hr1 hc1 hr2 hc2 h0 h1 h5 hw
      by_cases h6 : (l1.length : Int) > 300
      · exact ncanon_short3 k0 k1 0 a0_0 A0_1 c0_1 l0_1 A0_2 c0_2 l0_2 A1 c1 l1 A2 c2 l2 w hr0_1 hc0_1 hr0_2 hc0_2 hr1 hc1 hr2 hc2 h0 h1 h5 h6 hw
      by_cases h7 : (l2.length : Int) > 40
      · exact ncanon_short4 k0 k1 0 a0_0 A0_1 c0_1 l0_1 A0_2 c0_2 l0_2 A1 c1 l1 A2 c2 l2 w hr0_1 hc0_1 hr0_2 hc0_2 hr1 hc1 hr2 hc2 h0 h1 h5 h6 h7 hw
      have hA := Aut.of hg
      have hn : l0_1.length ≤ 20 := by omega
      have hgb := dbl_good (T := l1) hA hn
      have hsb := dbl_same (T := l1) hA
      obtain ⟨X, Y, c1', c2'⟩ := ev_canon hg
      obtain ⟨X', Y', c3', c4'⟩ := ev_canon hgb
      obtain ⟨X'', Y'', c5', c6'⟩ := ev_canon c1'.good
      obtain ⟨rfl, rfl⟩ := (canon_same c1' c3').2 hsb
      obtain ⟨rfl, rfl⟩ := (canon_same c1' c5').2 (fun w hw => (c1'.takes w hw).symm)
      obtain ⟨t, t1, t2⟩ := ev_alike_good c1' c3' c2' c4'
      obtain rfl := t2.2 hsb
      have hsm := good_sameSmall c1'.good
      have hrw := rowW_lt (a := a0_0) hA.a1 hwl2
      have hrl := rowW_length a0_0 l2
      have e1 := ev_subsetTakes hg hrw (by omega)
      have e2 := ev_subsetTakes c1'.good hrw (by omega)
      have e3 := ev_subsetTakes hgb hrw (by omega)
      rw [c1'.takes _ hrw] at e2
      rw [← hsb _ hrw] at e3
      have hss := ev_same (a := a0_0) (b := a0_0) hsm hsm
      simp only [sameB, decide_true, Bool.and_self] at hss
      obtain ⟨q1, d1⟩ := c2'.rounds
      obtain ⟨q2, d2⟩ := c4'.rounds
      obtain ⟨q3, d3⟩ := c6'.rounds
      obtain ⟨q4, d4⟩ := t1.rounds
      obtain ⟨p0, e1⟩ := e1.rounds
      obtain ⟨p1, e2⟩ := e2.rounds
      obtain ⟨p2, e3⟩ := e3.rounds
      obtain ⟨_, hss⟩ := hss.rounds
      exact ncanon_main k0 k1 0 q1 q2 q3 q4 p0 p1 p2 a0_0 A0_1 c0_1 l0_1 A0_2 c0_2 l0_2 A1 c1 l1 A2 c2 l2 _ _ _ w hr0_1 hc0_1 hr0_2 hc0_2 hr1 hc1 hr2 hc2 h0 h1 hg h5 h6 h7 hwl1 hwl2 hw d1 d2 d3 hss d4 e1 e2 e3

end Go.Proofs.Ytelkjbacdpmnfaa.A
