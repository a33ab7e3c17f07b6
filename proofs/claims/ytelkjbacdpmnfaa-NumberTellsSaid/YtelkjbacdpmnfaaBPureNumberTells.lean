/- The law NumberTells: the walk's ways together, with the plain texts. No conditions. -/
import Derived.Test.YtelkjbacdpmnfaaB0
import Derived.Test.YtelkjbacdpmnfaaBLeastReach
import Derived.Test.YtelkjbacdpmnfaaBPlainBase
import Derived.Test.YtelkjbacdpmnfaaBPlainGood
import Derived.Test.YtelkjbacdpmnfaaBThompsonGood
import Derived.Test.YtelkjbacdpmnfaaBLeastClasses
import Derived.Test.YtelkjbacdpmnfaaBLeastOf
import Derived.Test.YtelkjbacdpmnfaaBNumberOf
import Derived.Test.YtelkjbacdpmnfaaBLeastBlocks
import Derived.Test.YtelkjbacdpmnfaaBLeastSplit
import Derived.Test.YtelkjbacdpmnfaaBSlicesIndexIntInt
import Derived.Test.YtelkjbacdpmnfaaBNumberAlike
import Derived.Test.YtelkjbacdpmnfaaBNumberCanon
import Derived.Test.YtelkjbacdpmnfaaBNumberSame
import Derived.Test.YtelkjbacdpmnfaaBCaesuraref21Reach
import Derived.Test.YtelkjbacdpmnfaaBCaesuraref21Classes
import Derived.Test.YtelkjbacdpmnfaaBCaesuraref22Of
import Derived.Test.YtelkjbacdpmnfaaBCaesuraref21Of
import Derived.Test.YtelkjbacdpmnfaaBCaesuraref22Same
import Derived.Test.YtelkjbacdpmnfaaBCaesuraref22Alike
import Derived.Test.YtelkjbacdpmnfaaBCaesuraref22Canon
import Derived.Test.YtelkjbacdpmnfaaBCaesurakeepLargeLists
import Derived.Test.YtelkjbacdpmnfaaBCaesuralaw21Light
import Derived.Test.YtelkjbacdpmnfaaBCaesurakeepOwnAutomaton
import Derived.Test.YtelkjbacdpmnfaaBCaesurakeepOwnLists
import Derived.Test.YtelkjbacdpmnfaaBCaesurakeepAutomaton
import Derived.Test.YtelkjbacdpmnfaaBCaesurakeepBools
import Derived.Test.YtelkjbacdpmnfaaBCaesurakeepInts
import Derived.Test.YtelkjbacdpmnfaaBCaesurakeepLists
import Derived.Test.YtelkjbacdpmnfaaBCaesuralaw22Wakes
import Derived.Test.YtelkjbacdpmnfaaBNTellsMain
namespace Go.Proofs.Ytelkjbacdpmnfaa.A
open Go.RowKit Go.W_.PrintWords Go.W_.PrintLast Go.W_.PrintMore
attribute [local go_sem] max2_int min2_int max_two min_two max_three min_three max_four min_four
set_option linter.unusedVariables false
set_option linter.unusedSimpArgs false

structure Aut (a : Int) (nx : List (List Int)) (ac : List Bool) : Prop where
 a1 : 1 ≤ a
 a2 : a ≤ 64
 n1 : 1 ≤ nx.length
 n2 : nx.length ≤ 1000
 ends : ac.length = nx.length
 rows : ∀ s, s < nx.length → ((nx.getD s []).length : Int) = a
 to_ : ∀ s c : Nat, s < nx.length → (c : Int) < a → 0 ≤ (nx.getD s []).getD c 0 ∧ (nx.getD s []).getD c 0 < nx.length
theorem getD_in {α : Type} (l : List α) (d : α) {i : Nat} (h : i < l.length) : l.getD i d ∈ l := by
 rw [List.getD_eq_getElem?_getD, List.getElem?_eq_getElem h]
 exact List.getElem_mem h
theorem Aut.of {a : Int} {nx : List (List Int)} {ac : List Bool} (h : goodB a nx ac = true) : Aut a nx ac := by
 unfold goodB at h
 simp only [Bool.and_eq_true, decide_eq_true_eq, Bool.not_eq_true', List.any_eq_false] at h
 obtain ⟨⟨⟨⟨⟨h1, h2⟩, h3⟩, h4⟩, h5⟩, h6⟩ := h
 have key : ∀ l ∈ nx, (l.length : Int) = a ∧ ∀ x ∈ l, 0 ≤ x ∧ x < nx.length := by
  intro l hl
  have h7 := h6 l hl
  unfold BadRow at h7
  simp only [Bool.or_eq_true, Bool.not_eq_true', decide_eq_false_iff_not, not_or, Decidable.not_not, List.any_eq_true, not_exists, not_and] at h7
  refine ⟨h7.1, fun x hx => ?_⟩
  have h8 := h7.2 x hx
  unfold OutOf at h8
  simp only [Bool.or_eq_true, decide_eq_true_eq, not_or] at h8
  omega
 refine ⟨h1, h2, by omega, by omega, by omega, fun s hs => (key _ (getD_in nx [] hs)).1, fun s c hs hc => ?_⟩
 obtain ⟨e, hx⟩ := key _ (getD_in nx [] hs)
 exact hx _ (getD_in _ 0 (by omega))
section
variable {a : Int} {nx : List (List Int)} {ac : List Bool}
theorem Aut.st (h : Aut a nx ac) {s c : Nat} (hs : s < nx.length) (hc : c < a.toNat) : (nx.getD s []).getD c 0 = ((stL nx s c : Nat) : Int) := by
 have := h.to_ s c hs (by omega)
 unfold stL
 omega
theorem Aut.shuts (h : Aut a nx ac) : Shuts nx.length a.toNat (stL nx) := by
 intro s c hs hc
 have := h.to_ s c hs (by omega)
 unfold stL
 omega
theorem Aut.len (h : Aut a nx ac) {s : Nat} (hs : s < nx.length) : (nx.getD s []).length = a.toNat := by
 have := h.rows s hs
 omega
end
def castL (l : List Nat) : List Int := l.map fun (s : Nat) => (s : Int)
theorem castL_length (l : List Nat) : (castL l).length = l.length := by simp [castL]
theorem castL_snoc (l : List Nat) (s : Nat) : castL (l ++ [s]) = castL l ++ [(s : Int)] := by simp [castL]
theorem castL_getD {l : List Nat} {i : Nat} (h : i < l.length) : (castL l).getD i 0 = ((l.getD i 0 : Nat) : Int) := by
 unfold castL
 rw [List.getD_eq_getElem?_getD, List.getD_eq_getElem?_getD, List.getElem?_map, List.getElem?_eq_getElem h]
 rfl
theorem castL_drop (l : List Nat) (i : Nat) : castL (l.drop i) = (castL l).drop i := by simp [castL, List.map_drop]
theorem drop_getD {l : List Nat} {i : Nat} : (l.drop i).getD 0 0 = l.getD i 0 := by
 rw [List.getD_eq_getElem?_getD, List.getD_eq_getElem?_getD, List.getElem?_drop]
 simp
theorem ev_leastReach_l1 {a : Int} {nx : List (List Int)} {ac : List Bool} (h : Aut a nx ac) (i : Nat)
  (hnext : ∀ (out : List Bool) (l : List Nat), i < l.length → Bfs nx.length a.toNat (stL nx) out l (i + 1) 0 → ∃ R, Ev (fun k => least_Reach.l0 k out (castL (l.drop (i + 1))) a nx ac) R ∧ IsReach nx.length a.toNat (stL nx) R) :
  ∀ (d c : Nat) (out : List Bool) (l : List Nat), c + d = a.toNat → i < l.length → Bfs nx.length a.toNat (stL nx) out l i c → ∃ R, Ev (fun k => least_Reach.l1 k out (castL (l.drop i)) (nx.getD (l.getD i 0) []) ((nx.getD (l.getD i 0) []).length : Int) (c : Int) a nx ac) R ∧ IsReach nx.length a.toNat (stL nx) R := by
 intro d
 induction d with
 | zero =>
  intro c out l hc hi hB
  obtain rfl : c = a.toNat := by omega
  obtain ⟨R, hR, hI⟩ := hnext out l hi (hB.turn hi)
  refine ⟨R, Ev.step (f := fun k => least_Reach.l0 k out (castL (l.drop (i + 1))) a nx ac) (fun k => ?_) hR, hI⟩
  have hl := h.len (hB.cur hi).2
  have e : (castL (l.drop i)).drop (1 : Int).toNat = castL (l.drop (i + 1)) := by
   rw [castL_drop, castL_drop, List.drop_drop]
   rfl
  have hz : 1 ≤ ((castL (l.drop i)).length : Int) := by rw [castL_length, List.length_drop]; omega
  simp only [least_Reach.l1]
  rw [if_neg (by omega), if_pos hz, e]
 | succ d ih =>
  intro c out l hc hi hB
  have hcl : c < a.toNat := by omega
  obtain ⟨hm, hlow⟩ := hB.cur hi
  have hl := h.len hlow
  have hst := h.st hlow hcl
  have hx := h.shuts _ c hlow hcl
  have hmo := hB.most
  have hn2 := h.n2
  have ha1 := h.a1
  have ha2 := h.a2
  have hz : (castL (l.drop i)).length < 17592186044416 := by rw [castL_length, List.length_drop]; omega
  have hol : ((stL nx (l.getD i 0) c : Nat) : Int) < (out.length : Int) := by rw [hB.len]; omega
  cases hb : out.getD (stL nx (l.getD i 0) c) false with
  | true =>
   obtain ⟨R, hR, hI⟩ := ih (c + 1) out l (by omega) hi (hB.old ((hB.mem _ hx).1 hb))
   refine ⟨R, Ev.step (f := fun k => least_Reach.l1 k out (castL (l.drop i)) (nx.getD (l.getD i 0) []) ((nx.getD (l.getD i 0) []).length : Int) ((c + 1 : Nat) : Int) a nx ac) (fun k => ?_) hR, hI⟩
   simp only [least_Reach.l1, rd_nat, hst, rdb_nat, hb]
   rw [if_pos (by omega), if_pos (by omega), if_pos (by omega), if_pos (by omega), if_pos hol, if_pos trivial, wadd (by omega) (by omega), nat_succ_cast]
  | false =>
   obtain ⟨R, hR, hI⟩ := ih (c + 1) (out.set (stL nx (l.getD i 0) c) true) (l ++ [stL nx (l.getD i 0) c]) (by omega) (by simp; omega) (hB.new hi hcl hx hb)
   rw [getD_snoc hi, List.drop_append_of_le_length (by omega), castL_snoc] at hR
   refine ⟨R, Ev.step (fun k => ?_) hR, hI⟩
   simp only [least_Reach.l1, rd_nat, hst, rdb_nat, hb, Int.toNat_natCast]
   rw [if_pos (by omega), if_pos (by omega), if_pos (by omega), if_pos (by omega), if_pos hol, if_neg (by decide), if_pos hz, wadd (by omega) (by omega), nat_succ_cast]
theorem ev_leastReach_l0 {a : Int} {nx : List (List Int)} {ac : List Bool} (h : Aut a nx ac) :
  ∀ (m i : Nat) (out : List Bool) (l : List Nat), nx.length - i = m → Bfs nx.length a.toNat (stL nx) out l i 0 → ∃ R, Ev (fun k => least_Reach.l0 k out (castL (l.drop i)) a nx ac) R ∧ IsReach nx.length a.toNat (stL nx) R := by
 intro m
 induction m using Nat.strongRecOn with
 | _ m ih =>
  intro i out l hm hB
  have hmo := hB.most
  have hat := hB.at_
  by_cases hi : i < l.length
  ·obtain ⟨hmem, hlow⟩ := hB.cur hi
   obtain ⟨R, hR, hI⟩ := ev_leastReach_l1 h i (fun out l hi hB => ih (nx.length - (i + 1)) (by have := hB.most; omega) (i + 1) out l rfl hB) a.toNat 0 out l (by omega) hi hB
   refine ⟨R, Ev.step (fun k => ?_) hR, hI⟩
   have hz : (castL (l.drop i)).length = l.length - i := by rw [castL_length, List.length_drop]
   have e : rd (castL (l.drop i)) 0 = ((l.getD i 0 : Nat) : Int) := by
    have h1 := rd_nat (castL (l.drop i)) 0
    rw [show ((0 : Nat) : Int) = 0 from rfl] at h1
    rw [h1, castL_getD (by rw [List.length_drop]; omega), drop_getD]
   simp only [least_Reach.l0, hz, e, rd5_nat]
   rw [if_pos (by omega), if_pos (by omega), if_pos (by omega), if_pos (by omega)]
   rfl
  ·refine ⟨out, Ev.step (f := fun _ => some out) (fun k => ?_) (Ev.now _), hB.end_ (by omega)⟩
   have hz : (castL (l.drop i)).length = 0 := by rw [castL_length, List.length_drop]; omega
   simp only [least_Reach.l0, hz]
   rw [if_neg (by decide)]
theorem ev_leastReach {a : Int} {nx : List (List Int)} {ac : List Bool} (hg : goodB a nx ac = true) : ∃ R, Ev (fun k => least_Reach.f k a nx ac) R ∧ IsReach nx.length a.toNat (stL nx) R := by
 have h := Aut.of hg
 have h1 := h.n1
 have h2 := h.n2
 obtain ⟨R, hR, hI⟩ := ev_leastReach_l0 h nx.length 0 _ [0] (by omega) (Bfs.start (by omega))
 refine ⟨R, Ev.congr (fun k => ?_) hR, hI⟩
 unfold least_Reach.f thompson_Good.f
 simp only [Option.bind_some, hg, Int.toNat_natCast, List.length_replicate]
 rw [if_pos trivial, if_pos (by omega), if_pos (by omega), if_pos (by omega)]
 simp [castL]
end Go.Proofs.Ytelkjbacdpmnfaa.A

namespace Go.Proofs.Ytelkjbacdpmnfaa.A
open Go.RowKit Go.W_.PrintWords Go.W_.PrintLast Go.W_.PrintMore
attribute [local go_sem] max2_int min2_int max_two min_two max_three min_three max_four min_four
set_option linter.unusedVariables false
set_option linter.unusedSimpArgs false

section
variable {a : Int} {nx : List (List Int)} {ac R : List Bool} {C : List Int}
theorem ofOk_of (h : Aut a nx ac) (hR : IsReach nx.length a.toNat (stL nx) R) (hC : IsClasses nx.length a.toNat (stL nx) (acL ac) C) : OfOk nx ac R C := by
 have ha2 := h.a2
 refine ⟨hR.1, hC.1, h.ends, h.n2, fun r hr => ?_, fun x hx => ?_⟩
 ·obtain ⟨s, hs, rfl⟩ := List.mem_iff_getElem.1 hr
  have e : nx[s] = nx.getD s [] := by rw [List.getD_eq_getElem?_getD, List.getElem?_eq_getElem hs]; rfl
  rw [e]
  have hl := h.len hs
  refine ⟨by omega, fun x hx => ?_⟩
  obtain ⟨c, hc, rfl⟩ := List.mem_iff_getElem.1 hx
  have h1 := h.to_ s c hs (by omega)
  rwa [List.getD_eq_getElem?_getD (i := c), List.getElem?_eq_getElem hc] at h1
 ·obtain ⟨s, hs, rfl⟩ := List.mem_iff_getElem.1 hx
  obtain ⟨u, e, hu, _⟩ := hC.2 s (by rw [← hC.1]; exact hs)
  rw [List.getD_eq_getElem?_getD, List.getElem?_eq_getElem hs] at e
  simp only [Option.getD_some] at e
  have := hC.1
  omega
def leastOf (a : Int) (nx : List (List Int)) (ac R : List Bool) (C : List Int) : Int × List (List Int) × List Bool × Bool := (a, ofNext nx C (keptTo R C nx.length) (keptTo R C nx.length), ofEnds ac (keptTo R C nx.length), true)
theorem ev_leastOf (hg : goodB a nx ac = true) (hR : Ev (fun k => least_Reach.f k a nx ac) R) (hC : Ev (fun k => least_Classes.f k a nx ac) C) (ho : OfOk nx ac R C) : Ev (fun k => least_Of.f k a nx ac) (leastOf a nx ac R C) := by
 refine Ev.congr (f := fun k => (least_Reach.f k a nx ac).bind fun R => (least_Classes.f k a nx ac).bind fun C => if ofOk nx ac R C = true then some (leastOf a nx ac R C) else none) (fun k => ?_) ?_
 ·unfold least_Of.f thompson_Good.f
  rw [hg]
  rfl
 ·refine Ev.bind (f := fun k R => (least_Classes.f k a nx ac).bind fun C => if ofOk nx ac R C = true then some (leastOf a nx ac R C) else none) hR ?_
  refine Ev.bind (f := fun k C => if ofOk nx ac R C = true then some (leastOf a nx ac R C) else none) hC ?_
  exact Ev.congr (f := fun _ => some (leastOf a nx ac R C)) (fun k => if_pos ho.intro) (Ev.now _)
theorem ev_leastOf_bad (hg : goodB a nx ac = false) : Ev (fun k => least_Of.f k a nx ac) (0, [], [], false) := by
 refine Ev.congr (f := fun _ => some (0, [], [], false)) (fun k => ?_) (Ev.now _)
 unfold least_Of.f thompson_Good.f
 simp [hg]
end

end Go.Proofs.Ytelkjbacdpmnfaa.A

namespace Go.Proofs.Ytelkjbacdpmnfaa.A
open Go.RowKit Go.W_.PrintWords Go.W_.PrintLast Go.W_.PrintMore
attribute [local go_sem] max2_int min2_int max_two min_two max_three min_three max_four min_four
set_option linter.unusedVariables false
set_option linter.unusedSimpArgs false

section
variable {a : Int} {nx : List (List Int)} {ac R : List Bool} {C : List Int}
theorem kept_reached {t : Int} : ∀ {k : Nat}, t ∈ keptTo R C k → ∃ s : Nat, t = (s : Int) ∧ s < k ∧ R.getD s false = true
 | 0, h => by simp [keptTo] at h
 | k + 1, h => by
  unfold keptTo at h
  split at h
  ·rename_i hk
   rcases List.mem_append.1 h with h | h
   ·obtain ⟨s, e, hs, hr⟩ := kept_reached h
    exact ⟨s, e, by omega, hr⟩
   ·exact ⟨k, List.mem_singleton.1 h, by omega, hk.1⟩
  ·obtain ⟨s, e, hs, hr⟩ := kept_reached h
   exact ⟨s, e, by omega, hr⟩
theorem codes_nodup : ∀ (k : Nat), (codesOf C (keptTo R C k)).Nodup
 | 0 => List.nodup_nil
 | k + 1 => by
  have ih := codes_nodup k
  unfold keptTo
  split
  ·rename_i hk
   rw [codesOf_snoc]
   refine List.nodup_append.2 ⟨ih, by simp, fun x hx y hy => ?_⟩
   rw [List.mem_singleton.1 hy]
   exact fun e => hk.2 (e ▸ hx)
  ·exact ih
theorem codes_full {s : Nat} (hr : R.getD s false = true) : ∀ {k : Nat}, s < k → C.getD s 0 ∈ codesOf C (keptTo R C k)
 | 0, h => absurd h (Nat.not_lt_zero _)
 | k + 1, h => by
  unfold keptTo
  rcases Nat.lt_or_ge s k with h1 | h1
  ·have ih := codes_full hr h1
   split
   ·rw [codesOf_snoc]; exact List.mem_append.2 (.inl ih)
   ·exact ih
  ·obtain rfl : s = k := by omega
   split
   ·rw [codesOf_snoc]; simp
   ·rename_i hk
    exact Classical.byContradiction fun hn => hk ⟨hr, hn⟩
theorem class_eq {n L : Nat} {st : Nat → Nat → Nat} {acc : Nat → Bool} (hC : IsClasses n L st acc C) {s u : Nat} (hs : s < n) (hu : u < n) : C.getD s 0 = C.getD u 0 ↔ Alike L st acc s u := by
 obtain ⟨x, e1, l1, a1, m1⟩ := hC.2 s hs
 obtain ⟨y, e2, l2, a2, m2⟩ := hC.2 u hu
 rw [e1, e2]
 constructor
 ·intro e
  obtain rfl : x = y := by omega
  exact a1.symm.trans a2
 ·intro e
  rcases Nat.lt_trichotomy x y with h | h | h
  ·exact absurd (a1.trans e) (m2 x h)
  ·rw [h]
  ·exact absurd (a2.trans e.symm) (m1 y h)
theorem idxOf_nodup {l : List Int} (h : l.Nodup) {i : Nat} (hi : i < l.length) : l.idxOf (l.getD i 0) = i := by
 have hm : l.getD i 0 ∈ l := getD_in l 0 hi
 have h1 := List.idxOf_lt_length_iff.2 hm
 have h2 := List.getElem_idxOf h1
 have e : l.getD i 0 = l[i] := by rw [List.getD_eq_getElem?_getD, List.getElem?_eq_getElem hi]; rfl
 rcases Nat.lt_trichotomy (l.idxOf (l.getD i 0)) i with h3 | h3 | h3
 ·exact absurd (h2.trans e) (List.pairwise_iff_getElem.1 h _ _ h1 hi h3)
 ·exact h3
 ·exact absurd (h2.trans e).symm (List.pairwise_iff_getElem.1 h _ _ hi h1 h3)
/-- What is known of the states reached and of the classes. -/
structure Model (a : Int) (nx : List (List Int)) (ac R : List Bool) (C : List Int) : Prop where
 aut : Aut a nx ac
 reach : IsReach nx.length a.toNat (stL nx) R
 cls : IsClasses nx.length a.toNat (stL nx) (acL ac) C
def kepts (nx : List (List Int)) (R : List Bool) (C : List Int) : List Int := keptTo R C nx.length
def repOf (nx : List (List Int)) (R : List Bool) (C : List Int) (i : Nat) : Nat := ((kepts nx R C).getD i 0).toNat
def qnOf (nx : List (List Int)) (R : List Bool) (C : List Int) (s : Nat) : Nat := (codesOf C (kepts nx R C)).idxOf (C.getD s 0)
def bnx (nx : List (List Int)) (R : List Bool) (C : List Int) : List (List Int) := ofNext nx C (kepts nx R C) (kepts nx R C)
def bac (nx : List (List Int)) (ac R : List Bool) (C : List Int) : List Bool := ofEnds ac (kepts nx R C)
theorem leastOf_eq : leastOf a nx ac R C = (a, bnx nx R C, bac nx ac R C, true) := rfl
theorem bnx_length : (bnx nx R C).length = (kepts nx R C).length := ofNext_length _ _ _ _
theorem bac_length : (bac nx ac R C).length = (kepts nx R C).length := ofEnds_length _ _
theorem rep_is {i : Nat} (hi : i < (kepts nx R C).length) : (kepts nx R C).getD i 0 = ((repOf nx R C i : Nat) : Int) ∧ repOf nx R C i < nx.length ∧ R.getD (repOf nx R C i) false = true := by
 obtain ⟨s, e, hs, hr⟩ := kept_reached (getD_in (kepts nx R C) 0 hi)
 unfold repOf
 rw [e]
 exact ⟨by simp, by simpa using hs, by simpa using hr⟩
theorem codes_at {i : Nat} (hi : i < (kepts nx R C).length) : (codesOf C (kepts nx R C)).getD i 0 = C.getD (repOf nx R C i) 0 := by
 unfold codesOf repOf
 rw [List.getD_eq_getElem?_getD, List.getElem?_map, List.getElem?_eq_getElem hi, List.getD_eq_getElem?_getD (l := kepts nx R C), List.getElem?_eq_getElem hi]
 rfl
theorem Model.gets (M : Model a nx ac R C) {i : Nat} (hi : i < (kepts nx R C).length) : Gets a.toNat (stL nx) (repOf nx R C i) := (M.reach.2 _ (rep_is hi).2.1).1 (rep_is hi).2.2
theorem Model.got_lt (M : Model a nx ac R C) {s : Nat} (h : Gets a.toNat (stL nx) s) : s < nx.length := by
 obtain ⟨w, hw, rfl⟩ := h
 exact runS_lt M.aut.shuts w 0 (by have := M.aut.n1; omega) hw
theorem Model.in_codes (M : Model a nx ac R C) {s : Nat} (h : Gets a.toNat (stL nx) s) : C.getD s 0 ∈ codesOf C (kepts nx R C) := codes_full ((M.reach.2 s (M.got_lt h)).2 h) (M.got_lt h)
theorem Model.qn_lt (M : Model a nx ac R C) {s : Nat} (h : Gets a.toNat (stL nx) s) : qnOf nx R C s < (kepts nx R C).length := by
 have := List.idxOf_lt_length_iff.2 (M.in_codes h)
 rwa [codesOf_length] at this
theorem Model.rep_qn (M : Model a nx ac R C) {s : Nat} (h : Gets a.toNat (stL nx) s) : Alike a.toNat (stL nx) (acL ac) (repOf nx R C (qnOf nx R C s)) s := by
 have hq := M.qn_lt h
 refine (class_eq M.cls (rep_is hq).2.1 (M.got_lt h)).1 ?_
 rw [← codes_at hq, List.getD_eq_getElem?_getD, List.getElem?_eq_getElem (by rw [codesOf_length]; exact hq)]
 exact List.getElem_idxOf _
theorem Model.qn_rep (_ : Model a nx ac R C) {i : Nat} (hi : i < (kepts nx R C).length) : qnOf nx R C (repOf nx R C i) = i := by
 unfold qnOf
 rw [← codes_at hi]
 exact idxOf_nodup (codes_nodup _) (by rw [codesOf_length]; exact hi)
theorem Model.qn_alike (M : Model a nx ac R C) {s u : Nat} (hs : s < nx.length) (hu : u < nx.length) (h : Alike a.toNat (stL nx) (acL ac) s u) : qnOf nx R C s = qnOf nx R C u := by
 unfold qnOf
 rw [(class_eq M.cls hs hu).2 h]
theorem bnx_row {i : Nat} (hi : i < (kepts nx R C).length) : (bnx nx R C).getD i [] = ofRow nx C (kepts nx R C) ((repOf nx R C i : Nat) : Int) := by
 unfold bnx ofNext
 rw [List.getD_eq_getElem?_getD, List.getElem?_map, List.getElem?_eq_getElem hi]
 have e := (rep_is hi).1
 rw [List.getD_eq_getElem?_getD, List.getElem?_eq_getElem hi] at e
 simp only [Option.getD_some] at e
 simp only [Option.map_some, Option.getD_some, e]
theorem Model.st_b (M : Model a nx ac R C) {i c : Nat} (hi : i < (kepts nx R C).length) (hc : c < a.toNat) : ((bnx nx R C).getD i []).getD c 0 = ((qnOf nx R C (stL nx (repOf nx R C i) c) : Nat) : Int) := by
 have hr := rep_is hi
 rw [bnx_row hi]
 unfold ofRow
 rw [Int.toNat_natCast, List.getD_eq_getElem?_getD, List.getElem?_map, List.getElem?_eq_getElem (by rw [M.aut.len hr.2.1]; exact hc)]
 have e := M.aut.st hr.2.1 hc
 rw [List.getD_eq_getElem?_getD (i := c), List.getElem?_eq_getElem (by rw [M.aut.len hr.2.1]; exact hc)] at e
 simp only [Option.getD_some] at e
 simp only [Option.map_some, Option.getD_some, e, Int.toNat_natCast]
 unfold numOf
 rw [if_pos (M.in_codes ((M.gets hi).step hc))]
 rfl
theorem Model.stb (M : Model a nx ac R C) {i c : Nat} (hi : i < (kepts nx R C).length) (hc : c < a.toNat) : stL (bnx nx R C) i c = qnOf nx R C (stL nx (repOf nx R C i) c) := by
 unfold stL
 rw [M.st_b hi hc, Int.toNat_natCast]
 rfl
theorem acb {i : Nat} (hi : i < (kepts nx R C).length) : acL (bac nx ac R C) i = acL ac (repOf nx R C i) := by
 unfold acL bac ofEnds repOf
 rw [List.getD_eq_getElem?_getD, List.getElem?_map, List.getElem?_eq_getElem hi, List.getD_eq_getElem?_getD (l := kepts nx R C), List.getElem?_eq_getElem hi]
 rfl
theorem Model.first (M : Model a nx ac R C) : repOf nx R C 0 = 0 ∧ 0 < (kepts nx R C).length := by
 have hn := M.aut.n1
 have hr : R.getD 0 false = true := (M.reach.2 0 (by omega)).2 Gets.zero
 have key : ∀ k : Nat, ∃ l, keptTo R C (k + 1) = 0 :: l := by
  intro k
  induction k with
  | zero => exact ⟨[], keptTo_new hr (by simp [keptTo, codesOf])⟩
  | succ k ih =>
   obtain ⟨l, e⟩ := ih
   rw [keptTo]
   split
   ·exact ⟨l ++ [((k + 1 : Nat) : Int)], by rw [e]; rfl⟩
   ·exact ⟨l, e⟩
 obtain ⟨l, e⟩ := key (nx.length - 1)
 rw [show nx.length - 1 + 1 = nx.length by omega] at e
 unfold repOf kepts
 rw [e]
 simp
theorem Model.qn_zero (M : Model a nx ac R C) : qnOf nx R C 0 = 0 := by
 have h := M.qn_rep M.first.2
 rwa [M.first.1] at h
/-- The row of letters leads alike. -/
theorem Model.hom (M : Model a nx ac R C) : ∀ (w : List Nat) (s : Nat), Gets a.toNat (stL nx) s → (∀ c ∈ w, c < a.toNat) → runS (stL (bnx nx R C)) (qnOf nx R C s) w = qnOf nx R C (runS (stL nx) s w)
 | [], _, _, _ => rfl
 | c :: w, s, hs, hw => by
  have hc := hw c (by simp)
  have hq := M.qn_lt hs
  have ha := (M.rep_qn hs).step hc
  have e : stL (bnx nx R C) (qnOf nx R C s) c = qnOf nx R C (stL nx s c) := by
   rw [M.stb hq hc]
   exact M.qn_alike (M.aut.shuts _ c (rep_is hq).2.1 hc) (M.aut.shuts _ c (M.got_lt hs) hc) ha
  show runS _ (stL (bnx nx R C) (qnOf nx R C s) c) w = _
  rw [e]
  exact M.hom w _ (hs.step hc) (fun x hx => hw x (by simp [hx]))
theorem Model.ends_b (M : Model a nx ac R C) {s : Nat} (hs : Gets a.toNat (stL nx) s) : acL (bac nx ac R C) (qnOf nx R C s) = acL ac s := by
 rw [acb (M.qn_lt hs)]
 exact (M.rep_qn hs).ends
theorem Gets.run {L : Nat} {st : Nat → Nat → Nat} : ∀ (w : List Nat) {s : Nat}, Gets L st s → (∀ c ∈ w, c < L) → Gets L st (runS st s w)
 | [], _, h, _ => h
 | c :: w, _, h, hw => Gets.run w (h.step (hw c (by simp))) (fun x hx => hw x (by simp [hx]))
/-- The least automaton takes what the automaton takes. -/
theorem Model.takes (M : Model a nx ac R C) {w : List Nat} (hw : ∀ c ∈ w, c < a.toNat) : acL (bac nx ac R C) (runS (stL (bnx nx R C)) 0 w) = acL ac (runS (stL nx) 0 w) := by
 have h := M.hom w 0 Gets.zero hw
 rw [M.qn_zero] at h
 rw [h]
 exact M.ends_b (Gets.zero.run w hw)
theorem Model.good (M : Model a nx ac R C) : goodB a (bnx nx R C) (bac nx ac R C) = true := by
 have h := M.aut
 have ha1 := h.a1
 have ha2 := h.a2
 have hn2 := h.n2
 have hf := M.first.2
 have hK := keptTo_length R C nx.length
 have hl := bnx_length (nx := nx) (R := R) (C := C)
 have hl2 := bac_length (nx := nx) (ac := ac) (R := R) (C := C)
 unfold kepts at hl hl2 hf
 unfold goodB
 simp only [Bool.and_eq_true, decide_eq_true_eq, Bool.not_eq_true', List.any_eq_false]
 refine ⟨⟨⟨⟨⟨ha1, ha2⟩, by omega⟩, by omega⟩, by omega⟩, fun r hr => ?_⟩
 obtain ⟨i, hi, rfl⟩ := List.mem_iff_getElem.1 hr
 have hi' : i < (kepts nx R C).length := by unfold kepts; omega
 have e : (bnx nx R C)[i] = (bnx nx R C).getD i [] := by rw [List.getD_eq_getElem?_getD, List.getElem?_eq_getElem hi]; rfl
 have hrl : ((bnx nx R C).getD i []).length = a.toNat := by rw [bnx_row hi', ofRow_length, h.len (rep_is hi').2.1]
 rw [e]
 unfold BadRow
 simp only [Bool.or_eq_true, Bool.not_eq_true', decide_eq_false_iff_not, not_or, Decidable.not_not, List.any_eq_true, not_exists, not_and]
 refine ⟨by omega, fun x hx => ?_⟩
 obtain ⟨c, hc, rfl⟩ := List.mem_iff_getElem.1 hx
 have hcl : c < a.toNat := by omega
 have e2 := M.st_b hi' hcl
 rw [List.getD_eq_getElem?_getD (i := c), List.getElem?_eq_getElem hc] at e2
 simp only [Option.getD_some] at e2
 rw [e2]
 have hq := M.qn_lt ((M.gets hi').step hcl)
 unfold OutOf
 simp only [Bool.or_eq_true, decide_eq_true_eq, not_or]
 unfold kepts at hq
 omega
end

end Go.Proofs.Ytelkjbacdpmnfaa.A

namespace Go.Proofs.Ytelkjbacdpmnfaa.A
open Go.RowKit Go.W_.PrintWords Go.W_.PrintLast Go.W_.PrintMore
attribute [local go_sem] max2_int min2_int max_two min_two max_three min_three max_four min_four
set_option linter.unusedVariables false
set_option linter.unusedSimpArgs false

section
variable {n L : Nat} {st : Nat → Nat → Nat} {l : List Nat} {i c : Nat}
/-- Of each state its number, d for one that is not met. -/
def marks (d : Int) (n : Nat) (l : List Nat) : List Int := (List.range n).map fun s => if s ∈ l then ((l.idxOf s : Nat) : Int) else d
def insTo (n : Nat) (l : List Nat) : List Bool := (List.range n).map fun s => decide (s ∈ l)
theorem marks_length (d : Int) (n : Nat) (l : List Nat) : (marks d n l).length = n := by simp [marks]
theorem insTo_length (n : Nat) (l : List Nat) : (insTo n l).length = n := by simp [insTo]
theorem marks_get {d : Int} {s : Nat} (hs : s < n) : (marks d n l).getD s 0 = if s ∈ l then ((l.idxOf s : Nat) : Int) else d := by
 rw [List.getD_eq_getElem?_getD]
 unfold marks
 rw [List.getElem?_map, List.getElem?_range hs]
 rfl
theorem insTo_get {s : Nat} (hs : s < n) : (insTo n l).getD s false = decide (s ∈ l) := by
 rw [List.getD_eq_getElem?_getD]
 unfold insTo
 rw [List.getElem?_map, List.getElem?_range hs]
 rfl
theorem idxOf_snoc {s : Nat} (hm : s ∉ l) : (l ++ [s]).idxOf s = l.length := by
 rw [List.idxOf_append, if_neg hm]
 simp
theorem idxOf_more {s : Nat} (hm : s ∈ l) (y : Nat) : (l ++ [y]).idxOf s = l.idxOf s := by rw [List.idxOf_append, if_pos hm]
theorem marks_set {d : Int} {s : Nat} (hs : s < n) (hm : s ∉ l) : (marks d n l).set s (l.length : Int) = marks d n (l ++ [s]) := by
 apply List.ext_getElem (by simp [marks])
 intro j h1 h2
 rw [List.getElem_set]
 have hj : j < n := by simpa [marks] using h2
 simp only [marks, List.getElem_map, List.getElem_range]
 by_cases he : s = j
 ·subst he
  rw [if_pos rfl, if_pos (by simp), idxOf_snoc hm]
 ·rw [if_neg he]
  by_cases hjl : j ∈ l
  ·rw [if_pos hjl, if_pos (by simp [hjl]), idxOf_more hjl]
  ·rw [if_neg hjl, if_neg (by simp [hjl, Ne.symm he])]
theorem insTo_set {s : Nat} : (insTo n l).set s true = insTo n (l ++ [s]) := by
 apply List.ext_getElem (by simp [insTo])
 intro j h1 h2
 rw [List.getElem_set]
 simp only [insTo, List.getElem_map, List.getElem_range]
 by_cases he : s = j
 ·subst he
  rw [if_pos rfl]
  simp
 ·rw [if_neg he]
  simp [Ne.symm he]
def rowTo (st : Nat → Nat → Nat) (l : List Nat) (s : Nat) (c : Nat) : List Int := (List.range c).map fun c => ((l.idxOf (st s c) : Nat) : Int)
def numTo (L : Nat) (st : Nat → Nat → Nat) (l : List Nat) (i : Nat) : List (List Int) := (l.take i).map fun s => rowTo st l s L
def endsAt (ac : List Bool) (l : List Nat) (i : Nat) : List Bool := (l.take i).map (acL ac)
theorem rowTo_length (s : Nat) : (rowTo st l s c).length = c := by simp [rowTo]
theorem rowTo_snoc (s : Nat) : rowTo st l s (c + 1) = rowTo st l s c ++ [((l.idxOf (st s c) : Nat) : Int)] := by
 unfold rowTo
 rw [List.range_succ, List.map_append]
 rfl
theorem rowTo_grow {s y : Nat} (h : ∀ c', c' < c → st s c' ∈ l) : rowTo st (l ++ [y]) s c = rowTo st l s c := by
 unfold rowTo
 apply List.map_congr_left
 intro c' hc
 rw [idxOf_more (h c' (List.mem_range.1 hc))]
variable {s0 : Nat} {ok : Nat → Prop}
theorem numTo_grow (h : Wbfs L st s0 ok l i c) (y : Nat) : numTo L st (l ++ [y]) i = numTo L st l i := by
 unfold numTo
 rw [List.take_append_of_le_length h.at_]
 apply List.map_congr_left
 intro s hs
 obtain ⟨j, hj, e⟩ := List.mem_iff_getElem.1 hs
 rw [List.length_take] at hj
 rw [List.getElem_take] at e
 exact rowTo_grow fun c' hc' => h.done j s (by omega) (List.getElem?_eq_some_iff.2 ⟨by omega, e⟩) c' hc'
theorem endsAt_grow (ac : List Bool) (h : i ≤ l.length) (y : Nat) : endsAt ac (l ++ [y]) i = endsAt ac l i := by
 unfold endsAt
 rw [List.take_append_of_le_length h]
theorem take_turn (hi : i < l.length) : l.take (i + 1) = l.take i ++ [l.getD i 0] := by
 rw [List.take_succ_eq_append_getElem hi, List.getD_eq_getElem?_getD, List.getElem?_eq_getElem hi]
 rfl
theorem numTo_turn (hi : i < l.length) : numTo L st l (i + 1) = numTo L st l i ++ [rowTo st l (l.getD i 0) L] := by
 unfold numTo
 rw [take_turn hi, List.map_append]
 rfl
theorem endsAt_turn (ac : List Bool) (hi : i < l.length) : endsAt ac l (i + 1) = endsAt ac l i ++ [ac.getD (l.getD i 0) false] := by
 unfold endsAt
 rw [take_turn hi, List.map_append]
 rfl
theorem numTo_length : (numTo L st l i).length ≤ l.length := by simp [numTo]; omega
theorem endsAt_length (ac : List Bool) : (endsAt ac l i).length ≤ l.length := by simp [endsAt]; omega
theorem MetIs.cur (h : MetIs L st s0 ok l i c) (hi : i < l.length) : l[i]? = some (l.getD i 0) ∧ l.getD i 0 ∈ l ∧ ok (l.getD i 0) := by
 have e : l[i]? = some (l.getD i 0) := by
  rw [List.getD_eq_getElem?_getD, List.getElem?_eq_getElem hi]
  rfl
 exact ⟨e, List.mem_of_getElem? e, h.bfs.good _ (List.mem_of_getElem? e)⟩
theorem MetIs.most (h : MetIs L st s0 (fun s => s < n) l i c) : l.length ≤ n := h.bfs.most (code := fun s => s) (fun _ h => h) (fun _ _ _ _ e => e)
end
section
variable {a : Int} {nx : List (List Int)} {ac : List Bool}
/-- What the automaton meets. -/
abbrev MetIn (a : Int) (nx : List (List Int)) (l : List Nat) (i c : Nat) : Prop := MetIs a.toNat (stL nx) 0 (fun s => s < nx.length) l i c
abbrev MetOf (a : Int) (nx : List (List Int)) (l : List Nat) : Prop := MetAll a.toNat (stL nx) 0 (fun s => s < nx.length) l
def numdOf (a : Int) (nx : List (List Int)) (ac : List Bool) (l : List Nat) : Int × List (List Int) × List Bool × Bool := (a, numNext a.toNat (stL nx) l, l.map (acL ac), true)
theorem num_end {l : List Nat} {i : Nat} (hB : MetIn a nx l i 0) (hi : ¬ i < l.length) : MetOf a nx l ∧ numdOf a nx ac l = (a, numTo a.toNat (stL nx) l i, endsAt ac l i, true) := by
 have e : i = l.length := by have := hB.bfs.at_; omega
 subst e
 refine ⟨hB, ?_⟩
 unfold numdOf numTo endsAt
 rw [List.take_length]
 rfl
theorem ev_numdOf_l2 (h : Aut a nx ac) (i : Nat)
  (hnext : ∀ (l : List Nat), i < l.length → MetIn a nx l (i + 1) 0 → ∃ m, Ev (fun k => number_Of.l1 k (marks (-1) nx.length l) (castL l) ((i + 1 : Nat) : Int) a nx ac a (numTo a.toNat (stL nx) l (i + 1)) (endsAt ac l (i + 1))) (numdOf a nx ac m) ∧ MetOf a nx m) :
  ∀ (d c : Nat) (l : List Nat), c + d = a.toNat → i < l.length → MetIn a nx l i c → ∃ m, Ev (fun k => number_Of.l2 k (marks (-1) nx.length l) (castL l) (i : Int) (rowTo (stL nx) l (l.getD i 0) c) (nx.getD (l.getD i 0) []) ((nx.getD (l.getD i 0) []).length : Int) (c : Int) a nx ac a (numTo a.toNat (stL nx) l i) (endsAt ac l i)) (numdOf a nx ac m) ∧ MetOf a nx m := by
 intro d
 induction d with
 | zero =>
  intro c l hc hi hB
  obtain rfl : c = a.toNat := by omega
  obtain ⟨m, hm, hI⟩ := hnext l hi (hB.turn hi)
  rw [numTo_turn hi, endsAt_turn ac hi] at hm
  refine ⟨m, Ev.step (fun k => ?_) hm, hI⟩
  obtain ⟨hx, hmem, hlow⟩ := hB.cur hi
  have hl := h.len hlow
  have hmo := hB.most
  have hn2 := h.n2
  have he := h.ends
  have hz : (castL l).length = l.length := castL_length l
  have h1 := numTo_length (L := a.toNat) (st := stL nx) (l := l) (i := i)
  have h2 := endsAt_length (l := l) (i := i) ac
  simp only [number_Of.l2, rd_nat, castL_getD hi, hz, rdb_nat]
  rw [if_neg (by omega), if_pos (by omega), if_pos (by omega), if_pos (by omega), if_pos (by omega), if_pos (by omega), if_pos (by omega), wadd (by omega) (by omega), nat_succ_cast]
 | succ d ih =>
  intro c l hc hi hB
  have hcl : c < a.toNat := by omega
  obtain ⟨hx, hmem, hlow⟩ := hB.cur hi
  have hl := h.len hlow
  have hst := h.st hlow hcl
  have hsh := h.shuts _ c hlow hcl
  have hmo := hB.most
  have hn2 := h.n2
  have ha1 := h.a1
  have ha2 := h.a2
  have hz : (castL l).length = l.length := castL_length l
  have hr := rowTo_length (st := stL nx) (l := l) (c := c) (l.getD i 0)
  have hk := marks_length (-1) nx.length l
  by_cases hm : stL nx (l.getD i 0) c ∈ l
  ·obtain ⟨m, hm2, hI⟩ := ih (c + 1) l (by omega) hi (hB.old hx hm)
   rw [rowTo_snoc] at hm2
   refine ⟨m, Ev.step (fun k => ?_) hm2, hI⟩
   simp only [number_Of.l2, rd_nat, hst, marks_get hsh, if_pos hm]
   rw [if_pos (by omega), if_pos (by omega), if_pos (by omega), if_pos (by omega), if_pos (by rw [hk]; omega), if_neg (by omega), if_pos (by omega), wadd (by omega) (by omega), nat_succ_cast]
  ·obtain ⟨m, hm2, hI⟩ := ih (c + 1) (l ++ [stL nx (l.getD i 0) c]) (by omega) (by simp; omega) (hB.new hx hcl hsh hm)
   rw [getD_snoc hi, rowTo_snoc, rowTo_grow (hB.bfs.now _ hx), numTo_grow hB.bfs, endsAt_grow ac hB.bfs.at_, castL_snoc, idxOf_snoc hm] at hm2
   refine ⟨m, Ev.step (fun k => ?_) hm2, hI⟩
   simp only [number_Of.l2, rd_nat, hst, marks_get hsh, if_neg hm, Option.bind_some, Int.toNat_natCast, hz, marks_set hsh hm]
   rw [if_pos (by omega), if_pos (by omega), if_pos (by omega), if_pos (by omega), if_pos (by rw [hk]; omega), if_pos (by omega), if_pos (by omega), if_pos (by omega), if_pos (by simp), idxOf_snoc hm, wadd (by omega) (by omega), nat_succ_cast]
theorem ev_numdOf_l1 (h : Aut a nx ac) :
  ∀ (m i : Nat) (l : List Nat), nx.length - i = m → MetIn a nx l i 0 → ∃ m, Ev (fun k => number_Of.l1 k (marks (-1) nx.length l) (castL l) (i : Int) a nx ac a (numTo a.toNat (stL nx) l i) (endsAt ac l i)) (numdOf a nx ac m) ∧ MetOf a nx m := by
 intro m
 induction m using Nat.strongRecOn with
 | _ m ih =>
  intro i l hm hB
  have hmo := hB.most
  have hz : (castL l).length = l.length := castL_length l
  by_cases hi : i < l.length
  ·obtain ⟨hx, hmem, hlow⟩ := hB.cur hi
   obtain ⟨R, hR, hI⟩ := ev_numdOf_l2 h i (fun l hi hB => ih (nx.length - (i + 1)) (by have := hB.most; omega) (i + 1) l rfl hB) a.toNat 0 l (by omega) hi hB
   refine ⟨R, Ev.step (fun k => ?_) hR, hI⟩
   simp only [number_Of.l1, hz, rd_nat, castL_getD hi, rd5_nat]
   rw [if_pos (by omega), if_pos (by omega), if_pos (by omega), if_pos (by omega)]
   rfl
  ·obtain ⟨h1, h2⟩ := num_end (ac := ac) hB hi
   refine ⟨l, ?_, h1⟩
   rw [h2]
   refine Ev.step (f := fun _ => some (a, numTo a.toNat (stL nx) l i, endsAt ac l i, true)) (fun k => ?_) (Ev.now _)
   simp only [number_Of.l1, hz]
   rw [if_neg (by omega)]
theorem ev_numdOf_l0 (h : Aut a nx ac) : ∀ (d i : Nat), i + d = nx.length → ∃ m, Ev (fun k => number_Of.l0 k (List.replicate i (-1) ++ List.replicate d 0) (nx.length : Int) (i : Int) a nx ac) (numdOf a nx ac m) ∧ MetOf a nx m := by
 have h1 := h.n1
 have h2 := h.n2
 intro d
 induction d with
 | zero =>
  intro i hi
  obtain rfl : i = nx.length := by omega
  obtain ⟨m, hm, hI⟩ := ev_numdOf_l1 h nx.length 0 [0] (by omega) (MetIs.start (show 0 < nx.length by omega))
  refine ⟨m, Ev.step (fun k => ?_) hm, hI⟩
  have e : (List.replicate nx.length (-1 : Int)).set 0 0 = marks (-1) nx.length [0] := by
   have h3 := marks_set (d := -1) (n := nx.length) (l := []) (s := 0) (by omega) (by simp)
   have h4 : marks (-1) nx.length [] = List.replicate nx.length (-1) := by
    apply List.ext_getElem (by simp [marks])
    intro j h5 h6
    simp [marks]
   rw [h4] at h3
   exact h3
  simp only [number_Of.l0, List.append_nil, List.replicate_zero, List.length_replicate]
  rw [if_neg (by omega), if_pos (by omega)]
  rw [show (0 : Int).toNat = 0 from rfl, e]
  rfl
 | succ d ih =>
  intro i hi
  obtain ⟨m, hm, hI⟩ := ih (i + 1) (by omega)
  refine ⟨m, Ev.step (fun k => ?_) hm, hI⟩
  have e : (List.replicate i (-1 : Int) ++ List.replicate (d + 1) 0).set i (-1) = List.replicate (i + 1) (-1) ++ List.replicate d 0 := by
   rw [List.set_append_right _ _ (by simp), List.length_replicate, Nat.sub_self, List.replicate_succ, sB, List.replicate_succ', List.append_assoc]
   rfl
  simp only [number_Of.l0, List.length_append, List.length_replicate, Int.toNat_natCast, e]
  rw [if_pos (by omega), if_pos (by omega), if_pos (by omega), wadd (by omega) (by omega), nat_succ_cast]
theorem ev_numdOf (hg : goodB a nx ac = true) : ∃ l, Ev (fun k => number_Of.f k a nx ac) (numdOf a nx ac l) ∧ MetOf a nx l := by
 have h := Aut.of hg
 have h1 := h.n1
 have h2 := h.n2
 obtain ⟨m, hm, hI⟩ := ev_numdOf_l0 h nx.length 0 (by omega)
 refine ⟨m, Ev.congr (fun k => ?_) hm, hI⟩
 unfold number_Of.f thompson_Good.f
 simp only [Option.bind_some, hg, Int.toNat_natCast, List.length_replicate, List.replicate_zero, List.nil_append]
 rw [if_pos trivial, if_pos (by omega), if_pos (by omega)]
 rfl
end

end Go.Proofs.Ytelkjbacdpmnfaa.A

namespace Go.Proofs.Ytelkjbacdpmnfaa.A
open Go.RowKit Go.W_.PrintWords Go.W_.PrintLast Go.W_.PrintMore
attribute [local go_sem] max2_int min2_int max_two min_two max_three min_three max_four min_four
set_option linter.unusedVariables false
set_option linter.unusedSimpArgs false

section
variable {a : Int} {nx : List (List Int)} {ac : List Bool} {l : List Nat}
theorem met_first (hm : MetOf a nx l) : l[0]? = some 0 := by
 have h := hm.bfs.first
 cases l with
 | nil => cases h
 | cons x l => simp at h; subst h; rfl
theorem met_pos (hm : MetOf a nx l) : 0 < l.length := (List.getElem?_eq_some_iff.1 (met_first hm)).1
theorem met_at (hm : MetOf a nx l) {s : Nat} (hs : s ∈ l) : l[l.idxOf s]? = some s := by
 have h1 := List.idxOf_lt_length_iff.2 hs
 rw [List.getElem?_eq_getElem h1, List.getElem_idxOf h1]
theorem num_length : (numNext a.toNat (stL nx) l).length = l.length := by simp [numNext]
theorem num_row {i : Nat} (hi : i < l.length) : (numNext a.toNat (stL nx) l).getD i [] = (List.range a.toNat).map fun c => ((l.idxOf (stL nx (l.getD i 0) c) : Nat) : Int) := by
 rw [List.getD_eq_getElem?_getD, List.getD_eq_getElem?_getD]
 unfold numNext
 rw [List.getElem?_map, List.getElem?_eq_getElem hi]
 rfl
theorem num_st {i c : Nat} (hi : i < l.length) (hc : c < a.toNat) : stL (numNext a.toNat (stL nx) l) i c = l.idxOf (stL nx (l.getD i 0) c) := by
 show ((((numNext a.toNat (stL nx) l).getD i []).getD c 0).toNat) = _
 rw [num_row hi, List.getD_eq_getElem?_getD, List.getElem?_map, List.getElem?_range hc]
 rfl
theorem met_cur {i : Nat} (hi : i < l.length) : l[i]? = some (l.getD i 0) := by
 rw [List.getD_eq_getElem?_getD, List.getElem?_eq_getElem hi]
 rfl
theorem num_step (hm : MetOf a nx l) {i c s : Nat} (hi : l[i]? = some s) (hc : c < a.toNat) : l[stL (numNext a.toNat (stL nx) l) i c]? = some (stL nx s c) := by
 have h1 := (List.getElem?_eq_some_iff.1 hi).1
 have e : l.getD i 0 = s := Option.some.inj ((met_cur h1).symm.trans hi)
 rw [num_st h1 hc, e]
 exact met_at hm (MetAll.shut hm (List.mem_of_getElem? hi) hc)
theorem num_run (hm : MetOf a nx l) : ∀ (w : List Nat) {i s : Nat}, l[i]? = some s → (∀ c ∈ w, c < a.toNat) → l[runS (stL (numNext a.toNat (stL nx) l)) i w]? = some (runS (stL nx) s w)
 | [], _, _, h, _ => h
 | c :: w, _, _, h, hw => num_run hm w (num_step hm h (hw c (by simp))) (fun x hx => hw x (by simp [hx]))
theorem num_ends {i s : Nat} (hi : l[i]? = some s) : acL (l.map (acL ac)) i = acL ac s := by
 rw [acL, List.getD_eq_getElem?_getD, List.getElem?_map, hi]
 rfl
theorem num_takes (hm : MetOf a nx l) {w : List Nat} (hw : ∀ c ∈ w, c < a.toNat) : acL (l.map (acL ac)) (runS (stL (numNext a.toNat (stL nx) l)) 0 w) = acL ac (runS (stL nx) 0 w) := num_ends (num_run hm w (met_first hm) hw)
theorem good_of {a : Int} {X : List (List Int)} {Y : List Bool} (h1 : 1 ≤ a) (h2 : a ≤ 64) (h3 : 1 ≤ X.length) (h4 : X.length ≤ 1000) (h5 : Y.length = X.length) (h6 : ∀ i, i < X.length → ((X.getD i []).length : Int) = a ∧ ∀ x ∈ X.getD i [], 0 ≤ x ∧ x < X.length) : goodB a X Y = true := by
 unfold goodB
 simp only [Bool.and_eq_true, decide_eq_true_eq, Bool.not_eq_true', List.any_eq_false]
 refine ⟨⟨⟨⟨⟨h1, h2⟩, by omega⟩, by omega⟩, by omega⟩, fun r hr => ?_⟩
 obtain ⟨i, hi, rfl⟩ := List.mem_iff_getElem.1 hr
 have e : X[i] = X.getD i [] := by rw [List.getD_eq_getElem?_getD, List.getElem?_eq_getElem hi]; rfl
 rw [e]
 have h7 := h6 i hi
 unfold BadRow
 simp only [Bool.or_eq_true, Bool.not_eq_true', decide_eq_false_iff_not, not_or, Decidable.not_not, List.any_eq_true, not_exists, not_and]
 refine ⟨h7.1, fun x hx => ?_⟩
 have h8 := h7.2 x hx
 unfold OutOf
 simp only [Bool.or_eq_true, decide_eq_true_eq, not_or]
 omega
theorem num_good (h : Aut a nx ac) (hm : MetOf a nx l) : goodB a (numNext a.toNat (stL nx) l) (l.map (acL ac)) = true := by
 have ha1 := h.a1
 have ha2 := h.a2
 have hn2 := h.n2
 have hp := met_pos hm
 have hmo : l.length ≤ nx.length := MetIs.most hm
 refine good_of ha1 ha2 (by rw [num_length]; omega) (by rw [num_length]; omega) (by rw [num_length, List.length_map]) fun i hi => ?_
 rw [num_length] at hi ⊢
 rw [num_row hi]
 refine ⟨by simp; omega, fun x hx => ?_⟩
 obtain ⟨c, hc, rfl⟩ := List.mem_map.1 hx
 have h1 := List.idxOf_lt_length_iff.2 (MetAll.shut hm (List.mem_of_getElem? (met_cur hi)) (List.mem_range.1 hc))
 omega
end
section
variable {a : Int} {nx nx' : List (List Int)} {ac ac' : List Bool}
/-- The same rows are taken. -/
def SameRows (a : Int) (nx : List (List Int)) (ac : List Bool) (nx' : List (List Int)) (ac' : List Bool) : Prop := ∀ w : List Nat, (∀ c ∈ w, c < a.toNat) → acL ac (runS (stL nx) 0 w) = acL ac' (runS (stL nx') 0 w)
/-- The least automaton, numbered as it is met. -/
def CanonIs (a : Int) (nx : List (List Int)) (ac : List Bool) (X : List (List Int)) (Y : List Bool) : Prop :=
 ∃ R C l, Model a nx ac R C ∧ MetOf a (bnx nx R C) l ∧ X = numNext a.toNat (stL (bnx nx R C)) l ∧ Y = l.map (acL (bac nx ac R C))
variable {X X' : List (List Int)} {Y Y' : List Bool}
theorem CanonIs.takes (h : CanonIs a nx ac X Y) : SameRows a X Y nx ac := by
 obtain ⟨R, C, l, M, hm, rfl, rfl⟩ := h
 exact fun w hw => (num_takes hm hw).trans (M.takes hw)
theorem CanonIs.good (h : CanonIs a nx ac X Y) : goodB a X Y = true := by
 obtain ⟨R, C, l, M, hm, rfl, rfl⟩ := h
 exact num_good (Aut.of M.good) hm
theorem CanonIs.ends (h : CanonIs a nx ac X Y) : Y.length = X.length := (Aut.of h.good).ends
theorem CanonIs.most (h : CanonIs a nx ac X Y) : X.length ≤ nx.length := by
 obtain ⟨R, C, l, M, hm, rfl, rfl⟩ := h
 rw [num_length]
 refine Nat.le_trans (MetIs.most hm) ?_
 rw [bnx_length]
 exact keptTo_length R C nx.length
end

end Go.Proofs.Ytelkjbacdpmnfaa.A

namespace Go.Proofs.Ytelkjbacdpmnfaa.A
open Go.RowKit Go.W_.PrintWords Go.W_.PrintLast Go.W_.PrintMore
attribute [local go_sem] max2_int min2_int max_two min_two max_three min_three max_four min_four
set_option linter.unusedVariables false
set_option linter.unusedSimpArgs false

section
variable {n L : Nat} {st : Nat → Nat → Nat} {acc : Nat → Bool}
def Eqv (K : Nat → Nat → Prop) : Prop := (∀ s, K s s) ∧ (∀ s u, K s u → K u s) ∧ ∀ s u v, K s u → K u v → K s v
/-- Of each state below k the least one that K ties it to. -/
def NormTo (K : Nat → Nat → Prop) (k : Nat) (f : Nat → Int) : Prop := ∀ s, s < k → ∃ u : Nat, f s = (u : Int) ∧ u ≤ s ∧ K u s ∧ ∀ v, v < u → ¬ K v s
def Nrm (n : Nat) (f : Nat → Int) : Prop := ∀ s, s < n → ∃ u : Nat, f s = (u : Int) ∧ u ≤ s ∧ f u = (u : Int)
def Shows (L : Nat) (st : Nat → Nat → Nat) (f : Nat → Int) (s u : Nat) : Prop := f s = f u ∧ ∀ c, c < L → f (st s c) = f (st u c)
theorem shows_eqv (f : Nat → Int) : Eqv (Shows L st f) := ⟨fun _ => ⟨rfl, fun _ _ => rfl⟩, fun _ _ h => ⟨h.1.symm, fun c hc => (h.2 c hc).symm⟩, fun _ _ _ h k => ⟨h.1.trans k.1, fun c hc => (h.2 c hc).trans (k.2 c hc)⟩⟩
theorem ends_eqv (acc : Nat → Bool) : Eqv (fun s u => acc s = acc u) := ⟨fun _ => rfl, fun _ _ h => h.symm, fun _ _ _ h k => h.trans k⟩
theorem NormTo.iff {K : Nat → Nat → Prop} (hK : Eqv K) {k : Nat} {f : Nat → Int} (h : NormTo K k f) {s u : Nat} (hs : s < k) (hu : u < k) : f s = f u ↔ K s u := by
 obtain ⟨a, e1, l1, k1, m1⟩ := h s hs
 obtain ⟨b, e2, l2, k2, m2⟩ := h u hu
 rw [e1, e2]
 constructor
 ·intro e
  obtain rfl : a = b := by omega
  exact hK.2.2 _ _ _ (hK.2.1 _ _ k1) k2
 ·intro e
  rcases Nat.lt_trichotomy a b with h1 | h1 | h1
  ·exact absurd (hK.2.2 _ _ _ k1 e) (m2 a h1)
  ·rw [h1]
  ·exact absurd (hK.2.2 _ _ _ k2 (hK.2.1 _ _ e)) (m1 b h1)
theorem NormTo.nrm {K : Nat → Nat → Prop} (hK : Eqv K) {k : Nat} {f : Nat → Int} (h : NormTo K k f) : Nrm k f := by
 intro s hs
 obtain ⟨a, e1, l1, k1, m1⟩ := h s hs
 exact ⟨a, e1, l1, ((h.iff hK (by omega) hs).2 k1).trans e1⟩
/-- A state's row is gone through: it stands for itself. -/
theorem NormTo.own {K : Nat → Nat → Prop} (hK : Eqv K) {k : Nat} {f g : Nat → Int} (h : NormTo K k f) (hg : ∀ s, s < k → g s = f s) (hk : g k = (k : Int)) (hn : ∀ v, v < k → ¬ K v k) : NormTo K (k + 1) g := by
 intro s hs
 rcases Nat.lt_or_ge s k with h1 | h1
 ·obtain ⟨a, e1, r⟩ := h s h1
  exact ⟨a, (hg s h1).trans e1, r⟩
 ·obtain rfl : s = k := by omega
  exact ⟨s, hk, Nat.le_refl _, hK.1 s, hn⟩
theorem NormTo.tied {K : Nat → Nat → Prop} {k u : Nat} {f g : Nat → Int} (h : NormTo K k f) (hg : ∀ s, s < k → g s = f s) (hu : u < k) (hk : g k = (u : Int)) (hK : K u k) (hn : ∀ v, v < u → ¬ K v k) : NormTo K (k + 1) g := by
 intro s hs
 rcases Nat.lt_or_ge s k with h1 | h1
 ·obtain ⟨a, e1, r⟩ := h s h1
  exact ⟨a, (hg s h1).trans e1, r⟩
 ·obtain rfl : s = k := by omega
  exact ⟨u, hk, by omega, hK, hn⟩
/-- One that stands for another is none that ties first. -/
theorem NormTo.skip {K : Nat → Nat → Prop} (hK : Eqv K) {k u : Nat} {f : Nat → Int} (h : NormTo K k f) (hu : u < k) (hne : f u ≠ (u : Int)) (hn : ∀ v, v < u → ¬ K v k) : ¬ K u k := by
 intro hc
 obtain ⟨a, e1, l1, k1, _⟩ := h u hu
 rcases Nat.lt_or_ge a u with h1 | h1
 ·exact hn a h1 (hK.2.2 _ _ _ k1 hc)
 ·obtain rfl : a = u := by omega
  exact hne e1
/-- What holds of the states of a round. -/
structure Kept (n L : Nat) (st : Nat → Nat → Nat) (acc : Nat → Bool) (f : Nat → Int) : Prop where
 nrm : Nrm n f
 parts : Parts n acc f
 coarse : Coarse n L st acc f
theorem Kept.start {f : Nat → Int} (h : NormTo (fun s u => acc s = acc u) n f) : Kept n L st acc f :=
 ⟨h.nrm (ends_eqv acc), fun _ _ hs hu e => (h.iff (ends_eqv acc) hs hu).1 e, fun _ _ hs hu a => (h.iff (ends_eqv acc) hs hu).2 a.ends⟩
theorem finer_shows {f g : Nat → Int} (h : NormTo (Shows L st f) n g) : Finer n f g := fun _ _ hs hu e => ((h.iff (shows_eqv f) hs hu).1 e).1
theorem Kept.next {f g : Nat → Int} (hC : Shuts n L st) (k : Kept n L st acc f) (h : NormTo (Shows L st f) n g) : Kept n L st acc g :=
 ⟨h.nrm (shows_eqv f), k.parts.finer (finer_shows h), fun s u hs hu a => (h.iff (shows_eqv f) hs hu).2 ⟨k.coarse s u hs hu a, fun c hc => k.coarse _ _ (hC s c hs hc) (hC u c hu hc) (a.step hc)⟩⟩
theorem Nrm.same {f g : Nat → Int} (hf : Nrm n f) (hg : Nrm n g) (h : Finer n f g) (k : Finer n g f) {s : Nat} (hs : s < n) : f s = g s := by
 obtain ⟨u, e1, l1, i1⟩ := hf s hs
 obtain ⟨v, e2, l2, i2⟩ := hg s hs
 have a1 := k u s (by omega) hs (i1.trans e1.symm)
 have a2 := h v s (by omega) hs (i2.trans e2.symm)
 obtain ⟨x, b1, b2, _⟩ := hg u (by omega)
 obtain ⟨y, c1, c2, _⟩ := hf v (by omega)
 rw [e1, e2]
 omega
/-- Where a round changes something, there are more. -/
theorem Kept.more {f g : Nat → Int} (k : Kept n L st acc f) (h : NormTo (Shows L st f) n g) {s : Nat} (hs : s < n) (hne : g s ≠ f s) : cnt n f < cnt n g := by
 refine Nat.lt_of_le_of_ne (cnt_le (finer_shows h)) fun e => hne ?_
 exact ((h.nrm (shows_eqv f)).same k.nrm (finer_back (finer_shows h) e) (finer_shows h) hs)
/-- Where it changes nothing, they are alike. -/
theorem Kept.ends {B : List Int} (hB : B.length = n) {g : Nat → Int} (hC : Shuts n L st) (k : Kept n L st acc (fun s => B.getD s 0)) (h : NormTo (Shows L st (fun s => B.getD s 0)) n g) (he : ∀ s, s < n → g s = B.getD s 0) : IsClasses n L st acc B := by
 refine ⟨hB, fun s hs => ?_⟩
 obtain ⟨u, e1, l1, i1⟩ := k.nrm s hs
 have hst : Stable n L st (fun s => B.getD s 0) := fun s u hs hu e c hc => ((h.iff (shows_eqv _) hs hu).1 (((he s hs).trans e).trans (he u hu).symm)).2 c hc
 refine ⟨u, e1, l1, alike_of hC hst k.parts (by omega) hs (i1.trans e1.symm), fun v hv a => ?_⟩
 have h1 := k.coarse v s (by omega) hs a
 obtain ⟨x, e2, l2, _⟩ := k.nrm v (by omega)
 simp only at h1 e1 e2
 omega
/-- Blocks that are told apart by what is alike, as the least of each. -/
theorem classes_of {B C : List Int} (hB : B.length = n) (hb : ∀ s u, s < n → u < n → (B.getD s 0 = B.getD u 0 ↔ Alike L st acc s u)) (hC : C.length = n) (h : ∀ s, s < n → C.getD s 0 = ((B.idxOf (B.getD s 0) : Nat) : Int)) : IsClasses n L st acc C := by
 refine ⟨hC, fun s hs => ⟨_, h s hs, ?_, ?_, fun v hv a => ?_⟩⟩
 ·rw [List.getD_eq_getElem?_getD, List.getElem?_eq_getElem (by omega)]
  simp only [Option.getD_some]
  refine Nat.le_of_not_lt fun hlt => ?_
  have h2 := List.not_of_lt_findIdx (p := (· == B[s])) (xs := B) (i := s) hlt
  simp at h2
 ·have hm : B.getD s 0 ∈ B := by
   rw [List.getD_eq_getElem?_getD, List.getElem?_eq_getElem (by omega)]
   exact List.getElem_mem (by omega)
  have hi := List.idxOf_lt_length_iff.2 hm
  refine (hb _ s (by omega) hs).1 ?_
  rw [List.getD_eq_getElem?_getD (l := B), List.getElem?_eq_getElem hi]
  exact List.getElem_idxOf hi
 ·have hm : B.getD s 0 ∈ B := by
   rw [List.getD_eq_getElem?_getD, List.getElem?_eq_getElem (by omega)]
   exact List.getElem_mem (by omega)
  have hi := List.idxOf_lt_length_iff.2 hm
  have e := (hb v s (by omega) hs).2 a
  have h2 := List.not_of_lt_findIdx (p := (· == B.getD s 0)) (xs := B) (i := v) hv
  rw [List.getD_eq_getElem?_getD (i := v), List.getElem?_eq_getElem (by omega)] at e
  simp only [Option.getD_some] at e
  rw [e] at h2
  simp at h2
end

end Go.Proofs.Ytelkjbacdpmnfaa.A

namespace Go.Proofs.Ytelkjbacdpmnfaa.A
open Go.RowKit Go.W_.PrintWords Go.W_.PrintLast Go.W_.PrintMore
attribute [local go_sem] max2_int min2_int max_two min_two max_three min_three max_four min_four
set_option linter.unusedVariables false
set_option linter.unusedSimpArgs false

def endsTo (ac : List Bool) (i : Nat) : List Int := (List.range ac.length).map fun s => if s < i ∧ ac.getD s false = true then 1 else 0
theorem endsTo_zero (ac : List Bool) : endsTo ac 0 = List.replicate ac.length 0 := by
 apply List.ext_getElem (by simp [endsTo])
 intro i h1 h2
 simp [endsTo]
theorem endsTo_getD (ac : List Bool) {i s : Nat} (hs : s < ac.length) : (endsTo ac i).getD s 0 = if s < i ∧ ac.getD s false = true then 1 else 0 := by
 unfold endsTo
 rw [List.getD_eq_getElem?_getD, List.getElem?_map, List.getElem?_range hs]
 rfl
theorem endsTo_set (ac : List Bool) {i : Nat} (hi : i < ac.length) (h : ac.getD i false = true) : (endsTo ac i).set i 1 = endsTo ac (i + 1) := by
 apply List.ext_getElem (by simp [endsTo])
 intro j h1 h2
 simp only [endsTo, List.getElem_set, List.getElem_map, List.getElem_range]
 by_cases hj : i = j
 ·subst hj
  simp
  simpa using h
 ·rw [if_neg hj]
  by_cases h3 : j < i
  ·simp [h3, show j < i + 1 by omega]
  ·simp [h3, show ¬ j < i + 1 by omega]
theorem endsTo_skip (ac : List Bool) {i : Nat} (h : ac.getD i false = false) : endsTo ac (i + 1) = endsTo ac i := by
 apply List.ext_getElem (by simp [endsTo])
 intro j h1 h2
 simp only [endsTo, List.getElem_map, List.getElem_range]
 by_cases hj : j = i
 ·subst hj
  rw [if_neg (by simp only [h]; simp), if_neg (by simp)]
 ·by_cases h3 : j < i
  ·simp [h3, show j < i + 1 by omega]
  ·simp [h3, show ¬ j < i + 1 by omega]
theorem cnt_pos {n : Nat} {f : Nat → Int} (h : 0 < n) : 0 < cnt n f := List.countP_pos_iff.2 ⟨0, List.mem_range.2 h, isFirst_iff.2 fun u hu => absurd hu (Nat.not_lt_zero _)⟩
theorem split_ok {a : Int} {nx : List (List Int)} {ac : List Bool} (h : Aut a nx ac) {B : List Int} (hB : B.length = nx.length) (hr : ∀ x ∈ B, 0 ≤ x ∧ x < 1000) {c : Nat} (hc : c < a.toNat) : splitOk nx B (c : Int) = true := by
 unfold splitOk
 simp only [Bool.and_eq_true, decide_eq_true_eq, List.all_eq_true]
 have hn2 := h.n2
 refine ⟨⟨⟨⟨by omega, hB.symm⟩, by omega⟩, fun r hr => ?_⟩, fun x hx => ?_⟩
 ·obtain ⟨s, hs, rfl⟩ := List.mem_iff_getElem.1 hr
  have e : nx[s] = nx.getD s [] := by rw [List.getD_eq_getElem?_getD, List.getElem?_eq_getElem hs]; rfl
  rw [e, Int.toNat_natCast, hB]
  have h1 := h.len hs
  have h2 := h.to_ s c hs (by omega)
  exact ⟨⟨by omega, h2.1⟩, h2.2⟩
 ·have := hr x hx
  simp only [Lit.wf, Bool.and_eq_true, decide_eq_true_eq]
  exact ⟨by show (-9223372036854775808 : Int) ≤ _; omega, by show _ ≤ (9223372036854775807 : Int); omega⟩
section
variable {a : Int} {nx : List (List Int)} {ac : List Bool}
/-- Blocks that are told apart by what is alike. -/
def IsBlocks (a : Int) (nx : List (List Int)) (ac : List Bool) (B : List Int) : Prop := B.length = nx.length ∧ ∀ s u, s < nx.length → u < nx.length → (B.getD s 0 = B.getD u 0 ↔ Alike a.toNat (stL nx) (acL ac) s u)
theorem ev_blocks_l2 (h : Aut a nx ac) {B0 : List Int} {many : Nat} (hp : Parts nx.length (acL ac) (fL B0)) (hm : many = 0 ∨ many = cnt nx.length (fL B0))
  (hnext : ∀ (B : List Int) (m : Nat), many < m → m = cnt nx.length (fL B) → Parts nx.length (acL ac) (fL B) → B.length = nx.length → (∀ x ∈ B, 0 ≤ x ∧ x < 1000) → Coarse nx.length a.toNat (stL nx) (acL ac) (fL B) → ∃ R, Ev (fun k => least_blocks.l1 k B (m : Int) a nx ac) R ∧ IsBlocks a nx ac R) :
  ∀ (d c : Nat) (B : List Int) (m : Nat), c + d = a.toNat → Round nx.length a.toNat nx (acL ac) B0 B c → (0 < c → m = cnt nx.length (fL B)) → ∃ R, Ev (fun k => least_blocks.l2 k B (m : Int) (many : Int) a (c : Int) a nx ac) R ∧ IsBlocks a nx ac R := by
 have ha1 := h.a1
 have ha2 := h.a2
 have hn2 := h.n2
 have hn1 := h.n1
 intro d
 induction d with
 | zero =>
  intro c B m hc hR hmc
  obtain rfl : c = a.toNat := by omega
  have hmc := hmc (by omega)
  have hcp := cnt_pos (n := nx.length) (f := fL B) (by omega)
  by_cases he : m = many
  ·refine ⟨B, Ev.step (f := fun _ => some B) (fun k => ?_) (Ev.now _), hR.len, fun s u hs hu => ?_⟩
   ·simp only [least_blocks.l2]
    rw [if_neg (by omega), if_pos (by omega)]
   ·exact blocks_iff hR (by omega) hp h.shuts hs hu
  ·have hlt := cnt_le hR.fine
   obtain ⟨R, hE, hI⟩ := hnext B m (by omega) hmc (hp.finer hR.fine) hR.len hR.low hR.coarse
   refine ⟨R, Ev.step (fun k => ?_) hE, hI⟩
   simp only [least_blocks.l2]
   rw [if_neg (by omega), if_neg (by omega)]
 | succ d ih =>
  intro c B m hc hR hmc
  have hcl : c < a.toNat := by omega
  have hR2 := hR.next hn2 hcl h.shuts
  have hl := hR.len
  obtain ⟨R, hE, hI⟩ := ih (c + 1) (splitTo nx B c B.length) ((facesMet nx B c B.length).length) (by omega) hR2 (fun _ => by rw [← hl, ← split_cnt])
  refine ⟨R, Ev.step (fun k => ?_) hE, hI⟩
  simp only [least_blocks.l2]
  have hf : least_split.f a nx ac B (c : Int) = some (splitTo nx B c B.length, (((facesMet nx B c B.length).length : Nat) : Int)) := by
   unfold least_split.f
   rw [if_pos (split_ok h hR.len hR.low hcl), Int.toNat_natCast]
  rw [if_pos (by omega), hf, wadd (by omega) (by omega), nat_succ_cast]
  rfl
theorem ev_blocks_l1 (h : Aut a nx ac) : ∀ (d : Nat) (B : List Int) (many : Nat), nx.length - many = d → (many = 0 ∨ many = cnt nx.length (fL B)) → Parts nx.length (acL ac) (fL B) → B.length = nx.length → (∀ x ∈ B, 0 ≤ x ∧ x < 1000) → Coarse nx.length a.toNat (stL nx) (acL ac) (fL B) → ∃ R, Ev (fun k => least_blocks.l1 k B (many : Int) a nx ac) R ∧ IsBlocks a nx ac R := by
 intro d
 induction d using Nat.strongRecOn with
 | _ d ih =>
  intro B many hd hm hp hl hr hco
  have hle := cnt_le_n nx.length (fL B)
  obtain ⟨R, hE, hI⟩ := ev_blocks_l2 h hp hm (fun B' m' h1 h2 h3 h4 h5 h6 => ih (nx.length - m') (by have := cnt_le_n nx.length (fL B'); omega) B' m' rfl (.inr h2) h3 h4 h5 h6) a.toNat 0 B many (by omega) (Round.zero hl hco hr) (fun h0 => absurd h0 (Nat.lt_irrefl _))
  exact ⟨R, Ev.step (fun k => rfl) hE, hI⟩
theorem ev_blocks (h : Aut a nx ac) : ∃ B, Ev (fun k => least_blocks.f k a nx ac) B ∧ IsBlocks a nx ac B := by
 have hn2 := h.n2
 have hen := h.ends
 have h0 : ∃ R, Ev (fun k => least_blocks.l1 k (endsTo ac ac.length) ((0 : Nat) : Int) a nx ac) R ∧ IsBlocks a nx ac R := by
  have hg : ∀ s, s < nx.length → fL (endsTo ac ac.length) s = if acL ac s = true then 1 else 0 := fun s hs => by
   unfold fL acL
   rw [endsTo_getD ac (by omega)]
   simp [show s < ac.length by omega]
  refine ev_blocks_l1 h nx.length (endsTo ac ac.length) 0 (by omega) (.inl rfl) (fun s u hs hu e => ?_) (by simp [endsTo, hen]) (fun x hx => ?_) (fun s u hs hu al => ?_)
  ·rw [hg s hs, hg u hu] at e
   cases h1 : acL ac s <;> cases h2 : acL ac u <;> simp_all
  ·unfold endsTo at hx
   obtain ⟨s, _, rfl⟩ := List.mem_map.1 hx
   split <;> omega
  ·rw [hg s hs, hg u hu, al.ends]
 obtain ⟨R, hE, hI⟩ := h0
 have key : ∀ (d i : Nat), i + d = ac.length → Ev (fun k => least_blocks.l0 k (endsTo ac i) ac (ac.length : Int) (i : Int) a nx ac) R := by
  intro d
  induction d with
  | zero =>
   intro i hi
   obtain rfl : i = ac.length := by omega
   refine Ev.step (fun k => ?_) hE
   simp only [least_blocks.l0]
   rw [if_neg (by omega)]
   rfl
  | succ d ih =>
   intro i hi
   have hil : i < ac.length := by omega
   have hz : (endsTo ac i).length = ac.length := by simp [endsTo]
   cases hb : ac.getD i false with
   | true =>
    refine Ev.step (fun k => ?_) (ih (i + 1) (by omega))
    simp only [least_blocks.l0, rdb_nat, hb, hz, Int.toNat_natCast]
    rw [if_pos (by omega), if_pos (by omega), if_pos (by omega), if_pos trivial, if_pos (by omega), endsTo_set ac hil hb, wadd (by omega) (by omega), nat_succ_cast]
   | false =>
    refine Ev.step (fun k => ?_) (ih (i + 1) (by omega))
    simp only [least_blocks.l0, rdb_nat, hb]
    rw [if_pos (by omega), if_pos (by omega), if_pos (by omega), if_neg (by decide), endsTo_skip ac hb, wadd (by omega) (by omega), nat_succ_cast]
 refine ⟨R, Ev.congr (fun k => ?_) (key ac.length 0 (by omega)), hI⟩
 unfold least_blocks.f
 rw [if_pos (by omega), if_pos (by omega), endsTo_zero, hen, Int.toNat_natCast]
 rfl
theorem ev_Index (l : List Int) (v : Int) (hl : l.length ≤ 1000000) : ∀ (d i : Nat), i + d = l.length → v ∉ l.take i → v ∈ l → Ev (fun k => slices_Index_int_int.l0 k l v (l.length : Int) (i : Int)) ((l.idxOf v : Nat) : Int) := by
 intro d
 induction d with
 | zero =>
  intro i hi hn hm
  rw [List.take_of_length_le (by omega)] at hn
  exact absurd hm hn
 | succ d ih =>
  intro i hi hn hm
  have hil : i < l.length := by omega
  by_cases he : v = l.getD i 0
  ·refine Ev.step (f := fun _ => some (i : Int)) (fun k => ?_) ?_
   ·simp only [slices_Index_int_int.l0, rd_nat]
    rw [if_pos (by omega), if_pos (by omega), if_pos (by omega), if_pos he]
   ·have e : l.idxOf v = i := by
     have h1 : l = l.take i ++ v :: l.drop (i + 1) := by
      rw [he, ← drop_cons_getD l 0 i hil, List.take_append_drop]
     rw [h1, List.idxOf_append, if_neg hn, List.idxOf_cons_self, List.length_take]
     omega
    rw [e]
    exact Ev.now _
  ·refine Ev.step (fun k => ?_) (ih (i + 1) (by omega) ?_ hm)
   ·simp only [slices_Index_int_int.l0, rd_nat]
    rw [if_pos (by omega), if_pos (by omega), if_pos (by omega), if_neg he, wadd (by omega) (by omega), nat_succ_cast]
   ·rw [List.take_succ_eq_append_getElem hil, List.mem_append, not_or]
    refine ⟨hn, fun h => he ?_⟩
    rw [List.mem_singleton.1 h, List.getD_eq_getElem?_getD, List.getElem?_eq_getElem hil]
    rfl
theorem ev_leastClasses (hg : goodB a nx ac = true) : ∃ C, Ev (fun k => least_Classes.f k a nx ac) C ∧ IsClasses nx.length a.toNat (stL nx) (acL ac) C := by
 have h := Aut.of hg
 have hn2 := h.n2
 obtain ⟨B, hE, hl, hB⟩ := ev_blocks h
 have key : ∀ (d i : Nat), i + d = B.length → Ev (fun k => least_Classes.l0 k B ((B.take i).map fun v => ((B.idxOf v : Nat) : Int)) B (B.length : Int) (i : Int)) (B.map fun v => ((B.idxOf v : Nat) : Int)) := by
  intro d
  induction d with
  | zero =>
   intro i hi
   rw [List.take_of_length_le (by omega)]
   refine Ev.step (f := fun _ => some _) (fun k => ?_) (Ev.now _)
   simp only [least_Classes.l0]
   rw [if_neg (by omega)]
  | succ d ih =>
   intro i hi
   have hil : i < B.length := by omega
   have hI := ev_Index B (B.getD i 0) (by omega) B.length 0 (by omega) (by simp) (getD_in B 0 hil)
   refine Ev.step (f := fun k => (slices_Index_int_int.f k B (B.getD i 0)).bind fun t => least_Classes.l0 k B ((B.take i).map (fun v => ((B.idxOf v : Nat) : Int)) ++ [t]) B (B.length : Int) ((i + 1 : Nat) : Int)) (fun k => ?_) ?_
   ·simp only [least_Classes.l0, rd_nat, List.length_map, List.length_take]
    rw [if_pos (by omega), if_pos (by omega), if_pos (by omega), wadd (by omega) (by omega), nat_succ_cast]
    simp only [if_pos (show min i B.length < 17592186044416 by omega)]
   ·refine Ev.bind (f := fun k t => least_Classes.l0 k B ((B.take i).map (fun v => ((B.idxOf v : Nat) : Int)) ++ [t]) B (B.length : Int) ((i + 1 : Nat) : Int)) (a := ((B.idxOf (B.getD i 0) : Nat) : Int)) hI ?_
    have e : (B.take i).map (fun v => ((B.idxOf v : Nat) : Int)) ++ [((B.idxOf (B.getD i 0) : Nat) : Int)] = (B.take (i + 1)).map fun v => ((B.idxOf v : Nat) : Int) := by
     rw [List.take_succ_eq_append_getElem hil, List.map_append, List.getD_eq_getElem?_getD, List.getElem?_eq_getElem hil]
     rfl
    rw [e]
    exact ih (i + 1) (by omega)
 refine ⟨B.map fun v => ((B.idxOf v : Nat) : Int), ?_, classes_of hl hB (by simp [hl]) (fun s hs => ?_)⟩
 ·refine Ev.congr (f := fun k => (least_blocks.f k a nx ac).bind fun t => least_Classes.l0 k t [] t (t.length : Int) 0) (fun k => ?_) ?_
  ·unfold least_Classes.f thompson_Good.f
   rw [hg]
   rfl
  exact Ev.bind (f := fun k t => least_Classes.l0 k t [] t (t.length : Int) 0) hE (key B.length 0 (by omega))
 ·rw [List.getD_eq_getElem?_getD, List.getElem?_map, List.getElem?_eq_getElem (by omega), List.getD_eq_getElem?_getD, List.getElem?_eq_getElem (by omega)]
  rfl
end

end Go.Proofs.Ytelkjbacdpmnfaa.A

namespace Go.Proofs.Ytelkjbacdpmnfaa.A
open Go.RowKit Go.W_.PrintWords Go.W_.PrintLast Go.W_.PrintMore
attribute [local go_sem] max2_int min2_int max_two min_two max_three min_three max_four min_four
set_option linter.unusedVariables false
set_option linter.unusedSimpArgs false

end Go.Proofs.Ytelkjbacdpmnfaa.A

namespace Go.Proofs.Ytelkjbacdpmnfaa.A
open Go.RowKit Go.W_.PrintWords Go.W_.PrintLast Go.W_.PrintMore
attribute [local go_sem] max2_int min2_int max_two min_two max_three min_three max_four min_four
set_option linter.unusedVariables false
set_option linter.unusedSimpArgs false

section
variable {a : Int} {nx : List (List Int)} {ac : List Bool}
theorem ev_canon_bad (hg : goodB a nx ac = false) : Ev (fun k => number_Canon.f k a nx ac) (0, [], [], false) := by
 unfold number_Canon.f
 exact Ev.bind (ev_leastOf_bad hg) (Ev.congr (f := fun _ => some (0, [], [], false)) (fun k => by simp) (Ev.now _))
theorem ev_numdOf_bad (hg : goodB a nx ac = false) : Ev (fun k => number_Of.f k a nx ac) (0, [], [], false) := by
 refine Ev.congr (f := fun _ => some (0, [], [], false)) (fun k => ?_) (Ev.now _)
 unfold number_Of.f thompson_Good.f
 simp [hg]
/-- Alike in all? -/
def sameB (a : Int) (X : List (List Int)) (Y : List Bool) (b : Int) (X' : List (List Int)) (Y' : List Bool) : Bool := decide (a = b) && (decide (Y = Y') && decide (X = X'))
theorem good_sameSmall {a : Int} {X : List (List Int)} {Y : List Bool} (hg : goodB a X Y = true) : sameSmall X Y := by
 have h := Aut.of hg
 have h2 := h.n2
 have h3 := h.ends
 have ha := h.a2
 refine ⟨⟨by omega, fun r hr => ?_⟩, by omega⟩
 obtain ⟨i, hi, rfl⟩ := List.mem_iff_getElem.1 hr
 have h4 := h.rows i hi
 rw [List.getD_eq_getElem?_getD, List.getElem?_eq_getElem hi, Option.getD_some] at h4
 omega
theorem ev_same {a b : Int} {X X' : List (List Int)} {Y Y' : List Bool} (h : sameSmall X Y) (h' : sameSmall X' Y') : Ev (fun _ => number_Same.f a X Y b X' Y') (sameB a X Y b X' Y') := by
 refine Ev.congr (f := fun _ => some (sameB a X Y b X' Y')) (fun k => ?_) (Ev.now _)
 unfold number_Same.f
 rw [if_pos ⟨h, h'⟩]
 rfl
/-- Whether two automata take the same rows, as it is told. -/
def alikeB (a : Int) (X : List (List Int)) (Y : List Bool) (b : Int) (X' : List (List Int)) (Y' : List Bool) (u v : Bool) : Bool := if u = true then (if v = true then sameB a X Y b X' Y' else false) else false
theorem ev_alike {b : Int} {nx' : List (List Int)} {ac' : List Bool} {X X' : List (List Int)} {Y Y' : List Bool} {c d : Int} {u v : Bool} (h : Ev (fun k => number_Canon.f k a nx ac) (c, X, Y, u)) (h' : Ev (fun k => number_Canon.f k b nx' ac') (d, X', Y', v)) (hs : u = true → v = true → sameSmall X Y ∧ sameSmall X' Y') : Ev (fun k => number_Alike.f k a nx ac b nx' ac') (alikeB c X Y d X' Y' u v) := by
 unfold number_Alike.f
 refine Ev.bind h (Ev.bind h' ?_)
 unfold alikeB
 cases u with
 | false => exact Ev.congr (f := fun _ => some false) (fun k => by simp) (Ev.now _)
 | true =>
  cases v with
  | false => exact Ev.congr (f := fun _ => some false) (fun k => by simp) (Ev.now _)
  | true =>
   simp only [if_true]
   exact Ev.bind (ev_same (hs rfl rfl).1 (hs rfl rfl).2) (Ev.now _)
end

end Go.Proofs.Ytelkjbacdpmnfaa.A

namespace Go.Proofs.Ytelkjbacdpmnfaa.A
open Go.RowKit Go.W_.PrintWords Go.W_.PrintLast Go.W_.PrintMore
attribute [local go_sem] max2_int min2_int max_two min_two max_three min_three max_four min_four
set_option linter.unusedVariables false
set_option linter.unusedSimpArgs false

theorem ev_refReach_l1 {a : Int} {nx : List (List Int)} {ac : List Bool} (h : Aut a nx ac) (i : Nat)
  (hnext : ∀ (out : List Bool) (l : List Nat), i < l.length → Bfs nx.length a.toNat (stL nx) out l (i + 1) 0 → ∃ R, Ev (fun k => cr21_Reach.l0 k out (castL l) ((i + 1 : Nat) : Int) a nx ac) R ∧ IsReach nx.length a.toNat (stL nx) R) :
  ∀ (d c : Nat) (out : List Bool) (l : List Nat), c + d = a.toNat → i < l.length → Bfs nx.length a.toNat (stL nx) out l i c → ∃ R, Ev (fun k => cr21_Reach.l1 k out (castL l) (i : Int) (c : Int) a nx ac) R ∧ IsReach nx.length a.toNat (stL nx) R := by
 intro d
 induction d with
 | zero =>
  intro c out l hc hi hB
  obtain rfl : c = a.toNat := by omega
  obtain ⟨R, hR, hI⟩ := hnext out l hi (hB.turn hi)
  refine ⟨R, Ev.step (f := fun k => cr21_Reach.l0 k out (castL l) ((i + 1 : Nat) : Int) a nx ac) (fun k => ?_) hR, hI⟩
  have := hB.most
  have := h.n2
  simp only [cr21_Reach.l1]
  rw [if_neg (by omega), wadd (by omega) (by omega), nat_succ_cast]
 | succ d ih =>
  intro c out l hc hi hB
  have hcl : c < a.toNat := by omega
  obtain ⟨hm, hlow⟩ := hB.cur hi
  have hl := h.len hlow
  have hst := h.st hlow hcl
  have hx := h.shuts _ c hlow hcl
  have hmo := hB.most
  have hn2 := h.n2
  have ha1 := h.a1
  have ha2 := h.a2
  have hz : (castL l).length = l.length := castL_length l
  have hol : ((stL nx (l.getD i 0) c : Nat) : Int) < (out.length : Int) := by rw [hB.len]; omega
  cases hb : out.getD (stL nx (l.getD i 0) c) false with
  | true =>
   obtain ⟨R, hR, hI⟩ := ih (c + 1) out l (by omega) hi (hB.old ((hB.mem _ hx).1 hb))
   refine ⟨R, Ev.step (f := fun k => cr21_Reach.l1 k out (castL l) (i : Int) ((c + 1 : Nat) : Int) a nx ac) (fun k => ?_) hR, hI⟩
   simp only [cr21_Reach.l1, rd_nat, castL_getD hi, rd5_nat, hst, rdb_nat, hb, hz]
   rw [if_pos (by omega), if_pos (by omega), if_pos (by omega), if_pos (by omega), if_pos (by omega), if_pos (by omega), if_pos (by omega), if_pos (by omega), if_pos hol, if_pos trivial, wadd (by omega) (by omega), nat_succ_cast]
  | false =>
   obtain ⟨R, hR, hI⟩ := ih (c + 1) (out.set (stL nx (l.getD i 0) c) true) (l ++ [stL nx (l.getD i 0) c]) (by omega) (by simp; omega) (hB.new hi hcl hx hb)
   rw [castL_snoc] at hR
   refine ⟨R, Ev.step (fun k => ?_) hR, hI⟩
   simp only [cr21_Reach.l1, rd_nat, castL_getD hi, rd5_nat, hst, rdb_nat, hb, hz, Int.toNat_natCast]
   rw [if_pos (by omega), if_pos (by omega), if_pos (by omega), if_pos (by omega), if_pos (by omega), if_pos (by omega), if_pos (by omega), if_pos (by omega), if_pos hol, if_neg (by decide), if_pos (by omega), wadd (by omega) (by omega), nat_succ_cast]
theorem ev_refReach_l0 {a : Int} {nx : List (List Int)} {ac : List Bool} (h : Aut a nx ac) :
  ∀ (m i : Nat) (out : List Bool) (l : List Nat), nx.length - i = m → Bfs nx.length a.toNat (stL nx) out l i 0 → ∃ R, Ev (fun k => cr21_Reach.l0 k out (castL l) (i : Int) a nx ac) R ∧ IsReach nx.length a.toNat (stL nx) R := by
 intro m
 induction m using Nat.strongRecOn with
 | _ m ih =>
  intro i out l hm hB
  have hmo := hB.most
  have hat := hB.at_
  have hz : (castL l).length = l.length := castL_length l
  by_cases hi : i < l.length
  ·obtain ⟨hmem, hlow⟩ := hB.cur hi
   obtain ⟨R, hR, hI⟩ := ev_refReach_l1 h i (fun out l hi hB => ih (nx.length - (i + 1)) (by have := hB.most; omega) (i + 1) out l rfl hB) a.toNat 0 out l (by omega) hi hB
   refine ⟨R, Ev.step (fun k => ?_) hR, hI⟩
   simp only [cr21_Reach.l0, hz]
   rw [if_pos (by omega)]
   rfl
  ·refine ⟨out, Ev.step (f := fun _ => some out) (fun k => ?_) (Ev.now _), hB.end_ (by omega)⟩
   simp only [cr21_Reach.l0, hz]
   rw [if_neg (by omega)]
theorem ev_refReach {a : Int} {nx : List (List Int)} {ac : List Bool} (hg : goodB a nx ac = true) : ∃ R, Ev (fun k => cr21_Reach.f k a nx ac) R ∧ IsReach nx.length a.toNat (stL nx) R := by
 have h := Aut.of hg
 have h1 := h.n1
 have h2 := h.n2
 obtain ⟨R, hR, hI⟩ := ev_refReach_l0 h nx.length 0 _ [0] (by omega) (Bfs.start (by omega))
 refine ⟨R, ?_, hI⟩
 have hGo := ev_refGood a nx ac
 rw [hg] at hGo
 unfold cr21_Reach.f
 refine Ev.bind hGo (Ev.congr (fun k => ?_) hR)
 simp only [Option.bind_some, Int.toNat_natCast, List.length_replicate]
 rw [if_pos trivial, if_pos (by omega), if_pos (by omega), if_pos (by omega)]
 simp [castL]
end Go.Proofs.Ytelkjbacdpmnfaa.A

namespace Go.Proofs.Ytelkjbacdpmnfaa.A
open Go.RowKit Go.W_.PrintWords Go.W_.PrintLast Go.W_.PrintMore
attribute [local go_sem] max2_int min2_int max_two min_two max_three min_three max_four min_four
set_option linter.unusedVariables false
set_option linter.unusedSimpArgs false

section
variable {a : Int} {nx : List (List Int)} {ac : List Bool}
/-- What is computed is the classes. -/
def Told (a : Int) (nx : List (List Int)) (ac : List Bool) (g : Nat → Option (List Int)) : Prop := ∃ R, Ev g R ∧ IsClasses nx.length a.toNat (stL nx) (acL ac) R
theorem Told.step {g f : Nat → Option (List Int)} (h : Told a nx ac f) (e : ∀ k, g (k + 1) = f k) : Told a nx ac g := by
 obtain ⟨R, hR, hI⟩ := h
 exact ⟨R, Ev.step e hR, hI⟩
theorem Told.congr {g f : Nat → Option (List Int)} (h : Told a nx ac f) (e : ∀ k, g k = f k) : Told a nx ac g := by
 obtain ⟨R, hR, hI⟩ := h
 exact ⟨R, Ev.congr e hR, hI⟩
theorem getD_set {l : List Int} {i j : Nat} {x : Int} (hi : i < l.length) : (l.set i x).getD j 0 = if i = j then x else l.getD j 0 := by
 rw [List.getD_eq_getElem?_getD, List.getD_eq_getElem?_getD, List.getElem?_set]
 split
 ·simp [hi]
 ·rfl
def SH (a : Int) (nx : List (List Int)) (now : List Int) : Nat → Nat → Prop := Shows a.toNat (stL nx) (fun s => now.getD s 0)
theorem refClasses_l5 (h : Aut a nx ac) {now next : List Int} {ch : Bool} {s u : Nat} (hN : now.length = nx.length) (hX : next.length = nx.length) (hs : s < nx.length) (hu : u < s) (he : now.getD u 0 = now.getD s 0)
  (hskip : ¬ SH a nx now u s → Told a nx ac (fun k => cr21_Classes.l4 k (nx.length : Int) now ch next (s : Int) ((u + 1 : Nat) : Int) a nx ac))
  (hset : SH a nx now u s → Told a nx ac (fun k => cr21_Classes.l3 k (nx.length : Int) now (ch || ((u : Int) != now.getD s 0)) (next.set s (u : Int)) ((s + 1 : Nat) : Int) a nx ac)) :
  ∀ (d c : Nat) (same : Bool), c + d = a.toNat → (same = true → ∀ c', c' < c → now.getD (stL nx u c') 0 = now.getD (stL nx s c') 0) → (same = false → ∃ c', c' < a.toNat ∧ now.getD (stL nx u c') 0 ≠ now.getD (stL nx s c') 0) →
   Told a nx ac (fun k => cr21_Classes.l5 k (nx.length : Int) now ch next (s : Int) (u : Int) same (c : Int) a nx ac) := by
 have ha1 := h.a1
 have ha2 := h.a2
 have hn2 := h.n2
 intro d
 induction d with
 | zero =>
  intro c same hc ht hf
  obtain rfl : c = a.toNat := by omega
  cases same with
  | true =>
   have hsh : SH a nx now u s := ⟨he, ht rfl⟩
   refine (hset hsh).step fun k => ?_
   have hr : (next.set s (u : Int)).getD s 0 = (u : Int) := by rw [getD_set (by omega), if_pos rfl]
   simp only [cr21_Classes.l5, Option.bind_some, Int.toNat_natCast, rd_nat, hr]
   rw [if_neg (by omega), if_pos trivial, if_pos (by omega), if_pos (by omega), wadd (by omega) (by omega), nat_succ_cast]
   cases ch
   ·rw [if_neg (by decide), if_pos (by omega), Bool.false_or]
   ·rw [if_pos rfl, Bool.true_or]
  | false =>
   obtain ⟨c', h1, h2⟩ := hf rfl
   refine (hskip (fun hsh => h2 (hsh.2 c' h1))).step fun k => ?_
   simp only [cr21_Classes.l5]
   rw [if_neg (by omega), if_neg (by decide), wadd (by omega) (by omega), nat_succ_cast]
 | succ d ih =>
  intro c same hc ht hf
  have hcl : c < a.toNat := by omega
  cases same with
  | true =>
   have hu' : u < nx.length := by omega
   have hx1 := h.shuts u c hu' hcl
   have hx2 := h.shuts s c hs hcl
   have hl1 := h.len hu'
   have hl2 := h.len hs
   refine (ih (c + 1) (now.getD (stL nx u c) 0 == now.getD (stL nx s c) 0) (by omega) (fun e c' hc' => ?_) (fun e => ⟨c, hcl, by simpa using e⟩)).step fun k => ?_
   ·rcases Nat.lt_or_ge c' c with h1 | h1
    ·exact ht rfl c' h1
    ·obtain rfl : c' = c := by omega
     simpa using e
   ·simp only [cr21_Classes.l5, rd5_nat, rd_nat, h.st hu' hcl, h.st hs hcl]
    rw [if_pos (by omega), if_pos trivial, if_pos (by omega), if_pos (by omega), if_pos (by omega), if_pos (by omega), if_pos (by omega), if_pos (by omega), if_pos (by omega), if_pos (by omega), if_pos (by omega), if_pos (by omega), if_pos (by omega), wadd (by omega) (by omega), nat_succ_cast]
  | false =>
   obtain ⟨c', h1, h2⟩ := hf rfl
   refine (hskip (fun hsh => h2 (hsh.2 c' h1))).step fun k => ?_
   simp only [cr21_Classes.l5]
   rw [if_pos (by omega), if_neg (by decide), wadd (by omega) (by omega), nat_succ_cast]
theorem refClasses_l4 (h : Aut a nx ac) {now next : List Int} {ch : Bool} {s : Nat} (hN : now.length = nx.length) (hX : next.length = nx.length) (hs : s < nx.length) (hT : NormTo (SH a nx now) s (fun t => next.getD t 0)) (hself : next.getD s 0 = (s : Int))
  (hl3 : ∀ next' : List Int, next'.length = nx.length → NormTo (SH a nx now) (s + 1) (fun t => next'.getD t 0) → (∀ t, t < s → next'.getD t 0 = next.getD t 0) → Told a nx ac (fun k => cr21_Classes.l3 k (nx.length : Int) now (ch || (next'.getD s 0 != now.getD s 0)) next' ((s + 1 : Nat) : Int) a nx ac)) :
  ∀ (d u : Nat), u + d = s → (∀ v, v < u → ¬ SH a nx now v s) → Told a nx ac (fun k => cr21_Classes.l4 k (nx.length : Int) now ch next (s : Int) (u : Int) a nx ac) := by
 have hn2 := h.n2
 intro d
 induction d with
 | zero =>
  intro u hu hn
  obtain rfl : u = s := by omega
  refine (hl3 next hX (hT.own (shows_eqv _) (fun _ _ => rfl) hself hn) (fun _ _ => rfl)).step fun k => ?_
  simp only [cr21_Classes.l4, rd_nat]
  rw [if_neg (by omega), wadd (by omega) (by omega), nat_succ_cast]
  cases ch
  ·rw [if_neg (by decide), if_pos (by omega), if_pos (by omega), if_pos (by omega), Bool.false_or]
  ·rw [if_pos rfl, Bool.true_or]
 | succ d ih =>
  intro u hu hn
  have hul : u < s := by omega
  have skip : ¬ SH a nx now u s → Told a nx ac (fun k => cr21_Classes.l4 k (nx.length : Int) now ch next (s : Int) ((u + 1 : Nat) : Int) a nx ac) := fun hk => ih (u + 1) (by omega) (fun v hv => by
   rcases Nat.lt_or_ge v u with h1 | h1
   ·exact hn v h1
   ·obtain rfl : v = u := by omega
    exact hk)
  have j5skip : Told a nx ac (fun k => cr21_Classes.l4 k (nx.length : Int) now ch next (s : Int) ((u + 1 : Nat) : Int) a nx ac) → Told a nx ac (fun k => cr21_Classes.j5 k (nx.length : Int) now ch next (s : Int) (u : Int) true a nx ac) := fun ht => ht.step fun k => by
   simp only [cr21_Classes.j5]
   rw [if_pos trivial, wadd (by omega) (by omega), nat_succ_cast]
  by_cases hne : next.getD u 0 = (u : Int)
  ·by_cases he : now.getD u 0 = now.getD s 0
   ·have h5 := refClasses_l5 h (ch := ch) hN hX hs hul he skip (fun hsh => ?_) a.toNat 0 true (by omega) (fun _ c' hc' => absurd hc' (Nat.not_lt_zero _)) (fun e => by cases e)
    ·have hj : Told a nx ac (fun k => cr21_Classes.j5 k (nx.length : Int) now ch next (s : Int) (u : Int) false a nx ac) := h5.step fun k => by
      simp only [cr21_Classes.j5]
      rw [if_neg (by decide)]
      rfl
     refine hj.step fun k => ?_
     simp only [cr21_Classes.l4, rd_nat, he]
     rw [if_pos (by omega), if_pos (by omega), if_pos (by omega), if_pos hne, if_pos (by omega), if_pos (by omega), if_pos (by omega)]
     simp
    ·have h6 := hl3 (next.set s (u : Int)) (by simpa using hX) (hT.tied (u := u) (fun t ht => by
      show (next.set s (u : Int)).getD t 0 = next.getD t 0
      rw [getD_set (by omega), if_neg (by omega)]) hul (by
      show (next.set s (u : Int)).getD s 0 = (u : Int)
      rw [getD_set (by omega), if_pos rfl]) hsh hn) (fun t ht => by rw [getD_set (by omega), if_neg (by omega)])
     rwa [show (next.set s (u : Int)).getD s 0 = (u : Int) by rw [getD_set (by omega), if_pos rfl]] at h6
   ·refine (j5skip (skip (fun hsh => he hsh.1))).step fun k => ?_
    simp only [cr21_Classes.l4, rd_nat]
    rw [if_pos (by omega), if_pos (by omega), if_pos (by omega), if_pos hne, if_pos (by omega), if_pos (by omega), if_pos (by omega)]
    have e : (now.getD u 0 != now.getD s 0) = true := by simpa using he
    rw [e]
  ·refine (j5skip (skip (hT.skip (shows_eqv _) hul hne hn))).step fun k => ?_
   simp only [cr21_Classes.l4, rd_nat]
   rw [if_pos (by omega), if_pos (by omega), if_pos (by omega), if_neg hne]
theorem refClasses_l3 (h : Aut a nx ac) {now : List Int} (hN : now.length = nx.length)
  (hl2 : ∀ (next : List Int) (ch : Bool), next.length = nx.length → NormTo (SH a nx now) nx.length (fun t => next.getD t 0) → (ch = false → ∀ t, t < nx.length → next.getD t 0 = now.getD t 0) → (ch = true → ∃ t, t < nx.length ∧ next.getD t 0 ≠ now.getD t 0) → Told a nx ac (fun k => cr21_Classes.l2 k (nx.length : Int) next ch a nx ac)) :
  ∀ (d s : Nat) (next : List Int) (ch : Bool), s + d = nx.length → next.length = nx.length → NormTo (SH a nx now) s (fun t => next.getD t 0) → (ch = false → ∀ t, t < s → next.getD t 0 = now.getD t 0) → (ch = true → ∃ t, t < s ∧ next.getD t 0 ≠ now.getD t 0) → Told a nx ac (fun k => cr21_Classes.l3 k (nx.length : Int) now ch next (s : Int) a nx ac) := by
 have hn2 := h.n2
 intro d
 induction d with
 | zero =>
  intro s next ch hd hX hT hf ht
  obtain rfl : s = nx.length := by omega
  refine (hl2 next ch hX hT hf ht).step fun k => ?_
  simp only [cr21_Classes.l3]
  rw [if_neg (by omega)]
 | succ d ih =>
  intro s next ch hd hX hT hf ht
  have hs : s < nx.length := by omega
  have hX2 : (next.set s (s : Int)).length = nx.length := by simpa using hX
  have hold : ∀ t, t < s → (next.set s (s : Int)).getD t 0 = next.getD t 0 := fun t ht => by rw [getD_set (by omega), if_neg (by omega)]
  refine (refClasses_l4 h (ch := ch) (next := next.set s (s : Int)) hN hX2 hs (fun t ht => ?_) (by rw [getD_set (by omega), if_pos rfl]) (fun next' hl hT' ho => ?_) s 0 (by omega) (fun v hv => absurd hv (Nat.not_lt_zero _))).step fun k => ?_
  ·obtain ⟨b, e, r⟩ := hT t ht
   exact ⟨b, (hold t ht).trans e, r⟩
  ·refine ih (s + 1) next' _ (by omega) hl hT' (fun e t htl => ?_) (fun e => ?_)
   ·simp only [Bool.or_eq_false_iff, bne_eq_false_iff_eq] at e
    rcases Nat.lt_or_ge t s with h1 | h1
    ·rw [ho t h1, hold t h1, hf e.1 t h1]
    ·obtain rfl : t = s := by omega
     exact e.2
   ·simp only [Bool.or_eq_true, bne_iff_ne] at e
    rcases e with e | e
    ·obtain ⟨t, h1, h2⟩ := ht e
     exact ⟨t, by omega, by rw [ho t h1, hold t h1]; exact h2⟩
    ·exact ⟨s, by omega, e⟩
  ·simp only [cr21_Classes.l3, Int.toNat_natCast]
   rw [if_pos (by omega), if_pos (by omega), if_pos (by omega)]
   rfl
theorem refClasses_l2 (h : Aut a nx ac) : ∀ (d : Nat) (now : List Int), nx.length - cnt nx.length (fun t => now.getD t 0) = d → now.length = nx.length → Kept nx.length a.toNat (stL nx) (acL ac) (fun t => now.getD t 0) → Told a nx ac (fun k => cr21_Classes.l2 k (nx.length : Int) now true a nx ac) := by
 have hn2 := h.n2
 intro d
 induction d using Nat.strongRecOn with
 | _ d ih =>
  intro now hd hN hK
  refine (refClasses_l3 h hN (fun next ch hX hT hf ht => ?_) nx.length 0 (List.replicate nx.length 0) false (by omega) (by simp) (fun s hs => absurd hs (Nat.not_lt_zero _)) (fun _ t ht => absurd ht (Nat.not_lt_zero _)) (fun e => by cases e)).step fun k => ?_
  ·cases ch with
   | true =>
    obtain ⟨t, h1, h2⟩ := ht rfl
    have hm := hK.more hT h1 h2
    have hle := cnt_le_n nx.length (fun t => next.getD t 0)
    exact ih _ (by omega) next rfl hX (hK.next h.shuts hT)
   | false =>
    have he : next = now := by
     apply List.ext_getElem (hX.trans hN.symm)
     intro i h1 h2
     have := hf rfl i (by omega)
     rw [List.getD_eq_getElem?_getD, List.getElem?_eq_getElem h1, List.getD_eq_getElem?_getD, List.getElem?_eq_getElem h2] at this
     exact this
    subst he
    refine ⟨next, Ev.step (f := fun _ => some next) (fun k => ?_) (Ev.now _), hK.ends hN h.shuts hT (fun _ _ => rfl)⟩
    simp only [cr21_Classes.l2]
    rw [if_neg (by decide)]
  ·simp only [cr21_Classes.l2, Int.toNat_natCast]
   rw [if_pos trivial, if_pos (by omega), if_pos (by omega)]
   rfl
def EN (ac : List Bool) (s u : Nat) : Prop := acL ac s = acL ac u
theorem refClasses_l1 (h : Aut a nx ac) {now : List Int} {s : Nat} (hN : now.length = nx.length) (hs : s < nx.length) (hT : NormTo (EN ac) s (fun t => now.getD t 0)) (hself : now.getD s 0 = (s : Int))
  (hl0 : ∀ now' : List Int, now'.length = nx.length → NormTo (EN ac) (s + 1) (fun t => now'.getD t 0) → Told a nx ac (fun k => cr21_Classes.l0 k (nx.length : Int) now' ((s + 1 : Nat) : Int) a nx ac)) :
  ∀ (d u : Nat), u + d = s → (∀ v, v < u → ¬ EN ac v s) → Told a nx ac (fun k => cr21_Classes.l1 k (nx.length : Int) now (s : Int) (u : Int) a nx ac) := by
 have hn2 := h.n2
 have hen := h.ends
 intro d
 induction d with
 | zero =>
  intro u hu hn
  obtain rfl : u = s := by omega
  refine (hl0 now hN (hT.own (ends_eqv _) (fun _ _ => rfl) hself hn)).step fun k => ?_
  simp only [cr21_Classes.l1]
  rw [if_neg (by omega), wadd (by omega) (by omega), nat_succ_cast]
 | succ d ih =>
  intro u hu hn
  have hul : u < s := by omega
  have skip : ¬ EN ac u s → Told a nx ac (fun k => cr21_Classes.l1 k (nx.length : Int) now (s : Int) ((u + 1 : Nat) : Int) a nx ac) := fun hk => ih (u + 1) (by omega) (fun v hv => by
   rcases Nat.lt_or_ge v u with h1 | h1
   ·exact hn v h1
   ·obtain rfl : v = u := by omega
    exact hk)
  by_cases hne : now.getD u 0 = (u : Int)
  ·by_cases he : acL ac u = acL ac s
   ·have h6 := hl0 (now.set s (u : Int)) (by simpa using hN) (hT.tied (u := u) (fun t ht => by
     show (now.set s (u : Int)).getD t 0 = now.getD t 0
     rw [getD_set (by omega), if_neg (by omega)]) hul (by
     show (now.set s (u : Int)).getD s 0 = (u : Int)
     rw [getD_set (by omega), if_pos rfl]) he hn)
    refine h6.step fun k => ?_
    have e : (ac.getD u false == ac.getD s false) = true := by simpa [acL] using he
    simp only [cr21_Classes.l1, rd_nat, rdb_nat, e, Int.toNat_natCast]
    rw [if_pos (by omega), if_pos (by omega), if_pos (by omega), if_pos hne, if_pos (by omega), if_pos (by omega), if_pos (by omega), if_pos trivial, if_pos (by omega), wadd (by omega) (by omega), nat_succ_cast]
   ·refine (skip he).step fun k => ?_
    have e : (ac.getD u false == ac.getD s false) = false := by simpa [acL] using he
    simp only [cr21_Classes.l1, rd_nat, rdb_nat, e]
    rw [if_pos (by omega), if_pos (by omega), if_pos (by omega), if_pos hne, if_pos (by omega), if_pos (by omega), if_pos (by omega), if_neg (by decide), wadd (by omega) (by omega), nat_succ_cast]
  ·refine (skip (hT.skip (ends_eqv _) hul hne hn)).step fun k => ?_
   simp only [cr21_Classes.l1, rd_nat]
   rw [if_pos (by omega), if_pos (by omega), if_pos (by omega), if_neg hne, wadd (by omega) (by omega), nat_succ_cast]
theorem refClasses_l0 (h : Aut a nx ac) : ∀ (d s : Nat) (now : List Int), s + d = nx.length → now.length = nx.length → NormTo (EN ac) s (fun t => now.getD t 0) → Told a nx ac (fun k => cr21_Classes.l0 k (nx.length : Int) now (s : Int) a nx ac) := by
 have hn2 := h.n2
 intro d
 induction d with
 | zero =>
  intro s now hd hN hT
  obtain rfl : s = nx.length := by omega
  refine (refClasses_l2 h _ now rfl hN (Kept.start hT)).step fun k => ?_
  simp only [cr21_Classes.l0]
  rw [if_neg (by omega)]
 | succ d ih =>
  intro s now hd hN hT
  have hs : s < nx.length := by omega
  refine (refClasses_l1 h (now := now.set s (s : Int)) (by simpa using hN) hs (fun t ht => ?_) (by rw [getD_set (by omega), if_pos rfl]) (fun now' hl hT' => ih (s + 1) now' (by omega) hl hT') s 0 (by omega) (fun v hv => absurd hv (Nat.not_lt_zero _))).step fun k => ?_
  ·obtain ⟨b, e, r⟩ := hT t ht
   refine ⟨b, ?_, r⟩
   show (now.set s (s : Int)).getD t 0 = (b : Int)
   rw [getD_set (by omega), if_neg (by omega)]
   exact e
  ·simp only [cr21_Classes.l0, Int.toNat_natCast]
   rw [if_pos (by omega), if_pos (by omega), if_pos (by omega)]
   rfl
theorem ev_refClasses (hg : goodB a nx ac = true) : ∃ C, Ev (fun k => cr21_Classes.f k a nx ac) C ∧ IsClasses nx.length a.toNat (stL nx) (acL ac) C := by
 have h := Aut.of hg
 have hn2 := h.n2
 obtain ⟨R, hR, hI⟩ := refClasses_l0 h nx.length 0 (List.replicate nx.length 0) (by omega) (by simp) (fun s hs => absurd hs (Nat.not_lt_zero _))
 refine ⟨R, ?_, hI⟩
 have hGo := ev_refGood a nx ac
 rw [hg] at hGo
 unfold cr21_Classes.f
 refine Ev.bind hGo (Ev.congr (fun k => ?_) hR)
 simp only [Int.toNat_natCast]
 rw [if_pos trivial, if_pos (by omega), if_pos (by omega)]
 rfl
end

end Go.Proofs.Ytelkjbacdpmnfaa.A

namespace Go.Proofs.Ytelkjbacdpmnfaa.A
open Go.RowKit Go.W_.PrintWords Go.W_.PrintLast Go.W_.PrintMore
attribute [local go_sem] max2_int min2_int max_two min_two max_three min_three max_four min_four
set_option linter.unusedVariables false
set_option linter.unusedSimpArgs false

theorem ev_least {a : Int} {nx : List (List Int)} {ac : List Bool} (hg : goodB a nx ac = true) : ∃ R C, Ev (fun k => least_Reach.f k a nx ac) R ∧ Ev (fun k => cr21_Reach.f k a nx ac) R ∧ Ev (fun k => least_Classes.f k a nx ac) C ∧ Ev (fun k => cr21_Classes.f k a nx ac) C ∧ IsReach nx.length a.toNat (stL nx) R ∧ IsClasses nx.length a.toNat (stL nx) (acL ac) C ∧ OfOk nx ac R C := by
 obtain ⟨R, h1, h2⟩ := ev_leastReach hg
 obtain ⟨R', h1', h2'⟩ := ev_refReach hg
 obtain ⟨C, h3, h4⟩ := ev_leastClasses hg
 obtain ⟨C', h3', h4'⟩ := ev_refClasses hg
 obtain rfl := h2.unique h2'
 obtain rfl := h4.unique h4'
 exact ⟨R, C, h1, h1', h3, h3', h2, h4, ofOk_of (Aut.of hg) h2 h4⟩

end Go.Proofs.Ytelkjbacdpmnfaa.A

namespace Go.Proofs.Ytelkjbacdpmnfaa.A
open Go.RowKit Go.W_.PrintWords Go.W_.PrintLast Go.W_.PrintMore
attribute [local go_sem] max2_int min2_int max_two min_two max_three min_three max_four min_four
set_option linter.unusedVariables false
set_option linter.unusedSimpArgs false

section
variable {a : Int} {nx : List (List Int)} {ac : List Bool}
theorem ev_refNum_l1 (h : Aut a nx ac) (i : Nat)
  (hnext : ∀ (l : List Nat), i < l.length → MetIn a nx l (i + 1) 0 → ∃ m, Ev (fun k => cr22_Of.l0 k (marks 0 nx.length l) (insTo nx.length l) (castL l) ((i + 1 : Nat) : Int) a nx ac a (numTo a.toNat (stL nx) l (i + 1)) (endsAt ac l (i + 1))) (numdOf a nx ac m) ∧ MetOf a nx m) :
  ∀ (d c : Nat) (l : List Nat), c + d = a.toNat → i < l.length → MetIn a nx l i c → ∃ m, Ev (fun k => cr22_Of.l1 k (marks 0 nx.length l) (insTo nx.length l) (castL l) (i : Int) (rowTo (stL nx) l (l.getD i 0) c) (c : Int) a nx ac a (numTo a.toNat (stL nx) l i) (endsAt ac l i)) (numdOf a nx ac m) ∧ MetOf a nx m := by
 intro d
 induction d with
 | zero =>
  intro c l hc hi hB
  obtain rfl : c = a.toNat := by omega
  obtain ⟨m, hm, hI⟩ := hnext l hi (hB.turn hi)
  rw [numTo_turn hi, endsAt_turn ac hi] at hm
  refine ⟨m, Ev.step (fun k => ?_) hm, hI⟩
  obtain ⟨hx, hmem, hlow⟩ := hB.cur hi
  have hmo := hB.most
  have hn2 := h.n2
  have he := h.ends
  have ha1 := h.a1
  have hz : (castL l).length = l.length := castL_length l
  have h1 := numTo_length (L := a.toNat) (st := stL nx) (l := l) (i := i)
  have h2 := endsAt_length (l := l) (i := i) ac
  simp only [cr22_Of.l1, rd_nat, castL_getD hi, hz, rdb_nat]
  rw [if_neg (by omega), if_pos (by omega), if_pos (by omega), if_pos (by omega), if_pos (by omega), if_pos (by omega), if_pos (by omega), wadd (by omega) (by omega), nat_succ_cast]
 | succ d ih =>
  intro c l hc hi hB
  have hcl : c < a.toNat := by omega
  obtain ⟨hx, hmem, hlow⟩ := hB.cur hi
  have hl := h.len hlow
  have hst := h.st hlow hcl
  have hsh := h.shuts _ c hlow hcl
  have hmo := hB.most
  have hn2 := h.n2
  have ha1 := h.a1
  have ha2 := h.a2
  have hz : (castL l).length = l.length := castL_length l
  have hr := rowTo_length (st := stL nx) (l := l) (c := c) (l.getD i 0)
  have hk := marks_length 0 nx.length l
  have hin := insTo_length nx.length l
  by_cases hm : stL nx (l.getD i 0) c ∈ l
  ·obtain ⟨m, hm2, hI⟩ := ih (c + 1) l (by omega) hi (hB.old hx hm)
   rw [rowTo_snoc] at hm2
   refine ⟨m, Ev.step (fun k => ?_) hm2, hI⟩
   simp only [cr22_Of.l1, rd_nat, castL_getD hi, rd5_nat, rdb_nat, hst, marks_get hsh, insTo_get hsh, if_pos hm, hz]
   rw [if_pos (by omega), if_pos (by omega), if_pos (by omega), if_pos (by omega), if_pos (by omega), if_pos (by omega), if_pos (by omega), if_pos (by omega), if_pos (by rw [hin]; omega), if_pos (decide_eq_true hm), if_pos (by rw [hk]; omega), if_pos (by omega), wadd (by omega) (by omega), nat_succ_cast]
  ·obtain ⟨m, hm2, hI⟩ := ih (c + 1) (l ++ [stL nx (l.getD i 0) c]) (by omega) (by simp; omega) (hB.new hx hcl hsh hm)
   rw [getD_snoc hi, rowTo_snoc, rowTo_grow (hB.bfs.now _ hx), numTo_grow hB.bfs, endsAt_grow ac hB.bfs.at_, castL_snoc, idxOf_snoc hm] at hm2
   refine ⟨m, Ev.step (fun k => ?_) hm2, hI⟩
   simp only [cr22_Of.l1, rd_nat, castL_getD hi, rd5_nat, rdb_nat, hst, marks_get hsh, insTo_get hsh, Option.bind_some, Int.toNat_natCast, hz, marks_set hsh hm, insTo_set]
   rw [if_pos (by omega), if_pos (by omega), if_pos (by omega), if_pos (by omega), if_pos (by omega), if_pos (by omega), if_pos (by omega), if_pos (by omega), if_pos (by rw [hin]; omega), if_neg (by simpa using hm), if_pos (by rw [hk]; omega), if_pos (by omega), if_pos (by omega), if_pos (by simp), idxOf_snoc hm, wadd (by omega) (by omega), nat_succ_cast]
theorem ev_refNum_l0 (h : Aut a nx ac) :
  ∀ (m i : Nat) (l : List Nat), nx.length - i = m → MetIn a nx l i 0 → ∃ m, Ev (fun k => cr22_Of.l0 k (marks 0 nx.length l) (insTo nx.length l) (castL l) (i : Int) a nx ac a (numTo a.toNat (stL nx) l i) (endsAt ac l i)) (numdOf a nx ac m) ∧ MetOf a nx m := by
 intro m
 induction m using Nat.strongRecOn with
 | _ m ih =>
  intro i l hm hB
  have hmo := hB.most
  have hz : (castL l).length = l.length := castL_length l
  by_cases hi : i < l.length
  ·obtain ⟨R, hR, hI⟩ := ev_refNum_l1 h i (fun l hi hB => ih (nx.length - (i + 1)) (by have := hB.most; omega) (i + 1) l rfl hB) a.toNat 0 l (by omega) hi hB
   refine ⟨R, Ev.step (fun k => ?_) hR, hI⟩
   simp only [cr22_Of.l0, hz]
   rw [if_pos (by omega)]
   rfl
  ·obtain ⟨h1, h2⟩ := num_end (ac := ac) hB hi
   refine ⟨l, ?_, h1⟩
   rw [h2]
   refine Ev.step (f := fun _ => some (a, numTo a.toNat (stL nx) l i, endsAt ac l i, true)) (fun k => ?_) (Ev.now _)
   simp only [cr22_Of.l0, hz]
   rw [if_neg (by omega)]
theorem ev_refNum (hg : goodB a nx ac = true) : ∃ l, Ev (fun k => cr22_Of.f k a nx ac) (numdOf a nx ac l) ∧ MetOf a nx l := by
 have h := Aut.of hg
 have h1 := h.n1
 have h2 := h.n2
 obtain ⟨m, hm, hI⟩ := ev_refNum_l0 h nx.length 0 [0] (by omega) (MetIs.start (show 0 < nx.length by omega))
 refine ⟨m, ?_, hI⟩
 have hGo := ev_refGood a nx ac
 rw [hg] at hGo
 unfold cr22_Of.f
 refine Ev.bind hGo (Ev.congr (fun k => ?_) hm)
 have e1 : (List.replicate nx.length (0 : Int)) = marks 0 nx.length [0] := by
  apply List.ext_getElem (by simp [marks])
  intro j h5 h6
  simp only [marks, List.getElem_map, List.getElem_range, List.getElem_replicate]
  split
  next h7 =>
   obtain rfl := List.mem_singleton.1 h7
   simp
  next => rfl
 have e2 : (List.replicate nx.length false).set 0 true = insTo nx.length [0] := by
  have h3 := insTo_set (n := nx.length) (l := []) (s := 0)
  have h4 : insTo nx.length [] = List.replicate nx.length false := by
   apply List.ext_getElem (by simp [insTo])
   intro j h5 h6
   simp [insTo]
  rw [h4] at h3
  exact h3
 simp only [Option.bind_some, Int.toNat_natCast, List.length_replicate]
 rw [if_pos trivial, if_pos (by omega), if_pos (by omega), if_pos (by omega), if_pos (by omega), show (0 : Int).toNat = 0 from rfl, e1, e2]
 rfl
end

end Go.Proofs.Ytelkjbacdpmnfaa.A

namespace Go.Proofs.Ytelkjbacdpmnfaa.A
open Go.RowKit Go.W_.PrintWords Go.W_.PrintLast Go.W_.PrintMore
attribute [local go_sem] max2_int min2_int max_two min_two max_three min_three max_four min_four
set_option linter.unusedVariables false
set_option linter.unusedSimpArgs false

section
variable {a : Int} {nx : List (List Int)} {ac R : List Bool} {C : List Int}
def doneL (n : Nat) (M : List Int) : List Bool := (List.range n).map fun (x : Nat) => decide ((x : Int) ∈ M)
def atL (n : Nat) (M : List Int) : List Int := (List.range n).map fun (x : Nat) => numOf M (x : Int)
theorem doneL_getD {n : Nat} {M : List Int} {x : Nat} (hx : x < n) : (doneL n M).getD x false = decide ((x : Int) ∈ M) := by
 unfold doneL
 rw [List.getD_eq_getElem?_getD, List.getElem?_map, List.getElem?_range hx]
 rfl
theorem atL_getD {n : Nat} {M : List Int} {x : Nat} (hx : x < n) : (atL n M).getD x 0 = numOf M (x : Int) := by
 unfold atL
 rw [List.getD_eq_getElem?_getD, List.getElem?_map, List.getElem?_range hx]
 rfl
theorem doneL_set {n : Nat} {M : List Int} {x : Nat} (hx : x < n) : (doneL n M).set x true = doneL n (M ++ [(x : Int)]) := by
 apply List.ext_getElem (by simp [doneL])
 intro i h1 h2
 simp only [doneL, List.getElem_set, List.getElem_map, List.getElem_range, List.mem_append, List.mem_singleton]
 by_cases h : x = i
 ·subst h
  simp
 ·rw [if_neg h]
  have : ¬ (i : Int) = (x : Int) := by omega
  simp [this]
theorem atL_set {n : Nat} {M : List Int} {x : Nat} (hx : x < n) (hn : (x : Int) ∉ M) : (atL n M).set x (M.length : Int) = atL n (M ++ [(x : Int)]) := by
 apply List.ext_getElem (by simp [atL])
 intro i h1 h2
 simp only [atL, List.getElem_set, List.getElem_map, List.getElem_range, numOf, List.mem_append, List.mem_singleton, List.idxOf_append]
 by_cases h : x = i
 ·subst h
  simp [hn]
 ·rw [if_neg h]
  have h3 : ¬ (i : Int) = (x : Int) := by omega
  by_cases h4 : (i : Int) ∈ M
  ·simp [h4]
  ·simp [h4, h3]
theorem refOf_l2 (h : Aut a nx ac) (ho : OfOk nx ac R C) {K : List Int} {i t : Nat} (hil : i < K.length) (hK1 : K.length ≤ nx.length) (hKi : K.getD i 0 = (t : Int)) (ht : t < nx.length) {r : Int × List (List Int) × List Bool × Bool}
  (hnext : Ev (fun k => cr21_Of.l1 k C (atL nx.length (codesOf C K)) K ((i + 1 : Nat) : Int) a nx ac a (ofNext nx C K (K.take (i + 1))) (ofEnds ac (K.take (i + 1)))) r) :
  ∀ (d j : Nat), j + d = a.toNat → Ev (fun k => cr21_Of.l2 k C (atL nx.length (codesOf C K)) K (i : Int) ((ofRow nx C K (t : Int)).take j) (j : Int) a nx ac a (ofNext nx C K (K.take i)) (ofEnds ac (K.take i))) r := by
 have ha1 := h.a1
 have ha2 := h.a2
 have hn2 := h.n2
 have hl := h.len ht
 have hrl : (ofRow nx C K (t : Int)).length = a.toNat := by rw [ofRow_length, hl]
 have hen := h.ends
 intro d
 induction d with
 | zero =>
  intro j hj
  obtain rfl : j = a.toNat := by omega
  rw [List.take_of_length_le (by omega)]
  refine Ev.step (fun k => ?_) hnext
  simp only [cr21_Of.l2, rd_nat, hKi, rdb_nat, ofNext_length, ofEnds_length, List.length_take]
  rw [if_neg (by omega), if_pos (by omega), if_pos (by omega), if_pos (by omega), if_pos (by omega), if_pos (by omega), if_pos (by omega), wadd (by omega) (by omega), nat_succ_cast, ← ofNext_succ hil hKi, ← ofEnds_succ hil hKi]
 | succ d ih =>
  intro j hj
  have hjl : j < a.toNat := by omega
  have hx := h.shuts t j ht hjl
  have hcode := ho.code hx
  obtain ⟨x, hx2⟩ : ∃ x : Nat, C.getD (stL nx t j) 0 = (x : Int) := ⟨(C.getD (stL nx t j) 0).toNat, by omega⟩
  have hCl := ho.c
  have hz : (atL nx.length (codesOf C K)).length = nx.length := by simp [atL]
  refine Ev.step (fun k => ?_) (ih (j + 1) (by omega))
  simp only [cr21_Of.l2, rd_nat, hKi, rd5_nat, h.st ht hjl, hx2, hz, List.length_take, hrl]
  rw [if_pos (by omega), if_pos (by omega), if_pos (by omega), if_pos (by omega), if_pos (by omega), if_pos (by omega), if_pos (by omega), if_pos (by omega), if_pos (by omega), if_pos (by omega), if_pos (by omega), if_pos (by omega), wadd (by omega) (by omega), nat_succ_cast, atL_getD (by omega), ← ofRow_succ (tN := stL nx t j) rfl (by omega) (h.st ht hjl), hx2]
theorem refOf_l1 (h : Aut a nx ac) (ho : OfOk nx ac R C) : ∀ (d i : Nat), i + d = (keptTo R C nx.length).length → Ev (fun k => cr21_Of.l1 k C (atL nx.length (codesOf C (keptTo R C nx.length))) (keptTo R C nx.length) (i : Int) a nx ac a (ofNext nx C (keptTo R C nx.length) ((keptTo R C nx.length).take i)) (ofEnds ac ((keptTo R C nx.length).take i))) (leastOf a nx ac R C) := by
 have hK1 := keptTo_length R C nx.length
 have hn2 := h.n2
 obtain ⟨K, hK⟩ : ∃ K, K = keptTo R C nx.length := ⟨_, rfl⟩
 unfold leastOf
 rw [← hK] at hK1 ⊢
 intro d
 induction d with
 | zero =>
  intro i hi
  rw [List.take_of_length_le (by omega)]
  refine Ev.step (f := fun _ => some _) (fun k => ?_) (Ev.now _)
  simp only [cr21_Of.l1]
  rw [if_neg (by omega)]
 | succ d ih =>
  intro i hi
  have hil : i < K.length := by omega
  obtain ⟨t, ht, htn⟩ := kept_nat hK hil
  refine Ev.step (fun k => ?_) (refOf_l2 h ho hil hK1 ht htn (ih (i + 1) (by omega)) a.toNat 0 (by omega))
  simp only [cr21_Of.l1]
  rw [if_pos (by omega)]
  rfl
theorem refOf_l0 (h : Aut a nx ac) (ho : OfOk nx ac R C) : ∀ (d s : Nat), s + d = nx.length → Ev (fun k => cr21_Of.l0 k R C (atL nx.length (codesOf C (keptTo R C s))) (keptTo R C s) (doneL nx.length (codesOf C (keptTo R C s))) (s : Int) a nx ac) (leastOf a nx ac R C) := by
 have hn2 := h.n2
 have hRl := ho.r
 have hCl := ho.c
 intro d
 induction d with
 | zero =>
  intro s hs
  obtain rfl : s = nx.length := by omega
  refine Ev.step (fun k => ?_) (refOf_l1 h ho (keptTo R C nx.length).length 0 (by omega))
  simp only [cr21_Of.l0]
  rw [if_neg (by omega)]
  rfl
 | succ d ih =>
  intro s hs
  have hsl : s < nx.length := by omega
  have hcode := ho.code hsl
  obtain ⟨x, hx⟩ : ∃ x : Nat, C.getD s 0 = (x : Int) := ⟨(C.getD s 0).toNat, by omega⟩
  have hxl : x < nx.length := by omega
  have hkl := keptTo_length R C s
  have hih := ih (s + 1) (by omega)
  have hz1 : ∀ M, (doneL nx.length M).length = nx.length := fun M => by simp [doneL]
  have hz2 : ∀ M, (atL nx.length M).length = nx.length := fun M => by simp [atL]
  cases hb : R.getD s false with
  | false =>
   rw [keptTo_old (by rw [hb]; simp)] at hih
   refine Ev.step (fun k => ?_) hih
   simp only [cr21_Of.l0, rdb_nat, hb]
   rw [if_pos (by omega), if_pos (by omega), if_pos (by omega), if_neg (by decide), wadd (by omega) (by omega), nat_succ_cast]
  | true =>
   by_cases hm : (x : Int) ∈ codesOf C (keptTo R C s)
   ·rw [keptTo_old (by rw [hx]; exact fun e => e.2 hm)] at hih
    refine Ev.step (fun k => ?_) hih
    simp only [cr21_Of.l0, rdb_nat, hb, rd_nat, hx, hz1, doneL_getD hxl, decide_eq_true hm]
    rw [if_pos (by omega), if_pos (by omega), if_pos (by omega), if_pos trivial, if_pos (by omega), if_pos (by omega), if_pos (by omega), if_pos trivial, wadd (by omega) (by omega), nat_succ_cast]
   ·rw [keptTo_new hb (by rw [hx]; exact hm), codesOf_snoc, hx, ← doneL_set hxl, ← atL_set hxl hm, codesOf_length] at hih
    refine Ev.step (fun k => ?_) hih
    simp only [cr21_Of.l0, rdb_nat, hb, rd_nat, hx, hz1, hz2, doneL_getD hxl, decide_eq_false hm, Int.toNat_natCast]
    rw [if_pos (by omega), if_pos (by omega), if_pos (by omega), if_pos trivial, if_pos (by omega), if_pos (by omega), if_pos (by omega), if_neg (by decide), if_pos (by omega), if_pos (by omega), wadd (by omega) (by omega), nat_succ_cast]
theorem ev_refOf (hg : goodB a nx ac = true) (hR : Ev (fun k => cr21_Reach.f k a nx ac) R) (hC : Ev (fun k => cr21_Classes.f k a nx ac) C) (ho : OfOk nx ac R C) : Ev (fun k => cr21_Of.f k a nx ac) (leastOf a nx ac R C) := by
 have h := Aut.of hg
 have hn2 := h.n2
 have hGo := ev_refGood a nx ac
 rw [hg] at hGo
 unfold cr21_Of.f
 refine Ev.bind hGo (Ev.congr (f := fun k => (cr21_Reach.f k a nx ac).bind fun R => (cr21_Classes.f k a nx ac).bind fun C => cr21_Of.l0 k R C (atL nx.length []) [] (doneL nx.length []) 0 a nx ac) (fun k => ?_) ?_)
 ·rw [if_pos rfl]
  have e1 : List.replicate ((nx.length : Int)).toNat (0 : Int) = atL nx.length [] := by
   rw [Int.toNat_natCast]
   apply List.ext_getElem (by simp [atL])
   intro i h1 h2
   simp [atL, numOf]
  have e2 : List.replicate ((nx.length : Int)).toNat false = doneL nx.length [] := by
   rw [Int.toNat_natCast]
   apply List.ext_getElem (by simp [doneL])
   intro i h1 h2
   simp [doneL]
  rw [e1, e2]
  have p1 : (0 : Int) ≤ (nx.length : Int) := by omega
  have p2 : ((nx.length : Int)).toNat ≤ 35184372088832 := by omega
  have p3 : ((nx.length : Int)).toNat ≤ 281474976710656 := by omega
  simp only [if_pos p1, if_pos p2, if_pos p3]
 ·refine Ev.bind (f := fun k R => (cr21_Classes.f k a nx ac).bind fun C => cr21_Of.l0 k R C (atL nx.length []) [] (doneL nx.length []) 0 a nx ac) hR ?_
  refine Ev.bind (f := fun k C => cr21_Of.l0 k R C (atL nx.length []) [] (doneL nx.length []) 0 a nx ac) hC ?_
  exact refOf_l0 h ho nx.length 0 (by omega)
theorem ev_refOf_bad (hg : goodB a nx ac = false) : Ev (fun k => cr21_Of.f k a nx ac) (0, [], [], false) := by
 have hGo := ev_refGood a nx ac
 rw [hg] at hGo
 unfold cr21_Of.f
 exact Ev.bind hGo (Ev.congr (f := fun _ => some (0, [], [], false)) (fun k => by simp) (Ev.now _))
end

end Go.Proofs.Ytelkjbacdpmnfaa.A

namespace Go.Proofs.Ytelkjbacdpmnfaa.A
open Go.RowKit Go.W_.PrintWords Go.W_.PrintLast Go.W_.PrintMore
attribute [local go_sem] max2_int min2_int max_two min_two max_three min_three max_four min_four
set_option linter.unusedVariables false
set_option linter.unusedSimpArgs false

theorem dec_cons {α : Type} [DecidableEq α] (x y : α) (A B : List α) : decide (x :: A = y :: B) = (decide (x = y) && decide (A = B)) := by
 by_cases h : x = y
 ·by_cases h2 : A = B <;> simp [h, h2]
 ·simp [h]
section
variable {a b : Int} {X X' : List (List Int)} {Y Y' : List Bool}
theorem refSame_l2 (hl : Y.length = Y'.length) (hs : Y.length ≤ 1000000) : ∀ (d i : Nat), i + d = Y.length → Ev (fun k => cr22_Same.l2 k (i : Int) a X Y b X' Y') (decide (Y.drop i = Y'.drop i)) := by
 intro d
 induction d with
 | zero =>
  intro i hi
  rw [List.drop_of_length_le (by omega), List.drop_of_length_le (by omega)]
  refine Ev.step (f := fun _ => some true) (fun k => ?_) (by simpa using Ev.now _)
  simp only [cr22_Same.l2]
  rw [if_neg (by omega)]
 | succ d ih =>
  intro i hi
  rw [drop_cons_getD _ false i (show i < Y.length by omega), drop_cons_getD _ false i (show i < Y'.length by omega), dec_cons]
  by_cases he : Y.getD i false = Y'.getD i false
  ·rw [decide_eq_true he, Bool.true_and]
   refine Ev.step (fun k => ?_) (ih (i + 1) (by omega))
   simp only [cr22_Same.l2, rdb_nat, he]
   rw [if_pos (by omega), if_pos (by omega), if_pos (by omega), if_neg (by simp), wadd (by omega) (by omega), nat_succ_cast]
  ·rw [decide_eq_false he, Bool.false_and]
   refine Ev.step (f := fun _ => some false) (fun k => ?_) (Ev.now _)
   simp only [cr22_Same.l2, rdb_nat]
   rw [if_pos (by omega), if_pos (by omega), if_pos (by omega), if_pos (by simpa using he)]
theorem refSame_l1 (hX : X.length = X'.length) (hs : X.length ≤ 1000000) {s : Nat} (hs1 : s < X.length) (hl : (X.getD s []).length = (X'.getD s []).length) (hm : (X.getD s []).length ≤ 1000000) {R : Bool} (hR : Ev (fun k => cr22_Same.l0 k ((s + 1 : Nat) : Int) a X Y b X' Y') R) :
  ∀ (d c : Nat), c + d = (X.getD s []).length → Ev (fun k => cr22_Same.l1 k (s : Int) (c : Int) a X Y b X' Y') (decide ((X.getD s []).drop c = (X'.getD s []).drop c) && R) := by
 intro d
 induction d with
 | zero =>
  intro c hc
  rw [List.drop_of_length_le (by omega), List.drop_of_length_le (by omega)]
  refine Ev.step (fun k => ?_) (by simpa using hR)
  simp only [cr22_Same.l1, rd5_nat]
  rw [if_pos (by omega), if_pos (by omega), if_neg (by omega), wadd (by omega) (by omega), nat_succ_cast]
 | succ d ih =>
  intro c hc
  rw [drop_cons_getD _ 0 c (show c < (X.getD s []).length by omega), drop_cons_getD _ 0 c (show c < (X'.getD s []).length by omega), dec_cons]
  by_cases he : (X.getD s []).getD c 0 = (X'.getD s []).getD c 0
  ·rw [decide_eq_true he, Bool.true_and]
   refine Ev.step (fun k => ?_) (ih (c + 1) (by omega))
   simp only [cr22_Same.l1, rd5_nat, rd_nat]
   rw [if_pos (by omega), if_pos (by omega), if_pos (by omega), if_pos (by omega), if_pos (by omega), if_pos (by omega), if_pos he, wadd (by omega) (by omega), nat_succ_cast]
  ·rw [decide_eq_false he, Bool.false_and, Bool.false_and]
   refine Ev.step (f := fun _ => some false) (fun k => ?_) (Ev.now _)
   simp only [cr22_Same.l1, rd5_nat, rd_nat]
   rw [if_pos (by omega), if_pos (by omega), if_pos (by omega), if_pos (by omega), if_pos (by omega), if_pos (by omega), if_neg he]
theorem refSame_l0 (hX : X.length = X'.length) (hs : X.length ≤ 1000000) (hm : ∀ r ∈ X, r.length ≤ 1000000) (hY : Y.length = Y'.length) (hYs : Y.length ≤ 1000000) :
  ∀ (d s : Nat), s + d = X.length → Ev (fun k => cr22_Same.l0 k (s : Int) a X Y b X' Y') (decide (X.drop s = X'.drop s) && decide (Y = Y')) := by
 intro d
 induction d with
 | zero =>
  intro s hsd
  rw [List.drop_of_length_le (by omega), List.drop_of_length_le (by omega)]
  have h2 := refSame_l2 (a := a) (b := b) (X := X) (X' := X') hY hYs Y.length 0 (by omega)
  refine Ev.step (fun k => ?_) (by simpa using h2)
  simp only [cr22_Same.l0]
  rw [if_neg (by omega)]
 | succ d ih =>
  intro s hsd
  have hs1 : s < X.length := by omega
  rw [drop_cons_getD _ [] s hs1, drop_cons_getD _ [] s (show s < X'.length by omega), dec_cons]
  by_cases hl : (X.getD s []).length = (X'.getD s []).length
  ·have h1 := refSame_l1 (a := a) (b := b) hX hs hs1 hl (hm _ (getD_in X [] hs1)) (ih (s + 1) (by omega)) _ 0 (Nat.zero_add _)
   rw [List.drop_zero, List.drop_zero, ← Bool.and_assoc] at h1
   refine Ev.step (fun k => ?_) h1
   simp only [cr22_Same.l0, rd5_nat]
   rw [if_pos (by omega), if_pos (by omega), if_pos (by omega), if_pos (by omega)]
   rfl
  ·rw [decide_eq_false (fun e => hl (by rw [e])), Bool.false_and, Bool.false_and]
   refine Ev.step (f := fun _ => some false) (fun k => ?_) (Ev.now _)
   simp only [cr22_Same.l0, rd5_nat]
   rw [if_pos (by omega), if_pos (by omega), if_pos (by omega), if_neg (by omega)]
theorem ev_refSame (h : sameSmall X Y) : Ev (fun k => cr22_Same.f k a X Y b X' Y') (sameB a X Y b X' Y') := by
 have hj : Ev (fun k => cr22_Same.j0 k true a X Y b X' Y') false := Ev.step (f := fun _ => some false) (fun k => by simp only [cr22_Same.j0, if_true]) (Ev.now _)
 unfold cr22_Same.f sameB
 by_cases h1 : a = b
 ·by_cases h2 : X.length = X'.length
  ·by_cases h3 : Y.length = Y'.length
   ·simp only [if_pos h1, decide_eq_true h1, Bool.true_and]
    have h4 := refSame_l0 (a := a) (b := b) h2 h.1.1 h.1.2 h3 h.2 X.length 0 (by omega)
    rw [List.drop_zero, List.drop_zero, Bool.and_comm] at h4
    refine Ev.congr (g := _) (fun k => by rw [if_pos (show (X.length : Int) = X'.length by omega)]) ?_
    refine Ev.step (fun k => ?_) h4
    simp only [cr22_Same.j0]
    rw [if_neg (by simp [h3])]
    rfl
   ·simp only [if_pos h1, decide_eq_true h1, Bool.true_and]
    rw [decide_eq_false (fun e => h3 (by rw [e])), Bool.false_and]
    refine Ev.congr (g := _) (fun k => by rw [if_pos (show (X.length : Int) = X'.length by omega)]) ?_
    rw [show ((Y.length : Int) != (Y'.length : Int)) = true by simp; omega]
    exact hj
  ·simp only [if_pos h1, decide_eq_true h1, Bool.true_and]
   rw [decide_eq_false (fun e => h2 (by rw [e]) : ¬ X = X'), Bool.and_false]
   refine Ev.congr (g := _) (fun k => by rw [if_neg (show ¬ (X.length : Int) = X'.length by omega)]) ?_
   exact hj
 ·simp only [if_neg h1, decide_eq_false h1, Bool.false_and]
  exact hj
end

end Go.Proofs.Ytelkjbacdpmnfaa.A

namespace Go.Proofs.Ytelkjbacdpmnfaa.A
open Go.RowKit Go.W_.PrintWords Go.W_.PrintLast Go.W_.PrintMore
attribute [local go_sem] max2_int min2_int max_two min_two max_three min_three max_four min_four
set_option linter.unusedVariables false
set_option linter.unusedSimpArgs false

section
variable {a : Int} {nx : List (List Int)} {ac : List Bool}
theorem ev_refNum_as (hg : goodB a nx ac = true) {l : List Nat} (hm : MetOf a nx l) : Ev (fun k => cr22_Of.f k a nx ac) (numdOf a nx ac l) := by
 obtain ⟨l', h1, h2⟩ := ev_refNum hg
 obtain rfl := MetAll.unique hm h2
 exact h1
theorem numd_small (h : Aut a nx ac) {l : List Nat} (hm : MetOf a nx l) : sameSmall (numNext a.toNat (stL nx) l) (l.map (acL ac)) := good_sameSmall (num_good h hm)
theorem small_nil : sameSmall [] [] := by refine ⟨⟨by simp, by simp⟩, by simp⟩
/-- Numbered: both tell the same. -/
theorem both_num (a : Int) (nx : List (List Int)) (ac : List Bool) : ∃ r : Int × List (List Int) × List Bool × Bool, Ev (fun k => number_Of.f k a nx ac) r ∧ Ev (fun k => cr22_Of.f k a nx ac) r ∧ sameSmall r.2.1 r.2.2.1 := by
 cases hg : goodB a nx ac with
 | true =>
  obtain ⟨l, h1, h2⟩ := ev_numdOf hg
  exact ⟨_, h1, ev_refNum_as hg h2, numd_small (Aut.of hg) h2⟩
 | false =>
  refine ⟨(0, [], [], false), ev_numdOf_bad hg, ?_, small_nil⟩
  have hGo := ev_refGood a nx ac
  rw [hg] at hGo
  unfold cr22_Of.f
  exact Ev.bind hGo (Ev.congr (f := fun _ => some (0, [], [], false)) (fun k => by simp) (Ev.now _))
/-- The Canon: both tell the same. -/
theorem both_canon (a : Int) (nx : List (List Int)) (ac : List Bool) : ∃ r : Int × List (List Int) × List Bool × Bool, Ev (fun k => number_Canon.f k a nx ac) r ∧ Ev (fun k => cr22_Canon.f k a nx ac) r ∧ sameSmall r.2.1 r.2.2.1 ∧ (r.2.2.2 = true → r.1 = a) := by
 cases hg : goodB a nx ac with
 | true =>
  obtain ⟨R, C, r1, r2, c1, c2, hR, hC, ho⟩ := ev_least hg
  have M : Model a nx ac R C := ⟨Aut.of hg, hR, hC⟩
  obtain ⟨l, h1, h2⟩ := ev_numdOf M.good
  refine ⟨numdOf a (bnx nx R C) (bac nx ac R C) l, ?_, ?_, numd_small (Aut.of M.good) h2, fun _ => rfl⟩
  ·unfold number_Canon.f
   refine Ev.bind (ev_leastOf hg r1 c1 ho) ?_
   rw [leastOf_eq]
   simp only [if_true]
   exact Ev.bind h1 (Ev.now _)
  ·unfold cr22_Canon.f
   refine Ev.bind (ev_refOf hg r2 c2 ho) ?_
   rw [leastOf_eq]
   simp only [if_true]
   exact Ev.bind (ev_refNum_as M.good h2) (Ev.now _)
 | false =>
  refine ⟨(0, [], [], false), ev_canon_bad hg, ?_, small_nil, fun h => by cases h⟩
  unfold cr22_Canon.f
  exact Ev.bind (ev_refOf_bad hg) (Ev.congr (f := fun _ => some (0, [], [], false)) (fun k => by simp) (Ev.now _))
theorem both_alike (a : Int) (nx : List (List Int)) (ac : List Bool) (b : Int) (nx' : List (List Int)) (ac' : List Bool) : ∃ t, Ev (fun k => number_Alike.f k a nx ac b nx' ac') t ∧ Ev (fun k => cr22_Alike.f k a nx ac b nx' ac') t := by
 obtain ⟨r, h1, h2, h3, h4⟩ := both_canon a nx ac
 obtain ⟨s, g1, g2, g3, g4⟩ := both_canon b nx' ac'
 obtain ⟨c, X, Y, u⟩ := r
 obtain ⟨d, X', Y', v⟩ := s
 refine ⟨_, ev_alike h1 g1 (fun _ _ => ⟨h3, g3⟩), ?_⟩
 unfold cr22_Alike.f
 refine Ev.bind h2 (Ev.bind g2 ?_)
 unfold alikeB
 cases u with
 | false => exact Ev.congr (f := fun _ => some false) (fun k => by simp) (Ev.now _)
 | true =>
  cases v with
  | false => exact Ev.congr (f := fun _ => some false) (fun k => by simp) (Ev.now _)
  | true =>
   obtain rfl : c = a := h4 rfl
   obtain rfl : d = b := g4 rfl
   simp only [if_true]
   by_cases he : c = d
   ·simp only [if_pos he]
    exact Ev.bind (ev_refSame h3) (Ev.now _)
   ·simp only [if_neg he]
    have e : sameB c X Y d X' Y' = false := by unfold sameB; rw [decide_eq_false he]; rfl
    rw [e]
    exact Ev.now _
end

end Go.Proofs.Ytelkjbacdpmnfaa.A

namespace Go.Proofs.Ytelkjbacdpmnfaa.A
open Go.RowKit Go.W_.PrintWords Go.W_.PrintLast Go.W_.PrintMore
attribute [local go_sem] max2_int min2_int max_two min_two max_three min_three max_four min_four
set_option linter.unusedVariables false
set_option linter.unusedSimpArgs false

/-- How much lists hold: one each, and their elements (at most so many each). -/
def lsum (most : Int) (l : List (List Int)) : Int := (l.map fun x => 1 + min (x.length : Int) most).sum
theorem lsum_nonneg (most : Int) (hm : 0 ≤ most) (l : List (List Int)) : (l.length : Int) ≤ lsum most l := by
 induction l with
 | nil => simp [lsum]
 | cons x l ih => simp only [lsum, List.map_cons, List.sum_cons, List.length_cons] at *; omega
theorem mn_min (x y : Int) : mn x y = min x y := by unfold mn; omega
theorem ev_LargeLists_l0 (most : Int) (hm : 0 ≤ most) (hM : most ≤ 1000000) (l : List (List Int)) :
  ∀ (d i : Nat) (s : Int), i + d = l.length → (i : Int) ≤ s → s ≤ 2 * most + 1 → Ev (fun k => ck_LargeLists.l0 k l most s (i : Int)) (decide (s + lsum most (l.drop i) > most)) := by
 intro d
 induction d with
 | zero =>
  intro i s hi hs hs2
  rw [List.drop_of_length_le (by omega)]
  refine Ev.step (f := fun _ => some (decide (s > most))) (fun k => ?_) (by simpa [lsum] using Ev.now _)
  simp only [ck_LargeLists.l0]
  rw [if_neg (by omega)]
 | succ d ih =>
  intro i s hi hs hs2
  have hil : i < l.length := by omega
  have hdr := drop_cons_getD l [] i hil
  have hnn := lsum_nonneg most hm (l.drop i)
  by_cases h1 : s ≤ most
  ·refine Ev.step (f := fun k => ck_LargeLists.l0 k l most (s + (1 + min ((l.getD i []).length : Int) most)) ((i + 1 : Nat) : Int)) (fun k => ?_) ?_
   ·simp only [ck_LargeLists.l0, rd5_nat, mn_min]
    rw [if_pos (by omega), if_pos h1, if_pos (by omega), wadd (x := 1) (by omega) (by omega), wadd (x := s) (by omega) (by omega), wadd (x := (i : Int)) (by omega) (by omega), nat_succ_cast]
   ·have h := ih (i + 1) (s + (1 + min ((l.getD i []).length : Int) most)) (by omega) (by omega) (by omega)
    rw [hdr]
    have e : lsum most (l.getD i [] :: l.drop (i + 1)) = (1 + min ((l.getD i []).length : Int) most) + lsum most (l.drop (i + 1)) := by simp [lsum]
    have e2 : s + (1 + min ((l.getD i []).length : Int) most + lsum most (l.drop (i + 1))) = s + (1 + min ((l.getD i []).length : Int) most) + lsum most (l.drop (i + 1)) := by omega
    rw [e, e2]
    exact h
  ·refine Ev.step (f := fun _ => some (decide (s > most))) (fun k => ?_) ?_
   ·simp only [ck_LargeLists.l0]
    rw [if_pos (by omega), if_neg h1]
   ·rw [decide_eq_true (show s > most by omega), decide_eq_true (show s + lsum most (l.drop i) > most by omega)]
    exact Ev.now _
theorem ev_LargeLists (most : Int) (hm : 0 ≤ most) (hM : most ≤ 1000000) (l : List (List Int)) : Ev (fun k => ck_LargeLists.f k l most) (decide (lsum most l > most)) := by
 have h := ev_LargeLists_l0 most hm hM l l.length 0 0 (by omega) (by omega) (by omega)
 simpa [ck_LargeLists.f] using h
/-- Is an automaton too large? -/
theorem lsum_mem {most : Int} (hm : 0 ≤ most) : ∀ {l : List (List Int)} {x : List Int}, x ∈ l → 1 + min (x.length : Int) most ≤ lsum most l
 | y :: l, x, h => by
  have := lsum_nonneg most hm l
  rcases List.mem_cons.1 h with rfl | h
  ·simp only [lsum, List.map_cons, List.sum_cons] at *; omega
  ·have := lsum_mem hm h
   simp only [lsum, List.map_cons, List.sum_cons] at *; omega

end Go.Proofs.Ytelkjbacdpmnfaa.A

namespace Go.Proofs.Ytelkjbacdpmnfaa.A
open Go.RowKit Go.W_.PrintWords Go.W_.PrintLast Go.W_.PrintMore
attribute [local go_sem] max2_int min2_int max_two min_two max_three min_three max_four min_four
set_option linter.unusedVariables false
set_option linter.unusedSimpArgs false

def lightB (nx : List (List Int)) (ac : List Bool) : Bool := !decide (lsum 1500 nx > 1500) && (decide ((ac.length : Int) ≤ 300) && decide ((nx.length : Int) ≤ 60))
theorem ev_Light (a : Int) (nx : List (List Int)) (ac : List Bool) : Ev (fun k => cl21_Light.f k a nx ac) (lightB nx ac) := by
 unfold cl21_Light.f lightB
 refine Ev.bind (ev_LargeLists 1500 (by omega) (by omega) nx) ?_
 cases decide (lsum 1500 nx > 1500)
 ·by_cases h : (ac.length : Int) ≤ 300
  ·simpa [h] using Ev.now _
  ·simpa [h] using Ev.now _
 ·simpa using Ev.now _
theorem light_small {nx : List (List Int)} {ac : List Bool} (h : lightB nx ac = true) : nx.length ≤ 60 ∧ (∀ x ∈ nx, x.length ≤ 1500) ∧ ac.length ≤ 300 := by
 unfold lightB at h
 simp only [Bool.and_eq_true, Bool.not_eq_true', decide_eq_false_iff_not, decide_eq_true_eq] at h
 have h1 := lsum_nonneg 1500 (by omega) nx
 refine ⟨by omega, fun x hx => ?_, by omega⟩
 have := lsum_mem (most := 1500) (by omega) hx
 omega

end Go.Proofs.Ytelkjbacdpmnfaa.A

namespace Go.Proofs.Ytelkjbacdpmnfaa.A
open Go.RowKit Go.W_.PrintWords Go.W_.PrintLast Go.W_.PrintMore
attribute [local go_sem] max2_int min2_int max_two min_two max_three min_three max_four min_four
set_option linter.unusedVariables false
set_option linter.unusedSimpArgs false

theorem ev_OwnLists (l : List (List Int)) (hn : l.length ≤ 1000000) (hr : ∀ x ∈ l, x.length ≤ 1000000) : Ev (fun k => ck_OwnLists.f k l) l := by
 have key : ∀ (d i : Nat), i + d = l.length → Ev (fun k => ck_OwnLists.l0 k l (l.take i) (i : Int)) l := by
  intro d
  induction d with
  | zero =>
   intro i hi
   refine Ev.step (f := fun _ => some (l.take i)) (fun k => ?_) ?_
   ·simp only [ck_OwnLists.l0]
    rw [if_neg (by omega)]
   ·rw [List.take_of_length_le (by omega)]
    exact Ev.now _
  | succ d ih =>
   intro i hi
   have hil : i < l.length := by omega
   have hs := small_len (d := []) hr hil
   have ht : (l.take i).length ≤ 1000000 := by rw [List.length_take]; omega
   refine Ev.step (f := fun k => ck_OwnLists.l0 k l (l.take (i + 1)) ((i + 1 : Nat) : Int)) (fun k => ?_) (ih (i + 1) (by omega))
   simp only [ck_OwnLists.l0, rd5_nat, Option.bind_some, List.length_nil, List.nil_append]
   rw [if_pos (by omega), if_pos (by omega), if_pos (by omega), if_pos (by omega), wadd (by omega) (by omega), nat_succ_cast, ← take_getD_snoc l [] i hil]
 have h := key l.length 0 (by omega)
 simpa [ck_OwnLists.f] using h
theorem ev_OwnAutomaton (a : Int) (nx : List (List Int)) (ac : List Bool) (hn : nx.length ≤ 1000000) (hr : ∀ x ∈ nx, x.length ≤ 1000000) (ha : ac.length ≤ 1000000) : Ev (fun k => ck_OwnAutomaton.f k a nx ac) (a, nx, ac) := by
 unfold ck_OwnAutomaton.f
 refine Ev.bind (ev_OwnLists nx hn hr) ?_
 simp only [Option.bind_some, List.length_nil, List.nil_append]
 refine Ev.congr (f := fun _ => some (a, nx, ac)) (fun k => ?_) (Ev.now _)
 rw [if_pos (by omega)]


end Go.Proofs.Ytelkjbacdpmnfaa.A

namespace Go.Proofs.Ytelkjbacdpmnfaa.A
open Go.RowKit Go.W_.PrintWords Go.W_.PrintLast Go.W_.PrintMore
attribute [local go_sem] max2_int min2_int max_two min_two max_three min_three max_four min_four
set_option linter.unusedVariables false
set_option linter.unusedSimpArgs false

theorem ev_Ints_same (l : List Int) (hn : l.length ≤ 1000000) : Ev (fun k => ck_Ints.f k l l) true := by
 have key : ∀ (d i : Nat), i + d = l.length → Ev (fun k => ck_Ints.l0 k l l (i : Int)) true := by
  intro d
  induction d with
  | zero =>
   intro i hi
   refine Ev.step (f := fun _ => some true) (fun k => ?_) (Ev.now _)
   simp only [ck_Ints.l0]
   rw [if_neg (by omega)]
  | succ d ih =>
   intro i hi
   refine Ev.step (f := fun k => ck_Ints.l0 k l l ((i + 1 : Nat) : Int)) (fun k => ?_) (ih (i + 1) (by omega))
   simp only [ck_Ints.l0, rd_nat]
   rw [if_pos (by omega), if_pos (by omega), if_pos (by omega), if_pos trivial, wadd (by omega) (by omega), nat_succ_cast]
 have h := key l.length 0 (by omega)
 simpa [ck_Ints.f] using h
theorem ev_Bools_same (l : List Bool) (hn : l.length ≤ 1000000) : Ev (fun k => ck_Bools.f k l l) true := by
 have key : ∀ (d i : Nat), i + d = l.length → Ev (fun k => ck_Bools.l0 k l l (i : Int)) true := by
  intro d
  induction d with
  | zero =>
   intro i hi
   refine Ev.step (f := fun _ => some true) (fun k => ?_) (Ev.now _)
   simp only [ck_Bools.l0]
   rw [if_neg (by omega)]
  | succ d ih =>
   intro i hi
   refine Ev.step (f := fun k => ck_Bools.l0 k l l ((i + 1 : Nat) : Int)) (fun k => ?_) (ih (i + 1) (by omega))
   simp only [ck_Bools.l0, rdb_nat, bne_self_eq_false]
   rw [if_pos (by omega), if_pos (by omega), if_pos (by omega), if_neg (by decide), wadd (by omega) (by omega), nat_succ_cast]
 have h := key l.length 0 (by omega)
 simpa [ck_Bools.f] using h
theorem ev_Lists_same (l : List (List Int)) (hn : l.length ≤ 1000000) (hr : ∀ x ∈ l, x.length ≤ 1000000) : Ev (fun k => ck_Lists.f k l l) true := by
 have key : ∀ (d i : Nat), i + d = l.length → Ev (fun k => ck_Lists.l0 k l l (i : Int)) true := by
  intro d
  induction d with
  | zero =>
   intro i hi
   refine Ev.step (f := fun _ => some true) (fun k => ?_) (Ev.now _)
   simp only [ck_Lists.l0]
   rw [if_neg (by omega)]
  | succ d ih =>
   intro i hi
   have hil : i < l.length := by omega
   have hs := small_len (d := []) hr hil
   refine Ev.step (f := fun k => (ck_Ints.f k (l.getD i []) (l.getD i [])).bind fun t103 => if t103 = true then ck_Lists.l0 k l l ((i + 1 : Nat) : Int) else some false) (fun k => ?_) (Ev.bind (ev_Ints_same _ hs) ?_)
   ·simp only [ck_Lists.l0, rd5_nat]
    rw [if_pos (by omega), if_pos (by omega), if_pos (by omega), wadd (by omega) (by omega), nat_succ_cast]
   ·simpa using ih (i + 1) (by omega)
 have h := key l.length 0 (by omega)
 simpa [ck_Lists.f] using h
theorem ev_Automaton_same (a : Int) (nx : List (List Int)) (ac : List Bool) (hn : nx.length ≤ 1000000) (hr : ∀ x ∈ nx, x.length ≤ 1000000) (ha : ac.length ≤ 1000000) : Ev (fun k => ck_Automaton.f k a nx ac a nx ac) true := by
 unfold ck_Automaton.f
 simp only [if_true]
 refine Ev.bind (ev_Lists_same nx hn hr) ?_
 simp only [if_true]
 refine Ev.bind (ev_Bools_same ac ha) ?_
 exact Ev.now _

end Go.Proofs.Ytelkjbacdpmnfaa.A

namespace Go.Proofs.Ytelkjbacdpmnfaa.A
open Go.RowKit Go.W_.PrintWords Go.W_.PrintLast Go.W_.PrintMore
attribute [local go_sem] max2_int min2_int max_two min_two max_three min_three max_four min_four
set_option linter.unusedVariables false
set_option linter.unusedSimpArgs false

theorem cl22_NumberTells.told (a0_0 : Int) (A0_1 : Option Addr) (c0_1 : Nat) (l0_1 : List (List Int)) (A0_2 : Option Addr) (c0_2 : Nat) (l0_2 : List Bool) (a1_0 : Int) (A1_1 : Option Addr) (c1_1 : Nat) (l1_1 : List (List Int)) (A1_2 : Option Addr) (c1_2 : Nat) (l1_2 : List Bool) (w : World) (hr0_1 : Kd.C (Kd.slice 3 (Kd.int .i64)) w A0_1 l0_1.length l0_1) (hc0_1 : l0_1.length ≤ c0_1) (hr0_2 : Kd.C Kd.bool w A0_2 l0_2.length l0_2) (hc0_2 : l0_2.length ≤ c0_2) (hr1_1 : Kd.C (Kd.slice 3 (Kd.int .i64)) w A1_1 l1_1.length l1_1) (hc1_1 : l1_1.length ≤ c1_1) (hr1_2 : Kd.C Kd.bool w A1_2 l1_2.length l1_2) (hc1_2 : l1_2.length ≤ c1_2) :
  Calls Try.prog 14 #[.agg #[.int .i64 a0_0, .slice A0_1 l0_1.length c0_1, .slice A0_2 l0_2.length c0_2], .agg #[.int .i64 a1_0, .slice A1_1 l1_1.length c1_1, .slice A1_2 l1_2.length c1_2]] w fun e w' => e = .returned (.bool true) ∧ Below w.heap.size w w' := by
 have hw : cl22_wakes.f 0 = some true := rfl
 obtain ⟨k0, h0⟩ := (ev_Light a0_0 l0_1 l0_2).rounds
 obtain ⟨k1, h1⟩ := (ev_Light a1_0 l1_1 l1_2).rounds
 cases hb0 : lightB l0_1 l0_2 with
 | false =>
  rw [hb0] at h0
  exact ntells_short0 k0 0 0 a0_0 A0_1 c0_1 l0_1 A0_2 c0_2 l0_2 a1_0 A1_1 c1_1 l1_1 A1_2 c1_2 l1_2 w hr0_1 hc0_1 hr0_2 hc0_2 hr1_1 hc1_1 hr1_2 hc1_2 h0 hw
 | true =>
  rw [hb0] at h0
  cases hb1 : lightB l1_1 l1_2 with
  | false =>
   rw [hb1] at h1
   exact ntells_short1 k0 k1 0 a0_0 A0_1 c0_1 l0_1 A0_2 c0_2 l0_2 a1_0 A1_1 c1_1 l1_1 A1_2 c1_2 l1_2 w hr0_1 hc0_1 hr0_2 hc0_2 hr1_1 hc1_1 hr1_2 hc1_2 h0 h1 hw
  | true =>
   rw [hb1] at h1
   obtain ⟨g1, g2, g3⟩ := light_small hb0
   obtain ⟨u1, u2, u3⟩ := light_small hb1
   have s1 : l0_1.length ≤ 1000000 := by omega
   have s2 : ∀ x ∈ l0_1, x.length ≤ 1000000 := fun x hx => by have := g2 x hx; omega
   have s3 : l0_2.length ≤ 1000000 := by omega
   have t1 : l1_1.length ≤ 1000000 := by omega
   have t2 : ∀ x ∈ l1_1, x.length ≤ 1000000 := fun x hx => by have := u2 x hx; omega
   have t3 : l1_2.length ≤ 1000000 := by omega
   have hs : sameSmall l0_1 l0_2 := ⟨⟨s1, s2⟩, s3⟩
   have hs' : sameSmall l1_1 l1_2 := ⟨⟨t1, t2⟩, t3⟩
   obtain ⟨⟨x1, X1, Y1, b1⟩, e1, f1, z1⟩ := both_num a0_0 l0_1 l0_2
   obtain ⟨⟨x2, X2, Y2, b2⟩, e2, f2, z2, -⟩ := both_canon a0_0 l0_1 l0_2
   obtain ⟨al, g3', g4'⟩ := both_alike a0_0 l0_1 l0_2 a1_0 l1_1 l1_2
   obtain ⟨q1, e1⟩ := e1.rounds
   obtain ⟨q2, e2⟩ := e2.rounds
   obtain ⟨p1, f1⟩ := f1.rounds
   obtain ⟨p2, f2⟩ := f2.rounds
   obtain ⟨q4, g3'⟩ := g3'.rounds
   obtain ⟨p4, g4'⟩ := g4'.rounds
   obtain ⟨j1, o1⟩ := (ev_OwnAutomaton a0_0 l0_1 l0_2 s1 s2 s3).rounds
   obtain ⟨j2, o2⟩ := (ev_OwnAutomaton a1_0 l1_1 l1_2 t1 t2 t3).rounds
   obtain ⟨i1, m1⟩ := (ev_Automaton_same x1 X1 Y1 z1.1.1 z1.1.2 z1.2).rounds
   obtain ⟨i2, m2⟩ := (ev_Automaton_same x2 X2 Y2 z2.1.1 z2.1.2 z2.2).rounds
   obtain ⟨i3, m3⟩ := (ev_Automaton_same a0_0 l0_1 l0_2 s1 s2 s3).rounds
   obtain ⟨i4, m4⟩ := (ev_Automaton_same a1_0 l1_1 l1_2 t1 t2 t3).rounds
   obtain ⟨_, n1⟩ := (ev_same (a := a0_0) (b := a1_0) hs hs').rounds
   obtain ⟨p3, n2⟩ := (ev_refSame (a := a0_0) (b := a1_0) (X' := l1_1) (Y' := l1_2) hs).rounds
   exact ntells_main k0 k1 0 q1 q2 q4 p1 p2 p3 p4 j1 j2 i1 i2 i3 i4 a0_0 A0_1 c0_1 l0_1 A0_2 c0_2 l0_2 a1_0 A1_1 c1_1 l1_1 A1_2 c1_2 l1_2 x1 X1 Y1 b1 x2 X2 Y2 b2 _ al w hr0_1 hc0_1 hr0_2 hc0_2 hr1_1 hc1_1 hr1_2 hc1_2 h0 h1 hw e1 e2 f1 f2 o1 o2 m1 m2 m3 m4 n1 n2 g3' g4'

end Go.Proofs.Ytelkjbacdpmnfaa.A
