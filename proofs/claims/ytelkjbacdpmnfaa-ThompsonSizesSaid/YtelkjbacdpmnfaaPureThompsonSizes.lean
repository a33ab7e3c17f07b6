/- The plain law of ThompsonSizes: what the walk computes answers true, for every input. No conditions but that numbers are of their kinds. -/
import Derived.Test.YtelkjbacdpmnfaaACaesuralaw19ThompsonSizes
import Derived.Test.YtelkjbacdpmnfaaAPlainOne
namespace Go.Proofs.Ytelkjbacdpmnfaa.A
open Go.RowKit Go.Proofs.YtelkjbacdpmnfaaW.PrintWords Go.Proofs.YtelkjbacdpmnfaaW.PrintLast
set_option linter.unusedVariables false

theorem ev_succ {α : Type} {g : Nat → Option α} {r : α} (h : Ev (fun k => g (k + 1)) r) : Ev g r := Ev.step (fun _ => rfl) h
def trues (ac : List Bool) : Int := (ac.map fun b => if b = true then (1 : Int) else 0).sum
def csum (L : List (List S82)) : Int := (L.map fun l => (l.length : Int)).sum
theorem trues_cons (b : Bool) (ac : List Bool) : trues (b :: ac) = (if b = true then 1 else 0) + trues ac := by simp [trues]
theorem csum_cons (l : List S82) (L : List (List S82)) : csum (l :: L) = (l.length : Int) + csum L := by simp [csum]
theorem csum_append (L M : List (List S82)) : csum (L ++ M) = csum L + csum M := by simp [csum, List.sum_append]
theorem trues_bound (ac : List Bool) : 0 ≤ trues ac ∧ trues ac ≤ ac.length := by
  induction ac with
  | nil => simp [trues]
  | cons b ac ih => rw [trues_cons]; simp only [List.length_cons]; split <;> omega
theorem csum_nonneg (L : List (List S82)) : 0 ≤ csum L := by
  induction L with
  | nil => simp [csum]
  | cons l L ih => rw [csum_cons]; omega
theorem csum_laid (a : Int) (frm tt : Int) (nx : List (List Int)) : ∀ (ac : List Bool), ac.length = nx.length → (∀ l ∈ nx, (l.length : Int) = a) → csum (laidL nx ac frm tt) = a * nx.length + trues ac := by
  induction nx with
  | nil =>
    intro ac h _
    have : ac = [] := List.eq_nil_of_length_eq_zero (by simpa using h)
    subst this
    simp [laidL, csum, trues]
  | cons l nx ih =>
    intro ac h hr
    rcases ac with _ | ⟨b, ac⟩
    · simp at h
    · have h2 := ih ac (by simpa using h) (fun x hx => hr x (List.mem_cons_of_mem _ hx))
      have hl := hr l List.mem_cons_self
      have e : laidL (l :: nx) (b :: ac) frm tt = laidRow frm tt l b :: laidL nx ac frm tt := rfl
      rw [e, csum_cons, h2, trues_cons]
      have hlen : ((laidRow frm tt l b).length : Int) = (if b = true then 1 else 0) + a := by
        unfold laidRow
        rw [List.length_append, laidFrom_length]
        cases b <;> simp <;> omega
      rw [hlen, List.length_cons]
      rw [show ((nx.length + 1 : Nat) : Int) = (nx.length : Int) + 1 by omega, Int.mul_add, Int.mul_one]
      omega

theorem ev_edges_l0 (a : Int) (nx : List (List Int)) (ac : List Bool) (hac : ac.length ≤ 1000) :
    ∀ (d i : Nat) (n : Int), i + d = ac.length → 0 ≤ n → n ≤ 1000000 + i → Ev (fun k => caesuralaw19_edges.l0 k n (i : Int) a nx ac) (n + trues (ac.drop i)) := by
  intro d
  induction d with
  | zero =>
    intro i n hi h0 h1
    rw [List.drop_of_length_le (by omega)]
    refine Ev.step (f := fun _ => some n) (fun k => ?_) (by simpa [trues] using Ev.now _)
    simp only [caesuralaw19_edges.l0]
    rw [if_neg (by omega)]
  | succ d ih =>
    intro i n hi h0 h1
    have hil : i < ac.length := by omega
    rw [drop_cons_getD ac false i hil, trues_cons]
    cases hb : ac.getD i false with
    | true =>
      rw [if_pos rfl, ← Int.add_assoc]
      refine Ev.step (f := fun k => caesuralaw19_edges.l0 k (n + 1) ((i + 1 : Nat) : Int) a nx ac) (fun k => ?_) (ih (i + 1) (n + 1) (by omega) (by omega) (by omega))
      simp only [caesuralaw19_edges.l0, rdb_nat]
      rw [if_pos (by omega), if_pos (by omega), if_pos hb, wadd (x := n) (by omega) (by omega), wadd (x := (i : Int)) (by omega) (by omega), nat_succ_cast]
    | false =>
      rw [if_neg (by simp), Int.zero_add]
      refine Ev.step (f := fun k => caesuralaw19_edges.l0 k n ((i + 1 : Nat) : Int) a nx ac) (fun k => ?_) (ih (i + 1) n (by omega) (by omega) (by omega))
      simp only [caesuralaw19_edges.l0, rdb_nat]
      rw [if_pos (by omega), if_pos (by omega), if_neg (by rw [hb]; simp), wadd (x := (i : Int)) (by omega) (by omega), nat_succ_cast]
theorem mul_le_100 {a n : Int} (h1 : 1 ≤ a) (h2 : a ≤ 64) (h3 : 0 ≤ n) (h4 : n ≤ 1000) : 0 ≤ a * n ∧ a * n ≤ 64000 := by
  constructor
  · exact Int.mul_nonneg (by omega) h3
  · calc a * n ≤ 64 * n := Int.mul_le_mul_of_nonneg_right h2 h3
      _ ≤ 64000 := by omega
theorem ev_edges (a : Int) (nx : List (List Int)) (ac : List Bool) (hg : goodB a nx ac = true) : Ev (fun k => caesuralaw19_edges.f k a nx ac) (a * nx.length + trues ac) := by
  obtain ⟨ha1, ha2, hn1, hn2, hal, hrows⟩ := goodB_elim hg
  have hm := mul_le_100 ha1 ha2 (n := nx.length) (by omega) (by omega)
  have h := ev_edges_l0 a nx ac (by omega) ac.length 0 (a * nx.length) (by omega) hm.1 (by omega)
  refine Ev.congr (fun k => ?_) h
  unfold caesuralaw19_edges.f
  rw [wself (by omega) (by omega)]
  rfl
theorem ev_count_l0 (c : Int) (L : List (List S82)) (hL : L.length ≤ 10000) (hs : csum L ≤ 1000000) :
    ∀ (d i : Nat) (n : Int), i + d = L.length → n = csum (L.take i) → Ev (fun k => caesuralaw19_count.l0 k n (i : Int) c L) (csum L) := by
  intro d
  induction d with
  | zero =>
    intro i n hi hn
    rw [List.take_of_length_le (by omega)] at hn
    refine Ev.step (f := fun _ => some n) (fun k => ?_) (by rw [← hn]; exact Ev.now _)
    simp only [caesuralaw19_count.l0]
    rw [if_neg (by omega)]
  | succ d ih =>
    intro i n hi hn
    have hil : i < L.length := by omega
    have htk : csum (L.take (i + 1)) = csum (L.take i) + ((L.getD i []).length : Int) := by
      rw [List.take_succ_eq_append_getElem hil, csum_append]
      simp [csum, List.getD_eq_getElem?_getD, List.getElem?_eq_getElem hil]
    have hle : csum (L.take (i + 1)) ≤ csum L := by
      conv => rhs; rw [← List.take_append_drop (i + 1) L, csum_append]
      have := csum_nonneg (L.drop (i + 1))
      omega
    have h0 := csum_nonneg (L.take i)
    refine Ev.step (f := fun k => caesuralaw19_count.l0 k (n + ((L.getD i []).length : Int)) ((i + 1 : Nat) : Int) c L) (fun k => ?_) (ih (i + 1) _ (by omega) (by rw [htk, hn]))
    simp only [caesuralaw19_count.l0, rd2_nat]
    rw [if_pos (by omega), if_pos (by omega), wadd (x := n) (by omega) (by omega), wadd (x := (i : Int)) (by omega) (by omega), nat_succ_cast]
theorem ev_count (c : Int) (L : List (List S82)) (hL : L.length ≤ 10000) (hs : csum L ≤ 1000000) : Ev (fun k => caesuralaw19_count.f k c L) (csum L) := by
  have h := ev_count_l0 c L hL hs L.length 0 0 (by omega) (by simp [csum])
  exact h

theorem sizes_wraps (n n' : Nat) (m m' t t' : Int) (h1 : n ≤ 1000) (h2 : n' ≤ 1000) (h3 : 0 ≤ m) (h4 : m ≤ 64000) (h5 : 0 ≤ m') (h6 : m' ≤ 64000) (h7 : 0 ≤ t) (h8 : t ≤ 1000) (h9 : 0 ≤ t') (h10 : t' ≤ 1000) :
    wrap64 (2 + (n : Int)) = 2 + n ∧ wrap64 (2 + (n : Int) + (n' : Int)) = 2 + n + n' ∧ wrap64 (1 + (m + t)) = 1 + (m + t) ∧ wrap64 (m + t + (m' + t')) = m + t + (m' + t') ∧ wrap64 (1 + (m + t + (m' + t'))) = 1 + (m + t + (m' + t')) ∧
    wrap64 (2 + (m + t + (m' + t'))) = 2 + (m + t + (m' + t')) ∧ wrap64 (2 + (m + t)) = 2 + (m + t) :=
  ⟨wself (by omega) (by omega), wself (by omega) (by omega), wself (by omega) (by omega), wself (by omega) (by omega), wself (by omega) (by omega), wself (by omega) (by omega), wself (by omega) (by omega)⟩
set_option maxHeartbeats 1000000 in
theorem thompsonSizes_pure (a0_0 : Int) (l0_1 : List (List Int)) (l0_2 : List Bool) (a1_0 : Int) (l1_1 : List (List Int)) (l1_2 : List Bool) (wa0 : (Lit.int .i64 a0_0).wf = true) (wl0 : ∀ x ∈ l0_1, ∀ n ∈ x, (Lit.int .i64 n).wf = true) (wm0 : l0_1.length ≤ 9223372036854775807) (wa1 : (Lit.int .i64 a1_0).wf = true) (wl1 : ∀ x ∈ l1_1, ∀ n ∈ x, (Lit.int .i64 n).wf = true) (wm1 : l1_1.length ≤ 9223372036854775807) : ∃ k, caesuralaw19_ThompsonSizes.f k a0_0 l0_1 l0_2 a1_0 l1_1 l1_2 = some true := by
  refine Ev.rounds (g := fun k => caesuralaw19_ThompsonSizes.f k a0_0 l0_1 l0_2 a1_0 l1_1 l1_2) ?_
  have ht : Ev (fun k => caesuralaw19_ThompsonSizes.j0 k true a0_0 l0_1 l0_2 a1_0 l1_1 l1_2) true := by
    refine Ev.step (fun k => by simp only [caesuralaw19_ThompsonSizes.j0, if_true]; rfl) ?_
    exact Ev.bind ev_wakes19 (Ev.now _)
  unfold caesuralaw19_ThompsonSizes.f
  refine Ev.bind (ev_refGood a0_0 l0_1 l0_2) ?_
  cases hg : goodB a0_0 l0_1 l0_2 with
  | false => simpa using ht
  | true =>
    simp only [if_true]
    refine Ev.bind (ev_refGood a1_0 l1_1 l1_2) ?_
    cases hg' : goodB a1_0 l1_1 l1_2 with
    | false => simpa using ht
    | true =>
      simp only [if_true]
      by_cases he : a0_0 = a1_0
      · subst he
        simp only [if_true]
        by_cases h1 : (l0_1.length : Int) > 100
        · simp only [if_pos h1]
          exact ht
        · simp only [if_neg h1]
          by_cases h2 : (l1_1.length : Int) > 100
          · rw [decide_eq_true h2]
            exact ht
          · rw [decide_eq_false h2]
            have hb : bothB a0_0 l0_1 l0_2 a0_0 l1_1 l1_2 = true := by unfold bothB; rw [hg, hg']; simp
            obtain ⟨ha1, ha2, hn1, hn2, hal, hrows⟩ := goodB_elim hg
            obtain ⟨_, _, hn1', hn2', hal', hrows'⟩ := goodB_elim hg'
            have hm := mul_le_100 ha1 ha2 (n := l0_1.length) (by omega) (by omega)
            have hm' := mul_le_100 ha1 ha2 (n := l1_1.length) (by omega) (by omega)
            have hk := trues_bound l0_2
            have hk' := trues_bound l1_2
            have c1 : csum (netOf l0_1 l0_2) = 1 + (a0_0 * l0_1.length + trues l0_2) := by
              unfold netOf
              rw [csum_append, csum_laid a0_0 2 1 l0_1 l0_2 hal (fun l hl => (hrows l hl).1)]
              simp [csum]
            have c2 : csum (netJoin l0_1 l0_2 l1_1 l1_2) = 1 + (a0_0 * l0_1.length + trues l0_2 + (a0_0 * l1_1.length + trues l1_2)) := by
              unfold netJoin
              rw [csum_append, csum_append, csum_laid a0_0 _ _ l0_1 l0_2 hal (fun l hl => (hrows l hl).1), csum_laid a0_0 _ _ l1_1 l1_2 hal' (fun l hl => (hrows' l hl).1)]
              simp [csum]
            have c3 : csum (netEither l0_1 l0_2 l1_1 l1_2) = 2 + (a0_0 * l0_1.length + trues l0_2 + (a0_0 * l1_1.length + trues l1_2)) := by
              unfold netEither
              rw [csum_append, csum_append, csum_laid a0_0 _ _ l0_1 l0_2 hal (fun l hl => (hrows l hl).1), csum_laid a0_0 _ _ l1_1 l1_2 hal' (fun l hl => (hrows' l hl).1)]
              simp [csum]
            have c4 : csum (netAgain l0_1 l0_2) = 2 + (a0_0 * l0_1.length + trues l0_2) := by
              unfold netAgain
              rw [csum_append, csum_laid a0_0 2 0 l0_1 l0_2 hal (fun l hl => (hrows l hl).1)]
              simp [csum]
            have n1 : (netOf l0_1 l0_2).length = 2 + l0_1.length := by unfold netOf; rw [List.length_append, goodB_laid hg]; simp
            have n2 : (netJoin l0_1 l0_2 l1_1 l1_2).length = 2 + l0_1.length + l1_1.length := by unfold netJoin; rw [List.length_append, List.length_append, goodB_laid hg, goodB_laid hg']; simp; omega
            have n3 : (netEither l0_1 l0_2 l1_1 l1_2).length = 2 + l0_1.length + l1_1.length := by unfold netEither; rw [List.length_append, List.length_append, goodB_laid hg, goodB_laid hg']; simp; omega
            have n4 : (netAgain l0_1 l0_2).length = 2 + l0_1.length := by unfold netAgain; rw [List.length_append, goodB_laid hg]; simp
            have E1 := ev_edges a0_0 l0_1 l0_2 hg
            have E2 := ev_edges a0_0 l1_1 l1_2 hg'
            have C1 := ev_count a0_0 (netOf l0_1 l0_2) (by omega) (by omega)
            have C2 := ev_count a0_0 (netJoin l0_1 l0_2 l1_1 l1_2) (by omega) (by omega)
            have C3 := ev_count a0_0 (netEither l0_1 l0_2 l1_1 l1_2) (by omega) (by omega)
            have C4 := ev_count a0_0 (netAgain l0_1 l0_2) (by omega) (by omega)
            rw [c1] at C1
            rw [c2] at C2
            rw [c3] at C3
            rw [c4] at C4
            clear c1 c2 c3 c4
            generalize a0_0 * (l0_1.length : Int) = m at *
            generalize a0_0 * (l1_1.length : Int) = m' at *
            have V1 := ev_Of a0_0 l0_1 l0_2
            have V2 := ev_Join a0_0 l0_1 l0_2 a0_0 l1_1 l1_2
            have V3 := ev_Either a0_0 l0_1 l0_2 a0_0 l1_1 l1_2
            have V4 := ev_Again a0_0 l0_1 l0_2
            rw [hg, if_pos rfl] at V1 V4
            rw [hb, if_pos rfl] at V2 V3
            generalize netOf l0_1 l0_2 = N1 at *
            generalize netJoin l0_1 l0_2 l1_1 l1_2 = N2 at *
            generalize netEither l0_1 l0_2 l1_1 l1_2 = N3 at *
            generalize netAgain l0_1 l0_2 = N4 at *
            refine ev_succ ?_
            simp only [caesuralaw19_ThompsonSizes.j0, Bool.false_eq_true, if_false]
            refine Ev.bind V1 ?_
            refine Ev.bind V2 ?_
            refine Ev.bind V3 ?_
            refine Ev.bind V4 ?_
            simp only [if_true, Bool.not_true]
            refine ev_succ ?_
            simp only [caesuralaw19_ThompsonSizes.j1, Bool.false_eq_true, if_false]
            refine Ev.bind E1 ?_
            refine Ev.bind E2 ?_
            obtain ⟨w1, w2, w3, w4, w5, w6, w7⟩ := sizes_wraps l0_1.length l1_1.length m m' (trues l0_2) (trues l1_2) (by omega) (by omega) hm.1 hm.2 hm'.1 hm'.2 hk.1 (by omega) hk'.1 (by omega)
            have k1 : (N1.length : Int) = 2 + l0_1.length := by omega
            have k2 : (N2.length : Int) = 2 + l0_1.length + l1_1.length := by omega
            have k3 : (N3.length : Int) = 2 + l0_1.length + l1_1.length := by omega
            have k4 : (N4.length : Int) = 2 + l0_1.length := by omega
            simp only [w1, w2, w3, w4, w5, w6, w7, k1, k2, k3, k4, if_true]
            refine Ev.bind C1 ?_
            simp only [if_true]
            refine Ev.bind C2 ?_
            simp only [if_true]
            refine Ev.bind C3 ?_
            simp only [if_true]
            refine Ev.bind C4 ?_
            simp only [if_true]
            exact Ev.bind ev_wakes19 (Ev.now _)
      · simp only [if_neg he]
        exact ht
end Go.Proofs.Ytelkjbacdpmnfaa.A
