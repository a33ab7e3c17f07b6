/- The plain law of LeastAlike: what the walk computes answers true, for every input. No conditions but that numbers are of their kinds. -/
import Derived.Test.YtelkjbacdpmnfaaACaesuralaw21LeastAlike
import Derived.Test.YtelkjbacdpmnfaaAPlainClasses
import Derived.Test.YtelkjbacdpmnfaaAPlainLight
import Derived.Test.YtelkjbacdpmnfaaAPlainPairs
namespace Go.Proofs.Ytelkjbacdpmnfaa.A
open Go.RowKit Go.Proofs.YtelkjbacdpmnfaaW.PrintWords Go.Proofs.YtelkjbacdpmnfaaW.PrintLast
set_option linter.unusedVariables false

theorem ev_wakes21 : Ev (fun k => caesuralaw21_wakes.f k) true := Ev.now _
theorem class_eq2 {n L : Nat} {st : Nat → Nat → Nat} {acc : Nat → Bool} {C : List Int} (hC : IsClasses n L st acc C) {s u : Nat} (hs : s < n) (hu : u < n) : C.getD s 0 = C.getD u 0 ↔ Alike L st acc s u := by
  obtain ⟨x, e1, l1, a1, m1⟩ := hC.2 s hs
  obtain ⟨y, e2, l2, a2, m2⟩ := hC.2 u hu
  rw [e1, e2]
  constructor
  · intro e
    obtain rfl : x = y := by omega
    exact a1.symm.trans a2
  · intro e
    rcases Nat.lt_trichotomy x y with h | h | h
    · exact absurd (a1.trans e) (m2 x h)
    · rw [h]
    · exact absurd (a2.trans e.symm) (m1 y h)
def p60 (p : Nat × Nat) : S60 := ⟨(p.1 : Int), (p.2 : Int)⟩
theorem p60_eq (x q : Nat × Nat) : decide (x = q) = ((p60 x).f0 == (q.1 : Int) && ((p60 x).f1 == (q.2 : Int))) := by
  unfold p60
  by_cases h2 : x = q
  · rw [h2]; simp
  · have h3 : ¬ (x.1 = q.1 ∧ x.2 = q.2) := fun ⟨a, b⟩ => h2 (Prod.ext a b)
    rw [decide_eq_false h2]
    symm
    rw [Bool.and_eq_false_iff]
    by_cases h4 : x.1 = q.1
    · right
      have : x.2 ≠ q.2 := fun y => h3 ⟨h4, y⟩
      simp
      omega
    · left
      simp
      omega
def castP (P : List (Nat × Nat)) : List S60 := P.map p60
theorem castP_length (P : List (Nat × Nat)) : (castP P).length = P.length := by simp [castP]
theorem castP_at {P : List (Nat × Nat)} {j : Nat} {p : Nat × Nat} (h : P[j]? = some p) : rd_T60 (castP P) (j : Int) = p60 p := by
  unfold rd_T60 castP
  rw [Int.toNat_natCast, List.getD_eq_getElem?_getD, List.getElem?_map, h]
  rfl
section
variable {a : Int} {nx : List (List Int)} {ac : List Bool} {C : List Int}
theorem alike_l6 (h : Aut a nx ac) {s u i c : Nat} {ap : Bool} {P : List (Nat × Nat)} {p q : Nat × Nat} (hP : P.length ≤ 1000000)
    (hold : q ∈ P → Ev (fun k => caesuralaw21_LeastAlike.l5 k (nx.length : Int) C (s : Int) (u : Int) (castP P) ap (i : Int) ((c + 1 : Nat) : Int) a nx ac (p.1 : Int) (p.2 : Int)) true)
    (hnew : q ∉ P → Ev (fun k => caesuralaw21_LeastAlike.l5 k (nx.length : Int) C (s : Int) (u : Int) (castP (P ++ [q])) ap (i : Int) ((c + 1 : Nat) : Int) a nx ac (p.1 : Int) (p.2 : Int)) true) (hc : c < 1000) :
    ∀ (d j : Nat), j + d = P.length → Ev (fun k => caesuralaw21_LeastAlike.l6 k (nx.length : Int) C (s : Int) (u : Int) (castP P) ap (i : Int) (c : Int) (decide (q ∈ P.take j)) (j : Int) a nx ac (p.1 : Int) (p.2 : Int) (q.1 : Int) (q.2 : Int)) true := by
  intro d
  induction d with
  | zero =>
    intro j hj
    rw [List.take_of_length_le (by omega)]
    by_cases hm : q ∈ P
    · refine Ev.step (fun k => ?_) (hold hm)
      simp only [caesuralaw21_LeastAlike.l6, castP_length, decide_eq_true hm]
      rw [if_neg (by omega), if_pos trivial, wadd (by omega) (by omega), nat_succ_cast]
    · refine Ev.step (fun k => ?_) (hnew hm)
      have e : castP (P ++ [q]) = castP P ++ [(⟨(q.1 : Int), (q.2 : Int)⟩ : S60)] := by simp [castP, p60]
      simp only [caesuralaw21_LeastAlike.l6, castP_length, decide_eq_false hm]
      rw [if_neg (by omega), if_neg (by decide), if_pos (by omega), wadd (by omega) (by omega), nat_succ_cast, e]
  | succ d ih =>
    intro j hj
    have hjl : j < P.length := by omega
    have hih := ih (j + 1) (by omega)
    have hget : P[j]? = some P[j] := List.getElem?_eq_getElem hjl
    have ht : P.take (j + 1) = P.take j ++ [P[j]] := List.take_succ_eq_append_getElem hjl
    by_cases hm : q ∈ P.take j
    · have hm2 : q ∈ P.take (j + 1) := by rw [ht]; exact List.mem_append.2 (.inl hm)
      rw [decide_eq_true hm2] at hih
      refine Ev.step (fun k => ?_) hih
      simp only [caesuralaw21_LeastAlike.l6, castP_length, decide_eq_true hm]
      rw [if_pos (by omega), if_pos trivial, wadd (by omega) (by omega), nat_succ_cast]
    · have e : decide (q ∈ P.take (j + 1)) = ((p60 P[j]).f0 == (q.1 : Int) && ((p60 P[j]).f1 == (q.2 : Int))) := by
        have h1 : q ∈ P.take (j + 1) ↔ P[j] = q := by
          rw [ht, List.mem_append, List.mem_singleton]
          exact ⟨fun h => h.elim (fun h => absurd h hm) (fun h => h.symm), fun h => .inr h.symm⟩
        rw [decide_eq_decide.2 h1]
        exact p60_eq _ _
      rw [e] at hih
      refine Ev.step (fun k => ?_) hih
      simp only [caesuralaw21_LeastAlike.l6, castP_length, decide_eq_false hm, castP_at hget]
      rw [if_pos (by omega), if_neg (by decide), if_pos (by omega), wadd (by omega) (by omega), nat_succ_cast]
theorem alike_l5 (h : Aut a nx ac) {s u i : Nat} {ap : Bool} {p : Nat × Nat} (P0 : List (Nat × Nat))
    (hnext : ∀ P : List (Nat × Nat), (∀ j, j < i → P[j]? = P0[j]?) → i < P.length → Wbfs a.toNat (stP (stL nx) (stL nx)) (s, u) (inP nx.length nx.length) P (i + 1) 0 → P[i]? = some p → Ev (fun k => caesuralaw21_LeastAlike.l4 k (nx.length : Int) C (s : Int) (u : Int) (castP P) ap ((i + 1 : Nat) : Int) a nx ac) true) :
    ∀ (d c : Nat) (P : List (Nat × Nat)), c + d = a.toNat → (∀ j, j < i → P[j]? = P0[j]?) → Wbfs a.toNat (stP (stL nx) (stL nx)) (s, u) (inP nx.length nx.length) P i c → P[i]? = some p →
      Ev (fun k => caesuralaw21_LeastAlike.l5 k (nx.length : Int) C (s : Int) (u : Int) (castP P) ap (i : Int) (c : Int) a nx ac (p.1 : Int) (p.2 : Int)) true := by
  have ha2 := h.a2
  have ha1 := h.a1
  have hn2 := h.n2
  intro d
  induction d with
  | zero =>
    intro c P hc hpre hB hp
    obtain rfl : c = a.toNat := by omega
    have hi : i < P.length := (List.getElem?_eq_some_iff.1 hp).1
    have hmo := hB.most (N := nx.length * nx.length) (fun _ => code_lt) (fun _ _ => code_inj)
    have hsq : nx.length * nx.length ≤ 1000 * 1000 := Nat.mul_le_mul hn2 hn2
    refine Ev.step (fun k => ?_) (hnext P hpre hi (hB.turn hi) hp)
    simp only [caesuralaw21_LeastAlike.l5]
    rw [if_neg (by omega), wadd (by omega) (by omega), nat_succ_cast]
  | succ d ih =>
    intro c P hc hpre hB hp
    have hcl : c < a.toNat := by omega
    have hok : inP nx.length nx.length p := hB.good p (List.mem_of_getElem? hp)
    have hmo := hB.most (N := nx.length * nx.length) (fun _ => code_lt) (fun _ _ => code_inj)
    have hsq : nx.length * nx.length ≤ 1000 * 1000 := Nat.mul_le_mul hn2 hn2
    have hl1 := h.len hok.1
    have hl2 := h.len hok.2
    have h1 := hok.1
    have h2 := hok.2
    have hst : inP nx.length nx.length (stP (stL nx) (stL nx) p c) := ⟨h.shuts _ c h1 hcl, h.shuts _ c h2 hcl⟩
    have h6 := alike_l6 (C := C) h (s := s) (u := u) (i := i) (c := c) (ap := ap) (P := P) (p := p) (q := stP (stL nx) (stL nx) p c) (by omega)
      (fun hm => ih (c + 1) P (by omega) hpre (hB.old hp hm) hp)
      (fun hm => ih (c + 1) _ (by omega) (fun j hj => by rw [List.getElem?_append_left (by have := (List.getElem?_eq_some_iff.1 hp).1; omega)]; exact hpre j hj) (hB.new hp hcl hst hm) (by rw [List.getElem?_append_left (List.getElem?_eq_some_iff.1 hp).1]; exact hp)) (by omega) P.length 0 (by omega)
    refine Ev.step (fun k => ?_) h6
    simp only [caesuralaw21_LeastAlike.l5, rd5_nat, rd_nat, h.st h1 hcl, h.st h2 hcl]
    rw [if_pos (by omega), if_pos (by omega), if_pos (by omega), if_pos (by omega), if_pos (by omega), if_pos (by omega), if_pos (by omega), if_pos (by omega)]
    simp only [List.take_zero, List.not_mem_nil, decide_false]
    rfl
theorem alike_l4 (h : Aut a nx ac) (hC : IsClasses nx.length a.toNat (stL nx) (acL ac) C) {s u : Nat} (hs : s < nx.length) (hu : u < nx.length)
    (hl3 : Ev (fun k => caesuralaw21_LeastAlike.l3 k (nx.length : Int) C (s : Int) ((u + 1 : Nat) : Int) a nx ac) true) :
    ∀ (m i : Nat) (P : List (Nat × Nat)) (ap : Bool), nx.length * nx.length - i = m → Wbfs a.toNat (stP (stL nx) (stL nx)) (s, u) (inP nx.length nx.length) P i 0 → (ap = true → ¬ Alike a.toNat (stL nx) (acL ac) s u) → (ap = false → ∀ j p, j < i → P[j]? = some p → acL ac p.1 = acL ac p.2) →
      Ev (fun k => caesuralaw21_LeastAlike.l4 k (nx.length : Int) C (s : Int) (u : Int) (castP P) ap (i : Int) a nx ac) true := by
  have hn2 := h.n2
  have hen := h.ends
  have hCl := hC.1
  have last : ∀ (b : Bool), (b = true ↔ ¬ Alike a.toNat (stL nx) (acL ac) s u) → (b != (C.getD s 0 != C.getD u 0)) = false := by
    intro b hb
    have h1 := class_eq2 hC hs hu
    cases b with
    | true =>
      have h2 : C.getD s 0 ≠ C.getD u 0 := fun e => (hb.1 rfl) (h1.1 e)
      rw [show (C.getD s 0 != C.getD u 0) = true from bne_iff_ne.2 h2]
      rfl
    | false =>
      have h2 : Alike a.toNat (stL nx) (acL ac) s u := Classical.byContradiction fun hn => by have := hb.2 hn; cases this
      rw [h1.2 h2]
      simp
  intro m
  induction m using Nat.strongRecOn with
  | _ m ih =>
    intro i P ap hm hB ht hf
    have hmo := hB.most (N := nx.length * nx.length) (fun _ => code_lt) (fun _ _ => code_inj)
    have hat := hB.at_
    by_cases hi : i < P.length
    · obtain ⟨p, hp⟩ : ∃ p, P[i]? = some p := ⟨P[i], List.getElem?_eq_getElem hi⟩
      cases ap with
      | true =>
        refine Ev.step (fun k => ?_) hl3
        simp only [caesuralaw21_LeastAlike.l4, castP_length, rd_nat, last true ⟨fun _ => ht rfl, fun _ => rfl⟩]
        rw [if_pos (by omega), if_pos trivial, if_pos (by omega), if_pos (by omega), if_pos (by omega), if_pos (by omega), if_neg (by decide), wadd (by omega) (by omega), nat_succ_cast]
      | false =>
        have hpm : p ∈ P := List.mem_of_getElem? hp
        have hok := hB.good p hpm
        have h1 := hok.1
        have h2 := hok.2
        obtain ⟨b, hb⟩ : ∃ b, b = (acL ac p.1 != acL ac p.2) := ⟨_, rfl⟩
        have h5 := alike_l5 (C := C) h (s := s) (u := u) (i := i) (ap := b) (p := p) P (fun P' hpre hi' hB' hp' => ih (nx.length * nx.length - (i + 1)) (by
            have := hB'.most (N := nx.length * nx.length) (fun _ => code_lt) (fun _ _ => code_inj)
            omega) (i + 1) P' b rfl hB' (fun e => by
            obtain ⟨w, hw, e2⟩ := hB.got p hpm
            intro al
            have h3 := al w hw
            rw [runW_pair] at e2
            have e3 : p.1 = runS (stL nx) s w := by rw [← e2]
            have e4 : p.2 = runS (stL nx) u w := by rw [← e2]
            rw [← e3, ← e4] at h3
            rw [hb, h3] at e
            simp at e) (fun e j q hj hq => by
            rcases Nat.lt_or_ge j i with h3 | h3
            · exact hf rfl j q h3 (by rw [← hpre j h3]; exact hq)
            · obtain rfl : j = i := by omega
              obtain rfl : p = q := Option.some.inj (hp'.symm.trans hq)
              rw [hb] at e
              simpa using e)) a.toNat 0 P (by omega) (fun _ _ => rfl) hB hp
        refine Ev.step (fun k => ?_) h5
        simp only [caesuralaw21_LeastAlike.l4, castP_length, castP_at hp]
        have hr1 : rdOf false ac (p60 p).f0 = acL ac p.1 := rdb_nat ac p.1
        have hr2 : rdOf false ac (p60 p).f1 = acL ac p.2 := rdb_nat ac p.2
        have hx1 : (p60 p).f0 = (p.1 : Int) := rfl
        have hx2 : (p60 p).f1 = (p.2 : Int) := rfl
        rw [hr1, hr2, ← hb, hx1, hx2, if_pos (by omega), if_neg (by decide), if_pos (by omega), if_pos (by omega), if_pos (by omega), if_pos (by omega), if_pos (by omega)]
        rfl
    · have hie : i = P.length := by omega
      have hiff : ap = true ↔ ¬ Alike a.toNat (stL nx) (acL ac) s u := by
        refine ⟨ht, fun hn => ?_⟩
        cases ap with
        | true => rfl
        | false =>
          refine absurd (fun w hw => ?_) hn
          obtain ⟨j, hj, e⟩ := List.mem_iff_getElem.1 (hB.all hie w hw)
          have h3 := hf rfl j _ (by omega) (List.getElem?_eq_some_iff.2 ⟨hj, e⟩)
          rwa [runW_pair] at h3
      refine Ev.step (fun k => ?_) hl3
      simp only [caesuralaw21_LeastAlike.l4, castP_length, rd_nat, last ap hiff]
      rw [if_neg (by omega), if_pos (by omega), if_pos (by omega), if_pos (by omega), if_pos (by omega), if_neg (by decide), wadd (by omega) (by omega), nat_succ_cast]
theorem alike_l3 (h : Aut a nx ac) (hC : IsClasses nx.length a.toNat (stL nx) (acL ac) C) {s : Nat} (hs : s < nx.length) (hl2 : Ev (fun k => caesuralaw21_LeastAlike.l2 k (nx.length : Int) C ((s + 1 : Nat) : Int) a nx ac) true) :
    ∀ (d u : Nat), u + d = s → Ev (fun k => caesuralaw21_LeastAlike.l3 k (nx.length : Int) C (s : Int) (u : Int) a nx ac) true := by
  have hn2 := h.n2
  intro d
  induction d with
  | zero =>
    intro u hu
    refine Ev.step (fun k => ?_) hl2
    simp only [caesuralaw21_LeastAlike.l3]
    rw [if_neg (by omega), wadd (by omega) (by omega), nat_succ_cast]
  | succ d ih =>
    intro u hu
    refine Ev.step (fun k => ?_) (alike_l4 h hC hs (show u < nx.length by omega) (ih (u + 1) (by omega)) _ 0 [(s, u)] false rfl (Wbfs.start ⟨hs, by omega⟩) (fun e => by cases e) (fun _ j p hj => absurd hj (Nat.not_lt_zero _)))
    simp only [caesuralaw21_LeastAlike.l3]
    rw [if_pos (by omega)]
    rfl
theorem alike_l2 (h : Aut a nx ac) (hC : IsClasses nx.length a.toNat (stL nx) (acL ac) C) : ∀ (d s : Nat), s + d = nx.length → Ev (fun k => caesuralaw21_LeastAlike.l2 k (nx.length : Int) C (s : Int) a nx ac) true := by
  intro d
  induction d with
  | zero =>
    intro s hs
    refine Ev.step (f := fun k => (caesuralaw21_wakes.f k).bind fun t => some t) (fun k => ?_) (Ev.bind ev_wakes21 (Ev.now _))
    simp only [caesuralaw21_LeastAlike.l2]
    rw [if_neg (by omega)]
  | succ d ih =>
    intro s hs
    refine Ev.step (fun k => ?_) (alike_l3 h hC (show s < nx.length by omega) (ih (s + 1) (by omega)) s 0 (by omega))
    simp only [caesuralaw21_LeastAlike.l2]
    rw [if_pos (by omega)]
    rfl
theorem alike_l1 (h : Aut a nx ac) (hC : IsClasses nx.length a.toNat (stL nx) (acL ac) C) {s u : Nat} (hs : s < nx.length) (hu : u < nx.length) (al : Alike a.toNat (stL nx) (acL ac) u s) (hl0 : Ev (fun k => caesuralaw21_LeastAlike.l0 k (nx.length : Int) C ((s + 1 : Nat) : Int) a nx ac) true) :
    ∀ (d c : Nat), c + d = a.toNat → Ev (fun k => caesuralaw21_LeastAlike.l1 k (nx.length : Int) C (s : Int) (u : Int) (c : Int) a nx ac) true := by
  have hn2 := h.n2
  have ha1 := h.a1
  have ha2 := h.a2
  have hCl := hC.1
  have hl1 := h.len hs
  have hl2 := h.len hu
  intro d
  induction d with
  | zero =>
    intro c hc
    refine Ev.step (fun k => ?_) hl0
    simp only [caesuralaw21_LeastAlike.l1]
    rw [if_neg (by omega), wadd (by omega) (by omega), nat_succ_cast]
  | succ d ih =>
    intro c hc
    have hcl : c < a.toNat := by omega
    have hx1 := h.shuts s c hs hcl
    have hx2 := h.shuts u c hu hcl
    have e := (class_eq2 hC hx1 hx2).2 (al.symm.step hcl)
    refine Ev.step (fun k => ?_) (ih (c + 1) (by omega))
    simp only [caesuralaw21_LeastAlike.l1, rd5_nat, rd_nat, h.st hs hcl, h.st hu hcl]
    rw [if_pos (by omega), if_pos (by omega), if_pos (by omega), if_pos (by omega), if_pos (by omega), if_pos (by omega), if_pos (by omega), if_pos (by omega), if_pos (by omega), if_pos (by omega), if_pos (by omega), if_pos (by omega), if_pos e, wadd (by omega) (by omega), nat_succ_cast]
theorem alike_l0 (h : Aut a nx ac) (hC : IsClasses nx.length a.toNat (stL nx) (acL ac) C) : ∀ (d s : Nat), s + d = nx.length → Ev (fun k => caesuralaw21_LeastAlike.l0 k (nx.length : Int) C (s : Int) a nx ac) true := by
  have hn2 := h.n2
  have hen := h.ends
  have hCl := hC.1
  intro d
  induction d with
  | zero =>
    intro s hs
    refine Ev.step (fun k => ?_) (alike_l2 h hC nx.length 0 (by omega))
    simp only [caesuralaw21_LeastAlike.l0]
    rw [if_neg (by omega)]
    rfl
  | succ d ih =>
    intro s hs
    have hsl : s < nx.length := by omega
    obtain ⟨u, e, hus, al, hmin⟩ := hC.2 s hsl
    have hu : u < nx.length := by omega
    have e2 : C.getD u 0 = (u : Int) := by rw [(class_eq2 hC hu hsl).2 al, e]
    have e3 : (ac.getD s false != ac.getD u false) = false := by
      have := al.ends
      unfold acL at this
      rw [this]
      simp
    refine Ev.step (fun k => ?_) (alike_l1 h hC hsl hu al (ih (s + 1) (by omega)) a.toNat 0 (by omega))
    simp only [caesuralaw21_LeastAlike.l0, rd_nat, e, e2, rdb_nat, e3]
    rw [if_pos (by omega), if_pos (by omega), if_pos (by omega), if_neg (by omega), if_neg (by omega), if_pos (by omega), if_pos (by omega), if_pos trivial, if_pos (by omega), if_pos (by omega), if_neg (by decide)]
    rfl
end
theorem leastAlike_ev (a : Int) (nx : List (List Int)) (ac : List Bool) : Ev (fun k => caesuralaw21_LeastAlike.f k a nx ac) true := by
  unfold caesuralaw21_LeastAlike.f
  refine Ev.bind (ev_Light a nx ac) ?_
  cases hl : lightB nx ac with
  | false =>
    simp only [Bool.false_eq_true, if_false]
    exact Ev.bind ev_wakes21 (Ev.now _)
  | true =>
    simp only [if_true]
    refine Ev.bind (ev_refGood a nx ac) ?_
    cases hg : goodB a nx ac with
    | false =>
      simp only [Bool.false_eq_true, if_false]
      exact Ev.bind ev_wakes21 (Ev.now _)
    | true =>
      simp only [if_true]
      by_cases h6 : (nx.length : Int) > 12
      · simp only [if_pos h6]
        exact Ev.bind ev_wakes21 (Ev.now _)
      · simp only [if_neg h6]
        obtain ⟨C, c1, hC⟩ := ev_leastClasses hg
        refine Ev.bind c1 ?_
        simp only [hC.1, if_true]
        exact alike_l0 (Aut.of hg) hC nx.length 0 (by omega)
theorem leastAlike_pure (a0_0 : Int) (l0_1 : List (List Int)) (l0_2 : List Bool) (wa0 : (Lit.int .i64 a0_0).wf = true) (wl0 : ∀ x ∈ l0_1, ∀ n ∈ x, (Lit.int .i64 n).wf = true) (wm0 : l0_1.length ≤ 9223372036854775807) : ∃ k, caesuralaw21_LeastAlike.f k a0_0 l0_1 l0_2 = some true :=
  (leastAlike_ev a0_0 l0_1 l0_2).rounds
end Go.Proofs.Ytelkjbacdpmnfaa.A
