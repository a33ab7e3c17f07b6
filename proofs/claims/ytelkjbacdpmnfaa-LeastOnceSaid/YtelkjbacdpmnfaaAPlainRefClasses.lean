/- By a program, out of the translation (wip/myprint.py). -/
import Derived.Test.YtelkjbacdpmnfaaA0
import Derived.Test.YtelkjbacdpmnfaaACaesuraref21Classes
import Derived.Test.YtelkjbacdpmnfaaAPlainAlike
import Derived.Test.YtelkjbacdpmnfaaAPlainAut
import Derived.Test.YtelkjbacdpmnfaaAPlainGood
import Derived.Test.YtelkjbacdpmnfaaAPlainNorm
import Derived.Test.YtelkjbacdpmnfaaAPlainSplit
import Derived.Test.YtelkjbacdpmnfaaAThompsonGood
namespace Go.Proofs.Ytelkjbacdpmnfaa.A
open Go.RowKit Go.Proofs.YtelkjbacdpmnfaaW.PrintWords Go.Proofs.YtelkjbacdpmnfaaW.PrintLast Go.Proofs.YtelkjbacdpmnfaaW.PrintMore
attribute [local go_sem] max2_int min2_int max_two min_two max_three min_three max_four min_four   -- for this text's walks alone
set_option linter.unusedVariables false
set_option linter.unusedSimpArgs false

/-! the classes of alike states: the reference's, round by round -/
section
variable {a : Int} {nx : List (List Int)} {ac : List Bool}
/-- What is computed is the classes. -/
def Told (a : Int) (nx : List (List Int)) (ac : List Bool) (g : Nat → Option (List Int)) : Prop := ∃ R, Ev g R ∧ IsClasses nx.length a.toNat (stL nx) (acL ac) R
theorem Told.step {g f : Nat → Option (List Int)} (h : Told a nx ac f) (e : ∀ k, g (k + 1) = f k) : Told a nx ac g := by
  obtain ⟨R, hR, hI⟩ := h
  exact ⟨R, Ev.step e hR, hI⟩
theorem Told.congr {g f : Nat → Option (List Int)} (h : Told a nx ac f) (e : ∀ k, g k = f k) : Told a nx ac g := by
  obtain ⟨R, hR, hI⟩ := h
  exact ⟨R, Ev.congr e hR, hI⟩
theorem getD_set {l : List Int} {i j : Nat} {x : Int} (hi : i < l.length) : (l.set i x).getD j 0 = if i = j then x else l.getD j 0 := by
  rw [List.getD_eq_getElem?_getD, List.getD_eq_getElem?_getD, List.getElem?_set]
  split
  · simp [hi]
  · rfl
def SH (a : Int) (nx : List (List Int)) (now : List Int) : Nat → Nat → Prop := Shows a.toNat (stL nx) (fun s => now.getD s 0)
theorem refClasses_l5 (h : Aut a nx ac) {now next : List Int} {ch : Bool} {s u : Nat} (hN : now.length = nx.length) (hX : next.length = nx.length) (hs : s < nx.length) (hu : u < s) (he : now.getD u 0 = now.getD s 0)
    (hskip : ¬ SH a nx now u s → Told a nx ac (fun k => caesuraref21_Classes.l4 k (nx.length : Int) now ch next (s : Int) ((u + 1 : Nat) : Int) a nx ac))
    (hset : SH a nx now u s → Told a nx ac (fun k => caesuraref21_Classes.l3 k (nx.length : Int) now (ch || ((u : Int) != now.getD s 0)) (next.set s (u : Int)) ((s + 1 : Nat) : Int) a nx ac)) :
    ∀ (d c : Nat) (same : Bool), c + d = a.toNat → (same = true → ∀ c', c' < c → now.getD (stL nx u c') 0 = now.getD (stL nx s c') 0) → (same = false → ∃ c', c' < a.toNat ∧ now.getD (stL nx u c') 0 ≠ now.getD (stL nx s c') 0) →
      Told a nx ac (fun k => caesuraref21_Classes.l5 k (nx.length : Int) now ch next (s : Int) (u : Int) same (c : Int) a nx ac) := by
  have ha1 := h.a1
  have ha2 := h.a2
  have hn2 := h.n2
  intro d
  induction d with
  | zero =>
    intro c same hc ht hf
    obtain rfl : c = a.toNat := by omega
    cases same with
    | true =>
      have hsh : SH a nx now u s := ⟨he, ht rfl⟩
      refine (hset hsh).step fun k => ?_
      have hr : (next.set s (u : Int)).getD s 0 = (u : Int) := by rw [getD_set (by omega), if_pos rfl]
      simp only [caesuraref21_Classes.l5, Option.bind_some, Int.toNat_natCast, rd_nat, hr]
      rw [if_neg (by omega), if_pos trivial, if_pos (by omega), if_pos (by omega), wadd (by omega) (by omega), nat_succ_cast]
      cases ch
      · rw [if_neg (by decide), if_pos (by omega), Bool.false_or]
      · rw [if_pos rfl, Bool.true_or]
    | false =>
      obtain ⟨c', h1, h2⟩ := hf rfl
      refine (hskip (fun hsh => h2 (hsh.2 c' h1))).step fun k => ?_
      simp only [caesuraref21_Classes.l5]
      rw [if_neg (by omega), if_neg (by decide), wadd (by omega) (by omega), nat_succ_cast]
  | succ d ih =>
    intro c same hc ht hf
    have hcl : c < a.toNat := by omega
    cases same with
    | true =>
      have hu' : u < nx.length := by omega
      have hx1 := h.shuts u c hu' hcl
      have hx2 := h.shuts s c hs hcl
      have hl1 := h.len hu'
      have hl2 := h.len hs
      refine (ih (c + 1) (now.getD (stL nx u c) 0 == now.getD (stL nx s c) 0) (by omega) (fun e c' hc' => ?_) (fun e => ⟨c, hcl, by simpa using e⟩)).step fun k => ?_
      · rcases Nat.lt_or_ge c' c with h1 | h1
        · exact ht rfl c' h1
        · obtain rfl : c' = c := by omega
          simpa using e
      · simp only [caesuraref21_Classes.l5, rd5_nat, rd_nat, h.st hu' hcl, h.st hs hcl]
        rw [if_pos (by omega), if_pos trivial, if_pos (by omega), if_pos (by omega), if_pos (by omega), if_pos (by omega), if_pos (by omega), if_pos (by omega), if_pos (by omega), if_pos (by omega), if_pos (by omega), if_pos (by omega), if_pos (by omega), wadd (by omega) (by omega), nat_succ_cast]
    | false =>
      obtain ⟨c', h1, h2⟩ := hf rfl
      refine (hskip (fun hsh => h2 (hsh.2 c' h1))).step fun k => ?_
      simp only [caesuraref21_Classes.l5]
      rw [if_pos (by omega), if_neg (by decide), wadd (by omega) (by omega), nat_succ_cast]
theorem refClasses_l4 (h : Aut a nx ac) {now next : List Int} {ch : Bool} {s : Nat} (hN : now.length = nx.length) (hX : next.length = nx.length) (hs : s < nx.length) (hT : NormTo (SH a nx now) s (fun t => next.getD t 0)) (hself : next.getD s 0 = (s : Int))
    (hl3 : ∀ next' : List Int, next'.length = nx.length → NormTo (SH a nx now) (s + 1) (fun t => next'.getD t 0) → (∀ t, t < s → next'.getD t 0 = next.getD t 0) → Told a nx ac (fun k => caesuraref21_Classes.l3 k (nx.length : Int) now (ch || (next'.getD s 0 != now.getD s 0)) next' ((s + 1 : Nat) : Int) a nx ac)) :
    ∀ (d u : Nat), u + d = s → (∀ v, v < u → ¬ SH a nx now v s) → Told a nx ac (fun k => caesuraref21_Classes.l4 k (nx.length : Int) now ch next (s : Int) (u : Int) a nx ac) := by
  have hn2 := h.n2
  intro d
  induction d with
  | zero =>
    intro u hu hn
    obtain rfl : u = s := by omega
    refine (hl3 next hX (hT.own (shows_eqv _) (fun _ _ => rfl) hself hn) (fun _ _ => rfl)).step fun k => ?_
    simp only [caesuraref21_Classes.l4, rd_nat]
    rw [if_neg (by omega), wadd (by omega) (by omega), nat_succ_cast]
    cases ch
    · rw [if_neg (by decide), if_pos (by omega), if_pos (by omega), if_pos (by omega), Bool.false_or]
    · rw [if_pos rfl, Bool.true_or]
  | succ d ih =>
    intro u hu hn
    have hul : u < s := by omega
    have skip : ¬ SH a nx now u s → Told a nx ac (fun k => caesuraref21_Classes.l4 k (nx.length : Int) now ch next (s : Int) ((u + 1 : Nat) : Int) a nx ac) := fun hk => ih (u + 1) (by omega) (fun v hv => by
      rcases Nat.lt_or_ge v u with h1 | h1
      · exact hn v h1
      · obtain rfl : v = u := by omega
        exact hk)
    have j5skip : Told a nx ac (fun k => caesuraref21_Classes.l4 k (nx.length : Int) now ch next (s : Int) ((u + 1 : Nat) : Int) a nx ac) → Told a nx ac (fun k => caesuraref21_Classes.j5 k (nx.length : Int) now ch next (s : Int) (u : Int) true a nx ac) := fun ht => ht.step fun k => by
      simp only [caesuraref21_Classes.j5]
      rw [if_pos trivial, wadd (by omega) (by omega), nat_succ_cast]
    by_cases hne : next.getD u 0 = (u : Int)
    · by_cases he : now.getD u 0 = now.getD s 0
      · have h5 := refClasses_l5 h (ch := ch) hN hX hs hul he skip (fun hsh => ?_) a.toNat 0 true (by omega) (fun _ c' hc' => absurd hc' (Nat.not_lt_zero _)) (fun e => by cases e)
        · have hj : Told a nx ac (fun k => caesuraref21_Classes.j5 k (nx.length : Int) now ch next (s : Int) (u : Int) false a nx ac) := h5.step fun k => by
            simp only [caesuraref21_Classes.j5]
            rw [if_neg (by decide)]
            rfl
          refine hj.step fun k => ?_
          simp only [caesuraref21_Classes.l4, rd_nat, he]
          rw [if_pos (by omega), if_pos (by omega), if_pos (by omega), if_pos hne, if_pos (by omega), if_pos (by omega), if_pos (by omega)]
          simp
        · have h6 := hl3 (next.set s (u : Int)) (by simpa using hX) (hT.tied (u := u) (fun t ht => by
            show (next.set s (u : Int)).getD t 0 = next.getD t 0
            rw [getD_set (by omega), if_neg (by omega)]) hul (by
            show (next.set s (u : Int)).getD s 0 = (u : Int)
            rw [getD_set (by omega), if_pos rfl]) hsh hn) (fun t ht => by rw [getD_set (by omega), if_neg (by omega)])
          rwa [show (next.set s (u : Int)).getD s 0 = (u : Int) by rw [getD_set (by omega), if_pos rfl]] at h6
      · refine (j5skip (skip (fun hsh => he hsh.1))).step fun k => ?_
        simp only [caesuraref21_Classes.l4, rd_nat]
        rw [if_pos (by omega), if_pos (by omega), if_pos (by omega), if_pos hne, if_pos (by omega), if_pos (by omega), if_pos (by omega)]
        have e : (now.getD u 0 != now.getD s 0) = true := by simpa using he
        rw [e]
    · refine (j5skip (skip (hT.skip (shows_eqv _) hul hne hn))).step fun k => ?_
      simp only [caesuraref21_Classes.l4, rd_nat]
      rw [if_pos (by omega), if_pos (by omega), if_pos (by omega), if_neg hne]
theorem refClasses_l3 (h : Aut a nx ac) {now : List Int} (hN : now.length = nx.length)
    (hl2 : ∀ (next : List Int) (ch : Bool), next.length = nx.length → NormTo (SH a nx now) nx.length (fun t => next.getD t 0) → (ch = false → ∀ t, t < nx.length → next.getD t 0 = now.getD t 0) → (ch = true → ∃ t, t < nx.length ∧ next.getD t 0 ≠ now.getD t 0) → Told a nx ac (fun k => caesuraref21_Classes.l2 k (nx.length : Int) next ch a nx ac)) :
    ∀ (d s : Nat) (next : List Int) (ch : Bool), s + d = nx.length → next.length = nx.length → NormTo (SH a nx now) s (fun t => next.getD t 0) → (ch = false → ∀ t, t < s → next.getD t 0 = now.getD t 0) → (ch = true → ∃ t, t < s ∧ next.getD t 0 ≠ now.getD t 0) → Told a nx ac (fun k => caesuraref21_Classes.l3 k (nx.length : Int) now ch next (s : Int) a nx ac) := by
  have hn2 := h.n2
  intro d
  induction d with
  | zero =>
    intro s next ch hd hX hT hf ht
    obtain rfl : s = nx.length := by omega
    refine (hl2 next ch hX hT hf ht).step fun k => ?_
    simp only [caesuraref21_Classes.l3]
    rw [if_neg (by omega)]
  | succ d ih =>
    intro s next ch hd hX hT hf ht
    have hs : s < nx.length := by omega
    have hX2 : (next.set s (s : Int)).length = nx.length := by simpa using hX
    have hold : ∀ t, t < s → (next.set s (s : Int)).getD t 0 = next.getD t 0 := fun t ht => by rw [getD_set (by omega), if_neg (by omega)]
    refine (refClasses_l4 h (ch := ch) (next := next.set s (s : Int)) hN hX2 hs (fun t ht => ?_) (by rw [getD_set (by omega), if_pos rfl]) (fun next' hl hT' ho => ?_) s 0 (by omega) (fun v hv => absurd hv (Nat.not_lt_zero _))).step fun k => ?_
    · obtain ⟨b, e, r⟩ := hT t ht
      exact ⟨b, (hold t ht).trans e, r⟩
    · refine ih (s + 1) next' _ (by omega) hl hT' (fun e t htl => ?_) (fun e => ?_)
      · simp only [Bool.or_eq_false_iff, bne_eq_false_iff_eq] at e
        rcases Nat.lt_or_ge t s with h1 | h1
        · rw [ho t h1, hold t h1, hf e.1 t h1]
        · obtain rfl : t = s := by omega
          exact e.2
      · simp only [Bool.or_eq_true, bne_iff_ne] at e
        rcases e with e | e
        · obtain ⟨t, h1, h2⟩ := ht e
          exact ⟨t, by omega, by rw [ho t h1, hold t h1]; exact h2⟩
        · exact ⟨s, by omega, e⟩
    · simp only [caesuraref21_Classes.l3, Int.toNat_natCast]
      rw [if_pos (by omega), if_pos (by omega), if_pos (by omega)]
      rfl
theorem refClasses_l2 (h : Aut a nx ac) : ∀ (d : Nat) (now : List Int), nx.length - cnt nx.length (fun t => now.getD t 0) = d → now.length = nx.length → Kept nx.length a.toNat (stL nx) (acL ac) (fun t => now.getD t 0) → Told a nx ac (fun k => caesuraref21_Classes.l2 k (nx.length : Int) now true a nx ac) := by
  have hn2 := h.n2
  intro d
  induction d using Nat.strongRecOn with
  | _ d ih =>
    intro now hd hN hK
    refine (refClasses_l3 h hN (fun next ch hX hT hf ht => ?_) nx.length 0 (List.replicate nx.length 0) false (by omega) (by simp) (fun s hs => absurd hs (Nat.not_lt_zero _)) (fun _ t ht => absurd ht (Nat.not_lt_zero _)) (fun e => by cases e)).step fun k => ?_
    · cases ch with
      | true =>
        obtain ⟨t, h1, h2⟩ := ht rfl
        have hm := hK.more hT h1 h2
        have hle := cnt_le_n nx.length (fun t => next.getD t 0)
        exact ih _ (by omega) next rfl hX (hK.next h.shuts hT)
      | false =>
        have he : next = now := by
          apply List.ext_getElem (hX.trans hN.symm)
          intro i h1 h2
          have := hf rfl i (by omega)
          rw [List.getD_eq_getElem?_getD, List.getElem?_eq_getElem h1, List.getD_eq_getElem?_getD, List.getElem?_eq_getElem h2] at this
          exact this
        subst he
        refine ⟨next, Ev.step (f := fun _ => some next) (fun k => ?_) (Ev.now _), hK.ends hN h.shuts hT (fun _ _ => rfl)⟩
        simp only [caesuraref21_Classes.l2]
        rw [if_neg (by decide)]
    · simp only [caesuraref21_Classes.l2, Int.toNat_natCast]
      rw [if_pos trivial, if_pos (by omega), if_pos (by omega)]
      rfl
def EN (ac : List Bool) (s u : Nat) : Prop := acL ac s = acL ac u
theorem refClasses_l1 (h : Aut a nx ac) {now : List Int} {s : Nat} (hN : now.length = nx.length) (hs : s < nx.length) (hT : NormTo (EN ac) s (fun t => now.getD t 0)) (hself : now.getD s 0 = (s : Int))
    (hl0 : ∀ now' : List Int, now'.length = nx.length → NormTo (EN ac) (s + 1) (fun t => now'.getD t 0) → Told a nx ac (fun k => caesuraref21_Classes.l0 k (nx.length : Int) now' ((s + 1 : Nat) : Int) a nx ac)) :
    ∀ (d u : Nat), u + d = s → (∀ v, v < u → ¬ EN ac v s) → Told a nx ac (fun k => caesuraref21_Classes.l1 k (nx.length : Int) now (s : Int) (u : Int) a nx ac) := by
  have hn2 := h.n2
  have hen := h.ends
  intro d
  induction d with
  | zero =>
    intro u hu hn
    obtain rfl : u = s := by omega
    refine (hl0 now hN (hT.own (ends_eqv _) (fun _ _ => rfl) hself hn)).step fun k => ?_
    simp only [caesuraref21_Classes.l1]
    rw [if_neg (by omega), wadd (by omega) (by omega), nat_succ_cast]
  | succ d ih =>
    intro u hu hn
    have hul : u < s := by omega
    have skip : ¬ EN ac u s → Told a nx ac (fun k => caesuraref21_Classes.l1 k (nx.length : Int) now (s : Int) ((u + 1 : Nat) : Int) a nx ac) := fun hk => ih (u + 1) (by omega) (fun v hv => by
      rcases Nat.lt_or_ge v u with h1 | h1
      · exact hn v h1
      · obtain rfl : v = u := by omega
        exact hk)
    by_cases hne : now.getD u 0 = (u : Int)
    · by_cases he : acL ac u = acL ac s
      · have h6 := hl0 (now.set s (u : Int)) (by simpa using hN) (hT.tied (u := u) (fun t ht => by
          show (now.set s (u : Int)).getD t 0 = now.getD t 0
          rw [getD_set (by omega), if_neg (by omega)]) hul (by
          show (now.set s (u : Int)).getD s 0 = (u : Int)
          rw [getD_set (by omega), if_pos rfl]) he hn)
        refine h6.step fun k => ?_
        have e : (ac.getD u false == ac.getD s false) = true := by simpa [acL] using he
        simp only [caesuraref21_Classes.l1, rd_nat, rdb_nat, e, Int.toNat_natCast]
        rw [if_pos (by omega), if_pos (by omega), if_pos (by omega), if_pos hne, if_pos (by omega), if_pos (by omega), if_pos (by omega), if_pos trivial, if_pos (by omega), wadd (by omega) (by omega), nat_succ_cast]
      · refine (skip he).step fun k => ?_
        have e : (ac.getD u false == ac.getD s false) = false := by simpa [acL] using he
        simp only [caesuraref21_Classes.l1, rd_nat, rdb_nat, e]
        rw [if_pos (by omega), if_pos (by omega), if_pos (by omega), if_pos hne, if_pos (by omega), if_pos (by omega), if_pos (by omega), if_neg (by decide), wadd (by omega) (by omega), nat_succ_cast]
    · refine (skip (hT.skip (ends_eqv _) hul hne hn)).step fun k => ?_
      simp only [caesuraref21_Classes.l1, rd_nat]
      rw [if_pos (by omega), if_pos (by omega), if_pos (by omega), if_neg hne, wadd (by omega) (by omega), nat_succ_cast]
theorem refClasses_l0 (h : Aut a nx ac) : ∀ (d s : Nat) (now : List Int), s + d = nx.length → now.length = nx.length → NormTo (EN ac) s (fun t => now.getD t 0) → Told a nx ac (fun k => caesuraref21_Classes.l0 k (nx.length : Int) now (s : Int) a nx ac) := by
  have hn2 := h.n2
  intro d
  induction d with
  | zero =>
    intro s now hd hN hT
    obtain rfl : s = nx.length := by omega
    refine (refClasses_l2 h _ now rfl hN (Kept.start hT)).step fun k => ?_
    simp only [caesuraref21_Classes.l0]
    rw [if_neg (by omega)]
  | succ d ih =>
    intro s now hd hN hT
    have hs : s < nx.length := by omega
    refine (refClasses_l1 h (now := now.set s (s : Int)) (by simpa using hN) hs (fun t ht => ?_) (by rw [getD_set (by omega), if_pos rfl]) (fun now' hl hT' => ih (s + 1) now' (by omega) hl hT') s 0 (by omega) (fun v hv => absurd hv (Nat.not_lt_zero _))).step fun k => ?_
    · obtain ⟨b, e, r⟩ := hT t ht
      refine ⟨b, ?_, r⟩
      show (now.set s (s : Int)).getD t 0 = (b : Int)
      rw [getD_set (by omega), if_neg (by omega)]
      exact e
    · simp only [caesuraref21_Classes.l0, Int.toNat_natCast]
      rw [if_pos (by omega), if_pos (by omega), if_pos (by omega)]
      rfl
theorem ev_refClasses (hg : goodB a nx ac = true) : ∃ C, Ev (fun k => caesuraref21_Classes.f k a nx ac) C ∧ IsClasses nx.length a.toNat (stL nx) (acL ac) C := by
  have h := Aut.of hg
  have hn2 := h.n2
  obtain ⟨R, hR, hI⟩ := refClasses_l0 h nx.length 0 (List.replicate nx.length 0) (by omega) (by simp) (fun s hs => absurd hs (Nat.not_lt_zero _))
  refine ⟨R, ?_, hI⟩
  have hGo := ev_refGood a nx ac
  rw [hg] at hGo
  unfold caesuraref21_Classes.f
  refine Ev.bind hGo (Ev.congr (fun k => ?_) hR)
  simp only [Int.toNat_natCast]
  rw [if_pos trivial, if_pos (by omega), if_pos (by omega)]
  rfl
theorem ev_refClasses_bad (hg : goodB a nx ac = false) : Ev (fun k => caesuraref21_Classes.f k a nx ac) [] := by
  have hGo := ev_refGood a nx ac
  rw [hg] at hGo
  unfold caesuraref21_Classes.f
  exact Ev.bind hGo (Ev.congr (f := fun _ => some []) (fun k => by simp) (Ev.now _))
end

end Go.Proofs.Ytelkjbacdpmnfaa.A
