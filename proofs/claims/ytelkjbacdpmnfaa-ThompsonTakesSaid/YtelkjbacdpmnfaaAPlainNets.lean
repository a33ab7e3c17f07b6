/- By a program, out of the translation (wip/myprint.py). -/
import Derived.Test.YtelkjbacdpmnfaaA0
import Derived.Test.YtelkjbacdpmnfaaACaesuralaw19Goes
import Derived.Test.YtelkjbacdpmnfaaACaesuralaw19Takes
import Derived.Test.YtelkjbacdpmnfaaACaesuralaw19Walk
import Derived.Test.YtelkjbacdpmnfaaAPlainGood
import Derived.Test.YtelkjbacdpmnfaaAPlainOne
import Derived.Test.YtelkjbacdpmnfaaAPlainRef
import Derived.Test.YtelkjbacdpmnfaaATakesDefs
import Derived.Test.YtelkjbacdpmnfaaAThompsonGood
import Derived.Test.YtelkjbacdpmnfaaAThompsonGoodNet
import Derived.Test.YtelkjbacdpmnfaaAThompsonRows
namespace Go.Proofs.Ytelkjbacdpmnfaa.A
open Go.RowKit Go.Proofs.YtelkjbacdpmnfaaW.PrintWords Go.Proofs.YtelkjbacdpmnfaaW.PrintLast Go.Proofs.YtelkjbacdpmnfaaW.PrintMore
attribute [local go_sem] max2_int min2_int max_two min_two max_three min_three max_four min_four   -- for this text's walks alone
set_option linter.unusedVariables false
set_option linter.unusedSimpArgs false

/-! where a net is: what 'goes' reckons -/
def falses (l : List Bool) : Nat := l.countP (fun b => !b)
theorem falses_set : ∀ (l : List Bool) (i : Nat), i < l.length → l.getD i false = false → falses (l.set i true) + 1 = falses l
  | [], i, h, _ => by simp at h
  | b :: l, 0, _, h => by
    simp at h
    subst h
    simp [falses, List.countP_cons]
  | b :: l, i + 1, h, h2 => by
    have := falses_set l i (by simpa using h) (by simpa using h2)
    simp only [falses, List.set_cons_succ, List.countP_cons] at *
    omega
theorem getD_set_true {l : List Bool} {i t : Nat} (h : l.getD t false = true) : (l.set i true).getD t false = true := by
  by_cases e : i = t
  · subst e
    by_cases hl : i < l.length
    · simp [List.getD_eq_getElem?_getD, hl]
    · simp [List.getD_eq_getElem?_getD, List.getElem?_eq_none (Nat.le_of_not_lt hl)] at h
  · simpa [List.getD_eq_getElem?_getD, List.getElem?_set_ne e] using h
theorem getD_set_elim {l : List Bool} {i t : Nat} (h : (l.set i true).getD t false = true) : t = i ∨ l.getD t false = true := by
  by_cases e : i = t
  · exact Or.inl e.symm
  · right
    simpa [List.getD_eq_getElem?_getD, List.getElem?_set_ne e] using h
/-- A net whose edges lead to its states. -/
structure OKNet (X : List (List S82)) : Prop where
  len : 2 ≤ X.length ∧ X.length ≤ 1000000
  deg : ∀ l ∈ X, l.length ≤ 1000000
  goal : ∀ s, ∀ e ∈ X.getD s [], 0 ≤ e.f1 ∧ e.f1 < X.length
/-- What going through some edges has done: D tells which. -/
structure Passed (P : Nat → Prop) (D : Nat → S82 → Prop) (now : List Bool) (ch : Bool) (now' : List Bool) (ch' : Bool) : Prop where
  len : now'.length = now.length
  up : ∀ t, now.getD t false = true → now'.getD t false = true
  sound : (∀ t, now.getD t false = true → P t) → ∀ t, now'.getD t false = true → P t
  same : ch' = false → ch = false ∧ now' = now ∧ ∀ s e, D s e → now.getD s false = true → e.f0 = -1 → now.getD e.f1.toNat false = true
  less : ch' = true → ch = false → falses now' < falses now
  le : falses now' ≤ falses now
theorem Passed.refl (P : Nat → Prop) (now : List Bool) (ch : Bool) : Passed P (fun _ _ => False) now ch now ch :=
  ⟨rfl, fun _ h => h, fun h => h, fun h => ⟨h, rfl, fun _ _ h => h.elim⟩, fun h h2 => (by rw [h] at h2; cases h2), Nat.le_refl _⟩
theorem Passed.trans {P : Nat → Prop} {D1 D2 : Nat → S82 → Prop} {n0 n1 n2 : List Bool} {c0 c1 c2 : Bool} (h1 : Passed P D1 n0 c0 n1 c1) (h2 : Passed P D2 n1 c1 n2 c2) : Passed P (fun s e => D1 s e ∨ D2 s e) n0 c0 n2 c2 := by
  refine ⟨h2.len.trans h1.len, fun t h => h2.up t (h1.up t h), fun h => h2.sound (h1.sound h), fun h => ?_, fun h h0 => ?_, Nat.le_trans h2.le h1.le⟩
  · obtain ⟨a1, a2, a3⟩ := h2.same h
    obtain ⟨b1, b2, b3⟩ := h1.same a1
    subst b2
    exact ⟨b1, a2, fun s e hd => hd.elim (b3 s e) (a3 s e)⟩
  · cases hc : c1 with
    | true => exact Nat.lt_of_le_of_lt h2.le (h1.less hc h0)
    | false => exact Nat.lt_of_lt_of_le (h2.less h hc) h1.le
theorem Passed.weaken {P : Nat → Prop} {D1 D2 : Nat → S82 → Prop} {n0 n1 : List Bool} {c0 c1 : Bool} (h : Passed P D1 n0 c0 n1 c1) (hd : ∀ s e, D2 s e → D1 s e ∨ n0.getD s false = false) : Passed P D2 n0 c0 n1 c1 := by
  refine ⟨h.len, h.up, h.sound, fun hc => ?_, h.less, h.le⟩
  obtain ⟨a1, a2, a3⟩ := h.same hc
  refine ⟨a1, a2, fun s e h2 h3 h4 => ?_⟩
  rcases hd s e h2 with h5 | h5
  · exact a3 s e h5 h3 h4
  · rw [h5] at h3; cases h3
theorem Passed.edge {P : Nat → Prop} {now : List Bool} {ch : Bool} {s : Nat} {e : S82} (hP : ∀ t, P t → t = s → e.f0 = -1 → P e.f1.toNat) (hs : now.getD s false = true) (hl : e.f1.toNat < now.length) (h0 : e.f0 = -1) (h1 : now.getD e.f1.toNat false = false) :
    Passed P (fun s' e' => s' = s ∧ e' = e) now ch (now.set e.f1.toNat true) true := by
  refine ⟨by simp, fun t h => getD_set_true h, fun h t ht => ?_, fun h => (by cases h), fun _ _ => ?_, ?_⟩
  · rcases getD_set_elim ht with rfl | ht
    · exact hP s (h s hs) rfl h0
    · exact h t ht
  · have := falses_set now _ hl h1; omega
  · have := falses_set now _ hl h1; omega
theorem Passed.skip {P : Nat → Prop} {now : List Bool} {ch : Bool} {s : Nat} {e : S82} (h : e.f0 ≠ -1 ∨ now.getD e.f1.toNat false = true) : Passed P (fun s' e' => s' = s ∧ e' = e) now ch now ch := by
  have h0 := Passed.refl P now ch
  refine ⟨h0.len, h0.up, h0.sound, fun hc => ⟨hc, rfl, ?_⟩, h0.less, h0.le⟩
  rintro s' e' ⟨rfl, rfl⟩ _ h2
  exact h.resolve_left (fun hn => hn h2)
section
variable {X : List (List S82)} {P : Nat → Prop} {L : List Int} {i : Nat} {a : Int}
theorem ev_goes_l3 (ok : OKNet X) (hP : ∀ s, P s → ∀ e ∈ X.getD s [], e.f0 = -1 → P e.f1.toNat) (s : Nat) (hs : s < X.length) :
    ∀ (d c : Nat) (now : List Bool) (ch : Bool), c + d = (X.getD s []).length → now.length = X.length → now.getD s false = true →
      ∃ now' ch', Passed P (fun s' e => s' = s ∧ e ∈ (X.getD s []).drop c) now ch now' ch' ∧ ∀ R, Ev (fun k => caesuralaw19_goes.l2 k L now' (i : Int) ch' ((s + 1 : Nat) : Int) a X) R → Ev (fun k => caesuralaw19_goes.l3 k L now (i : Int) ch (s : Int) (c : Int) a X) R := by
  intro d
  have hsl := ok.len
  have hdl : (X.getD s []).length ≤ 1000000 := ok.deg _ (getD_mem X [] s hs)
  induction d with
  | zero =>
    intro c now ch hc hl hn
    refine ⟨now, ch, (Passed.refl P now ch).weaken fun s' e h => ?_, fun R h => ?_⟩
    · rw [List.drop_of_length_le (by omega)] at h; simp at h
    · refine Ev.step (f := fun k => caesuralaw19_goes.j4 k L now (i : Int) ch (s : Int) (c : Int) false a X) (fun k => ?_) ?_
      · simp only [caesuralaw19_goes.l3, rd2_nat]
        rw [if_pos (by omega), if_pos (by omega), if_neg (by omega)]
      · refine Ev.step (f := fun k => caesuralaw19_goes.l2 k L now (i : Int) ch ((s + 1 : Nat) : Int) a X) (fun k => ?_) h
        simp only [caesuralaw19_goes.j4]
        rw [if_neg (by decide), wadd (by omega) (by omega), nat_succ_cast]
  | succ d ih =>
    intro c now ch hc hl hn
    have hcl : c < (X.getD s []).length := by omega
    have he : (X.getD s []).getD c z82 ∈ X.getD s [] := getD_mem _ _ _ hcl
    have hto := ok.goal s _ he
    have hdr := drop_cons_getD (X.getD s []) z82 c hcl
    generalize hE : (X.getD s []).getD c z82 = e at *
    have step1 : ∀ (R : Bool), Ev (fun k => caesuralaw19_goes.j4 k L now (i : Int) ch (s : Int) (c : Int) true a X) R → Ev (fun k => caesuralaw19_goes.l3 k L now (i : Int) ch (s : Int) (c : Int) a X) R := fun R h => by
      refine Ev.step (f := fun k => caesuralaw19_goes.j4 k L now (i : Int) ch (s : Int) (c : Int) true a X) (fun k => ?_) h
      simp only [caesuralaw19_goes.l3, rd2_nat, rdb_nat, hn]
      rw [if_pos (by omega), if_pos (by omega), if_pos (by omega), if_pos (by omega)]
    by_cases h0 : e.f0 = -1
    · obtain ⟨f1, hf1⟩ : ∃ f : Nat, e.f1 = (f : Int) := ⟨e.f1.toNat, by omega⟩
      have hf1n : e.f1.toNat = f1 := by omega
      by_cases h1 : now.getD f1 false = true
      · obtain ⟨now', ch', hp, hk⟩ := ih (c + 1) now ch (by omega) hl hn
        refine ⟨now', ch', ((Passed.skip (P := P) (s := s) (Or.inr (by rw [hf1n]; exact h1))).trans hp).weaken fun s' e' h => ?_, fun R h => step1 R ?_⟩
        · rw [hdr] at h
          rcases List.mem_cons.1 h.2 with rfl | h2
          · exact Or.inl (Or.inl ⟨h.1, rfl⟩)
          · exact Or.inl (Or.inr ⟨h.1, h2⟩)
        · refine Ev.step (f := fun k => caesuralaw19_goes.l3 k L now (i : Int) ch (s : Int) ((c + 1 : Nat) : Int) a X) (fun k => ?_) (hk R h)
          simp only [caesuralaw19_goes.j4, rd2_nat, rd82_nat, hE, hf1, rdb_nat]
          rw [if_pos trivial, if_pos (by omega), if_pos (by omega), if_pos (by omega), if_pos (by omega), if_pos h0, if_pos (by omega), if_pos (by omega), if_pos h1, wadd (by omega) (by omega), nat_succ_cast]
      · have h1' : now.getD f1 false = false := by simpa using h1
        obtain ⟨now', ch', hp, hk⟩ := ih (c + 1) (now.set f1 true) true (by omega) (by simpa using hl) (getD_set_true hn)
        have hed := Passed.edge (P := P) (now := now) (ch := ch) (s := s) (e := e) (fun t ht hts h0 => by subst hts; exact hP t ht e he h0) hn (by omega) h0 (by rw [hf1n]; exact h1')
        rw [hf1n] at hed
        refine ⟨now', ch', (hed.trans hp).weaken fun s' e' h => ?_, fun R h => step1 R ?_⟩
        · rw [hdr] at h
          rcases List.mem_cons.1 h.2 with rfl | h2
          · exact Or.inl (Or.inl ⟨h.1, rfl⟩)
          · exact Or.inl (Or.inr ⟨h.1, h2⟩)
        · refine Ev.step (f := fun k => caesuralaw19_goes.l3 k L (now.set f1 true) (i : Int) true (s : Int) ((c + 1 : Nat) : Int) a X) (fun k => ?_) (hk R h)
          simp only [caesuralaw19_goes.j4, rd2_nat, rd82_nat, hE, hf1, rdb_nat, Int.toNat_natCast]
          rw [if_pos trivial, if_pos (by omega), if_pos (by omega), if_pos (by omega), if_pos (by omega), if_pos h0, if_pos (by omega), if_pos (by omega), if_neg h1, wadd (by omega) (by omega), nat_succ_cast]
    · obtain ⟨now', ch', hp, hk⟩ := ih (c + 1) now ch (by omega) hl hn
      refine ⟨now', ch', ((Passed.skip (P := P) (s := s) (e := e) (Or.inl h0)).trans hp).weaken fun s' e' h => ?_, fun R h => step1 R ?_⟩
      · rw [hdr] at h
        rcases List.mem_cons.1 h.2 with rfl | h2
        · exact Or.inl (Or.inl ⟨h.1, rfl⟩)
        · exact Or.inl (Or.inr ⟨h.1, h2⟩)
      · refine Ev.step (f := fun k => caesuralaw19_goes.l3 k L now (i : Int) ch (s : Int) ((c + 1 : Nat) : Int) a X) (fun k => ?_) (hk R h)
        simp only [caesuralaw19_goes.j4, rd2_nat, rd82_nat, hE]
        rw [if_pos trivial, if_pos (by omega), if_pos (by omega), if_pos (by omega), if_pos (by omega), if_neg h0, wadd (by omega) (by omega), nat_succ_cast]
theorem ev_goes_l2 (ok : OKNet X) (hP : ∀ s, P s → ∀ e ∈ X.getD s [], e.f0 = -1 → P e.f1.toNat) :
    ∀ (d s : Nat) (now : List Bool) (ch : Bool), s + d = X.length → now.length = X.length →
      ∃ now' ch', Passed P (fun s' e => s ≤ s' ∧ e ∈ X.getD s' []) now ch now' ch' ∧ ∀ R, Ev (fun k => caesuralaw19_goes.l1 k L now' (i : Int) ch' a X) R → Ev (fun k => caesuralaw19_goes.l2 k L now (i : Int) ch (s : Int) a X) R := by
  intro d
  have hsl := ok.len
  induction d with
  | zero =>
    intro s now ch hs hl
    refine ⟨now, ch, (Passed.refl P now ch).weaken fun s' e h => ?_, fun R h => ?_⟩
    · have h2 := h.2
      rw [List.getD_eq_getElem?_getD, List.getElem?_eq_none (by omega)] at h2
      simp at h2
    · refine Ev.step (f := fun k => caesuralaw19_goes.l1 k L now (i : Int) ch a X) (fun k => ?_) h
      simp only [caesuralaw19_goes.l2]
      rw [if_neg (by omega)]
  | succ d ih =>
    intro s now ch hs hl
    have hsx : s < X.length := by omega
    by_cases hn : now.getD s false = true
    · obtain ⟨n1, c1, hp1, hk1⟩ := ev_goes_l3 (L := L) (i := i) (a := a) ok hP s hsx _ 0 now ch (Nat.zero_add _) hl hn
      obtain ⟨n2, c2, hp2, hk2⟩ := ih (s + 1) n1 c1 (by omega) (hp1.len.trans hl)
      refine ⟨n2, c2, (hp1.trans hp2).weaken fun s' e h => ?_, fun R h => ?_⟩
      · rcases Nat.eq_or_lt_of_le h.1 with rfl | h1
        · exact Or.inl (Or.inl ⟨rfl, by simpa using h.2⟩)
        · exact Or.inl (Or.inr ⟨h1, h.2⟩)
      · refine Ev.step (f := fun k => caesuralaw19_goes.l3 k L now (i : Int) ch (s : Int) ((0 : Nat) : Int) a X) (fun k => ?_) (hk1 R (hk2 R h))
        simp only [caesuralaw19_goes.l2]
        rw [if_pos (by omega)]
        rfl
    · have hn' : now.getD s false = false := by simpa using hn
      obtain ⟨n2, c2, hp2, hk2⟩ := ih (s + 1) now ch (by omega) hl
      refine ⟨n2, c2, hp2.weaken fun s' e h => ?_, fun R h => ?_⟩
      · rcases Nat.eq_or_lt_of_le h.1 with rfl | h1
        · exact Or.inr hn'
        · exact Or.inl ⟨h1, h.2⟩
      · refine Ev.step (f := fun k => caesuralaw19_goes.l3 k L now (i : Int) ch (s : Int) 0 a X) (fun k => ?_) ?_
        · simp only [caesuralaw19_goes.l2]
          rw [if_pos (by omega)]
        · refine Ev.step (f := fun k => caesuralaw19_goes.j4 k L now (i : Int) ch (s : Int) 0 false a X) (fun k => ?_) ?_
          · simp only [caesuralaw19_goes.l3, rd2_nat, rdb_nat, hn']
            rw [if_pos (by omega), if_pos (by omega)]
            split
            · rw [if_pos (by omega)]
            · rfl
          · refine Ev.step (f := fun k => caesuralaw19_goes.l2 k L now (i : Int) ch ((s + 1 : Nat) : Int) a X) (fun k => ?_) (hk2 R h)
            simp only [caesuralaw19_goes.j4]
            rw [if_neg (by decide), wadd (by omega) (by omega), nat_succ_cast]
/-- No edge of 'nothing' leads out. -/
def Shut0 (X : List (List S82)) (now : List Bool) : Prop := ∀ s, now.getD s false = true → ∀ e ∈ X.getD s [], e.f0 = -1 → now.getD e.f1.toNat false = true
/-- Along the edges of 'nothing', as far as they lead. -/
theorem ev_goes_l1 (ok : OKNet X) (hP : ∀ s, P s → ∀ e ∈ X.getD s [], e.f0 = -1 → P e.f1.toNat) :
    ∀ (m : Nat) (now : List Bool), falses now ≤ m → now.length = X.length → (∀ t, now.getD t false = true → P t) →
      ∃ now', now'.length = X.length ∧ (∀ t, now.getD t false = true → now'.getD t false = true) ∧ (∀ t, now'.getD t false = true → P t) ∧ Shut0 X now' ∧
        ∀ R, Ev (fun k => caesuralaw19_goes.l1 k L now' (i : Int) false a X) R → Ev (fun k => caesuralaw19_goes.l1 k L now (i : Int) true a X) R := by
  intro m
  induction m with
  | zero =>
    intro now hm hl hs
    obtain ⟨n1, c1, hp, hk⟩ := ev_goes_l2 (L := L) (i := i) (a := a) ok hP X.length 0 now false (Nat.zero_add _) hl
    have hc1 : c1 = false := by
      cases c1
      · rfl
      · have := hp.less rfl rfl; omega
    subst hc1
    obtain ⟨-, rfl, hsh⟩ := hp.same rfl
    refine ⟨n1, hl, fun _ h => h, hs, fun s h e he h0 => hsh s e ⟨Nat.zero_le _, he⟩ h h0, fun R h => ?_⟩
    refine Ev.step (f := fun k => caesuralaw19_goes.l2 k L n1 (i : Int) false ((0 : Nat) : Int) a X) (fun k => ?_) (hk R h)
    simp only [caesuralaw19_goes.l1, if_true]
    rfl
  | succ m ih =>
    intro now hm hl hs
    obtain ⟨n1, c1, hp, hk⟩ := ev_goes_l2 (L := L) (i := i) (a := a) ok hP X.length 0 now false (Nat.zero_add _) hl
    have first : ∀ R, Ev (fun k => caesuralaw19_goes.l1 k L n1 (i : Int) c1 a X) R → Ev (fun k => caesuralaw19_goes.l1 k L now (i : Int) true a X) R := fun R h => by
      refine Ev.step (f := fun k => caesuralaw19_goes.l2 k L now (i : Int) false ((0 : Nat) : Int) a X) (fun k => ?_) (hk R h)
      simp only [caesuralaw19_goes.l1, if_true]
      rfl
    cases hc : c1 with
    | false =>
      subst hc
      obtain ⟨-, rfl, hsh⟩ := hp.same rfl
      exact ⟨n1, hl, fun _ h => h, hs, fun s h e he h0 => hsh s e ⟨Nat.zero_le _, he⟩ h h0, first⟩
    | true =>
      subst hc
      have hlt := hp.less rfl rfl
      obtain ⟨n2, h1, h2, h3, h4, h5⟩ := ih n1 (by omega) (hp.len.trans hl) (hp.sound hs)
      exact ⟨n2, h1, fun t h => h2 t (hp.up t h), h3, h4, fun R h => first R (h5 R h)⟩
/-- Along one letter: l5 and l4. -/
theorem ev_goes_l5 (ok : OKNet X) (now : List Bool) (hnow : now.length = X.length) (hi : i < L.length) (hL8 : L.length ≤ 1000000) (s : Nat) (hs : s < X.length) (hn : now.getD s false = true) :
    ∀ (d c : Nat) (nxt : List Bool), c + d = (X.getD s []).length → nxt.length = X.length →
      ∃ nxt', nxt'.length = X.length ∧ (∀ t, nxt'.getD t false = true ↔ (nxt.getD t false = true ∨ ∃ e ∈ (X.getD s []).drop c, e.f0 = L.getD i 0 ∧ t = e.f1.toNat)) ∧
        ∀ R, Ev (fun k => caesuralaw19_goes.l4 k L now (i : Int) nxt' ((s + 1 : Nat) : Int) a X) R → Ev (fun k => caesuralaw19_goes.l5 k L now (i : Int) nxt (s : Int) (c : Int) a X) R := by
  intro d
  have hsl := ok.len
  have hdl : (X.getD s []).length ≤ 1000000 := ok.deg _ (getD_mem X [] s hs)
  induction d with
  | zero =>
    intro c nxt hc hl
    refine ⟨nxt, hl, fun t => ?_, fun R h => ?_⟩
    · rw [List.drop_of_length_le (by omega)]; simp
    · refine Ev.step (f := fun k => caesuralaw19_goes.j7 k L now (i : Int) nxt (s : Int) (c : Int) false a X) (fun k => ?_) ?_
      · simp only [caesuralaw19_goes.l5, rd2_nat]
        rw [if_pos (by omega), if_pos (by omega), if_neg (by omega)]
      · refine Ev.step (f := fun k => caesuralaw19_goes.l4 k L now (i : Int) nxt ((s + 1 : Nat) : Int) a X) (fun k => ?_) h
        simp only [caesuralaw19_goes.j7]
        rw [if_neg (by decide), wadd (by omega) (by omega), nat_succ_cast]
  | succ d ih =>
    intro c nxt hc hl
    have hcl : c < (X.getD s []).length := by omega
    have he : (X.getD s []).getD c z82 ∈ X.getD s [] := getD_mem _ _ _ hcl
    have hto := ok.goal s _ he
    have hdr := drop_cons_getD (X.getD s []) z82 c hcl
    generalize hE : (X.getD s []).getD c z82 = e at *
    have step1 : ∀ (R : Bool), Ev (fun k => caesuralaw19_goes.j7 k L now (i : Int) nxt (s : Int) (c : Int) true a X) R → Ev (fun k => caesuralaw19_goes.l5 k L now (i : Int) nxt (s : Int) (c : Int) a X) R := fun R h => by
      refine Ev.step (f := fun k => caesuralaw19_goes.j7 k L now (i : Int) nxt (s : Int) (c : Int) true a X) (fun k => ?_) h
      simp only [caesuralaw19_goes.l5, rd2_nat, rdb_nat, hn]
      rw [if_pos (by omega), if_pos (by omega), if_pos (by omega), if_pos (by omega)]
    by_cases h0 : e.f0 = L.getD i 0
    · obtain ⟨f1, hf1⟩ : ∃ f : Nat, e.f1 = (f : Int) := ⟨e.f1.toNat, by omega⟩
      have hf1n : e.f1.toNat = f1 := by omega
      obtain ⟨nxt', h1, h2, h3⟩ := ih (c + 1) (nxt.set f1 true) (by omega) (by simpa using hl)
      refine ⟨nxt', h1, fun t => ?_, fun R h => step1 R ?_⟩
      · rw [h2 t, hdr]
        constructor
        · rintro (h | ⟨e', he', h4, h5⟩)
          · rcases getD_set_elim h with rfl | h
            · exact Or.inr ⟨e, List.mem_cons_self, h0, hf1n.symm⟩
            · exact Or.inl h
          · exact Or.inr ⟨e', List.mem_cons_of_mem _ he', h4, h5⟩
        · rintro (h | ⟨e', he', h4, h5⟩)
          · exact Or.inl (getD_set_true h)
          · rcases List.mem_cons.1 he' with rfl | he'
            · left
              rw [h5, hf1n, List.getD_eq_getElem?_getD]
              simp [show f1 < nxt.length by omega]
            · exact Or.inr ⟨e', he', h4, h5⟩
      · refine Ev.step (f := fun k => caesuralaw19_goes.l5 k L now (i : Int) (nxt.set f1 true) (s : Int) ((c + 1 : Nat) : Int) a X) (fun k => ?_) (h3 R h)
        simp only [caesuralaw19_goes.j7, rd2_nat, rd82_nat, hE, hf1, rd_nat, Int.toNat_natCast]
        rw [if_pos trivial, if_pos (by omega), if_pos (by omega), if_pos (by omega), if_pos (by omega), if_pos (by omega), if_pos (by omega), if_pos h0, if_pos (by omega), if_pos (by omega), wadd (by omega) (by omega), nat_succ_cast]
    · obtain ⟨nxt', h1, h2, h3⟩ := ih (c + 1) nxt (by omega) hl
      refine ⟨nxt', h1, fun t => ?_, fun R h => step1 R ?_⟩
      · rw [h2 t, hdr]
        constructor
        · rintro (h | ⟨e', he', h4, h5⟩)
          · exact Or.inl h
          · exact Or.inr ⟨e', List.mem_cons_of_mem _ he', h4, h5⟩
        · rintro (h | ⟨e', he', h4, h5⟩)
          · exact Or.inl h
          · rcases List.mem_cons.1 he' with rfl | he'
            · exact absurd h4 h0
            · exact Or.inr ⟨e', he', h4, h5⟩
      · refine Ev.step (f := fun k => caesuralaw19_goes.l5 k L now (i : Int) nxt (s : Int) ((c + 1 : Nat) : Int) a X) (fun k => ?_) (h3 R h)
        simp only [caesuralaw19_goes.j7, rd2_nat, rd82_nat, hE, rd_nat]
        rw [if_pos trivial, if_pos (by omega), if_pos (by omega), if_pos (by omega), if_pos (by omega), if_pos (by omega), if_pos (by omega), if_neg h0, wadd (by omega) (by omega), nat_succ_cast]
theorem ev_goes_l4 (ok : OKNet X) (now : List Bool) (hnow : now.length = X.length) (hi : i < L.length) (hL8 : L.length ≤ 1000000) :
    ∀ (d s : Nat) (nxt : List Bool), s + d = X.length → nxt.length = X.length →
      ∃ nxt', nxt'.length = X.length ∧ (∀ t, nxt'.getD t false = true ↔ (nxt.getD t false = true ∨ ∃ s', s ≤ s' ∧ now.getD s' false = true ∧ ∃ e ∈ X.getD s' [], e.f0 = L.getD i 0 ∧ t = e.f1.toNat)) ∧
        ∀ R, Ev (fun k => caesuralaw19_goes.l0 k L nxt' ((i + 1 : Nat) : Int) a X) R → Ev (fun k => caesuralaw19_goes.l4 k L now (i : Int) nxt (s : Int) a X) R := by
  intro d
  have hsl := ok.len
  induction d with
  | zero =>
    intro s nxt hs hl
    refine ⟨nxt, hl, fun t => ?_, fun R h => ?_⟩
    · constructor
      · exact Or.inl
      · rintro (h | ⟨s', h1, h2, e, he, _⟩)
        · exact h
        · rw [List.getD_eq_getElem?_getD, List.getElem?_eq_none (by omega)] at he
          simp at he
    · refine Ev.step (f := fun k => caesuralaw19_goes.l0 k L nxt ((i + 1 : Nat) : Int) a X) (fun k => ?_) h
      simp only [caesuralaw19_goes.l4]
      rw [if_neg (by omega), wadd (by omega) (by omega), nat_succ_cast]
  | succ d ih =>
    intro s nxt hs hl
    have hsx : s < X.length := by omega
    by_cases hn : now.getD s false = true
    · obtain ⟨n1, h1, h2, h3⟩ := ev_goes_l5 (a := a) ok now hnow hi hL8 s hsx hn _ 0 nxt (Nat.zero_add _) hl
      obtain ⟨n2, h4, h5, h6⟩ := ih (s + 1) n1 (by omega) h1
      refine ⟨n2, h4, fun t => ?_, fun R h => ?_⟩
      · rw [h5 t, h2 t, List.drop_zero]
        constructor
        · rintro ((h | h) | ⟨s', q1, q2, q3⟩)
          · exact Or.inl h
          · exact Or.inr ⟨s, Nat.le_refl _, hn, h⟩
          · exact Or.inr ⟨s', by omega, q2, q3⟩
        · rintro (h | ⟨s', q1, q2, q3⟩)
          · exact Or.inl (Or.inl h)
          · rcases Nat.eq_or_lt_of_le q1 with rfl | q1
            · exact Or.inl (Or.inr q3)
            · exact Or.inr ⟨s', q1, q2, q3⟩
      · refine Ev.step (f := fun k => caesuralaw19_goes.l5 k L now (i : Int) nxt (s : Int) ((0 : Nat) : Int) a X) (fun k => ?_) (h3 R (h6 R h))
        simp only [caesuralaw19_goes.l4]
        rw [if_pos (by omega)]
        rfl
    · have hn' : now.getD s false = false := by simpa using hn
      obtain ⟨n2, h4, h5, h6⟩ := ih (s + 1) nxt (by omega) hl
      refine ⟨n2, h4, fun t => ?_, fun R h => ?_⟩
      · rw [h5 t]
        constructor
        · rintro (h | ⟨s', q1, q2, q3⟩)
          · exact Or.inl h
          · exact Or.inr ⟨s', by omega, q2, q3⟩
        · rintro (h | ⟨s', q1, q2, q3⟩)
          · exact Or.inl h
          · rcases Nat.eq_or_lt_of_le q1 with rfl | q1
            · rw [hn'] at q2; cases q2
            · exact Or.inr ⟨s', q1, q2, q3⟩
      · refine Ev.step (f := fun k => caesuralaw19_goes.l5 k L now (i : Int) nxt (s : Int) 0 a X) (fun k => ?_) ?_
        · simp only [caesuralaw19_goes.l4]
          rw [if_pos (by omega)]
        · refine Ev.step (f := fun k => caesuralaw19_goes.j7 k L now (i : Int) nxt (s : Int) 0 false a X) (fun k => ?_) ?_
          · simp only [caesuralaw19_goes.l5, rd2_nat, rdb_nat, hn']
            rw [if_pos (by omega), if_pos (by omega)]
            split
            · rw [if_pos (by omega)]
            · rfl
          · refine Ev.step (f := fun k => caesuralaw19_goes.l4 k L now (i : Int) nxt ((s + 1 : Nat) : Int) a X) (fun k => ?_) (h6 R h)
            simp only [caesuralaw19_goes.j7]
            rw [if_neg (by decide), wadd (by omega) (by omega), nat_succ_cast]
end
/-- Where a net may be behind so many letters of a row. -/
inductive At (X : List (List S82)) (L : List Int) : Nat → Nat → Prop
  | start : At X L 0 0
  | eps {i s : Nat} {e : S82} : At X L i s → e ∈ X.getD s [] → e.f0 = -1 → At X L i e.f1.toNat
  | step {i s : Nat} {e : S82} : At X L i s → i < L.length → e ∈ X.getD s [] → e.f0 = L.getD i 0 → At X L (i + 1) e.f1.toNat
/-- Where it is at once, the edges of 'nothing' apart. -/
def Seed (X : List (List S82)) (L : List Int) : Nat → Nat → Prop
  | 0, t => t = 0
  | i + 1, t => i < L.length ∧ ∃ s e, At X L i s ∧ e ∈ X.getD s [] ∧ e.f0 = L.getD i 0 ∧ t = e.f1.toNat
theorem Seed.at {X : List (List S82)} {L : List Int} : ∀ {i t : Nat}, Seed X L i t → At X L i t
  | 0, t, h => by cases h; exact At.start
  | i + 1, t, h => by
    obtain ⟨hi, s, e, h1, h2, h3, rfl⟩ := h
    exact At.step h1 hi h2 h3
theorem At.in_shut {X : List (List S82)} {L : List Int} {i t : Nat} (h : At X L i t) : ∀ now : List Bool, (∀ t, Seed X L i t → now.getD t false = true) → Shut0 X now → now.getD t false = true := by
  induction h with
  | start => intro now hs _; exact hs 0 rfl
  | eps h he h0 ih => intro now hs hsh; exact hsh _ (ih now hs hsh) _ he h0
  | step h hi he h0 ih => intro now hs _; exact hs _ ⟨hi, _, _, h, he, h0, rfl⟩
theorem ev_goes_l0 {X : List (List S82)} {L : List Int} {a : Int} (ok : OKNet X) (hL : L.length ≤ 1000000) :
    ∀ (d i : Nat) (now : List Bool), i + d = L.length → now.length = X.length → (∀ t, now.getD t false = true ↔ Seed X L i t) →
      ∃ r, (r = true ↔ At X L L.length 1) ∧ Ev (fun k => caesuralaw19_goes.l0 k L now (i : Int) a X) r := by
  intro d
  have hsl := ok.len
  induction d with
  | zero =>
    intro i now hi hl hs
    obtain ⟨n1, h1, h2, h3, h4, h5⟩ := ev_goes_l1 (X := X) (P := At X L i) (L := L) (i := i) (a := a) ok (fun s h e he h0 => At.eps h he h0) _ now (Nat.le_refl _) hl (fun t h => ((hs t).1 h).at)
    obtain rfl : i = L.length := by omega
    refine ⟨n1.getD 1 false, ⟨h3 1, fun h => h.in_shut n1 (fun t ht => h2 t ((hs t).2 ht)) h4⟩, ?_⟩
    refine Ev.step (f := fun k => caesuralaw19_goes.l1 k L now ((L.length : Nat) : Int) true a X) (fun k => ?_) (h5 _ ?_)
    · simp only [caesuralaw19_goes.l0]
    · refine Ev.step (f := fun _ => some (n1.getD 1 false)) (fun k => ?_) (Ev.now _)
      simp only [caesuralaw19_goes.l1]
      rw [if_neg (by decide), if_pos trivial, if_pos (by omega)]
      rfl
  | succ d ih =>
    intro i now hi hl hs
    obtain ⟨n1, h1, h2, h3, h4, h5⟩ := ev_goes_l1 (X := X) (P := At X L i) (L := L) (i := i) (a := a) ok (fun s h e he h0 => At.eps h he h0) _ now (Nat.le_refl _) hl (fun t h => ((hs t).1 h).at)
    have hil : i < L.length := by omega
    obtain ⟨n2, g1, g2, g3⟩ := ev_goes_l4 (X := X) (L := L) (i := i) (a := a) ok n1 h1 hil hL X.length 0 (List.replicate X.length false) (Nat.zero_add _) (by simp)
    obtain ⟨r, hr, hk⟩ := ih (i + 1) n2 (by omega) g1 (fun t => by
      rw [g2 t]
      constructor
      · rintro (h | ⟨s, _, q2, e, q3, q4, q5⟩)
        · simp [List.getD_eq_getElem?_getD, List.getElem?_replicate] at h
          split at h <;> simp at h
        · exact ⟨hil, s, e, h3 s q2, q3, q4, q5⟩
      · rintro ⟨_, s, e, q2, q3, q4, q5⟩
        exact Or.inr ⟨s, Nat.zero_le _, q2.in_shut n1 (fun t ht => h2 t ((hs t).2 ht)) h4, e, q3, q4, q5⟩)
    refine ⟨r, hr, ?_⟩
    refine Ev.step (f := fun k => caesuralaw19_goes.l1 k L now (i : Int) true a X) (fun k => ?_) (h5 _ ?_)
    · simp only [caesuralaw19_goes.l0]
    · refine Ev.step (f := fun k => caesuralaw19_goes.l4 k L n1 (i : Int) (List.replicate X.length false) ((0 : Nat) : Int) a X) (fun k => ?_) (g3 r hk)
      simp only [caesuralaw19_goes.l1, h1, Int.toNat_natCast]
      rw [if_neg (by decide), if_neg (by omega), if_pos (by omega), if_pos (by omega)]
      rfl
/-- Goes a net through a row. -/
theorem ev_goes {X : List (List S82)} {L : List Int} {a : Int} (ok : OKNet X) (hL : L.length ≤ 1000000) :
    ∃ r, (r = true ↔ At X L L.length 1) ∧ Ev (fun k => caesuralaw19_goes.f k a X L) r := by
  have hsl := ok.len
  obtain ⟨r, hr, hk⟩ := ev_goes_l0 (a := a) ok hL L.length 0 ((List.replicate X.length false).set 0 true) (Nat.zero_add _) (by simp) (fun t => by
    constructor
    · intro h
      rcases getD_set_elim h with h | h
      · exact h
      · simp [List.getD_eq_getElem?_getD, List.getElem?_replicate] at h
        split at h <;> simp at h
    · rintro rfl
      simp [List.getD_eq_getElem?_getD, show 0 < X.length by omega])
  refine ⟨r, hr, ?_⟩
  refine Ev.congr (f := fun k => caesuralaw19_goes.l0 k L ((List.replicate X.length false).set 0 true) ((0 : Nat) : Int) a X) (fun k => ?_) hk
  unfold caesuralaw19_goes.f
  simp only [Option.bind_some, Int.toNat_natCast, List.length_replicate]
  rw [if_pos (by omega), if_pos (by omega), if_pos (by omega)]
  rfl
/-! an automaton's way along a row -/
def stN (nx : List (List Int)) (s : Nat) (c : Int) : Nat := ((nx.getD s []).getD c.toNat 0).toNat
def runN (nx : List (List Int)) (s : Nat) (m : List Int) : Nat := m.foldl (stN nx) s
theorem stN_lt {a : Int} {nx : List (List Int)} {ac : List Bool} (hg : goodB a nx ac = true) {s : Nat} (hs : s < nx.length) {c : Int} (h0 : 0 ≤ c) (h1 : c < a) : stN nx s c < nx.length ∧ (nx.getD s []).getD c.toNat 0 = (stN nx s c : Int) := by
  obtain ⟨_, _, _, _, _, h⟩ := goodB_elim hg
  obtain ⟨h2, h3⟩ := h _ (getD_mem nx [] s hs)
  have h4 := h3 _ (getD_mem (nx.getD s []) 0 c.toNat (by omega))
  unfold stN
  omega
theorem runN_lt {a : Int} {nx : List (List Int)} {ac : List Bool} (hg : goodB a nx ac = true) : ∀ (m : List Int) (s : Nat), s < nx.length → (∀ x ∈ m, 0 ≤ x ∧ x < a) → runN nx s m < nx.length
  | [], s, hs, _ => hs
  | x :: m, s, hs, h => runN_lt hg m _ (stN_lt hg hs (h x (by simp)).1 (h x (by simp)).2).1 (fun y hy => h y (by simp [hy]))
theorem runN_snoc (nx : List (List Int)) (s : Nat) (m : List Int) (x : Int) : runN nx s (m ++ [x]) = stN nx (runN nx s m) x := by simp [runN]
theorem ev_walk {a : Int} {nx : List (List Int)} {ac : List Bool} (hg : goodB a nx ac = true) {m : List Int} (hm : ∀ x ∈ m, 0 ≤ x ∧ x < a) (hml : m.length ≤ 1000000) :
    ∀ (d i : Nat) (out : List Int), i + d = m.length → out.length = i + 1 → out.getD i 0 = (runN nx 0 (m.take i) : Int) →
      ∃ t : List Int, t.length = m.length + 1 ∧ t.getD m.length 0 = (runN nx 0 m : Int) ∧ Ev (fun k => caesuralaw19_walk.l0 k m out (i : Int) a nx ac) t := by
  intro d
  obtain ⟨_, _, hn1, hn2, _, hrows⟩ := goodB_elim hg
  induction d with
  | zero =>
    intro i out hi ho hr
    obtain rfl : i = m.length := by omega
    rw [List.take_length] at hr
    refine ⟨out, ho, hr, Ev.step (f := fun _ => some out) (fun k => ?_) (Ev.now _)⟩
    simp only [caesuralaw19_walk.l0]
    rw [if_neg (by omega)]
  | succ d ih =>
    intro i out hi ho hr
    have him : i < m.length := by omega
    have hx := hm _ (getD_mem m 0 i him)
    have hs : runN nx 0 (m.take i) < nx.length := runN_lt hg _ 0 (by omega) (fun y hy => hm y (List.mem_of_mem_take hy))
    have hrow := hrows _ (getD_mem nx [] _ hs)
    obtain ⟨hst, hse⟩ := stN_lt hg hs hx.1 hx.2
    have hsn : runN nx 0 (m.take (i + 1)) = stN nx (runN nx 0 (m.take i)) (m.getD i 0) := by
      rw [take_getD_snoc m 0 i him, runN_snoc]
    obtain ⟨t, h1, h2, h3⟩ := ih (i + 1) (out ++ [(stN nx (runN nx 0 (m.take i)) (m.getD i 0) : Int)]) (by omega) (by simp [ho]) (by
      rw [hsn, List.getD_eq_getElem?_getD, List.getElem?_append_right (by omega)]
      simp [ho])
    refine ⟨t, h1, h2, Ev.step (f := fun k => caesuralaw19_walk.l0 k m (out ++ [(stN nx (runN nx 0 (m.take i)) (m.getD i 0) : Int)]) ((i + 1 : Nat) : Int) a nx ac) (fun k => ?_) h3⟩
    have e : rd (nx.getD (runN nx 0 (m.take i)) []) (m.getD i 0) = (stN nx (runN nx 0 (m.take i)) (m.getD i 0) : Int) := hse
    simp only [caesuralaw19_walk.l0, rd_nat, hr, rd5_nat, e]
    rw [if_pos (by omega), if_pos (by omega), if_pos (by omega), if_pos (by omega), if_pos (by omega), if_pos (by omega), if_pos (by omega), if_pos (by omega), wadd (by omega) (by omega), nat_succ_cast]
theorem ev_takes {a : Int} {nx : List (List Int)} {ac : List Bool} (hg : goodB a nx ac = true) {m : List Int} (hm : ∀ x ∈ m, 0 ≤ x ∧ x < a) (hml : m.length ≤ 1000000) :
    Ev (fun k => caesuralaw19_takes.f k a nx ac m) (ac.getD (runN nx 0 m) false) := by
  obtain ⟨_, _, hn1, hn2, hac, _⟩ := goodB_elim hg
  obtain ⟨t, h1, h2, h3⟩ := ev_walk hg hm hml m.length 0 [0] (Nat.zero_add _) rfl rfl
  have hs : runN nx 0 m < nx.length := runN_lt hg _ 0 (by omega) hm
  unfold caesuralaw19_takes.f
  refine Ev.bind (a := t) h3 ?_
  rw [rd_nat, h2, rdb_nat, if_pos (by omega)]
  exact Ev.now _
/-! where the nets of automata are -/
theorem mem_laidFrom (frm : Int) (e : S82) : ∀ (l : List Int) (c : Nat), e ∈ laidFrom frm c l ↔ ∃ j, j < l.length ∧ e = ⟨((c + j : Nat) : Int), frm + l.getD j 0⟩
  | [], c => by simp [laidFrom]
  | x :: l, c => by
    simp only [laidFrom, List.mem_cons, mem_laidFrom frm e l (c + 1)]
    constructor
    · rintro (rfl | ⟨j, hj, rfl⟩)
      · exact ⟨0, by simp, by simp⟩
      · exact ⟨j + 1, by simpa using hj, by rw [show c + 1 + j = c + (j + 1) by omega]; simp⟩
    · rintro ⟨j, hj, rfl⟩
      cases j with
      | zero => left; simp
      | succ j => exact Or.inr ⟨j, by simpa using hj, by rw [show c + 1 + j = c + (j + 1) by omega]; simp⟩
theorem mem_laidRow (frm tt : Int) (l : List Int) (b : Bool) (e : S82) : e ∈ laidRow frm tt l b ↔ (b = true ∧ e = ⟨-1, tt⟩) ∨ ∃ j, j < l.length ∧ e = ⟨(j : Int), frm + l.getD j 0⟩ := by
  unfold laidRow
  rw [List.mem_append, mem_laidFrom]
  cases b <;> simp [noth]
theorem laidL_getD (nx : List (List Int)) (ac : List Bool) (frm tt : Int) (h : ac.length = nx.length) (s : Nat) (hs : s < nx.length) : (laidL nx ac frm tt).getD s [] = laidRow frm tt (nx.getD s []) (ac.getD s false) := by
  simp [laidL, List.getD_eq_getElem?_getD, List.getElem?_zipWith, hs, show s < ac.length by omega]
/-- From o on the net has the automaton's rows; its ends lead to tt. -/
structure Block (X : List (List S82)) (o tt : Nat) (nx : List (List Int)) (ac : List Bool) : Prop where
  row : ∀ s, s < nx.length → X.getD (o + s) [] = laidRow (o : Int) (tt : Int) (nx.getD s []) (ac.getD s false)
section
variable {X : List (List S82)} {L : List Int} {a : Int} {nx : List (List Int)} {ac : List Bool} {o tt : Nat}
theorem Block.eps (hb : Block X o tt nx ac) {i s : Nat} (hs : s < nx.length) (h : At X L i (o + s)) (he : ac.getD s false = true) : At X L i tt := by
  have := At.eps (e := ⟨-1, (tt : Int)⟩) h (by rw [hb.row s hs, mem_laidRow]; exact Or.inl ⟨he, rfl⟩) rfl
  simpa using this
theorem Block.step (hg : goodB a nx ac = true) (hb : Block X o tt nx ac) {i s : Nat} (hs : s < nx.length) (h : At X L i (o + s)) (hi : i < L.length) (h0 : 0 ≤ L.getD i 0) (h1 : L.getD i 0 < a) : At X L (i + 1) (o + stN nx s (L.getD i 0)) := by
  have hr := (goodB_elim hg).2.2.2.2.2 _ (getD_mem nx [] s hs)
  have hst := stN_lt hg hs h0 h1
  have := At.step (e := ⟨L.getD i 0, (o : Int) + (stN nx s (L.getD i 0) : Int)⟩) h hi (by
    rw [hb.row s hs, mem_laidRow]
    refine Or.inr ⟨(L.getD i 0).toNat, by omega, ?_⟩
    rw [hst.2, Int.toNat_of_nonneg h0]) rfl
  have h5 : ((o : Int) + (stN nx s (L.getD i 0) : Int)).toNat = o + stN nx s (L.getD i 0) := by omega
  rw [← h5]
  exact this
/-- The edges out of an automaton's state. -/
theorem Block.out (hg : goodB a nx ac = true) (hb : Block X o tt nx ac) {s : Nat} (hs : s < nx.length) {e : S82} (he : e ∈ X.getD (o + s) []) :
    (e.f0 = -1 → ac.getD s false = true ∧ e.f1.toNat = tt) ∧ ∀ c, 0 ≤ c → e.f0 = c → c < a → e.f1.toNat = o + stN nx s c := by
  rw [hb.row s hs, mem_laidRow] at he
  have hr := (goodB_elim hg).2.2.2.2.2 _ (getD_mem nx [] s hs)
  rcases he with ⟨h, rfl⟩ | ⟨j, hj, rfl⟩
  · refine ⟨fun _ => ⟨h, by simp⟩, fun c h0 h1 => ?_⟩
    have h2 : (-1 : Int) = c := h1
    omega
  · refine ⟨fun h => ?_, fun c h0 h1 h2 => ?_⟩
    · have h2 : (j : Int) = -1 := h
      omega
    · replace h1 : (j : Int) = c := h1
      have hst := stN_lt (c := (j : Int)) hg hs (by omega) (by omega)
      have e1 := hst.2
      rw [Int.toNat_natCast] at e1
      subst h1
      simp only [e1]
      omega
end
/-- The letters i..j of a row lead the automaton from its beginning to this state. -/
def Rn (nx : List (List Int)) (L : List Int) (i j : Nat) : Nat := runN nx 0 ((L.take j).drop i)
def Ta (nx : List (List Int)) (ac : List Bool) (L : List Int) (i j : Nat) : Bool := ac.getD (Rn nx L i j) false
theorem Rn_self (nx : List (List Int)) (L : List Int) (i : Nat) : Rn nx L i i = 0 := by
  unfold Rn
  rw [List.drop_of_length_le (by rw [List.length_take]; omega)]
  rfl
theorem Rn_succ (nx : List (List Int)) (L : List Int) {i j : Nat} (h : i ≤ j) (hj : j < L.length) : Rn nx L i (j + 1) = stN nx (Rn nx L i j) (L.getD j 0) := by
  unfold Rn
  rw [take_getD_snoc L 0 j hj, List.drop_append_of_le_length (by rw [List.length_take]; omega), runN_snoc]
theorem Rn_lt {a : Int} {nx : List (List Int)} {ac : List Bool} (hg : goodB a nx ac = true) {L : List Int} (hL : ∀ x ∈ L, 0 ≤ x ∧ x < a) (i j : Nat) : Rn nx L i j < nx.length :=
  runN_lt hg _ 0 (by have := (goodB_elim hg).2.2.1; omega) (fun x hx => hL x (List.mem_of_mem_take (List.mem_of_mem_drop hx)))
section
variable {X : List (List S82)} {L : List Int} {a : Int} {nx nx' : List (List Int)} {ac ac' : List Bool} {o tt : Nat}
theorem Block.run (hg : goodB a nx ac = true) (hb : Block X o tt nx ac) (hL : ∀ x ∈ L, 0 ≤ x ∧ x < a) {i : Nat} (h : At X L i o) : ∀ d, i + d ≤ L.length → At X L (i + d) (o + Rn nx L i (i + d)) := by
  intro d
  induction d with
  | zero => intro _; rw [Nat.add_zero, Rn_self]; exact h
  | succ d ih =>
    intro hd
    have hx := hL _ (getD_mem L 0 (i + d) (by omega))
    have := hb.step hg (Rn_lt hg hL i (i + d)) (ih (by omega)) (by omega) hx.1 hx.2
    rw [← Nat.add_assoc, Rn_succ nx L (by omega) (by omega)]
    exact this
theorem Block.ends (hg : goodB a nx ac = true) (hb : Block X o tt nx ac) (hL : ∀ x ∈ L, 0 ≤ x ∧ x < a) {i j : Nat} (h : At X L i o) (hij : i ≤ j) (hj : j ≤ L.length) (ht : Ta nx ac L i j = true) : At X L j tt := by
  obtain ⟨d, rfl⟩ := Nat.exists_eq_add_of_le hij
  exact hb.eps (Rn_lt hg hL i (i + d)) (hb.run hg hL h d hj) ht
/-- The net of one. -/
theorem at_Of (hg : goodB a nx ac = true) (hL : ∀ x ∈ L, 0 ≤ x ∧ x < a) (hb : Block X 2 1 nx ac) (h0 : X.getD 0 [] = [noth 2]) (h1 : X.getD 1 [] = []) :
    At X L L.length 1 ↔ Ta nx ac L 0 L.length = true := by
  constructor
  · have key : ∀ i t, At X L i t → i ≤ L.length ∧ ((t = 0 ∧ i = 0) ∨ t = 2 + Rn nx L 0 i ∨ (t = 1 ∧ Ta nx ac L 0 i = true)) := by
      intro i t h
      induction h with
      | start => exact ⟨Nat.zero_le _, Or.inl ⟨rfl, rfl⟩⟩
      | @eps i s e h he hn ih =>
        refine ⟨ih.1, ?_⟩
        rcases ih.2 with ⟨rfl, rfl⟩ | rfl | ⟨rfl, _⟩
        · rw [h0] at he
          simp [noth] at he
          subst he
          exact Or.inr (Or.inl (by rw [Rn_self]; rfl))
        · obtain ⟨p, q⟩ := (hb.out hg (Rn_lt hg hL 0 i) he).1 hn
          exact Or.inr (Or.inr ⟨q, p⟩)
        · rw [h1] at he; simp at he
      | @step i s e h hi he hn ih =>
        have hx := hL _ (getD_mem L 0 i hi)
        refine ⟨hi, ?_⟩
        rcases ih.2 with ⟨rfl, rfl⟩ | rfl | ⟨rfl, _⟩
        · rw [h0] at he
          simp [noth] at he
          subst he
          exact absurd hn (by show ¬ ((-1 : Int) = L.getD _ 0); omega)
        · have q := (hb.out hg (Rn_lt hg hL 0 i) he).2 _ hx.1 hn hx.2
          exact Or.inr (Or.inl (by rw [q, Rn_succ nx L (Nat.zero_le _) hi]))
        · rw [h1] at he; simp at he
    intro h
    rcases (key _ _ h).2 with ⟨h, _⟩ | h | h
    · cases h
    · omega
    · exact h.2
  · intro h
    have h2 : At X L 0 2 := by simpa [noth] using At.eps (e := noth 2) At.start (by rw [h0]; simp) rfl
    exact hb.ends hg hL h2 (Nat.zero_le _) (Nat.le_refl _) h
/-- The net of either. -/
theorem at_Either (hg : goodB a nx ac = true) (hg' : goodB a nx' ac' = true) (hL : ∀ x ∈ L, 0 ≤ x ∧ x < a) (hb : Block X 2 1 nx ac) (hb' : Block X (2 + nx.length) 1 nx' ac') (h0 : X.getD 0 [] = [noth 2, noth ((2 + nx.length : Nat) : Int)]) (h1 : X.getD 1 [] = []) :
    At X L L.length 1 ↔ (Ta nx ac L 0 L.length || Ta nx' ac' L 0 L.length) = true := by
  rw [Bool.or_eq_true]
  constructor
  · have key : ∀ i t, At X L i t → i ≤ L.length ∧ ((t = 0 ∧ i = 0) ∨ t = 2 + Rn nx L 0 i ∨ t = 2 + nx.length + Rn nx' L 0 i ∨ (t = 1 ∧ (Ta nx ac L 0 i = true ∨ Ta nx' ac' L 0 i = true))) := by
      intro i t h
      induction h with
      | start => exact ⟨Nat.zero_le _, Or.inl ⟨rfl, rfl⟩⟩
      | @eps i s e h he hn ih =>
        refine ⟨ih.1, ?_⟩
        rcases ih.2 with ⟨rfl, rfl⟩ | rfl | rfl | ⟨rfl, _⟩
        · rw [h0] at he
          simp [noth] at he
          rcases he with rfl | rfl
          · exact Or.inr (Or.inl (by rw [Rn_self]; rfl))
          · exact Or.inr (Or.inr (Or.inl (by rw [Rn_self]; simp; omega)))
        · obtain ⟨p, q⟩ := (hb.out hg (Rn_lt hg hL 0 i) he).1 hn
          exact Or.inr (Or.inr (Or.inr ⟨q, Or.inl p⟩))
        · obtain ⟨p, q⟩ := (hb'.out hg' (Rn_lt hg' hL 0 i) he).1 hn
          exact Or.inr (Or.inr (Or.inr ⟨q, Or.inr p⟩))
        · rw [h1] at he; simp at he
      | @step i s e h hi he hn ih =>
        have hx := hL _ (getD_mem L 0 i hi)
        refine ⟨hi, ?_⟩
        rcases ih.2 with ⟨rfl, rfl⟩ | rfl | rfl | ⟨rfl, _⟩
        · rw [h0] at he
          simp [noth] at he
          rcases he with rfl | rfl <;> exact absurd hn (by show ¬ ((-1 : Int) = L.getD _ 0); omega)
        · have q := (hb.out hg (Rn_lt hg hL 0 i) he).2 _ hx.1 hn hx.2
          exact Or.inr (Or.inl (by rw [q, Rn_succ nx L (Nat.zero_le _) hi]))
        · have q := (hb'.out hg' (Rn_lt hg' hL 0 i) he).2 _ hx.1 hn hx.2
          exact Or.inr (Or.inr (Or.inl (by rw [q, Rn_succ nx' L (Nat.zero_le _) hi])))
        · rw [h1] at he; simp at he
    intro h
    rcases (key _ _ h).2 with ⟨h, _⟩ | h | h | h
    · cases h
    · omega
    · omega
    · exact h.2
  · have h2 : At X L 0 2 := by simpa [noth] using At.eps (e := noth 2) At.start (by rw [h0]; simp) rfl
    have h3 : At X L 0 (2 + nx.length) := by
      have := At.eps (e := noth ((2 + nx.length : Nat) : Int)) (L := L) At.start (by rw [h0]; simp) rfl
      simpa only [noth, Int.toNat_natCast] using this
    rintro (h | h)
    · exact hb.ends hg hL h2 (Nat.zero_le _) (Nat.le_refl _) h
    · exact hb'.ends hg' hL h3 (Nat.zero_le _) (Nat.le_refl _) h
/-- The net of one and then the other. -/
theorem at_Join (hg : goodB a nx ac = true) (hg' : goodB a nx' ac' = true) (hL : ∀ x ∈ L, 0 ≤ x ∧ x < a) (hb : Block X 2 (2 + nx.length) nx ac) (hb' : Block X (2 + nx.length) 1 nx' ac') (h0 : X.getD 0 [] = [noth 2]) (h1 : X.getD 1 [] = []) :
    At X L L.length 1 ↔ ∃ j, j ≤ L.length ∧ Ta nx ac L 0 j = true ∧ Ta nx' ac' L j L.length = true := by
  constructor
  · have key : ∀ i t, At X L i t → i ≤ L.length ∧ ((t = 0 ∧ i = 0) ∨ t = 2 + Rn nx L 0 i ∨ ∃ j, j ≤ i ∧ Ta nx ac L 0 j = true ∧ (t = 2 + nx.length + Rn nx' L j i ∨ (t = 1 ∧ Ta nx' ac' L j i = true))) := by
      intro i t h
      induction h with
      | start => exact ⟨Nat.zero_le _, Or.inl ⟨rfl, rfl⟩⟩
      | @eps i s e h he hn ih =>
        refine ⟨ih.1, ?_⟩
        rcases ih.2 with ⟨rfl, rfl⟩ | rfl | ⟨j, hj, hta, rfl | ⟨rfl, _⟩⟩
        · rw [h0] at he
          simp [noth] at he
          subst he
          exact Or.inr (Or.inl (by rw [Rn_self]; rfl))
        · obtain ⟨p, q⟩ := (hb.out hg (Rn_lt hg hL 0 i) he).1 hn
          exact Or.inr (Or.inr ⟨i, Nat.le_refl _, p, Or.inl (by rw [Rn_self, q]; rfl)⟩)
        · obtain ⟨p, q⟩ := (hb'.out hg' (Rn_lt hg' hL j i) he).1 hn
          exact Or.inr (Or.inr ⟨j, hj, hta, Or.inr ⟨q, p⟩⟩)
        · rw [h1] at he; simp at he
      | @step i s e h hi he hn ih =>
        have hx := hL _ (getD_mem L 0 i hi)
        refine ⟨hi, ?_⟩
        rcases ih.2 with ⟨rfl, rfl⟩ | rfl | ⟨j, hj, hta, rfl | ⟨rfl, _⟩⟩
        · rw [h0] at he
          simp [noth] at he
          subst he
          exact absurd hn (by show ¬ ((-1 : Int) = L.getD _ 0); omega)
        · have q := (hb.out hg (Rn_lt hg hL 0 i) he).2 _ hx.1 hn hx.2
          exact Or.inr (Or.inl (by rw [q, Rn_succ nx L (Nat.zero_le _) hi]))
        · have q := (hb'.out hg' (Rn_lt hg' hL j i) he).2 _ hx.1 hn hx.2
          exact Or.inr (Or.inr ⟨j, by omega, hta, Or.inl (by rw [q, Rn_succ nx' L hj hi])⟩)
        · rw [h1] at he; simp at he
    intro h
    rcases (key _ _ h).2 with ⟨h, _⟩ | h | ⟨j, hj, hta, h | h⟩
    · cases h
    · omega
    · omega
    · exact ⟨j, hj, hta, h.2⟩
  · rintro ⟨j, hj, h, h'⟩
    have h2 : At X L 0 2 := by simpa [noth] using At.eps (e := noth 2) At.start (by rw [h0]; simp) rfl
    exact hb'.ends hg' hL (hb.ends hg hL h2 (Nat.zero_le _) hj h) hj (Nat.le_refl _) h'
/-- Rows of an automaton, one behind the other. -/
inductive Star (T : Nat → Nat → Bool) : Nat → Prop
  | nil : Star T 0
  | more {j k : Nat} : Star T j → j < k → T j k = true → Star T k
/-- The net of one again and again. -/
theorem at_Again (hg : goodB a nx ac = true) (hL : ∀ x ∈ L, 0 ≤ x ∧ x < a) (hb : Block X 2 0 nx ac) (h0 : X.getD 0 [] = [noth 1, noth 2]) (h1 : X.getD 1 [] = []) :
    At X L L.length 1 ↔ Star (Ta nx ac L) L.length := by
  constructor
  · have key : ∀ i t, At X L i t → i ≤ L.length ∧ (((t = 0 ∨ t = 1) ∧ Star (Ta nx ac L) i) ∨ ∃ j, j ≤ i ∧ Star (Ta nx ac L) j ∧ t = 2 + Rn nx L j i) := by
      intro i t h
      induction h with
      | start => exact ⟨Nat.zero_le _, Or.inl ⟨Or.inl rfl, Star.nil⟩⟩
      | @eps i s e h he hn ih =>
        refine ⟨ih.1, ?_⟩
        rcases ih.2 with ⟨rfl | rfl, hs⟩ | ⟨j, hj, hs, rfl⟩
        · rw [h0] at he
          simp [noth] at he
          rcases he with rfl | rfl
          · exact Or.inl ⟨Or.inr rfl, hs⟩
          · exact Or.inr ⟨i, Nat.le_refl _, hs, by rw [Rn_self]; rfl⟩
        · rw [h1] at he; simp at he
        · obtain ⟨p, q⟩ := (hb.out hg (Rn_lt hg hL j i) he).1 hn
          refine Or.inl ⟨Or.inl q, ?_⟩
          rcases Nat.eq_or_lt_of_le hj with rfl | hj
          · exact hs
          · exact Star.more hs hj p
      | @step i s e h hi he hn ih =>
        have hx := hL _ (getD_mem L 0 i hi)
        refine ⟨hi, ?_⟩
        rcases ih.2 with ⟨rfl | rfl, hs⟩ | ⟨j, hj, hs, rfl⟩
        · rw [h0] at he
          simp [noth] at he
          rcases he with rfl | rfl <;> exact absurd hn (by show ¬ ((-1 : Int) = L.getD _ 0); omega)
        · rw [h1] at he; simp at he
        · have q := (hb.out hg (Rn_lt hg hL j i) he).2 _ hx.1 hn hx.2
          exact Or.inr ⟨j, by omega, hs, by rw [q, Rn_succ nx L hj hi]⟩
    intro h
    rcases (key _ _ h).2 with ⟨_, h⟩ | ⟨j, _, _, h⟩
    · exact h
    · omega
  · have key : ∀ i, Star (Ta nx ac L) i → i ≤ L.length → At X L i 0 := by
      intro i h
      induction h with
      | nil => intro _; exact At.start
      | @more j k h hj ht ih =>
        intro hi
        have h2 : At X L j 2 := by simpa [noth] using At.eps (e := noth 2) (ih (by omega)) (by rw [h0]; simp) rfl
        exact hb.ends hg hL h2 (by omega) hi ht
    intro h
    simpa [noth] using At.eps (e := noth 1) (key _ h (Nat.le_refl _)) (by rw [h0]; simp) rfl
end
/-! the nets themselves -/
theorem mem_laidL {a : Int} {nx : List (List Int)} {ac : List Bool} (hg : goodB a nx ac = true) {frm tt : Int} {l : List S82} (hl : l ∈ laidL nx ac frm tt) {e : S82} (he : e ∈ l) : (e.f0 = -1 ∧ e.f1 = tt) ∨ (0 ≤ e.f0 ∧ e.f0 < a ∧ frm ≤ e.f1 ∧ e.f1 < frm + nx.length) := by
  obtain ⟨_, _, _, _, hac, hr⟩ := goodB_elim hg
  obtain ⟨s, hs, rfl⟩ := List.mem_iff_getElem.1 hl
  have hs' : s < nx.length := by simpa [laidL_length nx ac frm tt hac] using hs
  have h := laidL_getD nx ac frm tt hac s hs'
  rw [List.getD_eq_getElem?_getD, List.getElem?_eq_getElem hs, Option.getD_some] at h
  rw [h, mem_laidRow] at he
  have hrow := hr _ (getD_mem nx [] s hs')
  rcases he with ⟨_, rfl⟩ | ⟨j, hj, rfl⟩
  · exact Or.inl ⟨rfl, rfl⟩
  · right
    have hx := hrow.2 _ (getD_mem _ 0 j hj)
    show 0 ≤ (j : Int) ∧ (j : Int) < a ∧ frm ≤ frm + _ ∧ frm + _ < frm + _
    omega
theorem goodNetB_of {a : Int} {X : List (List S82)} (h1 : 1 ≤ a) (h2 : a ≤ 64) (h3 : 2 ≤ X.length) (h4 : X.length ≤ 4000) (h : ∀ l ∈ X, ∀ e ∈ l, (0 ≤ e.f1 ∧ e.f1 < X.length) ∧ (e.f0 = -1 ∨ (0 ≤ e.f0 ∧ e.f0 < a))) : goodNetB a X = true := by
  unfold goodNetB
  simp only [Bool.and_eq_true, decide_eq_true_eq, Bool.not_eq_true', List.any_eq_false]
  refine ⟨⟨⟨⟨h1, h2⟩, by omega⟩, by omega⟩, fun l hl => ?_⟩
  unfold BadEdges
  intro hany
  rw [List.any_eq_true] at hany
  obtain ⟨e, he, hb⟩ := hany
  have := h l hl e he
  unfold BadEdge at hb
  simp only [Bool.or_eq_true, Bool.and_eq_true, decide_eq_true_eq, Bool.not_eq_true', decide_eq_false_iff_not] at hb
  omega
theorem okNet_of {X : List (List S82)} (h3 : 2 ≤ X.length) (h4 : X.length ≤ 4000) (hd : ∀ l ∈ X, l.length ≤ 1000000) (h : ∀ l ∈ X, ∀ e ∈ l, 0 ≤ e.f1 ∧ e.f1 < X.length) : OKNet X := by
  refine ⟨⟨h3, by omega⟩, hd, fun s e he => ?_⟩
  by_cases hs : s < X.length
  · exact h _ (getD_mem X [] s hs) e he
  · rw [List.getD_eq_getElem?_getD, List.getElem?_eq_none (by omega)] at he
    simp at he
theorem net_both {a : Int} {X : List (List S82)} (h1 : 1 ≤ a) (h2 : a ≤ 64) (h3 : 2 ≤ X.length) (h4 : X.length ≤ 4000) (hd : ∀ l ∈ X, l.length ≤ 1000000) (h : ∀ l ∈ X, ∀ e ∈ l, (0 ≤ e.f1 ∧ e.f1 < X.length) ∧ (e.f0 = -1 ∨ (0 ≤ e.f0 ∧ e.f0 < a))) : goodNetB a X = true ∧ OKNet X :=
  ⟨goodNetB_of h1 h2 h3 h4 h, okNet_of h3 h4 hd (fun l hl e he => (h l hl e he).1)⟩
section
variable {a : Int} {nx nx' : List (List Int)} {ac ac' : List Bool}
theorem block_at {F M : List (List S82)} (hg : goodB a nx ac = true) {o tt : Nat} (ho : F.length = o) : Block (F ++ (laidL nx ac (o : Int) (tt : Int) ++ M)) o tt nx ac := by
  obtain ⟨_, _, _, _, hac, _⟩ := goodB_elim hg
  refine ⟨fun s hs => ?_⟩
  have hll := laidL_length nx ac (o : Int) (tt : Int) hac
  rw [← laidL_getD nx ac (o : Int) (tt : Int) hac s hs, List.getD_eq_getElem?_getD, List.getD_eq_getElem?_getD, List.getElem?_append_right (by omega), List.getElem?_append_left (by omega), show o + s - F.length = s by omega]
theorem laid_small' (hg : goodB a nx ac = true) {frm tt : Int} : ∀ l ∈ laidL nx ac frm tt, l.length ≤ 1000000 := fun l hl => Nat.le_trans (laid_small nx ac (goodB_small hg) l hl) (by omega)
theorem net_Of (hg : goodB a nx ac = true) : (goodNetB a (netOf nx ac) = true ∧ OKNet (netOf nx ac)) ∧ Block (netOf nx ac) 2 1 nx ac := by
  obtain ⟨h1, h2, h3, h4, hac, _⟩ := goodB_elim hg
  have hll := laidL_length nx ac 2 1 hac
  have hlen : (netOf nx ac).length = 2 + nx.length := by unfold netOf; rw [List.length_append, hll]; rfl
  refine ⟨net_both h1 h2 (by omega) (by omega) (fun l hl => ?_) (fun l hl e he => ?_), ?_⟩
  · unfold netOf at hl
    simp only [List.mem_append, List.mem_cons, List.not_mem_nil, or_false] at hl
    rcases hl with (rfl | rfl) | hl
    · simp
    · simp
    · exact laid_small' hg l hl
  · rw [hlen]
    unfold netOf at hl
    simp only [List.mem_append, List.mem_cons, List.not_mem_nil, or_false] at hl
    rcases hl with (rfl | rfl) | hl
    · simp [noth] at he; subst he; exact ⟨by show (0 : Int) ≤ 2 ∧ (2 : Int) < _; omega, Or.inl rfl⟩
    · simp at he
    · have := mem_laidL hg hl he; omega
  · have := block_at (F := [[noth 2], []]) (M := []) (o := 2) (tt := 1) hg rfl
    rw [List.append_nil] at this
    exact this
theorem net_Again (hg : goodB a nx ac = true) : (goodNetB a (netAgain nx ac) = true ∧ OKNet (netAgain nx ac)) ∧ Block (netAgain nx ac) 2 0 nx ac := by
  obtain ⟨h1, h2, h3, h4, hac, _⟩ := goodB_elim hg
  have hll := laidL_length nx ac 2 0 hac
  have hlen : (netAgain nx ac).length = 2 + nx.length := by unfold netAgain; rw [List.length_append, hll]; rfl
  refine ⟨net_both h1 h2 (by omega) (by omega) (fun l hl => ?_) (fun l hl e he => ?_), ?_⟩
  · unfold netAgain at hl
    simp only [List.mem_append, List.mem_cons, List.not_mem_nil, or_false] at hl
    rcases hl with (rfl | rfl) | hl
    · simp
    · simp
    · exact laid_small' hg l hl
  · rw [hlen]
    unfold netAgain at hl
    simp only [List.mem_append, List.mem_cons, List.not_mem_nil, or_false] at hl
    rcases hl with (rfl | rfl) | hl
    · simp [noth] at he
      rcases he with rfl | rfl
      · exact ⟨by show (0 : Int) ≤ 1 ∧ (1 : Int) < _; omega, Or.inl rfl⟩
      · exact ⟨by show (0 : Int) ≤ 2 ∧ (2 : Int) < _; omega, Or.inl rfl⟩
    · simp at he
    · have := mem_laidL hg hl he; omega
  · have := block_at (F := [[noth 1, noth 2], []]) (M := []) (o := 2) (tt := 0) hg rfl
    rw [List.append_nil] at this
    exact this
theorem net_Join (hg : goodB a nx ac = true) (hg' : goodB a nx' ac' = true) : (goodNetB a (netJoin nx ac nx' ac') = true ∧ OKNet (netJoin nx ac nx' ac')) ∧ Block (netJoin nx ac nx' ac') 2 (2 + nx.length) nx ac ∧ Block (netJoin nx ac nx' ac') (2 + nx.length) 1 nx' ac' := by
  obtain ⟨h1, h2, h3, h4, hac, _⟩ := goodB_elim hg
  obtain ⟨_, _, h3', h4', hac', _⟩ := goodB_elim hg'
  have hll := laidL_length nx ac 2 (2 + nx.length) hac
  have hll' := laidL_length nx' ac' (2 + nx.length) 1 hac'
  have hlen : (netJoin nx ac nx' ac').length = 2 + nx.length + nx'.length := by unfold netJoin; rw [List.length_append, List.length_append, hll, hll']; show 2 + _ = _; omega
  refine ⟨net_both h1 h2 (by omega) (by omega) (fun l hl => ?_) (fun l hl e he => ?_), ?_, ?_⟩
  · unfold netJoin at hl
    simp only [List.mem_append, List.mem_cons, List.not_mem_nil, or_false] at hl
    rcases hl with (rfl | rfl) | hl | hl
    · simp
    · simp
    · exact laid_small' hg l hl
    · exact laid_small' hg' l hl
  · rw [hlen]
    unfold netJoin at hl
    simp only [List.mem_append, List.mem_cons, List.not_mem_nil, or_false] at hl
    rcases hl with (rfl | rfl) | hl | hl
    · simp [noth] at he; subst he; exact ⟨by show (0 : Int) ≤ 2 ∧ (2 : Int) < _; omega, Or.inl rfl⟩
    · simp at he
    · have := mem_laidL hg hl he; omega
    · have := mem_laidL hg' hl he; omega
  · have := block_at (F := [[noth 2], []]) (M := laidL nx' ac' (2 + nx.length) 1) (o := 2) (tt := 2 + nx.length) hg rfl
    simpa [netJoin] using this
  · have := block_at (F := [[noth 2], []] ++ laidL nx ac 2 (2 + nx.length)) (M := []) (o := 2 + nx.length) (tt := 1) hg' (by rw [List.length_append, hll]; rfl)
    rw [List.append_nil, List.append_assoc] at this
    simpa [netJoin] using this
theorem net_Either (hg : goodB a nx ac = true) (hg' : goodB a nx' ac' = true) : (goodNetB a (netEither nx ac nx' ac') = true ∧ OKNet (netEither nx ac nx' ac')) ∧ Block (netEither nx ac nx' ac') 2 1 nx ac ∧ Block (netEither nx ac nx' ac') (2 + nx.length) 1 nx' ac' := by
  obtain ⟨h1, h2, h3, h4, hac, _⟩ := goodB_elim hg
  obtain ⟨_, _, h3', h4', hac', _⟩ := goodB_elim hg'
  have hll := laidL_length nx ac 2 1 hac
  have hll' := laidL_length nx' ac' (2 + nx.length) 1 hac'
  have hlen : (netEither nx ac nx' ac').length = 2 + nx.length + nx'.length := by unfold netEither; rw [List.length_append, List.length_append, hll, hll']; show 2 + _ = _; omega
  refine ⟨net_both h1 h2 (by omega) (by omega) (fun l hl => ?_) (fun l hl e he => ?_), ?_, ?_⟩
  · unfold netEither at hl
    simp only [List.mem_append, List.mem_cons, List.not_mem_nil, or_false] at hl
    rcases hl with (rfl | rfl) | hl | hl
    · simp
    · simp
    · exact laid_small' hg l hl
    · exact laid_small' hg' l hl
  · rw [hlen]
    unfold netEither at hl
    simp only [List.mem_append, List.mem_cons, List.not_mem_nil, or_false] at hl
    rcases hl with (rfl | rfl) | hl | hl
    · simp [noth] at he
      rcases he with rfl | rfl
      · exact ⟨by show (0 : Int) ≤ 2 ∧ (2 : Int) < _; omega, Or.inl rfl⟩
      · exact ⟨by show (0 : Int) ≤ 2 + (nx.length : Int) ∧ 2 + (nx.length : Int) < _; omega, Or.inl rfl⟩
    · simp at he
    · have := mem_laidL hg hl he; omega
    · have := mem_laidL hg' hl he; omega
  · have := block_at (F := [[noth 2, noth (2 + nx.length)], []]) (M := laidL nx' ac' (2 + nx.length) 1) (o := 2) (tt := 1) hg rfl
    simpa [netEither] using this
  · have := block_at (F := [[noth 2, noth (2 + nx.length)], []] ++ laidL nx ac 2 1) (M := []) (o := 2 + nx.length) (tt := 1) hg' (by rw [List.length_append, hll]; rfl)
    rw [List.append_nil, List.append_assoc] at this
    simpa [netEither] using this
end
/-! what the law reckons itself -/
theorem catB_iff (ta tb : Nat → Nat → Bool) (n : Nat) : catB ta tb n (n + 1) = true ↔ ∃ j, j ≤ n ∧ ta 0 j = true ∧ tb j n = true := by
  simp only [catB, List.any_eq_true, List.mem_range, Bool.and_eq_true]
  exact ⟨fun ⟨j, h1, h2⟩ => ⟨j, by omega, h2⟩, fun ⟨j, h1, h2⟩ => ⟨j, by omega, h2⟩⟩
theorem star_iff (T : Nat → Nat → Bool) (k : Nat) : Star T k ↔ k = 0 ∨ ∃ j, j < k ∧ Star T j ∧ T j k = true := by
  constructor
  · intro h
    cases h with
    | nil => exact Or.inl rfl
    | more h hj ht => exact Or.inr ⟨_, hj, h, ht⟩
  · rintro (rfl | ⟨j, hj, h, ht⟩)
    · exact Star.nil
    · exact Star.more h hj ht
theorem agains_iff (ta : Nat → Nat → Bool) (n : Nat) : ∀ k, k ≤ n + 1 → ∀ q, q ≤ n → ((agains ta n k).getD q false = true ↔ (q < k ∨ q = 0) ∧ Star ta q) := by
  intro k
  induction k with
  | zero =>
    intro _ q hq
    by_cases h : q = 0
    · subst h
      exact ⟨fun _ => ⟨Or.inr rfl, Star.nil⟩, fun _ => by simp [agains, List.getD_eq_getElem?_getD]⟩
    · have e : (agains ta n 0).getD q false = false := by
        have : ¬ 0 = q := by omega
        simp [agains, List.getD_eq_getElem?_getD, List.getElem?_set, this, List.getElem?_replicate]
        split <;> simp
      rw [e]
      simp [h]
  | succ k ih =>
    intro hk q hq
    have hl := agains_length ta n k
    unfold agains
    by_cases h : q = k
    · subst h
      rw [agStep_getD ta _ q q (by omega), Bool.or_eq_true, ih (by omega) q hq, star_iff ta q]
      simp only [List.any_eq_true, List.mem_range, Bool.and_eq_true]
      constructor
      · rintro (⟨_, h⟩ | ⟨j, hj, h1, h2⟩)
        · exact ⟨Or.inl (by omega), h⟩
        · exact ⟨Or.inl (by omega), Or.inr ⟨j, hj, ((ih (by omega) j (by omega)).1 h1).2, h2⟩⟩
      · rintro ⟨_, h | ⟨j, hj, h1, h2⟩⟩
        · exact Or.inl ⟨Or.inr h, Or.inl h⟩
        · exact Or.inr ⟨j, hj, (ih (by omega) j (by omega)).2 ⟨Or.inl hj, h1⟩, h2⟩
    · rw [agStep_getD_ne ta _ k k q h, ih (by omega) q hq]
      constructor
      · rintro ⟨h1, h2⟩; exact ⟨by omega, h2⟩
      · rintro ⟨h1, h2⟩; exact ⟨by omega, h2⟩

end Go.Proofs.Ytelkjbacdpmnfaa.A
