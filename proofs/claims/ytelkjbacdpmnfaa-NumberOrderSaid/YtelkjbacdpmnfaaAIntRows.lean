/- By a program, out of the translation (wip/myprint.py). -/
import Derived.Test.YtelkjbacdpmnfaaA0
import Derived.Test.YtelkjbacdpmnfaaAThompsonRows
namespace Go.Proofs.Ytelkjbacdpmnfaa.A
open Go.RowKit Go.Proofs.YtelkjbacdpmnfaaW.PrintWords Go.Proofs.YtelkjbacdpmnfaaW.PrintLast Go.Proofs.YtelkjbacdpmnfaaW.PrintMore
attribute [local go_sem] max2_int min2_int max_two min_two max_three min_three max_four min_four   -- for this text's walks alone
set_option linter.unusedVariables false
set_option linter.unusedSimpArgs false

/-- Rows of whole numbers by their headers: each its own, no two of one block. -/
def RowsI (W : World) (base : Nat) (hs : List Hdr) (L : List (List Int)) : Prop :=
  hs.length = L.length ∧ (∀ (j : Nat) (h : Hdr) (x : List Int), hs[j]? = some h → L[j]? = some x → (Kd.int .i64).R 3 W base (fun k => some k = (encH h).ownBlock) (encH h) x) ∧
  (∀ (i j : Nat) (h h' : Hdr) (k : Nat), hs[i]? = some h → hs[j]? = some h' → (encH h).ownBlock = some k → (encH h').ownBlock = some k → i = j)

theorem RowsI.len {W : World} {base : Nat} {hs : List Hdr} {L : List (List Int)} (h : RowsI W base hs L) : hs.length = L.length := h.1

theorem S_hdrsI {W : World} {base : Nat} {ok : Nat → Prop} {v : Value} {L : List (List Int)} (h : Kd.S (Kd.slice 3 (Kd.int .i64)) 45 W base ok v L) :
    ∃ hs, hdrK.R 45 W base ok v hs ∧ RowsI W base hs L := by
  obtain ⟨f, h0, inner, ho, hr⟩ := h
  have hsz : (Kd.tag f (Kd.slice 3 (Kd.int .i64))).sz = 1 := rfl
  have hil : inner.length = L.length := by have := hr.1; rw [List.length_zipIdx, hsz] at this; omega
  have key : ∀ j x, L[j]? = some x → ∃ u, inner[j]? = some u ∧ encH (toH u) = u ∧ (Kd.int .i64).R 3 W base (fun k => (ok k ∧ some k ≠ v.ownBlock) ∧ f k = j) u x := by
    intro j x hx
    have hjl : j < L.length := (List.getElem?_eq_some_iff.1 hx).1
    have h2 := hr.2 j (x, j) (Kd.zip_at hx)
    obtain ⟨u, hu, hR⟩ := h2
    rw [hsz, Nat.mul_one, List.drop_eq_getElem_cons (by omega), List.take_succ_cons, List.take_zero] at hu
    have hu2 : inner[j] = u := by injection hu
    obtain ⟨A, c, he⟩ := Kd.R_slice hR
    refine ⟨u, by rw [List.getElem?_eq_getElem (by omega), hu2], by rw [he]; rfl, hR⟩
  have henc : encs encH (inner.map toH) = inner := by
    apply List.ext_getElem?
    intro j
    by_cases hj : j < L.length
    · obtain ⟨u, hu, he, _⟩ := key j _ (List.getElem?_eq_getElem hj)
      simp only [encs, List.getElem?_map, hu, Option.map_some]
      rw [he]
    · rw [List.getElem?_eq_none (by rw [encs_length, List.length_map]; omega), List.getElem?_eq_none (by omega)]
  refine ⟨inner.map toH, Kd.R_of_own ?_ (fun k hk => h0 k hk), by rw [List.length_map]; exact hil, ?_, ?_⟩
  · rw [henc, List.length_map, hil]
    have := ho
    rw [List.length_zipIdx] at this
    exact this
  · intro j h x hh hx
    obtain ⟨u, hu, he, hR⟩ := key j x hx
    rw [List.getElem?_map, hu] at hh
    injection hh with hh
    rw [← hh, he]
    exact Kd.R_tight rfl hR
  · intro i j h h' k hi hj hki hkj
    have hil2 : i < L.length := by have := (List.getElem?_eq_some_iff.1 hi).1; rw [List.length_map] at this; omega
    have hjl2 : j < L.length := by have := (List.getElem?_eq_some_iff.1 hj).1; rw [List.length_map] at this; omega
    obtain ⟨u, hu, he, hR⟩ := key i _ (List.getElem?_eq_getElem hil2)
    obtain ⟨u', hu', he', hR'⟩ := key j _ (List.getElem?_eq_getElem hjl2)
    rw [List.getElem?_map, hu] at hi
    rw [List.getElem?_map, hu'] at hj
    injection hi with hi
    injection hj with hj
    rw [← hi, he] at hki
    rw [← hj, he'] at hkj
    have a := (hR.1 k hki).2
    have b := (hR'.1 k hkj).2
    omega

theorem S_of_hdrsI {W : World} {base : Nat} {v : Value} {hs : List Hdr} {L : List (List Int)} (h : hdrK.R 45 W base (fun _ => True) v hs) (hR : RowsI W base hs L) : Kd.S (Kd.slice 3 (Kd.int .i64)) 45 W base (fun _ => True) v L := by
  classical
  obtain ⟨hl, hr, hd⟩ := hR
  have ho := Kd.own_of_R h
  let f : Nat → Nat := fun k => if hx : ∃ j h', hs[j]? = some h' ∧ (encH h').ownBlock = some k then Classical.choose hx else 0
  have hf : ∀ j h' k, hs[j]? = some h' → (encH h').ownBlock = some k → f k = j := by
    intro j h' k hj hk
    have hx : ∃ j h', hs[j]? = some h' ∧ (encH h').ownBlock = some k := ⟨j, h', hj, hk⟩
    have e : f k = Classical.choose hx := by simp only [f]; rw [dif_pos hx]
    rw [e]
    obtain ⟨h2, ha, hb⟩ := Classical.choose_spec hx
    exact hd _ _ _ _ k ha hj hb hk
  refine ⟨f, fun k _ => trivial, encs encH hs, by rw [List.length_zipIdx, ← hl]; exact ho, by rw [encs_length, List.length_zipIdx, hl]; show L.length = L.length * 1; omega, fun j p hp => ?_⟩
  obtain ⟨x, i⟩ := p
  have hjl : j < L.length := by have := (List.getElem?_eq_some_iff.1 hp).1; rwa [List.length_zipIdx] at this
  rw [Kd.zip_at (List.getElem?_eq_getElem hjl)] at hp
  injection hp with hp
  injection hp with hx hi
  subst hx
  subst hi
  have hjh : j < hs.length := by omega
  have hh := List.getElem?_eq_getElem hjh
  have hq := hr j _ _ hh (List.getElem?_eq_getElem hjl)
  refine ⟨encH hs[j], ?_, Kd.R_mono hq (fun k hk => ⟨⟨trivial, fun e => ?_⟩, hf j _ k hh hk.symm⟩)⟩
  · show List.take 1 (List.drop (j * 1) (encs encH hs)) = _
    rw [Nat.mul_one, List.drop_eq_getElem_cons (by rw [encs_length]; exact hjh), List.take_succ_cons, List.take_zero]
    simp [encs]
  · obtain ⟨c1, h1⟩ := Kd.R_typed hq k hk.symm
    obtain ⟨c2, h2⟩ := Kd.R_typed h k e.symm
    rw [h1] at h2
    injection h2 with h2
    injection h2 with _ h2
    exact absurd h2 (by decide)

theorem RowsI.below {W W' : World} {base : Nat} {hs : List Hdr} {L : List (List Int)} (h : RowsI W base hs L) (hb : Below W.heap.size W W') : RowsI W' base hs L :=
  ⟨h.1, fun j x y hx hy => Kd.R_below (h.2.1 j x y hx hy) hb, h.2.2⟩
theorem RowsI.lower {W : World} {base base' : Nat} {hs : List Hdr} {L : List (List Int)} (h : RowsI W base hs L) (hb : base' ≤ base) : RowsI W base' hs L :=
  ⟨h.1, fun j x y hx hy => Kd.R_lower (h.2.1 j x y hx hy) hb, h.2.2⟩
/-- A store into a block of another type. -/
theorem RowsI.set {W : World} {base : Nat} {hs : List Hdr} {L : List (List Int)} (h : RowsI W base hs L) {g t : Nat} {cells : Array Value} (hb : W.heap[g]? = some (.cells cells t (0, 0))) (ht : ∀ q, q ∈ 3 :: (Kd.int .i64).E → q ≠ t) (j : Nat) (u : Value) : RowsI (W.setCell ⟨g, j, none⟩ u) base hs L :=
  ⟨h.1, fun i x y hx hy => Kd.R_set (h.2.1 i x y hx hy) hb ht j u, h.2.2⟩
theorem RowsI.nil (W : World) (base : Nat) : RowsI W base [] [] := ⟨rfl, fun j h x hh => by simp at hh, fun i j h h' k hi => by simp at hi⟩
theorem RowsI.lt {W : World} {base : Nat} {hs : List Hdr} {L : List (List Int)} (h : RowsI W base hs L) {j : Nat} {x : Hdr} (hx : hs[j]? = some x) {k : Nat} (hk : (encH x).ownBlock = some k) : k < W.heap.size := by
  have hj : j < L.length := by have := (List.getElem?_eq_some_iff.1 hx).1; have := h.1; omega
  exact Kd.R_lt (h.2.1 j x _ hx (List.getElem?_eq_getElem hj)) k hk
theorem RowsI.ge {W : World} {base : Nat} {hs : List Hdr} {L : List (List Int)} (h : RowsI W base hs L) {j : Nat} {x : Hdr} (hx : hs[j]? = some x) {k : Nat} (hk : (encH x).ownBlock = some k) : base ≤ k := by
  have hj : j < L.length := by have := (List.getElem?_eq_some_iff.1 hx).1; have := h.1; omega
  exact Kd.R_base (h.2.1 j x _ hx (List.getElem?_eq_getElem hj)) k hk
/-- Elder rows and newer ones. -/
theorem RowsI.append {W : World} {base : Nat} {hs hs' : List Hdr} {L L' : List (List Int)} (h : RowsI W base hs L) (h' : RowsI W base hs' L')
    (hne : ∀ (i j : Nat) (x y : Hdr) (k : Nat), hs[i]? = some x → hs'[j]? = some y → (encH x).ownBlock = some k → (encH y).ownBlock = some k → False) : RowsI W base (hs ++ hs') (L ++ L') := by
  refine ⟨by simp [h.1, h'.1], fun j x y hx hy => ?_, fun i j x y k hx hy hkx hky => ?_⟩
  · by_cases hj : j < hs.length
    · rw [List.getElem?_append_left hj] at hx
      rw [List.getElem?_append_left (by have := h.1; omega)] at hy
      exact h.2.1 j x y hx hy
    · rw [List.getElem?_append_right (by omega)] at hx
      rw [List.getElem?_append_right (by have := h.1; omega)] at hy
      rw [h.1] at hx
      exact h'.2.1 _ x y hx hy
  · by_cases hi : i < hs.length
    · rw [List.getElem?_append_left hi] at hx
      by_cases hj : j < hs.length
      · rw [List.getElem?_append_left hj] at hy
        exact h.2.2 i j x y k hx hy hkx hky
      · rw [List.getElem?_append_right (by omega)] at hy
        exact (hne _ _ x y k hx hy hkx hky).elim
    · rw [List.getElem?_append_right (by omega)] at hx
      by_cases hj : j < hs.length
      · rw [List.getElem?_append_left hj] at hy
        exact (hne _ _ y x k hy hx hky hkx).elim
      · rw [List.getElem?_append_right (by omega)] at hy
        have := h'.2.2 _ _ x y k hx hy hkx hky
        omega
/-- A block of a call's own, as a row. -/
theorem scalar_blk {α : Type} {enc : α → Value} {h1 : ∀ x, (enc x).oneCell' = true} {e : TypeId} {W : World} {base g : Nat} {ok : Nat → Prop} {xs : List α} (hb : W.heap[g]? = some (.cells (xs.map enc).toArray e (0, 0))) (hg : base ≤ g) (hok : ok g) (hm : xs.length ≤ maxLen) :
    (Kd.scalar enc h1).R e W base ok (.slice (some ⟨g, 0, none⟩) xs.length xs.length) xs := by
  refine Kd.R_of_own ⟨by simp [encs], .inr ⟨g, xs.length, _, rfl, hg, hb, Nat.le_refl _, hm, by simp, ?_⟩⟩ (fun k hk => ?_)
  · simp only [encs, Nat.mul_one]
    exact List.take_of_length_le (by simp)
  · have : g = k := by simpa [Value.ownBlock] using hk
    subst this
    exact hok
theorem RowsI.of_R {W : World} {base : Nat} {h : Hdr} {l : List Int} (hR : (Kd.int .i64).R 3 W base (fun _ => True) (encH h) l) : RowsI W base [h] [l] := by
  refine ⟨rfl, fun j x y hx hy => ?_, fun i j x y k hx hy hkx hky => ?_⟩
  · rcases j with _ | j
    · simp at hx hy
      subst hx; subst hy
      exact Kd.R_tight rfl hR
    · simp at hx
  · rcases i with _ | i
    · rcases j with _ | j
      · rfl
      · simp at hy
    · simp at hx
/-- One row more, in a block of its own. -/
theorem RowsI.cons {W : World} {base g n c : Nat} {hs : List Hdr} {L : List (List Int)} {l : List Int} (hR : (Kd.int .i64).R 3 W base (fun _ => True) (.slice (some ⟨g, 0, none⟩) n c) l) (h : RowsI W base hs L) (hne : ∀ (y : Hdr), y ∈ hs → (encH y).ownBlock ≠ some g) : RowsI W base ((some ⟨g, 0, none⟩, n, c) :: hs) (l :: L) := by
  refine RowsI.append (hs := [(some ⟨g, 0, none⟩, n, c)]) (L := [l]) (RowsI.of_R hR) h (fun i j x y k hx hy hkx hky => ?_)
  have hx2 : x = (some ⟨g, 0, none⟩, n, c) := by rcases i with _ | i <;> simp at hx; exact hx.symm
  subst hx2
  have hk : g = k := by simpa [encH, Value.ownBlock] using hkx
  subst hk
  exact hne y (List.mem_of_getElem? hy) hky

end Go.Proofs.Ytelkjbacdpmnfaa.A
