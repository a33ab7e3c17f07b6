/- By a program, out of the translation (wip/myprint.py). -/
import Derived.Test.YtelkjbacdpmnfaaA0
namespace Go.Proofs.Ytelkjbacdpmnfaa.A
open Go.RowKit Go.Proofs.YtelkjbacdpmnfaaW.PrintWords Go.Proofs.YtelkjbacdpmnfaaW.PrintLast Go.Proofs.YtelkjbacdpmnfaaW.PrintMore
attribute [local go_sem] max2_int min2_int max_two min_two max_three min_three max_four min_four   -- for this text's walks alone
set_option linter.unusedVariables false
set_option linter.unusedSimpArgs false

/-- A slice's header, as a kind of its own: an address, a length, a capacity. -/
abbrev Hdr := Option Addr × Nat × Nat
def encH (x : Hdr) : Value := .slice x.1 x.2.1 x.2.2
theorem encH_one (x : Hdr) : (encH x).oneCell' = true := rfl
def hdrK : Kd Hdr := Kd.scalar encH encH_one
/-- A value's header, if it is a slice. -/
def toH : Value → Hdr
  | .slice a n c => (a, n, c)
  | _ => (none, 0, 0)

/-- Rows of edges by their headers: each its own, no two of one block. -/
def RowsOK (W : World) (base : Nat) (hs : List Hdr) (L : List (List S82)) : Prop :=
  hs.length = L.length ∧ (∀ (j : Nat) (h : Hdr) (x : List S82), hs[j]? = some h → L[j]? = some x → k82.R 82 W base (fun k => some k = (encH h).ownBlock) (encH h) x) ∧
  (∀ (i j : Nat) (h h' : Hdr) (k : Nat), hs[i]? = some h → hs[j]? = some h' → (encH h).ownBlock = some k → (encH h').ownBlock = some k → i = j)

theorem RowsOK.len {W : World} {base : Nat} {hs : List Hdr} {L : List (List S82)} (h : RowsOK W base hs L) : hs.length = L.length := h.1

theorem S_hdrs {W : World} {base : Nat} {ok : Nat → Prop} {v : Value} {L : List (List S82)} (h : Kd.S (Kd.slice 82 k82) 79 W base ok v L) :
    ∃ hs, hdrK.R 79 W base ok v hs ∧ RowsOK W base hs L := by
  obtain ⟨f, h0, inner, ho, hr⟩ := h
  have hsz : (Kd.tag f (Kd.slice 82 k82)).sz = 1 := rfl
  have hil : inner.length = L.length := by have := hr.1; rw [List.length_zipIdx, hsz] at this; omega
  have key : ∀ j x, L[j]? = some x → ∃ u, inner[j]? = some u ∧ encH (toH u) = u ∧ k82.R 82 W base (fun k => (ok k ∧ some k ≠ v.ownBlock) ∧ f k = j) u x := by
    intro j x hx
    have hjl : j < L.length := (List.getElem?_eq_some_iff.1 hx).1
    have h2 := hr.2 j (x, j) (Kd.zip_at hx)
    obtain ⟨u, hu, hR⟩ := h2
    rw [hsz, Nat.mul_one, List.drop_eq_getElem_cons (by omega), List.take_succ_cons, List.take_zero] at hu
    have hu2 : inner[j] = u := by injection hu
    obtain ⟨A, c, he⟩ := Kd.R_slice hR
    refine ⟨u, by rw [List.getElem?_eq_getElem (by omega), hu2], by rw [he]; rfl, hR⟩
  have henc : encs encH (inner.map toH) = inner := by
    apply List.ext_getElem?
    intro j
    by_cases hj : j < L.length
    · obtain ⟨u, hu, he, _⟩ := key j _ (List.getElem?_eq_getElem hj)
      simp only [encs, List.getElem?_map, hu, Option.map_some]
      rw [he]
    · rw [List.getElem?_eq_none (by rw [encs_length, List.length_map]; omega), List.getElem?_eq_none (by omega)]
  refine ⟨inner.map toH, Kd.R_of_own ?_ (fun k hk => h0 k hk), by rw [List.length_map]; exact hil, ?_, ?_⟩
  · rw [henc, List.length_map, hil]
    have := ho
    rw [List.length_zipIdx] at this
    exact this
  · intro j h x hh hx
    obtain ⟨u, hu, he, hR⟩ := key j x hx
    rw [List.getElem?_map, hu] at hh
    injection hh with hh
    rw [← hh, he]
    exact Kd.R_tight rfl hR
  · intro i j h h' k hi hj hki hkj
    have hil2 : i < L.length := by have := (List.getElem?_eq_some_iff.1 hi).1; rw [List.length_map] at this; omega
    have hjl2 : j < L.length := by have := (List.getElem?_eq_some_iff.1 hj).1; rw [List.length_map] at this; omega
    obtain ⟨u, hu, he, hR⟩ := key i _ (List.getElem?_eq_getElem hil2)
    obtain ⟨u', hu', he', hR'⟩ := key j _ (List.getElem?_eq_getElem hjl2)
    rw [List.getElem?_map, hu] at hi
    rw [List.getElem?_map, hu'] at hj
    injection hi with hi
    injection hj with hj
    rw [← hi, he] at hki
    rw [← hj, he'] at hkj
    have a := (hR.1 k hki).2
    have b := (hR'.1 k hkj).2
    omega

theorem S_of_hdrs {W : World} {base : Nat} {v : Value} {hs : List Hdr} {L : List (List S82)} (h : hdrK.R 79 W base (fun _ => True) v hs) (hR : RowsOK W base hs L) : Kd.S (Kd.slice 82 k82) 79 W base (fun _ => True) v L := by
  classical
  obtain ⟨hl, hr, hd⟩ := hR
  have ho := Kd.own_of_R h
  let f : Nat → Nat := fun k => if hx : ∃ j h', hs[j]? = some h' ∧ (encH h').ownBlock = some k then Classical.choose hx else 0
  have hf : ∀ j h' k, hs[j]? = some h' → (encH h').ownBlock = some k → f k = j := by
    intro j h' k hj hk
    have hx : ∃ j h', hs[j]? = some h' ∧ (encH h').ownBlock = some k := ⟨j, h', hj, hk⟩
    have e : f k = Classical.choose hx := by simp only [f]; rw [dif_pos hx]
    rw [e]
    obtain ⟨h2, ha, hb⟩ := Classical.choose_spec hx
    exact hd _ _ _ _ k ha hj hb hk
  refine ⟨f, fun k _ => trivial, encs encH hs, by rw [List.length_zipIdx, ← hl]; exact ho, by rw [encs_length, List.length_zipIdx, hl]; show L.length = L.length * 1; omega, fun j p hp => ?_⟩
  obtain ⟨x, i⟩ := p
  have hjl : j < L.length := by have := (List.getElem?_eq_some_iff.1 hp).1; rwa [List.length_zipIdx] at this
  rw [Kd.zip_at (List.getElem?_eq_getElem hjl)] at hp
  injection hp with hp
  injection hp with hx hi
  subst hx
  subst hi
  have hjh : j < hs.length := by omega
  have hh := List.getElem?_eq_getElem hjh
  have hq := hr j _ _ hh (List.getElem?_eq_getElem hjl)
  refine ⟨encH hs[j], ?_, Kd.R_mono hq (fun k hk => ⟨⟨trivial, fun e => ?_⟩, hf j _ k hh hk.symm⟩)⟩
  · show List.take 1 (List.drop (j * 1) (encs encH hs)) = _
    rw [Nat.mul_one, List.drop_eq_getElem_cons (by rw [encs_length]; exact hjh), List.take_succ_cons, List.take_zero]
    simp [encs]
  · obtain ⟨c1, h1⟩ := Kd.R_typed hq k hk.symm
    obtain ⟨c2, h2⟩ := Kd.R_typed h k e.symm
    rw [h1] at h2
    injection h2 with h2
    injection h2 with _ h2
    exact absurd h2 (by decide)

theorem RowsOK.below {W W' : World} {base : Nat} {hs : List Hdr} {L : List (List S82)} (h : RowsOK W base hs L) (hb : Below W.heap.size W W') : RowsOK W' base hs L :=
  ⟨h.1, fun j x y hx hy => Kd.R_below (h.2.1 j x y hx hy) hb, h.2.2⟩
theorem RowsOK.lower {W : World} {base base' : Nat} {hs : List Hdr} {L : List (List S82)} (h : RowsOK W base hs L) (hb : base' ≤ base) : RowsOK W base' hs L :=
  ⟨h.1, fun j x y hx hy => Kd.R_lower (h.2.1 j x y hx hy) hb, h.2.2⟩
/-- A store into a block of another type. -/
theorem RowsOK.set {W : World} {base : Nat} {hs : List Hdr} {L : List (List S82)} (h : RowsOK W base hs L) {g t : Nat} {cells : Array Value} (hb : W.heap[g]? = some (.cells cells t (0, 0))) (ht : ∀ q, q ∈ 82 :: k82.E → q ≠ t) (j : Nat) (u : Value) : RowsOK (W.setCell ⟨g, j, none⟩ u) base hs L :=
  ⟨h.1, fun i x y hx hy => Kd.R_set (h.2.1 i x y hx hy) hb ht j u, h.2.2⟩
theorem RowsOK.nil (W : World) (base : Nat) : RowsOK W base [] [] := ⟨rfl, fun j h x hh => by simp at hh, fun i j h h' k hi => by simp at hi⟩
theorem RowsOK.lt {W : World} {base : Nat} {hs : List Hdr} {L : List (List S82)} (h : RowsOK W base hs L) {j : Nat} {x : Hdr} (hx : hs[j]? = some x) {k : Nat} (hk : (encH x).ownBlock = some k) : k < W.heap.size := by
  have hj : j < L.length := by have := (List.getElem?_eq_some_iff.1 hx).1; have := h.1; omega
  exact Kd.R_lt (h.2.1 j x _ hx (List.getElem?_eq_getElem hj)) k hk
theorem RowsOK.ge {W : World} {base : Nat} {hs : List Hdr} {L : List (List S82)} (h : RowsOK W base hs L) {j : Nat} {x : Hdr} (hx : hs[j]? = some x) {k : Nat} (hk : (encH x).ownBlock = some k) : base ≤ k := by
  have hj : j < L.length := by have := (List.getElem?_eq_some_iff.1 hx).1; have := h.1; omega
  exact Kd.R_base (h.2.1 j x _ hx (List.getElem?_eq_getElem hj)) k hk
/-- Elder rows and newer ones. -/
theorem RowsOK.append {W : World} {base : Nat} {hs hs' : List Hdr} {L L' : List (List S82)} (h : RowsOK W base hs L) (h' : RowsOK W base hs' L')
    (hne : ∀ (i j : Nat) (x y : Hdr) (k : Nat), hs[i]? = some x → hs'[j]? = some y → (encH x).ownBlock = some k → (encH y).ownBlock = some k → False) : RowsOK W base (hs ++ hs') (L ++ L') := by
  refine ⟨by simp [h.1, h'.1], fun j x y hx hy => ?_, fun i j x y k hx hy hkx hky => ?_⟩
  · by_cases hj : j < hs.length
    · rw [List.getElem?_append_left hj] at hx
      rw [List.getElem?_append_left (by have := h.1; omega)] at hy
      exact h.2.1 j x y hx hy
    · rw [List.getElem?_append_right (by omega)] at hx
      rw [List.getElem?_append_right (by have := h.1; omega)] at hy
      rw [h.1] at hx
      exact h'.2.1 _ x y hx hy
  · by_cases hi : i < hs.length
    · rw [List.getElem?_append_left hi] at hx
      by_cases hj : j < hs.length
      · rw [List.getElem?_append_left hj] at hy
        exact h.2.2 i j x y k hx hy hkx hky
      · rw [List.getElem?_append_right (by omega)] at hy
        exact (hne _ _ x y k hx hy hkx hky).elim
    · rw [List.getElem?_append_right (by omega)] at hx
      by_cases hj : j < hs.length
      · rw [List.getElem?_append_left hj] at hy
        exact (hne _ _ y x k hy hx hky hkx).elim
      · rw [List.getElem?_append_right (by omega)] at hy
        have := h'.2.2 _ _ x y k hx hy hkx hky
        omega
/-- One row of its own, and nil. -/
theorem RowsOK.head {W : World} {base : Nat} {h0 : Hdr} {l : List S82} (h : k82.R 82 W base (fun _ => True) (encH h0) l) : RowsOK W base [h0, (none, 0, 0)] [l, []] := by
  refine ⟨rfl, fun j x y hx hy => ?_, fun i j x y k hx hy hkx hky => ?_⟩
  · rcases j with _ | _ | j
    · simp at hx hy
      subst hx; subst hy
      exact Kd.R_tight rfl h
    · simp at hx hy
      subst hx; subst hy
      exact Kd.R_nil _ _ _ _ _
    · simp at hx
  · rcases i with _ | _ | i
    · rcases j with _ | _ | j
      · rfl
      · simp at hy
        subst hy
        simp [encH, Value.ownBlock] at hky
      · simp at hy
    · simp at hx
      subst hx
      simp [encH, Value.ownBlock] at hkx
    · simp at hx

/-- A block whose cells are one element each, as a row that is read. -/
theorem C_of_blk {α : Type} {D : Kd α} {W : World} {g t : Nat} {cs : Array Value} {xs : List α} (hs : D.sz = 1) (hb : W.heap[g]? = some (.cells cs t (0, 0))) (hm : xs.length ≤ 9223372036854775807)
    (h : ∀ (j : Nat) (x : α), xs[j]? = some x → ∃ u, cs[j]? = some u ∧ D.K W x [u]) : Kd.C D W (some ⟨g, 0, none⟩) xs.length xs := by
  refine ⟨rfl, hm, fun _ => ⟨_, rfl, fun j p hp => ?_⟩⟩
  obtain ⟨u, hu, hK⟩ := h j p hp
  refine ⟨[u], by rw [hs]; rfl, hK, fun i x hx => ?_⟩
  rcases i with _ | i
  · simp at hx
    subst hx
    rw [hs, Nat.mul_one, Nat.add_zero, add_plain, blk_cell hb j]
    exact hu
  · simp at hx

/-- An edge by nothing. -/
def noth (s : Int) : S82 := ⟨-1, s⟩
/-- A state's edges by letters. -/
def laidFrom (frm : Int) : Nat → List Int → List S82
  | _, [] => []
  | c, x :: l => ⟨c, frm + x⟩ :: laidFrom frm (c + 1) l
def laidRow (frm tt : Int) (l : List Int) (e : Bool) : List S82 := (if e then [noth tt] else []) ++ laidFrom frm 0 l
theorem laidFrom_length (frm : Int) (l : List Int) : ∀ c, (laidFrom frm c l).length = l.length := by
  induction l with
  | nil => intro c; rfl
  | cons x l ih => intro c; simp [laidFrom, ih]

end Go.Proofs.Ytelkjbacdpmnfaa.A
