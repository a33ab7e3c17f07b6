/- Contracts. -/
import Derived.Test.YtelkjbacdpmnfaaB0
import Derived.Test.YtelkjbacdpmnfaaBOpens
import Derived.Maps.OwnSet
import Derived.DeepKeys5



namespace Go.Proofs.Ytelkjbacdpmnfaa.A
open Go.RowKit Go.W_.PrintWords Go.W_.PrintLast Go.W_.PrintMore
attribute [local go_sem] max2_int min2_int max_two min_two max_three min_three max_four min_four
set_option linter.unusedVariables false
set_option linter.unusedSimpArgs false

/-- A slice's header, as a kind of its own: an address, a length, a capacity. -/
abbrev Hdr := Option Addr × Nat × Nat
def encH (x : Hdr) : Value := .slice x.1 x.2.1 x.2.2
theorem encH_one (x : Hdr) : (encH x).oneCell' = true := rfl
def hdrK : Kd Hdr := Kd.scalar encH encH_one
/-- A value's header, if it is a slice. -/
def toH : Value → Hdr
 | .slice a n c => (a, n, c)
 | _ => (none, 0, 0)

/-- Rows of edges by their headers: each its own, no two of one block. -/
def RowsOK (W : World) (base : Nat) (hs : List Hdr) (L : List (List S82)) : Prop :=
 hs.length = L.length ∧ (∀ (j : Nat) (h : Hdr) (x : List S82), hs[j]? = some h → L[j]? = some x → k82.R 82 W base (fun k => some k = (encH h).ownBlock) (encH h) x) ∧
 (∀ (i j : Nat) (h h' : Hdr) (k : Nat), hs[i]? = some h → hs[j]? = some h' → (encH h).ownBlock = some k → (encH h').ownBlock = some k → i = j)

theorem RowsOK.len {W : World} {base : Nat} {hs : List Hdr} {L : List (List S82)} (h : RowsOK W base hs L) : hs.length = L.length := h.1

theorem S_hdrs {W : World} {base : Nat} {ok : Nat → Prop} {v : Value} {L : List (List S82)} (h : Kd.S (Kd.slice 82 k82) 79 W base ok v L) :
  ∃ hs, hdrK.R 79 W base ok v hs ∧ RowsOK W base hs L := by
 obtain ⟨f, h0, inner, ho, hr⟩ := h
 have hsz : (Kd.tag f (Kd.slice 82 k82)).sz = 1 := rfl
 have hil : inner.length = L.length := by have := hr.1; rw [List.length_zipIdx, hsz] at this; omega
 have key : ∀ j x, L[j]? = some x → ∃ u, inner[j]? = some u ∧ encH (toH u) = u ∧ k82.R 82 W base (fun k => (ok k ∧ some k ≠ v.ownBlock) ∧ f k = j) u x := by
  intro j x hx
  have hjl : j < L.length := (List.getElem?_eq_some_iff.1 hx).1
  have h2 := hr.2 j (x, j) (Kd.zip_at hx)
  obtain ⟨u, hu, hR⟩ := h2
  rw [hsz, Nat.mul_one, List.drop_eq_getElem_cons (by omega), List.take_succ_cons, List.take_zero] at hu
  have hu2 : inner[j] = u := by injection hu
  obtain ⟨A, c, he⟩ := Kd.R_slice hR
  refine ⟨u, by rw [List.getElem?_eq_getElem (by omega), hu2], by rw [he]; rfl, hR⟩
 have henc : encs encH (inner.map toH) = inner := by
  apply List.ext_getElem?
  intro j
  by_cases hj : j < L.length
  ·obtain ⟨u, hu, he, _⟩ := key j _ (List.getElem?_eq_getElem hj)
   simp only [encs, List.getElem?_map, hu, Option.map_some]
   rw [he]
  ·rw [List.getElem?_eq_none (by rw [encs_length, List.length_map]; omega), List.getElem?_eq_none (by omega)]
 refine ⟨inner.map toH, Kd.R_of_own ?_ (fun k hk => h0 k hk), by rw [List.length_map]; exact hil, ?_, ?_⟩
 ·rw [henc, List.length_map, hil]
  have := ho
  rw [List.length_zipIdx] at this
  exact this
 ·intro j h x hh hx
  obtain ⟨u, hu, he, hR⟩ := key j x hx
  rw [List.getElem?_map, hu] at hh
  injection hh with hh
  rw [← hh, he]
  exact Kd.R_tight rfl hR
 ·intro i j h h' k hi hj hki hkj
  have hil2 : i < L.length := by have := (List.getElem?_eq_some_iff.1 hi).1; rw [List.length_map] at this; omega
  have hjl2 : j < L.length := by have := (List.getElem?_eq_some_iff.1 hj).1; rw [List.length_map] at this; omega
  obtain ⟨u, hu, he, hR⟩ := key i _ (List.getElem?_eq_getElem hil2)
  obtain ⟨u', hu', he', hR'⟩ := key j _ (List.getElem?_eq_getElem hjl2)
  rw [List.getElem?_map, hu] at hi
  rw [List.getElem?_map, hu'] at hj
  injection hi with hi
  injection hj with hj
  rw [← hi, he] at hki
  rw [← hj, he'] at hkj
  have a := (hR.1 k hki).2
  have b := (hR'.1 k hkj).2
  omega

theorem S_of_hdrs {W : World} {base : Nat} {v : Value} {hs : List Hdr} {L : List (List S82)} (h : hdrK.R 79 W base (fun _ => True) v hs) (hR : RowsOK W base hs L) : Kd.S (Kd.slice 82 k82) 79 W base (fun _ => True) v L := by
 classical
 obtain ⟨hl, hr, hd⟩ := hR
 have ho := Kd.own_of_R h
 let f : Nat → Nat := fun k => if hx : ∃ j h', hs[j]? = some h' ∧ (encH h').ownBlock = some k then Classical.choose hx else 0
 have hf : ∀ j h' k, hs[j]? = some h' → (encH h').ownBlock = some k → f k = j := by
  intro j h' k hj hk
  have hx : ∃ j h', hs[j]? = some h' ∧ (encH h').ownBlock = some k := ⟨j, h', hj, hk⟩
  have e : f k = Classical.choose hx := by simp only [f]; rw [dif_pos hx]
  rw [e]
  obtain ⟨h2, ha, hb⟩ := Classical.choose_spec hx
  exact hd _ _ _ _ k ha hj hb hk
 refine ⟨f, fun k _ => trivial, encs encH hs, by rw [List.length_zipIdx, ← hl]; exact ho, by rw [encs_length, List.length_zipIdx, hl]; show L.length = L.length * 1; omega, fun j p hp => ?_⟩
 obtain ⟨x, i⟩ := p
 have hjl : j < L.length := by have := (List.getElem?_eq_some_iff.1 hp).1; rwa [List.length_zipIdx] at this
 rw [Kd.zip_at (List.getElem?_eq_getElem hjl)] at hp
 injection hp with hp
 injection hp with hx hi
 subst hx
 subst hi
 have hjh : j < hs.length := by omega
 have hh := List.getElem?_eq_getElem hjh
 have hq := hr j _ _ hh (List.getElem?_eq_getElem hjl)
 refine ⟨encH hs[j], ?_, Kd.R_mono hq (fun k hk => ⟨⟨trivial, fun e => ?_⟩, hf j _ k hh hk.symm⟩)⟩
 ·show List.take 1 (List.drop (j * 1) (encs encH hs)) = _
  rw [Nat.mul_one, List.drop_eq_getElem_cons (by rw [encs_length]; exact hjh), List.take_succ_cons, List.take_zero]
  simp [encs]
 ·obtain ⟨c1, h1⟩ := Kd.R_typed hq k hk.symm
  obtain ⟨c2, h2⟩ := Kd.R_typed h k e.symm
  rw [h1] at h2
  injection h2 with h2
  injection h2 with _ h2
  exact absurd h2 (by decide)

theorem RowsOK.below {W W' : World} {base : Nat} {hs : List Hdr} {L : List (List S82)} (h : RowsOK W base hs L) (hb : Below W.heap.size W W') : RowsOK W' base hs L :=
 ⟨h.1, fun j x y hx hy => Kd.R_below (h.2.1 j x y hx hy) hb, h.2.2⟩
theorem RowsOK.lower {W : World} {base base' : Nat} {hs : List Hdr} {L : List (List S82)} (h : RowsOK W base hs L) (hb : base' ≤ base) : RowsOK W base' hs L :=
 ⟨h.1, fun j x y hx hy => Kd.R_lower (h.2.1 j x y hx hy) hb, h.2.2⟩
/-- A store into a block of another type. -/
theorem RowsOK.set {W : World} {base : Nat} {hs : List Hdr} {L : List (List S82)} (h : RowsOK W base hs L) {g t : Nat} {cells : Array Value} (hb : W.heap[g]? = some (.cells cells t (0, 0))) (ht : ∀ q, q ∈ 82 :: k82.E → q ≠ t) (j : Nat) (u : Value) : RowsOK (W.setCell ⟨g, j, none⟩ u) base hs L :=
 ⟨h.1, fun i x y hx hy => Kd.R_set (h.2.1 i x y hx hy) hb ht j u, h.2.2⟩
theorem RowsOK.nil (W : World) (base : Nat) : RowsOK W base [] [] := ⟨rfl, fun j h x hh => by simp at hh, fun i j h h' k hi => by simp at hi⟩
theorem RowsOK.lt {W : World} {base : Nat} {hs : List Hdr} {L : List (List S82)} (h : RowsOK W base hs L) {j : Nat} {x : Hdr} (hx : hs[j]? = some x) {k : Nat} (hk : (encH x).ownBlock = some k) : k < W.heap.size := by
 have hj : j < L.length := by have := (List.getElem?_eq_some_iff.1 hx).1; have := h.1; omega
 exact Kd.R_lt (h.2.1 j x _ hx (List.getElem?_eq_getElem hj)) k hk
theorem RowsOK.ge {W : World} {base : Nat} {hs : List Hdr} {L : List (List S82)} (h : RowsOK W base hs L) {j : Nat} {x : Hdr} (hx : hs[j]? = some x) {k : Nat} (hk : (encH x).ownBlock = some k) : base ≤ k := by
 have hj : j < L.length := by have := (List.getElem?_eq_some_iff.1 hx).1; have := h.1; omega
 exact Kd.R_base (h.2.1 j x _ hx (List.getElem?_eq_getElem hj)) k hk
/-- Elder rows and newer ones. -/
theorem RowsOK.append {W : World} {base : Nat} {hs hs' : List Hdr} {L L' : List (List S82)} (h : RowsOK W base hs L) (h' : RowsOK W base hs' L')
  (hne : ∀ (i j : Nat) (x y : Hdr) (k : Nat), hs[i]? = some x → hs'[j]? = some y → (encH x).ownBlock = some k → (encH y).ownBlock = some k → False) : RowsOK W base (hs ++ hs') (L ++ L') := by
 refine ⟨by simp [h.1, h'.1], fun j x y hx hy => ?_, fun i j x y k hx hy hkx hky => ?_⟩
 ·by_cases hj : j < hs.length
  ·rw [List.getElem?_append_left hj] at hx
   rw [List.getElem?_append_left (by have := h.1; omega)] at hy
   exact h.2.1 j x y hx hy
  ·rw [List.getElem?_append_right (by omega)] at hx
   rw [List.getElem?_append_right (by have := h.1; omega)] at hy
   rw [h.1] at hx
   exact h'.2.1 _ x y hx hy
 ·by_cases hi : i < hs.length
  ·rw [List.getElem?_append_left hi] at hx
   by_cases hj : j < hs.length
   ·rw [List.getElem?_append_left hj] at hy
    exact h.2.2 i j x y k hx hy hkx hky
   ·rw [List.getElem?_append_right (by omega)] at hy
    exact (hne _ _ x y k hx hy hkx hky).elim
  ·rw [List.getElem?_append_right (by omega)] at hx
   by_cases hj : j < hs.length
   ·rw [List.getElem?_append_left hj] at hy
    exact (hne _ _ y x k hy hx hky hkx).elim
   ·rw [List.getElem?_append_right (by omega)] at hy
    have := h'.2.2 _ _ x y k hx hy hkx hky
    omega
/-- One row of its own, and nil. -/
theorem RowsOK.head {W : World} {base : Nat} {h0 : Hdr} {l : List S82} (h : k82.R 82 W base (fun _ => True) (encH h0) l) : RowsOK W base [h0, (none, 0, 0)] [l, []] := by
 refine ⟨rfl, fun j x y hx hy => ?_, fun i j x y k hx hy hkx hky => ?_⟩
 ·rcases j with _ | _ | j
  ·simp at hx hy
   subst hx; subst hy
   exact Kd.R_tight rfl h
  ·simp at hx hy
   subst hx; subst hy
   exact Kd.R_nil _ _ _ _ _
  ·simp at hx
 ·rcases i with _ | _ | i
  ·rcases j with _ | _ | j
   ·rfl
   ·simp at hy
    subst hy
    simp [encH, Value.ownBlock] at hky
   ·simp at hy
  ·simp at hx
   subst hx
   simp [encH, Value.ownBlock] at hkx
  ·simp at hx

/-- An edge by nothing. -/
def noth (s : Int) : S82 := ⟨-1, s⟩
/-- A state's edges by letters. -/
def laidFrom (frm : Int) : Nat → List Int → List S82
 | _, [] => []
 | c, x :: l => ⟨c, frm + x⟩ :: laidFrom frm (c + 1) l
def laidRow (frm tt : Int) (l : List Int) (e : Bool) : List S82 := (if e then [noth tt] else []) ++ laidFrom frm 0 l
theorem laidFrom_length (frm : Int) (l : List Int) : ∀ c, (laidFrom frm c l).length = l.length := by
 induction l with
 | nil => intro c; rfl
 | cons x l ih => intro c; simp [laidFrom, ih]
/-- Rows of whole numbers by their headers: each its own, no two of one block. -/
def RowsI (W : World) (base : Nat) (hs : List Hdr) (L : List (List Int)) : Prop :=
 hs.length = L.length ∧ (∀ (j : Nat) (h : Hdr) (x : List Int), hs[j]? = some h → L[j]? = some x → (Kd.int .i64).R 3 W base (fun k => some k = (encH h).ownBlock) (encH h) x) ∧
 (∀ (i j : Nat) (h h' : Hdr) (k : Nat), hs[i]? = some h → hs[j]? = some h' → (encH h).ownBlock = some k → (encH h').ownBlock = some k → i = j)

theorem RowsI.len {W : World} {base : Nat} {hs : List Hdr} {L : List (List Int)} (h : RowsI W base hs L) : hs.length = L.length := h.1

theorem S_of_hdrsI {W : World} {base : Nat} {v : Value} {hs : List Hdr} {L : List (List Int)} (h : hdrK.R 45 W base (fun _ => True) v hs) (hR : RowsI W base hs L) : Kd.S (Kd.slice 3 (Kd.int .i64)) 45 W base (fun _ => True) v L := by
 classical
 obtain ⟨hl, hr, hd⟩ := hR
 have ho := Kd.own_of_R h
 let f : Nat → Nat := fun k => if hx : ∃ j h', hs[j]? = some h' ∧ (encH h').ownBlock = some k then Classical.choose hx else 0
 have hf : ∀ j h' k, hs[j]? = some h' → (encH h').ownBlock = some k → f k = j := by
  intro j h' k hj hk
  have hx : ∃ j h', hs[j]? = some h' ∧ (encH h').ownBlock = some k := ⟨j, h', hj, hk⟩
  have e : f k = Classical.choose hx := by simp only [f]; rw [dif_pos hx]
  rw [e]
  obtain ⟨h2, ha, hb⟩ := Classical.choose_spec hx
  exact hd _ _ _ _ k ha hj hb hk
 refine ⟨f, fun k _ => trivial, encs encH hs, by rw [List.length_zipIdx, ← hl]; exact ho, by rw [encs_length, List.length_zipIdx, hl]; show L.length = L.length * 1; omega, fun j p hp => ?_⟩
 obtain ⟨x, i⟩ := p
 have hjl : j < L.length := by have := (List.getElem?_eq_some_iff.1 hp).1; rwa [List.length_zipIdx] at this
 rw [Kd.zip_at (List.getElem?_eq_getElem hjl)] at hp
 injection hp with hp
 injection hp with hx hi
 subst hx
 subst hi
 have hjh : j < hs.length := by omega
 have hh := List.getElem?_eq_getElem hjh
 have hq := hr j _ _ hh (List.getElem?_eq_getElem hjl)
 refine ⟨encH hs[j], ?_, Kd.R_mono hq (fun k hk => ⟨⟨trivial, fun e => ?_⟩, hf j _ k hh hk.symm⟩)⟩
 ·show List.take 1 (List.drop (j * 1) (encs encH hs)) = _
  rw [Nat.mul_one, List.drop_eq_getElem_cons (by rw [encs_length]; exact hjh), List.take_succ_cons, List.take_zero]
  simp [encs]
 ·obtain ⟨c1, h1⟩ := Kd.R_typed hq k hk.symm
  obtain ⟨c2, h2⟩ := Kd.R_typed h k e.symm
  rw [h1] at h2
  injection h2 with h2
  injection h2 with _ h2
  exact absurd h2 (by decide)

theorem RowsI.below {W W' : World} {base : Nat} {hs : List Hdr} {L : List (List Int)} (h : RowsI W base hs L) (hb : Below W.heap.size W W') : RowsI W' base hs L :=
 ⟨h.1, fun j x y hx hy => Kd.R_below (h.2.1 j x y hx hy) hb, h.2.2⟩
theorem RowsI.lower {W : World} {base base' : Nat} {hs : List Hdr} {L : List (List Int)} (h : RowsI W base hs L) (hb : base' ≤ base) : RowsI W base' hs L :=
 ⟨h.1, fun j x y hx hy => Kd.R_lower (h.2.1 j x y hx hy) hb, h.2.2⟩
/-- A store into a block of another type. -/
theorem RowsI.set {W : World} {base : Nat} {hs : List Hdr} {L : List (List Int)} (h : RowsI W base hs L) {g t : Nat} {cells : Array Value} (hb : W.heap[g]? = some (.cells cells t (0, 0))) (ht : ∀ q, q ∈ 3 :: (Kd.int .i64).E → q ≠ t) (j : Nat) (u : Value) : RowsI (W.setCell ⟨g, j, none⟩ u) base hs L :=
 ⟨h.1, fun i x y hx hy => Kd.R_set (h.2.1 i x y hx hy) hb ht j u, h.2.2⟩
theorem RowsI.nil (W : World) (base : Nat) : RowsI W base [] [] := ⟨rfl, fun j h x hh => by simp at hh, fun i j h h' k hi => by simp at hi⟩
theorem RowsI.lt {W : World} {base : Nat} {hs : List Hdr} {L : List (List Int)} (h : RowsI W base hs L) {j : Nat} {x : Hdr} (hx : hs[j]? = some x) {k : Nat} (hk : (encH x).ownBlock = some k) : k < W.heap.size := by
 have hj : j < L.length := by have := (List.getElem?_eq_some_iff.1 hx).1; have := h.1; omega
 exact Kd.R_lt (h.2.1 j x _ hx (List.getElem?_eq_getElem hj)) k hk
theorem RowsI.ge {W : World} {base : Nat} {hs : List Hdr} {L : List (List Int)} (h : RowsI W base hs L) {j : Nat} {x : Hdr} (hx : hs[j]? = some x) {k : Nat} (hk : (encH x).ownBlock = some k) : base ≤ k := by
 have hj : j < L.length := by have := (List.getElem?_eq_some_iff.1 hx).1; have := h.1; omega
 exact Kd.R_base (h.2.1 j x _ hx (List.getElem?_eq_getElem hj)) k hk
/-- Elder rows and newer ones. -/
theorem RowsI.append {W : World} {base : Nat} {hs hs' : List Hdr} {L L' : List (List Int)} (h : RowsI W base hs L) (h' : RowsI W base hs' L')
  (hne : ∀ (i j : Nat) (x y : Hdr) (k : Nat), hs[i]? = some x → hs'[j]? = some y → (encH x).ownBlock = some k → (encH y).ownBlock = some k → False) : RowsI W base (hs ++ hs') (L ++ L') := by
 refine ⟨by simp [h.1, h'.1], fun j x y hx hy => ?_, fun i j x y k hx hy hkx hky => ?_⟩
 ·by_cases hj : j < hs.length
  ·rw [List.getElem?_append_left hj] at hx
   rw [List.getElem?_append_left (by have := h.1; omega)] at hy
   exact h.2.1 j x y hx hy
  ·rw [List.getElem?_append_right (by omega)] at hx
   rw [List.getElem?_append_right (by have := h.1; omega)] at hy
   rw [h.1] at hx
   exact h'.2.1 _ x y hx hy
 ·by_cases hi : i < hs.length
  ·rw [List.getElem?_append_left hi] at hx
   by_cases hj : j < hs.length
   ·rw [List.getElem?_append_left hj] at hy
    exact h.2.2 i j x y k hx hy hkx hky
   ·rw [List.getElem?_append_right (by omega)] at hy
    exact (hne _ _ x y k hx hy hkx hky).elim
  ·rw [List.getElem?_append_right (by omega)] at hx
   by_cases hj : j < hs.length
   ·rw [List.getElem?_append_left hj] at hy
    exact (hne _ _ y x k hy hx hky hkx).elim
   ·rw [List.getElem?_append_right (by omega)] at hy
    have := h'.2.2 _ _ x y k hx hy hkx hky
    omega
/-- A block of a call's own, as a row. -/
theorem scalar_blk {α : Type} {enc : α → Value} {h1 : ∀ x, (enc x).oneCell' = true} {e : TypeId} {W : World} {base g : Nat} {ok : Nat → Prop} {xs : List α} (hb : W.heap[g]? = some (.cells (xs.map enc).toArray e (0, 0))) (hg : base ≤ g) (hok : ok g) (hm : xs.length ≤ maxLen) :
  (Kd.scalar enc h1).R e W base ok (.slice (some ⟨g, 0, none⟩) xs.length xs.length) xs := by
 refine Kd.R_of_own ⟨by simp [encs], .inr ⟨g, xs.length, _, rfl, hg, hb, Nat.le_refl _, hm, by simp, ?_⟩⟩ (fun k hk => ?_)
 ·simp only [encs, Nat.mul_one]
  exact List.take_of_length_le (by simp)
 ·have : g = k := by simpa [Value.ownBlock] using hk
  subst this
  exact hok
theorem RowsI.of_R {W : World} {base : Nat} {h : Hdr} {l : List Int} (hR : (Kd.int .i64).R 3 W base (fun _ => True) (encH h) l) : RowsI W base [h] [l] := by
 refine ⟨rfl, fun j x y hx hy => ?_, fun i j x y k hx hy hkx hky => ?_⟩
 ·rcases j with _ | j
  ·simp at hx hy
   subst hx; subst hy
   exact Kd.R_tight rfl hR
  ·simp at hx
 ·rcases i with _ | i
  ·rcases j with _ | j
   ·rfl
   ·simp at hy
  ·simp at hx
/-- One row more, in a block of its own. -/
theorem RowsI.cons {W : World} {base g n c : Nat} {hs : List Hdr} {L : List (List Int)} {l : List Int} (hR : (Kd.int .i64).R 3 W base (fun _ => True) (.slice (some ⟨g, 0, none⟩) n c) l) (h : RowsI W base hs L) (hne : ∀ (y : Hdr), y ∈ hs → (encH y).ownBlock ≠ some g) : RowsI W base ((some ⟨g, 0, none⟩, n, c) :: hs) (l :: L) := by
 refine RowsI.append (hs := [(some ⟨g, 0, none⟩, n, c)]) (L := [l]) (RowsI.of_R hR) h (fun i j x y k hx hy hkx hky => ?_)
 have hx2 : x = (some ⟨g, 0, none⟩, n, c) := by rcases i with _ | i <;> simp at hx; exact hx.symm
 subst hx2
 have hk : g = k := by simpa [encH, Value.ownBlock] using hkx
 subst hk
 exact hne y (List.mem_of_getElem? hy) hky
theorem C_ints {W : World} (h : Nat) (xs : List Int) (hl : xs.length ≤ maxLen) (hc : W.heap[h]? = some (.cells (xs.map fun x => .int .i64 x).toArray 3 (0, 0))) : Kd.C (Kd.int .i64) W (some ⟨h, 0, none⟩) xs.length xs :=
 (Kd.R_reads' (scalar_blk (W := W) (base := 0) (ok := fun _ => True) (e := 3) (xs := xs) hc (Nat.zero_le _) trivial hl : (Kd.int .i64).R 3 W 0 (fun _ => True) (.slice (some ⟨h, 0, none⟩) xs.length xs.length) xs)).2.2
theorem new_at {W : World} (o : Obj) {g : Nat} (h : W.heap.size = g) : (W.alloc o).heap[g]? = some o := by
 subst h
 exact bn W o
section
open Go.Maps
variable {α : Type} [BEq α] [LawfulBEq α]
/-- What such a map's data are: the things met, each with its number. -/
def NumData (key : α → Lit) (ok : α → Prop) (D : DataW Unit) (M : List α) : Prop :=
 Tidy D ∧ Maps.size D = M.length ∧ ∀ x, ok x → Maps.has D (key x) = M.contains x ∧ D.atKey (key x) (.lit (.int .i64 0)) = .lit (.int .i64 (if x ∈ M then ((M.idxOf x : Nat) : Int) else 0))
theorem NumData.nil (key : α → Lit) (ok : α → Prop) : NumData key ok (.map []) [] :=
 ⟨tidy_empty, rfl, fun x _ => ⟨rfl, by simp; exact atKey_of_not_has rfl _⟩⟩
theorem NumData.put {key : α → Lit} {ok : α → Prop} {D : DataW Unit} {M : List α} (h : NumData key ok D M) (hinj : ∀ x y, ok x → ok y → key x = key y → x = y) {x : α} (hx : ok x) (hk : WideAt.IsKeyLit (key x)) (hn : x ∉ M) : NumData key ok (D.put (key x) (.lit (.int .i64 ((M.length : Nat) : Int)))) (M ++ [x]) := by
 obtain ⟨hT, hz, hf⟩ := h
 have hh : Maps.has D (key x) = false := by rw [(hf x hx).1]; simpa using hn
 refine ⟨hT.put hk _, ?_, fun y hy => ?_⟩
 ·rw [size_put hT, hh]
  simp [hz]
 ·by_cases he : y = x
  ·subst he
   refine ⟨by rw [has_put_same hT.isMap hk]; simp, ?_⟩
   rw [atKey_put_same hT.isMap hk, if_pos (by simp), List.idxOf_append, if_neg hn]
   simp
  ·have hne : key y ≠ key x := fun e => he (hinj y x hy hx e)
   refine ⟨?_, ?_⟩
   ·rw [has_put_other hne, (hf y hy).1]
    simp [List.contains_append, he]
   ·rw [atKey_put_other hne, (hf y hy).2]
    by_cases hm : y ∈ M
    ·rw [if_pos hm, if_pos (by simp [hm]), List.idxOf_append, if_pos hm]
    ·rw [if_neg hm, if_neg (by simp [hm, he])]
def intLit (x : Int) : Lit := .int .i64 x
def IntMap (W : World) (b n : Nat) (M : List Int) : Prop :=
 ∃ D : DataW Unit, W.ownsMap Try.prog 3 (plainElem Try.prog 3) b n D ∧ NumData intLit (fun x => (Lit.int .i64 x).wf = true) D M
theorem IntMap.made (W : World) : IntMap (W.alloc (.map #[] 0)) W.heap.size 0 [] :=
 ⟨.map [], World.ownsMap_made W Try.prog 3 (plainElem Try.prog 3), NumData.nil _ _⟩
theorem IntMap.below {W W' : World} {b n : Nat} {M : List Int} (h : IntMap W b n M) (hb : Below W.heap.size W W') : IntMap W' b n M := by
 obtain ⟨D, h1, h2⟩ := h
 exact ⟨D, h1.kept (row := none) ⟨hb.os, hb.tape, hb.output, hb.size, fun i hi _ => hb.block i hi⟩ (by simp), h2⟩
end
section
open Go.Maps
theorem keyed143 : Keyed Try.prog 143 := Keyed.of_law (deep_law_laid laidOut (m := 20) (by decide) (of_decide_eq_true (by kernel_rfl)) (by kernel_rfl) (by kernel_rfl))
def faceLit (a b : Int) : Lit := .string (keyBytes [.int .i64 a, .int .i64 b])
theorem face_lits (d : Nat) (a b : Int) (ha : (Lit.int .i64 a).wf = true) (hb : (Lit.int .i64 b).wf = true) : Try.prog.keyLits (d + 1 + 1) 143 [.int .i64 a, .int .i64 b] = some [.int .i64 a, .int .i64 b] := by
 have c1 : Try.prog.cellsOf 143 = 2 := by kernel_rfl
 have c2 : Try.prog.cellsOf 3 = 1 := by kernel_rfl
 have e1 : ∀ n, (Lit.int .i64 n).wf = true → Try.prog.keyLits (d + 1) 3 [.int .i64 n] = some [.int .i64 n] := fun n hn => by
  unfold Program.keyLits
  simp only [Try.underlying3]
  simp [hn]
 unfold Program.keyLits
 simp only [Try.underlying143]
 simp [c1, c2, e1 a ha, e1 b hb]
theorem face_key (a b : Int) (ha : (Lit.int .i64 a).wf = true) (hb : (Lit.int .i64 b).wf = true) : keyOf Try.prog 143 (.agg #[.int .i64 a, .int .i64 b]) = some (faceLit a b) := by
 have h3 : Try.prog.keyType 143 = true := by kernel_rfl
 have c1 : Try.prog.cellsOf 143 = 2 := by kernel_rfl
 have h5 : Try.prog.types.size + 1 = 160 + 1 + 1 := by kernel_rfl
 have h4 := face_lits 160 a b ha hb
 rw [← h5] at h4
 have hf : Value.formed Try.prog 143 (.agg #[.int .i64 a, .int .i64 b]) = true := by
  simp [Value.formed, Try.underlying143, c1]
 simp only [keyOf, Try.underlying143, h3, hf, Bool.and_self, if_true]
 show Option.map _ (Try.prog.keyLits (Try.prog.types.size + 1) 143 [.int .i64 a, .int .i64 b]) = _
 rw [h4]
 rfl
theorem faceLit_inj {p q p' q' : Int} (hp : (Lit.int .i64 p).wf = true) (hq : (Lit.int .i64 q).wf = true) (hp' : (Lit.int .i64 p').wf = true) (hq' : (Lit.int .i64 q').wf = true) (h : faceLit p q = faceLit p' q') : (p, q) = (p', q') := by
 have h1 := face_key p q hp hq
 rw [h] at h1
 have := keyed143.inj h1 (face_key p' q' hp' hq')
 simp at this
 simp [this.1, this.2]
/-- A map of ours: the faces that were met, each with its number. -/
def FaceMap (W : World) (b n : Nat) (M : List (Int × Int)) : Prop :=
 ∃ D : DataW Unit, W.ownsMap Try.prog 143 (plainElem Try.prog 3) b n D ∧ Tidy D ∧ Maps.size D = M.length ∧
  ∀ p q : Int, (Lit.int .i64 p).wf = true → (Lit.int .i64 q).wf = true → Maps.has D (faceLit p q) = M.contains (p, q) ∧ ((p, q) ∈ M → D.atKey (faceLit p q) (.lit (.int .i64 0)) = .lit (.int .i64 ((M.idxOf (p, q) : Nat) : Int)))
theorem FaceMap.made (W : World) : FaceMap (W.alloc (.map #[] 0)) W.heap.size 0 [] :=
 ⟨.map [], World.ownsMap_made W Try.prog 143 (plainElem Try.prog 3), tidy_empty, rfl, fun p q _ _ => ⟨rfl, fun h => by simp at h⟩⟩
theorem FaceMap.new {W W' : World} {b n : Nat} {M : List (Int × Int)} {D : DataW Unit} (hT : Tidy D) (hz : Maps.size D = M.length)
  (hf : ∀ p q : Int, (Lit.int .i64 p).wf = true → (Lit.int .i64 q).wf = true → Maps.has D (faceLit p q) = M.contains (p, q) ∧ ((p, q) ∈ M → D.atKey (faceLit p q) (.lit (.int .i64 0)) = .lit (.int .i64 ((M.idxOf (p, q) : Nat) : Int))))
  {p q : Int} (hp : (Lit.int .i64 p).wf = true) (hq : (Lit.int .i64 q).wf = true) (hn : (p, q) ∉ M) (ho : W'.ownsMap Try.prog 143 (plainElem Try.prog 3) b n (D.put (faceLit p q) (.lit (.int .i64 ((M.length : Nat) : Int))))) :
  FaceMap W' b n (M ++ [(p, q)]) := by
 have hk : WideAt.IsKeyLit (faceLit p q) := keyed143.key (face_key p q hp hq)
 have hh : Maps.has D (faceLit p q) = false := by rw [(hf p q hp hq).1]; simpa using hn
 refine ⟨_, ho, hT.put hk _, ?_, fun p' q' hp' hq' => ?_⟩
 ·rw [size_put hT, hh]
  simp [hz]
 ·by_cases he : (p', q') = (p, q)
  ·cases he
   refine ⟨by rw [has_put_same hT.isMap hk]; simp, fun _ => ?_⟩
   rw [atKey_put_same hT.isMap hk, List.idxOf_append, if_neg hn]
   simp
  ·have hne : faceLit p' q' ≠ faceLit p q := fun h => he (faceLit_inj hp' hq' hp hq h)
   refine ⟨?_, fun h => ?_⟩
   ·rw [has_put_other hne, (hf p' q' hp' hq').1]
    have : ¬ (p' = p ∧ q' = q) := fun h => he (by rw [h.1, h.2])
    simp [List.contains_append, this]
   ·have hm : (p', q') ∈ M := by
     rcases List.mem_append.1 h with h | h
     ·exact h
     ·exact absurd (List.mem_singleton.1 h) he
    rw [atKey_put_other hne, (hf p' q' hp' hq').2 hm, List.idxOf_append, if_pos hm]
end
section
open Go.Maps
theorem zero3' (w : World) : (zeroValue 3).run Try.prog w = .ok (.int .i64 0) w := by kernel_rfl
def pairLit (a b : Int) : Lit := .string (keyBytes [.int .i64 a, .int .i64 b])
def pairKey (p : Nat × Nat) : Lit := pairLit (p.1 : Int) (p.2 : Int)
def pairOk (p : Nat × Nat) : Prop := p.1 ≤ 1000000 ∧ p.2 ≤ 1000000
theorem small_wf {n : Nat} (h : n ≤ 1000000) : (Lit.int .i64 (n : Int)).wf = true := by
 simp only [Lit.wf, Bool.and_eq_true, decide_eq_true_eq]
 exact ⟨by show (-9223372036854775808 : Int) ≤ _; omega, by show _ ≤ (9223372036854775807 : Int); omega⟩
/-- A map of ours: the pairs that were met, each with its number. -/
def PairMap (W : World) (b n : Nat) (M : List (Nat × Nat)) : Prop := ∃ D : DataW Unit, W.ownsMap Try.prog 138 (plainElem Try.prog 3) b n D ∧ NumData pairKey pairOk D M
theorem PairMap.grown {W W' : World} {b n : Nat} {M : List (Nat × Nat)} {row : Option Nat} (h : PairMap W b n M) (hg : W.grownBy W' row) (hne : some b ≠ row) : PairMap W' b n M := by
 obtain ⟨D, h1, h2⟩ := h
 exact ⟨D, h1.kept hg hne, h2⟩
theorem PairMap.below {W W' : World} {b n : Nat} {M : List (Nat × Nat)} (h : PairMap W b n M) (hb : Below W.heap.size W W') : PairMap W' b n M := h.grown (row := none) ⟨hb.os, hb.tape, hb.output, hb.size, fun i hi _ => hb.block i hi⟩ (by simp)
theorem PairMap.set {W : World} {b n : Nat} {M : List (Nat × Nat)} (h : PairMap W b n M) {p : Addr} (hp : b ≠ p.block) (u : Value) : PairMap (W.setCell p u) b n M := by
 obtain ⟨D, h1, h2⟩ := h
 exact ⟨D, h1.setCell hp u, h2⟩
theorem PairMap.lt {W : World} {b n : Nat} {M : List (Nat × Nat)} (h : PairMap W b n M) : b < W.heap.size := by
 obtain ⟨D, h1, _⟩ := h
 exact h1.lt
end

end Go.Proofs.Ytelkjbacdpmnfaa.A
