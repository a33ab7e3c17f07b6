/- Contracts. -/
import Derived.Test.YtelkjbacdpmnfaaB0
import Derived.Test.YtelkjbacdpmnfaaBOpens
import Derived.Maps.OwnSet
import Derived.DeepKeys5
namespace Go.Proofs.Ytelkjbacdpmnfaa.A
open Go.RowKit Go.W_.PrintWords Go.W_.PrintLast Go.W_.PrintMore
attribute [local go_sem] max2_int min2_int max_two min_two max_three min_three max_four min_four
set_option linter.unusedVariables false
set_option linter.unusedSimpArgs false

/-- A slice's header, as a kind of its own: an address, a length, a capacity. -/
abbrev Hdr := Option Addr × Nat × Nat
def encH (x : Hdr) : Value := .slice x.1 x.2.1 x.2.2
theorem encH_one (x : Hdr) : (encH x).oneCell' = true := rfl
def hdrK : Kd Hdr := Kd.scalar encH encH_one
/-- Rows of edges by their headers: each its own, no two of one block. -/
def RowsOK (W : World) (base : Nat) (hs : List Hdr) (L : List (List S82)) : Prop :=
 hs.length = L.length ∧ (∀ (j : Nat) (h : Hdr) (x : List S82), hs[j]? = some h → L[j]? = some x → k82.R 82 W base (fun k => some k = (encH h).ownBlock) (encH h) x) ∧
 (∀ (i j : Nat) (h h' : Hdr) (k : Nat), hs[i]? = some h → hs[j]? = some h' → (encH h).ownBlock = some k → (encH h').ownBlock = some k → i = j)

theorem RowsOK.len {W : World} {base : Nat} {hs : List Hdr} {L : List (List S82)} (h : RowsOK W base hs L) : hs.length = L.length := h.1

theorem RowsOK.below {W W' : World} {base : Nat} {hs : List Hdr} {L : List (List S82)} (h : RowsOK W base hs L) (hb : Below W.heap.size W W') : RowsOK W' base hs L :=
 ⟨h.1, fun j x y hx hy => Kd.R_below (h.2.1 j x y hx hy) hb, h.2.2⟩
/-- A store into a block of another type. -/
theorem RowsOK.set {W : World} {base : Nat} {hs : List Hdr} {L : List (List S82)} (h : RowsOK W base hs L) {g t : Nat} {cells : Array Value} (hb : W.heap[g]? = some (.cells cells t (0, 0))) (ht : ∀ q, q ∈ 82 :: k82.E → q ≠ t) (j : Nat) (u : Value) : RowsOK (W.setCell ⟨g, j, none⟩ u) base hs L :=
 ⟨h.1, fun i x y hx hy => Kd.R_set (h.2.1 i x y hx hy) hb ht j u, h.2.2⟩
theorem RowsOK.nil (W : World) (base : Nat) : RowsOK W base [] [] := ⟨rfl, fun j h x hh => by simp at hh, fun i j h h' k hi => by simp at hi⟩
theorem RowsOK.lt {W : World} {base : Nat} {hs : List Hdr} {L : List (List S82)} (h : RowsOK W base hs L) {j : Nat} {x : Hdr} (hx : hs[j]? = some x) {k : Nat} (hk : (encH x).ownBlock = some k) : k < W.heap.size := by
 have hj : j < L.length := by have := (List.getElem?_eq_some_iff.1 hx).1; have := h.1; omega
 exact Kd.R_lt (h.2.1 j x _ hx (List.getElem?_eq_getElem hj)) k hk
/-- Elder rows and newer ones. -/
theorem RowsOK.append {W : World} {base : Nat} {hs hs' : List Hdr} {L L' : List (List S82)} (h : RowsOK W base hs L) (h' : RowsOK W base hs' L')
  (hne : ∀ (i j : Nat) (x y : Hdr) (k : Nat), hs[i]? = some x → hs'[j]? = some y → (encH x).ownBlock = some k → (encH y).ownBlock = some k → False) : RowsOK W base (hs ++ hs') (L ++ L') := by
 refine ⟨by simp [h.1, h'.1], fun j x y hx hy => ?_, fun i j x y k hx hy hkx hky => ?_⟩
 ·by_cases hj : j < hs.length
  ·rw [List.getElem?_append_left hj] at hx
   rw [List.getElem?_append_left (by have := h.1; omega)] at hy
   exact h.2.1 j x y hx hy
  ·rw [List.getElem?_append_right (by omega)] at hx
   rw [List.getElem?_append_right (by have := h.1; omega)] at hy
   rw [h.1] at hx
   exact h'.2.1 _ x y hx hy
 ·by_cases hi : i < hs.length
  ·rw [List.getElem?_append_left hi] at hx
   by_cases hj : j < hs.length
   ·rw [List.getElem?_append_left hj] at hy
    exact h.2.2 i j x y k hx hy hkx hky
   ·rw [List.getElem?_append_right (by omega)] at hy
    exact (hne _ _ x y k hx hy hkx hky).elim
  ·rw [List.getElem?_append_right (by omega)] at hx
   by_cases hj : j < hs.length
   ·rw [List.getElem?_append_left hj] at hy
    exact (hne _ _ y x k hy hx hky hkx).elim
   ·rw [List.getElem?_append_right (by omega)] at hy
    have := h'.2.2 _ _ x y k hx hy hkx hky
    omega
/-- Rows of whole numbers by their headers: each its own, no two of one block. -/
def RowsI (W : World) (base : Nat) (hs : List Hdr) (L : List (List Int)) : Prop :=
 hs.length = L.length ∧ (∀ (j : Nat) (h : Hdr) (x : List Int), hs[j]? = some h → L[j]? = some x → (Kd.int .i64).R 3 W base (fun k => some k = (encH h).ownBlock) (encH h) x) ∧
 (∀ (i j : Nat) (h h' : Hdr) (k : Nat), hs[i]? = some h → hs[j]? = some h' → (encH h).ownBlock = some k → (encH h').ownBlock = some k → i = j)

theorem RowsI.len {W : World} {base : Nat} {hs : List Hdr} {L : List (List Int)} (h : RowsI W base hs L) : hs.length = L.length := h.1

theorem S_of_hdrsI {W : World} {base : Nat} {v : Value} {hs : List Hdr} {L : List (List Int)} (h : hdrK.R 45 W base (fun _ => True) v hs) (hR : RowsI W base hs L) : Kd.S (Kd.slice 3 (Kd.int .i64)) 45 W base (fun _ => True) v L := by
 classical
 obtain ⟨hl, hr, hd⟩ := hR
 have ho := Kd.own_of_R h
 let f : Nat → Nat := fun k => if hx : ∃ j h', hs[j]? = some h' ∧ (encH h').ownBlock = some k then Classical.choose hx else 0
 have hf : ∀ j h' k, hs[j]? = some h' → (encH h').ownBlock = some k → f k = j := by
  intro j h' k hj hk
  have hx : ∃ j h', hs[j]? = some h' ∧ (encH h').ownBlock = some k := ⟨j, h', hj, hk⟩
  have e : f k = Classical.choose hx := by simp only [f]; rw [dif_pos hx]
  rw [e]
  obtain ⟨h2, ha, hb⟩ := Classical.choose_spec hx
  exact hd _ _ _ _ k ha hj hb hk
 refine ⟨f, fun k _ => trivial, encs encH hs, by rw [List.length_zipIdx, ← hl]; exact ho, by rw [encs_length, List.length_zipIdx, hl]; show L.length = L.length * 1; omega, fun j p hp => ?_⟩
 obtain ⟨x, i⟩ := p
 have hjl : j < L.length := by have := (List.getElem?_eq_some_iff.1 hp).1; rwa [List.length_zipIdx] at this
 rw [Kd.zip_at (List.getElem?_eq_getElem hjl)] at hp
 injection hp with hp
 injection hp with hx hi
 subst hx
 subst hi
 have hjh : j < hs.length := by omega
 have hh := List.getElem?_eq_getElem hjh
 have hq := hr j _ _ hh (List.getElem?_eq_getElem hjl)
 refine ⟨encH hs[j], ?_, Kd.R_mono hq (fun k hk => ⟨⟨trivial, fun e => ?_⟩, hf j _ k hh hk.symm⟩)⟩
 ·show List.take 1 (List.drop (j * 1) (encs encH hs)) = _
  rw [Nat.mul_one, List.drop_eq_getElem_cons (by rw [encs_length]; exact hjh), List.take_succ_cons, List.take_zero]
  simp [encs]
 ·obtain ⟨c1, h1⟩ := Kd.R_typed hq k hk.symm
  obtain ⟨c2, h2⟩ := Kd.R_typed h k e.symm
  rw [h1] at h2
  injection h2 with h2
  injection h2 with _ h2
  exact absurd h2 (by decide)

theorem RowsI.below {W W' : World} {base : Nat} {hs : List Hdr} {L : List (List Int)} (h : RowsI W base hs L) (hb : Below W.heap.size W W') : RowsI W' base hs L :=
 ⟨h.1, fun j x y hx hy => Kd.R_below (h.2.1 j x y hx hy) hb, h.2.2⟩
/-- A store into a block of another type. -/
theorem RowsI.set {W : World} {base : Nat} {hs : List Hdr} {L : List (List Int)} (h : RowsI W base hs L) {g t : Nat} {cells : Array Value} (hb : W.heap[g]? = some (.cells cells t (0, 0))) (ht : ∀ q, q ∈ 3 :: (Kd.int .i64).E → q ≠ t) (j : Nat) (u : Value) : RowsI (W.setCell ⟨g, j, none⟩ u) base hs L :=
 ⟨h.1, fun i x y hx hy => Kd.R_set (h.2.1 i x y hx hy) hb ht j u, h.2.2⟩
theorem RowsI.nil (W : World) (base : Nat) : RowsI W base [] [] := ⟨rfl, fun j h x hh => by simp at hh, fun i j h h' k hi => by simp at hi⟩
theorem RowsI.lt {W : World} {base : Nat} {hs : List Hdr} {L : List (List Int)} (h : RowsI W base hs L) {j : Nat} {x : Hdr} (hx : hs[j]? = some x) {k : Nat} (hk : (encH x).ownBlock = some k) : k < W.heap.size := by
 have hj : j < L.length := by have := (List.getElem?_eq_some_iff.1 hx).1; have := h.1; omega
 exact Kd.R_lt (h.2.1 j x _ hx (List.getElem?_eq_getElem hj)) k hk
/-- Elder rows and newer ones. -/
theorem RowsI.append {W : World} {base : Nat} {hs hs' : List Hdr} {L L' : List (List Int)} (h : RowsI W base hs L) (h' : RowsI W base hs' L')
  (hne : ∀ (i j : Nat) (x y : Hdr) (k : Nat), hs[i]? = some x → hs'[j]? = some y → (encH x).ownBlock = some k → (encH y).ownBlock = some k → False) : RowsI W base (hs ++ hs') (L ++ L') := by
 refine ⟨by simp [h.1, h'.1], fun j x y hx hy => ?_, fun i j x y k hx hy hkx hky => ?_⟩
 ·by_cases hj : j < hs.length
  ·rw [List.getElem?_append_left hj] at hx
   rw [List.getElem?_append_left (by have := h.1; omega)] at hy
   exact h.2.1 j x y hx hy
  ·rw [List.getElem?_append_right (by omega)] at hx
   rw [List.getElem?_append_right (by have := h.1; omega)] at hy
   rw [h.1] at hx
   exact h'.2.1 _ x y hx hy
 ·by_cases hi : i < hs.length
  ·rw [List.getElem?_append_left hi] at hx
   by_cases hj : j < hs.length
   ·rw [List.getElem?_append_left hj] at hy
    exact h.2.2 i j x y k hx hy hkx hky
   ·rw [List.getElem?_append_right (by omega)] at hy
    exact (hne _ _ x y k hx hy hkx hky).elim
  ·rw [List.getElem?_append_right (by omega)] at hx
   by_cases hj : j < hs.length
   ·rw [List.getElem?_append_left hj] at hy
    exact (hne _ _ y x k hy hx hky hkx).elim
   ·rw [List.getElem?_append_right (by omega)] at hy
    have := h'.2.2 _ _ x y k hx hy hkx hky
    omega
/-- A block of a call's own, as a row. -/
theorem scalar_blk {α : Type} {enc : α → Value} {h1 : ∀ x, (enc x).oneCell' = true} {e : TypeId} {W : World} {base g : Nat} {ok : Nat → Prop} {xs : List α} (hb : W.heap[g]? = some (.cells (xs.map enc).toArray e (0, 0))) (hg : base ≤ g) (hok : ok g) (hm : xs.length ≤ maxLen) :
  (Kd.scalar enc h1).R e W base ok (.slice (some ⟨g, 0, none⟩) xs.length xs.length) xs := by
 refine Kd.R_of_own ⟨by simp [encs], .inr ⟨g, xs.length, _, rfl, hg, hb, Nat.le_refl _, hm, by simp, ?_⟩⟩ (fun k hk => ?_)
 ·simp only [encs, Nat.mul_one]
  exact List.take_of_length_le (by simp)
 ·have : g = k := by simpa [Value.ownBlock] using hk
  subst this
  exact hok
theorem RowsI.of_R {W : World} {base : Nat} {h : Hdr} {l : List Int} (hR : (Kd.int .i64).R 3 W base (fun _ => True) (encH h) l) : RowsI W base [h] [l] := by
 refine ⟨rfl, fun j x y hx hy => ?_, fun i j x y k hx hy hkx hky => ?_⟩
 ·rcases j with _ | j
  ·simp at hx hy
   subst hx; subst hy
   exact Kd.R_tight rfl hR
  ·simp at hx
 ·rcases i with _ | i
  ·rcases j with _ | j
   ·rfl
   ·simp at hy
  ·simp at hx
/-- One row more, in a block of its own. -/
theorem RowsI.cons {W : World} {base g n c : Nat} {hs : List Hdr} {L : List (List Int)} {l : List Int} (hR : (Kd.int .i64).R 3 W base (fun _ => True) (.slice (some ⟨g, 0, none⟩) n c) l) (h : RowsI W base hs L) (hne : ∀ (y : Hdr), y ∈ hs → (encH y).ownBlock ≠ some g) : RowsI W base ((some ⟨g, 0, none⟩, n, c) :: hs) (l :: L) := by
 refine RowsI.append (hs := [(some ⟨g, 0, none⟩, n, c)]) (L := [l]) (RowsI.of_R hR) h (fun i j x y k hx hy hkx hky => ?_)
 have hx2 : x = (some ⟨g, 0, none⟩, n, c) := by rcases i with _ | i <;> simp at hx; exact hx.symm
 subst hx2
 have hk : g = k := by simpa [encH, Value.ownBlock] using hkx
 subst hk
 exact hne y (List.mem_of_getElem? hy) hky
theorem rows_lit {W : World} {base : Nat} : ∀ (bl : List (Nat × List Int)), (∀ b ∈ bl, base ≤ b.1 ∧ b.2.length ≤ maxLen ∧ W.heap[b.1]? = some (.cells (b.2.map fun x => .int .i64 x).toArray 3 (0, 0))) → bl.Pairwise (fun a b => a.1 ≠ b.1) → RowsI W base (bl.map fun b => (some ⟨b.1, 0, none⟩, b.2.length, b.2.length)) (bl.map fun b => b.2)
 | [], _, _ => RowsI.nil W base
 | b :: bl, h, hp => by
  have hp := List.pairwise_cons.1 hp
  obtain ⟨h1, h2, h3⟩ := h b (by simp)
  refine RowsI.cons (scalar_blk (xs := b.2) h3 h1 trivial h2) (rows_lit bl (fun x hx => h x (by simp [hx])) hp.2) ?_
  intro y hy
  obtain ⟨x, hx, rfl⟩ := List.mem_map.1 hy
  have := hp.1 x hx
  simp [encH, Value.ownBlock]
  omega
theorem S_lit {W : World} {base : Nat} (h : Nat) (bl : List (Nat × List Int)) (hb : ∀ b ∈ bl, base ≤ b.1 ∧ b.2.length ≤ maxLen ∧ W.heap[b.1]? = some (.cells (b.2.map fun x => .int .i64 x).toArray 3 (0, 0))) (hp : bl.Pairwise (fun a b => a.1 ≠ b.1)) (hh : base ≤ h) (hl : bl.length ≤ maxLen)
  (hc : W.heap[h]? = some (.cells (bl.map fun b => Value.slice (some ⟨b.1, 0, none⟩) b.2.length b.2.length).toArray 45 (0, 0))) : Kd.S (Kd.slice 3 (Kd.int .i64)) 45 W base (fun _ => True) (.slice (some ⟨h, 0, none⟩) (bl.map fun b => b.2).length (bl.map fun b => b.2).length) (bl.map fun b => b.2) := by
 obtain ⟨hs, hhs⟩ : ∃ hs : List Hdr, hs = bl.map fun b => (some ⟨b.1, 0, none⟩, b.2.length, b.2.length) := ⟨_, rfl⟩
 have e : (bl.map fun b => b.2).length = hs.length := by rw [hhs]; simp
 have hR := rows_lit bl hb hp
 rw [← hhs] at hR
 have hc2 : W.heap[h]? = some (.cells (hs.map encH).toArray 45 (0, 0)) := by
  rw [hhs, List.map_map]
  exact hc
 have hH := scalar_blk (enc := encH) (h1 := encH_one) (ok := fun _ => True) (base := base) hc2 hh trivial (by rw [← e]; simpa using hl)
 have := S_of_hdrsI hH hR
 rwa [← e] at this
theorem C_lit {W : World} (h : Nat) (bl : List (Nat × List Int)) (hb : ∀ b ∈ bl, b.2.length ≤ maxLen ∧ W.heap[b.1]? = some (.cells (b.2.map fun x => .int .i64 x).toArray 3 (0, 0))) (hp : bl.Pairwise (fun a b => a.1 ≠ b.1)) (hl : bl.length ≤ maxLen)
  (hc : W.heap[h]? = some (.cells (bl.map fun b => Value.slice (some ⟨b.1, 0, none⟩) b.2.length b.2.length).toArray 45 (0, 0))) : Kd.C (Kd.slice 3 (Kd.int .i64)) W (some ⟨h, 0, none⟩) (bl.map fun b => b.2).length (bl.map fun b => b.2) :=
 (Kd.R_reads' (Kd.S_R (S_lit (base := 0) h bl (fun b hm => ⟨Nat.zero_le _, hb b hm⟩) hp (Nat.zero_le _) hl hc))).2.2
theorem C_bools {W : World} (h : Nat) (xs : List Bool) (hl : xs.length ≤ maxLen) (hc : W.heap[h]? = some (.cells (xs.map fun x => .bool x).toArray 4 (0, 0))) : Kd.C Kd.bool W (some ⟨h, 0, none⟩) xs.length xs :=
 (Kd.R_reads' (scalar_blk (W := W) (base := 0) (ok := fun _ => True) (e := 4) (xs := xs) hc (Nat.zero_le _) trivial hl : Kd.bool.R 4 W 0 (fun _ => True) (.slice (some ⟨h, 0, none⟩) xs.length xs.length) xs)).2.2
theorem new_at {W : World} (o : Obj) {g : Nat} (h : W.heap.size = g) : (W.alloc o).heap[g]? = some o := by
 subst h
 exact bn W o
section
open Go.Maps
variable {α : Type} [BEq α] [LawfulBEq α]
/-- What such a map's data are: the things met, each with its number. -/
def NumData (key : α → Lit) (ok : α → Prop) (D : DataW Unit) (M : List α) : Prop :=
 Tidy D ∧ Maps.size D = M.length ∧ ∀ x, ok x → Maps.has D (key x) = M.contains x ∧ D.atKey (key x) (.lit (.int .i64 0)) = .lit (.int .i64 (if x ∈ M then ((M.idxOf x : Nat) : Int) else 0))
theorem NumData.nil (key : α → Lit) (ok : α → Prop) : NumData key ok (.map []) [] :=
 ⟨tidy_empty, rfl, fun x _ => ⟨rfl, by simp; exact atKey_of_not_has rfl _⟩⟩
theorem NumData.put {key : α → Lit} {ok : α → Prop} {D : DataW Unit} {M : List α} (h : NumData key ok D M) (hinj : ∀ x y, ok x → ok y → key x = key y → x = y) {x : α} (hx : ok x) (hk : WideAt.IsKeyLit (key x)) (hn : x ∉ M) : NumData key ok (D.put (key x) (.lit (.int .i64 ((M.length : Nat) : Int)))) (M ++ [x]) := by
 obtain ⟨hT, hz, hf⟩ := h
 have hh : Maps.has D (key x) = false := by rw [(hf x hx).1]; simpa using hn
 refine ⟨hT.put hk _, ?_, fun y hy => ?_⟩
 ·rw [size_put hT, hh]
  simp [hz]
 ·by_cases he : y = x
  ·subst he
   refine ⟨by rw [has_put_same hT.isMap hk]; simp, ?_⟩
   rw [atKey_put_same hT.isMap hk, if_pos (by simp), List.idxOf_append, if_neg hn]
   simp
  ·have hne : key y ≠ key x := fun e => he (hinj y x hy hx e)
   refine ⟨?_, ?_⟩
   ·rw [has_put_other hne, (hf y hy).1]
    simp [List.contains_append, he]
   ·rw [atKey_put_other hne, (hf y hy).2]
    by_cases hm : y ∈ M
    ·rw [if_pos hm, if_pos (by simp [hm]), List.idxOf_append, if_pos hm]
    ·rw [if_neg hm, if_neg (by simp [hm, he])]
theorem keyed3 : Keyed Try.prog 3 := int_keyed Try.underlying3
theorem under99 : Try.prog.underlying 99 = some (.map 3 3) := by kernel_rfl
def intLit (x : Int) : Lit := .int .i64 x
theorem int_key {x : Int} (h : (Lit.int .i64 x).wf = true) : keyOf Try.prog 3 (.int .i64 x) = some (intLit x) := keyOf_int_mk Try.underlying3 h
def IntMap (W : World) (b n : Nat) (M : List Int) : Prop :=
 ∃ D : DataW Unit, W.ownsMap Try.prog 3 (plainElem Try.prog 3) b n D ∧ NumData intLit (fun x => (Lit.int .i64 x).wf = true) D M
theorem IntMap.made (W : World) : IntMap (W.alloc (.map #[] 0)) W.heap.size 0 [] :=
 ⟨.map [], World.ownsMap_made W Try.prog 3 (plainElem Try.prog 3), NumData.nil _ _⟩
theorem IntMap.below {W W' : World} {b n : Nat} {M : List Int} (h : IntMap W b n M) (hb : Below W.heap.size W W') : IntMap W' b n M := by
 obtain ⟨D, h1, h2⟩ := h
 exact ⟨D, h1.kept (row := none) ⟨hb.os, hb.tape, hb.output, hb.size, fun i hi _ => hb.block i hi⟩ (by simp), h2⟩
theorem intLit_put {D : DataW Unit} {M : List Int} (h : NumData intLit (fun x => (Lit.int .i64 x).wf = true) D M) {x : Int} (hx : (Lit.int .i64 x).wf = true) (hn : x ∉ M) : NumData intLit (fun x => (Lit.int .i64 x).wf = true) (D.put (intLit x) (.lit (.int .i64 ((M.length : Nat) : Int)))) (M ++ [x]) :=
 h.put (fun x y _ _ e => by unfold intLit at e; injection e) hx (keyed3.key (keyOf_int_mk Try.underlying3 hx)) hn
end
section
open Go.Maps
theorem keyed143 : Keyed Try.prog 143 := Keyed.of_law (deep_law_laid laidOut (m := 20) (by decide) (of_decide_eq_true (by kernel_rfl)) (by kernel_rfl) (by kernel_rfl))
theorem under141 : Try.prog.underlying 141 = some (.map 143 3) := by kernel_rfl
theorem zero3 (w : World) : (zeroValue 3).run Try.prog w = .ok (.int .i64 0) w := by kernel_rfl
def faceLit (a b : Int) : Lit := .string (keyBytes [.int .i64 a, .int .i64 b])
theorem face_lits (d : Nat) (a b : Int) (ha : (Lit.int .i64 a).wf = true) (hb : (Lit.int .i64 b).wf = true) : Try.prog.keyLits (d + 1 + 1) 143 [.int .i64 a, .int .i64 b] = some [.int .i64 a, .int .i64 b] := by
 have c1 : Try.prog.cellsOf 143 = 2 := by kernel_rfl
 have c2 : Try.prog.cellsOf 3 = 1 := by kernel_rfl
 have e1 : ∀ n, (Lit.int .i64 n).wf = true → Try.prog.keyLits (d + 1) 3 [.int .i64 n] = some [.int .i64 n] := fun n hn => by
  unfold Program.keyLits
  simp only [Try.underlying3]
  simp [hn]
 unfold Program.keyLits
 simp only [Try.underlying143]
 simp [c1, c2, e1 a ha, e1 b hb]
theorem face_key (a b : Int) (ha : (Lit.int .i64 a).wf = true) (hb : (Lit.int .i64 b).wf = true) : keyOf Try.prog 143 (.agg #[.int .i64 a, .int .i64 b]) = some (faceLit a b) := by
 have h3 : Try.prog.keyType 143 = true := by kernel_rfl
 have c1 : Try.prog.cellsOf 143 = 2 := by kernel_rfl
 have h5 : Try.prog.types.size + 1 = 160 + 1 + 1 := by kernel_rfl
 have h4 := face_lits 160 a b ha hb
 rw [← h5] at h4
 have hf : Value.formed Try.prog 143 (.agg #[.int .i64 a, .int .i64 b]) = true := by
  simp [Value.formed, Try.underlying143, c1]
 simp only [keyOf, Try.underlying143, h3, hf, Bool.and_self, if_true]
 show Option.map _ (Try.prog.keyLits (Try.prog.types.size + 1) 143 [.int .i64 a, .int .i64 b]) = _
 rw [h4]
 rfl
theorem faceLit_inj {p q p' q' : Int} (hp : (Lit.int .i64 p).wf = true) (hq : (Lit.int .i64 q).wf = true) (hp' : (Lit.int .i64 p').wf = true) (hq' : (Lit.int .i64 q').wf = true) (h : faceLit p q = faceLit p' q') : (p, q) = (p', q') := by
 have h1 := face_key p q hp hq
 rw [h] at h1
 have := keyed143.inj h1 (face_key p' q' hp' hq')
 simp at this
 simp [this.1, this.2]
/-- A map of ours: the faces that were met, each with its number. -/
def FaceMap (W : World) (b n : Nat) (M : List (Int × Int)) : Prop :=
 ∃ D : DataW Unit, W.ownsMap Try.prog 143 (plainElem Try.prog 3) b n D ∧ Tidy D ∧ Maps.size D = M.length ∧
  ∀ p q : Int, (Lit.int .i64 p).wf = true → (Lit.int .i64 q).wf = true → Maps.has D (faceLit p q) = M.contains (p, q) ∧ ((p, q) ∈ M → D.atKey (faceLit p q) (.lit (.int .i64 0)) = .lit (.int .i64 ((M.idxOf (p, q) : Nat) : Int)))
theorem FaceMap.made (W : World) : FaceMap (W.alloc (.map #[] 0)) W.heap.size 0 [] :=
 ⟨.map [], World.ownsMap_made W Try.prog 143 (plainElem Try.prog 3), tidy_empty, rfl, fun p q _ _ => ⟨rfl, fun h => by simp at h⟩⟩
theorem FaceMap.new {W W' : World} {b n : Nat} {M : List (Int × Int)} {D : DataW Unit} (hT : Tidy D) (hz : Maps.size D = M.length)
  (hf : ∀ p q : Int, (Lit.int .i64 p).wf = true → (Lit.int .i64 q).wf = true → Maps.has D (faceLit p q) = M.contains (p, q) ∧ ((p, q) ∈ M → D.atKey (faceLit p q) (.lit (.int .i64 0)) = .lit (.int .i64 ((M.idxOf (p, q) : Nat) : Int))))
  {p q : Int} (hp : (Lit.int .i64 p).wf = true) (hq : (Lit.int .i64 q).wf = true) (hn : (p, q) ∉ M) (ho : W'.ownsMap Try.prog 143 (plainElem Try.prog 3) b n (D.put (faceLit p q) (.lit (.int .i64 ((M.length : Nat) : Int))))) :
  FaceMap W' b n (M ++ [(p, q)]) := by
 have hk : WideAt.IsKeyLit (faceLit p q) := keyed143.key (face_key p q hp hq)
 have hh : Maps.has D (faceLit p q) = false := by rw [(hf p q hp hq).1]; simpa using hn
 refine ⟨_, ho, hT.put hk _, ?_, fun p' q' hp' hq' => ?_⟩
 ·rw [size_put hT, hh]
  simp [hz]
 ·by_cases he : (p', q') = (p, q)
  ·cases he
   refine ⟨by rw [has_put_same hT.isMap hk]; simp, fun _ => ?_⟩
   rw [atKey_put_same hT.isMap hk, List.idxOf_append, if_neg hn]
   simp
  ·have hne : faceLit p' q' ≠ faceLit p q := fun h => he (faceLit_inj hp' hq' hp hq h)
   refine ⟨?_, fun h => ?_⟩
   ·rw [has_put_other hne, (hf p' q' hp' hq').1]
    have : ¬ (p' = p ∧ q' = q) := fun h => he (by rw [h.1, h.2])
    simp [List.contains_append, this]
   ·have hm : (p', q') ∈ M := by
     rcases List.mem_append.1 h with h | h
     ·exact h
     ·exact absurd (List.mem_singleton.1 h) he
    rw [atKey_put_other hne, (hf p' q' hp' hq').2 hm, List.idxOf_append, if_pos hm]
end
section
open Go.Maps
def pairLit (a b : Int) : Lit := .string (keyBytes [.int .i64 a, .int .i64 b])
def pairKey (p : Nat × Nat) : Lit := pairLit (p.1 : Int) (p.2 : Int)
def pairOk (p : Nat × Nat) : Prop := p.1 ≤ 1000000 ∧ p.2 ≤ 1000000
/-- A map of ours: the pairs that were met, each with its number. -/
def PairMap (W : World) (b n : Nat) (M : List (Nat × Nat)) : Prop := ∃ D : DataW Unit, W.ownsMap Try.prog 138 (plainElem Try.prog 3) b n D ∧ NumData pairKey pairOk D M
theorem PairMap.grown {W W' : World} {b n : Nat} {M : List (Nat × Nat)} {row : Option Nat} (h : PairMap W b n M) (hg : W.grownBy W' row) (hne : some b ≠ row) : PairMap W' b n M := by
 obtain ⟨D, h1, h2⟩ := h
 exact ⟨D, h1.kept hg hne, h2⟩
theorem PairMap.below {W W' : World} {b n : Nat} {M : List (Nat × Nat)} (h : PairMap W b n M) (hb : Below W.heap.size W W') : PairMap W' b n M := h.grown (row := none) ⟨hb.os, hb.tape, hb.output, hb.size, fun i hi _ => hb.block i hi⟩ (by simp)
theorem PairMap.set {W : World} {b n : Nat} {M : List (Nat × Nat)} (h : PairMap W b n M) {p : Addr} (hp : b ≠ p.block) (u : Value) : PairMap (W.setCell p u) b n M := by
 obtain ⟨D, h1, h2⟩ := h
 exact ⟨D, h1.setCell hp u, h2⟩
theorem PairMap.lt {W : World} {b n : Nat} {M : List (Nat × Nat)} (h : PairMap W b n M) : b < W.heap.size := by
 obtain ⟨D, h1, _⟩ := h
 exact h1.lt
end

end Go.Proofs.Ytelkjbacdpmnfaa.A
