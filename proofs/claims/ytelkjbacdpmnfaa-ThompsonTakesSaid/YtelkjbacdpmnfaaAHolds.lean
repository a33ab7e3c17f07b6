/- By a program, out of the translation (wip/myprint.py). -/
import Derived.Test.YtelkjbacdpmnfaaA0
namespace Go.Proofs.Ytelkjbacdpmnfaa.A
open Go.RowKit Go.Proofs.YtelkjbacdpmnfaaW.PrintWords Go.Proofs.YtelkjbacdpmnfaaW.PrintLast Go.Proofs.YtelkjbacdpmnfaaW.PrintMore
attribute [local go_sem] max2_int min2_int max_two min_two max_three min_three max_four min_four   -- for this text's walks alone
set_option linter.unusedVariables false
set_option linter.unusedSimpArgs false

/-- What stands behind some steps: elder memory, blocks of ours, nets, automata's rows and ends. -/
structure Hold (w W : World) (bs : List (Nat × Array Value × TypeId)) (ns : List (Value × List (List S82))) (rs : List (Value × List (List Int))) (es : List (Value × List Bool)) : Prop where
  low : Below w.heap.size w W
  ours : ∀ b ∈ bs, w.heap.size ≤ b.1
  apart : bs.Pairwise (fun a b => a.1 ≠ b.1)
  blks : ∀ b ∈ bs, W.heap[b.1]? = some (.cells b.2.1 b.2.2 (0, 0))
  nets : ∀ n ∈ ns, Kd.S (Kd.slice 82 k82) 79 W w.heap.size (fun _ => True) n.1 n.2
  rows : ∀ n ∈ rs, Kd.S (Kd.slice 3 (Kd.int .i64)) 45 W w.heap.size (fun _ => True) n.1 n.2
  ends : ∀ n ∈ es, Kd.bool.R 4 W w.heap.size (fun _ => True) n.1 n.2
section
variable {w W W' : World} {bs b1 b2 : List (Nat × Array Value × TypeId)} {ns : List (Value × List (List S82))} {rs : List (Value × List (List Int))} {es : List (Value × List Bool)}
theorem Hold.step (h : Hold w W bs ns rs es) (hb : Below W.heap.size W W') : Hold w W' bs ns rs es :=
  ⟨below_step h.low hb, h.ours, h.apart, fun b hm => blk_below (h.blks b hm) hb, fun n hm => Kd.S_below (h.nets n hm) hb, fun n hm => Kd.S_below (h.rows n hm) hb, fun n hm => Kd.R_below (h.ends n hm) hb⟩
theorem Hold.net (h : Hold w W bs ns rs es) {v : Value} {L : List (List S82)} (hS : Kd.S (Kd.slice 82 k82) 79 W' W.heap.size (fun _ => True) v L) (hb : Below W.heap.size W W') : Hold w W' bs ((v, L) :: ns) rs es := by
  have h' := h.step hb
  refine ⟨h'.low, h'.ours, h'.apart, h'.blks, fun n hm => ?_, h'.rows, h'.ends⟩
  rcases List.mem_cons.1 hm with rfl | hm
  · exact Kd.S_lower hS h.low.size
  · exact h'.nets n hm
theorem Hold.aut (h : Hold w W bs ns rs es) {v v' : Value} {L : List (List Int)} {l : List Bool} (hS : Kd.S (Kd.slice 3 (Kd.int .i64)) 45 W' W.heap.size (fun _ => True) v L) (hR : Kd.bool.R 4 W' W.heap.size (fun _ => True) v' l) (hb : Below W.heap.size W W') : Hold w W' bs ns ((v, L) :: rs) ((v', l) :: es) := by
  have h' := h.step hb
  refine ⟨h'.low, h'.ours, h'.apart, h'.blks, h'.nets, fun n hm => ?_, fun n hm => ?_⟩
  · rcases List.mem_cons.1 hm with rfl | hm
    · exact Kd.S_lower hS h.low.size
    · exact h'.rows n hm
  · rcases List.mem_cons.1 hm with rfl | hm
    · exact Kd.R_lower hR h.low.size
    · exact h'.ends n hm
theorem Hold.alloc (h : Hold w W (b1 ++ b2) ns rs es) (cs : Array Value) (t : TypeId) : Hold w (W.alloc (.cells cs t)) (b1 ++ (W.heap.size, cs, t) :: b2) ns rs es := by
  have h' := h.step (below_alloc (Below.refl W.heap.size W) (.cells cs t))
  refine ⟨h'.low, fun b hm => ?_, ?_, fun b hm => ?_, h'.nets, h'.rows, h'.ends⟩
  · simp only [List.mem_append, List.mem_cons] at hm
    rcases hm with hm | rfl | hm
    · exact h.ours b (by simp [hm])
    · exact h.low.size
    · exact h.ours b (by simp [hm])
  · have ha := List.pairwise_append.1 h.apart
    have hlt : ∀ b ∈ b1 ++ b2, b.1 ≠ W.heap.size := fun b hm e => by have := blk_lt (h.blks b hm); omega
    refine List.pairwise_append.2 ⟨ha.1, List.pairwise_cons.2 ⟨fun b hm e => hlt b (by simp [hm]) e.symm, ha.2.1⟩, fun a hm b hb => ?_⟩
    rcases List.mem_cons.1 hb with rfl | hb
    · exact hlt a (by simp [hm])
    · exact ha.2.2 a hm b hb
  simp only [List.mem_append, List.mem_cons] at hm
  rcases hm with hm | rfl | hm
  · exact h'.blks b (by simp [hm])
  · exact blk_new W (.cells cs t)
  · exact h'.blks b (by simp [hm])
theorem Hold.drew (h : Hold w W bs ns rs es) : Hold w W.drew bs ns rs es := h.step (below_drew1 (Below.refl _ _))
/-- A block's type is none of those that nets, rows and ends lie in. -/
def Own (t : TypeId) : Prop := (∀ q, q ∈ 79 :: (Kd.slice 82 k82).E → q ≠ t) ∧ (∀ q, q ∈ 45 :: (Kd.slice 3 (Kd.int .i64)).E → q ≠ t) ∧ (∀ q, q ∈ 4 :: Kd.bool.E → q ≠ t)
theorem Hold.put {g : Nat} {cs cs' : Array Value} {t : TypeId} (h : Hold w W (b1 ++ (g, cs, t) :: b2) ns rs es) (i : Nat) (u : Value) (ht : Own t) (e : cs.setIfInBounds i u = cs') : Hold w (W.setCell ⟨g, i, none⟩ u) (b1 ++ (g, cs', t) :: b2) ns rs es := by
  have hb := h.blks (g, cs, t) (by simp)
  have ha := List.pairwise_append.1 h.apart
  have hc := List.pairwise_cons.1 ha.2.1
  have hg : w.heap.size ≤ g := h.ours (g, cs, t) (by simp)
  refine ⟨h.low.setCell hg u, fun b hm => ?_, List.pairwise_append.2 ⟨ha.1, List.pairwise_cons.2 ⟨fun b hm => hc.1 b hm, hc.2⟩, fun a hm b hb => ?_⟩, fun b hm => ?_, fun n hm => ?_, fun n hm => ?_, fun n hm => ?_⟩
  · simp only [List.mem_append, List.mem_cons] at hm
    rcases hm with hm | rfl | hm
    · exact h.ours b (by simp [hm])
    · exact hg
    · exact h.ours b (by simp [hm])
  · rcases List.mem_cons.1 hb with rfl | hb
    · exact ha.2.2 a hm (g, cs, t) (by simp)
    · exact ha.2.2 a hm b (by simp [hb])
  · simp only [List.mem_append, List.mem_cons] at hm
    rcases hm with hm | rfl | hm
    · exact blk_far (h.blks b (by simp [hm])) (ha.2.2 b hm (g, cs, t) (by simp)) u
    · exact blk_put hb i u e
    · exact blk_far (h.blks b (by simp [hm])) (hc.1 b hm).symm u
  · exact Kd.S_mono (Kd.S_far (p := ⟨g, i, none⟩) (Kd.S_types (h.nets n hm) hb ht.1) (fun _ hk => hk.2) u) (fun _ _ => trivial)
  · exact Kd.S_mono (Kd.S_far (p := ⟨g, i, none⟩) (Kd.S_types (h.rows n hm) hb ht.2.1) (fun _ hk => hk.2) u) (fun _ _ => trivial)
  · exact Kd.R_set (h.ends n hm) hb ht.2.2 i u
theorem own25 : Own 25 := ⟨by decide, by decide, by decide⟩
theorem own28 : Own 28 := ⟨by decide, by decide, by decide⟩
theorem own38 : Own 38 := ⟨by decide, by decide, by decide⟩
/-- A net of ours is read where it is called for. -/
theorem Hold.read (h : Hold w W bs ns rs es) {v : Value} {L : List (List S82)} (hm : (v, L) ∈ ns) : ∃ A c, v = .slice A L.length c ∧ L.length ≤ c ∧ Kd.C (Kd.slice 82 k82) W A L.length L := Kd.R_reads (Kd.S_R (h.nets _ hm))
theorem Hold.readRows (h : Hold w W bs ns rs es) {v : Value} {L : List (List Int)} (hm : (v, L) ∈ rs) : ∃ A c, v = .slice A L.length c ∧ L.length ≤ c ∧ Kd.C (Kd.slice 3 (Kd.int .i64)) W A L.length L := Kd.R_reads (Kd.S_R (h.rows _ hm))
theorem Hold.readEnds (h : Hold w W bs ns rs es) {v : Value} {L : List Bool} (hm : (v, L) ∈ es) : ∃ A c, v = .slice A L.length c ∧ L.length ≤ c ∧ Kd.C Kd.bool W A L.length L := Kd.R_reads (h.ends _ hm)
theorem Hold.C_nets (h : Hold w W bs ns rs es) {A : Option Addr} {c n : Nat} {L : List (List S82)} (hm : (.slice A n c, L) ∈ ns) : n = L.length ∧ L.length ≤ c ∧ Kd.C (Kd.slice 82 k82) W A L.length L := by
  obtain ⟨A', c', e, h1, h2⟩ := h.read hm
  cases e
  exact ⟨rfl, h1, h2⟩
theorem Hold.C_rows (h : Hold w W bs ns rs es) {A : Option Addr} {c n : Nat} {L : List (List Int)} (hm : (.slice A n c, L) ∈ rs) : n = L.length ∧ L.length ≤ c ∧ Kd.C (Kd.slice 3 (Kd.int .i64)) W A L.length L := by
  obtain ⟨A', c', e, h1, h2⟩ := h.readRows hm
  cases e
  exact ⟨rfl, h1, h2⟩
theorem Hold.C_ends (h : Hold w W bs ns rs es) {A : Option Addr} {c n : Nat} {L : List Bool} (hm : (.slice A n c, L) ∈ es) : n = L.length ∧ L.length ≤ c ∧ Kd.C Kd.bool W A L.length L := by
  obtain ⟨A', c', e, h1, h2⟩ := h.readEnds hm
  cases e
  exact ⟨rfl, h1, h2⟩
theorem Hold.refl (w : World) : Hold w w [] [] [] [] := ⟨Below.refl _ _, by simp, List.Pairwise.nil, by simp, by simp, by simp, by simp⟩
end
/-- Three boxes side by side. -/
def Boxes3 (g : Nat) (c0 c1 c2 : Array Value) (W : World) : Prop := W.heap[g]? = some (.cells c0 25 (0, 0)) ∧ W.heap[g + 1]? = some (.cells c1 25 (0, 0)) ∧ W.heap[g + 1 + 1]? = some (.cells c2 28 (0, 0))
theorem Boxes3.step {g : Nat} {c0 c1 c2 : Array Value} {W W' : World} (h : Boxes3 g c0 c1 c2 W) (hb : Below W.heap.size W W') : Boxes3 g c0 c1 c2 W' := ⟨blk_below h.1 hb, blk_below h.2.1 hb, blk_below h.2.2 hb⟩

end Go.Proofs.Ytelkjbacdpmnfaa.A
