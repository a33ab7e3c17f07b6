/- Contracts. -/
import Derived.Test.YtelkjbacdpmnfaaB0
namespace Go.Proofs.Ytelkjbacdpmnfaa.A
open Go.RowKit Go.W_.PrintWords Go.W_.PrintLast Go.W_.PrintMore
attribute [local go_sem] max2_int min2_int max_two min_two max_three min_three max_four min_four
set_option linter.unusedVariables false
set_option linter.unusedSimpArgs false

section
variable {P : Program} {ops : Array Oper} {Q : Exit → Act → World → Prop}
/-- i has run, too. -/
def also (d : Nat → Bool) (i : Nat) : Nat → Bool := fun j => if j = i then true else d j
theorem also_ne (d : Nat → Bool) {i j : Nat} (h : j ≠ i) : also d i j = d j := by simp [also, h]
def StepOne (P : Program) (ops : Array Oper) (Q : Exit → Act → World → Prop) (Inv : (Nat → Bool) → Act → World → Prop) (i : Nat) (oi : Oper) : Prop :=
 ∀ d a w, Inv d a w → d i = false → (∀ j oj, ops[j]? = some oj → d j = true → (oj.after.toList.all fun e => !Region.binds .any e || d e.on) = true) → (oi.after.toList.all fun e => !Region.binds .any e || d e.on) = true → ∀ K : Act → World → Prop, Shut (∀ a' w', Inv (also d i) a' w' → K a' w') → if Region.wanted oi (yielded ops a.tmps) = true then Oper.wp P oi a w K Q else K (a.put oi.dst undef) w
def StepAll (P : Program) (ops : Array Oper) (Q : Exit → Act → World → Prop) (Inv : (Nat → Bool) → Act → World → Prop) : Nat → List Oper → Prop
 | _, [] => True
 | i, o :: r => StepOne P ops Q Inv i o ∧ StepAll P ops Q Inv (i + 1) r
theorem StepAll.at {Inv : (Nat → Bool) → Act → World → Prop} : ∀ {r : List Oper} {k : Nat}, StepAll P ops Q Inv k r → ∀ {j : Nat} {oi : Oper}, r[j]? = some oi → StepOne P ops Q Inv (k + j) oi
 | [], _, _, _, _, h => by simp at h
 | o :: r, k, hs, 0, oi, h => by
  simp at h
  subst h
  exact hs.1
 | o :: r, k, hs, j + 1, oi, h => by
  have := StepAll.at hs.2 (j := j) (by simpa using h)
  have e : k + 1 + j = k + (j + 1) := by omega
  rwa [e] at this
theorem kept {d : Nat → Bool} {p : Prop} {j : Nat} (i : Nat) (f : d j = true → p) (h : (j == i) = false) : also d i j = true → p := by
 rw [also_ne d (by simpa using h)]
 exact f
end
theorem calls_new {f : FuncId} {args : Array Value} {v W : World} {Q : Ending → World → Prop} {F : World → Prop} (hb : Below v.heap.size v W) (hF : F W) (k : ∀ W, Below v.heap.size v W → F W → Calls Try.prog f args W Q) : Calls Try.prog f args W Q := k W hb hF
theorem cells2 {W : World} {g t : Nat} {a b : Value} (h : W.heap[g]? = some (.cells #[a, b] t (0, 0))) : W.cell? ⟨g, 0, none⟩ = some a ∧ W.cell? ⟨g, 1, none⟩ = some b := ⟨(bcz h 0).trans rfl, (bcz h 1).trans rfl⟩
theorem cells3 {W : World} {g t : Nat} {a b c : Value} (h : W.heap[g]? = some (.cells #[a, b, c] t (0, 0))) : W.cell? ⟨g, 0, none⟩ = some a ∧ W.cell? ⟨g, 1, none⟩ = some b ∧ W.cell? ⟨g, 2, none⟩ = some c := ⟨(bcz h 0).trans rfl, (bcz h 1).trans rfl, (bcz h 2).trans rfl⟩
/-- What stands behind some steps: elder memory, blocks of ours, nets, automata's rows and ends. -/
structure Hold (w W : World) (bs : List (Nat × Array Value × TypeId)) (ns : List (Value × List (List S82))) (rs : List (Value × List (List Int))) (es : List (Value × List Bool)) : Prop where
 low : Below w.heap.size w W
 ours : ∀ b ∈ bs, w.heap.size ≤ b.1
 apart : bs.Pairwise (fun a b => a.1 ≠ b.1)
 blks : ∀ b ∈ bs, W.heap[b.1]? = some (.cells b.2.1 b.2.2 (0, 0))
 nets : ∀ n ∈ ns, Kd.S (Kd.slice 82 k82) 79 W w.heap.size (fun _ => True) n.1 n.2
 rows : ∀ n ∈ rs, Kd.S (Kd.slice 3 (Kd.int .i64)) 45 W w.heap.size (fun _ => True) n.1 n.2
 ends : ∀ n ∈ es, Kd.bool.R 4 W w.heap.size (fun _ => True) n.1 n.2
section
variable {w W W' : World} {bs b1 b2 : List (Nat × Array Value × TypeId)} {ns : List (Value × List (List S82))} {rs : List (Value × List (List Int))} {es : List (Value × List Bool)}
theorem Hold.step (h : Hold w W bs ns rs es) (hb : Below W.heap.size W W') : Hold w W' bs ns rs es :=
 ⟨bsz h.low hb, h.ours, h.apart, fun b hm => bbz (h.blks b hm) hb, fun n hm => Kd.S_below (h.nets n hm) hb, fun n hm => Kd.S_below (h.rows n hm) hb, fun n hm => Kd.R_below (h.ends n hm) hb⟩
theorem Hold.net (h : Hold w W bs ns rs es) {v : Value} {L : List (List S82)} (hS : Kd.S (Kd.slice 82 k82) 79 W' W.heap.size (fun _ => True) v L) (hb : Below W.heap.size W W') : Hold w W' bs ((v, L) :: ns) rs es := by
 have h' := h.step hb
 refine ⟨h'.low, h'.ours, h'.apart, h'.blks, fun n hm => ?_, h'.rows, h'.ends⟩
 rcases List.mem_cons.1 hm with rfl | hm
 ·exact Kd.S_lower hS h.low.size
 ·exact h'.nets n hm
theorem Hold.aut (h : Hold w W bs ns rs es) {v v' : Value} {L : List (List Int)} {l : List Bool} (hS : Kd.S (Kd.slice 3 (Kd.int .i64)) 45 W' W.heap.size (fun _ => True) v L) (hR : Kd.bool.R 4 W' W.heap.size (fun _ => True) v' l) (hb : Below W.heap.size W W') : Hold w W' bs ns ((v, L) :: rs) ((v', l) :: es) := by
 have h' := h.step hb
 refine ⟨h'.low, h'.ours, h'.apart, h'.blks, h'.nets, fun n hm => ?_, fun n hm => ?_⟩
 ·rcases List.mem_cons.1 hm with rfl | hm
  ·exact Kd.S_lower hS h.low.size
  ·exact h'.rows n hm
 ·rcases List.mem_cons.1 hm with rfl | hm
  ·exact Kd.R_lower hR h.low.size
  ·exact h'.ends n hm
theorem Hold.alloc (h : Hold w W (b1 ++ b2) ns rs es) (cs : Array Value) (t : TypeId) : Hold w (W.alloc (.cells cs t)) (b1 ++ (W.heap.size, cs, t) :: b2) ns rs es := by
 have h' := h.step (ba (Below.refl W.heap.size W) (.cells cs t))
 refine ⟨h'.low, fun b hm => ?_, ?_, fun b hm => ?_, h'.nets, h'.rows, h'.ends⟩
 ·simp only [List.mem_append, List.mem_cons] at hm
  rcases hm with hm | rfl | hm
  ·exact h.ours b (by simp [hm])
  ·exact h.low.size
  ·exact h.ours b (by simp [hm])
 ·have ha := List.pairwise_append.1 h.apart
  have hlt : ∀ b ∈ b1 ++ b2, b.1 ≠ W.heap.size := fun b hm e => by have := blk_lt (h.blks b hm); omega
  refine List.pairwise_append.2 ⟨ha.1, List.pairwise_cons.2 ⟨fun b hm e => hlt b (by simp [hm]) e.symm, ha.2.1⟩, fun a hm b hb => ?_⟩
  rcases List.mem_cons.1 hb with rfl | hb
  ·exact hlt a (by simp [hm])
  ·exact ha.2.2 a hm b hb
 simp only [List.mem_append, List.mem_cons] at hm
 rcases hm with hm | rfl | hm
 ·exact h'.blks b (by simp [hm])
 ·exact bn W (.cells cs t)
 ·exact h'.blks b (by simp [hm])
theorem Hold.drew (h : Hold w W bs ns rs es) : Hold w W.drew bs ns rs es := h.step (bD (Below.refl _ _))
/-- A block's type is none of those that nets, rows and ends lie in. -/
def Own (t : TypeId) : Prop := (∀ q, q ∈ 79 :: (Kd.slice 82 k82).E → q ≠ t) ∧ (∀ q, q ∈ 45 :: (Kd.slice 3 (Kd.int .i64)).E → q ≠ t) ∧ (∀ q, q ∈ 4 :: Kd.bool.E → q ≠ t)
theorem Hold.put {g : Nat} {cs cs' : Array Value} {t : TypeId} (h : Hold w W (b1 ++ (g, cs, t) :: b2) ns rs es) (i : Nat) (u : Value) (ht : Own t) (e : cs.setIfInBounds i u = cs') : Hold w (W.setCell ⟨g, i, none⟩ u) (b1 ++ (g, cs', t) :: b2) ns rs es := by
 have hb := h.blks (g, cs, t) (by simp)
 have ha := List.pairwise_append.1 h.apart
 have hc := List.pairwise_cons.1 ha.2.1
 have hg : w.heap.size ≤ g := h.ours (g, cs, t) (by simp)
 refine ⟨h.low.setCell hg u, fun b hm => ?_, List.pairwise_append.2 ⟨ha.1, List.pairwise_cons.2 ⟨fun b hm => hc.1 b hm, hc.2⟩, fun a hm b hb => ?_⟩, fun b hm => ?_, fun n hm => ?_, fun n hm => ?_, fun n hm => ?_⟩
 ·simp only [List.mem_append, List.mem_cons] at hm
  rcases hm with hm | rfl | hm
  ·exact h.ours b (by simp [hm])
  ·exact hg
  ·exact h.ours b (by simp [hm])
 ·rcases List.mem_cons.1 hb with rfl | hb
  ·exact ha.2.2 a hm (g, cs, t) (by simp)
  ·exact ha.2.2 a hm b (by simp [hb])
 ·simp only [List.mem_append, List.mem_cons] at hm
  rcases hm with hm | rfl | hm
  ·exact bF (h.blks b (by simp [hm])) (ha.2.2 b hm (g, cs, t) (by simp)) u
  ·exact bp hb i u e
  ·exact bF (h.blks b (by simp [hm])) (hc.1 b hm).symm u
 ·exact Kd.S_mono (Kd.S_far (p := ⟨g, i, none⟩) (Kd.S_types (h.nets n hm) hb ht.1) (fun _ hk => hk.2) u) (fun _ _ => trivial)
 ·exact Kd.S_mono (Kd.S_far (p := ⟨g, i, none⟩) (Kd.S_types (h.rows n hm) hb ht.2.1) (fun _ hk => hk.2) u) (fun _ _ => trivial)
 ·exact Kd.R_set (h.ends n hm) hb ht.2.2 i u
/-- A net of ours is read where it is called for. -/
theorem Hold.read (h : Hold w W bs ns rs es) {v : Value} {L : List (List S82)} (hm : (v, L) ∈ ns) : ∃ A c, v = .slice A L.length c ∧ L.length ≤ c ∧ Kd.C (Kd.slice 82 k82) W A L.length L := Kd.R_reads (Kd.S_R (h.nets _ hm))
theorem Hold.refl (w : World) : Hold w w [] [] [] [] := ⟨Below.refl _ _, by simp, List.Pairwise.nil, by simp, by simp, by simp, by simp⟩
end
/-- Three boxes side by side. -/
def Boxes3 (g : Nat) (c0 c1 c2 : Array Value) (W : World) : Prop := W.heap[g]? = some (.cells c0 25 (0, 0)) ∧ W.heap[g + 1]? = some (.cells c1 25 (0, 0)) ∧ W.heap[g + 1 + 1]? = some (.cells c2 28 (0, 0))
theorem Boxes3.step {g : Nat} {c0 c1 c2 : Array Value} {W W' : World} (h : Boxes3 g c0 c1 c2 W) (hb : Below W.heap.size W W') : Boxes3 g c0 c1 c2 W' := ⟨bbz h.1 hb, bbz h.2.1 hb, bbz h.2.2 hb⟩

end Go.Proofs.Ytelkjbacdpmnfaa.A
