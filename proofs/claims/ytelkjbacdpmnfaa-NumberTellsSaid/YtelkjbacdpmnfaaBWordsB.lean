/- Contracts. -/
import Derived.Test.YtelkjbacdpmnfaaB0
namespace Go.Proofs.Ytelkjbacdpmnfaa.A
open Go.RowKit Go.W_.PrintWords Go.W_.PrintLast Go.W_.PrintMore
attribute [local go_sem] max2_int min2_int max_two min_two max_three min_three max_four min_four
set_option linter.unusedVariables false
set_option linter.unusedSimpArgs false

section
variable {P : Program} {ops : Array Oper} {Q : Exit → Act → World → Prop}
/-- i has run, too. -/
def also (d : Nat → Bool) (i : Nat) : Nat → Bool := fun j => if j = i then true else d j
theorem also_self (d : Nat → Bool) (i : Nat) : also d i i = true := by simp [also]
theorem also_old {d : Nat → Bool} {j : Nat} (i : Nat) (h : d j = true) : also d i j = true := by simp [also, h]
theorem also_ne (d : Nat → Bool) {i j : Nat} (h : j ≠ i) : also d i j = d j := by simp [also, h]
def StepOne (P : Program) (ops : Array Oper) (Q : Exit → Act → World → Prop) (Inv : (Nat → Bool) → Act → World → Prop) (i : Nat) (oi : Oper) : Prop :=
 ∀ d a w, Inv d a w → d i = false → (∀ j oj, ops[j]? = some oj → d j = true → (oj.after.toList.all fun e => !Region.binds .any e || d e.on) = true) → (oi.after.toList.all fun e => !Region.binds .any e || d e.on) = true → ∀ K : Act → World → Prop, Shut (∀ a' w', Inv (also d i) a' w' → K a' w') → if Region.wanted oi (yielded ops a.tmps) = true then Oper.wp P oi a w K Q else K (a.put oi.dst undef) w
def StepAll (P : Program) (ops : Array Oper) (Q : Exit → Act → World → Prop) (Inv : (Nat → Bool) → Act → World → Prop) : Nat → List Oper → Prop
 | _, [] => True
 | i, o :: r => StepOne P ops Q Inv i o ∧ StepAll P ops Q Inv (i + 1) r
theorem StepAll.at {Inv : (Nat → Bool) → Act → World → Prop} : ∀ {r : List Oper} {k : Nat}, StepAll P ops Q Inv k r → ∀ {j : Nat} {oi : Oper}, r[j]? = some oi → StepOne P ops Q Inv (k + j) oi
 | [], _, _, _, _, h => by simp at h
 | o :: r, k, hs, 0, oi, h => by
  simp at h
  subst h
  exact hs.1
 | o :: r, k, hs, j + 1, oi, h => by
  have := StepAll.at hs.2 (j := j) (by simpa using h)
  have e : k + 1 + j = k + (j + 1) := by omega
  rwa [e] at this
def upB (ops : Array Oper) : Bool := (List.range ops.size).all fun i => ((ops[i]?).map fun o => o.after.all fun e => !Region.binds .any e || decide (e.on < i)).getD true
theorem todo_lt (d : Nat → Bool) (i : Nat) (hd : d i = false) : ∀ l : List Nat, l.countP (fun j => !also d i j) ≤ l.countP (fun j => !d j) ∧ (i ∈ l → l.countP (fun j => !also d i j) < l.countP (fun j => !d j))
 | [] => by simp
 | x :: l => by
  have ih := todo_lt d i hd l
  by_cases hx : x = i
  ·subst hx
   simp only [List.countP_cons, also_self, hd, Bool.not_true, Bool.not_false]
   simp only [if_true, Bool.false_eq_true, if_false]
   exact ⟨by omega, fun _ => by omega⟩
  ·simp only [List.countP_cons, also_ne d hx]
   refine ⟨by omega, fun hm => ?_⟩
   have := ih.2 ((List.mem_cons.1 hm).resolve_left (fun e => hx e.symm))
   omega
theorem any_order {id : Nat} {a : Act} {w : World} (n : Nat) (Inv : Act → (Nat → Bool) → Act → World → Prop) (hm : P.follows .mixedOrders = true) (hn : ops.size = n) (hup : upB ops = true) (h0 : Inv a (fun _ => false) a w.drew)
  (hstep : ∀ Q', StepAll P ops Q' (Inv a) 0 ops.toList) (hend : ∀ d a' w, Inv a d a' w → (∀ i, i < n → d i = true) → Q .normal a' w) : (Code.region id ops true).wp P Q a w := by
 subst hn
 have hstep := hstep Q
 generalize Inv a = Inv at h0 hstep hend
 refine wp_region_any hm ?_
 have all_of : ∀ listed : Array Bool, listed.size = ops.size → Region.ready .any ops listed = [] → ∀ i, i < ops.size → listed.getD i true = true := by
  intro listed hz hr i
  induction i using Nat.strongRecOn with
  | _ i ih =>
   intro hi
   by_cases h : listed.getD i true = true
   ·exact h
   ·have h' : listed.getD i true = false := by simpa using h
    have hm : i ∈ Region.ready .any ops listed := by
     refine mem_ready.2 ⟨h', ops[i], Array.getElem?_eq_getElem hi, fun e he hb => ?_⟩
     have h1 := List.all_eq_true.1 hup i (List.mem_range.2 hi)
     simp only [Array.getElem?_eq_getElem hi, Option.map_some, Option.getD_some] at h1
     have h2 := Array.all_eq_true_iff_forall_mem.1 h1 e he
     simp only [hb, Bool.not_true, Bool.false_or, decide_eq_true_eq] at h2
     have h3 := ih e.on h2 (by omega)
     have h4 : e.on < listed.size := by omega
     simpa [Array.getD, h4] using h3
    rw [hr] at hm
    cases hm
 have main : ∀ (fuel : Nat) (listed : Array Bool) (d : Nat → Bool) (a : Act) (w : World), listed.size = ops.size → (∀ j, j < ops.size → listed.getD j true = d j) → (List.range ops.size).countP (fun j => !d j) ≤ fuel → Inv d a w → (∀ j oj, ops[j]? = some oj → d j = true → (oj.after.toList.all fun e => !Region.binds .any e || d e.on) = true) → wpAny P .any ops Q fuel listed a w := by
  intro fuel
  induction fuel with
  | zero =>
   intro listed d a w hz hl hn hI hcl
   have hall : ∀ j, j < ops.size → d j = true := fun j hj => by
    have h1 : (List.range ops.size).countP (fun j => !d j) = 0 := by omega
    have h2 := List.countP_eq_zero.1 h1 j (List.mem_range.2 hj)
    simpa using h2
   refine ⟨?_, hend d a w hI hall⟩
   rw [List.eq_nil_iff_forall_not_mem]
   intro j hj
   obtain ⟨h1, o, ho, _⟩ := mem_ready.1 hj
   have hlt : j < ops.size := (Array.getElem?_eq_some_iff.1 ho).1
   rw [hl j hlt, hall j hlt] at h1
   cases h1
  | succ fuel ih =>
   intro listed d a w hz hl hn hI hcl
   refine ⟨fun hr => hend d a w hI fun i hi => by rw [← hl i hi]; exact all_of listed hz hr i hi, fun i hi => ?_⟩
   obtain ⟨h1, oi, ho, hdep⟩ := mem_ready.1 hi
   have hlt : i < ops.size := (Array.getElem?_eq_some_iff.1 ho).1
   have hd : d i = false := by rw [← hl i hlt]; exact h1
   have hs := hstep.at (j := i) (oi := oi) (by simpa using ho)
   rw [Nat.zero_add] at hs
   have hdeps : (oi.after.toList.all fun e => !Region.binds .any e || d e.on) = true := by
    refine List.all_eq_true.2 fun e he => ?_
    have he := Array.mem_toList_iff.1 he
    cases hb : Region.binds .any e
    ·rfl
    ·have h2 := hdep e he hb
     have h3 : e.on < listed.size := by
      refine Nat.lt_of_not_le fun h => ?_
      simp [Array.getElem?_eq_none h] at h2
     have h4 := hl e.on (by omega)
     simp [h3] at h2 h4
     simp [← h4, h2]
   refine wpOp_step ho fun K' hK => hs d a w hI hd hcl hdeps K' (fun a' w' hI' => hK a' w' (ih _ (also d i) a' w' (by simpa using hz) (fun j hj => ?_) ?_ hI' ?_))
   ·by_cases hji : j = i
    ·subst hji
     rw [also_self]
     simp [hz, hj]
    ·rw [also_ne d hji, ← hl j hj]
     exact getD_set_ne true (fun e => hji e.symm)
   ·have := (todo_lt d i hd (List.range ops.size)).2 (List.mem_range.2 hlt)
    omega
   ·intro j oj hj hdj
    refine List.all_eq_true.2 fun e he => ?_
    by_cases hji : j = i
    ·subst hji
     obtain rfl : oj = oi := Option.some.inj (hj.symm.trans ho)
     have := List.all_eq_true.1 hdeps e he
     cases hb : Region.binds .any e
     ·rfl
     ·rw [hb] at this
      simpa using also_old j (by simpa using this)
    ·rw [also_ne d hji] at hdj
     have := List.all_eq_true.1 (hcl j oj hj hdj) e he
     cases hb : Region.binds .any e
     ·rfl
     ·rw [hb] at this
      simpa using also_old i (by simpa using this)
 exact main ops.size _ (fun _ => false) a _ (by simp) (fun j hj => by simp [hj]) (by simp) h0 (fun _ _ _ h => by cases h)
theorem none0 {p : Prop} {i : Nat} (h : (fun _ : Nat => false) i = true) : p := by cases h
theorem kept {d : Nat → Bool} {p : Prop} {j : Nat} (i : Nat) (f : d j = true → p) (h : (j == i) = false) : also d i j = true → p := by
 rw [also_ne d (by simpa using h)]
 exact f
theorem norm_if {oi : Oper} {a a' : Act} {w : World} {K : Act → World → Prop} (ha : a = a') (h : if Region.wanted oi (yielded ops a'.tmps) = true then Oper.wp P oi a' w K Q else K (a'.put oi.dst undef) w) : if Region.wanted oi (yielded ops a.tmps) = true then Oper.wp P oi a w K Q else K (a.put oi.dst undef) w := by
 subst ha
 exact h
/-- Where it was not yet, what waits for it has not run. -/
theorem not_yet {d : Nat → Bool} {ops : Array Oper} (hcl : ∀ j oj, ops[j]? = some oj → d j = true → (oj.after.toList.all fun e => !Region.binds .any e || d e.on) = true) (j i : Nat) {oj : Oper} (hj : ops[j]? = some oj) (hw : (oj.after.toList.any fun e => Region.binds .any e && e.on == i) = true) (hi : d i = false) : d j = false := by
 refine Bool.eq_false_iff.2 fun h => ?_
 obtain ⟨e, he, h1⟩ := List.any_eq_true.1 hw
 have h2 := List.all_eq_true.1 (hcl j oj hj h) e he
 simp only [Bool.and_eq_true, beq_iff_eq] at h1
 rw [h1.1, h1.2, hi] at h2
 cases h2
theorem has_run {d : Nat → Bool} {o : Oper} (hdep : (o.after.toList.all fun e => !Region.binds .any e || d e.on) = true) (i : Nat) (hw : (o.after.toList.any fun e => Region.binds .any e && e.on == i) = true) : d i = true := by
 obtain ⟨e, he, h1⟩ := List.any_eq_true.1 hw
 have h2 := List.all_eq_true.1 hdep e he
 simp only [Bool.and_eq_true, beq_iff_eq] at h1
 rw [h1.1, h1.2] at h2
 simpa using h2
theorem ei {α : Sort _} {p : α → Prop} {R : Prop} (h : ∀ x, p x → R) : (∃ x, p x) → R := fun ⟨x, hx⟩ => h x hx
/-- One, or none. -/
def optl {α : Type} (b : Bool) (x : α) : List α := bif b then [x] else []
def sel {α : Type} (b : Bool) (x y : α) : α := bif b then y else x
end
theorem calls_new {f : FuncId} {args : Array Value} {v W : World} {Q : Ending → World → Prop} {F : World → Prop} (hb : Below v.heap.size v W) (hF : F W) (k : ∀ W, Below v.heap.size v W → F W → Calls Try.prog f args W Q) : Calls Try.prog f args W Q := k W hb hF
theorem cells3 {W : World} {g t : Nat} {a b c : Value} (h : W.heap[g]? = some (.cells #[a, b, c] t (0, 0))) : W.cell? ⟨g, 0, none⟩ = some a ∧ W.cell? ⟨g, 1, none⟩ = some b ∧ W.cell? ⟨g, 2, none⟩ = some c := ⟨(bc h 0).trans rfl, (bc h 1).trans rfl, (bc h 2).trans rfl⟩
theorem cells4 {W : World} {g t : Nat} {a b c d : Value} (h : W.heap[g]? = some (.cells #[a, b, c, d] t (0, 0))) : W.cell? ⟨g, 0, none⟩ = some a ∧ W.cell? ⟨g, 1, none⟩ = some b ∧ W.cell? ⟨g, 2, none⟩ = some c ∧ W.cell? ⟨g, 3, none⟩ = some d := ⟨(bc h 0).trans rfl, (bc h 1).trans rfl, (bc h 2).trans rfl, (bc h 3).trans rfl⟩
/-- What stands behind some steps: elder memory, blocks of ours, nets, automata's rows and ends. -/
structure Hold (w W : World) (bs : List (Nat × Array Value × TypeId)) (ns : List (Value × List (List S82))) (rs : List (Value × List (List Int))) (es : List (Value × List Bool)) : Prop where
 low : Below w.heap.size w W
 ours : ∀ b ∈ bs, w.heap.size ≤ b.1
 apart : bs.Pairwise (fun a b => a.1 ≠ b.1)
 blks : ∀ b ∈ bs, W.heap[b.1]? = some (.cells b.2.1 b.2.2 (0, 0))
 nets : ∀ n ∈ ns, Kd.S (Kd.slice 82 k82) 79 W w.heap.size (fun _ => True) n.1 n.2
 rows : ∀ n ∈ rs, Kd.S (Kd.slice 3 (Kd.int .i64)) 45 W w.heap.size (fun _ => True) n.1 n.2
 ends : ∀ n ∈ es, Kd.bool.R 4 W w.heap.size (fun _ => True) n.1 n.2
section
variable {w W W' : World} {bs b1 b2 : List (Nat × Array Value × TypeId)} {ns : List (Value × List (List S82))} {rs : List (Value × List (List Int))} {es : List (Value × List Bool)}
theorem Hold.step (h : Hold w W bs ns rs es) (hb : Below W.heap.size W W') : Hold w W' bs ns rs es :=
 ⟨bsz h.low hb, h.ours, h.apart, fun b hm => bb (h.blks b hm) hb, fun n hm => Kd.S_below (h.nets n hm) hb, fun n hm => Kd.S_below (h.rows n hm) hb, fun n hm => Kd.R_below (h.ends n hm) hb⟩
theorem Hold.net (h : Hold w W bs ns rs es) {v : Value} {L : List (List S82)} (hS : Kd.S (Kd.slice 82 k82) 79 W' W.heap.size (fun _ => True) v L) (hb : Below W.heap.size W W') : Hold w W' bs ((v, L) :: ns) rs es := by
 have h' := h.step hb
 refine ⟨h'.low, h'.ours, h'.apart, h'.blks, fun n hm => ?_, h'.rows, h'.ends⟩
 rcases List.mem_cons.1 hm with rfl | hm
 ·exact Kd.S_lower hS h.low.size
 ·exact h'.nets n hm
theorem Hold.aut (h : Hold w W bs ns rs es) {v v' : Value} {L : List (List Int)} {l : List Bool} (hS : Kd.S (Kd.slice 3 (Kd.int .i64)) 45 W' W.heap.size (fun _ => True) v L) (hR : Kd.bool.R 4 W' W.heap.size (fun _ => True) v' l) (hb : Below W.heap.size W W') : Hold w W' bs ns ((v, L) :: rs) ((v', l) :: es) := by
 have h' := h.step hb
 refine ⟨h'.low, h'.ours, h'.apart, h'.blks, h'.nets, fun n hm => ?_, fun n hm => ?_⟩
 ·rcases List.mem_cons.1 hm with rfl | hm
  ·exact Kd.S_lower hS h.low.size
  ·exact h'.rows n hm
 ·rcases List.mem_cons.1 hm with rfl | hm
  ·exact Kd.R_lower hR h.low.size
  ·exact h'.ends n hm
theorem Hold.alloc (h : Hold w W (b1 ++ b2) ns rs es) (cs : Array Value) (t : TypeId) : Hold w (W.alloc (.cells cs t)) (b1 ++ (W.heap.size, cs, t) :: b2) ns rs es := by
 have h' := h.step (ba (Below.refl W.heap.size W) (.cells cs t))
 refine ⟨h'.low, fun b hm => ?_, ?_, fun b hm => ?_, h'.nets, h'.rows, h'.ends⟩
 ·simp only [List.mem_append, List.mem_cons] at hm
  rcases hm with hm | rfl | hm
  ·exact h.ours b (by simp [hm])
  ·exact h.low.size
  ·exact h.ours b (by simp [hm])
 ·have ha := List.pairwise_append.1 h.apart
  have hlt : ∀ b ∈ b1 ++ b2, b.1 ≠ W.heap.size := fun b hm e => by have := blk_lt (h.blks b hm); omega
  refine List.pairwise_append.2 ⟨ha.1, List.pairwise_cons.2 ⟨fun b hm e => hlt b (by simp [hm]) e.symm, ha.2.1⟩, fun a hm b hb => ?_⟩
  rcases List.mem_cons.1 hb with rfl | hb
  ·exact hlt a (by simp [hm])
  ·exact ha.2.2 a hm b hb
 simp only [List.mem_append, List.mem_cons] at hm
 rcases hm with hm | rfl | hm
 ·exact h'.blks b (by simp [hm])
 ·exact bn W (.cells cs t)
 ·exact h'.blks b (by simp [hm])
theorem Hold.drew (h : Hold w W bs ns rs es) : Hold w W.drew bs ns rs es := h.step (bD (Below.refl _ _))
/-- A block's type is none of those that nets, rows and ends lie in. -/
def Own (t : TypeId) : Prop := (∀ q, q ∈ 79 :: (Kd.slice 82 k82).E → q ≠ t) ∧ (∀ q, q ∈ 45 :: (Kd.slice 3 (Kd.int .i64)).E → q ≠ t) ∧ (∀ q, q ∈ 4 :: Kd.bool.E → q ≠ t)
theorem Hold.put {g : Nat} {cs cs' : Array Value} {t : TypeId} (h : Hold w W (b1 ++ (g, cs, t) :: b2) ns rs es) (i : Nat) (u : Value) (ht : Own t) (e : cs.setIfInBounds i u = cs') : Hold w (W.setCell ⟨g, i, none⟩ u) (b1 ++ (g, cs', t) :: b2) ns rs es := by
 have hb := h.blks (g, cs, t) (by simp)
 have ha := List.pairwise_append.1 h.apart
 have hc := List.pairwise_cons.1 ha.2.1
 have hg : w.heap.size ≤ g := h.ours (g, cs, t) (by simp)
 refine ⟨h.low.setCell hg u, fun b hm => ?_, List.pairwise_append.2 ⟨ha.1, List.pairwise_cons.2 ⟨fun b hm => hc.1 b hm, hc.2⟩, fun a hm b hb => ?_⟩, fun b hm => ?_, fun n hm => ?_, fun n hm => ?_, fun n hm => ?_⟩
 ·simp only [List.mem_append, List.mem_cons] at hm
  rcases hm with hm | rfl | hm
  ·exact h.ours b (by simp [hm])
  ·exact hg
  ·exact h.ours b (by simp [hm])
 ·rcases List.mem_cons.1 hb with rfl | hb
  ·exact ha.2.2 a hm (g, cs, t) (by simp)
  ·exact ha.2.2 a hm b (by simp [hb])
 ·simp only [List.mem_append, List.mem_cons] at hm
  rcases hm with hm | rfl | hm
  ·exact bF (h.blks b (by simp [hm])) (ha.2.2 b hm (g, cs, t) (by simp)) u
  ·exact bp hb i u e
  ·exact bF (h.blks b (by simp [hm])) (hc.1 b hm).symm u
 ·exact Kd.S_mono (Kd.S_far (p := ⟨g, i, none⟩) (Kd.S_types (h.nets n hm) hb ht.1) (fun _ hk => hk.2) u) (fun _ _ => trivial)
 ·exact Kd.S_mono (Kd.S_far (p := ⟨g, i, none⟩) (Kd.S_types (h.rows n hm) hb ht.2.1) (fun _ hk => hk.2) u) (fun _ _ => trivial)
 ·exact Kd.R_set (h.ends n hm) hb ht.2.2 i u
theorem own25 : Own 25 := ⟨by decide, by decide, by decide⟩
/-- A net of ours is read where it is called for. -/
theorem Hold.read (h : Hold w W bs ns rs es) {v : Value} {L : List (List S82)} (hm : (v, L) ∈ ns) : ∃ A c, v = .slice A L.length c ∧ L.length ≤ c ∧ Kd.C (Kd.slice 82 k82) W A L.length L := Kd.R_reads (Kd.S_R (h.nets _ hm))
theorem Hold.readRows (h : Hold w W bs ns rs es) {v : Value} {L : List (List Int)} (hm : (v, L) ∈ rs) : ∃ A c, v = .slice A L.length c ∧ L.length ≤ c ∧ Kd.C (Kd.slice 3 (Kd.int .i64)) W A L.length L := Kd.R_reads (Kd.S_R (h.rows _ hm))
theorem Hold.readEnds (h : Hold w W bs ns rs es) {v : Value} {L : List Bool} (hm : (v, L) ∈ es) : ∃ A c, v = .slice A L.length c ∧ L.length ≤ c ∧ Kd.C Kd.bool W A L.length L := Kd.R_reads (h.ends _ hm)
theorem Hold.C_rows (h : Hold w W bs ns rs es) {A : Option Addr} {c n : Nat} {L : List (List Int)} (hm : (.slice A n c, L) ∈ rs) : n = L.length ∧ L.length ≤ c ∧ Kd.C (Kd.slice 3 (Kd.int .i64)) W A L.length L := by
 obtain ⟨A', c', e, h1, h2⟩ := h.readRows hm
 cases e
 exact ⟨rfl, h1, h2⟩
theorem Hold.C_ends (h : Hold w W bs ns rs es) {A : Option Addr} {c n : Nat} {L : List Bool} (hm : (.slice A n c, L) ∈ es) : n = L.length ∧ L.length ≤ c ∧ Kd.C Kd.bool W A L.length L := by
 obtain ⟨A', c', e, h1, h2⟩ := h.readEnds hm
 cases e
 exact ⟨rfl, h1, h2⟩
theorem Hold.refl (w : World) : Hold w w [] [] [] [] := ⟨Below.refl _ _, by simp, List.Pairwise.nil, by simp, by simp, by simp, by simp⟩
end
/-- Three boxes side by side. -/
def Boxes3 (g : Nat) (c0 c1 c2 : Array Value) (W : World) : Prop := W.heap[g]? = some (.cells c0 25 (0, 0)) ∧ W.heap[g + 1]? = some (.cells c1 25 (0, 0)) ∧ W.heap[g + 1 + 1]? = some (.cells c2 28 (0, 0))
theorem Boxes3.step {g : Nat} {c0 c1 c2 : Array Value} {W W' : World} (h : Boxes3 g c0 c1 c2 W) (hb : Below W.heap.size W W') : Boxes3 g c0 c1 c2 W' := ⟨bb h.1 hb, bb h.2.1 hb, bb h.2.2 hb⟩

end Go.Proofs.Ytelkjbacdpmnfaa.A
