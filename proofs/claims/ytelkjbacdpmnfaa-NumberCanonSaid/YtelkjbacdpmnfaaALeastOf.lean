/- By a program, out of the translation (wip/myprint.py). -/
import Derived.Test.YtelkjbacdpmnfaaA0
import Derived.Test.YtelkjbacdpmnfaaALeastClasses
import Derived.Test.YtelkjbacdpmnfaaALeastReach
import Derived.Test.YtelkjbacdpmnfaaAPlainBase
import Derived.Test.YtelkjbacdpmnfaaAPlainGood
import Derived.Test.YtelkjbacdpmnfaaAThompsonGood
import Derived.Test.YtelkjbacdpmnfaaAWordsA
import Derived.Maps.OwnSet
import Derived.DeepKeys5
namespace Go.Proofs.Ytelkjbacdpmnfaa.A
open Go.RowKit Go.Proofs.YtelkjbacdpmnfaaW.PrintWords Go.Proofs.YtelkjbacdpmnfaaW.PrintLast Go.Proofs.YtelkjbacdpmnfaaW.PrintMore
attribute [local go_sem] max2_int min2_int max_two min_two max_three min_three max_four min_four   -- for this text's walks alone
set_option linter.unusedVariables false
set_option linter.unusedSimpArgs false

/-! ### least_Of: function 48 -/
def least_Of.f (k : Nat) (a0_0 : Int) (l0_1 : List (List Int)) (l0_2 : List Bool) : Option (Int × (List (List Int)) × List Bool × Bool) := (thompson_Good.f a0_0 l0_1 l0_2).bind fun g => if g = true then (least_Reach.f k a0_0 l0_1 l0_2).bind fun R => (least_Classes.f k a0_0 l0_1 l0_2).bind fun C => if ofOk l0_1 l0_2 R C = true then some (a0_0, ofNext l0_1 C (keptTo R C l0_1.length) (keptTo R C l0_1.length), ofEnds l0_2 (keptTo R C l0_1.length), true) else none else some (0, [], [], false)
theorem least_Of.mono : ∀ a0_0 l0_1 l0_2 k, LeO (least_Of.f k a0_0 l0_1 l0_2) (least_Of.f (k + 1) a0_0 l0_1 l0_2) := by
  intro a0_0 l0_1 l0_2 k
  unfold least_Of.f
  refine LeO.bind (LeO.refl _) fun g => ?_
  split
  · exact LeO.bind (least_Reach.mono _ _ _ _) fun _ => LeO.bind (least_Classes.mono _ _ _ _) fun _ => LeO.refl _
  · exact LeO.refl _
def least_of.T25 : Bool × List (List Nat × List Nat) := (true, [([], []), ([0], [0]), ([], []), ([2], [2]), ([], []), ([3, 4], [3, 4]), ([5], [5]), ([6], [6]), ([1, 7], [1, 7]), ([0, 1, 2, 3, 4, 5, 6, 7, 8], []), ([9, 8, 8, 0, 1, 2, 3, 4, 5, 6, 7, 8], [8, 9])])
def least_of.B25 : List Nat := [0, 1, 0, 4, 0, 28, 60, 124, 255, 511, 1023]
theorem least_of.tab25 : rtab .any (opsOf Try.f48 25) = least_of.T25 := by kernel_rfl
theorem least_of.bits25 : waitsOk least_of.T25.2 least_of.B25 = true := by kernel_rfl
set_option maxHeartbeats 4000000 in
set_option maxRecDepth 100000 in
theorem least_Of.bad (a : Int) (A1 : Option Addr) (c1 : Nat) (nx : List (List Int)) (A2 : Option Addr) (c2 : Nat) (ac : List Bool) (w : World) (hr1 : Kd.C (Kd.slice 3 (Kd.int .i64)) w A1 nx.length nx) (hc1 : nx.length ≤ c1) (hr2 : Kd.C Kd.bool w A2 ac.length ac) (hc2 : ac.length ≤ c2) (hg : thompson_Good.f a nx ac = some false) :
    Calls Try.prog 48 #[.agg #[.int .i64 a, .slice A1 nx.length c1, .slice A2 ac.length c2]] w fun e w' => ∃ v1_ v2_ : Value, e = .returned (.tuple #[.agg #[.int .i64 0, v1_, v2_], .bool false]) ∧ Kd.S (Kd.slice 3 (Kd.int .i64)) 45 w' w.heap.size (fun _ => True) v1_ (([] : List (List Int))) ∧ Kd.R Kd.bool 4 w' w.heap.size (fun _ => True) v2_ (([] : List Bool)) ∧ Below w.heap.size w w' := by
  have hu25 := Try.underlying25
  have hu99 := under99
  have hu45 := Try.underlying45
  have hu22 := Try.underlying22
  have hu23 := Try.underlying23
  have hmm := @run_makeMap Try.prog
  have HR1 := Aside0.mk hr1
  have HR2 := Aside0.mk hr2
  have HG := Aside0.mk hg
  clear hr1 hr2 hg
  have HH : Aside0 (Below w.heap.size w ((w.alloc (Obj.cells #[.int .i64 a, .slice A1 nx.length c1, .slice A2 ac.length c2] 25)).alloc (Obj.cells #[.int .i64 0, .slice none 0 0, .slice none 0 0] 25)) ∧ ((w.alloc (Obj.cells #[.int .i64 a, .slice A1 nx.length c1, .slice A2 ac.length c2] 25)).alloc (Obj.cells #[.int .i64 0, .slice none 0 0, .slice none 0 0] 25)).heap[w.heap.size]? = some (.cells #[.int .i64 a, .slice A1 nx.length c1, .slice A2 ac.length c2] 25 (0, 0)) ∧ ((w.alloc (Obj.cells #[.int .i64 a, .slice A1 nx.length c1, .slice A2 ac.length c2] 25)).alloc (Obj.cells #[.int .i64 0, .slice none 0 0, .slice none 0 0] 25)).heap[w.heap.size + 1]? = some (.cells #[.int .i64 0, .slice none 0 0, .slice none 0 0] 25 (0, 0))) := ⟨⟨below_alloc (below_alloc (Below.refl _ _) _) _, blk_alloc (blk_new w (.cells #[.int .i64 a, .slice A1 nx.length c1, .slice A2 ac.length c2] 25)) _, by have h_ := blk_new (w.alloc (.cells #[.int .i64 a, .slice A1 nx.length c1, .slice A2 ac.length c2] 25)) (.cells #[.int .i64 0, .slice none 0 0, .slice none 0 0] 25); rwa [show (w.alloc (.cells #[.int .i64 a, .slice A1 nx.length c1, .slice A2 ac.length c2] 25)).heap.size = w.heap.size + 1 by simp] at h_⟩⟩
  have c0_ : ((w.alloc (Obj.cells #[.int .i64 a, .slice A1 nx.length c1, .slice A2 ac.length c2] 25)).alloc (Obj.cells #[.int .i64 0, .slice none 0 0, .slice none 0 0] 25)).cell? ⟨w.heap.size, 0, none⟩ = some (.int .i64 a) := (blk_cell HH.out.2.1 0).trans rfl
  have c1_ : ((w.alloc (Obj.cells #[.int .i64 a, .slice A1 nx.length c1, .slice A2 ac.length c2] 25)).alloc (Obj.cells #[.int .i64 0, .slice none 0 0, .slice none 0 0] 25)).cell? ⟨w.heap.size, 1, none⟩ = some (.slice A1 nx.length c1) := (blk_cell HH.out.2.1 1).trans rfl
  have c2_ : ((w.alloc (Obj.cells #[.int .i64 a, .slice A1 nx.length c1, .slice A2 ac.length c2] 25)).alloc (Obj.cells #[.int .i64 0, .slice none 0 0, .slice none 0 0] 25)).cell? ⟨w.heap.size, 2, none⟩ = some (.slice A2 ac.length c2) := (blk_cell HH.out.2.1 2).trans rfl
  have z0_ : ((w.alloc (Obj.cells #[.int .i64 a, .slice A1 nx.length c1, .slice A2 ac.length c2] 25)).alloc (Obj.cells #[.int .i64 0, .slice none 0 0, .slice none 0 0] 25)).cell? ⟨w.heap.size + 1, 0, none⟩ = some (.int .i64 0) := (blk_cell HH.out.2.2 0).trans rfl
  have z1_ : ((w.alloc (Obj.cells #[.int .i64 a, .slice A1 nx.length c1, .slice A2 ac.length c2] 25)).alloc (Obj.cells #[.int .i64 0, .slice none 0 0, .slice none 0 0] 25)).cell? ⟨w.heap.size + 1, 1, none⟩ = some (.slice none 0 0) := (blk_cell HH.out.2.2 1).trans rfl
  have z2_ : ((w.alloc (Obj.cells #[.int .i64 a, .slice A1 nx.length c1, .slice A2 ac.length c2] 25)).alloc (Obj.cells #[.int .i64 0, .slice none 0 0, .slice none 0 0] 25)).cell? ⟨w.heap.size + 1, 2, none⟩ = some (.slice none 0 0) := (blk_cell HH.out.2.2 2).trans rfl
  have zf0_ := blk_frozen HH.out.2.2 0
  have zf1_ := blk_frozen HH.out.2.2 1
  have zf2_ := blk_frozen HH.out.2.2 2
  go_enter Try.func48, Try.ntmps48
  go_wp2_with (first | (go_at_call 36; have hF_ := HG.out; refine (thompson_Good.calls a A1 c1 nx A2 c2 ac false _ (Kd.C_below HR1.out HH.out.1) hc1 (Kd.C_below HR2.out HH.out.1) hc2 hF_).mono ?_; clear hF_ HG; rintro e wl ⟨rfl, hb⟩; have m0_ : Aside0 (Below w.heap.size w wl ∧ wl.heap[w.heap.size]? = some (.cells #[.int .i64 a, .slice A1 nx.length c1, .slice A2 ac.length c2] 25 (0, 0)) ∧ wl.heap[w.heap.size + 1]? = some (.cells #[.int .i64 0, .slice none 0 0, .slice none 0 0] 25 (0, 0))) := ⟨⟨below_step HH.out.1 hb, blk_below HH.out.2.1 hb, blk_below HH.out.2.2 hb⟩⟩; clear HH hb; have HH := m0_; clear m0_; (try clear c0_ c1_ c2_ z0_ z1_ z2_ zf0_ zf1_ zf2_); have c0_ : wl.cell? ⟨w.heap.size, 0, none⟩ = some (.int .i64 a) := (blk_cell HH.out.2.1 0).trans rfl; have c1_ : wl.cell? ⟨w.heap.size, 1, none⟩ = some (.slice A1 nx.length c1) := (blk_cell HH.out.2.1 1).trans rfl; have c2_ : wl.cell? ⟨w.heap.size, 2, none⟩ = some (.slice A2 ac.length c2) := (blk_cell HH.out.2.1 2).trans rfl; have z0_ : wl.cell? ⟨w.heap.size + 1, 0, none⟩ = some (.int .i64 0) := (blk_cell HH.out.2.2 0).trans rfl; have z1_ : wl.cell? ⟨w.heap.size + 1, 1, none⟩ = some (.slice none 0 0) := (blk_cell HH.out.2.2 1).trans rfl; have z2_ : wl.cell? ⟨w.heap.size + 1, 2, none⟩ = some (.slice none 0 0) := (blk_cell HH.out.2.2 2).trans rfl; have zf0_ := blk_frozen HH.out.2.2 0; have zf1_ := blk_frozen HH.out.2.2 1; have zf2_ := blk_frozen HH.out.2.2 2))
  have hb_ := blk_put (cs' := #[.int .i64 0, .slice none 0 0, .slice none 0 0]) (blk_put (cs' := #[.int .i64 0, .slice none 0 0, .slice none 0 0]) (blk_put (cs' := #[.int .i64 0, .slice none 0 0, .slice none 0 0]) HH.out.2.2 0 (.int .i64 0) rfl) 1 (.slice none 0 0) rfl) 2 (.slice none 0 0) rfl
  refine bodyPost_ret (results_ct (by rfl) _ _ (w.heap.size + 1) 25 #[.int .i64 0, .slice none 0 0, .slice none 0 0] (0, 0) _ (by rfl) (by exact hb_) Try.underlying25 (by rfl) (by kernel_rfl)) (by rfl) ?_
  exact ⟨_, _, rfl, Kd.S_nil _ _ _ _ _, Kd.R_nil _ _ _ _ _, ((HH.out.1.setCell (by simp) _).setCell (by simp) _).setCell (by simp) _⟩
set_option maxHeartbeats 16000000 in
set_option maxRecDepth 100000 in
theorem least_Of.main (k : Nat) (a : Int) (A1 : Option Addr) (c1 : Nat) (nx : List (List Int)) (A2 : Option Addr) (c2 : Nat) (ac : List Bool) (R : List Bool) (C : List Int) (w : World) (hr1 : Kd.C (Kd.slice 3 (Kd.int .i64)) w A1 nx.length nx) (hc1 : nx.length ≤ c1) (hr2 : Kd.C Kd.bool w A2 ac.length ac) (hc2 : ac.length ≤ c2) (hg : thompson_Good.f a nx ac = some true) (hR : least_Reach.f k a nx ac = some R) (hC : least_Classes.f k a nx ac = some C) (hok : OfOk nx ac R C) :
    Calls Try.prog 48 #[.agg #[.int .i64 a, .slice A1 nx.length c1, .slice A2 ac.length c2]] w fun e w' => ∃ v1_ v2_ : Value, e = .returned (.tuple #[.agg #[.int .i64 a, v1_, v2_], .bool true]) ∧ Kd.S (Kd.slice 3 (Kd.int .i64)) 45 w' w.heap.size (fun _ => True) v1_ (ofNext nx C (keptTo R C nx.length) (keptTo R C nx.length)) ∧ Kd.R Kd.bool 4 w' w.heap.size (fun _ => True) v2_ (ofEnds ac (keptTo R C nx.length)) ∧ Below w.heap.size w w' := by
  have HOK := Aside0.mk hok
  have HRF := Aside0.mk hR
  have HCF := Aside0.mk hC
  clear hok hR hC
  have hu25 := Try.underlying25
  have hu99 := under99
  have hu45 := Try.underlying45
  have hu22 := Try.underlying22
  have hu23 := Try.underlying23
  have hmm := @run_makeMap Try.prog
  have HR1 := Aside0.mk hr1
  have HR2 := Aside0.mk hr2
  have HG := Aside0.mk hg
  clear hr1 hr2 hg
  have HH : Aside0 (Below w.heap.size w ((w.alloc (Obj.cells #[.int .i64 a, .slice A1 nx.length c1, .slice A2 ac.length c2] 25)).alloc (Obj.cells #[.int .i64 0, .slice none 0 0, .slice none 0 0] 25)) ∧ ((w.alloc (Obj.cells #[.int .i64 a, .slice A1 nx.length c1, .slice A2 ac.length c2] 25)).alloc (Obj.cells #[.int .i64 0, .slice none 0 0, .slice none 0 0] 25)).heap[w.heap.size]? = some (.cells #[.int .i64 a, .slice A1 nx.length c1, .slice A2 ac.length c2] 25 (0, 0)) ∧ ((w.alloc (Obj.cells #[.int .i64 a, .slice A1 nx.length c1, .slice A2 ac.length c2] 25)).alloc (Obj.cells #[.int .i64 0, .slice none 0 0, .slice none 0 0] 25)).heap[w.heap.size + 1]? = some (.cells #[.int .i64 0, .slice none 0 0, .slice none 0 0] 25 (0, 0))) := ⟨⟨below_alloc (below_alloc (Below.refl _ _) _) _, blk_alloc (blk_new w (.cells #[.int .i64 a, .slice A1 nx.length c1, .slice A2 ac.length c2] 25)) _, by have h_ := blk_new (w.alloc (.cells #[.int .i64 a, .slice A1 nx.length c1, .slice A2 ac.length c2] 25)) (.cells #[.int .i64 0, .slice none 0 0, .slice none 0 0] 25); rwa [show (w.alloc (.cells #[.int .i64 a, .slice A1 nx.length c1, .slice A2 ac.length c2] 25)).heap.size = w.heap.size + 1 by simp] at h_⟩⟩
  have c0_ : ((w.alloc (Obj.cells #[.int .i64 a, .slice A1 nx.length c1, .slice A2 ac.length c2] 25)).alloc (Obj.cells #[.int .i64 0, .slice none 0 0, .slice none 0 0] 25)).cell? ⟨w.heap.size, 0, none⟩ = some (.int .i64 a) := (blk_cell HH.out.2.1 0).trans rfl
  have c1_ : ((w.alloc (Obj.cells #[.int .i64 a, .slice A1 nx.length c1, .slice A2 ac.length c2] 25)).alloc (Obj.cells #[.int .i64 0, .slice none 0 0, .slice none 0 0] 25)).cell? ⟨w.heap.size, 1, none⟩ = some (.slice A1 nx.length c1) := (blk_cell HH.out.2.1 1).trans rfl
  have c2_ : ((w.alloc (Obj.cells #[.int .i64 a, .slice A1 nx.length c1, .slice A2 ac.length c2] 25)).alloc (Obj.cells #[.int .i64 0, .slice none 0 0, .slice none 0 0] 25)).cell? ⟨w.heap.size, 2, none⟩ = some (.slice A2 ac.length c2) := (blk_cell HH.out.2.1 2).trans rfl
  have z0_ : ((w.alloc (Obj.cells #[.int .i64 a, .slice A1 nx.length c1, .slice A2 ac.length c2] 25)).alloc (Obj.cells #[.int .i64 0, .slice none 0 0, .slice none 0 0] 25)).cell? ⟨w.heap.size + 1, 0, none⟩ = some (.int .i64 0) := (blk_cell HH.out.2.2 0).trans rfl
  have z1_ : ((w.alloc (Obj.cells #[.int .i64 a, .slice A1 nx.length c1, .slice A2 ac.length c2] 25)).alloc (Obj.cells #[.int .i64 0, .slice none 0 0, .slice none 0 0] 25)).cell? ⟨w.heap.size + 1, 1, none⟩ = some (.slice none 0 0) := (blk_cell HH.out.2.2 1).trans rfl
  have z2_ : ((w.alloc (Obj.cells #[.int .i64 a, .slice A1 nx.length c1, .slice A2 ac.length c2] 25)).alloc (Obj.cells #[.int .i64 0, .slice none 0 0, .slice none 0 0] 25)).cell? ⟨w.heap.size + 1, 2, none⟩ = some (.slice none 0 0) := (blk_cell HH.out.2.2 2).trans rfl
  have zf0_ := blk_frozen HH.out.2.2 0
  have zf1_ := blk_frozen HH.out.2.2 1
  have zf2_ := blk_frozen HH.out.2.2 2
  go_enter Try.func48, Try.ntmps48
  go_wp2_with (first | (go_at_call 36; have hF_ := HG.out; refine (thompson_Good.calls a A1 c1 nx A2 c2 ac true _ (Kd.C_below HR1.out HH.out.1) hc1 (Kd.C_below HR2.out HH.out.1) hc2 hF_).mono ?_; clear hF_ HG; rintro e wl ⟨rfl, hb⟩; have m0_ : Aside0 (Below w.heap.size w wl ∧ wl.heap[w.heap.size]? = some (.cells #[.int .i64 a, .slice A1 nx.length c1, .slice A2 ac.length c2] 25 (0, 0)) ∧ wl.heap[w.heap.size + 1]? = some (.cells #[.int .i64 0, .slice none 0 0, .slice none 0 0] 25 (0, 0))) := ⟨⟨below_step HH.out.1 hb, blk_below HH.out.2.1 hb, blk_below HH.out.2.2 hb⟩⟩; clear HH hb; have HH := m0_; clear m0_; (try clear c0_ c1_ c2_ z0_ z1_ z2_ zf0_ zf1_ zf2_); have c0_ : wl.cell? ⟨w.heap.size, 0, none⟩ = some (.int .i64 a) := (blk_cell HH.out.2.1 0).trans rfl; have c1_ : wl.cell? ⟨w.heap.size, 1, none⟩ = some (.slice A1 nx.length c1) := (blk_cell HH.out.2.1 1).trans rfl; have c2_ : wl.cell? ⟨w.heap.size, 2, none⟩ = some (.slice A2 ac.length c2) := (blk_cell HH.out.2.1 2).trans rfl; have z0_ : wl.cell? ⟨w.heap.size + 1, 0, none⟩ = some (.int .i64 0) := (blk_cell HH.out.2.2 0).trans rfl; have z1_ : wl.cell? ⟨w.heap.size + 1, 1, none⟩ = some (.slice none 0 0) := (blk_cell HH.out.2.2 1).trans rfl; have z2_ : wl.cell? ⟨w.heap.size + 1, 2, none⟩ = some (.slice none 0 0) := (blk_cell HH.out.2.2 2).trans rfl; have zf0_ := blk_frozen HH.out.2.2 0; have zf1_ := blk_frozen HH.out.2.2 1; have zf2_ := blk_frozen HH.out.2.2 2))
  (try clear c0_ c1_ c2_ z0_ z1_ z2_ zf0_ zf1_ zf2_)
  refine start_ (n := 6) (S := fun w' => (Below w.heap.size w w' ∧ w'.heap[w.heap.size]? = some (.cells #[.int .i64 a, .slice A1 nx.length c1, .slice A2 ac.length c2] 25 (0, 0)) ∧ w'.heap[w.heap.size + 1]? = some (.cells #[.int .i64 0, .slice none 0 0, .slice none 0 0] 25 (0, 0)))) (ds := []) #[false, false, false, false, false, false] (by kernel_rfl) rfl rfl (⟨below_drew1 HH.out.1, blk_drew HH.out.2.1, blk_drew HH.out.2.2⟩) (fun hHeld => ?_)
  clear HH
  generalize wl.drew = wd at hHeld ⊢
  refine take_ (i := 0) (N := some 22) (v := ?_) (a' := ?_) #[true, false, false, false, false, false] rfl rfl (by kernel_rfl) (fun _ _ _ h => h) (Or.inl ⟨by rfl, ?_⟩) hHeld ?_ ?_
  rotate_left
  · intro w' s0
    have c0_ : w'.cell? ⟨w.heap.size, 0, none⟩ = some (.int .i64 a) := (blk_cell s0.2.1 0).trans rfl
    have c1_ : w'.cell? ⟨w.heap.size, 1, none⟩ = some (.slice A1 nx.length c1) := (blk_cell s0.2.1 1).trans rfl
    have c2_ : w'.cell? ⟨w.heap.size, 2, none⟩ = some (.slice A2 ac.length c2) := (blk_cell s0.2.1 2).trans rfl
    clear s0
    go_simp
    with_reducible rfl
  rotate_left
  · simp only [Act.put, List.setIfInBounds_toArray, List.set_cons_zero, List.set_cons_succ, i64_w, i32_w]
    rfl
  refine take_ (i := 2) (N := some 24) (v := ?_) (a' := ?_) #[true, false, true, false, false, false] rfl rfl (by kernel_rfl) (fun _ _ _ h => h) (Or.inl ⟨by rfl, ?_⟩) hHeld ?_ ?_
  rotate_left
  · intro w' s0
    have c0_ : w'.cell? ⟨w.heap.size, 0, none⟩ = some (.int .i64 a) := (blk_cell s0.2.1 0).trans rfl
    have c1_ : w'.cell? ⟨w.heap.size, 1, none⟩ = some (.slice A1 nx.length c1) := (blk_cell s0.2.1 1).trans rfl
    have c2_ : w'.cell? ⟨w.heap.size, 2, none⟩ = some (.slice A2 ac.length c2) := (blk_cell s0.2.1 2).trans rfl
    clear s0
    go_simp
    with_reducible rfl
  rotate_left
  · simp only [Act.put, List.setIfInBounds_toArray, List.set_cons_zero, List.set_cons_succ, i64_w, i32_w]
    rfl
  refine one_ (i := 1) (N := some 23) #[true, true, true, false, false, false] rfl rfl (by kernel_rfl) (by decide) (fun K hK => ?_)
  refine goes_ Try.func51 (by kernel_rfl) rfl #[.agg #[.int .i64 a, .slice A1 nx.length c1, .slice A2 ac.length c2]] (by rfl) rfl rfl (by simp only [List.map_toArray, List.map_cons, List.map_nil]; rfl) ?_
  with_reducible refine (least_Reach.calls k a A1 c1 nx A2 c2 ac R wd (Kd.C_below HR1.out hHeld.1) hc1 (Kd.C_below HR2.out hHeld.1) hc2 HRF.out).mono ?_
  rintro e we ⟨v4, rfl, hS_, hb_⟩
  refine ⟨_, rfl, ?_⟩
  have HRV := Aside0.mk (Kd.R_lower hS_ (below_size hHeld.1))
  refine hK.out _ _ (⟨below_step hHeld.1 hb_, blk_below hHeld.2.1 hb_, blk_below hHeld.2.2 hb_⟩) (fun hHeld => ?_)
  clear hK K
  refine norm_ (a' := ?_) ?_ ?_
  rotate_left
  · show Act.put _ (some 23) _ = _
    simp only [Act.put, List.setIfInBounds_toArray, List.set_cons_zero, List.set_cons_succ, i64_w, i32_w]
    rfl
  refine one_ (i := 3) (N := some 25) #[true, true, true, true, false, false] rfl rfl (by kernel_rfl) (by decide) (fun K hK => ?_)
  refine goes_ Try.func54 (by kernel_rfl) rfl #[.agg #[.int .i64 a, .slice A1 nx.length c1, .slice A2 ac.length c2]] (by rfl) rfl rfl (by simp only [List.map_toArray, List.map_cons, List.map_nil]; rfl) ?_
  with_reducible refine (least_Classes.calls k a A1 c1 nx A2 c2 ac C we (Kd.C_below HR1.out hHeld.1) hc1 (Kd.C_below HR2.out hHeld.1) hc2 HCF.out).mono ?_
  rintro e wf ⟨v5, rfl, hS_, hb_⟩
  refine ⟨_, rfl, ?_⟩
  have HCV := Aside0.mk (Kd.R_lower hS_ (below_size hHeld.1))
  replace HRV := Aside0.mk (Kd.R_below HRV.out hb_)
  refine hK.out _ _ (⟨below_step hHeld.1 hb_, blk_below hHeld.2.1 hb_, blk_below hHeld.2.2 hb_⟩) (fun hHeld => ?_)
  clear hK K
  refine norm_ (a' := ?_) ?_ ?_
  rotate_left
  · show Act.put _ (some 25) _ = _
    simp only [Act.put, List.setIfInBounds_toArray, List.set_cons_zero, List.set_cons_succ, i64_w, i32_w]
    rfl
  refine pure_ (i := 4) (N := some 4) (v := ?_) (a' := ?_) #[true, true, true, true, true, false] rfl rfl (by kernel_rfl) (fun _ _ _ h => h) (Or.inl ⟨by rfl, ?_⟩) ?_ ?_
  rotate_left
  · intro w'
    go_simp
    with_reducible rfl
  rotate_left
  · simp only [Act.put, List.setIfInBounds_toArray, List.set_cons_zero, List.set_cons_succ, i64_w, i32_w]
    rfl
  refine pure_ (i := 5) (N := some 5) (v := ?_) (a' := ?_) #[true, true, true, true, true, true] rfl rfl (by kernel_rfl) (fun _ _ _ h => h) (Or.inl ⟨by rfl, ?_⟩) ?_ ?_
  rotate_left
  · intro w'
    go_simp
    with_reducible rfl
  rotate_left
  · simp only [Act.put, List.setIfInBounds_toArray, List.set_cons_zero, List.set_cons_succ, i64_w, i32_w]
    rfl
  refine done_ (by kernel_rfl) ?_
  obtain ⟨A4, c4, rfl, hl4, hr4⟩ := Kd.R_reads HRV.out
  obtain ⟨A5, c5, rfl, hl5, hr5⟩ := Kd.R_reads HCV.out
  have EA : Aside0 (∀ W : World, Below wf.heap.size wf W → (Below w.heap.size w W ∧ W.heap[w.heap.size]? = some (.cells #[.int .i64 a, .slice A1 nx.length c1, .slice A2 ac.length c2] 25 (0, 0)) ∧ W.heap[w.heap.size + 1]? = some (.cells #[.int .i64 0, .slice none 0 0, .slice none 0 0] 25 (0, 0))) ∧ Kd.C Kd.bool W A4 R.length R ∧ Kd.C (Kd.int .i64) W A5 C.length C) := ⟨fun W hb => ⟨⟨below_step hHeld.1 hb, blk_below hHeld.2.1 hb, blk_below hHeld.2.2 hb⟩, Kd.C_below hr4 hb, Kd.C_below hr5 hb⟩⟩
  have HSZ := Aside0.mk hHeld.1.size
  have HRD := Aside0.mk hr4
  have HCD := Aside0.mk hr5
  clear HRV HCV hHeld hr4 hr5 hl4 hl5
  go_wp2
  obtain ⟨n, hn⟩ : ∃ n, n = nx.length := ⟨_, rfl⟩
  have HN := Aside0.mk hn
  have hRl : R.length = n := HOK.out.r.trans hn.symm
  have hCl : C.length = n := HOK.out.c.trans hn.symm
  have HRL := Aside0.mk hRl
  have HCL := Aside0.mk hCl
  have hn1 : n ≤ 1000 := by rw [hn]; exact HOK.out.n
  clear hn hRl hCl
  go_loopw [7, 29] (fun v7 v29 wr => ∃ (s : Nat) (K : List Int), s ≤ n ∧ v29 = .int .i64 (s : Int) ∧ Aside0 (K = keptTo R C s) ∧ Aside0 (IntMap wr wf.heap.size s (codesOf C K)) ∧ Aside0 (Kd.R (Kd.int .i64) 3 wr wf.heap.size (fun k_ => k_ ≠ wf.heap.size) v7 K) ∧ Aside0 (Below wf.heap.size wf wr)) (fun _ v29 _ => n - (intOf v29).toNat)
  case atStart => exact ⟨0, [], Nat.zero_le _, rfl, ⟨rfl⟩, ⟨IntMap.made wf⟩, ⟨Kd.R_nil _ _ _ _ _⟩, ⟨below_alloc (Below.refl _ _) _⟩⟩
  case round =>
    obtain ⟨s, K, hs, rfl, HKE, HM, HK, HB⟩ := hrel
    obtain ⟨A7, c7, rfl, -, -⟩ := Kd.R_reads HK.out
    have hKl : Aside0 (K.length ≤ s) := ⟨by rw [HKE.out]; exact keptTo_length _ _ _⟩
    by_cases hlt : s < n
    · have q1b : decide ((s : Int) < (R.length : Int)) = true := decide_eq_true (by rw [HRL.out]; omega)
      have p1 : (0 : Int) ≤ (s : Int) := by omega
      have q1 : (s : Int) < (R.length : Int) := by rw [HRL.out]; omega
      have q2 : (s : Int) < (C.length : Int) := by rw [HCL.out]; omega
      obtain ⟨ad4, ea4, hx4⟩ := Kd.at_bool HRD.out (s : Int) p1 q1
      obtain ⟨ad5, ea5, hx5⟩ := Kd.at_int HCD.out (s : Int) p1 q2
      cases ea4
      cases ea5
      replace hx4 := (HB.out.cell (World.block_lt_of_cell? _ _ hx4)).trans hx4
      replace hx5 := (HB.out.cell (World.block_lt_of_cell? _ _ hx5)).trans hx5
      rw [rd_nat, Int.toNat_natCast] at hx5
      rw [Int.toNat_natCast] at hx4
      rw [show rdOf false R (s : Int) = R.getD s false by unfold rdOf; rw [Int.toNat_natCast]] at hx4
      obtain ⟨x, hx⟩ : ∃ x, x = C.getD s 0 := ⟨_, rfl⟩
      obtain ⟨b, hb⟩ : ∃ b, b = R.getD s false := ⟨_, rfl⟩
      have hxr := HOK.out.code (s := s) (by rw [← HN.out]; exact hlt)
      rw [← hx] at hx5 hxr
      rw [← hb] at hx4
      have HWX : Aside0 ((Lit.int .i64 x).wf = true) := ⟨by simp only [Lit.wf, Bool.and_eq_true, decide_eq_true_eq]; rw [← HN.out] at hxr; exact ⟨by show (-9223372036854775808 : Int) ≤ _; omega, by show _ ≤ (9223372036854775807 : Int); omega⟩⟩
      have HX := Aside0.mk hx
      have HBB := Aside0.mk hb
      clear hx hb hxr
      obtain ⟨D, hD, hN⟩ := HM.out
      have HD := Aside0.mk hD
      have HND := Aside0.mk hN
      have HWL : Aside0 ((Lit.int .i64 ((K.length : Nat) : Int)).wf = true) := ⟨by have h_ := hKl.out; simp only [Lit.wf, Bool.and_eq_true, decide_eq_true_eq]; exact ⟨by show (-9223372036854775808 : Int) ≤ _; omega, by show _ ≤ (9223372036854775807 : Int); omega⟩⟩
      clear hD hN HM
      replace p1 := eq_true p1
      replace q1 := eq_true q1
      replace q2 := eq_true q2
      cases b with
      | false =>
        go_wp2_with (first | (at_lookup; go_loud (refine wpList_lookup_own_ok_int _ rfl _ _ 99 rfl 3 3 .i64 keyed3 under99 Try.underlying3 (zero3 _) wf.heap.size s D rfl HD.out _ (intLit x) rfl (int_key HWX.out) ?_; intro cv hat hwc; clear hat hwc; rw [(HND.out.2.2 x HWX.out).1]; generalize hmm_ : (codesOf C K).contains x = met; have HMET := Aside0.mk hmm_; clear hmm_)))
        all_goals go_roundw
        case rel => exact ⟨s + 1, K, by omega, by go_num, ⟨by rw [HKE.out]; exact (keptTo_old (by rw [← HBB.out]; simp)).symm⟩, ⟨⟨D, HD.out.mono (Nat.le_succ s), HND.out⟩⟩, HK, HB⟩
        case measure => simp [intOf]; omega
      | true =>
        go_wp2_with (first | (at_lookup; go_loud (refine wpList_lookup_own_ok_int _ rfl _ _ 99 rfl 3 3 .i64 keyed3 under99 Try.underlying3 (zero3 _) wf.heap.size s D rfl HD.out _ (intLit x) rfl (int_key HWX.out) ?_; intro cv hat hwc; clear hat hwc; rw [(HND.out.2.2 x HWX.out).1]; generalize hmm_ : (codesOf C K).contains x = met; have HMET := Aside0.mk hmm_; clear hmm_)) | (at_mapUpdate; refine wpList_mapUpdate_own _ rfl _ _ _ 99 rfl 3 3 keyed3 under99 _ wf.heap.size s D rfl HD.out (by unfold maxLen; omega) _ _ (intLit x) rfl rfl (int_key HWX.out) _ [] (plainElem_int Try.underlying3 HWL.out) ?_; intro w5 hown5 hgrow5; have HOWN5 := Aside0.mk hown5; have HK5 := Aside0.mk (Kd.R_step HK.out (fun k_ ok_ hk_ => hgrow5.block k_ hk_ (by simpa using ok_))); have HB5 := Aside0.mk (HB.out.grown hgrow5 (below_size HB.out) (fun k_ e_ => by cases e_; exact Nat.le_refl _)); clear hown5 hgrow5) | ((with_reducible refine gate_builtin (b := .append) (xs := #[.tmp 55, .tmp 57]) rfl ?_); at_builtin; refine Kd.R_append (Kd.int .i64) (w0 := wf) wf.heap.size rfl (.tmp 55) (.tmp 57) 45 3 (.int .i64 0) 8 rfl Try.underlying45 info3 rfl (by decide) (by omega) (.slice A7 K.length c7) K (s : Int) [.int .i64 (s : Int)] (fun k_ => k_ ≠ wf.heap.size) (fun _ => False) rfl rfl ?aP (fun _ hk => hk.elim) ?aF ?aO ?aB ?aS ?aL ?_; (case aP => exact rfl); (case aB => exact HB5.out); (case aF => exact (fun k_ hk_ e_ => by have h1_ := World.ownsMap.lt HOWN5.out; omega)); (case aO => exact HK5.out); (case aS => exact below_size HB5.out); (case aL => have h_ := hKl.out; omega); intro v10 w10 ho hb hg hat; have HK6 := Aside0.mk ho; have HB6 := Aside0.mk hb; have HM6 := Aside0.mk (HOWN5.out.kept hg (fun e_ => HK5.out.1 _ e_.symm rfl)); clear ho hb hg hat))
        all_goals go_roundw
        case rel =>
          rename_i hm_
          have hmet : met = false := by simpa using hm_
          have hn_ : x ∉ codesOf C K := by have h_ := HMET.out; rw [hmet] at h_; simpa using h_
          refine ⟨s + 1, K ++ [(s : Int)], by omega, by go_num, ⟨?_⟩, ⟨⟨_, HM6.out, ?_⟩⟩, HK6, HB6⟩
          · rw [HKE.out]
            exact (keptTo_new HBB.out.symm (by rw [← HX.out, ← HKE.out]; exact hn_)).symm
          · rw [codesOf_snoc, ← HX.out]
            have h_ := intLit_put HND.out HWX.out hn_
            rw [codesOf_length] at h_
            exact h_
        case measure => simp [intOf]; omega
        case rel =>
          rename_i hm_
          have hmet : met = true := by simpa using hm_
          have hn_ : x ∈ codesOf C K := by have h_ := HMET.out; rw [hmet] at h_; simpa using h_
          exact ⟨s + 1, K, by omega, by go_num, ⟨by rw [HKE.out]; exact (keptTo_old (by rw [← HX.out, ← HKE.out]; exact fun h => h.2 hn_)).symm⟩, ⟨⟨D, HD.out.mono (Nat.le_succ s), HND.out⟩⟩, HK, HB⟩
        case measure => simp [intOf]; omega
    · have q1b : decide ((s : Int) < (R.length : Int)) = false := decide_eq_false (by rw [HRL.out]; omega)
      have q1c : (s < R.length) = False := eq_false (by rw [HRL.out]; omega)
      obtain rfl : s = n := by omega
      obtain ⟨wm, rfl⟩ : ∃ wm, wm = wr := ⟨wr, rfl⟩
      have hK7 := (Kd.R_reads' HK.out).2.2
      have EB : Aside0 (∀ W : World, Below wm.heap.size wm W → (Below w.heap.size w W ∧ W.heap[w.heap.size]? = some (.cells #[.int .i64 a, .slice A1 nx.length c1, .slice A2 ac.length c2] 25 (0, 0)) ∧ W.heap[w.heap.size + 1]? = some (.cells #[.int .i64 0, .slice none 0 0, .slice none 0 0] 25 (0, 0))) ∧ Kd.C Kd.bool W A4 R.length R ∧ Kd.C (Kd.int .i64) W A5 C.length C ∧ Kd.C (Kd.int .i64) W A7 K.length K ∧ IntMap W wf.heap.size s (codesOf C K)) := ⟨fun W hb => ⟨(EA.out W (below_step HB.out hb)).1, (EA.out W (below_step HB.out hb)).2.1, (EA.out W (below_step HB.out hb)).2.2, Kd.C_below hK7 hb, HM.out.below hb⟩⟩
      have HKD := Aside0.mk hK7
      have HBM := Aside0.mk HB.out
      have HWM : Aside0 (w.heap.size ≤ wm.heap.size) := ⟨Nat.le_trans HSZ.out (below_size HB.out)⟩
      have hH_ := (EB.out wm (Below.refl _ _)).1
      have c0_ : wm.cell? ⟨w.heap.size, 0, none⟩ = some (.int .i64 a) := (blk_cell hH_.2.1 0).trans rfl
      have c1_ : wm.cell? ⟨w.heap.size, 1, none⟩ = some (.slice A1 nx.length c1) := (blk_cell hH_.2.1 1).trans rfl
      have c2_ : wm.cell? ⟨w.heap.size, 2, none⟩ = some (.slice A2 ac.length c2) := (blk_cell hH_.2.1 2).trans rfl
      clear EA HB HK HM hK7 HRD hH_
      go_wp2
      clear c0_ c1_ c2_ q1b q1c
      go_loopw [65] (fun v65 wr => ∃ (i : Nat) (u1 u2 : Value), i ≤ K.length ∧ v65 = .int .i64 (i : Int) ∧ Aside0 (wr.heap[wm.heap.size]? = some (.cells #[.int .i64 a, u1, u2] 25 (0, 0))) ∧ Aside0 (Kd.S (Kd.slice 3 (Kd.int .i64)) 45 wr wm.heap.size (fun _ => True) u1 (ofNext nx C K (K.take i))) ∧ Aside0 (Kd.R Kd.bool 4 wr wm.heap.size (fun _ => True) u2 (ofEnds ac (K.take i))) ∧ Aside0 (Below wm.heap.size wm wr)) (fun v65 _ => K.length - (intOf v65).toNat)
      case atStart => exact ⟨0, .slice none 0 0, .slice none 0 0, Nat.zero_le _, rfl, ⟨blk_new wm _⟩, ⟨Kd.S_nil _ _ _ _ _⟩, ⟨Kd.R_nil _ _ _ _ _⟩, ⟨below_alloc (Below.refl _ _) _⟩⟩
      case round =>
        obtain ⟨i, u1, u2, hi, rfl, HG, HS, HE, HB⟩ := hrel
        obtain ⟨wq, rfl⟩ : ∃ wq, wq = wr := ⟨wr, rfl⟩
        have hKn : K.length ≤ s := by rw [HKE.out]; exact keptTo_length _ _ _
        by_cases hlt : i < K.length
        · have q1b : decide ((i : Int) < (K.length : Int)) = true := decide_eq_true (by omega)
          have p1 : (0 : Int) ≤ (i : Int) := by omega
          have q1 : (i : Int) < (K.length : Int) := by omega
          obtain ⟨ad7, ea7, hx7⟩ := Kd.at_int HKD.out (i : Int) p1 q1
          cases ea7
          replace hx7 := (HB.out.cell (World.block_lt_of_cell? _ _ hx7)).trans hx7
          rw [rd_nat, Int.toNat_natCast] at hx7
          obtain ⟨t, htK, hts⟩ := kept_nat HKE.out hlt
          rw [htK] at hx7
          have HTK := Aside0.mk htK
          clear htK
          have hH_ := EB.out wq HB.out
          have c1_ : wq.cell? ⟨w.heap.size, 1, none⟩ = some (.slice A1 nx.length c1) := (blk_cell hH_.1.2.1 1).trans rfl
          have p2 : (0 : Int) ≤ (t : Int) := by omega
          have q2 : (t : Int) < (nx.length : Int) := by rw [← HN.out]; omega
          obtain ⟨ad1, Ar, cr, ea1, hxr, -, hCr⟩ := at_L5 HR1.out (t : Int) p2 q2
          cases ea1
          rw [rd5_nat] at hxr hCr
          rw [Int.toNat_natCast] at hxr
          obtain ⟨Rw, hRw⟩ : ∃ Rw, Rw = nx.getD t [] := ⟨_, rfl⟩
          rw [← hRw] at hxr hCr
          have hwd := HOK.out.width (s := t) (by rw [← HN.out]; exact hts)
          rw [← hRw] at hwd
          have HRW := Aside0.mk hRw
          have HCR := Aside0.mk hCr
          clear hRw hCr
          replace hxr := (hH_.1.1.cell (World.block_lt_of_cell? _ _ hxr)).trans hxr
          clear hH_
          replace p1 := eq_true p1
          replace q1 := eq_true q1
          replace p2 := eq_true p2
          replace q2 := eq_true q2
          go_wp2
          clear c1_ p1 q1 p2 q2 q1b hx7 hxr
          go_loopw [15, 75] (fun v15 v75 wr => ∃ (j : Nat) (N : List Int), j ≤ Rw.length ∧ v75 = .int .i64 (j : Int) ∧ Aside0 (N = (ofRow nx C K (t : Int)).take j) ∧ Aside0 (Kd.R (Kd.int .i64) 3 wr wq.heap.size (fun _ => True) v15 N) ∧ Aside0 (Below wq.heap.size wq wr)) (fun _ v75 _ => Rw.length - (intOf v75).toNat)
          case atStart => exact ⟨0, [], Nat.zero_le _, rfl, ⟨rfl⟩, ⟨Kd.R_nil _ _ _ _ _⟩, ⟨Below.refl _ _⟩⟩
          case round =>
            obtain ⟨j, N, hj, rfl, HNE, HNR, HBq⟩ := hrel
            have hNl : Aside0 (N.length ≤ j) := ⟨by rw [HNE.out, List.length_take]; omega⟩
            obtain ⟨A15, c15, rfl, -, -⟩ := Kd.R_reads HNR.out
            have HEB := Aside0.mk (EB.out wr (below_step HB.out HBq.out))
            by_cases hjl : j < Rw.length
            · have q1b : decide ((j : Int) < (Rw.length : Int)) = true := decide_eq_true (by omega)
              have p1 : (0 : Int) ≤ (j : Int) := by omega
              have q1 : (j : Int) < (Rw.length : Int) := by omega
              obtain ⟨adr, ear, hxe⟩ := Kd.at_int HCR.out (j : Int) p1 q1
              cases ear
              replace hxe := (HEB.out.1.1.cell (World.block_lt_of_cell? _ _ hxe)).trans hxe
              rw [rd_nat, Int.toNat_natCast] at hxe
              have hto := HOK.out.row (s := t) (c := j) (by rw [← HN.out]; exact hts) (by rw [← HRW.out]; exact hjl)
              rw [← HRW.out] at hto
              obtain ⟨tN, htN⟩ : ∃ tN : Nat, Rw.getD j 0 = (tN : Int) := ⟨(Rw.getD j 0).toNat, by omega⟩
              rw [htN] at hxe hto
              have HTN := Aside0.mk htN
              clear htN
              have p2 : (0 : Int) ≤ (tN : Int) := by omega
              have q2 : (tN : Int) < (C.length : Int) := by rw [HCL.out, HN.out]; exact hto.2
              obtain ⟨ad5, ea5, hx5⟩ := Kd.at_int HCD.out (tN : Int) p2 q2
              cases ea5
              replace hx5 := ((below_step HBM.out (below_step HB.out HBq.out)).cell (World.block_lt_of_cell? _ _ hx5)).trans hx5
              rw [rd_nat, Int.toNat_natCast] at hx5
              obtain ⟨x, hx⟩ : ∃ x, x = C.getD tN 0 := ⟨_, rfl⟩
              have hxr := HOK.out.code (s := tN) (by omega)
              rw [← hx] at hx5 hxr
              have HX := Aside0.mk hx
              rw [← HN.out] at hxr
              have HWX : Aside0 ((Lit.int .i64 x).wf = true) := ⟨by simp only [Lit.wf, Bool.and_eq_true, decide_eq_true_eq]; exact ⟨by show (-9223372036854775808 : Int) ≤ _; omega, by show _ ≤ (9223372036854775807 : Int); omega⟩⟩
              clear hx hxr hto
              obtain ⟨D, hD, hN⟩ := HEB.out.2.2.2.2
              have HD := Aside0.mk hD
              have HND := Aside0.mk hN
              clear hD hN
              replace p1 := eq_true p1
              replace q1 := eq_true q1
              replace p2 := eq_true p2
              replace q2 := eq_true q2
              go_wp2_with (first | (at_lookup; refine wpList_lookup_own_int _ rfl _ _ 99 rfl 3 3 .i64 keyed3 under99 Try.underlying3 (zero3 _) wf.heap.size s D rfl HD.out _ (intLit x) rfl (int_key HWX.out) ?_; intro cv hat hwc; obtain rfl : cv = numOf (codesOf C K) x := (by have h_ := hat.symm.trans (HND.out.2.2 x HWX.out).2; unfold numOf; simpa using h_); clear hat hwc) | ((with_reducible refine gate_builtin (b := .append) (xs := #[.tmp 79, .tmp 86]) rfl ?_); at_builtin; refine Kd.R_append (Kd.int .i64) (w0 := wq) wq.heap.size rfl (.tmp 79) (.tmp 86) 45 3 (.int .i64 0) 8 rfl Try.underlying45 info3 rfl (by decide) (by omega) (.slice A15 N.length c15) N (numOf (codesOf C K) x) [.int .i64 (numOf (codesOf C K) x)] (fun _ => True) (fun _ => False) rfl rfl ?aP (fun _ hk => hk.elim) ?aF ?aO ?aB ?aS ?aL ?_; (case aP => exact rfl); (case aB => exact HBq.out); (case aF => exact (fun _ _ => trivial)); (case aO => exact HNR.out); (case aS => exact below_size HBq.out); (case aL => have h_ := hNl.out; omega); intro v10 w10 ho hb hg hat; have HN6 := Aside0.mk ho; have HB6 := Aside0.mk hb; clear ho hb hg hat))
              all_goals go_roundw
              case rel => exact ⟨j + 1, _, by omega, by go_num, ⟨by rw [HNE.out, HX.out]; exact ofRow_succ HRW.out hjl HTN.out⟩, HN6, HB6⟩
              case measure => simp [intOf]; omega
            · have q1b : decide ((j : Int) < (Rw.length : Int)) = false := decide_eq_false (by omega)
              obtain rfl : j = Rw.length := by omega
              obtain ⟨wz, rfl⟩ : ∃ wz, wz = wr := ⟨wr, rfl⟩
              have hNF : N = ofRow nx C K (t : Int) := by rw [HNE.out, List.take_of_length_le (by rw [ofRow_length, ← HRW.out]; exact Nat.le_refl _)]
              have HNF := Aside0.mk hNF
              clear hNF HNE hNl
              obtain ⟨X1, hX1⟩ : ∃ X, X = ofNext nx C K (K.take i) := ⟨_, rfl⟩
              obtain ⟨X2, hX2⟩ : ∃ X, X = ofEnds ac (K.take i) := ⟨_, rfl⟩
              obtain ⟨Y1, hY1⟩ : ∃ Y, Y = X1 ++ [N] := ⟨_, rfl⟩
              obtain ⟨b, hb⟩ : ∃ b, b = ac.getD t false := ⟨_, rfl⟩
              obtain ⟨Y2, hY2⟩ : ∃ Y, Y = X2 ++ [b] := ⟨_, rfl⟩
              rw [← hX1] at HS
              rw [← hX2] at HE
              have HXL : Aside0 (X1.length = i ∧ X2.length = i ∧ i < 1000) := ⟨by have h_ := keptTo_length R C s; rw [← HKE.out] at h_; rw [hX1, hX2, ofNext_length, ofEnds_length, List.length_take]; omega⟩
              have HX1 := Aside0.mk hX1
              have HX2 := Aside0.mk hX2
              have HY1 := Aside0.mk hY1
              have HY2 := Aside0.mk hY2
              have HBV := Aside0.mk hb
              clear hX1 hX2 hY1 hY2 hb
              have HG2 := Aside0.mk (blk_below HG.out HBq.out)
              have HS2 : Aside0 (Kd.S (Kd.slice 3 (Kd.int .i64)) 45 wz wm.heap.size (fun k_ => k_ < wq.heap.size) u1 X1) := ⟨Kd.S_mono (Kd.S_below (Kd.S_bound HS.out) HBq.out) (fun k_ hk_ => hk_.2.2.1)⟩
              have HE2 := Aside0.mk (Kd.R_below HE.out HBq.out)
              have HB2 := Aside0.mk (below_step HB.out HBq.out)
              have HSL := Aside0.mk (Kd.S_lt HS.out)
              have HBM2 := Aside0.mk HB.out
              clear HG HS HE HB
              obtain ⟨B1, d1, rfl⟩ := Kd.S_slice HS2.out
              obtain ⟨B2, d2, rfl⟩ := Kd.R_slice HE2.out
              have z1_ : wz.cell? ⟨wm.heap.size, 1, none⟩ = some (.slice B1 X1.length d1) := (blk_cell HG2.out 1).trans rfl
              go_wp2_with (first | ((with_reducible refine gate_builtin (b := .append) (xs := #[.tmp 90, .tmp 92]) rfl ?_); at_builtin; refine Kd.S_append (Kd.slice 3 (Kd.int .i64)) (w0 := wm) wm.heap.size rfl (.tmp 90) (.tmp 92) 22 45 (.slice none 0 0) 24 rfl Try.underlying22 info45 rfl (by decide) (by omega) (.slice B1 X1.length d1) X1 N [.slice A15 N.length c15] (fun _ => True) (fun k_ => wq.heap.size ≤ k_) rfl rfl ?aP ?aK ?aF ?aO ?aB ?aS ?aL ?_; (case aP => exact Kd.M_row (Kd.R_lower (Kd.R_mono (Kd.R_bound HNR.out) (fun k_ hk_ => hk_.2.1)) (below_size HBM2.out))); (case aK => exact (fun k_ hk_ => ⟨trivial, fun e_ => by have h_ := HSL.out k_ e_.symm; omega⟩)); (case aF => exact (fun _ _ => trivial)); (case aO => exact Kd.S_mono HS2.out (fun k_ hk_ => ⟨trivial, by omega⟩)); (case aB => exact HB2.out); (case aS => exact below_size HB2.out); (case aL => have h_ := HXL.out; omega); intro v24 w24 ho hb hg hat; rw [← HY1.out] at ho; have HE3 := Aside0.mk (Kd.R_over' HE2.out (Kd.S_typed HS2.out) (by decide) hg); have HG3 := Aside0.mk (blk_grown HG2.out hg (Kd.S_ne HS2.out HG2.out (by decide))); have HS3 := Aside0.mk ho; have HB3 := Aside0.mk hb; clear ho hb hg hat HS2 HG2 HE2 HB2 z1_; obtain ⟨B3, d3, rfl⟩ := Kd.S_slice HS3.out; have z1_ : w24.cell? ⟨wm.heap.size, 1, none⟩ = some (.slice B1 X1.length d1) := (blk_cell HG3.out 1).trans rfl; have zf1_ := blk_frozen HG3.out 1))
              have HG4 := Aside0.mk (blk_put (cs' := #[.int .i64 a, .slice B3 Y1.length d3, .slice B2 X2.length d2]) HG3.out 1 (.slice B3 Y1.length d3) rfl)
              have HS4 := Aside0.mk (Kd.S_mono (ok' := fun _ => True) (Kd.S_far (p := ⟨wm.heap.size, 1, none⟩) (Kd.S_types HS3.out HG3.out (by decide)) (fun _ hk => hk.2) (.slice B3 Y1.length d3)) (fun _ _ => trivial))
              have HE4 := Aside0.mk (Kd.R_set HE3.out HG3.out (by decide) 1 (.slice B3 Y1.length d3))
              have HB4 := Aside0.mk (HB3.out.setCell (p := ⟨wm.heap.size, 1, none⟩) (Nat.le_refl _) (.slice B3 Y1.length d3))
              clear HG3 HS3 HE3 HB3 z1_ zf1_
              have p2 : (0 : Int) ≤ (t : Int) := by omega
              have q2 : (t : Int) < (ac.length : Int) := by rw [HOK.out.a, ← HN.out]; omega
              obtain ⟨ad2, ea2, hx2⟩ := Kd.at_bool HR2.out (t : Int) p2 q2
              cases ea2
              rw [show rdOf false ac (t : Int) = b by rw [HBV.out]; unfold rdOf; rw [Int.toNat_natCast], Int.toNat_natCast] at hx2
              have HXB := Aside0.mk hx2
              clear hx2
              replace p2 := eq_true p2
              replace q2 := eq_true q2
              generalize (w24.setCell ⟨wm.heap.size, 1, none⟩ (.slice B3 Y1.length d3)) = wk at HG4 HS4 HE4 HB4 ⊢
              refine start_ (n := 11) (S := fun w' => w'.heap[wm.heap.size]? = some (.cells #[.int .i64 a, .slice B3 Y1.length d3, .slice B2 X2.length d2] 25 (0, 0)) ∧ w'.cell? ⟨w.heap.size, 2, none⟩ = some (.slice (some ad2) ac.length c2) ∧ w'.cell? (ad2.add t) = some (.bool b)) (ds := [8, 10]) #[false, false, false, false, false, false, false, false, false, false, false] (by kernel_rfl) rfl rfl ⟨blk_drew HG4.out, (blk_cell (EB.out _ (below_drew1 HB4.out)).1.2.1 2).trans rfl, ((EB.out _ (below_drew1 HB4.out)).1.1.cell (World.block_lt_of_cell? _ _ HXB.out)).trans HXB.out⟩ (fun hHeld => ?_)
              refine with_tabW least_of.tab25 least_of.bits25 (fun HT_ HW_ => ?_)
              have HE5 := Aside0.mk (Kd.R_drew HE4.out)
              have HS5 := Aside0.mk (Kd.S_drew HS4.out)
              have HB5 := Aside0.mk (below_drew1 HB4.out)
              clear HG4 HS4 HE4 HB4
              generalize wk.drew = wd at HE5 HS5 HB5 hHeld ⊢
              have HG5 := Aside0.mk hHeld.1
              refine pure_ (i := 0) (N := some 95) (v := ?_) (a' := ?_) #[true, false, false, false, false, false, false, false, false, false, false] rfl rfl (any_of HT_.out (by kernel_rfl)) (fun _ _ _ h => h) (Or.inl ⟨by rfl, ?_⟩) ?_ ?_
              rotate_left
              · intro w'
                go_simp
                with_reducible rfl
              rotate_left
              · simp only [Act.put, List.setIfInBounds_toArray, List.set_cons_zero, List.set_cons_succ, i64_w, i32_w]
                rfl
              refine pure_ (i := 2) (N := some 97) (v := ?_) (a' := ?_) #[true, false, true, false, false, false, false, false, false, false, false] rfl rfl (any_of HT_.out (by kernel_rfl)) (fun _ _ _ h => h) (Or.inl ⟨by rfl, ?_⟩) ?_ ?_
              rotate_left
              · intro w'
                go_simp
                with_reducible rfl
              rotate_left
              · simp only [Act.put, List.setIfInBounds_toArray, List.set_cons_zero, List.set_cons_succ, i64_w, i32_w]
                rfl
              refine pure_ (i := 4) (N := some 99) (v := ?_) (a' := ?_) #[true, false, true, false, true, false, false, false, false, false, false] rfl rfl (any_of HT_.out (by kernel_rfl)) (fun _ _ _ h => h) (Or.inl ⟨by rfl, ?_⟩) ?_ ?_
              rotate_left
              · intro w'
                go_simp
                with_reducible rfl
              rotate_left
              · simp only [Act.put, List.setIfInBounds_toArray, List.set_cons_zero, List.set_cons_succ, i64_w, i32_w]
                rfl
              refine take_ (i := 1) (N := some 96) (v := ?_) (a' := ?_) #[true, true, true, false, true, false, false, false, false, false, false] rfl rfl (take_ofW HT_.out HW_.out (by kernel_rfl)) (fun _ _ _ h => h) (Or.inl ⟨by rfl, ?_⟩) hHeld ?_ ?_
              rotate_left
              · rintro w' ⟨s0, s1, s2⟩
                have z2_ : w'.cell? ⟨wm.heap.size, 2, none⟩ = some (.slice B2 X2.length d2) := (blk_cell s0 2).trans rfl
                clear s0
                go_simp
                with_reducible rfl
              rotate_left
              · simp only [Act.put, List.setIfInBounds_toArray, List.set_cons_zero, List.set_cons_succ, i64_w, i32_w]
                rfl
              refine take_ (i := 3) (N := some 98) (v := ?_) (a' := ?_) #[true, true, true, true, true, false, false, false, false, false, false] rfl rfl (take_ofW HT_.out HW_.out (by kernel_rfl)) (fun _ _ _ h => h) (Or.inl ⟨by rfl, ?_⟩) hHeld ?_ ?_
              rotate_left
              · rintro w' ⟨s0, s1, s2⟩
                have z2_ : w'.cell? ⟨wm.heap.size, 2, none⟩ = some (.slice B2 X2.length d2) := (blk_cell s0 2).trans rfl
                clear s0
                go_simp
                with_reducible rfl
              rotate_left
              · simp only [Act.put, List.setIfInBounds_toArray, List.set_cons_zero, List.set_cons_succ, i64_w, i32_w]
                rfl
              refine pure_ (i := 5) (N := some 100) (v := ?_) (a' := ?_) #[true, true, true, true, true, true, false, false, false, false, false] rfl rfl (any_of HT_.out (by kernel_rfl)) (fun _ _ _ h => h) (Or.inl ⟨by rfl, ?_⟩) ?_ ?_
              rotate_left
              · intro w'
                go_simp
                with_reducible rfl
              rotate_left
              · simp only [Act.put, List.setIfInBounds_toArray, List.set_cons_zero, List.set_cons_succ, i64_w, i32_w]
                rfl
              refine take_ (i := 6) (N := some 101) (v := ?_) (a' := ?_) #[true, true, true, true, true, true, true, false, false, false, false] rfl rfl (take_ofW HT_.out HW_.out (by kernel_rfl)) (fun _ _ _ h => h) (Or.inl ⟨by rfl, ?_⟩) hHeld ?_ ?_
              rotate_left
              · rintro w' ⟨s0, s1, s2⟩
                have z2_ : w'.cell? ⟨wm.heap.size, 2, none⟩ = some (.slice B2 X2.length d2) := (blk_cell s0 2).trans rfl
                clear s0
                go_simp
                with_reducible rfl
              rotate_left
              · simp only [Act.put, List.setIfInBounds_toArray, List.set_cons_zero, List.set_cons_succ, i64_w, i32_w]
                rfl
              refine one_ (i := 7) (N := some 102) #[true, true, true, true, true, true, true, true, false, false, false] rfl rfl (one_of HT_.out (by kernel_rfl)) (by decide) (fun K hK => ?_)
              refine value_ (w1 := ?_) (v := ?_) (by rfl) rfl ?_ ?_
              rotate_left 2
              · go_simp
                constructor
                · rfl
                · rfl
              refine hK.out _ _ ⟨blk_alloc hHeld.1 _, ((below_alloc (Below.refl _ _) _).cell (World.block_lt_of_cell? _ _ hHeld.2.1)).trans hHeld.2.1, ((below_alloc (Below.refl _ _) _).cell (World.block_lt_of_cell? _ _ hHeld.2.2)).trans hHeld.2.2⟩ (fun hHeld => ?_)
              clear hK K
              refine norm_ (a' := ?_) ?_ ?_
              rotate_left
              · show Act.put _ (some 102) _ = _
                simp only [Act.put, List.setIfInBounds_toArray, List.set_cons_zero, List.set_cons_succ, i64_w, i32_w]
                rfl
              refine last_ (i := 8) (N := some 103) #[true, true, true, true, true, true, true, true, true, false, false] rfl rfl (one_of HT_.out (by kernel_rfl)) (by decide) (fun K hK => ?_)
              refine Kd.R_append_step Kd.bool (w0 := wm) wm.heap.size (by rfl) (.tmp 96) (.tmp 102) 23 4 (.bool false) 1 rfl Try.underlying23 info4 rfl (by decide) (by omega) (.slice B2 X2.length d2) X2 b [.bool b] (fun _ => True) (fun _ => False) rfl rfl ?aP (fun _ hk => hk.elim) ?aF ?aO ?aB ?aS ?aL ?_
              (case aP => exact rfl)
              (case aB => exact HB5.out)
              (case aF => exact (fun _ _ => trivial))
              (case aO => exact HE5.out)
              (case aS => exact below_size HB5.out)
              (case aL => have h_ := HXL.out; omega)
              intro v25 w25 ho hb hg hat
              rw [← HY2.out] at ho
              have HG6 := Aside0.mk (blk_grown HG5.out hg (Kd.R_ne HE5.out HG5.out (by decide)))
              have HS6 := Aside0.mk (Kd.S_over' HS5.out (Kd.R_typed HE5.out) (by decide) hg)
              have HE6 := Aside0.mk ho
              have HB6 := Aside0.mk hb
              clear ho hb hg hat HG5 HS5 HE5 HB5
              obtain ⟨B5, d5, rfl⟩ := Kd.R_slice HE6.out
              have z2_ : w25.cell? ⟨wm.heap.size, 2, none⟩ = some (.slice B2 X2.length d2) := (blk_cell HG6.out 2).trans rfl
              have zf2_ := blk_frozen HG6.out 2
              refine hK.out _ _ ?_
              clear hK K
              refine norm_ (a' := ?_) ?_ ?_
              rotate_left
              · show Act.put _ (some 103) _ = _
                simp only [Act.put, List.setIfInBounds_toArray, List.set_cons_zero, List.set_cons_succ, i64_w, i32_w]
                rfl
              refine pure_ (i := 9) (N := some 104) (v := ?_) (a' := ?_) #[true, true, true, true, true, true, true, true, true, true, false] rfl rfl (any_of HT_.out (by kernel_rfl)) (fun _ _ _ h => h) (Or.inl ⟨by rfl, ?_⟩) ?_ ?_
              rotate_left
              · intro w'
                go_simp
                with_reducible rfl
              rotate_left
              · simp only [Act.put, List.setIfInBounds_toArray, List.set_cons_zero, List.set_cons_succ, i64_w, i32_w]
                rfl
              refine last_ (i := 10) (N := none) #[true, true, true, true, true, true, true, true, true, true, true] rfl rfl (one_of HT_.out (by kernel_rfl)) (by decide) (fun K hK => ?_)
              refine skip_ (w1 := ?_) (by rfl) rfl ?_ ?_
              rotate_left
              · go_simp
                rfl
              refine hK.out _ _ ?_
              clear hK K
              refine done_ (done_of HT_.out (by kernel_rfl)) ?_
              go_wp2
              go_roundw
              case rel =>
                refine ⟨i + 1, _, _, by omega, by go_num, ⟨blk_put (cs' := #[.int .i64 a, .slice B3 Y1.length d3, .slice B5 Y2.length d5]) HG6.out 2 _ rfl⟩, ⟨?_⟩, ⟨?_⟩, ⟨HB6.out.setCell (p := ⟨wm.heap.size, 2, none⟩) (Nat.le_refl _) _⟩⟩
                · rw [← ofNext_succ hlt HTK.out, ← HX1.out, ← HNF.out, ← HY1.out]
                  exact Kd.S_mono (Kd.S_far (p := ⟨wm.heap.size, 2, none⟩) (Kd.S_types HS6.out HG6.out (by decide)) (fun _ hk => hk.2) _) (fun _ _ => trivial)
                · rw [← ofEnds_succ hlt HTK.out, ← HX2.out, ← HBV.out, ← HY2.out]
                  exact Kd.R_set HE6.out HG6.out (by decide) 2 _
              case measure => simp [intOf]; omega
        · have q1b : decide ((i : Int) < (K.length : Int)) = false := decide_eq_false (by omega)
          have q1c : (i < K.length) = False := eq_false (by omega)
          obtain rfl : i = K.length := by omega
          rw [List.take_length] at HS HE
          obtain ⟨X1, hX1⟩ : ∃ X, X = ofNext nx C K K := ⟨_, rfl⟩
          obtain ⟨X2, hX2⟩ : ∃ X, X = ofEnds ac K := ⟨_, rfl⟩
          rw [← hX1] at HS
          rw [← hX2] at HE
          rw [HN.out] at HKE
          have HX1 := Aside0.mk hX1
          have HX2 := Aside0.mk hX2
          clear hX1 hX2
          obtain ⟨B1, d1, rfl⟩ := Kd.S_slice HS.out
          obtain ⟨B2, d2, rfl⟩ := Kd.R_slice HE.out
          have hH_ := Aside0.mk (EB.out wq HB.out).1
          have y0_ : wq.cell? ⟨wm.heap.size, 0, none⟩ = some (.int .i64 a) := (blk_cell HG.out 0).trans rfl
          have y1_ : wq.cell? ⟨wm.heap.size, 1, none⟩ = some (.slice B1 X1.length d1) := (blk_cell HG.out 1).trans rfl
          have y2_ : wq.cell? ⟨wm.heap.size, 2, none⟩ = some (.slice B2 X2.length d2) := (blk_cell HG.out 2).trans rfl
          have yf0_ := blk_frozen HG.out 0
          have yf1_ := blk_frozen HG.out 1
          have yf2_ := blk_frozen HG.out 2
          have z0_ : wq.cell? ⟨w.heap.size + 1, 0, none⟩ = some (.int .i64 0) := (blk_cell hH_.out.2.2 0).trans rfl
          have z1_ : wq.cell? ⟨w.heap.size + 1, 1, none⟩ = some (.slice none 0 0) := (blk_cell hH_.out.2.2 1).trans rfl
          have z2_ : wq.cell? ⟨w.heap.size + 1, 2, none⟩ = some (.slice none 0 0) := (blk_cell hH_.out.2.2 2).trans rfl
          have zf0_ := blk_frozen hH_.out.2.2 0
          have zf1_ := blk_frozen hH_.out.2.2 1
          have zf2_ := blk_frozen hH_.out.2.2 2
          go_wp2
          have hb1_ := blk_put (cs' := #[.int .i64 a, .slice none 0 0, .slice none 0 0]) hH_.out.2.2 0 (.int .i64 a) rfl
          have hb2_ := blk_put (cs' := #[.int .i64 a, .slice B1 X1.length d1, .slice none 0 0]) hb1_ 1 (.slice B1 X1.length d1) rfl
          have hb3_ := blk_put (cs' := #[.int .i64 a, .slice B1 X1.length d1, .slice B2 X2.length d2]) hb2_ 2 (.slice B2 X2.length d2) rfl
          refine bodyPost_ret (results_ct (by rfl) _ _ (w.heap.size + 1) 25 #[.int .i64 a, .slice B1 X1.length d1, .slice B2 X2.length d2] (0, 0) _ (by rfl) (by exact hb3_) Try.underlying25 (by rfl) (by kernel_rfl)) (by rfl) ?_
          have hlo_ : w.heap.size ≤ wm.heap.size := HWM.out
          have s1_ := Kd.S_mono (ok' := fun _ => True) (Kd.S_far (p := ⟨w.heap.size + 1, 0, none⟩) (Kd.S_types HS.out hH_.out.2.2 (by decide)) (fun _ hk => hk.2) (.int .i64 a)) (fun _ _ => trivial)
          have s2_ := Kd.S_mono (ok' := fun _ => True) (Kd.S_far (p := ⟨w.heap.size + 1, 1, none⟩) (Kd.S_types s1_ hb1_ (by decide)) (fun _ hk => hk.2) (.slice B1 X1.length d1)) (fun _ _ => trivial)
          have s3_ := Kd.S_mono (ok' := fun _ => True) (Kd.S_far (p := ⟨w.heap.size + 1, 2, none⟩) (Kd.S_types s2_ hb2_ (by decide)) (fun _ hk => hk.2) (.slice B2 X2.length d2)) (fun _ _ => trivial)
          have e3_ := Kd.R_set (Kd.R_set (Kd.R_set HE.out hH_.out.2.2 (by decide) 0 (.int .i64 a)) hb1_ (by decide) 1 (.slice B1 X1.length d1)) hb2_ (by decide) 2 (.slice B2 X2.length d2)
          rw [← HKE.out, ← HX1.out, ← HX2.out]
          exact ⟨_, _, rfl, Kd.S_lower s3_ hlo_, Kd.R_lower e3_ hlo_, ((hH_.out.1.setCell (by simp) _).setCell (by simp) _).setCell (by simp) _⟩
theorem least_Of.calls (k : Nat) (a0_0 : Int) (A0_1 : Option Addr) (c0_1 : Nat) (l0_1 : List (List Int)) (A0_2 : Option Addr) (c0_2 : Nat) (l0_2 : List Bool) (r1 : Int) (r2 : List (List Int)) (r3 : List Bool) (r4 : Bool) (w : World) (hr0_1 : Kd.C (Kd.slice 3 (Kd.int .i64)) w A0_1 l0_1.length l0_1) (hc0_1 : l0_1.length ≤ c0_1) (hr0_2 : Kd.C Kd.bool w A0_2 l0_2.length l0_2) (hc0_2 : l0_2.length ≤ c0_2) (h : least_Of.f k a0_0 l0_1 l0_2 = some (r1, r2, r3, r4)) :
    Calls Try.prog 48 #[.agg #[.int .i64 a0_0, .slice A0_1 l0_1.length c0_1, .slice A0_2 l0_2.length c0_2]] w fun e w' => ∃ v1_ v2_ : Value, e = .returned (.tuple #[.agg #[.int .i64 r1, v1_, v2_], .bool r4]) ∧ Kd.S (Kd.slice 3 (Kd.int .i64)) 45 w' w.heap.size (fun _ => True) v1_ r2 ∧ Kd.R Kd.bool 4 w' w.heap.size (fun _ => True) v2_ r3 ∧ Below w.heap.size w w' := by
  unfold least_Of.f at h
  obtain ⟨g, hg, h⟩ := Option.bind_eq_some_iff.mp h
  cases g with
  | false =>
    simp only [Bool.false_eq_true, if_false, Option.some.injEq, Prod.mk.injEq] at h
    obtain ⟨rfl, rfl, rfl, rfl⟩ := h
    exact least_Of.bad a0_0 A0_1 c0_1 l0_1 A0_2 c0_2 l0_2 w hr0_1 hc0_1 hr0_2 hc0_2 hg
  | true =>
    rw [if_pos rfl] at h
    obtain ⟨R, hR, h⟩ := Option.bind_eq_some_iff.mp h
    obtain ⟨C, hC, h⟩ := Option.bind_eq_some_iff.mp h
    by_cases hk : ofOk l0_1 l0_2 R C = true
    · rw [if_pos hk] at h
      simp only [Option.some.injEq, Prod.mk.injEq] at h
      obtain ⟨rfl, rfl, rfl, rfl⟩ := h
      exact least_Of.main k a0_0 A0_1 c0_1 l0_1 A0_2 c0_2 l0_2 R C w hr0_1 hc0_1 hr0_2 hc0_2 hg hR hC (ofOk_elim hk)
    · rw [if_neg hk] at h
      cases h

end Go.Proofs.Ytelkjbacdpmnfaa.A
