/- Contracts. -/
import Derived.Test.YtelkjbacdpmnfaaB0
import Derived.Test.YtelkjbacdpmnfaaBCaesurakeepOwnLists
namespace Go.Proofs.Ytelkjbacdpmnfaa.A
open Go.RowKit Go.W_.PrintWords Go.W_.PrintLast Go.W_.PrintMore
attribute [local go_sem] max2_int min2_int max_two min_two max_three min_three max_four min_four
set_option linter.unusedVariables false
set_option linter.unusedSimpArgs false

def ck_OwnAutomaton.f (k : Nat) (a0_0 : Int) (l0_1 : List (List Int)) (l0_2 : List Bool) : Option (Int × (List (List Int)) × List Bool) := (ck_OwnLists.f k l0_1).bind fun t103 => ((some (([] : List Bool) : List Bool)).bind fun y106 => (if y106.length + l0_2.length < 140737488355328 then (some (a0_0, t103, (y106 ++ l0_2))) else (none)))
theorem ck_OwnAutomaton.mono : ∀ a0 a1 a2 k, LeO (ck_OwnAutomaton.f k a0 a1 a2) (ck_OwnAutomaton.f (k + 1) a0 a1 a2) := by
 intro a0 a1 a2 k
 unfold ck_OwnAutomaton.f
 repeat' first
   | (with_reducible exact ck_OwnLists.mono _ _)
   | (with_reducible exact LeO.refl _)
   | (with_reducible exact LeO.none _)
   | (with_reducible refine LeO.ite ?_ ?_)
   | (with_reducible refine LeO.bind ?_ (fun _ => ?_))
   | exact ck_OwnLists.mono _ _
   | exact LeO.none _
   | refine LeO.ite ?_ ?_
   | refine LeO.bind ?_ (fun _ => ?_)
def ck_OwnAutomaton.T1 : Bool × List (List Nat × List Nat) := (true, [([], []), ([0], [0]), ([], []), ([2], [2]), ([3], [3]), ([], []), ([], []), ([6], [6]), ([5, 7, 4], [5, 7]), ([1, 4, 8], [1, 4, 8]), ([9, 8, 0, 1, 2, 3, 4, 5, 6, 7, 8, 9], [9])])
def ck_OwnAutomaton.B1 : List Nat := [0, 1, 0, 4, 12, 0, 0, 64, 252, 511, 1023]
theorem ck_OwnAutomaton.tab1 : rtab .any (opsOf Try.f26 1) = ck_OwnAutomaton.T1 := by kernel_rfl
theorem ck_OwnAutomaton.bits1 : waitsOk ck_OwnAutomaton.T1.2 ck_OwnAutomaton.B1 = true := by kernel_rfl
set_option maxHeartbeats 8000000 in
set_option maxRecDepth 100000 in
theorem ck_OwnAutomaton.calls (k : Nat) (a0_0 : Int) (A0_1 : Option Addr) (c0_1 : Nat) (l0_1 : List (List Int)) (A0_2 : Option Addr) (c0_2 : Nat) (l0_2 : List Bool) (r1 : Int) (r2 : List (List Int)) (r3 : List Bool) (w : World) (hr0_1 : Kd.C (Kd.slice 3 (Kd.int .i64)) w A0_1 l0_1.length l0_1) (hc0_1 : l0_1.length ≤ c0_1) (hr0_2 : Kd.C Kd.bool w A0_2 l0_2.length l0_2) (hc0_2 : l0_2.length ≤ c0_2) (h : ck_OwnAutomaton.f k a0_0 l0_1 l0_2 = some (r1, r2, r3)) :
  Calls Try.prog 26 #[.agg #[.int .i64 a0_0, .slice A0_1 l0_1.length c0_1, .slice A0_2 l0_2.length c0_2]] w fun e w' => ∃ v1_ v2_ : Value, e = .returned (.agg #[.int .i64 r1, v1_, v2_]) ∧ Kd.S (Kd.slice 3 (Kd.int .i64)) 45 w' w.heap.size (fun _ => True) v1_ r2 ∧ Kd.R Kd.bool 4 w' w.heap.size (fun _ => True) v2_ r3 ∧ Below w.heap.size w w' := by
 have hu25 := Try.underlying25
 have HR0_1 := Q0.mk hr0_1
 have HC0_1 := Q0.mk hc0_1
 clear hr0_1 hc0_1
 have HR0_2 := Q0.mk hr0_2
 have HC0_2 := Q0.mk hc0_2
 clear hr0_2 hc0_2
 have HB := Q0.mk (Below.refl w.heap.size w)
 have H : ((ck_OwnLists.f k l0_1).bind fun t103 => ((some (([] : List Bool) : List Bool)).bind fun y106 => (if y106.length + l0_2.length < 140737488355328 then (some (a0_0, t103, (y106 ++ l0_2))) else (none)))) = some (r1, r2, r3) := h
 clear h
 replace H := Option.bind_eq_some_iff.mp H
 obtain ⟨t103, A20, H⟩ := H
 replace H : ((some (([] : List Bool) : List Bool)).bind fun y106 => (if y106.length + l0_2.length < 140737488355328 then (some (a0_0, t103, (y106 ++ l0_2))) else (none))) = some (r1, r2, r3) := H
 have A2 := Q0.mk A20
 clear A20
 obtain ⟨y106, hy106⟩ : ∃ y_ : List Bool, y_ = (([] : List Bool)) := ⟨_, rfl⟩
 replace H : (if y106.length + l0_2.length < 140737488355328 then (some (a0_0, t103, (y106 ++ l0_2))) else (none)) = some (r1, r2, r3) := by first | (rw [hy106]; with_reducible exact H) | (have H2_ := (Option.bind_some _ _).symm.trans H; rw [hy106]; with_reducible exact H2_) | (have H2_ := (Option.bind_some _ _).symm.trans H; with_reducible exact H2_) | with_reducible exact H | (rw [hy106]; exact H) | exact H
 have Ny106 := Q0.mk hy106
 clear hy106
 by_cases c3 : y106.length + l0_2.length < 140737488355328
 ·rw [if_pos c3] at H
  have LMc3 := Q0.mk c3
  clear c3
  obtain ⟨y109, hy109⟩ : ∃ y_ : List Bool, y_ = (y106 ++ l0_2) := ⟨_, rfl⟩
  replace H : (some (a0_0, t103, y109)) = some (r1, r2, r3) := by first | (rw [hy109]; with_reducible exact H) | (have H2_ := (Option.bind_some _ _).symm.trans H; rw [hy109]; with_reducible exact H2_) | (have H2_ := (Option.bind_some _ _).symm.trans H; with_reducible exact H2_) | with_reducible exact H | (rw [hy109]; exact H) | exact H
  have Ny109 := Q0.mk hy109
  clear hy109
  simp only [Option.some.injEq, Prod.mk.injEq] at H
  obtain ⟨rfl, rfl, rfl⟩ := H
  go_enter Try.func26, Try.ntmps26
  try go_wp2_with (first | ((with_reducible refine gate_dst (N := 1) rfl ?_); refine box_event ?hg (N := 1) ?hd (cs := #[.int .i64 a0_0, .slice A0_1 l0_1.length c0_1, .slice A0_2 l0_2.length c0_2]) (t := 25) ?hr ?_; (case hd => rfl); (case hg => rfl); (case hr => first | (go_simp; done) | (go_simp; rfl)); intro gb101 hg w4 hbox hb; have n0_ := Q0.mk (bsz (by repeat (first | (with_reducible first | exact HB.1 | apply ba | apply pN | apply bD) | exact HB.1)) hb); have n1_ := Q0.mk (hbox); have n2_ := Q0.mk ((by rw [hg]; exact (below_size (by repeat (first | (with_reducible first | exact HB.1 | apply ba | apply pN | apply bD) | exact HB.1))) : w.heap.size ≤ gb101)); have n3_ := Q0.mk ((by rw [hg]; exact (below_size (by repeat (first | (with_reducible first | exact HB.1 | apply ba | apply pN | apply bD) | exact HB.1))) : w.heap.size ≤ gb101)); clear HB; have HB := n0_; have BK101 := n1_; have GW101 := n2_; have GE101 := n3_; clear n0_ n1_ n2_ n3_; clear hb hbox hg) | ((with_reducible refine gate_dst (N := 2) rfl ?_); refine box_event ?hg (N := 2) ?hd (cs := #[.int .i64 0, .slice none 0 0, .slice none 0 0]) (t := 25) ?hr ?_; (case hd => rfl); (case hg => rfl); (case hr => first | (go_simp; done) | (go_simp; rfl)); intro gb102 hg w5 hbox hb; have n0_ := Q0.mk (bb (g := gb101) (o := .cells #[.int .i64 a0_0, .slice A0_1 l0_1.length c0_1, .slice A0_2 l0_2.length c0_2] 25 (0, 0)) (by (with_reducible repeat (first | refine bN ?_ _ | refine bdz ?_ | refine bA ?_ _)); exact BK101.1) hb); have n1_ := Q0.mk (bsz (by repeat (first | (with_reducible first | exact HB.1 | apply ba | apply pN | apply bD | refine bS ?_ GE101.1) | exact HB.1)) hb); have n2_ := Q0.mk (hbox); have n3_ := Q0.mk ((by rw [hg]; exact (below_size (by repeat (first | (with_reducible first | exact HB.1 | apply ba | apply pN | apply bD | refine bS ?_ GE101.1) | exact HB.1))) : w.heap.size ≤ gb102)); have n4_ := Q0.mk ((by rw [hg]; exact (below_size (by repeat (first | (with_reducible first | exact HB.1 | apply ba | apply pN | apply bD | refine bS ?_ GE101.1) | exact HB.1))) : w.heap.size ≤ gb102)); have n5_ := Q0.mk ((by rw [hg]; exact Nat.ne_of_lt (blk_lt (g := gb101) (o := .cells #[.int .i64 a0_0, .slice A0_1 l0_1.length c0_1, .slice A0_2 l0_2.length c0_2] 25 (0, 0)) (by (with_reducible repeat (first | refine bN ?_ _ | refine bdz ?_ | refine bA ?_ _)); exact BK101.1)) : gb101 ≠ gb102)); have n6_ := Q0.mk ((by rw [hg]; exact Nat.ne_of_gt (blk_lt (g := gb101) (o := .cells #[.int .i64 a0_0, .slice A0_1 l0_1.length c0_1, .slice A0_2 l0_2.length c0_2] 25 (0, 0)) (by (with_reducible repeat (first | refine bN ?_ _ | refine bdz ?_ | refine bA ?_ _)); exact BK101.1)) : gb102 ≠ gb101)); clear BK101; clear HB; have BK101 := n0_; have HB := n1_; have BK102 := n2_; have GW102 := n3_; have GE102 := n4_; have NB101_102 := n5_; have NB102_101 := n6_; clear n0_ n1_ n2_ n3_ n4_ n5_ n6_; clear hb hbox hg))
  have n0_ := Q0.mk (bdz BK101.1)
  have n1_ := Q0.mk (bdz BK102.1)
  have n2_ := Q0.mk (bD HB.1)
  clear BK101
  clear BK102
  clear HB
  have BK101 := n0_
  have BK102 := n1_
  have HB := n2_
  clear n0_ n1_ n2_
  refine start_ (n := 11) (S := fun w' => w'.cell? ⟨gb101, 0, none⟩ = some (.int .i64 a0_0) ∧ w'.cell? ⟨gb101, 1, none⟩ = some (.slice A0_1 l0_1.length c0_1) ∧ w'.cell? ⟨gb101, 2, none⟩ = some (.slice A0_2 l0_2.length c0_2)) (ds := []) #[false, false, false, false, false, false, false, false, false, false, false] (by kernel_rfl) rfl rfl ⟨(bc BK101.1 0).trans rfl, (bc BK101.1 1).trans rfl, (bc BK101.1 2).trans rfl⟩ (fun hHeld => ?_); refine with_tabW ck_OwnAutomaton.tab1 ck_OwnAutomaton.bits1 (fun HT_ HW_ => ?_)
  generalize w5.drew = w6 at BK101 BK102 HB hHeld ⊢
  refine pure_ (i := 0) (N := some 3) (v := ?_) (a' := ?_) #[true, false, false, false, false, false, false, false, false, false, false] rfl rfl (any_of HT_.1 (by kernel_rfl)) (fun _ _ _ h => h) (Or.inl ⟨by rfl, ?_⟩) ?_ ?_
  rotate_left
  ·intro w'
   go_simp
   with_reducible rfl
  rotate_left
  ·simp only [Act.put, sA, sB, sC, i64_w, i32_w]
   rfl
  refine pure_ (i := 2) (N := some 5) (v := ?_) (a' := ?_) #[true, false, true, false, false, false, false, false, false, false, false] rfl rfl (any_of HT_.1 (by kernel_rfl)) (fun _ _ _ h => h) (Or.inl ⟨by rfl, ?_⟩) ?_ ?_
  rotate_left
  ·intro w'
   go_simp
   with_reducible rfl
  rotate_left
  ·simp only [Act.put, sA, sB, sC, i64_w, i32_w]
   rfl
  refine pure_ (i := 6) (N := some 9) (v := ?_) (a' := ?_) #[true, false, true, false, false, false, true, false, false, false, false] rfl rfl (any_of HT_.1 (by kernel_rfl)) (fun _ _ _ h => h) (Or.inl ⟨by rfl, ?_⟩) ?_ ?_
  rotate_left
  ·intro w'
   go_simp
   with_reducible rfl
  rotate_left
  ·simp only [Act.put, sA, sB, sC, i64_w, i32_w]
   rfl
  refine take_ (i := 1) (N := some 4) (v := ?_) (a' := ?_) #[true, true, true, false, false, false, true, false, false, false, false] rfl rfl (take_ofW HT_.1 HW_.1 (by kernel_rfl)) (fun _ _ _ h => h) (Or.inl ⟨by rfl, ?_⟩) hHeld ?_ ?_
  rotate_left
  ·rintro w' ⟨s0, s1, s2⟩
   go_simp
   with_reducible rfl
  rotate_left
  ·simp only [Act.put, sA, sB, sC, i64_w, i32_w]
   rfl
  refine take_ (i := 3) (N := some 6) (v := ?_) (a' := ?_) #[true, true, true, true, false, false, true, false, false, false, false] rfl rfl (take_ofW HT_.1 HW_.1 (by kernel_rfl)) (fun _ _ _ h => h) (Or.inl ⟨by rfl, ?_⟩) hHeld ?_ ?_
  rotate_left
  ·rintro w' ⟨s0, s1, s2⟩
   go_simp
   with_reducible rfl
  rotate_left
  ·simp only [Act.put, sA, sB, sC, i64_w, i32_w]
   rfl
  refine take_ (i := 7) (N := some 10) (v := ?_) (a' := ?_) #[true, true, true, true, false, false, true, true, false, false, false] rfl rfl (take_ofW HT_.1 HW_.1 (by kernel_rfl)) (fun _ _ _ h => h) (Or.inl ⟨by rfl, ?_⟩) hHeld ?_ ?_
  rotate_left
  ·rintro w' ⟨s0, s1, s2⟩
   go_simp
   with_reducible rfl
  rotate_left
  ·simp only [Act.put, sA, sB, sC, i64_w, i32_w]
   rfl
  refine join_ (σ := Value × Value) 3 #[true, true, true, true, true, true, true, true, false, false, false] (fun s_ => [(7, s_.1), (8, s_.2)]) (fun s_ w' => (w'.cell? ⟨gb101, 0, none⟩ = some (.int .i64 a0_0) ∧ w'.cell? ⟨gb101, 1, none⟩ = some (.slice A0_1 l0_1.length c0_1) ∧ w'.cell? ⟨gb101, 2, none⟩ = some (.slice A0_2 l0_2.length c0_2)) ∧ (Kd.S (Kd.slice 3 (Kd.int .i64)) 45 w' w.heap.size (fun _ => True) s_.1 t103) ∧ (Kd.R Kd.bool 4 w' w.heap.size (fun _ => True) s_.2 y106) ∧ (w'.heap[gb101]? = some (.cells #[.int .i64 a0_0, .slice A0_1 l0_1.length c0_1, .slice A0_2 l0_2.length c0_2] 25 (0, 0))) ∧ (w'.heap[gb102]? = some (.cells #[.int .i64 0, .slice none 0 0, .slice none 0 0] 25 (0, 0))) ∧ (Below w.heap.size w w')) ?_ ?_
  rotate_left
  ·intro hCont
   refine two_ (i := 4) (j := 5) (Ni := some 7) (Nj := some 8) #[true, true, true, true, true, false, true, true, false, false, false] #[true, true, true, true, false, true, true, true, false, false, false] rfl rfl rfl rfl (two_of HT_.1 (by kernel_rfl)) (by decide) (by decide) (fun K hK => ?_) (fun K hK => ?_)
   ·skip
    refine goes_ Try.func81 (by kernel_rfl) rfl #[.slice A0_1 l0_1.length c0_1] (by rfl) rfl rfl (by (try simp only [List.map_toArray, List.map_cons, List.map_nil]); first | done | rfl | (simp only [List.length_drop, List.length_take]; rfl)) ?_
    with_reducible refine (ck_OwnLists.calls k _ _ l0_1 t103 _ ?side1 ?side2 A2.1).mono ?_
    (case side1 => repeat (first | exact (Kd.C_below HR0_1.1 HB.1) | (with_reducible refine Kd.C_alloc ?_ _) | (with_reducible refine Kd.C_drewN ?_ _) | (with_reducible refine Kd.C_drew ?_)))
    (case side2 => exact HC0_1.1)
    rintro e w7 ⟨v104, rfl, ho0, hb⟩
    refine ⟨_, rfl, ?_⟩
    have n0_ := Q0.mk (Kd.S_lower ho0 (below_size (by repeat (first | (with_reducible first | exact HB.1 | apply ba | apply pN | apply bD | refine bS ?_ GE101.1 | refine bS ?_ GE102.1) | exact HB.1))))
    have n1_ := Q0.mk (bb (g := gb101) (o := .cells #[.int .i64 a0_0, .slice A0_1 l0_1.length c0_1, .slice A0_2 l0_2.length c0_2] 25 (0, 0)) (by (with_reducible repeat (first | refine bN ?_ _ | refine bdz ?_ | refine bA ?_ _)); exact BK101.1) hb)
    have n2_ := Q0.mk (bb (g := gb102) (o := .cells #[.int .i64 0, .slice none 0 0, .slice none 0 0] 25 (0, 0)) (by (with_reducible repeat (first | refine bN ?_ _ | refine bdz ?_ | refine bA ?_ _)); exact BK102.1) hb)
    have n3_ := Q0.mk (bsz (by repeat (first | (with_reducible first | exact HB.1 | apply ba | apply pN | apply bD | refine bS ?_ GE101.1 | refine bS ?_ GE102.1) | exact HB.1)) hb)
    clear BK101
    clear BK102
    clear HB
    have HO105 := n0_
    have BK101 := n1_
    have BK102 := n2_
    have HB := n3_
    clear n0_ n1_ n2_ n3_
    (try clear hb)
    (try clear hb2)
    (try clear hk)
    (try clear hi)
    (try clear ho0)
    refine hK.out _ _ ⟨(bc BK101.1 0).trans rfl, (bc BK101.1 1).trans rfl, (bc BK101.1 2).trans rfl⟩ (fun hHeld => ?_)
    clear hK K
    refine norm_ (a' := ?_) ?_ ?_
    rotate_left
    ·show Act.put _ (some 7) _ = _
     simp only [Act.put, sA, sB, sC, i64_w, i32_w]
     rfl
    refine one_ (i := 5) (N := some 8) #[true, true, true, true, true, true, true, true, false, false, false] rfl rfl (one_of HT_.1 (by kernel_rfl)) (by decide) (fun K hK => ?_)
    refine Kd.R_lit_step Kd.bool _ 4 ?hg (N := 8) ?hd (xs := ([] : List Bool)) (inner := []) (ok := fun _ => True) (okp := fun _ => True) ?hr ?hp (fun _ hk => hk) trivial (Below.refl _ _) (Nat.le_refl _) (by simp) ?_; (case hd => rfl); (case hg => rfl); (case hr => first | (go_simp; done) | (go_simp; rfl)); (case hp => exact (Reps.none _ _))
    intro v107 w8 ho9 hb hg_ hnew_
    clear hg_ hnew_
    (first | rw [← Ny106.1] at ho9 | (simp only [Int.reduceToNat] at ho9; rw [← Ny106.1] at ho9))
    have n0_ := Q0.mk (Kd.S_below (by (with_reducible repeat (first | apply Kd.S_alloc | apply Kd.S_drewN | apply Kd.S_drew)); exact HO105.1) hb)
    have n1_ := Q0.mk (Kd.R_lower ho9 (below_size (by repeat (first | (with_reducible first | exact HB.1 | apply ba | apply pN | apply bD | refine bS ?_ GE101.1 | refine bS ?_ GE102.1) | exact HB.1))))
    have n2_ := Q0.mk (bb (g := gb101) (o := .cells #[.int .i64 a0_0, .slice A0_1 l0_1.length c0_1, .slice A0_2 l0_2.length c0_2] 25 (0, 0)) (by (with_reducible repeat (first | refine bN ?_ _ | refine bdz ?_ | refine bA ?_ _)); exact BK101.1) hb)
    have n3_ := Q0.mk (bb (g := gb102) (o := .cells #[.int .i64 0, .slice none 0 0, .slice none 0 0] 25 (0, 0)) (by (with_reducible repeat (first | refine bN ?_ _ | refine bdz ?_ | refine bA ?_ _)); exact BK102.1) hb)
    have n4_ := Q0.mk (bsz (by repeat (first | (with_reducible first | exact HB.1 | apply ba | apply pN | apply bD | refine bS ?_ GE101.1 | refine bS ?_ GE102.1) | exact HB.1)) hb)
    clear HO105
    clear BK101
    clear BK102
    clear HB
    have HO105 := n0_
    have HO108 := n1_
    have BK101 := n2_
    have BK102 := n3_
    have HB := n4_
    clear n0_ n1_ n2_ n3_ n4_
    clear hb ho9
    refine hK.out _ _ ⟨(bc BK101.1 0).trans rfl, (bc BK101.1 1).trans rfl, (bc BK101.1 2).trans rfl⟩ (fun hHeld => ?_)
    clear hK K
    refine norm_ (a' := ?_) ?_ ?_
    rotate_left
    ·show Act.put _ (some 8) _ = _
     simp only [Act.put, sA, sB, sC, i64_w, i32_w]
     rfl
    exact norm_ (by simp only [putAll, Act.put, sA, sB, sC]) (hCont (v104, v107) _ ⟨hHeld, (by (with_reducible repeat (first | apply Kd.S_alloc | apply Kd.S_drewN | apply Kd.S_drew)); exact HO105.1), (by (with_reducible repeat (first | apply Kd.R_alloc | apply Kd.R_drewN | apply Kd.R_drew)); exact HO108.1), (by (with_reducible repeat (first | refine bN ?_ _ | refine bdz ?_ | refine bA ?_ _)); exact BK101.1), (by (with_reducible repeat (first | refine bN ?_ _ | refine bdz ?_ | refine bA ?_ _)); exact BK102.1), (by repeat (first | (with_reducible first | exact HB.1 | apply ba | apply pN | apply bD | refine bS ?_ GE101.1 | refine bS ?_ GE102.1) | exact HB.1))⟩)
   ·skip
    refine Kd.R_lit_step Kd.bool _ 4 ?hg (N := 8) ?hd (xs := ([] : List Bool)) (inner := []) (ok := fun _ => True) (okp := fun _ => True) ?hr ?hp (fun _ hk => hk) trivial (Below.refl _ _) (Nat.le_refl _) (by simp) ?_; (case hd => rfl); (case hg => rfl); (case hr => first | (go_simp; done) | (go_simp; rfl)); (case hp => exact (Reps.none _ _))
    intro v107 w7 ho8 hb hg_ hnew_
    clear hg_ hnew_
    (first | rw [← Ny106.1] at ho8 | (simp only [Int.reduceToNat] at ho8; rw [← Ny106.1] at ho8))
    have n0_ := Q0.mk (Kd.R_lower ho8 (below_size (by repeat (first | (with_reducible first | exact HB.1 | apply ba | apply pN | apply bD | refine bS ?_ GE101.1 | refine bS ?_ GE102.1) | exact HB.1))))
    have n1_ := Q0.mk (bb (g := gb101) (o := .cells #[.int .i64 a0_0, .slice A0_1 l0_1.length c0_1, .slice A0_2 l0_2.length c0_2] 25 (0, 0)) (by (with_reducible repeat (first | refine bN ?_ _ | refine bdz ?_ | refine bA ?_ _)); exact BK101.1) hb)
    have n2_ := Q0.mk (bb (g := gb102) (o := .cells #[.int .i64 0, .slice none 0 0, .slice none 0 0] 25 (0, 0)) (by (with_reducible repeat (first | refine bN ?_ _ | refine bdz ?_ | refine bA ?_ _)); exact BK102.1) hb)
    have n3_ := Q0.mk (bsz (by repeat (first | (with_reducible first | exact HB.1 | apply ba | apply pN | apply bD | refine bS ?_ GE101.1 | refine bS ?_ GE102.1) | exact HB.1)) hb)
    clear BK101
    clear BK102
    clear HB
    have HO108 := n0_
    have BK101 := n1_
    have BK102 := n2_
    have HB := n3_
    clear n0_ n1_ n2_ n3_
    clear hb ho8
    refine hK.out _ _ ⟨(bc BK101.1 0).trans rfl, (bc BK101.1 1).trans rfl, (bc BK101.1 2).trans rfl⟩ (fun hHeld => ?_)
    clear hK K
    refine norm_ (a' := ?_) ?_ ?_
    rotate_left
    ·show Act.put _ (some 8) _ = _
     simp only [Act.put, sA, sB, sC, i64_w, i32_w]
     rfl
    refine one_ (i := 4) (N := some 7) #[true, true, true, true, true, true, true, true, false, false, false] rfl rfl (one_of HT_.1 (by kernel_rfl)) (by decide) (fun K hK => ?_)
    refine goes_ Try.func81 (by kernel_rfl) rfl #[.slice A0_1 l0_1.length c0_1] (by rfl) rfl rfl (by (try simp only [List.map_toArray, List.map_cons, List.map_nil]); first | done | rfl | (simp only [List.length_drop, List.length_take]; rfl)) ?_
    with_reducible refine (ck_OwnLists.calls k _ _ l0_1 t103 _ ?side1 ?side2 A2.1).mono ?_
    (case side1 => repeat (first | exact (Kd.C_below HR0_1.1 HB.1) | (with_reducible refine Kd.C_alloc ?_ _) | (with_reducible refine Kd.C_drewN ?_ _) | (with_reducible refine Kd.C_drew ?_)))
    (case side2 => exact HC0_1.1)
    rintro e w9 ⟨v104, rfl, ho0, hb⟩
    refine ⟨_, rfl, ?_⟩
    have n0_ := Q0.mk (Kd.R_below (by (with_reducible repeat (first | apply Kd.R_alloc | apply Kd.R_drewN | apply Kd.R_drew)); exact HO108.1) hb)
    have n1_ := Q0.mk (Kd.S_lower ho0 (below_size (by repeat (first | (with_reducible first | exact HB.1 | apply ba | apply pN | apply bD | refine bS ?_ GE101.1 | refine bS ?_ GE102.1) | exact HB.1))))
    have n2_ := Q0.mk (bb (g := gb101) (o := .cells #[.int .i64 a0_0, .slice A0_1 l0_1.length c0_1, .slice A0_2 l0_2.length c0_2] 25 (0, 0)) (by (with_reducible repeat (first | refine bN ?_ _ | refine bdz ?_ | refine bA ?_ _)); exact BK101.1) hb)
    have n3_ := Q0.mk (bb (g := gb102) (o := .cells #[.int .i64 0, .slice none 0 0, .slice none 0 0] 25 (0, 0)) (by (with_reducible repeat (first | refine bN ?_ _ | refine bdz ?_ | refine bA ?_ _)); exact BK102.1) hb)
    have n4_ := Q0.mk (bsz (by repeat (first | (with_reducible first | exact HB.1 | apply ba | apply pN | apply bD | refine bS ?_ GE101.1 | refine bS ?_ GE102.1) | exact HB.1)) hb)
    clear HO108
    clear BK101
    clear BK102
    clear HB
    have HO108 := n0_
    have HO105 := n1_
    have BK101 := n2_
    have BK102 := n3_
    have HB := n4_
    clear n0_ n1_ n2_ n3_ n4_
    (try clear hb)
    (try clear hb2)
    (try clear hk)
    (try clear hi)
    (try clear ho0)
    refine hK.out _ _ ⟨(bc BK101.1 0).trans rfl, (bc BK101.1 1).trans rfl, (bc BK101.1 2).trans rfl⟩ (fun hHeld => ?_)
    clear hK K
    refine norm_ (a' := ?_) ?_ ?_
    rotate_left
    ·show Act.put _ (some 7) _ = _
     simp only [Act.put, sA, sB, sC, i64_w, i32_w]
     rfl
    exact norm_ (by simp only [putAll, Act.put, sA, sB, sC]) (hCont (v104, v107) _ ⟨hHeld, (by (with_reducible repeat (first | apply Kd.S_alloc | apply Kd.S_drewN | apply Kd.S_drew)); exact HO105.1), (by (with_reducible repeat (first | apply Kd.R_alloc | apply Kd.R_drewN | apply Kd.R_drew)); exact HO108.1), (by (with_reducible repeat (first | refine bN ?_ _ | refine bdz ?_ | refine bA ?_ _)); exact BK101.1), (by (with_reducible repeat (first | refine bN ?_ _ | refine bdz ?_ | refine bA ?_ _)); exact BK102.1), (by repeat (first | (with_reducible first | exact HB.1 | apply ba | apply pN | apply bD | refine bS ?_ GE101.1 | refine bS ?_ GE102.1) | exact HB.1))⟩)
  rintro ⟨v104, v107⟩ w10 ⟨hS_, h0_, h1_, h2_, h3_, h4_⟩
  have n0_ : Q0 (Kd.S (Kd.slice 3 (Kd.int .i64)) 45 w10 w.heap.size (fun _ => True) v104 t103) := ⟨h0_⟩
  have n1_ : Q0 (Kd.R Kd.bool 4 w10 w.heap.size (fun _ => True) v107 y106) := ⟨h1_⟩
  have n2_ : Q0 (w10.heap[gb101]? = some (.cells #[.int .i64 a0_0, .slice A0_1 l0_1.length c0_1, .slice A0_2 l0_2.length c0_2] 25 (0, 0))) := ⟨h2_⟩
  have n3_ : Q0 (w10.heap[gb102]? = some (.cells #[.int .i64 0, .slice none 0 0, .slice none 0 0] 25 (0, 0))) := ⟨h3_⟩
  have n4_ : Q0 (Below w.heap.size w w10) := ⟨h4_⟩
  clear BK101
  clear BK102
  clear HB
  clear h0_ h1_ h2_ h3_ h4_
  have HO105 := n0_
  have HO108 := n1_
  have BK101 := n2_
  have BK102 := n3_
  have HB := n4_
  clear n0_ n1_ n2_ n3_ n4_
  have hHeld : w10.cell? ⟨gb101, 0, none⟩ = some (.int .i64 a0_0) ∧ w10.cell? ⟨gb101, 1, none⟩ = some (.slice A0_1 l0_1.length c0_1) ∧ w10.cell? ⟨gb101, 2, none⟩ = some (.slice A0_2 l0_2.length c0_2) := hS_
  refine norm_ (a' := ?_) ?_ ?_
  rotate_left
  ·simp only [putAll, Act.put, sA, sB, sC]
   rfl
  refine one_ (i := 8) (N := some 11) #[true, true, true, true, true, true, true, true, true, false, false] rfl rfl (one_of HT_.1 (by kernel_rfl)) (by decide) (fun K hK => ?_)
  refine Kd.R_append_rows_step Kd.bool (w0 := w) w.heap.size (by rfl) (.tmp 8) (.tmp 10) 23 4 (.bool false) 1 rfl Try.underlying23 info4 rfl (by decide) (by omega) v107 y106 l0_2 _ _ _ (fun _ => True) (fun _ => False) rfl rfl ?aO ?aR (fun _ _ h => h) (fun _ h => h.elim) ?aF ?aB ?aS ?aL ?_
  (case aR => repeat (first | exact (Kd.C_below HR0_2.1 HB.1) | (with_reducible refine Kd.C_alloc ?_ _) | (with_reducible refine Kd.C_drewN ?_ _) | (with_reducible refine Kd.C_drew ?_)))
  (case aB => exact (by repeat (first | (with_reducible first | exact HB.1 | apply ba | apply pN | apply bD | refine bS ?_ GE101.1 | refine bS ?_ GE102.1) | exact HB.1)))
  (case aF => exact (fun _ _ => trivial))
  (case aO => exact (by (with_reducible repeat (first | apply Kd.R_alloc | apply Kd.R_drewN | apply Kd.R_drew)); exact HO108.1))
  (case aS => exact (below_size (by repeat (first | (with_reducible first | exact HB.1 | apply ba | apply pN | apply bD | refine bS ?_ GE101.1 | refine bS ?_ GE102.1) | exact HB.1))))
  (case aL => have := LMc3.1; omega)
  intro v110 w11 ho hb hg hat
  rw [← Ny109.1] at ho
  have n0_ := Q0.mk (bG (g := gb101) (o := .cells #[.int .i64 a0_0, .slice A0_1 l0_1.length c0_1, .slice A0_2 l0_2.length c0_2] 25 (0, 0)) (by (with_reducible repeat (first | refine bN ?_ _ | refine bdz ?_ | refine bA ?_ _)); exact BK101.1) hg (Kd.R_ne HO108.1 BK101.1 (by decide)))
  have n1_ := Q0.mk (bG (g := gb102) (o := .cells #[.int .i64 0, .slice none 0 0, .slice none 0 0] 25 (0, 0)) (by (with_reducible repeat (first | refine bN ?_ _ | refine bdz ?_ | refine bA ?_ _)); exact BK102.1) hg (Kd.R_ne HO108.1 BK102.1 (by decide)))
  have n2_ := Q0.mk (Kd.S_over' (by (with_reducible repeat (first | apply Kd.S_alloc | apply Kd.S_drewN | apply Kd.S_drew)); exact HO105.1) (Kd.R_typed (by (with_reducible repeat (first | apply Kd.R_alloc | apply Kd.R_drewN | apply Kd.R_drew)); exact HO108.1)) (by decide) hg)
  have n3_ := Q0.mk (hb)
  have n4_ := Q0.mk (ho)
  clear BK101
  clear BK102
  clear HO105
  clear HB
  clear HO108
  have BK101 := n0_
  have BK102 := n1_
  have HO105 := n2_
  have HB := n3_
  have HO111 := n4_
  clear n0_ n1_ n2_ n3_ n4_
  clear ho hb hg hat
  obtain ⟨Ao12, co12, eo12⟩ := Kd.R_slice HO111.1
  (first | subst eo12 | (injection eo12 with f1_ f2_ f3_; have f4_ := f1_.symm; have f5_ := f3_.symm; clear f1_ f2_ f3_; subst f4_; subst f5_))
  obtain ⟨Ao13, co13, eo13⟩ := Kd.S_slice HO105.1
  (first | subst eo13 | (injection eo13 with f1_ f2_ f3_; have f4_ := f1_.symm; have f5_ := f3_.symm; clear f1_ f2_ f3_; subst f4_; subst f5_))
  refine hK.out _ _ ⟨(bc BK101.1 0).trans rfl, (bc BK101.1 1).trans rfl, (bc BK101.1 2).trans rfl⟩ (fun hHeld => ?_)
  clear hK K
  refine norm_ (a' := ?_) ?_ ?_
  rotate_left
  ·show Act.put _ (some 11) _ = _
   simp only [Act.put, sA, sB, sC, i64_w, i32_w]
   rfl
  refine pure_ (i := 9) (N := some 12) (v := ?_) (a' := ?_) #[true, true, true, true, true, true, true, true, true, true, false] rfl rfl (any_of HT_.1 (by kernel_rfl)) (fun _ _ _ h => h) (Or.inl ⟨by rfl, ?_⟩) ?_ ?_
  rotate_left
  ·intro w'
   go_simp
   with_reducible rfl
  rotate_left
  ·simp only [Act.put, sA, sB, sC, i64_w, i32_w]
   rfl
  refine one_ (i := 10) (N := none) #[true, true, true, true, true, true, true, true, true, true, true] rfl rfl (one_of HT_.1 (by kernel_rfl)) (by decide) (fun K hK => ?_)
  have hs14 : w11.cell? ⟨gb102, 0, none⟩ = some (.int .i64 0) := (bc BK102.1 0).trans rfl
  have hfs14 := bf BK102.1 0
  have hns14_0 := NB101_102.1
  have hms14_0 := NB102_101.1
  have hs15 : w11.cell? ⟨gb102, 1, none⟩ = some (.slice none 0 0) := (bc BK102.1 1).trans rfl
  have hfs15 := bf BK102.1 1
  have hns15_0 := NB101_102.1
  have hms15_0 := NB102_101.1
  have hs16 : w11.cell? ⟨gb102, 2, none⟩ = some (.slice none 0 0) := (bc BK102.1 2).trans rfl
  have hfs16 := bf BK102.1 2
  have hns16_0 := NB101_102.1
  have hms16_0 := NB102_101.1
  refine skip_ (w1 := ?_) (by rfl) rfl ?_ ?_
  rotate_left
  ·go_simp
   rfl
  refine hK.out _ _ ⟨((cell_far (p := ⟨gb102, _, none⟩) NB101_102.1 _).trans (((cell_far (p := ⟨gb102, _, none⟩) NB101_102.1 _).trans (((cell_far (p := ⟨gb102, _, none⟩) NB101_102.1 _).trans (hHeld.1)))))), ((cell_far (p := ⟨gb102, _, none⟩) NB101_102.1 _).trans (((cell_far (p := ⟨gb102, _, none⟩) NB101_102.1 _).trans (((cell_far (p := ⟨gb102, _, none⟩) NB101_102.1 _).trans (hHeld.2.1)))))), ((cell_far (p := ⟨gb102, _, none⟩) NB101_102.1 _).trans (((cell_far (p := ⟨gb102, _, none⟩) NB101_102.1 _).trans (((cell_far (p := ⟨gb102, _, none⟩) NB101_102.1 _).trans (hHeld.2.2))))))⟩ (fun hHeld => ?_)
  clear hK K
  refine done_ (done_of HT_.1 (by kernel_rfl)) ?_
  try go_wp2
  refine bodyPost_ret (results_cell_row rfl _ _ gb102 25 #[.int .i64 a0_0, .slice Ao13 t103.length co13, .slice Ao12 y109.length co12] (0, 0) _ rfl (by (with_reducible repeat (first | refine bN ?_ _ | refine bdz ?_ | refine bA ?_ _)); refine bp (cs := #[.int .i64 a0_0, .slice Ao13 t103.length co13, .slice none 0 0]) ?_ 2 _ rfl; (with_reducible repeat (first | refine bN ?_ _ | refine bdz ?_ | refine bA ?_ _)); refine bp (cs := #[.int .i64 a0_0, .slice none 0 0, .slice none 0 0]) ?_ 1 _ rfl; (with_reducible repeat (first | refine bN ?_ _ | refine bdz ?_ | refine bA ?_ _)); refine bp (cs := #[.int .i64 0, .slice none 0 0, .slice none 0 0]) ?_ 0 _ rfl; (with_reducible repeat (first | refine bN ?_ _ | refine bdz ?_ | refine bA ?_ _)); exact BK102.1) Try.underlying25 rfl (by kernel_rfl)) rfl ?_
  exact ⟨_, _, by first | rfl | (simp [errW_none, errW_some] <;> rfl) | (simp [*, errW_none, errW_some] <;> rfl), by (with_reducible repeat (first | apply Kd.S_alloc | apply Kd.S_drewN | apply Kd.S_drew)); exact Kd.S_mono (Kd.S_far (p := ⟨gb102, 2, none⟩) (Kd.S_far (p := ⟨gb102, 1, none⟩) (Kd.S_far (p := ⟨gb102, 0, none⟩) (Kd.S_types HO105.1 BK102.1 (by decide)) (fun _ hk => hk.2) (.int .i64 a0_0)) (fun _ hk => hk.2) (.slice Ao13 t103.length co13)) (fun _ hk => hk.2) (.slice Ao12 y109.length co12)) (fun _ hk => trivial), by (with_reducible repeat (first | apply Kd.R_alloc | apply Kd.R_drewN | apply Kd.R_drew)); exact Kd.R_mono (Kd.R_far (p := ⟨gb102, 2, none⟩) (Kd.R_far (p := ⟨gb102, 1, none⟩) (Kd.R_far (p := ⟨gb102, 0, none⟩) (Kd.R_types HO111.1 BK102.1 (by decide)) (fun _ hk => hk.2) (.int .i64 a0_0)) (fun _ hk => hk.2) (.slice Ao13 t103.length co13)) (fun _ hk => hk.2) (.slice Ao12 y109.length co12)) (fun _ hk => trivial), by repeat (first | (with_reducible first | exact HB.1 | apply ba | apply pN | apply bD | refine bS ?_ GE101.1 | refine bS ?_ GE102.1) | exact HB.1)⟩
 ·rw [if_neg c3] at H
  exact absurd H (by simp)

end Go.Proofs.Ytelkjbacdpmnfaa.A
