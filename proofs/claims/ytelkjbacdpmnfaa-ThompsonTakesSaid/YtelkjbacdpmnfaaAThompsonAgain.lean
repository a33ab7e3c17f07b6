/- By a program, out of the translation (wip/myprint.py). -/
import Derived.Test.YtelkjbacdpmnfaaA0
import Derived.Test.YtelkjbacdpmnfaaAThompsonGood
import Derived.Test.YtelkjbacdpmnfaaAThompsonLaid
import Derived.Test.YtelkjbacdpmnfaaAThompsonMade
import Derived.Test.YtelkjbacdpmnfaaAThompsonNets
import Derived.Test.YtelkjbacdpmnfaaAThompsonRows
namespace Go.Proofs.Ytelkjbacdpmnfaa.A
open Go.RowKit Go.Proofs.YtelkjbacdpmnfaaW.PrintWords Go.Proofs.YtelkjbacdpmnfaaW.PrintLast Go.Proofs.YtelkjbacdpmnfaaW.PrintMore
attribute [local go_sem] max2_int min2_int max_two min_two max_three min_three max_four min_four   -- for this text's walks alone
set_option linter.unusedVariables false
set_option linter.unusedSimpArgs false

/-! ### thompson_Again: function 31 -/
def thompson_Again.f (k : Nat) (a0_0 : Int) (l0_1 : List (List Int)) (l0_2 : List Bool) : Option (Int × (List (List (S82))) × Bool) := if goodB a0_0 l0_1 l0_2 = true then ((thompson_laid.f k a0_0 l0_1 l0_2 (2) (0)).bind fun L0 => (if L0.length < 5000 then some (a0_0, [[1, 2].map noth, []] ++ L0, decide (((2 + L0.length : Nat) : Int) ≤ 4000)) else none)) else some (0, [], false)
theorem thompson_Again.mono : ∀ a0_0 l0_1 l0_2 k, LeO (thompson_Again.f k a0_0 l0_1 l0_2) (thompson_Again.f (k + 1) a0_0 l0_1 l0_2) := by
  intro a0_0 l0_1 l0_2 k
  unfold thompson_Again.f
  refine LeO.ite ?_ (LeO.refl _)
  refine LeO.bind (thompson_laid.mono _ _ _ _ _ k) (fun _ => ?_)
  exact LeO.refl _
set_option maxHeartbeats 8000000 in
set_option maxRecDepth 100000 in
theorem thompson_Again.calls (k : Nat) (a0_0 : Int) (A0_1 : Option Addr) (c0_1 : Nat) (l0_1 : List (List Int)) (A0_2 : Option Addr) (c0_2 : Nat) (l0_2 : List Bool) (r1 : Int) (r2 : List (List (S82))) (r3 : Bool) (w : World) (hr0_1 : Kd.C (Kd.slice 3 (Kd.int .i64)) w A0_1 l0_1.length l0_1) (hc0_1 : l0_1.length ≤ c0_1) (hr0_2 : Kd.C Kd.bool w A0_2 l0_2.length l0_2) (hc0_2 : l0_2.length ≤ c0_2) (h : thompson_Again.f k a0_0 l0_1 l0_2 = some (r1, r2, r3)) :
    Calls Try.prog 31 #[.agg #[.int .i64 a0_0, .slice A0_1 l0_1.length c0_1, .slice A0_2 l0_2.length c0_2]] w fun e w' => ∃ v1_ : Value, e = .returned (.tuple #[.agg #[.int .i64 r1, v1_], .bool r3]) ∧ Kd.S (Kd.slice 82 k82) 79 w' w.heap.size (fun _ => True) v1_ r2 ∧ Below w.heap.size w w' := by
  have hu25 := Try.underlying25
  have hu28 := Try.underlying28
  have hu45 := Try.underlying45
  have hu26 := Try.underlying26
  have hu79 := Try.underlying79
  have hu124 := Try.underlying124
  have hlm0 := hr0_1.2.1
  have HR0_1 := Aside0.mk hr0_1
  have HR0_2 := Aside0.mk hr0_2
  clear hr0_1 hr0_2
  unfold thompson_Again.f at h
  cases hg : goodB a0_0 l0_1 l0_2 with
  | false =>
    rw [hg] at h
    have hG := fun (W : World) (hb : Below w.heap.size w W) => thompson_Good.calls a0_0 A0_1 c0_1 l0_1 A0_2 c0_2 l0_2 false W (Kd.C_below HR0_1.out hb) hc0_1 (Kd.C_below HR0_2.out hb) hc0_2 (by unfold thompson_Good.f; rw [hg])
    have HG := Aside0.mk hG
    have HGG := Aside0.mk hg
    clear hG hg
    simp only [Bool.false_eq_true, if_false, Option.some.injEq, Prod.mk.injEq] at h
    obtain ⟨rfl, rfl, rfl⟩ := h
    go_enter Try.func31, Try.ntmps31
    go_wp2_with (go_at_call 36; refine (HG.out _ (below_alloc (below_alloc (Below.refl w.heap.size w) (Obj.cells #[.int .i64 a0_0, .slice A0_1 l0_1.length c0_1, .slice A0_2 l0_2.length c0_2] 25)) (Obj.cells #[.int .i64 0, .slice none 0 0] 28))).mono ?_; rintro e w' ⟨rfl, hb⟩; have HB := Aside0.mk (below_step (below_alloc (below_alloc (Below.refl w.heap.size w) (Obj.cells #[.int .i64 a0_0, .slice A0_1 l0_1.length c0_1, .slice A0_2 l0_2.length c0_2] 25)) (Obj.cells #[.int .i64 0, .slice none 0 0] 28)) hb); have BR := Aside0.mk (blk_below (blk_new (w.alloc (Obj.cells #[.int .i64 a0_0, .slice A0_1 l0_1.length c0_1, .slice A0_2 l0_2.length c0_2] 25)) (Obj.cells #[.int .i64 0, .slice none 0 0] 28)) hb); clear hb; simp only [heap_size_alloc', Nat.add_assoc] at BR; have hs0_ : w'.cell? ⟨w.heap.size + 1, 0, none⟩ = some (.int .i64 0) := (blk_cell BR.out 0).trans rfl; have hs1_ : w'.cell? ⟨w.heap.size + 1, 1, none⟩ = some (.slice none 0 0) := (blk_cell BR.out 1).trans rfl; have hf0_ := blk_frozen BR.out 0; have hf1_ := blk_frozen BR.out 1)
    refine bodyPost_ret (results_ct rfl _ _ (w.heap.size + 1) 28 #[.int .i64 0, .slice none 0 0] (0, 0) _ rfl (blk_put (blk_put BR.out 0 (.int .i64 0) rfl) 1 (.slice none 0 0) rfl) Try.underlying28 rfl (by kernel_rfl)) rfl ?_
    exact ⟨.slice none 0 0, rfl, Kd.S_nil _ _ _ _ _, (HB.out.setCell (by show w.heap.size ≤ w.heap.size + 1; omega) _).setCell (by show w.heap.size ≤ w.heap.size + 1; omega) _⟩
  | true =>
    rw [hg] at h
    have hG := fun (W : World) (hb : Below w.heap.size w W) => thompson_Good.calls a0_0 A0_1 c0_1 l0_1 A0_2 c0_2 l0_2 true W (Kd.C_below HR0_1.out hb) hc0_1 (Kd.C_below HR0_2.out hb) hc0_2 (by unfold thompson_Good.f; rw [hg])
    have HG := Aside0.mk hG
    have HGG := Aside0.mk hg
    clear hG hg
    rw [if_pos rfl] at h
    obtain ⟨L0, hL0, h⟩ := Option.bind_eq_some_iff.1 h
    have HL0 := Aside0.mk hL0
    clear hL0
    split at h
    case isFalse => exact absurd h (by simp)
    rename_i hlt
    simp only [Option.some.injEq, Prod.mk.injEq] at h
    obtain ⟨rfl, rfl, rfl⟩ := h
    have hk64 : (l0_1.length : Int) ≤ 1000 := goodB_len HGG.out
    skip
    go_enter Try.func31, Try.ntmps31
    go_wp2_with (go_at_call 36; refine (HG.out _ (below_alloc (below_alloc (Below.refl w.heap.size w) (Obj.cells #[.int .i64 a0_0, .slice A0_1 l0_1.length c0_1, .slice A0_2 l0_2.length c0_2] 25)) (Obj.cells #[.int .i64 0, .slice none 0 0] 28))).mono ?_; rintro e w' ⟨rfl, hb⟩; have HB := Aside0.mk (below_step (below_alloc (below_alloc (Below.refl w.heap.size w) (Obj.cells #[.int .i64 a0_0, .slice A0_1 l0_1.length c0_1, .slice A0_2 l0_2.length c0_2] 25)) (Obj.cells #[.int .i64 0, .slice none 0 0] 28)) hb); have BB0 := Aside0.mk (blk_below (blk_alloc (blk_new (w) _) _) hb); have BR := Aside0.mk (blk_below (blk_new (w.alloc (Obj.cells #[.int .i64 a0_0, .slice A0_1 l0_1.length c0_1, .slice A0_2 l0_2.length c0_2] 25)) (Obj.cells #[.int .i64 0, .slice none 0 0] 28)) hb); clear hb; simp only [heap_size_alloc', Nat.add_assoc] at BR BB0; have hq0_0 := (blk_cell BB0.out 0).trans rfl; have hq0_1 := (blk_cell BB0.out 1).trans rfl; have hq0_2 := (blk_cell BB0.out 2).trans rfl)
    try clear hq0_0 hq0_1 hq0_2
    refine start_ (n := 11) (S := fun w' => w'.cell? ⟨w.heap.size, 0, none⟩ = some (.int .i64 a0_0) ∧ w'.cell? ⟨w.heap.size, 1, none⟩ = some (.slice A0_1 l0_1.length c0_1) ∧ w'.cell? ⟨w.heap.size, 2, none⟩ = some (.slice A0_2 l0_2.length c0_2)) (ds := [9]) #[false, false, false, false, false, false, false, false, false, false, false] (by kernel_rfl) rfl rfl ⟨(blk_cell (blk_drew BB0.out) 0).trans rfl, (blk_cell (blk_drew BB0.out) 1).trans rfl, (blk_cell (blk_drew BB0.out) 2).trans rfl⟩ (fun hHeld => ?_)
    have n0_ := Aside0.mk (below_drew HB.out)
    have n1_ := Aside0.mk (blk_drew BR.out)
    have n2_ := Aside0.mk (blk_drew BB0.out)
    clear HB BR BB0
    have HB := n0_
    have BR := n1_
    have BB0 := n2_
    clear n0_ n1_ n2_
    generalize w'.drew = W3 at HB BR BB0 hHeld ⊢
    refine pure_ (i := 0) (N := some 8) (v := ?_) (a' := ?_) #[true, false, false, false, false, false, false, false, false, false, false] rfl rfl (by kernel_rfl) (fun _ _ _ h => h) (Or.inl ⟨by rfl, ?_⟩) ?_ ?_
    rotate_left
    · intro w'
      go_simp
      with_reducible rfl
    rotate_left
    · simp only [Act.put, List.setIfInBounds_toArray, List.set_cons_zero, List.set_cons_succ, i64_w, i32_w]
      rfl
    refine take_ (i := 1) (N := some 9) (v := ?_) (a' := ?_) #[true, true, false, false, false, false, false, false, false, false, false] rfl rfl (by kernel_rfl) (fun _ _ _ h => h) (Or.inl ⟨by rfl, ?_⟩) hHeld ?_ ?_
    rotate_left
    · rintro w' ⟨s0, s1, s2⟩
      go_simp
      with_reducible rfl
    rotate_left
    · simp only [Act.put, List.setIfInBounds_toArray, List.set_cons_zero, List.set_cons_succ, i64_w, i32_w]
      rfl
    refine take_ (i := 3) (N := some 11) (v := ?_) (a' := ?_) #[true, true, false, true, false, false, false, false, false, false, false] rfl rfl (by kernel_rfl) (fun _ _ _ h => h) (Or.inl ⟨by rfl, ?_⟩) hHeld ?_ ?_
    rotate_left
    · rintro w' ⟨s0, s1, s2⟩
      go_simp
      with_reducible rfl
    rotate_left
    · simp only [Act.put, List.setIfInBounds_toArray, List.set_cons_zero, List.set_cons_succ, i64_w, i32_w]
      rfl
    refine join_ (σ := Nat × (Option Addr × Nat) × Nat) 5 #[true, true, true, true, true, true, false, false, false, false, false] (fun s => [(10, .slice (some ⟨s.1, 0, none⟩) 2 2), (12, .slice s.2.1.1 L0.length s.2.1.2), (13, .slice (some ⟨s.2.2, 0, none⟩) 1 1)]) (fun s w' => ∃ hs0 : List Hdr, Below w.heap.size w w' ∧ w'.heap[w.heap.size + 1]? = some (.cells #[.int .i64 0, .slice none 0 0] 28 (0, 0)) ∧ w'.heap[w.heap.size]? = some (.cells #[.int .i64 a0_0, .slice A0_1 l0_1.length c0_1, .slice A0_2 l0_2.length c0_2] 25 (0, 0)) ∧ w'.heap[s.1]? = some (.cells #[.int .i64 1, .int .i64 2] 3 (0, 0)) ∧ hdrK.R 79 w' w.heap.size (fun _ => True) (.slice s.2.1.1 L0.length s.2.1.2) hs0 ∧ RowsOK w' w.heap.size (hs0) (L0) ∧ w'.heap[s.2.2]? = some (.cells #[.slice s.2.1.1 L0.length s.2.1.2] 26 (0, 0))) ?_ ?_
    rotate_left
    · intro hCont
      refine two_ (i := 2) (j := 4) (Ni := some 10) (Nj := some 12) #[true, true, true, true, false, false, false, false, false, false, false] #[true, true, false, true, true, false, false, false, false, false, false] rfl rfl rfl rfl (by kernel_rfl) (by decide) (by decide) (fun K hK => ?_) (fun K hK => ?_)
      · skip
        refine value_ (w1 := ?_) (v := ?_) (by rfl) rfl ?_ ?_
        rotate_left 2
        · go_simp
          constructor
          · rfl
          · rfl
        have m99_ := Aside0.mk (blk_new W3 (Obj.cells #[.int .i64 1, .int .i64 2] 3))
        have m0_ := Aside0.mk (below_step HB.out (below_alloc (Below.refl W3.heap.size W3) (Obj.cells #[.int .i64 1, .int .i64 2] 3)))
        have m1_ := Aside0.mk (blk_below BR.out (below_alloc (Below.refl W3.heap.size W3) (Obj.cells #[.int .i64 1, .int .i64 2] 3)))
        have m2_ := Aside0.mk (blk_below BB0.out (below_alloc (Below.refl W3.heap.size W3) (Obj.cells #[.int .i64 1, .int .i64 2] 3)))
        clear HB BR BB0
        have HB := m0_
        have BR := m1_
        have BB0 := m2_
        clear m0_ m1_ m2_
        have HS := m99_
        clear m99_
        skip
        obtain ⟨gs, hgs⟩ : ∃ g, g = W3.heap.size := ⟨_, rfl⟩
        rw [← hgs] at HS
        simp only [← hgs]
        clear hgs
        generalize W3.alloc (Obj.cells #[.int .i64 1, .int .i64 2] 3) = w2 at HB BR BB0 HS ⊢
        refine hK.out _ _ ⟨(blk_cell BB0.out 0).trans rfl, (blk_cell BB0.out 1).trans rfl, (blk_cell BB0.out 2).trans rfl⟩ (fun hHeld => ?_)
        clear hK K
        refine norm_ (a' := ?_) ?_ ?_
        rotate_left
        · show Act.put _ (some 10) _ = _
          simp only [Act.put, List.setIfInBounds_toArray, List.set_cons_zero, List.set_cons_succ, i64_w, i32_w]
          rfl
        refine one_ (i := 4) (N := some 12) #[true, true, true, true, true, false, false, false, false, false, false] rfl rfl (by kernel_rfl) (by decide) (fun K hK => ?_)
        refine goes_ Try.func83 (by kernel_rfl) rfl #[.agg #[.int .i64 a0_0, .slice A0_1 l0_1.length c0_1, .slice A0_2 l0_2.length c0_2], .int .i64 2, .int .i64 0] (by rfl) rfl rfl (by simp only [List.map_toArray, List.map_cons, List.map_nil]; rfl) ?_
        with_reducible refine (thompson_laid.calls k a0_0 A0_1 c0_1 l0_1 A0_2 c0_2 l0_2 2 0 L0 _ (Kd.C_below HR0_1.out HB.out) hc0_1 (Kd.C_below HR0_2.out HB.out) hc0_2 HL0.out).mono ?_
        rintro e w24 ⟨v0_, rfl, hS_, hb_⟩
        obtain ⟨A50, c50, rfl⟩ := Kd.S_slice hS_
        obtain ⟨hs0, hH_, hRo_⟩ := S_hdrs hS_
        have hz_ := HB.out.size
        have m97_ := Aside0.mk (Kd.R_lower hH_ hz_)
        have m98_ := Aside0.mk (RowsOK.lower hRo_ hz_)
        have m0_ := Aside0.mk (below_step HB.out hb_)
        have m1_ := Aside0.mk (blk_below BR.out hb_)
        have m2_ := Aside0.mk (blk_below BB0.out hb_)
        have m3_ := Aside0.mk (blk_below HS.out hb_)
        clear HB BR BB0 HS
        have HB := m0_
        have BR := m1_
        have BB0 := m2_
        have HS := m3_
        clear m0_ m1_ m2_ m3_
        have HRO := m98_
        clear m98_
        have HH0 := m97_
        clear m97_ hS_ hH_ hRo_ hb_ hz_
        refine ⟨_, rfl, ?_⟩
        refine hK.out _ _ ⟨(blk_cell BB0.out 0).trans rfl, (blk_cell BB0.out 1).trans rfl, (blk_cell BB0.out 2).trans rfl⟩ (fun hHeld => ?_)
        clear hK K
        refine norm_ (a' := ?_) ?_ ?_
        rotate_left
        · show Act.put _ (some 12) _ = _
          simp only [Act.put, List.setIfInBounds_toArray, List.set_cons_zero, List.set_cons_succ, i64_w, i32_w]
          rfl
        refine one_ (i := 5) (N := some 13) #[true, true, true, true, true, true, false, false, false, false, false] rfl rfl (by kernel_rfl) (by decide) (fun K hK => ?_)
        refine value_ (w1 := ?_) (v := ?_) (by rfl) rfl ?_ ?_
        rotate_left 2
        · go_simp
          constructor
          · rfl
          · rfl
        have m99_ := Aside0.mk (blk_new w24 (Obj.cells #[.slice A50 L0.length c50] 26))
        have m0_ := Aside0.mk (below_step HB.out (below_alloc (Below.refl w24.heap.size w24) (Obj.cells #[.slice A50 L0.length c50] 26)))
        have m1_ := Aside0.mk (blk_below BR.out (below_alloc (Below.refl w24.heap.size w24) (Obj.cells #[.slice A50 L0.length c50] 26)))
        have m2_ := Aside0.mk (blk_below BB0.out (below_alloc (Below.refl w24.heap.size w24) (Obj.cells #[.slice A50 L0.length c50] 26)))
        have m3_ := Aside0.mk (blk_below HS.out (below_alloc (Below.refl w24.heap.size w24) (Obj.cells #[.slice A50 L0.length c50] 26)))
        have m4_ := Aside0.mk (Kd.R_below HH0.out (below_alloc (Below.refl w24.heap.size w24) (Obj.cells #[.slice A50 L0.length c50] 26)))
        have m5_ := Aside0.mk (RowsOK.below HRO.out (below_alloc (Below.refl w24.heap.size w24) (Obj.cells #[.slice A50 L0.length c50] 26)))
        clear HB BR BB0 HS HH0 HRO
        have HB := m0_
        have BR := m1_
        have BB0 := m2_
        have HS := m3_
        have HH0 := m4_
        have HRO := m5_
        clear m0_ m1_ m2_ m3_ m4_ m5_
        have HA := m99_
        clear m99_
        skip
        obtain ⟨ga, hga⟩ : ∃ g, g = w24.heap.size := ⟨_, rfl⟩
        rw [← hga] at HA
        simp only [← hga]
        clear hga
        generalize w24.alloc (Obj.cells #[.slice A50 L0.length c50] 26) = w245 at HB BR BB0 HS HH0 HRO HA ⊢
        refine hK.out _ _ ⟨(blk_cell BB0.out 0).trans rfl, (blk_cell BB0.out 1).trans rfl, (blk_cell BB0.out 2).trans rfl⟩ (fun hHeld => ?_)
        clear hK K
        refine norm_ (a' := ?_) ?_ ?_
        rotate_left
        · show Act.put _ (some 13) _ = _
          simp only [Act.put, List.setIfInBounds_toArray, List.set_cons_zero, List.set_cons_succ, i64_w, i32_w]
          rfl
        exact norm_ (by simp only [putAll, Act.put, List.setIfInBounds_toArray, List.set_cons_zero, List.set_cons_succ]) (hCont (gs, (A50, c50), ga) _ ⟨hs0, HB.out, BR.out, BB0.out, HS.out, HH0.out, HRO.out, HA.out⟩)
      · skip
        refine goes_ Try.func83 (by kernel_rfl) rfl #[.agg #[.int .i64 a0_0, .slice A0_1 l0_1.length c0_1, .slice A0_2 l0_2.length c0_2], .int .i64 2, .int .i64 0] (by rfl) rfl rfl (by simp only [List.map_toArray, List.map_cons, List.map_nil]; rfl) ?_
        with_reducible refine (thompson_laid.calls k a0_0 A0_1 c0_1 l0_1 A0_2 c0_2 l0_2 2 0 L0 _ (Kd.C_below HR0_1.out HB.out) hc0_1 (Kd.C_below HR0_2.out HB.out) hc0_2 HL0.out).mono ?_
        rintro e w4 ⟨v0_, rfl, hS_, hb_⟩
        obtain ⟨A50, c50, rfl⟩ := Kd.S_slice hS_
        obtain ⟨hs0, hH_, hRo_⟩ := S_hdrs hS_
        have hz_ := HB.out.size
        have m97_ := Aside0.mk (Kd.R_lower hH_ hz_)
        have m98_ := Aside0.mk (RowsOK.lower hRo_ hz_)
        have m0_ := Aside0.mk (below_step HB.out hb_)
        have m1_ := Aside0.mk (blk_below BR.out hb_)
        have m2_ := Aside0.mk (blk_below BB0.out hb_)
        clear HB BR BB0
        have HB := m0_
        have BR := m1_
        have BB0 := m2_
        clear m0_ m1_ m2_
        have HRO := m98_
        clear m98_
        have HH0 := m97_
        clear m97_ hS_ hH_ hRo_ hb_ hz_
        refine ⟨_, rfl, ?_⟩
        refine hK.out _ _ ⟨(blk_cell BB0.out 0).trans rfl, (blk_cell BB0.out 1).trans rfl, (blk_cell BB0.out 2).trans rfl⟩ (fun hHeld => ?_)
        clear hK K
        refine norm_ (a' := ?_) ?_ ?_
        rotate_left
        · show Act.put _ (some 12) _ = _
          simp only [Act.put, List.setIfInBounds_toArray, List.set_cons_zero, List.set_cons_succ, i64_w, i32_w]
          rfl
        refine two_ (i := 2) (j := 5) (Ni := some 10) (Nj := some 13) #[true, true, true, true, true, false, false, false, false, false, false] #[true, true, false, true, true, true, false, false, false, false, false] rfl rfl rfl rfl (by kernel_rfl) (by decide) (by decide) (fun K hK => ?_) (fun K hK => ?_)
        · skip
          refine value_ (w1 := ?_) (v := ?_) (by rfl) rfl ?_ ?_
          rotate_left 2
          · go_simp
            constructor
            · rfl
            · rfl
          have m99_ := Aside0.mk (blk_new w4 (Obj.cells #[.int .i64 1, .int .i64 2] 3))
          have m0_ := Aside0.mk (below_step HB.out (below_alloc (Below.refl w4.heap.size w4) (Obj.cells #[.int .i64 1, .int .i64 2] 3)))
          have m1_ := Aside0.mk (blk_below BR.out (below_alloc (Below.refl w4.heap.size w4) (Obj.cells #[.int .i64 1, .int .i64 2] 3)))
          have m2_ := Aside0.mk (blk_below BB0.out (below_alloc (Below.refl w4.heap.size w4) (Obj.cells #[.int .i64 1, .int .i64 2] 3)))
          have m3_ := Aside0.mk (Kd.R_below HH0.out (below_alloc (Below.refl w4.heap.size w4) (Obj.cells #[.int .i64 1, .int .i64 2] 3)))
          have m4_ := Aside0.mk (RowsOK.below HRO.out (below_alloc (Below.refl w4.heap.size w4) (Obj.cells #[.int .i64 1, .int .i64 2] 3)))
          clear HB BR BB0 HH0 HRO
          have HB := m0_
          have BR := m1_
          have BB0 := m2_
          have HH0 := m3_
          have HRO := m4_
          clear m0_ m1_ m2_ m3_ m4_
          have HS := m99_
          clear m99_
          skip
          obtain ⟨gs, hgs⟩ : ∃ g, g = w4.heap.size := ⟨_, rfl⟩
          rw [← hgs] at HS
          simp only [← hgs]
          clear hgs
          generalize w4.alloc (Obj.cells #[.int .i64 1, .int .i64 2] 3) = w42 at HB BR BB0 HS HH0 HRO ⊢
          refine hK.out _ _ ⟨(blk_cell BB0.out 0).trans rfl, (blk_cell BB0.out 1).trans rfl, (blk_cell BB0.out 2).trans rfl⟩ (fun hHeld => ?_)
          clear hK K
          refine norm_ (a' := ?_) ?_ ?_
          rotate_left
          · show Act.put _ (some 10) _ = _
            simp only [Act.put, List.setIfInBounds_toArray, List.set_cons_zero, List.set_cons_succ, i64_w, i32_w]
            rfl
          refine one_ (i := 5) (N := some 13) #[true, true, true, true, true, true, false, false, false, false, false] rfl rfl (by kernel_rfl) (by decide) (fun K hK => ?_)
          refine value_ (w1 := ?_) (v := ?_) (by rfl) rfl ?_ ?_
          rotate_left 2
          · go_simp
            constructor
            · rfl
            · rfl
          have m99_ := Aside0.mk (blk_new w42 (Obj.cells #[.slice A50 L0.length c50] 26))
          have m0_ := Aside0.mk (below_step HB.out (below_alloc (Below.refl w42.heap.size w42) (Obj.cells #[.slice A50 L0.length c50] 26)))
          have m1_ := Aside0.mk (blk_below BR.out (below_alloc (Below.refl w42.heap.size w42) (Obj.cells #[.slice A50 L0.length c50] 26)))
          have m2_ := Aside0.mk (blk_below BB0.out (below_alloc (Below.refl w42.heap.size w42) (Obj.cells #[.slice A50 L0.length c50] 26)))
          have m3_ := Aside0.mk (blk_below HS.out (below_alloc (Below.refl w42.heap.size w42) (Obj.cells #[.slice A50 L0.length c50] 26)))
          have m4_ := Aside0.mk (Kd.R_below HH0.out (below_alloc (Below.refl w42.heap.size w42) (Obj.cells #[.slice A50 L0.length c50] 26)))
          have m5_ := Aside0.mk (RowsOK.below HRO.out (below_alloc (Below.refl w42.heap.size w42) (Obj.cells #[.slice A50 L0.length c50] 26)))
          clear HB BR BB0 HS HH0 HRO
          have HB := m0_
          have BR := m1_
          have BB0 := m2_
          have HS := m3_
          have HH0 := m4_
          have HRO := m5_
          clear m0_ m1_ m2_ m3_ m4_ m5_
          have HA := m99_
          clear m99_
          skip
          obtain ⟨ga, hga⟩ : ∃ g, g = w42.heap.size := ⟨_, rfl⟩
          rw [← hga] at HA
          simp only [← hga]
          clear hga
          generalize w42.alloc (Obj.cells #[.slice A50 L0.length c50] 26) = w425 at HB BR BB0 HS HH0 HRO HA ⊢
          refine hK.out _ _ ⟨(blk_cell BB0.out 0).trans rfl, (blk_cell BB0.out 1).trans rfl, (blk_cell BB0.out 2).trans rfl⟩ (fun hHeld => ?_)
          clear hK K
          refine norm_ (a' := ?_) ?_ ?_
          rotate_left
          · show Act.put _ (some 13) _ = _
            simp only [Act.put, List.setIfInBounds_toArray, List.set_cons_zero, List.set_cons_succ, i64_w, i32_w]
            rfl
          exact norm_ (by simp only [putAll, Act.put, List.setIfInBounds_toArray, List.set_cons_zero, List.set_cons_succ]) (hCont (gs, (A50, c50), ga) _ ⟨hs0, HB.out, BR.out, BB0.out, HS.out, HH0.out, HRO.out, HA.out⟩)
        · skip
          refine value_ (w1 := ?_) (v := ?_) (by rfl) rfl ?_ ?_
          rotate_left 2
          · go_simp
            constructor
            · rfl
            · rfl
          have m99_ := Aside0.mk (blk_new w4 (Obj.cells #[.slice A50 L0.length c50] 26))
          have m0_ := Aside0.mk (below_step HB.out (below_alloc (Below.refl w4.heap.size w4) (Obj.cells #[.slice A50 L0.length c50] 26)))
          have m1_ := Aside0.mk (blk_below BR.out (below_alloc (Below.refl w4.heap.size w4) (Obj.cells #[.slice A50 L0.length c50] 26)))
          have m2_ := Aside0.mk (blk_below BB0.out (below_alloc (Below.refl w4.heap.size w4) (Obj.cells #[.slice A50 L0.length c50] 26)))
          have m3_ := Aside0.mk (Kd.R_below HH0.out (below_alloc (Below.refl w4.heap.size w4) (Obj.cells #[.slice A50 L0.length c50] 26)))
          have m4_ := Aside0.mk (RowsOK.below HRO.out (below_alloc (Below.refl w4.heap.size w4) (Obj.cells #[.slice A50 L0.length c50] 26)))
          clear HB BR BB0 HH0 HRO
          have HB := m0_
          have BR := m1_
          have BB0 := m2_
          have HH0 := m3_
          have HRO := m4_
          clear m0_ m1_ m2_ m3_ m4_
          have HA := m99_
          clear m99_
          skip
          obtain ⟨ga, hga⟩ : ∃ g, g = w4.heap.size := ⟨_, rfl⟩
          rw [← hga] at HA
          simp only [← hga]
          clear hga
          generalize w4.alloc (Obj.cells #[.slice A50 L0.length c50] 26) = w45 at HB BR BB0 HH0 HRO HA ⊢
          refine hK.out _ _ ⟨(blk_cell BB0.out 0).trans rfl, (blk_cell BB0.out 1).trans rfl, (blk_cell BB0.out 2).trans rfl⟩ (fun hHeld => ?_)
          clear hK K
          refine norm_ (a' := ?_) ?_ ?_
          rotate_left
          · show Act.put _ (some 13) _ = _
            simp only [Act.put, List.setIfInBounds_toArray, List.set_cons_zero, List.set_cons_succ, i64_w, i32_w]
            rfl
          refine one_ (i := 2) (N := some 10) #[true, true, true, true, true, true, false, false, false, false, false] rfl rfl (by kernel_rfl) (by decide) (fun K hK => ?_)
          refine value_ (w1 := ?_) (v := ?_) (by rfl) rfl ?_ ?_
          rotate_left 2
          · go_simp
            constructor
            · rfl
            · rfl
          have m99_ := Aside0.mk (blk_new w45 (Obj.cells #[.int .i64 1, .int .i64 2] 3))
          have m0_ := Aside0.mk (below_step HB.out (below_alloc (Below.refl w45.heap.size w45) (Obj.cells #[.int .i64 1, .int .i64 2] 3)))
          have m1_ := Aside0.mk (blk_below BR.out (below_alloc (Below.refl w45.heap.size w45) (Obj.cells #[.int .i64 1, .int .i64 2] 3)))
          have m2_ := Aside0.mk (blk_below BB0.out (below_alloc (Below.refl w45.heap.size w45) (Obj.cells #[.int .i64 1, .int .i64 2] 3)))
          have m3_ := Aside0.mk (Kd.R_below HH0.out (below_alloc (Below.refl w45.heap.size w45) (Obj.cells #[.int .i64 1, .int .i64 2] 3)))
          have m4_ := Aside0.mk (RowsOK.below HRO.out (below_alloc (Below.refl w45.heap.size w45) (Obj.cells #[.int .i64 1, .int .i64 2] 3)))
          have m5_ := Aside0.mk (blk_below HA.out (below_alloc (Below.refl w45.heap.size w45) (Obj.cells #[.int .i64 1, .int .i64 2] 3)))
          clear HB BR BB0 HH0 HRO HA
          have HB := m0_
          have BR := m1_
          have BB0 := m2_
          have HH0 := m3_
          have HRO := m4_
          have HA := m5_
          clear m0_ m1_ m2_ m3_ m4_ m5_
          have HS := m99_
          clear m99_
          skip
          obtain ⟨gs, hgs⟩ : ∃ g, g = w45.heap.size := ⟨_, rfl⟩
          rw [← hgs] at HS
          simp only [← hgs]
          clear hgs
          generalize w45.alloc (Obj.cells #[.int .i64 1, .int .i64 2] 3) = w452 at HB BR BB0 HS HH0 HRO HA ⊢
          refine hK.out _ _ ⟨(blk_cell BB0.out 0).trans rfl, (blk_cell BB0.out 1).trans rfl, (blk_cell BB0.out 2).trans rfl⟩ (fun hHeld => ?_)
          clear hK K
          refine norm_ (a' := ?_) ?_ ?_
          rotate_left
          · show Act.put _ (some 10) _ = _
            simp only [Act.put, List.setIfInBounds_toArray, List.set_cons_zero, List.set_cons_succ, i64_w, i32_w]
            rfl
          exact norm_ (by simp only [putAll, Act.put, List.setIfInBounds_toArray, List.set_cons_zero, List.set_cons_succ]) (hCont (gs, (A50, c50), ga) _ ⟨hs0, HB.out, BR.out, BB0.out, HS.out, HH0.out, HRO.out, HA.out⟩)
    rintro ⟨gs, ⟨A50, c50⟩, ga⟩ W6 ⟨hs0, h_HB, h_BR, h_BB0, h_HS, h_HH0, h_HRO, h_HA⟩
    dsimp only at h_HS h_HH0 h_HA
    have HB := Aside0.mk h_HB
    have BR := Aside0.mk h_BR
    have BB0 := Aside0.mk h_BB0
    have HS := Aside0.mk h_HS
    have HH0 := Aside0.mk h_HH0
    have HRO := Aside0.mk h_HRO
    have HA := Aside0.mk h_HA
    clear h_HB h_BR h_BB0 h_HS h_HH0 h_HRO h_HA
    have hHeld : W6.cell? ⟨w.heap.size, 0, none⟩ = some (.int .i64 a0_0) ∧ W6.cell? ⟨w.heap.size, 1, none⟩ = some (.slice A0_1 l0_1.length c0_1) ∧ W6.cell? ⟨w.heap.size, 2, none⟩ = some (.slice A0_2 l0_2.length c0_2) := ⟨(blk_cell BB0.out 0).trans rfl, (blk_cell BB0.out 1).trans rfl, (blk_cell BB0.out 2).trans rfl⟩
    refine norm_ (a' := ?_) ?_ ?_
    rotate_left
    · simp only [putAll, Act.put, List.setIfInBounds_toArray, List.set_cons_zero, List.set_cons_succ]
      rfl
    refine one_ (i := 6) (N := some 14) #[true, true, true, true, true, true, true, false, false, false, false] rfl rfl (by kernel_rfl) (by decide) (fun K hK => ?_)
    refine goes_ Try.func82 (by kernel_rfl) rfl #[.int .i64 a0_0, .slice (some ⟨gs, 0, none⟩) 2 2, .slice (some ⟨ga, 0, none⟩) 1 1] (by rfl) rfl rfl (by simp only [List.map_toArray, List.map_cons, List.map_nil]; rfl) ?_
    refine (made82 a0_0 (some ⟨gs, 0, none⟩) 2 [1, 2] (some ⟨ga, 0, none⟩) 1 ([hs0] : List (List Hdr)) W6 (starts_C (by simpa using HS.out)) (by simp) (alls_C HA.out HH0.out) (by simp) (fun i hi => by obtain rfl : i = 0 := (by simp at hi; omega); simp) (by simp) (by have := RowsOK.len HRO.out; simp only [List.length_append, List.flatten_cons, List.flatten_nil, List.append_nil] at this hlt ⊢; omega)).mono ?_
    rintro e w8 ⟨ve, h0, rfl, hv_, h0_, hb_⟩
    simp only [List.flatten_cons, List.flatten_nil, List.append_nil] at hv_ ⊢
    have hz_ := HB.out.size
    have HF := Aside0.mk (S_of_hdrs (hs := [h0, (none, 0, 0)] ++ (hs0)) (L := [[1, 2].map noth, []] ++ (L0)) (Kd.R_lower hv_ hz_) (RowsOK.append (RowsOK.head (Kd.R_lower h0_ hz_)) (RowsOK.below HRO.out hb_) (fun i j x y k hx hy hkx hky => by have h1 := RowsOK.lt HRO.out hy hky; have h2 := RowsOK.ge (RowsOK.head h0_) hx hkx; omega)))
    have HLN := Aside0.mk (RowsOK.len HRO.out)
    generalize hbb_ : decide (((2 + (hs0).length : Nat) : Int) ≤ 4000) = bb
    have HBB := Aside0.mk hbb_
    clear hbb_
    have m0_ := Aside0.mk (below_step HB.out hb_)
    have m1_ := Aside0.mk (blk_below BR.out hb_)
    have m2_ := Aside0.mk (blk_below BB0.out hb_)
    clear HB BR BB0 HS HA HRO HH0 hv_ h0_ hb_ hz_
    have HB := m0_
    have BR := m1_
    have BB0 := m2_
    clear m0_ m1_ m2_
    obtain ⟨A9, c9, hv9_⟩ := Kd.S_slice HF.out
    generalize ([[1, 2].map noth, []] ++ (L0)).length = n9 at hv9_
    subst hv9_
    refine ⟨_, rfl, ?_⟩
    refine hK.out _ _ ⟨(blk_cell BB0.out 0).trans rfl, (blk_cell BB0.out 1).trans rfl, (blk_cell BB0.out 2).trans rfl⟩ (fun hHeld => ?_)
    clear hK K
    refine norm_ (a' := ?_) ?_ ?_
    rotate_left
    · show Act.put _ (some 14) _ = _
      simp only [Act.put, List.setIfInBounds_toArray, List.set_cons_zero, List.set_cons_succ, i64_w, i32_w]
      rfl
    refine pure_ (i := 7) (N := some 15) (v := ?_) (a' := ?_) #[true, true, true, true, true, true, true, true, false, false, false] rfl rfl (by kernel_rfl) (fun _ _ _ h => h) (Or.inl ⟨by rfl, ?_⟩) ?_ ?_
    rotate_left
    · intro w'
      go_simp
      with_reducible rfl
    rotate_left
    · simp only [Act.put, List.setIfInBounds_toArray, List.set_cons_zero, List.set_cons_succ, i64_w, i32_w]
      rfl
    refine pure_ (i := 8) (N := some 16) (v := ?_) (a' := ?_) #[true, true, true, true, true, true, true, true, true, false, false] rfl rfl (by kernel_rfl) (fun _ _ _ h => h) (Or.inl ⟨by rfl, ?_⟩) ?_ ?_
    rotate_left
    · intro w'
      go_simp
      with_reducible rfl
    rotate_left
    · simp only [Act.put, List.setIfInBounds_toArray, List.set_cons_zero, List.set_cons_succ, i64_w, i32_w]
      rfl
    refine last_ (i := 9) (N := none) #[true, true, true, true, true, true, true, true, true, true, false] rfl rfl (by kernel_rfl) (by decide) (fun K hK => ?_)
    have hs0_ : w8.cell? ⟨w.heap.size + 1, 0, none⟩ = some (.int .i64 0) := (blk_cell BR.out 0).trans rfl
    have hs1_ : w8.cell? ⟨w.heap.size + 1, 1, none⟩ = some (.slice none 0 0) := (blk_cell BR.out 1).trans rfl
    have hf0_ := blk_frozen BR.out 0
    have hf1_ := blk_frozen BR.out 1
    refine skip_ (w1 := ?_) (by rfl) rfl ?_ ?_
    rotate_left
    · go_simp
      rfl
    refine hK.out _ _ ?_
    clear hK K
    refine pure_ (i := 10) (N := some 3) (v := ?_) (a' := ?_) #[true, true, true, true, true, true, true, true, true, true, true] rfl rfl (by kernel_rfl) (fun _ _ _ h => h) (Or.inl ⟨by rfl, ?_⟩) ?_ ?_
    rotate_left
    · intro w'
      go_simp
      with_reducible rfl
    rotate_left
    · simp only [Act.put, List.setIfInBounds_toArray, List.set_cons_zero, List.set_cons_succ, i64_w, i32_w]
      rfl
    refine done_ (by kernel_rfl) ?_
    go_wp2
    refine bodyPost_ret (results_ct rfl _ _ (w.heap.size + 1) 28 #[.int .i64 a0_0, .slice A9 n9 c9] (0, 0) _ rfl (blk_put (blk_put BR.out 0 (.int .i64 a0_0) rfl) 1 (.slice A9 n9 c9) rfl) Try.underlying28 rfl (by kernel_rfl)) rfl ?_
    refine ⟨_, ?_, Kd.S_mono (Kd.S_far (p := ⟨w.heap.size + 1, 1, none⟩) (Kd.S_far (p := ⟨w.heap.size + 1, 0, none⟩) (Kd.S_types HF.out BR.out (by decide)) (fun _ hk => hk.2) _) (fun _ hk => hk.2) _) (fun _ hk => trivial), (HB.out.setCell (by show w.heap.size ≤ w.heap.size + 1; omega) _).setCell (by show w.heap.size ≤ w.heap.size + 1; omega) _⟩
    have e9 : decide (((2 + (L0).length : Nat) : Int) ≤ 4000) = bb := by rw [← HBB.out, HLN.out]
    rw [e9]
    rfl

end Go.Proofs.Ytelkjbacdpmnfaa.A
