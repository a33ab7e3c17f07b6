/- Contracts. -/
import Derived.Test.YtelkjbacdpmnfaaB0
import Derived.Test.YtelkjbacdpmnfaaBThompsonGood

namespace Go.Proofs.Ytelkjbacdpmnfaa.A
open Go.RowKit Go.W_.PrintWords Go.W_.PrintLast Go.W_.PrintMore
attribute [local go_sem] max2_int min2_int max_two min_two max_three min_three max_four min_four
set_option linter.unusedVariables false
set_option linter.unusedSimpArgs false

def subset_Takes.l0 : Nat → Int → List Int → Int → Int → Int → List (List Int) → List Bool → Option (Bool)
 | 0, _, _, _, _, _, _, _ => none
 | k + 1, x5, x11, x12, x13, x102000, x102001, x102002 => if x13 < x12 then (if 0 ≤ x13 then (if x13 < (x11.length : Int) then (if (rd x11 x13) < 0 then (some false) else (if (rd x11 x13) ≥ x102000 then (some false) else (if 0 ≤ x5 then (if x5 < (x102001.length : Int) then (if 0 ≤ (rd x11 x13) then (if (rd x11 x13) < ((rd_L5 x102001 x5).length : Int) then (subset_Takes.l0 k (rd (rd_L5 x102001 x5) (rd x11 x13)) x11 x12 (wrap64 (x13 + 1)) x102000 x102001 x102002) else (none)) else (none)) else (none)) else (none)))) else (none)) else (none)) else (if 0 ≤ x5 then (if x5 < (x102002.length : Int) then (some (rdOf false x102002 x5)) else (none)) else (none))
def subset_Takes.f (k : Nat) (a0_0 : Int) (l0_1 : List (List Int)) (l0_2 : List Bool) (l1 : List Int) : Option (Bool) := (thompson_Good.f a0_0 l0_1 l0_2).bind fun t102 => (if t102 = true then (subset_Takes.l0 k 0 l1 (l1.length : Int) 0 a0_0 l0_1 l0_2) else (some false))
theorem subset_Takes.mono_l : ∀ k, (∀ y0 y1 y2 y3 y4 y5 y6, LeO (subset_Takes.l0 k y0 y1 y2 y3 y4 y5 y6) (subset_Takes.l0 (k + 1) y0 y1 y2 y3 y4 y5 y6))
 | 0 => fun _ _ _ _ _ _ _ r h => by simp [subset_Takes.l0] at h
 | k + 1 => by
  have ih0 := subset_Takes.mono_l k
  ·intro y0 y1 y2 y3 y4 y5 y6
   unfold subset_Takes.l0
   repeat' first
   | (with_reducible exact ih0 _ _ _ _ _ _ _)
   | (with_reducible exact LeO.refl _)
   | (with_reducible exact LeO.none _)
   | (with_reducible refine LeO.ite ?_ ?_)
   | (with_reducible refine LeO.bind ?_ (fun _ => ?_))
   | exact ih0 _ _ _ _ _ _ _
   | exact LeO.none _
   | refine LeO.ite ?_ ?_
   | refine LeO.bind ?_ (fun _ => ?_)
theorem subset_Takes.mono : ∀ a0 a1 a2 a3 k, LeO (subset_Takes.f k a0 a1 a2 a3) (subset_Takes.f (k + 1) a0 a1 a2 a3) := by
 intro a0 a1 a2 a3 k
 have ih0 := subset_Takes.mono_l k
 unfold subset_Takes.f
 repeat' first
   | (with_reducible exact ih0 _ _ _ _ _ _ _)
   | (with_reducible exact LeO.refl _)
   | (with_reducible exact LeO.none _)
   | (with_reducible refine LeO.ite ?_ ?_)
   | (with_reducible refine LeO.bind ?_ (fun _ => ?_))
   | exact ih0 _ _ _ _ _ _ _
   | exact LeO.none _
   | refine LeO.ite ?_ ?_
   | refine LeO.bind ?_ (fun _ => ?_)
set_option maxHeartbeats 8000000 in
set_option maxRecDepth 100000 in
theorem subset_Takes.calls (k : Nat) (a0_0 : Int) (A0_1 : Option Addr) (c0_1 : Nat) (l0_1 : List (List Int)) (A0_2 : Option Addr) (c0_2 : Nat) (l0_2 : List Bool) (A1 : Option Addr) (c1 : Nat) (l1 : List Int) (r : Bool) (w : World) (hr0_1 : Kd.C (Kd.slice 3 (Kd.int .i64)) w A0_1 l0_1.length l0_1) (hc0_1 : l0_1.length ≤ c0_1) (hr0_2 : Kd.C Kd.bool w A0_2 l0_2.length l0_2) (hc0_2 : l0_2.length ≤ c0_2) (hr1 : Kd.C (Kd.int .i64) w A1 l1.length l1) (hc1 : l1.length ≤ c1) (h : subset_Takes.f k a0_0 l0_1 l0_2 l1 = some r) :
  Calls Try.prog 56 #[.agg #[.int .i64 a0_0, .slice A0_1 l0_1.length c0_1, .slice A0_2 l0_2.length c0_2], .slice A1 l1.length c1] w fun e w' => e = .returned (.bool r) ∧ Below w.heap.size w w' := by
 have hu25 := Try.underlying25
 have HR0_1 := Q0z.mk hr0_1
 have HC0_1 := Q0z.mk hc0_1
 clear hr0_1 hc0_1
 have HR0_2 := Q0z.mk hr0_2
 have HC0_2 := Q0z.mk hc0_2
 clear hr0_2 hc0_2
 have HR1 := Q0z.mk hr1
 have HC1 := Q0z.mk hc1
 clear hr1 hc1
 have HB := Q0z.mk (Below.refl w.heap.size w)
 have H : ((thompson_Good.f a0_0 l0_1 l0_2).bind fun t102 => (if t102 = true then (subset_Takes.l0 k 0 l1 (l1.length : Int) 0 a0_0 l0_1 l0_2) else (some false))) = some r := h
 clear h
 replace H := Option.bind_eq_some_iff.mp H
 obtain ⟨t102, A30, H⟩ := H
 replace H : (if t102 = true then (subset_Takes.l0 k 0 l1 (l1.length : Int) 0 a0_0 l0_1 l0_2) else (some false)) = some r := H
 have A3 := Q0z.mk A30
 clear A30
 by_cases c4 : t102 = true
 ·subst c4
  have H1 : (subset_Takes.l0 k 0 l1 (l1.length : Int) 0 a0_0 l0_1 l0_2) = some r := by rw [if_pos rfl] at H; exact H
  clear H
  have H := H1
  clear H1
  have H' := Q0z.mk H
  clear H
  go_enter Try.func56, Try.ntmps56
  go_wp2_with (first | ((with_reducible refine gate_dst (N := 2) rfl ?_); refine box_event ?hg (N := 2) ?hd (cs := #[.int .i64 a0_0, .slice A0_1 l0_1.length c0_1, .slice A0_2 l0_2.length c0_2]) (t := 25) ?hr ?_; (case hd => rfl); (case hg => rfl); (case hr => first | (go_simp; done) | (go_simp; rfl)); intro gb101 hg w5 hbox hb; have n0_ := Q0z.mk (bsz (by repeat (first | (with_reducible first | exact HB.1 | apply ba | apply pN | apply bD) | exact HB.1)) hb); have n1_ := Q0z.mk (hbox); have n2_ := Q0z.mk ((by rw [hg]; exact (below_size (by repeat (first | (with_reducible first | exact HB.1 | apply ba | apply pN | apply bD) | exact HB.1))) : w.heap.size ≤ gb101)); have n3_ := Q0z.mk ((by rw [hg]; exact (below_size (by repeat (first | (with_reducible first | exact HB.1 | apply ba | apply pN | apply bD) | exact HB.1))) : w.heap.size ≤ gb101)); clear HB; have HB := n0_; have BK101 := n1_; have GW101 := n2_; have GE101 := n3_; clear n0_ n1_ n2_ n3_; clear hb hbox hg; have hcz6_0 : w5.cell? ⟨gb101, 0, none⟩ = some (.int .i64 a0_0) := (bcz BK101.1 0).trans rfl; have hcz6_1 : w5.cell? ⟨gb101, 1, none⟩ = some (.slice A0_1 l0_1.length c0_1) := (bcz BK101.1 1).trans rfl; have hcz6_2 : w5.cell? ⟨gb101, 2, none⟩ = some (.slice A0_2 l0_2.length c0_2) := (bcz BK101.1 2).trans rfl; have hfz6_0 := bf BK101.1 0; have hfz6_1 := bf BK101.1 1; have hfz6_2 := bf BK101.1 2) | ((with_reducible refine gate_callee (f := 36) rfl ?_); refine goesL_ (some 9) rfl rfl Try.func36 (by kernel_rfl) rfl #[.agg #[.int .i64 a0_0, .slice A0_1 l0_1.length c0_1, .slice A0_2 l0_2.length c0_2]] rfl (by (try simp only [List.map_toArray, List.map_cons, List.map_nil]); first | done | rfl | (simp only [List.length_drop, List.length_take]; rfl)) ?_; (with_reducible refine (thompson_Good.calls a0_0 _ _ l0_1 _ _ l0_2 true _ ?side1 ?side2 ?side3 ?side4 A3.1).mono ?_); (case side1 => repeat (first | exact (Kd.C_below HR0_1.1 HB.1) | (with_reducible refine Kd.C_alloc ?_ _) | (with_reducible refine Kd.C_drewN ?_ _) | (with_reducible refine Kd.C_drew ?_))); (case side2 => exact HC0_1.1); (case side3 => repeat (first | exact (Kd.C_below HR0_2.1 HB.1) | (with_reducible refine Kd.C_alloc ?_ _) | (with_reducible refine Kd.C_drewN ?_ _) | (with_reducible refine Kd.C_drew ?_))); (case side4 => exact HC0_2.1); rintro e w7 ⟨rfl, hb⟩; refine ⟨_, rfl, ?_⟩; have n0_ := Q0z.mk (bbz (g := gb101) (o := .cells #[.int .i64 a0_0, .slice A0_1 l0_1.length c0_1, .slice A0_2 l0_2.length c0_2] 25 (0, 0)) (by (with_reducible repeat (first | refine bN ?_ _ | refine bd ?_ | refine bA ?_ _)); exact BK101.1) hb); have n1_ := Q0z.mk (bsz (by repeat (first | (with_reducible first | exact HB.1 | apply ba | apply pN | apply bD | refine bS ?_ GE101.1) | exact HB.1)) hb); clear BK101; clear HB; have BK101 := n0_; have HB := n1_; clear n0_ n1_; (try clear hb); (try clear hb2); (try clear hk); (try clear hi)))
  go_loopg [5, 13] k (fun kq v5 v13 w' => ∃ (x5_1 : Int) (x13_1 : Int), v5 = .int .i64 x5_1 ∧ v13 = .int .i64 x13_1 ∧ Q0z (subset_Takes.l0 kq x5_1 l1 (l1.length : Int) x13_1 a0_0 l0_1 l0_2 = some r) ∧ Q0z (kq ≤ k) ∧ Q0z (w'.heap[gb101]? = some (.cells #[.int .i64 a0_0, (.slice A0_1 l0_1.length c0_1), (.slice A0_2 l0_2.length c0_2)] 25 (0, 0))) ∧ Q0z (Below w.heap.size w w'))
  case atStart => exact ⟨(0), (0), (by first | rfl | (simp; done) | (simp [*]; done)), (by first | rfl | (simp; done) | (simp [*]; done)), H', ⟨Nat.le_refl _⟩, ⟨by (with_reducible repeat (first | refine bN ?_ _ | refine bd ?_ | refine bA ?_ _)); exact BK101.1⟩, ⟨by repeat (first | (with_reducible first | exact HB.1 | apply ba | apply pN | apply bD | refine bS ?_ GE101.1) | exact HB.1)⟩⟩
  case round =>
   clear H'
   try clear c1
   try clear p2
   try clear c3
   try clear c4
   try clear c5
   try clear hcz6_0
   try clear hcz6_1
   try clear hcz6_2
   try clear hfz6_0
   try clear hfz6_1
   try clear hfz6_2
   obtain ⟨x5_1, x13_1, rfl, rfl, HA, HK1, BK101, HB⟩ := hrel
   cases gk with
   | zero => exact absurd HA.1 (by simp [subset_Takes.l0])
   | succ k1 =>
    have H := HA.1
    clear HA
    simp only [subset_Takes.l0] at H
    by_cases c8 : x13_1 < (l1.length : Int)
    ·rw [if_pos c8] at H
     have c8b0 : decide (x13_1 < (l1.length : Int)) = true := decide_eq_true c8
     clear c8
     by_cases c9 : 0 ≤ x13_1
     ·rw [if_pos c9] at H
      have c9b0 : decide (0 ≤ x13_1) = true := decide_eq_true c9
      clear c9
      by_cases c10 : x13_1 < (l1.length : Int)
      ·rw [if_pos c10] at H
       have c10b0 : decide (x13_1 < (l1.length : Int)) = true := decide_eq_true c10
       clear c10
       by_cases c11 : (rd l1 x13_1) < 0
       ·rw [if_pos c11] at H
        have c11b0 : decide ((rd l1 x13_1) < 0) = true := decide_eq_true c11
        clear c11
        obtain rfl := Option.some.inj H
        have p103 : 0 ≤ (x13_1 : Int) := of_decide_eq_true (by first | (with_reducible assumption) | assumption)
        have q103 : x13_1 < (l1.length : Int) := of_decide_eq_true (by first | (with_reducible assumption) | assumption)
        obtain ⟨ad103, e103, hx103_0⟩ := Kd.at_int HR1.1 x13_1 p103 q103
        cases e103
        replace hx103_0 := (HB.1.cell (World.block_lt_of_cell? w _ hx103_0)).trans hx103_0
        replace p103 := eq_true p103
        replace q103 := eq_true q103
        go_wp2
        go_ret
        exact ⟨by first | rfl | (simp [errW_none, errW_some] <;> rfl) | (simp [*, errW_none, errW_some] <;> rfl), by repeat (first | (with_reducible first | exact HB.1 | apply ba | apply pN | apply bD | refine bS ?_ GE101.1) | exact HB.1)⟩
       ·rw [if_neg c11] at H
        have c11b0 : decide ((rd l1 x13_1) < 0) = false := decide_eq_false c11
        clear c11
        by_cases c12 : (rd l1 x13_1) ≥ a0_0
        ·rw [if_pos c12] at H
         have c12b0 : decide (a0_0 ≤ (rd l1 x13_1)) = true := decide_eq_true c12
         clear c12
         obtain rfl := Option.some.inj H
         have p103 : 0 ≤ (x13_1 : Int) := of_decide_eq_true (by first | (with_reducible assumption) | assumption)
         have q103 : x13_1 < (l1.length : Int) := of_decide_eq_true (by first | (with_reducible assumption) | assumption)
         obtain ⟨ad103, e103, hx103_0⟩ := Kd.at_int HR1.1 x13_1 p103 q103
         cases e103
         replace hx103_0 := (HB.1.cell (World.block_lt_of_cell? w _ hx103_0)).trans hx103_0
         replace p103 := eq_true p103
         replace q103 := eq_true q103
         have hcz13_0 : wr.cell? ⟨gb101, 0, none⟩ = some (.int .i64 a0_0) := (bcz BK101.1 0).trans rfl
         have hcz13_1 : wr.cell? ⟨gb101, 1, none⟩ = some (.slice A0_1 l0_1.length c0_1) := (bcz BK101.1 1).trans rfl
         have hcz13_2 : wr.cell? ⟨gb101, 2, none⟩ = some (.slice A0_2 l0_2.length c0_2) := (bcz BK101.1 2).trans rfl
         have hfz13_0 := bf BK101.1 0
         have hfz13_1 := bf BK101.1 1
         have hfz13_2 := bf BK101.1 2
         go_wp2
         go_ret
         exact ⟨by first | rfl | (simp [errW_none, errW_some] <;> rfl) | (simp [*, errW_none, errW_some] <;> rfl), by repeat (first | (with_reducible first | exact HB.1 | apply ba | apply pN | apply bD | refine bS ?_ GE101.1) | exact HB.1)⟩
        ·rw [if_neg c12] at H
         have c12b0 : decide (a0_0 ≤ (rd l1 x13_1)) = false := decide_eq_false c12
         clear c12
         by_cases c14 : 0 ≤ x5_1
         ·rw [if_pos c14] at H
          have c14b0 : decide (0 ≤ x5_1) = true := decide_eq_true c14
          clear c14
          by_cases c15 : x5_1 < (l0_1.length : Int)
          ·rw [if_pos c15] at H
           have c15b0 : decide (x5_1 < (l0_1.length : Int)) = true := decide_eq_true c15
           clear c15
           by_cases c16 : 0 ≤ (rd l1 x13_1)
           ·rw [if_pos c16] at H
            have c16b0 : decide (0 ≤ (rd l1 x13_1)) = true := decide_eq_true c16
            clear c16
            by_cases c17 : (rd l1 x13_1) < ((rd_L5 l0_1 x5_1).length : Int)
            ·rw [if_pos c17] at H
             have c17b0 : decide ((rd l1 x13_1) < ((rd_L5 l0_1 x5_1).length : Int)) = true := decide_eq_true c17
             clear c17
             have H' := Q0z.mk H
             clear H
             have p103 : 0 ≤ (x13_1 : Int) := of_decide_eq_true (by first | (with_reducible assumption) | assumption)
             have q103 : x13_1 < (l1.length : Int) := of_decide_eq_true (by first | (with_reducible assumption) | assumption)
             obtain ⟨ad103, e103, hx103_0⟩ := Kd.at_int HR1.1 x13_1 p103 q103
             cases e103
             replace hx103_0 := (HB.1.cell (World.block_lt_of_cell? w _ hx103_0)).trans hx103_0
             replace p103 := eq_true p103
             replace q103 := eq_true q103
             have hcz18_0 : wr.cell? ⟨gb101, 0, none⟩ = some (.int .i64 a0_0) := (bcz BK101.1 0).trans rfl
             have hcz18_1 : wr.cell? ⟨gb101, 1, none⟩ = some (.slice A0_1 l0_1.length c0_1) := (bcz BK101.1 1).trans rfl
             have hcz18_2 : wr.cell? ⟨gb101, 2, none⟩ = some (.slice A0_2 l0_2.length c0_2) := (bcz BK101.1 2).trans rfl
             have hfz18_0 := bf BK101.1 0
             have hfz18_1 := bf BK101.1 1
             have hfz18_2 := bf BK101.1 2
             have p104 : 0 ≤ (x5_1 : Int) := of_decide_eq_true (by first | (with_reducible assumption) | assumption)
             have q104 : x5_1 < (l0_1.length : Int) := of_decide_eq_true (by first | (with_reducible assumption) | assumption)
             obtain ⟨ad104, A104_0, c104_0, e104, hx104_0, hl104_0, hi104_0⟩ := at_L5 HR0_1.1 x5_1 p104 q104
             cases e104
             replace hx104_0 := (HB.1.cell (World.block_lt_of_cell? w _ hx104_0)).trans hx104_0
             have HR104_0 := Q0z.mk hi104_0
             have HC104_0 := Q0z.mk hl104_0
             clear hi104_0 hl104_0
             replace p104 := eq_true p104
             replace q104 := eq_true q104
             have p105 : 0 ≤ ((rd l1 x13_1) : Int) := of_decide_eq_true (by first | (with_reducible assumption) | assumption)
             have q105 : (rd l1 x13_1) < ((rd_L5 l0_1 x5_1).length : Int) := of_decide_eq_true (by first | (with_reducible assumption) | assumption)
             obtain ⟨ad105, e105, hx105_0⟩ := Kd.at_int HR104_0.1 (rd l1 x13_1) p105 q105
             cases e105
             replace hx105_0 := (HB.1.cell (World.block_lt_of_cell? w _ hx105_0)).trans hx105_0
             replace p105 := eq_true p105
             replace q105 := eq_true q105
             go_wp2
             go_roundg k1
             case measure => have := HK1.1; omega
             case rel => exact ⟨(rd (rd_L5 l0_1 x5_1) (rd l1 x13_1)), (wrap64 (x13_1 + 1)), (by first | rfl | (simp; done) | (simp [*]; done)), (by first | rfl | (simp; done) | (simp [*]; done)), H', ⟨by have := HK1.1; omega⟩, ⟨by (with_reducible repeat (first | refine bN ?_ _ | refine bd ?_ | refine bA ?_ _)); exact BK101.1⟩, ⟨by repeat (first | (with_reducible first | exact HB.1 | apply ba | apply pN | apply bD | refine bS ?_ GE101.1) | exact HB.1)⟩⟩
            ·rw [if_neg c17] at H
             exact absurd H (by simp)
           ·rw [if_neg c16] at H
            exact absurd H (by simp)
          ·rw [if_neg c15] at H
           exact absurd H (by simp)
         ·rw [if_neg c14] at H
          exact absurd H (by simp)
      ·rw [if_neg c10] at H
       exact absurd H (by simp)
     ·rw [if_neg c9] at H
      exact absurd H (by simp)
    ·rw [if_neg c8] at H
     have c8b0 : decide (x13_1 < (l1.length : Int)) = false := decide_eq_false c8
     clear c8
     by_cases c19 : 0 ≤ x5_1
     ·rw [if_pos c19] at H
      have c19b0 : decide (0 ≤ x5_1) = true := decide_eq_true c19
      clear c19
      by_cases c20 : x5_1 < (l0_2.length : Int)
      ·rw [if_pos c20] at H
       have c20b0 : decide (x5_1 < (l0_2.length : Int)) = true := decide_eq_true c20
       clear c20
       obtain rfl := Option.some.inj H
       have hcz21_0 : wr.cell? ⟨gb101, 0, none⟩ = some (.int .i64 a0_0) := (bcz BK101.1 0).trans rfl
       have hcz21_1 : wr.cell? ⟨gb101, 1, none⟩ = some (.slice A0_1 l0_1.length c0_1) := (bcz BK101.1 1).trans rfl
       have hcz21_2 : wr.cell? ⟨gb101, 2, none⟩ = some (.slice A0_2 l0_2.length c0_2) := (bcz BK101.1 2).trans rfl
       have hfz21_0 := bf BK101.1 0
       have hfz21_1 := bf BK101.1 1
       have hfz21_2 := bf BK101.1 2
       have p106 : 0 ≤ (x5_1 : Int) := of_decide_eq_true (by first | (with_reducible assumption) | assumption)
       have q106 : x5_1 < (l0_2.length : Int) := of_decide_eq_true (by first | (with_reducible assumption) | assumption)
       obtain ⟨ad106, e106, hx106_0⟩ := Kd.at_bool HR0_2.1 x5_1 p106 q106
       cases e106
       replace hx106_0 := (HB.1.cell (World.block_lt_of_cell? w _ hx106_0)).trans hx106_0
       replace p106 := eq_true p106
       replace q106 := eq_true q106
       go_wp2
       go_ret
       exact ⟨by first | rfl | (simp [errW_none, errW_some] <;> rfl) | (simp [*, errW_none, errW_some] <;> rfl), by repeat (first | (with_reducible first | exact HB.1 | apply ba | apply pN | apply bD | refine bS ?_ GE101.1) | exact HB.1)⟩
      ·rw [if_neg c20] at H
       exact absurd H (by simp)
     ·rw [if_neg c19] at H
      exact absurd H (by simp)
 ·replace c4 := Bool.eq_false_iff.mpr c4
  subst c4
  have H1 : (some false) = some r := by rw [if_neg (show ¬ (false = true) by decide)] at H; exact H
  clear H
  have H := H1
  clear H1
  obtain rfl := Option.some.inj H
  go_enter Try.func56, Try.ntmps56
  go_wp2_with (first | ((with_reducible refine gate_dst (N := 2) rfl ?_); refine box_event ?hg (N := 2) ?hd (cs := #[.int .i64 a0_0, .slice A0_1 l0_1.length c0_1, .slice A0_2 l0_2.length c0_2]) (t := 25) ?hr ?_; (case hd => rfl); (case hg => rfl); (case hr => first | (go_simp; done) | (go_simp; rfl)); intro gb101 hg w22 hbox hb; have n0_ := Q0z.mk (bsz (by repeat (first | (with_reducible first | exact HB.1 | apply ba | apply pN | apply bD) | exact HB.1)) hb); have n1_ := Q0z.mk (hbox); have n2_ := Q0z.mk ((by rw [hg]; exact (below_size (by repeat (first | (with_reducible first | exact HB.1 | apply ba | apply pN | apply bD) | exact HB.1))) : w.heap.size ≤ gb101)); have n3_ := Q0z.mk ((by rw [hg]; exact (below_size (by repeat (first | (with_reducible first | exact HB.1 | apply ba | apply pN | apply bD) | exact HB.1))) : w.heap.size ≤ gb101)); clear HB; have HB := n0_; have BK101 := n1_; have GW101 := n2_; have GE101 := n3_; clear n0_ n1_ n2_ n3_; clear hb hbox hg; have hcz23_0 : w22.cell? ⟨gb101, 0, none⟩ = some (.int .i64 a0_0) := (bcz BK101.1 0).trans rfl; have hcz23_1 : w22.cell? ⟨gb101, 1, none⟩ = some (.slice A0_1 l0_1.length c0_1) := (bcz BK101.1 1).trans rfl; have hcz23_2 : w22.cell? ⟨gb101, 2, none⟩ = some (.slice A0_2 l0_2.length c0_2) := (bcz BK101.1 2).trans rfl; have hfz23_0 := bf BK101.1 0; have hfz23_1 := bf BK101.1 1; have hfz23_2 := bf BK101.1 2) | ((with_reducible refine gate_callee (f := 36) rfl ?_); refine goesL_ (some 9) rfl rfl Try.func36 (by kernel_rfl) rfl #[.agg #[.int .i64 a0_0, .slice A0_1 l0_1.length c0_1, .slice A0_2 l0_2.length c0_2]] rfl (by (try simp only [List.map_toArray, List.map_cons, List.map_nil]); first | done | rfl | (simp only [List.length_drop, List.length_take]; rfl)) ?_; (with_reducible refine (thompson_Good.calls a0_0 _ _ l0_1 _ _ l0_2 false _ ?side1 ?side2 ?side3 ?side4 A3.1).mono ?_); (case side1 => repeat (first | exact (Kd.C_below HR0_1.1 HB.1) | (with_reducible refine Kd.C_alloc ?_ _) | (with_reducible refine Kd.C_drewN ?_ _) | (with_reducible refine Kd.C_drew ?_))); (case side2 => exact HC0_1.1); (case side3 => repeat (first | exact (Kd.C_below HR0_2.1 HB.1) | (with_reducible refine Kd.C_alloc ?_ _) | (with_reducible refine Kd.C_drewN ?_ _) | (with_reducible refine Kd.C_drew ?_))); (case side4 => exact HC0_2.1); rintro e w24 ⟨rfl, hb⟩; refine ⟨_, rfl, ?_⟩; have n0_ := Q0z.mk (bbz (g := gb101) (o := .cells #[.int .i64 a0_0, .slice A0_1 l0_1.length c0_1, .slice A0_2 l0_2.length c0_2] 25 (0, 0)) (by (with_reducible repeat (first | refine bN ?_ _ | refine bd ?_ | refine bA ?_ _)); exact BK101.1) hb); have n1_ := Q0z.mk (bsz (by repeat (first | (with_reducible first | exact HB.1 | apply ba | apply pN | apply bD | refine bS ?_ GE101.1) | exact HB.1)) hb); clear BK101; clear HB; have BK101 := n0_; have HB := n1_; clear n0_ n1_; (try clear hb); (try clear hb2); (try clear hk); (try clear hi)))
  go_ret
  exact ⟨by first | rfl | (simp [errW_none, errW_some] <;> rfl) | (simp [*, errW_none, errW_some] <;> rfl), by repeat (first | (with_reducible first | exact HB.1 | apply ba | apply pN | apply bD | refine bS ?_ GE101.1) | exact HB.1)⟩

end Go.Proofs.Ytelkjbacdpmnfaa.A
