/- By a program, out of the translation (wip/myprint.py). -/
import Derived.Test.YtelkjbacdpmnfaaA0
import Derived.Test.YtelkjbacdpmnfaaAThompsonNothing
namespace Go.Proofs.Ytelkjbacdpmnfaa.A
open Go.RowKit Go.Proofs.YtelkjbacdpmnfaaW.PrintWords Go.Proofs.YtelkjbacdpmnfaaW.PrintLast Go.Proofs.YtelkjbacdpmnfaaW.PrintMore
attribute [local go_sem] max2_int min2_int max_two min_two max_three min_three max_four min_four   -- for this text's walks alone
set_option linter.unusedVariables false
set_option linter.unusedSimpArgs false

/-! ### thompson_laid: function 83 -/
mutual
def thompson_laid.l0 : Nat → Int → Int → List (List (S82)) → List (List Int) → Int → Int → Int → List (List Int) → List Bool → Option ((List (List (S82))))
  | 0, _, _, _, _, _, _, _, _, _ => none
  | k + 1, x1, x2, x7, x14, x15, x16, x102000, x102001, x102002 => if x16 < x15 then (if 0 ≤ x16 then (if x16 < (x14.length : Int) then (if x16 < (x102002.length : Int) then (if rdOf false x102002 x16 = true then ((thompson_nothing.f x2).bind fun bt104 => (if ([] : List (S82)).length < 8796093022208 then (thompson_laid.j1 k x1 x2 x7 (rd_L5 x14 x16) (([] : List (S82)) ++ [(⟨bt104.1, bt104.2⟩ : S82)]) x14 x15 x16 x102000 x102001 x102002) else (none))) else (thompson_laid.j1 k x1 x2 x7 (rd_L5 x14 x16) ([] : List (S82)) x14 x15 x16 x102000 x102001 x102002)) else (none)) else (none)) else (none)) else (some x7)
def thompson_laid.j1 : Nat → Int → Int → List (List (S82)) → List Int → List (S82) → List (List Int) → Int → Int → Int → List (List Int) → List Bool → Option ((List (List (S82))))
  | 0, _, _, _, _, _, _, _, _, _, _, _ => none
  | k + 1, x1, x2, x7, x9, x10, x14, x15, x16, x102000, x102001, x102002 => thompson_laid.l1 k x1 x2 x7 x10 x14 x15 x16 x9 (x9.length : Int) 0 x102000 x102001 x102002
def thompson_laid.l1 : Nat → Int → Int → List (List (S82)) → List (S82) → List (List Int) → Int → Int → List Int → Int → Int → Int → List (List Int) → List Bool → Option ((List (List (S82))))
  | 0, _, _, _, _, _, _, _, _, _, _, _, _, _ => none
  | k + 1, x1, x2, x7, x10, x14, x15, x16, x31, x32, x33, x102000, x102001, x102002 => if x33 < x32 then (if 0 ≤ x33 then (if x33 < (x31.length : Int) then (if x10.length < 8796093022208 then (thompson_laid.l1 k x1 x2 x7 (x10 ++ [(⟨x33, wrap64 (x1 + (rd x31 x33))⟩ : S82)]) x14 x15 x16 x31 x32 (wrap64 (x33 + 1)) x102000 x102001 x102002) else (none)) else (none)) else (none)) else (if x7.length < 5864062014805 then (thompson_laid.l0 k x1 x2 (x7 ++ [x10]) x14 x15 (wrap64 (x16 + 1)) x102000 x102001 x102002) else (none))
end
def thompson_laid.f (k : Nat) (a0_0 : Int) (l0_1 : List (List Int)) (l0_2 : List Bool) (a1 : Int) (a2 : Int) : Option ((List (List (S82)))) := thompson_laid.l0 k a1 a2 ([] : List (List (S82))) l0_1 (l0_1.length : Int) 0 a0_0 l0_1 l0_2
theorem thompson_laid.mono_l : ∀ k, (∀ y0 y1 y2 y3 y4 y5 y6 y7 y8, LeO (thompson_laid.l0 k y0 y1 y2 y3 y4 y5 y6 y7 y8) (thompson_laid.l0 (k + 1) y0 y1 y2 y3 y4 y5 y6 y7 y8)) ∧ (∀ y0 y1 y2 y3 y4 y5 y6 y7 y8 y9 y10, LeO (thompson_laid.j1 k y0 y1 y2 y3 y4 y5 y6 y7 y8 y9 y10) (thompson_laid.j1 (k + 1) y0 y1 y2 y3 y4 y5 y6 y7 y8 y9 y10)) ∧ (∀ y0 y1 y2 y3 y4 y5 y6 y7 y8 y9 y10 y11 y12, LeO (thompson_laid.l1 k y0 y1 y2 y3 y4 y5 y6 y7 y8 y9 y10 y11 y12) (thompson_laid.l1 (k + 1) y0 y1 y2 y3 y4 y5 y6 y7 y8 y9 y10 y11 y12))
  | 0 => ⟨fun _ _ _ _ _ _ _ _ _ r h => by simp [thompson_laid.l0] at h, fun _ _ _ _ _ _ _ _ _ _ _ r h => by simp [thompson_laid.j1] at h, fun _ _ _ _ _ _ _ _ _ _ _ _ _ r h => by simp [thompson_laid.l1] at h⟩
  | k + 1 => by
    obtain ⟨ih0, ih1, ih2⟩ := thompson_laid.mono_l k
    refine ⟨?_, ?_, ?_⟩
    · intro y0 y1 y2 y3 y4 y5 y6 y7 y8
      unfold thompson_laid.l0
      repeat' first
      | (with_reducible exact ih0 _ _ _ _ _ _ _ _ _)
      | (with_reducible exact ih1 _ _ _ _ _ _ _ _ _ _ _)
      | (with_reducible exact ih2 _ _ _ _ _ _ _ _ _ _ _ _ _)
      | (with_reducible exact LeO.refl _)
      | (with_reducible exact LeO.none _)
      | (with_reducible refine LeO.ite ?_ ?_)
      | (with_reducible refine LeO.bind ?_ (fun _ => ?_))
      | exact ih0 _ _ _ _ _ _ _ _ _
      | exact ih1 _ _ _ _ _ _ _ _ _ _ _
      | exact ih2 _ _ _ _ _ _ _ _ _ _ _ _ _
      | exact LeO.none _
      | refine LeO.ite ?_ ?_
      | refine LeO.bind ?_ (fun _ => ?_)
    · intro y0 y1 y2 y3 y4 y5 y6 y7 y8 y9 y10
      unfold thompson_laid.j1
      repeat' first
      | (with_reducible exact ih0 _ _ _ _ _ _ _ _ _)
      | (with_reducible exact ih1 _ _ _ _ _ _ _ _ _ _ _)
      | (with_reducible exact ih2 _ _ _ _ _ _ _ _ _ _ _ _ _)
      | (with_reducible exact LeO.refl _)
      | (with_reducible exact LeO.none _)
      | (with_reducible refine LeO.ite ?_ ?_)
      | (with_reducible refine LeO.bind ?_ (fun _ => ?_))
      | exact ih0 _ _ _ _ _ _ _ _ _
      | exact ih1 _ _ _ _ _ _ _ _ _ _ _
      | exact ih2 _ _ _ _ _ _ _ _ _ _ _ _ _
      | exact LeO.none _
      | refine LeO.ite ?_ ?_
      | refine LeO.bind ?_ (fun _ => ?_)
    · intro y0 y1 y2 y3 y4 y5 y6 y7 y8 y9 y10 y11 y12
      unfold thompson_laid.l1
      repeat' first
      | (with_reducible exact ih0 _ _ _ _ _ _ _ _ _)
      | (with_reducible exact ih1 _ _ _ _ _ _ _ _ _ _ _)
      | (with_reducible exact ih2 _ _ _ _ _ _ _ _ _ _ _ _ _)
      | (with_reducible exact LeO.refl _)
      | (with_reducible exact LeO.none _)
      | (with_reducible refine LeO.ite ?_ ?_)
      | (with_reducible refine LeO.bind ?_ (fun _ => ?_))
      | exact ih0 _ _ _ _ _ _ _ _ _
      | exact ih1 _ _ _ _ _ _ _ _ _ _ _
      | exact ih2 _ _ _ _ _ _ _ _ _ _ _ _ _
      | exact LeO.none _
      | refine LeO.ite ?_ ?_
      | refine LeO.bind ?_ (fun _ => ?_)
theorem thompson_laid.mono : ∀ a0 a1 a2 a3 a4 k, LeO (thompson_laid.f k a0 a1 a2 a3 a4) (thompson_laid.f (k + 1) a0 a1 a2 a3 a4) := by
  intro a0 a1 a2 a3 a4 k
  obtain ⟨ih0, ih1, ih2⟩ := thompson_laid.mono_l k
  unfold thompson_laid.f
  repeat' first
      | (with_reducible exact ih0 _ _ _ _ _ _ _ _ _)
      | (with_reducible exact ih1 _ _ _ _ _ _ _ _ _ _ _)
      | (with_reducible exact ih2 _ _ _ _ _ _ _ _ _ _ _ _ _)
      | (with_reducible exact LeO.refl _)
      | (with_reducible exact LeO.none _)
      | (with_reducible refine LeO.ite ?_ ?_)
      | (with_reducible refine LeO.bind ?_ (fun _ => ?_))
      | exact ih0 _ _ _ _ _ _ _ _ _
      | exact ih1 _ _ _ _ _ _ _ _ _ _ _
      | exact ih2 _ _ _ _ _ _ _ _ _ _ _ _ _
      | exact LeO.none _
      | refine LeO.ite ?_ ?_
      | refine LeO.bind ?_ (fun _ => ?_)
set_option maxHeartbeats 8000000 in
set_option maxRecDepth 100000 in
theorem thompson_laid.calls (k : Nat) (a0_0 : Int) (A0_1 : Option Addr) (c0_1 : Nat) (l0_1 : List (List Int)) (A0_2 : Option Addr) (c0_2 : Nat) (l0_2 : List Bool) (a1 : Int) (a2 : Int) (r : List (List (S82))) (w : World) (hr0_1 : Kd.C (Kd.slice 3 (Kd.int .i64)) w A0_1 l0_1.length l0_1) (hc0_1 : l0_1.length ≤ c0_1) (hr0_2 : Kd.C Kd.bool w A0_2 l0_2.length l0_2) (hc0_2 : l0_2.length ≤ c0_2) (h : thompson_laid.f k a0_0 l0_1 l0_2 a1 a2 = some r) :
    Calls Try.prog 83 #[.agg #[.int .i64 a0_0, .slice A0_1 l0_1.length c0_1, .slice A0_2 l0_2.length c0_2], .int .i64 a1, .int .i64 a2] w fun e w' => ∃ v0_ : Value, e = .returned (v0_) ∧ Kd.S (Kd.slice 82 k82) 79 w' w.heap.size (fun _ => True) v0_ r ∧ Below w.heap.size w w' := by
  have hu25 := Try.underlying25
  have hu82 := Try.underlying82
  have HR0_1 := Aside0.mk hr0_1
  have HC0_1 := Aside0.mk hc0_1
  clear hr0_1 hc0_1
  have HR0_2 := Aside0.mk hr0_2
  have HC0_2 := Aside0.mk hc0_2
  clear hr0_2 hc0_2
  have HB := Aside0.mk (Below.refl w.heap.size w)
  have H : (thompson_laid.l0 k a1 a2 ([] : List (List (S82))) l0_1 (l0_1.length : Int) 0 a0_0 l0_1 l0_2) = some r := h
  clear h
  have H' := Aside0.mk H
  clear H
  go_enter Try.func83, Try.ntmps83
  go_wp2_with (first | ((with_reducible refine gate_dst (N := 3) rfl ?_); refine box_event ?hg (N := 3) ?hd (cs := #[.int .i64 a0_0, .slice A0_1 l0_1.length c0_1, .slice A0_2 l0_2.length c0_2]) (t := 25) ?hr ?_; (case hd => rfl); (case hg => rfl); (case hr => first | (go_simp; done) | (go_simp; rfl)); intro gb101 hg w4 hbox hb; have n0_ := Aside0.mk (below_step (by repeat (first | (with_reducible first | exact HB.out | apply below_alloc | apply pw_below_drewN | apply below_drew1) | exact HB.out)) hb); have n1_ := Aside0.mk (hbox); have n2_ := Aside0.mk ((by rw [hg]; exact (below_size (by repeat (first | (with_reducible first | exact HB.out | apply below_alloc | apply pw_below_drewN | apply below_drew1) | exact HB.out))) : w.heap.size ≤ gb101)); have n3_ := Aside0.mk ((by rw [hg]; exact (below_size (by repeat (first | (with_reducible first | exact HB.out | apply below_alloc | apply pw_below_drewN | apply below_drew1) | exact HB.out))) : w.heap.size ≤ gb101)); clear HB; have HB := n0_; have BK101 := n1_; have GW101 := n2_; have GE101 := n3_; clear n0_ n1_ n2_ n3_; clear hb hbox hg; have hcz5_0 : w4.cell? ⟨gb101, 0, none⟩ = some (.int .i64 a0_0) := (blk_cell BK101.out 0).trans rfl; have hcz5_1 : w4.cell? ⟨gb101, 1, none⟩ = some (.slice A0_1 l0_1.length c0_1) := (blk_cell BK101.out 1).trans rfl; have hcz5_2 : w4.cell? ⟨gb101, 2, none⟩ = some (.slice A0_2 l0_2.length c0_2) := (blk_cell BK101.out 2).trans rfl; have hfz5_0 := blk_frozen BK101.out 0; have hfz5_1 := blk_frozen BK101.out 1; have hfz5_2 := blk_frozen BK101.out 2))
  go_loopg [7, 16] k (fun kq v7 v16 w' => ∃ (x7_1 : List (List (S82))) (x16_1 : Int), v16 = .int .i64 x16_1 ∧ Aside0 (thompson_laid.l0 kq a1 a2 x7_1 l0_1 (l0_1.length : Int) x16_1 a0_0 l0_1 l0_2 = some r) ∧ Aside0 (kq ≤ k) ∧ Aside0 (Kd.S (Kd.slice 82 k82) 79 w' w.heap.size (fun _ => True) v7 x7_1) ∧ Aside0 (w'.heap[gb101]? = some (.cells #[.int .i64 a0_0, (.slice A0_1 l0_1.length c0_1), (.slice A0_2 l0_2.length c0_2)] 25 (0, 0))) ∧ Aside0 (Below w.heap.size w w'))
  case atStart => exact ⟨(([] : List (List (S82)))), (0), (by first | rfl | (simp; done) | (simp [*]; done)), H', ⟨Nat.le_refl _⟩, ⟨by first | exact Kd.S_nil _ _ _ _ _ | exact Kd.N_nil _ _ _ _ _ | exact Kd.V_nil _ _ _ _ _ | exact Kd.Q_nil _ _ _ _ _ | exact Kd.R_nil _ _ _ _ _⟩, ⟨by (with_reducible repeat (first | refine blk_drewN ?_ _ | refine blk_drew ?_ | refine blk_alloc ?_ _)); exact BK101.out⟩, ⟨by repeat (first | (with_reducible first | exact HB.out | apply below_alloc | apply pw_below_drewN | apply below_drew1 | refine below_set ?_ GE101.out) | exact HB.out)⟩⟩
  case round =>
    clear H'
    try clear p2
    try clear hcz5_0
    try clear hcz5_1
    try clear hcz5_2
    try clear hfz5_0
    try clear hfz5_1
    try clear hfz5_2
    obtain ⟨x7_1, x16_1, rfl, HA, HK1, HO_7, BK101, HB⟩ := hrel
    cases gk with
    | zero => exact absurd HA.out (by simp [thompson_laid.l0])
    | succ k1 =>
      have H := HA.out
      clear HA
      simp only [thompson_laid.l0] at H
      by_cases c6 : x16_1 < (l0_1.length : Int)
      · rw [if_pos c6] at H
        have c6b0 : decide (x16_1 < (l0_1.length : Int)) = true := decide_eq_true c6
        clear c6
        by_cases c7 : 0 ≤ x16_1
        · rw [if_pos c7] at H
          have c7b0 : decide (0 ≤ x16_1) = true := decide_eq_true c7
          clear c7
          by_cases c8 : x16_1 < (l0_1.length : Int)
          · rw [if_pos c8] at H
            have c8b0 : decide (x16_1 < (l0_1.length : Int)) = true := decide_eq_true c8
            clear c8
            by_cases c9 : x16_1 < (l0_2.length : Int)
            · rw [if_pos c9] at H
              have c9b0 : decide (x16_1 < (l0_2.length : Int)) = true := decide_eq_true c9
              clear c9
              have HC10 := Aside0.mk H
              clear H
              have p102 : 0 ≤ (x16_1 : Int) := of_decide_eq_true (by first | (with_reducible assumption) | assumption)
              have q102 : x16_1 < (l0_1.length : Int) := of_decide_eq_true (by first | (with_reducible assumption) | assumption)
              obtain ⟨ad102, A102_0, c102_0, e102, hx102_0, hl102_0, hi102_0⟩ := at_L5 HR0_1.out x16_1 p102 q102
              cases e102
              replace hx102_0 := (HB.out.cell (World.block_lt_of_cell? w _ hx102_0)).trans hx102_0
              have HR102_0 := Aside0.mk hi102_0
              have HC102_0 := Aside0.mk hl102_0
              clear hi102_0 hl102_0
              replace p102 := eq_true p102
              replace q102 := eq_true q102
              have hcz11_0 : wr.cell? ⟨gb101, 0, none⟩ = some (.int .i64 a0_0) := (blk_cell BK101.out 0).trans rfl
              have hcz11_1 : wr.cell? ⟨gb101, 1, none⟩ = some (.slice (some ad102) l0_1.length c0_1) := (blk_cell BK101.out 1).trans rfl
              have hcz11_2 : wr.cell? ⟨gb101, 2, none⟩ = some (.slice A0_2 l0_2.length c0_2) := (blk_cell BK101.out 2).trans rfl
              have hfz11_0 := blk_frozen BK101.out 0
              have hfz11_1 := blk_frozen BK101.out 1
              have hfz11_2 := blk_frozen BK101.out 2
              have p103 : 0 ≤ (x16_1 : Int) := of_decide_eq_true (by first | (with_reducible assumption) | assumption)
              have q103 : x16_1 < (l0_2.length : Int) := of_decide_eq_true (by first | (with_reducible assumption) | assumption)
              obtain ⟨ad103, e103, hx103_0⟩ := Kd.at_bool HR0_2.out x16_1 p103 q103
              cases e103
              replace hx103_0 := (HB.out.cell (World.block_lt_of_cell? w _ hx103_0)).trans hx103_0
              replace p103 := eq_true p103
              replace q103 := eq_true q103
              go_upto_if 25 with (fail)
              go_cut [10] (fun v10 wc => ∃ (kq : Nat) (x10_9 : List (S82)), Aside0 (thompson_laid.j1 kq a1 a2 x7_1 (rd_L5 l0_1 x16_1) x10_9 l0_1 (l0_1.length : Int) x16_1 a0_0 l0_1 l0_2 = some r) ∧ Aside0 (kq ≤ k1) ∧ Aside0 (Kd.S (Kd.slice 82 k82) 79 wc w.heap.size (fun k_ => some k_ ≠ (v10 : Value).ownBlock) u7 x7_1) ∧ Aside0 (Kd.R k82 82 wc w.heap.size (fun _ => True) v10 x10_9) ∧ Aside0 (wc.heap[gb101]? = some (.cells #[.int .i64 a0_0, (.slice (some ad102) l0_1.length c0_1), (.slice (some ad103) l0_2.length c0_2)] 25 (0, 0))) ∧ Aside0 (Below w.heap.size w wc))
              case first =>
                have H := HC10.out
                clear HC10
                obtain ⟨bq12, hbq12⟩ : ∃ b_ : Bool, b_ = (rdOf false l0_2 x16_1) := ⟨_, rfl⟩
                replace H : (if bq12 = true then ((thompson_nothing.f a2).bind fun bt104 => (if ([] : List (S82)).length < 8796093022208 then (thompson_laid.j1 k1 a1 a2 x7_1 (rd_L5 l0_1 x16_1) (([] : List (S82)) ++ [(⟨bt104.1, bt104.2⟩ : S82)]) l0_1 (l0_1.length : Int) x16_1 a0_0 l0_1 l0_2) else (none))) else (thompson_laid.j1 k1 a1 a2 x7_1 (rd_L5 l0_1 x16_1) ([] : List (S82)) l0_1 (l0_1.length : Int) x16_1 a0_0 l0_1 l0_2)) = some r := by rw [← hbq12] at H; exact H
                have Nbq12 := Aside0.mk hbq12
                clear hbq12
                (try rw [← Nbq12.out])
                by_cases c13 : bq12 = true
                · subst c13
                  have H1 : ((thompson_nothing.f a2).bind fun bt104 => (if ([] : List (S82)).length < 8796093022208 then (thompson_laid.j1 k1 a1 a2 x7_1 (rd_L5 l0_1 x16_1) (([] : List (S82)) ++ [(⟨bt104.1, bt104.2⟩ : S82)]) l0_1 (l0_1.length : Int) x16_1 a0_0 l0_1 l0_2) else (none))) = some r := by rw [if_pos rfl] at H; exact H
                  clear H
                  have H := H1
                  clear H1
                  replace H := Option.bind_eq_some_iff.mp H
                  obtain ⟨⟨t104, t105⟩, A140, H⟩ := H
                  replace H : (if ([] : List (S82)).length < 8796093022208 then (thompson_laid.j1 k1 a1 a2 x7_1 (rd_L5 l0_1 x16_1) (([] : List (S82)) ++ [(⟨t104, t105⟩ : S82)]) l0_1 (l0_1.length : Int) x16_1 a0_0 l0_1 l0_2) else (none)) = some r := H
                  have A14 := Aside0.mk A140
                  clear A140
                  by_cases c15 : ([] : List (S82)).length < 8796093022208
                  · rw [if_pos c15] at H
                    have LMc15 := Aside0.mk c15
                    clear c15
                    obtain ⟨y106, hy106⟩ : ∃ y_ : List (S82), y_ = (([] : List (S82)) ++ [(⟨t104, t105⟩ : S82)]) := ⟨_, rfl⟩
                    replace H : (thompson_laid.j1 k1 a1 a2 x7_1 (rd_L5 l0_1 x16_1) y106 l0_1 (l0_1.length : Int) x16_1 a0_0 l0_1 l0_2) = some r := by first | (rw [hy106]; with_reducible exact H) | (have H2_ := (Option.bind_some _ _).symm.trans H; rw [hy106]; with_reducible exact H2_) | (have H2_ := (Option.bind_some _ _).symm.trans H; with_reducible exact H2_) | with_reducible exact H | (rw [hy106]; exact H) | exact H
                    have Ny106 := Aside0.mk hy106
                    clear hy106
                    have H' := Aside0.mk H
                    clear H
                    go_wp2_with (first | ((with_reducible refine gate_callee (f := 114) rfl ?_); refine goesL_ (some 28) rfl rfl Try.func114 (by kernel_rfl) rfl #[.int .i64 a2] rfl (by (try simp only [List.map_toArray, List.map_cons, List.map_nil]); first | done | rfl | (simp only [List.length_drop, List.length_take]; rfl)) ?_; (with_reducible refine (thompson_nothing.calls a2 t104 t105 _ A14.out).mono ?_); rintro e w16 ⟨rfl, hb⟩; refine ⟨_, rfl, ?_⟩; have n0_ := Aside0.mk (Kd.S_below (by (with_reducible repeat (first | apply Kd.S_alloc | apply Kd.S_drewN | apply Kd.S_drew)); exact HO_7.out) hb); have n1_ := Aside0.mk (blk_below (g := gb101) (o := .cells #[.int .i64 a0_0, .slice (some ad102) l0_1.length c0_1, .slice (some ad103) l0_2.length c0_2] 25 (0, 0)) (by (with_reducible repeat (first | refine blk_drewN ?_ _ | refine blk_drew ?_ | refine blk_alloc ?_ _)); exact BK101.out) hb); have n2_ := Aside0.mk (below_step (by repeat (first | (with_reducible first | exact HB.out | apply below_alloc | apply pw_below_drewN | apply below_drew1 | refine below_set ?_ GE101.out) | exact HB.out)) hb); clear HO_7; clear BK101; clear HB; have HO_7 := n0_; have BK101 := n1_; have HB := n2_; clear n0_ n1_ n2_; (try clear hb); (try clear hb2); (try clear hk); (try clear hi)) | ((with_reducible refine gate_builtin (b := .append) (xs := #[.tmp 26, .tmp 29]) rfl ?_); at_builtin; refine Kd.R_append k82 (w0 := w) w.heap.size rfl (.tmp 26) (.tmp 29) 79 82 (.agg #[(.int .i64 0), (.int .i64 0)]) 16 rfl Try.underlying79 info82 rfl (by decide) (by omega) (.slice none 0 0) ([] : List (S82)) (⟨t104, t105⟩ : S82) [.int .i64 t104, .int .i64 t105] (fun _ => True) (fun _ => False) rfl rfl ?aP (fun _ hk => hk.elim) ?aF ?aO ?aB ?aS ?aL ?_; (case aP => exact k82_mkM _ _ _ (⟨t104, t105⟩ : S82)); (case aB => exact (by repeat (first | (with_reducible first | exact HB.out | apply below_alloc | apply pw_below_drewN | apply below_drew1 | refine below_set ?_ GE101.out) | exact HB.out))); (case aF => exact (fun _ _ => trivial)); (case aO => exact ((Kd.R_nil _ _ _ _ (fun _ => True)))); (case aS => exact (below_size (by repeat (first | (with_reducible first | exact HB.out | apply below_alloc | apply pw_below_drewN | apply below_drew1 | refine below_set ?_ GE101.out) | exact HB.out)))); (case aL => have := LMc15.out; omega); intro v107 w17 ho hb hg hat; rw [← Ny106.out] at ho; have n0_ := Aside0.mk (Kd.S_after (Kd.S_apart_nil (by (with_reducible repeat (first | apply Kd.S_alloc | apply Kd.S_drewN | apply Kd.S_drew)); exact HO_7.out)) hg hat); have n1_ := Aside0.mk (blk_grown (g := gb101) (o := .cells #[.int .i64 a0_0, .slice (some ad102) l0_1.length c0_1, .slice (some ad103) l0_2.length c0_2] 25 (0, 0)) (by (with_reducible repeat (first | refine blk_drewN ?_ _ | refine blk_drew ?_ | refine blk_alloc ?_ _)); exact BK101.out) hg (by simp [Value.ownBlock])); have n2_ := Aside0.mk (hb); have n3_ := Aside0.mk (ho); clear HO_7; clear BK101; clear HB; have HO_7 := n0_; have BK101 := n1_; have HB := n2_; have HO108 := n3_; clear n0_ n1_ n2_ n3_; clear ho hb hg hat))
                    go_meet
                    case rel => exact ⟨_, (y106), H', ⟨by have := HK1.out; first | omega | exact Nat.le_refl _⟩, ⟨by (with_reducible repeat (first | apply Kd.S_alloc | apply Kd.S_drewN | apply Kd.S_drew)); exact Kd.S_mono HO_7.out (fun _ hk => hk.2)⟩, ⟨by (with_reducible repeat (first | apply Kd.R_alloc | apply Kd.R_drewN | apply Kd.R_drew)); exact HO108.out⟩, ⟨by (with_reducible repeat (first | refine blk_drewN ?_ _ | refine blk_drew ?_ | refine blk_alloc ?_ _)); exact BK101.out⟩, ⟨by repeat (first | (with_reducible first | exact HB.out | apply below_alloc | apply pw_below_drewN | apply below_drew1 | refine below_set ?_ GE101.out) | exact HB.out)⟩⟩
                  · rw [if_neg c15] at H
                    exact absurd H (by simp)
                · replace c13 := Bool.eq_false_iff.mpr c13
                  subst c13
                  have H1 : (thompson_laid.j1 k1 a1 a2 x7_1 (rd_L5 l0_1 x16_1) ([] : List (S82)) l0_1 (l0_1.length : Int) x16_1 a0_0 l0_1 l0_2) = some r := by rw [if_neg (show ¬ (false = true) by decide)] at H; exact H
                  clear H
                  have H := H1
                  clear H1
                  have H' := Aside0.mk H
                  clear H
                  go_wp2
                  go_meet
                  case rel => exact ⟨_, (([] : List (S82))), H', ⟨by have := HK1.out; first | omega | exact Nat.le_refl _⟩, ⟨by (with_reducible repeat (first | apply Kd.S_alloc | apply Kd.S_drewN | apply Kd.S_drew)); exact Kd.S_mono HO_7.out (fun _ hk => (by simp [Value.ownBlock]))⟩, ⟨by first | exact Kd.R_nil _ _ _ _ _ | exact Kd.N_nil _ _ _ _ _ | exact Kd.V_nil _ _ _ _ _ | exact Kd.Q_nil _ _ _ _ _ | exact Kd.S_nil _ _ _ _ _⟩, ⟨by (with_reducible repeat (first | refine blk_drewN ?_ _ | refine blk_drew ?_ | refine blk_alloc ?_ _)); exact BK101.out⟩, ⟨by repeat (first | (with_reducible first | exact HB.out | apply below_alloc | apply pw_below_drewN | apply below_drew1 | refine below_set ?_ GE101.out) | exact HB.out)⟩⟩
              case rest =>
                clear HC10
                try clear c1
                try clear p1
                try clear q1
                try clear hx1
                try clear p2
                try clear c6
                try clear c6b0
                try clear c7
                try clear c7b0
                try clear c8
                try clear c8b0
                try clear c9
                try clear c9b0
                try clear c10
                try clear p10
                try clear q10
                try clear hx10
                try clear c11
                try clear q12
                try clear c13
                try clear c15
                try clear hcz11_0
                try clear hcz11_1
                try clear hcz11_2
                try clear hcz5_0
                try clear hcz5_1
                try clear hcz5_2
                try clear hfz11_0
                try clear hfz11_1
                try clear hfz11_2
                try clear hfz5_0
                try clear hfz5_1
                try clear hfz5_2
                try clear hx102_0
                try clear hx103_0
                try clear p102
                try clear p103
                try clear p2
                try clear q102
                try clear q103
                obtain ⟨kq, x10_9, HA, HJ9, HO_7, HO_10, BK101, HB⟩ := hcut
                cases kq with
                | zero => exact absurd HA.out (by simp [thompson_laid.j1])
                | succ kj9 =>
                  have H := HA.out
                  clear HA
                  simp only [thompson_laid.j1] at H
                  have H' := Aside0.mk H
                  clear H
                  go_wp2
                  go_loopg [10, 33] kj9 (fun kq v10 v33 w' => ∃ (x10_3 : List (S82)) (x33_3 : Int), v33 = .int .i64 x33_3 ∧ Aside0 (thompson_laid.l1 kq a1 a2 x7_1 x10_3 l0_1 (l0_1.length : Int) x16_1 (rd_L5 l0_1 x16_1) ((rd_L5 l0_1 x16_1).length : Int) x33_3 a0_0 l0_1 l0_2 = some r) ∧ Aside0 (kq ≤ kj9) ∧ Aside0 (Kd.S (Kd.slice 82 k82) 79 w' w.heap.size (fun k_ => some k_ ≠ (v10 : Value).ownBlock) u7 x7_1) ∧ Aside0 (Kd.R k82 82 w' w.heap.size (fun _ => True) v10 x10_3) ∧ Aside0 (w'.heap[gb101]? = some (.cells #[.int .i64 a0_0, (.slice (some ad102) l0_1.length c0_1), (.slice (some ad103) l0_2.length c0_2)] 25 (0, 0))) ∧ Aside0 (Below w.heap.size w w'))
                  case atStart => exact ⟨(x10_9), (0), (by first | rfl | (simp; done) | (simp [*]; done)), H', ⟨Nat.le_refl _⟩, ⟨by (with_reducible repeat (first | apply Kd.S_alloc | apply Kd.S_drewN | apply Kd.S_drew)); exact HO_7.out⟩, ⟨by (with_reducible repeat (first | apply Kd.R_alloc | apply Kd.R_drewN | apply Kd.R_drew)); exact HO_10.out⟩, ⟨by (with_reducible repeat (first | refine blk_drewN ?_ _ | refine blk_drew ?_ | refine blk_alloc ?_ _)); exact BK101.out⟩, ⟨by repeat (first | (with_reducible first | exact HB.out | apply below_alloc | apply pw_below_drewN | apply below_drew1 | refine below_set ?_ GE101.out) | exact HB.out)⟩⟩
                  case round =>
                    clear H'
                    try clear c1
                    try clear p1
                    try clear q1
                    try clear hx1
                    try clear p2
                    try clear c6
                    try clear c6b0
                    try clear c7
                    try clear c7b0
                    try clear c8
                    try clear c8b0
                    try clear c9
                    try clear c9b0
                    try clear c10
                    try clear p10
                    try clear q10
                    try clear hx10
                    try clear c11
                    try clear q12
                    try clear c13
                    try clear c15
                    try clear hcz11_0
                    try clear hcz11_1
                    try clear hcz11_2
                    try clear hcz5_0
                    try clear hcz5_1
                    try clear hcz5_2
                    try clear hfz11_0
                    try clear hfz11_1
                    try clear hfz11_2
                    try clear hfz5_0
                    try clear hfz5_1
                    try clear hfz5_2
                    try clear hx102_0
                    try clear hx103_0
                    try clear p1
                    try clear p10
                    try clear p102
                    try clear p103
                    try clear p2
                    try clear q1
                    try clear q10
                    try clear q102
                    try clear q103
                    try clear q12
                    obtain ⟨x10_3, x33_3, rfl, HA, HK3, HO_7, HO_10, BK101, HB⟩ := hrel
                    cases gk with
                    | zero => exact absurd HA.out (by simp [thompson_laid.l1])
                    | succ k3 =>
                      have H := HA.out
                      clear HA
                      simp only [thompson_laid.l1] at H
                      by_cases c18 : x33_3 < ((rd_L5 l0_1 x16_1).length : Int)
                      · rw [if_pos c18] at H
                        have c18b0 : decide (x33_3 < ((rd_L5 l0_1 x16_1).length : Int)) = true := decide_eq_true c18
                        clear c18
                        by_cases c19 : 0 ≤ x33_3
                        · rw [if_pos c19] at H
                          have c19b0 : decide (0 ≤ x33_3) = true := decide_eq_true c19
                          clear c19
                          by_cases c20 : x33_3 < ((rd_L5 l0_1 x16_1).length : Int)
                          · rw [if_pos c20] at H
                            have c20b0 : decide (x33_3 < ((rd_L5 l0_1 x16_1).length : Int)) = true := decide_eq_true c20
                            clear c20
                            by_cases c21 : x10_3.length < 8796093022208
                            · rw [if_pos c21] at H
                              have LMc21 := Aside0.mk c21
                              clear c21
                              obtain ⟨y110, hy110⟩ : ∃ y_ : List (S82), y_ = (x10_3 ++ [(⟨x33_3, wrap64 (a1 + (rd (rd_L5 l0_1 x16_1) x33_3))⟩ : S82)]) := ⟨_, rfl⟩
                              replace H : (thompson_laid.l1 k3 a1 a2 x7_1 y110 l0_1 (l0_1.length : Int) x16_1 (rd_L5 l0_1 x16_1) ((rd_L5 l0_1 x16_1).length : Int) (wrap64 (x33_3 + 1)) a0_0 l0_1 l0_2) = some r := by first | (rw [hy110]; with_reducible exact H) | (have H2_ := (Option.bind_some _ _).symm.trans H; rw [hy110]; with_reducible exact H2_) | (have H2_ := (Option.bind_some _ _).symm.trans H; with_reducible exact H2_) | with_reducible exact H | (rw [hy110]; exact H) | exact H
                              have Ny110 := Aside0.mk hy110
                              clear hy110
                              have H' := Aside0.mk H
                              clear H
                              have p109 : 0 ≤ (x33_3 : Int) := of_decide_eq_true (by first | (with_reducible assumption) | assumption)
                              have q109 : x33_3 < ((rd_L5 l0_1 x16_1).length : Int) := of_decide_eq_true (by first | (with_reducible assumption) | assumption)
                              obtain ⟨ad109, e109, hx109_0⟩ := Kd.at_int HR102_0.out x33_3 p109 q109
                              cases e109
                              replace hx109_0 := (HB.out.cell (World.block_lt_of_cell? w _ hx109_0)).trans hx109_0
                              replace p109 := eq_true p109
                              replace q109 := eq_true q109
                              go_wp2_with (first | ((with_reducible refine gate_builtin (b := .append) (xs := #[.tmp 38, .tmp 44]) rfl ?_); at_builtin; refine Kd.R_append k82 (w0 := w) w.heap.size rfl (.tmp 38) (.tmp 44) 79 82 (.agg #[(.int .i64 0), (.int .i64 0)]) 16 rfl Try.underlying79 info82 rfl (by decide) (by omega) u10 x10_3 (⟨x33_3, wrap64 (a1 + (rd (rd_L5 l0_1 x16_1) x33_3))⟩ : S82) [.int .i64 x33_3, .int .i64 (wrap64 (a1 + (rd (rd_L5 l0_1 x16_1) x33_3)))] (fun _ => True) (fun _ => False) rfl rfl ?aP (fun _ hk => hk.elim) ?aF ?aO ?aB ?aS ?aL ?_; (case aP => exact k82_mkM _ _ _ (⟨x33_3, wrap64 (a1 + (rd (rd_L5 l0_1 x16_1) x33_3))⟩ : S82)); (case aB => exact (by repeat (first | (with_reducible first | exact HB.out | apply below_alloc | apply pw_below_drewN | apply below_drew1 | refine below_set ?_ GE101.out) | exact HB.out))); (case aF => exact (fun _ _ => trivial)); (case aO => exact (by (with_reducible repeat (first | apply Kd.R_alloc | apply Kd.R_drewN | apply Kd.R_drew)); exact HO_10.out)); (case aS => exact (below_size (by repeat (first | (with_reducible first | exact HB.out | apply below_alloc | apply pw_below_drewN | apply below_drew1 | refine below_set ?_ GE101.out) | exact HB.out)))); (case aL => have := LMc21.out; omega); intro v111 w22 ho hb hg hat; rw [← Ny110.out] at ho; have n0_ := Aside0.mk (Kd.S_after (ok := (fun _ => True)) (by (with_reducible repeat (first | apply Kd.S_alloc | apply Kd.S_drewN | apply Kd.S_drew)); exact Kd.S_mono HO_7.out (fun _ hk => ⟨trivial, hk⟩)) hg hat); have n1_ := Aside0.mk (blk_grown (g := gb101) (o := .cells #[.int .i64 a0_0, .slice (some ad102) l0_1.length c0_1, .slice (some ad103) l0_2.length c0_2] 25 (0, 0)) (by (with_reducible repeat (first | refine blk_drewN ?_ _ | refine blk_drew ?_ | refine blk_alloc ?_ _)); exact BK101.out) hg (Kd.R_ne HO_10.out BK101.out (by decide))); have n2_ := Aside0.mk (hb); have n3_ := Aside0.mk (ho); clear HO_7; clear BK101; clear HB; clear HO_10; have HO_7 := n0_; have BK101 := n1_; have HB := n2_; have HO112 := n3_; clear n0_ n1_ n2_ n3_; clear ho hb hg hat))
                              go_roundg k3
                              case measure => have := HK1.out; have := HJ9.out; have := HK3.out; omega
                              case rel => exact ⟨(y110), (wrap64 (x33_3 + 1)), (by first | rfl | (simp; done) | (simp [*]; done)), H', ⟨by have := HK1.out; have := HJ9.out; have := HK3.out; omega⟩, ⟨by (with_reducible repeat (first | apply Kd.S_alloc | apply Kd.S_drewN | apply Kd.S_drew)); exact Kd.S_mono HO_7.out (fun _ hk => hk.2)⟩, ⟨by (with_reducible repeat (first | apply Kd.R_alloc | apply Kd.R_drewN | apply Kd.R_drew)); exact HO112.out⟩, ⟨by (with_reducible repeat (first | refine blk_drewN ?_ _ | refine blk_drew ?_ | refine blk_alloc ?_ _)); exact BK101.out⟩, ⟨by repeat (first | (with_reducible first | exact HB.out | apply below_alloc | apply pw_below_drewN | apply below_drew1 | refine below_set ?_ GE101.out) | exact HB.out)⟩⟩
                            · rw [if_neg c21] at H
                              exact absurd H (by simp)
                          · rw [if_neg c20] at H
                            exact absurd H (by simp)
                        · rw [if_neg c19] at H
                          exact absurd H (by simp)
                      · rw [if_neg c18] at H
                        have c18b0 : decide (x33_3 < ((rd_L5 l0_1 x16_1).length : Int)) = false := decide_eq_false c18
                        clear c18
                        by_cases c23 : x7_1.length < 5864062014805
                        · rw [if_pos c23] at H
                          have LMc23 := Aside0.mk c23
                          clear c23
                          obtain ⟨y113, hy113⟩ : ∃ y_ : List (List (S82)), y_ = (x7_1 ++ [x10_3]) := ⟨_, rfl⟩
                          replace H : (thompson_laid.l0 k3 a1 a2 y113 l0_1 (l0_1.length : Int) (wrap64 (x16_1 + 1)) a0_0 l0_1 l0_2) = some r := by first | (rw [hy113]; with_reducible exact H) | (have H2_ := (Option.bind_some _ _).symm.trans H; rw [hy113]; with_reducible exact H2_) | (have H2_ := (Option.bind_some _ _).symm.trans H; with_reducible exact H2_) | with_reducible exact H | (rw [hy113]; exact H) | exact H
                          have Ny113 := Aside0.mk hy113
                          clear hy113
                          have H' := Aside0.mk H
                          clear H
                          obtain ⟨Ao25, co25, eo25⟩ := Kd.R_slice HO_10.out
                          subst eo25
                          go_wp2_with (first | ((with_reducible refine gate_builtin (b := .append) (xs := #[.tmp 47, .tmp 49]) rfl ?_); at_builtin; refine Kd.S_append (Kd.slice 82 k82) (w0 := w) w.heap.size rfl (.tmp 47) (.tmp 49) 26 79 (.slice none 0 0) 24 rfl Try.underlying26 info79 rfl (by decide) (by omega) u7 x7_1 x10_3 [.slice Ao25 x10_3.length co25] (fun _ => True) (fun k_ => some k_ = (.slice Ao25 x10_3.length co25 : Value).ownBlock) rfl rfl ?aP (fun k_ hk_ => ((Kd.R_mono (ok' := fun k_ => ((fun _ => True)) k_ ∧ some k_ ≠ (u7 : Value).ownBlock) (Kd.R_apart' (HO_10.out) (Kd.S_typed HO_7.out) (by decide)) (fun k_ hk => ⟨trivial, hk.2⟩))).1 k_ hk_.symm) ?aF ?aO ?aB ?aS ?aL ?_; (case aP => exact Kd.M_row (Kd.R_mono (Kd.R_tight rfl (Kd.R_mono (ok' := fun k_ => ((fun _ => True)) k_ ∧ some k_ ≠ (u7 : Value).ownBlock) (Kd.R_apart' (HO_10.out) (Kd.S_typed HO_7.out) (by decide)) (fun k_ hk => ⟨trivial, hk.2⟩))) (fun _ h_ => h_))); (case aB => exact (by repeat (first | (with_reducible first | exact HB.out | apply below_alloc | apply pw_below_drewN | apply below_drew1 | refine below_set ?_ GE101.out) | exact HB.out))); (case aF => exact (fun _ _ => trivial)); (case aO => exact (by (with_reducible repeat (first | apply Kd.S_alloc | apply Kd.S_drewN | apply Kd.S_drew)); exact Kd.S_mono HO_7.out (fun k_ hk => ⟨trivial, fun e_ => hk e_⟩))); (case aS => exact (below_size (by repeat (first | (with_reducible first | exact HB.out | apply below_alloc | apply pw_below_drewN | apply below_drew1 | refine below_set ?_ GE101.out) | exact HB.out)))); (case aL => have := LMc23.out; omega); intro v114 w24 ho hb hg hat; rw [← Ny113.out] at ho; have n0_ := Aside0.mk (blk_grown (g := gb101) (o := .cells #[.int .i64 a0_0, .slice (some ad102) l0_1.length c0_1, .slice (some ad103) l0_2.length c0_2] 25 (0, 0)) (by (with_reducible repeat (first | refine blk_drewN ?_ _ | refine blk_drew ?_ | refine blk_alloc ?_ _)); exact BK101.out) hg (Kd.S_ne HO_7.out BK101.out (by decide))); have n1_ := Aside0.mk (hb); have n2_ := Aside0.mk (ho); clear BK101; clear HB; clear HO_7; clear HO_10; have BK101 := n0_; have HB := n1_; have HO115 := n2_; clear n0_ n1_ n2_; clear ho hb hg hat))
                          go_roundg k3
                          case measure => have := HK1.out; have := HJ9.out; have := HK3.out; omega
                          case rel => exact ⟨(y113), (wrap64 (x16_1 + 1)), (by first | rfl | (simp; done) | (simp [*]; done)), H', ⟨by have := HK1.out; have := HJ9.out; have := HK3.out; omega⟩, ⟨by (with_reducible repeat (first | apply Kd.S_alloc | apply Kd.S_drewN | apply Kd.S_drew)); exact HO115.out⟩, ⟨by (with_reducible repeat (first | refine blk_drewN ?_ _ | refine blk_drew ?_ | refine blk_alloc ?_ _)); exact BK101.out⟩, ⟨by repeat (first | (with_reducible first | exact HB.out | apply below_alloc | apply pw_below_drewN | apply below_drew1 | refine below_set ?_ GE101.out) | exact HB.out)⟩⟩
                        · rw [if_neg c23] at H
                          exact absurd H (by simp)
            · rw [if_neg c9] at H
              exact absurd H (by simp)
          · rw [if_neg c8] at H
            exact absurd H (by simp)
        · rw [if_neg c7] at H
          exact absurd H (by simp)
      · rw [if_neg c6] at H
        have c6b0 : decide (x16_1 < (l0_1.length : Int)) = false := decide_eq_false c6
        clear c6
        obtain rfl := Option.some.inj H
        go_wp2
        go_ret
        exact ⟨_, by first | rfl | (simp [errW_none, errW_some] <;> rfl) | (simp [*, errW_none, errW_some] <;> rfl), by (with_reducible repeat (first | apply Kd.S_alloc | apply Kd.S_drewN | apply Kd.S_drew)); exact HO_7.out, by repeat (first | (with_reducible first | exact HB.out | apply below_alloc | apply pw_below_drewN | apply below_drew1 | refine below_set ?_ GE101.out) | exact HB.out)⟩

end Go.Proofs.Ytelkjbacdpmnfaa.A
