/- By a program, out of the translation (wip/myprint.py). -/
import Derived.Test.YtelkjbacdpmnfaaA0
import Derived.Test.YtelkjbacdpmnfaaAThompsonGood
namespace Go.Proofs.Ytelkjbacdpmnfaa.A
open Go.RowKit Go.Proofs.YtelkjbacdpmnfaaW.PrintWords Go.Proofs.YtelkjbacdpmnfaaW.PrintLast Go.Proofs.YtelkjbacdpmnfaaW.PrintMore
attribute [local go_sem] max2_int min2_int max_two min_two max_three min_three max_four min_four   -- for this text's walks alone
set_option linter.unusedVariables false
set_option linter.unusedSimpArgs false

/-! ### least_Reach: function 51 -/
mutual
def least_Reach.l0 : Nat → List Bool → List Int → Int → List (List Int) → List Bool → Option (List Bool)
 | 0, _, _, _, _, _ => none
 | k + 1, x3, x4, x102000, x102001, x102002 => if (x4.length : Int) > 0 then (if 0 < (x4.length : Int) then (if 0 ≤ (rd x4 0) then (if (rd x4 0) < (x102001.length : Int) then (least_Reach.l1 k x3 x4 (rd_L5 x102001 (rd x4 0)) ((rd_L5 x102001 (rd x4 0)).length : Int) 0 x102000 x102001 x102002) else (none)) else (none)) else (none)) else (some x3)
def least_Reach.l1 : Nat → List Bool → List Int → List Int → Int → Int → Int → List (List Int) → List Bool → Option (List Bool)
 | 0, _, _, _, _, _, _, _, _ => none
 | k + 1, x3, x4, x28, x29, x30, x102000, x102001, x102002 => if x30 < x29 then (if 0 ≤ x30 then (if x30 < (x28.length : Int) then (if 0 ≤ (rd x28 x30) then (if (rd x28 x30) < (x3.length : Int) then (if (rdOf false x3 (rd x28 x30) = true) then (least_Reach.l1 k x3 x4 x28 x29 (wrap64 (x30 + 1)) x102000 x102001 x102002) else (if x4.length < 17592186044416 then (least_Reach.l1 k (x3.set ((rd x28 x30) : Int).toNat true) (x4 ++ [rd x28 x30]) x28 x29 (wrap64 (x30 + 1)) x102000 x102001 x102002) else (none))) else (none)) else (none)) else (none)) else (none)) else (if 1 ≤ (x4.length : Int) then (least_Reach.l0 k x3 (x4.drop (1 : Int).toNat) x102000 x102001 x102002) else (none))
end
def least_Reach.f (k : Nat) (a0_0 : Int) (l0_1 : List (List Int)) (l0_2 : List Bool) : Option (List Bool) := (thompson_Good.f a0_0 l0_1 l0_2).bind fun t102 => (if t102 = true then (if 0 ≤ (l0_1.length : Int) then (if ((l0_1.length : Int) : Int).toNat ≤ 281474976710656 then ((some (List.replicate ((l0_1.length : Int) : Int).toNat false : List Bool)).bind fun y103 => (if 0 < (y103.length : Int) then (least_Reach.l0 k (y103.set (0 : Int).toNat true) (([0] : List Int)) a0_0 l0_1 l0_2) else (none))) else (none)) else (none)) else (some ([] : List Bool)))
theorem least_Reach.mono_l : ∀ k, (∀ y0 y1 y2 y3 y4, LeO (least_Reach.l0 k y0 y1 y2 y3 y4) (least_Reach.l0 (k + 1) y0 y1 y2 y3 y4)) ∧ (∀ y0 y1 y2 y3 y4 y5 y6 y7, LeO (least_Reach.l1 k y0 y1 y2 y3 y4 y5 y6 y7) (least_Reach.l1 (k + 1) y0 y1 y2 y3 y4 y5 y6 y7))
 | 0 => ⟨fun _ _ _ _ _ r h => by simp [least_Reach.l0] at h, fun _ _ _ _ _ _ _ _ r h => by simp [least_Reach.l1] at h⟩
 | k + 1 => by
  obtain ⟨ih0, ih1⟩ := least_Reach.mono_l k
  refine ⟨?_, ?_⟩
  ·intro y0 y1 y2 y3 y4
   unfold least_Reach.l0
   repeat' first
   | (with_reducible exact ih0 _ _ _ _ _)
   | (with_reducible exact ih1 _ _ _ _ _ _ _ _)
   | (with_reducible exact LeO.refl _)
   | (with_reducible exact LeO.none _)
   | (with_reducible refine LeO.ite ?_ ?_)
   | (with_reducible refine LeO.bind ?_ (fun _ => ?_))
   | exact ih0 _ _ _ _ _
   | exact ih1 _ _ _ _ _ _ _ _
   | exact LeO.none _
   | refine LeO.ite ?_ ?_
   | refine LeO.bind ?_ (fun _ => ?_)
  ·intro y0 y1 y2 y3 y4 y5 y6 y7
   unfold least_Reach.l1
   repeat' first
   | (with_reducible exact ih0 _ _ _ _ _)
   | (with_reducible exact ih1 _ _ _ _ _ _ _ _)
   | (with_reducible exact LeO.refl _)
   | (with_reducible exact LeO.none _)
   | (with_reducible refine LeO.ite ?_ ?_)
   | (with_reducible refine LeO.bind ?_ (fun _ => ?_))
   | exact ih0 _ _ _ _ _
   | exact ih1 _ _ _ _ _ _ _ _
   | exact LeO.none _
   | refine LeO.ite ?_ ?_
   | refine LeO.bind ?_ (fun _ => ?_)
theorem least_Reach.mono : ∀ a0 a1 a2 k, LeO (least_Reach.f k a0 a1 a2) (least_Reach.f (k + 1) a0 a1 a2) := by
 intro a0 a1 a2 k
 obtain ⟨ih0, ih1⟩ := least_Reach.mono_l k
 unfold least_Reach.f
 repeat' first
   | (with_reducible exact ih0 _ _ _ _ _)
   | (with_reducible exact ih1 _ _ _ _ _ _ _ _)
   | (with_reducible exact LeO.refl _)
   | (with_reducible exact LeO.none _)
   | (with_reducible refine LeO.ite ?_ ?_)
   | (with_reducible refine LeO.bind ?_ (fun _ => ?_))
   | exact ih0 _ _ _ _ _
   | exact ih1 _ _ _ _ _ _ _ _
   | exact LeO.none _
   | refine LeO.ite ?_ ?_
   | refine LeO.bind ?_ (fun _ => ?_)
set_option maxHeartbeats 8000000 in
set_option maxRecDepth 100000 in
theorem least_Reach.calls (k : Nat) (a0_0 : Int) (A0_1 : Option Addr) (c0_1 : Nat) (l0_1 : List (List Int)) (A0_2 : Option Addr) (c0_2 : Nat) (l0_2 : List Bool) (r : List Bool) (w : World) (hr0_1 : Kd.C (Kd.slice 3 (Kd.int .i64)) w A0_1 l0_1.length l0_1) (hc0_1 : l0_1.length ≤ c0_1) (hr0_2 : Kd.C Kd.bool w A0_2 l0_2.length l0_2) (hc0_2 : l0_2.length ≤ c0_2) (h : least_Reach.f k a0_0 l0_1 l0_2 = some r) :
  Calls Try.prog 51 #[.agg #[.int .i64 a0_0, .slice A0_1 l0_1.length c0_1, .slice A0_2 l0_2.length c0_2]] w fun e w' => ∃ v0_ : Value, e = .returned (v0_) ∧ Kd.R Kd.bool 4 w' w.heap.size (fun _ => True) v0_ r ∧ Below w.heap.size w w' := by
 have hu25 := Try.underlying25
 have HR0_1 := Aside0.mk hr0_1
 have HC0_1 := Aside0.mk hc0_1
 clear hr0_1 hc0_1
 have HR0_2 := Aside0.mk hr0_2
 have HC0_2 := Aside0.mk hc0_2
 clear hr0_2 hc0_2
 have HB := Aside0.mk (Below.refl w.heap.size w)
 have H : ((thompson_Good.f a0_0 l0_1 l0_2).bind fun t102 => (if t102 = true then (if 0 ≤ (l0_1.length : Int) then (if ((l0_1.length : Int) : Int).toNat ≤ 281474976710656 then ((some (List.replicate ((l0_1.length : Int) : Int).toNat false : List Bool)).bind fun y103 => (if 0 < (y103.length : Int) then (least_Reach.l0 k (y103.set (0 : Int).toNat true) (([0] : List Int)) a0_0 l0_1 l0_2) else (none))) else (none)) else (none)) else (some ([] : List Bool)))) = some r := h
 clear h
 replace H := Option.bind_eq_some_iff.mp H
 obtain ⟨t102, A20, H⟩ := H
 replace H : (if t102 = true then (if 0 ≤ (l0_1.length : Int) then (if ((l0_1.length : Int) : Int).toNat ≤ 281474976710656 then ((some (List.replicate ((l0_1.length : Int) : Int).toNat false : List Bool)).bind fun y103 => (if 0 < (y103.length : Int) then (least_Reach.l0 k (y103.set (0 : Int).toNat true) (([0] : List Int)) a0_0 l0_1 l0_2) else (none))) else (none)) else (none)) else (some ([] : List Bool))) = some r := H
 have A2 := Aside0.mk A20
 clear A20
 by_cases c3 : t102 = true
 ·subst c3
  have H1 : (if 0 ≤ (l0_1.length : Int) then (if ((l0_1.length : Int) : Int).toNat ≤ 281474976710656 then ((some (List.replicate ((l0_1.length : Int) : Int).toNat false : List Bool)).bind fun y103 => (if 0 < (y103.length : Int) then (least_Reach.l0 k (y103.set (0 : Int).toNat true) (([0] : List Int)) a0_0 l0_1 l0_2) else (none))) else (none)) else (none)) = some r := by rw [if_pos rfl] at H; exact H
  clear H
  have H := H1
  clear H1
  by_cases c4 : 0 ≤ (l0_1.length : Int)
  ·rw [if_pos c4] at H
   have c4b0 := eq_true c4
   have c4b1 : decide (0 ≤ (l0_1.length : Int)) = true := decide_eq_true c4
   clear c4
   by_cases c5 : ((l0_1.length : Int) : Int).toNat ≤ 281474976710656
   ·rw [if_pos c5] at H
    have c5b0 := eq_true c5
    have c5b1 : decide (((l0_1.length : Int) : Int).toNat ≤ 281474976710656) = true := decide_eq_true c5
    clear c5
    obtain ⟨y103, hy103⟩ : ∃ y_ : List Bool, y_ = (List.replicate ((l0_1.length : Int) : Int).toNat false) := ⟨_, rfl⟩
    replace H : (if 0 < (y103.length : Int) then (least_Reach.l0 k (y103.set (0 : Int).toNat true) (([0] : List Int)) a0_0 l0_1 l0_2) else (none)) = some r := by first | (rw [hy103]; with_reducible exact H) | (have H2_ := (Option.bind_some _ _).symm.trans H; rw [hy103]; with_reducible exact H2_) | (have H2_ := (Option.bind_some _ _).symm.trans H; with_reducible exact H2_) | with_reducible exact H | (rw [hy103]; exact H) | exact H
    have Ny103 := Aside0.mk hy103
    clear hy103
    by_cases c6 : 0 < (y103.length : Int)
    ·rw [if_pos c6] at H
     have c6b0 : decide (0 < (y103.length : Int)) = true := decide_eq_true c6
     have c6b1 : decide (0 < y103.length) = true := decide_eq_true (by omega)
     clear c6
     obtain ⟨y106, hy106⟩ : ∃ y_ : List Bool, y_ = (y103.set (0 : Int).toNat true) := ⟨_, rfl⟩
     replace H : (least_Reach.l0 k y106 (([0] : List Int)) a0_0 l0_1 l0_2) = some r := by first | (rw [hy106]; with_reducible exact H) | (have H2_ := (Option.bind_some _ _).symm.trans H; rw [hy106]; with_reducible exact H2_) | (have H2_ := (Option.bind_some _ _).symm.trans H; with_reducible exact H2_) | with_reducible exact H | (rw [hy106]; exact H) | exact H
     have Ny106 := Aside0.mk hy106
     clear hy106
     obtain ⟨y107, hy107⟩ : ∃ y_ : List Int, y_ = (([0] : List Int)) := ⟨_, rfl⟩
     replace H : (least_Reach.l0 k y106 y107 a0_0 l0_1 l0_2) = some r := by first | (rw [hy107]; with_reducible exact H) | (have H2_ := (Option.bind_some _ _).symm.trans H; rw [hy107]; with_reducible exact H2_) | (have H2_ := (Option.bind_some _ _).symm.trans H; with_reducible exact H2_) | with_reducible exact H | (rw [hy107]; exact H) | exact H
     have Ny107 := Aside0.mk hy107
     clear hy107
     have H' := Aside0.mk H
     clear H
     go_enter Try.func51, Try.ntmps51
     go_wp2_with (first | ((with_reducible refine gate_dst (N := 1) rfl ?_); refine box_event ?hg (N := 1) ?hd (cs := #[.int .i64 a0_0, .slice A0_1 l0_1.length c0_1, .slice A0_2 l0_2.length c0_2]) (t := 25) ?hr ?_; (case hd => rfl); (case hg => rfl); (case hr => first | (go_simp; done) | (go_simp; rfl)); intro gb101 hg w8 hbox hb; have n0_ := Aside0.mk (below_step (by repeat (first | (with_reducible first | exact HB.out | apply below_alloc | apply pw_below_drewN | apply below_drew1) | exact HB.out)) hb); have n1_ := Aside0.mk (hbox); have n2_ := Aside0.mk ((by rw [hg]; exact (below_size (by repeat (first | (with_reducible first | exact HB.out | apply below_alloc | apply pw_below_drewN | apply below_drew1) | exact HB.out))) : w.heap.size ≤ gb101)); have n3_ := Aside0.mk ((by rw [hg]; exact (below_size (by repeat (first | (with_reducible first | exact HB.out | apply below_alloc | apply pw_below_drewN | apply below_drew1) | exact HB.out))) : w.heap.size ≤ gb101)); clear HB; have HB := n0_; have BK101 := n1_; have GW101 := n2_; have GE101 := n3_; clear n0_ n1_ n2_ n3_; clear hb hbox hg; have hcz9_0 : w8.cell? ⟨gb101, 0, none⟩ = some (.int .i64 a0_0) := (blk_cell BK101.out 0).trans rfl; have hcz9_1 : w8.cell? ⟨gb101, 1, none⟩ = some (.slice A0_1 l0_1.length c0_1) := (blk_cell BK101.out 1).trans rfl; have hcz9_2 : w8.cell? ⟨gb101, 2, none⟩ = some (.slice A0_2 l0_2.length c0_2) := (blk_cell BK101.out 2).trans rfl; have hfz9_0 := blk_frozen BK101.out 0; have hfz9_1 := blk_frozen BK101.out 1; have hfz9_2 := blk_frozen BK101.out 2) | (go_at_call 36; (with_reducible refine (thompson_Good.calls a0_0 _ _ l0_1 _ _ l0_2 true _ ?side1 ?side2 ?side3 ?side4 A2.out).mono ?_); (case side1 => repeat (first | exact (Kd.C_below HR0_1.out HB.out) | (with_reducible refine Kd.C_alloc ?_ _) | (with_reducible refine Kd.C_drewN ?_ _) | (with_reducible refine Kd.C_drew ?_))); (case side2 => exact HC0_1.out); (case side3 => repeat (first | exact (Kd.C_below HR0_2.out HB.out) | (with_reducible refine Kd.C_alloc ?_ _) | (with_reducible refine Kd.C_drewN ?_ _) | (with_reducible refine Kd.C_drew ?_))); (case side4 => exact HC0_2.out); rintro e w10 ⟨rfl, hb⟩; have n0_ := Aside0.mk (blk_below (g := gb101) (o := .cells #[.int .i64 a0_0, .slice A0_1 l0_1.length c0_1, .slice A0_2 l0_2.length c0_2] 25 (0, 0)) (by (with_reducible repeat (first | refine blk_drewN ?_ _ | refine blk_drew ?_ | refine blk_alloc ?_ _)); exact BK101.out) hb); have n1_ := Aside0.mk (below_step (by repeat (first | (with_reducible first | exact HB.out | apply below_alloc | apply pw_below_drewN | apply below_drew1 | refine below_set ?_ GE101.out) | exact HB.out)) hb); clear BK101; clear HB; have BK101 := n0_; have HB := n1_; clear n0_ n1_; (try clear hb); (try clear hb2); (try clear hk); (try clear hi); have hcz11_0 : w10.cell? ⟨gb101, 0, none⟩ = some (.int .i64 a0_0) := (blk_cell BK101.out 0).trans rfl; have hcz11_1 : w10.cell? ⟨gb101, 1, none⟩ = some (.slice A0_1 l0_1.length c0_1) := (blk_cell BK101.out 1).trans rfl; have hcz11_2 : w10.cell? ⟨gb101, 2, none⟩ = some (.slice A0_2 l0_2.length c0_2) := (blk_cell BK101.out 2).trans rfl; have hfz11_0 := blk_frozen BK101.out 0; have hfz11_1 := blk_frozen BK101.out 1; have hfz11_2 := blk_frozen BK101.out 2) | ((with_reducible refine gate_dst (N := 13) rfl ?_); refine Kd.R_make Kd.bool _ 4 rfl (N := 13) rfl 23 _ _ rfl (l0_1.length : Int) rfl rfl Try.underlying23 (.bool false) 1 info4 rfl (by decide) (by omega) false (ok := fun _ => True) (okp := fun _ => True) rfl (fun _ hk => hk) trivial (of_decide_eq_true (by first | (with_reducible assumption) | assumption)) (Nat.le_trans (Nat.mul_le_mul_right _ (of_decide_eq_true (by first | (with_reducible assumption) | assumption) : (l0_1.length : Int).toNat ≤ 281474976710656)) (by omega)) (Below.refl _ _) (Nat.le_refl _) ?_; intro v104 w12 ho13 hb hg_ hnew_; clear hg_ hnew_; (first | rw [← Ny103.out] at ho13 | (simp only [Int.reduceToNat] at ho13; rw [← Ny103.out] at ho13)); have n0_ := Aside0.mk (Kd.R_lower ho13 (below_size (by repeat (first | (with_reducible first | exact HB.out | apply below_alloc | apply pw_below_drewN | apply below_drew1 | refine below_set ?_ GE101.out) | exact HB.out)))); have n1_ := Aside0.mk (blk_below (g := gb101) (o := .cells #[.int .i64 a0_0, .slice A0_1 l0_1.length c0_1, .slice A0_2 l0_2.length c0_2] 25 (0, 0)) (by (with_reducible repeat (first | refine blk_drewN ?_ _ | refine blk_drew ?_ | refine blk_alloc ?_ _)); exact BK101.out) hb); have n2_ := Aside0.mk (below_step (by repeat (first | (with_reducible first | exact HB.out | apply below_alloc | apply pw_below_drewN | apply below_drew1 | refine below_set ?_ GE101.out) | exact HB.out)) hb); clear BK101; clear HB; have HO105 := n0_; have BK101 := n1_; have HB := n2_; clear n0_ n1_ n2_; clear hb ho13; have p7 : 0 ≤ (0 : Int) := (by omega); have q7 : (0 : Int) < ((y103.length : Int) : Int) := of_decide_eq_true (by first | (with_reducible assumption) | assumption); have qi7 : (0 < y103.length) = True := eq_true (by omega); obtain ⟨go7, co7, eo7, gb7, gl7, cl7, HG7⟩ := Kd.R_form HO105.out (by omega); (first | cases eo7 | (injection eo7 with ea_ en_ ec_; (first | subst ea_ | (injection ea_ with ea_; subst ea_)); subst ec_; clear en_)); have GB7 := Aside0.mk gb7; have GG7 := Aside0.mk HG7; clear gb7 gl7 HG7; obtain ⟨hx7_0, hf7_0⟩ := Kd.R_celln false HO105.out (0 : Int) p7 q7; (try rw [show ((0 : Int)).toNat = 0 from rfl] at hx7_0); (try simp only [Nat.reduceMul, Nat.zero_mul, Nat.zero_add, Nat.reduceAdd] at hx7_0); (try rw [show ((0 : Int)).toNat = 0 from rfl] at hf7_0); (try simp only [Nat.reduceMul, Nat.zero_mul, Nat.zero_add, Nat.reduceAdd] at hf7_0); replace p7 := eq_true p7; replace q7 := eq_true q7; obtain ⟨hy14_, hz14_⟩ := Kd.R_celln false HO105.out (0 : Int) (by omega) (of_decide_eq_true (by first | (with_reducible assumption) | assumption)); (try simp only [Int.reduceToNat, Int.toNat_zero, Int.toNat_ofNat, Nat.reduceMul, Nat.zero_mul, Nat.zero_add] at hy14_ hz14_); (try rw [show ((0 : Int)).toNat = 0 from rfl] at hy14_); (try rw [show ((0 : Int)).toNat = 0 from rfl] at hz14_); have HP14 := Kd.R_putg HO105.out (0 : Int) true) | ((with_reducible refine gate_store (t := 4) (p := 15) rfl ?_); (try (rw [drewN_self w12]; generalize hq_ : World.drewN w12 _ = w12; have n0_ := Aside0.mk (Kd.R_at hq_ HO105.out); have n1_ := Aside0.mk (blk_at hq_ BK101.out); have n2_ := Aside0.mk (below_at hq_ HB.out); clear hq_ HO105 BK101 HB; have HO105 := n0_; have BK101 := n1_; have HB := n2_; clear n0_ n1_ n2_; (try (obtain ⟨hy14_, hz14_⟩ := Kd.R_celln false HO105.out (0 : Int) (by omega) (of_decide_eq_true (by first | (with_reducible assumption) | assumption)))); (try (try simp only [Int.reduceToNat, Int.toNat_zero, Int.toNat_ofNat, Nat.reduceMul, Nat.zero_mul, Nat.zero_add] at hy14_ hz14_)); (try (try rw [show ((0 : Int)).toNat = 0 from rfl] at hy14_)); (try (try rw [show ((0 : Int)).toNat = 0 from rfl] at hz14_)); (try (have HP14 := Kd.R_putg HO105.out (0 : Int) true)))); refine store_event (t := 4) (p := 15) (v := ?vo_w15) (w1 := (w12.setCell ⟨go7, (0 : Int).toNat, none⟩ (.bool true))) ?hg ?ho ?hn ?hr ?_; (case ho => rfl); (case hg => rfl); (case hn => rfl); (case hr => first | (go_simp; done) | (go_simp; rfl)); intro w15 hw; have hg : w12.grownBy w15 (some go7) := (by rw [hw]; exact HP14.2); have hp_ : Kd.R Kd.bool 4 w15 w.heap.size (fun _ => True) (.slice (some ⟨go7, 0, none⟩) y103.length co7) y106 := (by rw [hw, Ny106.out]; exact HP14.1); clear HP14; have n0_ := Aside0.mk (blk_grown (g := gb101) (o := .cells #[.int .i64 a0_0, .slice A0_1 l0_1.length c0_1, .slice A0_2 l0_2.length c0_2] 25 (0, 0)) (by (with_reducible repeat (first | refine blk_drewN ?_ _ | refine blk_drew ?_ | refine blk_alloc ?_ _)); exact BK101.out) hg (Kd.R_ne HO105.out BK101.out (by decide))); have n1_ := Aside0.mk (hp_); have n2_ := Aside0.mk ((by rw [hw]; exact below_set (HB.out) GB7.out : Below w.heap.size w w15)); clear BK101; clear HO105; clear HB; have BK101 := n0_; have HO105 := n1_; have HB := n2_; clear n0_ n1_ n2_; clear hg hw hp_) | ((with_reducible refine gate_dst (N := 16) rfl ?_); refine Kd.R_lit (Kd.int .i64) _ 3 ?hg (N := 16) ?hd (xs := ([0] : List Int)) (inner := [.int .i64 0]) (ok := fun _ => True) (okp := fun _ => True) ?hr ?hp (fun _ hk => hk) trivial (Below.refl _ _) (Nat.le_refl _) (by simp) ?_; (case hd => rfl); (case hg => rfl); (case hr => first | (go_simp; done) | (go_simp; rfl)); (case hp => exact (Reps.one (show Kd.M (Kd.int .i64) _ _ _ 0 [.int .i64 0] from rfl) (Reps.none _ _))); intro v108 w16 ho17 hb hg_ hnew_; clear hg_ hnew_; (first | rw [← Ny107.out] at ho17 | (simp only [Int.reduceToNat] at ho17; rw [← Ny107.out] at ho17)); have n0_ := Aside0.mk (Kd.R_below (by (with_reducible repeat (first | apply Kd.R_alloc | apply Kd.R_drewN | apply Kd.R_drew)); exact HO105.out) hb); have n1_ := Aside0.mk (Kd.R_lower ho17 (below_size (by repeat (first | (with_reducible first | exact HB.out | apply below_alloc | apply pw_below_drewN | apply below_drew1 | refine below_set ?_ GE101.out) | exact HB.out)))); have n2_ := Aside0.mk (blk_below (g := gb101) (o := .cells #[.int .i64 a0_0, .slice A0_1 l0_1.length c0_1, .slice A0_2 l0_2.length c0_2] 25 (0, 0)) (by (with_reducible repeat (first | refine blk_drewN ?_ _ | refine blk_drew ?_ | refine blk_alloc ?_ _)); exact BK101.out) hb); have n3_ := Aside0.mk (below_step (by repeat (first | (with_reducible first | exact HB.out | apply below_alloc | apply pw_below_drewN | apply below_drew1 | refine below_set ?_ GE101.out) | exact HB.out)) hb); clear HO105; clear BK101; clear HB; have HO105 := n0_; have HO109 := n1_; have BK101 := n2_; have HB := n3_; clear n0_ n1_ n2_ n3_; clear hb ho17))
     repeat (go_quiet (first | ((with_reducible refine gate_dst (N := 1) rfl ?_); refine box_event ?hg (N := 1) ?hd (cs := #[.int .i64 a0_0, .slice A0_1 l0_1.length c0_1, .slice A0_2 l0_2.length c0_2]) (t := 25) ?hr ?_; (case hd => rfl); (case hg => rfl); (case hr => first | (go_simp; done) | (go_simp; rfl)); intro gb101 hg w8 hbox hb; have n0_ := Aside0.mk (below_step (by repeat (first | (with_reducible first | exact HB.out | apply below_alloc | apply pw_below_drewN | apply below_drew1) | exact HB.out)) hb); have n1_ := Aside0.mk (hbox); have n2_ := Aside0.mk ((by rw [hg]; exact (below_size (by repeat (first | (with_reducible first | exact HB.out | apply below_alloc | apply pw_below_drewN | apply below_drew1) | exact HB.out))) : w.heap.size ≤ gb101)); have n3_ := Aside0.mk ((by rw [hg]; exact (below_size (by repeat (first | (with_reducible first | exact HB.out | apply below_alloc | apply pw_below_drewN | apply below_drew1) | exact HB.out))) : w.heap.size ≤ gb101)); clear HB; have HB := n0_; have BK101 := n1_; have GW101 := n2_; have GE101 := n3_; clear n0_ n1_ n2_ n3_; clear hb hbox hg; have hcz9_0 : w8.cell? ⟨gb101, 0, none⟩ = some (.int .i64 a0_0) := (blk_cell BK101.out 0).trans rfl; have hcz9_1 : w8.cell? ⟨gb101, 1, none⟩ = some (.slice A0_1 l0_1.length c0_1) := (blk_cell BK101.out 1).trans rfl; have hcz9_2 : w8.cell? ⟨gb101, 2, none⟩ = some (.slice A0_2 l0_2.length c0_2) := (blk_cell BK101.out 2).trans rfl; have hfz9_0 := blk_frozen BK101.out 0; have hfz9_1 := blk_frozen BK101.out 1; have hfz9_2 := blk_frozen BK101.out 2) | (go_at_call 36; (with_reducible refine (thompson_Good.calls a0_0 _ _ l0_1 _ _ l0_2 true _ ?side1 ?side2 ?side3 ?side4 A2.out).mono ?_); (case side1 => repeat (first | exact (Kd.C_below HR0_1.out HB.out) | (with_reducible refine Kd.C_alloc ?_ _) | (with_reducible refine Kd.C_drewN ?_ _) | (with_reducible refine Kd.C_drew ?_))); (case side2 => exact HC0_1.out); (case side3 => repeat (first | exact (Kd.C_below HR0_2.out HB.out) | (with_reducible refine Kd.C_alloc ?_ _) | (with_reducible refine Kd.C_drewN ?_ _) | (with_reducible refine Kd.C_drew ?_))); (case side4 => exact HC0_2.out); rintro e w10 ⟨rfl, hb⟩; have n0_ := Aside0.mk (blk_below (g := gb101) (o := .cells #[.int .i64 a0_0, .slice A0_1 l0_1.length c0_1, .slice A0_2 l0_2.length c0_2] 25 (0, 0)) (by (with_reducible repeat (first | refine blk_drewN ?_ _ | refine blk_drew ?_ | refine blk_alloc ?_ _)); exact BK101.out) hb); have n1_ := Aside0.mk (below_step (by repeat (first | (with_reducible first | exact HB.out | apply below_alloc | apply pw_below_drewN | apply below_drew1 | refine below_set ?_ GE101.out) | exact HB.out)) hb); clear BK101; clear HB; have BK101 := n0_; have HB := n1_; clear n0_ n1_; (try clear hb); (try clear hb2); (try clear hk); (try clear hi); have hcz11_0 : w10.cell? ⟨gb101, 0, none⟩ = some (.int .i64 a0_0) := (blk_cell BK101.out 0).trans rfl; have hcz11_1 : w10.cell? ⟨gb101, 1, none⟩ = some (.slice A0_1 l0_1.length c0_1) := (blk_cell BK101.out 1).trans rfl; have hcz11_2 : w10.cell? ⟨gb101, 2, none⟩ = some (.slice A0_2 l0_2.length c0_2) := (blk_cell BK101.out 2).trans rfl; have hfz11_0 := blk_frozen BK101.out 0; have hfz11_1 := blk_frozen BK101.out 1; have hfz11_2 := blk_frozen BK101.out 2) | ((with_reducible refine gate_dst (N := 13) rfl ?_); refine Kd.R_make Kd.bool _ 4 rfl (N := 13) rfl 23 _ _ rfl (l0_1.length : Int) rfl rfl Try.underlying23 (.bool false) 1 info4 rfl (by decide) (by omega) false (ok := fun _ => True) (okp := fun _ => True) rfl (fun _ hk => hk) trivial (of_decide_eq_true (by first | (with_reducible assumption) | assumption)) (Nat.le_trans (Nat.mul_le_mul_right _ (of_decide_eq_true (by first | (with_reducible assumption) | assumption) : (l0_1.length : Int).toNat ≤ 281474976710656)) (by omega)) (Below.refl _ _) (Nat.le_refl _) ?_; intro v104 w12 ho13 hb hg_ hnew_; clear hg_ hnew_; (first | rw [← Ny103.out] at ho13 | (simp only [Int.reduceToNat] at ho13; rw [← Ny103.out] at ho13)); have n0_ := Aside0.mk (Kd.R_lower ho13 (below_size (by repeat (first | (with_reducible first | exact HB.out | apply below_alloc | apply pw_below_drewN | apply below_drew1 | refine below_set ?_ GE101.out) | exact HB.out)))); have n1_ := Aside0.mk (blk_below (g := gb101) (o := .cells #[.int .i64 a0_0, .slice A0_1 l0_1.length c0_1, .slice A0_2 l0_2.length c0_2] 25 (0, 0)) (by (with_reducible repeat (first | refine blk_drewN ?_ _ | refine blk_drew ?_ | refine blk_alloc ?_ _)); exact BK101.out) hb); have n2_ := Aside0.mk (below_step (by repeat (first | (with_reducible first | exact HB.out | apply below_alloc | apply pw_below_drewN | apply below_drew1 | refine below_set ?_ GE101.out) | exact HB.out)) hb); clear BK101; clear HB; have HO105 := n0_; have BK101 := n1_; have HB := n2_; clear n0_ n1_ n2_; clear hb ho13; have p7 : 0 ≤ (0 : Int) := (by omega); have q7 : (0 : Int) < ((y103.length : Int) : Int) := of_decide_eq_true (by first | (with_reducible assumption) | assumption); have qi7 : (0 < y103.length) = True := eq_true (by omega); obtain ⟨go7, co7, eo7, gb7, gl7, cl7, HG7⟩ := Kd.R_form HO105.out (by omega); (first | cases eo7 | (injection eo7 with ea_ en_ ec_; (first | subst ea_ | (injection ea_ with ea_; subst ea_)); subst ec_; clear en_)); have GB7 := Aside0.mk gb7; have GG7 := Aside0.mk HG7; clear gb7 gl7 HG7; obtain ⟨hx7_0, hf7_0⟩ := Kd.R_celln false HO105.out (0 : Int) p7 q7; (try rw [show ((0 : Int)).toNat = 0 from rfl] at hx7_0); (try simp only [Nat.reduceMul, Nat.zero_mul, Nat.zero_add, Nat.reduceAdd] at hx7_0); (try rw [show ((0 : Int)).toNat = 0 from rfl] at hf7_0); (try simp only [Nat.reduceMul, Nat.zero_mul, Nat.zero_add, Nat.reduceAdd] at hf7_0); replace p7 := eq_true p7; replace q7 := eq_true q7; obtain ⟨hy14_, hz14_⟩ := Kd.R_celln false HO105.out (0 : Int) (by omega) (of_decide_eq_true (by first | (with_reducible assumption) | assumption)); (try simp only [Int.reduceToNat, Int.toNat_zero, Int.toNat_ofNat, Nat.reduceMul, Nat.zero_mul, Nat.zero_add] at hy14_ hz14_); (try rw [show ((0 : Int)).toNat = 0 from rfl] at hy14_); (try rw [show ((0 : Int)).toNat = 0 from rfl] at hz14_); have HP14 := Kd.R_putg HO105.out (0 : Int) true) | ((with_reducible refine gate_store (t := 4) (p := 15) rfl ?_); (try (rw [drewN_self w12]; generalize hq_ : World.drewN w12 _ = w12; have n0_ := Aside0.mk (Kd.R_at hq_ HO105.out); have n1_ := Aside0.mk (blk_at hq_ BK101.out); have n2_ := Aside0.mk (below_at hq_ HB.out); clear hq_ HO105 BK101 HB; have HO105 := n0_; have BK101 := n1_; have HB := n2_; clear n0_ n1_ n2_; (try (obtain ⟨hy14_, hz14_⟩ := Kd.R_celln false HO105.out (0 : Int) (by omega) (of_decide_eq_true (by first | (with_reducible assumption) | assumption)))); (try (try simp only [Int.reduceToNat, Int.toNat_zero, Int.toNat_ofNat, Nat.reduceMul, Nat.zero_mul, Nat.zero_add] at hy14_ hz14_)); (try (try rw [show ((0 : Int)).toNat = 0 from rfl] at hy14_)); (try (try rw [show ((0 : Int)).toNat = 0 from rfl] at hz14_)); (try (have HP14 := Kd.R_putg HO105.out (0 : Int) true)))); refine store_event (t := 4) (p := 15) (v := ?vo_w15) (w1 := (w12.setCell ⟨go7, (0 : Int).toNat, none⟩ (.bool true))) ?hg ?ho ?hn ?hr ?_; (case ho => rfl); (case hg => rfl); (case hn => rfl); (case hr => first | (go_simp; done) | (go_simp; rfl)); intro w15 hw; have hg : w12.grownBy w15 (some go7) := (by rw [hw]; exact HP14.2); have hp_ : Kd.R Kd.bool 4 w15 w.heap.size (fun _ => True) (.slice (some ⟨go7, 0, none⟩) y103.length co7) y106 := (by rw [hw, Ny106.out]; exact HP14.1); clear HP14; have n0_ := Aside0.mk (blk_grown (g := gb101) (o := .cells #[.int .i64 a0_0, .slice A0_1 l0_1.length c0_1, .slice A0_2 l0_2.length c0_2] 25 (0, 0)) (by (with_reducible repeat (first | refine blk_drewN ?_ _ | refine blk_drew ?_ | refine blk_alloc ?_ _)); exact BK101.out) hg (Kd.R_ne HO105.out BK101.out (by decide))); have n1_ := Aside0.mk (hp_); have n2_ := Aside0.mk ((by rw [hw]; exact below_set (HB.out) GB7.out : Below w.heap.size w w15)); clear BK101; clear HO105; clear HB; have BK101 := n0_; have HO105 := n1_; have HB := n2_; clear n0_ n1_ n2_; clear hg hw hp_) | ((with_reducible refine gate_dst (N := 16) rfl ?_); refine Kd.R_lit (Kd.int .i64) _ 3 ?hg (N := 16) ?hd (xs := ([0] : List Int)) (inner := [.int .i64 0]) (ok := fun _ => True) (okp := fun _ => True) ?hr ?hp (fun _ hk => hk) trivial (Below.refl _ _) (Nat.le_refl _) (by simp) ?_; (case hd => rfl); (case hg => rfl); (case hr => first | (go_simp; done) | (go_simp; rfl)); (case hp => exact (Reps.one (show Kd.M (Kd.int .i64) _ _ _ 0 [.int .i64 0] from rfl) (Reps.none _ _))); intro v108 w16 ho17 hb hg_ hnew_; clear hg_ hnew_; (first | rw [← Ny107.out] at ho17 | (simp only [Int.reduceToNat] at ho17; rw [← Ny107.out] at ho17)); have n0_ := Aside0.mk (Kd.R_below (by (with_reducible repeat (first | apply Kd.R_alloc | apply Kd.R_drewN | apply Kd.R_drew)); exact HO105.out) hb); have n1_ := Aside0.mk (Kd.R_lower ho17 (below_size (by repeat (first | (with_reducible first | exact HB.out | apply below_alloc | apply pw_below_drewN | apply below_drew1 | refine below_set ?_ GE101.out) | exact HB.out)))); have n2_ := Aside0.mk (blk_below (g := gb101) (o := .cells #[.int .i64 a0_0, .slice A0_1 l0_1.length c0_1, .slice A0_2 l0_2.length c0_2] 25 (0, 0)) (by (with_reducible repeat (first | refine blk_drewN ?_ _ | refine blk_drew ?_ | refine blk_alloc ?_ _)); exact BK101.out) hb); have n3_ := Aside0.mk (below_step (by repeat (first | (with_reducible first | exact HB.out | apply below_alloc | apply pw_below_drewN | apply below_drew1 | refine below_set ?_ GE101.out) | exact HB.out)) hb); clear HO105; clear BK101; clear HB; have HO105 := n0_; have HO109 := n1_; have BK101 := n2_; have HB := n3_; clear n0_ n1_ n2_ n3_; clear hb ho17)); try go_wp2_with (first | ((with_reducible refine gate_dst (N := 1) rfl ?_); refine box_event ?hg (N := 1) ?hd (cs := #[.int .i64 a0_0, .slice A0_1 l0_1.length c0_1, .slice A0_2 l0_2.length c0_2]) (t := 25) ?hr ?_; (case hd => rfl); (case hg => rfl); (case hr => first | (go_simp; done) | (go_simp; rfl)); intro gb101 hg w8 hbox hb; have n0_ := Aside0.mk (below_step (by repeat (first | (with_reducible first | exact HB.out | apply below_alloc | apply pw_below_drewN | apply below_drew1) | exact HB.out)) hb); have n1_ := Aside0.mk (hbox); have n2_ := Aside0.mk ((by rw [hg]; exact (below_size (by repeat (first | (with_reducible first | exact HB.out | apply below_alloc | apply pw_below_drewN | apply below_drew1) | exact HB.out))) : w.heap.size ≤ gb101)); have n3_ := Aside0.mk ((by rw [hg]; exact (below_size (by repeat (first | (with_reducible first | exact HB.out | apply below_alloc | apply pw_below_drewN | apply below_drew1) | exact HB.out))) : w.heap.size ≤ gb101)); clear HB; have HB := n0_; have BK101 := n1_; have GW101 := n2_; have GE101 := n3_; clear n0_ n1_ n2_ n3_; clear hb hbox hg; have hcz9_0 : w8.cell? ⟨gb101, 0, none⟩ = some (.int .i64 a0_0) := (blk_cell BK101.out 0).trans rfl; have hcz9_1 : w8.cell? ⟨gb101, 1, none⟩ = some (.slice A0_1 l0_1.length c0_1) := (blk_cell BK101.out 1).trans rfl; have hcz9_2 : w8.cell? ⟨gb101, 2, none⟩ = some (.slice A0_2 l0_2.length c0_2) := (blk_cell BK101.out 2).trans rfl; have hfz9_0 := blk_frozen BK101.out 0; have hfz9_1 := blk_frozen BK101.out 1; have hfz9_2 := blk_frozen BK101.out 2) | (go_at_call 36; (with_reducible refine (thompson_Good.calls a0_0 _ _ l0_1 _ _ l0_2 true _ ?side1 ?side2 ?side3 ?side4 A2.out).mono ?_); (case side1 => repeat (first | exact (Kd.C_below HR0_1.out HB.out) | (with_reducible refine Kd.C_alloc ?_ _) | (with_reducible refine Kd.C_drewN ?_ _) | (with_reducible refine Kd.C_drew ?_))); (case side2 => exact HC0_1.out); (case side3 => repeat (first | exact (Kd.C_below HR0_2.out HB.out) | (with_reducible refine Kd.C_alloc ?_ _) | (with_reducible refine Kd.C_drewN ?_ _) | (with_reducible refine Kd.C_drew ?_))); (case side4 => exact HC0_2.out); rintro e w10 ⟨rfl, hb⟩; have n0_ := Aside0.mk (blk_below (g := gb101) (o := .cells #[.int .i64 a0_0, .slice A0_1 l0_1.length c0_1, .slice A0_2 l0_2.length c0_2] 25 (0, 0)) (by (with_reducible repeat (first | refine blk_drewN ?_ _ | refine blk_drew ?_ | refine blk_alloc ?_ _)); exact BK101.out) hb); have n1_ := Aside0.mk (below_step (by repeat (first | (with_reducible first | exact HB.out | apply below_alloc | apply pw_below_drewN | apply below_drew1 | refine below_set ?_ GE101.out) | exact HB.out)) hb); clear BK101; clear HB; have BK101 := n0_; have HB := n1_; clear n0_ n1_; (try clear hb); (try clear hb2); (try clear hk); (try clear hi); have hcz11_0 : w10.cell? ⟨gb101, 0, none⟩ = some (.int .i64 a0_0) := (blk_cell BK101.out 0).trans rfl; have hcz11_1 : w10.cell? ⟨gb101, 1, none⟩ = some (.slice A0_1 l0_1.length c0_1) := (blk_cell BK101.out 1).trans rfl; have hcz11_2 : w10.cell? ⟨gb101, 2, none⟩ = some (.slice A0_2 l0_2.length c0_2) := (blk_cell BK101.out 2).trans rfl; have hfz11_0 := blk_frozen BK101.out 0; have hfz11_1 := blk_frozen BK101.out 1; have hfz11_2 := blk_frozen BK101.out 2) | ((with_reducible refine gate_dst (N := 13) rfl ?_); refine Kd.R_make Kd.bool _ 4 rfl (N := 13) rfl 23 _ _ rfl (l0_1.length : Int) rfl rfl Try.underlying23 (.bool false) 1 info4 rfl (by decide) (by omega) false (ok := fun _ => True) (okp := fun _ => True) rfl (fun _ hk => hk) trivial (of_decide_eq_true (by first | (with_reducible assumption) | assumption)) (Nat.le_trans (Nat.mul_le_mul_right _ (of_decide_eq_true (by first | (with_reducible assumption) | assumption) : (l0_1.length : Int).toNat ≤ 281474976710656)) (by omega)) (Below.refl _ _) (Nat.le_refl _) ?_; intro v104 w12 ho13 hb hg_ hnew_; clear hg_ hnew_; (first | rw [← Ny103.out] at ho13 | (simp only [Int.reduceToNat] at ho13; rw [← Ny103.out] at ho13)); have n0_ := Aside0.mk (Kd.R_lower ho13 (below_size (by repeat (first | (with_reducible first | exact HB.out | apply below_alloc | apply pw_below_drewN | apply below_drew1 | refine below_set ?_ GE101.out) | exact HB.out)))); have n1_ := Aside0.mk (blk_below (g := gb101) (o := .cells #[.int .i64 a0_0, .slice A0_1 l0_1.length c0_1, .slice A0_2 l0_2.length c0_2] 25 (0, 0)) (by (with_reducible repeat (first | refine blk_drewN ?_ _ | refine blk_drew ?_ | refine blk_alloc ?_ _)); exact BK101.out) hb); have n2_ := Aside0.mk (below_step (by repeat (first | (with_reducible first | exact HB.out | apply below_alloc | apply pw_below_drewN | apply below_drew1 | refine below_set ?_ GE101.out) | exact HB.out)) hb); clear BK101; clear HB; have HO105 := n0_; have BK101 := n1_; have HB := n2_; clear n0_ n1_ n2_; clear hb ho13; have p7 : 0 ≤ (0 : Int) := (by omega); have q7 : (0 : Int) < ((y103.length : Int) : Int) := of_decide_eq_true (by first | (with_reducible assumption) | assumption); have qi7 : (0 < y103.length) = True := eq_true (by omega); obtain ⟨go7, co7, eo7, gb7, gl7, cl7, HG7⟩ := Kd.R_form HO105.out (by omega); (first | cases eo7 | (injection eo7 with ea_ en_ ec_; (first | subst ea_ | (injection ea_ with ea_; subst ea_)); subst ec_; clear en_)); have GB7 := Aside0.mk gb7; have GG7 := Aside0.mk HG7; clear gb7 gl7 HG7; obtain ⟨hx7_0, hf7_0⟩ := Kd.R_celln false HO105.out (0 : Int) p7 q7; (try rw [show ((0 : Int)).toNat = 0 from rfl] at hx7_0); (try simp only [Nat.reduceMul, Nat.zero_mul, Nat.zero_add, Nat.reduceAdd] at hx7_0); (try rw [show ((0 : Int)).toNat = 0 from rfl] at hf7_0); (try simp only [Nat.reduceMul, Nat.zero_mul, Nat.zero_add, Nat.reduceAdd] at hf7_0); replace p7 := eq_true p7; replace q7 := eq_true q7; obtain ⟨hy14_, hz14_⟩ := Kd.R_celln false HO105.out (0 : Int) (by omega) (of_decide_eq_true (by first | (with_reducible assumption) | assumption)); (try simp only [Int.reduceToNat, Int.toNat_zero, Int.toNat_ofNat, Nat.reduceMul, Nat.zero_mul, Nat.zero_add] at hy14_ hz14_); (try rw [show ((0 : Int)).toNat = 0 from rfl] at hy14_); (try rw [show ((0 : Int)).toNat = 0 from rfl] at hz14_); have HP14 := Kd.R_putg HO105.out (0 : Int) true) | ((with_reducible refine gate_store (t := 4) (p := 15) rfl ?_); (try (rw [drewN_self w12]; generalize hq_ : World.drewN w12 _ = w12; have n0_ := Aside0.mk (Kd.R_at hq_ HO105.out); have n1_ := Aside0.mk (blk_at hq_ BK101.out); have n2_ := Aside0.mk (below_at hq_ HB.out); clear hq_ HO105 BK101 HB; have HO105 := n0_; have BK101 := n1_; have HB := n2_; clear n0_ n1_ n2_; (try (obtain ⟨hy14_, hz14_⟩ := Kd.R_celln false HO105.out (0 : Int) (by omega) (of_decide_eq_true (by first | (with_reducible assumption) | assumption)))); (try (try simp only [Int.reduceToNat, Int.toNat_zero, Int.toNat_ofNat, Nat.reduceMul, Nat.zero_mul, Nat.zero_add] at hy14_ hz14_)); (try (try rw [show ((0 : Int)).toNat = 0 from rfl] at hy14_)); (try (try rw [show ((0 : Int)).toNat = 0 from rfl] at hz14_)); (try (have HP14 := Kd.R_putg HO105.out (0 : Int) true)))); refine store_event (t := 4) (p := 15) (v := ?vo_w15) (w1 := (w12.setCell ⟨go7, (0 : Int).toNat, none⟩ (.bool true))) ?hg ?ho ?hn ?hr ?_; (case ho => rfl); (case hg => rfl); (case hn => rfl); (case hr => first | (go_simp; done) | (go_simp; rfl)); intro w15 hw; have hg : w12.grownBy w15 (some go7) := (by rw [hw]; exact HP14.2); have hp_ : Kd.R Kd.bool 4 w15 w.heap.size (fun _ => True) (.slice (some ⟨go7, 0, none⟩) y103.length co7) y106 := (by rw [hw, Ny106.out]; exact HP14.1); clear HP14; have n0_ := Aside0.mk (blk_grown (g := gb101) (o := .cells #[.int .i64 a0_0, .slice A0_1 l0_1.length c0_1, .slice A0_2 l0_2.length c0_2] 25 (0, 0)) (by (with_reducible repeat (first | refine blk_drewN ?_ _ | refine blk_drew ?_ | refine blk_alloc ?_ _)); exact BK101.out) hg (Kd.R_ne HO105.out BK101.out (by decide))); have n1_ := Aside0.mk (hp_); have n2_ := Aside0.mk ((by rw [hw]; exact below_set (HB.out) GB7.out : Below w.heap.size w w15)); clear BK101; clear HO105; clear HB; have BK101 := n0_; have HO105 := n1_; have HB := n2_; clear n0_ n1_ n2_; clear hg hw hp_) | ((with_reducible refine gate_dst (N := 16) rfl ?_); refine Kd.R_lit (Kd.int .i64) _ 3 ?hg (N := 16) ?hd (xs := ([0] : List Int)) (inner := [.int .i64 0]) (ok := fun _ => True) (okp := fun _ => True) ?hr ?hp (fun _ hk => hk) trivial (Below.refl _ _) (Nat.le_refl _) (by simp) ?_; (case hd => rfl); (case hg => rfl); (case hr => first | (go_simp; done) | (go_simp; rfl)); (case hp => exact (Reps.one (show Kd.M (Kd.int .i64) _ _ _ 0 [.int .i64 0] from rfl) (Reps.none _ _))); intro v108 w16 ho17 hb hg_ hnew_; clear hg_ hnew_; (first | rw [← Ny107.out] at ho17 | (simp only [Int.reduceToNat] at ho17; rw [← Ny107.out] at ho17)); have n0_ := Aside0.mk (Kd.R_below (by (with_reducible repeat (first | apply Kd.R_alloc | apply Kd.R_drewN | apply Kd.R_drew)); exact HO105.out) hb); have n1_ := Aside0.mk (Kd.R_lower ho17 (below_size (by repeat (first | (with_reducible first | exact HB.out | apply below_alloc | apply pw_below_drewN | apply below_drew1 | refine below_set ?_ GE101.out) | exact HB.out)))); have n2_ := Aside0.mk (blk_below (g := gb101) (o := .cells #[.int .i64 a0_0, .slice A0_1 l0_1.length c0_1, .slice A0_2 l0_2.length c0_2] 25 (0, 0)) (by (with_reducible repeat (first | refine blk_drewN ?_ _ | refine blk_drew ?_ | refine blk_alloc ?_ _)); exact BK101.out) hb); have n3_ := Aside0.mk (below_step (by repeat (first | (with_reducible first | exact HB.out | apply below_alloc | apply pw_below_drewN | apply below_drew1 | refine below_set ?_ GE101.out) | exact HB.out)) hb); clear HO105; clear BK101; clear HB; have HO105 := n0_; have HO109 := n1_; have BK101 := n2_; have HB := n3_; clear n0_ n1_ n2_ n3_; clear hb ho17)))
     go_loopg [4] k (fun kq v4 w' => ∃ (x3_1 : List Bool) (x4_1 : List Int), Aside0 (least_Reach.l0 kq x3_1 x4_1 a0_0 l0_1 l0_2 = some r) ∧ Aside0 (kq ≤ k) ∧ Aside0 (Kd.R Kd.bool 4 w' w.heap.size (fun _ => True) (.slice (some ⟨go7, 0, none⟩) y103.length co7) x3_1) ∧ Aside0 (Kd.Q (Kd.int .i64) 3 w' w.heap.size (fun _ => True) v4 x4_1) ∧ Aside0 (w'.heap[gb101]? = some (.cells #[.int .i64 a0_0, (.slice A0_1 l0_1.length c0_1), (.slice A0_2 l0_2.length c0_2)] 25 (0, 0))) ∧ Aside0 (Below w.heap.size w w'))
     case atStart => exact ⟨(y106), (y107), H', ⟨Nat.le_refl _⟩, ⟨by (with_reducible repeat (first | apply Kd.R_alloc | apply Kd.R_drewN | apply Kd.R_drew)); exact HO105.out⟩, ⟨Kd.Q_of_R (by (with_reducible repeat (first | apply Kd.R_alloc | apply Kd.R_drewN | apply Kd.R_drew)); exact HO109.out)⟩, ⟨by (with_reducible repeat (first | refine blk_drewN ?_ _ | refine blk_drew ?_ | refine blk_alloc ?_ _)); exact BK101.out⟩, ⟨by repeat (first | (with_reducible first | exact HB.out | apply below_alloc | apply pw_below_drewN | apply below_drew1 | refine below_set ?_ GE101.out) | exact HB.out)⟩⟩
     case round =>
      clear H'
      try clear p2
      try clear c3
      try clear c4
      try clear c4b0
      try clear c4b1
      try clear c5
      try clear c5b0
      try clear c5b1
      try clear c6
      try clear c6b0
      try clear c6b1
      try clear p7
      try clear q7
      try clear hx7
      try clear qi7
      try clear hf7
      try clear hcz11_0
      try clear hcz11_1
      try clear hcz11_2
      try clear hcz9_0
      try clear hcz9_1
      try clear hcz9_2
      try clear hfz11_0
      try clear hfz11_1
      try clear hfz11_2
      try clear hfz9_0
      try clear hfz9_1
      try clear hfz9_2
      try clear hx7_0
      try clear p7
      try clear q7
      obtain ⟨x3_1, x4_1, HA, HK1, HO_3, HO_4, BK101, HB⟩ := hrel
      have hl3_1 := (Kd.R_reads' HO_3.out).1
      rw [hl3_1] at HO_3
      (try simp only [hl3_1])
      (try simp only [hl3_1] at BK101)
      (try simp only [hl3_1] at HO_4)
      cases gk with
      | zero => exact absurd HA.out (by simp [least_Reach.l0])
      | succ k1 =>
       have H := HA.out
       clear HA
       simp only [least_Reach.l0] at H
       by_cases c18 : (x4_1.length : Int) > 0
       ·rw [if_pos c18] at H
        have c18b0 : decide (0 < (x4_1.length : Int)) = true := decide_eq_true c18
        have c18b1 : decide (0 < x4_1.length) = true := decide_eq_true (by omega)
        clear c18
        by_cases c19 : 0 < (x4_1.length : Int)
        ·rw [if_pos c19] at H
         have c19b0 : decide (0 < (x4_1.length : Int)) = true := decide_eq_true c19
         have c19b1 : decide (0 < x4_1.length) = true := decide_eq_true (by omega)
         clear c19
         by_cases c20 : 0 ≤ (rd x4_1 0)
         ·rw [if_pos c20] at H
          have c20b0 : decide (0 ≤ (rd x4_1 0)) = true := decide_eq_true c20
          clear c20
          by_cases c21 : (rd x4_1 0) < (l0_1.length : Int)
          ·rw [if_pos c21] at H
           have c21b0 : decide ((rd x4_1 0) < (l0_1.length : Int)) = true := decide_eq_true c21
           clear c21
           have H' := Aside0.mk H
           clear H
           obtain ⟨Ao22, co22, eo22, _⟩ := Kd.Q_slice HO_4.out
           subst eo22
           have hcz23_0 : wr.cell? ⟨gb101, 0, none⟩ = some (.int .i64 a0_0) := (blk_cell BK101.out 0).trans rfl
           have hcz23_1 : wr.cell? ⟨gb101, 1, none⟩ = some (.slice A0_1 l0_1.length c0_1) := (blk_cell BK101.out 1).trans rfl
           have hcz23_2 : wr.cell? ⟨gb101, 2, none⟩ = some (.slice A0_2 l0_2.length c0_2) := (blk_cell BK101.out 2).trans rfl
           have hfz23_0 := blk_frozen BK101.out 0
           have hfz23_1 := blk_frozen BK101.out 1
           have hfz23_2 := blk_frozen BK101.out 2
           have p110 : 0 ≤ (0 : Int) := (by omega)
           have q110 : 0 < (x4_1.length : Int) := of_decide_eq_true (by first | (with_reducible assumption) | assumption)
           obtain ⟨ad110, e110, hx110_0⟩ := Kd.at_int (Kd.Q_reads' HO_4.out).2.2 0 p110 q110
           cases e110
           have qi110 : (0 < x4_1.length) = True := eq_true (by omega)
           (try rw [show ((0 : Int)).toNat = 0 from rfl] at hx110_0)
           (try rw [Addr.add_zero'] at hx110_0)
           replace p110 := eq_true p110
           replace q110 := eq_true q110
           have p111 : 0 ≤ ((rd x4_1 0) : Int) := of_decide_eq_true (by first | (with_reducible assumption) | assumption)
           have q111 : (rd x4_1 0) < (l0_1.length : Int) := of_decide_eq_true (by first | (with_reducible assumption) | assumption)
           obtain ⟨ad111, A111_0, c111_0, e111, hx111_0, hl111_0, hi111_0⟩ := at_L5 HR0_1.out (rd x4_1 0) p111 q111
           cases e111
           replace hx111_0 := (HB.out.cell (World.block_lt_of_cell? w _ hx111_0)).trans hx111_0
           have HR111_0 := Aside0.mk hi111_0
           have HC111_0 := Aside0.mk hl111_0
           clear hi111_0 hl111_0
           replace p111 := eq_true p111
           replace q111 := eq_true q111
           go_wp2
           repeat (go_quiet (fail); try go_wp2)
           go_loopg [4, 30] k1 (fun kq v4 v30 w' => ∃ (x3_2 : List Bool) (x4_2 : List Int) (x30_2 : Int), v30 = .int .i64 x30_2 ∧ Aside0 (least_Reach.l1 kq x3_2 x4_2 (rd_L5 l0_1 (rd x4_1 0)) ((rd_L5 l0_1 (rd x4_1 0)).length : Int) x30_2 a0_0 l0_1 l0_2 = some r) ∧ Aside0 (kq ≤ k1) ∧ Aside0 (Kd.R Kd.bool 4 w' w.heap.size (fun _ => True) (.slice (some ⟨go7, 0, none⟩) x3_1.length co7) x3_2) ∧ Aside0 (Kd.Q (Kd.int .i64) 3 w' w.heap.size (fun _ => True) v4 x4_2) ∧ Aside0 (w'.heap[gb101]? = some (.cells #[.int .i64 a0_0, (.slice (some ad111) l0_1.length c0_1), (.slice A0_2 l0_2.length c0_2)] 25 (0, 0))) ∧ Aside0 (Below w.heap.size w w'))
           case atStart => exact ⟨(x3_1), (x4_1), (0), (by first | rfl | (simp; done) | (simp [*]; done)), H', ⟨Nat.le_refl _⟩, ⟨by (try simp only [hl3_1]); (with_reducible repeat (first | apply Kd.R_alloc | apply Kd.R_drewN | apply Kd.R_drew)); exact HO_3.out⟩, ⟨by (try simp only [hl3_1]); (with_reducible repeat (first | apply Kd.Q_alloc | apply Kd.Q_drewN | apply Kd.Q_drew)); exact HO_4.out⟩, ⟨by (try simp only [hl3_1]); (with_reducible repeat (first | refine blk_drewN ?_ _ | refine blk_drew ?_ | refine blk_alloc ?_ _)); exact BK101.out⟩, ⟨by repeat (first | (with_reducible first | exact HB.out | apply below_alloc | apply pw_below_drewN | apply below_drew1 | refine below_set ?_ GE101.out) | exact HB.out)⟩⟩
           case round =>
            clear H'
            try clear c1
            try clear p1
            try clear q1
            try clear hx1
            try clear qi1
            try clear c2
            try clear p2
            try clear c3
            try clear c4
            try clear c4b0
            try clear c4b1
            try clear c5
            try clear c5b0
            try clear c5b1
            try clear c6
            try clear c6b0
            try clear c6b1
            try clear p7
            try clear q7
            try clear hx7
            try clear qi7
            try clear hf7
            try clear c11
            try clear p11
            try clear q11
            try clear hx11
            try clear qi11
            try clear c18
            try clear c18b0
            try clear c18b1
            try clear c19
            try clear c19b0
            try clear c19b1
            try clear c20
            try clear c20b0
            try clear c21
            try clear c21b0
            try clear hcz11_0
            try clear hcz11_1
            try clear hcz11_2
            try clear hcz23_0
            try clear hcz23_1
            try clear hcz23_2
            try clear hcz9_0
            try clear hcz9_1
            try clear hcz9_2
            try clear hfz11_0
            try clear hfz11_1
            try clear hfz11_2
            try clear hfz23_0
            try clear hfz23_1
            try clear hfz23_2
            try clear hfz9_0
            try clear hfz9_1
            try clear hfz9_2
            try clear hx110_0
            try clear hx111_0
            try clear hx7_0
            try clear p110
            try clear p111
            try clear p2
            try clear p7
            try clear q110
            try clear q111
            try clear q7
            obtain ⟨x3_2, x4_2, x30_2, rfl, HA, HK2, HO_3, HO_4, BK101, HB⟩ := hrel
            have hl3_2 := (Kd.R_reads' HO_3.out).1
            rw [hl3_2] at HO_3
            (try simp only [hl3_2])
            (try simp only [hl3_2] at BK101)
            (try simp only [hl3_2] at HO_4)
            cases gk with
            | zero => exact absurd HA.out (by simp [least_Reach.l1])
            | succ k2 =>
             have H := HA.out
             clear HA
             simp only [least_Reach.l1] at H
             by_cases c24 : x30_2 < ((rd_L5 l0_1 (rd x4_1 0)).length : Int)
             ·rw [if_pos c24] at H
              have c24b0 : decide (x30_2 < ((rd_L5 l0_1 (rd x4_1 0)).length : Int)) = true := decide_eq_true c24
              clear c24
              by_cases c25 : 0 ≤ x30_2
              ·rw [if_pos c25] at H
               have c25b0 : decide (0 ≤ x30_2) = true := decide_eq_true c25
               clear c25
               by_cases c26 : x30_2 < ((rd_L5 l0_1 (rd x4_1 0)).length : Int)
               ·rw [if_pos c26] at H
                have c26b0 : decide (x30_2 < ((rd_L5 l0_1 (rd x4_1 0)).length : Int)) = true := decide_eq_true c26
                clear c26
                by_cases c27 : 0 ≤ (rd (rd_L5 l0_1 (rd x4_1 0)) x30_2)
                ·rw [if_pos c27] at H
                 have c27b0 : decide (0 ≤ (rd (rd_L5 l0_1 (rd x4_1 0)) x30_2)) = true := decide_eq_true c27
                 clear c27
                 by_cases c28 : (rd (rd_L5 l0_1 (rd x4_1 0)) x30_2) < (x3_2.length : Int)
                 ·rw [if_pos c28] at H
                  have c28b0 : decide ((rd (rd_L5 l0_1 (rd x4_1 0)) x30_2) < (x3_2.length : Int)) = true := decide_eq_true c28
                  clear c28
                  obtain ⟨bq29, hbq29⟩ : ∃ b_ : Bool, b_ = (rdOf false x3_2 (rd (rd_L5 l0_1 (rd x4_1 0)) x30_2)) := ⟨_, rfl⟩
                  replace H : (if (bq29 = true) then (least_Reach.l1 k2 x3_2 x4_2 (rd_L5 l0_1 (rd x4_1 0)) ((rd_L5 l0_1 (rd x4_1 0)).length : Int) (wrap64 (x30_2 + 1)) a0_0 l0_1 l0_2) else (if x4_2.length < 17592186044416 then (least_Reach.l1 k2 (x3_2.set ((rd (rd_L5 l0_1 (rd x4_1 0)) x30_2) : Int).toNat true) (x4_2 ++ [rd (rd_L5 l0_1 (rd x4_1 0)) x30_2]) (rd_L5 l0_1 (rd x4_1 0)) ((rd_L5 l0_1 (rd x4_1 0)).length : Int) (wrap64 (x30_2 + 1)) a0_0 l0_1 l0_2) else (none))) = some r := by rw [← hbq29] at H; exact H
                  have Nbq29 := Aside0.mk hbq29
                  clear hbq29
                  by_cases c30 : (bq29 = true)
                  ·subst c30
                   have H1 : (least_Reach.l1 k2 x3_2 x4_2 (rd_L5 l0_1 (rd x4_1 0)) ((rd_L5 l0_1 (rd x4_1 0)).length : Int) (wrap64 (x30_2 + 1)) a0_0 l0_1 l0_2) = some r := by rw [if_pos rfl] at H; exact H
                   clear H
                   have H := H1
                   clear H1
                   have H' := Aside0.mk H
                   clear H
                   have p112 : 0 ≤ (x30_2 : Int) := of_decide_eq_true (by first | (with_reducible assumption) | assumption)
                   have q112 : x30_2 < ((rd_L5 l0_1 (rd x4_1 0)).length : Int) := of_decide_eq_true (by first | (with_reducible assumption) | assumption)
                   obtain ⟨ad112, e112, hx112_0⟩ := Kd.at_int HR111_0.out x30_2 p112 q112
                   cases e112
                   replace hx112_0 := (HB.out.cell (World.block_lt_of_cell? w _ hx112_0)).trans hx112_0
                   replace p112 := eq_true p112
                   replace q112 := eq_true q112
                   have p113 : 0 ≤ ((rd (rd_L5 l0_1 (rd x4_1 0)) x30_2) : Int) := of_decide_eq_true (by first | (with_reducible assumption) | assumption)
                   have q113 : (rd (rd_L5 l0_1 (rd x4_1 0)) x30_2) < (x3_2.length : Int) := of_decide_eq_true (by first | (with_reducible assumption) | assumption)
                   obtain ⟨ad113, e113, hx113_0⟩ := Kd.at_bool (Kd.R_reads' HO_3.out).2.2 (rd (rd_L5 l0_1 (rd x4_1 0)) x30_2) p113 q113
                   (try rw [← Nbq29.out] at hx113_0)
                   obtain rfl : (⟨go7, 0, none⟩ : Addr) = ad113 := (by injection e113)
                   (first | simp only [add_plain] at hx113_0 | simp only [add_at] at hx113_0 | simp only [Addr.add, Nat.zero_add] at hx113_0 | skip)
                   replace p113 := eq_true p113
                   replace q113 := eq_true q113
                   go_wp2
                   repeat (go_quiet (fail); try go_wp2)
                   (try simp only [← hl3_2])
                   go_roundg k2
                   case measure => have := HK1.out; have := HK2.out; omega
                   case rel => exact ⟨(x3_2), (x4_2), (wrap64 (x30_2 + 1)), (by first | rfl | (simp; done) | (simp [*]; done)), H', ⟨by have := HK1.out; have := HK2.out; omega⟩, ⟨by (try simp only [hl3_1]); (try simp only [hl3_2]); (with_reducible repeat (first | apply Kd.R_alloc | apply Kd.R_drewN | apply Kd.R_drew)); exact HO_3.out⟩, ⟨by (try simp only [hl3_1]); (try simp only [hl3_2]); (with_reducible repeat (first | apply Kd.Q_alloc | apply Kd.Q_drewN | apply Kd.Q_drew)); exact HO_4.out⟩, ⟨by (try simp only [hl3_1]); (try simp only [hl3_2]); (with_reducible repeat (first | refine blk_drewN ?_ _ | refine blk_drew ?_ | refine blk_alloc ?_ _)); exact BK101.out⟩, ⟨by repeat (first | (with_reducible first | exact HB.out | apply below_alloc | apply pw_below_drewN | apply below_drew1 | refine below_set ?_ GE101.out) | exact HB.out)⟩⟩
                  ·replace c30 := Bool.eq_false_iff.mpr c30
                   subst c30
                   have H1 : (if x4_2.length < 17592186044416 then (least_Reach.l1 k2 (x3_2.set ((rd (rd_L5 l0_1 (rd x4_1 0)) x30_2) : Int).toNat true) (x4_2 ++ [rd (rd_L5 l0_1 (rd x4_1 0)) x30_2]) (rd_L5 l0_1 (rd x4_1 0)) ((rd_L5 l0_1 (rd x4_1 0)).length : Int) (wrap64 (x30_2 + 1)) a0_0 l0_1 l0_2) else (none)) = some r := by rw [if_neg (show ¬ (false = true) by decide)] at H; exact H
                   clear H
                   have H := H1
                   clear H1
                   obtain ⟨y114, hy114⟩ : ∃ y_ : List Bool, y_ = (x3_2.set ((rd (rd_L5 l0_1 (rd x4_1 0)) x30_2) : Int).toNat true) := ⟨_, rfl⟩
                   replace H : (if x4_2.length < 17592186044416 then (least_Reach.l1 k2 y114 (x4_2 ++ [rd (rd_L5 l0_1 (rd x4_1 0)) x30_2]) (rd_L5 l0_1 (rd x4_1 0)) ((rd_L5 l0_1 (rd x4_1 0)).length : Int) (wrap64 (x30_2 + 1)) a0_0 l0_1 l0_2) else (none)) = some r := by first | (rw [hy114]; with_reducible exact H) | (have H2_ := (Option.bind_some _ _).symm.trans H; rw [hy114]; with_reducible exact H2_) | (have H2_ := (Option.bind_some _ _).symm.trans H; with_reducible exact H2_) | with_reducible exact H | (rw [hy114]; exact H) | exact H
                   have Ny114 := Aside0.mk hy114
                   clear hy114
                   by_cases c32 : x4_2.length < 17592186044416
                   ·rw [if_pos c32] at H
                    have LMc32 := Aside0.mk c32
                    clear c32
                    obtain ⟨y115, hy115⟩ : ∃ y_ : List Int, y_ = (x4_2 ++ [rd (rd_L5 l0_1 (rd x4_1 0)) x30_2]) := ⟨_, rfl⟩
                    replace H : (least_Reach.l1 k2 y114 y115 (rd_L5 l0_1 (rd x4_1 0)) ((rd_L5 l0_1 (rd x4_1 0)).length : Int) (wrap64 (x30_2 + 1)) a0_0 l0_1 l0_2) = some r := by first | (rw [hy115]; with_reducible exact H) | (have H2_ := (Option.bind_some _ _).symm.trans H; rw [hy115]; with_reducible exact H2_) | (have H2_ := (Option.bind_some _ _).symm.trans H; with_reducible exact H2_) | with_reducible exact H | (rw [hy115]; exact H) | exact H
                    have Ny115 := Aside0.mk hy115
                    clear hy115
                    have H' := Aside0.mk H
                    clear H
                    have p112 : 0 ≤ (x30_2 : Int) := of_decide_eq_true (by first | (with_reducible assumption) | assumption)
                    have q112 : x30_2 < ((rd_L5 l0_1 (rd x4_1 0)).length : Int) := of_decide_eq_true (by first | (with_reducible assumption) | assumption)
                    obtain ⟨ad112, e112, hx112_0⟩ := Kd.at_int HR111_0.out x30_2 p112 q112
                    cases e112
                    replace hx112_0 := (HB.out.cell (World.block_lt_of_cell? w _ hx112_0)).trans hx112_0
                    replace p112 := eq_true p112
                    replace q112 := eq_true q112
                    have p113 : 0 ≤ ((rd (rd_L5 l0_1 (rd x4_1 0)) x30_2) : Int) := of_decide_eq_true (by first | (with_reducible assumption) | assumption)
                    have q113 : (rd (rd_L5 l0_1 (rd x4_1 0)) x30_2) < (x3_2.length : Int) := of_decide_eq_true (by first | (with_reducible assumption) | assumption)
                    obtain ⟨ad113, e113, hx113_0⟩ := Kd.at_bool (Kd.R_reads' HO_3.out).2.2 (rd (rd_L5 l0_1 (rd x4_1 0)) x30_2) p113 q113
                    (try rw [← Nbq29.out] at hx113_0)
                    obtain rfl : (⟨go7, 0, none⟩ : Addr) = ad113 := (by injection e113)
                    (first | simp only [add_plain] at hx113_0 | simp only [add_at] at hx113_0 | simp only [Addr.add, Nat.zero_add] at hx113_0 | skip)
                    replace p113 := eq_true p113
                    replace q113 := eq_true q113
                    have p31 : 0 ≤ ((rd (rd_L5 l0_1 (rd x4_1 0)) x30_2) : Int) := of_decide_eq_true (by first | (with_reducible assumption) | assumption)
                    have q31 : ((rd (rd_L5 l0_1 (rd x4_1 0)) x30_2) : Int) < ((x3_2.length : Int) : Int) := of_decide_eq_true (by first | (with_reducible assumption) | assumption)
                    obtain ⟨hx31_0, hf31_0⟩ := Kd.R_celln false HO_3.out ((rd (rd_L5 l0_1 (rd x4_1 0)) x30_2) : Int) p31 q31
                    replace p31 := eq_true p31
                    replace q31 := eq_true q31
                    have HP33 := Kd.R_putg HO_3.out ((rd (rd_L5 l0_1 (rd x4_1 0)) x30_2) : Int) true
                    go_wp2_with (first | ((with_reducible refine gate_store (t := 4) (p := 41) rfl ?_); (try (rw [drewN_self wr]; generalize hq_ : World.drewN wr _ = wr; have n0_ := Aside0.mk (Kd.R_at hq_ HO_3.out); have n1_ := Aside0.mk (Kd.Q_at hq_ HO_4.out); have n2_ := Aside0.mk (blk_at hq_ BK101.out); have n3_ := Aside0.mk (below_at hq_ HB.out); clear hq_ HO_3 HO_4 BK101 HB; have HO_3 := n0_; have HO_4 := n1_; have BK101 := n2_; have HB := n3_; clear n0_ n1_ n2_ n3_; (try (have HP33 := Kd.R_putg HO_3.out ((rd (rd_L5 l0_1 (rd x4_1 0)) x30_2) : Int) true)); (try (obtain ⟨hx31_0, hf31_0⟩ := Kd.R_celln false HO_3.out ((rd (rd_L5 l0_1 (rd x4_1 0)) x30_2) : Int) (of_eq_true p31) (of_eq_true q31))))); refine store_event (t := 4) (p := 41) (v := ?vo_w34) (w1 := (wr.setCell ⟨go7, ((rd (rd_L5 l0_1 (rd x4_1 0)) x30_2) : Int).toNat, none⟩ (.bool true))) ?hg ?ho ?hn ?hr ?_; (case ho => rfl); (case hg => rfl); (case hn => rfl); (case hr => first | (go_simp; done) | (go_simp; rfl)); intro w34 hw; have hg : wr.grownBy w34 (some go7) := (by rw [hw]; exact HP33.2); have hp_ : Kd.R Kd.bool 4 w34 w.heap.size (fun _ => True) (.slice (some ⟨go7, 0, none⟩) x3_2.length co7) y114 := (by rw [hw, Ny114.out]; exact HP33.1); clear HP33; have n0_ := Aside0.mk (hp_); have n1_ := Aside0.mk (Kd.Q_over' (v := (.slice (some ⟨go7, 0, none⟩) x3_2.length co7)) (by (with_reducible repeat (first | apply Kd.Q_alloc | apply Kd.Q_drewN | apply Kd.Q_drew)); exact HO_4.out) (Kd.R_typed HO_3.out) (by decide) hg); have n2_ := Aside0.mk (blk_grown (g := gb101) (o := .cells #[.int .i64 a0_0, .slice (some ad111) l0_1.length c0_1, .slice A0_2 l0_2.length c0_2] 25 (0, 0)) (by (with_reducible repeat (first | refine blk_drewN ?_ _ | refine blk_drew ?_ | refine blk_alloc ?_ _)); exact BK101.out) hg (Kd.R_ne HO_3.out BK101.out (by decide))); have n3_ := Aside0.mk ((by rw [hw]; exact below_set (HB.out) GB7.out : Below w.heap.size w w34)); clear HO_3; clear HO_4; clear BK101; clear HB; have HO_3 := n0_; have HO_4 := n1_; have BK101 := n2_; have HB := n3_; clear n0_ n1_ n2_ n3_; clear hg hw hp_) | ((with_reducible refine gate_builtin (b := .append) (xs := #[.tmp 42, .tmp 44]) rfl ?_); at_builtin; refine Kd.Q_append (Kd.int .i64) (w0 := w) w.heap.size rfl (.tmp 42) (.tmp 44) 45 3 (.int .i64 0) 8 rfl Try.underlying45 info3 rfl (by decide) (by omega) u4 x4_2 (rd (rd_L5 l0_1 (rd x4_1 0)) x30_2) [.int .i64 (rd (rd_L5 l0_1 (rd x4_1 0)) x30_2)] (fun _ => True) (fun _ => False) rfl rfl ?aP (fun _ hk => hk.elim) ?aF ?aO ?aB ?aS ?aL ?_; (case aP => exact rfl); (case aB => exact (by repeat (first | (with_reducible first | exact HB.out | apply below_alloc | apply pw_below_drewN | apply below_drew1 | refine below_set ?_ GE101.out) | exact HB.out))); (case aF => exact (fun _ _ => trivial)); (case aO => exact (by (with_reducible repeat (first | apply Kd.Q_alloc | apply Kd.Q_drewN | apply Kd.Q_drew)); exact HO_4.out)); (case aS => exact (below_size (by repeat (first | (with_reducible first | exact HB.out | apply below_alloc | apply pw_below_drewN | apply below_drew1 | refine below_set ?_ GE101.out) | exact HB.out)))); (case aL => have := LMc32.out; omega); intro v116 w35 ho hb hg hat; rw [← Ny115.out] at ho; have n0_ := Aside0.mk (Kd.R_over' (by (with_reducible repeat (first | apply Kd.R_alloc | apply Kd.R_drewN | apply Kd.R_drew)); exact HO_3.out) (Kd.Q_typed (by (with_reducible repeat (first | apply Kd.Q_alloc | apply Kd.Q_drewN | apply Kd.Q_drew)); exact HO_4.out)) (by decide) hg); have n1_ := Aside0.mk (blk_grown (g := gb101) (o := .cells #[.int .i64 a0_0, .slice (some ad111) l0_1.length c0_1, .slice A0_2 l0_2.length c0_2] 25 (0, 0)) (by (with_reducible repeat (first | refine blk_drewN ?_ _ | refine blk_drew ?_ | refine blk_alloc ?_ _)); exact BK101.out) hg (Kd.Q_ne HO_4.out BK101.out (by decide))); have n2_ := Aside0.mk (hb); have n3_ := Aside0.mk (ho); clear HO_3; clear BK101; clear HB; clear HO_4; have HO_3 := n0_; have BK101 := n1_; have HB := n2_; have HO117 := n3_; clear n0_ n1_ n2_ n3_; clear ho hb hg hat))
                    repeat (go_quiet (first | ((with_reducible refine gate_store (t := 4) (p := 41) rfl ?_); (try (rw [drewN_self wr]; generalize hq_ : World.drewN wr _ = wr; have n0_ := Aside0.mk (Kd.R_at hq_ HO_3.out); have n1_ := Aside0.mk (Kd.Q_at hq_ HO_4.out); have n2_ := Aside0.mk (blk_at hq_ BK101.out); have n3_ := Aside0.mk (below_at hq_ HB.out); clear hq_ HO_3 HO_4 BK101 HB; have HO_3 := n0_; have HO_4 := n1_; have BK101 := n2_; have HB := n3_; clear n0_ n1_ n2_ n3_; (try (have HP33 := Kd.R_putg HO_3.out ((rd (rd_L5 l0_1 (rd x4_1 0)) x30_2) : Int) true)); (try (obtain ⟨hx31_0, hf31_0⟩ := Kd.R_celln false HO_3.out ((rd (rd_L5 l0_1 (rd x4_1 0)) x30_2) : Int) (of_eq_true p31) (of_eq_true q31))))); refine store_event (t := 4) (p := 41) (v := ?vo_w34) (w1 := (wr.setCell ⟨go7, ((rd (rd_L5 l0_1 (rd x4_1 0)) x30_2) : Int).toNat, none⟩ (.bool true))) ?hg ?ho ?hn ?hr ?_; (case ho => rfl); (case hg => rfl); (case hn => rfl); (case hr => first | (go_simp; done) | (go_simp; rfl)); intro w34 hw; have hg : wr.grownBy w34 (some go7) := (by rw [hw]; exact HP33.2); have hp_ : Kd.R Kd.bool 4 w34 w.heap.size (fun _ => True) (.slice (some ⟨go7, 0, none⟩) x3_2.length co7) y114 := (by rw [hw, Ny114.out]; exact HP33.1); clear HP33; have n0_ := Aside0.mk (hp_); have n1_ := Aside0.mk (Kd.Q_over' (v := (.slice (some ⟨go7, 0, none⟩) x3_2.length co7)) (by (with_reducible repeat (first | apply Kd.Q_alloc | apply Kd.Q_drewN | apply Kd.Q_drew)); exact HO_4.out) (Kd.R_typed HO_3.out) (by decide) hg); have n2_ := Aside0.mk (blk_grown (g := gb101) (o := .cells #[.int .i64 a0_0, .slice (some ad111) l0_1.length c0_1, .slice A0_2 l0_2.length c0_2] 25 (0, 0)) (by (with_reducible repeat (first | refine blk_drewN ?_ _ | refine blk_drew ?_ | refine blk_alloc ?_ _)); exact BK101.out) hg (Kd.R_ne HO_3.out BK101.out (by decide))); have n3_ := Aside0.mk ((by rw [hw]; exact below_set (HB.out) GB7.out : Below w.heap.size w w34)); clear HO_3; clear HO_4; clear BK101; clear HB; have HO_3 := n0_; have HO_4 := n1_; have BK101 := n2_; have HB := n3_; clear n0_ n1_ n2_ n3_; clear hg hw hp_) | ((with_reducible refine gate_builtin (b := .append) (xs := #[.tmp 42, .tmp 44]) rfl ?_); at_builtin; refine Kd.Q_append (Kd.int .i64) (w0 := w) w.heap.size rfl (.tmp 42) (.tmp 44) 45 3 (.int .i64 0) 8 rfl Try.underlying45 info3 rfl (by decide) (by omega) u4 x4_2 (rd (rd_L5 l0_1 (rd x4_1 0)) x30_2) [.int .i64 (rd (rd_L5 l0_1 (rd x4_1 0)) x30_2)] (fun _ => True) (fun _ => False) rfl rfl ?aP (fun _ hk => hk.elim) ?aF ?aO ?aB ?aS ?aL ?_; (case aP => exact rfl); (case aB => exact (by repeat (first | (with_reducible first | exact HB.out | apply below_alloc | apply pw_below_drewN | apply below_drew1 | refine below_set ?_ GE101.out) | exact HB.out))); (case aF => exact (fun _ _ => trivial)); (case aO => exact (by (with_reducible repeat (first | apply Kd.Q_alloc | apply Kd.Q_drewN | apply Kd.Q_drew)); exact HO_4.out)); (case aS => exact (below_size (by repeat (first | (with_reducible first | exact HB.out | apply below_alloc | apply pw_below_drewN | apply below_drew1 | refine below_set ?_ GE101.out) | exact HB.out)))); (case aL => have := LMc32.out; omega); intro v116 w35 ho hb hg hat; rw [← Ny115.out] at ho; have n0_ := Aside0.mk (Kd.R_over' (by (with_reducible repeat (first | apply Kd.R_alloc | apply Kd.R_drewN | apply Kd.R_drew)); exact HO_3.out) (Kd.Q_typed (by (with_reducible repeat (first | apply Kd.Q_alloc | apply Kd.Q_drewN | apply Kd.Q_drew)); exact HO_4.out)) (by decide) hg); have n1_ := Aside0.mk (blk_grown (g := gb101) (o := .cells #[.int .i64 a0_0, .slice (some ad111) l0_1.length c0_1, .slice A0_2 l0_2.length c0_2] 25 (0, 0)) (by (with_reducible repeat (first | refine blk_drewN ?_ _ | refine blk_drew ?_ | refine blk_alloc ?_ _)); exact BK101.out) hg (Kd.Q_ne HO_4.out BK101.out (by decide))); have n2_ := Aside0.mk (hb); have n3_ := Aside0.mk (ho); clear HO_3; clear BK101; clear HB; clear HO_4; have HO_3 := n0_; have BK101 := n1_; have HB := n2_; have HO117 := n3_; clear n0_ n1_ n2_ n3_; clear ho hb hg hat)); try go_wp2_with (first | ((with_reducible refine gate_store (t := 4) (p := 41) rfl ?_); (try (rw [drewN_self wr]; generalize hq_ : World.drewN wr _ = wr; have n0_ := Aside0.mk (Kd.R_at hq_ HO_3.out); have n1_ := Aside0.mk (Kd.Q_at hq_ HO_4.out); have n2_ := Aside0.mk (blk_at hq_ BK101.out); have n3_ := Aside0.mk (below_at hq_ HB.out); clear hq_ HO_3 HO_4 BK101 HB; have HO_3 := n0_; have HO_4 := n1_; have BK101 := n2_; have HB := n3_; clear n0_ n1_ n2_ n3_; (try (have HP33 := Kd.R_putg HO_3.out ((rd (rd_L5 l0_1 (rd x4_1 0)) x30_2) : Int) true)); (try (obtain ⟨hx31_0, hf31_0⟩ := Kd.R_celln false HO_3.out ((rd (rd_L5 l0_1 (rd x4_1 0)) x30_2) : Int) (of_eq_true p31) (of_eq_true q31))))); refine store_event (t := 4) (p := 41) (v := ?vo_w34) (w1 := (wr.setCell ⟨go7, ((rd (rd_L5 l0_1 (rd x4_1 0)) x30_2) : Int).toNat, none⟩ (.bool true))) ?hg ?ho ?hn ?hr ?_; (case ho => rfl); (case hg => rfl); (case hn => rfl); (case hr => first | (go_simp; done) | (go_simp; rfl)); intro w34 hw; have hg : wr.grownBy w34 (some go7) := (by rw [hw]; exact HP33.2); have hp_ : Kd.R Kd.bool 4 w34 w.heap.size (fun _ => True) (.slice (some ⟨go7, 0, none⟩) x3_2.length co7) y114 := (by rw [hw, Ny114.out]; exact HP33.1); clear HP33; have n0_ := Aside0.mk (hp_); have n1_ := Aside0.mk (Kd.Q_over' (v := (.slice (some ⟨go7, 0, none⟩) x3_2.length co7)) (by (with_reducible repeat (first | apply Kd.Q_alloc | apply Kd.Q_drewN | apply Kd.Q_drew)); exact HO_4.out) (Kd.R_typed HO_3.out) (by decide) hg); have n2_ := Aside0.mk (blk_grown (g := gb101) (o := .cells #[.int .i64 a0_0, .slice (some ad111) l0_1.length c0_1, .slice A0_2 l0_2.length c0_2] 25 (0, 0)) (by (with_reducible repeat (first | refine blk_drewN ?_ _ | refine blk_drew ?_ | refine blk_alloc ?_ _)); exact BK101.out) hg (Kd.R_ne HO_3.out BK101.out (by decide))); have n3_ := Aside0.mk ((by rw [hw]; exact below_set (HB.out) GB7.out : Below w.heap.size w w34)); clear HO_3; clear HO_4; clear BK101; clear HB; have HO_3 := n0_; have HO_4 := n1_; have BK101 := n2_; have HB := n3_; clear n0_ n1_ n2_ n3_; clear hg hw hp_) | ((with_reducible refine gate_builtin (b := .append) (xs := #[.tmp 42, .tmp 44]) rfl ?_); at_builtin; refine Kd.Q_append (Kd.int .i64) (w0 := w) w.heap.size rfl (.tmp 42) (.tmp 44) 45 3 (.int .i64 0) 8 rfl Try.underlying45 info3 rfl (by decide) (by omega) u4 x4_2 (rd (rd_L5 l0_1 (rd x4_1 0)) x30_2) [.int .i64 (rd (rd_L5 l0_1 (rd x4_1 0)) x30_2)] (fun _ => True) (fun _ => False) rfl rfl ?aP (fun _ hk => hk.elim) ?aF ?aO ?aB ?aS ?aL ?_; (case aP => exact rfl); (case aB => exact (by repeat (first | (with_reducible first | exact HB.out | apply below_alloc | apply pw_below_drewN | apply below_drew1 | refine below_set ?_ GE101.out) | exact HB.out))); (case aF => exact (fun _ _ => trivial)); (case aO => exact (by (with_reducible repeat (first | apply Kd.Q_alloc | apply Kd.Q_drewN | apply Kd.Q_drew)); exact HO_4.out)); (case aS => exact (below_size (by repeat (first | (with_reducible first | exact HB.out | apply below_alloc | apply pw_below_drewN | apply below_drew1 | refine below_set ?_ GE101.out) | exact HB.out)))); (case aL => have := LMc32.out; omega); intro v116 w35 ho hb hg hat; rw [← Ny115.out] at ho; have n0_ := Aside0.mk (Kd.R_over' (by (with_reducible repeat (first | apply Kd.R_alloc | apply Kd.R_drewN | apply Kd.R_drew)); exact HO_3.out) (Kd.Q_typed (by (with_reducible repeat (first | apply Kd.Q_alloc | apply Kd.Q_drewN | apply Kd.Q_drew)); exact HO_4.out)) (by decide) hg); have n1_ := Aside0.mk (blk_grown (g := gb101) (o := .cells #[.int .i64 a0_0, .slice (some ad111) l0_1.length c0_1, .slice A0_2 l0_2.length c0_2] 25 (0, 0)) (by (with_reducible repeat (first | refine blk_drewN ?_ _ | refine blk_drew ?_ | refine blk_alloc ?_ _)); exact BK101.out) hg (Kd.Q_ne HO_4.out BK101.out (by decide))); have n2_ := Aside0.mk (hb); have n3_ := Aside0.mk (ho); clear HO_3; clear BK101; clear HB; clear HO_4; have HO_3 := n0_; have BK101 := n1_; have HB := n2_; have HO117 := n3_; clear n0_ n1_ n2_ n3_; clear ho hb hg hat)))
                    (try simp only [← hl3_2])
                    go_roundg k2
                    case measure => have := HK1.out; have := HK2.out; omega
                    case rel => exact ⟨(y114), (y115), (wrap64 (x30_2 + 1)), (by first | rfl | (simp; done) | (simp [*]; done)), H', ⟨by have := HK1.out; have := HK2.out; omega⟩, ⟨by (try simp only [hl3_1]); (try simp only [hl3_2]); (with_reducible repeat (first | apply Kd.R_alloc | apply Kd.R_drewN | apply Kd.R_drew)); exact HO_3.out⟩, ⟨by (try simp only [hl3_1]); (try simp only [hl3_2]); (with_reducible repeat (first | apply Kd.Q_alloc | apply Kd.Q_drewN | apply Kd.Q_drew)); exact HO117.out⟩, ⟨by (try simp only [hl3_1]); (try simp only [hl3_2]); (with_reducible repeat (first | refine blk_drewN ?_ _ | refine blk_drew ?_ | refine blk_alloc ?_ _)); exact BK101.out⟩, ⟨by repeat (first | (with_reducible first | exact HB.out | apply below_alloc | apply pw_below_drewN | apply below_drew1 | refine below_set ?_ GE101.out) | exact HB.out)⟩⟩
                   ·rw [if_neg c32] at H
                    exact absurd H (by simp)
                 ·rw [if_neg c28] at H
                  exact absurd H (by simp)
                ·rw [if_neg c27] at H
                 exact absurd H (by simp)
               ·rw [if_neg c26] at H
                exact absurd H (by simp)
              ·rw [if_neg c25] at H
               exact absurd H (by simp)
             ·rw [if_neg c24] at H
              have c24b0 : decide (x30_2 < ((rd_L5 l0_1 (rd x4_1 0)).length : Int)) = false := decide_eq_false c24
              clear c24
              by_cases c36 : 1 ≤ (x4_2.length : Int)
              ·rw [if_pos c36] at H
               have c36b0 := eq_true c36
               have c36b1 : decide (1 ≤ (x4_2.length : Int)) = true := decide_eq_true c36
               clear c36
               obtain ⟨y118, hy118⟩ : ∃ y_ : List Int, y_ = (x4_2.drop (1 : Int).toNat) := ⟨_, rfl⟩
               replace H : (least_Reach.l0 k2 x3_2 y118 a0_0 l0_1 l0_2) = some r := by first | (rw [hy118]; with_reducible exact H) | (have H2_ := (Option.bind_some _ _).symm.trans H; rw [hy118]; with_reducible exact H2_) | (have H2_ := (Option.bind_some _ _).symm.trans H; with_reducible exact H2_) | with_reducible exact H | (rw [hy118]; exact H) | exact H
               have Ny118 := Aside0.mk hy118
               clear hy118
               have H' := Aside0.mk H
               clear H
               obtain ⟨Ao37, co37, eo37, _⟩ := Kd.Q_slice HO_4.out
               subst eo37
               have q38 : (1 : Int) ≤ ((x4_2.length : Int) : Int) := of_decide_eq_true (by first | (with_reducible assumption) | assumption)
               obtain ⟨i038, hi038, _, hsz38, _⟩ := info_parts info3
               have hcut38 := cut_from (P := Try.prog) 45 3 .i64 Try.underlying45 hi038 1 hsz38 Ao37 x4_2.length co37 1 (by omega) q38
               have hr38 := Kd.Q_drop (k := (1 : Int).toNat) HO_4.out (by omega)
               obtain ⟨A38, hA38⟩ : ∃ A1, A1 = (if co37 = (1 : Int).toNat then Ao37 else (Ao37 : Option Addr).map (·.add ((1 : Int).toNat * 1))) := ⟨_, rfl⟩
               obtain ⟨c38, hc38⟩ : ∃ c1, c1 = co37 - (1 : Int).toNat := ⟨_, rfl⟩
               have hy38 : y118.length = x4_2.length - (1 : Int).toNat := (by rw [Ny118.out, List.length_drop])
               rw [← Ny118.out] at hr38
               rw [← hy38, ← hA38, ← hc38] at hcut38
               replace hr38 : Kd.Q (Kd.int .i64) 3 wr w.heap.size (fun _ => True) (.slice A38 y118.length c38) y118 := (by rw [hA38, hc38, hy38]; exact hr38)
               have HE38 : Aside0 ((Value.slice A38 y118.length c38).ownBlock = (.slice Ao37 x4_2.length co37 : Value).ownBlock) := ⟨by rw [hA38]; split <;> (cases (Ao37 : Option Addr) <;> rfl)⟩
               clear hy38 hi038 hsz38 HO_4 hA38 hc38
               have HO120 := Aside0.mk hr38
               clear hr38
               replace q38 := eq_true q38
               go_wp2
               repeat (go_quiet (fail); try go_wp2)
               (try simp only [← hl3_1, ← hl3_2])
               go_roundg k2
               case measure => have := HK1.out; have := HK2.out; omega
               case rel => exact ⟨(x3_2), (y118), H', ⟨by have := HK1.out; have := HK2.out; omega⟩, ⟨by (try simp only [hl3_1]); (try simp only [hl3_2]); (with_reducible repeat (first | apply Kd.R_alloc | apply Kd.R_drewN | apply Kd.R_drew)); exact HO_3.out⟩, ⟨by (try simp only [hl3_1]); (try simp only [hl3_2]); (with_reducible repeat (first | apply Kd.Q_alloc | apply Kd.Q_drewN | apply Kd.Q_drew)); exact HO120.out⟩, ⟨by (try simp only [hl3_1]); (try simp only [hl3_2]); (with_reducible repeat (first | refine blk_drewN ?_ _ | refine blk_drew ?_ | refine blk_alloc ?_ _)); exact BK101.out⟩, ⟨by repeat (first | (with_reducible first | exact HB.out | apply below_alloc | apply pw_below_drewN | apply below_drew1 | refine below_set ?_ GE101.out) | exact HB.out)⟩⟩
              ·rw [if_neg c36] at H
               exact absurd H (by simp)
          ·rw [if_neg c21] at H
           exact absurd H (by simp)
         ·rw [if_neg c20] at H
          exact absurd H (by simp)
        ·rw [if_neg c19] at H
         exact absurd H (by simp)
       ·rw [if_neg c18] at H
        have c18b0 : decide (0 < (x4_1.length : Int)) = false := decide_eq_false c18
        have c18b1 : decide (0 < x4_1.length) = false := decide_eq_false (by omega)
        clear c18
        obtain rfl := Option.some.inj H
        obtain ⟨Ao39, co39, eo39, _⟩ := Kd.Q_slice HO_4.out
        subst eo39
        go_wp2
        repeat (go_quiet (fail); try go_wp2)
        go_ret
        exact ⟨_, by first | rfl | (simp [errW_none, errW_some] <;> rfl) | (simp [*, errW_none, errW_some] <;> rfl), by (with_reducible repeat (first | apply Kd.R_alloc | apply Kd.R_drewN | apply Kd.R_drew)); exact HO_3.out, by repeat (first | (with_reducible first | exact HB.out | apply below_alloc | apply pw_below_drewN | apply below_drew1 | refine below_set ?_ GE101.out) | exact HB.out)⟩
    ·rw [if_neg c6] at H
     exact absurd H (by simp)
   ·rw [if_neg c5] at H
    exact absurd H (by simp)
  ·rw [if_neg c4] at H
   exact absurd H (by simp)
 ·replace c3 := Bool.eq_false_iff.mpr c3
  subst c3
  have H1 : (some ([] : List Bool)) = some r := by rw [if_neg (show ¬ (false = true) by decide)] at H; exact H
  clear H
  have H := H1
  clear H1
  obtain rfl := Option.some.inj H
  go_enter Try.func51, Try.ntmps51
  go_wp2_with (first | ((with_reducible refine gate_dst (N := 1) rfl ?_); refine box_event ?hg (N := 1) ?hd (cs := #[.int .i64 a0_0, .slice A0_1 l0_1.length c0_1, .slice A0_2 l0_2.length c0_2]) (t := 25) ?hr ?_; (case hd => rfl); (case hg => rfl); (case hr => first | (go_simp; done) | (go_simp; rfl)); intro gb101 hg w40 hbox hb; have n0_ := Aside0.mk (below_step (by repeat (first | (with_reducible first | exact HB.out | apply below_alloc | apply pw_below_drewN | apply below_drew1) | exact HB.out)) hb); have n1_ := Aside0.mk (hbox); have n2_ := Aside0.mk ((by rw [hg]; exact (below_size (by repeat (first | (with_reducible first | exact HB.out | apply below_alloc | apply pw_below_drewN | apply below_drew1) | exact HB.out))) : w.heap.size ≤ gb101)); have n3_ := Aside0.mk ((by rw [hg]; exact (below_size (by repeat (first | (with_reducible first | exact HB.out | apply below_alloc | apply pw_below_drewN | apply below_drew1) | exact HB.out))) : w.heap.size ≤ gb101)); clear HB; have HB := n0_; have BK101 := n1_; have GW101 := n2_; have GE101 := n3_; clear n0_ n1_ n2_ n3_; clear hb hbox hg; have hcz41_0 : w40.cell? ⟨gb101, 0, none⟩ = some (.int .i64 a0_0) := (blk_cell BK101.out 0).trans rfl; have hcz41_1 : w40.cell? ⟨gb101, 1, none⟩ = some (.slice A0_1 l0_1.length c0_1) := (blk_cell BK101.out 1).trans rfl; have hcz41_2 : w40.cell? ⟨gb101, 2, none⟩ = some (.slice A0_2 l0_2.length c0_2) := (blk_cell BK101.out 2).trans rfl; have hfz41_0 := blk_frozen BK101.out 0; have hfz41_1 := blk_frozen BK101.out 1; have hfz41_2 := blk_frozen BK101.out 2) | (go_at_call 36; (with_reducible refine (thompson_Good.calls a0_0 _ _ l0_1 _ _ l0_2 false _ ?side1 ?side2 ?side3 ?side4 A2.out).mono ?_); (case side1 => repeat (first | exact (Kd.C_below HR0_1.out HB.out) | (with_reducible refine Kd.C_alloc ?_ _) | (with_reducible refine Kd.C_drewN ?_ _) | (with_reducible refine Kd.C_drew ?_))); (case side2 => exact HC0_1.out); (case side3 => repeat (first | exact (Kd.C_below HR0_2.out HB.out) | (with_reducible refine Kd.C_alloc ?_ _) | (with_reducible refine Kd.C_drewN ?_ _) | (with_reducible refine Kd.C_drew ?_))); (case side4 => exact HC0_2.out); rintro e w42 ⟨rfl, hb⟩; have n0_ := Aside0.mk (blk_below (g := gb101) (o := .cells #[.int .i64 a0_0, .slice A0_1 l0_1.length c0_1, .slice A0_2 l0_2.length c0_2] 25 (0, 0)) (by (with_reducible repeat (first | refine blk_drewN ?_ _ | refine blk_drew ?_ | refine blk_alloc ?_ _)); exact BK101.out) hb); have n1_ := Aside0.mk (below_step (by repeat (first | (with_reducible first | exact HB.out | apply below_alloc | apply pw_below_drewN | apply below_drew1 | refine below_set ?_ GE101.out) | exact HB.out)) hb); clear BK101; clear HB; have BK101 := n0_; have HB := n1_; clear n0_ n1_; (try clear hb); (try clear hb2); (try clear hk); (try clear hi)))
  repeat (go_quiet (first | ((with_reducible refine gate_dst (N := 1) rfl ?_); refine box_event ?hg (N := 1) ?hd (cs := #[.int .i64 a0_0, .slice A0_1 l0_1.length c0_1, .slice A0_2 l0_2.length c0_2]) (t := 25) ?hr ?_; (case hd => rfl); (case hg => rfl); (case hr => first | (go_simp; done) | (go_simp; rfl)); intro gb101 hg w40 hbox hb; have n0_ := Aside0.mk (below_step (by repeat (first | (with_reducible first | exact HB.out | apply below_alloc | apply pw_below_drewN | apply below_drew1) | exact HB.out)) hb); have n1_ := Aside0.mk (hbox); have n2_ := Aside0.mk ((by rw [hg]; exact (below_size (by repeat (first | (with_reducible first | exact HB.out | apply below_alloc | apply pw_below_drewN | apply below_drew1) | exact HB.out))) : w.heap.size ≤ gb101)); have n3_ := Aside0.mk ((by rw [hg]; exact (below_size (by repeat (first | (with_reducible first | exact HB.out | apply below_alloc | apply pw_below_drewN | apply below_drew1) | exact HB.out))) : w.heap.size ≤ gb101)); clear HB; have HB := n0_; have BK101 := n1_; have GW101 := n2_; have GE101 := n3_; clear n0_ n1_ n2_ n3_; clear hb hbox hg; have hcz41_0 : w40.cell? ⟨gb101, 0, none⟩ = some (.int .i64 a0_0) := (blk_cell BK101.out 0).trans rfl; have hcz41_1 : w40.cell? ⟨gb101, 1, none⟩ = some (.slice A0_1 l0_1.length c0_1) := (blk_cell BK101.out 1).trans rfl; have hcz41_2 : w40.cell? ⟨gb101, 2, none⟩ = some (.slice A0_2 l0_2.length c0_2) := (blk_cell BK101.out 2).trans rfl; have hfz41_0 := blk_frozen BK101.out 0; have hfz41_1 := blk_frozen BK101.out 1; have hfz41_2 := blk_frozen BK101.out 2) | (go_at_call 36; (with_reducible refine (thompson_Good.calls a0_0 _ _ l0_1 _ _ l0_2 false _ ?side1 ?side2 ?side3 ?side4 A2.out).mono ?_); (case side1 => repeat (first | exact (Kd.C_below HR0_1.out HB.out) | (with_reducible refine Kd.C_alloc ?_ _) | (with_reducible refine Kd.C_drewN ?_ _) | (with_reducible refine Kd.C_drew ?_))); (case side2 => exact HC0_1.out); (case side3 => repeat (first | exact (Kd.C_below HR0_2.out HB.out) | (with_reducible refine Kd.C_alloc ?_ _) | (with_reducible refine Kd.C_drewN ?_ _) | (with_reducible refine Kd.C_drew ?_))); (case side4 => exact HC0_2.out); rintro e w42 ⟨rfl, hb⟩; have n0_ := Aside0.mk (blk_below (g := gb101) (o := .cells #[.int .i64 a0_0, .slice A0_1 l0_1.length c0_1, .slice A0_2 l0_2.length c0_2] 25 (0, 0)) (by (with_reducible repeat (first | refine blk_drewN ?_ _ | refine blk_drew ?_ | refine blk_alloc ?_ _)); exact BK101.out) hb); have n1_ := Aside0.mk (below_step (by repeat (first | (with_reducible first | exact HB.out | apply below_alloc | apply pw_below_drewN | apply below_drew1 | refine below_set ?_ GE101.out) | exact HB.out)) hb); clear BK101; clear HB; have BK101 := n0_; have HB := n1_; clear n0_ n1_; (try clear hb); (try clear hb2); (try clear hk); (try clear hi))); try go_wp2_with (first | ((with_reducible refine gate_dst (N := 1) rfl ?_); refine box_event ?hg (N := 1) ?hd (cs := #[.int .i64 a0_0, .slice A0_1 l0_1.length c0_1, .slice A0_2 l0_2.length c0_2]) (t := 25) ?hr ?_; (case hd => rfl); (case hg => rfl); (case hr => first | (go_simp; done) | (go_simp; rfl)); intro gb101 hg w40 hbox hb; have n0_ := Aside0.mk (below_step (by repeat (first | (with_reducible first | exact HB.out | apply below_alloc | apply pw_below_drewN | apply below_drew1) | exact HB.out)) hb); have n1_ := Aside0.mk (hbox); have n2_ := Aside0.mk ((by rw [hg]; exact (below_size (by repeat (first | (with_reducible first | exact HB.out | apply below_alloc | apply pw_below_drewN | apply below_drew1) | exact HB.out))) : w.heap.size ≤ gb101)); have n3_ := Aside0.mk ((by rw [hg]; exact (below_size (by repeat (first | (with_reducible first | exact HB.out | apply below_alloc | apply pw_below_drewN | apply below_drew1) | exact HB.out))) : w.heap.size ≤ gb101)); clear HB; have HB := n0_; have BK101 := n1_; have GW101 := n2_; have GE101 := n3_; clear n0_ n1_ n2_ n3_; clear hb hbox hg; have hcz41_0 : w40.cell? ⟨gb101, 0, none⟩ = some (.int .i64 a0_0) := (blk_cell BK101.out 0).trans rfl; have hcz41_1 : w40.cell? ⟨gb101, 1, none⟩ = some (.slice A0_1 l0_1.length c0_1) := (blk_cell BK101.out 1).trans rfl; have hcz41_2 : w40.cell? ⟨gb101, 2, none⟩ = some (.slice A0_2 l0_2.length c0_2) := (blk_cell BK101.out 2).trans rfl; have hfz41_0 := blk_frozen BK101.out 0; have hfz41_1 := blk_frozen BK101.out 1; have hfz41_2 := blk_frozen BK101.out 2) | (go_at_call 36; (with_reducible refine (thompson_Good.calls a0_0 _ _ l0_1 _ _ l0_2 false _ ?side1 ?side2 ?side3 ?side4 A2.out).mono ?_); (case side1 => repeat (first | exact (Kd.C_below HR0_1.out HB.out) | (with_reducible refine Kd.C_alloc ?_ _) | (with_reducible refine Kd.C_drewN ?_ _) | (with_reducible refine Kd.C_drew ?_))); (case side2 => exact HC0_1.out); (case side3 => repeat (first | exact (Kd.C_below HR0_2.out HB.out) | (with_reducible refine Kd.C_alloc ?_ _) | (with_reducible refine Kd.C_drewN ?_ _) | (with_reducible refine Kd.C_drew ?_))); (case side4 => exact HC0_2.out); rintro e w42 ⟨rfl, hb⟩; have n0_ := Aside0.mk (blk_below (g := gb101) (o := .cells #[.int .i64 a0_0, .slice A0_1 l0_1.length c0_1, .slice A0_2 l0_2.length c0_2] 25 (0, 0)) (by (with_reducible repeat (first | refine blk_drewN ?_ _ | refine blk_drew ?_ | refine blk_alloc ?_ _)); exact BK101.out) hb); have n1_ := Aside0.mk (below_step (by repeat (first | (with_reducible first | exact HB.out | apply below_alloc | apply pw_below_drewN | apply below_drew1 | refine below_set ?_ GE101.out) | exact HB.out)) hb); clear BK101; clear HB; have BK101 := n0_; have HB := n1_; clear n0_ n1_; (try clear hb); (try clear hb2); (try clear hk); (try clear hi))))
  go_ret
  exact ⟨_, by first | rfl | (simp [errW_none, errW_some] <;> rfl) | (simp [*, errW_none, errW_some] <;> rfl), by first | exact Kd.R_nil _ _ _ _ _ | exact Kd.N_nil _ _ _ _ _ | exact Kd.V_nil _ _ _ _ _ | exact Kd.Q_nil _ _ _ _ _ | exact Kd.S_nil _ _ _ _ _, by repeat (first | (with_reducible first | exact HB.out | apply below_alloc | apply pw_below_drewN | apply below_drew1 | refine below_set ?_ GE101.out) | exact HB.out)⟩

end Go.Proofs.Ytelkjbacdpmnfaa.A
