/- Contracts. -/
import Derived.Test.YtelkjbacdpmnfaaB0
import Derived.Test.YtelkjbacdpmnfaaBShort
import Derived.Test.YtelkjbacdpmnfaaBWordsB
import Derived.Test.YtelkjbacdpmnfaaBLeastSplit
namespace Go.Proofs.Ytelkjbacdpmnfaa.A
open Go.RowKit Go.W_.PrintWords Go.W_.PrintLast Go.W_.PrintMore
attribute [local go_sem] max2_int min2_int max_two min_two max_three min_three max_four min_four
set_option linter.unusedVariables false
set_option linter.unusedSimpArgs false

/-! ### least_blocks: function 97 -/
mutual
def least_blocks.l0 : Nat → List Int → List Bool → Int → Int → Int → List (List Int) → List Bool → Option (List Int)
 | 0, _, _, _, _, _, _, _ => none
 | k + 1, x3, x14, x15, x16, x102000, x102001, x102002 => if x16 < x15 then (if 0 ≤ x16 then (if x16 < (x14.length : Int) then (if rdOf false x14 x16 = true then (if x16 < (x3.length : Int) then (least_blocks.l0 k (x3.set (x16 : Int).toNat 1) x14 x15 (wrap64 (x16 + 1)) x102000 x102001 x102002) else (none)) else (least_blocks.l0 k x3 x14 x15 (wrap64 (x16 + 1)) x102000 x102001 x102002)) else (none)) else (none)) else (least_blocks.l1 k x3 0 x102000 x102001 x102002)
def least_blocks.l1 : Nat → List Int → Int → Int → List (List Int) → List Bool → Option (List Int)
 | 0, _, _, _, _, _ => none
 | k + 1, x3, x6, x102000, x102001, x102002 => least_blocks.l2 k x3 x6 x6 x102000 0 x102000 x102001 x102002
def least_blocks.l2 : Nat → List Int → Int → Int → Int → Int → Int → List (List Int) → List Bool → Option (List Int)
 | 0, _, _, _, _, _, _, _, _ => none
 | k + 1, x3, x6, x7, x28, x29, x102000, x102001, x102002 => if x29 < x28 then ((least_split.f x102000 x102001 x102002 x3 x29).bind fun bt107 => (least_blocks.l2 k bt107.1 bt107.2 x7 x28 (wrap64 (x29 + 1)) x102000 x102001 x102002)) else (if x6 = x7 then (some x3) else (least_blocks.l1 k x3 x6 x102000 x102001 x102002))
end
def least_blocks.f (k : Nat) (a0_0 : Int) (l0_1 : List (List Int)) (l0_2 : List Bool) : Option (List Int) := if 0 ≤ (l0_1.length : Int) then (if ((l0_1.length : Int) : Int).toNat ≤ 35184372088832 then (least_blocks.l0 k (List.replicate ((l0_1.length : Int) : Int).toNat 0) l0_2 (l0_2.length : Int) 0 a0_0 l0_1 l0_2) else (none)) else (none)
theorem least_blocks.mono_l : ∀ k, (∀ y0 y1 y2 y3 y4 y5 y6, LeO (least_blocks.l0 k y0 y1 y2 y3 y4 y5 y6) (least_blocks.l0 (k + 1) y0 y1 y2 y3 y4 y5 y6)) ∧ (∀ y0 y1 y2 y3 y4, LeO (least_blocks.l1 k y0 y1 y2 y3 y4) (least_blocks.l1 (k + 1) y0 y1 y2 y3 y4)) ∧ (∀ y0 y1 y2 y3 y4 y5 y6 y7, LeO (least_blocks.l2 k y0 y1 y2 y3 y4 y5 y6 y7) (least_blocks.l2 (k + 1) y0 y1 y2 y3 y4 y5 y6 y7))
 | 0 => ⟨fun _ _ _ _ _ _ _ r h => by simp [least_blocks.l0] at h, fun _ _ _ _ _ r h => by simp [least_blocks.l1] at h, fun _ _ _ _ _ _ _ _ r h => by simp [least_blocks.l2] at h⟩
 | k + 1 => by
  obtain ⟨ih0, ih1, ih2⟩ := least_blocks.mono_l k; refine ⟨?_, ?_, ?_⟩
  ·intro y0 y1 y2 y3 y4 y5 y6
   unfold least_blocks.l0
   repeat' first
   | (with_reducible exact ih0 _ _ _ _ _ _ _)
   | (with_reducible exact ih1 _ _ _ _ _)
   | (with_reducible exact ih2 _ _ _ _ _ _ _ _)
   | (with_reducible exact LeO.refl _)
   | (with_reducible exact LeO.none _)
   | (with_reducible refine LeO.ite ?_ ?_)
   | (with_reducible refine LeO.bind ?_ (fun _ => ?_))
   | exact ih0 _ _ _ _ _ _ _
   | exact ih1 _ _ _ _ _
   | exact ih2 _ _ _ _ _ _ _ _
   | exact LeO.none _
   | refine LeO.ite ?_ ?_
   | refine LeO.bind ?_ (fun _ => ?_)
  ·intro y0 y1 y2 y3 y4
   unfold least_blocks.l1
   repeat' first
   | (with_reducible exact ih0 _ _ _ _ _ _ _)
   | (with_reducible exact ih1 _ _ _ _ _)
   | (with_reducible exact ih2 _ _ _ _ _ _ _ _)
   | (with_reducible exact LeO.refl _)
   | (with_reducible exact LeO.none _)
   | (with_reducible refine LeO.ite ?_ ?_)
   | (with_reducible refine LeO.bind ?_ (fun _ => ?_))
   | exact ih0 _ _ _ _ _ _ _
   | exact ih1 _ _ _ _ _
   | exact ih2 _ _ _ _ _ _ _ _
   | exact LeO.none _
   | refine LeO.ite ?_ ?_
   | refine LeO.bind ?_ (fun _ => ?_)
  ·intro y0 y1 y2 y3 y4 y5 y6 y7
   unfold least_blocks.l2
   repeat' first
   | (with_reducible exact ih0 _ _ _ _ _ _ _)
   | (with_reducible exact ih1 _ _ _ _ _)
   | (with_reducible exact ih2 _ _ _ _ _ _ _ _)
   | (with_reducible exact LeO.refl _)
   | (with_reducible exact LeO.none _)
   | (with_reducible refine LeO.ite ?_ ?_)
   | (with_reducible refine LeO.bind ?_ (fun _ => ?_))
   | exact ih0 _ _ _ _ _ _ _
   | exact ih1 _ _ _ _ _
   | exact ih2 _ _ _ _ _ _ _ _
   | exact LeO.none _
   | refine LeO.ite ?_ ?_
   | refine LeO.bind ?_ (fun _ => ?_)
theorem least_blocks.mono : ∀ a0 a1 a2 k, LeO (least_blocks.f k a0 a1 a2) (least_blocks.f (k + 1) a0 a1 a2) := by
 intro a0 a1 a2 k; obtain ⟨ih0, ih1, ih2⟩ := least_blocks.mono_l k
 unfold least_blocks.f
 repeat' first
   | (with_reducible exact ih0 _ _ _ _ _ _ _)
   | (with_reducible exact ih1 _ _ _ _ _)
   | (with_reducible exact ih2 _ _ _ _ _ _ _ _)
   | (with_reducible exact LeO.refl _)
   | (with_reducible exact LeO.none _)
   | (with_reducible refine LeO.ite ?_ ?_)
   | (with_reducible refine LeO.bind ?_ (fun _ => ?_))
   | exact ih0 _ _ _ _ _ _ _
   | exact ih1 _ _ _ _ _
   | exact ih2 _ _ _ _ _ _ _ _
   | exact LeO.none _
   | refine LeO.ite ?_ ?_
   | refine LeO.bind ?_ (fun _ => ?_)
set_option maxHeartbeats 8000000 in
set_option maxRecDepth 100000 in
theorem least_blocks.calls (k : Nat) (a0_0 : Int) (A0_1 : Option Addr) (c0_1 : Nat) (l0_1 : List (List Int)) (A0_2 : Option Addr) (c0_2 : Nat) (l0_2 : List Bool) (r : List Int) (w : World) (hr0_1 : Kd.C (Kd.slice 3 (Kd.int .i64)) w A0_1 l0_1.length l0_1) (hc0_1 : l0_1.length ≤ c0_1) (hr0_2 : Kd.C Kd.bool w A0_2 l0_2.length l0_2) (hc0_2 : l0_2.length ≤ c0_2) (h : least_blocks.f k a0_0 l0_1 l0_2 = some r) :
  Calls Try.prog 97 #[.agg #[.int .i64 a0_0, .slice A0_1 l0_1.length c0_1, .slice A0_2 l0_2.length c0_2]] w fun e w' => ∃ v0_ : Value, e = .returned (v0_) ∧ Kd.R (Kd.int .i64) 3 w' w.heap.size (fun _ => True) v0_ r ∧ Below w.heap.size w w' := by
 have hu25 := Try.underlying25; have HR0_1 := Q0.mk hr0_1; have HC0_1 := Q0.mk hc0_1; clear hr0_1 hc0_1; have HR0_2 := Q0.mk hr0_2; have HC0_2 := Q0.mk hc0_2; clear hr0_2 hc0_2; have HB := Q0.mk (Below.refl w.heap.size w); have H : (if 0 ≤ (l0_1.length : Int) then (if ((l0_1.length : Int) : Int).toNat ≤ 35184372088832 then (least_blocks.l0 k (List.replicate ((l0_1.length : Int) : Int).toNat 0) l0_2 (l0_2.length : Int) 0 a0_0 l0_1 l0_2) else (none)) else (none)) = some r := h; clear h
 by_cases c2 : 0 ≤ (l0_1.length : Int)
 ·rw [if_pos c2] at H; have c2b0 := eq_true c2; have c2b1 : decide (0 ≤ (l0_1.length : Int)) = true := decide_eq_true c2; clear c2
  by_cases c3 : ((l0_1.length : Int) : Int).toNat ≤ 35184372088832
  ·rw [if_pos c3] at H; have c3b0 := eq_true c3; have c3b1 : decide (((l0_1.length : Int) : Int).toNat ≤ 35184372088832) = true := decide_eq_true c3; clear c3; obtain ⟨y102, hy102⟩ : ∃ y_ : List Int, y_ = (List.replicate ((l0_1.length : Int) : Int).toNat 0) := ⟨_, rfl⟩; (replace H : (least_blocks.l0 k y102 l0_2 (l0_2.length : Int) 0 a0_0 l0_1 l0_2) = some r := by rw [hy102]; exact H); have Ny102 := Q0.mk hy102; clear hy102; have H' := Q0.mk H; clear H; go_enter Try.func97, Try.ntmps97; (go_wp2_with (first | ((with_reducible refine gate_dst (N := 1) rfl ?_); refine box_event ?hg (N := 1) ?hd (cs := #[.int .i64 a0_0, .slice A0_1 l0_1.length c0_1, .slice A0_2 l0_2.length c0_2]) (t := 25) ?hr ?_; (case hd => rfl); (case hg => rfl); (case hr => first | (go_simp; done) | (go_simp; rfl)); intro gb101 hg w4 hbox hb; have n0_ := Q0.mk (bsz (qB HB.1) hb); have n1_ := Q0.mk (hbox); have n2_ := Q0.mk ((by rw [hg]; exact (below_size (qB HB.1)) : w.heap.size ≤ gb101)); have n3_ := Q0.mk ((by rw [hg]; exact (below_size (qB HB.1)) : w.heap.size ≤ gb101)); clear HB; have HB := n0_; have BK101 := n1_; have GW101 := n2_; have GE101 := n3_; clear n0_ n1_ n2_ n3_; clear hb hbox hg; obtain ⟨hcz5_0, hcz5_1, hcz5_2⟩ := cells3 BK101.1; obtain ⟨hfz5_0, hfz5_1, hfz5_2⟩ := froz3 BK101.1) | ((with_reducible refine gate_dst (N := 12) rfl ?_); refine Kd.R_make (Kd.int .i64) _ 3 rfl (N := 12) rfl 45 _ _ rfl (l0_1.length : Int) rfl rfl Try.underlying45 (.int .i64 0) 8 info3 rfl (by decide) (by omega) 0 (ok := fun _ => True) (okp := fun _ => True) rfl (fun _ hk => hk) trivial (qd) (Nat.le_trans (Nat.mul_le_mul_right _ (qd : (l0_1.length : Int).toNat ≤ 35184372088832)) (by omega)) (Below.refl _ _) (Nat.le_refl _) ?_; intro v103 w6 ho7 hb hg_ hnew_; clear hg_ hnew_; (first | rw [← Ny102.1] at ho7 | (simp only [Int.reduceToNat] at ho7; rw [← Ny102.1] at ho7)); have n0_ := Q0.mk (Kd.R_lower ho7 (below_size (qB HB.1))); have n1_ := Q0.mk (bb BK101.1 hb); have n2_ := Q0.mk (bsz (qB HB.1) hb); clear BK101; clear HB; have HO104 := n0_; have BK101 := n1_; have HB := n2_; clear n0_ n1_ n2_; clear hb ho7; obtain ⟨hcz8_0, hcz8_1, hcz8_2⟩ := cells3 BK101.1; obtain ⟨hfz8_0, hfz8_1, hfz8_2⟩ := froz3 BK101.1))); (go_loopg [16] k (fun kq v16 w' => ∃ (x3_1 : List Int) (x16_1 : Int), v16 = .int .i64 x16_1 ∧ Q0 (least_blocks.l0 kq x3_1 l0_2 (l0_2.length : Int) x16_1 a0_0 l0_1 l0_2 = some r) ∧ Q0 (kq ≤ k) ∧ Q0 (Kd.R (Kd.int .i64) 3 w' w.heap.size (fun _ => True) v103 x3_1) ∧ Q0 (w'.heap[gb101]? = some (.cells #[.int .i64 a0_0, (.slice A0_1 l0_1.length c0_1), (.slice A0_2 l0_2.length c0_2)] 25 (0, 0))) ∧ Q0 (Below w.heap.size w w')))
   case atStart => exact ⟨(y102), (0), rfl, H', ⟨Nat.le_refl _⟩, ⟨qr HO104.1⟩, ⟨qb BK101.1⟩, ⟨qB HB.1⟩⟩
   case round =>
    clear H'; (try clear c2); (try clear c2b0); (try clear c2b1); (try clear p2); (try clear c3); (try clear c3b0); (try clear c3b1); (try clear hcz5_0); (try clear hcz5_1); (try clear hcz5_2); (try clear hcz8_0); (try clear hcz8_1); (try clear hcz8_2); (try clear hfz5_0); (try clear hfz5_1); (try clear hfz5_2); (try clear hfz8_0); (try clear hfz8_1); (try clear hfz8_2); obtain ⟨x3_1, x16_1, rfl, HA, HK1, HO_3, BK101, HB⟩ := hrel
    cases gk with
    | zero => exact absurd HA.1 (by simp [least_blocks.l0])
    | succ k1 =>
     have H := HA.1; clear HA; simp only [least_blocks.l0] at H
     by_cases c9 : x16_1 < (l0_2.length : Int)
     ·rw [if_pos c9] at H; have c9b0 : decide (x16_1 < (l0_2.length : Int)) = true := decide_eq_true c9; clear c9
      by_cases c10 : 0 ≤ x16_1
      ·rw [if_pos c10] at H; have c10b0 : decide (0 ≤ x16_1) = true := decide_eq_true c10; clear c10
       by_cases c11 : x16_1 < (l0_2.length : Int)
       ·rw [if_pos c11] at H; have c11b0 : decide (x16_1 < (l0_2.length : Int)) = true := decide_eq_true c11; clear c11; obtain ⟨bq12, hbq12⟩ : ∃ b_ : Bool, b_ = (rdOf false l0_2 x16_1) := ⟨_, rfl⟩; (replace H : (if bq12 = true then (if x16_1 < (x3_1.length : Int) then (least_blocks.l0 k1 (x3_1.set (x16_1 : Int).toNat 1) l0_2 (l0_2.length : Int) (wrap64 (x16_1 + 1)) a0_0 l0_1 l0_2) else (none)) else (least_blocks.l0 k1 x3_1 l0_2 (l0_2.length : Int) (wrap64 (x16_1 + 1)) a0_0 l0_1 l0_2)) = some r := by rw [← hbq12] at H; exact H); have Nbq12 := Q0.mk hbq12; clear hbq12
        by_cases c13 : bq12 = true
        ·subst c13; (have H1 : (if x16_1 < (x3_1.length : Int) then (least_blocks.l0 k1 (x3_1.set (x16_1 : Int).toNat 1) l0_2 (l0_2.length : Int) (wrap64 (x16_1 + 1)) a0_0 l0_1 l0_2) else (none)) = some r := by rw [if_pos rfl] at H; exact H); clear H; have H := H1; clear H1
         by_cases c14 : x16_1 < (x3_1.length : Int)
         ·rw [if_pos c14] at H; have c14b0 : decide (x16_1 < (x3_1.length : Int)) = true := decide_eq_true c14; clear c14; obtain ⟨y106, hy106⟩ : ∃ y_ : List Int, y_ = (x3_1.set (x16_1 : Int).toNat 1) := ⟨_, rfl⟩; (replace H : (least_blocks.l0 k1 y106 l0_2 (l0_2.length : Int) (wrap64 (x16_1 + 1)) a0_0 l0_1 l0_2) = some r := by rw [hy106]; exact H); have Ny106 := Q0.mk hy106; clear hy106; have H' := Q0.mk H; clear H; have p105 : 0 ≤ (x16_1 : Int) := qd; have q105 : x16_1 < (l0_2.length : Int) := qd; obtain ⟨ad105, e105, hx105_0⟩ := Kd.at_bool HR0_2.1 x16_1 p105 q105; (try rw [← Nbq12.1] at hx105_0); cases e105; replace hx105_0 := (HB.1.cell (World.block_lt_of_cell? w _ hx105_0)).trans hx105_0; replace p105 := eq_true p105; replace q105 := eq_true q105; have p15 : 0 ≤ (x16_1 : Int) := qd; have q15 : (x16_1 : Int) < ((x3_1.length : Int) : Int) := qd; (obtain ⟨go15, co15, eo15, gb15, gl15, cl15, HG15⟩ := Kd.R_form HO_3.1 (by omega)); (first | cases eo15 | (injection eo15 with ea_ en_ ec_; (first | subst ea_ | (injection ea_ with ea_; subst ea_)); subst ec_; clear en_)); have GB15 := Q0.mk gb15; have GG15 := Q0.mk HG15; clear gb15 gl15 HG15; obtain ⟨hx15_0, hf15_0⟩ := Kd.R_celln 0 HO_3.1 (x16_1 : Int) p15 q15; replace p15 := eq_true p15; replace q15 := eq_true q15; have HP16 := Kd.R_putg HO_3.1 (x16_1 : Int) 1; (go_wp2_with (first | ((with_reducible refine gate_store (t := 3) (p := 24) rfl ?_); refine store_event (t := 3) (p := 24) (v := ?vo_w17) (w1 := (wr.setCell ⟨go15, (x16_1 : Int).toNat, none⟩ (.int .i64 1))) ?hg ?ho ?hn ?hr ?_; (case ho => rfl); (case hg => rfl); (case hn => rfl); (case hr => first | (go_simp; done) | (go_simp; rfl)); intro w17 hw; have hg : wr.grownBy w17 (some go15) := (by rw [hw]; exact HP16.2); have hp_ : Kd.R (Kd.int .i64) 3 w17 w.heap.size (fun _ => True) (.slice (some ⟨go15, 0, none⟩) x3_1.length co15) y106 := (by rw [hw, Ny106.1]; exact HP16.1); clear HP16; have n0_ := Q0.mk (hp_); have n1_ := Q0.mk (bG BK101.1 hg (Kd.R_ne HO_3.1 BK101.1 (by decide))); have n2_ := Q0.mk ((by rw [hw]; exact bS (HB.1) GB15.1 : Below w.heap.size w w17)); clear HO_3; clear BK101; clear HB; have HO_3 := n0_; have BK101 := n1_; have HB := n2_; clear n0_ n1_ n2_; clear hg hw hp_))); go_roundg k1
          case measure => have := HK1.1; omega
          case rel => exact ⟨(y106), (wrap64 (x16_1 + 1)), rfl, H', ⟨by have := HK1.1; omega⟩, ⟨qr HO_3.1⟩, ⟨qb BK101.1⟩, ⟨qB HB.1⟩⟩
         ·rw [if_neg c14] at H; (exact absurd H (by simp))
        ·replace c13 := Bool.eq_false_iff.mpr c13; subst c13; (have H1 : (least_blocks.l0 k1 x3_1 l0_2 (l0_2.length : Int) (wrap64 (x16_1 + 1)) a0_0 l0_1 l0_2) = some r := by rw [if_neg (show ¬ (false = true) by decide)] at H; exact H); clear H; have H := H1; clear H1; have H' := Q0.mk H; clear H; have p105 : 0 ≤ (x16_1 : Int) := qd; have q105 : x16_1 < (l0_2.length : Int) := qd; obtain ⟨ad105, e105, hx105_0⟩ := Kd.at_bool HR0_2.1 x16_1 p105 q105; (try rw [← Nbq12.1] at hx105_0); cases e105; replace hx105_0 := (HB.1.cell (World.block_lt_of_cell? w _ hx105_0)).trans hx105_0; replace p105 := eq_true p105; replace q105 := eq_true q105; go_wp2; go_roundg k1
         case measure => have := HK1.1; omega
         case rel => exact ⟨(x3_1), (wrap64 (x16_1 + 1)), rfl, H', ⟨by have := HK1.1; omega⟩, ⟨qr HO_3.1⟩, ⟨qb BK101.1⟩, ⟨qB HB.1⟩⟩
       ·rw [if_neg c11] at H; (exact absurd H (by simp))
      ·rw [if_neg c10] at H; (exact absurd H (by simp))
     ·rw [if_neg c9] at H; have c9b0 : decide (x16_1 < (l0_2.length : Int)) = false := decide_eq_false c9; clear c9; have H' := Q0.mk H; clear H; go_wp2; (go_loopg [3, 6] k1 (fun kq v3 v6 w' => ∃ (x3_2 : List Int) (x6_2 : Int), v6 = .int .i64 x6_2 ∧ Q0 (least_blocks.l1 kq x3_2 x6_2 a0_0 l0_1 l0_2 = some r) ∧ Q0 (kq ≤ k1) ∧ Q0 (Kd.R (Kd.int .i64) 3 w' w.heap.size (fun _ => True) v3 x3_2) ∧ Q0 (w'.heap[gb101]? = some (.cells #[.int .i64 a0_0, (.slice A0_1 l0_1.length c0_1), (.slice A0_2 l0_2.length c0_2)] 25 (0, 0))) ∧ Q0 (Below w.heap.size w w')))
      case atStart => exact ⟨(x3_1), (0), rfl, H', ⟨Nat.le_refl _⟩, ⟨qr HO_3.1⟩, ⟨qb BK101.1⟩, ⟨qB HB.1⟩⟩
      case round =>
       clear H'; (try clear c1); (try clear p1); (try clear q1); (try clear hx1); (try clear hf1); (try clear c2); (try clear c2b0); (try clear c2b1); (try clear p2); (try clear c3); (try clear c3b0); (try clear c3b1); (try clear p6); (try clear c9); (try clear c9b0); (try clear c10); (try clear c10b0); (try clear p10); (try clear q10); (try clear hx10); (try clear c11); (try clear c11b0); (try clear q12); (try clear c13); (try clear c14); (try clear c14b0); (try clear p15); (try clear q15); (try clear hx15); (try clear hf15); (try clear hcz5_0); (try clear hcz5_1); (try clear hcz5_2); (try clear hcz8_0); (try clear hcz8_1); (try clear hcz8_2); (try clear hfz5_0); (try clear hfz5_1); (try clear hfz5_2); (try clear hfz8_0); (try clear hfz8_1); (try clear hfz8_2); (try clear hx105_0); (try clear hx15_0); (try clear p105); (try clear p15); (try clear p2); (try clear q105); (try clear q15); obtain ⟨x3_2, x6_2, rfl, HA, HK2, HO_3, BK101, HB⟩ := hrel
       cases gk with
       | zero => exact absurd HA.1 (by simp [least_blocks.l1])
       | succ k2 =>
        have H := HA.1; clear HA; simp only [least_blocks.l1] at H; have H' := Q0.mk H; clear H; obtain ⟨hcz18_0, hcz18_1, hcz18_2⟩ := cells3 BK101.1; obtain ⟨hfz18_0, hfz18_1, hfz18_2⟩ := froz3 BK101.1; go_wp2; (go_loopg [3, 6, 29] k2 (fun kq v3 v6 v29 w' => ∃ (x3_3 : List Int) (x6_3 : Int) (x29_3 : Int), v6 = .int .i64 x6_3 ∧ v29 = .int .i64 x29_3 ∧ Q0 (least_blocks.l2 kq x3_3 x6_3 x6_2 a0_0 x29_3 a0_0 l0_1 l0_2 = some r) ∧ Q0 (kq ≤ k2) ∧ Q0 (Kd.R (Kd.int .i64) 3 w' w.heap.size (fun _ => True) v3 x3_3) ∧ Q0 (w'.heap[gb101]? = some (.cells #[.int .i64 a0_0, (.slice A0_1 l0_1.length c0_1), (.slice A0_2 l0_2.length c0_2)] 25 (0, 0))) ∧ Q0 (Below w.heap.size w w')))
        case atStart => exact ⟨(x3_2), (x6_2), (0), rfl, rfl, H', ⟨Nat.le_refl _⟩, ⟨qr HO_3.1⟩, ⟨qb BK101.1⟩, ⟨qB HB.1⟩⟩
        case round =>
         clear H'; (try clear c1); (try clear p1); (try clear q1); (try clear hx1); (try clear hf1); (try clear c2); (try clear c2b0); (try clear c2b1); (try clear p2); (try clear c3); (try clear c3b0); (try clear c3b1); (try clear p6); (try clear c9); (try clear c9b0); (try clear c10); (try clear c10b0); (try clear p10); (try clear q10); (try clear hx10); (try clear c11); (try clear c11b0); (try clear q12); (try clear c13); (try clear c14); (try clear c14b0); (try clear p15); (try clear q15); (try clear hx15); (try clear hf15); (try clear hcz18_0); (try clear hcz18_1); (try clear hcz18_2); (try clear hcz5_0); (try clear hcz5_1); (try clear hcz5_2); (try clear hcz8_0); (try clear hcz8_1); (try clear hcz8_2); (try clear hfz18_0); (try clear hfz18_1); (try clear hfz18_2); (try clear hfz5_0); (try clear hfz5_1); (try clear hfz5_2); (try clear hfz8_0); (try clear hfz8_1); (try clear hfz8_2); (try clear hx105_0); (try clear hx15_0); (try clear p1); (try clear p10); (try clear p105); (try clear p15); (try clear p2); (try clear p6); (try clear q1); (try clear q10); (try clear q105); (try clear q12); (try clear q15); obtain ⟨x3_3, x6_3, x29_3, rfl, rfl, HA, HK3, HO_3, BK101, HB⟩ := hrel
         cases gk with
         | zero => exact absurd HA.1 (by simp [least_blocks.l2])
         | succ k3 =>
          have H := HA.1; clear HA; simp only [least_blocks.l2] at H
          by_cases c19 : x29_3 < a0_0
          ·rw [if_pos c19] at H; have c19b0 : decide (x29_3 < a0_0) = true := decide_eq_true c19; clear c19; replace H := Option.bind_eq_some_iff.mp H; obtain ⟨⟨t107, t110⟩, A200, H⟩ := H; replace H : (least_blocks.l2 k3 t107 t110 x6_2 a0_0 (wrap64 (x29_3 + 1)) a0_0 l0_1 l0_2) = some r := H; have A20 := Q0.mk A200; clear A200; have H' := Q0.mk H; clear H; obtain ⟨hcz21_0, hcz21_1, hcz21_2⟩ := cells3 BK101.1; obtain ⟨hfz21_0, hfz21_1, hfz21_2⟩ := froz3 BK101.1; obtain ⟨Ao22, co22, eo22⟩ := Kd.R_slice HO_3.1; subst eo22; (go_wp2_with (first | ((with_reducible refine gate_callee (f := 119) rfl ?_); refine goesL_ (some 36) rfl rfl Try.func119 (by kernel_rfl) rfl #[.agg #[.int .i64 a0_0, .slice A0_1 l0_1.length c0_1, .slice A0_2 l0_2.length c0_2], .slice Ao22 x3_3.length co22, .int .i64 x29_3] rfl (by (try simp only [List.map_toArray, List.map_cons, List.map_nil]); first | done | rfl | (simp only [List.length_drop, List.length_take]; rfl)) ?_; (with_reducible refine (least_split.calls a0_0 _ _ l0_1 _ _ l0_2 _ _ x3_3 x29_3 t107 t110 _ ?side1 ?side2 ?side3 ?side4 ?side5 ?side6 A20.1).mono ?_); (case side1 => repeat (first | exact (Kd.C_below HR0_1.1 HB.1) | (with_reducible refine Kd.C_alloc ?_ _) | (with_reducible refine Kd.C_drewN ?_ _) | (with_reducible refine Kd.C_drew ?_))); (case side2 => exact HC0_1.1); (case side3 => repeat (first | exact (Kd.C_below HR0_2.1 HB.1) | (with_reducible refine Kd.C_alloc ?_ _) | (with_reducible refine Kd.C_drewN ?_ _) | (with_reducible refine Kd.C_drew ?_))); (case side4 => exact HC0_2.1); (case side5 => repeat (first | exact (Kd.R_reads' HO_3.1).2.2 | (with_reducible refine Kd.C_alloc ?_ _) | (with_reducible refine Kd.C_drewN ?_ _) | (with_reducible refine Kd.C_drew ?_))); (case side6 => exact (Kd.R_reads' HO_3.1).2.1); rintro e w23 ⟨v108, rfl, ho0, hb⟩; refine ⟨_, rfl, ?_⟩; have n0_ := Q0.mk (Kd.R_elder' (qr HO_3.1) (Kd.R_base ho0) hb); have n1_ := Q0.mk (Kd.R_lower (Kd.R_new' ho0 (Kd.R_lt (qr HO_3.1))) (below_size (qB HB.1))); have n2_ := Q0.mk (bb BK101.1 hb); have n3_ := Q0.mk (bsz (qB HB.1) hb); clear HO_3; clear BK101; clear HB; have HO_3 := n0_; have HO109 := n1_; have BK101 := n2_; have HB := n3_; clear n0_ n1_ n2_ n3_; (try clear hb); (try clear hb2); (try clear hk); (try clear hi); (try clear ho0)))); go_roundg k3
           case measure => have := HK1.1; have := HK2.1; have := HK3.1; omega
           case rel => exact ⟨(t107), (t110), (wrap64 (x29_3 + 1)), rfl, rfl, H', ⟨by have := HK1.1; have := HK2.1; have := HK3.1; omega⟩, ⟨Kd.R_mono HO109.1 (fun _ hk => trivial)⟩, ⟨qb BK101.1⟩, ⟨qB HB.1⟩⟩
          ·rw [if_neg c19] at H; have c19b0 : decide (x29_3 < a0_0) = false := decide_eq_false c19; clear c19
           by_cases c24 : x6_3 = x6_2
           ·rw [if_pos c24] at H; have c24b0 : (x6_3 == x6_2) = true := beq_iff_eq.mpr c24; have c24b1 : (x6_3 != x6_2) = false := bne_eq_false_iff_eq.mpr c24; clear c24; obtain rfl := Option.some.inj H; go_wp2; go_ret; (exact ⟨_, rfl, by (with_reducible repeat (first | apply Kd.R_alloc | apply Kd.R_drewN | apply Kd.R_drew)); exact HO_3.1, qB HB.1⟩)
           ·rw [if_neg c24] at H; have c24b0 : (x6_3 == x6_2) = false := beq_eq_false_iff_ne.mpr c24; have c24b1 : (x6_3 != x6_2) = true := bne_iff_ne.mpr c24; have H' := Q0.mk H; clear H; go_wp2; go_roundg k3
            case measure => have := HK1.1; have := HK2.1; have := HK3.1; omega
            case rel => exact ⟨(x3_3), (x6_3), rfl, H', ⟨by have := HK1.1; have := HK2.1; have := HK3.1; omega⟩, ⟨qr HO_3.1⟩, ⟨qb BK101.1⟩, ⟨qB HB.1⟩⟩
  ·rw [if_neg c3] at H; (exact absurd H (by simp))
 ·rw [if_neg c2] at H; (exact absurd H (by simp))

end Go.Proofs.Ytelkjbacdpmnfaa.A
