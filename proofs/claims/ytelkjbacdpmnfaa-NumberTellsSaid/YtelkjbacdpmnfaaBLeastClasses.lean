/- Contracts. -/
import Derived.Test.YtelkjbacdpmnfaaB0
import Derived.Test.YtelkjbacdpmnfaaBShort
import Derived.Test.YtelkjbacdpmnfaaBWordsB
import Derived.Test.YtelkjbacdpmnfaaBLeastBlocks
import Derived.Test.YtelkjbacdpmnfaaBSlicesIndexIntInt
import Derived.Test.YtelkjbacdpmnfaaBThompsonGood
namespace Go.Proofs.Ytelkjbacdpmnfaa.A
open Go.RowKit Go.W_.PrintWords Go.W_.PrintLast Go.W_.PrintMore
attribute [local go_sem] max2_int min2_int max_two min_two max_three min_three max_four min_four
set_option linter.unusedVariables false
set_option linter.unusedSimpArgs false

def least_Classes.l0 : Nat → List Int → List Int → List Int → Int → Int → Option (List Int)
 | 0, _, _, _, _, _ => none
 | k + 1, x3, x4, x12, x13, x14 => if x14 < x13 then (if 0 ≤ x14 then (if x14 < (x12.length : Int) then ((slices_Index_int_int.f k x3 (rd x12 x14)).bind fun t107 => (if x4.length < 17592186044416 then (least_Classes.l0 k x3 (x4 ++ [t107]) x12 x13 (wrap64 (x14 + 1))) else (none))) else (none)) else (none)) else (some x4)
def least_Classes.f (k : Nat) (a0_0 : Int) (l0_1 : List (List Int)) (l0_2 : List Bool) : Option (List Int) := (thompson_Good.f a0_0 l0_1 l0_2).bind fun t102 => (if t102 = true then ((least_blocks.f k a0_0 l0_1 l0_2).bind fun t103 => (least_Classes.l0 k t103 ([] : List Int) t103 (t103.length : Int) 0)) else (some ([] : List Int)))
theorem least_Classes.mono_l : ∀ k, (∀ y0 y1 y2 y3 y4, LeO (least_Classes.l0 k y0 y1 y2 y3 y4) (least_Classes.l0 (k + 1) y0 y1 y2 y3 y4))
 | 0 => fun _ _ _ _ _ r h => by simp [least_Classes.l0] at h
 | k + 1 => by
  have ih0 := least_Classes.mono_l k
  ·intro y0 y1 y2 y3 y4
   unfold least_Classes.l0
   repeat' first
   | (with_reducible exact ih0 _ _ _ _ _)
   | (with_reducible exact least_blocks.mono _ _ _ _)
   | (with_reducible exact slices_Index_int_int.mono _ _ _)
   | (with_reducible exact LeO.refl _)
   | (with_reducible exact LeO.none _)
   | (with_reducible refine LeO.ite ?_ ?_)
   | (with_reducible refine LeO.bind ?_ (fun _ => ?_))
   | exact ih0 _ _ _ _ _
   | exact least_blocks.mono _ _ _ _
   | exact slices_Index_int_int.mono _ _ _
   | exact LeO.none _
   | refine LeO.ite ?_ ?_
   | refine LeO.bind ?_ (fun _ => ?_)
theorem least_Classes.mono : ∀ a0 a1 a2 k, LeO (least_Classes.f k a0 a1 a2) (least_Classes.f (k + 1) a0 a1 a2) := by
 intro a0 a1 a2 k; have ih0 := least_Classes.mono_l k
 unfold least_Classes.f
 repeat' first
   | (with_reducible exact ih0 _ _ _ _ _)
   | (with_reducible exact least_blocks.mono _ _ _ _)
   | (with_reducible exact slices_Index_int_int.mono _ _ _)
   | (with_reducible exact LeO.refl _)
   | (with_reducible exact LeO.none _)
   | (with_reducible refine LeO.ite ?_ ?_)
   | (with_reducible refine LeO.bind ?_ (fun _ => ?_))
   | exact ih0 _ _ _ _ _
   | exact least_blocks.mono _ _ _ _
   | exact slices_Index_int_int.mono _ _ _
   | exact LeO.none _
   | refine LeO.ite ?_ ?_
   | refine LeO.bind ?_ (fun _ => ?_)
set_option maxHeartbeats 8000000 in
set_option maxRecDepth 100000 in
theorem least_Classes.calls (k : Nat) (a0_0 : Int) (A0_1 : Option Addr) (c0_1 : Nat) (l0_1 : List (List Int)) (A0_2 : Option Addr) (c0_2 : Nat) (l0_2 : List Bool) (r : List Int) (w : World) (hr0_1 : Kd.C (Kd.slice 3 (Kd.int .i64)) w A0_1 l0_1.length l0_1) (hc0_1 : l0_1.length ≤ c0_1) (hr0_2 : Kd.C Kd.bool w A0_2 l0_2.length l0_2) (hc0_2 : l0_2.length ≤ c0_2) (h : least_Classes.f k a0_0 l0_1 l0_2 = some r) :
  Calls Try.prog 54 #[.agg #[.int .i64 a0_0, .slice A0_1 l0_1.length c0_1, .slice A0_2 l0_2.length c0_2]] w fun e w' => ∃ v0_ : Value, e = .returned (v0_) ∧ Kd.R (Kd.int .i64) 3 w' w.heap.size (fun _ => True) v0_ r ∧ Below w.heap.size w w' := by
 have hu25 := Try.underlying25; have HR0_1 := Q0.mk hr0_1; have HC0_1 := Q0.mk hc0_1; clear hr0_1 hc0_1; have HR0_2 := Q0.mk hr0_2; have HC0_2 := Q0.mk hc0_2; clear hr0_2 hc0_2; have HB := Q0.mk (Below.refl w.heap.size w); (have H : ((thompson_Good.f a0_0 l0_1 l0_2).bind fun t102 => (if t102 = true then ((least_blocks.f k a0_0 l0_1 l0_2).bind fun t103 => (least_Classes.l0 k t103 ([] : List Int) t103 (t103.length : Int) 0)) else (some ([] : List Int)))) = some r := h); clear h; replace H := Option.bind_eq_some_iff.mp H; obtain ⟨t102, A20, H⟩ := H; (replace H : (if t102 = true then ((least_blocks.f k a0_0 l0_1 l0_2).bind fun t103 => (least_Classes.l0 k t103 ([] : List Int) t103 (t103.length : Int) 0)) else (some ([] : List Int))) = some r := H); have A2 := Q0.mk A20; clear A20
 by_cases c3 : t102 = true
 ·subst c3; (have H1 : ((least_blocks.f k a0_0 l0_1 l0_2).bind fun t103 => (least_Classes.l0 k t103 ([] : List Int) t103 (t103.length : Int) 0)) = some r := by rw [if_pos rfl] at H; exact H); clear H; have H := H1; clear H1; replace H := Option.bind_eq_some_iff.mp H; obtain ⟨t103, A40, H⟩ := H; replace H : (least_Classes.l0 k t103 ([] : List Int) t103 (t103.length : Int) 0) = some r := H; have A4 := Q0.mk A40; clear A40; have H' := Q0.mk H; clear H; go_enter Try.func54, Try.ntmps54; (go_wp2_with (first | ((with_reducible refine gate_dst (N := 1) rfl ?_); refine box_event ?hg (N := 1) ?hd (cs := #[.int .i64 a0_0, .slice A0_1 l0_1.length c0_1, .slice A0_2 l0_2.length c0_2]) (t := 25) ?hr ?_; (case hd => rfl); (case hg => rfl); (case hr => first | (go_simp; done) | (go_simp; rfl)); intro gb101 hg w5 hbox hb; have n0_ := Q0.mk (bsz (qB HB.1) hb); have n1_ := Q0.mk (hbox); have n2_ := Q0.mk ((by rw [hg]; exact (below_size (qB HB.1)) : w.heap.size ≤ gb101)); have n3_ := Q0.mk ((by rw [hg]; exact (below_size (qB HB.1)) : w.heap.size ≤ gb101)); clear HB; have HB := n0_; have BK101 := n1_; have GW101 := n2_; have GE101 := n3_; clear n0_ n1_ n2_ n3_; clear hb hbox hg; obtain ⟨hcz6_0, hcz6_1, hcz6_2⟩ := cells3 BK101.1; obtain ⟨hfz6_0, hfz6_1, hfz6_2⟩ := froz3 BK101.1) | ((with_reducible refine gate_callee (f := 36) rfl ?_); refine goesL_ (some 8) rfl rfl Try.func36 (by kernel_rfl) rfl #[.agg #[.int .i64 a0_0, .slice A0_1 l0_1.length c0_1, .slice A0_2 l0_2.length c0_2]] rfl (by (try simp only [List.map_toArray, List.map_cons, List.map_nil]); first | done | rfl | (simp only [List.length_drop, List.length_take]; rfl)) ?_; (with_reducible refine (thompson_Good.calls a0_0 _ _ l0_1 _ _ l0_2 true _ ?side1 ?side2 ?side3 ?side4 A2.1).mono ?_); (case side1 => exact qC HR0_1.1 HB.1); (case side2 => exact HC0_1.1); (case side3 => exact qC HR0_2.1 HB.1); (case side4 => exact HC0_2.1); rintro e w7 ⟨rfl, hb⟩; refine ⟨_, rfl, ?_⟩; have n0_ := Q0.mk (bb BK101.1 hb); have n1_ := Q0.mk (bsz (qB HB.1) hb); clear BK101; clear HB; have BK101 := n0_; have HB := n1_; clear n0_ n1_; (try clear hb); (try clear hb2); (try clear hk); (try clear hi); obtain ⟨hcz8_0, hcz8_1, hcz8_2⟩ := cells3 BK101.1; obtain ⟨hfz8_0, hfz8_1, hfz8_2⟩ := froz3 BK101.1) | ((with_reducible refine gate_callee (f := 97) rfl ?_); refine goesL_ (some 11) rfl rfl Try.func97 (by kernel_rfl) rfl #[.agg #[.int .i64 a0_0, .slice A0_1 l0_1.length c0_1, .slice A0_2 l0_2.length c0_2]] rfl (by (try simp only [List.map_toArray, List.map_cons, List.map_nil]); first | done | rfl | (simp only [List.length_drop, List.length_take]; rfl)) ?_; (with_reducible refine (least_blocks.calls k a0_0 _ _ l0_1 _ _ l0_2 t103 _ ?side1 ?side2 ?side3 ?side4 A4.1).mono ?_); (case side1 => exact qC HR0_1.1 HB.1); (case side2 => exact HC0_1.1); (case side3 => exact qC HR0_2.1 HB.1); (case side4 => exact HC0_2.1); rintro e w9 ⟨v104, rfl, ho0, hb⟩; refine ⟨_, rfl, ?_⟩; have n0_ := Q0.mk (Kd.R_lower ho0 (below_size (qB HB.1))); have n1_ := Q0.mk (bb BK101.1 hb); have n2_ := Q0.mk (bsz (qB HB.1) hb); clear BK101; clear HB; have HO105 := n0_; have BK101 := n1_; have HB := n2_; clear n0_ n1_ n2_; (try clear hb); (try clear hb2); (try clear hk); (try clear hi); (try clear ho0); obtain ⟨Ao10, co10, eo10⟩ := Kd.R_slice HO105.1; subst eo10))); (go_loopg [4, 14] k (fun kq v4 v14 w' => ∃ (x4_1 : List Int) (x14_1 : Int), v14 = .int .i64 x14_1 ∧ Q0 (least_Classes.l0 kq t103 x4_1 t103 (t103.length : Int) x14_1 = some r) ∧ Q0 (kq ≤ k) ∧ Q0 (Kd.R (Kd.int .i64) 3 w' w.heap.size (fun k_ => some k_ ≠ (v4 : Value).ownBlock) (.slice Ao10 t103.length co10) t103) ∧ Q0 (Kd.R (Kd.int .i64) 3 w' w.heap.size (fun k_ => some k_ ≠ ((.slice Ao10 t103.length co10) : Value).ownBlock ∧ some k_ ≠ ((.slice Ao10 t103.length co10) : Value).ownBlock) v4 x4_1) ∧ Q0 (Kd.R (Kd.int .i64) 3 w' w.heap.size (fun k_ => some k_ ≠ (v4 : Value).ownBlock) (.slice Ao10 t103.length co10) t103) ∧ Q0 (w'.heap[gb101]? = some (.cells #[.int .i64 a0_0, (.slice A0_1 l0_1.length c0_1), (.slice A0_2 l0_2.length c0_2)] 25 (0, 0))) ∧ Q0 (Below w.heap.size w w')))
  case atStart => exact ⟨(([] : List Int)), (0), rfl, H', ⟨Nat.le_refl _⟩, ⟨Kd.R_mono HO105.1 (fun _ hk => (by simp [Value.ownBlock]))⟩, ⟨Kd.R_nil _ _ _ _ _⟩, ⟨Kd.R_mono HO105.1 (fun _ hk => (by simp [Value.ownBlock]))⟩, ⟨qb BK101.1⟩, ⟨qB HB.1⟩⟩
  case round =>
   clear H'; (try clear p2); (try clear c3); (try clear c5); (try clear c9); (try clear hcz6_0); (try clear hcz6_1); (try clear hcz6_2); (try clear hcz8_0); (try clear hcz8_1); (try clear hcz8_2); (try clear hfz6_0); (try clear hfz6_1); (try clear hfz6_2); (try clear hfz8_0); (try clear hfz8_1); (try clear hfz8_2); obtain ⟨x4_1, x14_1, rfl, HA, HK1, HO_3, HO_4, HO_12, BK101, HB⟩ := hrel
   cases gk with
   | zero => exact absurd HA.1 (by simp [least_Classes.l0])
   | succ k1 =>
    have H := HA.1; clear HA; simp only [least_Classes.l0] at H
    by_cases c11 : x14_1 < (t103.length : Int)
    ·rw [if_pos c11] at H; have c11b0 : decide (x14_1 < (t103.length : Int)) = true := decide_eq_true c11; clear c11
     by_cases c12 : 0 ≤ x14_1
     ·rw [if_pos c12] at H; have c12b0 : decide (0 ≤ x14_1) = true := decide_eq_true c12; clear c12
      by_cases c13 : x14_1 < (t103.length : Int)
      ·rw [if_pos c13] at H; have c13b0 : decide (x14_1 < (t103.length : Int)) = true := decide_eq_true c13; clear c13; replace H := Option.bind_eq_some_iff.mp H; obtain ⟨t107, A140, H⟩ := H; replace H : (if x4_1.length < 17592186044416 then (least_Classes.l0 k1 t103 (x4_1 ++ [t107]) t103 (t103.length : Int) (wrap64 (x14_1 + 1))) else (none)) = some r := H; have A14 := Q0.mk A140; clear A140
       by_cases c15 : x4_1.length < 17592186044416
       ·rw [if_pos c15] at H; have LMc15 := Q0.mk c15; clear c15; obtain ⟨y108, hy108⟩ : ∃ y_ : List Int, y_ = (x4_1 ++ [t107]) := ⟨_, rfl⟩; (replace H : (least_Classes.l0 k1 t103 y108 t103 (t103.length : Int) (wrap64 (x14_1 + 1))) = some r := by rw [hy108]; exact H); have Ny108 := Q0.mk hy108; clear hy108; have H' := Q0.mk H; clear H; have p106 : 0 ≤ (x14_1 : Int) := qd; have q106 : x14_1 < (t103.length : Int) := qd; obtain ⟨ad106, e106, hx106_0⟩ := Kd.at_int (Kd.R_reads' HO_12.1).2.2 x14_1 p106 q106; cases e106; replace p106 := eq_true p106; replace q106 := eq_true q106; (go_wp2_with (first | ((with_reducible refine gate_callee (f := 98) rfl ?_); refine goesL_ (some 21) rfl rfl Try.func98 (by kernel_rfl) rfl #[.slice (some ad106) t103.length co10, .int .i64 (rd t103 x14_1)] rfl (by (try simp only [List.map_toArray, List.map_cons, List.map_nil]); first | done | rfl | (simp only [List.length_drop, List.length_take]; rfl)) ?_; (with_reducible refine (slices_Index_int_int.calls k1 _ _ t103 (rd t103 x14_1) t107 _ ?side1 ?side2 A14.1).mono ?_); (case side1 => repeat (first | exact (Kd.R_reads' HO_3.1).2.2 | (with_reducible refine Kd.C_alloc ?_ _) | (with_reducible refine Kd.C_drewN ?_ _) | (with_reducible refine Kd.C_drew ?_))); (case side2 => exact (Kd.R_reads' HO_3.1).2.1); rintro e w' ⟨rfl, ⟨nd, rfl⟩⟩; refine ⟨_, rfl, ?_⟩) | ((with_reducible refine gate_builtin (b := .append) (xs := #[.tmp 18, .tmp 22]) rfl ?_); at_builtin; refine Kd.R_append (Kd.int .i64) (w0 := w) w.heap.size rfl (.tmp 18) (.tmp 22) 45 3 (.int .i64 0) 8 rfl Try.underlying45 info3 rfl (by decide) (by omega) u4 x4_1 t107 [.int .i64 t107] (fun k_ => some k_ ≠ (.slice (some ad106) t103.length co10 : Value).ownBlock ∧ some k_ ≠ (.slice (some ad106) t103.length co10 : Value).ownBlock) (fun _ => False) rfl rfl ?aP (fun _ hk => hk.elim) ?aF ?aO ?aB ?aS ?aL ?_; (case aP => exact rfl); (case aB => exact (by repeat (first | (with_reducible first | exact HB.1 | apply ba | apply pN | apply bD | refine bS ?_ GE101.1) | exact HB.1))); (case aF => exact (fun k_ hk => ⟨Kd.fresh' (Kd.R_lt (by (with_reducible repeat (first | apply Kd.R_alloc | apply Kd.R_drewN | apply Kd.R_drew)); exact HO_3.1)) k_ hk, Kd.fresh' (Kd.R_lt (by (with_reducible repeat (first | apply Kd.R_alloc | apply Kd.R_drewN | apply Kd.R_drew)); exact HO_12.1)) k_ hk⟩)); (case aO => exact (by (with_reducible repeat (first | apply Kd.R_alloc | apply Kd.R_drewN | apply Kd.R_drew)); exact HO_4.1)); (case aS => exact (below_size (by repeat (first | (with_reducible first | exact HB.1 | apply ba | apply pN | apply bD | refine bS ?_ GE101.1) | exact HB.1)))); (case aL => have := LMc15.1; omega); intro v109 w16 ho hb hg hat; rw [← Ny108.1] at ho; have n0_ := Q0.mk (Kd.R_after (ok := (fun _ => True)) (by (with_reducible repeat (first | apply Kd.R_alloc | apply Kd.R_drewN | apply Kd.R_drew)); exact Kd.R_mono HO_3.1 (fun _ hk => ⟨trivial, hk⟩)) hg hat); have n1_ := Q0.mk (Kd.R_after (ok := (fun _ => True)) (by (with_reducible repeat (first | apply Kd.R_alloc | apply Kd.R_drewN | apply Kd.R_drew)); exact Kd.R_mono HO_12.1 (fun _ hk => ⟨trivial, hk⟩)) hg hat); have n2_ := Q0.mk (bG (g := gb101) (o := .cells #[.int .i64 a0_0, .slice A0_1 l0_1.length c0_1, .slice A0_2 l0_2.length c0_2] 25 (0, 0)) (by (with_reducible repeat (first | refine bN ?_ _ | refine bdz ?_ | refine bA ?_ _)); exact BK101.1) hg (Kd.R_ne HO_4.1 BK101.1 (by decide))); have n3_ := Q0.mk (hb); have n4_ := Q0.mk (ho); clear HO_3; clear HO_12; clear BK101; clear HB; clear HO_4; have HO_3 := n0_; have HO_12 := n1_; have BK101 := n2_; have HB := n3_; have HO110 := n4_; clear n0_ n1_ n2_ n3_ n4_; clear ho hb hg hat))); go_roundg k1
        case measure => have := HK1.1; omega
        case rel => exact ⟨(y108), (wrap64 (x14_1 + 1)), rfl, H', ⟨by have := HK1.1; omega⟩, ⟨Kd.R_mono HO_3.1 (fun _ hk => hk.2)⟩, ⟨qr HO110.1⟩, ⟨Kd.R_mono HO_12.1 (fun _ hk => hk.2)⟩, ⟨qb BK101.1⟩, ⟨qB HB.1⟩⟩
       ·rw [if_neg c15] at H; (exact absurd H (by simp))
      ·rw [if_neg c13] at H; (exact absurd H (by simp))
     ·rw [if_neg c12] at H; (exact absurd H (by simp))
    ·rw [if_neg c11] at H; have c11b0 : decide (x14_1 < (t103.length : Int)) = false := decide_eq_false c11; clear c11; obtain rfl := Option.some.inj H; go_wp2; go_ret; (exact ⟨_, rfl, Kd.R_mono HO_4.1 (fun _ hk => trivial), qB HB.1⟩)
 ·replace c3 := Bool.eq_false_iff.mpr c3; subst c3; (have H1 : (some ([] : List Int)) = some r := by rw [if_neg (show ¬ (false = true) by decide)] at H; exact H); clear H; have H := H1; clear H1; obtain rfl := Option.some.inj H; go_enter Try.func54, Try.ntmps54; (go_wp2_with (first | ((with_reducible refine gate_dst (N := 1) rfl ?_); refine box_event ?hg (N := 1) ?hd (cs := #[.int .i64 a0_0, .slice A0_1 l0_1.length c0_1, .slice A0_2 l0_2.length c0_2]) (t := 25) ?hr ?_; (case hd => rfl); (case hg => rfl); (case hr => first | (go_simp; done) | (go_simp; rfl)); intro gb101 hg w17 hbox hb; have n0_ := Q0.mk (bsz (qB HB.1) hb); have n1_ := Q0.mk (hbox); have n2_ := Q0.mk ((by rw [hg]; exact (below_size (qB HB.1)) : w.heap.size ≤ gb101)); have n3_ := Q0.mk ((by rw [hg]; exact (below_size (qB HB.1)) : w.heap.size ≤ gb101)); clear HB; have HB := n0_; have BK101 := n1_; have GW101 := n2_; have GE101 := n3_; clear n0_ n1_ n2_ n3_; clear hb hbox hg; obtain ⟨hcz18_0, hcz18_1, hcz18_2⟩ := cells3 BK101.1; obtain ⟨hfz18_0, hfz18_1, hfz18_2⟩ := froz3 BK101.1) | ((with_reducible refine gate_callee (f := 36) rfl ?_); refine goesL_ (some 8) rfl rfl Try.func36 (by kernel_rfl) rfl #[.agg #[.int .i64 a0_0, .slice A0_1 l0_1.length c0_1, .slice A0_2 l0_2.length c0_2]] rfl (by (try simp only [List.map_toArray, List.map_cons, List.map_nil]); first | done | rfl | (simp only [List.length_drop, List.length_take]; rfl)) ?_; (with_reducible refine (thompson_Good.calls a0_0 _ _ l0_1 _ _ l0_2 false _ ?side1 ?side2 ?side3 ?side4 A2.1).mono ?_); (case side1 => exact qC HR0_1.1 HB.1); (case side2 => exact HC0_1.1); (case side3 => exact qC HR0_2.1 HB.1); (case side4 => exact HC0_2.1); rintro e w19 ⟨rfl, hb⟩; refine ⟨_, rfl, ?_⟩; have n0_ := Q0.mk (bb BK101.1 hb); have n1_ := Q0.mk (bsz (qB HB.1) hb); clear BK101; clear HB; have BK101 := n0_; have HB := n1_; clear n0_ n1_; (try clear hb); (try clear hb2); (try clear hk); (try clear hi)))); go_ret; exact ⟨_, rfl, Kd.R_nil _ _ _ _ _, qB HB.1⟩

end Go.Proofs.Ytelkjbacdpmnfaa.A
