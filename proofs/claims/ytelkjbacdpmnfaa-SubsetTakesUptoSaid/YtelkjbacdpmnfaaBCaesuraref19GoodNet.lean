/- Contracts. -/
import Derived.Test.YtelkjbacdpmnfaaB0
namespace Go.Proofs.Ytelkjbacdpmnfaa.A
open Go.RowKit Go.W_.PrintWords Go.W_.PrintLast Go.W_.PrintMore
attribute [local go_sem] max2_int min2_int max_two min_two max_three min_three max_four min_four
set_option linter.unusedVariables false
set_option linter.unusedSimpArgs false

/-! ### cr19_GoodNet: function 39 -/
mutual
def cr19_GoodNet.j0 : Nat → Bool → Int → List (List (S82)) → Option (Bool)
 | 0, _, _, _ => none
 | k + 1, x25, x102000, x102001 => if x25 = true then (some false) else (cr19_GoodNet.l0 k 0 x102000 x102001)
def cr19_GoodNet.l0 : Nat → Int → Int → List (List (S82)) → Option (Bool)
 | 0, _, _, _ => none
 | k + 1, x3, x102000, x102001 => if x3 < (x102001.length : Int) then (cr19_GoodNet.l1 k x3 0 x102000 x102001) else (some true)
def cr19_GoodNet.l1 : Nat → Int → Int → Int → List (List (S82)) → Option (Bool)
 | 0, _, _, _, _ => none
 | k + 1, x3, x4, x102000, x102001 => if 0 ≤ x3 then (if x3 < (x102001.length : Int) then (if x4 < ((rd_L2 x102001 x3).length : Int) then (if 0 ≤ x4 then (if ((rd_T82 (rd_L2 x102001 x3) x4).f0) < (-1) then (some false) else (if ((rd_T82 (rd_L2 x102001 x3) x4).f0) ≥ x102000 then (some false) else (if ((rd_T82 (rd_L2 x102001 x3) x4).f1) < 0 then (some false) else (if ((rd_T82 (rd_L2 x102001 x3) x4).f1) ≥ (x102001.length : Int) then (some false) else (cr19_GoodNet.l1 k x3 (wrap64 (x4 + 1)) x102000 x102001))))) else (none)) else (cr19_GoodNet.l0 k (wrap64 (x3 + 1)) x102000 x102001)) else (none)) else (none)
end
def cr19_GoodNet.f (k : Nat) (a0_0 : Int) (l0_1 : List (List (S82))) : Option (Bool) := if a0_0 < 1 then (cr19_GoodNet.j0 k true a0_0 l0_1) else (if a0_0 > 64 then (cr19_GoodNet.j0 k true a0_0 l0_1) else (if (l0_1.length : Int) < 2 then (cr19_GoodNet.j0 k true a0_0 l0_1) else (cr19_GoodNet.j0 k (decide ((l0_1.length : Int) > 4000)) a0_0 l0_1)))
theorem cr19_GoodNet.mono_l : ∀ k, (∀ y0 y1 y2, LeO (cr19_GoodNet.j0 k y0 y1 y2) (cr19_GoodNet.j0 (k + 1) y0 y1 y2)) ∧ (∀ y0 y1 y2, LeO (cr19_GoodNet.l0 k y0 y1 y2) (cr19_GoodNet.l0 (k + 1) y0 y1 y2)) ∧ (∀ y0 y1 y2 y3, LeO (cr19_GoodNet.l1 k y0 y1 y2 y3) (cr19_GoodNet.l1 (k + 1) y0 y1 y2 y3))
 | 0 => ⟨fun _ _ _ r h => by simp [cr19_GoodNet.j0] at h, fun _ _ _ r h => by simp [cr19_GoodNet.l0] at h, fun _ _ _ _ r h => by simp [cr19_GoodNet.l1] at h⟩
 | k + 1 => by
  obtain ⟨ih0, ih1, ih2⟩ := cr19_GoodNet.mono_l k
  refine ⟨?_, ?_, ?_⟩
  ·intro y0 y1 y2
   unfold cr19_GoodNet.j0
   repeat' first
   | (with_reducible exact ih0 _ _ _)
   | (with_reducible exact ih1 _ _ _)
   | (with_reducible exact ih2 _ _ _ _)
   | (with_reducible exact LeO.refl _)
   | (with_reducible exact LeO.none _)
   | (with_reducible refine LeO.ite ?_ ?_)
   | (with_reducible refine LeO.bind ?_ (fun _ => ?_))
   | exact ih0 _ _ _
   | exact ih1 _ _ _
   | exact ih2 _ _ _ _
   | exact LeO.none _
   | refine LeO.ite ?_ ?_
   | refine LeO.bind ?_ (fun _ => ?_)
  ·intro y0 y1 y2
   unfold cr19_GoodNet.l0
   repeat' first
   | (with_reducible exact ih0 _ _ _)
   | (with_reducible exact ih1 _ _ _)
   | (with_reducible exact ih2 _ _ _ _)
   | (with_reducible exact LeO.refl _)
   | (with_reducible exact LeO.none _)
   | (with_reducible refine LeO.ite ?_ ?_)
   | (with_reducible refine LeO.bind ?_ (fun _ => ?_))
   | exact ih0 _ _ _
   | exact ih1 _ _ _
   | exact ih2 _ _ _ _
   | exact LeO.none _
   | refine LeO.ite ?_ ?_
   | refine LeO.bind ?_ (fun _ => ?_)
  ·intro y0 y1 y2 y3
   unfold cr19_GoodNet.l1
   repeat' first
   | (with_reducible exact ih0 _ _ _)
   | (with_reducible exact ih1 _ _ _)
   | (with_reducible exact ih2 _ _ _ _)
   | (with_reducible exact LeO.refl _)
   | (with_reducible exact LeO.none _)
   | (with_reducible refine LeO.ite ?_ ?_)
   | (with_reducible refine LeO.bind ?_ (fun _ => ?_))
   | exact ih0 _ _ _
   | exact ih1 _ _ _
   | exact ih2 _ _ _ _
   | exact LeO.none _
   | refine LeO.ite ?_ ?_
   | refine LeO.bind ?_ (fun _ => ?_)
theorem cr19_GoodNet.mono : ∀ a0 a1 k, LeO (cr19_GoodNet.f k a0 a1) (cr19_GoodNet.f (k + 1) a0 a1) := by
 intro a0 a1 k
 obtain ⟨ih0, ih1, ih2⟩ := cr19_GoodNet.mono_l k
 unfold cr19_GoodNet.f
 repeat' first
   | (with_reducible exact ih0 _ _ _)
   | (with_reducible exact ih1 _ _ _)
   | (with_reducible exact ih2 _ _ _ _)
   | (with_reducible exact LeO.refl _)
   | (with_reducible exact LeO.none _)
   | (with_reducible refine LeO.ite ?_ ?_)
   | (with_reducible refine LeO.bind ?_ (fun _ => ?_))
   | exact ih0 _ _ _
   | exact ih1 _ _ _
   | exact ih2 _ _ _ _
   | exact LeO.none _
   | refine LeO.ite ?_ ?_
   | refine LeO.bind ?_ (fun _ => ?_)
set_option maxHeartbeats 8000000 in
set_option maxRecDepth 100000 in
theorem cr19_GoodNet.calls (k : Nat) (a0_0 : Int) (A0_1 : Option Addr) (c0_1 : Nat) (l0_1 : List (List (S82))) (r : Bool) (w : World) (hr0_1 : Kd.C (Kd.slice 82 k82) w A0_1 l0_1.length l0_1) (hc0_1 : l0_1.length ≤ c0_1) (h : cr19_GoodNet.f k a0_0 l0_1 = some r) :
  Calls Try.prog 39 #[.agg #[.int .i64 a0_0, .slice A0_1 l0_1.length c0_1]] w fun e w' => e = .returned (.bool r) ∧ Below w.heap.size w w' := by
 have hu28 := Try.underlying28
 have hu82 := Try.underlying82
 have HR0_1 := Q0z.mk hr0_1
 have HC0_1 := Q0z.mk hc0_1
 clear hr0_1 hc0_1
 have HB := Q0z.mk (Below.refl w.heap.size w)
 have H : (if a0_0 < 1 then (cr19_GoodNet.j0 k true a0_0 l0_1) else (if a0_0 > 64 then (cr19_GoodNet.j0 k true a0_0 l0_1) else (if (l0_1.length : Int) < 2 then (cr19_GoodNet.j0 k true a0_0 l0_1) else (cr19_GoodNet.j0 k (decide ((l0_1.length : Int) > 4000)) a0_0 l0_1)))) = some r := h
 clear h
 have HC2 := Q0z.mk H
 clear H
 go_enter Try.func39, Try.ntmps39
 go_upto_region 1 with (first | ((with_reducible refine gate_dst (N := 1) rfl ?_); (try (refine gate_guard (by rfl) ?_; dsimp only)); refine box_event ?hg (N := 1) ?hd (cs := #[.int .i64 a0_0, .slice A0_1 l0_1.length c0_1]) (t := 28) ?hr ?_; (case hd => rfl); (case hg => rfl); (case hr => first | (go_simp; done) | (go_simp; rfl)); intro gb101 hg w3 hbox hb; have n0_ := Q0z.mk (bsz (by repeat (first | (with_reducible first | exact HB.1 | apply ba | apply pN | apply bD) | exact HB.1)) hb); have n1_ := Q0z.mk (hbox); have n2_ := Q0z.mk ((by rw [hg]; exact (below_size (by repeat (first | (with_reducible first | exact HB.1 | apply ba | apply pN | apply bD) | exact HB.1))) : w.heap.size ≤ gb101)); have n3_ := Q0z.mk ((by rw [hg]; exact (below_size (by repeat (first | (with_reducible first | exact HB.1 | apply ba | apply pN | apply bD) | exact HB.1))) : w.heap.size ≤ gb101)); clear HB; have HB := n0_; have BK101 := n1_; have GW101 := n2_; have GE101 := n3_; clear n0_ n1_ n2_ n3_; clear hb hbox hg))
 (try simp only [Act.put, sA, sB, sC])
 go_cut [25] (fun v25 wc => ∃ (kq : Nat) (x25_1 : Bool), v25 = .bool x25_1 ∧ Q0z (cr19_GoodNet.j0 kq x25_1 a0_0 l0_1 = some r) ∧ Q0z (kq ≤ k) ∧ Q0z (wc.heap[gb101]? = some (.cells #[.int .i64 a0_0, (.slice A0_1 l0_1.length c0_1)] 28 (0, 0))) ∧ Q0z (Below w.heap.size w wc))
 case first =>
  have H := HC2.1
  clear HC2
  by_cases c4 : a0_0 < 1
  ·rw [if_pos c4] at H
   have c4b0 : decide (a0_0 < 1) = true := decide_eq_true c4
   clear c4
   (first | rw [c4b0] | (simp only [i64_w, i32_w]; rw [c4b0]) | skip)
   have H' := Q0z.mk H
   clear H
   have hcz5_0 : w3.cell? ⟨gb101, 0, none⟩ = some (.int .i64 a0_0) := (bcz BK101.1 0).trans rfl
   have hcz5_1 : w3.cell? ⟨gb101, 1, none⟩ = some (.slice A0_1 l0_1.length c0_1) := (bcz BK101.1 1).trans rfl
   have hfz5_0 := bf BK101.1 0
   have hfz5_1 := bf BK101.1 1
   go_wp2
   go_meet
   case rel => exact ⟨_, (true), (by first | rfl | (simp; done) | (simp [*]; done)), H', ⟨by first | omega | exact Nat.le_refl _⟩, ⟨by (with_reducible repeat (first | refine bN ?_ _ | refine bd ?_ | refine bA ?_ _)); exact BK101.1⟩, ⟨by repeat (first | (with_reducible first | exact HB.1 | apply ba | apply pN | apply bD | refine bS ?_ GE101.1) | exact HB.1)⟩⟩
  ·rw [if_neg c4] at H
   have c4b0 : decide (a0_0 < 1) = false := decide_eq_false c4
   clear c4
   (first | rw [c4b0] | (simp only [i64_w, i32_w]; rw [c4b0]) | skip)
   by_cases c6 : a0_0 > 64
   ·rw [if_pos c6] at H
    have c6b0 : decide (64 < a0_0) = true := decide_eq_true c6
    clear c6
    have H' := Q0z.mk H
    clear H
    have hcz7_0 : w3.cell? ⟨gb101, 0, none⟩ = some (.int .i64 a0_0) := (bcz BK101.1 0).trans rfl
    have hcz7_1 : w3.cell? ⟨gb101, 1, none⟩ = some (.slice A0_1 l0_1.length c0_1) := (bcz BK101.1 1).trans rfl
    have hfz7_0 := bf BK101.1 0
    have hfz7_1 := bf BK101.1 1
    go_wp2
    go_meet
    case rel => exact ⟨_, (true), (by first | rfl | (simp; done) | (simp [*]; done)), H', ⟨by first | omega | exact Nat.le_refl _⟩, ⟨by (with_reducible repeat (first | refine bN ?_ _ | refine bd ?_ | refine bA ?_ _)); exact BK101.1⟩, ⟨by repeat (first | (with_reducible first | exact HB.1 | apply ba | apply pN | apply bD | refine bS ?_ GE101.1) | exact HB.1)⟩⟩
   ·rw [if_neg c6] at H
    have c6b0 : decide (64 < a0_0) = false := decide_eq_false c6
    clear c6
    by_cases c8 : (l0_1.length : Int) < 2
    ·rw [if_pos c8] at H
     have c8b0 : decide ((l0_1.length : Int) < 2) = true := decide_eq_true c8
     have c8b1 : decide (l0_1.length < 2) = true := decide_eq_true (by omega)
     clear c8
     have H' := Q0z.mk H
     clear H
     have hcz9_0 : w3.cell? ⟨gb101, 0, none⟩ = some (.int .i64 a0_0) := (bcz BK101.1 0).trans rfl
     have hcz9_1 : w3.cell? ⟨gb101, 1, none⟩ = some (.slice A0_1 l0_1.length c0_1) := (bcz BK101.1 1).trans rfl
     have hfz9_0 := bf BK101.1 0
     have hfz9_1 := bf BK101.1 1
     go_wp2
     go_meet
     case rel => exact ⟨_, (true), (by first | rfl | (simp; done) | (simp [*]; done)), H', ⟨by first | omega | exact Nat.le_refl _⟩, ⟨by (with_reducible repeat (first | refine bN ?_ _ | refine bd ?_ | refine bA ?_ _)); exact BK101.1⟩, ⟨by repeat (first | (with_reducible first | exact HB.1 | apply ba | apply pN | apply bD | refine bS ?_ GE101.1) | exact HB.1)⟩⟩
    ·rw [if_neg c8] at H
     have c8b0 : decide ((l0_1.length : Int) < 2) = false := decide_eq_false c8
     have c8b1 : decide (l0_1.length < 2) = false := decide_eq_false (by omega)
     clear c8
     have H' := Q0z.mk H
     clear H
     have hcz10_0 : w3.cell? ⟨gb101, 0, none⟩ = some (.int .i64 a0_0) := (bcz BK101.1 0).trans rfl
     have hcz10_1 : w3.cell? ⟨gb101, 1, none⟩ = some (.slice A0_1 l0_1.length c0_1) := (bcz BK101.1 1).trans rfl
     have hfz10_0 := bf BK101.1 0
     have hfz10_1 := bf BK101.1 1
     go_wp2
     go_meet
     case rel => exact ⟨_, (decide ((l0_1.length : Int) > 4000)), (by first | rfl | (simp; done) | (simp [*]; done)), H', ⟨by first | omega | exact Nat.le_refl _⟩, ⟨by (with_reducible repeat (first | refine bN ?_ _ | refine bd ?_ | refine bA ?_ _)); exact BK101.1⟩, ⟨by repeat (first | (with_reducible first | exact HB.1 | apply ba | apply pN | apply bD | refine bS ?_ GE101.1) | exact HB.1)⟩⟩
 case rest =>
  clear HC2
  try clear p2
  try clear c3
  try clear c4
  try clear c4b0
  try clear c6
  try clear c6b0
  try clear c8
  try clear c8b0
  try clear c8b1
  try clear hcz10_0
  try clear hcz10_1
  try clear hcz5_0
  try clear hcz5_1
  try clear hcz7_0
  try clear hcz7_1
  try clear hcz9_0
  try clear hcz9_1
  try clear hfz10_0
  try clear hfz10_1
  try clear hfz5_0
  try clear hfz5_1
  try clear hfz7_0
  try clear hfz7_1
  try clear hfz9_0
  try clear hfz9_1
  obtain ⟨kq, x25_1, rfl, HA, HJ1, BK101, HB⟩ := hcut
  cases kq with
  | zero => exact absurd HA.1 (by simp [cr19_GoodNet.j0])
  | succ kj1 =>
   have H := HA.1
   clear HA
   simp only [cr19_GoodNet.j0] at H
   by_cases c11 : x25_1 = true
   ·subst c11
    have H1 : (some false) = some r := by rw [if_pos rfl] at H; exact H
    clear H
    have H := H1
    clear H1
    obtain rfl := Option.some.inj H
    go_wp2
    go_ret
    exact ⟨by first | rfl | (simp [errW_none, errW_some] <;> rfl) | (simp [*, errW_none, errW_some] <;> rfl), by repeat (first | (with_reducible first | exact HB.1 | apply ba | apply pN | apply bD | refine bS ?_ GE101.1) | exact HB.1)⟩
   ·replace c11 := Bool.eq_false_iff.mpr c11
    subst c11
    have H1 : (cr19_GoodNet.l0 kj1 0 a0_0 l0_1) = some r := by rw [if_neg (show ¬ (false = true) by decide)] at H; exact H
    clear H
    have H := H1
    clear H1
    have H' := Q0z.mk H
    clear H
    go_wp2
    go_loopg [3] kj1 (fun kq v3 w' => ∃ (x3_2 : Int), v3 = .int .i64 x3_2 ∧ Q0z (cr19_GoodNet.l0 kq x3_2 a0_0 l0_1 = some r) ∧ Q0z (kq ≤ kj1) ∧ Q0z (w'.heap[gb101]? = some (.cells #[.int .i64 a0_0, (.slice A0_1 l0_1.length c0_1)] 28 (0, 0))) ∧ Q0z (Below w.heap.size w w'))
    case atStart => exact ⟨(0), (by first | rfl | (simp; done) | (simp [*]; done)), H', ⟨Nat.le_refl _⟩, ⟨by (with_reducible repeat (first | refine bN ?_ _ | refine bd ?_ | refine bA ?_ _)); exact BK101.1⟩, ⟨by repeat (first | (with_reducible first | exact HB.1 | apply ba | apply pN | apply bD | refine bS ?_ GE101.1) | exact HB.1)⟩⟩
    case round =>
     clear H'
     try clear c1
     try clear p2
     try clear c3
     try clear c4
     try clear c4b0
     try clear c6
     try clear c6b0
     try clear c8
     try clear c8b0
     try clear c8b1
     try clear c11
     try clear hcz10_0
     try clear hcz10_1
     try clear hcz5_0
     try clear hcz5_1
     try clear hcz7_0
     try clear hcz7_1
     try clear hcz9_0
     try clear hcz9_1
     try clear hfz10_0
     try clear hfz10_1
     try clear hfz5_0
     try clear hfz5_1
     try clear hfz7_0
     try clear hfz7_1
     try clear hfz9_0
     try clear hfz9_1
     try clear p2
     obtain ⟨x3_2, rfl, HA, HK2, BK101, HB⟩ := hrel
     cases gk with
     | zero => exact absurd HA.1 (by simp [cr19_GoodNet.l0])
     | succ k2 =>
      have H := HA.1
      clear HA
      simp only [cr19_GoodNet.l0] at H
      by_cases c12 : x3_2 < (l0_1.length : Int)
      ·rw [if_pos c12] at H
       have c12b0 : decide (x3_2 < (l0_1.length : Int)) = true := decide_eq_true c12
       clear c12
       have H' := Q0z.mk H
       clear H
       have hcz13_0 : wr.cell? ⟨gb101, 0, none⟩ = some (.int .i64 a0_0) := (bcz BK101.1 0).trans rfl
       have hcz13_1 : wr.cell? ⟨gb101, 1, none⟩ = some (.slice A0_1 l0_1.length c0_1) := (bcz BK101.1 1).trans rfl
       have hfz13_0 := bf BK101.1 0
       have hfz13_1 := bf BK101.1 1
       go_wp2
       go_loopg [4] k2 (fun kq v4 w' => ∃ (x4_3 : Int), v4 = .int .i64 x4_3 ∧ Q0z (cr19_GoodNet.l1 kq x3_2 x4_3 a0_0 l0_1 = some r) ∧ Q0z (kq ≤ k2) ∧ Q0z (w'.heap[gb101]? = some (.cells #[.int .i64 a0_0, (.slice A0_1 l0_1.length c0_1)] 28 (0, 0))) ∧ Q0z (Below w.heap.size w w'))
       case atStart => exact ⟨(0), (by first | rfl | (simp; done) | (simp [*]; done)), H', ⟨Nat.le_refl _⟩, ⟨by (with_reducible repeat (first | refine bN ?_ _ | refine bd ?_ | refine bA ?_ _)); exact BK101.1⟩, ⟨by repeat (first | (with_reducible first | exact HB.1 | apply ba | apply pN | apply bD | refine bS ?_ GE101.1) | exact HB.1)⟩⟩
       case round =>
        clear H'
        try clear c1
        try clear p2
        try clear c3
        try clear c4
        try clear c4b0
        try clear c6
        try clear c6b0
        try clear c8
        try clear c8b0
        try clear c8b1
        try clear c11
        try clear c12
        try clear c12b0
        try clear hcz10_0
        try clear hcz10_1
        try clear hcz13_0
        try clear hcz13_1
        try clear hcz5_0
        try clear hcz5_1
        try clear hcz7_0
        try clear hcz7_1
        try clear hcz9_0
        try clear hcz9_1
        try clear hfz10_0
        try clear hfz10_1
        try clear hfz13_0
        try clear hfz13_1
        try clear hfz5_0
        try clear hfz5_1
        try clear hfz7_0
        try clear hfz7_1
        try clear hfz9_0
        try clear hfz9_1
        try clear p2
        obtain ⟨x4_3, rfl, HA, HK3, BK101, HB⟩ := hrel
        cases gk with
        | zero => exact absurd HA.1 (by simp [cr19_GoodNet.l1])
        | succ k3 =>
         have H := HA.1
         clear HA
         simp only [cr19_GoodNet.l1] at H
         by_cases c14 : 0 ≤ x3_2
         ·rw [if_pos c14] at H
          have c14b0 : decide (0 ≤ x3_2) = true := decide_eq_true c14
          clear c14
          by_cases c15 : x3_2 < (l0_1.length : Int)
          ·rw [if_pos c15] at H
           have c15b0 : decide (x3_2 < (l0_1.length : Int)) = true := decide_eq_true c15
           clear c15
           by_cases c16 : x4_3 < ((rd_L2 l0_1 x3_2).length : Int)
           ·rw [if_pos c16] at H
            have c16b0 : decide (x4_3 < ((rd_L2 l0_1 x3_2).length : Int)) = true := decide_eq_true c16
            clear c16
            by_cases c17 : 0 ≤ x4_3
            ·rw [if_pos c17] at H
             have c17b0 : decide (0 ≤ x4_3) = true := decide_eq_true c17
             clear c17
             by_cases c18 : ((rd_T82 (rd_L2 l0_1 x3_2) x4_3).f0) < (-1)
             ·rw [if_pos c18] at H
              have c18b0 : decide (((rd_T82 (rd_L2 l0_1 x3_2) x4_3).f0) < (-1)) = true := decide_eq_true c18
              clear c18
              obtain rfl := Option.some.inj H
              have hcz19_0 : wr.cell? ⟨gb101, 0, none⟩ = some (.int .i64 a0_0) := (bcz BK101.1 0).trans rfl
              have hcz19_1 : wr.cell? ⟨gb101, 1, none⟩ = some (.slice A0_1 l0_1.length c0_1) := (bcz BK101.1 1).trans rfl
              have hfz19_0 := bf BK101.1 0
              have hfz19_1 := bf BK101.1 1
              have p102 : 0 ≤ (x3_2 : Int) := of_decide_eq_true (by first | (with_reducible assumption) | assumption)
              have q102 : x3_2 < (l0_1.length : Int) := of_decide_eq_true (by first | (with_reducible assumption) | assumption)
              obtain ⟨ad102, A102_0, c102_0, e102, hx102_0, hl102_0, hi102_0⟩ := at_L2 HR0_1.1 x3_2 p102 q102
              cases e102
              replace hx102_0 := (HB.1.cell (World.block_lt_of_cell? w _ hx102_0)).trans hx102_0
              have HR102_0 := Q0z.mk hi102_0
              have HC102_0 := Q0z.mk hl102_0
              clear hi102_0 hl102_0
              replace p102 := eq_true p102
              replace q102 := eq_true q102
              have p103 : 0 ≤ (x3_2 : Int) := of_decide_eq_true (by first | (with_reducible assumption) | assumption)
              have q103 : x3_2 < (l0_1.length : Int) := of_decide_eq_true (by first | (with_reducible assumption) | assumption)
              obtain ⟨ad103, A103_0, c103_0, e103, hx103_0, hl103_0, hi103_0⟩ := at_L2 HR0_1.1 x3_2 p103 q103
              obtain rfl : ad102 = ad103 := (by injection e103)
              replace hx103_0 := (HB.1.cell (World.block_lt_of_cell? w _ hx103_0)).trans hx103_0
              have HR103_0 := Q0z.mk hi103_0
              have HC103_0 := Q0z.mk hl103_0
              clear hi103_0 hl103_0
              replace p103 := eq_true p103
              replace q103 := eq_true q103
              have ea_ := Option.some.inj (hx102_0.symm.trans hx103_0)
              injection ea_ with ea_ en_ ec_
              subst ea_
              subst ec_
              clear en_
              have p104 : 0 ≤ (x4_3 : Int) := of_decide_eq_true (by first | (with_reducible assumption) | assumption)
              have q104 : x4_3 < ((rd_L2 l0_1 x3_2).length : Int) := of_decide_eq_true (by first | (with_reducible assumption) | assumption)
              obtain ⟨ad104, e104, hx104_0, hx104_1⟩ := at_T82 HR103_0.1 x4_3 p104 q104
              cases e104
              replace hx104_0 := (HB.1.cell (World.block_lt_of_cell? w _ hx104_0)).trans hx104_0
              replace hx104_1 := (HB.1.cell (World.block_lt_of_cell? w _ hx104_1)).trans hx104_1
              replace p104 := eq_true p104
              replace q104 := eq_true q104
              go_wp2_with (first | ((with_reducible refine gate_dst (N := 5) rfl ?_); (try (refine gate_guard (by rfl) ?_; dsimp only)); refine box_event ?hg (N := 5) ?hd (cs := #[.int .i64 0, .int .i64 0]) (t := 82) ?hr ?_; (case hd => rfl); (case hg => rfl); (case hr => first | (go_simp; done) | (go_simp; rfl)); intro gb105 hg w20 hbox hb; have n0_ := Q0z.mk (bbz (g := gb101) (o := .cells #[.int .i64 a0_0, .slice (some ad102) l0_1.length c0_1] 28 (0, 0)) (by (with_reducible repeat (first | refine bN ?_ _ | refine bd ?_ | refine bA ?_ _)); exact BK101.1) hb); have n1_ := Q0z.mk (bsz (by repeat (first | (with_reducible first | exact HB.1 | apply ba | apply pN | apply bD | refine bS ?_ GE101.1) | exact HB.1)) hb); have n2_ := Q0z.mk (hbox); have n3_ := Q0z.mk ((by rw [hg]; exact (below_size (by repeat (first | (with_reducible first | exact HB.1 | apply ba | apply pN | apply bD | refine bS ?_ GE101.1) | exact HB.1))) : w.heap.size ≤ gb105)); have n4_ := Q0z.mk ((by rw [hg]; exact (below_size (by repeat (first | (with_reducible first | exact HB.1 | apply ba | apply pN | apply bD | refine bS ?_ GE101.1) | exact HB.1))) : w.heap.size ≤ gb105)); have n5_ := Q0z.mk ((by rw [hg]; exact Nat.ne_of_lt (blk_lt (g := gb101) (o := .cells #[.int .i64 a0_0, .slice (some ad102) l0_1.length c0_1] 28 (0, 0)) (by (with_reducible repeat (first | refine bN ?_ _ | refine bd ?_ | refine bA ?_ _)); exact BK101.1)) : gb101 ≠ gb105)); have n6_ := Q0z.mk ((by rw [hg]; exact Nat.ne_of_gt (blk_lt (g := gb101) (o := .cells #[.int .i64 a0_0, .slice (some ad102) l0_1.length c0_1] 28 (0, 0)) (by (with_reducible repeat (first | refine bN ?_ _ | refine bd ?_ | refine bA ?_ _)); exact BK101.1)) : gb105 ≠ gb101)); clear BK101; clear HB; have BK101 := n0_; have HB := n1_; have BK105 := n2_; have GW105 := n3_; have GE105 := n4_; have NB101_105 := n5_; have NB105_101 := n6_; clear n0_ n1_ n2_ n3_ n4_ n5_ n6_; clear hb hbox hg; have hnb21 := NB105_101.1; have hnc21 := NB101_105.1; have hcz22_0 : w20.cell? ⟨gb105, 0, none⟩ = some (.int .i64 0) := (bcz BK105.1 0).trans rfl; have hcz22_1 : w20.cell? ⟨gb105, 1, none⟩ = some (.int .i64 0) := (bcz BK105.1 1).trans rfl; have hfz22_0 := bf BK105.1 0; have hfz22_1 := bf BK105.1 1))
              go_ret
              exact ⟨by first | rfl | (simp [errW_none, errW_some] <;> rfl) | (simp [*, errW_none, errW_some] <;> rfl), by repeat (first | (with_reducible first | exact HB.1 | apply ba | apply pN | apply bD | refine bS ?_ GE101.1 | refine bS ?_ GE105.1) | exact HB.1)⟩
             ·rw [if_neg c18] at H
              have c18b0 : decide (((rd_T82 (rd_L2 l0_1 x3_2) x4_3).f0) < (-1)) = false := decide_eq_false c18
              clear c18
              by_cases c23 : ((rd_T82 (rd_L2 l0_1 x3_2) x4_3).f0) ≥ a0_0
              ·rw [if_pos c23] at H
               have c23b0 : decide (a0_0 ≤ ((rd_T82 (rd_L2 l0_1 x3_2) x4_3).f0)) = true := decide_eq_true c23
               clear c23
               obtain rfl := Option.some.inj H
               have hcz24_0 : wr.cell? ⟨gb101, 0, none⟩ = some (.int .i64 a0_0) := (bcz BK101.1 0).trans rfl
               have hcz24_1 : wr.cell? ⟨gb101, 1, none⟩ = some (.slice A0_1 l0_1.length c0_1) := (bcz BK101.1 1).trans rfl
               have hfz24_0 := bf BK101.1 0
               have hfz24_1 := bf BK101.1 1
               have p102 : 0 ≤ (x3_2 : Int) := of_decide_eq_true (by first | (with_reducible assumption) | assumption)
               have q102 : x3_2 < (l0_1.length : Int) := of_decide_eq_true (by first | (with_reducible assumption) | assumption)
               obtain ⟨ad102, A102_0, c102_0, e102, hx102_0, hl102_0, hi102_0⟩ := at_L2 HR0_1.1 x3_2 p102 q102
               cases e102
               replace hx102_0 := (HB.1.cell (World.block_lt_of_cell? w _ hx102_0)).trans hx102_0
               have HR102_0 := Q0z.mk hi102_0
               have HC102_0 := Q0z.mk hl102_0
               clear hi102_0 hl102_0
               replace p102 := eq_true p102
               replace q102 := eq_true q102
               have p103 : 0 ≤ (x3_2 : Int) := of_decide_eq_true (by first | (with_reducible assumption) | assumption)
               have q103 : x3_2 < (l0_1.length : Int) := of_decide_eq_true (by first | (with_reducible assumption) | assumption)
               obtain ⟨ad103, A103_0, c103_0, e103, hx103_0, hl103_0, hi103_0⟩ := at_L2 HR0_1.1 x3_2 p103 q103
               obtain rfl : ad102 = ad103 := (by injection e103)
               replace hx103_0 := (HB.1.cell (World.block_lt_of_cell? w _ hx103_0)).trans hx103_0
               have HR103_0 := Q0z.mk hi103_0
               have HC103_0 := Q0z.mk hl103_0
               clear hi103_0 hl103_0
               replace p103 := eq_true p103
               replace q103 := eq_true q103
               have ea_ := Option.some.inj (hx102_0.symm.trans hx103_0)
               injection ea_ with ea_ en_ ec_
               subst ea_
               subst ec_
               clear en_
               have p104 : 0 ≤ (x4_3 : Int) := of_decide_eq_true (by first | (with_reducible assumption) | assumption)
               have q104 : x4_3 < ((rd_L2 l0_1 x3_2).length : Int) := of_decide_eq_true (by first | (with_reducible assumption) | assumption)
               obtain ⟨ad104, e104, hx104_0, hx104_1⟩ := at_T82 HR103_0.1 x4_3 p104 q104
               cases e104
               replace hx104_0 := (HB.1.cell (World.block_lt_of_cell? w _ hx104_0)).trans hx104_0
               replace hx104_1 := (HB.1.cell (World.block_lt_of_cell? w _ hx104_1)).trans hx104_1
               replace p104 := eq_true p104
               replace q104 := eq_true q104
               go_wp2_with (first | ((with_reducible refine gate_dst (N := 5) rfl ?_); (try (refine gate_guard (by rfl) ?_; dsimp only)); refine box_event ?hg (N := 5) ?hd (cs := #[.int .i64 0, .int .i64 0]) (t := 82) ?hr ?_; (case hd => rfl); (case hg => rfl); (case hr => first | (go_simp; done) | (go_simp; rfl)); intro gb105 hg w25 hbox hb; have n0_ := Q0z.mk (bbz (g := gb101) (o := .cells #[.int .i64 a0_0, .slice (some ad102) l0_1.length c0_1] 28 (0, 0)) (by (with_reducible repeat (first | refine bN ?_ _ | refine bd ?_ | refine bA ?_ _)); exact BK101.1) hb); have n1_ := Q0z.mk (bsz (by repeat (first | (with_reducible first | exact HB.1 | apply ba | apply pN | apply bD | refine bS ?_ GE101.1) | exact HB.1)) hb); have n2_ := Q0z.mk (hbox); have n3_ := Q0z.mk ((by rw [hg]; exact (below_size (by repeat (first | (with_reducible first | exact HB.1 | apply ba | apply pN | apply bD | refine bS ?_ GE101.1) | exact HB.1))) : w.heap.size ≤ gb105)); have n4_ := Q0z.mk ((by rw [hg]; exact (below_size (by repeat (first | (with_reducible first | exact HB.1 | apply ba | apply pN | apply bD | refine bS ?_ GE101.1) | exact HB.1))) : w.heap.size ≤ gb105)); have n5_ := Q0z.mk ((by rw [hg]; exact Nat.ne_of_lt (blk_lt (g := gb101) (o := .cells #[.int .i64 a0_0, .slice (some ad102) l0_1.length c0_1] 28 (0, 0)) (by (with_reducible repeat (first | refine bN ?_ _ | refine bd ?_ | refine bA ?_ _)); exact BK101.1)) : gb101 ≠ gb105)); have n6_ := Q0z.mk ((by rw [hg]; exact Nat.ne_of_gt (blk_lt (g := gb101) (o := .cells #[.int .i64 a0_0, .slice (some ad102) l0_1.length c0_1] 28 (0, 0)) (by (with_reducible repeat (first | refine bN ?_ _ | refine bd ?_ | refine bA ?_ _)); exact BK101.1)) : gb105 ≠ gb101)); clear BK101; clear HB; have BK101 := n0_; have HB := n1_; have BK105 := n2_; have GW105 := n3_; have GE105 := n4_; have NB101_105 := n5_; have NB105_101 := n6_; clear n0_ n1_ n2_ n3_ n4_ n5_ n6_; clear hb hbox hg; have hnb26 := NB105_101.1; have hnc26 := NB101_105.1; have hcz27_0 : w25.cell? ⟨gb105, 0, none⟩ = some (.int .i64 0) := (bcz BK105.1 0).trans rfl; have hcz27_1 : w25.cell? ⟨gb105, 1, none⟩ = some (.int .i64 0) := (bcz BK105.1 1).trans rfl; have hfz27_0 := bf BK105.1 0; have hfz27_1 := bf BK105.1 1; have hcz28_0 : w25.cell? ⟨gb101, 0, none⟩ = some (.int .i64 a0_0) := (bcz BK101.1 0).trans rfl; have hcz28_1 : w25.cell? ⟨gb101, 1, none⟩ = some (.slice (some ad102) l0_1.length c0_1) := (bcz BK101.1 1).trans rfl; have hfz28_0 := bf BK101.1 0; have hfz28_1 := bf BK101.1 1))
               go_ret
               exact ⟨by first | rfl | (simp [errW_none, errW_some] <;> rfl) | (simp [*, errW_none, errW_some] <;> rfl), by repeat (first | (with_reducible first | exact HB.1 | apply ba | apply pN | apply bD | refine bS ?_ GE101.1 | refine bS ?_ GE105.1) | exact HB.1)⟩
              ·rw [if_neg c23] at H
               have c23b0 : decide (a0_0 ≤ ((rd_T82 (rd_L2 l0_1 x3_2) x4_3).f0)) = false := decide_eq_false c23
               clear c23
               by_cases c29 : ((rd_T82 (rd_L2 l0_1 x3_2) x4_3).f1) < 0
               ·rw [if_pos c29] at H
                have c29b0 : decide (((rd_T82 (rd_L2 l0_1 x3_2) x4_3).f1) < 0) = true := decide_eq_true c29
                clear c29
                obtain rfl := Option.some.inj H
                have hcz30_0 : wr.cell? ⟨gb101, 0, none⟩ = some (.int .i64 a0_0) := (bcz BK101.1 0).trans rfl
                have hcz30_1 : wr.cell? ⟨gb101, 1, none⟩ = some (.slice A0_1 l0_1.length c0_1) := (bcz BK101.1 1).trans rfl
                have hfz30_0 := bf BK101.1 0
                have hfz30_1 := bf BK101.1 1
                have p102 : 0 ≤ (x3_2 : Int) := of_decide_eq_true (by first | (with_reducible assumption) | assumption)
                have q102 : x3_2 < (l0_1.length : Int) := of_decide_eq_true (by first | (with_reducible assumption) | assumption)
                obtain ⟨ad102, A102_0, c102_0, e102, hx102_0, hl102_0, hi102_0⟩ := at_L2 HR0_1.1 x3_2 p102 q102
                cases e102
                replace hx102_0 := (HB.1.cell (World.block_lt_of_cell? w _ hx102_0)).trans hx102_0
                have HR102_0 := Q0z.mk hi102_0
                have HC102_0 := Q0z.mk hl102_0
                clear hi102_0 hl102_0
                replace p102 := eq_true p102
                replace q102 := eq_true q102
                have p103 : 0 ≤ (x3_2 : Int) := of_decide_eq_true (by first | (with_reducible assumption) | assumption)
                have q103 : x3_2 < (l0_1.length : Int) := of_decide_eq_true (by first | (with_reducible assumption) | assumption)
                obtain ⟨ad103, A103_0, c103_0, e103, hx103_0, hl103_0, hi103_0⟩ := at_L2 HR0_1.1 x3_2 p103 q103
                obtain rfl : ad102 = ad103 := (by injection e103)
                replace hx103_0 := (HB.1.cell (World.block_lt_of_cell? w _ hx103_0)).trans hx103_0
                have HR103_0 := Q0z.mk hi103_0
                have HC103_0 := Q0z.mk hl103_0
                clear hi103_0 hl103_0
                replace p103 := eq_true p103
                replace q103 := eq_true q103
                have ea_ := Option.some.inj (hx102_0.symm.trans hx103_0)
                injection ea_ with ea_ en_ ec_
                subst ea_
                subst ec_
                clear en_
                have p104 : 0 ≤ (x4_3 : Int) := of_decide_eq_true (by first | (with_reducible assumption) | assumption)
                have q104 : x4_3 < ((rd_L2 l0_1 x3_2).length : Int) := of_decide_eq_true (by first | (with_reducible assumption) | assumption)
                obtain ⟨ad104, e104, hx104_0, hx104_1⟩ := at_T82 HR103_0.1 x4_3 p104 q104
                cases e104
                replace hx104_0 := (HB.1.cell (World.block_lt_of_cell? w _ hx104_0)).trans hx104_0
                replace hx104_1 := (HB.1.cell (World.block_lt_of_cell? w _ hx104_1)).trans hx104_1
                replace p104 := eq_true p104
                replace q104 := eq_true q104
                go_wp2_with (first | ((with_reducible refine gate_dst (N := 5) rfl ?_); (try (refine gate_guard (by rfl) ?_; dsimp only)); refine box_event ?hg (N := 5) ?hd (cs := #[.int .i64 0, .int .i64 0]) (t := 82) ?hr ?_; (case hd => rfl); (case hg => rfl); (case hr => first | (go_simp; done) | (go_simp; rfl)); intro gb105 hg w31 hbox hb; have n0_ := Q0z.mk (bbz (g := gb101) (o := .cells #[.int .i64 a0_0, .slice (some ad102) l0_1.length c0_1] 28 (0, 0)) (by (with_reducible repeat (first | refine bN ?_ _ | refine bd ?_ | refine bA ?_ _)); exact BK101.1) hb); have n1_ := Q0z.mk (bsz (by repeat (first | (with_reducible first | exact HB.1 | apply ba | apply pN | apply bD | refine bS ?_ GE101.1) | exact HB.1)) hb); have n2_ := Q0z.mk (hbox); have n3_ := Q0z.mk ((by rw [hg]; exact (below_size (by repeat (first | (with_reducible first | exact HB.1 | apply ba | apply pN | apply bD | refine bS ?_ GE101.1) | exact HB.1))) : w.heap.size ≤ gb105)); have n4_ := Q0z.mk ((by rw [hg]; exact (below_size (by repeat (first | (with_reducible first | exact HB.1 | apply ba | apply pN | apply bD | refine bS ?_ GE101.1) | exact HB.1))) : w.heap.size ≤ gb105)); have n5_ := Q0z.mk ((by rw [hg]; exact Nat.ne_of_lt (blk_lt (g := gb101) (o := .cells #[.int .i64 a0_0, .slice (some ad102) l0_1.length c0_1] 28 (0, 0)) (by (with_reducible repeat (first | refine bN ?_ _ | refine bd ?_ | refine bA ?_ _)); exact BK101.1)) : gb101 ≠ gb105)); have n6_ := Q0z.mk ((by rw [hg]; exact Nat.ne_of_gt (blk_lt (g := gb101) (o := .cells #[.int .i64 a0_0, .slice (some ad102) l0_1.length c0_1] 28 (0, 0)) (by (with_reducible repeat (first | refine bN ?_ _ | refine bd ?_ | refine bA ?_ _)); exact BK101.1)) : gb105 ≠ gb101)); clear BK101; clear HB; have BK101 := n0_; have HB := n1_; have BK105 := n2_; have GW105 := n3_; have GE105 := n4_; have NB101_105 := n5_; have NB105_101 := n6_; clear n0_ n1_ n2_ n3_ n4_ n5_ n6_; clear hb hbox hg; have hnb32 := NB105_101.1; have hnc32 := NB101_105.1; have hcz33_0 : w31.cell? ⟨gb105, 0, none⟩ = some (.int .i64 0) := (bcz BK105.1 0).trans rfl; have hcz33_1 : w31.cell? ⟨gb105, 1, none⟩ = some (.int .i64 0) := (bcz BK105.1 1).trans rfl; have hfz33_0 := bf BK105.1 0; have hfz33_1 := bf BK105.1 1; have hcz34_0 : w31.cell? ⟨gb101, 0, none⟩ = some (.int .i64 a0_0) := (bcz BK101.1 0).trans rfl; have hcz34_1 : w31.cell? ⟨gb101, 1, none⟩ = some (.slice (some ad102) l0_1.length c0_1) := (bcz BK101.1 1).trans rfl; have hfz34_0 := bf BK101.1 0; have hfz34_1 := bf BK101.1 1))
                go_ret
                exact ⟨by first | rfl | (simp [errW_none, errW_some] <;> rfl) | (simp [*, errW_none, errW_some] <;> rfl), by repeat (first | (with_reducible first | exact HB.1 | apply ba | apply pN | apply bD | refine bS ?_ GE101.1 | refine bS ?_ GE105.1) | exact HB.1)⟩
               ·rw [if_neg c29] at H
                have c29b0 : decide (((rd_T82 (rd_L2 l0_1 x3_2) x4_3).f1) < 0) = false := decide_eq_false c29
                clear c29
                by_cases c35 : ((rd_T82 (rd_L2 l0_1 x3_2) x4_3).f1) ≥ (l0_1.length : Int)
                ·rw [if_pos c35] at H
                 have c35b0 : decide ((l0_1.length : Int) ≤ ((rd_T82 (rd_L2 l0_1 x3_2) x4_3).f1)) = true := decide_eq_true c35
                 clear c35
                 obtain rfl := Option.some.inj H
                 have hcz36_0 : wr.cell? ⟨gb101, 0, none⟩ = some (.int .i64 a0_0) := (bcz BK101.1 0).trans rfl
                 have hcz36_1 : wr.cell? ⟨gb101, 1, none⟩ = some (.slice A0_1 l0_1.length c0_1) := (bcz BK101.1 1).trans rfl
                 have hfz36_0 := bf BK101.1 0
                 have hfz36_1 := bf BK101.1 1
                 have p102 : 0 ≤ (x3_2 : Int) := of_decide_eq_true (by first | (with_reducible assumption) | assumption)
                 have q102 : x3_2 < (l0_1.length : Int) := of_decide_eq_true (by first | (with_reducible assumption) | assumption)
                 obtain ⟨ad102, A102_0, c102_0, e102, hx102_0, hl102_0, hi102_0⟩ := at_L2 HR0_1.1 x3_2 p102 q102
                 cases e102
                 replace hx102_0 := (HB.1.cell (World.block_lt_of_cell? w _ hx102_0)).trans hx102_0
                 have HR102_0 := Q0z.mk hi102_0
                 have HC102_0 := Q0z.mk hl102_0
                 clear hi102_0 hl102_0
                 replace p102 := eq_true p102
                 replace q102 := eq_true q102
                 have p103 : 0 ≤ (x3_2 : Int) := of_decide_eq_true (by first | (with_reducible assumption) | assumption)
                 have q103 : x3_2 < (l0_1.length : Int) := of_decide_eq_true (by first | (with_reducible assumption) | assumption)
                 obtain ⟨ad103, A103_0, c103_0, e103, hx103_0, hl103_0, hi103_0⟩ := at_L2 HR0_1.1 x3_2 p103 q103
                 obtain rfl : ad102 = ad103 := (by injection e103)
                 replace hx103_0 := (HB.1.cell (World.block_lt_of_cell? w _ hx103_0)).trans hx103_0
                 have HR103_0 := Q0z.mk hi103_0
                 have HC103_0 := Q0z.mk hl103_0
                 clear hi103_0 hl103_0
                 replace p103 := eq_true p103
                 replace q103 := eq_true q103
                 have ea_ := Option.some.inj (hx102_0.symm.trans hx103_0)
                 injection ea_ with ea_ en_ ec_
                 subst ea_
                 subst ec_
                 clear en_
                 have p104 : 0 ≤ (x4_3 : Int) := of_decide_eq_true (by first | (with_reducible assumption) | assumption)
                 have q104 : x4_3 < ((rd_L2 l0_1 x3_2).length : Int) := of_decide_eq_true (by first | (with_reducible assumption) | assumption)
                 obtain ⟨ad104, e104, hx104_0, hx104_1⟩ := at_T82 HR103_0.1 x4_3 p104 q104
                 cases e104
                 replace hx104_0 := (HB.1.cell (World.block_lt_of_cell? w _ hx104_0)).trans hx104_0
                 replace hx104_1 := (HB.1.cell (World.block_lt_of_cell? w _ hx104_1)).trans hx104_1
                 replace p104 := eq_true p104
                 replace q104 := eq_true q104
                 go_wp2_with (first | ((with_reducible refine gate_dst (N := 5) rfl ?_); (try (refine gate_guard (by rfl) ?_; dsimp only)); refine box_event ?hg (N := 5) ?hd (cs := #[.int .i64 0, .int .i64 0]) (t := 82) ?hr ?_; (case hd => rfl); (case hg => rfl); (case hr => first | (go_simp; done) | (go_simp; rfl)); intro gb105 hg w37 hbox hb; have n0_ := Q0z.mk (bbz (g := gb101) (o := .cells #[.int .i64 a0_0, .slice (some ad102) l0_1.length c0_1] 28 (0, 0)) (by (with_reducible repeat (first | refine bN ?_ _ | refine bd ?_ | refine bA ?_ _)); exact BK101.1) hb); have n1_ := Q0z.mk (bsz (by repeat (first | (with_reducible first | exact HB.1 | apply ba | apply pN | apply bD | refine bS ?_ GE101.1) | exact HB.1)) hb); have n2_ := Q0z.mk (hbox); have n3_ := Q0z.mk ((by rw [hg]; exact (below_size (by repeat (first | (with_reducible first | exact HB.1 | apply ba | apply pN | apply bD | refine bS ?_ GE101.1) | exact HB.1))) : w.heap.size ≤ gb105)); have n4_ := Q0z.mk ((by rw [hg]; exact (below_size (by repeat (first | (with_reducible first | exact HB.1 | apply ba | apply pN | apply bD | refine bS ?_ GE101.1) | exact HB.1))) : w.heap.size ≤ gb105)); have n5_ := Q0z.mk ((by rw [hg]; exact Nat.ne_of_lt (blk_lt (g := gb101) (o := .cells #[.int .i64 a0_0, .slice (some ad102) l0_1.length c0_1] 28 (0, 0)) (by (with_reducible repeat (first | refine bN ?_ _ | refine bd ?_ | refine bA ?_ _)); exact BK101.1)) : gb101 ≠ gb105)); have n6_ := Q0z.mk ((by rw [hg]; exact Nat.ne_of_gt (blk_lt (g := gb101) (o := .cells #[.int .i64 a0_0, .slice (some ad102) l0_1.length c0_1] 28 (0, 0)) (by (with_reducible repeat (first | refine bN ?_ _ | refine bd ?_ | refine bA ?_ _)); exact BK101.1)) : gb105 ≠ gb101)); clear BK101; clear HB; have BK101 := n0_; have HB := n1_; have BK105 := n2_; have GW105 := n3_; have GE105 := n4_; have NB101_105 := n5_; have NB105_101 := n6_; clear n0_ n1_ n2_ n3_ n4_ n5_ n6_; clear hb hbox hg; have hnb38 := NB105_101.1; have hnc38 := NB101_105.1; have hcz39_0 : w37.cell? ⟨gb105, 0, none⟩ = some (.int .i64 0) := (bcz BK105.1 0).trans rfl; have hcz39_1 : w37.cell? ⟨gb105, 1, none⟩ = some (.int .i64 0) := (bcz BK105.1 1).trans rfl; have hfz39_0 := bf BK105.1 0; have hfz39_1 := bf BK105.1 1; have hcz40_0 : w37.cell? ⟨gb101, 0, none⟩ = some (.int .i64 a0_0) := (bcz BK101.1 0).trans rfl; have hcz40_1 : w37.cell? ⟨gb101, 1, none⟩ = some (.slice (some ad102) l0_1.length c0_1) := (bcz BK101.1 1).trans rfl; have hfz40_0 := bf BK101.1 0; have hfz40_1 := bf BK101.1 1))
                 go_ret
                 exact ⟨by first | rfl | (simp [errW_none, errW_some] <;> rfl) | (simp [*, errW_none, errW_some] <;> rfl), by repeat (first | (with_reducible first | exact HB.1 | apply ba | apply pN | apply bD | refine bS ?_ GE101.1 | refine bS ?_ GE105.1) | exact HB.1)⟩
                ·rw [if_neg c35] at H
                 have c35b0 : decide ((l0_1.length : Int) ≤ ((rd_T82 (rd_L2 l0_1 x3_2) x4_3).f1)) = false := decide_eq_false c35
                 clear c35
                 have H' := Q0z.mk H
                 clear H
                 have hcz41_0 : wr.cell? ⟨gb101, 0, none⟩ = some (.int .i64 a0_0) := (bcz BK101.1 0).trans rfl
                 have hcz41_1 : wr.cell? ⟨gb101, 1, none⟩ = some (.slice A0_1 l0_1.length c0_1) := (bcz BK101.1 1).trans rfl
                 have hfz41_0 := bf BK101.1 0
                 have hfz41_1 := bf BK101.1 1
                 have p102 : 0 ≤ (x3_2 : Int) := of_decide_eq_true (by first | (with_reducible assumption) | assumption)
                 have q102 : x3_2 < (l0_1.length : Int) := of_decide_eq_true (by first | (with_reducible assumption) | assumption)
                 obtain ⟨ad102, A102_0, c102_0, e102, hx102_0, hl102_0, hi102_0⟩ := at_L2 HR0_1.1 x3_2 p102 q102
                 cases e102
                 replace hx102_0 := (HB.1.cell (World.block_lt_of_cell? w _ hx102_0)).trans hx102_0
                 have HR102_0 := Q0z.mk hi102_0
                 have HC102_0 := Q0z.mk hl102_0
                 clear hi102_0 hl102_0
                 replace p102 := eq_true p102
                 replace q102 := eq_true q102
                 have p103 : 0 ≤ (x3_2 : Int) := of_decide_eq_true (by first | (with_reducible assumption) | assumption)
                 have q103 : x3_2 < (l0_1.length : Int) := of_decide_eq_true (by first | (with_reducible assumption) | assumption)
                 obtain ⟨ad103, A103_0, c103_0, e103, hx103_0, hl103_0, hi103_0⟩ := at_L2 HR0_1.1 x3_2 p103 q103
                 obtain rfl : ad102 = ad103 := (by injection e103)
                 replace hx103_0 := (HB.1.cell (World.block_lt_of_cell? w _ hx103_0)).trans hx103_0
                 have HR103_0 := Q0z.mk hi103_0
                 have HC103_0 := Q0z.mk hl103_0
                 clear hi103_0 hl103_0
                 replace p103 := eq_true p103
                 replace q103 := eq_true q103
                 have ea_ := Option.some.inj (hx102_0.symm.trans hx103_0)
                 injection ea_ with ea_ en_ ec_
                 subst ea_
                 subst ec_
                 clear en_
                 have p104 : 0 ≤ (x4_3 : Int) := of_decide_eq_true (by first | (with_reducible assumption) | assumption)
                 have q104 : x4_3 < ((rd_L2 l0_1 x3_2).length : Int) := of_decide_eq_true (by first | (with_reducible assumption) | assumption)
                 obtain ⟨ad104, e104, hx104_0, hx104_1⟩ := at_T82 HR103_0.1 x4_3 p104 q104
                 cases e104
                 replace hx104_0 := (HB.1.cell (World.block_lt_of_cell? w _ hx104_0)).trans hx104_0
                 replace hx104_1 := (HB.1.cell (World.block_lt_of_cell? w _ hx104_1)).trans hx104_1
                 replace p104 := eq_true p104
                 replace q104 := eq_true q104
                 go_wp2_with (first | ((with_reducible refine gate_dst (N := 5) rfl ?_); (try (refine gate_guard (by rfl) ?_; dsimp only)); refine box_event ?hg (N := 5) ?hd (cs := #[.int .i64 0, .int .i64 0]) (t := 82) ?hr ?_; (case hd => rfl); (case hg => rfl); (case hr => first | (go_simp; done) | (go_simp; rfl)); intro gb105 hg w42 hbox hb; have n0_ := Q0z.mk (bbz (g := gb101) (o := .cells #[.int .i64 a0_0, .slice (some ad102) l0_1.length c0_1] 28 (0, 0)) (by (with_reducible repeat (first | refine bN ?_ _ | refine bd ?_ | refine bA ?_ _)); exact BK101.1) hb); have n1_ := Q0z.mk (bsz (by repeat (first | (with_reducible first | exact HB.1 | apply ba | apply pN | apply bD | refine bS ?_ GE101.1) | exact HB.1)) hb); have n2_ := Q0z.mk (hbox); have n3_ := Q0z.mk ((by rw [hg]; exact (below_size (by repeat (first | (with_reducible first | exact HB.1 | apply ba | apply pN | apply bD | refine bS ?_ GE101.1) | exact HB.1))) : w.heap.size ≤ gb105)); have n4_ := Q0z.mk ((by rw [hg]; exact (below_size (by repeat (first | (with_reducible first | exact HB.1 | apply ba | apply pN | apply bD | refine bS ?_ GE101.1) | exact HB.1))) : w.heap.size ≤ gb105)); have n5_ := Q0z.mk ((by rw [hg]; exact Nat.ne_of_lt (blk_lt (g := gb101) (o := .cells #[.int .i64 a0_0, .slice (some ad102) l0_1.length c0_1] 28 (0, 0)) (by (with_reducible repeat (first | refine bN ?_ _ | refine bd ?_ | refine bA ?_ _)); exact BK101.1)) : gb101 ≠ gb105)); have n6_ := Q0z.mk ((by rw [hg]; exact Nat.ne_of_gt (blk_lt (g := gb101) (o := .cells #[.int .i64 a0_0, .slice (some ad102) l0_1.length c0_1] 28 (0, 0)) (by (with_reducible repeat (first | refine bN ?_ _ | refine bd ?_ | refine bA ?_ _)); exact BK101.1)) : gb105 ≠ gb101)); clear BK101; clear HB; have BK101 := n0_; have HB := n1_; have BK105 := n2_; have GW105 := n3_; have GE105 := n4_; have NB101_105 := n5_; have NB105_101 := n6_; clear n0_ n1_ n2_ n3_ n4_ n5_ n6_; clear hb hbox hg; have hnb43 := NB105_101.1; have hnc43 := NB101_105.1; have hcz44_0 : w42.cell? ⟨gb105, 0, none⟩ = some (.int .i64 0) := (bcz BK105.1 0).trans rfl; have hcz44_1 : w42.cell? ⟨gb105, 1, none⟩ = some (.int .i64 0) := (bcz BK105.1 1).trans rfl; have hfz44_0 := bf BK105.1 0; have hfz44_1 := bf BK105.1 1; have hcz45_0 : w42.cell? ⟨gb101, 0, none⟩ = some (.int .i64 a0_0) := (bcz BK101.1 0).trans rfl; have hcz45_1 : w42.cell? ⟨gb101, 1, none⟩ = some (.slice (some ad102) l0_1.length c0_1) := (bcz BK101.1 1).trans rfl; have hfz45_0 := bf BK101.1 0; have hfz45_1 := bf BK101.1 1))
                 go_roundg k3
                 case measure => have := HJ1.1; have := HK2.1; have := HK3.1; omega
                 case rel => exact ⟨(wrap64 (x4_3 + 1)), (by first | rfl | (simp; done) | (simp [*]; done)), H', ⟨by have := HJ1.1; have := HK2.1; have := HK3.1; omega⟩, ⟨by (with_reducible repeat (first | refine bN ?_ _ | refine bd ?_ | refine bA ?_ _)); refine bF ?_ NB101_105.1 _; (with_reducible repeat (first | refine bN ?_ _ | refine bd ?_ | refine bA ?_ _)); refine bF ?_ NB101_105.1 _; (with_reducible repeat (first | refine bN ?_ _ | refine bd ?_ | refine bA ?_ _)); exact BK101.1⟩, ⟨by repeat (first | (with_reducible first | exact HB.1 | apply ba | apply pN | apply bD | refine bS ?_ GE101.1 | refine bS ?_ GE105.1) | exact HB.1)⟩⟩
            ·rw [if_neg c17] at H
             exact absurd H (by simp)
           ·rw [if_neg c16] at H
            have c16b0 : decide (x4_3 < ((rd_L2 l0_1 x3_2).length : Int)) = false := decide_eq_false c16
            clear c16
            have H' := Q0z.mk H
            clear H
            have hcz46_0 : wr.cell? ⟨gb101, 0, none⟩ = some (.int .i64 a0_0) := (bcz BK101.1 0).trans rfl
            have hcz46_1 : wr.cell? ⟨gb101, 1, none⟩ = some (.slice A0_1 l0_1.length c0_1) := (bcz BK101.1 1).trans rfl
            have hfz46_0 := bf BK101.1 0
            have hfz46_1 := bf BK101.1 1
            have p102 : 0 ≤ (x3_2 : Int) := of_decide_eq_true (by first | (with_reducible assumption) | assumption)
            have q102 : x3_2 < (l0_1.length : Int) := of_decide_eq_true (by first | (with_reducible assumption) | assumption)
            obtain ⟨ad102, A102_0, c102_0, e102, hx102_0, hl102_0, hi102_0⟩ := at_L2 HR0_1.1 x3_2 p102 q102
            cases e102
            replace hx102_0 := (HB.1.cell (World.block_lt_of_cell? w _ hx102_0)).trans hx102_0
            have HR102_0 := Q0z.mk hi102_0
            have HC102_0 := Q0z.mk hl102_0
            clear hi102_0 hl102_0
            replace p102 := eq_true p102
            replace q102 := eq_true q102
            go_wp2
            go_roundg k3
            case measure => have := HJ1.1; have := HK2.1; have := HK3.1; omega
            case rel => exact ⟨(wrap64 (x3_2 + 1)), (by first | rfl | (simp; done) | (simp [*]; done)), H', ⟨by have := HJ1.1; have := HK2.1; have := HK3.1; omega⟩, ⟨by (with_reducible repeat (first | refine bN ?_ _ | refine bd ?_ | refine bA ?_ _)); exact BK101.1⟩, ⟨by repeat (first | (with_reducible first | exact HB.1 | apply ba | apply pN | apply bD | refine bS ?_ GE101.1) | exact HB.1)⟩⟩
          ·rw [if_neg c15] at H
           exact absurd H (by simp)
         ·rw [if_neg c14] at H
          exact absurd H (by simp)
      ·rw [if_neg c12] at H
       have c12b0 : decide (x3_2 < (l0_1.length : Int)) = false := decide_eq_false c12
       clear c12
       obtain rfl := Option.some.inj H
       have hcz47_0 : wr.cell? ⟨gb101, 0, none⟩ = some (.int .i64 a0_0) := (bcz BK101.1 0).trans rfl
       have hcz47_1 : wr.cell? ⟨gb101, 1, none⟩ = some (.slice A0_1 l0_1.length c0_1) := (bcz BK101.1 1).trans rfl
       have hfz47_0 := bf BK101.1 0
       have hfz47_1 := bf BK101.1 1
       go_wp2
       go_ret
       exact ⟨by first | rfl | (simp [errW_none, errW_some] <;> rfl) | (simp [*, errW_none, errW_some] <;> rfl), by repeat (first | (with_reducible first | exact HB.1 | apply ba | apply pN | apply bD | refine bS ?_ GE101.1) | exact HB.1)⟩

end Go.Proofs.Ytelkjbacdpmnfaa.A
