/- By a program, out of the translation (wip/myprint.py). -/
import Derived.Test.YtelkjbacdpmnfaaA0
import Derived.Test.YtelkjbacdpmnfaaACaesurakeepLists
import Derived.Test.YtelkjbacdpmnfaaACaesurakeepOwnAutomaton
import Derived.Test.YtelkjbacdpmnfaaACaesuralaw21Light
import Derived.Test.YtelkjbacdpmnfaaACaesuralaw22Wakes
import Derived.Test.YtelkjbacdpmnfaaACaesuraref19Good
import Derived.Test.YtelkjbacdpmnfaaANumberAlike
import Derived.Test.YtelkjbacdpmnfaaANumberCanon
namespace Go.Proofs.Ytelkjbacdpmnfaa.A
open Go.RowKit Go.Proofs.YtelkjbacdpmnfaaW.PrintWords Go.Proofs.YtelkjbacdpmnfaaW.PrintLast Go.Proofs.YtelkjbacdpmnfaaW.PrintMore
attribute [local go_sem] max2_int min2_int max_two min_two max_three min_three max_four min_four   -- for this text's walks alone
set_option linter.unusedVariables false
set_option linter.unusedSimpArgs false

/-! ### caesuralaw22_NumberFlip: function 17 -/
mutual
def caesuralaw22_NumberFlip.l0 : Nat → Int → Int → List (List Int) → List Bool → Int → List (List Int) → List Bool → Option (Bool)
 | 0, _, _, _, _, _, _, _ => none
 | k + 1, x4, x102000, x102001, x102002, x112000, x112001, x112002 => if x4 < (x112002.length : Int) then (if 0 ≤ x4 then (caesuralaw22_NumberFlip.l0 k (wrap64 (x4 + 1)) x102000 x102001 x102002 x112000 x112001 (x112002.set (x4 : Int).toNat (!(rdOf false x112002 x4)))) else (none)) else ((number_Canon.f k x102000 x102001 x102002).bind fun bt114 => ((number_Canon.f k x112000 x112001 x112002).bind fun bt123 => (if bt114.2.2.2 = true then (if bt123.2.2.2 = true then (if (bt114.2.2.1.length : Int) = (bt123.2.2.1.length : Int) then (caesuralaw22_NumberFlip.l1 k 0 x102000 x102001 x102002 x112000 x112001 x112002 bt114.1 bt114.2.1 bt114.2.2.1 bt123.1 bt123.2.1 bt123.2.2.1) else (none)) else (none)) else (none))))
def caesuralaw22_NumberFlip.l1 : Nat → Int → Int → List (List Int) → List Bool → Int → List (List Int) → List Bool → Int → List (List Int) → List Bool → Int → List (List Int) → List Bool → Option (Bool)
 | 0, _, _, _, _, _, _, _, _, _, _, _, _, _ => none
 | k + 1, x9, x102000, x102001, x102002, x112000, x112001, x112002, x123000, x123001, x123002, x132000, x132001, x132002 => if x9 < (x123002.length : Int) then (if 0 ≤ x9 then (if x9 < (x132002.length : Int) then (if ((rdOf false x123002 x9) == (rdOf false x132002 x9)) = true then (none) else (caesuralaw22_NumberFlip.l1 k (wrap64 (x9 + 1)) x102000 x102001 x102002 x112000 x112001 x112002 x123000 x123001 x123002 x132000 x132001 x132002)) else (none)) else (none)) else ((caesurakeep_Lists.f k x123001 x132001).bind fun t134 => (if t134 = true then ((number_Alike.f k x102000 x102001 x102002 x112000 x112001 x112002).bind fun t135 => (if t135 = true then (none) else ((caesuralaw22_wakes.f k).bind fun t136 => (some t136)))) else (none)))
end
def caesuralaw22_NumberFlip.f (k : Nat) (a0_0 : Int) (l0_1 : List (List Int)) (l0_2 : List Bool) : Option (Bool) := (caesuralaw21_Light.f k a0_0 l0_1 l0_2).bind fun t102 => (if t102 = true then ((caesuraref19_Good.f k a0_0 l0_1 l0_2).bind fun t103 => (if t103 = true then ((caesurakeep_OwnAutomaton.f k a0_0 l0_1 l0_2).bind fun bt104 => (caesuralaw22_NumberFlip.l0 k 0 a0_0 l0_1 l0_2 bt104.1 bt104.2.1 bt104.2.2)) else ((caesuralaw22_wakes.f k).bind fun t137 => (some t137)))) else ((caesuralaw22_wakes.f k).bind fun t138 => (some t138)))
theorem caesuralaw22_NumberFlip.mono_l : ∀ k, (∀ y0 y1 y2 y3 y4 y5 y6, LeO (caesuralaw22_NumberFlip.l0 k y0 y1 y2 y3 y4 y5 y6) (caesuralaw22_NumberFlip.l0 (k + 1) y0 y1 y2 y3 y4 y5 y6)) ∧ (∀ y0 y1 y2 y3 y4 y5 y6 y7 y8 y9 y10 y11 y12, LeO (caesuralaw22_NumberFlip.l1 k y0 y1 y2 y3 y4 y5 y6 y7 y8 y9 y10 y11 y12) (caesuralaw22_NumberFlip.l1 (k + 1) y0 y1 y2 y3 y4 y5 y6 y7 y8 y9 y10 y11 y12))
 | 0 => ⟨fun _ _ _ _ _ _ _ r h => by simp [caesuralaw22_NumberFlip.l0] at h, fun _ _ _ _ _ _ _ _ _ _ _ _ _ r h => by simp [caesuralaw22_NumberFlip.l1] at h⟩
 | k + 1 => by
  obtain ⟨ih0, ih1⟩ := caesuralaw22_NumberFlip.mono_l k
  refine ⟨?_, ?_⟩
  ·intro y0 y1 y2 y3 y4 y5 y6
   unfold caesuralaw22_NumberFlip.l0
   repeat' first
   | (with_reducible exact ih0 _ _ _ _ _ _ _)
   | (with_reducible exact ih1 _ _ _ _ _ _ _ _ _ _ _ _ _)
   | (with_reducible exact caesurakeep_Lists.mono _ _ _)
   | (with_reducible exact caesurakeep_OwnAutomaton.mono _ _ _ _)
   | (with_reducible exact caesuralaw21_Light.mono _ _ _ _)
   | (with_reducible exact caesuralaw22_wakes.mono _)
   | (with_reducible exact caesuraref19_Good.mono _ _ _ _)
   | (with_reducible exact number_Alike.mono _ _ _ _ _ _ _)
   | (with_reducible exact number_Canon.mono _ _ _ _)
   | (with_reducible exact LeO.refl _)
   | (with_reducible exact LeO.none _)
   | (with_reducible refine LeO.ite ?_ ?_)
   | (with_reducible refine LeO.bind ?_ (fun _ => ?_))
   | exact ih0 _ _ _ _ _ _ _
   | exact ih1 _ _ _ _ _ _ _ _ _ _ _ _ _
   | exact caesurakeep_Lists.mono _ _ _
   | exact caesurakeep_OwnAutomaton.mono _ _ _ _
   | exact caesuralaw21_Light.mono _ _ _ _
   | exact caesuralaw22_wakes.mono _
   | exact caesuraref19_Good.mono _ _ _ _
   | exact number_Alike.mono _ _ _ _ _ _ _
   | exact number_Canon.mono _ _ _ _
   | exact LeO.none _
   | refine LeO.ite ?_ ?_
   | refine LeO.bind ?_ (fun _ => ?_)
  ·intro y0 y1 y2 y3 y4 y5 y6 y7 y8 y9 y10 y11 y12
   unfold caesuralaw22_NumberFlip.l1
   repeat' first
   | (with_reducible exact ih0 _ _ _ _ _ _ _)
   | (with_reducible exact ih1 _ _ _ _ _ _ _ _ _ _ _ _ _)
   | (with_reducible exact caesurakeep_Lists.mono _ _ _)
   | (with_reducible exact caesurakeep_OwnAutomaton.mono _ _ _ _)
   | (with_reducible exact caesuralaw21_Light.mono _ _ _ _)
   | (with_reducible exact caesuralaw22_wakes.mono _)
   | (with_reducible exact caesuraref19_Good.mono _ _ _ _)
   | (with_reducible exact number_Alike.mono _ _ _ _ _ _ _)
   | (with_reducible exact number_Canon.mono _ _ _ _)
   | (with_reducible exact LeO.refl _)
   | (with_reducible exact LeO.none _)
   | (with_reducible refine LeO.ite ?_ ?_)
   | (with_reducible refine LeO.bind ?_ (fun _ => ?_))
   | exact ih0 _ _ _ _ _ _ _
   | exact ih1 _ _ _ _ _ _ _ _ _ _ _ _ _
   | exact caesurakeep_Lists.mono _ _ _
   | exact caesurakeep_OwnAutomaton.mono _ _ _ _
   | exact caesuralaw21_Light.mono _ _ _ _
   | exact caesuralaw22_wakes.mono _
   | exact caesuraref19_Good.mono _ _ _ _
   | exact number_Alike.mono _ _ _ _ _ _ _
   | exact number_Canon.mono _ _ _ _
   | exact LeO.none _
   | refine LeO.ite ?_ ?_
   | refine LeO.bind ?_ (fun _ => ?_)
theorem caesuralaw22_NumberFlip.mono : ∀ a0 a1 a2 k, LeO (caesuralaw22_NumberFlip.f k a0 a1 a2) (caesuralaw22_NumberFlip.f (k + 1) a0 a1 a2) := by
 intro a0 a1 a2 k
 obtain ⟨ih0, ih1⟩ := caesuralaw22_NumberFlip.mono_l k
 unfold caesuralaw22_NumberFlip.f
 repeat' first
   | (with_reducible exact ih0 _ _ _ _ _ _ _)
   | (with_reducible exact ih1 _ _ _ _ _ _ _ _ _ _ _ _ _)
   | (with_reducible exact caesurakeep_Lists.mono _ _ _)
   | (with_reducible exact caesurakeep_OwnAutomaton.mono _ _ _ _)
   | (with_reducible exact caesuralaw21_Light.mono _ _ _ _)
   | (with_reducible exact caesuralaw22_wakes.mono _)
   | (with_reducible exact caesuraref19_Good.mono _ _ _ _)
   | (with_reducible exact number_Alike.mono _ _ _ _ _ _ _)
   | (with_reducible exact number_Canon.mono _ _ _ _)
   | (with_reducible exact LeO.refl _)
   | (with_reducible exact LeO.none _)
   | (with_reducible refine LeO.ite ?_ ?_)
   | (with_reducible refine LeO.bind ?_ (fun _ => ?_))
   | exact ih0 _ _ _ _ _ _ _
   | exact ih1 _ _ _ _ _ _ _ _ _ _ _ _ _
   | exact caesurakeep_Lists.mono _ _ _
   | exact caesurakeep_OwnAutomaton.mono _ _ _ _
   | exact caesuralaw21_Light.mono _ _ _ _
   | exact caesuralaw22_wakes.mono _
   | exact caesuraref19_Good.mono _ _ _ _
   | exact number_Alike.mono _ _ _ _ _ _ _
   | exact number_Canon.mono _ _ _ _
   | exact LeO.none _
   | refine LeO.ite ?_ ?_
   | refine LeO.bind ?_ (fun _ => ?_)
def caesuralaw22_NumberFlip.T7 : Bool × List (List Nat × List Nat) := (true, [([], []), ([0], [0]), ([], []), ([], []), ([3], [3]), ([], []), ([4, 5], [4, 5]), ([6], [6]), ([7], [7]), ([1, 2, 0, 1, 2, 3, 4, 5, 6, 7, 8], [1, 2]), ([9, 8, 0, 1, 2, 3, 4, 5, 6, 7, 8], [8, 9])])
def caesuralaw22_NumberFlip.B7 : List Nat := [0, 1, 0, 0, 8, 0, 56, 120, 248, 511, 1023]
theorem caesuralaw22_NumberFlip.tab7 : rtab .any (opsOf Try.f17 7) = caesuralaw22_NumberFlip.T7 := by kernel_rfl
theorem caesuralaw22_NumberFlip.bits7 : waitsOk caesuralaw22_NumberFlip.T7.2 caesuralaw22_NumberFlip.B7 = true := by kernel_rfl
def caesuralaw22_NumberFlip.T15 : Bool × List (List Nat × List Nat) := (true, [([], []), ([0], [0]), ([], []), ([1, 2], [1, 2]), ([3], [3]), ([], []), ([5], [5]), ([], []), ([6, 7], [6, 7]), ([8], [8]), ([4, 9], [4, 9])])
def caesuralaw22_NumberFlip.B15 : List Nat := [0, 1, 0, 7, 15, 0, 32, 0, 224, 480, 1023]
theorem caesuralaw22_NumberFlip.tab15 : rtab .any (opsOf Try.f17 15) = caesuralaw22_NumberFlip.T15 := by kernel_rfl
theorem caesuralaw22_NumberFlip.bits15 : waitsOk caesuralaw22_NumberFlip.T15.2 caesuralaw22_NumberFlip.B15 = true := by kernel_rfl
set_option maxHeartbeats 8000000 in
set_option maxRecDepth 100000 in
theorem caesuralaw22_NumberFlip.calls (k : Nat) (a0_0 : Int) (A0_1 : Option Addr) (c0_1 : Nat) (l0_1 : List (List Int)) (A0_2 : Option Addr) (c0_2 : Nat) (l0_2 : List Bool) (r : Bool) (w : World) (hr0_1 : Kd.C (Kd.slice 3 (Kd.int .i64)) w A0_1 l0_1.length l0_1) (hc0_1 : l0_1.length ≤ c0_1) (hr0_2 : Kd.C Kd.bool w A0_2 l0_2.length l0_2) (hc0_2 : l0_2.length ≤ c0_2) (h : caesuralaw22_NumberFlip.f k a0_0 l0_1 l0_2 = some r) :
  Calls Try.prog 17 #[.agg #[.int .i64 a0_0, .slice A0_1 l0_1.length c0_1, .slice A0_2 l0_2.length c0_2]] w fun e w' => e = .returned (.bool r) ∧ Below w.heap.size w w' := by
 have hu25 := Try.underlying25
 have HR0_1 := Aside0.mk hr0_1
 have HC0_1 := Aside0.mk hc0_1
 clear hr0_1 hc0_1
 have HR0_2 := Aside0.mk hr0_2
 have HC0_2 := Aside0.mk hc0_2
 clear hr0_2 hc0_2
 have HB := Aside0.mk (Below.refl w.heap.size w)
 have H : ((caesuralaw21_Light.f k a0_0 l0_1 l0_2).bind fun t102 => (if t102 = true then ((caesuraref19_Good.f k a0_0 l0_1 l0_2).bind fun t103 => (if t103 = true then ((caesurakeep_OwnAutomaton.f k a0_0 l0_1 l0_2).bind fun bt104 => (caesuralaw22_NumberFlip.l0 k 0 a0_0 l0_1 l0_2 bt104.1 bt104.2.1 bt104.2.2)) else ((caesuralaw22_wakes.f k).bind fun t137 => (some t137)))) else ((caesuralaw22_wakes.f k).bind fun t138 => (some t138)))) = some r := h
 clear h
 replace H := Option.bind_eq_some_iff.mp H
 obtain ⟨t102, A20, H⟩ := H
 replace H : (if t102 = true then ((caesuraref19_Good.f k a0_0 l0_1 l0_2).bind fun t103 => (if t103 = true then ((caesurakeep_OwnAutomaton.f k a0_0 l0_1 l0_2).bind fun bt104 => (caesuralaw22_NumberFlip.l0 k 0 a0_0 l0_1 l0_2 bt104.1 bt104.2.1 bt104.2.2)) else ((caesuralaw22_wakes.f k).bind fun t137 => (some t137)))) else ((caesuralaw22_wakes.f k).bind fun t138 => (some t138))) = some r := H
 have A2 := Aside0.mk A20
 clear A20
 by_cases c3 : t102 = true
 ·subst c3
  have H1 : ((caesuraref19_Good.f k a0_0 l0_1 l0_2).bind fun t103 => (if t103 = true then ((caesurakeep_OwnAutomaton.f k a0_0 l0_1 l0_2).bind fun bt104 => (caesuralaw22_NumberFlip.l0 k 0 a0_0 l0_1 l0_2 bt104.1 bt104.2.1 bt104.2.2)) else ((caesuralaw22_wakes.f k).bind fun t137 => (some t137)))) = some r := by rw [if_pos rfl] at H; exact H
  clear H
  have H := H1
  clear H1
  replace H := Option.bind_eq_some_iff.mp H
  obtain ⟨t103, A40, H⟩ := H
  replace H : (if t103 = true then ((caesurakeep_OwnAutomaton.f k a0_0 l0_1 l0_2).bind fun bt104 => (caesuralaw22_NumberFlip.l0 k 0 a0_0 l0_1 l0_2 bt104.1 bt104.2.1 bt104.2.2)) else ((caesuralaw22_wakes.f k).bind fun t137 => (some t137))) = some r := H
  have A4 := Aside0.mk A40
  clear A40
  by_cases c5 : t103 = true
  ·subst c5
   have H1 : ((caesurakeep_OwnAutomaton.f k a0_0 l0_1 l0_2).bind fun bt104 => (caesuralaw22_NumberFlip.l0 k 0 a0_0 l0_1 l0_2 bt104.1 bt104.2.1 bt104.2.2)) = some r := by rw [if_pos rfl] at H; exact H
   clear H
   have H := H1
   clear H1
   replace H := Option.bind_eq_some_iff.mp H
   obtain ⟨⟨t104, t105, t108⟩, A60, H⟩ := H
   replace H : (caesuralaw22_NumberFlip.l0 k 0 a0_0 l0_1 l0_2 t104 t105 t108) = some r := H
   have A6 := Aside0.mk A60
   clear A60
   have H' := Aside0.mk H
   clear H
   go_enter Try.func17, Try.ntmps17
   go_wp2_with (first | ((with_reducible refine gate_dst (N := 1) rfl ?_); (try (refine gate_guard (by rfl) ?_; dsimp only)); refine box_event ?hg (N := 1) ?hd (cs := #[.int .i64 a0_0, .slice A0_1 l0_1.length c0_1, .slice A0_2 l0_2.length c0_2]) (t := 25) ?hr ?_; (case hd => rfl); (case hg => rfl); (case hr => first | (go_simp; done) | (go_simp; rfl)); intro gb101 hg w7 hbox hb; have n0_ := Aside0.mk (below_step (by repeat (first | (with_reducible first | exact HB.out | apply below_alloc | apply pw_below_drewN | apply below_drew1) | exact HB.out)) hb); have n1_ := Aside0.mk (hbox); have n2_ := Aside0.mk ((by rw [hg]; exact (below_size (by repeat (first | (with_reducible first | exact HB.out | apply below_alloc | apply pw_below_drewN | apply below_drew1) | exact HB.out))) : w.heap.size ≤ gb101)); have n3_ := Aside0.mk ((by rw [hg]; exact (below_size (by repeat (first | (with_reducible first | exact HB.out | apply below_alloc | apply pw_below_drewN | apply below_drew1) | exact HB.out))) : w.heap.size ≤ gb101)); clear HB; have HB := n0_; have BK101 := n1_; have GW101 := n2_; have GE101 := n3_; clear n0_ n1_ n2_ n3_; clear hb hbox hg; have hcz8_0 : w7.cell? ⟨gb101, 0, none⟩ = some (.int .i64 a0_0) := (blk_cell BK101.out 0).trans rfl; have hcz8_1 : w7.cell? ⟨gb101, 1, none⟩ = some (.slice A0_1 l0_1.length c0_1) := (blk_cell BK101.out 1).trans rfl; have hcz8_2 : w7.cell? ⟨gb101, 2, none⟩ = some (.slice A0_2 l0_2.length c0_2) := (blk_cell BK101.out 2).trans rfl; have hfz8_0 := blk_frozen BK101.out 0; have hfz8_1 := blk_frozen BK101.out 1; have hfz8_2 := blk_frozen BK101.out 2) | ((with_reducible refine gate_callee (f := 46) rfl ?_); refine goesL_ (some 11) rfl rfl Try.func46 (by kernel_rfl) rfl #[.agg #[.int .i64 a0_0, .slice A0_1 l0_1.length c0_1, .slice A0_2 l0_2.length c0_2]] rfl (by (try simp only [List.map_toArray, List.map_cons, List.map_nil]); first | done | rfl | (simp only [List.length_drop, List.length_take]; rfl)) ?_; (with_reducible refine (caesuralaw21_Light.calls k a0_0 _ _ l0_1 _ _ l0_2 true _ ?side1 ?side2 ?side3 ?side4 A2.out).mono ?_); (case side1 => repeat (first | exact (Kd.C_below HR0_1.out HB.out) | (with_reducible refine Kd.C_alloc ?_ _) | (with_reducible refine Kd.C_drewN ?_ _) | (with_reducible refine Kd.C_drew ?_))); (case side2 => exact HC0_1.out); (case side3 => repeat (first | exact (Kd.C_below HR0_2.out HB.out) | (with_reducible refine Kd.C_alloc ?_ _) | (with_reducible refine Kd.C_drewN ?_ _) | (with_reducible refine Kd.C_drew ?_))); (case side4 => exact HC0_2.out); rintro e w9 ⟨rfl, hb⟩; refine ⟨_, rfl, ?_⟩; have n0_ := Aside0.mk (blk_below (g := gb101) (o := .cells #[.int .i64 a0_0, .slice A0_1 l0_1.length c0_1, .slice A0_2 l0_2.length c0_2] 25 (0, 0)) (by (with_reducible repeat (first | refine blk_drewN ?_ _ | refine blk_drew ?_ | refine blk_alloc ?_ _)); exact BK101.out) hb); have n1_ := Aside0.mk (below_step (by repeat (first | (with_reducible first | exact HB.out | apply below_alloc | apply pw_below_drewN | apply below_drew1 | refine below_set ?_ GE101.out) | exact HB.out)) hb); clear BK101; clear HB; have BK101 := n0_; have HB := n1_; clear n0_ n1_; (try clear hb); (try clear hb2); (try clear hk); (try clear hi); have hcz10_0 : w9.cell? ⟨gb101, 0, none⟩ = some (.int .i64 a0_0) := (blk_cell BK101.out 0).trans rfl; have hcz10_1 : w9.cell? ⟨gb101, 1, none⟩ = some (.slice A0_1 l0_1.length c0_1) := (blk_cell BK101.out 1).trans rfl; have hcz10_2 : w9.cell? ⟨gb101, 2, none⟩ = some (.slice A0_2 l0_2.length c0_2) := (blk_cell BK101.out 2).trans rfl; have hfz10_0 := blk_frozen BK101.out 0; have hfz10_1 := blk_frozen BK101.out 1; have hfz10_2 := blk_frozen BK101.out 2) | (go_at_call 37; (with_reducible refine (caesuraref19_Good.calls k a0_0 _ _ l0_1 _ _ l0_2 true _ ?side1 ?side2 ?side3 ?side4 A4.out).mono ?_); (case side1 => repeat (first | exact (Kd.C_below HR0_1.out HB.out) | (with_reducible refine Kd.C_alloc ?_ _) | (with_reducible refine Kd.C_drewN ?_ _) | (with_reducible refine Kd.C_drew ?_))); (case side2 => exact HC0_1.out); (case side3 => repeat (first | exact (Kd.C_below HR0_2.out HB.out) | (with_reducible refine Kd.C_alloc ?_ _) | (with_reducible refine Kd.C_drewN ?_ _) | (with_reducible refine Kd.C_drew ?_))); (case side4 => exact HC0_2.out); rintro e w11 ⟨rfl, hb⟩; have n0_ := Aside0.mk (blk_below (g := gb101) (o := .cells #[.int .i64 a0_0, .slice A0_1 l0_1.length c0_1, .slice A0_2 l0_2.length c0_2] 25 (0, 0)) (by (with_reducible repeat (first | refine blk_drewN ?_ _ | refine blk_drew ?_ | refine blk_alloc ?_ _)); exact BK101.out) hb); have n1_ := Aside0.mk (below_step (by repeat (first | (with_reducible first | exact HB.out | apply below_alloc | apply pw_below_drewN | apply below_drew1 | refine below_set ?_ GE101.out) | exact HB.out)) hb); clear BK101; clear HB; have BK101 := n0_; have HB := n1_; clear n0_ n1_; (try clear hb); (try clear hb2); (try clear hk); (try clear hi); have hcz12_0 : w11.cell? ⟨gb101, 0, none⟩ = some (.int .i64 a0_0) := (blk_cell BK101.out 0).trans rfl; have hcz12_1 : w11.cell? ⟨gb101, 1, none⟩ = some (.slice A0_1 l0_1.length c0_1) := (blk_cell BK101.out 1).trans rfl; have hcz12_2 : w11.cell? ⟨gb101, 2, none⟩ = some (.slice A0_2 l0_2.length c0_2) := (blk_cell BK101.out 2).trans rfl; have hfz12_0 := blk_frozen BK101.out 0; have hfz12_1 := blk_frozen BK101.out 1; have hfz12_2 := blk_frozen BK101.out 2) | ((with_reducible refine gate_callee (f := 26) rfl ?_); refine goesL_ (some 20) rfl rfl Try.func26 (by kernel_rfl) rfl #[.agg #[.int .i64 a0_0, .slice A0_1 l0_1.length c0_1, .slice A0_2 l0_2.length c0_2]] rfl (by (try simp only [List.map_toArray, List.map_cons, List.map_nil]); first | done | rfl | (simp only [List.length_drop, List.length_take]; rfl)) ?_; (with_reducible refine (caesurakeep_OwnAutomaton.calls k a0_0 _ _ l0_1 _ _ l0_2 t104 t105 t108 _ ?side1 ?side2 ?side3 ?side4 A6.out).mono ?_); (case side1 => repeat (first | exact (Kd.C_below HR0_1.out HB.out) | (with_reducible refine Kd.C_alloc ?_ _) | (with_reducible refine Kd.C_drewN ?_ _) | (with_reducible refine Kd.C_drew ?_))); (case side2 => exact HC0_1.out); (case side3 => repeat (first | exact (Kd.C_below HR0_2.out HB.out) | (with_reducible refine Kd.C_alloc ?_ _) | (with_reducible refine Kd.C_drewN ?_ _) | (with_reducible refine Kd.C_drew ?_))); (case side4 => exact HC0_2.out); rintro e w13 ⟨v106, v109, rfl, ho0, ho1, hb⟩; refine ⟨_, rfl, ?_⟩; have n0_ := Aside0.mk (Kd.S_lower ho0 (below_size (by repeat (first | (with_reducible first | exact HB.out | apply below_alloc | apply pw_below_drewN | apply below_drew1 | refine below_set ?_ GE101.out) | exact HB.out)))); have n1_ := Aside0.mk (Kd.R_lower ho1 (below_size (by repeat (first | (with_reducible first | exact HB.out | apply below_alloc | apply pw_below_drewN | apply below_drew1 | refine below_set ?_ GE101.out) | exact HB.out)))); have n2_ := Aside0.mk (blk_below (g := gb101) (o := .cells #[.int .i64 a0_0, .slice A0_1 l0_1.length c0_1, .slice A0_2 l0_2.length c0_2] 25 (0, 0)) (by (with_reducible repeat (first | refine blk_drewN ?_ _ | refine blk_drew ?_ | refine blk_alloc ?_ _)); exact BK101.out) hb); have n3_ := Aside0.mk (below_step (by repeat (first | (with_reducible first | exact HB.out | apply below_alloc | apply pw_below_drewN | apply below_drew1 | refine below_set ?_ GE101.out) | exact HB.out)) hb); clear BK101; clear HB; have HO107 := n0_; have HO110 := n1_; have BK101 := n2_; have HB := n3_; clear n0_ n1_ n2_ n3_; (try clear hb); (try clear hb2); (try clear hk); (try clear hi); (try clear ho0); (try clear ho1)) | ((with_reducible refine gate_dst (N := 3) rfl ?_); (try (refine gate_guard (by rfl) ?_; dsimp only)); refine box_event ?hg (N := 3) ?hd (cs := #[.int .i64 0, .slice none 0 0, .slice none 0 0]) (t := 25) ?hr ?_; (case hd => rfl); (case hg => rfl); (case hr => first | (go_simp; done) | (go_simp; rfl)); intro gb111 hg w14 hbox hb; have n0_ := Aside0.mk (Kd.S_below (by (with_reducible repeat (first | apply Kd.S_alloc | apply Kd.S_drewN | apply Kd.S_drew)); exact HO107.out) hb); have n1_ := Aside0.mk (Kd.R_below (by (with_reducible repeat (first | apply Kd.R_alloc | apply Kd.R_drewN | apply Kd.R_drew)); exact HO110.out) hb); have n2_ := Aside0.mk (blk_below (g := gb101) (o := .cells #[.int .i64 a0_0, .slice A0_1 l0_1.length c0_1, .slice A0_2 l0_2.length c0_2] 25 (0, 0)) (by (with_reducible repeat (first | refine blk_drewN ?_ _ | refine blk_drew ?_ | refine blk_alloc ?_ _)); exact BK101.out) hb); have n3_ := Aside0.mk (below_step (by repeat (first | (with_reducible first | exact HB.out | apply below_alloc | apply pw_below_drewN | apply below_drew1 | refine below_set ?_ GE101.out) | exact HB.out)) hb); have n4_ := Aside0.mk (hbox); have n5_ := Aside0.mk ((by rw [hg]; exact (below_size (by repeat (first | (with_reducible first | exact HB.out | apply below_alloc | apply pw_below_drewN | apply below_drew1 | refine below_set ?_ GE101.out) | exact HB.out))) : w.heap.size ≤ gb111)); have n6_ := Aside0.mk ((by rw [hg]; exact (below_size (by repeat (first | (with_reducible first | exact HB.out | apply below_alloc | apply pw_below_drewN | apply below_drew1 | refine below_set ?_ GE101.out) | exact HB.out))) : w.heap.size ≤ gb111)); have n7_ := Aside0.mk ((by rw [hg]; exact Nat.ne_of_lt (blk_lt (g := gb101) (o := .cells #[.int .i64 a0_0, .slice A0_1 l0_1.length c0_1, .slice A0_2 l0_2.length c0_2] 25 (0, 0)) (by (with_reducible repeat (first | refine blk_drewN ?_ _ | refine blk_drew ?_ | refine blk_alloc ?_ _)); exact BK101.out)) : gb101 ≠ gb111)); have n8_ := Aside0.mk ((by rw [hg]; exact Nat.ne_of_gt (blk_lt (g := gb101) (o := .cells #[.int .i64 a0_0, .slice A0_1 l0_1.length c0_1, .slice A0_2 l0_2.length c0_2] 25 (0, 0)) (by (with_reducible repeat (first | refine blk_drewN ?_ _ | refine blk_drew ?_ | refine blk_alloc ?_ _)); exact BK101.out)) : gb111 ≠ gb101)); clear HO107; clear HO110; clear BK101; clear HB; have HO107 := n0_; have HO110 := n1_; have BK101 := n2_; have HB := n3_; have BK111 := n4_; have GW111 := n5_; have GE111 := n6_; have NB101_111 := n7_; have NB111_101 := n8_; clear n0_ n1_ n2_ n3_ n4_ n5_ n6_ n7_ n8_; clear hb hbox hg; have hnb15 := NB111_101.out; have hnc15 := NB101_111.out; have hcz16_0 : w14.cell? ⟨gb111, 0, none⟩ = some (.int .i64 0) := (blk_cell BK111.out 0).trans rfl; have hcz16_1 : w14.cell? ⟨gb111, 1, none⟩ = some (.slice none 0 0) := (blk_cell BK111.out 1).trans rfl; have hcz16_2 : w14.cell? ⟨gb111, 2, none⟩ = some (.slice none 0 0) := (blk_cell BK111.out 2).trans rfl; have hfz16_0 := blk_frozen BK111.out 0; have hfz16_1 := blk_frozen BK111.out 1; have hfz16_2 := blk_frozen BK111.out 2; obtain ⟨Ao17, co17, eo17⟩ := Kd.S_slice HO107.out; subst eo17; obtain ⟨Ao18, co18, eo18⟩ := Kd.R_slice HO110.out; subst eo18))
   go_loopg [4] k (fun kq v4 w' => ∃ (x4_1 : Int) (x112002_1 : List Bool) (u112002 : Value), v4 = .int .i64 x4_1 ∧ Aside0 (caesuralaw22_NumberFlip.l0 kq x4_1 a0_0 l0_1 l0_2 t104 t105 x112002_1 = some r) ∧ Aside0 (kq ≤ k) ∧ Aside0 (Kd.S (Kd.slice 3 (Kd.int .i64)) 45 w' w.heap.size (fun _ => True) (.slice Ao17 t105.length co17) t105) ∧ Aside0 (Kd.R Kd.bool 4 w' w.heap.size (fun _ => True) u112002 x112002_1) ∧ Aside0 (w'.heap[gb101]? = some (.cells #[.int .i64 a0_0, (.slice A0_1 l0_1.length c0_1), (.slice A0_2 l0_2.length c0_2)] 25 (0, 0))) ∧ Aside0 (w'.heap[gb111]? = some (.cells #[.int .i64 t104, (.slice Ao17 t105.length co17), u112002] 25 (0, 0))) ∧ Aside0 (Below w.heap.size w w'))
   case atStart => exact ⟨(0), (t108), (.slice Ao18 t108.length co18), (by first | rfl | (simp; done) | (simp [*]; done)), H', ⟨Nat.le_refl _⟩, ⟨by (with_reducible repeat (first | apply Kd.S_alloc | apply Kd.S_drewN | apply Kd.S_drew)); exact Kd.S_mono (Kd.S_far (p := ⟨gb111, 2, none⟩) (Kd.S_far (p := ⟨gb111, 1, none⟩) (Kd.S_far (p := ⟨gb111, 0, none⟩) (Kd.S_types HO107.out BK111.out (by decide)) (fun _ hk => hk.2) (.int .i64 t104)) (fun _ hk => hk.2) (.slice Ao17 t105.length co17)) (fun _ hk => hk.2) (.slice Ao18 t108.length co18)) (fun _ hk => trivial)⟩, ⟨by (with_reducible repeat (first | apply Kd.R_alloc | apply Kd.R_drewN | apply Kd.R_drew)); exact Kd.R_mono (Kd.R_far (p := ⟨gb111, 2, none⟩) (Kd.R_far (p := ⟨gb111, 1, none⟩) (Kd.R_far (p := ⟨gb111, 0, none⟩) (Kd.R_types HO110.out BK111.out (by decide)) (fun _ hk => hk.2) (.int .i64 t104)) (fun _ hk => hk.2) (.slice Ao17 t105.length co17)) (fun _ hk => hk.2) (.slice Ao18 t108.length co18)) (fun _ hk => trivial)⟩, ⟨by (with_reducible repeat (first | refine blk_drewN ?_ _ | refine blk_drew ?_ | refine blk_alloc ?_ _)); refine blk_far ?_ NB101_111.out _; (with_reducible repeat (first | refine blk_drewN ?_ _ | refine blk_drew ?_ | refine blk_alloc ?_ _)); refine blk_far ?_ NB101_111.out _; (with_reducible repeat (first | refine blk_drewN ?_ _ | refine blk_drew ?_ | refine blk_alloc ?_ _)); refine blk_far ?_ NB101_111.out _; (with_reducible repeat (first | refine blk_drewN ?_ _ | refine blk_drew ?_ | refine blk_alloc ?_ _)); exact BK101.out⟩, ⟨by (with_reducible repeat (first | refine blk_drewN ?_ _ | refine blk_drew ?_ | refine blk_alloc ?_ _)); refine blk_put (cs := #[.int .i64 t104, .slice Ao17 t105.length co17, .slice none 0 0]) ?_ 2 _ rfl; (with_reducible repeat (first | refine blk_drewN ?_ _ | refine blk_drew ?_ | refine blk_alloc ?_ _)); refine blk_put (cs := #[.int .i64 t104, .slice none 0 0, .slice none 0 0]) ?_ 1 _ rfl; (with_reducible repeat (first | refine blk_drewN ?_ _ | refine blk_drew ?_ | refine blk_alloc ?_ _)); refine blk_put (cs := #[.int .i64 0, .slice none 0 0, .slice none 0 0]) ?_ 0 _ rfl; (with_reducible repeat (first | refine blk_drewN ?_ _ | refine blk_drew ?_ | refine blk_alloc ?_ _)); exact BK111.out⟩, ⟨by repeat (first | (with_reducible first | exact HB.out | apply below_alloc | apply pw_below_drewN | apply below_drew1 | refine below_set ?_ GE101.out | refine below_set ?_ GE111.out) | exact HB.out)⟩⟩
   case round =>
    clear H'
    try clear c1
    try clear c2
    try clear p2
    try clear c3
    try clear c4
    try clear c5
    try clear c15
    try clear c17
    try clear hcz10_0
    try clear hcz10_1
    try clear hcz10_2
    try clear hcz12_0
    try clear hcz12_1
    try clear hcz12_2
    try clear hcz16_0
    try clear hcz16_1
    try clear hcz16_2
    try clear hcz8_0
    try clear hcz8_1
    try clear hcz8_2
    try clear hfz10_0
    try clear hfz10_1
    try clear hfz10_2
    try clear hfz12_0
    try clear hfz12_1
    try clear hfz12_2
    try clear hfz16_0
    try clear hfz16_1
    try clear hfz16_2
    try clear hfz8_0
    try clear hfz8_1
    try clear hfz8_2
    obtain ⟨x4_1, x112002_1, u112002, rfl, HA, HK1, HO_112001, HO_112002, BK101, BK111, HB⟩ := hrel
    cases gk with
    | zero => exact absurd HA.out (by simp [caesuralaw22_NumberFlip.l0])
    | succ k1 =>
     have H := HA.out
     clear HA
     simp only [caesuralaw22_NumberFlip.l0] at H
     by_cases c19 : x4_1 < (x112002_1.length : Int)
     ·rw [if_pos c19] at H
      have c19b0 : decide (x4_1 < (x112002_1.length : Int)) = true := decide_eq_true c19
      clear c19
      by_cases c20 : 0 ≤ x4_1
      ·rw [if_pos c20] at H
       have c20b0 : decide (0 ≤ x4_1) = true := decide_eq_true c20
       clear c20
       obtain ⟨y113, hy113⟩ : ∃ y_ : List Bool, y_ = (x112002_1.set (x4_1 : Int).toNat (!(rdOf false x112002_1 x4_1))) := ⟨_, rfl⟩
       replace H : (caesuralaw22_NumberFlip.l0 k1 (wrap64 (x4_1 + 1)) a0_0 l0_1 l0_2 t104 t105 y113) = some r := by first | (rw [hy113]; with_reducible exact H) | (have H2_ := (Option.bind_some _ _).symm.trans H; rw [hy113]; with_reducible exact H2_) | (have H2_ := (Option.bind_some _ _).symm.trans H; with_reducible exact H2_) | with_reducible exact H | (rw [hy113]; exact H) | exact H
       have Ny113 := Aside0.mk hy113
       clear hy113
       have H' := Aside0.mk H
       clear H
       have hnb22 := NB111_101.out
       have hnc22 := NB101_111.out
       have hcz23_0 : wr.cell? ⟨gb111, 0, none⟩ = some (.int .i64 t104) := (blk_cell BK111.out 0).trans rfl
       have hcz23_1 : wr.cell? ⟨gb111, 1, none⟩ = some (.slice Ao17 t105.length co17) := (blk_cell BK111.out 1).trans rfl
       have hcz23_2 : wr.cell? ⟨gb111, 2, none⟩ = some (u112002) := (blk_cell BK111.out 2).trans rfl
       have hfz23_0 := blk_frozen BK111.out 0
       have hfz23_1 := blk_frozen BK111.out 1
       have hfz23_2 := blk_frozen BK111.out 2
       obtain ⟨Ao24, co24, eo24⟩ := Kd.R_slice HO_112002.out
       subst eo24
       try go_wp2
       have n0_ := Aside0.mk (Kd.S_drew HO_112001.out)
       have n1_ := Aside0.mk (Kd.R_drew HO_112002.out)
       have n2_ := Aside0.mk (blk_drew BK101.out)
       have n3_ := Aside0.mk (blk_drew BK111.out)
       have n4_ := Aside0.mk (below_drew1 HB.out)
       clear HO_112001
       clear HO_112002
       clear BK101
       clear BK111
       clear HB
       have HO_112001 := n0_
       have HO_112002 := n1_
       have BK101 := n2_
       have BK111 := n3_
       have HB := n4_
       clear n0_ n1_ n2_ n3_ n4_
       have p112 : 0 ≤ (x4_1 : Int) := of_decide_eq_true (by first | (with_reducible assumption) | assumption)
       have q112 : x4_1 < (x112002_1.length : Int) := of_decide_eq_true (by first | (with_reducible assumption) | assumption)
       obtain ⟨ad112, e112, hx112_0⟩ := Kd.at_bool (Kd.R_reads' HO_112002.out).2.2 x4_1 p112 q112
       cases e112
       replace p112 := eq_true p112
       replace q112 := eq_true q112
       have p21 : 0 ≤ (x4_1 : Int) := of_decide_eq_true (by first | (with_reducible assumption) | assumption)
       have q21 : (x4_1 : Int) < ((x112002_1.length : Int) : Int) := of_decide_eq_true (by first | (with_reducible assumption) | assumption)
       obtain ⟨go21, co21, eo21, gb21, gl21, cl21, HG21⟩ := Kd.R_form HO_112002.out (by omega)
       (first | cases eo21 | (injection eo21 with ea_ en_ ec_; (first | subst ea_ | (injection ea_ with ea_; subst ea_)); subst ec_; clear en_))
       have GB21 := Aside0.mk gb21
       have GG21 := Aside0.mk HG21
       clear gb21 gl21 HG21
       (first | simp only [add_plain] at hx112_0 | skip)
       obtain ⟨hx21_0, hf21_0⟩ := Kd.R_celln false HO_112002.out (x4_1 : Int) p21 q21
       replace p21 := eq_true p21
       replace q21 := eq_true q21
       have HP26 := Kd.R_putn HO_112002.out (x4_1 : Int) (!(rdOf false x112002_1 x4_1))
       rw [← Ny113.out] at HP26
       have HQ26 := Aside0.mk HP26
       clear HP26
       refine start_ (n := 11) (S := fun w' => w'.cell? ⟨gb111, 0, none⟩ = some (.int .i64 t104) ∧ w'.cell? ⟨gb111, 1, none⟩ = some (.slice Ao17 t105.length co17) ∧ w'.cell? ⟨gb111, 2, none⟩ = some (.slice (some ⟨go21, 0, none⟩) x112002_1.length co24) ∧ w'.cell? ⟨go21, (x4_1).toNat, none⟩ = some (.bool (rdOf false x112002_1 x4_1))) (ds := [10]) #[false, false, false, false, false, false, false, false, false, false, false] (by kernel_rfl) rfl rfl ⟨(blk_cell BK111.out 0).trans rfl, (blk_cell BK111.out 1).trans rfl, (blk_cell BK111.out 2).trans rfl, hx112_0⟩ (fun hHeld => ?_); refine with_tabW caesuralaw22_NumberFlip.tab7 caesuralaw22_NumberFlip.bits7 (fun HT_ HW_ => ?_)
       generalize wr.drew = w25 at HO_112001 HO_112002 BK101 BK111 HB GG21 HQ26 hf21_0 hx112_0 hx21_0 hHeld ⊢
       refine pure_ (i := 0) (N := some 28) (v := ?_) (a' := ?_) #[true, false, false, false, false, false, false, false, false, false, false] rfl rfl (any_of HT_.out (by kernel_rfl)) (fun _ _ _ h => h) (Or.inl ⟨by rfl, ?_⟩) ?_ ?_
       rotate_left
       ·intro w'
        go_simp
        with_reducible rfl
       rotate_left
       ·simp only [Act.put, List.setIfInBounds_toArray, List.set_cons_zero, List.set_cons_succ, i64_w, i32_w]
        rfl
       refine pure_ (i := 2) (N := some 30) (v := ?_) (a' := ?_) #[true, false, true, false, false, false, false, false, false, false, false] rfl rfl (any_of HT_.out (by kernel_rfl)) (fun _ _ _ h => h) (Or.inl ⟨by rfl, ?_⟩) ?_ ?_
       rotate_left
       ·intro w'
        go_simp
        with_reducible rfl
       rotate_left
       ·simp only [Act.put, List.setIfInBounds_toArray, List.set_cons_zero, List.set_cons_succ, i64_w, i32_w]
        rfl
       refine pure_ (i := 3) (N := some 31) (v := ?_) (a' := ?_) #[true, false, true, true, false, false, false, false, false, false, false] rfl rfl (any_of HT_.out (by kernel_rfl)) (fun _ _ _ h => h) (Or.inl ⟨by rfl, ?_⟩) ?_ ?_
       rotate_left
       ·intro w'
        go_simp
        with_reducible rfl
       rotate_left
       ·simp only [Act.put, List.setIfInBounds_toArray, List.set_cons_zero, List.set_cons_succ, i64_w, i32_w]
        rfl
       refine pure_ (i := 5) (N := some 33) (v := ?_) (a' := ?_) #[true, false, true, true, false, true, false, false, false, false, false] rfl rfl (any_of HT_.out (by kernel_rfl)) (fun _ _ _ h => h) (Or.inl ⟨by rfl, ?_⟩) ?_ ?_
       rotate_left
       ·intro w'
        go_simp
        with_reducible rfl
       rotate_left
       ·simp only [Act.put, List.setIfInBounds_toArray, List.set_cons_zero, List.set_cons_succ, i64_w, i32_w]
        rfl
       refine take_ (i := 1) (N := some 29) (v := ?_) (a' := ?_) #[true, true, true, true, false, true, false, false, false, false, false] rfl rfl (take_ofW HT_.out HW_.out (by kernel_rfl)) (fun _ _ _ h => h) (Or.inl ⟨by rfl, ?_⟩) hHeld ?_ ?_
       rotate_left
       ·rintro w' ⟨s0, s1, s2, s3⟩
        go_simp
        with_reducible rfl
       rotate_left
       ·simp only [Act.put, List.setIfInBounds_toArray, List.set_cons_zero, List.set_cons_succ, i64_w, i32_w]
        rfl
       refine take_ (i := 4) (N := some 32) (v := ?_) (a' := ?_) #[true, true, true, true, true, true, false, false, false, false, false] rfl rfl (take_ofW HT_.out HW_.out (by kernel_rfl)) (fun _ _ _ h => h) (Or.inl ⟨by rfl, ?_⟩) hHeld ?_ ?_
       rotate_left
       ·rintro w' ⟨s0, s1, s2, s3⟩
        go_simp
        with_reducible rfl
       rotate_left
       ·simp only [Act.put, List.setIfInBounds_toArray, List.set_cons_zero, List.set_cons_succ, i64_w, i32_w]
        rfl
       refine pure_ (i := 6) (N := some 34) (v := ?_) (a' := ?_) #[true, true, true, true, true, true, true, false, false, false, false] rfl rfl (any_of HT_.out (by kernel_rfl)) (fun _ _ _ h => h) (Or.inl ⟨by rfl, ?_⟩) ?_ ?_
       rotate_left
       ·intro w'
        go_simp
        with_reducible rfl
       rotate_left
       ·simp only [Act.put, List.setIfInBounds_toArray, List.set_cons_zero, List.set_cons_succ, i64_w, i32_w]
        rfl
       refine take_ (i := 7) (N := some 35) (v := ?_) (a' := ?_) #[true, true, true, true, true, true, true, true, false, false, false] rfl rfl (take_ofW HT_.out HW_.out (by kernel_rfl)) (fun _ _ _ h => h) (Or.inl ⟨by rfl, ?_⟩) hHeld ?_ ?_
       rotate_left
       ·rintro w' ⟨s0, s1, s2, s3⟩
        go_simp
        with_reducible rfl
       rotate_left
       ·simp only [Act.put, List.setIfInBounds_toArray, List.set_cons_zero, List.set_cons_succ, i64_w, i32_w]
        rfl
       refine pure_ (i := 8) (N := some 36) (v := ?_) (a' := ?_) #[true, true, true, true, true, true, true, true, true, false, false] rfl rfl (any_of HT_.out (by kernel_rfl)) (fun _ _ _ h => h) (Or.inl ⟨by rfl, ?_⟩) ?_ ?_
       rotate_left
       ·intro w'
        go_simp
        with_reducible rfl
       rotate_left
       ·simp only [Act.put, List.setIfInBounds_toArray, List.set_cons_zero, List.set_cons_succ, i64_w, i32_w]
        rfl
       refine pure_ (i := 9) (N := some 37) (v := ?_) (a' := ?_) #[true, true, true, true, true, true, true, true, true, true, false] rfl rfl (any_of HT_.out (by kernel_rfl)) (fun _ _ _ h => h) (Or.inl ⟨by rfl, ?_⟩) ?_ ?_
       rotate_left
       ·intro w'
        go_simp
        with_reducible rfl
       rotate_left
       ·simp only [Act.put, List.setIfInBounds_toArray, List.set_cons_zero, List.set_cons_succ, i64_w, i32_w]
        rfl
       refine last_ (i := 10) (N := none) #[true, true, true, true, true, true, true, true, true, true, true] rfl rfl (one_of HT_.out (by kernel_rfl)) (by decide) (fun K hK => ?_)
       refine skip_ (w1 := ?_) (by rfl) rfl ?_ ?_
       rotate_left
       ·go_simp
        rfl
       refine hK.out _ _ ?_
       clear hK K
       refine done_ (done_of HT_.out (by kernel_rfl)) ?_
       try go_wp2
       go_roundg k1
       case measure => have := HK1.out; omega
       case rel => exact ⟨(wrap64 (x4_1 + 1)), (y113), (.slice (some ⟨go21, 0, none⟩) x112002_1.length co24), (by first | rfl | (simp; done) | (simp [*]; done)), H', ⟨by have := HK1.out; omega⟩, ⟨by (with_reducible repeat (first | apply Kd.S_alloc | apply Kd.S_drewN | apply Kd.S_drew)); exact Kd.S_mono (Kd.S_far (p := ⟨go21, (x4_1 : Int).toNat, none⟩) (Kd.S_types HO_112001.out GG21.out (by decide)) (fun _ hk => hk.2) (.bool (!(rdOf false x112002_1 x4_1)))) (fun _ hk => trivial)⟩, ⟨by (with_reducible repeat (first | apply Kd.R_alloc | apply Kd.R_drewN | apply Kd.R_drew)); exact HQ26.out⟩, ⟨by (with_reducible repeat (first | refine blk_drewN ?_ _ | refine blk_drew ?_ | refine blk_alloc ?_ _)); refine blk_far ?_ (by have h_ := Kd.R_ne HO_112002.out BK101.out (by decide); intro e_; exact h_ (by rw [e_]; rfl)) _; (with_reducible repeat (first | refine blk_drewN ?_ _ | refine blk_drew ?_ | refine blk_alloc ?_ _)); exact BK101.out⟩, ⟨by (with_reducible repeat (first | refine blk_drewN ?_ _ | refine blk_drew ?_ | refine blk_alloc ?_ _)); refine blk_far ?_ (by have h_ := Kd.R_ne HO_112002.out BK111.out (by decide); intro e_; exact h_ (by rw [e_]; rfl)) _; (with_reducible repeat (first | refine blk_drewN ?_ _ | refine blk_drew ?_ | refine blk_alloc ?_ _)); exact BK111.out⟩, ⟨by repeat (first | (with_reducible first | exact HB.out | apply below_alloc | apply pw_below_drewN | apply below_drew1 | refine below_set ?_ GB21.out | refine below_set ?_ GE101.out | refine below_set ?_ GE111.out) | exact HB.out)⟩⟩
      ·rw [if_neg c20] at H
       exact absurd H (by simp)
     ·rw [if_neg c19] at H
      have c19b0 : decide (x4_1 < (x112002_1.length : Int)) = false := decide_eq_false c19
      clear c19
      replace H := Option.bind_eq_some_iff.mp H
      obtain ⟨⟨t114, t115, t118, t121⟩, A270, H⟩ := H
      replace H : ((number_Canon.f k1 t104 t105 x112002_1).bind fun bt123 => (if t121 = true then (if bt123.2.2.2 = true then (if (t118.length : Int) = (bt123.2.2.1.length : Int) then (caesuralaw22_NumberFlip.l1 k1 0 a0_0 l0_1 l0_2 t104 t105 x112002_1 t114 t115 t118 bt123.1 bt123.2.1 bt123.2.2.1) else (none)) else (none)) else (none))) = some r := H
      have A27 := Aside0.mk A270
      clear A270
      replace H := Option.bind_eq_some_iff.mp H
      obtain ⟨⟨t123, t124, t127, t130⟩, A280, H⟩ := H
      replace H : (if t121 = true then (if t130 = true then (if (t118.length : Int) = (t127.length : Int) then (caesuralaw22_NumberFlip.l1 k1 0 a0_0 l0_1 l0_2 t104 t105 x112002_1 t114 t115 t118 t123 t124 t127) else (none)) else (none)) else (none)) = some r := H
      have A28 := Aside0.mk A280
      clear A280
      by_cases c29 : t121 = true
      ·subst c29
       have H1 : (if t130 = true then (if (t118.length : Int) = (t127.length : Int) then (caesuralaw22_NumberFlip.l1 k1 0 a0_0 l0_1 l0_2 t104 t105 x112002_1 t114 t115 t118 t123 t124 t127) else (none)) else (none)) = some r := by rw [if_pos rfl] at H; exact H
       clear H
       have H := H1
       clear H1
       by_cases c30 : t130 = true
       ·subst c30
        have H1 : (if (t118.length : Int) = (t127.length : Int) then (caesuralaw22_NumberFlip.l1 k1 0 a0_0 l0_1 l0_2 t104 t105 x112002_1 t114 t115 t118 t123 t124 t127) else (none)) = some r := by rw [if_pos rfl] at H; exact H
        clear H
        have H := H1
        clear H1
        by_cases c31 : (t118.length : Int) = (t127.length : Int)
        ·rw [if_pos c31] at H
         have c31b0 : ((t118.length : Int) == (t127.length : Int)) = true := beq_iff_eq.mpr c31
         have c31b1 : ((t118.length : Int) != (t127.length : Int)) = false := bne_eq_false_iff_eq.mpr c31
         have c31b2 : (t118.length == t127.length) = true := by first | simpa using c31 | (simp at c31 ⊢; omega)
         clear c31
         have H' := Aside0.mk H
         clear H
         have hnb32 := NB111_101.out
         have hnc32 := NB101_111.out
         have hcz33_0 : wr.cell? ⟨gb111, 0, none⟩ = some (.int .i64 t104) := (blk_cell BK111.out 0).trans rfl
         have hcz33_1 : wr.cell? ⟨gb111, 1, none⟩ = some (.slice Ao17 t105.length co17) := (blk_cell BK111.out 1).trans rfl
         have hcz33_2 : wr.cell? ⟨gb111, 2, none⟩ = some (u112002) := (blk_cell BK111.out 2).trans rfl
         have hfz33_0 := blk_frozen BK111.out 0
         have hfz33_1 := blk_frozen BK111.out 1
         have hfz33_2 := blk_frozen BK111.out 2
         obtain ⟨Ao34, co34, eo34⟩ := Kd.R_slice HO_112002.out
         subst eo34
         have hcz35_0 : wr.cell? ⟨gb101, 0, none⟩ = some (.int .i64 a0_0) := (blk_cell BK101.out 0).trans rfl
         have hcz35_1 : wr.cell? ⟨gb101, 1, none⟩ = some (.slice A0_1 l0_1.length c0_1) := (blk_cell BK101.out 1).trans rfl
         have hcz35_2 : wr.cell? ⟨gb101, 2, none⟩ = some (.slice A0_2 l0_2.length c0_2) := (blk_cell BK101.out 2).trans rfl
         have hfz35_0 := blk_frozen BK101.out 0
         have hfz35_1 := blk_frozen BK101.out 1
         have hfz35_2 := blk_frozen BK101.out 2
         go_wp2_with (first | ((with_reducible refine gate_callee (f := 65) rfl ?_); refine goesL_ (some 40) rfl rfl Try.func65 (by kernel_rfl) rfl #[.agg #[.int .i64 a0_0, .slice A0_1 l0_1.length c0_1, .slice A0_2 l0_2.length c0_2]] rfl (by (try simp only [List.map_toArray, List.map_cons, List.map_nil]); first | done | rfl | (simp only [List.length_drop, List.length_take]; rfl)) ?_; (with_reducible refine (number_Canon.calls k1 a0_0 _ _ l0_1 _ _ l0_2 t114 t115 t118 true _ ?side1 ?side2 ?side3 ?side4 A27.out).mono ?_); (case side1 => repeat (first | exact (Kd.C_below HR0_1.out HB.out) | (with_reducible refine Kd.C_alloc ?_ _) | (with_reducible refine Kd.C_drewN ?_ _) | (with_reducible refine Kd.C_drew ?_))); (case side2 => exact HC0_1.out); (case side3 => repeat (first | exact (Kd.C_below HR0_2.out HB.out) | (with_reducible refine Kd.C_alloc ?_ _) | (with_reducible refine Kd.C_drewN ?_ _) | (with_reducible refine Kd.C_drew ?_))); (case side4 => exact HC0_2.out); rintro e w36 ⟨v116, v119, rfl, ho0, ho1, hb⟩; refine ⟨_, rfl, ?_⟩; have n0_ := Aside0.mk (Kd.S_elder' (by (with_reducible repeat (first | apply Kd.S_alloc | apply Kd.S_drewN | apply Kd.S_drew)); exact HO_112001.out) (Kd.S_base ho0) hb); have n1_ := Aside0.mk (Kd.R_elder' (by (with_reducible repeat (first | apply Kd.R_alloc | apply Kd.R_drewN | apply Kd.R_drew)); exact HO_112002.out) (Kd.R_base ho1) hb); have n2_ := Aside0.mk (Kd.S_lower (Kd.S_new' ho0 (Kd.S_lt (by (with_reducible repeat (first | apply Kd.S_alloc | apply Kd.S_drewN | apply Kd.S_drew)); exact HO_112001.out))) (below_size (by repeat (first | (with_reducible first | exact HB.out | apply below_alloc | apply pw_below_drewN | apply below_drew1 | refine below_set ?_ GE101.out | refine below_set ?_ GE111.out) | exact HB.out)))); have n3_ := Aside0.mk (Kd.R_lower (Kd.R_new' ho1 (Kd.R_lt (by (with_reducible repeat (first | apply Kd.R_alloc | apply Kd.R_drewN | apply Kd.R_drew)); exact HO_112002.out))) (below_size (by repeat (first | (with_reducible first | exact HB.out | apply below_alloc | apply pw_below_drewN | apply below_drew1 | refine below_set ?_ GE101.out | refine below_set ?_ GE111.out) | exact HB.out)))); have n4_ := Aside0.mk (blk_below (g := gb101) (o := .cells #[.int .i64 a0_0, .slice A0_1 l0_1.length c0_1, .slice A0_2 l0_2.length c0_2] 25 (0, 0)) (by (with_reducible repeat (first | refine blk_drewN ?_ _ | refine blk_drew ?_ | refine blk_alloc ?_ _)); exact BK101.out) hb); have n5_ := Aside0.mk (blk_below (g := gb111) (o := .cells #[.int .i64 t104, .slice Ao17 t105.length co17, .slice Ao34 x112002_1.length co34] 25 (0, 0)) (by (with_reducible repeat (first | refine blk_drewN ?_ _ | refine blk_drew ?_ | refine blk_alloc ?_ _)); exact BK111.out) hb); have n6_ := Aside0.mk (below_step (by repeat (first | (with_reducible first | exact HB.out | apply below_alloc | apply pw_below_drewN | apply below_drew1 | refine below_set ?_ GE101.out | refine below_set ?_ GE111.out) | exact HB.out)) hb); clear HO_112001; clear HO_112002; clear BK101; clear BK111; clear HB; have HO_112001 := n0_; have HO_112002 := n1_; have HO117 := n2_; have HO120 := n3_; have BK101 := n4_; have BK111 := n5_; have HB := n6_; clear n0_ n1_ n2_ n3_ n4_ n5_ n6_; (try clear hb); (try clear hb2); (try clear hk); (try clear hi); (try clear ho0); (try clear ho1)) | ((with_reducible refine gate_dst (N := 5) rfl ?_); (try (refine gate_guard (by rfl) ?_; dsimp only)); refine box_event ?hg (N := 5) ?hd (cs := #[.int .i64 0, .slice none 0 0, .slice none 0 0]) (t := 25) ?hr ?_; (case hd => rfl); (case hg => rfl); (case hr => first | (go_simp; done) | (go_simp; rfl)); intro gb122 hg w37 hbox hb; have n0_ := Aside0.mk (Kd.S_below (by (with_reducible repeat (first | apply Kd.S_alloc | apply Kd.S_drewN | apply Kd.S_drew)); exact HO_112001.out) hb); have n1_ := Aside0.mk (Kd.R_below (by (with_reducible repeat (first | apply Kd.R_alloc | apply Kd.R_drewN | apply Kd.R_drew)); exact HO_112002.out) hb); have n2_ := Aside0.mk (Kd.S_below (by (with_reducible repeat (first | apply Kd.S_alloc | apply Kd.S_drewN | apply Kd.S_drew)); exact HO117.out) hb); have n3_ := Aside0.mk (Kd.R_below (by (with_reducible repeat (first | apply Kd.R_alloc | apply Kd.R_drewN | apply Kd.R_drew)); exact HO120.out) hb); have n4_ := Aside0.mk (blk_below (g := gb101) (o := .cells #[.int .i64 a0_0, .slice A0_1 l0_1.length c0_1, .slice A0_2 l0_2.length c0_2] 25 (0, 0)) (by (with_reducible repeat (first | refine blk_drewN ?_ _ | refine blk_drew ?_ | refine blk_alloc ?_ _)); exact BK101.out) hb); have n5_ := Aside0.mk (blk_below (g := gb111) (o := .cells #[.int .i64 t104, .slice Ao17 t105.length co17, .slice Ao34 x112002_1.length co34] 25 (0, 0)) (by (with_reducible repeat (first | refine blk_drewN ?_ _ | refine blk_drew ?_ | refine blk_alloc ?_ _)); exact BK111.out) hb); have n6_ := Aside0.mk (below_step (by repeat (first | (with_reducible first | exact HB.out | apply below_alloc | apply pw_below_drewN | apply below_drew1 | refine below_set ?_ GE101.out | refine below_set ?_ GE111.out) | exact HB.out)) hb); have n7_ := Aside0.mk (hbox); have n8_ := Aside0.mk ((by rw [hg]; exact (below_size (by repeat (first | (with_reducible first | exact HB.out | apply below_alloc | apply pw_below_drewN | apply below_drew1 | refine below_set ?_ GE101.out | refine below_set ?_ GE111.out) | exact HB.out))) : w.heap.size ≤ gb122)); have n9_ := Aside0.mk ((by rw [hg]; exact (below_size (by repeat (first | (with_reducible first | exact HB.out | apply below_alloc | apply pw_below_drewN | apply below_drew1 | refine below_set ?_ GE101.out | refine below_set ?_ GE111.out) | exact HB.out))) : w.heap.size ≤ gb122)); have n10_ := Aside0.mk ((by rw [hg]; exact Nat.ne_of_lt (blk_lt (g := gb101) (o := .cells #[.int .i64 a0_0, .slice A0_1 l0_1.length c0_1, .slice A0_2 l0_2.length c0_2] 25 (0, 0)) (by (with_reducible repeat (first | refine blk_drewN ?_ _ | refine blk_drew ?_ | refine blk_alloc ?_ _)); exact BK101.out)) : gb101 ≠ gb122)); have n11_ := Aside0.mk ((by rw [hg]; exact Nat.ne_of_gt (blk_lt (g := gb101) (o := .cells #[.int .i64 a0_0, .slice A0_1 l0_1.length c0_1, .slice A0_2 l0_2.length c0_2] 25 (0, 0)) (by (with_reducible repeat (first | refine blk_drewN ?_ _ | refine blk_drew ?_ | refine blk_alloc ?_ _)); exact BK101.out)) : gb122 ≠ gb101)); have n12_ := Aside0.mk ((by rw [hg]; exact Nat.ne_of_lt (blk_lt (g := gb111) (o := .cells #[.int .i64 t104, .slice Ao17 t105.length co17, .slice Ao34 x112002_1.length co34] 25 (0, 0)) (by (with_reducible repeat (first | refine blk_drewN ?_ _ | refine blk_drew ?_ | refine blk_alloc ?_ _)); exact BK111.out)) : gb111 ≠ gb122)); have n13_ := Aside0.mk ((by rw [hg]; exact Nat.ne_of_gt (blk_lt (g := gb111) (o := .cells #[.int .i64 t104, .slice Ao17 t105.length co17, .slice Ao34 x112002_1.length co34] 25 (0, 0)) (by (with_reducible repeat (first | refine blk_drewN ?_ _ | refine blk_drew ?_ | refine blk_alloc ?_ _)); exact BK111.out)) : gb122 ≠ gb111)); clear HO_112001; clear HO_112002; clear HO117; clear HO120; clear BK101; clear BK111; clear HB; have HO_112001 := n0_; have HO_112002 := n1_; have HO117 := n2_; have HO120 := n3_; have BK101 := n4_; have BK111 := n5_; have HB := n6_; have BK122 := n7_; have GW122 := n8_; have GE122 := n9_; have NB101_122 := n10_; have NB122_101 := n11_; have NB111_122 := n12_; have NB122_111 := n13_; clear n0_ n1_ n2_ n3_ n4_ n5_ n6_ n7_ n8_ n9_ n10_ n11_ n12_ n13_; clear hb hbox hg; have hnb38 := NB122_101.out; have hnc38 := NB101_122.out; have hnb39 := NB122_111.out; have hnc39 := NB111_122.out; have hcz40_0 : w37.cell? ⟨gb122, 0, none⟩ = some (.int .i64 0) := (blk_cell BK122.out 0).trans rfl; have hcz40_1 : w37.cell? ⟨gb122, 1, none⟩ = some (.slice none 0 0) := (blk_cell BK122.out 1).trans rfl; have hcz40_2 : w37.cell? ⟨gb122, 2, none⟩ = some (.slice none 0 0) := (blk_cell BK122.out 2).trans rfl; have hfz40_0 := blk_frozen BK122.out 0; have hfz40_1 := blk_frozen BK122.out 1; have hfz40_2 := blk_frozen BK122.out 2; obtain ⟨Ao41, co41, eo41⟩ := Kd.S_slice HO117.out; subst eo41; obtain ⟨Ao42, co42, eo42⟩ := Kd.R_slice HO120.out; subst eo42; have hcz43_0 : w37.cell? ⟨gb111, 0, none⟩ = some (.int .i64 t104) := (blk_cell BK111.out 0).trans rfl; have hcz43_1 : w37.cell? ⟨gb111, 1, none⟩ = some (.slice Ao17 t105.length co17) := (blk_cell BK111.out 1).trans rfl; have hcz43_2 : w37.cell? ⟨gb111, 2, none⟩ = some (.slice Ao34 x112002_1.length co34) := (blk_cell BK111.out 2).trans rfl; have hfz43_0 := blk_frozen BK111.out 0; have hfz43_1 := blk_frozen BK111.out 1; have hfz43_2 := blk_frozen BK111.out 2) | ((with_reducible refine gate_callee (f := 65) rfl ?_); refine goesL_ (some 45) rfl rfl Try.func65 (by kernel_rfl) rfl #[.agg #[.int .i64 t104, .slice Ao17 t105.length co17, .slice Ao34 x112002_1.length co34]] rfl (by (try simp only [List.map_toArray, List.map_cons, List.map_nil]); first | done | rfl | (simp only [List.length_drop, List.length_take]; rfl)) ?_; (with_reducible refine (number_Canon.calls k1 t104 _ _ t105 _ _ x112002_1 t123 t124 t127 true _ ?side1 ?side2 ?side3 ?side4 A28.out).mono ?_); (case side1 => refine (Kd.S_reads' (e := 45) (base := w.heap.size) (ok := fun k_ => (True ∧ some k_ ≠ (.slice Ao41 t115.length co41 : Value).ownBlock)) (n := t105.length) (c := co17) ?_).2.2; exact (by (with_reducible repeat (first | apply Kd.S_alloc | apply Kd.S_drewN | apply Kd.S_drew)); exact (Kd.S_mono (Kd.S_far (p := ⟨gb122, 2, none⟩) (Kd.S_far (p := ⟨gb122, 1, none⟩) (Kd.S_far (p := ⟨gb122, 0, none⟩) (Kd.S_types HO_112001.out BK122.out (by decide)) (fun _ hk => hk.2) (.int .i64 t114)) (fun _ hk => hk.2) (.slice Ao41 t115.length co41)) (fun _ hk => hk.2) (.slice Ao42 t118.length co42)) (fun _ h_ => h_.1)))); (case side2 => exact (Kd.S_reads' HO_112001.out).2.1); (case side3 => refine (Kd.R_reads' (e := 4) (base := w.heap.size) (ok := fun k_ => (True ∧ some k_ ≠ (.slice Ao42 t118.length co42 : Value).ownBlock)) (n := x112002_1.length) (c := co34) ?_).2.2; exact (by (with_reducible repeat (first | apply Kd.R_alloc | apply Kd.R_drewN | apply Kd.R_drew)); exact (Kd.R_mono (Kd.R_far (p := ⟨gb122, 2, none⟩) (Kd.R_far (p := ⟨gb122, 1, none⟩) (Kd.R_far (p := ⟨gb122, 0, none⟩) (Kd.R_types HO_112002.out BK122.out (by decide)) (fun _ hk => hk.2) (.int .i64 t114)) (fun _ hk => hk.2) (.slice Ao41 t115.length co41)) (fun _ hk => hk.2) (.slice Ao42 t118.length co42)) (fun _ h_ => h_.1)))); (case side4 => exact (Kd.R_reads' HO_112002.out).2.1); rintro e w44 ⟨v125, v128, rfl, ho0, ho1, hb⟩; refine ⟨_, rfl, ?_⟩; have n0_ := Aside0.mk (Kd.S_elder' (by (with_reducible repeat (first | apply Kd.S_alloc | apply Kd.S_drewN | apply Kd.S_drew)); exact (Kd.S_mono (Kd.S_far (p := ⟨gb122, 2, none⟩) (Kd.S_far (p := ⟨gb122, 1, none⟩) (Kd.S_far (p := ⟨gb122, 0, none⟩) (Kd.S_types HO_112001.out BK122.out (by decide)) (fun _ hk => hk.2) (.int .i64 t114)) (fun _ hk => hk.2) (.slice Ao41 t115.length co41)) (fun _ hk => hk.2) (.slice Ao42 t118.length co42)) (fun _ h_ => h_.1))) (Kd.S_base ho0) hb); have n1_ := Aside0.mk (Kd.R_elder' (by (with_reducible repeat (first | apply Kd.R_alloc | apply Kd.R_drewN | apply Kd.R_drew)); exact (Kd.R_mono (Kd.R_far (p := ⟨gb122, 2, none⟩) (Kd.R_far (p := ⟨gb122, 1, none⟩) (Kd.R_far (p := ⟨gb122, 0, none⟩) (Kd.R_types HO_112002.out BK122.out (by decide)) (fun _ hk => hk.2) (.int .i64 t114)) (fun _ hk => hk.2) (.slice Ao41 t115.length co41)) (fun _ hk => hk.2) (.slice Ao42 t118.length co42)) (fun _ h_ => h_.1))) (Kd.R_base ho1) hb); have n2_ := Aside0.mk (Kd.S_elder' (by (with_reducible repeat (first | apply Kd.S_alloc | apply Kd.S_drewN | apply Kd.S_drew)); exact (Kd.S_mono (Kd.S_far (p := ⟨gb122, 2, none⟩) (Kd.S_far (p := ⟨gb122, 1, none⟩) (Kd.S_far (p := ⟨gb122, 0, none⟩) (Kd.S_types HO117.out BK122.out (by decide)) (fun _ hk => hk.2) (.int .i64 t114)) (fun _ hk => hk.2) (.slice Ao41 t115.length co41)) (fun _ hk => hk.2) (.slice Ao42 t118.length co42)) (fun _ h_ => h_.1))) (Kd.S_base ho0) hb); have n3_ := Aside0.mk (Kd.R_elder' (by (with_reducible repeat (first | apply Kd.R_alloc | apply Kd.R_drewN | apply Kd.R_drew)); exact (Kd.R_mono (Kd.R_far (p := ⟨gb122, 2, none⟩) (Kd.R_far (p := ⟨gb122, 1, none⟩) (Kd.R_far (p := ⟨gb122, 0, none⟩) (Kd.R_types HO120.out BK122.out (by decide)) (fun _ hk => hk.2) (.int .i64 t114)) (fun _ hk => hk.2) (.slice Ao41 t115.length co41)) (fun _ hk => hk.2) (.slice Ao42 t118.length co42)) (fun _ h_ => h_.1))) (Kd.R_base ho1) hb); have n4_ := Aside0.mk (Kd.S_lower (Kd.S_new' (Kd.S_new' ho0 (Kd.S_lt (by (with_reducible repeat (first | apply Kd.S_alloc | apply Kd.S_drewN | apply Kd.S_drew)); exact (Kd.S_mono (Kd.S_far (p := ⟨gb122, 2, none⟩) (Kd.S_far (p := ⟨gb122, 1, none⟩) (Kd.S_far (p := ⟨gb122, 0, none⟩) (Kd.S_types HO_112001.out BK122.out (by decide)) (fun _ hk => hk.2) (.int .i64 t114)) (fun _ hk => hk.2) (.slice Ao41 t115.length co41)) (fun _ hk => hk.2) (.slice Ao42 t118.length co42)) (fun _ h_ => h_.1))))) (Kd.S_lt (by (with_reducible repeat (first | apply Kd.S_alloc | apply Kd.S_drewN | apply Kd.S_drew)); exact (Kd.S_mono (Kd.S_far (p := ⟨gb122, 2, none⟩) (Kd.S_far (p := ⟨gb122, 1, none⟩) (Kd.S_far (p := ⟨gb122, 0, none⟩) (Kd.S_types HO117.out BK122.out (by decide)) (fun _ hk => hk.2) (.int .i64 t114)) (fun _ hk => hk.2) (.slice Ao41 t115.length co41)) (fun _ hk => hk.2) (.slice Ao42 t118.length co42)) (fun _ h_ => h_.1))))) (below_size (by repeat (first | (with_reducible first | exact HB.out | apply below_alloc | apply pw_below_drewN | apply below_drew1 | refine below_set ?_ GE101.out | refine below_set ?_ GE111.out | refine below_set ?_ GE122.out) | exact HB.out)))); have n5_ := Aside0.mk (Kd.R_lower (Kd.R_new' (Kd.R_new' ho1 (Kd.R_lt (by (with_reducible repeat (first | apply Kd.R_alloc | apply Kd.R_drewN | apply Kd.R_drew)); exact (Kd.R_mono (Kd.R_far (p := ⟨gb122, 2, none⟩) (Kd.R_far (p := ⟨gb122, 1, none⟩) (Kd.R_far (p := ⟨gb122, 0, none⟩) (Kd.R_types HO_112002.out BK122.out (by decide)) (fun _ hk => hk.2) (.int .i64 t114)) (fun _ hk => hk.2) (.slice Ao41 t115.length co41)) (fun _ hk => hk.2) (.slice Ao42 t118.length co42)) (fun _ h_ => h_.1))))) (Kd.R_lt (by (with_reducible repeat (first | apply Kd.R_alloc | apply Kd.R_drewN | apply Kd.R_drew)); exact (Kd.R_mono (Kd.R_far (p := ⟨gb122, 2, none⟩) (Kd.R_far (p := ⟨gb122, 1, none⟩) (Kd.R_far (p := ⟨gb122, 0, none⟩) (Kd.R_types HO120.out BK122.out (by decide)) (fun _ hk => hk.2) (.int .i64 t114)) (fun _ hk => hk.2) (.slice Ao41 t115.length co41)) (fun _ hk => hk.2) (.slice Ao42 t118.length co42)) (fun _ h_ => h_.1))))) (below_size (by repeat (first | (with_reducible first | exact HB.out | apply below_alloc | apply pw_below_drewN | apply below_drew1 | refine below_set ?_ GE101.out | refine below_set ?_ GE111.out | refine below_set ?_ GE122.out) | exact HB.out)))); have n6_ := Aside0.mk (blk_below (g := gb101) (o := .cells #[.int .i64 a0_0, .slice A0_1 l0_1.length c0_1, .slice A0_2 l0_2.length c0_2] 25 (0, 0)) (by (with_reducible repeat (first | refine blk_drewN ?_ _ | refine blk_drew ?_ | refine blk_alloc ?_ _)); refine blk_far ?_ NB101_122.out _; (with_reducible repeat (first | refine blk_drewN ?_ _ | refine blk_drew ?_ | refine blk_alloc ?_ _)); refine blk_far ?_ NB101_122.out _; (with_reducible repeat (first | refine blk_drewN ?_ _ | refine blk_drew ?_ | refine blk_alloc ?_ _)); refine blk_far ?_ NB101_122.out _; (with_reducible repeat (first | refine blk_drewN ?_ _ | refine blk_drew ?_ | refine blk_alloc ?_ _)); exact BK101.out) hb); have n7_ := Aside0.mk (blk_below (g := gb111) (o := .cells #[.int .i64 t104, .slice Ao17 t105.length co17, .slice Ao34 x112002_1.length co34] 25 (0, 0)) (by (with_reducible repeat (first | refine blk_drewN ?_ _ | refine blk_drew ?_ | refine blk_alloc ?_ _)); refine blk_far ?_ NB111_122.out _; (with_reducible repeat (first | refine blk_drewN ?_ _ | refine blk_drew ?_ | refine blk_alloc ?_ _)); refine blk_far ?_ NB111_122.out _; (with_reducible repeat (first | refine blk_drewN ?_ _ | refine blk_drew ?_ | refine blk_alloc ?_ _)); refine blk_far ?_ NB111_122.out _; (with_reducible repeat (first | refine blk_drewN ?_ _ | refine blk_drew ?_ | refine blk_alloc ?_ _)); exact BK111.out) hb); have n8_ := Aside0.mk (blk_below (g := gb122) (o := .cells #[.int .i64 t114, .slice Ao41 t115.length co41, .slice Ao42 t118.length co42] 25 (0, 0)) (by (with_reducible repeat (first | refine blk_drewN ?_ _ | refine blk_drew ?_ | refine blk_alloc ?_ _)); refine blk_put (cs := #[.int .i64 t114, .slice Ao41 t115.length co41, .slice none 0 0]) ?_ 2 _ rfl; (with_reducible repeat (first | refine blk_drewN ?_ _ | refine blk_drew ?_ | refine blk_alloc ?_ _)); refine blk_put (cs := #[.int .i64 t114, .slice none 0 0, .slice none 0 0]) ?_ 1 _ rfl; (with_reducible repeat (first | refine blk_drewN ?_ _ | refine blk_drew ?_ | refine blk_alloc ?_ _)); refine blk_put (cs := #[.int .i64 0, .slice none 0 0, .slice none 0 0]) ?_ 0 _ rfl; (with_reducible repeat (first | refine blk_drewN ?_ _ | refine blk_drew ?_ | refine blk_alloc ?_ _)); exact BK122.out) hb); have n9_ := Aside0.mk (below_step (by repeat (first | (with_reducible first | exact HB.out | apply below_alloc | apply pw_below_drewN | apply below_drew1 | refine below_set ?_ GE101.out | refine below_set ?_ GE111.out | refine below_set ?_ GE122.out) | exact HB.out)) hb); clear HO_112001; clear HO_112002; clear HO117; clear HO120; clear BK101; clear BK111; clear BK122; clear HB; have HO_112001 := n0_; have HO_112002 := n1_; have HO117 := n2_; have HO120 := n3_; have HO126 := n4_; have HO129 := n5_; have BK101 := n6_; have BK111 := n7_; have BK122 := n8_; have HB := n9_; clear n0_ n1_ n2_ n3_ n4_ n5_ n6_ n7_ n8_ n9_; (try clear hb); (try clear hb2); (try clear hk); (try clear hi); (try clear ho0); (try clear ho1)) | ((with_reducible refine gate_dst (N := 7) rfl ?_); (try (refine gate_guard (by rfl) ?_; dsimp only)); refine box_event ?hg (N := 7) ?hd (cs := #[.int .i64 0, .slice none 0 0, .slice none 0 0]) (t := 25) ?hr ?_; (case hd => rfl); (case hg => rfl); (case hr => first | (go_simp; done) | (go_simp; rfl)); intro gb131 hg w45 hbox hb; have n0_ := Aside0.mk (Kd.S_below (by (with_reducible repeat (first | apply Kd.S_alloc | apply Kd.S_drewN | apply Kd.S_drew)); exact HO_112001.out) hb); have n1_ := Aside0.mk (Kd.R_below (by (with_reducible repeat (first | apply Kd.R_alloc | apply Kd.R_drewN | apply Kd.R_drew)); exact HO_112002.out) hb); have n2_ := Aside0.mk (Kd.S_below (by (with_reducible repeat (first | apply Kd.S_alloc | apply Kd.S_drewN | apply Kd.S_drew)); exact HO117.out) hb); have n3_ := Aside0.mk (Kd.R_below (by (with_reducible repeat (first | apply Kd.R_alloc | apply Kd.R_drewN | apply Kd.R_drew)); exact HO120.out) hb); have n4_ := Aside0.mk (Kd.S_below (by (with_reducible repeat (first | apply Kd.S_alloc | apply Kd.S_drewN | apply Kd.S_drew)); exact HO126.out) hb); have n5_ := Aside0.mk (Kd.R_below (by (with_reducible repeat (first | apply Kd.R_alloc | apply Kd.R_drewN | apply Kd.R_drew)); exact HO129.out) hb); have n6_ := Aside0.mk (blk_below (g := gb101) (o := .cells #[.int .i64 a0_0, .slice A0_1 l0_1.length c0_1, .slice A0_2 l0_2.length c0_2] 25 (0, 0)) (by (with_reducible repeat (first | refine blk_drewN ?_ _ | refine blk_drew ?_ | refine blk_alloc ?_ _)); exact BK101.out) hb); have n7_ := Aside0.mk (blk_below (g := gb111) (o := .cells #[.int .i64 t104, .slice Ao17 t105.length co17, .slice Ao34 x112002_1.length co34] 25 (0, 0)) (by (with_reducible repeat (first | refine blk_drewN ?_ _ | refine blk_drew ?_ | refine blk_alloc ?_ _)); exact BK111.out) hb); have n8_ := Aside0.mk (blk_below (g := gb122) (o := .cells #[.int .i64 t114, .slice Ao41 t115.length co41, .slice Ao42 t118.length co42] 25 (0, 0)) (by (with_reducible repeat (first | refine blk_drewN ?_ _ | refine blk_drew ?_ | refine blk_alloc ?_ _)); exact BK122.out) hb); have n9_ := Aside0.mk (below_step (by repeat (first | (with_reducible first | exact HB.out | apply below_alloc | apply pw_below_drewN | apply below_drew1 | refine below_set ?_ GE101.out | refine below_set ?_ GE111.out | refine below_set ?_ GE122.out) | exact HB.out)) hb); have n10_ := Aside0.mk (hbox); have n11_ := Aside0.mk ((by rw [hg]; exact (below_size (by repeat (first | (with_reducible first | exact HB.out | apply below_alloc | apply pw_below_drewN | apply below_drew1 | refine below_set ?_ GE101.out | refine below_set ?_ GE111.out | refine below_set ?_ GE122.out) | exact HB.out))) : w.heap.size ≤ gb131)); have n12_ := Aside0.mk ((by rw [hg]; exact (below_size (by repeat (first | (with_reducible first | exact HB.out | apply below_alloc | apply pw_below_drewN | apply below_drew1 | refine below_set ?_ GE101.out | refine below_set ?_ GE111.out | refine below_set ?_ GE122.out) | exact HB.out))) : w.heap.size ≤ gb131)); have n13_ := Aside0.mk ((by rw [hg]; exact Nat.ne_of_lt (blk_lt (g := gb101) (o := .cells #[.int .i64 a0_0, .slice A0_1 l0_1.length c0_1, .slice A0_2 l0_2.length c0_2] 25 (0, 0)) (by (with_reducible repeat (first | refine blk_drewN ?_ _ | refine blk_drew ?_ | refine blk_alloc ?_ _)); exact BK101.out)) : gb101 ≠ gb131)); have n14_ := Aside0.mk ((by rw [hg]; exact Nat.ne_of_gt (blk_lt (g := gb101) (o := .cells #[.int .i64 a0_0, .slice A0_1 l0_1.length c0_1, .slice A0_2 l0_2.length c0_2] 25 (0, 0)) (by (with_reducible repeat (first | refine blk_drewN ?_ _ | refine blk_drew ?_ | refine blk_alloc ?_ _)); exact BK101.out)) : gb131 ≠ gb101)); have n15_ := Aside0.mk ((by rw [hg]; exact Nat.ne_of_lt (blk_lt (g := gb111) (o := .cells #[.int .i64 t104, .slice Ao17 t105.length co17, .slice Ao34 x112002_1.length co34] 25 (0, 0)) (by (with_reducible repeat (first | refine blk_drewN ?_ _ | refine blk_drew ?_ | refine blk_alloc ?_ _)); exact BK111.out)) : gb111 ≠ gb131)); have n16_ := Aside0.mk ((by rw [hg]; exact Nat.ne_of_gt (blk_lt (g := gb111) (o := .cells #[.int .i64 t104, .slice Ao17 t105.length co17, .slice Ao34 x112002_1.length co34] 25 (0, 0)) (by (with_reducible repeat (first | refine blk_drewN ?_ _ | refine blk_drew ?_ | refine blk_alloc ?_ _)); exact BK111.out)) : gb131 ≠ gb111)); have n17_ := Aside0.mk ((by rw [hg]; exact Nat.ne_of_lt (blk_lt (g := gb122) (o := .cells #[.int .i64 t114, .slice Ao41 t115.length co41, .slice Ao42 t118.length co42] 25 (0, 0)) (by (with_reducible repeat (first | refine blk_drewN ?_ _ | refine blk_drew ?_ | refine blk_alloc ?_ _)); exact BK122.out)) : gb122 ≠ gb131)); have n18_ := Aside0.mk ((by rw [hg]; exact Nat.ne_of_gt (blk_lt (g := gb122) (o := .cells #[.int .i64 t114, .slice Ao41 t115.length co41, .slice Ao42 t118.length co42] 25 (0, 0)) (by (with_reducible repeat (first | refine blk_drewN ?_ _ | refine blk_drew ?_ | refine blk_alloc ?_ _)); exact BK122.out)) : gb131 ≠ gb122)); clear HO_112001; clear HO_112002; clear HO117; clear HO120; clear HO126; clear HO129; clear BK101; clear BK111; clear BK122; clear HB; have HO_112001 := n0_; have HO_112002 := n1_; have HO117 := n2_; have HO120 := n3_; have HO126 := n4_; have HO129 := n5_; have BK101 := n6_; have BK111 := n7_; have BK122 := n8_; have HB := n9_; have BK131 := n10_; have GW131 := n11_; have GE131 := n12_; have NB101_131 := n13_; have NB131_101 := n14_; have NB111_131 := n15_; have NB131_111 := n16_; have NB122_131 := n17_; have NB131_122 := n18_; clear n0_ n1_ n2_ n3_ n4_ n5_ n6_ n7_ n8_ n9_ n10_ n11_ n12_ n13_ n14_ n15_ n16_ n17_ n18_; clear hb hbox hg; have hnb46 := NB131_101.out; have hnc46 := NB101_131.out; have hnb47 := NB131_111.out; have hnc47 := NB111_131.out; have hnb48 := NB131_122.out; have hnc48 := NB122_131.out; have hcz49_0 : w45.cell? ⟨gb131, 0, none⟩ = some (.int .i64 0) := (blk_cell BK131.out 0).trans rfl; have hcz49_1 : w45.cell? ⟨gb131, 1, none⟩ = some (.slice none 0 0) := (blk_cell BK131.out 1).trans rfl; have hcz49_2 : w45.cell? ⟨gb131, 2, none⟩ = some (.slice none 0 0) := (blk_cell BK131.out 2).trans rfl; have hfz49_0 := blk_frozen BK131.out 0; have hfz49_1 := blk_frozen BK131.out 1; have hfz49_2 := blk_frozen BK131.out 2; obtain ⟨Ao50, co50, eo50⟩ := Kd.S_slice HO126.out; subst eo50; obtain ⟨Ao51, co51, eo51⟩ := Kd.R_slice HO129.out; subst eo51; have hcz52_0 : w45.cell? ⟨gb122, 0, none⟩ = some (.int .i64 t114) := (blk_cell BK122.out 0).trans rfl; have hcz52_1 : w45.cell? ⟨gb122, 1, none⟩ = some (.slice Ao41 t115.length co41) := (blk_cell BK122.out 1).trans rfl; have hcz52_2 : w45.cell? ⟨gb122, 2, none⟩ = some (.slice Ao42 t118.length co42) := (blk_cell BK122.out 2).trans rfl; have hfz52_0 := blk_frozen BK122.out 0; have hfz52_1 := blk_frozen BK122.out 1; have hfz52_2 := blk_frozen BK122.out 2))
         go_loopg [9] k1 (fun kq v9 w' => ∃ (x9_2 : Int), v9 = .int .i64 x9_2 ∧ Aside0 (caesuralaw22_NumberFlip.l1 kq x9_2 a0_0 l0_1 l0_2 t104 t105 x112002_1 t114 t115 t118 t123 t124 t127 = some r) ∧ Aside0 (kq ≤ k1) ∧ Aside0 (Kd.S (Kd.slice 3 (Kd.int .i64)) 45 w' w.heap.size (fun k_ => some k_ ≠ ((.slice Ao41 t115.length co41) : Value).ownBlock ∧ some k_ ≠ ((.slice Ao50 t124.length co50) : Value).ownBlock) (.slice Ao17 t105.length co17) t105) ∧ Aside0 (Kd.R Kd.bool 4 w' w.heap.size (fun k_ => some k_ ≠ ((.slice Ao42 t118.length co42) : Value).ownBlock ∧ some k_ ≠ ((.slice Ao51 t127.length co51) : Value).ownBlock) (.slice Ao34 x112002_1.length co34) x112002_1) ∧ Aside0 (Kd.S (Kd.slice 3 (Kd.int .i64)) 45 w' w.heap.size (fun k_ => some k_ ≠ ((.slice Ao17 t105.length co17) : Value).ownBlock ∧ some k_ ≠ ((.slice Ao50 t124.length co50) : Value).ownBlock) (.slice Ao41 t115.length co41) t115) ∧ Aside0 (Kd.R Kd.bool 4 w' w.heap.size (fun k_ => some k_ ≠ ((.slice Ao34 x112002_1.length co34) : Value).ownBlock ∧ some k_ ≠ ((.slice Ao51 t127.length co51) : Value).ownBlock) (.slice Ao42 t118.length co42) t118) ∧ Aside0 (Kd.S (Kd.slice 3 (Kd.int .i64)) 45 w' w.heap.size (fun k_ => some k_ ≠ ((.slice Ao17 t105.length co17) : Value).ownBlock ∧ some k_ ≠ ((.slice Ao41 t115.length co41) : Value).ownBlock) (.slice Ao50 t124.length co50) t124) ∧ Aside0 (Kd.R Kd.bool 4 w' w.heap.size (fun k_ => some k_ ≠ ((.slice Ao34 x112002_1.length co34) : Value).ownBlock ∧ some k_ ≠ ((.slice Ao42 t118.length co42) : Value).ownBlock) (.slice Ao51 t127.length co51) t127) ∧ Aside0 (w'.heap[gb101]? = some (.cells #[.int .i64 a0_0, (.slice A0_1 l0_1.length c0_1), (.slice A0_2 l0_2.length c0_2)] 25 (0, 0))) ∧ Aside0 (w'.heap[gb111]? = some (.cells #[.int .i64 t104, (.slice Ao17 t105.length co17), (.slice Ao34 x112002_1.length co34)] 25 (0, 0))) ∧ Aside0 (w'.heap[gb122]? = some (.cells #[.int .i64 t114, (.slice Ao41 t115.length co41), (.slice Ao42 t118.length co42)] 25 (0, 0))) ∧ Aside0 (w'.heap[gb131]? = some (.cells #[.int .i64 t123, (.slice Ao50 t124.length co50), (.slice Ao51 t127.length co51)] 25 (0, 0))) ∧ Aside0 (Below w.heap.size w w'))
         case atStart => exact ⟨(0), (by first | rfl | (simp; done) | (simp [*]; done)), H', ⟨Nat.le_refl _⟩, ⟨by (with_reducible repeat (first | apply Kd.S_alloc | apply Kd.S_drewN | apply Kd.S_drew)); exact Kd.S_mono (Kd.S_far (p := ⟨gb131, 2, none⟩) (Kd.S_far (p := ⟨gb131, 1, none⟩) (Kd.S_far (p := ⟨gb131, 0, none⟩) (Kd.S_types HO_112001.out BK131.out (by decide)) (fun _ hk => hk.2) (.int .i64 t123)) (fun _ hk => hk.2) (.slice Ao50 t124.length co50)) (fun _ hk => hk.2) (.slice Ao51 t127.length co51)) (fun _ hk => ⟨hk.1.1.2, hk.1.2⟩)⟩, ⟨by (with_reducible repeat (first | apply Kd.R_alloc | apply Kd.R_drewN | apply Kd.R_drew)); exact Kd.R_mono (Kd.R_far (p := ⟨gb131, 2, none⟩) (Kd.R_far (p := ⟨gb131, 1, none⟩) (Kd.R_far (p := ⟨gb131, 0, none⟩) (Kd.R_types HO_112002.out BK131.out (by decide)) (fun _ hk => hk.2) (.int .i64 t123)) (fun _ hk => hk.2) (.slice Ao50 t124.length co50)) (fun _ hk => hk.2) (.slice Ao51 t127.length co51)) (fun _ hk => ⟨hk.1.1.2, hk.1.2⟩)⟩, ⟨by (with_reducible repeat (first | apply Kd.S_alloc | apply Kd.S_drewN | apply Kd.S_drew)); exact Kd.S_mono (Kd.S_far (p := ⟨gb131, 2, none⟩) (Kd.S_far (p := ⟨gb131, 1, none⟩) (Kd.S_far (p := ⟨gb131, 0, none⟩) (Kd.S_types HO117.out BK131.out (by decide)) (fun _ hk => hk.2) (.int .i64 t123)) (fun _ hk => hk.2) (.slice Ao50 t124.length co50)) (fun _ hk => hk.2) (.slice Ao51 t127.length co51)) (fun _ hk => ⟨hk.1.1.2, hk.1.2⟩)⟩, ⟨by (with_reducible repeat (first | apply Kd.R_alloc | apply Kd.R_drewN | apply Kd.R_drew)); exact Kd.R_mono (Kd.R_far (p := ⟨gb131, 2, none⟩) (Kd.R_far (p := ⟨gb131, 1, none⟩) (Kd.R_far (p := ⟨gb131, 0, none⟩) (Kd.R_types HO120.out BK131.out (by decide)) (fun _ hk => hk.2) (.int .i64 t123)) (fun _ hk => hk.2) (.slice Ao50 t124.length co50)) (fun _ hk => hk.2) (.slice Ao51 t127.length co51)) (fun _ hk => ⟨hk.1.1.2, hk.1.2⟩)⟩, ⟨by (with_reducible repeat (first | apply Kd.S_alloc | apply Kd.S_drewN | apply Kd.S_drew)); exact Kd.S_mono (Kd.S_far (p := ⟨gb131, 2, none⟩) (Kd.S_far (p := ⟨gb131, 1, none⟩) (Kd.S_far (p := ⟨gb131, 0, none⟩) (Kd.S_types HO126.out BK131.out (by decide)) (fun _ hk => hk.2) (.int .i64 t123)) (fun _ hk => hk.2) (.slice Ao50 t124.length co50)) (fun _ hk => hk.2) (.slice Ao51 t127.length co51)) (fun _ hk => ⟨hk.1.1.2, hk.1.2⟩)⟩, ⟨by (with_reducible repeat (first | apply Kd.R_alloc | apply Kd.R_drewN | apply Kd.R_drew)); exact Kd.R_mono (Kd.R_far (p := ⟨gb131, 2, none⟩) (Kd.R_far (p := ⟨gb131, 1, none⟩) (Kd.R_far (p := ⟨gb131, 0, none⟩) (Kd.R_types HO129.out BK131.out (by decide)) (fun _ hk => hk.2) (.int .i64 t123)) (fun _ hk => hk.2) (.slice Ao50 t124.length co50)) (fun _ hk => hk.2) (.slice Ao51 t127.length co51)) (fun _ hk => ⟨hk.1.1.2, hk.1.2⟩)⟩, ⟨by (with_reducible repeat (first | refine blk_drewN ?_ _ | refine blk_drew ?_ | refine blk_alloc ?_ _)); refine blk_far ?_ NB101_131.out _; (with_reducible repeat (first | refine blk_drewN ?_ _ | refine blk_drew ?_ | refine blk_alloc ?_ _)); refine blk_far ?_ NB101_131.out _; (with_reducible repeat (first | refine blk_drewN ?_ _ | refine blk_drew ?_ | refine blk_alloc ?_ _)); refine blk_far ?_ NB101_131.out _; (with_reducible repeat (first | refine blk_drewN ?_ _ | refine blk_drew ?_ | refine blk_alloc ?_ _)); exact BK101.out⟩, ⟨by (with_reducible repeat (first | refine blk_drewN ?_ _ | refine blk_drew ?_ | refine blk_alloc ?_ _)); refine blk_far ?_ NB111_131.out _; (with_reducible repeat (first | refine blk_drewN ?_ _ | refine blk_drew ?_ | refine blk_alloc ?_ _)); refine blk_far ?_ NB111_131.out _; (with_reducible repeat (first | refine blk_drewN ?_ _ | refine blk_drew ?_ | refine blk_alloc ?_ _)); refine blk_far ?_ NB111_131.out _; (with_reducible repeat (first | refine blk_drewN ?_ _ | refine blk_drew ?_ | refine blk_alloc ?_ _)); exact BK111.out⟩, ⟨by (with_reducible repeat (first | refine blk_drewN ?_ _ | refine blk_drew ?_ | refine blk_alloc ?_ _)); refine blk_far ?_ NB122_131.out _; (with_reducible repeat (first | refine blk_drewN ?_ _ | refine blk_drew ?_ | refine blk_alloc ?_ _)); refine blk_far ?_ NB122_131.out _; (with_reducible repeat (first | refine blk_drewN ?_ _ | refine blk_drew ?_ | refine blk_alloc ?_ _)); refine blk_far ?_ NB122_131.out _; (with_reducible repeat (first | refine blk_drewN ?_ _ | refine blk_drew ?_ | refine blk_alloc ?_ _)); exact BK122.out⟩, ⟨by (with_reducible repeat (first | refine blk_drewN ?_ _ | refine blk_drew ?_ | refine blk_alloc ?_ _)); refine blk_put (cs := #[.int .i64 t123, .slice Ao50 t124.length co50, .slice none 0 0]) ?_ 2 _ rfl; (with_reducible repeat (first | refine blk_drewN ?_ _ | refine blk_drew ?_ | refine blk_alloc ?_ _)); refine blk_put (cs := #[.int .i64 t123, .slice none 0 0, .slice none 0 0]) ?_ 1 _ rfl; (with_reducible repeat (first | refine blk_drewN ?_ _ | refine blk_drew ?_ | refine blk_alloc ?_ _)); refine blk_put (cs := #[.int .i64 0, .slice none 0 0, .slice none 0 0]) ?_ 0 _ rfl; (with_reducible repeat (first | refine blk_drewN ?_ _ | refine blk_drew ?_ | refine blk_alloc ?_ _)); exact BK131.out⟩, ⟨by repeat (first | (with_reducible first | exact HB.out | apply below_alloc | apply pw_below_drewN | apply below_drew1 | refine below_set ?_ GE101.out | refine below_set ?_ GE111.out | refine below_set ?_ GE122.out | refine below_set ?_ GE131.out) | exact HB.out)⟩⟩
         case round =>
          clear H'
          try clear c1
          try clear p1
          try clear q1
          try clear hx1
          try clear c2
          try clear p2
          try clear q2
          try clear hx2
          try clear hf2
          try clear c3
          try clear c4
          try clear c5
          try clear c6
          try clear p6
          try clear p11
          try clear q11
          try clear hx11
          try clear c15
          try clear c17
          try clear c19
          try clear c19b0
          try clear c20
          try clear c20b0
          try clear p21
          try clear q21
          try clear hx21
          try clear hf21
          try clear c22
          try clear c26
          try clear c29
          try clear c30
          try clear c31
          try clear c31b0
          try clear c31b1
          try clear c31b2
          try clear c32
          try clear c38
          try clear c39
          try clear c46
          try clear c47
          try clear c48
          try clear hcz10_0
          try clear hcz10_1
          try clear hcz10_2
          try clear hcz12_0
          try clear hcz12_1
          try clear hcz12_2
          try clear hcz16_0
          try clear hcz16_1
          try clear hcz16_2
          try clear hcz23_0
          try clear hcz23_1
          try clear hcz23_2
          try clear hcz33_0
          try clear hcz33_1
          try clear hcz33_2
          try clear hcz35_0
          try clear hcz35_1
          try clear hcz35_2
          try clear hcz40_0
          try clear hcz40_1
          try clear hcz40_2
          try clear hcz43_0
          try clear hcz43_1
          try clear hcz43_2
          try clear hcz49_0
          try clear hcz49_1
          try clear hcz49_2
          try clear hcz52_0
          try clear hcz52_1
          try clear hcz52_2
          try clear hcz8_0
          try clear hcz8_1
          try clear hcz8_2
          try clear hfz10_0
          try clear hfz10_1
          try clear hfz10_2
          try clear hfz12_0
          try clear hfz12_1
          try clear hfz12_2
          try clear hfz16_0
          try clear hfz16_1
          try clear hfz16_2
          try clear hfz23_0
          try clear hfz23_1
          try clear hfz23_2
          try clear hfz33_0
          try clear hfz33_1
          try clear hfz33_2
          try clear hfz35_0
          try clear hfz35_1
          try clear hfz35_2
          try clear hfz40_0
          try clear hfz40_1
          try clear hfz40_2
          try clear hfz43_0
          try clear hfz43_1
          try clear hfz43_2
          try clear hfz49_0
          try clear hfz49_1
          try clear hfz49_2
          try clear hfz52_0
          try clear hfz52_1
          try clear hfz52_2
          try clear hfz8_0
          try clear hfz8_1
          try clear hfz8_2
          try clear hx112_0
          try clear hx21_0
          try clear p112
          try clear p2
          try clear p21
          try clear q112
          try clear q21
          obtain ⟨x9_2, rfl, HA, HK2, HO_112001, HO_112002, HO_123001, HO_123002, HO_132001, HO_132002, BK101, BK111, BK122, BK131, HB⟩ := hrel
          cases gk with
          | zero => exact absurd HA.out (by simp [caesuralaw22_NumberFlip.l1])
          | succ k2 =>
           have H := HA.out
           clear HA
           simp only [caesuralaw22_NumberFlip.l1] at H
           by_cases c53 : x9_2 < (t118.length : Int)
           ·rw [if_pos c53] at H
            have c53b0 : decide (x9_2 < (t118.length : Int)) = true := decide_eq_true c53
            clear c53
            by_cases c54 : 0 ≤ x9_2
            ·rw [if_pos c54] at H
             have c54b0 : decide (0 ≤ x9_2) = true := decide_eq_true c54
             clear c54
             by_cases c55 : x9_2 < (t127.length : Int)
             ·rw [if_pos c55] at H
              have c55b0 : decide (x9_2 < (t127.length : Int)) = true := decide_eq_true c55
              clear c55
              by_cases c56 : ((rdOf false t118 x9_2) == (rdOf false t127 x9_2)) = true
              ·rw [if_pos c56] at H
               exact absurd H (by simp)
              ·rw [if_neg c56] at H
               have c56b0 : ((rdOf false t118 x9_2) == (rdOf false t127 x9_2)) = false := by simpa using c56
               (try (have c56b1 : decide ((rdOf false t118 x9_2) = (rdOf false t127 x9_2)) = false := by simpa using c56))
               (try (have c56b2 : ((rdOf false t118 x9_2) == (rdOf false t127 x9_2)) = false := by simpa using c56))
               (try (have c56b3 : ¬ ((rdOf false t118 x9_2) = (rdOf false t127 x9_2)) := by simpa using c56))
               clear c56
               have H' := Aside0.mk H
               clear H
               have hnb57 := NB122_101.out
               have hnc57 := NB101_122.out
               have hnb58 := NB122_111.out
               have hnc58 := NB111_122.out
               have hnb59 := NB122_131.out
               have hnc59 := NB131_122.out
               have hcz60_0 : wr.cell? ⟨gb122, 0, none⟩ = some (.int .i64 t114) := (blk_cell BK122.out 0).trans rfl
               have hcz60_1 : wr.cell? ⟨gb122, 1, none⟩ = some (.slice Ao41 t115.length co41) := (blk_cell BK122.out 1).trans rfl
               have hcz60_2 : wr.cell? ⟨gb122, 2, none⟩ = some (.slice Ao42 t118.length co42) := (blk_cell BK122.out 2).trans rfl
               have hfz60_0 := blk_frozen BK122.out 0
               have hfz60_1 := blk_frozen BK122.out 1
               have hfz60_2 := blk_frozen BK122.out 2
               try go_wp2
               have n0_ := Aside0.mk (Kd.S_drew HO_112001.out)
               have n1_ := Aside0.mk (Kd.R_drew HO_112002.out)
               have n2_ := Aside0.mk (Kd.S_drew HO_123001.out)
               have n3_ := Aside0.mk (Kd.R_drew HO_123002.out)
               have n4_ := Aside0.mk (Kd.S_drew HO_132001.out)
               have n5_ := Aside0.mk (Kd.R_drew HO_132002.out)
               have n6_ := Aside0.mk (blk_drew BK101.out)
               have n7_ := Aside0.mk (blk_drew BK111.out)
               have n8_ := Aside0.mk (blk_drew BK122.out)
               have n9_ := Aside0.mk (blk_drew BK131.out)
               have n10_ := Aside0.mk (below_drew1 HB.out)
               clear HO_112001
               clear HO_112002
               clear HO_123001
               clear HO_123002
               clear HO_132001
               clear HO_132002
               clear BK101
               clear BK111
               clear BK122
               clear BK131
               clear HB
               have HO_112001 := n0_
               have HO_112002 := n1_
               have HO_123001 := n2_
               have HO_123002 := n3_
               have HO_132001 := n4_
               have HO_132002 := n5_
               have BK101 := n6_
               have BK111 := n7_
               have BK122 := n8_
               have BK131 := n9_
               have HB := n10_
               clear n0_ n1_ n2_ n3_ n4_ n5_ n6_ n7_ n8_ n9_ n10_
               have p132 : 0 ≤ (x9_2 : Int) := of_decide_eq_true (by first | (with_reducible assumption) | assumption)
               have q132 : x9_2 < (t118.length : Int) := of_decide_eq_true (by first | (with_reducible assumption) | assumption)
               obtain ⟨ad132, e132, hx132_0⟩ := Kd.at_bool (Kd.R_reads' HO_123002.out).2.2 x9_2 p132 q132
               cases e132
               replace p132 := eq_true p132
               replace q132 := eq_true q132
               have p133 : 0 ≤ (x9_2 : Int) := of_decide_eq_true (by first | (with_reducible assumption) | assumption)
               have q133 : x9_2 < (t127.length : Int) := of_decide_eq_true (by first | (with_reducible assumption) | assumption)
               obtain ⟨ad133, e133, hx133_0⟩ := Kd.at_bool (Kd.R_reads' HO_132002.out).2.2 x9_2 p133 q133
               cases e133
               replace p133 := eq_true p133
               replace q133 := eq_true q133
               refine start_ (n := 11) (S := fun w' => w'.cell? ⟨gb122, 0, none⟩ = some (.int .i64 t114) ∧ w'.cell? ⟨gb122, 1, none⟩ = some (.slice Ao41 t115.length co41) ∧ w'.cell? ⟨gb122, 2, none⟩ = some (.slice (some ad132) t118.length co42) ∧ w'.cell? ⟨gb131, 0, none⟩ = some (.int .i64 t123) ∧ w'.cell? ⟨gb131, 1, none⟩ = some (.slice Ao50 t124.length co50) ∧ w'.cell? ⟨gb131, 2, none⟩ = some (.slice (some ad133) t127.length co51) ∧ w'.cell? (ad132.add (x9_2).toNat) = some (.bool (rdOf false t118 x9_2)) ∧ w'.cell? (ad133.add (x9_2).toNat) = some (.bool (rdOf false t127 x9_2))) (ds := []) #[false, false, false, false, false, false, false, false, false, false, false] (by kernel_rfl) rfl rfl ⟨(blk_cell BK122.out 0).trans rfl, (blk_cell BK122.out 1).trans rfl, (blk_cell BK122.out 2).trans rfl, (blk_cell BK131.out 0).trans rfl, (blk_cell BK131.out 1).trans rfl, (blk_cell BK131.out 2).trans rfl, hx132_0, hx133_0⟩ (fun hHeld => ?_); refine with_tabW caesuralaw22_NumberFlip.tab15 caesuralaw22_NumberFlip.bits15 (fun HT_ HW_ => ?_)
               generalize wr.drew = w61 at HO_112001 HO_112002 HO_123001 HO_123002 HO_132001 HO_132002 BK101 BK111 BK122 BK131 HB hx132_0 hx133_0 hHeld ⊢
               refine pure_ (i := 0) (N := some 70) (v := ?_) (a' := ?_) #[true, false, false, false, false, false, false, false, false, false, false] rfl rfl (any_of HT_.out (by kernel_rfl)) (fun _ _ _ h => h) (Or.inl ⟨by rfl, ?_⟩) ?_ ?_
               rotate_left
               ·intro w'
                go_simp
                with_reducible rfl
               rotate_left
               ·simp only [Act.put, List.setIfInBounds_toArray, List.set_cons_zero, List.set_cons_succ, i64_w, i32_w]
                rfl
               refine pure_ (i := 2) (N := some 72) (v := ?_) (a' := ?_) #[true, false, true, false, false, false, false, false, false, false, false] rfl rfl (any_of HT_.out (by kernel_rfl)) (fun _ _ _ h => h) (Or.inl ⟨by rfl, ?_⟩) ?_ ?_
               rotate_left
               ·intro w'
                go_simp
                with_reducible rfl
               rotate_left
               ·simp only [Act.put, List.setIfInBounds_toArray, List.set_cons_zero, List.set_cons_succ, i64_w, i32_w]
                rfl
               refine pure_ (i := 5) (N := some 75) (v := ?_) (a' := ?_) #[true, false, true, false, false, true, false, false, false, false, false] rfl rfl (any_of HT_.out (by kernel_rfl)) (fun _ _ _ h => h) (Or.inl ⟨by rfl, ?_⟩) ?_ ?_
               rotate_left
               ·intro w'
                go_simp
                with_reducible rfl
               rotate_left
               ·simp only [Act.put, List.setIfInBounds_toArray, List.set_cons_zero, List.set_cons_succ, i64_w, i32_w]
                rfl
               refine pure_ (i := 7) (N := some 77) (v := ?_) (a' := ?_) #[true, false, true, false, false, true, false, true, false, false, false] rfl rfl (any_of HT_.out (by kernel_rfl)) (fun _ _ _ h => h) (Or.inl ⟨by rfl, ?_⟩) ?_ ?_
               rotate_left
               ·intro w'
                go_simp
                with_reducible rfl
               rotate_left
               ·simp only [Act.put, List.setIfInBounds_toArray, List.set_cons_zero, List.set_cons_succ, i64_w, i32_w]
                rfl
               refine take_ (i := 1) (N := some 71) (v := ?_) (a' := ?_) #[true, true, true, false, false, true, false, true, false, false, false] rfl rfl (take_ofW HT_.out HW_.out (by kernel_rfl)) (fun _ _ _ h => h) (Or.inl ⟨by rfl, ?_⟩) hHeld ?_ ?_
               rotate_left
               ·rintro w' ⟨s0, s1, s2, s3, s4, s5, s6, s7⟩
                go_simp
                with_reducible rfl
               rotate_left
               ·simp only [Act.put, List.setIfInBounds_toArray, List.set_cons_zero, List.set_cons_succ, i64_w, i32_w]
                rfl
               refine pure_ (i := 3) (N := some 73) (v := ?_) (a' := ?_) #[true, true, true, true, false, true, false, true, false, false, false] rfl rfl (any_of HT_.out (by kernel_rfl)) (fun _ _ _ h => h) (Or.inl ⟨by rfl, ?_⟩) ?_ ?_
               rotate_left
               ·intro w'
                go_simp
                with_reducible rfl
               rotate_left
               ·simp only [Act.put, List.setIfInBounds_toArray, List.set_cons_zero, List.set_cons_succ, i64_w, i32_w]
                rfl
               refine take_ (i := 4) (N := some 74) (v := ?_) (a' := ?_) #[true, true, true, true, true, true, false, true, false, false, false] rfl rfl (take_ofW HT_.out HW_.out (by kernel_rfl)) (fun _ _ _ h => h) (Or.inl ⟨by rfl, ?_⟩) hHeld ?_ ?_
               rotate_left
               ·rintro w' ⟨s0, s1, s2, s3, s4, s5, s6, s7⟩
                go_simp
                with_reducible rfl
               rotate_left
               ·simp only [Act.put, List.setIfInBounds_toArray, List.set_cons_zero, List.set_cons_succ, i64_w, i32_w]
                rfl
               refine take_ (i := 6) (N := some 76) (v := ?_) (a' := ?_) #[true, true, true, true, true, true, true, true, false, false, false] rfl rfl (take_ofW HT_.out HW_.out (by kernel_rfl)) (fun _ _ _ h => h) (Or.inl ⟨by rfl, ?_⟩) hHeld ?_ ?_
               rotate_left
               ·rintro w' ⟨s0, s1, s2, s3, s4, s5, s6, s7⟩
                go_simp
                with_reducible rfl
               rotate_left
               ·simp only [Act.put, List.setIfInBounds_toArray, List.set_cons_zero, List.set_cons_succ, i64_w, i32_w]
                rfl
               refine pure_ (i := 8) (N := some 78) (v := ?_) (a' := ?_) #[true, true, true, true, true, true, true, true, true, false, false] rfl rfl (any_of HT_.out (by kernel_rfl)) (fun _ _ _ h => h) (Or.inl ⟨by rfl, ?_⟩) ?_ ?_
               rotate_left
               ·intro w'
                go_simp
                with_reducible rfl
               rotate_left
               ·simp only [Act.put, List.setIfInBounds_toArray, List.set_cons_zero, List.set_cons_succ, i64_w, i32_w]
                rfl
               refine take_ (i := 9) (N := some 79) (v := ?_) (a' := ?_) #[true, true, true, true, true, true, true, true, true, true, false] rfl rfl (take_ofW HT_.out HW_.out (by kernel_rfl)) (fun _ _ _ h => h) (Or.inl ⟨by rfl, ?_⟩) hHeld ?_ ?_
               rotate_left
               ·rintro w' ⟨s0, s1, s2, s3, s4, s5, s6, s7⟩
                go_simp
                with_reducible rfl
               rotate_left
               ·simp only [Act.put, List.setIfInBounds_toArray, List.set_cons_zero, List.set_cons_succ, i64_w, i32_w]
                rfl
               refine pure_ (i := 10) (N := some 80) (v := ?_) (a' := ?_) #[true, true, true, true, true, true, true, true, true, true, true] rfl rfl (any_of HT_.out (by kernel_rfl)) (fun _ _ _ h => h) (Or.inl ⟨by rfl, ?_⟩) ?_ ?_
               rotate_left
               ·intro w'
                go_simp
                with_reducible rfl
               rotate_left
               ·simp only [Act.put, List.setIfInBounds_toArray, List.set_cons_zero, List.set_cons_succ, i64_w, i32_w]
                rfl
               refine done_ (done_of HT_.out (by kernel_rfl)) ?_
               try go_wp2
               go_roundg k2
               case measure => have := HK1.out; have := HK2.out; omega
               case rel => exact ⟨(wrap64 (x9_2 + 1)), (by first | rfl | (simp; done) | (simp [*]; done)), H', ⟨by have := HK1.out; have := HK2.out; omega⟩, ⟨by (with_reducible repeat (first | apply Kd.S_alloc | apply Kd.S_drewN | apply Kd.S_drew)); exact HO_112001.out⟩, ⟨by (with_reducible repeat (first | apply Kd.R_alloc | apply Kd.R_drewN | apply Kd.R_drew)); exact HO_112002.out⟩, ⟨by (with_reducible repeat (first | apply Kd.S_alloc | apply Kd.S_drewN | apply Kd.S_drew)); exact HO_123001.out⟩, ⟨by (with_reducible repeat (first | apply Kd.R_alloc | apply Kd.R_drewN | apply Kd.R_drew)); exact HO_123002.out⟩, ⟨by (with_reducible repeat (first | apply Kd.S_alloc | apply Kd.S_drewN | apply Kd.S_drew)); exact HO_132001.out⟩, ⟨by (with_reducible repeat (first | apply Kd.R_alloc | apply Kd.R_drewN | apply Kd.R_drew)); exact HO_132002.out⟩, ⟨by (with_reducible repeat (first | refine blk_drewN ?_ _ | refine blk_drew ?_ | refine blk_alloc ?_ _)); exact BK101.out⟩, ⟨by (with_reducible repeat (first | refine blk_drewN ?_ _ | refine blk_drew ?_ | refine blk_alloc ?_ _)); exact BK111.out⟩, ⟨by (with_reducible repeat (first | refine blk_drewN ?_ _ | refine blk_drew ?_ | refine blk_alloc ?_ _)); exact BK122.out⟩, ⟨by (with_reducible repeat (first | refine blk_drewN ?_ _ | refine blk_drew ?_ | refine blk_alloc ?_ _)); exact BK131.out⟩, ⟨by repeat (first | (with_reducible first | exact HB.out | apply below_alloc | apply pw_below_drewN | apply below_drew1 | refine below_set ?_ GE101.out | refine below_set ?_ GE111.out | refine below_set ?_ GE122.out | refine below_set ?_ GE131.out) | exact HB.out)⟩⟩
             ·rw [if_neg c55] at H
              exact absurd H (by simp)
            ·rw [if_neg c54] at H
             exact absurd H (by simp)
           ·rw [if_neg c53] at H
            have c53b0 : decide (x9_2 < (t118.length : Int)) = false := decide_eq_false c53
            clear c53
            replace H := Option.bind_eq_some_iff.mp H
            obtain ⟨t134, A620, H⟩ := H
            replace H : (if t134 = true then ((number_Alike.f k2 a0_0 l0_1 l0_2 t104 t105 x112002_1).bind fun t135 => (if t135 = true then (none) else ((caesuralaw22_wakes.f k2).bind fun t136 => (some t136)))) else (none)) = some r := H
            have A62 := Aside0.mk A620
            clear A620
            by_cases c63 : t134 = true
            ·subst c63
             have H1 : ((number_Alike.f k2 a0_0 l0_1 l0_2 t104 t105 x112002_1).bind fun t135 => (if t135 = true then (none) else ((caesuralaw22_wakes.f k2).bind fun t136 => (some t136)))) = some r := by rw [if_pos rfl] at H; exact H
             clear H
             have H := H1
             clear H1
             replace H := Option.bind_eq_some_iff.mp H
             obtain ⟨t135, A640, H⟩ := H
             replace H : (if t135 = true then (none) else ((caesuralaw22_wakes.f k2).bind fun t136 => (some t136))) = some r := H
             have A64 := Aside0.mk A640
             clear A640
             by_cases c65 : t135 = true
             ·subst c65
              have H1 : (none) = some r := by rw [if_pos rfl] at H; exact H
              clear H
              have H := H1
              clear H1
              exact absurd H (by simp)
             ·replace c65 := Bool.eq_false_iff.mpr c65
              subst c65
              have H1 : ((caesuralaw22_wakes.f k2).bind fun t136 => (some t136)) = some r := by rw [if_neg (show ¬ (false = true) by decide)] at H; exact H
              clear H
              have H := H1
              clear H1
              replace H := Option.bind_eq_some_iff.mp H
              obtain ⟨t136, A660, H⟩ := H
              replace H : (some t136) = some r := H
              have A66 := Aside0.mk A660
              clear A660
              obtain rfl := Option.some.inj H
              have hnb67 := NB122_101.out
              have hnc67 := NB101_122.out
              have hnb68 := NB122_111.out
              have hnc68 := NB111_122.out
              have hnb69 := NB122_131.out
              have hnc69 := NB131_122.out
              have hcz70_0 : wr.cell? ⟨gb122, 0, none⟩ = some (.int .i64 t114) := (blk_cell BK122.out 0).trans rfl
              have hcz70_1 : wr.cell? ⟨gb122, 1, none⟩ = some (.slice Ao41 t115.length co41) := (blk_cell BK122.out 1).trans rfl
              have hcz70_2 : wr.cell? ⟨gb122, 2, none⟩ = some (.slice Ao42 t118.length co42) := (blk_cell BK122.out 2).trans rfl
              have hfz70_0 := blk_frozen BK122.out 0
              have hfz70_1 := blk_frozen BK122.out 1
              have hfz70_2 := blk_frozen BK122.out 2
              have hnb71 := NB131_101.out
              have hnc71 := NB101_131.out
              have hnb72 := NB131_111.out
              have hnc72 := NB111_131.out
              have hcz73_0 : wr.cell? ⟨gb131, 0, none⟩ = some (.int .i64 t123) := (blk_cell BK131.out 0).trans rfl
              have hcz73_1 : wr.cell? ⟨gb131, 1, none⟩ = some (.slice Ao50 t124.length co50) := (blk_cell BK131.out 1).trans rfl
              have hcz73_2 : wr.cell? ⟨gb131, 2, none⟩ = some (.slice Ao51 t127.length co51) := (blk_cell BK131.out 2).trans rfl
              have hfz73_0 := blk_frozen BK131.out 0
              have hfz73_1 := blk_frozen BK131.out 1
              have hfz73_2 := blk_frozen BK131.out 2
              go_wp2_with (first | ((with_reducible refine gate_callee (f := 72) rfl ?_); refine goesL_ (some 85) rfl rfl Try.func72 (by kernel_rfl) rfl #[.slice Ao41 t115.length co41, .slice Ao50 t124.length co50] rfl (by (try simp only [List.map_toArray, List.map_cons, List.map_nil]); first | done | rfl | (simp only [List.length_drop, List.length_take]; rfl)) ?_; (with_reducible refine (caesurakeep_Lists.calls k2 _ _ t115 _ _ t124 true _ ?side1 ?side2 ?side3 ?side4 A62.out).mono ?_); (case side1 => repeat (first | exact (Kd.S_reads' HO_123001.out).2.2 | (with_reducible refine Kd.C_alloc ?_ _) | (with_reducible refine Kd.C_drewN ?_ _) | (with_reducible refine Kd.C_drew ?_))); (case side2 => exact (Kd.S_reads' HO_123001.out).2.1); (case side3 => repeat (first | exact (Kd.S_reads' HO_132001.out).2.2 | (with_reducible refine Kd.C_alloc ?_ _) | (with_reducible refine Kd.C_drewN ?_ _) | (with_reducible refine Kd.C_drew ?_))); (case side4 => exact (Kd.S_reads' HO_132001.out).2.1); rintro e w' ⟨rfl, ⟨nd, rfl⟩⟩; refine ⟨_, rfl, ?_⟩; have hnb74 := NB101_111.out; have hnc74 := NB111_101.out; have hcz75_0 : wr.cell? ⟨gb101, 0, none⟩ = some (.int .i64 a0_0) := (blk_cell BK101.out 0).trans rfl; have hcz75_1 : wr.cell? ⟨gb101, 1, none⟩ = some (.slice A0_1 l0_1.length c0_1) := (blk_cell BK101.out 1).trans rfl; have hcz75_2 : wr.cell? ⟨gb101, 2, none⟩ = some (.slice A0_2 l0_2.length c0_2) := (blk_cell BK101.out 2).trans rfl; have hfz75_0 := blk_frozen BK101.out 0; have hfz75_1 := blk_frozen BK101.out 1; have hfz75_2 := blk_frozen BK101.out 2; have hcz76_0 : wr.cell? ⟨gb111, 0, none⟩ = some (.int .i64 t104) := (blk_cell BK111.out 0).trans rfl; have hcz76_1 : wr.cell? ⟨gb111, 1, none⟩ = some (.slice Ao17 t105.length co17) := (blk_cell BK111.out 1).trans rfl; have hcz76_2 : wr.cell? ⟨gb111, 2, none⟩ = some (.slice Ao34 x112002_1.length co34) := (blk_cell BK111.out 2).trans rfl; have hfz76_0 := blk_frozen BK111.out 0; have hfz76_1 := blk_frozen BK111.out 1; have hfz76_2 := blk_frozen BK111.out 2) | (go_at_call 70; (with_reducible refine (number_Alike.calls k2 a0_0 _ _ l0_1 _ _ l0_2 t104 _ _ t105 _ _ x112002_1 false _ ?side1 ?side2 ?side3 ?side4 ?side5 ?side6 ?side7 ?side8 A64.out).mono ?_); (case side1 => repeat (first | exact (Kd.C_below HR0_1.out (by repeat (first | (with_reducible first | exact HB.out | apply below_alloc | apply pw_below_drewN | apply below_drew1 | refine below_set ?_ GE101.out | refine below_set ?_ GE111.out | refine below_set ?_ GE122.out | refine below_set ?_ GE131.out) | exact HB.out))) | (with_reducible refine Kd.C_alloc ?_ _) | (with_reducible refine Kd.C_drewN ?_ _) | (with_reducible refine Kd.C_drew ?_))); (case side2 => exact HC0_1.out); (case side3 => repeat (first | exact (Kd.C_below HR0_2.out (by repeat (first | (with_reducible first | exact HB.out | apply below_alloc | apply pw_below_drewN | apply below_drew1 | refine below_set ?_ GE101.out | refine below_set ?_ GE111.out | refine below_set ?_ GE122.out | refine below_set ?_ GE131.out) | exact HB.out))) | (with_reducible refine Kd.C_alloc ?_ _) | (with_reducible refine Kd.C_drewN ?_ _) | (with_reducible refine Kd.C_drew ?_))); (case side4 => exact HC0_2.out); (case side5 => repeat (first | exact (Kd.S_reads' HO_112001.out).2.2 | (with_reducible refine Kd.C_alloc ?_ _) | (with_reducible refine Kd.C_drewN ?_ _) | (with_reducible refine Kd.C_drew ?_))); (case side6 => exact (Kd.S_reads' HO_112001.out).2.1); (case side7 => repeat (first | exact (Kd.R_reads' HO_112002.out).2.2 | (with_reducible refine Kd.C_alloc ?_ _) | (with_reducible refine Kd.C_drewN ?_ _) | (with_reducible refine Kd.C_drew ?_))); (case side8 => exact (Kd.R_reads' HO_112002.out).2.1); rintro e w77 ⟨rfl, hb⟩; have n0_ := Aside0.mk (Kd.S_below (by (with_reducible repeat (first | apply Kd.S_alloc | apply Kd.S_drewN | apply Kd.S_drew)); exact HO_112001.out) hb); have n1_ := Aside0.mk (Kd.R_below (by (with_reducible repeat (first | apply Kd.R_alloc | apply Kd.R_drewN | apply Kd.R_drew)); exact HO_112002.out) hb); have n2_ := Aside0.mk (Kd.S_below (by (with_reducible repeat (first | apply Kd.S_alloc | apply Kd.S_drewN | apply Kd.S_drew)); exact HO_123001.out) hb); have n3_ := Aside0.mk (Kd.R_below (by (with_reducible repeat (first | apply Kd.R_alloc | apply Kd.R_drewN | apply Kd.R_drew)); exact HO_123002.out) hb); have n4_ := Aside0.mk (Kd.S_below (by (with_reducible repeat (first | apply Kd.S_alloc | apply Kd.S_drewN | apply Kd.S_drew)); exact HO_132001.out) hb); have n5_ := Aside0.mk (Kd.R_below (by (with_reducible repeat (first | apply Kd.R_alloc | apply Kd.R_drewN | apply Kd.R_drew)); exact HO_132002.out) hb); have n6_ := Aside0.mk (blk_below (g := gb101) (o := .cells #[.int .i64 a0_0, .slice A0_1 l0_1.length c0_1, .slice A0_2 l0_2.length c0_2] 25 (0, 0)) (by (with_reducible repeat (first | refine blk_drewN ?_ _ | refine blk_drew ?_ | refine blk_alloc ?_ _)); exact BK101.out) hb); have n7_ := Aside0.mk (blk_below (g := gb111) (o := .cells #[.int .i64 t104, .slice Ao17 t105.length co17, .slice Ao34 x112002_1.length co34] 25 (0, 0)) (by (with_reducible repeat (first | refine blk_drewN ?_ _ | refine blk_drew ?_ | refine blk_alloc ?_ _)); exact BK111.out) hb); have n8_ := Aside0.mk (blk_below (g := gb122) (o := .cells #[.int .i64 t114, .slice Ao41 t115.length co41, .slice Ao42 t118.length co42] 25 (0, 0)) (by (with_reducible repeat (first | refine blk_drewN ?_ _ | refine blk_drew ?_ | refine blk_alloc ?_ _)); exact BK122.out) hb); have n9_ := Aside0.mk (blk_below (g := gb131) (o := .cells #[.int .i64 t123, .slice Ao50 t124.length co50, .slice Ao51 t127.length co51] 25 (0, 0)) (by (with_reducible repeat (first | refine blk_drewN ?_ _ | refine blk_drew ?_ | refine blk_alloc ?_ _)); exact BK131.out) hb); have n10_ := Aside0.mk (below_step (by repeat (first | (with_reducible first | exact HB.out | apply below_alloc | apply pw_below_drewN | apply below_drew1 | refine below_set ?_ GE101.out | refine below_set ?_ GE111.out | refine below_set ?_ GE122.out | refine below_set ?_ GE131.out) | exact HB.out)) hb); clear HO_112001; clear HO_112002; clear HO_123001; clear HO_123002; clear HO_132001; clear HO_132002; clear BK101; clear BK111; clear BK122; clear BK131; clear HB; have HO_112001 := n0_; have HO_112002 := n1_; have HO_123001 := n2_; have HO_123002 := n3_; have HO_132001 := n4_; have HO_132002 := n5_; have BK101 := n6_; have BK111 := n7_; have BK122 := n8_; have BK131 := n9_; have HB := n10_; clear n0_ n1_ n2_ n3_ n4_ n5_ n6_ n7_ n8_ n9_ n10_; (try clear hb); (try clear hb2); (try clear hk); (try clear hi)) | (go_at_call 63; (with_reducible refine (caesuralaw22_wakes.calls k2  t136 _ A66.out).mono ?_); rintro e w78 ⟨rfl, hb⟩; have n0_ := Aside0.mk (Kd.S_below (by (with_reducible repeat (first | apply Kd.S_alloc | apply Kd.S_drewN | apply Kd.S_drew)); exact HO_112001.out) hb); have n1_ := Aside0.mk (Kd.R_below (by (with_reducible repeat (first | apply Kd.R_alloc | apply Kd.R_drewN | apply Kd.R_drew)); exact HO_112002.out) hb); have n2_ := Aside0.mk (Kd.S_below (by (with_reducible repeat (first | apply Kd.S_alloc | apply Kd.S_drewN | apply Kd.S_drew)); exact HO_123001.out) hb); have n3_ := Aside0.mk (Kd.R_below (by (with_reducible repeat (first | apply Kd.R_alloc | apply Kd.R_drewN | apply Kd.R_drew)); exact HO_123002.out) hb); have n4_ := Aside0.mk (Kd.S_below (by (with_reducible repeat (first | apply Kd.S_alloc | apply Kd.S_drewN | apply Kd.S_drew)); exact HO_132001.out) hb); have n5_ := Aside0.mk (Kd.R_below (by (with_reducible repeat (first | apply Kd.R_alloc | apply Kd.R_drewN | apply Kd.R_drew)); exact HO_132002.out) hb); have n6_ := Aside0.mk (blk_below (g := gb101) (o := .cells #[.int .i64 a0_0, .slice A0_1 l0_1.length c0_1, .slice A0_2 l0_2.length c0_2] 25 (0, 0)) (by (with_reducible repeat (first | refine blk_drewN ?_ _ | refine blk_drew ?_ | refine blk_alloc ?_ _)); exact BK101.out) hb); have n7_ := Aside0.mk (blk_below (g := gb111) (o := .cells #[.int .i64 t104, .slice Ao17 t105.length co17, .slice Ao34 x112002_1.length co34] 25 (0, 0)) (by (with_reducible repeat (first | refine blk_drewN ?_ _ | refine blk_drew ?_ | refine blk_alloc ?_ _)); exact BK111.out) hb); have n8_ := Aside0.mk (blk_below (g := gb122) (o := .cells #[.int .i64 t114, .slice Ao41 t115.length co41, .slice Ao42 t118.length co42] 25 (0, 0)) (by (with_reducible repeat (first | refine blk_drewN ?_ _ | refine blk_drew ?_ | refine blk_alloc ?_ _)); exact BK122.out) hb); have n9_ := Aside0.mk (blk_below (g := gb131) (o := .cells #[.int .i64 t123, .slice Ao50 t124.length co50, .slice Ao51 t127.length co51] 25 (0, 0)) (by (with_reducible repeat (first | refine blk_drewN ?_ _ | refine blk_drew ?_ | refine blk_alloc ?_ _)); exact BK131.out) hb); have n10_ := Aside0.mk (below_step (by repeat (first | (with_reducible first | exact HB.out | apply below_alloc | apply pw_below_drewN | apply below_drew1 | refine below_set ?_ GE101.out | refine below_set ?_ GE111.out | refine below_set ?_ GE122.out | refine below_set ?_ GE131.out) | exact HB.out)) hb); clear HO_112001; clear HO_112002; clear HO_123001; clear HO_123002; clear HO_132001; clear HO_132002; clear BK101; clear BK111; clear BK122; clear BK131; clear HB; have HO_112001 := n0_; have HO_112002 := n1_; have HO_123001 := n2_; have HO_123002 := n3_; have HO_132001 := n4_; have HO_132002 := n5_; have BK101 := n6_; have BK111 := n7_; have BK122 := n8_; have BK131 := n9_; have HB := n10_; clear n0_ n1_ n2_ n3_ n4_ n5_ n6_ n7_ n8_ n9_ n10_; (try clear hb); (try clear hb2); (try clear hk); (try clear hi)))
              go_ret
              exact ⟨by first | rfl | (simp [errW_none, errW_some] <;> rfl) | (simp [*, errW_none, errW_some] <;> rfl), by repeat (first | (with_reducible first | exact HB.out | apply below_alloc | apply pw_below_drewN | apply below_drew1 | refine below_set ?_ GE101.out | refine below_set ?_ GE111.out | refine below_set ?_ GE122.out | refine below_set ?_ GE131.out) | exact HB.out)⟩
            ·replace c63 := Bool.eq_false_iff.mpr c63
             subst c63
             have H1 : (none) = some r := by rw [if_neg (show ¬ (false = true) by decide)] at H; exact H
             clear H
             have H := H1
             clear H1
             exact absurd H (by simp)
        ·rw [if_neg c31] at H
         exact absurd H (by simp)
       ·replace c30 := Bool.eq_false_iff.mpr c30
        subst c30
        have H1 : (none) = some r := by rw [if_neg (show ¬ (false = true) by decide)] at H; exact H
        clear H
        have H := H1
        clear H1
        exact absurd H (by simp)
      ·replace c29 := Bool.eq_false_iff.mpr c29
       subst c29
       have H1 : (none) = some r := by rw [if_neg (show ¬ (false = true) by decide)] at H; exact H
       clear H
       have H := H1
       clear H1
       exact absurd H (by simp)
  ·replace c5 := Bool.eq_false_iff.mpr c5
   subst c5
   have H1 : ((caesuralaw22_wakes.f k).bind fun t137 => (some t137)) = some r := by rw [if_neg (show ¬ (false = true) by decide)] at H; exact H
   clear H
   have H := H1
   clear H1
   replace H := Option.bind_eq_some_iff.mp H
   obtain ⟨t137, A790, H⟩ := H
   replace H : (some t137) = some r := H
   have A79 := Aside0.mk A790
   clear A790
   obtain rfl := Option.some.inj H
   go_enter Try.func17, Try.ntmps17
   go_wp2_with (first | ((with_reducible refine gate_dst (N := 1) rfl ?_); (try (refine gate_guard (by rfl) ?_; dsimp only)); refine box_event ?hg (N := 1) ?hd (cs := #[.int .i64 a0_0, .slice A0_1 l0_1.length c0_1, .slice A0_2 l0_2.length c0_2]) (t := 25) ?hr ?_; (case hd => rfl); (case hg => rfl); (case hr => first | (go_simp; done) | (go_simp; rfl)); intro gb101 hg w80 hbox hb; have n0_ := Aside0.mk (below_step (by repeat (first | (with_reducible first | exact HB.out | apply below_alloc | apply pw_below_drewN | apply below_drew1) | exact HB.out)) hb); have n1_ := Aside0.mk (hbox); have n2_ := Aside0.mk ((by rw [hg]; exact (below_size (by repeat (first | (with_reducible first | exact HB.out | apply below_alloc | apply pw_below_drewN | apply below_drew1) | exact HB.out))) : w.heap.size ≤ gb101)); have n3_ := Aside0.mk ((by rw [hg]; exact (below_size (by repeat (first | (with_reducible first | exact HB.out | apply below_alloc | apply pw_below_drewN | apply below_drew1) | exact HB.out))) : w.heap.size ≤ gb101)); clear HB; have HB := n0_; have BK101 := n1_; have GW101 := n2_; have GE101 := n3_; clear n0_ n1_ n2_ n3_; clear hb hbox hg; have hcz81_0 : w80.cell? ⟨gb101, 0, none⟩ = some (.int .i64 a0_0) := (blk_cell BK101.out 0).trans rfl; have hcz81_1 : w80.cell? ⟨gb101, 1, none⟩ = some (.slice A0_1 l0_1.length c0_1) := (blk_cell BK101.out 1).trans rfl; have hcz81_2 : w80.cell? ⟨gb101, 2, none⟩ = some (.slice A0_2 l0_2.length c0_2) := (blk_cell BK101.out 2).trans rfl; have hfz81_0 := blk_frozen BK101.out 0; have hfz81_1 := blk_frozen BK101.out 1; have hfz81_2 := blk_frozen BK101.out 2) | ((with_reducible refine gate_callee (f := 46) rfl ?_); refine goesL_ (some 11) rfl rfl Try.func46 (by kernel_rfl) rfl #[.agg #[.int .i64 a0_0, .slice A0_1 l0_1.length c0_1, .slice A0_2 l0_2.length c0_2]] rfl (by (try simp only [List.map_toArray, List.map_cons, List.map_nil]); first | done | rfl | (simp only [List.length_drop, List.length_take]; rfl)) ?_; (with_reducible refine (caesuralaw21_Light.calls k a0_0 _ _ l0_1 _ _ l0_2 true _ ?side1 ?side2 ?side3 ?side4 A2.out).mono ?_); (case side1 => repeat (first | exact (Kd.C_below HR0_1.out HB.out) | (with_reducible refine Kd.C_alloc ?_ _) | (with_reducible refine Kd.C_drewN ?_ _) | (with_reducible refine Kd.C_drew ?_))); (case side2 => exact HC0_1.out); (case side3 => repeat (first | exact (Kd.C_below HR0_2.out HB.out) | (with_reducible refine Kd.C_alloc ?_ _) | (with_reducible refine Kd.C_drewN ?_ _) | (with_reducible refine Kd.C_drew ?_))); (case side4 => exact HC0_2.out); rintro e w82 ⟨rfl, hb⟩; refine ⟨_, rfl, ?_⟩; have n0_ := Aside0.mk (blk_below (g := gb101) (o := .cells #[.int .i64 a0_0, .slice A0_1 l0_1.length c0_1, .slice A0_2 l0_2.length c0_2] 25 (0, 0)) (by (with_reducible repeat (first | refine blk_drewN ?_ _ | refine blk_drew ?_ | refine blk_alloc ?_ _)); exact BK101.out) hb); have n1_ := Aside0.mk (below_step (by repeat (first | (with_reducible first | exact HB.out | apply below_alloc | apply pw_below_drewN | apply below_drew1 | refine below_set ?_ GE101.out) | exact HB.out)) hb); clear BK101; clear HB; have BK101 := n0_; have HB := n1_; clear n0_ n1_; (try clear hb); (try clear hb2); (try clear hk); (try clear hi); have hcz83_0 : w82.cell? ⟨gb101, 0, none⟩ = some (.int .i64 a0_0) := (blk_cell BK101.out 0).trans rfl; have hcz83_1 : w82.cell? ⟨gb101, 1, none⟩ = some (.slice A0_1 l0_1.length c0_1) := (blk_cell BK101.out 1).trans rfl; have hcz83_2 : w82.cell? ⟨gb101, 2, none⟩ = some (.slice A0_2 l0_2.length c0_2) := (blk_cell BK101.out 2).trans rfl; have hfz83_0 := blk_frozen BK101.out 0; have hfz83_1 := blk_frozen BK101.out 1; have hfz83_2 := blk_frozen BK101.out 2) | (go_at_call 37; (with_reducible refine (caesuraref19_Good.calls k a0_0 _ _ l0_1 _ _ l0_2 false _ ?side1 ?side2 ?side3 ?side4 A4.out).mono ?_); (case side1 => repeat (first | exact (Kd.C_below HR0_1.out HB.out) | (with_reducible refine Kd.C_alloc ?_ _) | (with_reducible refine Kd.C_drewN ?_ _) | (with_reducible refine Kd.C_drew ?_))); (case side2 => exact HC0_1.out); (case side3 => repeat (first | exact (Kd.C_below HR0_2.out HB.out) | (with_reducible refine Kd.C_alloc ?_ _) | (with_reducible refine Kd.C_drewN ?_ _) | (with_reducible refine Kd.C_drew ?_))); (case side4 => exact HC0_2.out); rintro e w84 ⟨rfl, hb⟩; have n0_ := Aside0.mk (blk_below (g := gb101) (o := .cells #[.int .i64 a0_0, .slice A0_1 l0_1.length c0_1, .slice A0_2 l0_2.length c0_2] 25 (0, 0)) (by (with_reducible repeat (first | refine blk_drewN ?_ _ | refine blk_drew ?_ | refine blk_alloc ?_ _)); exact BK101.out) hb); have n1_ := Aside0.mk (below_step (by repeat (first | (with_reducible first | exact HB.out | apply below_alloc | apply pw_below_drewN | apply below_drew1 | refine below_set ?_ GE101.out) | exact HB.out)) hb); clear BK101; clear HB; have BK101 := n0_; have HB := n1_; clear n0_ n1_; (try clear hb); (try clear hb2); (try clear hk); (try clear hi)) | ((with_reducible refine gate_callee (f := 63) rfl ?_); refine goesL_ (some 18) rfl rfl Try.func63 (by kernel_rfl) rfl #[] rfl (by (try simp only [List.map_toArray, List.map_cons, List.map_nil]); first | done | rfl | (simp only [List.length_drop, List.length_take]; rfl)) ?_; (with_reducible refine (caesuralaw22_wakes.calls k  t137 _ A79.out).mono ?_); rintro e w85 ⟨rfl, hb⟩; refine ⟨_, rfl, ?_⟩; have n0_ := Aside0.mk (blk_below (g := gb101) (o := .cells #[.int .i64 a0_0, .slice A0_1 l0_1.length c0_1, .slice A0_2 l0_2.length c0_2] 25 (0, 0)) (by (with_reducible repeat (first | refine blk_drewN ?_ _ | refine blk_drew ?_ | refine blk_alloc ?_ _)); exact BK101.out) hb); have n1_ := Aside0.mk (below_step (by repeat (first | (with_reducible first | exact HB.out | apply below_alloc | apply pw_below_drewN | apply below_drew1 | refine below_set ?_ GE101.out) | exact HB.out)) hb); clear BK101; clear HB; have BK101 := n0_; have HB := n1_; clear n0_ n1_; (try clear hb); (try clear hb2); (try clear hk); (try clear hi)))
   go_ret
   exact ⟨by first | rfl | (simp [errW_none, errW_some] <;> rfl) | (simp [*, errW_none, errW_some] <;> rfl), by repeat (first | (with_reducible first | exact HB.out | apply below_alloc | apply pw_below_drewN | apply below_drew1 | refine below_set ?_ GE101.out) | exact HB.out)⟩
 ·replace c3 := Bool.eq_false_iff.mpr c3
  subst c3
  have H1 : ((caesuralaw22_wakes.f k).bind fun t138 => (some t138)) = some r := by rw [if_neg (show ¬ (false = true) by decide)] at H; exact H
  clear H
  have H := H1
  clear H1
  replace H := Option.bind_eq_some_iff.mp H
  obtain ⟨t138, A860, H⟩ := H
  replace H : (some t138) = some r := H
  have A86 := Aside0.mk A860
  clear A860
  obtain rfl := Option.some.inj H
  go_enter Try.func17, Try.ntmps17
  go_wp2_with (first | ((with_reducible refine gate_dst (N := 1) rfl ?_); (try (refine gate_guard (by rfl) ?_; dsimp only)); refine box_event ?hg (N := 1) ?hd (cs := #[.int .i64 a0_0, .slice A0_1 l0_1.length c0_1, .slice A0_2 l0_2.length c0_2]) (t := 25) ?hr ?_; (case hd => rfl); (case hg => rfl); (case hr => first | (go_simp; done) | (go_simp; rfl)); intro gb101 hg w87 hbox hb; have n0_ := Aside0.mk (below_step (by repeat (first | (with_reducible first | exact HB.out | apply below_alloc | apply pw_below_drewN | apply below_drew1) | exact HB.out)) hb); have n1_ := Aside0.mk (hbox); have n2_ := Aside0.mk ((by rw [hg]; exact (below_size (by repeat (first | (with_reducible first | exact HB.out | apply below_alloc | apply pw_below_drewN | apply below_drew1) | exact HB.out))) : w.heap.size ≤ gb101)); have n3_ := Aside0.mk ((by rw [hg]; exact (below_size (by repeat (first | (with_reducible first | exact HB.out | apply below_alloc | apply pw_below_drewN | apply below_drew1) | exact HB.out))) : w.heap.size ≤ gb101)); clear HB; have HB := n0_; have BK101 := n1_; have GW101 := n2_; have GE101 := n3_; clear n0_ n1_ n2_ n3_; clear hb hbox hg; have hcz88_0 : w87.cell? ⟨gb101, 0, none⟩ = some (.int .i64 a0_0) := (blk_cell BK101.out 0).trans rfl; have hcz88_1 : w87.cell? ⟨gb101, 1, none⟩ = some (.slice A0_1 l0_1.length c0_1) := (blk_cell BK101.out 1).trans rfl; have hcz88_2 : w87.cell? ⟨gb101, 2, none⟩ = some (.slice A0_2 l0_2.length c0_2) := (blk_cell BK101.out 2).trans rfl; have hfz88_0 := blk_frozen BK101.out 0; have hfz88_1 := blk_frozen BK101.out 1; have hfz88_2 := blk_frozen BK101.out 2) | ((with_reducible refine gate_callee (f := 46) rfl ?_); refine goesL_ (some 11) rfl rfl Try.func46 (by kernel_rfl) rfl #[.agg #[.int .i64 a0_0, .slice A0_1 l0_1.length c0_1, .slice A0_2 l0_2.length c0_2]] rfl (by (try simp only [List.map_toArray, List.map_cons, List.map_nil]); first | done | rfl | (simp only [List.length_drop, List.length_take]; rfl)) ?_; (with_reducible refine (caesuralaw21_Light.calls k a0_0 _ _ l0_1 _ _ l0_2 false _ ?side1 ?side2 ?side3 ?side4 A2.out).mono ?_); (case side1 => repeat (first | exact (Kd.C_below HR0_1.out HB.out) | (with_reducible refine Kd.C_alloc ?_ _) | (with_reducible refine Kd.C_drewN ?_ _) | (with_reducible refine Kd.C_drew ?_))); (case side2 => exact HC0_1.out); (case side3 => repeat (first | exact (Kd.C_below HR0_2.out HB.out) | (with_reducible refine Kd.C_alloc ?_ _) | (with_reducible refine Kd.C_drewN ?_ _) | (with_reducible refine Kd.C_drew ?_))); (case side4 => exact HC0_2.out); rintro e w89 ⟨rfl, hb⟩; refine ⟨_, rfl, ?_⟩; have n0_ := Aside0.mk (blk_below (g := gb101) (o := .cells #[.int .i64 a0_0, .slice A0_1 l0_1.length c0_1, .slice A0_2 l0_2.length c0_2] 25 (0, 0)) (by (with_reducible repeat (first | refine blk_drewN ?_ _ | refine blk_drew ?_ | refine blk_alloc ?_ _)); exact BK101.out) hb); have n1_ := Aside0.mk (below_step (by repeat (first | (with_reducible first | exact HB.out | apply below_alloc | apply pw_below_drewN | apply below_drew1 | refine below_set ?_ GE101.out) | exact HB.out)) hb); clear BK101; clear HB; have BK101 := n0_; have HB := n1_; clear n0_ n1_; (try clear hb); (try clear hb2); (try clear hk); (try clear hi)) | ((with_reducible refine gate_callee (f := 63) rfl ?_); refine goesL_ (some 18) rfl rfl Try.func63 (by kernel_rfl) rfl #[] rfl (by (try simp only [List.map_toArray, List.map_cons, List.map_nil]); first | done | rfl | (simp only [List.length_drop, List.length_take]; rfl)) ?_; (with_reducible refine (caesuralaw22_wakes.calls k  t138 _ A86.out).mono ?_); rintro e w90 ⟨rfl, hb⟩; refine ⟨_, rfl, ?_⟩; have n0_ := Aside0.mk (blk_below (g := gb101) (o := .cells #[.int .i64 a0_0, .slice A0_1 l0_1.length c0_1, .slice A0_2 l0_2.length c0_2] 25 (0, 0)) (by (with_reducible repeat (first | refine blk_drewN ?_ _ | refine blk_drew ?_ | refine blk_alloc ?_ _)); exact BK101.out) hb); have n1_ := Aside0.mk (below_step (by repeat (first | (with_reducible first | exact HB.out | apply below_alloc | apply pw_below_drewN | apply below_drew1 | refine below_set ?_ GE101.out) | exact HB.out)) hb); clear BK101; clear HB; have BK101 := n0_; have HB := n1_; clear n0_ n1_; (try clear hb); (try clear hb2); (try clear hk); (try clear hi)))
  go_ret
  exact ⟨by first | rfl | (simp [errW_none, errW_some] <;> rfl) | (simp [*, errW_none, errW_some] <;> rfl), by repeat (first | (with_reducible first | exact HB.out | apply below_alloc | apply pw_below_drewN | apply below_drew1 | refine below_set ?_ GE101.out) | exact HB.out)⟩

end Go.Proofs.Ytelkjbacdpmnfaa.A
