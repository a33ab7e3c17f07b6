/- By a program, out of the translation (wip/myprint.py). -/
import Derived.Test.YtelkjbacdpmnfaaA0
import Derived.Test.YtelkjbacdpmnfaaACaesuralaw21Light
import Derived.Test.YtelkjbacdpmnfaaACaesuralaw21Wakes
import Derived.Test.YtelkjbacdpmnfaaACaesuraref19Good
import Derived.Test.YtelkjbacdpmnfaaAEq60
import Derived.Test.YtelkjbacdpmnfaaAKdMore
import Derived.Test.YtelkjbacdpmnfaaALeastClasses
namespace Go.Proofs.Ytelkjbacdpmnfaa.A
open Go.RowKit Go.Proofs.YtelkjbacdpmnfaaW.PrintWords Go.Proofs.YtelkjbacdpmnfaaW.PrintLast Go.Proofs.YtelkjbacdpmnfaaW.PrintMore
attribute [local go_sem] max2_int min2_int max_two min_two max_three min_three max_four min_four   -- for this text's walks alone
set_option linter.unusedVariables false
set_option linter.unusedSimpArgs false

attribute [local go_sem high] eqA60
/-! ### caesuralaw21_LeastAlike: function 8 -/
mutual
def caesuralaw21_LeastAlike.l0 : Nat → Int → List Int → Int → Int → List (List Int) → List Bool → Option (Bool)
 | 0, _, _, _, _, _, _ => none
 | k + 1, x3, x4, x5, x102000, x102001, x102002 => if x5 < x3 then (if 0 ≤ x5 then (if x5 < (x4.length : Int) then (if (rd x4 x5) < 0 then (none) else (if (rd x4 x5) > x5 then (none) else (if 0 ≤ (rd x4 x5) then (if (rd x4 x5) < (x4.length : Int) then (if (rd x4 (rd x4 x5)) = (rd x4 x5) then (if x5 < (x102002.length : Int) then (if (rd x4 x5) < (x102002.length : Int) then (if ((rdOf false x102002 x5) != (rdOf false x102002 (rd x4 x5))) = true then (none) else (caesuralaw21_LeastAlike.l1 k x3 x4 x5 (rd x4 x5) 0 x102000 x102001 x102002)) else (none)) else (none)) else (none)) else (none)) else (none)))) else (none)) else (none)) else (caesuralaw21_LeastAlike.l2 k x3 x4 0 x102000 x102001 x102002)
def caesuralaw21_LeastAlike.l1 : Nat → Int → List Int → Int → Int → Int → Int → List (List Int) → List Bool → Option (Bool)
 | 0, _, _, _, _, _, _, _, _ => none
 | k + 1, x3, x4, x5, x6, x7, x102000, x102001, x102002 => if x7 < x102000 then (if 0 ≤ x5 then (if x5 < (x102001.length : Int) then (if 0 ≤ x7 then (if x7 < ((rd_L5 x102001 x5).length : Int) then (if 0 ≤ (rd (rd_L5 x102001 x5) x7) then (if (rd (rd_L5 x102001 x5) x7) < (x4.length : Int) then (if 0 ≤ x6 then (if x6 < (x102001.length : Int) then (if x7 < ((rd_L5 x102001 x6).length : Int) then (if 0 ≤ (rd (rd_L5 x102001 x6) x7) then (if (rd (rd_L5 x102001 x6) x7) < (x4.length : Int) then (if (rd x4 (rd (rd_L5 x102001 x5) x7)) = (rd x4 (rd (rd_L5 x102001 x6) x7)) then (caesuralaw21_LeastAlike.l1 k x3 x4 x5 x6 (wrap64 (x7 + 1)) x102000 x102001 x102002) else (none)) else (none)) else (none)) else (none)) else (none)) else (none)) else (none)) else (none)) else (none)) else (none)) else (none)) else (none)) else (caesuralaw21_LeastAlike.l0 k x3 x4 (wrap64 (x5 + 1)) x102000 x102001 x102002)
def caesuralaw21_LeastAlike.l2 : Nat → Int → List Int → Int → Int → List (List Int) → List Bool → Option (Bool)
 | 0, _, _, _, _, _, _ => none
 | k + 1, x3, x4, x8, x102000, x102001, x102002 => if x8 < x3 then (caesuralaw21_LeastAlike.l3 k x3 x4 x8 0 x102000 x102001 x102002) else ((caesuralaw21_wakes.f k).bind fun t138 => (some t138))
def caesuralaw21_LeastAlike.l3 : Nat → Int → List Int → Int → Int → Int → List (List Int) → List Bool → Option (Bool)
 | 0, _, _, _, _, _, _, _ => none
 | k + 1, x3, x4, x8, x9, x102000, x102001, x102002 => if x9 < x8 then (caesuralaw21_LeastAlike.l4 k x3 x4 x8 x9 (([(⟨x8, x9⟩ : S60)] : List (S60))) false 0 x102000 x102001 x102002) else (caesuralaw21_LeastAlike.l2 k x3 x4 (wrap64 (x8 + 1)) x102000 x102001 x102002)
def caesuralaw21_LeastAlike.l4 : Nat → Int → List Int → Int → Int → List (S60) → Bool → Int → Int → List (List Int) → List Bool → Option (Bool)
 | 0, _, _, _, _, _, _, _, _, _, _ => none
 | k + 1, x3, x4, x8, x9, x10, x11, x12, x102000, x102001, x102002 => if x12 < (x10.length : Int) then (if x11 = true then (if 0 ≤ x8 then (if x8 < (x4.length : Int) then (if 0 ≤ x9 then (if x9 < (x4.length : Int) then (if (x11 != ((rd x4 x8) != (rd x4 x9))) = true then (none) else (caesuralaw21_LeastAlike.l3 k x3 x4 x8 (wrap64 (x9 + 1)) x102000 x102001 x102002)) else (none)) else (none)) else (none)) else (none)) else (if 0 ≤ x12 then (if 0 ≤ ((rd_T60 x10 x12).f0) then (if ((rd_T60 x10 x12).f0) < (x102002.length : Int) then (if 0 ≤ ((rd_T60 x10 x12).f1) then (if ((rd_T60 x10 x12).f1) < (x102002.length : Int) then (caesuralaw21_LeastAlike.l5 k x3 x4 x8 x9 x10 ((rdOf false x102002 ((rd_T60 x10 x12).f0)) != (rdOf false x102002 ((rd_T60 x10 x12).f1))) x12 0 x102000 x102001 x102002 ((rd_T60 x10 x12).f0) ((rd_T60 x10 x12).f1)) else (none)) else (none)) else (none)) else (none)) else (none))) else (if 0 ≤ x8 then (if x8 < (x4.length : Int) then (if 0 ≤ x9 then (if x9 < (x4.length : Int) then (if (x11 != ((rd x4 x8) != (rd x4 x9))) = true then (none) else (caesuralaw21_LeastAlike.l3 k x3 x4 x8 (wrap64 (x9 + 1)) x102000 x102001 x102002)) else (none)) else (none)) else (none)) else (none))
def caesuralaw21_LeastAlike.l5 : Nat → Int → List Int → Int → Int → List (S60) → Bool → Int → Int → Int → List (List Int) → List Bool → Int → Int → Option (Bool)
 | 0, _, _, _, _, _, _, _, _, _, _, _, _, _ => none
 | k + 1, x3, x4, x8, x9, x10, x11, x12, x14, x102000, x102001, x102002, x125000, x125001 => if x14 < x102000 then (if 0 ≤ x125000 then (if x125000 < (x102001.length : Int) then (if 0 ≤ x14 then (if x14 < ((rd_L5 x102001 x125000).length : Int) then (if 0 ≤ x125001 then (if x125001 < (x102001.length : Int) then (if x14 < ((rd_L5 x102001 x125001).length : Int) then (caesuralaw21_LeastAlike.l6 k x3 x4 x8 x9 x10 x11 x12 x14 false 0 x102000 x102001 x102002 x125000 x125001 (rd (rd_L5 x102001 x125000) x14) (rd (rd_L5 x102001 x125001) x14)) else (none)) else (none)) else (none)) else (none)) else (none)) else (none)) else (none)) else (caesuralaw21_LeastAlike.l4 k x3 x4 x8 x9 x10 x11 (wrap64 (x12 + 1)) x102000 x102001 x102002)
def caesuralaw21_LeastAlike.l6 : Nat → Int → List Int → Int → Int → List (S60) → Bool → Int → Int → Bool → Int → Int → List (List Int) → List Bool → Int → Int → Int → Int → Option (Bool)
 | 0, _, _, _, _, _, _, _, _, _, _, _, _, _, _, _, _, _ => none
 | k + 1, x3, x4, x8, x9, x10, x11, x12, x14, x16, x17, x102000, x102001, x102002, x125000, x125001, x132000, x132001 => if x17 < (x10.length : Int) then (if x16 = true then (caesuralaw21_LeastAlike.l6 k x3 x4 x8 x9 x10 x11 x12 x14 true (wrap64 (x17 + 1)) x102000 x102001 x102002 x125000 x125001 x132000 x132001) else (if 0 ≤ x17 then (caesuralaw21_LeastAlike.l6 k x3 x4 x8 x9 x10 x11 x12 x14 (((rd_T60 x10 x17).f0) == x132000 && (((rd_T60 x10 x17).f1) == x132001)) (wrap64 (x17 + 1)) x102000 x102001 x102002 x125000 x125001 x132000 x132001) else (none))) else (if x16 = true then (caesuralaw21_LeastAlike.l5 k x3 x4 x8 x9 x10 x11 x12 (wrap64 (x14 + 1)) x102000 x102001 x102002 x125000 x125001) else (if x10.length < 8796093022208 then (caesuralaw21_LeastAlike.l5 k x3 x4 x8 x9 (x10 ++ [(⟨x132000, x132001⟩ : S60)]) x11 x12 (wrap64 (x14 + 1)) x102000 x102001 x102002 x125000 x125001) else (none)))
end
def caesuralaw21_LeastAlike.f (k : Nat) (a0_0 : Int) (l0_1 : List (List Int)) (l0_2 : List Bool) : Option (Bool) := (caesuralaw21_Light.f k a0_0 l0_1 l0_2).bind fun t102 => (if t102 = true then ((caesuraref19_Good.f k a0_0 l0_1 l0_2).bind fun t103 => (if t103 = true then (if (l0_1.length : Int) > 12 then ((caesuralaw21_wakes.f k).bind fun t104 => (some t104)) else ((least_Classes.f k a0_0 l0_1 l0_2).bind fun t105 => (if (t105.length : Int) = (l0_1.length : Int) then (caesuralaw21_LeastAlike.l0 k (l0_1.length : Int) t105 0 a0_0 l0_1 l0_2) else (none)))) else ((caesuralaw21_wakes.f k).bind fun t139 => (some t139)))) else ((caesuralaw21_wakes.f k).bind fun t140 => (some t140)))
theorem caesuralaw21_LeastAlike.mono_l : ∀ k, (∀ y0 y1 y2 y3 y4 y5, LeO (caesuralaw21_LeastAlike.l0 k y0 y1 y2 y3 y4 y5) (caesuralaw21_LeastAlike.l0 (k + 1) y0 y1 y2 y3 y4 y5)) ∧ (∀ y0 y1 y2 y3 y4 y5 y6 y7, LeO (caesuralaw21_LeastAlike.l1 k y0 y1 y2 y3 y4 y5 y6 y7) (caesuralaw21_LeastAlike.l1 (k + 1) y0 y1 y2 y3 y4 y5 y6 y7)) ∧ (∀ y0 y1 y2 y3 y4 y5, LeO (caesuralaw21_LeastAlike.l2 k y0 y1 y2 y3 y4 y5) (caesuralaw21_LeastAlike.l2 (k + 1) y0 y1 y2 y3 y4 y5)) ∧ (∀ y0 y1 y2 y3 y4 y5 y6, LeO (caesuralaw21_LeastAlike.l3 k y0 y1 y2 y3 y4 y5 y6) (caesuralaw21_LeastAlike.l3 (k + 1) y0 y1 y2 y3 y4 y5 y6)) ∧ (∀ y0 y1 y2 y3 y4 y5 y6 y7 y8 y9, LeO (caesuralaw21_LeastAlike.l4 k y0 y1 y2 y3 y4 y5 y6 y7 y8 y9) (caesuralaw21_LeastAlike.l4 (k + 1) y0 y1 y2 y3 y4 y5 y6 y7 y8 y9)) ∧ (∀ y0 y1 y2 y3 y4 y5 y6 y7 y8 y9 y10 y11 y12, LeO (caesuralaw21_LeastAlike.l5 k y0 y1 y2 y3 y4 y5 y6 y7 y8 y9 y10 y11 y12) (caesuralaw21_LeastAlike.l5 (k + 1) y0 y1 y2 y3 y4 y5 y6 y7 y8 y9 y10 y11 y12)) ∧ (∀ y0 y1 y2 y3 y4 y5 y6 y7 y8 y9 y10 y11 y12 y13 y14 y15 y16, LeO (caesuralaw21_LeastAlike.l6 k y0 y1 y2 y3 y4 y5 y6 y7 y8 y9 y10 y11 y12 y13 y14 y15 y16) (caesuralaw21_LeastAlike.l6 (k + 1) y0 y1 y2 y3 y4 y5 y6 y7 y8 y9 y10 y11 y12 y13 y14 y15 y16))
 | 0 => ⟨fun _ _ _ _ _ _ r h => by simp [caesuralaw21_LeastAlike.l0] at h, fun _ _ _ _ _ _ _ _ r h => by simp [caesuralaw21_LeastAlike.l1] at h, fun _ _ _ _ _ _ r h => by simp [caesuralaw21_LeastAlike.l2] at h, fun _ _ _ _ _ _ _ r h => by simp [caesuralaw21_LeastAlike.l3] at h, fun _ _ _ _ _ _ _ _ _ _ r h => by simp [caesuralaw21_LeastAlike.l4] at h, fun _ _ _ _ _ _ _ _ _ _ _ _ _ r h => by simp [caesuralaw21_LeastAlike.l5] at h, fun _ _ _ _ _ _ _ _ _ _ _ _ _ _ _ _ _ r h => by simp [caesuralaw21_LeastAlike.l6] at h⟩
 | k + 1 => by
  obtain ⟨ih0, ih1, ih2, ih3, ih4, ih5, ih6⟩ := caesuralaw21_LeastAlike.mono_l k
  refine ⟨?_, ?_, ?_, ?_, ?_, ?_, ?_⟩
  ·intro y0 y1 y2 y3 y4 y5
   unfold caesuralaw21_LeastAlike.l0
   repeat' first
   | (with_reducible exact ih0 _ _ _ _ _ _)
   | (with_reducible exact ih1 _ _ _ _ _ _ _ _)
   | (with_reducible exact ih2 _ _ _ _ _ _)
   | (with_reducible exact ih3 _ _ _ _ _ _ _)
   | (with_reducible exact ih4 _ _ _ _ _ _ _ _ _ _)
   | (with_reducible exact ih5 _ _ _ _ _ _ _ _ _ _ _ _ _)
   | (with_reducible exact ih6 _ _ _ _ _ _ _ _ _ _ _ _ _ _ _ _ _)
   | (with_reducible exact caesuralaw21_Light.mono _ _ _ _)
   | (with_reducible exact caesuralaw21_wakes.mono _)
   | (with_reducible exact caesuraref19_Good.mono _ _ _ _)
   | (with_reducible exact least_Classes.mono _ _ _ _)
   | (with_reducible exact LeO.refl _)
   | (with_reducible exact LeO.none _)
   | (with_reducible refine LeO.ite ?_ ?_)
   | (with_reducible refine LeO.bind ?_ (fun _ => ?_))
   | exact ih0 _ _ _ _ _ _
   | exact ih1 _ _ _ _ _ _ _ _
   | exact ih2 _ _ _ _ _ _
   | exact ih3 _ _ _ _ _ _ _
   | exact ih4 _ _ _ _ _ _ _ _ _ _
   | exact ih5 _ _ _ _ _ _ _ _ _ _ _ _ _
   | exact ih6 _ _ _ _ _ _ _ _ _ _ _ _ _ _ _ _ _
   | exact caesuralaw21_Light.mono _ _ _ _
   | exact caesuralaw21_wakes.mono _
   | exact caesuraref19_Good.mono _ _ _ _
   | exact least_Classes.mono _ _ _ _
   | exact LeO.none _
   | refine LeO.ite ?_ ?_
   | refine LeO.bind ?_ (fun _ => ?_)
  ·intro y0 y1 y2 y3 y4 y5 y6 y7
   unfold caesuralaw21_LeastAlike.l1
   repeat' first
   | (with_reducible exact ih0 _ _ _ _ _ _)
   | (with_reducible exact ih1 _ _ _ _ _ _ _ _)
   | (with_reducible exact ih2 _ _ _ _ _ _)
   | (with_reducible exact ih3 _ _ _ _ _ _ _)
   | (with_reducible exact ih4 _ _ _ _ _ _ _ _ _ _)
   | (with_reducible exact ih5 _ _ _ _ _ _ _ _ _ _ _ _ _)
   | (with_reducible exact ih6 _ _ _ _ _ _ _ _ _ _ _ _ _ _ _ _ _)
   | (with_reducible exact caesuralaw21_Light.mono _ _ _ _)
   | (with_reducible exact caesuralaw21_wakes.mono _)
   | (with_reducible exact caesuraref19_Good.mono _ _ _ _)
   | (with_reducible exact least_Classes.mono _ _ _ _)
   | (with_reducible exact LeO.refl _)
   | (with_reducible exact LeO.none _)
   | (with_reducible refine LeO.ite ?_ ?_)
   | (with_reducible refine LeO.bind ?_ (fun _ => ?_))
   | exact ih0 _ _ _ _ _ _
   | exact ih1 _ _ _ _ _ _ _ _
   | exact ih2 _ _ _ _ _ _
   | exact ih3 _ _ _ _ _ _ _
   | exact ih4 _ _ _ _ _ _ _ _ _ _
   | exact ih5 _ _ _ _ _ _ _ _ _ _ _ _ _
   | exact ih6 _ _ _ _ _ _ _ _ _ _ _ _ _ _ _ _ _
   | exact caesuralaw21_Light.mono _ _ _ _
   | exact caesuralaw21_wakes.mono _
   | exact caesuraref19_Good.mono _ _ _ _
   | exact least_Classes.mono _ _ _ _
   | exact LeO.none _
   | refine LeO.ite ?_ ?_
   | refine LeO.bind ?_ (fun _ => ?_)
  ·intro y0 y1 y2 y3 y4 y5
   unfold caesuralaw21_LeastAlike.l2
   repeat' first
   | (with_reducible exact ih0 _ _ _ _ _ _)
   | (with_reducible exact ih1 _ _ _ _ _ _ _ _)
   | (with_reducible exact ih2 _ _ _ _ _ _)
   | (with_reducible exact ih3 _ _ _ _ _ _ _)
   | (with_reducible exact ih4 _ _ _ _ _ _ _ _ _ _)
   | (with_reducible exact ih5 _ _ _ _ _ _ _ _ _ _ _ _ _)
   | (with_reducible exact ih6 _ _ _ _ _ _ _ _ _ _ _ _ _ _ _ _ _)
   | (with_reducible exact caesuralaw21_Light.mono _ _ _ _)
   | (with_reducible exact caesuralaw21_wakes.mono _)
   | (with_reducible exact caesuraref19_Good.mono _ _ _ _)
   | (with_reducible exact least_Classes.mono _ _ _ _)
   | (with_reducible exact LeO.refl _)
   | (with_reducible exact LeO.none _)
   | (with_reducible refine LeO.ite ?_ ?_)
   | (with_reducible refine LeO.bind ?_ (fun _ => ?_))
   | exact ih0 _ _ _ _ _ _
   | exact ih1 _ _ _ _ _ _ _ _
   | exact ih2 _ _ _ _ _ _
   | exact ih3 _ _ _ _ _ _ _
   | exact ih4 _ _ _ _ _ _ _ _ _ _
   | exact ih5 _ _ _ _ _ _ _ _ _ _ _ _ _
   | exact ih6 _ _ _ _ _ _ _ _ _ _ _ _ _ _ _ _ _
   | exact caesuralaw21_Light.mono _ _ _ _
   | exact caesuralaw21_wakes.mono _
   | exact caesuraref19_Good.mono _ _ _ _
   | exact least_Classes.mono _ _ _ _
   | exact LeO.none _
   | refine LeO.ite ?_ ?_
   | refine LeO.bind ?_ (fun _ => ?_)
  ·intro y0 y1 y2 y3 y4 y5 y6
   unfold caesuralaw21_LeastAlike.l3
   repeat' first
   | (with_reducible exact ih0 _ _ _ _ _ _)
   | (with_reducible exact ih1 _ _ _ _ _ _ _ _)
   | (with_reducible exact ih2 _ _ _ _ _ _)
   | (with_reducible exact ih3 _ _ _ _ _ _ _)
   | (with_reducible exact ih4 _ _ _ _ _ _ _ _ _ _)
   | (with_reducible exact ih5 _ _ _ _ _ _ _ _ _ _ _ _ _)
   | (with_reducible exact ih6 _ _ _ _ _ _ _ _ _ _ _ _ _ _ _ _ _)
   | (with_reducible exact caesuralaw21_Light.mono _ _ _ _)
   | (with_reducible exact caesuralaw21_wakes.mono _)
   | (with_reducible exact caesuraref19_Good.mono _ _ _ _)
   | (with_reducible exact least_Classes.mono _ _ _ _)
   | (with_reducible exact LeO.refl _)
   | (with_reducible exact LeO.none _)
   | (with_reducible refine LeO.ite ?_ ?_)
   | (with_reducible refine LeO.bind ?_ (fun _ => ?_))
   | exact ih0 _ _ _ _ _ _
   | exact ih1 _ _ _ _ _ _ _ _
   | exact ih2 _ _ _ _ _ _
   | exact ih3 _ _ _ _ _ _ _
   | exact ih4 _ _ _ _ _ _ _ _ _ _
   | exact ih5 _ _ _ _ _ _ _ _ _ _ _ _ _
   | exact ih6 _ _ _ _ _ _ _ _ _ _ _ _ _ _ _ _ _
   | exact caesuralaw21_Light.mono _ _ _ _
   | exact caesuralaw21_wakes.mono _
   | exact caesuraref19_Good.mono _ _ _ _
   | exact least_Classes.mono _ _ _ _
   | exact LeO.none _
   | refine LeO.ite ?_ ?_
   | refine LeO.bind ?_ (fun _ => ?_)
  ·intro y0 y1 y2 y3 y4 y5 y6 y7 y8 y9
   unfold caesuralaw21_LeastAlike.l4
   repeat' first
   | (with_reducible exact ih0 _ _ _ _ _ _)
   | (with_reducible exact ih1 _ _ _ _ _ _ _ _)
   | (with_reducible exact ih2 _ _ _ _ _ _)
   | (with_reducible exact ih3 _ _ _ _ _ _ _)
   | (with_reducible exact ih4 _ _ _ _ _ _ _ _ _ _)
   | (with_reducible exact ih5 _ _ _ _ _ _ _ _ _ _ _ _ _)
   | (with_reducible exact ih6 _ _ _ _ _ _ _ _ _ _ _ _ _ _ _ _ _)
   | (with_reducible exact caesuralaw21_Light.mono _ _ _ _)
   | (with_reducible exact caesuralaw21_wakes.mono _)
   | (with_reducible exact caesuraref19_Good.mono _ _ _ _)
   | (with_reducible exact least_Classes.mono _ _ _ _)
   | (with_reducible exact LeO.refl _)
   | (with_reducible exact LeO.none _)
   | (with_reducible refine LeO.ite ?_ ?_)
   | (with_reducible refine LeO.bind ?_ (fun _ => ?_))
   | exact ih0 _ _ _ _ _ _
   | exact ih1 _ _ _ _ _ _ _ _
   | exact ih2 _ _ _ _ _ _
   | exact ih3 _ _ _ _ _ _ _
   | exact ih4 _ _ _ _ _ _ _ _ _ _
   | exact ih5 _ _ _ _ _ _ _ _ _ _ _ _ _
   | exact ih6 _ _ _ _ _ _ _ _ _ _ _ _ _ _ _ _ _
   | exact caesuralaw21_Light.mono _ _ _ _
   | exact caesuralaw21_wakes.mono _
   | exact caesuraref19_Good.mono _ _ _ _
   | exact least_Classes.mono _ _ _ _
   | exact LeO.none _
   | refine LeO.ite ?_ ?_
   | refine LeO.bind ?_ (fun _ => ?_)
  ·intro y0 y1 y2 y3 y4 y5 y6 y7 y8 y9 y10 y11 y12
   unfold caesuralaw21_LeastAlike.l5
   repeat' first
   | (with_reducible exact ih0 _ _ _ _ _ _)
   | (with_reducible exact ih1 _ _ _ _ _ _ _ _)
   | (with_reducible exact ih2 _ _ _ _ _ _)
   | (with_reducible exact ih3 _ _ _ _ _ _ _)
   | (with_reducible exact ih4 _ _ _ _ _ _ _ _ _ _)
   | (with_reducible exact ih5 _ _ _ _ _ _ _ _ _ _ _ _ _)
   | (with_reducible exact ih6 _ _ _ _ _ _ _ _ _ _ _ _ _ _ _ _ _)
   | (with_reducible exact caesuralaw21_Light.mono _ _ _ _)
   | (with_reducible exact caesuralaw21_wakes.mono _)
   | (with_reducible exact caesuraref19_Good.mono _ _ _ _)
   | (with_reducible exact least_Classes.mono _ _ _ _)
   | (with_reducible exact LeO.refl _)
   | (with_reducible exact LeO.none _)
   | (with_reducible refine LeO.ite ?_ ?_)
   | (with_reducible refine LeO.bind ?_ (fun _ => ?_))
   | exact ih0 _ _ _ _ _ _
   | exact ih1 _ _ _ _ _ _ _ _
   | exact ih2 _ _ _ _ _ _
   | exact ih3 _ _ _ _ _ _ _
   | exact ih4 _ _ _ _ _ _ _ _ _ _
   | exact ih5 _ _ _ _ _ _ _ _ _ _ _ _ _
   | exact ih6 _ _ _ _ _ _ _ _ _ _ _ _ _ _ _ _ _
   | exact caesuralaw21_Light.mono _ _ _ _
   | exact caesuralaw21_wakes.mono _
   | exact caesuraref19_Good.mono _ _ _ _
   | exact least_Classes.mono _ _ _ _
   | exact LeO.none _
   | refine LeO.ite ?_ ?_
   | refine LeO.bind ?_ (fun _ => ?_)
  ·intro y0 y1 y2 y3 y4 y5 y6 y7 y8 y9 y10 y11 y12 y13 y14 y15 y16
   unfold caesuralaw21_LeastAlike.l6
   repeat' first
   | (with_reducible exact ih0 _ _ _ _ _ _)
   | (with_reducible exact ih1 _ _ _ _ _ _ _ _)
   | (with_reducible exact ih2 _ _ _ _ _ _)
   | (with_reducible exact ih3 _ _ _ _ _ _ _)
   | (with_reducible exact ih4 _ _ _ _ _ _ _ _ _ _)
   | (with_reducible exact ih5 _ _ _ _ _ _ _ _ _ _ _ _ _)
   | (with_reducible exact ih6 _ _ _ _ _ _ _ _ _ _ _ _ _ _ _ _ _)
   | (with_reducible exact caesuralaw21_Light.mono _ _ _ _)
   | (with_reducible exact caesuralaw21_wakes.mono _)
   | (with_reducible exact caesuraref19_Good.mono _ _ _ _)
   | (with_reducible exact least_Classes.mono _ _ _ _)
   | (with_reducible exact LeO.refl _)
   | (with_reducible exact LeO.none _)
   | (with_reducible refine LeO.ite ?_ ?_)
   | (with_reducible refine LeO.bind ?_ (fun _ => ?_))
   | exact ih0 _ _ _ _ _ _
   | exact ih1 _ _ _ _ _ _ _ _
   | exact ih2 _ _ _ _ _ _
   | exact ih3 _ _ _ _ _ _ _
   | exact ih4 _ _ _ _ _ _ _ _ _ _
   | exact ih5 _ _ _ _ _ _ _ _ _ _ _ _ _
   | exact ih6 _ _ _ _ _ _ _ _ _ _ _ _ _ _ _ _ _
   | exact caesuralaw21_Light.mono _ _ _ _
   | exact caesuralaw21_wakes.mono _
   | exact caesuraref19_Good.mono _ _ _ _
   | exact least_Classes.mono _ _ _ _
   | exact LeO.none _
   | refine LeO.ite ?_ ?_
   | refine LeO.bind ?_ (fun _ => ?_)
theorem caesuralaw21_LeastAlike.mono : ∀ a0 a1 a2 k, LeO (caesuralaw21_LeastAlike.f k a0 a1 a2) (caesuralaw21_LeastAlike.f (k + 1) a0 a1 a2) := by
 intro a0 a1 a2 k
 obtain ⟨ih0, ih1, ih2, ih3, ih4, ih5, ih6⟩ := caesuralaw21_LeastAlike.mono_l k
 unfold caesuralaw21_LeastAlike.f
 repeat' first
   | (with_reducible exact ih0 _ _ _ _ _ _)
   | (with_reducible exact ih1 _ _ _ _ _ _ _ _)
   | (with_reducible exact ih2 _ _ _ _ _ _)
   | (with_reducible exact ih3 _ _ _ _ _ _ _)
   | (with_reducible exact ih4 _ _ _ _ _ _ _ _ _ _)
   | (with_reducible exact ih5 _ _ _ _ _ _ _ _ _ _ _ _ _)
   | (with_reducible exact ih6 _ _ _ _ _ _ _ _ _ _ _ _ _ _ _ _ _)
   | (with_reducible exact caesuralaw21_Light.mono _ _ _ _)
   | (with_reducible exact caesuralaw21_wakes.mono _)
   | (with_reducible exact caesuraref19_Good.mono _ _ _ _)
   | (with_reducible exact least_Classes.mono _ _ _ _)
   | (with_reducible exact LeO.refl _)
   | (with_reducible exact LeO.none _)
   | (with_reducible refine LeO.ite ?_ ?_)
   | (with_reducible refine LeO.bind ?_ (fun _ => ?_))
   | exact ih0 _ _ _ _ _ _
   | exact ih1 _ _ _ _ _ _ _ _
   | exact ih2 _ _ _ _ _ _
   | exact ih3 _ _ _ _ _ _ _
   | exact ih4 _ _ _ _ _ _ _ _ _ _
   | exact ih5 _ _ _ _ _ _ _ _ _ _ _ _ _
   | exact ih6 _ _ _ _ _ _ _ _ _ _ _ _ _ _ _ _ _
   | exact caesuralaw21_Light.mono _ _ _ _
   | exact caesuralaw21_wakes.mono _
   | exact caesuraref19_Good.mono _ _ _ _
   | exact least_Classes.mono _ _ _ _
   | exact LeO.none _
   | refine LeO.ite ?_ ?_
   | refine LeO.bind ?_ (fun _ => ?_)
def caesuralaw21_LeastAlike.T11 : Bool × List (List Nat × List Nat) := (true, [([], []), ([0], [0]), ([1], [1]), ([2], [2]), ([2], [2]), ([3, 4, 2], [2, 3, 4]), ([2, 5], [2, 5]), ([6, 2], [6]), ([7], [7]), ([7], [7]), ([8, 9, 7], [7, 8, 9]), ([10, 7], [7, 10]), ([7], [7]), ([11, 12, 7], [7, 11, 12]), ([7, 13], [7, 13]), ([14, 7], [14]), ([15], [15]), ([16, 15], [15, 16]), ([15], [15]), ([17, 18, 15], [15, 17, 18]), ([19, 15], [15, 19]), ([15], [15]), ([21, 15], [15, 21]), ([15], [15]), ([22, 23, 15], [15, 22, 23]), ([24, 15], [15, 24]), ([20, 25, 15], [15, 20, 25]), ([15, 26], [15, 26])])
def caesuralaw21_LeastAlike.B11 : List Nat := [0, 1, 3, 7, 7, 31, 63, 127, 255, 255, 1023, 2047, 255, 8191, 16383, 32767, 65535, 131071, 65535, 524287, 1048575, 65535, 2162687, 65535, 14745599, 31522815, 67108863, 134217727]
theorem caesuralaw21_LeastAlike.tab11 : rtab .any (opsOf Try.f8 11) = caesuralaw21_LeastAlike.T11 := by kernel_rfl
theorem caesuralaw21_LeastAlike.bits11 : waitsOk caesuralaw21_LeastAlike.T11.2 caesuralaw21_LeastAlike.B11 = true := by kernel_rfl
def caesuralaw21_LeastAlike.T16 : Bool × List (List Nat × List Nat) := (true, [([], []), ([], []), ([1], [1]), ([], []), ([2, 3], [2, 3]), ([4], [4]), ([], []), ([5, 6], [5, 6]), ([7], [7]), ([0, 8], [0, 8]), ([9], [9]), ([], []), ([], []), ([12], [12]), ([], []), ([13, 14], [13, 14]), ([15], [15]), ([], []), ([16, 17], [16, 17]), ([18], [18]), ([11, 19], [11, 19]), ([20], [20]), ([10, 21], [10, 21])])
def caesuralaw21_LeastAlike.B16 : List Nat := [0, 0, 2, 0, 14, 30, 0, 126, 254, 511, 1023, 0, 0, 4096, 0, 28672, 61440, 0, 258048, 520192, 1046528, 2095104, 4194303]
theorem caesuralaw21_LeastAlike.tab16 : rtab .any (opsOf Try.f8 16) = caesuralaw21_LeastAlike.T16 := by kernel_rfl
theorem caesuralaw21_LeastAlike.bits16 : waitsOk caesuralaw21_LeastAlike.T16.2 caesuralaw21_LeastAlike.B16 = true := by kernel_rfl
def caesuralaw21_LeastAlike.T30 : Bool × List (List Nat × List Nat) := (true, [([], []), ([0], [0]), ([], []), ([2], [2]), ([1, 3], [1, 3]), ([4], [4]), ([], []), ([6], [6]), ([], []), ([8], [8]), ([7, 9], [7, 9]), ([10], [10]), ([5, 11], [5, 11]), ([12, 0, 1, 2, 3, 4, 5, 6, 7, 8, 9, 10, 11, 12], [12])])
def caesuralaw21_LeastAlike.B30 : List Nat := [0, 1, 0, 4, 15, 31, 0, 64, 0, 256, 960, 1984, 4095, 8191]
theorem caesuralaw21_LeastAlike.tab30 : rtab .any (opsOf Try.f8 30) = caesuralaw21_LeastAlike.T30 := by kernel_rfl
theorem caesuralaw21_LeastAlike.bits30 : waitsOk caesuralaw21_LeastAlike.T30.2 caesuralaw21_LeastAlike.B30 = true := by kernel_rfl
def caesuralaw21_LeastAlike.T34 : Bool × List (List Nat × List Nat) := (true, [([], []), ([0], [0]), ([], []), ([2], [2]), ([1, 3], [1, 3]), ([4], [4]), ([], []), ([5, 6], [5, 6]), ([7], [7]), ([], []), ([9], [9]), ([], []), ([11], [11]), ([10, 12], [10, 12]), ([13], [13]), ([], []), ([14, 15], [14, 15]), ([16], [16]), ([8, 17], [8, 17]), ([], []), ([19, 18, 0, 1, 2, 3, 4, 5, 6, 7, 8, 9, 10, 11, 12, 13, 14, 15, 16, 17, 18, 19], [18, 19])])
def caesuralaw21_LeastAlike.B34 : List Nat := [0, 1, 0, 4, 15, 31, 0, 127, 255, 0, 512, 0, 2048, 7680, 15872, 0, 65024, 130560, 262143, 0, 1048575]
theorem caesuralaw21_LeastAlike.tab34 : rtab .any (opsOf Try.f8 34) = caesuralaw21_LeastAlike.T34 := by kernel_rfl
theorem caesuralaw21_LeastAlike.bits34 : waitsOk caesuralaw21_LeastAlike.T34.2 caesuralaw21_LeastAlike.B34 = true := by kernel_rfl
def caesuralaw21_LeastAlike.T39 : Bool × List (List Nat × List Nat) := (true, [([], []), ([0], [0]), ([1], [1]), ([1], [1]), ([2, 3, 1], [1, 2, 3]), ([4, 1], [1, 4]), ([1], [1]), ([5, 6, 1], [1, 5, 6]), ([1, 7], [1, 7]), ([8, 1, 0, 1, 2, 3, 4, 5, 6, 7, 8], [0, 8])])
def caesuralaw21_LeastAlike.B39 : List Nat := [0, 1, 3, 3, 15, 31, 3, 127, 255, 511]
theorem caesuralaw21_LeastAlike.tab39 : rtab .any (opsOf Try.f8 39) = caesuralaw21_LeastAlike.T39 := by kernel_rfl
theorem caesuralaw21_LeastAlike.bits39 : waitsOk caesuralaw21_LeastAlike.T39.2 caesuralaw21_LeastAlike.B39 = true := by kernel_rfl
def caesuralaw21_LeastAlike.T42 : Bool × List (List Nat × List Nat) := (true, [([], []), ([], []), ([], []), ([1, 2], [1, 2]), ([3], [3]), ([], []), ([], []), ([5, 6], [5, 6]), ([7], [7]), ([4, 8], [4, 8]), ([0, 9], [0, 9])])
def caesuralaw21_LeastAlike.B42 : List Nat := [0, 0, 0, 6, 14, 0, 0, 96, 224, 510, 1023]
theorem caesuralaw21_LeastAlike.tab42 : rtab .any (opsOf Try.f8 42) = caesuralaw21_LeastAlike.T42 := by kernel_rfl
theorem caesuralaw21_LeastAlike.bits42 : waitsOk caesuralaw21_LeastAlike.T42.2 caesuralaw21_LeastAlike.B42 = true := by kernel_rfl
set_option maxHeartbeats 8000000 in
set_option maxRecDepth 100000 in
theorem caesuralaw21_LeastAlike.calls (k : Nat) (a0_0 : Int) (A0_1 : Option Addr) (c0_1 : Nat) (l0_1 : List (List Int)) (A0_2 : Option Addr) (c0_2 : Nat) (l0_2 : List Bool) (r : Bool) (w : World) (hr0_1 : Kd.C (Kd.slice 3 (Kd.int .i64)) w A0_1 l0_1.length l0_1) (hc0_1 : l0_1.length ≤ c0_1) (hr0_2 : Kd.C Kd.bool w A0_2 l0_2.length l0_2) (hc0_2 : l0_2.length ≤ c0_2) (h : caesuralaw21_LeastAlike.f k a0_0 l0_1 l0_2 = some r) :
  Calls Try.prog 8 #[.agg #[.int .i64 a0_0, .slice A0_1 l0_1.length c0_1, .slice A0_2 l0_2.length c0_2]] w fun e w' => e = .returned (.bool r) ∧ Below w.heap.size w w' := by
 have hu25 := Try.underlying25
 have hu60 := Try.underlying60
 have HR0_1 := Aside0.mk hr0_1
 have HC0_1 := Aside0.mk hc0_1
 clear hr0_1 hc0_1
 have HR0_2 := Aside0.mk hr0_2
 have HC0_2 := Aside0.mk hc0_2
 clear hr0_2 hc0_2
 have HB := Aside0.mk (Below.refl w.heap.size w)
 have H : ((caesuralaw21_Light.f k a0_0 l0_1 l0_2).bind fun t102 => (if t102 = true then ((caesuraref19_Good.f k a0_0 l0_1 l0_2).bind fun t103 => (if t103 = true then (if (l0_1.length : Int) > 12 then ((caesuralaw21_wakes.f k).bind fun t104 => (some t104)) else ((least_Classes.f k a0_0 l0_1 l0_2).bind fun t105 => (if (t105.length : Int) = (l0_1.length : Int) then (caesuralaw21_LeastAlike.l0 k (l0_1.length : Int) t105 0 a0_0 l0_1 l0_2) else (none)))) else ((caesuralaw21_wakes.f k).bind fun t139 => (some t139)))) else ((caesuralaw21_wakes.f k).bind fun t140 => (some t140)))) = some r := h
 clear h
 replace H := Option.bind_eq_some_iff.mp H
 obtain ⟨t102, A20, H⟩ := H
 replace H : (if t102 = true then ((caesuraref19_Good.f k a0_0 l0_1 l0_2).bind fun t103 => (if t103 = true then (if (l0_1.length : Int) > 12 then ((caesuralaw21_wakes.f k).bind fun t104 => (some t104)) else ((least_Classes.f k a0_0 l0_1 l0_2).bind fun t105 => (if (t105.length : Int) = (l0_1.length : Int) then (caesuralaw21_LeastAlike.l0 k (l0_1.length : Int) t105 0 a0_0 l0_1 l0_2) else (none)))) else ((caesuralaw21_wakes.f k).bind fun t139 => (some t139)))) else ((caesuralaw21_wakes.f k).bind fun t140 => (some t140))) = some r := H
 have A2 := Aside0.mk A20
 clear A20
 by_cases c3 : t102 = true
 ·subst c3
  have H1 : ((caesuraref19_Good.f k a0_0 l0_1 l0_2).bind fun t103 => (if t103 = true then (if (l0_1.length : Int) > 12 then ((caesuralaw21_wakes.f k).bind fun t104 => (some t104)) else ((least_Classes.f k a0_0 l0_1 l0_2).bind fun t105 => (if (t105.length : Int) = (l0_1.length : Int) then (caesuralaw21_LeastAlike.l0 k (l0_1.length : Int) t105 0 a0_0 l0_1 l0_2) else (none)))) else ((caesuralaw21_wakes.f k).bind fun t139 => (some t139)))) = some r := by rw [if_pos rfl] at H; exact H
  clear H
  have H := H1
  clear H1
  replace H := Option.bind_eq_some_iff.mp H
  obtain ⟨t103, A40, H⟩ := H
  replace H : (if t103 = true then (if (l0_1.length : Int) > 12 then ((caesuralaw21_wakes.f k).bind fun t104 => (some t104)) else ((least_Classes.f k a0_0 l0_1 l0_2).bind fun t105 => (if (t105.length : Int) = (l0_1.length : Int) then (caesuralaw21_LeastAlike.l0 k (l0_1.length : Int) t105 0 a0_0 l0_1 l0_2) else (none)))) else ((caesuralaw21_wakes.f k).bind fun t139 => (some t139))) = some r := H
  have A4 := Aside0.mk A40
  clear A40
  by_cases c5 : t103 = true
  ·subst c5
   have H1 : (if (l0_1.length : Int) > 12 then ((caesuralaw21_wakes.f k).bind fun t104 => (some t104)) else ((least_Classes.f k a0_0 l0_1 l0_2).bind fun t105 => (if (t105.length : Int) = (l0_1.length : Int) then (caesuralaw21_LeastAlike.l0 k (l0_1.length : Int) t105 0 a0_0 l0_1 l0_2) else (none)))) = some r := by rw [if_pos rfl] at H; exact H
   clear H
   have H := H1
   clear H1
   by_cases c6 : (l0_1.length : Int) > 12
   ·rw [if_pos c6] at H
    have c6b0 : decide (12 < (l0_1.length : Int)) = true := decide_eq_true c6
    have c6b1 : decide (12 < l0_1.length) = true := decide_eq_true (by omega)
    clear c6
    replace H := Option.bind_eq_some_iff.mp H
    obtain ⟨t104, A70, H⟩ := H
    replace H : (some t104) = some r := H
    have A7 := Aside0.mk A70
    clear A70
    obtain rfl := Option.some.inj H
    go_enter Try.func8, Try.ntmps8
    go_wp2_with (first | ((with_reducible refine gate_dst (N := 1) rfl ?_); (try (refine gate_guard (by rfl) ?_; dsimp only)); refine box_event ?hg (N := 1) ?hd (cs := #[.int .i64 a0_0, .slice A0_1 l0_1.length c0_1, .slice A0_2 l0_2.length c0_2]) (t := 25) ?hr ?_; (case hd => rfl); (case hg => rfl); (case hr => first | (go_simp; done) | (go_simp; rfl)); intro gb101 hg w8 hbox hb; have n0_ := Aside0.mk (below_step (by repeat (first | (with_reducible first | exact HB.out | apply below_alloc | apply pw_below_drewN | apply below_drew1) | exact HB.out)) hb); have n1_ := Aside0.mk (hbox); have n2_ := Aside0.mk ((by rw [hg]; exact (below_size (by repeat (first | (with_reducible first | exact HB.out | apply below_alloc | apply pw_below_drewN | apply below_drew1) | exact HB.out))) : w.heap.size ≤ gb101)); have n3_ := Aside0.mk ((by rw [hg]; exact (below_size (by repeat (first | (with_reducible first | exact HB.out | apply below_alloc | apply pw_below_drewN | apply below_drew1) | exact HB.out))) : w.heap.size ≤ gb101)); clear HB; have HB := n0_; have BK101 := n1_; have GW101 := n2_; have GE101 := n3_; clear n0_ n1_ n2_ n3_; clear hb hbox hg; have hcz9_0 : w8.cell? ⟨gb101, 0, none⟩ = some (.int .i64 a0_0) := (blk_cell BK101.out 0).trans rfl; have hcz9_1 : w8.cell? ⟨gb101, 1, none⟩ = some (.slice A0_1 l0_1.length c0_1) := (blk_cell BK101.out 1).trans rfl; have hcz9_2 : w8.cell? ⟨gb101, 2, none⟩ = some (.slice A0_2 l0_2.length c0_2) := (blk_cell BK101.out 2).trans rfl; have hfz9_0 := blk_frozen BK101.out 0; have hfz9_1 := blk_frozen BK101.out 1; have hfz9_2 := blk_frozen BK101.out 2) | ((with_reducible refine gate_callee (f := 46) rfl ?_); refine goesL_ (some 19) rfl rfl Try.func46 (by kernel_rfl) rfl #[.agg #[.int .i64 a0_0, .slice A0_1 l0_1.length c0_1, .slice A0_2 l0_2.length c0_2]] rfl (by (try simp only [List.map_toArray, List.map_cons, List.map_nil]); first | done | rfl | (simp only [List.length_drop, List.length_take]; rfl)) ?_; (with_reducible refine (caesuralaw21_Light.calls k a0_0 _ _ l0_1 _ _ l0_2 true _ ?side1 ?side2 ?side3 ?side4 A2.out).mono ?_); (case side1 => repeat (first | exact (Kd.C_below HR0_1.out HB.out) | (with_reducible refine Kd.C_alloc ?_ _) | (with_reducible refine Kd.C_drewN ?_ _) | (with_reducible refine Kd.C_drew ?_))); (case side2 => exact HC0_1.out); (case side3 => repeat (first | exact (Kd.C_below HR0_2.out HB.out) | (with_reducible refine Kd.C_alloc ?_ _) | (with_reducible refine Kd.C_drewN ?_ _) | (with_reducible refine Kd.C_drew ?_))); (case side4 => exact HC0_2.out); rintro e w10 ⟨rfl, hb⟩; refine ⟨_, rfl, ?_⟩; have n0_ := Aside0.mk (blk_below (g := gb101) (o := .cells #[.int .i64 a0_0, .slice A0_1 l0_1.length c0_1, .slice A0_2 l0_2.length c0_2] 25 (0, 0)) (by (with_reducible repeat (first | refine blk_drewN ?_ _ | refine blk_drew ?_ | refine blk_alloc ?_ _)); exact BK101.out) hb); have n1_ := Aside0.mk (below_step (by repeat (first | (with_reducible first | exact HB.out | apply below_alloc | apply pw_below_drewN | apply below_drew1 | refine below_set ?_ GE101.out) | exact HB.out)) hb); clear BK101; clear HB; have BK101 := n0_; have HB := n1_; clear n0_ n1_; (try clear hb); (try clear hb2); (try clear hk); (try clear hi); have hcz11_0 : w10.cell? ⟨gb101, 0, none⟩ = some (.int .i64 a0_0) := (blk_cell BK101.out 0).trans rfl; have hcz11_1 : w10.cell? ⟨gb101, 1, none⟩ = some (.slice A0_1 l0_1.length c0_1) := (blk_cell BK101.out 1).trans rfl; have hcz11_2 : w10.cell? ⟨gb101, 2, none⟩ = some (.slice A0_2 l0_2.length c0_2) := (blk_cell BK101.out 2).trans rfl; have hfz11_0 := blk_frozen BK101.out 0; have hfz11_1 := blk_frozen BK101.out 1; have hfz11_2 := blk_frozen BK101.out 2) | (go_at_call 37; (with_reducible refine (caesuraref19_Good.calls k a0_0 _ _ l0_1 _ _ l0_2 true _ ?side1 ?side2 ?side3 ?side4 A4.out).mono ?_); (case side1 => repeat (first | exact (Kd.C_below HR0_1.out HB.out) | (with_reducible refine Kd.C_alloc ?_ _) | (with_reducible refine Kd.C_drewN ?_ _) | (with_reducible refine Kd.C_drew ?_))); (case side2 => exact HC0_1.out); (case side3 => repeat (first | exact (Kd.C_below HR0_2.out HB.out) | (with_reducible refine Kd.C_alloc ?_ _) | (with_reducible refine Kd.C_drewN ?_ _) | (with_reducible refine Kd.C_drew ?_))); (case side4 => exact HC0_2.out); rintro e w12 ⟨rfl, hb⟩; have n0_ := Aside0.mk (blk_below (g := gb101) (o := .cells #[.int .i64 a0_0, .slice A0_1 l0_1.length c0_1, .slice A0_2 l0_2.length c0_2] 25 (0, 0)) (by (with_reducible repeat (first | refine blk_drewN ?_ _ | refine blk_drew ?_ | refine blk_alloc ?_ _)); exact BK101.out) hb); have n1_ := Aside0.mk (below_step (by repeat (first | (with_reducible first | exact HB.out | apply below_alloc | apply pw_below_drewN | apply below_drew1 | refine below_set ?_ GE101.out) | exact HB.out)) hb); clear BK101; clear HB; have BK101 := n0_; have HB := n1_; clear n0_ n1_; (try clear hb); (try clear hb2); (try clear hk); (try clear hi); have hcz13_0 : w12.cell? ⟨gb101, 0, none⟩ = some (.int .i64 a0_0) := (blk_cell BK101.out 0).trans rfl; have hcz13_1 : w12.cell? ⟨gb101, 1, none⟩ = some (.slice A0_1 l0_1.length c0_1) := (blk_cell BK101.out 1).trans rfl; have hcz13_2 : w12.cell? ⟨gb101, 2, none⟩ = some (.slice A0_2 l0_2.length c0_2) := (blk_cell BK101.out 2).trans rfl; have hfz13_0 := blk_frozen BK101.out 0; have hfz13_1 := blk_frozen BK101.out 1; have hfz13_2 := blk_frozen BK101.out 2) | ((with_reducible refine gate_callee (f := 47) rfl ?_); refine goesL_ (some 32) rfl rfl Try.func47 (by kernel_rfl) rfl #[] rfl (by (try simp only [List.map_toArray, List.map_cons, List.map_nil]); first | done | rfl | (simp only [List.length_drop, List.length_take]; rfl)) ?_; (with_reducible refine (caesuralaw21_wakes.calls k  t104 _ A7.out).mono ?_); rintro e w14 ⟨rfl, hb⟩; refine ⟨_, rfl, ?_⟩; have n0_ := Aside0.mk (blk_below (g := gb101) (o := .cells #[.int .i64 a0_0, .slice A0_1 l0_1.length c0_1, .slice A0_2 l0_2.length c0_2] 25 (0, 0)) (by (with_reducible repeat (first | refine blk_drewN ?_ _ | refine blk_drew ?_ | refine blk_alloc ?_ _)); exact BK101.out) hb); have n1_ := Aside0.mk (below_step (by repeat (first | (with_reducible first | exact HB.out | apply below_alloc | apply pw_below_drewN | apply below_drew1 | refine below_set ?_ GE101.out) | exact HB.out)) hb); clear BK101; clear HB; have BK101 := n0_; have HB := n1_; clear n0_ n1_; (try clear hb); (try clear hb2); (try clear hk); (try clear hi)))
    go_ret
    exact ⟨by first | rfl | (simp [errW_none, errW_some] <;> rfl) | (simp [*, errW_none, errW_some] <;> rfl), by repeat (first | (with_reducible first | exact HB.out | apply below_alloc | apply pw_below_drewN | apply below_drew1 | refine below_set ?_ GE101.out) | exact HB.out)⟩
   ·rw [if_neg c6] at H
    have c6b0 : decide (12 < (l0_1.length : Int)) = false := decide_eq_false c6
    have c6b1 : decide (12 < l0_1.length) = false := decide_eq_false (by omega)
    clear c6
    replace H := Option.bind_eq_some_iff.mp H
    obtain ⟨t105, A150, H⟩ := H
    replace H : (if (t105.length : Int) = (l0_1.length : Int) then (caesuralaw21_LeastAlike.l0 k (l0_1.length : Int) t105 0 a0_0 l0_1 l0_2) else (none)) = some r := H
    have A15 := Aside0.mk A150
    clear A150
    by_cases c16 : (t105.length : Int) = (l0_1.length : Int)
    ·rw [if_pos c16] at H
     have c16b0 : ((t105.length : Int) == (l0_1.length : Int)) = true := beq_iff_eq.mpr c16
     have c16b1 : ((t105.length : Int) != (l0_1.length : Int)) = false := bne_eq_false_iff_eq.mpr c16
     have c16b2 : (t105.length == l0_1.length) = true := by first | simpa using c16 | (simp at c16 ⊢; omega)
     clear c16
     have H' := Aside0.mk H
     clear H
     go_enter Try.func8, Try.ntmps8
     go_wp2_with (first | ((with_reducible refine gate_dst (N := 1) rfl ?_); (try (refine gate_guard (by rfl) ?_; dsimp only)); refine box_event ?hg (N := 1) ?hd (cs := #[.int .i64 a0_0, .slice A0_1 l0_1.length c0_1, .slice A0_2 l0_2.length c0_2]) (t := 25) ?hr ?_; (case hd => rfl); (case hg => rfl); (case hr => first | (go_simp; done) | (go_simp; rfl)); intro gb101 hg w17 hbox hb; have n0_ := Aside0.mk (below_step (by repeat (first | (with_reducible first | exact HB.out | apply below_alloc | apply pw_below_drewN | apply below_drew1) | exact HB.out)) hb); have n1_ := Aside0.mk (hbox); have n2_ := Aside0.mk ((by rw [hg]; exact (below_size (by repeat (first | (with_reducible first | exact HB.out | apply below_alloc | apply pw_below_drewN | apply below_drew1) | exact HB.out))) : w.heap.size ≤ gb101)); have n3_ := Aside0.mk ((by rw [hg]; exact (below_size (by repeat (first | (with_reducible first | exact HB.out | apply below_alloc | apply pw_below_drewN | apply below_drew1) | exact HB.out))) : w.heap.size ≤ gb101)); clear HB; have HB := n0_; have BK101 := n1_; have GW101 := n2_; have GE101 := n3_; clear n0_ n1_ n2_ n3_; clear hb hbox hg; have hcz18_0 : w17.cell? ⟨gb101, 0, none⟩ = some (.int .i64 a0_0) := (blk_cell BK101.out 0).trans rfl; have hcz18_1 : w17.cell? ⟨gb101, 1, none⟩ = some (.slice A0_1 l0_1.length c0_1) := (blk_cell BK101.out 1).trans rfl; have hcz18_2 : w17.cell? ⟨gb101, 2, none⟩ = some (.slice A0_2 l0_2.length c0_2) := (blk_cell BK101.out 2).trans rfl; have hfz18_0 := blk_frozen BK101.out 0; have hfz18_1 := blk_frozen BK101.out 1; have hfz18_2 := blk_frozen BK101.out 2) | ((with_reducible refine gate_callee (f := 46) rfl ?_); refine goesL_ (some 19) rfl rfl Try.func46 (by kernel_rfl) rfl #[.agg #[.int .i64 a0_0, .slice A0_1 l0_1.length c0_1, .slice A0_2 l0_2.length c0_2]] rfl (by (try simp only [List.map_toArray, List.map_cons, List.map_nil]); first | done | rfl | (simp only [List.length_drop, List.length_take]; rfl)) ?_; (with_reducible refine (caesuralaw21_Light.calls k a0_0 _ _ l0_1 _ _ l0_2 true _ ?side1 ?side2 ?side3 ?side4 A2.out).mono ?_); (case side1 => repeat (first | exact (Kd.C_below HR0_1.out HB.out) | (with_reducible refine Kd.C_alloc ?_ _) | (with_reducible refine Kd.C_drewN ?_ _) | (with_reducible refine Kd.C_drew ?_))); (case side2 => exact HC0_1.out); (case side3 => repeat (first | exact (Kd.C_below HR0_2.out HB.out) | (with_reducible refine Kd.C_alloc ?_ _) | (with_reducible refine Kd.C_drewN ?_ _) | (with_reducible refine Kd.C_drew ?_))); (case side4 => exact HC0_2.out); rintro e w19 ⟨rfl, hb⟩; refine ⟨_, rfl, ?_⟩; have n0_ := Aside0.mk (blk_below (g := gb101) (o := .cells #[.int .i64 a0_0, .slice A0_1 l0_1.length c0_1, .slice A0_2 l0_2.length c0_2] 25 (0, 0)) (by (with_reducible repeat (first | refine blk_drewN ?_ _ | refine blk_drew ?_ | refine blk_alloc ?_ _)); exact BK101.out) hb); have n1_ := Aside0.mk (below_step (by repeat (first | (with_reducible first | exact HB.out | apply below_alloc | apply pw_below_drewN | apply below_drew1 | refine below_set ?_ GE101.out) | exact HB.out)) hb); clear BK101; clear HB; have BK101 := n0_; have HB := n1_; clear n0_ n1_; (try clear hb); (try clear hb2); (try clear hk); (try clear hi); have hcz20_0 : w19.cell? ⟨gb101, 0, none⟩ = some (.int .i64 a0_0) := (blk_cell BK101.out 0).trans rfl; have hcz20_1 : w19.cell? ⟨gb101, 1, none⟩ = some (.slice A0_1 l0_1.length c0_1) := (blk_cell BK101.out 1).trans rfl; have hcz20_2 : w19.cell? ⟨gb101, 2, none⟩ = some (.slice A0_2 l0_2.length c0_2) := (blk_cell BK101.out 2).trans rfl; have hfz20_0 := blk_frozen BK101.out 0; have hfz20_1 := blk_frozen BK101.out 1; have hfz20_2 := blk_frozen BK101.out 2) | (go_at_call 37; (with_reducible refine (caesuraref19_Good.calls k a0_0 _ _ l0_1 _ _ l0_2 true _ ?side1 ?side2 ?side3 ?side4 A4.out).mono ?_); (case side1 => repeat (first | exact (Kd.C_below HR0_1.out HB.out) | (with_reducible refine Kd.C_alloc ?_ _) | (with_reducible refine Kd.C_drewN ?_ _) | (with_reducible refine Kd.C_drew ?_))); (case side2 => exact HC0_1.out); (case side3 => repeat (first | exact (Kd.C_below HR0_2.out HB.out) | (with_reducible refine Kd.C_alloc ?_ _) | (with_reducible refine Kd.C_drewN ?_ _) | (with_reducible refine Kd.C_drew ?_))); (case side4 => exact HC0_2.out); rintro e w21 ⟨rfl, hb⟩; have n0_ := Aside0.mk (blk_below (g := gb101) (o := .cells #[.int .i64 a0_0, .slice A0_1 l0_1.length c0_1, .slice A0_2 l0_2.length c0_2] 25 (0, 0)) (by (with_reducible repeat (first | refine blk_drewN ?_ _ | refine blk_drew ?_ | refine blk_alloc ?_ _)); exact BK101.out) hb); have n1_ := Aside0.mk (below_step (by repeat (first | (with_reducible first | exact HB.out | apply below_alloc | apply pw_below_drewN | apply below_drew1 | refine below_set ?_ GE101.out) | exact HB.out)) hb); clear BK101; clear HB; have BK101 := n0_; have HB := n1_; clear n0_ n1_; (try clear hb); (try clear hb2); (try clear hk); (try clear hi); have hcz22_0 : w21.cell? ⟨gb101, 0, none⟩ = some (.int .i64 a0_0) := (blk_cell BK101.out 0).trans rfl; have hcz22_1 : w21.cell? ⟨gb101, 1, none⟩ = some (.slice A0_1 l0_1.length c0_1) := (blk_cell BK101.out 1).trans rfl; have hcz22_2 : w21.cell? ⟨gb101, 2, none⟩ = some (.slice A0_2 l0_2.length c0_2) := (blk_cell BK101.out 2).trans rfl; have hfz22_0 := blk_frozen BK101.out 0; have hfz22_1 := blk_frozen BK101.out 1; have hfz22_2 := blk_frozen BK101.out 2) | ((with_reducible refine gate_callee (f := 54) rfl ?_); refine goesL_ (some 37) rfl rfl Try.func54 (by kernel_rfl) rfl #[.agg #[.int .i64 a0_0, .slice A0_1 l0_1.length c0_1, .slice A0_2 l0_2.length c0_2]] rfl (by (try simp only [List.map_toArray, List.map_cons, List.map_nil]); first | done | rfl | (simp only [List.length_drop, List.length_take]; rfl)) ?_; (with_reducible refine (least_Classes.calls k a0_0 _ _ l0_1 _ _ l0_2 t105 _ ?side1 ?side2 ?side3 ?side4 A15.out).mono ?_); (case side1 => repeat (first | exact (Kd.C_below HR0_1.out HB.out) | (with_reducible refine Kd.C_alloc ?_ _) | (with_reducible refine Kd.C_drewN ?_ _) | (with_reducible refine Kd.C_drew ?_))); (case side2 => exact HC0_1.out); (case side3 => repeat (first | exact (Kd.C_below HR0_2.out HB.out) | (with_reducible refine Kd.C_alloc ?_ _) | (with_reducible refine Kd.C_drewN ?_ _) | (with_reducible refine Kd.C_drew ?_))); (case side4 => exact HC0_2.out); rintro e w23 ⟨v106, rfl, ho0, hb⟩; refine ⟨_, rfl, ?_⟩; have n0_ := Aside0.mk (Kd.R_lower ho0 (below_size (by repeat (first | (with_reducible first | exact HB.out | apply below_alloc | apply pw_below_drewN | apply below_drew1 | refine below_set ?_ GE101.out) | exact HB.out)))); have n1_ := Aside0.mk (blk_below (g := gb101) (o := .cells #[.int .i64 a0_0, .slice A0_1 l0_1.length c0_1, .slice A0_2 l0_2.length c0_2] 25 (0, 0)) (by (with_reducible repeat (first | refine blk_drewN ?_ _ | refine blk_drew ?_ | refine blk_alloc ?_ _)); exact BK101.out) hb); have n2_ := Aside0.mk (below_step (by repeat (first | (with_reducible first | exact HB.out | apply below_alloc | apply pw_below_drewN | apply below_drew1 | refine below_set ?_ GE101.out) | exact HB.out)) hb); clear BK101; clear HB; have HO107 := n0_; have BK101 := n1_; have HB := n2_; clear n0_ n1_ n2_; (try clear hb); (try clear hb2); (try clear hk); (try clear hi); (try clear ho0); obtain ⟨Ao24, co24, eo24⟩ := Kd.R_slice HO107.out; subst eo24))
     go_loopg [5] k (fun kq v5 w' => ∃ (x5_1 : Int), v5 = .int .i64 x5_1 ∧ Aside0 (caesuralaw21_LeastAlike.l0 kq (l0_1.length : Int) t105 x5_1 a0_0 l0_1 l0_2 = some r) ∧ Aside0 (kq ≤ k) ∧ Aside0 (Kd.R (Kd.int .i64) 3 w' w.heap.size (fun _ => True) (.slice Ao24 t105.length co24) t105) ∧ Aside0 (w'.heap[gb101]? = some (.cells #[.int .i64 a0_0, (.slice A0_1 l0_1.length c0_1), (.slice A0_2 l0_2.length c0_2)] 25 (0, 0))) ∧ Aside0 (Below w.heap.size w w'))
     case atStart => exact ⟨(0), (by first | rfl | (simp; done) | (simp [*]; done)), H', ⟨Nat.le_refl _⟩, ⟨by (with_reducible repeat (first | apply Kd.R_alloc | apply Kd.R_drewN | apply Kd.R_drew)); exact HO107.out⟩, ⟨by (with_reducible repeat (first | refine blk_drewN ?_ _ | refine blk_drew ?_ | refine blk_alloc ?_ _)); exact BK101.out⟩, ⟨by repeat (first | (with_reducible first | exact HB.out | apply below_alloc | apply pw_below_drewN | apply below_drew1 | refine below_set ?_ GE101.out) | exact HB.out)⟩⟩
     case round =>
      clear H'
      try clear c1
      try clear p2
      try clear c3
      try clear c4
      try clear c5
      try clear c6
      try clear c6b0
      try clear c6b1
      try clear c8
      try clear c16
      try clear c16b0
      try clear c16b1
      try clear c16b2
      try clear hcz11_0
      try clear hcz11_1
      try clear hcz11_2
      try clear hcz13_0
      try clear hcz13_1
      try clear hcz13_2
      try clear hcz18_0
      try clear hcz18_1
      try clear hcz18_2
      try clear hcz20_0
      try clear hcz20_1
      try clear hcz20_2
      try clear hcz22_0
      try clear hcz22_1
      try clear hcz22_2
      try clear hcz9_0
      try clear hcz9_1
      try clear hcz9_2
      try clear hfz11_0
      try clear hfz11_1
      try clear hfz11_2
      try clear hfz13_0
      try clear hfz13_1
      try clear hfz13_2
      try clear hfz18_0
      try clear hfz18_1
      try clear hfz18_2
      try clear hfz20_0
      try clear hfz20_1
      try clear hfz20_2
      try clear hfz22_0
      try clear hfz22_1
      try clear hfz22_2
      try clear hfz9_0
      try clear hfz9_1
      try clear hfz9_2
      obtain ⟨x5_1, rfl, HA, HK1, HO_4, BK101, HB⟩ := hrel
      cases gk with
      | zero => exact absurd HA.out (by simp [caesuralaw21_LeastAlike.l0])
      | succ k1 =>
       have H := HA.out
       clear HA
       simp only [caesuralaw21_LeastAlike.l0] at H
       by_cases c25 : x5_1 < (l0_1.length : Int)
       ·rw [if_pos c25] at H
        have c25b0 : decide (x5_1 < (l0_1.length : Int)) = true := decide_eq_true c25
        clear c25
        by_cases c26 : 0 ≤ x5_1
        ·rw [if_pos c26] at H
         have c26b0 : decide (0 ≤ x5_1) = true := decide_eq_true c26
         clear c26
         by_cases c27 : x5_1 < (t105.length : Int)
         ·rw [if_pos c27] at H
          have c27b0 : decide (x5_1 < (t105.length : Int)) = true := decide_eq_true c27
          clear c27
          by_cases c28 : (rd t105 x5_1) < 0
          ·rw [if_pos c28] at H
           exact absurd H (by simp)
          ·rw [if_neg c28] at H
           have c28b0 : decide ((rd t105 x5_1) < 0) = false := decide_eq_false c28
           clear c28
           by_cases c29 : (rd t105 x5_1) > x5_1
           ·rw [if_pos c29] at H
            exact absurd H (by simp)
           ·rw [if_neg c29] at H
            have c29b0 : decide (x5_1 < (rd t105 x5_1)) = false := decide_eq_false c29
            clear c29
            by_cases c30 : 0 ≤ (rd t105 x5_1)
            ·rw [if_pos c30] at H
             have c30b0 : decide (0 ≤ (rd t105 x5_1)) = true := decide_eq_true c30
             clear c30
             by_cases c31 : (rd t105 x5_1) < (t105.length : Int)
             ·rw [if_pos c31] at H
              have c31b0 : decide ((rd t105 x5_1) < (t105.length : Int)) = true := decide_eq_true c31
              clear c31
              by_cases c32 : (rd t105 (rd t105 x5_1)) = (rd t105 x5_1)
              ·rw [if_pos c32] at H
               have c32b0 : ((rd t105 (rd t105 x5_1)) == (rd t105 x5_1)) = true := beq_iff_eq.mpr c32
               have c32b1 : ((rd t105 (rd t105 x5_1)) != (rd t105 x5_1)) = false := bne_eq_false_iff_eq.mpr c32
               clear c32
               by_cases c33 : x5_1 < (l0_2.length : Int)
               ·rw [if_pos c33] at H
                have c33b0 : decide (x5_1 < (l0_2.length : Int)) = true := decide_eq_true c33
                clear c33
                by_cases c34 : (rd t105 x5_1) < (l0_2.length : Int)
                ·rw [if_pos c34] at H
                 have c34b0 : decide ((rd t105 x5_1) < (l0_2.length : Int)) = true := decide_eq_true c34
                 clear c34
                 by_cases c35 : ((rdOf false l0_2 x5_1) != (rdOf false l0_2 (rd t105 x5_1))) = true
                 ·rw [if_pos c35] at H
                  exact absurd H (by simp)
                 ·rw [if_neg c35] at H
                  have c35b0 : ((rdOf false l0_2 x5_1) != (rdOf false l0_2 (rd t105 x5_1))) = false := by simpa using c35
                  (try (have c35b1 : decide ((rdOf false l0_2 x5_1) = (rdOf false l0_2 (rd t105 x5_1))) = true := by simpa using c35))
                  (try (have c35b2 : ((rdOf false l0_2 x5_1) == (rdOf false l0_2 (rd t105 x5_1))) = true := by simpa using c35))
                  clear c35
                  have H' := Aside0.mk H
                  clear H
                  have p108 : 0 ≤ (x5_1 : Int) := of_decide_eq_true (by first | (with_reducible assumption) | assumption)
                  have q108 : x5_1 < (t105.length : Int) := of_decide_eq_true (by first | (with_reducible assumption) | assumption)
                  obtain ⟨ad108, e108, hx108_0⟩ := Kd.at_int (Kd.R_reads' HO_4.out).2.2 x5_1 p108 q108
                  cases e108
                  replace p108 := eq_true p108
                  replace q108 := eq_true q108
                  try go_wp2
                  have n0_ := Aside0.mk (Kd.R_drew HO_4.out)
                  have n1_ := Aside0.mk (blk_drew BK101.out)
                  have n2_ := Aside0.mk (below_drew1 HB.out)
                  clear HO_4
                  clear BK101
                  clear HB
                  have HO_4 := n0_
                  have BK101 := n1_
                  have HB := n2_
                  clear n0_ n1_ n2_
                  have p109 : 0 ≤ ((rd t105 x5_1) : Int) := of_decide_eq_true (by first | (with_reducible assumption) | assumption)
                  have q109 : (rd t105 x5_1) < (t105.length : Int) := of_decide_eq_true (by first | (with_reducible assumption) | assumption)
                  obtain ⟨ad109, e109, hx109_0⟩ := Kd.at_int (Kd.R_reads' HO_4.out).2.2 (rd t105 x5_1) p109 q109
                  obtain rfl : ad108 = ad109 := (by injection e109)
                  replace p109 := eq_true p109
                  replace q109 := eq_true q109
                  have p110 : 0 ≤ (x5_1 : Int) := of_decide_eq_true (by first | (with_reducible assumption) | assumption)
                  have q110 : x5_1 < (l0_2.length : Int) := of_decide_eq_true (by first | (with_reducible assumption) | assumption)
                  obtain ⟨ad110, e110, hx110_0⟩ := Kd.at_bool HR0_2.out x5_1 p110 q110
                  have hw110_0 := hx110_0
                  cases e110
                  replace hx110_0 := (HB.out.cell (World.block_lt_of_cell? w _ hx110_0)).trans hx110_0
                  replace p110 := eq_true p110
                  replace q110 := eq_true q110
                  have p111 : 0 ≤ ((rd t105 x5_1) : Int) := of_decide_eq_true (by first | (with_reducible assumption) | assumption)
                  have q111 : (rd t105 x5_1) < (l0_2.length : Int) := of_decide_eq_true (by first | (with_reducible assumption) | assumption)
                  obtain ⟨ad111, e111, hx111_0⟩ := Kd.at_bool HR0_2.out (rd t105 x5_1) p111 q111
                  have hw111_0 := hx111_0
                  obtain rfl : ad110 = ad111 := (by injection e111)
                  replace hx111_0 := (HB.out.cell (World.block_lt_of_cell? w _ hx111_0)).trans hx111_0
                  replace p111 := eq_true p111
                  replace q111 := eq_true q111
                  refine start_ (n := 28) (S := fun w' => w'.cell? ⟨gb101, 0, none⟩ = some (.int .i64 a0_0) ∧ w'.cell? ⟨gb101, 1, none⟩ = some (.slice A0_1 l0_1.length c0_1) ∧ w'.cell? ⟨gb101, 2, none⟩ = some (.slice (some ad110) l0_2.length c0_2) ∧ w'.cell? (ad108.add ((rd t105 x5_1)).toNat) = some (.int .i64 (rd t105 (rd t105 x5_1))) ∧ w'.cell? (ad110.add (x5_1).toNat) = some (.bool (rdOf false l0_2 x5_1)) ∧ w'.cell? (ad110.add ((rd t105 x5_1)).toNat) = some (.bool (rdOf false l0_2 (rd t105 x5_1)))) (ds := []) #[false, false, false, false, false, false, false, false, false, false, false, false, false, false, false, false, false, false, false, false, false, false, false, false, false, false, false, false] (by kernel_rfl) rfl rfl ⟨(blk_cell BK101.out 0).trans rfl, (blk_cell BK101.out 1).trans rfl, (blk_cell BK101.out 2).trans rfl, hx109_0, ((HB.out.cell (World.block_lt_of_cell? w _ hw110_0)).trans hw110_0), ((HB.out.cell (World.block_lt_of_cell? w _ hw111_0)).trans hw111_0)⟩ (fun hHeld => ?_); refine with_tabW caesuralaw21_LeastAlike.tab11 caesuralaw21_LeastAlike.bits11 (fun HT_ HW_ => ?_)
                  generalize wr.drew = w36 at HO_4 BK101 HB hx109_0 hx110_0 hx111_0 hHeld ⊢
                  refine pure_ (i := 0) (N := some 51) (v := ?_) (a' := ?_) #[true, false, false, false, false, false, false, false, false, false, false, false, false, false, false, false, false, false, false, false, false, false, false, false, false, false, false, false] rfl rfl (any_of HT_.out (by kernel_rfl)) (fun _ _ _ h => h) (Or.inl ⟨by rfl, ?_⟩) ?_ ?_
                  rotate_left
                  ·intro w'
                   go_simp
                   with_reducible rfl
                  rotate_left
                  ·simp only [Act.put, List.setIfInBounds_toArray, List.set_cons_zero, List.set_cons_succ, i64_w, i32_w]
                   rfl
                  refine pure_ (i := 1) (N := some 52) (v := ?_) (a' := ?_) #[true, true, false, false, false, false, false, false, false, false, false, false, false, false, false, false, false, false, false, false, false, false, false, false, false, false, false, false] rfl rfl (any_of HT_.out (by kernel_rfl)) (fun _ _ _ h => h) (Or.inl ⟨by rfl, ?_⟩) ?_ ?_
                  rotate_left
                  ·intro w'
                   go_simp
                   with_reducible rfl
                  rotate_left
                  ·simp only [Act.put, List.setIfInBounds_toArray, List.set_cons_zero, List.set_cons_succ, i64_w, i32_w]
                   rfl
                  refine pure_ (i := 2) (N := some 53) (v := ?_) (a' := ?_) #[true, true, true, false, false, false, false, false, false, false, false, false, false, false, false, false, false, false, false, false, false, false, false, false, false, false, false, false] rfl rfl (any_of HT_.out (by kernel_rfl)) (fun _ _ _ h => h) (Or.inl ⟨by rfl, ?_⟩) ?_ ?_
                  rotate_left
                  ·intro w'
                   go_simp
                   with_reducible rfl
                  rotate_left
                  ·simp only [Act.put, List.setIfInBounds_toArray, List.set_cons_zero, List.set_cons_succ, i64_w, i32_w]
                   rfl
                  refine pure_ (i := 3) (N := some 54) (v := ?_) (a' := ?_) #[true, true, true, true, false, false, false, false, false, false, false, false, false, false, false, false, false, false, false, false, false, false, false, false, false, false, false, false] rfl rfl (any_of HT_.out (by kernel_rfl)) (fun _ _ _ h => h) (Or.inl ⟨by rfl, ?_⟩) ?_ ?_
                  rotate_left
                  ·intro w'
                   go_simp
                   with_reducible rfl
                  rotate_left
                  ·simp only [Act.put, List.setIfInBounds_toArray, List.set_cons_zero, List.set_cons_succ, i64_w, i32_w]
                   rfl
                  refine pure_ (i := 4) (N := some 55) (v := ?_) (a' := ?_) #[true, true, true, true, true, false, false, false, false, false, false, false, false, false, false, false, false, false, false, false, false, false, false, false, false, false, false, false] rfl rfl (any_of HT_.out (by kernel_rfl)) (fun _ _ _ h => h) (Or.inl ⟨by rfl, ?_⟩) ?_ ?_
                  rotate_left
                  ·intro w'
                   go_simp
                   with_reducible rfl
                  rotate_left
                  ·simp only [Act.put, List.setIfInBounds_toArray, List.set_cons_zero, List.set_cons_succ, i64_w, i32_w]
                   rfl
                  refine pure_ (i := 5) (N := some 56) (v := ?_) (a' := ?_) #[true, true, true, true, true, true, false, false, false, false, false, false, false, false, false, false, false, false, false, false, false, false, false, false, false, false, false, false] rfl rfl (any_of HT_.out (by kernel_rfl)) (fun _ _ _ h => h) (Or.inl ⟨by rfl, ?_⟩) ?_ ?_
                  rotate_left
                  ·intro w'
                   go_simp
                   with_reducible rfl
                  rotate_left
                  ·simp only [Act.put, List.setIfInBounds_toArray, List.set_cons_zero, List.set_cons_succ, i64_w, i32_w]
                   rfl
                  refine pure_ (i := 6) (N := some 57) (v := ?_) (a' := ?_) #[true, true, true, true, true, true, true, false, false, false, false, false, false, false, false, false, false, false, false, false, false, false, false, false, false, false, false, false] rfl rfl (any_of HT_.out (by kernel_rfl)) (fun _ _ _ h => h) (Or.inl ⟨by rfl, ?_⟩) ?_ ?_
                  rotate_left
                  ·intro w'
                   go_simp
                   with_reducible rfl
                  rotate_left
                  ·simp only [Act.put, List.setIfInBounds_toArray, List.set_cons_zero, List.set_cons_succ, i64_w, i32_w]
                   rfl
                  refine pure_ (i := 7) (N := some 58) (v := ?_) (a' := ?_) #[true, true, true, true, true, true, true, true, false, false, false, false, false, false, false, false, false, false, false, false, false, false, false, false, false, false, false, false] rfl rfl (any_of HT_.out (by kernel_rfl)) (fun _ _ _ h => h) (Or.inl ⟨by rfl, ?_⟩) ?_ ?_
                  rotate_left
                  ·intro w'
                   go_simp
                   with_reducible rfl
                  rotate_left
                  ·simp only [Act.put, List.setIfInBounds_toArray, List.set_cons_zero, List.set_cons_succ, i64_w, i32_w]
                   rfl
                  refine pure_ (i := 8) (N := some 59) (v := ?_) (a' := ?_) #[true, true, true, true, true, true, true, true, true, false, false, false, false, false, false, false, false, false, false, false, false, false, false, false, false, false, false, false] rfl rfl (any_of HT_.out (by kernel_rfl)) (fun _ _ _ h => h) (Or.inl ⟨by rfl, ?_⟩) ?_ ?_
                  rotate_left
                  ·intro w'
                   go_simp
                   with_reducible rfl
                  rotate_left
                  ·simp only [Act.put, List.setIfInBounds_toArray, List.set_cons_zero, List.set_cons_succ, i64_w, i32_w]
                   rfl
                  refine pure_ (i := 9) (N := some 60) (v := ?_) (a' := ?_) #[true, true, true, true, true, true, true, true, true, true, false, false, false, false, false, false, false, false, false, false, false, false, false, false, false, false, false, false] rfl rfl (any_of HT_.out (by kernel_rfl)) (fun _ _ _ h => h) (Or.inl ⟨by rfl, ?_⟩) ?_ ?_
                  rotate_left
                  ·intro w'
                   go_simp
                   with_reducible rfl
                  rotate_left
                  ·simp only [Act.put, List.setIfInBounds_toArray, List.set_cons_zero, List.set_cons_succ, i64_w, i32_w]
                   rfl
                  refine pure_ (i := 10) (N := some 61) (v := ?_) (a' := ?_) #[true, true, true, true, true, true, true, true, true, true, true, false, false, false, false, false, false, false, false, false, false, false, false, false, false, false, false, false] rfl rfl (any_of HT_.out (by kernel_rfl)) (fun _ _ _ h => h) (Or.inl ⟨by rfl, ?_⟩) ?_ ?_
                  rotate_left
                  ·intro w'
                   go_simp
                   with_reducible rfl
                  rotate_left
                  ·simp only [Act.put, List.setIfInBounds_toArray, List.set_cons_zero, List.set_cons_succ, i64_w, i32_w]
                   rfl
                  refine pure_ (i := 12) (N := some 63) (v := ?_) (a' := ?_) #[true, true, true, true, true, true, true, true, true, true, true, false, true, false, false, false, false, false, false, false, false, false, false, false, false, false, false, false] rfl rfl (any_of HT_.out (by kernel_rfl)) (fun _ _ _ h => h) (Or.inl ⟨by rfl, ?_⟩) ?_ ?_
                  rotate_left
                  ·intro w'
                   go_simp
                   with_reducible rfl
                  rotate_left
                  ·simp only [Act.put, List.setIfInBounds_toArray, List.set_cons_zero, List.set_cons_succ, i64_w, i32_w]
                   rfl
                  refine take_ (i := 11) (N := some 62) (v := ?_) (a' := ?_) #[true, true, true, true, true, true, true, true, true, true, true, true, true, false, false, false, false, false, false, false, false, false, false, false, false, false, false, false] rfl rfl (take_ofW HT_.out HW_.out (by kernel_rfl)) (fun _ _ _ h => h) (Or.inl ⟨by rfl, ?_⟩) hHeld ?_ ?_
                  rotate_left
                  ·rintro w' ⟨s0, s1, s2, s3, s4, s5⟩
                   go_simp
                   with_reducible rfl
                  rotate_left
                  ·simp only [Act.put, List.setIfInBounds_toArray, List.set_cons_zero, List.set_cons_succ, i64_w, i32_w]
                   rfl
                  refine pure_ (i := 13) (N := some 64) (v := ?_) (a' := ?_) #[true, true, true, true, true, true, true, true, true, true, true, true, true, true, false, false, false, false, false, false, false, false, false, false, false, false, false, false] rfl rfl (any_of HT_.out (by kernel_rfl)) (fun _ _ _ h => h) (Or.inl ⟨by rfl, ?_⟩) ?_ ?_
                  rotate_left
                  ·intro w'
                   go_simp
                   with_reducible rfl
                  rotate_left
                  ·simp only [Act.put, List.setIfInBounds_toArray, List.set_cons_zero, List.set_cons_succ, i64_w, i32_w]
                   rfl
                  refine pure_ (i := 14) (N := some 65) (v := ?_) (a' := ?_) #[true, true, true, true, true, true, true, true, true, true, true, true, true, true, true, false, false, false, false, false, false, false, false, false, false, false, false, false] rfl rfl (any_of HT_.out (by kernel_rfl)) (fun _ _ _ h => h) (Or.inl ⟨by rfl, ?_⟩) ?_ ?_
                  rotate_left
                  ·intro w'
                   go_simp
                   with_reducible rfl
                  rotate_left
                  ·simp only [Act.put, List.setIfInBounds_toArray, List.set_cons_zero, List.set_cons_succ, i64_w, i32_w]
                   rfl
                  refine pure_ (i := 15) (N := some 66) (v := ?_) (a' := ?_) #[true, true, true, true, true, true, true, true, true, true, true, true, true, true, true, true, false, false, false, false, false, false, false, false, false, false, false, false] rfl rfl (any_of HT_.out (by kernel_rfl)) (fun _ _ _ h => h) (Or.inl ⟨by rfl, ?_⟩) ?_ ?_
                  rotate_left
                  ·intro w'
                   go_simp
                   with_reducible rfl
                  rotate_left
                  ·simp only [Act.put, List.setIfInBounds_toArray, List.set_cons_zero, List.set_cons_succ, i64_w, i32_w]
                   rfl
                  refine pure_ (i := 16) (N := some 67) (v := ?_) (a' := ?_) #[true, true, true, true, true, true, true, true, true, true, true, true, true, true, true, true, true, false, false, false, false, false, false, false, false, false, false, false] rfl rfl (any_of HT_.out (by kernel_rfl)) (fun _ _ _ h => h) (Or.inl ⟨by rfl, ?_⟩) ?_ ?_
                  rotate_left
                  ·intro w'
                   go_simp
                   with_reducible rfl
                  rotate_left
                  ·simp only [Act.put, List.setIfInBounds_toArray, List.set_cons_zero, List.set_cons_succ, i64_w, i32_w]
                   rfl
                  refine pure_ (i := 18) (N := some 69) (v := ?_) (a' := ?_) #[true, true, true, true, true, true, true, true, true, true, true, true, true, true, true, true, true, false, true, false, false, false, false, false, false, false, false, false] rfl rfl (any_of HT_.out (by kernel_rfl)) (fun _ _ _ h => h) (Or.inl ⟨by rfl, ?_⟩) ?_ ?_
                  rotate_left
                  ·intro w'
                   go_simp
                   with_reducible rfl
                  rotate_left
                  ·simp only [Act.put, List.setIfInBounds_toArray, List.set_cons_zero, List.set_cons_succ, i64_w, i32_w]
                   rfl
                  refine pure_ (i := 21) (N := some 72) (v := ?_) (a' := ?_) #[true, true, true, true, true, true, true, true, true, true, true, true, true, true, true, true, true, false, true, false, false, true, false, false, false, false, false, false] rfl rfl (any_of HT_.out (by kernel_rfl)) (fun _ _ _ h => h) (Or.inl ⟨by rfl, ?_⟩) ?_ ?_
                  rotate_left
                  ·intro w'
                   go_simp
                   with_reducible rfl
                  rotate_left
                  ·simp only [Act.put, List.setIfInBounds_toArray, List.set_cons_zero, List.set_cons_succ, i64_w, i32_w]
                   rfl
                  refine pure_ (i := 23) (N := some 74) (v := ?_) (a' := ?_) #[true, true, true, true, true, true, true, true, true, true, true, true, true, true, true, true, true, false, true, false, false, true, false, true, false, false, false, false] rfl rfl (any_of HT_.out (by kernel_rfl)) (fun _ _ _ h => h) (Or.inl ⟨by rfl, ?_⟩) ?_ ?_
                  rotate_left
                  ·intro w'
                   go_simp
                   with_reducible rfl
                  rotate_left
                  ·simp only [Act.put, List.setIfInBounds_toArray, List.set_cons_zero, List.set_cons_succ, i64_w, i32_w]
                   rfl
                  refine take_ (i := 17) (N := some 68) (v := ?_) (a' := ?_) #[true, true, true, true, true, true, true, true, true, true, true, true, true, true, true, true, true, true, true, false, false, true, false, true, false, false, false, false] rfl rfl (take_ofW HT_.out HW_.out (by kernel_rfl)) (fun _ _ _ h => h) (Or.inl ⟨by rfl, ?_⟩) hHeld ?_ ?_
                  rotate_left
                  ·rintro w' ⟨s0, s1, s2, s3, s4, s5⟩
                   go_simp
                   with_reducible rfl
                  rotate_left
                  ·simp only [Act.put, List.setIfInBounds_toArray, List.set_cons_zero, List.set_cons_succ, i64_w, i32_w]
                   rfl
                  refine pure_ (i := 19) (N := some 70) (v := ?_) (a' := ?_) #[true, true, true, true, true, true, true, true, true, true, true, true, true, true, true, true, true, true, true, true, false, true, false, true, false, false, false, false] rfl rfl (any_of HT_.out (by kernel_rfl)) (fun _ _ _ h => h) (Or.inl ⟨by rfl, ?_⟩) ?_ ?_
                  rotate_left
                  ·intro w'
                   go_simp
                   with_reducible rfl
                  rotate_left
                  ·simp only [Act.put, List.setIfInBounds_toArray, List.set_cons_zero, List.set_cons_succ, i64_w, i32_w]
                   rfl
                  refine take_ (i := 20) (N := some 71) (v := ?_) (a' := ?_) #[true, true, true, true, true, true, true, true, true, true, true, true, true, true, true, true, true, true, true, true, true, true, false, true, false, false, false, false] rfl rfl (take_ofW HT_.out HW_.out (by kernel_rfl)) (fun _ _ _ h => h) (Or.inl ⟨by rfl, ?_⟩) hHeld ?_ ?_
                  rotate_left
                  ·rintro w' ⟨s0, s1, s2, s3, s4, s5⟩
                   go_simp
                   with_reducible rfl
                  rotate_left
                  ·simp only [Act.put, List.setIfInBounds_toArray, List.set_cons_zero, List.set_cons_succ, i64_w, i32_w]
                   rfl
                  refine take_ (i := 22) (N := some 73) (v := ?_) (a' := ?_) #[true, true, true, true, true, true, true, true, true, true, true, true, true, true, true, true, true, true, true, true, true, true, true, true, false, false, false, false] rfl rfl (take_ofW HT_.out HW_.out (by kernel_rfl)) (fun _ _ _ h => h) (Or.inl ⟨by rfl, ?_⟩) hHeld ?_ ?_
                  rotate_left
                  ·rintro w' ⟨s0, s1, s2, s3, s4, s5⟩
                   go_simp
                   with_reducible rfl
                  rotate_left
                  ·simp only [Act.put, List.setIfInBounds_toArray, List.set_cons_zero, List.set_cons_succ, i64_w, i32_w]
                   rfl
                  refine pure_ (i := 24) (N := some 75) (v := ?_) (a' := ?_) #[true, true, true, true, true, true, true, true, true, true, true, true, true, true, true, true, true, true, true, true, true, true, true, true, true, false, false, false] rfl rfl (any_of HT_.out (by kernel_rfl)) (fun _ _ _ h => h) (Or.inl ⟨by rfl, ?_⟩) ?_ ?_
                  rotate_left
                  ·intro w'
                   go_simp
                   with_reducible rfl
                  rotate_left
                  ·simp only [Act.put, List.setIfInBounds_toArray, List.set_cons_zero, List.set_cons_succ, i64_w, i32_w]
                   rfl
                  refine take_ (i := 25) (N := some 76) (v := ?_) (a' := ?_) #[true, true, true, true, true, true, true, true, true, true, true, true, true, true, true, true, true, true, true, true, true, true, true, true, true, true, false, false] rfl rfl (take_ofW HT_.out HW_.out (by kernel_rfl)) (fun _ _ _ h => h) (Or.inl ⟨by rfl, ?_⟩) hHeld ?_ ?_
                  rotate_left
                  ·rintro w' ⟨s0, s1, s2, s3, s4, s5⟩
                   go_simp
                   with_reducible rfl
                  rotate_left
                  ·simp only [Act.put, List.setIfInBounds_toArray, List.set_cons_zero, List.set_cons_succ, i64_w, i32_w]
                   rfl
                  refine pure_ (i := 26) (N := some 77) (v := ?_) (a' := ?_) #[true, true, true, true, true, true, true, true, true, true, true, true, true, true, true, true, true, true, true, true, true, true, true, true, true, true, true, false] rfl rfl (any_of HT_.out (by kernel_rfl)) (fun _ _ _ h => h) (Or.inl ⟨by rfl, ?_⟩) ?_ ?_
                  rotate_left
                  ·intro w'
                   go_simp
                   with_reducible rfl
                  rotate_left
                  ·simp only [Act.put, List.setIfInBounds_toArray, List.set_cons_zero, List.set_cons_succ, i64_w, i32_w]
                   rfl
                  refine pure_ (i := 27) (N := some 78) (v := ?_) (a' := ?_) #[true, true, true, true, true, true, true, true, true, true, true, true, true, true, true, true, true, true, true, true, true, true, true, true, true, true, true, true] rfl rfl (any_of HT_.out (by kernel_rfl)) (fun _ _ _ h => h) (Or.inl ⟨by rfl, ?_⟩) ?_ ?_
                  rotate_left
                  ·intro w'
                   go_simp
                   with_reducible rfl
                  rotate_left
                  ·simp only [Act.put, List.setIfInBounds_toArray, List.set_cons_zero, List.set_cons_succ, i64_w, i32_w]
                   rfl
                  refine done_ (done_of HT_.out (by kernel_rfl)) ?_
                  try go_wp2
                  go_loopg [7] k1 (fun kq v7 w' => ∃ (x7_2 : Int), v7 = .int .i64 x7_2 ∧ Aside0 (caesuralaw21_LeastAlike.l1 kq (l0_1.length : Int) t105 x5_1 (rd t105 x5_1) x7_2 a0_0 l0_1 l0_2 = some r) ∧ Aside0 (kq ≤ k1) ∧ Aside0 (Kd.R (Kd.int .i64) 3 w' w.heap.size (fun _ => True) (.slice (some ad108) t105.length co24) t105) ∧ Aside0 (w'.heap[gb101]? = some (.cells #[.int .i64 a0_0, (.slice A0_1 l0_1.length c0_1), (.slice (some ad110) l0_2.length c0_2)] 25 (0, 0))) ∧ Aside0 (Below w.heap.size w w'))
                  case atStart => exact ⟨(0), (by first | rfl | (simp; done) | (simp [*]; done)), H', ⟨Nat.le_refl _⟩, ⟨by (with_reducible repeat (first | apply Kd.R_alloc | apply Kd.R_drewN | apply Kd.R_drew)); exact HO_4.out⟩, ⟨by (with_reducible repeat (first | refine blk_drewN ?_ _ | refine blk_drew ?_ | refine blk_alloc ?_ _)); exact BK101.out⟩, ⟨by repeat (first | (with_reducible first | exact HB.out | apply below_alloc | apply pw_below_drewN | apply below_drew1 | refine below_set ?_ GE101.out) | exact HB.out)⟩⟩
                  case round =>
                   clear H'
                   try clear c1
                   try clear p1
                   try clear q1
                   try clear hx1
                   try clear c2
                   try clear p2
                   try clear c3
                   try clear c4
                   try clear c5
                   try clear c6
                   try clear c6b0
                   try clear c6b1
                   try clear c8
                   try clear p10
                   try clear q10
                   try clear hx10
                   try clear p11
                   try clear q11
                   try clear hx11
                   try clear c16
                   try clear c16b0
                   try clear c16b1
                   try clear c16b2
                   try clear c25
                   try clear c25b0
                   try clear c26
                   try clear c26b0
                   try clear c27
                   try clear c27b0
                   try clear c28
                   try clear c28b0
                   try clear c29
                   try clear c29b0
                   try clear c30
                   try clear c30b0
                   try clear c31
                   try clear c31b0
                   try clear c32
                   try clear c32b0
                   try clear c32b1
                   try clear c33
                   try clear c33b0
                   try clear c34
                   try clear c34b0
                   try clear c35
                   try clear c35b0
                   try clear c35b1
                   try clear c35b2
                   try clear hcz11_0
                   try clear hcz11_1
                   try clear hcz11_2
                   try clear hcz13_0
                   try clear hcz13_1
                   try clear hcz13_2
                   try clear hcz18_0
                   try clear hcz18_1
                   try clear hcz18_2
                   try clear hcz20_0
                   try clear hcz20_1
                   try clear hcz20_2
                   try clear hcz22_0
                   try clear hcz22_1
                   try clear hcz22_2
                   try clear hcz9_0
                   try clear hcz9_1
                   try clear hcz9_2
                   try clear hfz11_0
                   try clear hfz11_1
                   try clear hfz11_2
                   try clear hfz13_0
                   try clear hfz13_1
                   try clear hfz13_2
                   try clear hfz18_0
                   try clear hfz18_1
                   try clear hfz18_2
                   try clear hfz20_0
                   try clear hfz20_1
                   try clear hfz20_2
                   try clear hfz22_0
                   try clear hfz22_1
                   try clear hfz22_2
                   try clear hfz9_0
                   try clear hfz9_1
                   try clear hfz9_2
                   try clear hx108_0
                   try clear hx109_0
                   try clear hx110_0
                   try clear hx111_0
                   try clear p108
                   try clear p109
                   try clear p110
                   try clear p111
                   try clear p2
                   try clear q108
                   try clear q109
                   try clear q110
                   try clear q111
                   obtain ⟨x7_2, rfl, HA, HK2, HO_4, BK101, HB⟩ := hrel
                   cases gk with
                   | zero => exact absurd HA.out (by simp [caesuralaw21_LeastAlike.l1])
                   | succ k2 =>
                    have H := HA.out
                    clear HA
                    simp only [caesuralaw21_LeastAlike.l1] at H
                    by_cases c37 : x7_2 < a0_0
                    ·rw [if_pos c37] at H
                     have c37b0 : decide (x7_2 < a0_0) = true := decide_eq_true c37
                     clear c37
                     by_cases c38 : 0 ≤ x5_1
                     ·rw [if_pos c38] at H
                      have c38b0 : decide (0 ≤ x5_1) = true := decide_eq_true c38
                      clear c38
                      by_cases c39 : x5_1 < (l0_1.length : Int)
                      ·rw [if_pos c39] at H
                       have c39b0 : decide (x5_1 < (l0_1.length : Int)) = true := decide_eq_true c39
                       clear c39
                       by_cases c40 : 0 ≤ x7_2
                       ·rw [if_pos c40] at H
                        have c40b0 : decide (0 ≤ x7_2) = true := decide_eq_true c40
                        clear c40
                        by_cases c41 : x7_2 < ((rd_L5 l0_1 x5_1).length : Int)
                        ·rw [if_pos c41] at H
                         have c41b0 : decide (x7_2 < ((rd_L5 l0_1 x5_1).length : Int)) = true := decide_eq_true c41
                         clear c41
                         by_cases c42 : 0 ≤ (rd (rd_L5 l0_1 x5_1) x7_2)
                         ·rw [if_pos c42] at H
                          have c42b0 : decide (0 ≤ (rd (rd_L5 l0_1 x5_1) x7_2)) = true := decide_eq_true c42
                          clear c42
                          by_cases c43 : (rd (rd_L5 l0_1 x5_1) x7_2) < (t105.length : Int)
                          ·rw [if_pos c43] at H
                           have c43b0 : decide ((rd (rd_L5 l0_1 x5_1) x7_2) < (t105.length : Int)) = true := decide_eq_true c43
                           clear c43
                           by_cases c44 : 0 ≤ (rd t105 x5_1)
                           ·rw [if_pos c44] at H
                            have c44b0 : decide (0 ≤ (rd t105 x5_1)) = true := decide_eq_true c44
                            clear c44
                            by_cases c45 : (rd t105 x5_1) < (l0_1.length : Int)
                            ·rw [if_pos c45] at H
                             have c45b0 : decide ((rd t105 x5_1) < (l0_1.length : Int)) = true := decide_eq_true c45
                             clear c45
                             by_cases c46 : x7_2 < ((rd_L5 l0_1 (rd t105 x5_1)).length : Int)
                             ·rw [if_pos c46] at H
                              have c46b0 : decide (x7_2 < ((rd_L5 l0_1 (rd t105 x5_1)).length : Int)) = true := decide_eq_true c46
                              clear c46
                              by_cases c47 : 0 ≤ (rd (rd_L5 l0_1 (rd t105 x5_1)) x7_2)
                              ·rw [if_pos c47] at H
                               have c47b0 : decide (0 ≤ (rd (rd_L5 l0_1 (rd t105 x5_1)) x7_2)) = true := decide_eq_true c47
                               clear c47
                               by_cases c48 : (rd (rd_L5 l0_1 (rd t105 x5_1)) x7_2) < (t105.length : Int)
                               ·rw [if_pos c48] at H
                                have c48b0 : decide ((rd (rd_L5 l0_1 (rd t105 x5_1)) x7_2) < (t105.length : Int)) = true := decide_eq_true c48
                                clear c48
                                by_cases c49 : (rd t105 (rd (rd_L5 l0_1 x5_1) x7_2)) = (rd t105 (rd (rd_L5 l0_1 (rd t105 x5_1)) x7_2))
                                ·rw [if_pos c49] at H
                                 have c49b0 : ((rd t105 (rd (rd_L5 l0_1 x5_1) x7_2)) == (rd t105 (rd (rd_L5 l0_1 (rd t105 x5_1)) x7_2))) = true := beq_iff_eq.mpr c49
                                 have c49b1 : ((rd t105 (rd (rd_L5 l0_1 x5_1) x7_2)) != (rd t105 (rd (rd_L5 l0_1 (rd t105 x5_1)) x7_2))) = false := bne_eq_false_iff_eq.mpr c49
                                 clear c49
                                 have H' := Aside0.mk H
                                 clear H
                                 have hcz50_0 : wr.cell? ⟨gb101, 0, none⟩ = some (.int .i64 a0_0) := (blk_cell BK101.out 0).trans rfl
                                 have hcz50_1 : wr.cell? ⟨gb101, 1, none⟩ = some (.slice A0_1 l0_1.length c0_1) := (blk_cell BK101.out 1).trans rfl
                                 have hcz50_2 : wr.cell? ⟨gb101, 2, none⟩ = some (.slice (some ad110) l0_2.length c0_2) := (blk_cell BK101.out 2).trans rfl
                                 have hfz50_0 := blk_frozen BK101.out 0
                                 have hfz50_1 := blk_frozen BK101.out 1
                                 have hfz50_2 := blk_frozen BK101.out 2
                                 try go_wp2
                                 have n0_ := Aside0.mk (Kd.R_drew HO_4.out)
                                 have n1_ := Aside0.mk (blk_drew BK101.out)
                                 have n2_ := Aside0.mk (below_drew1 HB.out)
                                 clear HO_4
                                 clear BK101
                                 clear HB
                                 have HO_4 := n0_
                                 have BK101 := n1_
                                 have HB := n2_
                                 clear n0_ n1_ n2_
                                 have p112 : 0 ≤ (x5_1 : Int) := of_decide_eq_true (by first | (with_reducible assumption) | assumption)
                                 have q112 : x5_1 < (l0_1.length : Int) := of_decide_eq_true (by first | (with_reducible assumption) | assumption)
                                 obtain ⟨ad112, A112_0, c112_0, e112, hx112_0, hl112_0, hi112_0⟩ := at_L5 HR0_1.out x5_1 p112 q112
                                 have hw112_0 := hx112_0
                                 cases e112
                                 replace hx112_0 := (HB.out.cell (World.block_lt_of_cell? w _ hx112_0)).trans hx112_0
                                 have HR112_0 := Aside0.mk hi112_0
                                 have HC112_0 := Aside0.mk hl112_0
                                 clear hi112_0 hl112_0
                                 replace p112 := eq_true p112
                                 replace q112 := eq_true q112
                                 have p113 : 0 ≤ (x7_2 : Int) := of_decide_eq_true (by first | (with_reducible assumption) | assumption)
                                 have q113 : x7_2 < ((rd_L5 l0_1 x5_1).length : Int) := of_decide_eq_true (by first | (with_reducible assumption) | assumption)
                                 obtain ⟨ad113, e113, hx113_0⟩ := Kd.at_int HR112_0.out x7_2 p113 q113
                                 have hw113_0 := hx113_0
                                 cases e113
                                 replace hx113_0 := (HB.out.cell (World.block_lt_of_cell? w _ hx113_0)).trans hx113_0
                                 replace p113 := eq_true p113
                                 replace q113 := eq_true q113
                                 have p114 : 0 ≤ ((rd (rd_L5 l0_1 x5_1) x7_2) : Int) := of_decide_eq_true (by first | (with_reducible assumption) | assumption)
                                 have q114 : (rd (rd_L5 l0_1 x5_1) x7_2) < (t105.length : Int) := of_decide_eq_true (by first | (with_reducible assumption) | assumption)
                                 obtain ⟨ad114, e114, hx114_0⟩ := Kd.at_int (Kd.R_reads' HO_4.out).2.2 (rd (rd_L5 l0_1 x5_1) x7_2) p114 q114
                                 obtain rfl : ad108 = ad114 := (by injection e114)
                                 replace p114 := eq_true p114
                                 replace q114 := eq_true q114
                                 have p115 : 0 ≤ ((rd t105 x5_1) : Int) := of_decide_eq_true (by first | (with_reducible assumption) | assumption)
                                 have q115 : (rd t105 x5_1) < (l0_1.length : Int) := of_decide_eq_true (by first | (with_reducible assumption) | assumption)
                                 obtain ⟨ad115, A115_0, c115_0, e115, hx115_0, hl115_0, hi115_0⟩ := at_L5 HR0_1.out (rd t105 x5_1) p115 q115
                                 have hw115_0 := hx115_0
                                 obtain rfl : ad112 = ad115 := (by injection e115)
                                 replace hx115_0 := (HB.out.cell (World.block_lt_of_cell? w _ hx115_0)).trans hx115_0
                                 have HR115_0 := Aside0.mk hi115_0
                                 have HC115_0 := Aside0.mk hl115_0
                                 clear hi115_0 hl115_0
                                 replace p115 := eq_true p115
                                 replace q115 := eq_true q115
                                 have p116 : 0 ≤ (x7_2 : Int) := of_decide_eq_true (by first | (with_reducible assumption) | assumption)
                                 have q116 : x7_2 < ((rd_L5 l0_1 (rd t105 x5_1)).length : Int) := of_decide_eq_true (by first | (with_reducible assumption) | assumption)
                                 obtain ⟨ad116, e116, hx116_0⟩ := Kd.at_int HR115_0.out x7_2 p116 q116
                                 have hw116_0 := hx116_0
                                 cases e116
                                 replace hx116_0 := (HB.out.cell (World.block_lt_of_cell? w _ hx116_0)).trans hx116_0
                                 replace p116 := eq_true p116
                                 replace q116 := eq_true q116
                                 have p117 : 0 ≤ ((rd (rd_L5 l0_1 (rd t105 x5_1)) x7_2) : Int) := of_decide_eq_true (by first | (with_reducible assumption) | assumption)
                                 have q117 : (rd (rd_L5 l0_1 (rd t105 x5_1)) x7_2) < (t105.length : Int) := of_decide_eq_true (by first | (with_reducible assumption) | assumption)
                                 obtain ⟨ad117, e117, hx117_0⟩ := Kd.at_int (Kd.R_reads' HO_4.out).2.2 (rd (rd_L5 l0_1 (rd t105 x5_1)) x7_2) p117 q117
                                 obtain rfl : ad108 = ad117 := (by injection e117)
                                 replace p117 := eq_true p117
                                 replace q117 := eq_true q117
                                 refine start_ (n := 23) (S := fun w' => w'.cell? ⟨gb101, 0, none⟩ = some (.int .i64 a0_0) ∧ w'.cell? ⟨gb101, 1, none⟩ = some (.slice (some ad112) l0_1.length c0_1) ∧ w'.cell? ⟨gb101, 2, none⟩ = some (.slice (some ad110) l0_2.length c0_2) ∧ w'.cell? (ad112.add (x5_1).toNat) = some (.slice (some ad113) (rd_L5 l0_1 x5_1).length c112_0) ∧ w'.cell? (ad113.add (x7_2).toNat) = some (.int .i64 (rd (rd_L5 l0_1 x5_1) x7_2)) ∧ w'.cell? (ad108.add ((rd (rd_L5 l0_1 x5_1) x7_2)).toNat) = some (.int .i64 (rd t105 (rd (rd_L5 l0_1 x5_1) x7_2))) ∧ w'.cell? (ad112.add ((rd t105 x5_1)).toNat) = some (.slice (some ad116) (rd_L5 l0_1 (rd t105 x5_1)).length c115_0) ∧ w'.cell? (ad116.add (x7_2).toNat) = some (.int .i64 (rd (rd_L5 l0_1 (rd t105 x5_1)) x7_2)) ∧ w'.cell? (ad108.add ((rd (rd_L5 l0_1 (rd t105 x5_1)) x7_2)).toNat) = some (.int .i64 (rd t105 (rd (rd_L5 l0_1 (rd t105 x5_1)) x7_2)))) (ds := []) #[false, false, false, false, false, false, false, false, false, false, false, false, false, false, false, false, false, false, false, false, false, false, false] (by kernel_rfl) rfl rfl ⟨(blk_cell BK101.out 0).trans rfl, (blk_cell BK101.out 1).trans rfl, (blk_cell BK101.out 2).trans rfl, ((HB.out.cell (World.block_lt_of_cell? w _ hw112_0)).trans hw112_0), ((HB.out.cell (World.block_lt_of_cell? w _ hw113_0)).trans hw113_0), hx114_0, ((HB.out.cell (World.block_lt_of_cell? w _ hw115_0)).trans hw115_0), ((HB.out.cell (World.block_lt_of_cell? w _ hw116_0)).trans hw116_0), hx117_0⟩ (fun hHeld => ?_); refine with_tabW caesuralaw21_LeastAlike.tab16 caesuralaw21_LeastAlike.bits16 (fun HT_ HW_ => ?_)
                                 generalize wr.drew = w51 at HO_4 BK101 HB HR112_0 HR115_0 hx112_0 hx113_0 hx114_0 hx115_0 hx116_0 hx117_0 hHeld ⊢
                                 refine pure_ (i := 0) (N := some 85) (v := ?_) (a' := ?_) #[true, false, false, false, false, false, false, false, false, false, false, false, false, false, false, false, false, false, false, false, false, false, false] rfl rfl (any_of HT_.out (by kernel_rfl)) (fun _ _ _ h => h) (Or.inl ⟨by rfl, ?_⟩) ?_ ?_
                                 rotate_left
                                 ·intro w'
                                  go_simp
                                  with_reducible rfl
                                 rotate_left
                                 ·simp only [Act.put, List.setIfInBounds_toArray, List.set_cons_zero, List.set_cons_succ, i64_w, i32_w]
                                  rfl
                                 refine pure_ (i := 1) (N := some 86) (v := ?_) (a' := ?_) #[true, true, false, false, false, false, false, false, false, false, false, false, false, false, false, false, false, false, false, false, false, false, false] rfl rfl (any_of HT_.out (by kernel_rfl)) (fun _ _ _ h => h) (Or.inl ⟨by rfl, ?_⟩) ?_ ?_
                                 rotate_left
                                 ·intro w'
                                  go_simp
                                  with_reducible rfl
                                 rotate_left
                                 ·simp only [Act.put, List.setIfInBounds_toArray, List.set_cons_zero, List.set_cons_succ, i64_w, i32_w]
                                  rfl
                                 refine pure_ (i := 3) (N := some 88) (v := ?_) (a' := ?_) #[true, true, false, true, false, false, false, false, false, false, false, false, false, false, false, false, false, false, false, false, false, false, false] rfl rfl (any_of HT_.out (by kernel_rfl)) (fun _ _ _ h => h) (Or.inl ⟨by rfl, ?_⟩) ?_ ?_
                                 rotate_left
                                 ·intro w'
                                  go_simp
                                  with_reducible rfl
                                 rotate_left
                                 ·simp only [Act.put, List.setIfInBounds_toArray, List.set_cons_zero, List.set_cons_succ, i64_w, i32_w]
                                  rfl
                                 refine pure_ (i := 6) (N := some 91) (v := ?_) (a' := ?_) #[true, true, false, true, false, false, true, false, false, false, false, false, false, false, false, false, false, false, false, false, false, false, false] rfl rfl (any_of HT_.out (by kernel_rfl)) (fun _ _ _ h => h) (Or.inl ⟨by rfl, ?_⟩) ?_ ?_
                                 rotate_left
                                 ·intro w'
                                  go_simp
                                  with_reducible rfl
                                 rotate_left
                                 ·simp only [Act.put, List.setIfInBounds_toArray, List.set_cons_zero, List.set_cons_succ, i64_w, i32_w]
                                  rfl
                                 refine pure_ (i := 11) (N := some 96) (v := ?_) (a' := ?_) #[true, true, false, true, false, false, true, false, false, false, false, true, false, false, false, false, false, false, false, false, false, false, false] rfl rfl (any_of HT_.out (by kernel_rfl)) (fun _ _ _ h => h) (Or.inl ⟨by rfl, ?_⟩) ?_ ?_
                                 rotate_left
                                 ·intro w'
                                  go_simp
                                  with_reducible rfl
                                 rotate_left
                                 ·simp only [Act.put, List.setIfInBounds_toArray, List.set_cons_zero, List.set_cons_succ, i64_w, i32_w]
                                  rfl
                                 refine pure_ (i := 12) (N := some 97) (v := ?_) (a' := ?_) #[true, true, false, true, false, false, true, false, false, false, false, true, true, false, false, false, false, false, false, false, false, false, false] rfl rfl (any_of HT_.out (by kernel_rfl)) (fun _ _ _ h => h) (Or.inl ⟨by rfl, ?_⟩) ?_ ?_
                                 rotate_left
                                 ·intro w'
                                  go_simp
                                  with_reducible rfl
                                 rotate_left
                                 ·simp only [Act.put, List.setIfInBounds_toArray, List.set_cons_zero, List.set_cons_succ, i64_w, i32_w]
                                  rfl
                                 refine pure_ (i := 14) (N := some 99) (v := ?_) (a' := ?_) #[true, true, false, true, false, false, true, false, false, false, false, true, true, false, true, false, false, false, false, false, false, false, false] rfl rfl (any_of HT_.out (by kernel_rfl)) (fun _ _ _ h => h) (Or.inl ⟨by rfl, ?_⟩) ?_ ?_
                                 rotate_left
                                 ·intro w'
                                  go_simp
                                  with_reducible rfl
                                 rotate_left
                                 ·simp only [Act.put, List.setIfInBounds_toArray, List.set_cons_zero, List.set_cons_succ, i64_w, i32_w]
                                  rfl
                                 refine pure_ (i := 17) (N := some 102) (v := ?_) (a' := ?_) #[true, true, false, true, false, false, true, false, false, false, false, true, true, false, true, false, false, true, false, false, false, false, false] rfl rfl (any_of HT_.out (by kernel_rfl)) (fun _ _ _ h => h) (Or.inl ⟨by rfl, ?_⟩) ?_ ?_
                                 rotate_left
                                 ·intro w'
                                  go_simp
                                  with_reducible rfl
                                 rotate_left
                                 ·simp only [Act.put, List.setIfInBounds_toArray, List.set_cons_zero, List.set_cons_succ, i64_w, i32_w]
                                  rfl
                                 refine take_ (i := 2) (N := some 87) (v := ?_) (a' := ?_) #[true, true, true, true, false, false, true, false, false, false, false, true, true, false, true, false, false, true, false, false, false, false, false] rfl rfl (take_ofW HT_.out HW_.out (by kernel_rfl)) (fun _ _ _ h => h) (Or.inl ⟨by rfl, ?_⟩) hHeld ?_ ?_
                                 rotate_left
                                 ·rintro w' ⟨s0, s1, s2, s3, s4, s5, s6, s7, s8⟩
                                  go_simp
                                  with_reducible rfl
                                 rotate_left
                                 ·simp only [Act.put, List.setIfInBounds_toArray, List.set_cons_zero, List.set_cons_succ, i64_w, i32_w]
                                  rfl
                                 refine pure_ (i := 4) (N := some 89) (v := ?_) (a' := ?_) #[true, true, true, true, true, false, true, false, false, false, false, true, true, false, true, false, false, true, false, false, false, false, false] rfl rfl (any_of HT_.out (by kernel_rfl)) (fun _ _ _ h => h) (Or.inl ⟨by rfl, ?_⟩) ?_ ?_
                                 rotate_left
                                 ·intro w'
                                  go_simp
                                  with_reducible rfl
                                 rotate_left
                                 ·simp only [Act.put, List.setIfInBounds_toArray, List.set_cons_zero, List.set_cons_succ, i64_w, i32_w]
                                  rfl
                                 refine take_ (i := 5) (N := some 90) (v := ?_) (a' := ?_) #[true, true, true, true, true, true, true, false, false, false, false, true, true, false, true, false, false, true, false, false, false, false, false] rfl rfl (take_ofW HT_.out HW_.out (by kernel_rfl)) (fun _ _ _ h => h) (Or.inl ⟨by rfl, ?_⟩) hHeld ?_ ?_
                                 rotate_left
                                 ·rintro w' ⟨s0, s1, s2, s3, s4, s5, s6, s7, s8⟩
                                  go_simp
                                  with_reducible rfl
                                 rotate_left
                                 ·simp only [Act.put, List.setIfInBounds_toArray, List.set_cons_zero, List.set_cons_succ, i64_w, i32_w]
                                  rfl
                                 refine pure_ (i := 7) (N := some 92) (v := ?_) (a' := ?_) #[true, true, true, true, true, true, true, true, false, false, false, true, true, false, true, false, false, true, false, false, false, false, false] rfl rfl (any_of HT_.out (by kernel_rfl)) (fun _ _ _ h => h) (Or.inl ⟨by rfl, ?_⟩) ?_ ?_
                                 rotate_left
                                 ·intro w'
                                  go_simp
                                  with_reducible rfl
                                 rotate_left
                                 ·simp only [Act.put, List.setIfInBounds_toArray, List.set_cons_zero, List.set_cons_succ, i64_w, i32_w]
                                  rfl
                                 refine take_ (i := 8) (N := some 93) (v := ?_) (a' := ?_) #[true, true, true, true, true, true, true, true, true, false, false, true, true, false, true, false, false, true, false, false, false, false, false] rfl rfl (take_ofW HT_.out HW_.out (by kernel_rfl)) (fun _ _ _ h => h) (Or.inl ⟨by rfl, ?_⟩) hHeld ?_ ?_
                                 rotate_left
                                 ·rintro w' ⟨s0, s1, s2, s3, s4, s5, s6, s7, s8⟩
                                  go_simp
                                  with_reducible rfl
                                 rotate_left
                                 ·simp only [Act.put, List.setIfInBounds_toArray, List.set_cons_zero, List.set_cons_succ, i64_w, i32_w]
                                  rfl
                                 refine pure_ (i := 9) (N := some 94) (v := ?_) (a' := ?_) #[true, true, true, true, true, true, true, true, true, true, false, true, true, false, true, false, false, true, false, false, false, false, false] rfl rfl (any_of HT_.out (by kernel_rfl)) (fun _ _ _ h => h) (Or.inl ⟨by rfl, ?_⟩) ?_ ?_
                                 rotate_left
                                 ·intro w'
                                  go_simp
                                  with_reducible rfl
                                 rotate_left
                                 ·simp only [Act.put, List.setIfInBounds_toArray, List.set_cons_zero, List.set_cons_succ, i64_w, i32_w]
                                  rfl
                                 refine take_ (i := 10) (N := some 95) (v := ?_) (a' := ?_) #[true, true, true, true, true, true, true, true, true, true, true, true, true, false, true, false, false, true, false, false, false, false, false] rfl rfl (take_ofW HT_.out HW_.out (by kernel_rfl)) (fun _ _ _ h => h) (Or.inl ⟨by rfl, ?_⟩) hHeld ?_ ?_
                                 rotate_left
                                 ·rintro w' ⟨s0, s1, s2, s3, s4, s5, s6, s7, s8⟩
                                  go_simp
                                  with_reducible rfl
                                 rotate_left
                                 ·simp only [Act.put, List.setIfInBounds_toArray, List.set_cons_zero, List.set_cons_succ, i64_w, i32_w]
                                  rfl
                                 refine take_ (i := 13) (N := some 98) (v := ?_) (a' := ?_) #[true, true, true, true, true, true, true, true, true, true, true, true, true, true, true, false, false, true, false, false, false, false, false] rfl rfl (take_ofW HT_.out HW_.out (by kernel_rfl)) (fun _ _ _ h => h) (Or.inl ⟨by rfl, ?_⟩) hHeld ?_ ?_
                                 rotate_left
                                 ·rintro w' ⟨s0, s1, s2, s3, s4, s5, s6, s7, s8⟩
                                  go_simp
                                  with_reducible rfl
                                 rotate_left
                                 ·simp only [Act.put, List.setIfInBounds_toArray, List.set_cons_zero, List.set_cons_succ, i64_w, i32_w]
                                  rfl
                                 refine pure_ (i := 15) (N := some 100) (v := ?_) (a' := ?_) #[true, true, true, true, true, true, true, true, true, true, true, true, true, true, true, true, false, true, false, false, false, false, false] rfl rfl (any_of HT_.out (by kernel_rfl)) (fun _ _ _ h => h) (Or.inl ⟨by rfl, ?_⟩) ?_ ?_
                                 rotate_left
                                 ·intro w'
                                  go_simp
                                  with_reducible rfl
                                 rotate_left
                                 ·simp only [Act.put, List.setIfInBounds_toArray, List.set_cons_zero, List.set_cons_succ, i64_w, i32_w]
                                  rfl
                                 refine take_ (i := 16) (N := some 101) (v := ?_) (a' := ?_) #[true, true, true, true, true, true, true, true, true, true, true, true, true, true, true, true, true, true, false, false, false, false, false] rfl rfl (take_ofW HT_.out HW_.out (by kernel_rfl)) (fun _ _ _ h => h) (Or.inl ⟨by rfl, ?_⟩) hHeld ?_ ?_
                                 rotate_left
                                 ·rintro w' ⟨s0, s1, s2, s3, s4, s5, s6, s7, s8⟩
                                  go_simp
                                  with_reducible rfl
                                 rotate_left
                                 ·simp only [Act.put, List.setIfInBounds_toArray, List.set_cons_zero, List.set_cons_succ, i64_w, i32_w]
                                  rfl
                                 refine pure_ (i := 18) (N := some 103) (v := ?_) (a' := ?_) #[true, true, true, true, true, true, true, true, true, true, true, true, true, true, true, true, true, true, true, false, false, false, false] rfl rfl (any_of HT_.out (by kernel_rfl)) (fun _ _ _ h => h) (Or.inl ⟨by rfl, ?_⟩) ?_ ?_
                                 rotate_left
                                 ·intro w'
                                  go_simp
                                  with_reducible rfl
                                 rotate_left
                                 ·simp only [Act.put, List.setIfInBounds_toArray, List.set_cons_zero, List.set_cons_succ, i64_w, i32_w]
                                  rfl
                                 refine take_ (i := 19) (N := some 104) (v := ?_) (a' := ?_) #[true, true, true, true, true, true, true, true, true, true, true, true, true, true, true, true, true, true, true, true, false, false, false] rfl rfl (take_ofW HT_.out HW_.out (by kernel_rfl)) (fun _ _ _ h => h) (Or.inl ⟨by rfl, ?_⟩) hHeld ?_ ?_
                                 rotate_left
                                 ·rintro w' ⟨s0, s1, s2, s3, s4, s5, s6, s7, s8⟩
                                  go_simp
                                  with_reducible rfl
                                 rotate_left
                                 ·simp only [Act.put, List.setIfInBounds_toArray, List.set_cons_zero, List.set_cons_succ, i64_w, i32_w]
                                  rfl
                                 refine pure_ (i := 20) (N := some 105) (v := ?_) (a' := ?_) #[true, true, true, true, true, true, true, true, true, true, true, true, true, true, true, true, true, true, true, true, true, false, false] rfl rfl (any_of HT_.out (by kernel_rfl)) (fun _ _ _ h => h) (Or.inl ⟨by rfl, ?_⟩) ?_ ?_
                                 rotate_left
                                 ·intro w'
                                  go_simp
                                  with_reducible rfl
                                 rotate_left
                                 ·simp only [Act.put, List.setIfInBounds_toArray, List.set_cons_zero, List.set_cons_succ, i64_w, i32_w]
                                  rfl
                                 refine take_ (i := 21) (N := some 106) (v := ?_) (a' := ?_) #[true, true, true, true, true, true, true, true, true, true, true, true, true, true, true, true, true, true, true, true, true, true, false] rfl rfl (take_ofW HT_.out HW_.out (by kernel_rfl)) (fun _ _ _ h => h) (Or.inl ⟨by rfl, ?_⟩) hHeld ?_ ?_
                                 rotate_left
                                 ·rintro w' ⟨s0, s1, s2, s3, s4, s5, s6, s7, s8⟩
                                  go_simp
                                  with_reducible rfl
                                 rotate_left
                                 ·simp only [Act.put, List.setIfInBounds_toArray, List.set_cons_zero, List.set_cons_succ, i64_w, i32_w]
                                  rfl
                                 refine pure_ (i := 22) (N := some 107) (v := ?_) (a' := ?_) #[true, true, true, true, true, true, true, true, true, true, true, true, true, true, true, true, true, true, true, true, true, true, true] rfl rfl (any_of HT_.out (by kernel_rfl)) (fun _ _ _ h => h) (Or.inl ⟨by rfl, ?_⟩) ?_ ?_
                                 rotate_left
                                 ·intro w'
                                  go_simp
                                  with_reducible rfl
                                 rotate_left
                                 ·simp only [Act.put, List.setIfInBounds_toArray, List.set_cons_zero, List.set_cons_succ, i64_w, i32_w]
                                  rfl
                                 refine done_ (done_of HT_.out (by kernel_rfl)) ?_
                                 try go_wp2
                                 go_roundg k2
                                 case measure => have := HK1.out; have := HK2.out; omega
                                 case rel => exact ⟨(wrap64 (x7_2 + 1)), (by first | rfl | (simp; done) | (simp [*]; done)), H', ⟨by have := HK1.out; have := HK2.out; omega⟩, ⟨by (with_reducible repeat (first | apply Kd.R_alloc | apply Kd.R_drewN | apply Kd.R_drew)); exact HO_4.out⟩, ⟨by (with_reducible repeat (first | refine blk_drewN ?_ _ | refine blk_drew ?_ | refine blk_alloc ?_ _)); exact BK101.out⟩, ⟨by repeat (first | (with_reducible first | exact HB.out | apply below_alloc | apply pw_below_drewN | apply below_drew1 | refine below_set ?_ GE101.out) | exact HB.out)⟩⟩
                                ·rw [if_neg c49] at H
                                 exact absurd H (by simp)
                               ·rw [if_neg c48] at H
                                exact absurd H (by simp)
                              ·rw [if_neg c47] at H
                               exact absurd H (by simp)
                             ·rw [if_neg c46] at H
                              exact absurd H (by simp)
                            ·rw [if_neg c45] at H
                             exact absurd H (by simp)
                           ·rw [if_neg c44] at H
                            exact absurd H (by simp)
                          ·rw [if_neg c43] at H
                           exact absurd H (by simp)
                         ·rw [if_neg c42] at H
                          exact absurd H (by simp)
                        ·rw [if_neg c41] at H
                         exact absurd H (by simp)
                       ·rw [if_neg c40] at H
                        exact absurd H (by simp)
                      ·rw [if_neg c39] at H
                       exact absurd H (by simp)
                     ·rw [if_neg c38] at H
                      exact absurd H (by simp)
                    ·rw [if_neg c37] at H
                     have c37b0 : decide (x7_2 < a0_0) = false := decide_eq_false c37
                     clear c37
                     have H' := Aside0.mk H
                     clear H
                     have hcz52_0 : wr.cell? ⟨gb101, 0, none⟩ = some (.int .i64 a0_0) := (blk_cell BK101.out 0).trans rfl
                     have hcz52_1 : wr.cell? ⟨gb101, 1, none⟩ = some (.slice A0_1 l0_1.length c0_1) := (blk_cell BK101.out 1).trans rfl
                     have hcz52_2 : wr.cell? ⟨gb101, 2, none⟩ = some (.slice (some ad110) l0_2.length c0_2) := (blk_cell BK101.out 2).trans rfl
                     have hfz52_0 := blk_frozen BK101.out 0
                     have hfz52_1 := blk_frozen BK101.out 1
                     have hfz52_2 := blk_frozen BK101.out 2
                     go_wp2
                     go_roundg k2
                     case measure => have := HK1.out; have := HK2.out; omega
                     case rel => exact ⟨(wrap64 (x5_1 + 1)), (by first | rfl | (simp; done) | (simp [*]; done)), H', ⟨by have := HK1.out; have := HK2.out; omega⟩, ⟨by (with_reducible repeat (first | apply Kd.R_alloc | apply Kd.R_drewN | apply Kd.R_drew)); exact HO_4.out⟩, ⟨by (with_reducible repeat (first | refine blk_drewN ?_ _ | refine blk_drew ?_ | refine blk_alloc ?_ _)); exact BK101.out⟩, ⟨by repeat (first | (with_reducible first | exact HB.out | apply below_alloc | apply pw_below_drewN | apply below_drew1 | refine below_set ?_ GE101.out) | exact HB.out)⟩⟩
                ·rw [if_neg c34] at H
                 exact absurd H (by simp)
               ·rw [if_neg c33] at H
                exact absurd H (by simp)
              ·rw [if_neg c32] at H
               exact absurd H (by simp)
             ·rw [if_neg c31] at H
              exact absurd H (by simp)
            ·rw [if_neg c30] at H
             exact absurd H (by simp)
         ·rw [if_neg c27] at H
          exact absurd H (by simp)
        ·rw [if_neg c26] at H
         exact absurd H (by simp)
       ·rw [if_neg c25] at H
        have c25b0 : decide (x5_1 < (l0_1.length : Int)) = false := decide_eq_false c25
        clear c25
        have H' := Aside0.mk H
        clear H
        go_wp2
        go_loopg [8] k1 (fun kq v8 w' => ∃ (x8_2 : Int), v8 = .int .i64 x8_2 ∧ Aside0 (caesuralaw21_LeastAlike.l2 kq (l0_1.length : Int) t105 x8_2 a0_0 l0_1 l0_2 = some r) ∧ Aside0 (kq ≤ k1) ∧ Aside0 (Kd.R (Kd.int .i64) 3 w' w.heap.size (fun _ => True) (.slice Ao24 t105.length co24) t105) ∧ Aside0 (w'.heap[gb101]? = some (.cells #[.int .i64 a0_0, (.slice A0_1 l0_1.length c0_1), (.slice A0_2 l0_2.length c0_2)] 25 (0, 0))) ∧ Aside0 (Below w.heap.size w w'))
        case atStart => exact ⟨(0), (by first | rfl | (simp; done) | (simp [*]; done)), H', ⟨Nat.le_refl _⟩, ⟨by (with_reducible repeat (first | apply Kd.R_alloc | apply Kd.R_drewN | apply Kd.R_drew)); exact HO_4.out⟩, ⟨by (with_reducible repeat (first | refine blk_drewN ?_ _ | refine blk_drew ?_ | refine blk_alloc ?_ _)); exact BK101.out⟩, ⟨by repeat (first | (with_reducible first | exact HB.out | apply below_alloc | apply pw_below_drewN | apply below_drew1 | refine below_set ?_ GE101.out) | exact HB.out)⟩⟩
        case round =>
         clear H'
         try clear c1
         try clear p1
         try clear q1
         try clear hx1
         try clear c2
         try clear p2
         try clear c3
         try clear c4
         try clear c5
         try clear c6
         try clear c6b0
         try clear c6b1
         try clear p6
         try clear c8
         try clear p10
         try clear q10
         try clear hx10
         try clear c11
         try clear p11
         try clear q11
         try clear hx11
         try clear c16
         try clear c16b0
         try clear c16b1
         try clear c16b2
         try clear c25
         try clear c25b0
         try clear c26
         try clear c26b0
         try clear c27
         try clear c27b0
         try clear c28
         try clear c28b0
         try clear c29
         try clear c29b0
         try clear c30
         try clear c30b0
         try clear c31
         try clear c31b0
         try clear c32
         try clear c32b0
         try clear c32b1
         try clear c33
         try clear c33b0
         try clear c34
         try clear c34b0
         try clear c35
         try clear c35b0
         try clear c35b1
         try clear c35b2
         try clear c37
         try clear c37b0
         try clear c38
         try clear c38b0
         try clear c39
         try clear c39b0
         try clear c40
         try clear c40b0
         try clear c41
         try clear c41b0
         try clear c42
         try clear c42b0
         try clear c43
         try clear c43b0
         try clear c44
         try clear c44b0
         try clear c45
         try clear c45b0
         try clear c46
         try clear c46b0
         try clear c47
         try clear c47b0
         try clear c48
         try clear c48b0
         try clear c49
         try clear c49b0
         try clear c49b1
         try clear hcz11_0
         try clear hcz11_1
         try clear hcz11_2
         try clear hcz13_0
         try clear hcz13_1
         try clear hcz13_2
         try clear hcz18_0
         try clear hcz18_1
         try clear hcz18_2
         try clear hcz20_0
         try clear hcz20_1
         try clear hcz20_2
         try clear hcz22_0
         try clear hcz22_1
         try clear hcz22_2
         try clear hcz50_0
         try clear hcz50_1
         try clear hcz50_2
         try clear hcz52_0
         try clear hcz52_1
         try clear hcz52_2
         try clear hcz9_0
         try clear hcz9_1
         try clear hcz9_2
         try clear hfz11_0
         try clear hfz11_1
         try clear hfz11_2
         try clear hfz13_0
         try clear hfz13_1
         try clear hfz13_2
         try clear hfz18_0
         try clear hfz18_1
         try clear hfz18_2
         try clear hfz20_0
         try clear hfz20_1
         try clear hfz20_2
         try clear hfz22_0
         try clear hfz22_1
         try clear hfz22_2
         try clear hfz50_0
         try clear hfz50_1
         try clear hfz50_2
         try clear hfz52_0
         try clear hfz52_1
         try clear hfz52_2
         try clear hfz9_0
         try clear hfz9_1
         try clear hfz9_2
         try clear hx108_0
         try clear hx109_0
         try clear hx110_0
         try clear hx111_0
         try clear hx112_0
         try clear hx113_0
         try clear hx114_0
         try clear hx115_0
         try clear hx116_0
         try clear hx117_0
         try clear p1
         try clear p10
         try clear p108
         try clear p109
         try clear p11
         try clear p110
         try clear p111
         try clear p112
         try clear p113
         try clear p114
         try clear p115
         try clear p116
         try clear p117
         try clear p2
         try clear q1
         try clear q10
         try clear q108
         try clear q109
         try clear q11
         try clear q110
         try clear q111
         try clear q112
         try clear q113
         try clear q114
         try clear q115
         try clear q116
         try clear q117
         obtain ⟨x8_2, rfl, HA, HK2, HO_4, BK101, HB⟩ := hrel
         cases gk with
         | zero => exact absurd HA.out (by simp [caesuralaw21_LeastAlike.l2])
         | succ k2 =>
          have H := HA.out
          clear HA
          simp only [caesuralaw21_LeastAlike.l2] at H
          by_cases c53 : x8_2 < (l0_1.length : Int)
          ·rw [if_pos c53] at H
           have c53b0 : decide (x8_2 < (l0_1.length : Int)) = true := decide_eq_true c53
           clear c53
           have H' := Aside0.mk H
           clear H
           go_wp2
           go_loopg [9] k2 (fun kq v9 w' => ∃ (x9_3 : Int), v9 = .int .i64 x9_3 ∧ Aside0 (caesuralaw21_LeastAlike.l3 kq (l0_1.length : Int) t105 x8_2 x9_3 a0_0 l0_1 l0_2 = some r) ∧ Aside0 (kq ≤ k2) ∧ Aside0 (Kd.R (Kd.int .i64) 3 w' w.heap.size (fun _ => True) (.slice Ao24 t105.length co24) t105) ∧ Aside0 (w'.heap[gb101]? = some (.cells #[.int .i64 a0_0, (.slice A0_1 l0_1.length c0_1), (.slice A0_2 l0_2.length c0_2)] 25 (0, 0))) ∧ Aside0 (Below w.heap.size w w'))
           case atStart => exact ⟨(0), (by first | rfl | (simp; done) | (simp [*]; done)), H', ⟨Nat.le_refl _⟩, ⟨by (with_reducible repeat (first | apply Kd.R_alloc | apply Kd.R_drewN | apply Kd.R_drew)); exact HO_4.out⟩, ⟨by (with_reducible repeat (first | refine blk_drewN ?_ _ | refine blk_drew ?_ | refine blk_alloc ?_ _)); exact BK101.out⟩, ⟨by repeat (first | (with_reducible first | exact HB.out | apply below_alloc | apply pw_below_drewN | apply below_drew1 | refine below_set ?_ GE101.out) | exact HB.out)⟩⟩
           case round =>
            clear H'
            try clear c1
            try clear p1
            try clear q1
            try clear hx1
            try clear c2
            try clear p2
            try clear c3
            try clear c4
            try clear c5
            try clear c6
            try clear c6b0
            try clear c6b1
            try clear p6
            try clear c8
            try clear p10
            try clear q10
            try clear hx10
            try clear c11
            try clear p11
            try clear q11
            try clear hx11
            try clear c16
            try clear c16b0
            try clear c16b1
            try clear c16b2
            try clear c25
            try clear c25b0
            try clear c26
            try clear c26b0
            try clear c27
            try clear c27b0
            try clear c28
            try clear c28b0
            try clear c29
            try clear c29b0
            try clear c30
            try clear c30b0
            try clear c31
            try clear c31b0
            try clear c32
            try clear c32b0
            try clear c32b1
            try clear c33
            try clear c33b0
            try clear c34
            try clear c34b0
            try clear c35
            try clear c35b0
            try clear c35b1
            try clear c35b2
            try clear c37
            try clear c37b0
            try clear c38
            try clear c38b0
            try clear c39
            try clear c39b0
            try clear c40
            try clear c40b0
            try clear c41
            try clear c41b0
            try clear c42
            try clear c42b0
            try clear c43
            try clear c43b0
            try clear c44
            try clear c44b0
            try clear c45
            try clear c45b0
            try clear c46
            try clear c46b0
            try clear c47
            try clear c47b0
            try clear c48
            try clear c48b0
            try clear c49
            try clear c49b0
            try clear c49b1
            try clear c53
            try clear c53b0
            try clear hcz11_0
            try clear hcz11_1
            try clear hcz11_2
            try clear hcz13_0
            try clear hcz13_1
            try clear hcz13_2
            try clear hcz18_0
            try clear hcz18_1
            try clear hcz18_2
            try clear hcz20_0
            try clear hcz20_1
            try clear hcz20_2
            try clear hcz22_0
            try clear hcz22_1
            try clear hcz22_2
            try clear hcz50_0
            try clear hcz50_1
            try clear hcz50_2
            try clear hcz52_0
            try clear hcz52_1
            try clear hcz52_2
            try clear hcz9_0
            try clear hcz9_1
            try clear hcz9_2
            try clear hfz11_0
            try clear hfz11_1
            try clear hfz11_2
            try clear hfz13_0
            try clear hfz13_1
            try clear hfz13_2
            try clear hfz18_0
            try clear hfz18_1
            try clear hfz18_2
            try clear hfz20_0
            try clear hfz20_1
            try clear hfz20_2
            try clear hfz22_0
            try clear hfz22_1
            try clear hfz22_2
            try clear hfz50_0
            try clear hfz50_1
            try clear hfz50_2
            try clear hfz52_0
            try clear hfz52_1
            try clear hfz52_2
            try clear hfz9_0
            try clear hfz9_1
            try clear hfz9_2
            try clear hx108_0
            try clear hx109_0
            try clear hx110_0
            try clear hx111_0
            try clear hx112_0
            try clear hx113_0
            try clear hx114_0
            try clear hx115_0
            try clear hx116_0
            try clear hx117_0
            try clear p1
            try clear p10
            try clear p108
            try clear p109
            try clear p11
            try clear p110
            try clear p111
            try clear p112
            try clear p113
            try clear p114
            try clear p115
            try clear p116
            try clear p117
            try clear p2
            try clear p6
            try clear q1
            try clear q10
            try clear q108
            try clear q109
            try clear q11
            try clear q110
            try clear q111
            try clear q112
            try clear q113
            try clear q114
            try clear q115
            try clear q116
            try clear q117
            obtain ⟨x9_3, rfl, HA, HK3, HO_4, BK101, HB⟩ := hrel
            cases gk with
            | zero => exact absurd HA.out (by simp [caesuralaw21_LeastAlike.l3])
            | succ k3 =>
             have H := HA.out
             clear HA
             simp only [caesuralaw21_LeastAlike.l3] at H
             by_cases c54 : x9_3 < x8_2
             ·rw [if_pos c54] at H
              have c54b0 : decide (x9_3 < x8_2) = true := decide_eq_true c54
              clear c54
              obtain ⟨y118, hy118⟩ : ∃ y_ : List (S60), y_ = (([(⟨x8_2, x9_3⟩ : S60)] : List (S60))) := ⟨_, rfl⟩
              replace H : (caesuralaw21_LeastAlike.l4 k3 (l0_1.length : Int) t105 x8_2 x9_3 y118 false 0 a0_0 l0_1 l0_2) = some r := by first | (rw [hy118]; with_reducible exact H) | (have H2_ := (Option.bind_some _ _).symm.trans H; rw [hy118]; with_reducible exact H2_) | (have H2_ := (Option.bind_some _ _).symm.trans H; with_reducible exact H2_) | with_reducible exact H | (rw [hy118]; exact H) | exact H
              have Ny118 := Aside0.mk hy118
              clear hy118
              have H' := Aside0.mk H
              clear H
              go_wp2_with (first | ((with_reducible refine gate_dst (N := 121) rfl ?_); (try (refine gate_guard (by rfl) ?_; dsimp only)); refine Kd.R_lit k60 _ 60 ?hg (N := 121) ?hd (xs := ([(⟨x8_2, x9_3⟩ : S60)] : List (S60))) (inner := [.int .i64 x8_2, .int .i64 x9_3]) (ok := fun _ => True) (okp := fun _ => True) ?hr ?hp (fun _ hk => hk) trivial (Below.refl _ _) (Nat.le_refl _) (by simp) ?_; (case hd => rfl); (case hg => rfl); (case hr => first | (go_simp; done) | (go_simp; rfl)); (case hp => exact (Reps.c2 (show Kd.M k60 _ _ _ (⟨x8_2, x9_3⟩ : S60) [.int .i64 x8_2, .int .i64 x9_3] from (k60_mkM _ _ _ (⟨x8_2, x9_3⟩ : S60) )) (Reps.none _ _))); intro v119 w55 ho56 hb hg_ hnew_; clear hg_ hnew_; (first | rw [← Ny118.out] at ho56 | (simp only [Int.reduceToNat] at ho56; rw [← Ny118.out] at ho56)); have n0_ := Aside0.mk (Kd.R_below (by (with_reducible repeat (first | apply Kd.R_alloc | apply Kd.R_drewN | apply Kd.R_drew)); exact HO_4.out) hb); have n1_ := Aside0.mk (Kd.R_lower ho56 (below_size (by repeat (first | (with_reducible first | exact HB.out | apply below_alloc | apply pw_below_drewN | apply below_drew1 | refine below_set ?_ GE101.out) | exact HB.out)))); have n2_ := Aside0.mk (blk_below (g := gb101) (o := .cells #[.int .i64 a0_0, .slice A0_1 l0_1.length c0_1, .slice A0_2 l0_2.length c0_2] 25 (0, 0)) (by (with_reducible repeat (first | refine blk_drewN ?_ _ | refine blk_drew ?_ | refine blk_alloc ?_ _)); exact BK101.out) hb); have n3_ := Aside0.mk (below_step (by repeat (first | (with_reducible first | exact HB.out | apply below_alloc | apply pw_below_drewN | apply below_drew1 | refine below_set ?_ GE101.out) | exact HB.out)) hb); clear HO_4; clear BK101; clear HB; have HO_4 := n0_; have HO120 := n1_; have BK101 := n2_; have HB := n3_; clear n0_ n1_ n2_ n3_; clear hb ho56))
              go_loopg [10, 11, 12] k3 (fun kq v10 v11 v12 w' => ∃ (x10_4 : List (S60)) (x11_4 : Bool) (x12_4 : Int), v11 = .bool x11_4 ∧ v12 = .int .i64 x12_4 ∧ Aside0 (caesuralaw21_LeastAlike.l4 kq (l0_1.length : Int) t105 x8_2 x9_3 x10_4 x11_4 x12_4 a0_0 l0_1 l0_2 = some r) ∧ Aside0 (kq ≤ k3) ∧ Aside0 (Kd.R (Kd.int .i64) 3 w' w.heap.size (fun _ => True) (.slice Ao24 t105.length co24) t105) ∧ Aside0 (Kd.R k60 60 w' w.heap.size (fun _ => True) v10 x10_4) ∧ Aside0 (w'.heap[gb101]? = some (.cells #[.int .i64 a0_0, (.slice A0_1 l0_1.length c0_1), (.slice A0_2 l0_2.length c0_2)] 25 (0, 0))) ∧ Aside0 (Below w.heap.size w w'))
              case atStart => exact ⟨(y118), (false), (0), (by first | rfl | (simp; done) | (simp [*]; done)), (by first | rfl | (simp; done) | (simp [*]; done)), H', ⟨Nat.le_refl _⟩, ⟨by (with_reducible repeat (first | apply Kd.R_alloc | apply Kd.R_drewN | apply Kd.R_drew)); exact HO_4.out⟩, ⟨by (with_reducible repeat (first | apply Kd.R_alloc | apply Kd.R_drewN | apply Kd.R_drew)); exact HO120.out⟩, ⟨by (with_reducible repeat (first | refine blk_drewN ?_ _ | refine blk_drew ?_ | refine blk_alloc ?_ _)); exact BK101.out⟩, ⟨by repeat (first | (with_reducible first | exact HB.out | apply below_alloc | apply pw_below_drewN | apply below_drew1 | refine below_set ?_ GE101.out) | exact HB.out)⟩⟩
              case round =>
               clear H'
               try clear c1
               try clear p1
               try clear q1
               try clear hx1
               try clear c2
               try clear p2
               try clear c3
               try clear c4
               try clear c5
               try clear c6
               try clear c6b0
               try clear c6b1
               try clear p6
               try clear c8
               try clear p10
               try clear q10
               try clear hx10
               try clear c11
               try clear p11
               try clear q11
               try clear hx11
               try clear c16
               try clear c16b0
               try clear c16b1
               try clear c16b2
               try clear c25
               try clear c25b0
               try clear c26
               try clear c26b0
               try clear c27
               try clear c27b0
               try clear c28
               try clear c28b0
               try clear c29
               try clear c29b0
               try clear c30
               try clear c30b0
               try clear c31
               try clear c31b0
               try clear c32
               try clear c32b0
               try clear c32b1
               try clear c33
               try clear c33b0
               try clear c34
               try clear c34b0
               try clear c35
               try clear c35b0
               try clear c35b1
               try clear c35b2
               try clear c37
               try clear c37b0
               try clear c38
               try clear c38b0
               try clear c39
               try clear c39b0
               try clear c40
               try clear c40b0
               try clear c41
               try clear c41b0
               try clear c42
               try clear c42b0
               try clear c43
               try clear c43b0
               try clear c44
               try clear c44b0
               try clear c45
               try clear c45b0
               try clear c46
               try clear c46b0
               try clear c47
               try clear c47b0
               try clear c48
               try clear c48b0
               try clear c49
               try clear c49b0
               try clear c49b1
               try clear c53
               try clear c53b0
               try clear c54
               try clear c54b0
               try clear hcz11_0
               try clear hcz11_1
               try clear hcz11_2
               try clear hcz13_0
               try clear hcz13_1
               try clear hcz13_2
               try clear hcz18_0
               try clear hcz18_1
               try clear hcz18_2
               try clear hcz20_0
               try clear hcz20_1
               try clear hcz20_2
               try clear hcz22_0
               try clear hcz22_1
               try clear hcz22_2
               try clear hcz50_0
               try clear hcz50_1
               try clear hcz50_2
               try clear hcz52_0
               try clear hcz52_1
               try clear hcz52_2
               try clear hcz9_0
               try clear hcz9_1
               try clear hcz9_2
               try clear hfz11_0
               try clear hfz11_1
               try clear hfz11_2
               try clear hfz13_0
               try clear hfz13_1
               try clear hfz13_2
               try clear hfz18_0
               try clear hfz18_1
               try clear hfz18_2
               try clear hfz20_0
               try clear hfz20_1
               try clear hfz20_2
               try clear hfz22_0
               try clear hfz22_1
               try clear hfz22_2
               try clear hfz50_0
               try clear hfz50_1
               try clear hfz50_2
               try clear hfz52_0
               try clear hfz52_1
               try clear hfz52_2
               try clear hfz9_0
               try clear hfz9_1
               try clear hfz9_2
               try clear hx108_0
               try clear hx109_0
               try clear hx110_0
               try clear hx111_0
               try clear hx112_0
               try clear hx113_0
               try clear hx114_0
               try clear hx115_0
               try clear hx116_0
               try clear hx117_0
               try clear p1
               try clear p10
               try clear p108
               try clear p109
               try clear p11
               try clear p110
               try clear p111
               try clear p112
               try clear p113
               try clear p114
               try clear p115
               try clear p116
               try clear p117
               try clear p2
               try clear p6
               try clear q1
               try clear q10
               try clear q108
               try clear q109
               try clear q11
               try clear q110
               try clear q111
               try clear q112
               try clear q113
               try clear q114
               try clear q115
               try clear q116
               try clear q117
               obtain ⟨x10_4, x11_4, x12_4, rfl, rfl, HA, HK4, HO_4, HO_10, BK101, HB⟩ := hrel
               cases gk with
               | zero => exact absurd HA.out (by simp [caesuralaw21_LeastAlike.l4])
               | succ k4 =>
                have H := HA.out
                clear HA
                simp only [caesuralaw21_LeastAlike.l4] at H
                by_cases c57 : x12_4 < (x10_4.length : Int)
                ·rw [if_pos c57] at H
                 have c57b0 : decide (x12_4 < (x10_4.length : Int)) = true := decide_eq_true c57
                 clear c57
                 by_cases c58 : x11_4 = true
                 ·subst c58
                  have H1 : (if 0 ≤ x8_2 then (if x8_2 < (t105.length : Int) then (if 0 ≤ x9_3 then (if x9_3 < (t105.length : Int) then (if (true != ((rd t105 x8_2) != (rd t105 x9_3))) = true then (none) else (caesuralaw21_LeastAlike.l3 k4 (l0_1.length : Int) t105 x8_2 (wrap64 (x9_3 + 1)) a0_0 l0_1 l0_2)) else (none)) else (none)) else (none)) else (none)) = some r := by rw [if_pos rfl] at H; exact H
                  clear H
                  have H := H1
                  clear H1
                  by_cases c59 : 0 ≤ x8_2
                  ·rw [if_pos c59] at H
                   have c59b0 : decide (0 ≤ x8_2) = true := decide_eq_true c59
                   clear c59
                   by_cases c60 : x8_2 < (t105.length : Int)
                   ·rw [if_pos c60] at H
                    have c60b0 : decide (x8_2 < (t105.length : Int)) = true := decide_eq_true c60
                    clear c60
                    by_cases c61 : 0 ≤ x9_3
                    ·rw [if_pos c61] at H
                     have c61b0 : decide (0 ≤ x9_3) = true := decide_eq_true c61
                     clear c61
                     by_cases c62 : x9_3 < (t105.length : Int)
                     ·rw [if_pos c62] at H
                      have c62b0 : decide (x9_3 < (t105.length : Int)) = true := decide_eq_true c62
                      clear c62
                      by_cases c63 : (true != ((rd t105 x8_2) != (rd t105 x9_3))) = true
                      ·rw [if_pos c63] at H
                       exact absurd H (by simp)
                      ·rw [if_neg c63] at H
                       have c63b0 : (true != ((rd t105 x8_2) != (rd t105 x9_3))) = false := by simpa using c63
                       (try (have c63b1 : decide (true = ((rd t105 x8_2) != (rd t105 x9_3))) = true := by simpa using c63))
                       (try (have c63b2 : (true == ((rd t105 x8_2) != (rd t105 x9_3))) = true := by simpa using c63))
                       clear c63
                       have H' := Aside0.mk H
                       clear H
                       obtain ⟨Ao64, co64, eo64⟩ := Kd.R_slice HO_10.out
                       subst eo64
                       try go_wp2
                       have n0_ := Aside0.mk (Kd.R_drew HO_4.out)
                       have n1_ := Aside0.mk (Kd.R_drew HO_10.out)
                       have n2_ := Aside0.mk (blk_drew BK101.out)
                       have n3_ := Aside0.mk (below_drew1 HB.out)
                       clear HO_4
                       clear HO_10
                       clear BK101
                       clear HB
                       have HO_4 := n0_
                       have HO_10 := n1_
                       have BK101 := n2_
                       have HB := n3_
                       clear n0_ n1_ n2_ n3_
                       have p121 : 0 ≤ (x8_2 : Int) := of_decide_eq_true (by first | (with_reducible assumption) | assumption)
                       have q121 : x8_2 < (t105.length : Int) := of_decide_eq_true (by first | (with_reducible assumption) | assumption)
                       obtain ⟨ad121, e121, hx121_0⟩ := Kd.at_int (Kd.R_reads' HO_4.out).2.2 x8_2 p121 q121
                       cases e121
                       replace p121 := eq_true p121
                       replace q121 := eq_true q121
                       have p122 : 0 ≤ (x9_3 : Int) := of_decide_eq_true (by first | (with_reducible assumption) | assumption)
                       have q122 : x9_3 < (t105.length : Int) := of_decide_eq_true (by first | (with_reducible assumption) | assumption)
                       obtain ⟨ad122, e122, hx122_0⟩ := Kd.at_int (Kd.R_reads' HO_4.out).2.2 x9_3 p122 q122
                       obtain rfl : ad121 = ad122 := (by injection e122)
                       replace p122 := eq_true p122
                       replace q122 := eq_true q122
                       refine start_ (n := 11) (S := fun w' => w'.cell? (ad121.add (x8_2).toNat) = some (.int .i64 (rd t105 x8_2)) ∧ w'.cell? (ad121.add (x9_3).toNat) = some (.int .i64 (rd t105 x9_3))) (ds := []) #[false, false, false, false, false, false, false, false, false, false, false] (by kernel_rfl) rfl rfl ⟨hx121_0, hx122_0⟩ (fun hHeld => ?_); refine with_tabW caesuralaw21_LeastAlike.tab42 caesuralaw21_LeastAlike.bits42 (fun HT_ HW_ => ?_)
                       generalize wr.drew = w65 at HO_4 HO_10 BK101 HB hx121_0 hx122_0 hHeld ⊢
                       refine pure_ (i := 0) (N := some 195) (v := ?_) (a' := ?_) #[true, false, false, false, false, false, false, false, false, false, false] rfl rfl (any_of HT_.out (by kernel_rfl)) (fun _ _ _ h => h) (Or.inl ⟨by rfl, ?_⟩) ?_ ?_
                       rotate_left
                       ·intro w'
                        go_simp
                        with_reducible rfl
                       rotate_left
                       ·simp only [Act.put, List.setIfInBounds_toArray, List.set_cons_zero, List.set_cons_succ, i64_w, i32_w]
                        rfl
                       refine pure_ (i := 1) (N := some 196) (v := ?_) (a' := ?_) #[true, true, false, false, false, false, false, false, false, false, false] rfl rfl (any_of HT_.out (by kernel_rfl)) (fun _ _ _ h => h) (Or.inl ⟨by rfl, ?_⟩) ?_ ?_
                       rotate_left
                       ·intro w'
                        go_simp
                        with_reducible rfl
                       rotate_left
                       ·simp only [Act.put, List.setIfInBounds_toArray, List.set_cons_zero, List.set_cons_succ, i64_w, i32_w]
                        rfl
                       refine pure_ (i := 2) (N := some 197) (v := ?_) (a' := ?_) #[true, true, true, false, false, false, false, false, false, false, false] rfl rfl (any_of HT_.out (by kernel_rfl)) (fun _ _ _ h => h) (Or.inl ⟨by rfl, ?_⟩) ?_ ?_
                       rotate_left
                       ·intro w'
                        go_simp
                        with_reducible rfl
                       rotate_left
                       ·simp only [Act.put, List.setIfInBounds_toArray, List.set_cons_zero, List.set_cons_succ, i64_w, i32_w]
                        rfl
                       refine pure_ (i := 3) (N := some 198) (v := ?_) (a' := ?_) #[true, true, true, true, false, false, false, false, false, false, false] rfl rfl (any_of HT_.out (by kernel_rfl)) (fun _ _ _ h => h) (Or.inl ⟨by rfl, ?_⟩) ?_ ?_
                       rotate_left
                       ·intro w'
                        go_simp
                        with_reducible rfl
                       rotate_left
                       ·simp only [Act.put, List.setIfInBounds_toArray, List.set_cons_zero, List.set_cons_succ, i64_w, i32_w]
                        rfl
                       refine pure_ (i := 5) (N := some 200) (v := ?_) (a' := ?_) #[true, true, true, true, false, true, false, false, false, false, false] rfl rfl (any_of HT_.out (by kernel_rfl)) (fun _ _ _ h => h) (Or.inl ⟨by rfl, ?_⟩) ?_ ?_
                       rotate_left
                       ·intro w'
                        go_simp
                        with_reducible rfl
                       rotate_left
                       ·simp only [Act.put, List.setIfInBounds_toArray, List.set_cons_zero, List.set_cons_succ, i64_w, i32_w]
                        rfl
                       refine pure_ (i := 6) (N := some 201) (v := ?_) (a' := ?_) #[true, true, true, true, false, true, true, false, false, false, false] rfl rfl (any_of HT_.out (by kernel_rfl)) (fun _ _ _ h => h) (Or.inl ⟨by rfl, ?_⟩) ?_ ?_
                       rotate_left
                       ·intro w'
                        go_simp
                        with_reducible rfl
                       rotate_left
                       ·simp only [Act.put, List.setIfInBounds_toArray, List.set_cons_zero, List.set_cons_succ, i64_w, i32_w]
                        rfl
                       refine pure_ (i := 7) (N := some 202) (v := ?_) (a' := ?_) #[true, true, true, true, false, true, true, true, false, false, false] rfl rfl (any_of HT_.out (by kernel_rfl)) (fun _ _ _ h => h) (Or.inl ⟨by rfl, ?_⟩) ?_ ?_
                       rotate_left
                       ·intro w'
                        go_simp
                        with_reducible rfl
                       rotate_left
                       ·simp only [Act.put, List.setIfInBounds_toArray, List.set_cons_zero, List.set_cons_succ, i64_w, i32_w]
                        rfl
                       refine take_ (i := 4) (N := some 199) (v := ?_) (a' := ?_) #[true, true, true, true, true, true, true, true, false, false, false] rfl rfl (take_ofW HT_.out HW_.out (by kernel_rfl)) (fun _ _ _ h => h) (Or.inl ⟨by rfl, ?_⟩) hHeld ?_ ?_
                       rotate_left
                       ·rintro w' ⟨s0, s1⟩
                        go_simp
                        with_reducible rfl
                       rotate_left
                       ·simp only [Act.put, List.setIfInBounds_toArray, List.set_cons_zero, List.set_cons_succ, i64_w, i32_w]
                        rfl
                       refine take_ (i := 8) (N := some 203) (v := ?_) (a' := ?_) #[true, true, true, true, true, true, true, true, true, false, false] rfl rfl (take_ofW HT_.out HW_.out (by kernel_rfl)) (fun _ _ _ h => h) (Or.inl ⟨by rfl, ?_⟩) hHeld ?_ ?_
                       rotate_left
                       ·rintro w' ⟨s0, s1⟩
                        go_simp
                        with_reducible rfl
                       rotate_left
                       ·simp only [Act.put, List.setIfInBounds_toArray, List.set_cons_zero, List.set_cons_succ, i64_w, i32_w]
                        rfl
                       refine pure_ (i := 9) (N := some 204) (v := ?_) (a' := ?_) #[true, true, true, true, true, true, true, true, true, true, false] rfl rfl (any_of HT_.out (by kernel_rfl)) (fun _ _ _ h => h) (Or.inl ⟨by rfl, ?_⟩) ?_ ?_
                       rotate_left
                       ·intro w'
                        go_simp
                        with_reducible rfl
                       rotate_left
                       ·simp only [Act.put, List.setIfInBounds_toArray, List.set_cons_zero, List.set_cons_succ, i64_w, i32_w]
                        rfl
                       refine pure_ (i := 10) (N := some 205) (v := ?_) (a' := ?_) #[true, true, true, true, true, true, true, true, true, true, true] rfl rfl (any_of HT_.out (by kernel_rfl)) (fun _ _ _ h => h) (Or.inl ⟨by rfl, ?_⟩) ?_ ?_
                       rotate_left
                       ·intro w'
                        go_simp
                        with_reducible rfl
                       rotate_left
                       ·simp only [Act.put, List.setIfInBounds_toArray, List.set_cons_zero, List.set_cons_succ, i64_w, i32_w]
                        rfl
                       refine done_ (done_of HT_.out (by kernel_rfl)) ?_
                       try go_wp2
                       go_roundg k4
                       case measure => have := HK1.out; have := HK2.out; have := HK3.out; have := HK4.out; omega
                       case rel => exact ⟨(wrap64 (x9_3 + 1)), (by first | rfl | (simp; done) | (simp [*]; done)), H', ⟨by have := HK1.out; have := HK2.out; have := HK3.out; have := HK4.out; omega⟩, ⟨by (with_reducible repeat (first | apply Kd.R_alloc | apply Kd.R_drewN | apply Kd.R_drew)); exact HO_4.out⟩, ⟨by (with_reducible repeat (first | refine blk_drewN ?_ _ | refine blk_drew ?_ | refine blk_alloc ?_ _)); exact BK101.out⟩, ⟨by repeat (first | (with_reducible first | exact HB.out | apply below_alloc | apply pw_below_drewN | apply below_drew1 | refine below_set ?_ GE101.out) | exact HB.out)⟩⟩
                     ·rw [if_neg c62] at H
                      exact absurd H (by simp)
                    ·rw [if_neg c61] at H
                     exact absurd H (by simp)
                   ·rw [if_neg c60] at H
                    exact absurd H (by simp)
                  ·rw [if_neg c59] at H
                   exact absurd H (by simp)
                 ·replace c58 := Bool.eq_false_iff.mpr c58
                  subst c58
                  have H1 : (if 0 ≤ x12_4 then (if 0 ≤ ((rd_T60 x10_4 x12_4).f0) then (if ((rd_T60 x10_4 x12_4).f0) < (l0_2.length : Int) then (if 0 ≤ ((rd_T60 x10_4 x12_4).f1) then (if ((rd_T60 x10_4 x12_4).f1) < (l0_2.length : Int) then (caesuralaw21_LeastAlike.l5 k4 (l0_1.length : Int) t105 x8_2 x9_3 x10_4 ((rdOf false l0_2 ((rd_T60 x10_4 x12_4).f0)) != (rdOf false l0_2 ((rd_T60 x10_4 x12_4).f1))) x12_4 0 a0_0 l0_1 l0_2 ((rd_T60 x10_4 x12_4).f0) ((rd_T60 x10_4 x12_4).f1)) else (none)) else (none)) else (none)) else (none)) else (none)) = some r := by rw [if_neg (show ¬ (false = true) by decide)] at H; exact H
                  clear H
                  have H := H1
                  clear H1
                  by_cases c66 : 0 ≤ x12_4
                  ·rw [if_pos c66] at H
                   have c66b0 : decide (0 ≤ x12_4) = true := decide_eq_true c66
                   clear c66
                   by_cases c67 : 0 ≤ ((rd_T60 x10_4 x12_4).f0)
                   ·rw [if_pos c67] at H
                    have c67b0 : decide (0 ≤ ((rd_T60 x10_4 x12_4).f0)) = true := decide_eq_true c67
                    clear c67
                    by_cases c68 : ((rd_T60 x10_4 x12_4).f0) < (l0_2.length : Int)
                    ·rw [if_pos c68] at H
                     have c68b0 : decide (((rd_T60 x10_4 x12_4).f0) < (l0_2.length : Int)) = true := decide_eq_true c68
                     clear c68
                     by_cases c69 : 0 ≤ ((rd_T60 x10_4 x12_4).f1)
                     ·rw [if_pos c69] at H
                      have c69b0 : decide (0 ≤ ((rd_T60 x10_4 x12_4).f1)) = true := decide_eq_true c69
                      clear c69
                      by_cases c70 : ((rd_T60 x10_4 x12_4).f1) < (l0_2.length : Int)
                      ·rw [if_pos c70] at H
                       have c70b0 : decide (((rd_T60 x10_4 x12_4).f1) < (l0_2.length : Int)) = true := decide_eq_true c70
                       clear c70
                       have H' := Aside0.mk H
                       clear H
                       obtain ⟨Ao71, co71, eo71⟩ := Kd.R_slice HO_10.out
                       subst eo71
                       have p123 : 0 ≤ (x12_4 : Int) := of_decide_eq_true (by first | (with_reducible assumption) | assumption)
                       have q123 : x12_4 < (x10_4.length : Int) := of_decide_eq_true (by first | (with_reducible assumption) | assumption)
                       obtain ⟨ad123, e123, hx123_0, hx123_1⟩ := at_T60 (Kd.R_reads' HO_10.out).2.2 x12_4 p123 q123
                       cases e123
                       replace p123 := eq_true p123
                       replace q123 := eq_true q123
                       try go_wp2_with (first | ((with_reducible refine gate_dst (N := 13) rfl ?_); (try (refine gate_guard (by rfl) ?_; dsimp only)); refine box_event ?hg (N := 13) ?hd (cs := #[.int .i64 0, .int .i64 0]) (t := 60) ?hr ?_; (case hd => rfl); (case hg => rfl); (case hr => first | (go_simp; done) | (go_simp; rfl)); intro gb124 hg w72 hbox hb; have n0_ := Aside0.mk (Kd.R_below (by (with_reducible repeat (first | apply Kd.R_alloc | apply Kd.R_drewN | apply Kd.R_drew)); exact HO_4.out) hb); have n1_ := Aside0.mk (Kd.R_below (Kd.R_elderB (by (with_reducible repeat (first | apply Kd.R_alloc | apply Kd.R_drewN | apply Kd.R_drew)); exact HO_10.out) gb124 (Nat.le_of_eq hg.symm)) hb); have n2_ := Aside0.mk (blk_below (g := gb101) (o := .cells #[.int .i64 a0_0, .slice A0_1 l0_1.length c0_1, .slice A0_2 l0_2.length c0_2] 25 (0, 0)) (by (with_reducible repeat (first | refine blk_drewN ?_ _ | refine blk_drew ?_ | refine blk_alloc ?_ _)); exact BK101.out) hb); have n3_ := Aside0.mk (below_step (by repeat (first | (with_reducible first | exact HB.out | apply below_alloc | apply pw_below_drewN | apply below_drew1 | refine below_set ?_ GE101.out) | exact HB.out)) hb); have n4_ := Aside0.mk (hbox); have n5_ := Aside0.mk ((by rw [hg]; exact (below_size (by repeat (first | (with_reducible first | exact HB.out | apply below_alloc | apply pw_below_drewN | apply below_drew1 | refine below_set ?_ GE101.out) | exact HB.out))) : w.heap.size ≤ gb124)); have n6_ := Aside0.mk ((by rw [hg]; exact (below_size (by repeat (first | (with_reducible first | exact HB.out | apply below_alloc | apply pw_below_drewN | apply below_drew1 | refine below_set ?_ GE101.out) | exact HB.out))) : w.heap.size ≤ gb124)); have n7_ := Aside0.mk ((by rw [hg]; exact Nat.ne_of_lt (blk_lt (g := gb101) (o := .cells #[.int .i64 a0_0, .slice A0_1 l0_1.length c0_1, .slice A0_2 l0_2.length c0_2] 25 (0, 0)) (by (with_reducible repeat (first | refine blk_drewN ?_ _ | refine blk_drew ?_ | refine blk_alloc ?_ _)); exact BK101.out)) : gb101 ≠ gb124)); have n8_ := Aside0.mk ((by rw [hg]; exact Nat.ne_of_gt (blk_lt (g := gb101) (o := .cells #[.int .i64 a0_0, .slice A0_1 l0_1.length c0_1, .slice A0_2 l0_2.length c0_2] 25 (0, 0)) (by (with_reducible repeat (first | refine blk_drewN ?_ _ | refine blk_drew ?_ | refine blk_alloc ?_ _)); exact BK101.out)) : gb124 ≠ gb101)); clear HO_4; clear HO_10; clear BK101; clear HB; have HO_4 := n0_; have HO_10 := n1_; have BK101 := n2_; have HB := n3_; have BK124 := n4_; have GW124 := n5_; have GE124 := n6_; have NB101_124 := n7_; have NB124_101 := n8_; clear n0_ n1_ n2_ n3_ n4_ n5_ n6_ n7_ n8_; clear hb hbox hg; have hnb73 := NB124_101.out; have hnc73 := NB101_124.out; have hcz74_0 : w72.cell? ⟨gb124, 0, none⟩ = some (.int .i64 0) := (blk_cell BK124.out 0).trans rfl; have hcz74_1 : w72.cell? ⟨gb124, 1, none⟩ = some (.int .i64 0) := (blk_cell BK124.out 1).trans rfl; have hfz74_0 := blk_frozen BK124.out 0; have hfz74_1 := blk_frozen BK124.out 1))
                       have n0_ : Aside0 (Kd.R (Kd.int .i64) 3 ((w72.setCell ⟨gb124, 0, none⟩ (.int .i64 ((rd_T60 x10_4 x12_4).f0))).setCell ⟨gb124, 1, none⟩ (.int .i64 ((rd_T60 x10_4 x12_4).f1))) w.heap.size (fun _ => True) (.slice Ao24 t105.length co24) t105) := ⟨by (with_reducible repeat (first | apply Kd.R_alloc | apply Kd.R_drewN | apply Kd.R_drew)); exact Kd.R_mono (Kd.R_far (p := ⟨gb124, 1, none⟩) (Kd.R_far (p := ⟨gb124, 0, none⟩) (Kd.R_types HO_4.out BK124.out (by decide)) (fun _ hk => hk.2) (.int .i64 ((rd_T60 x10_4 x12_4).f0))) (fun _ hk => hk.2) (.int .i64 ((rd_T60 x10_4 x12_4).f1))) (fun _ hk => trivial)⟩
                       have n1_ : Aside0 (Kd.R k60 60 ((w72.setCell ⟨gb124, 0, none⟩ (.int .i64 ((rd_T60 x10_4 x12_4).f0))).setCell ⟨gb124, 1, none⟩ (.int .i64 ((rd_T60 x10_4 x12_4).f1))) w.heap.size (fun k_ => k_ ≠ gb124) (.slice (some ad123) x10_4.length co71) x10_4) := ⟨by (with_reducible repeat (first | apply Kd.R_alloc | apply Kd.R_drewN | apply Kd.R_drew)); exact Kd.R_mono (Kd.R_far (p := ⟨gb124, 1, none⟩) (Kd.R_far (p := ⟨gb124, 0, none⟩) (Kd.R_mono HO_10.out (fun k_ hk => (⟨hk, hk.2⟩ : _ ∧ k_ ≠ gb124))) (fun _ hk => hk.2) (.int .i64 ((rd_T60 x10_4 x12_4).f0))) (fun _ hk => hk.2) (.int .i64 ((rd_T60 x10_4 x12_4).f1))) (fun _ hk => hk.1.2)⟩
                       have n2_ : Aside0 (((w72.setCell ⟨gb124, 0, none⟩ (.int .i64 ((rd_T60 x10_4 x12_4).f0))).setCell ⟨gb124, 1, none⟩ (.int .i64 ((rd_T60 x10_4 x12_4).f1))).heap[gb101]? = some (.cells #[.int .i64 a0_0, .slice A0_1 l0_1.length c0_1, .slice A0_2 l0_2.length c0_2] 25 (0, 0))) := ⟨by (with_reducible repeat (first | refine blk_drewN ?_ _ | refine blk_drew ?_ | refine blk_alloc ?_ _)); refine blk_far ?_ NB101_124.out _; (with_reducible repeat (first | refine blk_drewN ?_ _ | refine blk_drew ?_ | refine blk_alloc ?_ _)); refine blk_far ?_ NB101_124.out _; (with_reducible repeat (first | refine blk_drewN ?_ _ | refine blk_drew ?_ | refine blk_alloc ?_ _)); exact BK101.out⟩
                       have n3_ : Aside0 (((w72.setCell ⟨gb124, 0, none⟩ (.int .i64 ((rd_T60 x10_4 x12_4).f0))).setCell ⟨gb124, 1, none⟩ (.int .i64 ((rd_T60 x10_4 x12_4).f1))).heap[gb124]? = some (.cells #[.int .i64 ((rd_T60 x10_4 x12_4).f0), .int .i64 ((rd_T60 x10_4 x12_4).f1)] 60 (0, 0))) := ⟨by (with_reducible repeat (first | refine blk_drewN ?_ _ | refine blk_drew ?_ | refine blk_alloc ?_ _)); refine blk_put (cs := #[.int .i64 ((rd_T60 x10_4 x12_4).f0), .int .i64 0]) ?_ 1 _ rfl; (with_reducible repeat (first | refine blk_drewN ?_ _ | refine blk_drew ?_ | refine blk_alloc ?_ _)); refine blk_put (cs := #[.int .i64 0, .int .i64 0]) ?_ 0 _ rfl; (with_reducible repeat (first | refine blk_drewN ?_ _ | refine blk_drew ?_ | refine blk_alloc ?_ _)); exact BK124.out⟩
                       have n4_ : Aside0 (Below w.heap.size w ((w72.setCell ⟨gb124, 0, none⟩ (.int .i64 ((rd_T60 x10_4 x12_4).f0))).setCell ⟨gb124, 1, none⟩ (.int .i64 ((rd_T60 x10_4 x12_4).f1)))) := ⟨by repeat (first | (with_reducible first | exact HB.out | apply below_alloc | apply pw_below_drewN | apply below_drew1 | refine below_set ?_ GE101.out | refine below_set ?_ GE124.out) | exact HB.out)⟩
                       (try clear HO_4)
                       (try clear HO_10)
                       (try clear BK101)
                       (try clear BK124)
                       (try clear HB)
                       generalize ((w72.setCell ⟨gb124, 0, none⟩ (.int .i64 ((rd_T60 x10_4 x12_4).f0))).setCell ⟨gb124, 1, none⟩ (.int .i64 ((rd_T60 x10_4 x12_4).f1))) = w75 at n0_ n1_ n2_ n3_ n4_ ⊢
                       have HO_4 := n0_
                       have HO_10 := n1_
                       have BK101 := n2_
                       have BK124 := n3_
                       have HB := n4_
                       clear n0_ n1_ n2_ n3_ n4_
                       have n0_ := Aside0.mk (Kd.R_drew HO_4.out)
                       have n1_ := Aside0.mk (Kd.R_drew HO_10.out)
                       have n2_ := Aside0.mk (blk_drew BK101.out)
                       have n3_ := Aside0.mk (blk_drew BK124.out)
                       have n4_ := Aside0.mk (below_drew1 HB.out)
                       clear HO_4
                       clear HO_10
                       clear BK101
                       clear BK124
                       clear HB
                       have HO_4 := n0_
                       have HO_10 := n1_
                       have BK101 := n2_
                       have BK124 := n3_
                       have HB := n4_
                       clear n0_ n1_ n2_ n3_ n4_
                       have p125 : 0 ≤ (((rd_T60 x10_4 x12_4).f0) : Int) := of_decide_eq_true (by first | (with_reducible assumption) | assumption)
                       have q125 : ((rd_T60 x10_4 x12_4).f0) < (l0_2.length : Int) := of_decide_eq_true (by first | (with_reducible assumption) | assumption)
                       obtain ⟨ad125, e125, hx125_0⟩ := Kd.at_bool HR0_2.out ((rd_T60 x10_4 x12_4).f0) p125 q125
                       have hw125_0 := hx125_0
                       cases e125
                       replace hx125_0 := (HB.out.cell (World.block_lt_of_cell? w _ hx125_0)).trans hx125_0
                       replace p125 := eq_true p125
                       replace q125 := eq_true q125
                       have p126 : 0 ≤ (((rd_T60 x10_4 x12_4).f1) : Int) := of_decide_eq_true (by first | (with_reducible assumption) | assumption)
                       have q126 : ((rd_T60 x10_4 x12_4).f1) < (l0_2.length : Int) := of_decide_eq_true (by first | (with_reducible assumption) | assumption)
                       obtain ⟨ad126, e126, hx126_0⟩ := Kd.at_bool HR0_2.out ((rd_T60 x10_4 x12_4).f1) p126 q126
                       have hw126_0 := hx126_0
                       obtain rfl : ad125 = ad126 := (by injection e126)
                       replace hx126_0 := (HB.out.cell (World.block_lt_of_cell? w _ hx126_0)).trans hx126_0
                       replace p126 := eq_true p126
                       replace q126 := eq_true q126
                       refine start_ (n := 14) (S := fun w' => w'.cell? ⟨gb101, 0, none⟩ = some (.int .i64 a0_0) ∧ w'.cell? ⟨gb101, 1, none⟩ = some (.slice A0_1 l0_1.length c0_1) ∧ w'.cell? ⟨gb101, 2, none⟩ = some (.slice (some ad125) l0_2.length c0_2) ∧ w'.cell? ⟨gb124, 0, none⟩ = some (.int .i64 ((rd_T60 x10_4 x12_4).f0)) ∧ w'.cell? ⟨gb124, 1, none⟩ = some (.int .i64 ((rd_T60 x10_4 x12_4).f1)) ∧ w'.cell? (ad125.add (((rd_T60 x10_4 x12_4).f0)).toNat) = some (.bool (rdOf false l0_2 ((rd_T60 x10_4 x12_4).f0))) ∧ w'.cell? (ad125.add (((rd_T60 x10_4 x12_4).f1)).toNat) = some (.bool (rdOf false l0_2 ((rd_T60 x10_4 x12_4).f1)))) (ds := []) #[false, false, false, false, false, false, false, false, false, false, false, false, false, false] (by kernel_rfl) rfl rfl ⟨(blk_cell BK101.out 0).trans rfl, (blk_cell BK101.out 1).trans rfl, (blk_cell BK101.out 2).trans rfl, (blk_cell BK124.out 0).trans rfl, (blk_cell BK124.out 1).trans rfl, ((HB.out.cell (World.block_lt_of_cell? w _ hw125_0)).trans hw125_0), ((HB.out.cell (World.block_lt_of_cell? w _ hw126_0)).trans hw126_0)⟩ (fun hHeld => ?_); refine with_tabW caesuralaw21_LeastAlike.tab30 caesuralaw21_LeastAlike.bits30 (fun HT_ HW_ => ?_)
                       generalize w75.drew = w76 at HO_4 HO_10 BK101 BK124 HB hx125_0 hx126_0 hHeld ⊢
                       refine pure_ (i := 0) (N := some 136) (v := ?_) (a' := ?_) #[true, false, false, false, false, false, false, false, false, false, false, false, false, false] rfl rfl (any_of HT_.out (by kernel_rfl)) (fun _ _ _ h => h) (Or.inl ⟨by rfl, ?_⟩) ?_ ?_
                       rotate_left
                       ·intro w'
                        go_simp
                        with_reducible rfl
                       rotate_left
                       ·simp only [Act.put, List.setIfInBounds_toArray, List.set_cons_zero, List.set_cons_succ, i64_w, i32_w]
                        rfl
                       refine pure_ (i := 2) (N := some 138) (v := ?_) (a' := ?_) #[true, false, true, false, false, false, false, false, false, false, false, false, false, false] rfl rfl (any_of HT_.out (by kernel_rfl)) (fun _ _ _ h => h) (Or.inl ⟨by rfl, ?_⟩) ?_ ?_
                       rotate_left
                       ·intro w'
                        go_simp
                        with_reducible rfl
                       rotate_left
                       ·simp only [Act.put, List.setIfInBounds_toArray, List.set_cons_zero, List.set_cons_succ, i64_w, i32_w]
                        rfl
                       refine pure_ (i := 6) (N := some 142) (v := ?_) (a' := ?_) #[true, false, true, false, false, false, true, false, false, false, false, false, false, false] rfl rfl (any_of HT_.out (by kernel_rfl)) (fun _ _ _ h => h) (Or.inl ⟨by rfl, ?_⟩) ?_ ?_
                       rotate_left
                       ·intro w'
                        go_simp
                        with_reducible rfl
                       rotate_left
                       ·simp only [Act.put, List.setIfInBounds_toArray, List.set_cons_zero, List.set_cons_succ, i64_w, i32_w]
                        rfl
                       refine pure_ (i := 8) (N := some 144) (v := ?_) (a' := ?_) #[true, false, true, false, false, false, true, false, true, false, false, false, false, false] rfl rfl (any_of HT_.out (by kernel_rfl)) (fun _ _ _ h => h) (Or.inl ⟨by rfl, ?_⟩) ?_ ?_
                       rotate_left
                       ·intro w'
                        go_simp
                        with_reducible rfl
                       rotate_left
                       ·simp only [Act.put, List.setIfInBounds_toArray, List.set_cons_zero, List.set_cons_succ, i64_w, i32_w]
                        rfl
                       refine take_ (i := 1) (N := some 137) (v := ?_) (a' := ?_) #[true, true, true, false, false, false, true, false, true, false, false, false, false, false] rfl rfl (take_ofW HT_.out HW_.out (by kernel_rfl)) (fun _ _ _ h => h) (Or.inl ⟨by rfl, ?_⟩) hHeld ?_ ?_
                       rotate_left
                       ·rintro w' ⟨s0, s1, s2, s3, s4, s5, s6⟩
                        go_simp
                        with_reducible rfl
                       rotate_left
                       ·simp only [Act.put, List.setIfInBounds_toArray, List.set_cons_zero, List.set_cons_succ, i64_w, i32_w]
                        rfl
                       refine take_ (i := 3) (N := some 139) (v := ?_) (a' := ?_) #[true, true, true, true, false, false, true, false, true, false, false, false, false, false] rfl rfl (take_ofW HT_.out HW_.out (by kernel_rfl)) (fun _ _ _ h => h) (Or.inl ⟨by rfl, ?_⟩) hHeld ?_ ?_
                       rotate_left
                       ·rintro w' ⟨s0, s1, s2, s3, s4, s5, s6⟩
                        go_simp
                        with_reducible rfl
                       rotate_left
                       ·simp only [Act.put, List.setIfInBounds_toArray, List.set_cons_zero, List.set_cons_succ, i64_w, i32_w]
                        rfl
                       refine pure_ (i := 4) (N := some 140) (v := ?_) (a' := ?_) #[true, true, true, true, true, false, true, false, true, false, false, false, false, false] rfl rfl (any_of HT_.out (by kernel_rfl)) (fun _ _ _ h => h) (Or.inl ⟨by rfl, ?_⟩) ?_ ?_
                       rotate_left
                       ·intro w'
                        go_simp
                        with_reducible rfl
                       rotate_left
                       ·simp only [Act.put, List.setIfInBounds_toArray, List.set_cons_zero, List.set_cons_succ, i64_w, i32_w]
                        rfl
                       refine take_ (i := 5) (N := some 141) (v := ?_) (a' := ?_) #[true, true, true, true, true, true, true, false, true, false, false, false, false, false] rfl rfl (take_ofW HT_.out HW_.out (by kernel_rfl)) (fun _ _ _ h => h) (Or.inl ⟨by rfl, ?_⟩) hHeld ?_ ?_
                       rotate_left
                       ·rintro w' ⟨s0, s1, s2, s3, s4, s5, s6⟩
                        go_simp
                        with_reducible rfl
                       rotate_left
                       ·simp only [Act.put, List.setIfInBounds_toArray, List.set_cons_zero, List.set_cons_succ, i64_w, i32_w]
                        rfl
                       refine take_ (i := 7) (N := some 143) (v := ?_) (a' := ?_) #[true, true, true, true, true, true, true, true, true, false, false, false, false, false] rfl rfl (take_ofW HT_.out HW_.out (by kernel_rfl)) (fun _ _ _ h => h) (Or.inl ⟨by rfl, ?_⟩) hHeld ?_ ?_
                       rotate_left
                       ·rintro w' ⟨s0, s1, s2, s3, s4, s5, s6⟩
                        go_simp
                        with_reducible rfl
                       rotate_left
                       ·simp only [Act.put, List.setIfInBounds_toArray, List.set_cons_zero, List.set_cons_succ, i64_w, i32_w]
                        rfl
                       refine take_ (i := 9) (N := some 145) (v := ?_) (a' := ?_) #[true, true, true, true, true, true, true, true, true, true, false, false, false, false] rfl rfl (take_ofW HT_.out HW_.out (by kernel_rfl)) (fun _ _ _ h => h) (Or.inl ⟨by rfl, ?_⟩) hHeld ?_ ?_
                       rotate_left
                       ·rintro w' ⟨s0, s1, s2, s3, s4, s5, s6⟩
                        go_simp
                        with_reducible rfl
                       rotate_left
                       ·simp only [Act.put, List.setIfInBounds_toArray, List.set_cons_zero, List.set_cons_succ, i64_w, i32_w]
                        rfl
                       refine pure_ (i := 10) (N := some 146) (v := ?_) (a' := ?_) #[true, true, true, true, true, true, true, true, true, true, true, false, false, false] rfl rfl (any_of HT_.out (by kernel_rfl)) (fun _ _ _ h => h) (Or.inl ⟨by rfl, ?_⟩) ?_ ?_
                       rotate_left
                       ·intro w'
                        go_simp
                        with_reducible rfl
                       rotate_left
                       ·simp only [Act.put, List.setIfInBounds_toArray, List.set_cons_zero, List.set_cons_succ, i64_w, i32_w]
                        rfl
                       refine take_ (i := 11) (N := some 147) (v := ?_) (a' := ?_) #[true, true, true, true, true, true, true, true, true, true, true, true, false, false] rfl rfl (take_ofW HT_.out HW_.out (by kernel_rfl)) (fun _ _ _ h => h) (Or.inl ⟨by rfl, ?_⟩) hHeld ?_ ?_
                       rotate_left
                       ·rintro w' ⟨s0, s1, s2, s3, s4, s5, s6⟩
                        go_simp
                        with_reducible rfl
                       rotate_left
                       ·simp only [Act.put, List.setIfInBounds_toArray, List.set_cons_zero, List.set_cons_succ, i64_w, i32_w]
                        rfl
                       refine pure_ (i := 12) (N := some 148) (v := ?_) (a' := ?_) #[true, true, true, true, true, true, true, true, true, true, true, true, true, false] rfl rfl (any_of HT_.out (by kernel_rfl)) (fun _ _ _ h => h) (Or.inl ⟨by rfl, ?_⟩) ?_ ?_
                       rotate_left
                       ·intro w'
                        go_simp
                        with_reducible rfl
                       rotate_left
                       ·simp only [Act.put, List.setIfInBounds_toArray, List.set_cons_zero, List.set_cons_succ, i64_w, i32_w]
                        rfl
                       refine pure_ (i := 13) (N := some 11) (v := ?_) (a' := ?_) #[true, true, true, true, true, true, true, true, true, true, true, true, true, true] rfl rfl (any_of HT_.out (by kernel_rfl)) (fun _ _ _ h => h) (Or.inl ⟨by rfl, ?_⟩) ?_ ?_
                       rotate_left
                       ·intro w'
                        go_simp
                        with_reducible rfl
                       rotate_left
                       ·simp only [Act.put, List.setIfInBounds_toArray, List.set_cons_zero, List.set_cons_succ, i64_w, i32_w]
                        rfl
                       refine done_ (done_of HT_.out (by kernel_rfl)) ?_
                       try go_wp2
                       go_loopg [10, 14] k4 (fun kq v10 v14 w' => ∃ (x10_5 : List (S60)) (x14_5 : Int), v14 = .int .i64 x14_5 ∧ Aside0 (caesuralaw21_LeastAlike.l5 kq (l0_1.length : Int) t105 x8_2 x9_3 x10_5 ((rdOf false l0_2 ((rd_T60 x10_4 x12_4).f0)) != (rdOf false l0_2 ((rd_T60 x10_4 x12_4).f1))) x12_4 x14_5 a0_0 l0_1 l0_2 ((rd_T60 x10_4 x12_4).f0) ((rd_T60 x10_4 x12_4).f1) = some r) ∧ Aside0 (kq ≤ k4) ∧ Aside0 (Kd.R (Kd.int .i64) 3 w' w.heap.size (fun _ => True) (.slice Ao24 t105.length co24) t105) ∧ Aside0 (Kd.R k60 60 w' w.heap.size (fun k_ => k_ ≠ gb124) v10 x10_5) ∧ Aside0 (w'.heap[gb101]? = some (.cells #[.int .i64 a0_0, (.slice A0_1 l0_1.length c0_1), (.slice (some ad125) l0_2.length c0_2)] 25 (0, 0))) ∧ Aside0 (w'.heap[gb124]? = some (.cells #[.int .i64 ((rd_T60 x10_4 x12_4).f0), .int .i64 ((rd_T60 x10_4 x12_4).f1)] 60 (0, 0))) ∧ Aside0 (Below w.heap.size w w'))
                       case atStart => exact ⟨(x10_4), (0), (by first | rfl | (simp; done) | (simp [*]; done)), H', ⟨Nat.le_refl _⟩, ⟨by (with_reducible repeat (first | apply Kd.R_alloc | apply Kd.R_drewN | apply Kd.R_drew)); exact HO_4.out⟩, ⟨by (with_reducible repeat (first | apply Kd.R_alloc | apply Kd.R_drewN | apply Kd.R_drew)); exact HO_10.out⟩, ⟨by (with_reducible repeat (first | refine blk_drewN ?_ _ | refine blk_drew ?_ | refine blk_alloc ?_ _)); exact BK101.out⟩, ⟨by (with_reducible repeat (first | refine blk_drewN ?_ _ | refine blk_drew ?_ | refine blk_alloc ?_ _)); exact BK124.out⟩, ⟨by repeat (first | (with_reducible first | exact HB.out | apply below_alloc | apply pw_below_drewN | apply below_drew1 | refine below_set ?_ GE101.out | refine below_set ?_ GE124.out) | exact HB.out)⟩⟩
                       case round =>
                        clear H'
                        try clear c1
                        try clear p1
                        try clear q1
                        try clear hx1
                        try clear c2
                        try clear p2
                        try clear c3
                        try clear c4
                        try clear c5
                        try clear c6
                        try clear c6b0
                        try clear c6b1
                        try clear p6
                        try clear c7
                        try clear c8
                        try clear p10
                        try clear q10
                        try clear hx10
                        try clear c11
                        try clear p11
                        try clear q11
                        try clear hx11
                        try clear p12
                        try clear q12
                        try clear hx12
                        try clear c16
                        try clear c16b0
                        try clear c16b1
                        try clear c16b2
                        try clear c25
                        try clear c25b0
                        try clear c26
                        try clear c26b0
                        try clear c27
                        try clear c27b0
                        try clear c28
                        try clear c28b0
                        try clear c29
                        try clear c29b0
                        try clear c30
                        try clear c30b0
                        try clear c31
                        try clear c31b0
                        try clear c32
                        try clear c32b0
                        try clear c32b1
                        try clear c33
                        try clear c33b0
                        try clear c34
                        try clear c34b0
                        try clear c35
                        try clear c35b0
                        try clear c35b1
                        try clear c35b2
                        try clear c37
                        try clear c37b0
                        try clear c38
                        try clear c38b0
                        try clear c39
                        try clear c39b0
                        try clear c40
                        try clear c40b0
                        try clear c41
                        try clear c41b0
                        try clear c42
                        try clear c42b0
                        try clear c43
                        try clear c43b0
                        try clear c44
                        try clear c44b0
                        try clear c45
                        try clear c45b0
                        try clear c46
                        try clear c46b0
                        try clear c47
                        try clear c47b0
                        try clear c48
                        try clear c48b0
                        try clear c49
                        try clear c49b0
                        try clear c49b1
                        try clear c53
                        try clear c53b0
                        try clear c54
                        try clear c54b0
                        try clear c57
                        try clear c57b0
                        try clear c58
                        try clear c59
                        try clear c59b0
                        try clear c60
                        try clear c60b0
                        try clear c61
                        try clear c61b0
                        try clear c62
                        try clear c62b0
                        try clear c63
                        try clear c63b0
                        try clear c63b1
                        try clear c63b2
                        try clear p64
                        try clear c66
                        try clear c66b0
                        try clear c67
                        try clear c67b0
                        try clear c68
                        try clear c68b0
                        try clear c69
                        try clear c69b0
                        try clear c70
                        try clear c70b0
                        try clear c73
                        try clear hcz11_0
                        try clear hcz11_1
                        try clear hcz11_2
                        try clear hcz13_0
                        try clear hcz13_1
                        try clear hcz13_2
                        try clear hcz18_0
                        try clear hcz18_1
                        try clear hcz18_2
                        try clear hcz20_0
                        try clear hcz20_1
                        try clear hcz20_2
                        try clear hcz22_0
                        try clear hcz22_1
                        try clear hcz22_2
                        try clear hcz50_0
                        try clear hcz50_1
                        try clear hcz50_2
                        try clear hcz52_0
                        try clear hcz52_1
                        try clear hcz52_2
                        try clear hcz74_0
                        try clear hcz74_1
                        try clear hcz9_0
                        try clear hcz9_1
                        try clear hcz9_2
                        try clear hfz11_0
                        try clear hfz11_1
                        try clear hfz11_2
                        try clear hfz13_0
                        try clear hfz13_1
                        try clear hfz13_2
                        try clear hfz18_0
                        try clear hfz18_1
                        try clear hfz18_2
                        try clear hfz20_0
                        try clear hfz20_1
                        try clear hfz20_2
                        try clear hfz22_0
                        try clear hfz22_1
                        try clear hfz22_2
                        try clear hfz50_0
                        try clear hfz50_1
                        try clear hfz50_2
                        try clear hfz52_0
                        try clear hfz52_1
                        try clear hfz52_2
                        try clear hfz74_0
                        try clear hfz74_1
                        try clear hfz9_0
                        try clear hfz9_1
                        try clear hfz9_2
                        try clear hx108_0
                        try clear hx109_0
                        try clear hx110_0
                        try clear hx111_0
                        try clear hx112_0
                        try clear hx113_0
                        try clear hx114_0
                        try clear hx115_0
                        try clear hx116_0
                        try clear hx117_0
                        try clear hx121_0
                        try clear hx122_0
                        try clear hx123_0
                        try clear hx123_1
                        try clear hx125_0
                        try clear hx126_0
                        try clear p1
                        try clear p10
                        try clear p108
                        try clear p109
                        try clear p11
                        try clear p110
                        try clear p111
                        try clear p112
                        try clear p113
                        try clear p114
                        try clear p115
                        try clear p116
                        try clear p117
                        try clear p121
                        try clear p122
                        try clear p123
                        try clear p125
                        try clear p126
                        try clear p2
                        try clear p6
                        try clear q1
                        try clear q10
                        try clear q108
                        try clear q109
                        try clear q11
                        try clear q110
                        try clear q111
                        try clear q112
                        try clear q113
                        try clear q114
                        try clear q115
                        try clear q116
                        try clear q117
                        try clear q121
                        try clear q122
                        try clear q123
                        try clear q125
                        try clear q126
                        obtain ⟨x10_5, x14_5, rfl, HA, HK5, HO_4, HO_10, BK101, BK124, HB⟩ := hrel
                        cases gk with
                        | zero => exact absurd HA.out (by simp [caesuralaw21_LeastAlike.l5])
                        | succ k5 =>
                         have H := HA.out
                         clear HA
                         simp only [caesuralaw21_LeastAlike.l5] at H
                         by_cases c77 : x14_5 < a0_0
                         ·rw [if_pos c77] at H
                          have c77b0 : decide (x14_5 < a0_0) = true := decide_eq_true c77
                          clear c77
                          by_cases c78 : 0 ≤ ((rd_T60 x10_4 x12_4).f0)
                          ·rw [if_pos c78] at H
                           have c78b0 : decide (0 ≤ ((rd_T60 x10_4 x12_4).f0)) = true := decide_eq_true c78
                           clear c78
                           by_cases c79 : ((rd_T60 x10_4 x12_4).f0) < (l0_1.length : Int)
                           ·rw [if_pos c79] at H
                            have c79b0 : decide (((rd_T60 x10_4 x12_4).f0) < (l0_1.length : Int)) = true := decide_eq_true c79
                            clear c79
                            by_cases c80 : 0 ≤ x14_5
                            ·rw [if_pos c80] at H
                             have c80b0 : decide (0 ≤ x14_5) = true := decide_eq_true c80
                             clear c80
                             by_cases c81 : x14_5 < ((rd_L5 l0_1 ((rd_T60 x10_4 x12_4).f0)).length : Int)
                             ·rw [if_pos c81] at H
                              have c81b0 : decide (x14_5 < ((rd_L5 l0_1 ((rd_T60 x10_4 x12_4).f0)).length : Int)) = true := decide_eq_true c81
                              clear c81
                              by_cases c82 : 0 ≤ ((rd_T60 x10_4 x12_4).f1)
                              ·rw [if_pos c82] at H
                               have c82b0 : decide (0 ≤ ((rd_T60 x10_4 x12_4).f1)) = true := decide_eq_true c82
                               clear c82
                               by_cases c83 : ((rd_T60 x10_4 x12_4).f1) < (l0_1.length : Int)
                               ·rw [if_pos c83] at H
                                have c83b0 : decide (((rd_T60 x10_4 x12_4).f1) < (l0_1.length : Int)) = true := decide_eq_true c83
                                clear c83
                                by_cases c84 : x14_5 < ((rd_L5 l0_1 ((rd_T60 x10_4 x12_4).f1)).length : Int)
                                ·rw [if_pos c84] at H
                                 have c84b0 : decide (x14_5 < ((rd_L5 l0_1 ((rd_T60 x10_4 x12_4).f1)).length : Int)) = true := decide_eq_true c84
                                 clear c84
                                 have H' := Aside0.mk H
                                 clear H
                                 have hnb85 := NB101_124.out
                                 have hnc85 := NB124_101.out
                                 have hcz86_0 : wr.cell? ⟨gb101, 0, none⟩ = some (.int .i64 a0_0) := (blk_cell BK101.out 0).trans rfl
                                 have hcz86_1 : wr.cell? ⟨gb101, 1, none⟩ = some (.slice A0_1 l0_1.length c0_1) := (blk_cell BK101.out 1).trans rfl
                                 have hcz86_2 : wr.cell? ⟨gb101, 2, none⟩ = some (.slice (some ad125) l0_2.length c0_2) := (blk_cell BK101.out 2).trans rfl
                                 have hfz86_0 := blk_frozen BK101.out 0
                                 have hfz86_1 := blk_frozen BK101.out 1
                                 have hfz86_2 := blk_frozen BK101.out 2
                                 try go_wp2
                                 have n0_ := Aside0.mk (Kd.R_drew HO_4.out)
                                 have n1_ := Aside0.mk (Kd.R_drew HO_10.out)
                                 have n2_ := Aside0.mk (blk_drew BK101.out)
                                 have n3_ := Aside0.mk (blk_drew BK124.out)
                                 have n4_ := Aside0.mk (below_drew1 HB.out)
                                 clear HO_4
                                 clear HO_10
                                 clear BK101
                                 clear BK124
                                 clear HB
                                 have HO_4 := n0_
                                 have HO_10 := n1_
                                 have BK101 := n2_
                                 have BK124 := n3_
                                 have HB := n4_
                                 clear n0_ n1_ n2_ n3_ n4_
                                 have p127 : 0 ≤ (((rd_T60 x10_4 x12_4).f0) : Int) := of_decide_eq_true (by first | (with_reducible assumption) | assumption)
                                 have q127 : ((rd_T60 x10_4 x12_4).f0) < (l0_1.length : Int) := of_decide_eq_true (by first | (with_reducible assumption) | assumption)
                                 obtain ⟨ad127, A127_0, c127_0, e127, hx127_0, hl127_0, hi127_0⟩ := at_L5 HR0_1.out ((rd_T60 x10_4 x12_4).f0) p127 q127
                                 have hw127_0 := hx127_0
                                 cases e127
                                 replace hx127_0 := (HB.out.cell (World.block_lt_of_cell? w _ hx127_0)).trans hx127_0
                                 have HR127_0 := Aside0.mk hi127_0
                                 have HC127_0 := Aside0.mk hl127_0
                                 clear hi127_0 hl127_0
                                 replace p127 := eq_true p127
                                 replace q127 := eq_true q127
                                 have p128 : 0 ≤ (x14_5 : Int) := of_decide_eq_true (by first | (with_reducible assumption) | assumption)
                                 have q128 : x14_5 < ((rd_L5 l0_1 ((rd_T60 x10_4 x12_4).f0)).length : Int) := of_decide_eq_true (by first | (with_reducible assumption) | assumption)
                                 obtain ⟨ad128, e128, hx128_0⟩ := Kd.at_int HR127_0.out x14_5 p128 q128
                                 have hw128_0 := hx128_0
                                 cases e128
                                 replace hx128_0 := (HB.out.cell (World.block_lt_of_cell? w _ hx128_0)).trans hx128_0
                                 replace p128 := eq_true p128
                                 replace q128 := eq_true q128
                                 have p129 : 0 ≤ (((rd_T60 x10_4 x12_4).f1) : Int) := of_decide_eq_true (by first | (with_reducible assumption) | assumption)
                                 have q129 : ((rd_T60 x10_4 x12_4).f1) < (l0_1.length : Int) := of_decide_eq_true (by first | (with_reducible assumption) | assumption)
                                 obtain ⟨ad129, A129_0, c129_0, e129, hx129_0, hl129_0, hi129_0⟩ := at_L5 HR0_1.out ((rd_T60 x10_4 x12_4).f1) p129 q129
                                 have hw129_0 := hx129_0
                                 obtain rfl : ad127 = ad129 := (by injection e129)
                                 replace hx129_0 := (HB.out.cell (World.block_lt_of_cell? w _ hx129_0)).trans hx129_0
                                 have HR129_0 := Aside0.mk hi129_0
                                 have HC129_0 := Aside0.mk hl129_0
                                 clear hi129_0 hl129_0
                                 replace p129 := eq_true p129
                                 replace q129 := eq_true q129
                                 have p130 : 0 ≤ (x14_5 : Int) := of_decide_eq_true (by first | (with_reducible assumption) | assumption)
                                 have q130 : x14_5 < ((rd_L5 l0_1 ((rd_T60 x10_4 x12_4).f1)).length : Int) := of_decide_eq_true (by first | (with_reducible assumption) | assumption)
                                 obtain ⟨ad130, e130, hx130_0⟩ := Kd.at_int HR129_0.out x14_5 p130 q130
                                 have hw130_0 := hx130_0
                                 cases e130
                                 replace hx130_0 := (HB.out.cell (World.block_lt_of_cell? w _ hx130_0)).trans hx130_0
                                 replace p130 := eq_true p130
                                 replace q130 := eq_true q130
                                 refine start_ (n := 21) (S := fun w' => w'.cell? ⟨gb101, 0, none⟩ = some (.int .i64 a0_0) ∧ w'.cell? ⟨gb101, 1, none⟩ = some (.slice (some ad127) l0_1.length c0_1) ∧ w'.cell? ⟨gb101, 2, none⟩ = some (.slice (some ad125) l0_2.length c0_2) ∧ w'.cell? ⟨gb124, 0, none⟩ = some (.int .i64 ((rd_T60 x10_4 x12_4).f0)) ∧ w'.cell? ⟨gb124, 1, none⟩ = some (.int .i64 ((rd_T60 x10_4 x12_4).f1)) ∧ w'.cell? (ad127.add (((rd_T60 x10_4 x12_4).f0)).toNat) = some (.slice (some ad128) (rd_L5 l0_1 ((rd_T60 x10_4 x12_4).f0)).length c127_0) ∧ w'.cell? (ad128.add (x14_5).toNat) = some (.int .i64 (rd (rd_L5 l0_1 ((rd_T60 x10_4 x12_4).f0)) x14_5)) ∧ w'.cell? (ad127.add (((rd_T60 x10_4 x12_4).f1)).toNat) = some (.slice (some ad130) (rd_L5 l0_1 ((rd_T60 x10_4 x12_4).f1)).length c129_0) ∧ w'.cell? (ad130.add (x14_5).toNat) = some (.int .i64 (rd (rd_L5 l0_1 ((rd_T60 x10_4 x12_4).f1)) x14_5))) (ds := []) #[false, false, false, false, false, false, false, false, false, false, false, false, false, false, false, false, false, false, false, false, false] (by kernel_rfl) rfl rfl ⟨(blk_cell BK101.out 0).trans rfl, (blk_cell BK101.out 1).trans rfl, (blk_cell BK101.out 2).trans rfl, (blk_cell BK124.out 0).trans rfl, (blk_cell BK124.out 1).trans rfl, ((HB.out.cell (World.block_lt_of_cell? w _ hw127_0)).trans hw127_0), ((HB.out.cell (World.block_lt_of_cell? w _ hw128_0)).trans hw128_0), ((HB.out.cell (World.block_lt_of_cell? w _ hw129_0)).trans hw129_0), ((HB.out.cell (World.block_lt_of_cell? w _ hw130_0)).trans hw130_0)⟩ (fun hHeld => ?_); refine with_tabW caesuralaw21_LeastAlike.tab34 caesuralaw21_LeastAlike.bits34 (fun HT_ HW_ => ?_)
                                 generalize wr.drew = w87 at HO_4 HO_10 BK101 BK124 HB HR127_0 HR129_0 hx127_0 hx128_0 hx129_0 hx130_0 hHeld ⊢
                                 refine pure_ (i := 0) (N := some 155) (v := ?_) (a' := ?_) #[true, false, false, false, false, false, false, false, false, false, false, false, false, false, false, false, false, false, false, false, false] rfl rfl (any_of HT_.out (by kernel_rfl)) (fun _ _ _ h => h) (Or.inl ⟨by rfl, ?_⟩) ?_ ?_
                                 rotate_left
                                 ·intro w'
                                  go_simp
                                  with_reducible rfl
                                 rotate_left
                                 ·simp only [Act.put, List.setIfInBounds_toArray, List.set_cons_zero, List.set_cons_succ, i64_w, i32_w]
                                  rfl
                                 refine pure_ (i := 2) (N := some 157) (v := ?_) (a' := ?_) #[true, false, true, false, false, false, false, false, false, false, false, false, false, false, false, false, false, false, false, false, false] rfl rfl (any_of HT_.out (by kernel_rfl)) (fun _ _ _ h => h) (Or.inl ⟨by rfl, ?_⟩) ?_ ?_
                                 rotate_left
                                 ·intro w'
                                  go_simp
                                  with_reducible rfl
                                 rotate_left
                                 ·simp only [Act.put, List.setIfInBounds_toArray, List.set_cons_zero, List.set_cons_succ, i64_w, i32_w]
                                  rfl
                                 refine pure_ (i := 6) (N := some 161) (v := ?_) (a' := ?_) #[true, false, true, false, false, false, true, false, false, false, false, false, false, false, false, false, false, false, false, false, false] rfl rfl (any_of HT_.out (by kernel_rfl)) (fun _ _ _ h => h) (Or.inl ⟨by rfl, ?_⟩) ?_ ?_
                                 rotate_left
                                 ·intro w'
                                  go_simp
                                  with_reducible rfl
                                 rotate_left
                                 ·simp only [Act.put, List.setIfInBounds_toArray, List.set_cons_zero, List.set_cons_succ, i64_w, i32_w]
                                  rfl
                                 refine pure_ (i := 9) (N := some 164) (v := ?_) (a' := ?_) #[true, false, true, false, false, false, true, false, false, true, false, false, false, false, false, false, false, false, false, false, false] rfl rfl (any_of HT_.out (by kernel_rfl)) (fun _ _ _ h => h) (Or.inl ⟨by rfl, ?_⟩) ?_ ?_
                                 rotate_left
                                 ·intro w'
                                  go_simp
                                  with_reducible rfl
                                 rotate_left
                                 ·simp only [Act.put, List.setIfInBounds_toArray, List.set_cons_zero, List.set_cons_succ, i64_w, i32_w]
                                  rfl
                                 refine pure_ (i := 11) (N := some 166) (v := ?_) (a' := ?_) #[true, false, true, false, false, false, true, false, false, true, false, true, false, false, false, false, false, false, false, false, false] rfl rfl (any_of HT_.out (by kernel_rfl)) (fun _ _ _ h => h) (Or.inl ⟨by rfl, ?_⟩) ?_ ?_
                                 rotate_left
                                 ·intro w'
                                  go_simp
                                  with_reducible rfl
                                 rotate_left
                                 ·simp only [Act.put, List.setIfInBounds_toArray, List.set_cons_zero, List.set_cons_succ, i64_w, i32_w]
                                  rfl
                                 refine pure_ (i := 15) (N := some 170) (v := ?_) (a' := ?_) #[true, false, true, false, false, false, true, false, false, true, false, true, false, false, false, true, false, false, false, false, false] rfl rfl (any_of HT_.out (by kernel_rfl)) (fun _ _ _ h => h) (Or.inl ⟨by rfl, ?_⟩) ?_ ?_
                                 rotate_left
                                 ·intro w'
                                  go_simp
                                  with_reducible rfl
                                 rotate_left
                                 ·simp only [Act.put, List.setIfInBounds_toArray, List.set_cons_zero, List.set_cons_succ, i64_w, i32_w]
                                  rfl
                                 refine take_ (i := 1) (N := some 156) (v := ?_) (a' := ?_) #[true, true, true, false, false, false, true, false, false, true, false, true, false, false, false, true, false, false, false, false, false] rfl rfl (take_ofW HT_.out HW_.out (by kernel_rfl)) (fun _ _ _ h => h) (Or.inl ⟨by rfl, ?_⟩) hHeld ?_ ?_
                                 rotate_left
                                 ·rintro w' ⟨s0, s1, s2, s3, s4, s5, s6, s7, s8⟩
                                  go_simp
                                  with_reducible rfl
                                 rotate_left
                                 ·simp only [Act.put, List.setIfInBounds_toArray, List.set_cons_zero, List.set_cons_succ, i64_w, i32_w]
                                  rfl
                                 refine take_ (i := 3) (N := some 158) (v := ?_) (a' := ?_) #[true, true, true, true, false, false, true, false, false, true, false, true, false, false, false, true, false, false, false, false, false] rfl rfl (take_ofW HT_.out HW_.out (by kernel_rfl)) (fun _ _ _ h => h) (Or.inl ⟨by rfl, ?_⟩) hHeld ?_ ?_
                                 rotate_left
                                 ·rintro w' ⟨s0, s1, s2, s3, s4, s5, s6, s7, s8⟩
                                  go_simp
                                  with_reducible rfl
                                 rotate_left
                                 ·simp only [Act.put, List.setIfInBounds_toArray, List.set_cons_zero, List.set_cons_succ, i64_w, i32_w]
                                  rfl
                                 refine pure_ (i := 4) (N := some 159) (v := ?_) (a' := ?_) #[true, true, true, true, true, false, true, false, false, true, false, true, false, false, false, true, false, false, false, false, false] rfl rfl (any_of HT_.out (by kernel_rfl)) (fun _ _ _ h => h) (Or.inl ⟨by rfl, ?_⟩) ?_ ?_
                                 rotate_left
                                 ·intro w'
                                  go_simp
                                  with_reducible rfl
                                 rotate_left
                                 ·simp only [Act.put, List.setIfInBounds_toArray, List.set_cons_zero, List.set_cons_succ, i64_w, i32_w]
                                  rfl
                                 refine take_ (i := 5) (N := some 160) (v := ?_) (a' := ?_) #[true, true, true, true, true, true, true, false, false, true, false, true, false, false, false, true, false, false, false, false, false] rfl rfl (take_ofW HT_.out HW_.out (by kernel_rfl)) (fun _ _ _ h => h) (Or.inl ⟨by rfl, ?_⟩) hHeld ?_ ?_
                                 rotate_left
                                 ·rintro w' ⟨s0, s1, s2, s3, s4, s5, s6, s7, s8⟩
                                  go_simp
                                  with_reducible rfl
                                 rotate_left
                                 ·simp only [Act.put, List.setIfInBounds_toArray, List.set_cons_zero, List.set_cons_succ, i64_w, i32_w]
                                  rfl
                                 refine pure_ (i := 7) (N := some 162) (v := ?_) (a' := ?_) #[true, true, true, true, true, true, true, true, false, true, false, true, false, false, false, true, false, false, false, false, false] rfl rfl (any_of HT_.out (by kernel_rfl)) (fun _ _ _ h => h) (Or.inl ⟨by rfl, ?_⟩) ?_ ?_
                                 rotate_left
                                 ·intro w'
                                  go_simp
                                  with_reducible rfl
                                 rotate_left
                                 ·simp only [Act.put, List.setIfInBounds_toArray, List.set_cons_zero, List.set_cons_succ, i64_w, i32_w]
                                  rfl
                                 refine take_ (i := 8) (N := some 163) (v := ?_) (a' := ?_) #[true, true, true, true, true, true, true, true, true, true, false, true, false, false, false, true, false, false, false, false, false] rfl rfl (take_ofW HT_.out HW_.out (by kernel_rfl)) (fun _ _ _ h => h) (Or.inl ⟨by rfl, ?_⟩) hHeld ?_ ?_
                                 rotate_left
                                 ·rintro w' ⟨s0, s1, s2, s3, s4, s5, s6, s7, s8⟩
                                  go_simp
                                  with_reducible rfl
                                 rotate_left
                                 ·simp only [Act.put, List.setIfInBounds_toArray, List.set_cons_zero, List.set_cons_succ, i64_w, i32_w]
                                  rfl
                                 refine take_ (i := 10) (N := some 165) (v := ?_) (a' := ?_) #[true, true, true, true, true, true, true, true, true, true, true, true, false, false, false, true, false, false, false, false, false] rfl rfl (take_ofW HT_.out HW_.out (by kernel_rfl)) (fun _ _ _ h => h) (Or.inl ⟨by rfl, ?_⟩) hHeld ?_ ?_
                                 rotate_left
                                 ·rintro w' ⟨s0, s1, s2, s3, s4, s5, s6, s7, s8⟩
                                  go_simp
                                  with_reducible rfl
                                 rotate_left
                                 ·simp only [Act.put, List.setIfInBounds_toArray, List.set_cons_zero, List.set_cons_succ, i64_w, i32_w]
                                  rfl
                                 refine take_ (i := 12) (N := some 167) (v := ?_) (a' := ?_) #[true, true, true, true, true, true, true, true, true, true, true, true, true, false, false, true, false, false, false, false, false] rfl rfl (take_ofW HT_.out HW_.out (by kernel_rfl)) (fun _ _ _ h => h) (Or.inl ⟨by rfl, ?_⟩) hHeld ?_ ?_
                                 rotate_left
                                 ·rintro w' ⟨s0, s1, s2, s3, s4, s5, s6, s7, s8⟩
                                  go_simp
                                  with_reducible rfl
                                 rotate_left
                                 ·simp only [Act.put, List.setIfInBounds_toArray, List.set_cons_zero, List.set_cons_succ, i64_w, i32_w]
                                  rfl
                                 refine pure_ (i := 13) (N := some 168) (v := ?_) (a' := ?_) #[true, true, true, true, true, true, true, true, true, true, true, true, true, true, false, true, false, false, false, false, false] rfl rfl (any_of HT_.out (by kernel_rfl)) (fun _ _ _ h => h) (Or.inl ⟨by rfl, ?_⟩) ?_ ?_
                                 rotate_left
                                 ·intro w'
                                  go_simp
                                  with_reducible rfl
                                 rotate_left
                                 ·simp only [Act.put, List.setIfInBounds_toArray, List.set_cons_zero, List.set_cons_succ, i64_w, i32_w]
                                  rfl
                                 refine take_ (i := 14) (N := some 169) (v := ?_) (a' := ?_) #[true, true, true, true, true, true, true, true, true, true, true, true, true, true, true, true, false, false, false, false, false] rfl rfl (take_ofW HT_.out HW_.out (by kernel_rfl)) (fun _ _ _ h => h) (Or.inl ⟨by rfl, ?_⟩) hHeld ?_ ?_
                                 rotate_left
                                 ·rintro w' ⟨s0, s1, s2, s3, s4, s5, s6, s7, s8⟩
                                  go_simp
                                  with_reducible rfl
                                 rotate_left
                                 ·simp only [Act.put, List.setIfInBounds_toArray, List.set_cons_zero, List.set_cons_succ, i64_w, i32_w]
                                  rfl
                                 refine pure_ (i := 16) (N := some 171) (v := ?_) (a' := ?_) #[true, true, true, true, true, true, true, true, true, true, true, true, true, true, true, true, true, false, false, false, false] rfl rfl (any_of HT_.out (by kernel_rfl)) (fun _ _ _ h => h) (Or.inl ⟨by rfl, ?_⟩) ?_ ?_
                                 rotate_left
                                 ·intro w'
                                  go_simp
                                  with_reducible rfl
                                 rotate_left
                                 ·simp only [Act.put, List.setIfInBounds_toArray, List.set_cons_zero, List.set_cons_succ, i64_w, i32_w]
                                  rfl
                                 refine take_ (i := 17) (N := some 172) (v := ?_) (a' := ?_) #[true, true, true, true, true, true, true, true, true, true, true, true, true, true, true, true, true, true, false, false, false] rfl rfl (take_ofW HT_.out HW_.out (by kernel_rfl)) (fun _ _ _ h => h) (Or.inl ⟨by rfl, ?_⟩) hHeld ?_ ?_
                                 rotate_left
                                 ·rintro w' ⟨s0, s1, s2, s3, s4, s5, s6, s7, s8⟩
                                  go_simp
                                  with_reducible rfl
                                 rotate_left
                                 ·simp only [Act.put, List.setIfInBounds_toArray, List.set_cons_zero, List.set_cons_succ, i64_w, i32_w]
                                  rfl
                                 refine pure_ (i := 18) (N := some 173) (v := ?_) (a' := ?_) #[true, true, true, true, true, true, true, true, true, true, true, true, true, true, true, true, true, true, true, false, false] rfl rfl (any_of HT_.out (by kernel_rfl)) (fun _ _ _ h => h) (Or.inl ⟨by rfl, ?_⟩) ?_ ?_
                                 rotate_left
                                 ·intro w'
                                  go_simp
                                  with_reducible rfl
                                 rotate_left
                                 ·simp only [Act.put, List.setIfInBounds_toArray, List.set_cons_zero, List.set_cons_succ, i64_w, i32_w]
                                  rfl
                                 refine one_ (i := 19) (N := some 15) #[true, true, true, true, true, true, true, true, true, true, true, true, true, true, true, true, true, true, true, true, false] rfl rfl (one_of HT_.out (by kernel_rfl)) (by decide) (fun K hK => ?_)
                                 refine box_step ?hg (N := 15) ?hd (cs := #[.int .i64 0, .int .i64 0]) (t := 60) ?hr ?_; (case hd => rfl); (case hg => rfl); (case hr => first | (go_simp; done) | (go_simp; rfl))
                                 intro gb131 hg w88 hbox hb
                                 have n0_ := Aside0.mk (Kd.R_below (by (with_reducible repeat (first | apply Kd.R_alloc | apply Kd.R_drewN | apply Kd.R_drew)); exact HO_4.out) hb)
                                 have n1_ := Aside0.mk (Kd.R_below (Kd.R_elderB (by (with_reducible repeat (first | apply Kd.R_alloc | apply Kd.R_drewN | apply Kd.R_drew)); exact HO_10.out) gb131 (Nat.le_of_eq hg.symm)) hb)
                                 have n2_ := Aside0.mk (blk_below (g := gb101) (o := .cells #[.int .i64 a0_0, .slice (some ad127) l0_1.length c0_1, .slice (some ad125) l0_2.length c0_2] 25 (0, 0)) (by (with_reducible repeat (first | refine blk_drewN ?_ _ | refine blk_drew ?_ | refine blk_alloc ?_ _)); exact BK101.out) hb)
                                 have n3_ := Aside0.mk (blk_below (g := gb124) (o := .cells #[.int .i64 ((rd_T60 x10_4 x12_4).f0), .int .i64 ((rd_T60 x10_4 x12_4).f1)] 60 (0, 0)) (by (with_reducible repeat (first | refine blk_drewN ?_ _ | refine blk_drew ?_ | refine blk_alloc ?_ _)); exact BK124.out) hb)
                                 have n4_ := Aside0.mk (below_step (by repeat (first | (with_reducible first | exact HB.out | apply below_alloc | apply pw_below_drewN | apply below_drew1 | refine below_set ?_ GE101.out | refine below_set ?_ GE124.out) | exact HB.out)) hb)
                                 have n5_ := Aside0.mk (hbox)
                                 have n6_ := Aside0.mk ((by rw [hg]; exact (below_size (by repeat (first | (with_reducible first | exact HB.out | apply below_alloc | apply pw_below_drewN | apply below_drew1 | refine below_set ?_ GE101.out | refine below_set ?_ GE124.out) | exact HB.out))) : w.heap.size ≤ gb131))
                                 have n7_ := Aside0.mk ((by rw [hg]; exact (below_size (by repeat (first | (with_reducible first | exact HB.out | apply below_alloc | apply pw_below_drewN | apply below_drew1 | refine below_set ?_ GE101.out | refine below_set ?_ GE124.out) | exact HB.out))) : w.heap.size ≤ gb131))
                                 have n8_ := Aside0.mk ((by rw [hg]; exact Nat.ne_of_lt (blk_lt (g := gb101) (o := .cells #[.int .i64 a0_0, .slice (some ad127) l0_1.length c0_1, .slice (some ad125) l0_2.length c0_2] 25 (0, 0)) (by (with_reducible repeat (first | refine blk_drewN ?_ _ | refine blk_drew ?_ | refine blk_alloc ?_ _)); exact BK101.out)) : gb101 ≠ gb131))
                                 have n9_ := Aside0.mk ((by rw [hg]; exact Nat.ne_of_gt (blk_lt (g := gb101) (o := .cells #[.int .i64 a0_0, .slice (some ad127) l0_1.length c0_1, .slice (some ad125) l0_2.length c0_2] 25 (0, 0)) (by (with_reducible repeat (first | refine blk_drewN ?_ _ | refine blk_drew ?_ | refine blk_alloc ?_ _)); exact BK101.out)) : gb131 ≠ gb101))
                                 have n10_ := Aside0.mk ((by rw [hg]; exact Nat.ne_of_lt (blk_lt (g := gb124) (o := .cells #[.int .i64 ((rd_T60 x10_4 x12_4).f0), .int .i64 ((rd_T60 x10_4 x12_4).f1)] 60 (0, 0)) (by (with_reducible repeat (first | refine blk_drewN ?_ _ | refine blk_drew ?_ | refine blk_alloc ?_ _)); exact BK124.out)) : gb124 ≠ gb131))
                                 have n11_ := Aside0.mk ((by rw [hg]; exact Nat.ne_of_gt (blk_lt (g := gb124) (o := .cells #[.int .i64 ((rd_T60 x10_4 x12_4).f0), .int .i64 ((rd_T60 x10_4 x12_4).f1)] 60 (0, 0)) (by (with_reducible repeat (first | refine blk_drewN ?_ _ | refine blk_drew ?_ | refine blk_alloc ?_ _)); exact BK124.out)) : gb131 ≠ gb124))
                                 clear HO_4
                                 clear HO_10
                                 clear BK101
                                 clear BK124
                                 clear HB
                                 have HO_4 := n0_
                                 have HO_10 := n1_
                                 have BK101 := n2_
                                 have BK124 := n3_
                                 have HB := n4_
                                 have BK131 := n5_
                                 have GW131 := n6_
                                 have GE131 := n7_
                                 have NB101_131 := n8_
                                 have NB131_101 := n9_
                                 have NB124_131 := n10_
                                 have NB131_124 := n11_
                                 clear n0_ n1_ n2_ n3_ n4_ n5_ n6_ n7_ n8_ n9_ n10_ n11_
                                 clear hb hbox hg
                                 refine hK.out _ _ ⟨(blk_cell BK101.out 0).trans rfl, (blk_cell BK101.out 1).trans rfl, (blk_cell BK101.out 2).trans rfl, (blk_cell BK124.out 0).trans rfl, (blk_cell BK124.out 1).trans rfl, ((HB.out.cell (World.block_lt_of_cell? w _ hw127_0)).trans hw127_0), ((HB.out.cell (World.block_lt_of_cell? w _ hw128_0)).trans hw128_0), ((HB.out.cell (World.block_lt_of_cell? w _ hw129_0)).trans hw129_0), ((HB.out.cell (World.block_lt_of_cell? w _ hw130_0)).trans hw130_0)⟩ (fun hHeld => ?_)
                                 clear hK K
                                 refine norm_ (a' := ?_) ?_ ?_
                                 rotate_left
                                 ·show Act.put _ (some 15) _ = _
                                  simp only [Act.put, List.setIfInBounds_toArray, List.set_cons_zero, List.set_cons_succ, i64_w, i32_w]
                                  rfl
                                 refine one_ (i := 20) (N := none) #[true, true, true, true, true, true, true, true, true, true, true, true, true, true, true, true, true, true, true, true, true] rfl rfl (one_of HT_.out (by kernel_rfl)) (by decide) (fun K hK => ?_)
                                 have hs89 : w88.cell? ⟨gb131, 0, none⟩ = some (.int .i64 0) := (blk_cell BK131.out 0).trans rfl
                                 have hfs89 := blk_frozen BK131.out 0
                                 have hns89_0 := NB101_131.out
                                 have hns89_1 := NB124_131.out
                                 have hms89_0 := NB131_101.out
                                 have hms89_1 := NB131_124.out
                                 have hs90 : w88.cell? ⟨gb131, 1, none⟩ = some (.int .i64 0) := (blk_cell BK131.out 1).trans rfl
                                 have hfs90 := blk_frozen BK131.out 1
                                 have hns90_0 := NB101_131.out
                                 have hns90_1 := NB124_131.out
                                 have hms90_0 := NB131_101.out
                                 have hms90_1 := NB131_124.out
                                 refine skip_ (w1 := ?_) (by rfl) rfl ?_ ?_
                                 rotate_left
                                 ·go_simp
                                  rfl
                                 refine hK.out _ _ ⟨((cell_far (p := ⟨gb131, _, none⟩) NB101_131.out _).trans (((cell_far (p := ⟨gb131, _, none⟩) NB101_131.out _).trans (hHeld.1)))), ((cell_far (p := ⟨gb131, _, none⟩) NB101_131.out _).trans (((cell_far (p := ⟨gb131, _, none⟩) NB101_131.out _).trans (hHeld.2.1)))), ((cell_far (p := ⟨gb131, _, none⟩) NB101_131.out _).trans (((cell_far (p := ⟨gb131, _, none⟩) NB101_131.out _).trans (hHeld.2.2.1)))), ((cell_far (p := ⟨gb131, _, none⟩) NB124_131.out _).trans (((cell_far (p := ⟨gb131, _, none⟩) NB124_131.out _).trans (hHeld.2.2.2.1)))), ((cell_far (p := ⟨gb131, _, none⟩) NB124_131.out _).trans (((cell_far (p := ⟨gb131, _, none⟩) NB124_131.out _).trans (hHeld.2.2.2.2.1)))), ((cell_far (p := ⟨gb131, _, none⟩) (by first | exact Nat.ne_of_lt (Nat.lt_of_lt_of_le (by have := World.block_lt_of_cell? _ _ hw127_0; first | rwa [add_block] at this | exact this) GW131.out) | (rw [add_block]; exact Nat.ne_of_lt (Nat.lt_of_lt_of_le (by have := World.block_lt_of_cell? _ _ hw127_0; first | rwa [add_block] at this | exact this) GW131.out)) | (show (Addr.add _ _).block ≠ _; rw [add_block]; exact Nat.ne_of_lt (Nat.lt_of_lt_of_le (by have := World.block_lt_of_cell? _ _ hw127_0; first | rwa [add_block] at this | exact this) GW131.out)) | (dsimp only; exact Nat.ne_of_lt (Nat.lt_of_lt_of_le (by have := World.block_lt_of_cell? _ _ hw127_0; first | rwa [add_block] at this | exact this) GW131.out))) _).trans (((cell_far (p := ⟨gb131, _, none⟩) (by first | exact Nat.ne_of_lt (Nat.lt_of_lt_of_le (by have := World.block_lt_of_cell? _ _ hw127_0; first | rwa [add_block] at this | exact this) GW131.out) | (rw [add_block]; exact Nat.ne_of_lt (Nat.lt_of_lt_of_le (by have := World.block_lt_of_cell? _ _ hw127_0; first | rwa [add_block] at this | exact this) GW131.out)) | (show (Addr.add _ _).block ≠ _; rw [add_block]; exact Nat.ne_of_lt (Nat.lt_of_lt_of_le (by have := World.block_lt_of_cell? _ _ hw127_0; first | rwa [add_block] at this | exact this) GW131.out)) | (dsimp only; exact Nat.ne_of_lt (Nat.lt_of_lt_of_le (by have := World.block_lt_of_cell? _ _ hw127_0; first | rwa [add_block] at this | exact this) GW131.out))) _).trans (hHeld.2.2.2.2.2.1)))), ((cell_far (p := ⟨gb131, _, none⟩) (by first | exact Nat.ne_of_lt (Nat.lt_of_lt_of_le (by have := World.block_lt_of_cell? _ _ hw128_0; first | rwa [add_block] at this | exact this) GW131.out) | (rw [add_block]; exact Nat.ne_of_lt (Nat.lt_of_lt_of_le (by have := World.block_lt_of_cell? _ _ hw128_0; first | rwa [add_block] at this | exact this) GW131.out)) | (show (Addr.add _ _).block ≠ _; rw [add_block]; exact Nat.ne_of_lt (Nat.lt_of_lt_of_le (by have := World.block_lt_of_cell? _ _ hw128_0; first | rwa [add_block] at this | exact this) GW131.out)) | (dsimp only; exact Nat.ne_of_lt (Nat.lt_of_lt_of_le (by have := World.block_lt_of_cell? _ _ hw128_0; first | rwa [add_block] at this | exact this) GW131.out))) _).trans (((cell_far (p := ⟨gb131, _, none⟩) (by first | exact Nat.ne_of_lt (Nat.lt_of_lt_of_le (by have := World.block_lt_of_cell? _ _ hw128_0; first | rwa [add_block] at this | exact this) GW131.out) | (rw [add_block]; exact Nat.ne_of_lt (Nat.lt_of_lt_of_le (by have := World.block_lt_of_cell? _ _ hw128_0; first | rwa [add_block] at this | exact this) GW131.out)) | (show (Addr.add _ _).block ≠ _; rw [add_block]; exact Nat.ne_of_lt (Nat.lt_of_lt_of_le (by have := World.block_lt_of_cell? _ _ hw128_0; first | rwa [add_block] at this | exact this) GW131.out)) | (dsimp only; exact Nat.ne_of_lt (Nat.lt_of_lt_of_le (by have := World.block_lt_of_cell? _ _ hw128_0; first | rwa [add_block] at this | exact this) GW131.out))) _).trans (hHeld.2.2.2.2.2.2.1)))), ((cell_far (p := ⟨gb131, _, none⟩) (by first | exact Nat.ne_of_lt (Nat.lt_of_lt_of_le (by have := World.block_lt_of_cell? _ _ hw129_0; first | rwa [add_block] at this | exact this) GW131.out) | (rw [add_block]; exact Nat.ne_of_lt (Nat.lt_of_lt_of_le (by have := World.block_lt_of_cell? _ _ hw129_0; first | rwa [add_block] at this | exact this) GW131.out)) | (show (Addr.add _ _).block ≠ _; rw [add_block]; exact Nat.ne_of_lt (Nat.lt_of_lt_of_le (by have := World.block_lt_of_cell? _ _ hw129_0; first | rwa [add_block] at this | exact this) GW131.out)) | (dsimp only; exact Nat.ne_of_lt (Nat.lt_of_lt_of_le (by have := World.block_lt_of_cell? _ _ hw129_0; first | rwa [add_block] at this | exact this) GW131.out))) _).trans (((cell_far (p := ⟨gb131, _, none⟩) (by first | exact Nat.ne_of_lt (Nat.lt_of_lt_of_le (by have := World.block_lt_of_cell? _ _ hw129_0; first | rwa [add_block] at this | exact this) GW131.out) | (rw [add_block]; exact Nat.ne_of_lt (Nat.lt_of_lt_of_le (by have := World.block_lt_of_cell? _ _ hw129_0; first | rwa [add_block] at this | exact this) GW131.out)) | (show (Addr.add _ _).block ≠ _; rw [add_block]; exact Nat.ne_of_lt (Nat.lt_of_lt_of_le (by have := World.block_lt_of_cell? _ _ hw129_0; first | rwa [add_block] at this | exact this) GW131.out)) | (dsimp only; exact Nat.ne_of_lt (Nat.lt_of_lt_of_le (by have := World.block_lt_of_cell? _ _ hw129_0; first | rwa [add_block] at this | exact this) GW131.out))) _).trans (hHeld.2.2.2.2.2.2.2.1)))), ((cell_far (p := ⟨gb131, _, none⟩) (by first | exact Nat.ne_of_lt (Nat.lt_of_lt_of_le (by have := World.block_lt_of_cell? _ _ hw130_0; first | rwa [add_block] at this | exact this) GW131.out) | (rw [add_block]; exact Nat.ne_of_lt (Nat.lt_of_lt_of_le (by have := World.block_lt_of_cell? _ _ hw130_0; first | rwa [add_block] at this | exact this) GW131.out)) | (show (Addr.add _ _).block ≠ _; rw [add_block]; exact Nat.ne_of_lt (Nat.lt_of_lt_of_le (by have := World.block_lt_of_cell? _ _ hw130_0; first | rwa [add_block] at this | exact this) GW131.out)) | (dsimp only; exact Nat.ne_of_lt (Nat.lt_of_lt_of_le (by have := World.block_lt_of_cell? _ _ hw130_0; first | rwa [add_block] at this | exact this) GW131.out))) _).trans (((cell_far (p := ⟨gb131, _, none⟩) (by first | exact Nat.ne_of_lt (Nat.lt_of_lt_of_le (by have := World.block_lt_of_cell? _ _ hw130_0; first | rwa [add_block] at this | exact this) GW131.out) | (rw [add_block]; exact Nat.ne_of_lt (Nat.lt_of_lt_of_le (by have := World.block_lt_of_cell? _ _ hw130_0; first | rwa [add_block] at this | exact this) GW131.out)) | (show (Addr.add _ _).block ≠ _; rw [add_block]; exact Nat.ne_of_lt (Nat.lt_of_lt_of_le (by have := World.block_lt_of_cell? _ _ hw130_0; first | rwa [add_block] at this | exact this) GW131.out)) | (dsimp only; exact Nat.ne_of_lt (Nat.lt_of_lt_of_le (by have := World.block_lt_of_cell? _ _ hw130_0; first | rwa [add_block] at this | exact this) GW131.out))) _).trans (hHeld.2.2.2.2.2.2.2.2))))⟩ (fun hHeld => ?_)
                                 clear hK K
                                 refine done_ (done_of HT_.out (by kernel_rfl)) ?_
                                 try go_wp2
                                 go_loopg [16, 17] k5 (fun kq v16 v17 w' => ∃ (x16_6 : Bool) (x17_6 : Int), v16 = .bool x16_6 ∧ v17 = .int .i64 x17_6 ∧ Aside0 (caesuralaw21_LeastAlike.l6 kq (l0_1.length : Int) t105 x8_2 x9_3 x10_5 ((rdOf false l0_2 ((rd_T60 x10_4 x12_4).f0)) != (rdOf false l0_2 ((rd_T60 x10_4 x12_4).f1))) x12_4 x14_5 x16_6 x17_6 a0_0 l0_1 l0_2 ((rd_T60 x10_4 x12_4).f0) ((rd_T60 x10_4 x12_4).f1) (rd (rd_L5 l0_1 ((rd_T60 x10_4 x12_4).f0)) x14_5) (rd (rd_L5 l0_1 ((rd_T60 x10_4 x12_4).f1)) x14_5) = some r) ∧ Aside0 (kq ≤ k5) ∧ Aside0 (Kd.R (Kd.int .i64) 3 w' w.heap.size (fun _ => True) (.slice Ao24 t105.length co24) t105) ∧ Aside0 (Kd.R k60 60 w' w.heap.size (fun k_ => k_ ≠ gb124 ∧ k_ ≠ gb131) u10 x10_5) ∧ Aside0 (w'.heap[gb101]? = some (.cells #[.int .i64 a0_0, (.slice (some ad127) l0_1.length c0_1), (.slice (some ad125) l0_2.length c0_2)] 25 (0, 0))) ∧ Aside0 (w'.heap[gb124]? = some (.cells #[.int .i64 ((rd_T60 x10_4 x12_4).f0), .int .i64 ((rd_T60 x10_4 x12_4).f1)] 60 (0, 0))) ∧ Aside0 (w'.heap[gb131]? = some (.cells #[.int .i64 (rd (rd_L5 l0_1 ((rd_T60 x10_4 x12_4).f0)) x14_5), .int .i64 (rd (rd_L5 l0_1 ((rd_T60 x10_4 x12_4).f1)) x14_5)] 60 (0, 0))) ∧ Aside0 (Below w.heap.size w w'))
                                 case atStart => exact ⟨(false), (0), (by first | rfl | (simp; done) | (simp [*]; done)), (by first | rfl | (simp; done) | (simp [*]; done)), H', ⟨Nat.le_refl _⟩, ⟨by (with_reducible repeat (first | apply Kd.R_alloc | apply Kd.R_drewN | apply Kd.R_drew)); exact Kd.R_mono (Kd.R_far (p := ⟨gb131, 1, none⟩) (Kd.R_far (p := ⟨gb131, 0, none⟩) (Kd.R_types HO_4.out BK131.out (by decide)) (fun _ hk => hk.2) (.int .i64 (rd (rd_L5 l0_1 ((rd_T60 x10_4 x12_4).f0)) x14_5))) (fun _ hk => hk.2) (.int .i64 (rd (rd_L5 l0_1 ((rd_T60 x10_4 x12_4).f1)) x14_5))) (fun _ hk => trivial)⟩, ⟨by (with_reducible repeat (first | apply Kd.R_alloc | apply Kd.R_drewN | apply Kd.R_drew)); exact Kd.R_mono (Kd.R_far (p := ⟨gb131, 1, none⟩) (Kd.R_far (p := ⟨gb131, 0, none⟩) (Kd.R_mono HO_10.out (fun k_ hk => (⟨hk, hk.2⟩ : _ ∧ k_ ≠ gb131))) (fun _ hk => hk.2) (.int .i64 (rd (rd_L5 l0_1 ((rd_T60 x10_4 x12_4).f0)) x14_5))) (fun _ hk => hk.2) (.int .i64 (rd (rd_L5 l0_1 ((rd_T60 x10_4 x12_4).f1)) x14_5))) (fun _ hk => ⟨hk.1.1, hk.1.2⟩)⟩, ⟨by (with_reducible repeat (first | refine blk_drewN ?_ _ | refine blk_drew ?_ | refine blk_alloc ?_ _)); refine blk_far ?_ NB101_131.out _; (with_reducible repeat (first | refine blk_drewN ?_ _ | refine blk_drew ?_ | refine blk_alloc ?_ _)); refine blk_far ?_ NB101_131.out _; (with_reducible repeat (first | refine blk_drewN ?_ _ | refine blk_drew ?_ | refine blk_alloc ?_ _)); exact BK101.out⟩, ⟨by (with_reducible repeat (first | refine blk_drewN ?_ _ | refine blk_drew ?_ | refine blk_alloc ?_ _)); refine blk_far ?_ NB124_131.out _; (with_reducible repeat (first | refine blk_drewN ?_ _ | refine blk_drew ?_ | refine blk_alloc ?_ _)); refine blk_far ?_ NB124_131.out _; (with_reducible repeat (first | refine blk_drewN ?_ _ | refine blk_drew ?_ | refine blk_alloc ?_ _)); exact BK124.out⟩, ⟨by (with_reducible repeat (first | refine blk_drewN ?_ _ | refine blk_drew ?_ | refine blk_alloc ?_ _)); refine blk_put (cs := #[.int .i64 (rd (rd_L5 l0_1 ((rd_T60 x10_4 x12_4).f0)) x14_5), .int .i64 0]) ?_ 1 _ rfl; (with_reducible repeat (first | refine blk_drewN ?_ _ | refine blk_drew ?_ | refine blk_alloc ?_ _)); refine blk_put (cs := #[.int .i64 0, .int .i64 0]) ?_ 0 _ rfl; (with_reducible repeat (first | refine blk_drewN ?_ _ | refine blk_drew ?_ | refine blk_alloc ?_ _)); exact BK131.out⟩, ⟨by repeat (first | (with_reducible first | exact HB.out | apply below_alloc | apply pw_below_drewN | apply below_drew1 | refine below_set ?_ GE101.out | refine below_set ?_ GE124.out | refine below_set ?_ GE131.out) | exact HB.out)⟩⟩
                                 case round =>
                                  clear H'
                                  try clear c1
                                  try clear p1
                                  try clear q1
                                  try clear hx1
                                  try clear c2
                                  try clear p2
                                  try clear c3
                                  try clear c4
                                  try clear c5
                                  try clear c6
                                  try clear c6b0
                                  try clear c6b1
                                  try clear p6
                                  try clear c7
                                  try clear c8
                                  try clear p10
                                  try clear q10
                                  try clear hx10
                                  try clear c11
                                  try clear p11
                                  try clear q11
                                  try clear hx11
                                  try clear c12
                                  try clear p12
                                  try clear q12
                                  try clear hx12
                                  try clear p13
                                  try clear q13
                                  try clear hx13
                                  try clear c16
                                  try clear c16b0
                                  try clear c16b1
                                  try clear c16b2
                                  try clear c25
                                  try clear c25b0
                                  try clear c26
                                  try clear c26b0
                                  try clear c27
                                  try clear c27b0
                                  try clear c28
                                  try clear c28b0
                                  try clear c29
                                  try clear c29b0
                                  try clear c30
                                  try clear c30b0
                                  try clear c31
                                  try clear c31b0
                                  try clear c32
                                  try clear c32b0
                                  try clear c32b1
                                  try clear c33
                                  try clear c33b0
                                  try clear c34
                                  try clear c34b0
                                  try clear c35
                                  try clear c35b0
                                  try clear c35b1
                                  try clear c35b2
                                  try clear c37
                                  try clear c37b0
                                  try clear c38
                                  try clear c38b0
                                  try clear c39
                                  try clear c39b0
                                  try clear c40
                                  try clear c40b0
                                  try clear c41
                                  try clear c41b0
                                  try clear c42
                                  try clear c42b0
                                  try clear c43
                                  try clear c43b0
                                  try clear c44
                                  try clear c44b0
                                  try clear c45
                                  try clear c45b0
                                  try clear c46
                                  try clear c46b0
                                  try clear c47
                                  try clear c47b0
                                  try clear c48
                                  try clear c48b0
                                  try clear c49
                                  try clear c49b0
                                  try clear c49b1
                                  try clear c53
                                  try clear c53b0
                                  try clear c54
                                  try clear c54b0
                                  try clear c57
                                  try clear c57b0
                                  try clear c58
                                  try clear c59
                                  try clear c59b0
                                  try clear c60
                                  try clear c60b0
                                  try clear c61
                                  try clear c61b0
                                  try clear c62
                                  try clear c62b0
                                  try clear c63
                                  try clear c63b0
                                  try clear c63b1
                                  try clear c63b2
                                  try clear p64
                                  try clear c66
                                  try clear c66b0
                                  try clear c67
                                  try clear c67b0
                                  try clear c68
                                  try clear c68b0
                                  try clear c69
                                  try clear c69b0
                                  try clear c70
                                  try clear c70b0
                                  try clear c73
                                  try clear c77
                                  try clear c77b0
                                  try clear c78
                                  try clear c78b0
                                  try clear c79
                                  try clear c79b0
                                  try clear c80
                                  try clear c80b0
                                  try clear c81
                                  try clear c81b0
                                  try clear c82
                                  try clear c82b0
                                  try clear c83
                                  try clear c83b0
                                  try clear c84
                                  try clear c84b0
                                  try clear c85
                                  try clear hcz11_0
                                  try clear hcz11_1
                                  try clear hcz11_2
                                  try clear hcz13_0
                                  try clear hcz13_1
                                  try clear hcz13_2
                                  try clear hcz18_0
                                  try clear hcz18_1
                                  try clear hcz18_2
                                  try clear hcz20_0
                                  try clear hcz20_1
                                  try clear hcz20_2
                                  try clear hcz22_0
                                  try clear hcz22_1
                                  try clear hcz22_2
                                  try clear hcz50_0
                                  try clear hcz50_1
                                  try clear hcz50_2
                                  try clear hcz52_0
                                  try clear hcz52_1
                                  try clear hcz52_2
                                  try clear hcz74_0
                                  try clear hcz74_1
                                  try clear hcz86_0
                                  try clear hcz86_1
                                  try clear hcz86_2
                                  try clear hcz9_0
                                  try clear hcz9_1
                                  try clear hcz9_2
                                  try clear hfz11_0
                                  try clear hfz11_1
                                  try clear hfz11_2
                                  try clear hfz13_0
                                  try clear hfz13_1
                                  try clear hfz13_2
                                  try clear hfz18_0
                                  try clear hfz18_1
                                  try clear hfz18_2
                                  try clear hfz20_0
                                  try clear hfz20_1
                                  try clear hfz20_2
                                  try clear hfz22_0
                                  try clear hfz22_1
                                  try clear hfz22_2
                                  try clear hfz50_0
                                  try clear hfz50_1
                                  try clear hfz50_2
                                  try clear hfz52_0
                                  try clear hfz52_1
                                  try clear hfz52_2
                                  try clear hfz74_0
                                  try clear hfz74_1
                                  try clear hfz86_0
                                  try clear hfz86_1
                                  try clear hfz86_2
                                  try clear hfz9_0
                                  try clear hfz9_1
                                  try clear hfz9_2
                                  try clear hx108_0
                                  try clear hx109_0
                                  try clear hx110_0
                                  try clear hx111_0
                                  try clear hx112_0
                                  try clear hx113_0
                                  try clear hx114_0
                                  try clear hx115_0
                                  try clear hx116_0
                                  try clear hx117_0
                                  try clear hx121_0
                                  try clear hx122_0
                                  try clear hx123_0
                                  try clear hx123_1
                                  try clear hx125_0
                                  try clear hx126_0
                                  try clear hx127_0
                                  try clear hx128_0
                                  try clear hx129_0
                                  try clear hx130_0
                                  try clear p1
                                  try clear p10
                                  try clear p108
                                  try clear p109
                                  try clear p11
                                  try clear p110
                                  try clear p111
                                  try clear p112
                                  try clear p113
                                  try clear p114
                                  try clear p115
                                  try clear p116
                                  try clear p117
                                  try clear p12
                                  try clear p121
                                  try clear p122
                                  try clear p123
                                  try clear p125
                                  try clear p126
                                  try clear p127
                                  try clear p128
                                  try clear p129
                                  try clear p130
                                  try clear p2
                                  try clear p6
                                  try clear p64
                                  try clear q1
                                  try clear q10
                                  try clear q108
                                  try clear q109
                                  try clear q11
                                  try clear q110
                                  try clear q111
                                  try clear q112
                                  try clear q113
                                  try clear q114
                                  try clear q115
                                  try clear q116
                                  try clear q117
                                  try clear q12
                                  try clear q121
                                  try clear q122
                                  try clear q123
                                  try clear q125
                                  try clear q126
                                  try clear q127
                                  try clear q128
                                  try clear q129
                                  try clear q130
                                  obtain ⟨x16_6, x17_6, rfl, rfl, HA, HK6, HO_4, HO_10, BK101, BK124, BK131, HB⟩ := hrel
                                  cases gk with
                                  | zero => exact absurd HA.out (by simp [caesuralaw21_LeastAlike.l6])
                                  | succ k6 =>
                                   have H := HA.out
                                   clear HA
                                   simp only [caesuralaw21_LeastAlike.l6] at H
                                   by_cases c91 : x17_6 < (x10_5.length : Int)
                                   ·rw [if_pos c91] at H
                                    have c91b0 : decide (x17_6 < (x10_5.length : Int)) = true := decide_eq_true c91
                                    clear c91
                                    by_cases c92 : x16_6 = true
                                    ·subst c92
                                     have H1 : (caesuralaw21_LeastAlike.l6 k6 (l0_1.length : Int) t105 x8_2 x9_3 x10_5 ((rdOf false l0_2 ((rd_T60 x10_4 x12_4).f0)) != (rdOf false l0_2 ((rd_T60 x10_4 x12_4).f1))) x12_4 x14_5 true (wrap64 (x17_6 + 1)) a0_0 l0_1 l0_2 ((rd_T60 x10_4 x12_4).f0) ((rd_T60 x10_4 x12_4).f1) (rd (rd_L5 l0_1 ((rd_T60 x10_4 x12_4).f0)) x14_5) (rd (rd_L5 l0_1 ((rd_T60 x10_4 x12_4).f1)) x14_5)) = some r := by rw [if_pos rfl] at H; exact H
                                     clear H
                                     have H := H1
                                     clear H1
                                     have H' := Aside0.mk H
                                     clear H
                                     obtain ⟨Ao93, co93, eo93⟩ := Kd.R_slice HO_10.out
                                     subst eo93
                                     try go_wp2
                                     have n0_ := Aside0.mk (Kd.R_drew HO_4.out)
                                     have n1_ := Aside0.mk (Kd.R_drew HO_10.out)
                                     have n2_ := Aside0.mk (blk_drew BK101.out)
                                     have n3_ := Aside0.mk (blk_drew BK124.out)
                                     have n4_ := Aside0.mk (blk_drew BK131.out)
                                     have n5_ := Aside0.mk (below_drew1 HB.out)
                                     clear HO_4
                                     clear HO_10
                                     clear BK101
                                     clear BK124
                                     clear BK131
                                     clear HB
                                     have HO_4 := n0_
                                     have HO_10 := n1_
                                     have BK101 := n2_
                                     have BK124 := n3_
                                     have BK131 := n4_
                                     have HB := n5_
                                     clear n0_ n1_ n2_ n3_ n4_ n5_
                                     refine start_ (n := 10) (S := fun w' => True) (ds := []) #[false, false, false, false, false, false, false, false, false, false] (by kernel_rfl) rfl rfl trivial (fun hHeld => ?_); refine with_tabW caesuralaw21_LeastAlike.tab39 caesuralaw21_LeastAlike.bits39 (fun HT_ HW_ => ?_)
                                     generalize wr.drew = w94 at HO_4 HO_10 BK101 BK124 BK131 HB hHeld ⊢
                                     refine pure_ (i := 0) (N := some 180) (v := ?_) (a' := ?_) #[true, false, false, false, false, false, false, false, false, false] rfl rfl (any_of HT_.out (by kernel_rfl)) (fun _ _ _ h => h) (Or.inl ⟨by rfl, ?_⟩) ?_ ?_
                                     rotate_left
                                     ·intro w'
                                      go_simp
                                      with_reducible rfl
                                     rotate_left
                                     ·simp only [Act.put, List.setIfInBounds_toArray, List.set_cons_zero, List.set_cons_succ, i64_w, i32_w]
                                      rfl
                                     refine pure_ (i := 1) (N := some 181) (v := ?_) (a' := ?_) #[true, true, false, false, false, false, false, false, false, false] rfl rfl (any_of HT_.out (by kernel_rfl)) (fun _ _ _ h => h) (Or.inl ⟨by rfl, ?_⟩) ?_ ?_
                                     rotate_left
                                     ·intro w'
                                      go_simp
                                      with_reducible rfl
                                     rotate_left
                                     ·simp only [Act.put, List.setIfInBounds_toArray, List.set_cons_zero, List.set_cons_succ, i64_w, i32_w]
                                      rfl
                                     refine pure_ (i := 2) (N := some 182) (v := undef) (a' := ?_) #[true, true, true, false, false, false, false, false, false, false] rfl rfl (any_of HT_.out (by kernel_rfl)) (fun _ _ _ h => h) (Or.inr ⟨by rfl, rfl⟩) ?_ ?_
                                     rotate_left
                                     ·simp only [Act.put, List.setIfInBounds_toArray, List.set_cons_zero, List.set_cons_succ, i64_w, i32_w]
                                      rfl
                                     refine pure_ (i := 3) (N := some 183) (v := undef) (a' := ?_) #[true, true, true, true, false, false, false, false, false, false] rfl rfl (any_of HT_.out (by kernel_rfl)) (fun _ _ _ h => h) (Or.inr ⟨by rfl, rfl⟩) ?_ ?_
                                     rotate_left
                                     ·simp only [Act.put, List.setIfInBounds_toArray, List.set_cons_zero, List.set_cons_succ, i64_w, i32_w]
                                      rfl
                                     refine pure_ (i := 4) (N := some 184) (v := undef) (a' := ?_) #[true, true, true, true, true, false, false, false, false, false] rfl rfl (any_of HT_.out (by kernel_rfl)) (fun _ _ _ h => h) (Or.inr ⟨by rfl, rfl⟩) ?_ ?_
                                     rotate_left
                                     ·simp only [Act.put, List.setIfInBounds_toArray, List.set_cons_zero, List.set_cons_succ, i64_w, i32_w]
                                      rfl
                                     refine pure_ (i := 5) (N := some 185) (v := undef) (a' := ?_) #[true, true, true, true, true, true, false, false, false, false] rfl rfl (any_of HT_.out (by kernel_rfl)) (fun _ _ _ h => h) (Or.inr ⟨by rfl, rfl⟩) ?_ ?_
                                     rotate_left
                                     ·simp only [Act.put, List.setIfInBounds_toArray, List.set_cons_zero, List.set_cons_succ, i64_w, i32_w]
                                      rfl
                                     refine pure_ (i := 6) (N := some 186) (v := undef) (a' := ?_) #[true, true, true, true, true, true, true, false, false, false] rfl rfl (any_of HT_.out (by kernel_rfl)) (fun _ _ _ h => h) (Or.inr ⟨by rfl, rfl⟩) ?_ ?_
                                     rotate_left
                                     ·simp only [Act.put, List.setIfInBounds_toArray, List.set_cons_zero, List.set_cons_succ, i64_w, i32_w]
                                      rfl
                                     refine pure_ (i := 7) (N := some 187) (v := undef) (a' := ?_) #[true, true, true, true, true, true, true, true, false, false] rfl rfl (any_of HT_.out (by kernel_rfl)) (fun _ _ _ h => h) (Or.inr ⟨by rfl, rfl⟩) ?_ ?_
                                     rotate_left
                                     ·simp only [Act.put, List.setIfInBounds_toArray, List.set_cons_zero, List.set_cons_succ, i64_w, i32_w]
                                      rfl
                                     refine pure_ (i := 8) (N := some 188) (v := ?_) (a' := ?_) #[true, true, true, true, true, true, true, true, true, false] rfl rfl (any_of HT_.out (by kernel_rfl)) (fun _ _ _ h => h) (Or.inl ⟨by rfl, ?_⟩) ?_ ?_
                                     rotate_left
                                     ·intro w'
                                      go_simp
                                      with_reducible rfl
                                     rotate_left
                                     ·simp only [Act.put, List.setIfInBounds_toArray, List.set_cons_zero, List.set_cons_succ, i64_w, i32_w]
                                      rfl
                                     refine pure_ (i := 9) (N := some 16) (v := ?_) (a' := ?_) #[true, true, true, true, true, true, true, true, true, true] rfl rfl (any_of HT_.out (by kernel_rfl)) (fun _ _ _ h => h) (Or.inl ⟨by rfl, ?_⟩) ?_ ?_
                                     rotate_left
                                     ·intro w'
                                      go_simp
                                      with_reducible rfl
                                     rotate_left
                                     ·simp only [Act.put, List.setIfInBounds_toArray, List.set_cons_zero, List.set_cons_succ, i64_w, i32_w]
                                      rfl
                                     refine done_ (done_of HT_.out (by kernel_rfl)) ?_
                                     try go_wp2
                                     go_roundg k6
                                     case measure => have := HK1.out; have := HK2.out; have := HK3.out; have := HK4.out; have := HK5.out; have := HK6.out; omega
                                     case rel => exact ⟨(true), (wrap64 (x17_6 + 1)), (by first | rfl | (simp; done) | (simp [*]; done)), (by first | rfl | (simp; done) | (simp [*]; done)), H', ⟨by have := HK1.out; have := HK2.out; have := HK3.out; have := HK4.out; have := HK5.out; have := HK6.out; omega⟩, ⟨by (with_reducible repeat (first | apply Kd.R_alloc | apply Kd.R_drewN | apply Kd.R_drew)); exact HO_4.out⟩, ⟨by (with_reducible repeat (first | apply Kd.R_alloc | apply Kd.R_drewN | apply Kd.R_drew)); exact HO_10.out⟩, ⟨by (with_reducible repeat (first | refine blk_drewN ?_ _ | refine blk_drew ?_ | refine blk_alloc ?_ _)); exact BK101.out⟩, ⟨by (with_reducible repeat (first | refine blk_drewN ?_ _ | refine blk_drew ?_ | refine blk_alloc ?_ _)); exact BK124.out⟩, ⟨by (with_reducible repeat (first | refine blk_drewN ?_ _ | refine blk_drew ?_ | refine blk_alloc ?_ _)); exact BK131.out⟩, ⟨by repeat (first | (with_reducible first | exact HB.out | apply below_alloc | apply pw_below_drewN | apply below_drew1 | refine below_set ?_ GE101.out | refine below_set ?_ GE124.out | refine below_set ?_ GE131.out) | exact HB.out)⟩⟩
                                    ·replace c92 := Bool.eq_false_iff.mpr c92
                                     subst c92
                                     have H1 : (if 0 ≤ x17_6 then (caesuralaw21_LeastAlike.l6 k6 (l0_1.length : Int) t105 x8_2 x9_3 x10_5 ((rdOf false l0_2 ((rd_T60 x10_4 x12_4).f0)) != (rdOf false l0_2 ((rd_T60 x10_4 x12_4).f1))) x12_4 x14_5 (((rd_T60 x10_5 x17_6).f0) == (rd (rd_L5 l0_1 ((rd_T60 x10_4 x12_4).f0)) x14_5) && (((rd_T60 x10_5 x17_6).f1) == (rd (rd_L5 l0_1 ((rd_T60 x10_4 x12_4).f1)) x14_5))) (wrap64 (x17_6 + 1)) a0_0 l0_1 l0_2 ((rd_T60 x10_4 x12_4).f0) ((rd_T60 x10_4 x12_4).f1) (rd (rd_L5 l0_1 ((rd_T60 x10_4 x12_4).f0)) x14_5) (rd (rd_L5 l0_1 ((rd_T60 x10_4 x12_4).f1)) x14_5)) else (none)) = some r := by rw [if_neg (show ¬ (false = true) by decide)] at H; exact H
                                     clear H
                                     have H := H1
                                     clear H1
                                     by_cases c95 : 0 ≤ x17_6
                                     ·rw [if_pos c95] at H
                                      have c95b0 : decide (0 ≤ x17_6) = true := decide_eq_true c95
                                      clear c95
                                      have H' := Aside0.mk H
                                      clear H
                                      obtain ⟨Ao96, co96, eo96⟩ := Kd.R_slice HO_10.out
                                      subst eo96
                                      try go_wp2
                                      have n0_ := Aside0.mk (Kd.R_drew HO_4.out)
                                      have n1_ := Aside0.mk (Kd.R_drew HO_10.out)
                                      have n2_ := Aside0.mk (blk_drew BK101.out)
                                      have n3_ := Aside0.mk (blk_drew BK124.out)
                                      have n4_ := Aside0.mk (blk_drew BK131.out)
                                      have n5_ := Aside0.mk (below_drew1 HB.out)
                                      clear HO_4
                                      clear HO_10
                                      clear BK101
                                      clear BK124
                                      clear BK131
                                      clear HB
                                      have HO_4 := n0_
                                      have HO_10 := n1_
                                      have BK101 := n2_
                                      have BK124 := n3_
                                      have BK131 := n4_
                                      have HB := n5_
                                      clear n0_ n1_ n2_ n3_ n4_ n5_
                                      have p132 : 0 ≤ (x17_6 : Int) := of_decide_eq_true (by first | (with_reducible assumption) | assumption)
                                      have q132 : x17_6 < (x10_5.length : Int) := of_decide_eq_true (by first | (with_reducible assumption) | assumption)
                                      obtain ⟨ad132, e132, hx132_0, hx132_1⟩ := at_T60 (Kd.R_reads' HO_10.out).2.2 x17_6 p132 q132
                                      cases e132
                                      replace p132 := eq_true p132
                                      replace q132 := eq_true q132
                                      refine start_ (n := 10) (S := fun w' => w'.cell? ⟨gb131, 0, none⟩ = some (.int .i64 (rd (rd_L5 l0_1 ((rd_T60 x10_4 x12_4).f0)) x14_5)) ∧ w'.cell? ⟨gb131, 1, none⟩ = some (.int .i64 (rd (rd_L5 l0_1 ((rd_T60 x10_4 x12_4).f1)) x14_5)) ∧ w'.cell? (ad132.add ((x17_6).toNat * 2)) = some (.int .i64 ((rd_T60 x10_5 x17_6).f0)) ∧ w'.cell? ⟨(ad132.add ((x17_6).toNat * 2)).block, (ad132.add ((x17_6).toNat * 2)).off + 1, none⟩ = some (.int .i64 ((rd_T60 x10_5 x17_6).f1))) (ds := []) #[false, false, false, false, false, false, false, false, false, false] (by kernel_rfl) rfl rfl ⟨(blk_cell BK131.out 0).trans rfl, (blk_cell BK131.out 1).trans rfl, hx132_0, hx132_1⟩ (fun hHeld => ?_); refine with_tabW caesuralaw21_LeastAlike.tab39 caesuralaw21_LeastAlike.bits39 (fun HT_ HW_ => ?_)
                                      generalize wr.drew = w97 at HO_4 HO_10 BK101 BK124 BK131 HB hx132_0 hx132_1 hHeld ⊢
                                      refine pure_ (i := 0) (N := some 180) (v := ?_) (a' := ?_) #[true, false, false, false, false, false, false, false, false, false] rfl rfl (any_of HT_.out (by kernel_rfl)) (fun _ _ _ h => h) (Or.inl ⟨by rfl, ?_⟩) ?_ ?_
                                      rotate_left
                                      ·intro w'
                                       go_simp
                                       with_reducible rfl
                                      rotate_left
                                      ·simp only [Act.put, List.setIfInBounds_toArray, List.set_cons_zero, List.set_cons_succ, i64_w, i32_w]
                                       rfl
                                      refine pure_ (i := 1) (N := some 181) (v := ?_) (a' := ?_) #[true, true, false, false, false, false, false, false, false, false] rfl rfl (any_of HT_.out (by kernel_rfl)) (fun _ _ _ h => h) (Or.inl ⟨by rfl, ?_⟩) ?_ ?_
                                      rotate_left
                                      ·intro w'
                                       go_simp
                                       with_reducible rfl
                                      rotate_left
                                      ·simp only [Act.put, List.setIfInBounds_toArray, List.set_cons_zero, List.set_cons_succ, i64_w, i32_w]
                                       rfl
                                      refine pure_ (i := 2) (N := some 182) (v := ?_) (a' := ?_) #[true, true, true, false, false, false, false, false, false, false] rfl rfl (any_of HT_.out (by kernel_rfl)) (fun _ _ _ h => h) (Or.inl ⟨by rfl, ?_⟩) ?_ ?_
                                      rotate_left
                                      ·intro w'
                                       go_simp
                                       with_reducible rfl
                                      rotate_left
                                      ·simp only [Act.put, List.setIfInBounds_toArray, List.set_cons_zero, List.set_cons_succ, i64_w, i32_w]
                                       rfl
                                      refine pure_ (i := 3) (N := some 183) (v := ?_) (a' := ?_) #[true, true, true, true, false, false, false, false, false, false] rfl rfl (any_of HT_.out (by kernel_rfl)) (fun _ _ _ h => h) (Or.inl ⟨by rfl, ?_⟩) ?_ ?_
                                      rotate_left
                                      ·intro w'
                                       go_simp
                                       with_reducible rfl
                                      rotate_left
                                      ·simp only [Act.put, List.setIfInBounds_toArray, List.set_cons_zero, List.set_cons_succ, i64_w, i32_w]
                                       rfl
                                      refine pure_ (i := 4) (N := some 184) (v := ?_) (a' := ?_) #[true, true, true, true, true, false, false, false, false, false] rfl rfl (any_of HT_.out (by kernel_rfl)) (fun _ _ _ h => h) (Or.inl ⟨by rfl, ?_⟩) ?_ ?_
                                      rotate_left
                                      ·intro w'
                                       go_simp
                                       with_reducible rfl
                                      rotate_left
                                      ·simp only [Act.put, List.setIfInBounds_toArray, List.set_cons_zero, List.set_cons_succ, i64_w, i32_w]
                                       rfl
                                      refine take_ (i := 5) (N := some 185) (v := ?_) (a' := ?_) #[true, true, true, true, true, true, false, false, false, false] rfl rfl (take_ofW HT_.out HW_.out (by kernel_rfl)) (fun _ _ _ h => h) (Or.inl ⟨by rfl, ?_⟩) hHeld ?_ ?_
                                      rotate_left
                                      ·rintro w' ⟨s0, s1, s2, s3⟩
                                       go_simp
                                       with_reducible rfl
                                      rotate_left
                                      ·simp only [Act.put, List.setIfInBounds_toArray, List.set_cons_zero, List.set_cons_succ, i64_w, i32_w]
                                       rfl
                                      refine take_ (i := 6) (N := some 186) (v := ?_) (a' := ?_) #[true, true, true, true, true, true, true, false, false, false] rfl rfl (take_ofW HT_.out HW_.out (by kernel_rfl)) (fun _ _ _ h => h) (Or.inl ⟨by rfl, ?_⟩) hHeld ?_ ?_
                                      rotate_left
                                      ·rintro w' ⟨s0, s1, s2, s3⟩
                                       go_simp
                                       with_reducible rfl
                                      rotate_left
                                      ·simp only [Act.put, List.setIfInBounds_toArray, List.set_cons_zero, List.set_cons_succ, i64_w, i32_w]
                                       rfl
                                      refine pure_ (i := 7) (N := some 187) (v := ?_) (a' := ?_) #[true, true, true, true, true, true, true, true, false, false] rfl rfl (any_of HT_.out (by kernel_rfl)) (fun _ _ _ h => h) (Or.inl ⟨by rfl, ?_⟩) ?_ ?_
                                      rotate_left
                                      ·intro w'
                                       go_simp
                                       with_reducible rfl
                                      rotate_left
                                      ·simp only [Act.put, List.setIfInBounds_toArray, List.set_cons_zero, List.set_cons_succ, i64_w, i32_w]
                                       rfl
                                      refine pure_ (i := 8) (N := some 188) (v := ?_) (a' := ?_) #[true, true, true, true, true, true, true, true, true, false] rfl rfl (any_of HT_.out (by kernel_rfl)) (fun _ _ _ h => h) (Or.inl ⟨by rfl, ?_⟩) ?_ ?_
                                      rotate_left
                                      ·intro w'
                                       go_simp
                                       with_reducible rfl
                                      rotate_left
                                      ·simp only [Act.put, List.setIfInBounds_toArray, List.set_cons_zero, List.set_cons_succ, i64_w, i32_w]
                                       rfl
                                      refine pure_ (i := 9) (N := some 16) (v := ?_) (a' := ?_) #[true, true, true, true, true, true, true, true, true, true] rfl rfl (any_of HT_.out (by kernel_rfl)) (fun _ _ _ h => h) (Or.inl ⟨by rfl, ?_⟩) ?_ ?_
                                      rotate_left
                                      ·intro w'
                                       go_simp
                                       with_reducible rfl
                                      rotate_left
                                      ·simp only [Act.put, List.setIfInBounds_toArray, List.set_cons_zero, List.set_cons_succ, i64_w, i32_w]
                                       rfl
                                      refine done_ (done_of HT_.out (by kernel_rfl)) ?_
                                      try go_wp2
                                      go_roundg k6
                                      case measure => have := HK1.out; have := HK2.out; have := HK3.out; have := HK4.out; have := HK5.out; have := HK6.out; omega
                                      case rel => exact ⟨((((rd_T60 x10_5 x17_6).f0) == (rd (rd_L5 l0_1 ((rd_T60 x10_4 x12_4).f0)) x14_5) && (((rd_T60 x10_5 x17_6).f1) == (rd (rd_L5 l0_1 ((rd_T60 x10_4 x12_4).f1)) x14_5)))), (wrap64 (x17_6 + 1)), (by first | rfl | (simp; done) | (simp [*]; done)), (by first | rfl | (simp; done) | (simp [*]; done)), H', ⟨by have := HK1.out; have := HK2.out; have := HK3.out; have := HK4.out; have := HK5.out; have := HK6.out; omega⟩, ⟨by (with_reducible repeat (first | apply Kd.R_alloc | apply Kd.R_drewN | apply Kd.R_drew)); exact HO_4.out⟩, ⟨by (with_reducible repeat (first | apply Kd.R_alloc | apply Kd.R_drewN | apply Kd.R_drew)); exact HO_10.out⟩, ⟨by (with_reducible repeat (first | refine blk_drewN ?_ _ | refine blk_drew ?_ | refine blk_alloc ?_ _)); exact BK101.out⟩, ⟨by (with_reducible repeat (first | refine blk_drewN ?_ _ | refine blk_drew ?_ | refine blk_alloc ?_ _)); exact BK124.out⟩, ⟨by (with_reducible repeat (first | refine blk_drewN ?_ _ | refine blk_drew ?_ | refine blk_alloc ?_ _)); exact BK131.out⟩, ⟨by repeat (first | (with_reducible first | exact HB.out | apply below_alloc | apply pw_below_drewN | apply below_drew1 | refine below_set ?_ GE101.out | refine below_set ?_ GE124.out | refine below_set ?_ GE131.out) | exact HB.out)⟩⟩
                                     ·rw [if_neg c95] at H
                                      exact absurd H (by simp)
                                   ·rw [if_neg c91] at H
                                    have c91b0 : decide (x17_6 < (x10_5.length : Int)) = false := decide_eq_false c91
                                    clear c91
                                    by_cases c98 : x16_6 = true
                                    ·subst c98
                                     have H1 : (caesuralaw21_LeastAlike.l5 k6 (l0_1.length : Int) t105 x8_2 x9_3 x10_5 ((rdOf false l0_2 ((rd_T60 x10_4 x12_4).f0)) != (rdOf false l0_2 ((rd_T60 x10_4 x12_4).f1))) x12_4 (wrap64 (x14_5 + 1)) a0_0 l0_1 l0_2 ((rd_T60 x10_4 x12_4).f0) ((rd_T60 x10_4 x12_4).f1)) = some r := by rw [if_pos rfl] at H; exact H
                                     clear H
                                     have H := H1
                                     clear H1
                                     have H' := Aside0.mk H
                                     clear H
                                     obtain ⟨Ao99, co99, eo99⟩ := Kd.R_slice HO_10.out
                                     subst eo99
                                     go_wp2
                                     go_roundg k6
                                     case measure => have := HK1.out; have := HK2.out; have := HK3.out; have := HK4.out; have := HK5.out; have := HK6.out; omega
                                     case rel => exact ⟨(x10_5), (wrap64 (x14_5 + 1)), (by first | rfl | (simp; done) | (simp [*]; done)), H', ⟨by have := HK1.out; have := HK2.out; have := HK3.out; have := HK4.out; have := HK5.out; have := HK6.out; omega⟩, ⟨by (with_reducible repeat (first | apply Kd.R_alloc | apply Kd.R_drewN | apply Kd.R_drew)); exact HO_4.out⟩, ⟨by (with_reducible repeat (first | apply Kd.R_alloc | apply Kd.R_drewN | apply Kd.R_drew)); exact Kd.R_mono HO_10.out (fun _ hk => hk.1)⟩, ⟨by (with_reducible repeat (first | refine blk_drewN ?_ _ | refine blk_drew ?_ | refine blk_alloc ?_ _)); exact BK101.out⟩, ⟨by (with_reducible repeat (first | refine blk_drewN ?_ _ | refine blk_drew ?_ | refine blk_alloc ?_ _)); exact BK124.out⟩, ⟨by repeat (first | (with_reducible first | exact HB.out | apply below_alloc | apply pw_below_drewN | apply below_drew1 | refine below_set ?_ GE101.out | refine below_set ?_ GE124.out | refine below_set ?_ GE131.out) | exact HB.out)⟩⟩
                                    ·replace c98 := Bool.eq_false_iff.mpr c98
                                     subst c98
                                     have H1 : (if x10_5.length < 8796093022208 then (caesuralaw21_LeastAlike.l5 k6 (l0_1.length : Int) t105 x8_2 x9_3 (x10_5 ++ [(⟨(rd (rd_L5 l0_1 ((rd_T60 x10_4 x12_4).f0)) x14_5), (rd (rd_L5 l0_1 ((rd_T60 x10_4 x12_4).f1)) x14_5)⟩ : S60)]) ((rdOf false l0_2 ((rd_T60 x10_4 x12_4).f0)) != (rdOf false l0_2 ((rd_T60 x10_4 x12_4).f1))) x12_4 (wrap64 (x14_5 + 1)) a0_0 l0_1 l0_2 ((rd_T60 x10_4 x12_4).f0) ((rd_T60 x10_4 x12_4).f1)) else (none)) = some r := by rw [if_neg (show ¬ (false = true) by decide)] at H; exact H
                                     clear H
                                     have H := H1
                                     clear H1
                                     by_cases c100 : x10_5.length < 8796093022208
                                     ·rw [if_pos c100] at H
                                      have LMc100 := Aside0.mk c100
                                      clear c100
                                      obtain ⟨y133, hy133⟩ : ∃ y_ : List (S60), y_ = (x10_5 ++ [(⟨(rd (rd_L5 l0_1 ((rd_T60 x10_4 x12_4).f0)) x14_5), (rd (rd_L5 l0_1 ((rd_T60 x10_4 x12_4).f1)) x14_5)⟩ : S60)]) := ⟨_, rfl⟩
                                      replace H : (caesuralaw21_LeastAlike.l5 k6 (l0_1.length : Int) t105 x8_2 x9_3 y133 ((rdOf false l0_2 ((rd_T60 x10_4 x12_4).f0)) != (rdOf false l0_2 ((rd_T60 x10_4 x12_4).f1))) x12_4 (wrap64 (x14_5 + 1)) a0_0 l0_1 l0_2 ((rd_T60 x10_4 x12_4).f0) ((rd_T60 x10_4 x12_4).f1)) = some r := by first | (rw [hy133]; with_reducible exact H) | (have H2_ := (Option.bind_some _ _).symm.trans H; rw [hy133]; with_reducible exact H2_) | (have H2_ := (Option.bind_some _ _).symm.trans H; with_reducible exact H2_) | with_reducible exact H | (rw [hy133]; exact H) | exact H
                                      have Ny133 := Aside0.mk hy133
                                      clear hy133
                                      have H' := Aside0.mk H
                                      clear H
                                      obtain ⟨Ao101, co101, eo101⟩ := Kd.R_slice HO_10.out
                                      subst eo101
                                      have hnb102 := NB131_101.out
                                      have hnc102 := NB101_131.out
                                      have hnb103 := NB131_124.out
                                      have hnc103 := NB124_131.out
                                      have hcz104_0 : wr.cell? ⟨gb131, 0, none⟩ = some (.int .i64 (rd (rd_L5 l0_1 ((rd_T60 x10_4 x12_4).f0)) x14_5)) := (blk_cell BK131.out 0).trans rfl
                                      have hcz104_1 : wr.cell? ⟨gb131, 1, none⟩ = some (.int .i64 (rd (rd_L5 l0_1 ((rd_T60 x10_4 x12_4).f1)) x14_5)) := (blk_cell BK131.out 1).trans rfl
                                      have hfz104_0 := blk_frozen BK131.out 0
                                      have hfz104_1 := blk_frozen BK131.out 1
                                      go_wp2_with (first | ((with_reducible refine gate_builtin (b := .append) (xs := #[.tmp 191, .tmp 193]) rfl ?_); (try (refine gate_guard (by rfl) ?_; dsimp only)); at_builtin; refine Kd.R_append k60 (w0 := w) w.heap.size rfl (.tmp 191) (.tmp 193) 61 60 (.agg #[(.int .i64 0), (.int .i64 0)]) 16 rfl Try.underlying61 info60 rfl (by decide) (by omega) (.slice Ao101 x10_5.length co101) x10_5 (⟨(rd (rd_L5 l0_1 ((rd_T60 x10_4 x12_4).f0)) x14_5), (rd (rd_L5 l0_1 ((rd_T60 x10_4 x12_4).f1)) x14_5)⟩ : S60) [.int .i64 (rd (rd_L5 l0_1 ((rd_T60 x10_4 x12_4).f0)) x14_5), .int .i64 (rd (rd_L5 l0_1 ((rd_T60 x10_4 x12_4).f1)) x14_5)] (fun k_ => k_ ≠ gb124 ∧ k_ ≠ gb131) (fun _ => False) rfl rfl ?aP (fun _ hk => hk.elim) ?aF ?aO ?aB ?aS ?aL ?_; (case aP => exact k60_mkM _ _ _ (⟨(rd (rd_L5 l0_1 ((rd_T60 x10_4 x12_4).f0)) x14_5), (rd (rd_L5 l0_1 ((rd_T60 x10_4 x12_4).f1)) x14_5)⟩ : S60)); (case aB => exact (by repeat (first | (with_reducible first | exact HB.out | apply below_alloc | apply pw_below_drewN | apply below_drew1 | refine below_set ?_ GE101.out | refine below_set ?_ GE124.out | refine below_set ?_ GE131.out) | exact HB.out))); (case aF => exact (fun k_ hk => ⟨Kd.freshB (g := gb124) (o := .cells #[.int .i64 ((rd_T60 x10_4 x12_4).f0), .int .i64 ((rd_T60 x10_4 x12_4).f1)] 60 (0, 0)) (by (with_reducible repeat (first | refine blk_drewN ?_ _ | refine blk_drew ?_ | refine blk_alloc ?_ _)); exact BK124.out) k_ hk, Kd.freshB (g := gb131) (o := .cells #[.int .i64 (rd (rd_L5 l0_1 ((rd_T60 x10_4 x12_4).f0)) x14_5), .int .i64 (rd (rd_L5 l0_1 ((rd_T60 x10_4 x12_4).f1)) x14_5)] 60 (0, 0)) (by (with_reducible repeat (first | refine blk_drewN ?_ _ | refine blk_drew ?_ | refine blk_alloc ?_ _)); exact BK131.out) k_ hk⟩)); (case aO => exact (by (with_reducible repeat (first | apply Kd.R_alloc | apply Kd.R_drewN | apply Kd.R_drew)); exact HO_10.out)); (case aS => exact (below_size (by repeat (first | (with_reducible first | exact HB.out | apply below_alloc | apply pw_below_drewN | apply below_drew1 | refine below_set ?_ GE101.out | refine below_set ?_ GE124.out | refine below_set ?_ GE131.out) | exact HB.out)))); (case aL => have := LMc100.out; omega); intro v134 w105 ho hb hg hat; rw [← Ny133.out] at ho; have n0_ := Aside0.mk (Kd.R_over' (by (with_reducible repeat (first | apply Kd.R_alloc | apply Kd.R_drewN | apply Kd.R_drew)); exact HO_4.out) (Kd.R_typed (by (with_reducible repeat (first | apply Kd.R_alloc | apply Kd.R_drewN | apply Kd.R_drew)); exact HO_10.out)) (by decide) hg); have n1_ := Aside0.mk (blk_grown (g := gb101) (o := .cells #[.int .i64 a0_0, .slice (some ad127) l0_1.length c0_1, .slice (some ad125) l0_2.length c0_2] 25 (0, 0)) (by (with_reducible repeat (first | refine blk_drewN ?_ _ | refine blk_drew ?_ | refine blk_alloc ?_ _)); exact BK101.out) hg (Kd.R_ne HO_10.out BK101.out (by decide))); have n2_ := Aside0.mk (blk_grown (g := gb124) (o := .cells #[.int .i64 ((rd_T60 x10_4 x12_4).f0), .int .i64 ((rd_T60 x10_4 x12_4).f1)] 60 (0, 0)) (by (with_reducible repeat (first | refine blk_drewN ?_ _ | refine blk_drew ?_ | refine blk_alloc ?_ _)); exact BK124.out) hg (Kd.R_away HO_10.out (fun _ hk => hk.1))); have n3_ := Aside0.mk (blk_grown (g := gb131) (o := .cells #[.int .i64 (rd (rd_L5 l0_1 ((rd_T60 x10_4 x12_4).f0)) x14_5), .int .i64 (rd (rd_L5 l0_1 ((rd_T60 x10_4 x12_4).f1)) x14_5)] 60 (0, 0)) (by (with_reducible repeat (first | refine blk_drewN ?_ _ | refine blk_drew ?_ | refine blk_alloc ?_ _)); exact BK131.out) hg (Kd.R_away HO_10.out (fun _ hk => hk.2))); have n4_ := Aside0.mk (hb); have n5_ := Aside0.mk (ho); clear HO_4; clear BK101; clear BK124; clear BK131; clear HB; clear HO_10; have HO_4 := n0_; have BK101 := n1_; have BK124 := n2_; have BK131 := n3_; have HB := n4_; have HO135 := n5_; clear n0_ n1_ n2_ n3_ n4_ n5_; clear ho hb hg hat))
                                      go_roundg k6
                                      case measure => have := HK1.out; have := HK2.out; have := HK3.out; have := HK4.out; have := HK5.out; have := HK6.out; omega
                                      case rel => exact ⟨(y133), (wrap64 (x14_5 + 1)), (by first | rfl | (simp; done) | (simp [*]; done)), H', ⟨by have := HK1.out; have := HK2.out; have := HK3.out; have := HK4.out; have := HK5.out; have := HK6.out; omega⟩, ⟨by (with_reducible repeat (first | apply Kd.R_alloc | apply Kd.R_drewN | apply Kd.R_drew)); exact HO_4.out⟩, ⟨by (with_reducible repeat (first | apply Kd.R_alloc | apply Kd.R_drewN | apply Kd.R_drew)); exact Kd.R_mono HO135.out (fun _ hk => hk.1)⟩, ⟨by (with_reducible repeat (first | refine blk_drewN ?_ _ | refine blk_drew ?_ | refine blk_alloc ?_ _)); exact BK101.out⟩, ⟨by (with_reducible repeat (first | refine blk_drewN ?_ _ | refine blk_drew ?_ | refine blk_alloc ?_ _)); exact BK124.out⟩, ⟨by repeat (first | (with_reducible first | exact HB.out | apply below_alloc | apply pw_below_drewN | apply below_drew1 | refine below_set ?_ GE101.out | refine below_set ?_ GE124.out | refine below_set ?_ GE131.out) | exact HB.out)⟩⟩
                                     ·rw [if_neg c100] at H
                                      exact absurd H (by simp)
                                ·rw [if_neg c84] at H
                                 exact absurd H (by simp)
                               ·rw [if_neg c83] at H
                                exact absurd H (by simp)
                              ·rw [if_neg c82] at H
                               exact absurd H (by simp)
                             ·rw [if_neg c81] at H
                              exact absurd H (by simp)
                            ·rw [if_neg c80] at H
                             exact absurd H (by simp)
                           ·rw [if_neg c79] at H
                            exact absurd H (by simp)
                          ·rw [if_neg c78] at H
                           exact absurd H (by simp)
                         ·rw [if_neg c77] at H
                          have c77b0 : decide (x14_5 < a0_0) = false := decide_eq_false c77
                          clear c77
                          have H' := Aside0.mk H
                          clear H
                          have hnb106 := NB101_124.out
                          have hnc106 := NB124_101.out
                          have hcz107_0 : wr.cell? ⟨gb101, 0, none⟩ = some (.int .i64 a0_0) := (blk_cell BK101.out 0).trans rfl
                          have hcz107_1 : wr.cell? ⟨gb101, 1, none⟩ = some (.slice A0_1 l0_1.length c0_1) := (blk_cell BK101.out 1).trans rfl
                          have hcz107_2 : wr.cell? ⟨gb101, 2, none⟩ = some (.slice (some ad125) l0_2.length c0_2) := (blk_cell BK101.out 2).trans rfl
                          have hfz107_0 := blk_frozen BK101.out 0
                          have hfz107_1 := blk_frozen BK101.out 1
                          have hfz107_2 := blk_frozen BK101.out 2
                          go_wp2
                          go_roundg k5
                          case measure => have := HK1.out; have := HK2.out; have := HK3.out; have := HK4.out; have := HK5.out; omega
                          case rel => exact ⟨(x10_5), (((rdOf false l0_2 ((rd_T60 x10_4 x12_4).f0)) != (rdOf false l0_2 ((rd_T60 x10_4 x12_4).f1)))), (wrap64 (x12_4 + 1)), (by first | rfl | (simp; done) | (simp [*]; done)), (by first | rfl | (simp; done) | (simp [*]; done)), H', ⟨by have := HK1.out; have := HK2.out; have := HK3.out; have := HK4.out; have := HK5.out; omega⟩, ⟨by (with_reducible repeat (first | apply Kd.R_alloc | apply Kd.R_drewN | apply Kd.R_drew)); exact HO_4.out⟩, ⟨by (with_reducible repeat (first | apply Kd.R_alloc | apply Kd.R_drewN | apply Kd.R_drew)); exact Kd.R_mono HO_10.out (fun _ hk => trivial)⟩, ⟨by (with_reducible repeat (first | refine blk_drewN ?_ _ | refine blk_drew ?_ | refine blk_alloc ?_ _)); exact BK101.out⟩, ⟨by repeat (first | (with_reducible first | exact HB.out | apply below_alloc | apply pw_below_drewN | apply below_drew1 | refine below_set ?_ GE101.out | refine below_set ?_ GE124.out) | exact HB.out)⟩⟩
                      ·rw [if_neg c70] at H
                       exact absurd H (by simp)
                     ·rw [if_neg c69] at H
                      exact absurd H (by simp)
                    ·rw [if_neg c68] at H
                     exact absurd H (by simp)
                   ·rw [if_neg c67] at H
                    exact absurd H (by simp)
                  ·rw [if_neg c66] at H
                   exact absurd H (by simp)
                ·rw [if_neg c57] at H
                 have c57b0 : decide (x12_4 < (x10_4.length : Int)) = false := decide_eq_false c57
                 clear c57
                 by_cases c108 : 0 ≤ x8_2
                 ·rw [if_pos c108] at H
                  have c108b0 : decide (0 ≤ x8_2) = true := decide_eq_true c108
                  clear c108
                  by_cases c109 : x8_2 < (t105.length : Int)
                  ·rw [if_pos c109] at H
                   have c109b0 : decide (x8_2 < (t105.length : Int)) = true := decide_eq_true c109
                   clear c109
                   by_cases c110 : 0 ≤ x9_3
                   ·rw [if_pos c110] at H
                    have c110b0 : decide (0 ≤ x9_3) = true := decide_eq_true c110
                    clear c110
                    by_cases c111 : x9_3 < (t105.length : Int)
                    ·rw [if_pos c111] at H
                     have c111b0 : decide (x9_3 < (t105.length : Int)) = true := decide_eq_true c111
                     clear c111
                     by_cases c112 : (x11_4 != ((rd t105 x8_2) != (rd t105 x9_3))) = true
                     ·rw [if_pos c112] at H
                      exact absurd H (by simp)
                     ·rw [if_neg c112] at H
                      have c112b0 : (x11_4 != ((rd t105 x8_2) != (rd t105 x9_3))) = false := by simpa using c112
                      (try (have c112b1 : decide (x11_4 = ((rd t105 x8_2) != (rd t105 x9_3))) = true := by simpa using c112))
                      (try (have c112b2 : (x11_4 == ((rd t105 x8_2) != (rd t105 x9_3))) = true := by simpa using c112))
                      clear c112
                      have H' := Aside0.mk H
                      clear H
                      obtain ⟨Ao113, co113, eo113⟩ := Kd.R_slice HO_10.out
                      subst eo113
                      try go_wp2
                      have n0_ := Aside0.mk (Kd.R_drew HO_4.out)
                      have n1_ := Aside0.mk (Kd.R_drew HO_10.out)
                      have n2_ := Aside0.mk (blk_drew BK101.out)
                      have n3_ := Aside0.mk (below_drew1 HB.out)
                      clear HO_4
                      clear HO_10
                      clear BK101
                      clear HB
                      have HO_4 := n0_
                      have HO_10 := n1_
                      have BK101 := n2_
                      have HB := n3_
                      clear n0_ n1_ n2_ n3_
                      have p136 : 0 ≤ (x8_2 : Int) := of_decide_eq_true (by first | (with_reducible assumption) | assumption)
                      have q136 : x8_2 < (t105.length : Int) := of_decide_eq_true (by first | (with_reducible assumption) | assumption)
                      obtain ⟨ad136, e136, hx136_0⟩ := Kd.at_int (Kd.R_reads' HO_4.out).2.2 x8_2 p136 q136
                      cases e136
                      replace p136 := eq_true p136
                      replace q136 := eq_true q136
                      have p137 : 0 ≤ (x9_3 : Int) := of_decide_eq_true (by first | (with_reducible assumption) | assumption)
                      have q137 : x9_3 < (t105.length : Int) := of_decide_eq_true (by first | (with_reducible assumption) | assumption)
                      obtain ⟨ad137, e137, hx137_0⟩ := Kd.at_int (Kd.R_reads' HO_4.out).2.2 x9_3 p137 q137
                      obtain rfl : ad136 = ad137 := (by injection e137)
                      replace p137 := eq_true p137
                      replace q137 := eq_true q137
                      refine start_ (n := 11) (S := fun w' => w'.cell? (ad136.add (x8_2).toNat) = some (.int .i64 (rd t105 x8_2)) ∧ w'.cell? (ad136.add (x9_3).toNat) = some (.int .i64 (rd t105 x9_3))) (ds := []) #[false, false, false, false, false, false, false, false, false, false, false] (by kernel_rfl) rfl rfl ⟨hx136_0, hx137_0⟩ (fun hHeld => ?_); refine with_tabW caesuralaw21_LeastAlike.tab42 caesuralaw21_LeastAlike.bits42 (fun HT_ HW_ => ?_)
                      generalize wr.drew = w114 at HO_4 HO_10 BK101 HB hx136_0 hx137_0 hHeld ⊢
                      refine pure_ (i := 0) (N := some 195) (v := ?_) (a' := ?_) #[true, false, false, false, false, false, false, false, false, false, false] rfl rfl (any_of HT_.out (by kernel_rfl)) (fun _ _ _ h => h) (Or.inl ⟨by rfl, ?_⟩) ?_ ?_
                      rotate_left
                      ·intro w'
                       go_simp
                       with_reducible rfl
                      rotate_left
                      ·simp only [Act.put, List.setIfInBounds_toArray, List.set_cons_zero, List.set_cons_succ, i64_w, i32_w]
                       rfl
                      refine pure_ (i := 1) (N := some 196) (v := ?_) (a' := ?_) #[true, true, false, false, false, false, false, false, false, false, false] rfl rfl (any_of HT_.out (by kernel_rfl)) (fun _ _ _ h => h) (Or.inl ⟨by rfl, ?_⟩) ?_ ?_
                      rotate_left
                      ·intro w'
                       go_simp
                       with_reducible rfl
                      rotate_left
                      ·simp only [Act.put, List.setIfInBounds_toArray, List.set_cons_zero, List.set_cons_succ, i64_w, i32_w]
                       rfl
                      refine pure_ (i := 2) (N := some 197) (v := ?_) (a' := ?_) #[true, true, true, false, false, false, false, false, false, false, false] rfl rfl (any_of HT_.out (by kernel_rfl)) (fun _ _ _ h => h) (Or.inl ⟨by rfl, ?_⟩) ?_ ?_
                      rotate_left
                      ·intro w'
                       go_simp
                       with_reducible rfl
                      rotate_left
                      ·simp only [Act.put, List.setIfInBounds_toArray, List.set_cons_zero, List.set_cons_succ, i64_w, i32_w]
                       rfl
                      refine pure_ (i := 3) (N := some 198) (v := ?_) (a' := ?_) #[true, true, true, true, false, false, false, false, false, false, false] rfl rfl (any_of HT_.out (by kernel_rfl)) (fun _ _ _ h => h) (Or.inl ⟨by rfl, ?_⟩) ?_ ?_
                      rotate_left
                      ·intro w'
                       go_simp
                       with_reducible rfl
                      rotate_left
                      ·simp only [Act.put, List.setIfInBounds_toArray, List.set_cons_zero, List.set_cons_succ, i64_w, i32_w]
                       rfl
                      refine pure_ (i := 5) (N := some 200) (v := ?_) (a' := ?_) #[true, true, true, true, false, true, false, false, false, false, false] rfl rfl (any_of HT_.out (by kernel_rfl)) (fun _ _ _ h => h) (Or.inl ⟨by rfl, ?_⟩) ?_ ?_
                      rotate_left
                      ·intro w'
                       go_simp
                       with_reducible rfl
                      rotate_left
                      ·simp only [Act.put, List.setIfInBounds_toArray, List.set_cons_zero, List.set_cons_succ, i64_w, i32_w]
                       rfl
                      refine pure_ (i := 6) (N := some 201) (v := ?_) (a' := ?_) #[true, true, true, true, false, true, true, false, false, false, false] rfl rfl (any_of HT_.out (by kernel_rfl)) (fun _ _ _ h => h) (Or.inl ⟨by rfl, ?_⟩) ?_ ?_
                      rotate_left
                      ·intro w'
                       go_simp
                       with_reducible rfl
                      rotate_left
                      ·simp only [Act.put, List.setIfInBounds_toArray, List.set_cons_zero, List.set_cons_succ, i64_w, i32_w]
                       rfl
                      refine pure_ (i := 7) (N := some 202) (v := ?_) (a' := ?_) #[true, true, true, true, false, true, true, true, false, false, false] rfl rfl (any_of HT_.out (by kernel_rfl)) (fun _ _ _ h => h) (Or.inl ⟨by rfl, ?_⟩) ?_ ?_
                      rotate_left
                      ·intro w'
                       go_simp
                       with_reducible rfl
                      rotate_left
                      ·simp only [Act.put, List.setIfInBounds_toArray, List.set_cons_zero, List.set_cons_succ, i64_w, i32_w]
                       rfl
                      refine take_ (i := 4) (N := some 199) (v := ?_) (a' := ?_) #[true, true, true, true, true, true, true, true, false, false, false] rfl rfl (take_ofW HT_.out HW_.out (by kernel_rfl)) (fun _ _ _ h => h) (Or.inl ⟨by rfl, ?_⟩) hHeld ?_ ?_
                      rotate_left
                      ·rintro w' ⟨s0, s1⟩
                       go_simp
                       with_reducible rfl
                      rotate_left
                      ·simp only [Act.put, List.setIfInBounds_toArray, List.set_cons_zero, List.set_cons_succ, i64_w, i32_w]
                       rfl
                      refine take_ (i := 8) (N := some 203) (v := ?_) (a' := ?_) #[true, true, true, true, true, true, true, true, true, false, false] rfl rfl (take_ofW HT_.out HW_.out (by kernel_rfl)) (fun _ _ _ h => h) (Or.inl ⟨by rfl, ?_⟩) hHeld ?_ ?_
                      rotate_left
                      ·rintro w' ⟨s0, s1⟩
                       go_simp
                       with_reducible rfl
                      rotate_left
                      ·simp only [Act.put, List.setIfInBounds_toArray, List.set_cons_zero, List.set_cons_succ, i64_w, i32_w]
                       rfl
                      refine pure_ (i := 9) (N := some 204) (v := ?_) (a' := ?_) #[true, true, true, true, true, true, true, true, true, true, false] rfl rfl (any_of HT_.out (by kernel_rfl)) (fun _ _ _ h => h) (Or.inl ⟨by rfl, ?_⟩) ?_ ?_
                      rotate_left
                      ·intro w'
                       go_simp
                       with_reducible rfl
                      rotate_left
                      ·simp only [Act.put, List.setIfInBounds_toArray, List.set_cons_zero, List.set_cons_succ, i64_w, i32_w]
                       rfl
                      refine pure_ (i := 10) (N := some 205) (v := ?_) (a' := ?_) #[true, true, true, true, true, true, true, true, true, true, true] rfl rfl (any_of HT_.out (by kernel_rfl)) (fun _ _ _ h => h) (Or.inl ⟨by rfl, ?_⟩) ?_ ?_
                      rotate_left
                      ·intro w'
                       go_simp
                       with_reducible rfl
                      rotate_left
                      ·simp only [Act.put, List.setIfInBounds_toArray, List.set_cons_zero, List.set_cons_succ, i64_w, i32_w]
                       rfl
                      refine done_ (done_of HT_.out (by kernel_rfl)) ?_
                      try go_wp2
                      go_roundg k4
                      case measure => have := HK1.out; have := HK2.out; have := HK3.out; have := HK4.out; omega
                      case rel => exact ⟨(wrap64 (x9_3 + 1)), (by first | rfl | (simp; done) | (simp [*]; done)), H', ⟨by have := HK1.out; have := HK2.out; have := HK3.out; have := HK4.out; omega⟩, ⟨by (with_reducible repeat (first | apply Kd.R_alloc | apply Kd.R_drewN | apply Kd.R_drew)); exact HO_4.out⟩, ⟨by (with_reducible repeat (first | refine blk_drewN ?_ _ | refine blk_drew ?_ | refine blk_alloc ?_ _)); exact BK101.out⟩, ⟨by repeat (first | (with_reducible first | exact HB.out | apply below_alloc | apply pw_below_drewN | apply below_drew1 | refine below_set ?_ GE101.out) | exact HB.out)⟩⟩
                    ·rw [if_neg c111] at H
                     exact absurd H (by simp)
                   ·rw [if_neg c110] at H
                    exact absurd H (by simp)
                  ·rw [if_neg c109] at H
                   exact absurd H (by simp)
                 ·rw [if_neg c108] at H
                  exact absurd H (by simp)
             ·rw [if_neg c54] at H
              have c54b0 : decide (x9_3 < x8_2) = false := decide_eq_false c54
              clear c54
              have H' := Aside0.mk H
              clear H
              go_wp2
              go_roundg k3
              case measure => have := HK1.out; have := HK2.out; have := HK3.out; omega
              case rel => exact ⟨(wrap64 (x8_2 + 1)), (by first | rfl | (simp; done) | (simp [*]; done)), H', ⟨by have := HK1.out; have := HK2.out; have := HK3.out; omega⟩, ⟨by (with_reducible repeat (first | apply Kd.R_alloc | apply Kd.R_drewN | apply Kd.R_drew)); exact HO_4.out⟩, ⟨by (with_reducible repeat (first | refine blk_drewN ?_ _ | refine blk_drew ?_ | refine blk_alloc ?_ _)); exact BK101.out⟩, ⟨by repeat (first | (with_reducible first | exact HB.out | apply below_alloc | apply pw_below_drewN | apply below_drew1 | refine below_set ?_ GE101.out) | exact HB.out)⟩⟩
          ·rw [if_neg c53] at H
           have c53b0 : decide (x8_2 < (l0_1.length : Int)) = false := decide_eq_false c53
           clear c53
           replace H := Option.bind_eq_some_iff.mp H
           obtain ⟨t138, A1150, H⟩ := H
           replace H : (some t138) = some r := H
           have A115 := Aside0.mk A1150
           clear A1150
           obtain rfl := Option.some.inj H
           go_wp2_with (first | ((with_reducible refine gate_callee (f := 47) rfl ?_); refine goesL_ (some 206) rfl rfl Try.func47 (by kernel_rfl) rfl #[] rfl (by (try simp only [List.map_toArray, List.map_cons, List.map_nil]); first | done | rfl | (simp only [List.length_drop, List.length_take]; rfl)) ?_; (with_reducible refine (caesuralaw21_wakes.calls k2  t138 _ A115.out).mono ?_); rintro e w116 ⟨rfl, hb⟩; refine ⟨_, rfl, ?_⟩; have n0_ := Aside0.mk (Kd.R_below (by (with_reducible repeat (first | apply Kd.R_alloc | apply Kd.R_drewN | apply Kd.R_drew)); exact HO_4.out) hb); have n1_ := Aside0.mk (blk_below (g := gb101) (o := .cells #[.int .i64 a0_0, .slice A0_1 l0_1.length c0_1, .slice A0_2 l0_2.length c0_2] 25 (0, 0)) (by (with_reducible repeat (first | refine blk_drewN ?_ _ | refine blk_drew ?_ | refine blk_alloc ?_ _)); exact BK101.out) hb); have n2_ := Aside0.mk (below_step (by repeat (first | (with_reducible first | exact HB.out | apply below_alloc | apply pw_below_drewN | apply below_drew1 | refine below_set ?_ GE101.out) | exact HB.out)) hb); clear HO_4; clear BK101; clear HB; have HO_4 := n0_; have BK101 := n1_; have HB := n2_; clear n0_ n1_ n2_; (try clear hb); (try clear hb2); (try clear hk); (try clear hi)))
           go_ret
           exact ⟨by first | rfl | (simp [errW_none, errW_some] <;> rfl) | (simp [*, errW_none, errW_some] <;> rfl), by repeat (first | (with_reducible first | exact HB.out | apply below_alloc | apply pw_below_drewN | apply below_drew1 | refine below_set ?_ GE101.out) | exact HB.out)⟩
    ·rw [if_neg c16] at H
     exact absurd H (by simp)
  ·replace c5 := Bool.eq_false_iff.mpr c5
   subst c5
   have H1 : ((caesuralaw21_wakes.f k).bind fun t139 => (some t139)) = some r := by rw [if_neg (show ¬ (false = true) by decide)] at H; exact H
   clear H
   have H := H1
   clear H1
   replace H := Option.bind_eq_some_iff.mp H
   obtain ⟨t139, A1170, H⟩ := H
   replace H : (some t139) = some r := H
   have A117 := Aside0.mk A1170
   clear A1170
   obtain rfl := Option.some.inj H
   go_enter Try.func8, Try.ntmps8
   go_wp2_with (first | ((with_reducible refine gate_dst (N := 1) rfl ?_); (try (refine gate_guard (by rfl) ?_; dsimp only)); refine box_event ?hg (N := 1) ?hd (cs := #[.int .i64 a0_0, .slice A0_1 l0_1.length c0_1, .slice A0_2 l0_2.length c0_2]) (t := 25) ?hr ?_; (case hd => rfl); (case hg => rfl); (case hr => first | (go_simp; done) | (go_simp; rfl)); intro gb101 hg w118 hbox hb; have n0_ := Aside0.mk (below_step (by repeat (first | (with_reducible first | exact HB.out | apply below_alloc | apply pw_below_drewN | apply below_drew1) | exact HB.out)) hb); have n1_ := Aside0.mk (hbox); have n2_ := Aside0.mk ((by rw [hg]; exact (below_size (by repeat (first | (with_reducible first | exact HB.out | apply below_alloc | apply pw_below_drewN | apply below_drew1) | exact HB.out))) : w.heap.size ≤ gb101)); have n3_ := Aside0.mk ((by rw [hg]; exact (below_size (by repeat (first | (with_reducible first | exact HB.out | apply below_alloc | apply pw_below_drewN | apply below_drew1) | exact HB.out))) : w.heap.size ≤ gb101)); clear HB; have HB := n0_; have BK101 := n1_; have GW101 := n2_; have GE101 := n3_; clear n0_ n1_ n2_ n3_; clear hb hbox hg; have hcz119_0 : w118.cell? ⟨gb101, 0, none⟩ = some (.int .i64 a0_0) := (blk_cell BK101.out 0).trans rfl; have hcz119_1 : w118.cell? ⟨gb101, 1, none⟩ = some (.slice A0_1 l0_1.length c0_1) := (blk_cell BK101.out 1).trans rfl; have hcz119_2 : w118.cell? ⟨gb101, 2, none⟩ = some (.slice A0_2 l0_2.length c0_2) := (blk_cell BK101.out 2).trans rfl; have hfz119_0 := blk_frozen BK101.out 0; have hfz119_1 := blk_frozen BK101.out 1; have hfz119_2 := blk_frozen BK101.out 2) | ((with_reducible refine gate_callee (f := 46) rfl ?_); refine goesL_ (some 19) rfl rfl Try.func46 (by kernel_rfl) rfl #[.agg #[.int .i64 a0_0, .slice A0_1 l0_1.length c0_1, .slice A0_2 l0_2.length c0_2]] rfl (by (try simp only [List.map_toArray, List.map_cons, List.map_nil]); first | done | rfl | (simp only [List.length_drop, List.length_take]; rfl)) ?_; (with_reducible refine (caesuralaw21_Light.calls k a0_0 _ _ l0_1 _ _ l0_2 true _ ?side1 ?side2 ?side3 ?side4 A2.out).mono ?_); (case side1 => repeat (first | exact (Kd.C_below HR0_1.out HB.out) | (with_reducible refine Kd.C_alloc ?_ _) | (with_reducible refine Kd.C_drewN ?_ _) | (with_reducible refine Kd.C_drew ?_))); (case side2 => exact HC0_1.out); (case side3 => repeat (first | exact (Kd.C_below HR0_2.out HB.out) | (with_reducible refine Kd.C_alloc ?_ _) | (with_reducible refine Kd.C_drewN ?_ _) | (with_reducible refine Kd.C_drew ?_))); (case side4 => exact HC0_2.out); rintro e w120 ⟨rfl, hb⟩; refine ⟨_, rfl, ?_⟩; have n0_ := Aside0.mk (blk_below (g := gb101) (o := .cells #[.int .i64 a0_0, .slice A0_1 l0_1.length c0_1, .slice A0_2 l0_2.length c0_2] 25 (0, 0)) (by (with_reducible repeat (first | refine blk_drewN ?_ _ | refine blk_drew ?_ | refine blk_alloc ?_ _)); exact BK101.out) hb); have n1_ := Aside0.mk (below_step (by repeat (first | (with_reducible first | exact HB.out | apply below_alloc | apply pw_below_drewN | apply below_drew1 | refine below_set ?_ GE101.out) | exact HB.out)) hb); clear BK101; clear HB; have BK101 := n0_; have HB := n1_; clear n0_ n1_; (try clear hb); (try clear hb2); (try clear hk); (try clear hi); have hcz121_0 : w120.cell? ⟨gb101, 0, none⟩ = some (.int .i64 a0_0) := (blk_cell BK101.out 0).trans rfl; have hcz121_1 : w120.cell? ⟨gb101, 1, none⟩ = some (.slice A0_1 l0_1.length c0_1) := (blk_cell BK101.out 1).trans rfl; have hcz121_2 : w120.cell? ⟨gb101, 2, none⟩ = some (.slice A0_2 l0_2.length c0_2) := (blk_cell BK101.out 2).trans rfl; have hfz121_0 := blk_frozen BK101.out 0; have hfz121_1 := blk_frozen BK101.out 1; have hfz121_2 := blk_frozen BK101.out 2) | (go_at_call 37; (with_reducible refine (caesuraref19_Good.calls k a0_0 _ _ l0_1 _ _ l0_2 false _ ?side1 ?side2 ?side3 ?side4 A4.out).mono ?_); (case side1 => repeat (first | exact (Kd.C_below HR0_1.out HB.out) | (with_reducible refine Kd.C_alloc ?_ _) | (with_reducible refine Kd.C_drewN ?_ _) | (with_reducible refine Kd.C_drew ?_))); (case side2 => exact HC0_1.out); (case side3 => repeat (first | exact (Kd.C_below HR0_2.out HB.out) | (with_reducible refine Kd.C_alloc ?_ _) | (with_reducible refine Kd.C_drewN ?_ _) | (with_reducible refine Kd.C_drew ?_))); (case side4 => exact HC0_2.out); rintro e w122 ⟨rfl, hb⟩; have n0_ := Aside0.mk (blk_below (g := gb101) (o := .cells #[.int .i64 a0_0, .slice A0_1 l0_1.length c0_1, .slice A0_2 l0_2.length c0_2] 25 (0, 0)) (by (with_reducible repeat (first | refine blk_drewN ?_ _ | refine blk_drew ?_ | refine blk_alloc ?_ _)); exact BK101.out) hb); have n1_ := Aside0.mk (below_step (by repeat (first | (with_reducible first | exact HB.out | apply below_alloc | apply pw_below_drewN | apply below_drew1 | refine below_set ?_ GE101.out) | exact HB.out)) hb); clear BK101; clear HB; have BK101 := n0_; have HB := n1_; clear n0_ n1_; (try clear hb); (try clear hb2); (try clear hk); (try clear hi)) | ((with_reducible refine gate_callee (f := 47) rfl ?_); refine goesL_ (some 32) rfl rfl Try.func47 (by kernel_rfl) rfl #[] rfl (by (try simp only [List.map_toArray, List.map_cons, List.map_nil]); first | done | rfl | (simp only [List.length_drop, List.length_take]; rfl)) ?_; (with_reducible refine (caesuralaw21_wakes.calls k  t139 _ A117.out).mono ?_); rintro e w123 ⟨rfl, hb⟩; refine ⟨_, rfl, ?_⟩; have n0_ := Aside0.mk (blk_below (g := gb101) (o := .cells #[.int .i64 a0_0, .slice A0_1 l0_1.length c0_1, .slice A0_2 l0_2.length c0_2] 25 (0, 0)) (by (with_reducible repeat (first | refine blk_drewN ?_ _ | refine blk_drew ?_ | refine blk_alloc ?_ _)); exact BK101.out) hb); have n1_ := Aside0.mk (below_step (by repeat (first | (with_reducible first | exact HB.out | apply below_alloc | apply pw_below_drewN | apply below_drew1 | refine below_set ?_ GE101.out) | exact HB.out)) hb); clear BK101; clear HB; have BK101 := n0_; have HB := n1_; clear n0_ n1_; (try clear hb); (try clear hb2); (try clear hk); (try clear hi)))
   go_ret
   exact ⟨by first | rfl | (simp [errW_none, errW_some] <;> rfl) | (simp [*, errW_none, errW_some] <;> rfl), by repeat (first | (with_reducible first | exact HB.out | apply below_alloc | apply pw_below_drewN | apply below_drew1 | refine below_set ?_ GE101.out) | exact HB.out)⟩
 ·replace c3 := Bool.eq_false_iff.mpr c3
  subst c3
  have H1 : ((caesuralaw21_wakes.f k).bind fun t140 => (some t140)) = some r := by rw [if_neg (show ¬ (false = true) by decide)] at H; exact H
  clear H
  have H := H1
  clear H1
  replace H := Option.bind_eq_some_iff.mp H
  obtain ⟨t140, A1240, H⟩ := H
  replace H : (some t140) = some r := H
  have A124 := Aside0.mk A1240
  clear A1240
  obtain rfl := Option.some.inj H
  go_enter Try.func8, Try.ntmps8
  go_wp2_with (first | ((with_reducible refine gate_dst (N := 1) rfl ?_); (try (refine gate_guard (by rfl) ?_; dsimp only)); refine box_event ?hg (N := 1) ?hd (cs := #[.int .i64 a0_0, .slice A0_1 l0_1.length c0_1, .slice A0_2 l0_2.length c0_2]) (t := 25) ?hr ?_; (case hd => rfl); (case hg => rfl); (case hr => first | (go_simp; done) | (go_simp; rfl)); intro gb101 hg w125 hbox hb; have n0_ := Aside0.mk (below_step (by repeat (first | (with_reducible first | exact HB.out | apply below_alloc | apply pw_below_drewN | apply below_drew1) | exact HB.out)) hb); have n1_ := Aside0.mk (hbox); have n2_ := Aside0.mk ((by rw [hg]; exact (below_size (by repeat (first | (with_reducible first | exact HB.out | apply below_alloc | apply pw_below_drewN | apply below_drew1) | exact HB.out))) : w.heap.size ≤ gb101)); have n3_ := Aside0.mk ((by rw [hg]; exact (below_size (by repeat (first | (with_reducible first | exact HB.out | apply below_alloc | apply pw_below_drewN | apply below_drew1) | exact HB.out))) : w.heap.size ≤ gb101)); clear HB; have HB := n0_; have BK101 := n1_; have GW101 := n2_; have GE101 := n3_; clear n0_ n1_ n2_ n3_; clear hb hbox hg; have hcz126_0 : w125.cell? ⟨gb101, 0, none⟩ = some (.int .i64 a0_0) := (blk_cell BK101.out 0).trans rfl; have hcz126_1 : w125.cell? ⟨gb101, 1, none⟩ = some (.slice A0_1 l0_1.length c0_1) := (blk_cell BK101.out 1).trans rfl; have hcz126_2 : w125.cell? ⟨gb101, 2, none⟩ = some (.slice A0_2 l0_2.length c0_2) := (blk_cell BK101.out 2).trans rfl; have hfz126_0 := blk_frozen BK101.out 0; have hfz126_1 := blk_frozen BK101.out 1; have hfz126_2 := blk_frozen BK101.out 2) | ((with_reducible refine gate_callee (f := 46) rfl ?_); refine goesL_ (some 19) rfl rfl Try.func46 (by kernel_rfl) rfl #[.agg #[.int .i64 a0_0, .slice A0_1 l0_1.length c0_1, .slice A0_2 l0_2.length c0_2]] rfl (by (try simp only [List.map_toArray, List.map_cons, List.map_nil]); first | done | rfl | (simp only [List.length_drop, List.length_take]; rfl)) ?_; (with_reducible refine (caesuralaw21_Light.calls k a0_0 _ _ l0_1 _ _ l0_2 false _ ?side1 ?side2 ?side3 ?side4 A2.out).mono ?_); (case side1 => repeat (first | exact (Kd.C_below HR0_1.out HB.out) | (with_reducible refine Kd.C_alloc ?_ _) | (with_reducible refine Kd.C_drewN ?_ _) | (with_reducible refine Kd.C_drew ?_))); (case side2 => exact HC0_1.out); (case side3 => repeat (first | exact (Kd.C_below HR0_2.out HB.out) | (with_reducible refine Kd.C_alloc ?_ _) | (with_reducible refine Kd.C_drewN ?_ _) | (with_reducible refine Kd.C_drew ?_))); (case side4 => exact HC0_2.out); rintro e w127 ⟨rfl, hb⟩; refine ⟨_, rfl, ?_⟩; have n0_ := Aside0.mk (blk_below (g := gb101) (o := .cells #[.int .i64 a0_0, .slice A0_1 l0_1.length c0_1, .slice A0_2 l0_2.length c0_2] 25 (0, 0)) (by (with_reducible repeat (first | refine blk_drewN ?_ _ | refine blk_drew ?_ | refine blk_alloc ?_ _)); exact BK101.out) hb); have n1_ := Aside0.mk (below_step (by repeat (first | (with_reducible first | exact HB.out | apply below_alloc | apply pw_below_drewN | apply below_drew1 | refine below_set ?_ GE101.out) | exact HB.out)) hb); clear BK101; clear HB; have BK101 := n0_; have HB := n1_; clear n0_ n1_; (try clear hb); (try clear hb2); (try clear hk); (try clear hi)) | ((with_reducible refine gate_callee (f := 47) rfl ?_); refine goesL_ (some 32) rfl rfl Try.func47 (by kernel_rfl) rfl #[] rfl (by (try simp only [List.map_toArray, List.map_cons, List.map_nil]); first | done | rfl | (simp only [List.length_drop, List.length_take]; rfl)) ?_; (with_reducible refine (caesuralaw21_wakes.calls k  t140 _ A124.out).mono ?_); rintro e w128 ⟨rfl, hb⟩; refine ⟨_, rfl, ?_⟩; have n0_ := Aside0.mk (blk_below (g := gb101) (o := .cells #[.int .i64 a0_0, .slice A0_1 l0_1.length c0_1, .slice A0_2 l0_2.length c0_2] 25 (0, 0)) (by (with_reducible repeat (first | refine blk_drewN ?_ _ | refine blk_drew ?_ | refine blk_alloc ?_ _)); exact BK101.out) hb); have n1_ := Aside0.mk (below_step (by repeat (first | (with_reducible first | exact HB.out | apply below_alloc | apply pw_below_drewN | apply below_drew1 | refine below_set ?_ GE101.out) | exact HB.out)) hb); clear BK101; clear HB; have BK101 := n0_; have HB := n1_; clear n0_ n1_; (try clear hb); (try clear hb2); (try clear hk); (try clear hi)))
  go_ret
  exact ⟨by first | rfl | (simp [errW_none, errW_some] <;> rfl) | (simp [*, errW_none, errW_some] <;> rfl), by repeat (first | (with_reducible first | exact HB.out | apply below_alloc | apply pw_below_drewN | apply below_drew1 | refine below_set ?_ GE101.out) | exact HB.out)⟩

end Go.Proofs.Ytelkjbacdpmnfaa.A
