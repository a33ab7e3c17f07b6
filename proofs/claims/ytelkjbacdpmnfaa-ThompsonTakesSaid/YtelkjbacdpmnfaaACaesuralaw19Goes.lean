/- By a program, out of the translation (wip/myprint.py). -/
import Derived.Test.YtelkjbacdpmnfaaA0
namespace Go.Proofs.Ytelkjbacdpmnfaa.A
open Go.RowKit Go.Proofs.YtelkjbacdpmnfaaW.PrintWords Go.Proofs.YtelkjbacdpmnfaaW.PrintLast Go.Proofs.YtelkjbacdpmnfaaW.PrintMore
attribute [local go_sem] max2_int min2_int max_two min_two max_three min_three max_four min_four   -- for this text's walks alone
set_option linter.unusedVariables false
set_option linter.unusedSimpArgs false

/-! ### caesuralaw19_goes: function 43 -/
mutual
def caesuralaw19_goes.l0 : Nat → List Int → List Bool → Int → Int → List (List (S82)) → Option (Bool)
  | 0, _, _, _, _, _ => none
  | k + 1, x1, x5, x6, x102000, x102001 => caesuralaw19_goes.l1 k x1 x5 x6 true x102000 x102001
def caesuralaw19_goes.l1 : Nat → List Int → List Bool → Int → Bool → Int → List (List (S82)) → Option (Bool)
  | 0, _, _, _, _, _, _ => none
  | k + 1, x1, x5, x6, x7, x102000, x102001 => if x7 = true then (caesuralaw19_goes.l2 k x1 x5 x6 false 0 x102000 x102001) else (if x6 = (x1.length : Int) then (if 1 < (x5.length : Int) then (some (rdOf false x5 1)) else (none)) else (if 0 ≤ (x5.length : Int) then (if ((x5.length : Int) : Int).toNat ≤ 281474976710656 then (caesuralaw19_goes.l4 k x1 x5 x6 (List.replicate ((x5.length : Int) : Int).toNat false) 0 x102000 x102001) else (none)) else (none)))
def caesuralaw19_goes.l2 : Nat → List Int → List Bool → Int → Bool → Int → Int → List (List (S82)) → Option (Bool)
  | 0, _, _, _, _, _, _, _ => none
  | k + 1, x1, x5, x6, x7, x8, x102000, x102001 => if x8 < (x5.length : Int) then (caesuralaw19_goes.l3 k x1 x5 x6 x7 x8 0 x102000 x102001) else (caesuralaw19_goes.l1 k x1 x5 x6 x7 x102000 x102001)
def caesuralaw19_goes.l3 : Nat → List Int → List Bool → Int → Bool → Int → Int → Int → List (List (S82)) → Option (Bool)
  | 0, _, _, _, _, _, _, _, _ => none
  | k + 1, x1, x5, x6, x7, x8, x9, x102000, x102001 => if 0 ≤ x8 then (if x8 < (x102001.length : Int) then (if x9 < ((rd_L2 x102001 x8).length : Int) then (if x8 < (x5.length : Int) then (caesuralaw19_goes.j4 k x1 x5 x6 x7 x8 x9 (rdOf false x5 x8) x102000 x102001) else (none)) else (caesuralaw19_goes.j4 k x1 x5 x6 x7 x8 x9 false x102000 x102001)) else (none)) else (none)
def caesuralaw19_goes.j4 : Nat → List Int → List Bool → Int → Bool → Int → Int → Bool → Int → List (List (S82)) → Option (Bool)
  | 0, _, _, _, _, _, _, _, _, _ => none
  | k + 1, x1, x5, x6, x7, x8, x9, x43, x102000, x102001 => if x43 = true then (if 0 ≤ x8 then (if x8 < (x102001.length : Int) then (if 0 ≤ x9 then (if x9 < ((rd_L2 x102001 x8).length : Int) then (if ((rd_T82 (rd_L2 x102001 x8) x9).f0) = (-1) then (if 0 ≤ ((rd_T82 (rd_L2 x102001 x8) x9).f1) then (if ((rd_T82 (rd_L2 x102001 x8) x9).f1) < (x5.length : Int) then (if (rdOf false x5 ((rd_T82 (rd_L2 x102001 x8) x9).f1) = true) then (caesuralaw19_goes.l3 k x1 x5 x6 x7 x8 (wrap64 (x9 + 1)) x102000 x102001) else (caesuralaw19_goes.l3 k x1 (x5.set (((rd_T82 (rd_L2 x102001 x8) x9).f1) : Int).toNat true) x6 true x8 (wrap64 (x9 + 1)) x102000 x102001)) else (none)) else (none)) else (caesuralaw19_goes.l3 k x1 x5 x6 x7 x8 (wrap64 (x9 + 1)) x102000 x102001)) else (none)) else (none)) else (none)) else (none)) else (caesuralaw19_goes.l2 k x1 x5 x6 x7 (wrap64 (x8 + 1)) x102000 x102001)
def caesuralaw19_goes.l4 : Nat → List Int → List Bool → Int → List Bool → Int → Int → List (List (S82)) → Option (Bool)
  | 0, _, _, _, _, _, _, _ => none
  | k + 1, x1, x5, x6, x11, x12, x102000, x102001 => if x12 < (x5.length : Int) then (caesuralaw19_goes.l5 k x1 x5 x6 x11 x12 0 x102000 x102001) else (caesuralaw19_goes.l0 k x1 x11 (wrap64 (x6 + 1)) x102000 x102001)
def caesuralaw19_goes.l5 : Nat → List Int → List Bool → Int → List Bool → Int → Int → Int → List (List (S82)) → Option (Bool)
  | 0, _, _, _, _, _, _, _, _ => none
  | k + 1, x1, x5, x6, x11, x12, x13, x102000, x102001 => if 0 ≤ x12 then (if x12 < (x102001.length : Int) then (if x13 < ((rd_L2 x102001 x12).length : Int) then (if x12 < (x5.length : Int) then (caesuralaw19_goes.j7 k x1 x5 x6 x11 x12 x13 (rdOf false x5 x12) x102000 x102001) else (none)) else (caesuralaw19_goes.j7 k x1 x5 x6 x11 x12 x13 false x102000 x102001)) else (none)) else (none)
def caesuralaw19_goes.j7 : Nat → List Int → List Bool → Int → List Bool → Int → Int → Bool → Int → List (List (S82)) → Option (Bool)
  | 0, _, _, _, _, _, _, _, _, _ => none
  | k + 1, x1, x5, x6, x11, x12, x13, x98, x102000, x102001 => if x98 = true then (if 0 ≤ x12 then (if x12 < (x102001.length : Int) then (if 0 ≤ x13 then (if x13 < ((rd_L2 x102001 x12).length : Int) then (if 0 ≤ x6 then (if x6 < (x1.length : Int) then (if ((rd_T82 (rd_L2 x102001 x12) x13).f0) = (rd x1 x6) then (if 0 ≤ ((rd_T82 (rd_L2 x102001 x12) x13).f1) then (if ((rd_T82 (rd_L2 x102001 x12) x13).f1) < (x11.length : Int) then (caesuralaw19_goes.l5 k x1 x5 x6 (x11.set (((rd_T82 (rd_L2 x102001 x12) x13).f1) : Int).toNat true) x12 (wrap64 (x13 + 1)) x102000 x102001) else (none)) else (none)) else (caesuralaw19_goes.l5 k x1 x5 x6 x11 x12 (wrap64 (x13 + 1)) x102000 x102001)) else (none)) else (none)) else (none)) else (none)) else (none)) else (none)) else (caesuralaw19_goes.l4 k x1 x5 x6 x11 (wrap64 (x12 + 1)) x102000 x102001)
end
def caesuralaw19_goes.f (k : Nat) (a0_0 : Int) (l0_1 : List (List (S82))) (l1 : List Int) : Option (Bool) := if 0 ≤ (l0_1.length : Int) then (if ((l0_1.length : Int) : Int).toNat ≤ 281474976710656 then ((some (List.replicate ((l0_1.length : Int) : Int).toNat false : List Bool)).bind fun y102 => (if 0 < (y102.length : Int) then (caesuralaw19_goes.l0 k l1 (y102.set (0 : Int).toNat true) 0 a0_0 l0_1) else (none))) else (none)) else (none)
theorem caesuralaw19_goes.mono_l : ∀ k, (∀ y0 y1 y2 y3 y4, LeO (caesuralaw19_goes.l0 k y0 y1 y2 y3 y4) (caesuralaw19_goes.l0 (k + 1) y0 y1 y2 y3 y4)) ∧ (∀ y0 y1 y2 y3 y4 y5, LeO (caesuralaw19_goes.l1 k y0 y1 y2 y3 y4 y5) (caesuralaw19_goes.l1 (k + 1) y0 y1 y2 y3 y4 y5)) ∧ (∀ y0 y1 y2 y3 y4 y5 y6, LeO (caesuralaw19_goes.l2 k y0 y1 y2 y3 y4 y5 y6) (caesuralaw19_goes.l2 (k + 1) y0 y1 y2 y3 y4 y5 y6)) ∧ (∀ y0 y1 y2 y3 y4 y5 y6 y7, LeO (caesuralaw19_goes.l3 k y0 y1 y2 y3 y4 y5 y6 y7) (caesuralaw19_goes.l3 (k + 1) y0 y1 y2 y3 y4 y5 y6 y7)) ∧ (∀ y0 y1 y2 y3 y4 y5 y6 y7 y8, LeO (caesuralaw19_goes.j4 k y0 y1 y2 y3 y4 y5 y6 y7 y8) (caesuralaw19_goes.j4 (k + 1) y0 y1 y2 y3 y4 y5 y6 y7 y8)) ∧ (∀ y0 y1 y2 y3 y4 y5 y6, LeO (caesuralaw19_goes.l4 k y0 y1 y2 y3 y4 y5 y6) (caesuralaw19_goes.l4 (k + 1) y0 y1 y2 y3 y4 y5 y6)) ∧ (∀ y0 y1 y2 y3 y4 y5 y6 y7, LeO (caesuralaw19_goes.l5 k y0 y1 y2 y3 y4 y5 y6 y7) (caesuralaw19_goes.l5 (k + 1) y0 y1 y2 y3 y4 y5 y6 y7)) ∧ (∀ y0 y1 y2 y3 y4 y5 y6 y7 y8, LeO (caesuralaw19_goes.j7 k y0 y1 y2 y3 y4 y5 y6 y7 y8) (caesuralaw19_goes.j7 (k + 1) y0 y1 y2 y3 y4 y5 y6 y7 y8))
  | 0 => ⟨fun _ _ _ _ _ r h => by simp [caesuralaw19_goes.l0] at h, fun _ _ _ _ _ _ r h => by simp [caesuralaw19_goes.l1] at h, fun _ _ _ _ _ _ _ r h => by simp [caesuralaw19_goes.l2] at h, fun _ _ _ _ _ _ _ _ r h => by simp [caesuralaw19_goes.l3] at h, fun _ _ _ _ _ _ _ _ _ r h => by simp [caesuralaw19_goes.j4] at h, fun _ _ _ _ _ _ _ r h => by simp [caesuralaw19_goes.l4] at h, fun _ _ _ _ _ _ _ _ r h => by simp [caesuralaw19_goes.l5] at h, fun _ _ _ _ _ _ _ _ _ r h => by simp [caesuralaw19_goes.j7] at h⟩
  | k + 1 => by
    obtain ⟨ih0, ih1, ih2, ih3, ih4, ih5, ih6, ih7⟩ := caesuralaw19_goes.mono_l k
    refine ⟨?_, ?_, ?_, ?_, ?_, ?_, ?_, ?_⟩
    · intro y0 y1 y2 y3 y4
      unfold caesuralaw19_goes.l0
      repeat' first
      | (with_reducible exact ih0 _ _ _ _ _)
      | (with_reducible exact ih1 _ _ _ _ _ _)
      | (with_reducible exact ih2 _ _ _ _ _ _ _)
      | (with_reducible exact ih3 _ _ _ _ _ _ _ _)
      | (with_reducible exact ih4 _ _ _ _ _ _ _ _ _)
      | (with_reducible exact ih5 _ _ _ _ _ _ _)
      | (with_reducible exact ih6 _ _ _ _ _ _ _ _)
      | (with_reducible exact ih7 _ _ _ _ _ _ _ _ _)
      | (with_reducible exact LeO.refl _)
      | (with_reducible exact LeO.none _)
      | (with_reducible refine LeO.ite ?_ ?_)
      | (with_reducible refine LeO.bind ?_ (fun _ => ?_))
      | exact ih0 _ _ _ _ _
      | exact ih1 _ _ _ _ _ _
      | exact ih2 _ _ _ _ _ _ _
      | exact ih3 _ _ _ _ _ _ _ _
      | exact ih4 _ _ _ _ _ _ _ _ _
      | exact ih5 _ _ _ _ _ _ _
      | exact ih6 _ _ _ _ _ _ _ _
      | exact ih7 _ _ _ _ _ _ _ _ _
      | exact LeO.none _
      | refine LeO.ite ?_ ?_
      | refine LeO.bind ?_ (fun _ => ?_)
    · intro y0 y1 y2 y3 y4 y5
      unfold caesuralaw19_goes.l1
      repeat' first
      | (with_reducible exact ih0 _ _ _ _ _)
      | (with_reducible exact ih1 _ _ _ _ _ _)
      | (with_reducible exact ih2 _ _ _ _ _ _ _)
      | (with_reducible exact ih3 _ _ _ _ _ _ _ _)
      | (with_reducible exact ih4 _ _ _ _ _ _ _ _ _)
      | (with_reducible exact ih5 _ _ _ _ _ _ _)
      | (with_reducible exact ih6 _ _ _ _ _ _ _ _)
      | (with_reducible exact ih7 _ _ _ _ _ _ _ _ _)
      | (with_reducible exact LeO.refl _)
      | (with_reducible exact LeO.none _)
      | (with_reducible refine LeO.ite ?_ ?_)
      | (with_reducible refine LeO.bind ?_ (fun _ => ?_))
      | exact ih0 _ _ _ _ _
      | exact ih1 _ _ _ _ _ _
      | exact ih2 _ _ _ _ _ _ _
      | exact ih3 _ _ _ _ _ _ _ _
      | exact ih4 _ _ _ _ _ _ _ _ _
      | exact ih5 _ _ _ _ _ _ _
      | exact ih6 _ _ _ _ _ _ _ _
      | exact ih7 _ _ _ _ _ _ _ _ _
      | exact LeO.none _
      | refine LeO.ite ?_ ?_
      | refine LeO.bind ?_ (fun _ => ?_)
    · intro y0 y1 y2 y3 y4 y5 y6
      unfold caesuralaw19_goes.l2
      repeat' first
      | (with_reducible exact ih0 _ _ _ _ _)
      | (with_reducible exact ih1 _ _ _ _ _ _)
      | (with_reducible exact ih2 _ _ _ _ _ _ _)
      | (with_reducible exact ih3 _ _ _ _ _ _ _ _)
      | (with_reducible exact ih4 _ _ _ _ _ _ _ _ _)
      | (with_reducible exact ih5 _ _ _ _ _ _ _)
      | (with_reducible exact ih6 _ _ _ _ _ _ _ _)
      | (with_reducible exact ih7 _ _ _ _ _ _ _ _ _)
      | (with_reducible exact LeO.refl _)
      | (with_reducible exact LeO.none _)
      | (with_reducible refine LeO.ite ?_ ?_)
      | (with_reducible refine LeO.bind ?_ (fun _ => ?_))
      | exact ih0 _ _ _ _ _
      | exact ih1 _ _ _ _ _ _
      | exact ih2 _ _ _ _ _ _ _
      | exact ih3 _ _ _ _ _ _ _ _
      | exact ih4 _ _ _ _ _ _ _ _ _
      | exact ih5 _ _ _ _ _ _ _
      | exact ih6 _ _ _ _ _ _ _ _
      | exact ih7 _ _ _ _ _ _ _ _ _
      | exact LeO.none _
      | refine LeO.ite ?_ ?_
      | refine LeO.bind ?_ (fun _ => ?_)
    · intro y0 y1 y2 y3 y4 y5 y6 y7
      unfold caesuralaw19_goes.l3
      repeat' first
      | (with_reducible exact ih0 _ _ _ _ _)
      | (with_reducible exact ih1 _ _ _ _ _ _)
      | (with_reducible exact ih2 _ _ _ _ _ _ _)
      | (with_reducible exact ih3 _ _ _ _ _ _ _ _)
      | (with_reducible exact ih4 _ _ _ _ _ _ _ _ _)
      | (with_reducible exact ih5 _ _ _ _ _ _ _)
      | (with_reducible exact ih6 _ _ _ _ _ _ _ _)
      | (with_reducible exact ih7 _ _ _ _ _ _ _ _ _)
      | (with_reducible exact LeO.refl _)
      | (with_reducible exact LeO.none _)
      | (with_reducible refine LeO.ite ?_ ?_)
      | (with_reducible refine LeO.bind ?_ (fun _ => ?_))
      | exact ih0 _ _ _ _ _
      | exact ih1 _ _ _ _ _ _
      | exact ih2 _ _ _ _ _ _ _
      | exact ih3 _ _ _ _ _ _ _ _
      | exact ih4 _ _ _ _ _ _ _ _ _
      | exact ih5 _ _ _ _ _ _ _
      | exact ih6 _ _ _ _ _ _ _ _
      | exact ih7 _ _ _ _ _ _ _ _ _
      | exact LeO.none _
      | refine LeO.ite ?_ ?_
      | refine LeO.bind ?_ (fun _ => ?_)
    · intro y0 y1 y2 y3 y4 y5 y6 y7 y8
      unfold caesuralaw19_goes.j4
      repeat' first
      | (with_reducible exact ih0 _ _ _ _ _)
      | (with_reducible exact ih1 _ _ _ _ _ _)
      | (with_reducible exact ih2 _ _ _ _ _ _ _)
      | (with_reducible exact ih3 _ _ _ _ _ _ _ _)
      | (with_reducible exact ih4 _ _ _ _ _ _ _ _ _)
      | (with_reducible exact ih5 _ _ _ _ _ _ _)
      | (with_reducible exact ih6 _ _ _ _ _ _ _ _)
      | (with_reducible exact ih7 _ _ _ _ _ _ _ _ _)
      | (with_reducible exact LeO.refl _)
      | (with_reducible exact LeO.none _)
      | (with_reducible refine LeO.ite ?_ ?_)
      | (with_reducible refine LeO.bind ?_ (fun _ => ?_))
      | exact ih0 _ _ _ _ _
      | exact ih1 _ _ _ _ _ _
      | exact ih2 _ _ _ _ _ _ _
      | exact ih3 _ _ _ _ _ _ _ _
      | exact ih4 _ _ _ _ _ _ _ _ _
      | exact ih5 _ _ _ _ _ _ _
      | exact ih6 _ _ _ _ _ _ _ _
      | exact ih7 _ _ _ _ _ _ _ _ _
      | exact LeO.none _
      | refine LeO.ite ?_ ?_
      | refine LeO.bind ?_ (fun _ => ?_)
    · intro y0 y1 y2 y3 y4 y5 y6
      unfold caesuralaw19_goes.l4
      repeat' first
      | (with_reducible exact ih0 _ _ _ _ _)
      | (with_reducible exact ih1 _ _ _ _ _ _)
      | (with_reducible exact ih2 _ _ _ _ _ _ _)
      | (with_reducible exact ih3 _ _ _ _ _ _ _ _)
      | (with_reducible exact ih4 _ _ _ _ _ _ _ _ _)
      | (with_reducible exact ih5 _ _ _ _ _ _ _)
      | (with_reducible exact ih6 _ _ _ _ _ _ _ _)
      | (with_reducible exact ih7 _ _ _ _ _ _ _ _ _)
      | (with_reducible exact LeO.refl _)
      | (with_reducible exact LeO.none _)
      | (with_reducible refine LeO.ite ?_ ?_)
      | (with_reducible refine LeO.bind ?_ (fun _ => ?_))
      | exact ih0 _ _ _ _ _
      | exact ih1 _ _ _ _ _ _
      | exact ih2 _ _ _ _ _ _ _
      | exact ih3 _ _ _ _ _ _ _ _
      | exact ih4 _ _ _ _ _ _ _ _ _
      | exact ih5 _ _ _ _ _ _ _
      | exact ih6 _ _ _ _ _ _ _ _
      | exact ih7 _ _ _ _ _ _ _ _ _
      | exact LeO.none _
      | refine LeO.ite ?_ ?_
      | refine LeO.bind ?_ (fun _ => ?_)
    · intro y0 y1 y2 y3 y4 y5 y6 y7
      unfold caesuralaw19_goes.l5
      repeat' first
      | (with_reducible exact ih0 _ _ _ _ _)
      | (with_reducible exact ih1 _ _ _ _ _ _)
      | (with_reducible exact ih2 _ _ _ _ _ _ _)
      | (with_reducible exact ih3 _ _ _ _ _ _ _ _)
      | (with_reducible exact ih4 _ _ _ _ _ _ _ _ _)
      | (with_reducible exact ih5 _ _ _ _ _ _ _)
      | (with_reducible exact ih6 _ _ _ _ _ _ _ _)
      | (with_reducible exact ih7 _ _ _ _ _ _ _ _ _)
      | (with_reducible exact LeO.refl _)
      | (with_reducible exact LeO.none _)
      | (with_reducible refine LeO.ite ?_ ?_)
      | (with_reducible refine LeO.bind ?_ (fun _ => ?_))
      | exact ih0 _ _ _ _ _
      | exact ih1 _ _ _ _ _ _
      | exact ih2 _ _ _ _ _ _ _
      | exact ih3 _ _ _ _ _ _ _ _
      | exact ih4 _ _ _ _ _ _ _ _ _
      | exact ih5 _ _ _ _ _ _ _
      | exact ih6 _ _ _ _ _ _ _ _
      | exact ih7 _ _ _ _ _ _ _ _ _
      | exact LeO.none _
      | refine LeO.ite ?_ ?_
      | refine LeO.bind ?_ (fun _ => ?_)
    · intro y0 y1 y2 y3 y4 y5 y6 y7 y8
      unfold caesuralaw19_goes.j7
      repeat' first
      | (with_reducible exact ih0 _ _ _ _ _)
      | (with_reducible exact ih1 _ _ _ _ _ _)
      | (with_reducible exact ih2 _ _ _ _ _ _ _)
      | (with_reducible exact ih3 _ _ _ _ _ _ _ _)
      | (with_reducible exact ih4 _ _ _ _ _ _ _ _ _)
      | (with_reducible exact ih5 _ _ _ _ _ _ _)
      | (with_reducible exact ih6 _ _ _ _ _ _ _ _)
      | (with_reducible exact ih7 _ _ _ _ _ _ _ _ _)
      | (with_reducible exact LeO.refl _)
      | (with_reducible exact LeO.none _)
      | (with_reducible refine LeO.ite ?_ ?_)
      | (with_reducible refine LeO.bind ?_ (fun _ => ?_))
      | exact ih0 _ _ _ _ _
      | exact ih1 _ _ _ _ _ _
      | exact ih2 _ _ _ _ _ _ _
      | exact ih3 _ _ _ _ _ _ _ _
      | exact ih4 _ _ _ _ _ _ _ _ _
      | exact ih5 _ _ _ _ _ _ _
      | exact ih6 _ _ _ _ _ _ _ _
      | exact ih7 _ _ _ _ _ _ _ _ _
      | exact LeO.none _
      | refine LeO.ite ?_ ?_
      | refine LeO.bind ?_ (fun _ => ?_)
theorem caesuralaw19_goes.mono : ∀ a0 a1 a2 k, LeO (caesuralaw19_goes.f k a0 a1 a2) (caesuralaw19_goes.f (k + 1) a0 a1 a2) := by
  intro a0 a1 a2 k
  obtain ⟨ih0, ih1, ih2, ih3, ih4, ih5, ih6, ih7⟩ := caesuralaw19_goes.mono_l k
  unfold caesuralaw19_goes.f
  repeat' first
      | (with_reducible exact ih0 _ _ _ _ _)
      | (with_reducible exact ih1 _ _ _ _ _ _)
      | (with_reducible exact ih2 _ _ _ _ _ _ _)
      | (with_reducible exact ih3 _ _ _ _ _ _ _ _)
      | (with_reducible exact ih4 _ _ _ _ _ _ _ _ _)
      | (with_reducible exact ih5 _ _ _ _ _ _ _)
      | (with_reducible exact ih6 _ _ _ _ _ _ _ _)
      | (with_reducible exact ih7 _ _ _ _ _ _ _ _ _)
      | (with_reducible exact LeO.refl _)
      | (with_reducible exact LeO.none _)
      | (with_reducible refine LeO.ite ?_ ?_)
      | (with_reducible refine LeO.bind ?_ (fun _ => ?_))
      | exact ih0 _ _ _ _ _
      | exact ih1 _ _ _ _ _ _
      | exact ih2 _ _ _ _ _ _ _
      | exact ih3 _ _ _ _ _ _ _ _
      | exact ih4 _ _ _ _ _ _ _ _ _
      | exact ih5 _ _ _ _ _ _ _
      | exact ih6 _ _ _ _ _ _ _ _
      | exact ih7 _ _ _ _ _ _ _ _ _
      | exact LeO.none _
      | refine LeO.ite ?_ ?_
      | refine LeO.bind ?_ (fun _ => ?_)
set_option maxHeartbeats 8000000 in
set_option maxRecDepth 100000 in
theorem caesuralaw19_goes.calls (k : Nat) (a0_0 : Int) (A0_1 : Option Addr) (c0_1 : Nat) (l0_1 : List (List (S82))) (A1 : Option Addr) (c1 : Nat) (l1 : List Int) (r : Bool) (w : World) (hr0_1 : Kd.C (Kd.slice 82 k82) w A0_1 l0_1.length l0_1) (hc0_1 : l0_1.length ≤ c0_1) (hr1 : Kd.C (Kd.int .i64) w A1 l1.length l1) (hc1 : l1.length ≤ c1) (h : caesuralaw19_goes.f k a0_0 l0_1 l1 = some r) :
    Calls Try.prog 43 #[.agg #[.int .i64 a0_0, .slice A0_1 l0_1.length c0_1], .slice A1 l1.length c1] w fun e w' => e = .returned (.bool r) ∧ Below w.heap.size w w' := by
  have hu28 := Try.underlying28
  have hu82 := Try.underlying82
  have HR0_1 := Aside0.mk hr0_1
  have HC0_1 := Aside0.mk hc0_1
  clear hr0_1 hc0_1
  have HR1 := Aside0.mk hr1
  have HC1 := Aside0.mk hc1
  clear hr1 hc1
  have HB := Aside0.mk (Below.refl w.heap.size w)
  have H : (if 0 ≤ (l0_1.length : Int) then (if ((l0_1.length : Int) : Int).toNat ≤ 281474976710656 then ((some (List.replicate ((l0_1.length : Int) : Int).toNat false : List Bool)).bind fun y102 => (if 0 < (y102.length : Int) then (caesuralaw19_goes.l0 k l1 (y102.set (0 : Int).toNat true) 0 a0_0 l0_1) else (none))) else (none)) else (none)) = some r := h
  clear h
  by_cases c3 : 0 ≤ (l0_1.length : Int)
  · rw [if_pos c3] at H
    have c3b0 := eq_true c3
    have c3b1 : decide (0 ≤ (l0_1.length : Int)) = true := decide_eq_true c3
    clear c3
    by_cases c4 : ((l0_1.length : Int) : Int).toNat ≤ 281474976710656
    · rw [if_pos c4] at H
      have c4b0 := eq_true c4
      have c4b1 : decide (((l0_1.length : Int) : Int).toNat ≤ 281474976710656) = true := decide_eq_true c4
      clear c4
      obtain ⟨y102, hy102⟩ : ∃ y_ : List Bool, y_ = (List.replicate ((l0_1.length : Int) : Int).toNat false) := ⟨_, rfl⟩
      replace H : (if 0 < (y102.length : Int) then (caesuralaw19_goes.l0 k l1 (y102.set (0 : Int).toNat true) 0 a0_0 l0_1) else (none)) = some r := by first | (rw [hy102]; with_reducible exact H) | (have H2_ := (Option.bind_some _ _).symm.trans H; rw [hy102]; with_reducible exact H2_) | (have H2_ := (Option.bind_some _ _).symm.trans H; with_reducible exact H2_) | with_reducible exact H | (rw [hy102]; exact H) | exact H
      have Ny102 := Aside0.mk hy102
      clear hy102
      by_cases c5 : 0 < (y102.length : Int)
      · rw [if_pos c5] at H
        have c5b0 : decide (0 < (y102.length : Int)) = true := decide_eq_true c5
        have c5b1 : decide (0 < y102.length) = true := decide_eq_true (by omega)
        clear c5
        obtain ⟨y105, hy105⟩ : ∃ y_ : List Bool, y_ = (y102.set (0 : Int).toNat true) := ⟨_, rfl⟩
        replace H : (caesuralaw19_goes.l0 k l1 y105 0 a0_0 l0_1) = some r := by first | (rw [hy105]; with_reducible exact H) | (have H2_ := (Option.bind_some _ _).symm.trans H; rw [hy105]; with_reducible exact H2_) | (have H2_ := (Option.bind_some _ _).symm.trans H; with_reducible exact H2_) | with_reducible exact H | (rw [hy105]; exact H) | exact H
        have Ny105 := Aside0.mk hy105
        clear hy105
        have H' := Aside0.mk H
        clear H
        go_enter Try.func43, Try.ntmps43
        go_wp2_with (first | ((with_reducible refine gate_dst (N := 2) rfl ?_); refine box_event ?hg (N := 2) ?hd (cs := #[.int .i64 a0_0, .slice A0_1 l0_1.length c0_1]) (t := 28) ?hr ?_; (case hd => rfl); (case hg => rfl); (case hr => first | (go_simp; done) | (go_simp; rfl)); intro gb101 hg w7 hbox hb; have n0_ := Aside0.mk (below_step (by repeat (first | (with_reducible first | exact HB.out | apply below_alloc | apply pw_below_drewN | apply below_drew1) | exact HB.out)) hb); have n1_ := Aside0.mk (hbox); have n2_ := Aside0.mk ((by rw [hg]; exact (below_size (by repeat (first | (with_reducible first | exact HB.out | apply below_alloc | apply pw_below_drewN | apply below_drew1) | exact HB.out))) : w.heap.size ≤ gb101)); have n3_ := Aside0.mk ((by rw [hg]; exact (below_size (by repeat (first | (with_reducible first | exact HB.out | apply below_alloc | apply pw_below_drewN | apply below_drew1) | exact HB.out))) : w.heap.size ≤ gb101)); clear HB; have HB := n0_; have BK101 := n1_; have GW101 := n2_; have GE101 := n3_; clear n0_ n1_ n2_ n3_; clear hb hbox hg; have hcz8_0 : w7.cell? ⟨gb101, 0, none⟩ = some (.int .i64 a0_0) := (blk_cell BK101.out 0).trans rfl; have hcz8_1 : w7.cell? ⟨gb101, 1, none⟩ = some (.slice A0_1 l0_1.length c0_1) := (blk_cell BK101.out 1).trans rfl; have hfz8_0 := blk_frozen BK101.out 0; have hfz8_1 := blk_frozen BK101.out 1) | ((with_reducible refine gate_dst (N := 18) rfl ?_); refine Kd.R_make Kd.bool _ 4 rfl (N := 18) rfl 23 _ _ rfl (l0_1.length : Int) rfl rfl Try.underlying23 (.bool false) 1 info4 rfl (by decide) (by omega) false (ok := fun _ => True) (okp := fun _ => True) rfl (fun _ hk => hk) trivial (of_decide_eq_true (by first | (with_reducible assumption) | assumption)) (Nat.le_trans (Nat.mul_le_mul_right _ (of_decide_eq_true (by first | (with_reducible assumption) | assumption) : (l0_1.length : Int).toNat ≤ 281474976710656)) (by omega)) (Below.refl _ _) (Nat.le_refl _) ?_; intro v103 w9 ho10 hb hg_ hnew_; clear hg_ hnew_; (first | rw [← Ny102.out] at ho10 | (simp only [Int.reduceToNat] at ho10; rw [← Ny102.out] at ho10)); have n0_ := Aside0.mk (Kd.R_lower ho10 (below_size (by repeat (first | (with_reducible first | exact HB.out | apply below_alloc | apply pw_below_drewN | apply below_drew1 | refine below_set ?_ GE101.out) | exact HB.out)))); have n1_ := Aside0.mk (blk_below (g := gb101) (o := .cells #[.int .i64 a0_0, .slice A0_1 l0_1.length c0_1] 28 (0, 0)) (by (with_reducible repeat (first | refine blk_drewN ?_ _ | refine blk_drew ?_ | refine blk_alloc ?_ _)); exact BK101.out) hb); have n2_ := Aside0.mk (below_step (by repeat (first | (with_reducible first | exact HB.out | apply below_alloc | apply pw_below_drewN | apply below_drew1 | refine below_set ?_ GE101.out) | exact HB.out)) hb); clear BK101; clear HB; have HO104 := n0_; have BK101 := n1_; have HB := n2_; clear n0_ n1_ n2_; clear hb ho10; have p6 : 0 ≤ (0 : Int) := (by omega); have q6 : (0 : Int) < ((y102.length : Int) : Int) := of_decide_eq_true (by first | (with_reducible assumption) | assumption); have qi6 : (0 < y102.length) = True := eq_true (by omega); obtain ⟨go6, co6, eo6, gb6, gl6, cl6, HG6⟩ := Kd.R_form HO104.out (by omega); (first | cases eo6 | (injection eo6 with ea_ en_ ec_; (first | subst ea_ | (injection ea_ with ea_; subst ea_)); subst ec_; clear en_)); have GB6 := Aside0.mk gb6; have GG6 := Aside0.mk HG6; clear gb6 gl6 HG6; obtain ⟨hx6_0, hf6_0⟩ := Kd.R_celln false HO104.out (0 : Int) p6 q6; (try rw [show ((0 : Int)).toNat = 0 from rfl] at hx6_0); (try simp only [Nat.reduceMul, Nat.zero_mul, Nat.zero_add, Nat.reduceAdd] at hx6_0); (try rw [show ((0 : Int)).toNat = 0 from rfl] at hf6_0); (try simp only [Nat.reduceMul, Nat.zero_mul, Nat.zero_add, Nat.reduceAdd] at hf6_0); replace p6 := eq_true p6; replace q6 := eq_true q6; obtain ⟨hy11_, hz11_⟩ := Kd.R_celln false HO104.out (0 : Int) (by omega) (of_decide_eq_true (by first | (with_reducible assumption) | assumption)); (try simp only [Int.reduceToNat, Int.toNat_zero, Int.toNat_ofNat, Nat.reduceMul, Nat.zero_mul, Nat.zero_add] at hy11_ hz11_); (try rw [show ((0 : Int)).toNat = 0 from rfl] at hy11_); (try rw [show ((0 : Int)).toNat = 0 from rfl] at hz11_); have HP11 := Kd.R_putg HO104.out (0 : Int) true) | ((with_reducible refine gate_store (t := 4) (p := 20) rfl ?_); (try (rw [drewN_self w9]; generalize hq_ : World.drewN w9 _ = w9; have n0_ := Aside0.mk (Kd.R_at hq_ HO104.out); have n1_ := Aside0.mk (blk_at hq_ BK101.out); have n2_ := Aside0.mk (below_at hq_ HB.out); clear hq_ HO104 BK101 HB; have HO104 := n0_; have BK101 := n1_; have HB := n2_; clear n0_ n1_ n2_; (try (obtain ⟨hy11_, hz11_⟩ := Kd.R_celln false HO104.out (0 : Int) (by omega) (of_decide_eq_true (by first | (with_reducible assumption) | assumption)))); (try (try simp only [Int.reduceToNat, Int.toNat_zero, Int.toNat_ofNat, Nat.reduceMul, Nat.zero_mul, Nat.zero_add] at hy11_ hz11_)); (try (try rw [show ((0 : Int)).toNat = 0 from rfl] at hy11_)); (try (try rw [show ((0 : Int)).toNat = 0 from rfl] at hz11_)); (try (have HP11 := Kd.R_putg HO104.out (0 : Int) true)))); refine store_event (t := 4) (p := 20) (v := ?vo_w12) (w1 := (w9.setCell ⟨go6, (0 : Int).toNat, none⟩ (.bool true))) ?hg ?ho ?hn ?hr ?_; (case ho => rfl); (case hg => rfl); (case hn => rfl); (case hr => first | (go_simp; done) | (go_simp; rfl)); intro w12 hw; have hg : w9.grownBy w12 (some go6) := (by rw [hw]; exact HP11.2); have hp_ : Kd.R Kd.bool 4 w12 w.heap.size (fun _ => True) (.slice (some ⟨go6, 0, none⟩) y102.length co6) y105 := (by rw [hw, Ny105.out]; exact HP11.1); clear HP11; have n0_ := Aside0.mk (blk_grown (g := gb101) (o := .cells #[.int .i64 a0_0, .slice A0_1 l0_1.length c0_1] 28 (0, 0)) (by (with_reducible repeat (first | refine blk_drewN ?_ _ | refine blk_drew ?_ | refine blk_alloc ?_ _)); exact BK101.out) hg (Kd.R_ne HO104.out BK101.out (by decide))); have n1_ := Aside0.mk (hp_); have n2_ := Aside0.mk ((by rw [hw]; exact below_set (HB.out) GB6.out : Below w.heap.size w w12)); clear BK101; clear HO104; clear HB; have BK101 := n0_; have HO104 := n1_; have HB := n2_; clear n0_ n1_ n2_; clear hg hw hp_))
        repeat (go_quiet (first | ((with_reducible refine gate_dst (N := 2) rfl ?_); refine box_event ?hg (N := 2) ?hd (cs := #[.int .i64 a0_0, .slice A0_1 l0_1.length c0_1]) (t := 28) ?hr ?_; (case hd => rfl); (case hg => rfl); (case hr => first | (go_simp; done) | (go_simp; rfl)); intro gb101 hg w7 hbox hb; have n0_ := Aside0.mk (below_step (by repeat (first | (with_reducible first | exact HB.out | apply below_alloc | apply pw_below_drewN | apply below_drew1) | exact HB.out)) hb); have n1_ := Aside0.mk (hbox); have n2_ := Aside0.mk ((by rw [hg]; exact (below_size (by repeat (first | (with_reducible first | exact HB.out | apply below_alloc | apply pw_below_drewN | apply below_drew1) | exact HB.out))) : w.heap.size ≤ gb101)); have n3_ := Aside0.mk ((by rw [hg]; exact (below_size (by repeat (first | (with_reducible first | exact HB.out | apply below_alloc | apply pw_below_drewN | apply below_drew1) | exact HB.out))) : w.heap.size ≤ gb101)); clear HB; have HB := n0_; have BK101 := n1_; have GW101 := n2_; have GE101 := n3_; clear n0_ n1_ n2_ n3_; clear hb hbox hg; have hcz8_0 : w7.cell? ⟨gb101, 0, none⟩ = some (.int .i64 a0_0) := (blk_cell BK101.out 0).trans rfl; have hcz8_1 : w7.cell? ⟨gb101, 1, none⟩ = some (.slice A0_1 l0_1.length c0_1) := (blk_cell BK101.out 1).trans rfl; have hfz8_0 := blk_frozen BK101.out 0; have hfz8_1 := blk_frozen BK101.out 1) | ((with_reducible refine gate_dst (N := 18) rfl ?_); refine Kd.R_make Kd.bool _ 4 rfl (N := 18) rfl 23 _ _ rfl (l0_1.length : Int) rfl rfl Try.underlying23 (.bool false) 1 info4 rfl (by decide) (by omega) false (ok := fun _ => True) (okp := fun _ => True) rfl (fun _ hk => hk) trivial (of_decide_eq_true (by first | (with_reducible assumption) | assumption)) (Nat.le_trans (Nat.mul_le_mul_right _ (of_decide_eq_true (by first | (with_reducible assumption) | assumption) : (l0_1.length : Int).toNat ≤ 281474976710656)) (by omega)) (Below.refl _ _) (Nat.le_refl _) ?_; intro v103 w9 ho10 hb hg_ hnew_; clear hg_ hnew_; (first | rw [← Ny102.out] at ho10 | (simp only [Int.reduceToNat] at ho10; rw [← Ny102.out] at ho10)); have n0_ := Aside0.mk (Kd.R_lower ho10 (below_size (by repeat (first | (with_reducible first | exact HB.out | apply below_alloc | apply pw_below_drewN | apply below_drew1 | refine below_set ?_ GE101.out) | exact HB.out)))); have n1_ := Aside0.mk (blk_below (g := gb101) (o := .cells #[.int .i64 a0_0, .slice A0_1 l0_1.length c0_1] 28 (0, 0)) (by (with_reducible repeat (first | refine blk_drewN ?_ _ | refine blk_drew ?_ | refine blk_alloc ?_ _)); exact BK101.out) hb); have n2_ := Aside0.mk (below_step (by repeat (first | (with_reducible first | exact HB.out | apply below_alloc | apply pw_below_drewN | apply below_drew1 | refine below_set ?_ GE101.out) | exact HB.out)) hb); clear BK101; clear HB; have HO104 := n0_; have BK101 := n1_; have HB := n2_; clear n0_ n1_ n2_; clear hb ho10; have p6 : 0 ≤ (0 : Int) := (by omega); have q6 : (0 : Int) < ((y102.length : Int) : Int) := of_decide_eq_true (by first | (with_reducible assumption) | assumption); have qi6 : (0 < y102.length) = True := eq_true (by omega); obtain ⟨go6, co6, eo6, gb6, gl6, cl6, HG6⟩ := Kd.R_form HO104.out (by omega); (first | cases eo6 | (injection eo6 with ea_ en_ ec_; (first | subst ea_ | (injection ea_ with ea_; subst ea_)); subst ec_; clear en_)); have GB6 := Aside0.mk gb6; have GG6 := Aside0.mk HG6; clear gb6 gl6 HG6; obtain ⟨hx6_0, hf6_0⟩ := Kd.R_celln false HO104.out (0 : Int) p6 q6; (try rw [show ((0 : Int)).toNat = 0 from rfl] at hx6_0); (try simp only [Nat.reduceMul, Nat.zero_mul, Nat.zero_add, Nat.reduceAdd] at hx6_0); (try rw [show ((0 : Int)).toNat = 0 from rfl] at hf6_0); (try simp only [Nat.reduceMul, Nat.zero_mul, Nat.zero_add, Nat.reduceAdd] at hf6_0); replace p6 := eq_true p6; replace q6 := eq_true q6; obtain ⟨hy11_, hz11_⟩ := Kd.R_celln false HO104.out (0 : Int) (by omega) (of_decide_eq_true (by first | (with_reducible assumption) | assumption)); (try simp only [Int.reduceToNat, Int.toNat_zero, Int.toNat_ofNat, Nat.reduceMul, Nat.zero_mul, Nat.zero_add] at hy11_ hz11_); (try rw [show ((0 : Int)).toNat = 0 from rfl] at hy11_); (try rw [show ((0 : Int)).toNat = 0 from rfl] at hz11_); have HP11 := Kd.R_putg HO104.out (0 : Int) true) | ((with_reducible refine gate_store (t := 4) (p := 20) rfl ?_); (try (rw [drewN_self w9]; generalize hq_ : World.drewN w9 _ = w9; have n0_ := Aside0.mk (Kd.R_at hq_ HO104.out); have n1_ := Aside0.mk (blk_at hq_ BK101.out); have n2_ := Aside0.mk (below_at hq_ HB.out); clear hq_ HO104 BK101 HB; have HO104 := n0_; have BK101 := n1_; have HB := n2_; clear n0_ n1_ n2_; (try (obtain ⟨hy11_, hz11_⟩ := Kd.R_celln false HO104.out (0 : Int) (by omega) (of_decide_eq_true (by first | (with_reducible assumption) | assumption)))); (try (try simp only [Int.reduceToNat, Int.toNat_zero, Int.toNat_ofNat, Nat.reduceMul, Nat.zero_mul, Nat.zero_add] at hy11_ hz11_)); (try (try rw [show ((0 : Int)).toNat = 0 from rfl] at hy11_)); (try (try rw [show ((0 : Int)).toNat = 0 from rfl] at hz11_)); (try (have HP11 := Kd.R_putg HO104.out (0 : Int) true)))); refine store_event (t := 4) (p := 20) (v := ?vo_w12) (w1 := (w9.setCell ⟨go6, (0 : Int).toNat, none⟩ (.bool true))) ?hg ?ho ?hn ?hr ?_; (case ho => rfl); (case hg => rfl); (case hn => rfl); (case hr => first | (go_simp; done) | (go_simp; rfl)); intro w12 hw; have hg : w9.grownBy w12 (some go6) := (by rw [hw]; exact HP11.2); have hp_ : Kd.R Kd.bool 4 w12 w.heap.size (fun _ => True) (.slice (some ⟨go6, 0, none⟩) y102.length co6) y105 := (by rw [hw, Ny105.out]; exact HP11.1); clear HP11; have n0_ := Aside0.mk (blk_grown (g := gb101) (o := .cells #[.int .i64 a0_0, .slice A0_1 l0_1.length c0_1] 28 (0, 0)) (by (with_reducible repeat (first | refine blk_drewN ?_ _ | refine blk_drew ?_ | refine blk_alloc ?_ _)); exact BK101.out) hg (Kd.R_ne HO104.out BK101.out (by decide))); have n1_ := Aside0.mk (hp_); have n2_ := Aside0.mk ((by rw [hw]; exact below_set (HB.out) GB6.out : Below w.heap.size w w12)); clear BK101; clear HO104; clear HB; have BK101 := n0_; have HO104 := n1_; have HB := n2_; clear n0_ n1_ n2_; clear hg hw hp_)); try go_wp2_with (first | ((with_reducible refine gate_dst (N := 2) rfl ?_); refine box_event ?hg (N := 2) ?hd (cs := #[.int .i64 a0_0, .slice A0_1 l0_1.length c0_1]) (t := 28) ?hr ?_; (case hd => rfl); (case hg => rfl); (case hr => first | (go_simp; done) | (go_simp; rfl)); intro gb101 hg w7 hbox hb; have n0_ := Aside0.mk (below_step (by repeat (first | (with_reducible first | exact HB.out | apply below_alloc | apply pw_below_drewN | apply below_drew1) | exact HB.out)) hb); have n1_ := Aside0.mk (hbox); have n2_ := Aside0.mk ((by rw [hg]; exact (below_size (by repeat (first | (with_reducible first | exact HB.out | apply below_alloc | apply pw_below_drewN | apply below_drew1) | exact HB.out))) : w.heap.size ≤ gb101)); have n3_ := Aside0.mk ((by rw [hg]; exact (below_size (by repeat (first | (with_reducible first | exact HB.out | apply below_alloc | apply pw_below_drewN | apply below_drew1) | exact HB.out))) : w.heap.size ≤ gb101)); clear HB; have HB := n0_; have BK101 := n1_; have GW101 := n2_; have GE101 := n3_; clear n0_ n1_ n2_ n3_; clear hb hbox hg; have hcz8_0 : w7.cell? ⟨gb101, 0, none⟩ = some (.int .i64 a0_0) := (blk_cell BK101.out 0).trans rfl; have hcz8_1 : w7.cell? ⟨gb101, 1, none⟩ = some (.slice A0_1 l0_1.length c0_1) := (blk_cell BK101.out 1).trans rfl; have hfz8_0 := blk_frozen BK101.out 0; have hfz8_1 := blk_frozen BK101.out 1) | ((with_reducible refine gate_dst (N := 18) rfl ?_); refine Kd.R_make Kd.bool _ 4 rfl (N := 18) rfl 23 _ _ rfl (l0_1.length : Int) rfl rfl Try.underlying23 (.bool false) 1 info4 rfl (by decide) (by omega) false (ok := fun _ => True) (okp := fun _ => True) rfl (fun _ hk => hk) trivial (of_decide_eq_true (by first | (with_reducible assumption) | assumption)) (Nat.le_trans (Nat.mul_le_mul_right _ (of_decide_eq_true (by first | (with_reducible assumption) | assumption) : (l0_1.length : Int).toNat ≤ 281474976710656)) (by omega)) (Below.refl _ _) (Nat.le_refl _) ?_; intro v103 w9 ho10 hb hg_ hnew_; clear hg_ hnew_; (first | rw [← Ny102.out] at ho10 | (simp only [Int.reduceToNat] at ho10; rw [← Ny102.out] at ho10)); have n0_ := Aside0.mk (Kd.R_lower ho10 (below_size (by repeat (first | (with_reducible first | exact HB.out | apply below_alloc | apply pw_below_drewN | apply below_drew1 | refine below_set ?_ GE101.out) | exact HB.out)))); have n1_ := Aside0.mk (blk_below (g := gb101) (o := .cells #[.int .i64 a0_0, .slice A0_1 l0_1.length c0_1] 28 (0, 0)) (by (with_reducible repeat (first | refine blk_drewN ?_ _ | refine blk_drew ?_ | refine blk_alloc ?_ _)); exact BK101.out) hb); have n2_ := Aside0.mk (below_step (by repeat (first | (with_reducible first | exact HB.out | apply below_alloc | apply pw_below_drewN | apply below_drew1 | refine below_set ?_ GE101.out) | exact HB.out)) hb); clear BK101; clear HB; have HO104 := n0_; have BK101 := n1_; have HB := n2_; clear n0_ n1_ n2_; clear hb ho10; have p6 : 0 ≤ (0 : Int) := (by omega); have q6 : (0 : Int) < ((y102.length : Int) : Int) := of_decide_eq_true (by first | (with_reducible assumption) | assumption); have qi6 : (0 < y102.length) = True := eq_true (by omega); obtain ⟨go6, co6, eo6, gb6, gl6, cl6, HG6⟩ := Kd.R_form HO104.out (by omega); (first | cases eo6 | (injection eo6 with ea_ en_ ec_; (first | subst ea_ | (injection ea_ with ea_; subst ea_)); subst ec_; clear en_)); have GB6 := Aside0.mk gb6; have GG6 := Aside0.mk HG6; clear gb6 gl6 HG6; obtain ⟨hx6_0, hf6_0⟩ := Kd.R_celln false HO104.out (0 : Int) p6 q6; (try rw [show ((0 : Int)).toNat = 0 from rfl] at hx6_0); (try simp only [Nat.reduceMul, Nat.zero_mul, Nat.zero_add, Nat.reduceAdd] at hx6_0); (try rw [show ((0 : Int)).toNat = 0 from rfl] at hf6_0); (try simp only [Nat.reduceMul, Nat.zero_mul, Nat.zero_add, Nat.reduceAdd] at hf6_0); replace p6 := eq_true p6; replace q6 := eq_true q6; obtain ⟨hy11_, hz11_⟩ := Kd.R_celln false HO104.out (0 : Int) (by omega) (of_decide_eq_true (by first | (with_reducible assumption) | assumption)); (try simp only [Int.reduceToNat, Int.toNat_zero, Int.toNat_ofNat, Nat.reduceMul, Nat.zero_mul, Nat.zero_add] at hy11_ hz11_); (try rw [show ((0 : Int)).toNat = 0 from rfl] at hy11_); (try rw [show ((0 : Int)).toNat = 0 from rfl] at hz11_); have HP11 := Kd.R_putg HO104.out (0 : Int) true) | ((with_reducible refine gate_store (t := 4) (p := 20) rfl ?_); (try (rw [drewN_self w9]; generalize hq_ : World.drewN w9 _ = w9; have n0_ := Aside0.mk (Kd.R_at hq_ HO104.out); have n1_ := Aside0.mk (blk_at hq_ BK101.out); have n2_ := Aside0.mk (below_at hq_ HB.out); clear hq_ HO104 BK101 HB; have HO104 := n0_; have BK101 := n1_; have HB := n2_; clear n0_ n1_ n2_; (try (obtain ⟨hy11_, hz11_⟩ := Kd.R_celln false HO104.out (0 : Int) (by omega) (of_decide_eq_true (by first | (with_reducible assumption) | assumption)))); (try (try simp only [Int.reduceToNat, Int.toNat_zero, Int.toNat_ofNat, Nat.reduceMul, Nat.zero_mul, Nat.zero_add] at hy11_ hz11_)); (try (try rw [show ((0 : Int)).toNat = 0 from rfl] at hy11_)); (try (try rw [show ((0 : Int)).toNat = 0 from rfl] at hz11_)); (try (have HP11 := Kd.R_putg HO104.out (0 : Int) true)))); refine store_event (t := 4) (p := 20) (v := ?vo_w12) (w1 := (w9.setCell ⟨go6, (0 : Int).toNat, none⟩ (.bool true))) ?hg ?ho ?hn ?hr ?_; (case ho => rfl); (case hg => rfl); (case hn => rfl); (case hr => first | (go_simp; done) | (go_simp; rfl)); intro w12 hw; have hg : w9.grownBy w12 (some go6) := (by rw [hw]; exact HP11.2); have hp_ : Kd.R Kd.bool 4 w12 w.heap.size (fun _ => True) (.slice (some ⟨go6, 0, none⟩) y102.length co6) y105 := (by rw [hw, Ny105.out]; exact HP11.1); clear HP11; have n0_ := Aside0.mk (blk_grown (g := gb101) (o := .cells #[.int .i64 a0_0, .slice A0_1 l0_1.length c0_1] 28 (0, 0)) (by (with_reducible repeat (first | refine blk_drewN ?_ _ | refine blk_drew ?_ | refine blk_alloc ?_ _)); exact BK101.out) hg (Kd.R_ne HO104.out BK101.out (by decide))); have n1_ := Aside0.mk (hp_); have n2_ := Aside0.mk ((by rw [hw]; exact below_set (HB.out) GB6.out : Below w.heap.size w w12)); clear BK101; clear HO104; clear HB; have BK101 := n0_; have HO104 := n1_; have HB := n2_; clear n0_ n1_ n2_; clear hg hw hp_)))
        go_loopg [5, 6] k (fun kq v5 v6 w' => ∃ (x5_1 : List Bool) (x6_1 : Int), v6 = .int .i64 x6_1 ∧ Aside0 (caesuralaw19_goes.l0 kq l1 x5_1 x6_1 a0_0 l0_1 = some r) ∧ Aside0 (kq ≤ k) ∧ Aside0 (Kd.R Kd.bool 4 w' w.heap.size (fun _ => True) v5 x5_1) ∧ Aside0 (w'.heap[gb101]? = some (.cells #[.int .i64 a0_0, (.slice A0_1 l0_1.length c0_1)] 28 (0, 0))) ∧ Aside0 (Below w.heap.size w w'))
        case atStart => exact ⟨(y105), (0), (by first | rfl | (simp; done) | (simp [*]; done)), H', ⟨Nat.le_refl _⟩, ⟨by (with_reducible repeat (first | apply Kd.R_alloc | apply Kd.R_drewN | apply Kd.R_drew)); exact HO104.out⟩, ⟨by (with_reducible repeat (first | refine blk_drewN ?_ _ | refine blk_drew ?_ | refine blk_alloc ?_ _)); exact BK101.out⟩, ⟨by repeat (first | (with_reducible first | exact HB.out | apply below_alloc | apply pw_below_drewN | apply below_drew1 | refine below_set ?_ GE101.out) | exact HB.out)⟩⟩
        case round =>
          clear H'
          try clear c1
          try clear p2
          try clear c3
          try clear c3b0
          try clear c3b1
          try clear c4
          try clear c4b0
          try clear c4b1
          try clear c5
          try clear c5b0
          try clear c5b1
          try clear p6
          try clear q6
          try clear hx6
          try clear qi6
          try clear hf6
          try clear hcz8_0
          try clear hcz8_1
          try clear hfz8_0
          try clear hfz8_1
          try clear hx6_0
          try clear p6
          try clear q6
          obtain ⟨x5_1, x6_1, rfl, HA, HK1, HO_5, BK101, HB⟩ := hrel
          cases gk with
          | zero => exact absurd HA.out (by simp [caesuralaw19_goes.l0])
          | succ k1 =>
            have H := HA.out
            clear HA
            simp only [caesuralaw19_goes.l0] at H
            have H' := Aside0.mk H
            clear H
            go_wp2
            repeat (go_quiet (fail); try go_wp2)
            go_loopg [7] k1 (fun kq v7 w' => ∃ (x5_2 : List Bool) (x7_2 : Bool), v7 = .bool x7_2 ∧ Aside0 (caesuralaw19_goes.l1 kq l1 x5_2 x6_1 x7_2 a0_0 l0_1 = some r) ∧ Aside0 (kq ≤ k1) ∧ Aside0 (Kd.R Kd.bool 4 w' w.heap.size (fun _ => True) u5 x5_2) ∧ Aside0 (w'.heap[gb101]? = some (.cells #[.int .i64 a0_0, (.slice A0_1 l0_1.length c0_1)] 28 (0, 0))) ∧ Aside0 (Below w.heap.size w w'))
            case atStart => exact ⟨(x5_1), (true), (by first | rfl | (simp; done) | (simp [*]; done)), H', ⟨Nat.le_refl _⟩, ⟨by (with_reducible repeat (first | apply Kd.R_alloc | apply Kd.R_drewN | apply Kd.R_drew)); exact HO_5.out⟩, ⟨by (with_reducible repeat (first | refine blk_drewN ?_ _ | refine blk_drew ?_ | refine blk_alloc ?_ _)); exact BK101.out⟩, ⟨by repeat (first | (with_reducible first | exact HB.out | apply below_alloc | apply pw_below_drewN | apply below_drew1 | refine below_set ?_ GE101.out) | exact HB.out)⟩⟩
            case round =>
              clear H'
              try clear c1
              try clear p2
              try clear c3
              try clear c3b0
              try clear c3b1
              try clear c4
              try clear c4b0
              try clear c4b1
              try clear c5
              try clear c5b0
              try clear c5b1
              try clear p6
              try clear q6
              try clear hx6
              try clear qi6
              try clear hf6
              try clear hcz8_0
              try clear hcz8_1
              try clear hfz8_0
              try clear hfz8_1
              try clear hx6_0
              try clear p2
              try clear p6
              try clear q6
              obtain ⟨x5_2, x7_2, rfl, HA, HK2, HO_5, BK101, HB⟩ := hrel
              cases gk with
              | zero => exact absurd HA.out (by simp [caesuralaw19_goes.l1])
              | succ k2 =>
                have H := HA.out
                clear HA
                simp only [caesuralaw19_goes.l1] at H
                by_cases c13 : x7_2 = true
                · subst c13
                  have H1 : (caesuralaw19_goes.l2 k2 l1 x5_2 x6_1 false 0 a0_0 l0_1) = some r := by rw [if_pos rfl] at H; exact H
                  clear H
                  have H := H1
                  clear H1
                  have H' := Aside0.mk H
                  clear H
                  go_wp2
                  repeat (go_quiet (fail); try go_wp2)
                  go_loopg [7, 8] k2 (fun kq v7 v8 w' => ∃ (x5_3 : List Bool) (x7_3 : Bool) (x8_3 : Int), v7 = .bool x7_3 ∧ v8 = .int .i64 x8_3 ∧ Aside0 (caesuralaw19_goes.l2 kq l1 x5_3 x6_1 x7_3 x8_3 a0_0 l0_1 = some r) ∧ Aside0 (kq ≤ k2) ∧ Aside0 (Kd.R Kd.bool 4 w' w.heap.size (fun _ => True) u5 x5_3) ∧ Aside0 (w'.heap[gb101]? = some (.cells #[.int .i64 a0_0, (.slice A0_1 l0_1.length c0_1)] 28 (0, 0))) ∧ Aside0 (Below w.heap.size w w'))
                  case atStart => exact ⟨(x5_2), (false), (0), (by first | rfl | (simp; done) | (simp [*]; done)), (by first | rfl | (simp; done) | (simp [*]; done)), H', ⟨Nat.le_refl _⟩, ⟨by (with_reducible repeat (first | apply Kd.R_alloc | apply Kd.R_drewN | apply Kd.R_drew)); exact HO_5.out⟩, ⟨by (with_reducible repeat (first | refine blk_drewN ?_ _ | refine blk_drew ?_ | refine blk_alloc ?_ _)); exact BK101.out⟩, ⟨by repeat (first | (with_reducible first | exact HB.out | apply below_alloc | apply pw_below_drewN | apply below_drew1 | refine below_set ?_ GE101.out) | exact HB.out)⟩⟩
                  case round =>
                    clear H'
                    try clear c1
                    try clear p2
                    try clear c3
                    try clear c3b0
                    try clear c3b1
                    try clear c4
                    try clear c4b0
                    try clear c4b1
                    try clear c5
                    try clear c5b0
                    try clear c5b1
                    try clear p6
                    try clear q6
                    try clear hx6
                    try clear qi6
                    try clear hf6
                    try clear c13
                    try clear hcz8_0
                    try clear hcz8_1
                    try clear hfz8_0
                    try clear hfz8_1
                    try clear hx6_0
                    try clear p2
                    try clear p6
                    try clear q6
                    obtain ⟨x5_3, x7_3, x8_3, rfl, rfl, HA, HK3, HO_5, BK101, HB⟩ := hrel
                    cases gk with
                    | zero => exact absurd HA.out (by simp [caesuralaw19_goes.l2])
                    | succ k3 =>
                      have H := HA.out
                      clear HA
                      simp only [caesuralaw19_goes.l2] at H
                      by_cases c14 : x8_3 < (x5_3.length : Int)
                      · rw [if_pos c14] at H
                        have c14b0 : decide (x8_3 < (x5_3.length : Int)) = true := decide_eq_true c14
                        clear c14
                        have H' := Aside0.mk H
                        clear H
                        obtain ⟨Ao15, co15, eo15⟩ := Kd.R_slice HO_5.out
                        subst eo15
                        go_wp2
                        repeat (go_quiet (fail); try go_wp2)
                        go_loopg [7, 9] k3 (fun kq v7 v9 w' => ∃ (x5_4 : List Bool) (x7_4 : Bool) (x9_4 : Int), v7 = .bool x7_4 ∧ v9 = .int .i64 x9_4 ∧ Aside0 (caesuralaw19_goes.l3 kq l1 x5_4 x6_1 x7_4 x8_3 x9_4 a0_0 l0_1 = some r) ∧ Aside0 (kq ≤ k3) ∧ Aside0 (Kd.R Kd.bool 4 w' w.heap.size (fun _ => True) (.slice Ao15 x5_3.length co15) x5_4) ∧ Aside0 (w'.heap[gb101]? = some (.cells #[.int .i64 a0_0, (.slice A0_1 l0_1.length c0_1)] 28 (0, 0))) ∧ Aside0 (Below w.heap.size w w'))
                        case atStart => exact ⟨(x5_3), (x7_3), (0), (by first | rfl | (simp; done) | (simp [*]; done)), (by first | rfl | (simp; done) | (simp [*]; done)), H', ⟨Nat.le_refl _⟩, ⟨by (with_reducible repeat (first | apply Kd.R_alloc | apply Kd.R_drewN | apply Kd.R_drew)); exact HO_5.out⟩, ⟨by (with_reducible repeat (first | refine blk_drewN ?_ _ | refine blk_drew ?_ | refine blk_alloc ?_ _)); exact BK101.out⟩, ⟨by repeat (first | (with_reducible first | exact HB.out | apply below_alloc | apply pw_below_drewN | apply below_drew1 | refine below_set ?_ GE101.out) | exact HB.out)⟩⟩
                        case round =>
                          clear H'
                          try clear c1
                          try clear p2
                          try clear c3
                          try clear c3b0
                          try clear c3b1
                          try clear c4
                          try clear c4b0
                          try clear c4b1
                          try clear c5
                          try clear c5b0
                          try clear c5b1
                          try clear p6
                          try clear q6
                          try clear hx6
                          try clear qi6
                          try clear hf6
                          try clear c13
                          try clear c14
                          try clear c14b0
                          try clear hcz8_0
                          try clear hcz8_1
                          try clear hfz8_0
                          try clear hfz8_1
                          try clear hx6_0
                          try clear p2
                          try clear p6
                          try clear q6
                          obtain ⟨x5_4, x7_4, x9_4, rfl, rfl, HA, HK4, HO_5, BK101, HB⟩ := hrel
                          have hl5_4 := (Kd.R_reads' HO_5.out).1
                          rw [hl5_4] at HO_5
                          (try simp only [hl5_4])
                          (try simp only [hl5_4] at BK101)
                          cases gk with
                          | zero => exact absurd HA.out (by simp [caesuralaw19_goes.l3])
                          | succ k4 =>
                            have H := HA.out
                            clear HA
                            simp only [caesuralaw19_goes.l3] at H
                            have HC16 := Aside0.mk H
                            clear H
                            go_upto_region 12 with (fail)
                            repeat (go_quiet (fail); go_upto_region 12 with (fail))
                            go_cut [43] (fun v43 wc => ∃ (kq : Nat) (x43_15 : Bool), v43 = .bool x43_15 ∧ Aside0 (caesuralaw19_goes.j4 kq l1 x5_4 x6_1 x7_4 x8_3 x9_4 x43_15 a0_0 l0_1 = some r) ∧ Aside0 (kq ≤ k4) ∧ Aside0 (Kd.R Kd.bool 4 wc w.heap.size (fun _ => True) (.slice Ao15 x5_4.length co15) x5_4) ∧ Aside0 (wc.heap[gb101]? = some (.cells #[.int .i64 a0_0, (.slice A0_1 l0_1.length c0_1)] 28 (0, 0))) ∧ Aside0 (Below w.heap.size w wc))
                            case first =>
                              have H := HC16.out
                              clear HC16
                              by_cases c17 : 0 ≤ x8_3
                              · rw [if_pos c17] at H
                                have c17b0 : decide (0 ≤ x8_3) = true := decide_eq_true c17
                                clear c17
                                (first | rw [c17b0] | (simp only [i64_w, i32_w]; rw [c17b0]) | skip)
                                by_cases c18 : x8_3 < (l0_1.length : Int)
                                · rw [if_pos c18] at H
                                  have c18b0 : decide (x8_3 < (l0_1.length : Int)) = true := decide_eq_true c18
                                  clear c18
                                  by_cases c19 : x9_4 < ((rd_L2 l0_1 x8_3).length : Int)
                                  · rw [if_pos c19] at H
                                    have c19b0 : decide (x9_4 < ((rd_L2 l0_1 x8_3).length : Int)) = true := decide_eq_true c19
                                    clear c19
                                    by_cases c20 : x8_3 < (x5_4.length : Int)
                                    · rw [if_pos c20] at H
                                      have c20b0 : decide (x8_3 < (x5_4.length : Int)) = true := decide_eq_true c20
                                      clear c20
                                      have H' := Aside0.mk H
                                      clear H
                                      have hcz21_0 : wr.cell? ⟨gb101, 0, none⟩ = some (.int .i64 a0_0) := (blk_cell BK101.out 0).trans rfl
                                      have hcz21_1 : wr.cell? ⟨gb101, 1, none⟩ = some (.slice A0_1 l0_1.length c0_1) := (blk_cell BK101.out 1).trans rfl
                                      have hfz21_0 := blk_frozen BK101.out 0
                                      have hfz21_1 := blk_frozen BK101.out 1
                                      have p106 : 0 ≤ (x8_3 : Int) := of_decide_eq_true (by first | (with_reducible assumption) | assumption)
                                      have q106 : x8_3 < (l0_1.length : Int) := of_decide_eq_true (by first | (with_reducible assumption) | assumption)
                                      obtain ⟨ad106, A106_0, c106_0, e106, hx106_0, hl106_0, hi106_0⟩ := at_L2 HR0_1.out x8_3 p106 q106
                                      cases e106
                                      replace hx106_0 := (HB.out.cell (World.block_lt_of_cell? w _ hx106_0)).trans hx106_0
                                      have HR106_0 := Aside0.mk hi106_0
                                      have HC106_0 := Aside0.mk hl106_0
                                      clear hi106_0 hl106_0
                                      replace p106 := eq_true p106
                                      replace q106 := eq_true q106
                                      have p107 : 0 ≤ (x8_3 : Int) := of_decide_eq_true (by first | (with_reducible assumption) | assumption)
                                      have q107 : x8_3 < (x5_4.length : Int) := of_decide_eq_true (by first | (with_reducible assumption) | assumption)
                                      obtain ⟨ad107, e107, hx107_0⟩ := Kd.at_bool (Kd.R_reads' HO_5.out).2.2 x8_3 p107 q107
                                      cases e107
                                      replace p107 := eq_true p107
                                      replace q107 := eq_true q107
                                      go_wp2
                                      repeat (go_quiet (fail); try go_wp2)
                                      go_meet
                                      case rel => exact ⟨_, (rdOf false x5_4 x8_3), (by first | rfl | (simp; done) | (simp [*]; done)), H', ⟨by have := HK1.out; have := HK2.out; have := HK3.out; have := HK4.out; first | omega | exact Nat.le_refl _⟩, ⟨by (try simp only [hl5_4]); (with_reducible repeat (first | apply Kd.R_alloc | apply Kd.R_drewN | apply Kd.R_drew)); exact HO_5.out⟩, ⟨by (try simp only [hl5_4]); (with_reducible repeat (first | refine blk_drewN ?_ _ | refine blk_drew ?_ | refine blk_alloc ?_ _)); exact BK101.out⟩, ⟨by repeat (first | (with_reducible first | exact HB.out | apply below_alloc | apply pw_below_drewN | apply below_drew1 | refine below_set ?_ GE101.out) | exact HB.out)⟩⟩
                                    · rw [if_neg c20] at H
                                      exact absurd H (by simp)
                                  · rw [if_neg c19] at H
                                    have c19b0 : decide (x9_4 < ((rd_L2 l0_1 x8_3).length : Int)) = false := decide_eq_false c19
                                    clear c19
                                    have H' := Aside0.mk H
                                    clear H
                                    have hcz22_0 : wr.cell? ⟨gb101, 0, none⟩ = some (.int .i64 a0_0) := (blk_cell BK101.out 0).trans rfl
                                    have hcz22_1 : wr.cell? ⟨gb101, 1, none⟩ = some (.slice A0_1 l0_1.length c0_1) := (blk_cell BK101.out 1).trans rfl
                                    have hfz22_0 := blk_frozen BK101.out 0
                                    have hfz22_1 := blk_frozen BK101.out 1
                                    have p106 : 0 ≤ (x8_3 : Int) := of_decide_eq_true (by first | (with_reducible assumption) | assumption)
                                    have q106 : x8_3 < (l0_1.length : Int) := of_decide_eq_true (by first | (with_reducible assumption) | assumption)
                                    obtain ⟨ad106, A106_0, c106_0, e106, hx106_0, hl106_0, hi106_0⟩ := at_L2 HR0_1.out x8_3 p106 q106
                                    cases e106
                                    replace hx106_0 := (HB.out.cell (World.block_lt_of_cell? w _ hx106_0)).trans hx106_0
                                    have HR106_0 := Aside0.mk hi106_0
                                    have HC106_0 := Aside0.mk hl106_0
                                    clear hi106_0 hl106_0
                                    replace p106 := eq_true p106
                                    replace q106 := eq_true q106
                                    go_wp2
                                    repeat (go_quiet (fail); try go_wp2)
                                    go_meet
                                    case rel => exact ⟨_, (false), (by first | rfl | (simp; done) | (simp [*]; done)), H', ⟨by have := HK1.out; have := HK2.out; have := HK3.out; have := HK4.out; first | omega | exact Nat.le_refl _⟩, ⟨by (try simp only [hl5_4]); (with_reducible repeat (first | apply Kd.R_alloc | apply Kd.R_drewN | apply Kd.R_drew)); exact HO_5.out⟩, ⟨by (try simp only [hl5_4]); (with_reducible repeat (first | refine blk_drewN ?_ _ | refine blk_drew ?_ | refine blk_alloc ?_ _)); exact BK101.out⟩, ⟨by repeat (first | (with_reducible first | exact HB.out | apply below_alloc | apply pw_below_drewN | apply below_drew1 | refine below_set ?_ GE101.out) | exact HB.out)⟩⟩
                                · rw [if_neg c18] at H
                                  exact absurd H (by simp)
                              · rw [if_neg c17] at H
                                exact absurd H (by simp)
                            case rest =>
                              clear HC16
                              try clear c1
                              try clear p1
                              try clear q1
                              try clear hx1
                              try clear c2
                              try clear p2
                              try clear c3
                              try clear c3b0
                              try clear c3b1
                              try clear c4
                              try clear c4b0
                              try clear c4b1
                              try clear c5
                              try clear c5b0
                              try clear c5b1
                              try clear p6
                              try clear q6
                              try clear hx6
                              try clear qi6
                              try clear hf6
                              try clear c10
                              try clear p10
                              try clear q10
                              try clear hx10
                              try clear c13
                              try clear c14
                              try clear c14b0
                              try clear c17
                              try clear c17b0
                              try clear c18
                              try clear c18b0
                              try clear c19
                              try clear c19b0
                              try clear c20
                              try clear c20b0
                              try clear hcz21_0
                              try clear hcz21_1
                              try clear hcz22_0
                              try clear hcz22_1
                              try clear hcz8_0
                              try clear hcz8_1
                              try clear hfz21_0
                              try clear hfz21_1
                              try clear hfz22_0
                              try clear hfz22_1
                              try clear hfz8_0
                              try clear hfz8_1
                              try clear hx106_0
                              try clear hx107_0
                              try clear hx6_0
                              try clear p106
                              try clear p107
                              try clear p2
                              try clear p6
                              try clear q106
                              try clear q107
                              try clear q6
                              obtain ⟨kq, x43_15, rfl, HA, HJ15, HO_5, BK101, HB⟩ := hcut
                              cases kq with
                              | zero => exact absurd HA.out (by simp [caesuralaw19_goes.j4])
                              | succ kj15 =>
                                have H := HA.out
                                clear HA
                                simp only [caesuralaw19_goes.j4] at H
                                by_cases c23 : x43_15 = true
                                · subst c23
                                  have H1 : (if 0 ≤ x8_3 then (if x8_3 < (l0_1.length : Int) then (if 0 ≤ x9_4 then (if x9_4 < ((rd_L2 l0_1 x8_3).length : Int) then (if ((rd_T82 (rd_L2 l0_1 x8_3) x9_4).f0) = (-1) then (if 0 ≤ ((rd_T82 (rd_L2 l0_1 x8_3) x9_4).f1) then (if ((rd_T82 (rd_L2 l0_1 x8_3) x9_4).f1) < (x5_4.length : Int) then (if (rdOf false x5_4 ((rd_T82 (rd_L2 l0_1 x8_3) x9_4).f1) = true) then (caesuralaw19_goes.l3 kj15 l1 x5_4 x6_1 x7_4 x8_3 (wrap64 (x9_4 + 1)) a0_0 l0_1) else (caesuralaw19_goes.l3 kj15 l1 (x5_4.set (((rd_T82 (rd_L2 l0_1 x8_3) x9_4).f1) : Int).toNat true) x6_1 true x8_3 (wrap64 (x9_4 + 1)) a0_0 l0_1)) else (none)) else (none)) else (caesuralaw19_goes.l3 kj15 l1 x5_4 x6_1 x7_4 x8_3 (wrap64 (x9_4 + 1)) a0_0 l0_1)) else (none)) else (none)) else (none)) else (none)) = some r := by rw [if_pos rfl] at H; exact H
                                  clear H
                                  have H := H1
                                  clear H1
                                  by_cases c24 : 0 ≤ x8_3
                                  · rw [if_pos c24] at H
                                    have c24b0 : decide (0 ≤ x8_3) = true := decide_eq_true c24
                                    clear c24
                                    by_cases c25 : x8_3 < (l0_1.length : Int)
                                    · rw [if_pos c25] at H
                                      have c25b0 : decide (x8_3 < (l0_1.length : Int)) = true := decide_eq_true c25
                                      clear c25
                                      by_cases c26 : 0 ≤ x9_4
                                      · rw [if_pos c26] at H
                                        have c26b0 : decide (0 ≤ x9_4) = true := decide_eq_true c26
                                        clear c26
                                        by_cases c27 : x9_4 < ((rd_L2 l0_1 x8_3).length : Int)
                                        · rw [if_pos c27] at H
                                          have c27b0 : decide (x9_4 < ((rd_L2 l0_1 x8_3).length : Int)) = true := decide_eq_true c27
                                          clear c27
                                          by_cases c28 : ((rd_T82 (rd_L2 l0_1 x8_3) x9_4).f0) = (-1)
                                          · rw [if_pos c28] at H
                                            have c28b0 : (((rd_T82 (rd_L2 l0_1 x8_3) x9_4).f0) == (-1)) = true := beq_iff_eq.mpr c28
                                            have c28b1 : (((rd_T82 (rd_L2 l0_1 x8_3) x9_4).f0) != (-1)) = false := bne_eq_false_iff_eq.mpr c28
                                            clear c28
                                            by_cases c29 : 0 ≤ ((rd_T82 (rd_L2 l0_1 x8_3) x9_4).f1)
                                            · rw [if_pos c29] at H
                                              have c29b0 : decide (0 ≤ ((rd_T82 (rd_L2 l0_1 x8_3) x9_4).f1)) = true := decide_eq_true c29
                                              clear c29
                                              by_cases c30 : ((rd_T82 (rd_L2 l0_1 x8_3) x9_4).f1) < (x5_4.length : Int)
                                              · rw [if_pos c30] at H
                                                have c30b0 : decide (((rd_T82 (rd_L2 l0_1 x8_3) x9_4).f1) < (x5_4.length : Int)) = true := decide_eq_true c30
                                                clear c30
                                                obtain ⟨bq31, hbq31⟩ : ∃ b_ : Bool, b_ = (rdOf false x5_4 ((rd_T82 (rd_L2 l0_1 x8_3) x9_4).f1)) := ⟨_, rfl⟩
                                                replace H : (if (bq31 = true) then (caesuralaw19_goes.l3 kj15 l1 x5_4 x6_1 x7_4 x8_3 (wrap64 (x9_4 + 1)) a0_0 l0_1) else (caesuralaw19_goes.l3 kj15 l1 (x5_4.set (((rd_T82 (rd_L2 l0_1 x8_3) x9_4).f1) : Int).toNat true) x6_1 true x8_3 (wrap64 (x9_4 + 1)) a0_0 l0_1)) = some r := by rw [← hbq31] at H; exact H
                                                have Nbq31 := Aside0.mk hbq31
                                                clear hbq31
                                                by_cases c32 : (bq31 = true)
                                                · subst c32
                                                  have H1 : (caesuralaw19_goes.l3 kj15 l1 x5_4 x6_1 x7_4 x8_3 (wrap64 (x9_4 + 1)) a0_0 l0_1) = some r := by rw [if_pos rfl] at H; exact H
                                                  clear H
                                                  have H := H1
                                                  clear H1
                                                  have H' := Aside0.mk H
                                                  clear H
                                                  have hcz33_0 : wc.cell? ⟨gb101, 0, none⟩ = some (.int .i64 a0_0) := (blk_cell BK101.out 0).trans rfl
                                                  have hcz33_1 : wc.cell? ⟨gb101, 1, none⟩ = some (.slice A0_1 l0_1.length c0_1) := (blk_cell BK101.out 1).trans rfl
                                                  have hfz33_0 := blk_frozen BK101.out 0
                                                  have hfz33_1 := blk_frozen BK101.out 1
                                                  have p108 : 0 ≤ (x8_3 : Int) := of_decide_eq_true (by first | (with_reducible assumption) | assumption)
                                                  have q108 : x8_3 < (l0_1.length : Int) := of_decide_eq_true (by first | (with_reducible assumption) | assumption)
                                                  obtain ⟨ad108, A108_0, c108_0, e108, hx108_0, hl108_0, hi108_0⟩ := at_L2 HR0_1.out x8_3 p108 q108
                                                  cases e108
                                                  replace hx108_0 := (HB.out.cell (World.block_lt_of_cell? w _ hx108_0)).trans hx108_0
                                                  have HR108_0 := Aside0.mk hi108_0
                                                  have HC108_0 := Aside0.mk hl108_0
                                                  clear hi108_0 hl108_0
                                                  replace p108 := eq_true p108
                                                  replace q108 := eq_true q108
                                                  have p109 : 0 ≤ (x9_4 : Int) := of_decide_eq_true (by first | (with_reducible assumption) | assumption)
                                                  have q109 : x9_4 < ((rd_L2 l0_1 x8_3).length : Int) := of_decide_eq_true (by first | (with_reducible assumption) | assumption)
                                                  obtain ⟨ad109, e109, hx109_0, hx109_1⟩ := at_T82 HR108_0.out x9_4 p109 q109
                                                  cases e109
                                                  replace hx109_0 := (HB.out.cell (World.block_lt_of_cell? w _ hx109_0)).trans hx109_0
                                                  replace hx109_1 := (HB.out.cell (World.block_lt_of_cell? w _ hx109_1)).trans hx109_1
                                                  replace p109 := eq_true p109
                                                  replace q109 := eq_true q109
                                                  go_wp2_with (first | ((with_reducible refine gate_dst (N := 10) rfl ?_); refine box_event ?hg (N := 10) ?hd (cs := #[.int .i64 0, .int .i64 0]) (t := 82) ?hr ?_; (case hd => rfl); (case hg => rfl); (case hr => first | (go_simp; done) | (go_simp; rfl)); intro gb110 hg w34 hbox hb; have n0_ := Aside0.mk (Kd.R_below (by (with_reducible repeat (first | apply Kd.R_alloc | apply Kd.R_drewN | apply Kd.R_drew)); exact HO_5.out) hb); have n1_ := Aside0.mk (blk_below (g := gb101) (o := .cells #[.int .i64 a0_0, .slice (some ad108) l0_1.length c0_1] 28 (0, 0)) (by (with_reducible repeat (first | refine blk_drewN ?_ _ | refine blk_drew ?_ | refine blk_alloc ?_ _)); exact BK101.out) hb); have n2_ := Aside0.mk (below_step (by repeat (first | (with_reducible first | exact HB.out | apply below_alloc | apply pw_below_drewN | apply below_drew1 | refine below_set ?_ GE101.out) | exact HB.out)) hb); have n3_ := Aside0.mk (hbox); have n4_ := Aside0.mk ((by rw [hg]; exact (below_size (by repeat (first | (with_reducible first | exact HB.out | apply below_alloc | apply pw_below_drewN | apply below_drew1 | refine below_set ?_ GE101.out) | exact HB.out))) : w.heap.size ≤ gb110)); have n5_ := Aside0.mk ((by rw [hg]; exact (below_size (by repeat (first | (with_reducible first | exact HB.out | apply below_alloc | apply pw_below_drewN | apply below_drew1 | refine below_set ?_ GE101.out) | exact HB.out))) : w.heap.size ≤ gb110)); have n6_ := Aside0.mk ((by rw [hg]; exact Nat.ne_of_lt (blk_lt (g := gb101) (o := .cells #[.int .i64 a0_0, .slice (some ad108) l0_1.length c0_1] 28 (0, 0)) (by (with_reducible repeat (first | refine blk_drewN ?_ _ | refine blk_drew ?_ | refine blk_alloc ?_ _)); exact BK101.out)) : gb101 ≠ gb110)); have n7_ := Aside0.mk ((by rw [hg]; exact Nat.ne_of_gt (blk_lt (g := gb101) (o := .cells #[.int .i64 a0_0, .slice (some ad108) l0_1.length c0_1] 28 (0, 0)) (by (with_reducible repeat (first | refine blk_drewN ?_ _ | refine blk_drew ?_ | refine blk_alloc ?_ _)); exact BK101.out)) : gb110 ≠ gb101)); clear HO_5; clear BK101; clear HB; have HO_5 := n0_; have BK101 := n1_; have HB := n2_; have BK110 := n3_; have GW110 := n4_; have GE110 := n5_; have NB101_110 := n6_; have NB110_101 := n7_; clear n0_ n1_ n2_ n3_ n4_ n5_ n6_ n7_; clear hb hbox hg; have hnb35 := NB110_101.out; have hnc35 := NB101_110.out; have hcz36_0 : w34.cell? ⟨gb110, 0, none⟩ = some (.int .i64 0) := (blk_cell BK110.out 0).trans rfl; have hcz36_1 : w34.cell? ⟨gb110, 1, none⟩ = some (.int .i64 0) := (blk_cell BK110.out 1).trans rfl; have hfz36_0 := blk_frozen BK110.out 0; have hfz36_1 := blk_frozen BK110.out 1; have p111 : 0 ≤ (((rd_T82 (rd_L2 l0_1 x8_3) x9_4).f1) : Int) := of_decide_eq_true (by first | (with_reducible assumption) | assumption); have q111 : ((rd_T82 (rd_L2 l0_1 x8_3) x9_4).f1) < (x5_4.length : Int) := of_decide_eq_true (by first | (with_reducible assumption) | assumption); obtain ⟨ad111, e111, hx111_0⟩ := Kd.at_bool (Kd.R_reads' HO_5.out).2.2 ((rd_T82 (rd_L2 l0_1 x8_3) x9_4).f1) p111 q111; (try rw [← Nbq31.out] at hx111_0); cases e111; have hn111_0 : ad111.block ≠ gb110 := Kd.own_blk (Kd.R_ne HO_5.out BK110.out (by decide)); have hn111_1 : ad111.block ≠ gb110 := Kd.own_blk (Kd.R_ne HO_5.out BK110.out (by decide)); replace hx111_0 := (cell_far (p := ⟨gb110, 0, none⟩) (by first | (rw [add_block]; exact hn111_0) | (show (Addr.add _ _).block ≠ _; rw [add_block]; exact hn111_0) | exact hn111_0) (.int .i64 ((rd_T82 (rd_L2 l0_1 x8_3) x9_4).f0))).trans hx111_0; replace hx111_0 := (cell_far (p := ⟨gb110, 1, none⟩) (by first | (rw [add_block]; exact hn111_1) | (show (Addr.add _ _).block ≠ _; rw [add_block]; exact hn111_1) | exact hn111_1) (.int .i64 ((rd_T82 (rd_L2 l0_1 x8_3) x9_4).f1))).trans hx111_0; (try have hy111_0 := fun (n_ : Nat) => (show ((((w34.drewN n_).setCell ⟨gb110, 0, none⟩ (.int .i64 ((rd_T82 (rd_L2 l0_1 x8_3) x9_4).f0))).setCell ⟨gb110, 1, none⟩ (.int .i64 ((rd_T82 (rd_L2 l0_1 x8_3) x9_4).f1)))).cell? _ = some _ from hx111_0)); clear hn111_0; clear hn111_1; replace p111 := eq_true p111; replace q111 := eq_true q111))
                                                  repeat (go_quiet (first | ((with_reducible refine gate_dst (N := 10) rfl ?_); refine box_event ?hg (N := 10) ?hd (cs := #[.int .i64 0, .int .i64 0]) (t := 82) ?hr ?_; (case hd => rfl); (case hg => rfl); (case hr => first | (go_simp; done) | (go_simp; rfl)); intro gb110 hg w34 hbox hb; have n0_ := Aside0.mk (Kd.R_below (by (with_reducible repeat (first | apply Kd.R_alloc | apply Kd.R_drewN | apply Kd.R_drew)); exact HO_5.out) hb); have n1_ := Aside0.mk (blk_below (g := gb101) (o := .cells #[.int .i64 a0_0, .slice (some ad108) l0_1.length c0_1] 28 (0, 0)) (by (with_reducible repeat (first | refine blk_drewN ?_ _ | refine blk_drew ?_ | refine blk_alloc ?_ _)); exact BK101.out) hb); have n2_ := Aside0.mk (below_step (by repeat (first | (with_reducible first | exact HB.out | apply below_alloc | apply pw_below_drewN | apply below_drew1 | refine below_set ?_ GE101.out) | exact HB.out)) hb); have n3_ := Aside0.mk (hbox); have n4_ := Aside0.mk ((by rw [hg]; exact (below_size (by repeat (first | (with_reducible first | exact HB.out | apply below_alloc | apply pw_below_drewN | apply below_drew1 | refine below_set ?_ GE101.out) | exact HB.out))) : w.heap.size ≤ gb110)); have n5_ := Aside0.mk ((by rw [hg]; exact (below_size (by repeat (first | (with_reducible first | exact HB.out | apply below_alloc | apply pw_below_drewN | apply below_drew1 | refine below_set ?_ GE101.out) | exact HB.out))) : w.heap.size ≤ gb110)); have n6_ := Aside0.mk ((by rw [hg]; exact Nat.ne_of_lt (blk_lt (g := gb101) (o := .cells #[.int .i64 a0_0, .slice (some ad108) l0_1.length c0_1] 28 (0, 0)) (by (with_reducible repeat (first | refine blk_drewN ?_ _ | refine blk_drew ?_ | refine blk_alloc ?_ _)); exact BK101.out)) : gb101 ≠ gb110)); have n7_ := Aside0.mk ((by rw [hg]; exact Nat.ne_of_gt (blk_lt (g := gb101) (o := .cells #[.int .i64 a0_0, .slice (some ad108) l0_1.length c0_1] 28 (0, 0)) (by (with_reducible repeat (first | refine blk_drewN ?_ _ | refine blk_drew ?_ | refine blk_alloc ?_ _)); exact BK101.out)) : gb110 ≠ gb101)); clear HO_5; clear BK101; clear HB; have HO_5 := n0_; have BK101 := n1_; have HB := n2_; have BK110 := n3_; have GW110 := n4_; have GE110 := n5_; have NB101_110 := n6_; have NB110_101 := n7_; clear n0_ n1_ n2_ n3_ n4_ n5_ n6_ n7_; clear hb hbox hg; have hnb35 := NB110_101.out; have hnc35 := NB101_110.out; have hcz36_0 : w34.cell? ⟨gb110, 0, none⟩ = some (.int .i64 0) := (blk_cell BK110.out 0).trans rfl; have hcz36_1 : w34.cell? ⟨gb110, 1, none⟩ = some (.int .i64 0) := (blk_cell BK110.out 1).trans rfl; have hfz36_0 := blk_frozen BK110.out 0; have hfz36_1 := blk_frozen BK110.out 1; have p111 : 0 ≤ (((rd_T82 (rd_L2 l0_1 x8_3) x9_4).f1) : Int) := of_decide_eq_true (by first | (with_reducible assumption) | assumption); have q111 : ((rd_T82 (rd_L2 l0_1 x8_3) x9_4).f1) < (x5_4.length : Int) := of_decide_eq_true (by first | (with_reducible assumption) | assumption); obtain ⟨ad111, e111, hx111_0⟩ := Kd.at_bool (Kd.R_reads' HO_5.out).2.2 ((rd_T82 (rd_L2 l0_1 x8_3) x9_4).f1) p111 q111; (try rw [← Nbq31.out] at hx111_0); cases e111; have hn111_0 : ad111.block ≠ gb110 := Kd.own_blk (Kd.R_ne HO_5.out BK110.out (by decide)); have hn111_1 : ad111.block ≠ gb110 := Kd.own_blk (Kd.R_ne HO_5.out BK110.out (by decide)); replace hx111_0 := (cell_far (p := ⟨gb110, 0, none⟩) (by first | (rw [add_block]; exact hn111_0) | (show (Addr.add _ _).block ≠ _; rw [add_block]; exact hn111_0) | exact hn111_0) (.int .i64 ((rd_T82 (rd_L2 l0_1 x8_3) x9_4).f0))).trans hx111_0; replace hx111_0 := (cell_far (p := ⟨gb110, 1, none⟩) (by first | (rw [add_block]; exact hn111_1) | (show (Addr.add _ _).block ≠ _; rw [add_block]; exact hn111_1) | exact hn111_1) (.int .i64 ((rd_T82 (rd_L2 l0_1 x8_3) x9_4).f1))).trans hx111_0; (try have hy111_0 := fun (n_ : Nat) => (show ((((w34.drewN n_).setCell ⟨gb110, 0, none⟩ (.int .i64 ((rd_T82 (rd_L2 l0_1 x8_3) x9_4).f0))).setCell ⟨gb110, 1, none⟩ (.int .i64 ((rd_T82 (rd_L2 l0_1 x8_3) x9_4).f1)))).cell? _ = some _ from hx111_0)); clear hn111_0; clear hn111_1; replace p111 := eq_true p111; replace q111 := eq_true q111)); try go_wp2_with (first | ((with_reducible refine gate_dst (N := 10) rfl ?_); refine box_event ?hg (N := 10) ?hd (cs := #[.int .i64 0, .int .i64 0]) (t := 82) ?hr ?_; (case hd => rfl); (case hg => rfl); (case hr => first | (go_simp; done) | (go_simp; rfl)); intro gb110 hg w34 hbox hb; have n0_ := Aside0.mk (Kd.R_below (by (with_reducible repeat (first | apply Kd.R_alloc | apply Kd.R_drewN | apply Kd.R_drew)); exact HO_5.out) hb); have n1_ := Aside0.mk (blk_below (g := gb101) (o := .cells #[.int .i64 a0_0, .slice (some ad108) l0_1.length c0_1] 28 (0, 0)) (by (with_reducible repeat (first | refine blk_drewN ?_ _ | refine blk_drew ?_ | refine blk_alloc ?_ _)); exact BK101.out) hb); have n2_ := Aside0.mk (below_step (by repeat (first | (with_reducible first | exact HB.out | apply below_alloc | apply pw_below_drewN | apply below_drew1 | refine below_set ?_ GE101.out) | exact HB.out)) hb); have n3_ := Aside0.mk (hbox); have n4_ := Aside0.mk ((by rw [hg]; exact (below_size (by repeat (first | (with_reducible first | exact HB.out | apply below_alloc | apply pw_below_drewN | apply below_drew1 | refine below_set ?_ GE101.out) | exact HB.out))) : w.heap.size ≤ gb110)); have n5_ := Aside0.mk ((by rw [hg]; exact (below_size (by repeat (first | (with_reducible first | exact HB.out | apply below_alloc | apply pw_below_drewN | apply below_drew1 | refine below_set ?_ GE101.out) | exact HB.out))) : w.heap.size ≤ gb110)); have n6_ := Aside0.mk ((by rw [hg]; exact Nat.ne_of_lt (blk_lt (g := gb101) (o := .cells #[.int .i64 a0_0, .slice (some ad108) l0_1.length c0_1] 28 (0, 0)) (by (with_reducible repeat (first | refine blk_drewN ?_ _ | refine blk_drew ?_ | refine blk_alloc ?_ _)); exact BK101.out)) : gb101 ≠ gb110)); have n7_ := Aside0.mk ((by rw [hg]; exact Nat.ne_of_gt (blk_lt (g := gb101) (o := .cells #[.int .i64 a0_0, .slice (some ad108) l0_1.length c0_1] 28 (0, 0)) (by (with_reducible repeat (first | refine blk_drewN ?_ _ | refine blk_drew ?_ | refine blk_alloc ?_ _)); exact BK101.out)) : gb110 ≠ gb101)); clear HO_5; clear BK101; clear HB; have HO_5 := n0_; have BK101 := n1_; have HB := n2_; have BK110 := n3_; have GW110 := n4_; have GE110 := n5_; have NB101_110 := n6_; have NB110_101 := n7_; clear n0_ n1_ n2_ n3_ n4_ n5_ n6_ n7_; clear hb hbox hg; have hnb35 := NB110_101.out; have hnc35 := NB101_110.out; have hcz36_0 : w34.cell? ⟨gb110, 0, none⟩ = some (.int .i64 0) := (blk_cell BK110.out 0).trans rfl; have hcz36_1 : w34.cell? ⟨gb110, 1, none⟩ = some (.int .i64 0) := (blk_cell BK110.out 1).trans rfl; have hfz36_0 := blk_frozen BK110.out 0; have hfz36_1 := blk_frozen BK110.out 1; have p111 : 0 ≤ (((rd_T82 (rd_L2 l0_1 x8_3) x9_4).f1) : Int) := of_decide_eq_true (by first | (with_reducible assumption) | assumption); have q111 : ((rd_T82 (rd_L2 l0_1 x8_3) x9_4).f1) < (x5_4.length : Int) := of_decide_eq_true (by first | (with_reducible assumption) | assumption); obtain ⟨ad111, e111, hx111_0⟩ := Kd.at_bool (Kd.R_reads' HO_5.out).2.2 ((rd_T82 (rd_L2 l0_1 x8_3) x9_4).f1) p111 q111; (try rw [← Nbq31.out] at hx111_0); cases e111; have hn111_0 : ad111.block ≠ gb110 := Kd.own_blk (Kd.R_ne HO_5.out BK110.out (by decide)); have hn111_1 : ad111.block ≠ gb110 := Kd.own_blk (Kd.R_ne HO_5.out BK110.out (by decide)); replace hx111_0 := (cell_far (p := ⟨gb110, 0, none⟩) (by first | (rw [add_block]; exact hn111_0) | (show (Addr.add _ _).block ≠ _; rw [add_block]; exact hn111_0) | exact hn111_0) (.int .i64 ((rd_T82 (rd_L2 l0_1 x8_3) x9_4).f0))).trans hx111_0; replace hx111_0 := (cell_far (p := ⟨gb110, 1, none⟩) (by first | (rw [add_block]; exact hn111_1) | (show (Addr.add _ _).block ≠ _; rw [add_block]; exact hn111_1) | exact hn111_1) (.int .i64 ((rd_T82 (rd_L2 l0_1 x8_3) x9_4).f1))).trans hx111_0; (try have hy111_0 := fun (n_ : Nat) => (show ((((w34.drewN n_).setCell ⟨gb110, 0, none⟩ (.int .i64 ((rd_T82 (rd_L2 l0_1 x8_3) x9_4).f0))).setCell ⟨gb110, 1, none⟩ (.int .i64 ((rd_T82 (rd_L2 l0_1 x8_3) x9_4).f1)))).cell? _ = some _ from hx111_0)); clear hn111_0; clear hn111_1; replace p111 := eq_true p111; replace q111 := eq_true q111)))
                                                  (try simp only [← hl5_4])
                                                  go_roundg kj15
                                                  case measure => have := HK1.out; have := HK2.out; have := HK3.out; have := HK4.out; have := HJ15.out; omega
                                                  case rel => exact ⟨(x5_4), (x7_4), (wrap64 (x9_4 + 1)), (by first | rfl | (simp; done) | (simp [*]; done)), (by first | rfl | (simp; done) | (simp [*]; done)), H', ⟨by have := HK1.out; have := HK2.out; have := HK3.out; have := HK4.out; have := HJ15.out; omega⟩, ⟨by (try simp only [hl5_4]); (with_reducible repeat (first | apply Kd.R_alloc | apply Kd.R_drewN | apply Kd.R_drew)); exact Kd.R_mono (Kd.R_far (p := ⟨gb110, 1, none⟩) (Kd.R_far (p := ⟨gb110, 0, none⟩) (Kd.R_types HO_5.out BK110.out (by decide)) (fun _ hk => hk.2) (.int .i64 ((rd_T82 (rd_L2 l0_1 x8_3) x9_4).f0))) (fun _ hk => hk.2) (.int .i64 ((rd_T82 (rd_L2 l0_1 x8_3) x9_4).f1))) (fun _ hk => trivial)⟩, ⟨by (try simp only [hl5_4]); (with_reducible repeat (first | refine blk_drewN ?_ _ | refine blk_drew ?_ | refine blk_alloc ?_ _)); refine blk_far ?_ NB101_110.out _; (with_reducible repeat (first | refine blk_drewN ?_ _ | refine blk_drew ?_ | refine blk_alloc ?_ _)); refine blk_far ?_ NB101_110.out _; (with_reducible repeat (first | refine blk_drewN ?_ _ | refine blk_drew ?_ | refine blk_alloc ?_ _)); exact BK101.out⟩, ⟨by repeat (first | (with_reducible first | exact HB.out | apply below_alloc | apply pw_below_drewN | apply below_drew1 | refine below_set ?_ GE101.out | refine below_set ?_ GE110.out) | exact HB.out)⟩⟩
                                                · replace c32 := Bool.eq_false_iff.mpr c32
                                                  subst c32
                                                  have H1 : (caesuralaw19_goes.l3 kj15 l1 (x5_4.set (((rd_T82 (rd_L2 l0_1 x8_3) x9_4).f1) : Int).toNat true) x6_1 true x8_3 (wrap64 (x9_4 + 1)) a0_0 l0_1) = some r := by rw [if_neg (show ¬ (false = true) by decide)] at H; exact H
                                                  clear H
                                                  have H := H1
                                                  clear H1
                                                  obtain ⟨y112, hy112⟩ : ∃ y_ : List Bool, y_ = (x5_4.set (((rd_T82 (rd_L2 l0_1 x8_3) x9_4).f1) : Int).toNat true) := ⟨_, rfl⟩
                                                  replace H : (caesuralaw19_goes.l3 kj15 l1 y112 x6_1 true x8_3 (wrap64 (x9_4 + 1)) a0_0 l0_1) = some r := by first | (rw [hy112]; with_reducible exact H) | (have H2_ := (Option.bind_some _ _).symm.trans H; rw [hy112]; with_reducible exact H2_) | (have H2_ := (Option.bind_some _ _).symm.trans H; with_reducible exact H2_) | with_reducible exact H | (rw [hy112]; exact H) | exact H
                                                  have Ny112 := Aside0.mk hy112
                                                  clear hy112
                                                  have H' := Aside0.mk H
                                                  clear H
                                                  have hcz38_0 : wc.cell? ⟨gb101, 0, none⟩ = some (.int .i64 a0_0) := (blk_cell BK101.out 0).trans rfl
                                                  have hcz38_1 : wc.cell? ⟨gb101, 1, none⟩ = some (.slice A0_1 l0_1.length c0_1) := (blk_cell BK101.out 1).trans rfl
                                                  have hfz38_0 := blk_frozen BK101.out 0
                                                  have hfz38_1 := blk_frozen BK101.out 1
                                                  have p108 : 0 ≤ (x8_3 : Int) := of_decide_eq_true (by first | (with_reducible assumption) | assumption)
                                                  have q108 : x8_3 < (l0_1.length : Int) := of_decide_eq_true (by first | (with_reducible assumption) | assumption)
                                                  obtain ⟨ad108, A108_0, c108_0, e108, hx108_0, hl108_0, hi108_0⟩ := at_L2 HR0_1.out x8_3 p108 q108
                                                  cases e108
                                                  replace hx108_0 := (HB.out.cell (World.block_lt_of_cell? w _ hx108_0)).trans hx108_0
                                                  have HR108_0 := Aside0.mk hi108_0
                                                  have HC108_0 := Aside0.mk hl108_0
                                                  clear hi108_0 hl108_0
                                                  replace p108 := eq_true p108
                                                  replace q108 := eq_true q108
                                                  have p109 : 0 ≤ (x9_4 : Int) := of_decide_eq_true (by first | (with_reducible assumption) | assumption)
                                                  have q109 : x9_4 < ((rd_L2 l0_1 x8_3).length : Int) := of_decide_eq_true (by first | (with_reducible assumption) | assumption)
                                                  obtain ⟨ad109, e109, hx109_0, hx109_1⟩ := at_T82 HR108_0.out x9_4 p109 q109
                                                  cases e109
                                                  replace hx109_0 := (HB.out.cell (World.block_lt_of_cell? w _ hx109_0)).trans hx109_0
                                                  replace hx109_1 := (HB.out.cell (World.block_lt_of_cell? w _ hx109_1)).trans hx109_1
                                                  replace p109 := eq_true p109
                                                  replace q109 := eq_true q109
                                                  go_wp2_with (first | ((with_reducible refine gate_dst (N := 10) rfl ?_); refine box_event ?hg (N := 10) ?hd (cs := #[.int .i64 0, .int .i64 0]) (t := 82) ?hr ?_; (case hd => rfl); (case hg => rfl); (case hr => first | (go_simp; done) | (go_simp; rfl)); intro gb110 hg w39 hbox hb; have n0_ := Aside0.mk (Kd.R_below (by (with_reducible repeat (first | apply Kd.R_alloc | apply Kd.R_drewN | apply Kd.R_drew)); exact HO_5.out) hb); have n1_ := Aside0.mk (blk_below (g := gb101) (o := .cells #[.int .i64 a0_0, .slice (some ad108) l0_1.length c0_1] 28 (0, 0)) (by (with_reducible repeat (first | refine blk_drewN ?_ _ | refine blk_drew ?_ | refine blk_alloc ?_ _)); exact BK101.out) hb); have n2_ := Aside0.mk (below_step (by repeat (first | (with_reducible first | exact HB.out | apply below_alloc | apply pw_below_drewN | apply below_drew1 | refine below_set ?_ GE101.out) | exact HB.out)) hb); have n3_ := Aside0.mk (hbox); have n4_ := Aside0.mk ((by rw [hg]; exact (below_size (by repeat (first | (with_reducible first | exact HB.out | apply below_alloc | apply pw_below_drewN | apply below_drew1 | refine below_set ?_ GE101.out) | exact HB.out))) : w.heap.size ≤ gb110)); have n5_ := Aside0.mk ((by rw [hg]; exact (below_size (by repeat (first | (with_reducible first | exact HB.out | apply below_alloc | apply pw_below_drewN | apply below_drew1 | refine below_set ?_ GE101.out) | exact HB.out))) : w.heap.size ≤ gb110)); have n6_ := Aside0.mk ((by rw [hg]; exact Nat.ne_of_lt (blk_lt (g := gb101) (o := .cells #[.int .i64 a0_0, .slice (some ad108) l0_1.length c0_1] 28 (0, 0)) (by (with_reducible repeat (first | refine blk_drewN ?_ _ | refine blk_drew ?_ | refine blk_alloc ?_ _)); exact BK101.out)) : gb101 ≠ gb110)); have n7_ := Aside0.mk ((by rw [hg]; exact Nat.ne_of_gt (blk_lt (g := gb101) (o := .cells #[.int .i64 a0_0, .slice (some ad108) l0_1.length c0_1] 28 (0, 0)) (by (with_reducible repeat (first | refine blk_drewN ?_ _ | refine blk_drew ?_ | refine blk_alloc ?_ _)); exact BK101.out)) : gb110 ≠ gb101)); clear HO_5; clear BK101; clear HB; have HO_5 := n0_; have BK101 := n1_; have HB := n2_; have BK110 := n3_; have GW110 := n4_; have GE110 := n5_; have NB101_110 := n6_; have NB110_101 := n7_; clear n0_ n1_ n2_ n3_ n4_ n5_ n6_ n7_; clear hb hbox hg; have hnb40 := NB110_101.out; have hnc40 := NB101_110.out; have hcz41_0 : w39.cell? ⟨gb110, 0, none⟩ = some (.int .i64 0) := (blk_cell BK110.out 0).trans rfl; have hcz41_1 : w39.cell? ⟨gb110, 1, none⟩ = some (.int .i64 0) := (blk_cell BK110.out 1).trans rfl; have hfz41_0 := blk_frozen BK110.out 0; have hfz41_1 := blk_frozen BK110.out 1) | ((with_reducible refine gate_store (t := 82) (p := 10) rfl ?_); (try (rw [drewN_self w39]; generalize hq_ : World.drewN w39 _ = w39; have n0_ := Aside0.mk (Kd.R_at hq_ HO_5.out); have n1_ := Aside0.mk (blk_at hq_ BK101.out); have n2_ := Aside0.mk (blk_at hq_ BK110.out); have n3_ := Aside0.mk (below_at hq_ HB.out); clear hq_ HO_5 BK101 BK110 HB; have HO_5 := n0_; have BK101 := n1_; have BK110 := n2_; have HB := n3_; clear n0_ n1_ n2_ n3_)); refine store_event (t := 82) (p := 10) (v := ?vo_w42) (w1 := ((w39.setCell ⟨gb110, 0, none⟩ (.int .i64 ((rd_T82 (rd_L2 l0_1 x8_3) x9_4).f0))).setCell ⟨gb110, 1, none⟩ (.int .i64 ((rd_T82 (rd_L2 l0_1 x8_3) x9_4).f1)))) ?hg ?ho ?hn ?hr ?_; (case ho => rfl); (case hg => rfl); (case hn => rfl); (case hr => first | (go_simp; done) | (go_simp; rfl)); intro w42 hw; have n0_ : Aside0 (Kd.R Kd.bool 4 w42 w.heap.size (fun _ => True) (.slice Ao15 x5_4.length co15) x5_4) := ⟨(by rw [hw]; exact (by (with_reducible repeat (first | apply Kd.R_alloc | apply Kd.R_drewN | apply Kd.R_drew)); exact Kd.R_mono (Kd.R_far (p := ⟨gb110, 1, none⟩) (Kd.R_far (p := ⟨gb110, 0, none⟩) (Kd.R_types HO_5.out BK110.out (by decide)) (fun _ hk => hk.2) (.int .i64 ((rd_T82 (rd_L2 l0_1 x8_3) x9_4).f0))) (fun _ hk => hk.2) (.int .i64 ((rd_T82 (rd_L2 l0_1 x8_3) x9_4).f1))) (fun _ hk => trivial)))⟩; have n1_ : Aside0 (w42.heap[gb101]? = some (.cells #[.int .i64 a0_0, .slice (some ad108) l0_1.length c0_1] 28 (0, 0))) := ⟨(by rw [hw]; exact (by (with_reducible repeat (first | refine blk_drewN ?_ _ | refine blk_drew ?_ | refine blk_alloc ?_ _)); refine blk_far ?_ NB101_110.out _; (with_reducible repeat (first | refine blk_drewN ?_ _ | refine blk_drew ?_ | refine blk_alloc ?_ _)); refine blk_far ?_ NB101_110.out _; (with_reducible repeat (first | refine blk_drewN ?_ _ | refine blk_drew ?_ | refine blk_alloc ?_ _)); exact BK101.out))⟩; have n2_ : Aside0 (w42.heap[gb110]? = some (.cells #[.int .i64 ((rd_T82 (rd_L2 l0_1 x8_3) x9_4).f0), .int .i64 ((rd_T82 (rd_L2 l0_1 x8_3) x9_4).f1)] 82 (0, 0))) := ⟨(by rw [hw]; exact (by (with_reducible repeat (first | refine blk_drewN ?_ _ | refine blk_drew ?_ | refine blk_alloc ?_ _)); refine blk_put (cs := #[.int .i64 ((rd_T82 (rd_L2 l0_1 x8_3) x9_4).f0), .int .i64 0]) ?_ 1 _ rfl; (with_reducible repeat (first | refine blk_drewN ?_ _ | refine blk_drew ?_ | refine blk_alloc ?_ _)); refine blk_put (cs := #[.int .i64 0, .int .i64 0]) ?_ 0 _ rfl; (with_reducible repeat (first | refine blk_drewN ?_ _ | refine blk_drew ?_ | refine blk_alloc ?_ _)); exact BK110.out))⟩; have n3_ : Aside0 (Below w.heap.size w w42) := ⟨(by rw [hw]; exact (by repeat (first | (with_reducible first | exact HB.out | apply below_alloc | apply pw_below_drewN | apply below_drew1 | refine below_set ?_ GE101.out | refine below_set ?_ GE110.out) | exact HB.out)))⟩; clear hw; clear HO_5; clear BK101; clear BK110; clear HB; have HO_5 := n0_; have BK101 := n1_; have BK110 := n2_; have HB := n3_; clear n0_ n1_ n2_ n3_; have hcz43_0 : w42.cell? ⟨gb110, 0, none⟩ = some (.int .i64 ((rd_T82 (rd_L2 l0_1 x8_3) x9_4).f0)) := (blk_cell BK110.out 0).trans rfl; have hcz43_1 : w42.cell? ⟨gb110, 1, none⟩ = some (.int .i64 ((rd_T82 (rd_L2 l0_1 x8_3) x9_4).f1)) := (blk_cell BK110.out 1).trans rfl; have hfz43_0 := blk_frozen BK110.out 0; have hfz43_1 := blk_frozen BK110.out 1; have p111 : 0 ≤ (((rd_T82 (rd_L2 l0_1 x8_3) x9_4).f1) : Int) := of_decide_eq_true (by first | (with_reducible assumption) | assumption); have q111 : ((rd_T82 (rd_L2 l0_1 x8_3) x9_4).f1) < (x5_4.length : Int) := of_decide_eq_true (by first | (with_reducible assumption) | assumption); obtain ⟨ad111, e111, hx111_0⟩ := Kd.at_bool (Kd.R_reads' HO_5.out).2.2 ((rd_T82 (rd_L2 l0_1 x8_3) x9_4).f1) p111 q111; (try rw [← Nbq31.out] at hx111_0); cases e111; replace p111 := eq_true p111; replace q111 := eq_true q111; have p37 : 0 ≤ (((rd_T82 (rd_L2 l0_1 x8_3) x9_4).f1) : Int) := of_decide_eq_true (by first | (with_reducible assumption) | assumption); have q37 : (((rd_T82 (rd_L2 l0_1 x8_3) x9_4).f1) : Int) < ((x5_4.length : Int) : Int) := of_decide_eq_true (by first | (with_reducible assumption) | assumption); obtain ⟨go37, co37, eo37, gb37, gl37, cl37, HG37⟩ := Kd.R_form HO_5.out (by omega); (first | cases eo37 | (injection eo37 with ea_ en_ ec_; (first | subst ea_ | (injection ea_ with ea_; subst ea_)); subst ec_; clear en_)); have GB37 := Aside0.mk gb37; have GG37 := Aside0.mk HG37; clear gb37 gl37 HG37; (first | simp only [add_plain] at hx111_0 | skip); obtain ⟨hx37_0, hf37_0⟩ := Kd.R_celln false HO_5.out (((rd_T82 (rd_L2 l0_1 x8_3) x9_4).f1) : Int) p37 q37; replace p37 := eq_true p37; replace q37 := eq_true q37; obtain ⟨hy44_, hz44_⟩ := Kd.R_celln false HO_5.out (((rd_T82 (rd_L2 l0_1 x8_3) x9_4).f1) : Int) (of_decide_eq_true (by first | (with_reducible assumption) | assumption)) (of_decide_eq_true (by first | (with_reducible assumption) | assumption)); have HP44 := Kd.R_putg HO_5.out (((rd_T82 (rd_L2 l0_1 x8_3) x9_4).f1) : Int) true) | ((with_reducible refine gate_store (t := 4) (p := 68) rfl ?_); (try (rw [drewN_self w42]; generalize hq_ : World.drewN w42 _ = w42; have n0_ := Aside0.mk (Kd.R_at hq_ HO_5.out); have n1_ := Aside0.mk (blk_at hq_ BK101.out); have n2_ := Aside0.mk (blk_at hq_ BK110.out); have n3_ := Aside0.mk (below_at hq_ HB.out); clear hq_ HO_5 BK101 BK110 HB; have HO_5 := n0_; have BK101 := n1_; have BK110 := n2_; have HB := n3_; clear n0_ n1_ n2_ n3_; (try (obtain ⟨hy44_, hz44_⟩ := Kd.R_celln false HO_5.out (((rd_T82 (rd_L2 l0_1 x8_3) x9_4).f1) : Int) (of_decide_eq_true (by first | (with_reducible assumption) | assumption)) (of_decide_eq_true (by first | (with_reducible assumption) | assumption)))); (try (have HP44 := Kd.R_putg HO_5.out (((rd_T82 (rd_L2 l0_1 x8_3) x9_4).f1) : Int) true)))); refine store_event (t := 4) (p := 68) (v := ?vo_w45) (w1 := (w42.setCell ⟨go37, (((rd_T82 (rd_L2 l0_1 x8_3) x9_4).f1) : Int).toNat, none⟩ (.bool true))) ?hg ?ho ?hn ?hr ?_; (case ho => rfl); (case hg => rfl); (case hn => rfl); (case hr => first | (go_simp; done) | (go_simp; rfl)); intro w45 hw; have hg : w42.grownBy w45 (some go37) := (by rw [hw]; exact HP44.2); have hp_ : Kd.R Kd.bool 4 w45 w.heap.size (fun _ => True) (.slice (some ⟨go37, 0, none⟩) x5_4.length co15) y112 := (by rw [hw, Ny112.out]; exact HP44.1); clear HP44; have n0_ := Aside0.mk (hp_); have n1_ := Aside0.mk (blk_grown (g := gb101) (o := .cells #[.int .i64 a0_0, .slice (some ad108) l0_1.length c0_1] 28 (0, 0)) (by (with_reducible repeat (first | refine blk_drewN ?_ _ | refine blk_drew ?_ | refine blk_alloc ?_ _)); exact BK101.out) hg (Kd.R_ne HO_5.out BK101.out (by decide))); have n2_ := Aside0.mk (blk_grown (g := gb110) (o := .cells #[.int .i64 ((rd_T82 (rd_L2 l0_1 x8_3) x9_4).f0), .int .i64 ((rd_T82 (rd_L2 l0_1 x8_3) x9_4).f1)] 82 (0, 0)) (by (with_reducible repeat (first | refine blk_drewN ?_ _ | refine blk_drew ?_ | refine blk_alloc ?_ _)); exact BK110.out) hg (Kd.R_ne HO_5.out BK110.out (by decide))); have n3_ := Aside0.mk ((by rw [hw]; exact below_set (HB.out) GB37.out : Below w.heap.size w w45)); clear HO_5; clear BK101; clear BK110; clear HB; have HO_5 := n0_; have BK101 := n1_; have BK110 := n2_; have HB := n3_; clear n0_ n1_ n2_ n3_; clear hg hw hp_))
                                                  repeat (go_quiet (first | ((with_reducible refine gate_dst (N := 10) rfl ?_); refine box_event ?hg (N := 10) ?hd (cs := #[.int .i64 0, .int .i64 0]) (t := 82) ?hr ?_; (case hd => rfl); (case hg => rfl); (case hr => first | (go_simp; done) | (go_simp; rfl)); intro gb110 hg w39 hbox hb; have n0_ := Aside0.mk (Kd.R_below (by (with_reducible repeat (first | apply Kd.R_alloc | apply Kd.R_drewN | apply Kd.R_drew)); exact HO_5.out) hb); have n1_ := Aside0.mk (blk_below (g := gb101) (o := .cells #[.int .i64 a0_0, .slice (some ad108) l0_1.length c0_1] 28 (0, 0)) (by (with_reducible repeat (first | refine blk_drewN ?_ _ | refine blk_drew ?_ | refine blk_alloc ?_ _)); exact BK101.out) hb); have n2_ := Aside0.mk (below_step (by repeat (first | (with_reducible first | exact HB.out | apply below_alloc | apply pw_below_drewN | apply below_drew1 | refine below_set ?_ GE101.out) | exact HB.out)) hb); have n3_ := Aside0.mk (hbox); have n4_ := Aside0.mk ((by rw [hg]; exact (below_size (by repeat (first | (with_reducible first | exact HB.out | apply below_alloc | apply pw_below_drewN | apply below_drew1 | refine below_set ?_ GE101.out) | exact HB.out))) : w.heap.size ≤ gb110)); have n5_ := Aside0.mk ((by rw [hg]; exact (below_size (by repeat (first | (with_reducible first | exact HB.out | apply below_alloc | apply pw_below_drewN | apply below_drew1 | refine below_set ?_ GE101.out) | exact HB.out))) : w.heap.size ≤ gb110)); have n6_ := Aside0.mk ((by rw [hg]; exact Nat.ne_of_lt (blk_lt (g := gb101) (o := .cells #[.int .i64 a0_0, .slice (some ad108) l0_1.length c0_1] 28 (0, 0)) (by (with_reducible repeat (first | refine blk_drewN ?_ _ | refine blk_drew ?_ | refine blk_alloc ?_ _)); exact BK101.out)) : gb101 ≠ gb110)); have n7_ := Aside0.mk ((by rw [hg]; exact Nat.ne_of_gt (blk_lt (g := gb101) (o := .cells #[.int .i64 a0_0, .slice (some ad108) l0_1.length c0_1] 28 (0, 0)) (by (with_reducible repeat (first | refine blk_drewN ?_ _ | refine blk_drew ?_ | refine blk_alloc ?_ _)); exact BK101.out)) : gb110 ≠ gb101)); clear HO_5; clear BK101; clear HB; have HO_5 := n0_; have BK101 := n1_; have HB := n2_; have BK110 := n3_; have GW110 := n4_; have GE110 := n5_; have NB101_110 := n6_; have NB110_101 := n7_; clear n0_ n1_ n2_ n3_ n4_ n5_ n6_ n7_; clear hb hbox hg; have hnb40 := NB110_101.out; have hnc40 := NB101_110.out; have hcz41_0 : w39.cell? ⟨gb110, 0, none⟩ = some (.int .i64 0) := (blk_cell BK110.out 0).trans rfl; have hcz41_1 : w39.cell? ⟨gb110, 1, none⟩ = some (.int .i64 0) := (blk_cell BK110.out 1).trans rfl; have hfz41_0 := blk_frozen BK110.out 0; have hfz41_1 := blk_frozen BK110.out 1) | ((with_reducible refine gate_store (t := 82) (p := 10) rfl ?_); (try (rw [drewN_self w39]; generalize hq_ : World.drewN w39 _ = w39; have n0_ := Aside0.mk (Kd.R_at hq_ HO_5.out); have n1_ := Aside0.mk (blk_at hq_ BK101.out); have n2_ := Aside0.mk (blk_at hq_ BK110.out); have n3_ := Aside0.mk (below_at hq_ HB.out); clear hq_ HO_5 BK101 BK110 HB; have HO_5 := n0_; have BK101 := n1_; have BK110 := n2_; have HB := n3_; clear n0_ n1_ n2_ n3_)); refine store_event (t := 82) (p := 10) (v := ?vo_w42) (w1 := ((w39.setCell ⟨gb110, 0, none⟩ (.int .i64 ((rd_T82 (rd_L2 l0_1 x8_3) x9_4).f0))).setCell ⟨gb110, 1, none⟩ (.int .i64 ((rd_T82 (rd_L2 l0_1 x8_3) x9_4).f1)))) ?hg ?ho ?hn ?hr ?_; (case ho => rfl); (case hg => rfl); (case hn => rfl); (case hr => first | (go_simp; done) | (go_simp; rfl)); intro w42 hw; have n0_ : Aside0 (Kd.R Kd.bool 4 w42 w.heap.size (fun _ => True) (.slice Ao15 x5_4.length co15) x5_4) := ⟨(by rw [hw]; exact (by (with_reducible repeat (first | apply Kd.R_alloc | apply Kd.R_drewN | apply Kd.R_drew)); exact Kd.R_mono (Kd.R_far (p := ⟨gb110, 1, none⟩) (Kd.R_far (p := ⟨gb110, 0, none⟩) (Kd.R_types HO_5.out BK110.out (by decide)) (fun _ hk => hk.2) (.int .i64 ((rd_T82 (rd_L2 l0_1 x8_3) x9_4).f0))) (fun _ hk => hk.2) (.int .i64 ((rd_T82 (rd_L2 l0_1 x8_3) x9_4).f1))) (fun _ hk => trivial)))⟩; have n1_ : Aside0 (w42.heap[gb101]? = some (.cells #[.int .i64 a0_0, .slice (some ad108) l0_1.length c0_1] 28 (0, 0))) := ⟨(by rw [hw]; exact (by (with_reducible repeat (first | refine blk_drewN ?_ _ | refine blk_drew ?_ | refine blk_alloc ?_ _)); refine blk_far ?_ NB101_110.out _; (with_reducible repeat (first | refine blk_drewN ?_ _ | refine blk_drew ?_ | refine blk_alloc ?_ _)); refine blk_far ?_ NB101_110.out _; (with_reducible repeat (first | refine blk_drewN ?_ _ | refine blk_drew ?_ | refine blk_alloc ?_ _)); exact BK101.out))⟩; have n2_ : Aside0 (w42.heap[gb110]? = some (.cells #[.int .i64 ((rd_T82 (rd_L2 l0_1 x8_3) x9_4).f0), .int .i64 ((rd_T82 (rd_L2 l0_1 x8_3) x9_4).f1)] 82 (0, 0))) := ⟨(by rw [hw]; exact (by (with_reducible repeat (first | refine blk_drewN ?_ _ | refine blk_drew ?_ | refine blk_alloc ?_ _)); refine blk_put (cs := #[.int .i64 ((rd_T82 (rd_L2 l0_1 x8_3) x9_4).f0), .int .i64 0]) ?_ 1 _ rfl; (with_reducible repeat (first | refine blk_drewN ?_ _ | refine blk_drew ?_ | refine blk_alloc ?_ _)); refine blk_put (cs := #[.int .i64 0, .int .i64 0]) ?_ 0 _ rfl; (with_reducible repeat (first | refine blk_drewN ?_ _ | refine blk_drew ?_ | refine blk_alloc ?_ _)); exact BK110.out))⟩; have n3_ : Aside0 (Below w.heap.size w w42) := ⟨(by rw [hw]; exact (by repeat (first | (with_reducible first | exact HB.out | apply below_alloc | apply pw_below_drewN | apply below_drew1 | refine below_set ?_ GE101.out | refine below_set ?_ GE110.out) | exact HB.out)))⟩; clear hw; clear HO_5; clear BK101; clear BK110; clear HB; have HO_5 := n0_; have BK101 := n1_; have BK110 := n2_; have HB := n3_; clear n0_ n1_ n2_ n3_; have hcz43_0 : w42.cell? ⟨gb110, 0, none⟩ = some (.int .i64 ((rd_T82 (rd_L2 l0_1 x8_3) x9_4).f0)) := (blk_cell BK110.out 0).trans rfl; have hcz43_1 : w42.cell? ⟨gb110, 1, none⟩ = some (.int .i64 ((rd_T82 (rd_L2 l0_1 x8_3) x9_4).f1)) := (blk_cell BK110.out 1).trans rfl; have hfz43_0 := blk_frozen BK110.out 0; have hfz43_1 := blk_frozen BK110.out 1; have p111 : 0 ≤ (((rd_T82 (rd_L2 l0_1 x8_3) x9_4).f1) : Int) := of_decide_eq_true (by first | (with_reducible assumption) | assumption); have q111 : ((rd_T82 (rd_L2 l0_1 x8_3) x9_4).f1) < (x5_4.length : Int) := of_decide_eq_true (by first | (with_reducible assumption) | assumption); obtain ⟨ad111, e111, hx111_0⟩ := Kd.at_bool (Kd.R_reads' HO_5.out).2.2 ((rd_T82 (rd_L2 l0_1 x8_3) x9_4).f1) p111 q111; (try rw [← Nbq31.out] at hx111_0); cases e111; replace p111 := eq_true p111; replace q111 := eq_true q111; have p37 : 0 ≤ (((rd_T82 (rd_L2 l0_1 x8_3) x9_4).f1) : Int) := of_decide_eq_true (by first | (with_reducible assumption) | assumption); have q37 : (((rd_T82 (rd_L2 l0_1 x8_3) x9_4).f1) : Int) < ((x5_4.length : Int) : Int) := of_decide_eq_true (by first | (with_reducible assumption) | assumption); obtain ⟨go37, co37, eo37, gb37, gl37, cl37, HG37⟩ := Kd.R_form HO_5.out (by omega); (first | cases eo37 | (injection eo37 with ea_ en_ ec_; (first | subst ea_ | (injection ea_ with ea_; subst ea_)); subst ec_; clear en_)); have GB37 := Aside0.mk gb37; have GG37 := Aside0.mk HG37; clear gb37 gl37 HG37; (first | simp only [add_plain] at hx111_0 | skip); obtain ⟨hx37_0, hf37_0⟩ := Kd.R_celln false HO_5.out (((rd_T82 (rd_L2 l0_1 x8_3) x9_4).f1) : Int) p37 q37; replace p37 := eq_true p37; replace q37 := eq_true q37; obtain ⟨hy44_, hz44_⟩ := Kd.R_celln false HO_5.out (((rd_T82 (rd_L2 l0_1 x8_3) x9_4).f1) : Int) (of_decide_eq_true (by first | (with_reducible assumption) | assumption)) (of_decide_eq_true (by first | (with_reducible assumption) | assumption)); have HP44 := Kd.R_putg HO_5.out (((rd_T82 (rd_L2 l0_1 x8_3) x9_4).f1) : Int) true) | ((with_reducible refine gate_store (t := 4) (p := 68) rfl ?_); (try (rw [drewN_self w42]; generalize hq_ : World.drewN w42 _ = w42; have n0_ := Aside0.mk (Kd.R_at hq_ HO_5.out); have n1_ := Aside0.mk (blk_at hq_ BK101.out); have n2_ := Aside0.mk (blk_at hq_ BK110.out); have n3_ := Aside0.mk (below_at hq_ HB.out); clear hq_ HO_5 BK101 BK110 HB; have HO_5 := n0_; have BK101 := n1_; have BK110 := n2_; have HB := n3_; clear n0_ n1_ n2_ n3_; (try (obtain ⟨hy44_, hz44_⟩ := Kd.R_celln false HO_5.out (((rd_T82 (rd_L2 l0_1 x8_3) x9_4).f1) : Int) (of_decide_eq_true (by first | (with_reducible assumption) | assumption)) (of_decide_eq_true (by first | (with_reducible assumption) | assumption)))); (try (have HP44 := Kd.R_putg HO_5.out (((rd_T82 (rd_L2 l0_1 x8_3) x9_4).f1) : Int) true)))); refine store_event (t := 4) (p := 68) (v := ?vo_w45) (w1 := (w42.setCell ⟨go37, (((rd_T82 (rd_L2 l0_1 x8_3) x9_4).f1) : Int).toNat, none⟩ (.bool true))) ?hg ?ho ?hn ?hr ?_; (case ho => rfl); (case hg => rfl); (case hn => rfl); (case hr => first | (go_simp; done) | (go_simp; rfl)); intro w45 hw; have hg : w42.grownBy w45 (some go37) := (by rw [hw]; exact HP44.2); have hp_ : Kd.R Kd.bool 4 w45 w.heap.size (fun _ => True) (.slice (some ⟨go37, 0, none⟩) x5_4.length co15) y112 := (by rw [hw, Ny112.out]; exact HP44.1); clear HP44; have n0_ := Aside0.mk (hp_); have n1_ := Aside0.mk (blk_grown (g := gb101) (o := .cells #[.int .i64 a0_0, .slice (some ad108) l0_1.length c0_1] 28 (0, 0)) (by (with_reducible repeat (first | refine blk_drewN ?_ _ | refine blk_drew ?_ | refine blk_alloc ?_ _)); exact BK101.out) hg (Kd.R_ne HO_5.out BK101.out (by decide))); have n2_ := Aside0.mk (blk_grown (g := gb110) (o := .cells #[.int .i64 ((rd_T82 (rd_L2 l0_1 x8_3) x9_4).f0), .int .i64 ((rd_T82 (rd_L2 l0_1 x8_3) x9_4).f1)] 82 (0, 0)) (by (with_reducible repeat (first | refine blk_drewN ?_ _ | refine blk_drew ?_ | refine blk_alloc ?_ _)); exact BK110.out) hg (Kd.R_ne HO_5.out BK110.out (by decide))); have n3_ := Aside0.mk ((by rw [hw]; exact below_set (HB.out) GB37.out : Below w.heap.size w w45)); clear HO_5; clear BK101; clear BK110; clear HB; have HO_5 := n0_; have BK101 := n1_; have BK110 := n2_; have HB := n3_; clear n0_ n1_ n2_ n3_; clear hg hw hp_)); try go_wp2_with (first | ((with_reducible refine gate_dst (N := 10) rfl ?_); refine box_event ?hg (N := 10) ?hd (cs := #[.int .i64 0, .int .i64 0]) (t := 82) ?hr ?_; (case hd => rfl); (case hg => rfl); (case hr => first | (go_simp; done) | (go_simp; rfl)); intro gb110 hg w39 hbox hb; have n0_ := Aside0.mk (Kd.R_below (by (with_reducible repeat (first | apply Kd.R_alloc | apply Kd.R_drewN | apply Kd.R_drew)); exact HO_5.out) hb); have n1_ := Aside0.mk (blk_below (g := gb101) (o := .cells #[.int .i64 a0_0, .slice (some ad108) l0_1.length c0_1] 28 (0, 0)) (by (with_reducible repeat (first | refine blk_drewN ?_ _ | refine blk_drew ?_ | refine blk_alloc ?_ _)); exact BK101.out) hb); have n2_ := Aside0.mk (below_step (by repeat (first | (with_reducible first | exact HB.out | apply below_alloc | apply pw_below_drewN | apply below_drew1 | refine below_set ?_ GE101.out) | exact HB.out)) hb); have n3_ := Aside0.mk (hbox); have n4_ := Aside0.mk ((by rw [hg]; exact (below_size (by repeat (first | (with_reducible first | exact HB.out | apply below_alloc | apply pw_below_drewN | apply below_drew1 | refine below_set ?_ GE101.out) | exact HB.out))) : w.heap.size ≤ gb110)); have n5_ := Aside0.mk ((by rw [hg]; exact (below_size (by repeat (first | (with_reducible first | exact HB.out | apply below_alloc | apply pw_below_drewN | apply below_drew1 | refine below_set ?_ GE101.out) | exact HB.out))) : w.heap.size ≤ gb110)); have n6_ := Aside0.mk ((by rw [hg]; exact Nat.ne_of_lt (blk_lt (g := gb101) (o := .cells #[.int .i64 a0_0, .slice (some ad108) l0_1.length c0_1] 28 (0, 0)) (by (with_reducible repeat (first | refine blk_drewN ?_ _ | refine blk_drew ?_ | refine blk_alloc ?_ _)); exact BK101.out)) : gb101 ≠ gb110)); have n7_ := Aside0.mk ((by rw [hg]; exact Nat.ne_of_gt (blk_lt (g := gb101) (o := .cells #[.int .i64 a0_0, .slice (some ad108) l0_1.length c0_1] 28 (0, 0)) (by (with_reducible repeat (first | refine blk_drewN ?_ _ | refine blk_drew ?_ | refine blk_alloc ?_ _)); exact BK101.out)) : gb110 ≠ gb101)); clear HO_5; clear BK101; clear HB; have HO_5 := n0_; have BK101 := n1_; have HB := n2_; have BK110 := n3_; have GW110 := n4_; have GE110 := n5_; have NB101_110 := n6_; have NB110_101 := n7_; clear n0_ n1_ n2_ n3_ n4_ n5_ n6_ n7_; clear hb hbox hg; have hnb40 := NB110_101.out; have hnc40 := NB101_110.out; have hcz41_0 : w39.cell? ⟨gb110, 0, none⟩ = some (.int .i64 0) := (blk_cell BK110.out 0).trans rfl; have hcz41_1 : w39.cell? ⟨gb110, 1, none⟩ = some (.int .i64 0) := (blk_cell BK110.out 1).trans rfl; have hfz41_0 := blk_frozen BK110.out 0; have hfz41_1 := blk_frozen BK110.out 1) | ((with_reducible refine gate_store (t := 82) (p := 10) rfl ?_); (try (rw [drewN_self w39]; generalize hq_ : World.drewN w39 _ = w39; have n0_ := Aside0.mk (Kd.R_at hq_ HO_5.out); have n1_ := Aside0.mk (blk_at hq_ BK101.out); have n2_ := Aside0.mk (blk_at hq_ BK110.out); have n3_ := Aside0.mk (below_at hq_ HB.out); clear hq_ HO_5 BK101 BK110 HB; have HO_5 := n0_; have BK101 := n1_; have BK110 := n2_; have HB := n3_; clear n0_ n1_ n2_ n3_)); refine store_event (t := 82) (p := 10) (v := ?vo_w42) (w1 := ((w39.setCell ⟨gb110, 0, none⟩ (.int .i64 ((rd_T82 (rd_L2 l0_1 x8_3) x9_4).f0))).setCell ⟨gb110, 1, none⟩ (.int .i64 ((rd_T82 (rd_L2 l0_1 x8_3) x9_4).f1)))) ?hg ?ho ?hn ?hr ?_; (case ho => rfl); (case hg => rfl); (case hn => rfl); (case hr => first | (go_simp; done) | (go_simp; rfl)); intro w42 hw; have n0_ : Aside0 (Kd.R Kd.bool 4 w42 w.heap.size (fun _ => True) (.slice Ao15 x5_4.length co15) x5_4) := ⟨(by rw [hw]; exact (by (with_reducible repeat (first | apply Kd.R_alloc | apply Kd.R_drewN | apply Kd.R_drew)); exact Kd.R_mono (Kd.R_far (p := ⟨gb110, 1, none⟩) (Kd.R_far (p := ⟨gb110, 0, none⟩) (Kd.R_types HO_5.out BK110.out (by decide)) (fun _ hk => hk.2) (.int .i64 ((rd_T82 (rd_L2 l0_1 x8_3) x9_4).f0))) (fun _ hk => hk.2) (.int .i64 ((rd_T82 (rd_L2 l0_1 x8_3) x9_4).f1))) (fun _ hk => trivial)))⟩; have n1_ : Aside0 (w42.heap[gb101]? = some (.cells #[.int .i64 a0_0, .slice (some ad108) l0_1.length c0_1] 28 (0, 0))) := ⟨(by rw [hw]; exact (by (with_reducible repeat (first | refine blk_drewN ?_ _ | refine blk_drew ?_ | refine blk_alloc ?_ _)); refine blk_far ?_ NB101_110.out _; (with_reducible repeat (first | refine blk_drewN ?_ _ | refine blk_drew ?_ | refine blk_alloc ?_ _)); refine blk_far ?_ NB101_110.out _; (with_reducible repeat (first | refine blk_drewN ?_ _ | refine blk_drew ?_ | refine blk_alloc ?_ _)); exact BK101.out))⟩; have n2_ : Aside0 (w42.heap[gb110]? = some (.cells #[.int .i64 ((rd_T82 (rd_L2 l0_1 x8_3) x9_4).f0), .int .i64 ((rd_T82 (rd_L2 l0_1 x8_3) x9_4).f1)] 82 (0, 0))) := ⟨(by rw [hw]; exact (by (with_reducible repeat (first | refine blk_drewN ?_ _ | refine blk_drew ?_ | refine blk_alloc ?_ _)); refine blk_put (cs := #[.int .i64 ((rd_T82 (rd_L2 l0_1 x8_3) x9_4).f0), .int .i64 0]) ?_ 1 _ rfl; (with_reducible repeat (first | refine blk_drewN ?_ _ | refine blk_drew ?_ | refine blk_alloc ?_ _)); refine blk_put (cs := #[.int .i64 0, .int .i64 0]) ?_ 0 _ rfl; (with_reducible repeat (first | refine blk_drewN ?_ _ | refine blk_drew ?_ | refine blk_alloc ?_ _)); exact BK110.out))⟩; have n3_ : Aside0 (Below w.heap.size w w42) := ⟨(by rw [hw]; exact (by repeat (first | (with_reducible first | exact HB.out | apply below_alloc | apply pw_below_drewN | apply below_drew1 | refine below_set ?_ GE101.out | refine below_set ?_ GE110.out) | exact HB.out)))⟩; clear hw; clear HO_5; clear BK101; clear BK110; clear HB; have HO_5 := n0_; have BK101 := n1_; have BK110 := n2_; have HB := n3_; clear n0_ n1_ n2_ n3_; have hcz43_0 : w42.cell? ⟨gb110, 0, none⟩ = some (.int .i64 ((rd_T82 (rd_L2 l0_1 x8_3) x9_4).f0)) := (blk_cell BK110.out 0).trans rfl; have hcz43_1 : w42.cell? ⟨gb110, 1, none⟩ = some (.int .i64 ((rd_T82 (rd_L2 l0_1 x8_3) x9_4).f1)) := (blk_cell BK110.out 1).trans rfl; have hfz43_0 := blk_frozen BK110.out 0; have hfz43_1 := blk_frozen BK110.out 1; have p111 : 0 ≤ (((rd_T82 (rd_L2 l0_1 x8_3) x9_4).f1) : Int) := of_decide_eq_true (by first | (with_reducible assumption) | assumption); have q111 : ((rd_T82 (rd_L2 l0_1 x8_3) x9_4).f1) < (x5_4.length : Int) := of_decide_eq_true (by first | (with_reducible assumption) | assumption); obtain ⟨ad111, e111, hx111_0⟩ := Kd.at_bool (Kd.R_reads' HO_5.out).2.2 ((rd_T82 (rd_L2 l0_1 x8_3) x9_4).f1) p111 q111; (try rw [← Nbq31.out] at hx111_0); cases e111; replace p111 := eq_true p111; replace q111 := eq_true q111; have p37 : 0 ≤ (((rd_T82 (rd_L2 l0_1 x8_3) x9_4).f1) : Int) := of_decide_eq_true (by first | (with_reducible assumption) | assumption); have q37 : (((rd_T82 (rd_L2 l0_1 x8_3) x9_4).f1) : Int) < ((x5_4.length : Int) : Int) := of_decide_eq_true (by first | (with_reducible assumption) | assumption); obtain ⟨go37, co37, eo37, gb37, gl37, cl37, HG37⟩ := Kd.R_form HO_5.out (by omega); (first | cases eo37 | (injection eo37 with ea_ en_ ec_; (first | subst ea_ | (injection ea_ with ea_; subst ea_)); subst ec_; clear en_)); have GB37 := Aside0.mk gb37; have GG37 := Aside0.mk HG37; clear gb37 gl37 HG37; (first | simp only [add_plain] at hx111_0 | skip); obtain ⟨hx37_0, hf37_0⟩ := Kd.R_celln false HO_5.out (((rd_T82 (rd_L2 l0_1 x8_3) x9_4).f1) : Int) p37 q37; replace p37 := eq_true p37; replace q37 := eq_true q37; obtain ⟨hy44_, hz44_⟩ := Kd.R_celln false HO_5.out (((rd_T82 (rd_L2 l0_1 x8_3) x9_4).f1) : Int) (of_decide_eq_true (by first | (with_reducible assumption) | assumption)) (of_decide_eq_true (by first | (with_reducible assumption) | assumption)); have HP44 := Kd.R_putg HO_5.out (((rd_T82 (rd_L2 l0_1 x8_3) x9_4).f1) : Int) true) | ((with_reducible refine gate_store (t := 4) (p := 68) rfl ?_); (try (rw [drewN_self w42]; generalize hq_ : World.drewN w42 _ = w42; have n0_ := Aside0.mk (Kd.R_at hq_ HO_5.out); have n1_ := Aside0.mk (blk_at hq_ BK101.out); have n2_ := Aside0.mk (blk_at hq_ BK110.out); have n3_ := Aside0.mk (below_at hq_ HB.out); clear hq_ HO_5 BK101 BK110 HB; have HO_5 := n0_; have BK101 := n1_; have BK110 := n2_; have HB := n3_; clear n0_ n1_ n2_ n3_; (try (obtain ⟨hy44_, hz44_⟩ := Kd.R_celln false HO_5.out (((rd_T82 (rd_L2 l0_1 x8_3) x9_4).f1) : Int) (of_decide_eq_true (by first | (with_reducible assumption) | assumption)) (of_decide_eq_true (by first | (with_reducible assumption) | assumption)))); (try (have HP44 := Kd.R_putg HO_5.out (((rd_T82 (rd_L2 l0_1 x8_3) x9_4).f1) : Int) true)))); refine store_event (t := 4) (p := 68) (v := ?vo_w45) (w1 := (w42.setCell ⟨go37, (((rd_T82 (rd_L2 l0_1 x8_3) x9_4).f1) : Int).toNat, none⟩ (.bool true))) ?hg ?ho ?hn ?hr ?_; (case ho => rfl); (case hg => rfl); (case hn => rfl); (case hr => first | (go_simp; done) | (go_simp; rfl)); intro w45 hw; have hg : w42.grownBy w45 (some go37) := (by rw [hw]; exact HP44.2); have hp_ : Kd.R Kd.bool 4 w45 w.heap.size (fun _ => True) (.slice (some ⟨go37, 0, none⟩) x5_4.length co15) y112 := (by rw [hw, Ny112.out]; exact HP44.1); clear HP44; have n0_ := Aside0.mk (hp_); have n1_ := Aside0.mk (blk_grown (g := gb101) (o := .cells #[.int .i64 a0_0, .slice (some ad108) l0_1.length c0_1] 28 (0, 0)) (by (with_reducible repeat (first | refine blk_drewN ?_ _ | refine blk_drew ?_ | refine blk_alloc ?_ _)); exact BK101.out) hg (Kd.R_ne HO_5.out BK101.out (by decide))); have n2_ := Aside0.mk (blk_grown (g := gb110) (o := .cells #[.int .i64 ((rd_T82 (rd_L2 l0_1 x8_3) x9_4).f0), .int .i64 ((rd_T82 (rd_L2 l0_1 x8_3) x9_4).f1)] 82 (0, 0)) (by (with_reducible repeat (first | refine blk_drewN ?_ _ | refine blk_drew ?_ | refine blk_alloc ?_ _)); exact BK110.out) hg (Kd.R_ne HO_5.out BK110.out (by decide))); have n3_ := Aside0.mk ((by rw [hw]; exact below_set (HB.out) GB37.out : Below w.heap.size w w45)); clear HO_5; clear BK101; clear BK110; clear HB; have HO_5 := n0_; have BK101 := n1_; have BK110 := n2_; have HB := n3_; clear n0_ n1_ n2_ n3_; clear hg hw hp_)))
                                                  (try simp only [← hl5_4])
                                                  go_roundg kj15
                                                  case measure => have := HK1.out; have := HK2.out; have := HK3.out; have := HK4.out; have := HJ15.out; omega
                                                  case rel => exact ⟨(y112), (true), (wrap64 (x9_4 + 1)), (by first | rfl | (simp; done) | (simp [*]; done)), (by first | rfl | (simp; done) | (simp [*]; done)), H', ⟨by have := HK1.out; have := HK2.out; have := HK3.out; have := HK4.out; have := HJ15.out; omega⟩, ⟨by (try simp only [hl5_4]); (with_reducible repeat (first | apply Kd.R_alloc | apply Kd.R_drewN | apply Kd.R_drew)); exact HO_5.out⟩, ⟨by (try simp only [hl5_4]); (with_reducible repeat (first | refine blk_drewN ?_ _ | refine blk_drew ?_ | refine blk_alloc ?_ _)); exact BK101.out⟩, ⟨by repeat (first | (with_reducible first | exact HB.out | apply below_alloc | apply pw_below_drewN | apply below_drew1 | refine below_set ?_ GE101.out | refine below_set ?_ GE110.out) | exact HB.out)⟩⟩
                                              · rw [if_neg c30] at H
                                                exact absurd H (by simp)
                                            · rw [if_neg c29] at H
                                              exact absurd H (by simp)
                                          · rw [if_neg c28] at H
                                            have c28b0 : (((rd_T82 (rd_L2 l0_1 x8_3) x9_4).f0) == (-1)) = false := beq_eq_false_iff_ne.mpr c28
                                            have c28b1 : (((rd_T82 (rd_L2 l0_1 x8_3) x9_4).f0) != (-1)) = true := bne_iff_ne.mpr c28
                                            have H' := Aside0.mk H
                                            clear H
                                            have hcz46_0 : wc.cell? ⟨gb101, 0, none⟩ = some (.int .i64 a0_0) := (blk_cell BK101.out 0).trans rfl
                                            have hcz46_1 : wc.cell? ⟨gb101, 1, none⟩ = some (.slice A0_1 l0_1.length c0_1) := (blk_cell BK101.out 1).trans rfl
                                            have hfz46_0 := blk_frozen BK101.out 0
                                            have hfz46_1 := blk_frozen BK101.out 1
                                            have p108 : 0 ≤ (x8_3 : Int) := of_decide_eq_true (by first | (with_reducible assumption) | assumption)
                                            have q108 : x8_3 < (l0_1.length : Int) := of_decide_eq_true (by first | (with_reducible assumption) | assumption)
                                            obtain ⟨ad108, A108_0, c108_0, e108, hx108_0, hl108_0, hi108_0⟩ := at_L2 HR0_1.out x8_3 p108 q108
                                            cases e108
                                            replace hx108_0 := (HB.out.cell (World.block_lt_of_cell? w _ hx108_0)).trans hx108_0
                                            have HR108_0 := Aside0.mk hi108_0
                                            have HC108_0 := Aside0.mk hl108_0
                                            clear hi108_0 hl108_0
                                            replace p108 := eq_true p108
                                            replace q108 := eq_true q108
                                            have p109 : 0 ≤ (x9_4 : Int) := of_decide_eq_true (by first | (with_reducible assumption) | assumption)
                                            have q109 : x9_4 < ((rd_L2 l0_1 x8_3).length : Int) := of_decide_eq_true (by first | (with_reducible assumption) | assumption)
                                            obtain ⟨ad109, e109, hx109_0, hx109_1⟩ := at_T82 HR108_0.out x9_4 p109 q109
                                            cases e109
                                            replace hx109_0 := (HB.out.cell (World.block_lt_of_cell? w _ hx109_0)).trans hx109_0
                                            replace hx109_1 := (HB.out.cell (World.block_lt_of_cell? w _ hx109_1)).trans hx109_1
                                            replace p109 := eq_true p109
                                            replace q109 := eq_true q109
                                            go_wp2_with (first | ((with_reducible refine gate_dst (N := 10) rfl ?_); refine box_event ?hg (N := 10) ?hd (cs := #[.int .i64 0, .int .i64 0]) (t := 82) ?hr ?_; (case hd => rfl); (case hg => rfl); (case hr => first | (go_simp; done) | (go_simp; rfl)); intro gb110 hg w47 hbox hb; have n0_ := Aside0.mk (Kd.R_below (by (with_reducible repeat (first | apply Kd.R_alloc | apply Kd.R_drewN | apply Kd.R_drew)); exact HO_5.out) hb); have n1_ := Aside0.mk (blk_below (g := gb101) (o := .cells #[.int .i64 a0_0, .slice (some ad108) l0_1.length c0_1] 28 (0, 0)) (by (with_reducible repeat (first | refine blk_drewN ?_ _ | refine blk_drew ?_ | refine blk_alloc ?_ _)); exact BK101.out) hb); have n2_ := Aside0.mk (below_step (by repeat (first | (with_reducible first | exact HB.out | apply below_alloc | apply pw_below_drewN | apply below_drew1 | refine below_set ?_ GE101.out) | exact HB.out)) hb); have n3_ := Aside0.mk (hbox); have n4_ := Aside0.mk ((by rw [hg]; exact (below_size (by repeat (first | (with_reducible first | exact HB.out | apply below_alloc | apply pw_below_drewN | apply below_drew1 | refine below_set ?_ GE101.out) | exact HB.out))) : w.heap.size ≤ gb110)); have n5_ := Aside0.mk ((by rw [hg]; exact (below_size (by repeat (first | (with_reducible first | exact HB.out | apply below_alloc | apply pw_below_drewN | apply below_drew1 | refine below_set ?_ GE101.out) | exact HB.out))) : w.heap.size ≤ gb110)); have n6_ := Aside0.mk ((by rw [hg]; exact Nat.ne_of_lt (blk_lt (g := gb101) (o := .cells #[.int .i64 a0_0, .slice (some ad108) l0_1.length c0_1] 28 (0, 0)) (by (with_reducible repeat (first | refine blk_drewN ?_ _ | refine blk_drew ?_ | refine blk_alloc ?_ _)); exact BK101.out)) : gb101 ≠ gb110)); have n7_ := Aside0.mk ((by rw [hg]; exact Nat.ne_of_gt (blk_lt (g := gb101) (o := .cells #[.int .i64 a0_0, .slice (some ad108) l0_1.length c0_1] 28 (0, 0)) (by (with_reducible repeat (first | refine blk_drewN ?_ _ | refine blk_drew ?_ | refine blk_alloc ?_ _)); exact BK101.out)) : gb110 ≠ gb101)); clear HO_5; clear BK101; clear HB; have HO_5 := n0_; have BK101 := n1_; have HB := n2_; have BK110 := n3_; have GW110 := n4_; have GE110 := n5_; have NB101_110 := n6_; have NB110_101 := n7_; clear n0_ n1_ n2_ n3_ n4_ n5_ n6_ n7_; clear hb hbox hg; have hnb48 := NB110_101.out; have hnc48 := NB101_110.out; have hcz49_0 : w47.cell? ⟨gb110, 0, none⟩ = some (.int .i64 0) := (blk_cell BK110.out 0).trans rfl; have hcz49_1 : w47.cell? ⟨gb110, 1, none⟩ = some (.int .i64 0) := (blk_cell BK110.out 1).trans rfl; have hfz49_0 := blk_frozen BK110.out 0; have hfz49_1 := blk_frozen BK110.out 1))
                                            repeat (go_quiet (first | ((with_reducible refine gate_dst (N := 10) rfl ?_); refine box_event ?hg (N := 10) ?hd (cs := #[.int .i64 0, .int .i64 0]) (t := 82) ?hr ?_; (case hd => rfl); (case hg => rfl); (case hr => first | (go_simp; done) | (go_simp; rfl)); intro gb110 hg w47 hbox hb; have n0_ := Aside0.mk (Kd.R_below (by (with_reducible repeat (first | apply Kd.R_alloc | apply Kd.R_drewN | apply Kd.R_drew)); exact HO_5.out) hb); have n1_ := Aside0.mk (blk_below (g := gb101) (o := .cells #[.int .i64 a0_0, .slice (some ad108) l0_1.length c0_1] 28 (0, 0)) (by (with_reducible repeat (first | refine blk_drewN ?_ _ | refine blk_drew ?_ | refine blk_alloc ?_ _)); exact BK101.out) hb); have n2_ := Aside0.mk (below_step (by repeat (first | (with_reducible first | exact HB.out | apply below_alloc | apply pw_below_drewN | apply below_drew1 | refine below_set ?_ GE101.out) | exact HB.out)) hb); have n3_ := Aside0.mk (hbox); have n4_ := Aside0.mk ((by rw [hg]; exact (below_size (by repeat (first | (with_reducible first | exact HB.out | apply below_alloc | apply pw_below_drewN | apply below_drew1 | refine below_set ?_ GE101.out) | exact HB.out))) : w.heap.size ≤ gb110)); have n5_ := Aside0.mk ((by rw [hg]; exact (below_size (by repeat (first | (with_reducible first | exact HB.out | apply below_alloc | apply pw_below_drewN | apply below_drew1 | refine below_set ?_ GE101.out) | exact HB.out))) : w.heap.size ≤ gb110)); have n6_ := Aside0.mk ((by rw [hg]; exact Nat.ne_of_lt (blk_lt (g := gb101) (o := .cells #[.int .i64 a0_0, .slice (some ad108) l0_1.length c0_1] 28 (0, 0)) (by (with_reducible repeat (first | refine blk_drewN ?_ _ | refine blk_drew ?_ | refine blk_alloc ?_ _)); exact BK101.out)) : gb101 ≠ gb110)); have n7_ := Aside0.mk ((by rw [hg]; exact Nat.ne_of_gt (blk_lt (g := gb101) (o := .cells #[.int .i64 a0_0, .slice (some ad108) l0_1.length c0_1] 28 (0, 0)) (by (with_reducible repeat (first | refine blk_drewN ?_ _ | refine blk_drew ?_ | refine blk_alloc ?_ _)); exact BK101.out)) : gb110 ≠ gb101)); clear HO_5; clear BK101; clear HB; have HO_5 := n0_; have BK101 := n1_; have HB := n2_; have BK110 := n3_; have GW110 := n4_; have GE110 := n5_; have NB101_110 := n6_; have NB110_101 := n7_; clear n0_ n1_ n2_ n3_ n4_ n5_ n6_ n7_; clear hb hbox hg; have hnb48 := NB110_101.out; have hnc48 := NB101_110.out; have hcz49_0 : w47.cell? ⟨gb110, 0, none⟩ = some (.int .i64 0) := (blk_cell BK110.out 0).trans rfl; have hcz49_1 : w47.cell? ⟨gb110, 1, none⟩ = some (.int .i64 0) := (blk_cell BK110.out 1).trans rfl; have hfz49_0 := blk_frozen BK110.out 0; have hfz49_1 := blk_frozen BK110.out 1)); try go_wp2_with (first | ((with_reducible refine gate_dst (N := 10) rfl ?_); refine box_event ?hg (N := 10) ?hd (cs := #[.int .i64 0, .int .i64 0]) (t := 82) ?hr ?_; (case hd => rfl); (case hg => rfl); (case hr => first | (go_simp; done) | (go_simp; rfl)); intro gb110 hg w47 hbox hb; have n0_ := Aside0.mk (Kd.R_below (by (with_reducible repeat (first | apply Kd.R_alloc | apply Kd.R_drewN | apply Kd.R_drew)); exact HO_5.out) hb); have n1_ := Aside0.mk (blk_below (g := gb101) (o := .cells #[.int .i64 a0_0, .slice (some ad108) l0_1.length c0_1] 28 (0, 0)) (by (with_reducible repeat (first | refine blk_drewN ?_ _ | refine blk_drew ?_ | refine blk_alloc ?_ _)); exact BK101.out) hb); have n2_ := Aside0.mk (below_step (by repeat (first | (with_reducible first | exact HB.out | apply below_alloc | apply pw_below_drewN | apply below_drew1 | refine below_set ?_ GE101.out) | exact HB.out)) hb); have n3_ := Aside0.mk (hbox); have n4_ := Aside0.mk ((by rw [hg]; exact (below_size (by repeat (first | (with_reducible first | exact HB.out | apply below_alloc | apply pw_below_drewN | apply below_drew1 | refine below_set ?_ GE101.out) | exact HB.out))) : w.heap.size ≤ gb110)); have n5_ := Aside0.mk ((by rw [hg]; exact (below_size (by repeat (first | (with_reducible first | exact HB.out | apply below_alloc | apply pw_below_drewN | apply below_drew1 | refine below_set ?_ GE101.out) | exact HB.out))) : w.heap.size ≤ gb110)); have n6_ := Aside0.mk ((by rw [hg]; exact Nat.ne_of_lt (blk_lt (g := gb101) (o := .cells #[.int .i64 a0_0, .slice (some ad108) l0_1.length c0_1] 28 (0, 0)) (by (with_reducible repeat (first | refine blk_drewN ?_ _ | refine blk_drew ?_ | refine blk_alloc ?_ _)); exact BK101.out)) : gb101 ≠ gb110)); have n7_ := Aside0.mk ((by rw [hg]; exact Nat.ne_of_gt (blk_lt (g := gb101) (o := .cells #[.int .i64 a0_0, .slice (some ad108) l0_1.length c0_1] 28 (0, 0)) (by (with_reducible repeat (first | refine blk_drewN ?_ _ | refine blk_drew ?_ | refine blk_alloc ?_ _)); exact BK101.out)) : gb110 ≠ gb101)); clear HO_5; clear BK101; clear HB; have HO_5 := n0_; have BK101 := n1_; have HB := n2_; have BK110 := n3_; have GW110 := n4_; have GE110 := n5_; have NB101_110 := n6_; have NB110_101 := n7_; clear n0_ n1_ n2_ n3_ n4_ n5_ n6_ n7_; clear hb hbox hg; have hnb48 := NB110_101.out; have hnc48 := NB101_110.out; have hcz49_0 : w47.cell? ⟨gb110, 0, none⟩ = some (.int .i64 0) := (blk_cell BK110.out 0).trans rfl; have hcz49_1 : w47.cell? ⟨gb110, 1, none⟩ = some (.int .i64 0) := (blk_cell BK110.out 1).trans rfl; have hfz49_0 := blk_frozen BK110.out 0; have hfz49_1 := blk_frozen BK110.out 1)))
                                            (try simp only [← hl5_4])
                                            go_roundg kj15
                                            case measure => have := HK1.out; have := HK2.out; have := HK3.out; have := HK4.out; have := HJ15.out; omega
                                            case rel => exact ⟨(x5_4), (x7_4), (wrap64 (x9_4 + 1)), (by first | rfl | (simp; done) | (simp [*]; done)), (by first | rfl | (simp; done) | (simp [*]; done)), H', ⟨by have := HK1.out; have := HK2.out; have := HK3.out; have := HK4.out; have := HJ15.out; omega⟩, ⟨by (try simp only [hl5_4]); (with_reducible repeat (first | apply Kd.R_alloc | apply Kd.R_drewN | apply Kd.R_drew)); exact Kd.R_mono (Kd.R_far (p := ⟨gb110, 1, none⟩) (Kd.R_far (p := ⟨gb110, 0, none⟩) (Kd.R_types HO_5.out BK110.out (by decide)) (fun _ hk => hk.2) (.int .i64 ((rd_T82 (rd_L2 l0_1 x8_3) x9_4).f0))) (fun _ hk => hk.2) (.int .i64 ((rd_T82 (rd_L2 l0_1 x8_3) x9_4).f1))) (fun _ hk => trivial)⟩, ⟨by (try simp only [hl5_4]); (with_reducible repeat (first | refine blk_drewN ?_ _ | refine blk_drew ?_ | refine blk_alloc ?_ _)); refine blk_far ?_ NB101_110.out _; (with_reducible repeat (first | refine blk_drewN ?_ _ | refine blk_drew ?_ | refine blk_alloc ?_ _)); refine blk_far ?_ NB101_110.out _; (with_reducible repeat (first | refine blk_drewN ?_ _ | refine blk_drew ?_ | refine blk_alloc ?_ _)); exact BK101.out⟩, ⟨by repeat (first | (with_reducible first | exact HB.out | apply below_alloc | apply pw_below_drewN | apply below_drew1 | refine below_set ?_ GE101.out | refine below_set ?_ GE110.out) | exact HB.out)⟩⟩
                                        · rw [if_neg c27] at H
                                          exact absurd H (by simp)
                                      · rw [if_neg c26] at H
                                        exact absurd H (by simp)
                                    · rw [if_neg c25] at H
                                      exact absurd H (by simp)
                                  · rw [if_neg c24] at H
                                    exact absurd H (by simp)
                                · replace c23 := Bool.eq_false_iff.mpr c23
                                  subst c23
                                  have H1 : (caesuralaw19_goes.l2 kj15 l1 x5_4 x6_1 x7_4 (wrap64 (x8_3 + 1)) a0_0 l0_1) = some r := by rw [if_neg (show ¬ (false = true) by decide)] at H; exact H
                                  clear H
                                  have H := H1
                                  clear H1
                                  have H' := Aside0.mk H
                                  clear H
                                  go_wp2
                                  repeat (go_quiet (fail); try go_wp2)
                                  (try simp only [← hl5_4])
                                  go_roundg kj15
                                  case measure => have := HK1.out; have := HK2.out; have := HK3.out; have := HK4.out; have := HJ15.out; omega
                                  case rel => exact ⟨(x5_4), (x7_4), (wrap64 (x8_3 + 1)), (by first | rfl | (simp; done) | (simp [*]; done)), (by first | rfl | (simp; done) | (simp [*]; done)), H', ⟨by have := HK1.out; have := HK2.out; have := HK3.out; have := HK4.out; have := HJ15.out; omega⟩, ⟨by (try simp only [hl5_4]); (with_reducible repeat (first | apply Kd.R_alloc | apply Kd.R_drewN | apply Kd.R_drew)); exact HO_5.out⟩, ⟨by (try simp only [hl5_4]); (with_reducible repeat (first | refine blk_drewN ?_ _ | refine blk_drew ?_ | refine blk_alloc ?_ _)); exact BK101.out⟩, ⟨by repeat (first | (with_reducible first | exact HB.out | apply below_alloc | apply pw_below_drewN | apply below_drew1 | refine below_set ?_ GE101.out) | exact HB.out)⟩⟩
                      · rw [if_neg c14] at H
                        have c14b0 : decide (x8_3 < (x5_3.length : Int)) = false := decide_eq_false c14
                        clear c14
                        have H' := Aside0.mk H
                        clear H
                        obtain ⟨Ao50, co50, eo50⟩ := Kd.R_slice HO_5.out
                        subst eo50
                        go_wp2
                        repeat (go_quiet (fail); try go_wp2)
                        go_roundg k3
                        case measure => have := HK1.out; have := HK2.out; have := HK3.out; omega
                        case rel => exact ⟨(x5_3), (x7_3), (by first | rfl | (simp; done) | (simp [*]; done)), H', ⟨by have := HK1.out; have := HK2.out; have := HK3.out; omega⟩, ⟨by (with_reducible repeat (first | apply Kd.R_alloc | apply Kd.R_drewN | apply Kd.R_drew)); exact HO_5.out⟩, ⟨by (with_reducible repeat (first | refine blk_drewN ?_ _ | refine blk_drew ?_ | refine blk_alloc ?_ _)); exact BK101.out⟩, ⟨by repeat (first | (with_reducible first | exact HB.out | apply below_alloc | apply pw_below_drewN | apply below_drew1 | refine below_set ?_ GE101.out) | exact HB.out)⟩⟩
                · replace c13 := Bool.eq_false_iff.mpr c13
                  subst c13
                  have H1 : (if x6_1 = (l1.length : Int) then (if 1 < (x5_2.length : Int) then (some (rdOf false x5_2 1)) else (none)) else (if 0 ≤ (x5_2.length : Int) then (if ((x5_2.length : Int) : Int).toNat ≤ 281474976710656 then (caesuralaw19_goes.l4 k2 l1 x5_2 x6_1 (List.replicate ((x5_2.length : Int) : Int).toNat false) 0 a0_0 l0_1) else (none)) else (none))) = some r := by rw [if_neg (show ¬ (false = true) by decide)] at H; exact H
                  clear H
                  have H := H1
                  clear H1
                  by_cases c51 : x6_1 = (l1.length : Int)
                  · rw [if_pos c51] at H
                    have c51b0 : (x6_1 == (l1.length : Int)) = true := beq_iff_eq.mpr c51
                    have c51b1 : (x6_1 != (l1.length : Int)) = false := bne_eq_false_iff_eq.mpr c51
                    clear c51
                    by_cases c52 : 1 < (x5_2.length : Int)
                    · rw [if_pos c52] at H
                      have c52b0 : decide (1 < (x5_2.length : Int)) = true := decide_eq_true c52
                      have c52b1 : decide (1 < x5_2.length) = true := decide_eq_true (by omega)
                      clear c52
                      obtain rfl := Option.some.inj H
                      obtain ⟨Ao53, co53, eo53⟩ := Kd.R_slice HO_5.out
                      subst eo53
                      have p113 : 0 ≤ (1 : Int) := (by omega)
                      have q113 : 1 < (x5_2.length : Int) := of_decide_eq_true (by first | (with_reducible assumption) | assumption)
                      obtain ⟨ad113, e113, hx113_0⟩ := Kd.at_bool (Kd.R_reads' HO_5.out).2.2 1 p113 q113
                      cases e113
                      (try simp only [show (1 : Int).toNat = 1 from rfl, Nat.reduceMul, Nat.reduceEqDiff, Go.Addr.add, ↓reduceIte] at hx113_0)
                      have qi113 : (1 < x5_2.length) = True := eq_true (by omega)
                      (try rw [show ((1 : Int)).toNat = 1 from rfl] at hx113_0)
                      replace p113 := eq_true p113
                      replace q113 := eq_true q113
                      go_wp2
                      repeat (go_quiet (fail); try go_wp2)
                      go_ret
                      exact ⟨by first | rfl | (simp [errW_none, errW_some] <;> rfl) | (simp [*, errW_none, errW_some] <;> rfl), by repeat (first | (with_reducible first | exact HB.out | apply below_alloc | apply pw_below_drewN | apply below_drew1 | refine below_set ?_ GE101.out) | exact HB.out)⟩
                    · rw [if_neg c52] at H
                      exact absurd H (by simp)
                  · rw [if_neg c51] at H
                    have c51b0 : (x6_1 == (l1.length : Int)) = false := beq_eq_false_iff_ne.mpr c51
                    have c51b1 : (x6_1 != (l1.length : Int)) = true := bne_iff_ne.mpr c51
                    by_cases c54 : 0 ≤ (x5_2.length : Int)
                    · rw [if_pos c54] at H
                      have c54b0 := eq_true c54
                      have c54b1 : decide (0 ≤ (x5_2.length : Int)) = true := decide_eq_true c54
                      clear c54
                      by_cases c55 : ((x5_2.length : Int) : Int).toNat ≤ 281474976710656
                      · rw [if_pos c55] at H
                        have c55b0 := eq_true c55
                        have c55b1 : decide (((x5_2.length : Int) : Int).toNat ≤ 281474976710656) = true := decide_eq_true c55
                        clear c55
                        obtain ⟨y114, hy114⟩ : ∃ y_ : List Bool, y_ = (List.replicate ((x5_2.length : Int) : Int).toNat false) := ⟨_, rfl⟩
                        replace H : (caesuralaw19_goes.l4 k2 l1 x5_2 x6_1 y114 0 a0_0 l0_1) = some r := by first | (rw [hy114]; with_reducible exact H) | (have H2_ := (Option.bind_some _ _).symm.trans H; rw [hy114]; with_reducible exact H2_) | (have H2_ := (Option.bind_some _ _).symm.trans H; with_reducible exact H2_) | with_reducible exact H | (rw [hy114]; exact H) | exact H
                        have Ny114 := Aside0.mk hy114
                        clear hy114
                        have H' := Aside0.mk H
                        clear H
                        obtain ⟨Ao56, co56, eo56⟩ := Kd.R_slice HO_5.out
                        subst eo56
                        go_wp2_with (first | ((with_reducible refine gate_dst (N := 78) rfl ?_); refine Kd.R_make Kd.bool _ 4 rfl (N := 78) rfl 23 _ _ rfl (x5_2.length : Int) rfl rfl Try.underlying23 (.bool false) 1 info4 rfl (by decide) (by omega) false (ok := fun _ => True) (okp := fun _ => True) rfl (fun _ hk => hk) trivial (of_decide_eq_true (by first | (with_reducible assumption) | assumption)) (Nat.le_trans (Nat.mul_le_mul_right _ (of_decide_eq_true (by first | (with_reducible assumption) | assumption) : (x5_2.length : Int).toNat ≤ 281474976710656)) (by omega)) (Below.refl _ _) (Nat.le_refl _) ?_; intro v115 w57 ho58 hb hg_ hnew_; clear hg_ hnew_; (first | rw [← Ny114.out] at ho58 | (simp only [Int.reduceToNat] at ho58; rw [← Ny114.out] at ho58)); have n0_ := Aside0.mk (Kd.R_elder' (by (with_reducible repeat (first | apply Kd.R_alloc | apply Kd.R_drewN | apply Kd.R_drew)); exact HO_5.out) (Kd.R_base ho58) hb); have n1_ := Aside0.mk (Kd.R_lower (Kd.R_new' ho58 (Kd.R_lt (by (with_reducible repeat (first | apply Kd.R_alloc | apply Kd.R_drewN | apply Kd.R_drew)); exact HO_5.out))) (below_size (by repeat (first | (with_reducible first | exact HB.out | apply below_alloc | apply pw_below_drewN | apply below_drew1 | refine below_set ?_ GE101.out) | exact HB.out)))); have n2_ := Aside0.mk (blk_below (g := gb101) (o := .cells #[.int .i64 a0_0, .slice A0_1 l0_1.length c0_1] 28 (0, 0)) (by (with_reducible repeat (first | refine blk_drewN ?_ _ | refine blk_drew ?_ | refine blk_alloc ?_ _)); exact BK101.out) hb); have n3_ := Aside0.mk (below_step (by repeat (first | (with_reducible first | exact HB.out | apply below_alloc | apply pw_below_drewN | apply below_drew1 | refine below_set ?_ GE101.out) | exact HB.out)) hb); clear HO_5; clear BK101; clear HB; have HO_5 := n0_; have HO116 := n1_; have BK101 := n2_; have HB := n3_; clear n0_ n1_ n2_ n3_; clear hb ho58))
                        repeat (go_quiet (first | ((with_reducible refine gate_dst (N := 78) rfl ?_); refine Kd.R_make Kd.bool _ 4 rfl (N := 78) rfl 23 _ _ rfl (x5_2.length : Int) rfl rfl Try.underlying23 (.bool false) 1 info4 rfl (by decide) (by omega) false (ok := fun _ => True) (okp := fun _ => True) rfl (fun _ hk => hk) trivial (of_decide_eq_true (by first | (with_reducible assumption) | assumption)) (Nat.le_trans (Nat.mul_le_mul_right _ (of_decide_eq_true (by first | (with_reducible assumption) | assumption) : (x5_2.length : Int).toNat ≤ 281474976710656)) (by omega)) (Below.refl _ _) (Nat.le_refl _) ?_; intro v115 w57 ho58 hb hg_ hnew_; clear hg_ hnew_; (first | rw [← Ny114.out] at ho58 | (simp only [Int.reduceToNat] at ho58; rw [← Ny114.out] at ho58)); have n0_ := Aside0.mk (Kd.R_elder' (by (with_reducible repeat (first | apply Kd.R_alloc | apply Kd.R_drewN | apply Kd.R_drew)); exact HO_5.out) (Kd.R_base ho58) hb); have n1_ := Aside0.mk (Kd.R_lower (Kd.R_new' ho58 (Kd.R_lt (by (with_reducible repeat (first | apply Kd.R_alloc | apply Kd.R_drewN | apply Kd.R_drew)); exact HO_5.out))) (below_size (by repeat (first | (with_reducible first | exact HB.out | apply below_alloc | apply pw_below_drewN | apply below_drew1 | refine below_set ?_ GE101.out) | exact HB.out)))); have n2_ := Aside0.mk (blk_below (g := gb101) (o := .cells #[.int .i64 a0_0, .slice A0_1 l0_1.length c0_1] 28 (0, 0)) (by (with_reducible repeat (first | refine blk_drewN ?_ _ | refine blk_drew ?_ | refine blk_alloc ?_ _)); exact BK101.out) hb); have n3_ := Aside0.mk (below_step (by repeat (first | (with_reducible first | exact HB.out | apply below_alloc | apply pw_below_drewN | apply below_drew1 | refine below_set ?_ GE101.out) | exact HB.out)) hb); clear HO_5; clear BK101; clear HB; have HO_5 := n0_; have HO116 := n1_; have BK101 := n2_; have HB := n3_; clear n0_ n1_ n2_ n3_; clear hb ho58)); try go_wp2_with (first | ((with_reducible refine gate_dst (N := 78) rfl ?_); refine Kd.R_make Kd.bool _ 4 rfl (N := 78) rfl 23 _ _ rfl (x5_2.length : Int) rfl rfl Try.underlying23 (.bool false) 1 info4 rfl (by decide) (by omega) false (ok := fun _ => True) (okp := fun _ => True) rfl (fun _ hk => hk) trivial (of_decide_eq_true (by first | (with_reducible assumption) | assumption)) (Nat.le_trans (Nat.mul_le_mul_right _ (of_decide_eq_true (by first | (with_reducible assumption) | assumption) : (x5_2.length : Int).toNat ≤ 281474976710656)) (by omega)) (Below.refl _ _) (Nat.le_refl _) ?_; intro v115 w57 ho58 hb hg_ hnew_; clear hg_ hnew_; (first | rw [← Ny114.out] at ho58 | (simp only [Int.reduceToNat] at ho58; rw [← Ny114.out] at ho58)); have n0_ := Aside0.mk (Kd.R_elder' (by (with_reducible repeat (first | apply Kd.R_alloc | apply Kd.R_drewN | apply Kd.R_drew)); exact HO_5.out) (Kd.R_base ho58) hb); have n1_ := Aside0.mk (Kd.R_lower (Kd.R_new' ho58 (Kd.R_lt (by (with_reducible repeat (first | apply Kd.R_alloc | apply Kd.R_drewN | apply Kd.R_drew)); exact HO_5.out))) (below_size (by repeat (first | (with_reducible first | exact HB.out | apply below_alloc | apply pw_below_drewN | apply below_drew1 | refine below_set ?_ GE101.out) | exact HB.out)))); have n2_ := Aside0.mk (blk_below (g := gb101) (o := .cells #[.int .i64 a0_0, .slice A0_1 l0_1.length c0_1] 28 (0, 0)) (by (with_reducible repeat (first | refine blk_drewN ?_ _ | refine blk_drew ?_ | refine blk_alloc ?_ _)); exact BK101.out) hb); have n3_ := Aside0.mk (below_step (by repeat (first | (with_reducible first | exact HB.out | apply below_alloc | apply pw_below_drewN | apply below_drew1 | refine below_set ?_ GE101.out) | exact HB.out)) hb); clear HO_5; clear BK101; clear HB; have HO_5 := n0_; have HO116 := n1_; have BK101 := n2_; have HB := n3_; clear n0_ n1_ n2_ n3_; clear hb ho58)))
                        go_loopg [12] k2 (fun kq v12 w' => ∃ (x11_3 : List Bool) (x12_3 : Int), v12 = .int .i64 x12_3 ∧ Aside0 (caesuralaw19_goes.l4 kq l1 x5_2 x6_1 x11_3 x12_3 a0_0 l0_1 = some r) ∧ Aside0 (kq ≤ k2) ∧ Aside0 (Kd.R Kd.bool 4 w' w.heap.size (fun k_ => some k_ ≠ (v115 : Value).ownBlock) (.slice Ao56 x5_2.length co56) x5_2) ∧ Aside0 (Kd.R Kd.bool 4 w' w.heap.size (fun k_ => some k_ ≠ ((.slice Ao56 x5_2.length co56) : Value).ownBlock) v115 x11_3) ∧ Aside0 (w'.heap[gb101]? = some (.cells #[.int .i64 a0_0, (.slice A0_1 l0_1.length c0_1)] 28 (0, 0))) ∧ Aside0 (Below w.heap.size w w'))
                        case atStart => exact ⟨(y114), (0), (by first | rfl | (simp; done) | (simp [*]; done)), H', ⟨Nat.le_refl _⟩, ⟨by (with_reducible repeat (first | apply Kd.R_alloc | apply Kd.R_drewN | apply Kd.R_drew)); exact Kd.R_mono HO_5.out (fun _ hk => hk.2)⟩, ⟨by (with_reducible repeat (first | apply Kd.R_alloc | apply Kd.R_drewN | apply Kd.R_drew)); exact Kd.R_mono HO116.out (fun _ hk => hk.2)⟩, ⟨by (with_reducible repeat (first | refine blk_drewN ?_ _ | refine blk_drew ?_ | refine blk_alloc ?_ _)); exact BK101.out⟩, ⟨by repeat (first | (with_reducible first | exact HB.out | apply below_alloc | apply pw_below_drewN | apply below_drew1 | refine below_set ?_ GE101.out) | exact HB.out)⟩⟩
                        case round =>
                          clear H'
                          try clear c1
                          try clear p1
                          try clear q1
                          try clear hx1
                          try clear qi1
                          try clear c2
                          try clear p2
                          try clear c3
                          try clear c3b0
                          try clear c3b1
                          try clear p3
                          try clear q3
                          try clear hx3
                          try clear hf3
                          try clear c4
                          try clear c4b0
                          try clear c4b1
                          try clear c5
                          try clear c5b0
                          try clear c5b1
                          try clear p6
                          try clear q6
                          try clear hx6
                          try clear qi6
                          try clear hf6
                          try clear c10
                          try clear p10
                          try clear q10
                          try clear hx10
                          try clear p11
                          try clear q11
                          try clear hx11
                          try clear qi11
                          try clear c13
                          try clear c14
                          try clear c14b0
                          try clear c17
                          try clear c17b0
                          try clear c18
                          try clear c18b0
                          try clear c19
                          try clear c19b0
                          try clear c20
                          try clear c20b0
                          try clear c23
                          try clear c24
                          try clear c24b0
                          try clear c25
                          try clear c25b0
                          try clear c26
                          try clear c26b0
                          try clear c27
                          try clear c27b0
                          try clear c28
                          try clear c28b0
                          try clear c28b1
                          try clear c29
                          try clear c29b0
                          try clear c30
                          try clear c30b0
                          try clear q31
                          try clear c32
                          try clear c35
                          try clear p37
                          try clear q37
                          try clear hx37
                          try clear hf37
                          try clear c40
                          try clear c43
                          try clear c48
                          try clear c51
                          try clear c51b0
                          try clear c51b1
                          try clear c52
                          try clear c52b0
                          try clear c52b1
                          try clear c54
                          try clear c54b0
                          try clear c54b1
                          try clear c55
                          try clear c55b0
                          try clear c55b1
                          try clear hcz21_0
                          try clear hcz21_1
                          try clear hcz22_0
                          try clear hcz22_1
                          try clear hcz33_0
                          try clear hcz33_1
                          try clear hcz36_0
                          try clear hcz36_1
                          try clear hcz38_0
                          try clear hcz38_1
                          try clear hcz41_0
                          try clear hcz41_1
                          try clear hcz43_0
                          try clear hcz43_1
                          try clear hcz46_0
                          try clear hcz46_1
                          try clear hcz49_0
                          try clear hcz49_1
                          try clear hcz8_0
                          try clear hcz8_1
                          try clear hfz21_0
                          try clear hfz21_1
                          try clear hfz22_0
                          try clear hfz22_1
                          try clear hfz33_0
                          try clear hfz33_1
                          try clear hfz36_0
                          try clear hfz36_1
                          try clear hfz38_0
                          try clear hfz38_1
                          try clear hfz41_0
                          try clear hfz41_1
                          try clear hfz43_0
                          try clear hfz43_1
                          try clear hfz46_0
                          try clear hfz46_1
                          try clear hfz49_0
                          try clear hfz49_1
                          try clear hfz8_0
                          try clear hfz8_1
                          try clear hx106_0
                          try clear hx107_0
                          try clear hx108_0
                          try clear hx109_0
                          try clear hx109_1
                          try clear hx111_0
                          try clear hx113_0
                          try clear hx37_0
                          try clear hx6_0
                          try clear p1
                          try clear p10
                          try clear p106
                          try clear p107
                          try clear p108
                          try clear p109
                          try clear p111
                          try clear p113
                          try clear p2
                          try clear p37
                          try clear p6
                          try clear q1
                          try clear q10
                          try clear q106
                          try clear q107
                          try clear q108
                          try clear q109
                          try clear q111
                          try clear q113
                          try clear q37
                          try clear q6
                          obtain ⟨x11_3, x12_3, rfl, HA, HK3, HO_5, HO_11, BK101, HB⟩ := hrel
                          cases gk with
                          | zero => exact absurd HA.out (by simp [caesuralaw19_goes.l4])
                          | succ k3 =>
                            have H := HA.out
                            clear HA
                            simp only [caesuralaw19_goes.l4] at H
                            by_cases c59 : x12_3 < (x5_2.length : Int)
                            · rw [if_pos c59] at H
                              have c59b0 : decide (x12_3 < (x5_2.length : Int)) = true := decide_eq_true c59
                              clear c59
                              have H' := Aside0.mk H
                              clear H
                              go_wp2
                              repeat (go_quiet (fail); try go_wp2)
                              go_loopg [13] k3 (fun kq v13 w' => ∃ (x11_4 : List Bool) (x13_4 : Int), v13 = .int .i64 x13_4 ∧ Aside0 (caesuralaw19_goes.l5 kq l1 x5_2 x6_1 x11_4 x12_3 x13_4 a0_0 l0_1 = some r) ∧ Aside0 (kq ≤ k3) ∧ Aside0 (Kd.R Kd.bool 4 w' w.heap.size (fun k_ => some k_ ≠ (v115 : Value).ownBlock) (.slice Ao56 x5_2.length co56) x5_2) ∧ Aside0 (Kd.R Kd.bool 4 w' w.heap.size (fun k_ => some k_ ≠ ((.slice Ao56 x5_2.length co56) : Value).ownBlock) v115 x11_4) ∧ Aside0 (w'.heap[gb101]? = some (.cells #[.int .i64 a0_0, (.slice A0_1 l0_1.length c0_1)] 28 (0, 0))) ∧ Aside0 (Below w.heap.size w w'))
                              case atStart => exact ⟨(x11_3), (0), (by first | rfl | (simp; done) | (simp [*]; done)), H', ⟨Nat.le_refl _⟩, ⟨by (with_reducible repeat (first | apply Kd.R_alloc | apply Kd.R_drewN | apply Kd.R_drew)); exact HO_5.out⟩, ⟨by (with_reducible repeat (first | apply Kd.R_alloc | apply Kd.R_drewN | apply Kd.R_drew)); exact HO_11.out⟩, ⟨by (with_reducible repeat (first | refine blk_drewN ?_ _ | refine blk_drew ?_ | refine blk_alloc ?_ _)); exact BK101.out⟩, ⟨by repeat (first | (with_reducible first | exact HB.out | apply below_alloc | apply pw_below_drewN | apply below_drew1 | refine below_set ?_ GE101.out) | exact HB.out)⟩⟩
                              case round =>
                                clear H'
                                try clear c1
                                try clear p1
                                try clear q1
                                try clear hx1
                                try clear qi1
                                try clear c2
                                try clear p2
                                try clear c3
                                try clear c3b0
                                try clear c3b1
                                try clear p3
                                try clear q3
                                try clear hx3
                                try clear hf3
                                try clear c4
                                try clear c4b0
                                try clear c4b1
                                try clear c5
                                try clear c5b0
                                try clear c5b1
                                try clear p6
                                try clear q6
                                try clear hx6
                                try clear qi6
                                try clear hf6
                                try clear c10
                                try clear p10
                                try clear q10
                                try clear hx10
                                try clear p11
                                try clear q11
                                try clear hx11
                                try clear qi11
                                try clear c13
                                try clear c14
                                try clear c14b0
                                try clear c17
                                try clear c17b0
                                try clear c18
                                try clear c18b0
                                try clear c19
                                try clear c19b0
                                try clear c20
                                try clear c20b0
                                try clear c23
                                try clear c24
                                try clear c24b0
                                try clear c25
                                try clear c25b0
                                try clear c26
                                try clear c26b0
                                try clear c27
                                try clear c27b0
                                try clear c28
                                try clear c28b0
                                try clear c28b1
                                try clear c29
                                try clear c29b0
                                try clear c30
                                try clear c30b0
                                try clear q31
                                try clear c32
                                try clear c35
                                try clear p37
                                try clear q37
                                try clear hx37
                                try clear hf37
                                try clear c40
                                try clear c43
                                try clear c48
                                try clear c51
                                try clear c51b0
                                try clear c51b1
                                try clear c52
                                try clear c52b0
                                try clear c52b1
                                try clear c54
                                try clear c54b0
                                try clear c54b1
                                try clear c55
                                try clear c55b0
                                try clear c55b1
                                try clear c59
                                try clear c59b0
                                try clear hcz21_0
                                try clear hcz21_1
                                try clear hcz22_0
                                try clear hcz22_1
                                try clear hcz33_0
                                try clear hcz33_1
                                try clear hcz36_0
                                try clear hcz36_1
                                try clear hcz38_0
                                try clear hcz38_1
                                try clear hcz41_0
                                try clear hcz41_1
                                try clear hcz43_0
                                try clear hcz43_1
                                try clear hcz46_0
                                try clear hcz46_1
                                try clear hcz49_0
                                try clear hcz49_1
                                try clear hcz8_0
                                try clear hcz8_1
                                try clear hfz21_0
                                try clear hfz21_1
                                try clear hfz22_0
                                try clear hfz22_1
                                try clear hfz33_0
                                try clear hfz33_1
                                try clear hfz36_0
                                try clear hfz36_1
                                try clear hfz38_0
                                try clear hfz38_1
                                try clear hfz41_0
                                try clear hfz41_1
                                try clear hfz43_0
                                try clear hfz43_1
                                try clear hfz46_0
                                try clear hfz46_1
                                try clear hfz49_0
                                try clear hfz49_1
                                try clear hfz8_0
                                try clear hfz8_1
                                try clear hx106_0
                                try clear hx107_0
                                try clear hx108_0
                                try clear hx109_0
                                try clear hx109_1
                                try clear hx111_0
                                try clear hx113_0
                                try clear hx37_0
                                try clear hx6_0
                                try clear p1
                                try clear p10
                                try clear p106
                                try clear p107
                                try clear p108
                                try clear p109
                                try clear p11
                                try clear p111
                                try clear p113
                                try clear p2
                                try clear p3
                                try clear p37
                                try clear p6
                                try clear q1
                                try clear q10
                                try clear q106
                                try clear q107
                                try clear q108
                                try clear q109
                                try clear q11
                                try clear q111
                                try clear q113
                                try clear q3
                                try clear q31
                                try clear q37
                                try clear q6
                                obtain ⟨x11_4, x13_4, rfl, HA, HK4, HO_5, HO_11, BK101, HB⟩ := hrel
                                cases gk with
                                | zero => exact absurd HA.out (by simp [caesuralaw19_goes.l5])
                                | succ k4 =>
                                  have H := HA.out
                                  clear HA
                                  simp only [caesuralaw19_goes.l5] at H
                                  have HC60 := Aside0.mk H
                                  clear H
                                  go_upto_region 24 with (fail)
                                  repeat (go_quiet (fail); go_upto_region 24 with (fail))
                                  go_cut [98] (fun v98 wc => ∃ (kq : Nat) (x98_59 : Bool), v98 = .bool x98_59 ∧ Aside0 (caesuralaw19_goes.j7 kq l1 x5_2 x6_1 x11_4 x12_3 x13_4 x98_59 a0_0 l0_1 = some r) ∧ Aside0 (kq ≤ k4) ∧ Aside0 (Kd.R Kd.bool 4 wc w.heap.size (fun k_ => some k_ ≠ (v115 : Value).ownBlock) (.slice Ao56 x5_2.length co56) x5_2) ∧ Aside0 (Kd.R Kd.bool 4 wc w.heap.size (fun k_ => some k_ ≠ ((.slice Ao56 x5_2.length co56) : Value).ownBlock) v115 x11_4) ∧ Aside0 (wc.heap[gb101]? = some (.cells #[.int .i64 a0_0, (.slice A0_1 l0_1.length c0_1)] 28 (0, 0))) ∧ Aside0 (Below w.heap.size w wc))
                                  case first =>
                                    have H := HC60.out
                                    clear HC60
                                    by_cases c61 : 0 ≤ x12_3
                                    · rw [if_pos c61] at H
                                      have c61b0 : decide (0 ≤ x12_3) = true := decide_eq_true c61
                                      clear c61
                                      (first | rw [c61b0] | (simp only [i64_w, i32_w]; rw [c61b0]) | skip)
                                      by_cases c62 : x12_3 < (l0_1.length : Int)
                                      · rw [if_pos c62] at H
                                        have c62b0 : decide (x12_3 < (l0_1.length : Int)) = true := decide_eq_true c62
                                        clear c62
                                        by_cases c63 : x13_4 < ((rd_L2 l0_1 x12_3).length : Int)
                                        · rw [if_pos c63] at H
                                          have c63b0 : decide (x13_4 < ((rd_L2 l0_1 x12_3).length : Int)) = true := decide_eq_true c63
                                          clear c63
                                          by_cases c64 : x12_3 < (x5_2.length : Int)
                                          · rw [if_pos c64] at H
                                            have c64b0 : decide (x12_3 < (x5_2.length : Int)) = true := decide_eq_true c64
                                            clear c64
                                            have H' := Aside0.mk H
                                            clear H
                                            have hcz65_0 : wr.cell? ⟨gb101, 0, none⟩ = some (.int .i64 a0_0) := (blk_cell BK101.out 0).trans rfl
                                            have hcz65_1 : wr.cell? ⟨gb101, 1, none⟩ = some (.slice A0_1 l0_1.length c0_1) := (blk_cell BK101.out 1).trans rfl
                                            have hfz65_0 := blk_frozen BK101.out 0
                                            have hfz65_1 := blk_frozen BK101.out 1
                                            have p117 : 0 ≤ (x12_3 : Int) := of_decide_eq_true (by first | (with_reducible assumption) | assumption)
                                            have q117 : x12_3 < (l0_1.length : Int) := of_decide_eq_true (by first | (with_reducible assumption) | assumption)
                                            obtain ⟨ad117, A117_0, c117_0, e117, hx117_0, hl117_0, hi117_0⟩ := at_L2 HR0_1.out x12_3 p117 q117
                                            cases e117
                                            replace hx117_0 := (HB.out.cell (World.block_lt_of_cell? w _ hx117_0)).trans hx117_0
                                            have HR117_0 := Aside0.mk hi117_0
                                            have HC117_0 := Aside0.mk hl117_0
                                            clear hi117_0 hl117_0
                                            replace p117 := eq_true p117
                                            replace q117 := eq_true q117
                                            have p118 : 0 ≤ (x12_3 : Int) := of_decide_eq_true (by first | (with_reducible assumption) | assumption)
                                            have q118 : x12_3 < (x5_2.length : Int) := of_decide_eq_true (by first | (with_reducible assumption) | assumption)
                                            obtain ⟨ad118, e118, hx118_0⟩ := Kd.at_bool (Kd.R_reads' HO_5.out).2.2 x12_3 p118 q118
                                            cases e118
                                            replace p118 := eq_true p118
                                            replace q118 := eq_true q118
                                            go_wp2
                                            repeat (go_quiet (fail); try go_wp2)
                                            go_meet
                                            case rel => exact ⟨_, (rdOf false x5_2 x12_3), (by first | rfl | (simp; done) | (simp [*]; done)), H', ⟨by have := HK1.out; have := HK2.out; have := HK3.out; have := HK4.out; first | omega | exact Nat.le_refl _⟩, ⟨by (with_reducible repeat (first | apply Kd.R_alloc | apply Kd.R_drewN | apply Kd.R_drew)); exact HO_5.out⟩, ⟨by (with_reducible repeat (first | apply Kd.R_alloc | apply Kd.R_drewN | apply Kd.R_drew)); exact HO_11.out⟩, ⟨by (with_reducible repeat (first | refine blk_drewN ?_ _ | refine blk_drew ?_ | refine blk_alloc ?_ _)); exact BK101.out⟩, ⟨by repeat (first | (with_reducible first | exact HB.out | apply below_alloc | apply pw_below_drewN | apply below_drew1 | refine below_set ?_ GE101.out) | exact HB.out)⟩⟩
                                          · rw [if_neg c64] at H
                                            exact absurd H (by simp)
                                        · rw [if_neg c63] at H
                                          have c63b0 : decide (x13_4 < ((rd_L2 l0_1 x12_3).length : Int)) = false := decide_eq_false c63
                                          clear c63
                                          have H' := Aside0.mk H
                                          clear H
                                          have hcz66_0 : wr.cell? ⟨gb101, 0, none⟩ = some (.int .i64 a0_0) := (blk_cell BK101.out 0).trans rfl
                                          have hcz66_1 : wr.cell? ⟨gb101, 1, none⟩ = some (.slice A0_1 l0_1.length c0_1) := (blk_cell BK101.out 1).trans rfl
                                          have hfz66_0 := blk_frozen BK101.out 0
                                          have hfz66_1 := blk_frozen BK101.out 1
                                          have p117 : 0 ≤ (x12_3 : Int) := of_decide_eq_true (by first | (with_reducible assumption) | assumption)
                                          have q117 : x12_3 < (l0_1.length : Int) := of_decide_eq_true (by first | (with_reducible assumption) | assumption)
                                          obtain ⟨ad117, A117_0, c117_0, e117, hx117_0, hl117_0, hi117_0⟩ := at_L2 HR0_1.out x12_3 p117 q117
                                          cases e117
                                          replace hx117_0 := (HB.out.cell (World.block_lt_of_cell? w _ hx117_0)).trans hx117_0
                                          have HR117_0 := Aside0.mk hi117_0
                                          have HC117_0 := Aside0.mk hl117_0
                                          clear hi117_0 hl117_0
                                          replace p117 := eq_true p117
                                          replace q117 := eq_true q117
                                          go_wp2
                                          repeat (go_quiet (fail); try go_wp2)
                                          go_meet
                                          case rel => exact ⟨_, (false), (by first | rfl | (simp; done) | (simp [*]; done)), H', ⟨by have := HK1.out; have := HK2.out; have := HK3.out; have := HK4.out; first | omega | exact Nat.le_refl _⟩, ⟨by (with_reducible repeat (first | apply Kd.R_alloc | apply Kd.R_drewN | apply Kd.R_drew)); exact HO_5.out⟩, ⟨by (with_reducible repeat (first | apply Kd.R_alloc | apply Kd.R_drewN | apply Kd.R_drew)); exact HO_11.out⟩, ⟨by (with_reducible repeat (first | refine blk_drewN ?_ _ | refine blk_drew ?_ | refine blk_alloc ?_ _)); exact BK101.out⟩, ⟨by repeat (first | (with_reducible first | exact HB.out | apply below_alloc | apply pw_below_drewN | apply below_drew1 | refine below_set ?_ GE101.out) | exact HB.out)⟩⟩
                                      · rw [if_neg c62] at H
                                        exact absurd H (by simp)
                                    · rw [if_neg c61] at H
                                      exact absurd H (by simp)
                                  case rest =>
                                    clear HC60
                                    try clear c1
                                    try clear p1
                                    try clear q1
                                    try clear hx1
                                    try clear qi1
                                    try clear c2
                                    try clear p2
                                    try clear c3
                                    try clear c3b0
                                    try clear c3b1
                                    try clear p3
                                    try clear q3
                                    try clear hx3
                                    try clear hf3
                                    try clear c4
                                    try clear c4b0
                                    try clear c4b1
                                    try clear c5
                                    try clear c5b0
                                    try clear c5b1
                                    try clear c6
                                    try clear p6
                                    try clear q6
                                    try clear hx6
                                    try clear qi6
                                    try clear hf6
                                    try clear c10
                                    try clear p10
                                    try clear q10
                                    try clear hx10
                                    try clear c11
                                    try clear p11
                                    try clear q11
                                    try clear hx11
                                    try clear qi11
                                    try clear c13
                                    try clear c14
                                    try clear c14b0
                                    try clear c17
                                    try clear c17b0
                                    try clear c18
                                    try clear c18b0
                                    try clear c19
                                    try clear c19b0
                                    try clear c20
                                    try clear c20b0
                                    try clear c23
                                    try clear c24
                                    try clear c24b0
                                    try clear c25
                                    try clear c25b0
                                    try clear c26
                                    try clear c26b0
                                    try clear c27
                                    try clear c27b0
                                    try clear c28
                                    try clear c28b0
                                    try clear c28b1
                                    try clear c29
                                    try clear c29b0
                                    try clear c30
                                    try clear c30b0
                                    try clear q31
                                    try clear c32
                                    try clear c35
                                    try clear p37
                                    try clear q37
                                    try clear hx37
                                    try clear hf37
                                    try clear c40
                                    try clear c43
                                    try clear c48
                                    try clear c51
                                    try clear c51b0
                                    try clear c51b1
                                    try clear c52
                                    try clear c52b0
                                    try clear c52b1
                                    try clear c54
                                    try clear c54b0
                                    try clear c54b1
                                    try clear c55
                                    try clear c55b0
                                    try clear c55b1
                                    try clear c59
                                    try clear c59b0
                                    try clear c61
                                    try clear c61b0
                                    try clear c62
                                    try clear c62b0
                                    try clear c63
                                    try clear c63b0
                                    try clear c64
                                    try clear c64b0
                                    try clear p64
                                    try clear hcz21_0
                                    try clear hcz21_1
                                    try clear hcz22_0
                                    try clear hcz22_1
                                    try clear hcz33_0
                                    try clear hcz33_1
                                    try clear hcz36_0
                                    try clear hcz36_1
                                    try clear hcz38_0
                                    try clear hcz38_1
                                    try clear hcz41_0
                                    try clear hcz41_1
                                    try clear hcz43_0
                                    try clear hcz43_1
                                    try clear hcz46_0
                                    try clear hcz46_1
                                    try clear hcz49_0
                                    try clear hcz49_1
                                    try clear hcz65_0
                                    try clear hcz65_1
                                    try clear hcz66_0
                                    try clear hcz66_1
                                    try clear hcz8_0
                                    try clear hcz8_1
                                    try clear hfz21_0
                                    try clear hfz21_1
                                    try clear hfz22_0
                                    try clear hfz22_1
                                    try clear hfz33_0
                                    try clear hfz33_1
                                    try clear hfz36_0
                                    try clear hfz36_1
                                    try clear hfz38_0
                                    try clear hfz38_1
                                    try clear hfz41_0
                                    try clear hfz41_1
                                    try clear hfz43_0
                                    try clear hfz43_1
                                    try clear hfz46_0
                                    try clear hfz46_1
                                    try clear hfz49_0
                                    try clear hfz49_1
                                    try clear hfz65_0
                                    try clear hfz65_1
                                    try clear hfz66_0
                                    try clear hfz66_1
                                    try clear hfz8_0
                                    try clear hfz8_1
                                    try clear hx106_0
                                    try clear hx107_0
                                    try clear hx108_0
                                    try clear hx109_0
                                    try clear hx109_1
                                    try clear hx111_0
                                    try clear hx113_0
                                    try clear hx117_0
                                    try clear hx118_0
                                    try clear hx37_0
                                    try clear hx6_0
                                    try clear p1
                                    try clear p10
                                    try clear p106
                                    try clear p107
                                    try clear p108
                                    try clear p109
                                    try clear p11
                                    try clear p111
                                    try clear p113
                                    try clear p117
                                    try clear p118
                                    try clear p2
                                    try clear p3
                                    try clear p37
                                    try clear p6
                                    try clear q1
                                    try clear q10
                                    try clear q106
                                    try clear q107
                                    try clear q108
                                    try clear q109
                                    try clear q11
                                    try clear q111
                                    try clear q113
                                    try clear q117
                                    try clear q118
                                    try clear q3
                                    try clear q31
                                    try clear q37
                                    try clear q6
                                    obtain ⟨kq, x98_59, rfl, HA, HJ59, HO_5, HO_11, BK101, HB⟩ := hcut
                                    cases kq with
                                    | zero => exact absurd HA.out (by simp [caesuralaw19_goes.j7])
                                    | succ kj59 =>
                                      have H := HA.out
                                      clear HA
                                      simp only [caesuralaw19_goes.j7] at H
                                      by_cases c67 : x98_59 = true
                                      · subst c67
                                        have H1 : (if 0 ≤ x12_3 then (if x12_3 < (l0_1.length : Int) then (if 0 ≤ x13_4 then (if x13_4 < ((rd_L2 l0_1 x12_3).length : Int) then (if 0 ≤ x6_1 then (if x6_1 < (l1.length : Int) then (if ((rd_T82 (rd_L2 l0_1 x12_3) x13_4).f0) = (rd l1 x6_1) then (if 0 ≤ ((rd_T82 (rd_L2 l0_1 x12_3) x13_4).f1) then (if ((rd_T82 (rd_L2 l0_1 x12_3) x13_4).f1) < (x11_4.length : Int) then (caesuralaw19_goes.l5 kj59 l1 x5_2 x6_1 (x11_4.set (((rd_T82 (rd_L2 l0_1 x12_3) x13_4).f1) : Int).toNat true) x12_3 (wrap64 (x13_4 + 1)) a0_0 l0_1) else (none)) else (none)) else (caesuralaw19_goes.l5 kj59 l1 x5_2 x6_1 x11_4 x12_3 (wrap64 (x13_4 + 1)) a0_0 l0_1)) else (none)) else (none)) else (none)) else (none)) else (none)) else (none)) = some r := by rw [if_pos rfl] at H; exact H
                                        clear H
                                        have H := H1
                                        clear H1
                                        by_cases c68 : 0 ≤ x12_3
                                        · rw [if_pos c68] at H
                                          have c68b0 : decide (0 ≤ x12_3) = true := decide_eq_true c68
                                          clear c68
                                          by_cases c69 : x12_3 < (l0_1.length : Int)
                                          · rw [if_pos c69] at H
                                            have c69b0 : decide (x12_3 < (l0_1.length : Int)) = true := decide_eq_true c69
                                            clear c69
                                            by_cases c70 : 0 ≤ x13_4
                                            · rw [if_pos c70] at H
                                              have c70b0 : decide (0 ≤ x13_4) = true := decide_eq_true c70
                                              clear c70
                                              by_cases c71 : x13_4 < ((rd_L2 l0_1 x12_3).length : Int)
                                              · rw [if_pos c71] at H
                                                have c71b0 : decide (x13_4 < ((rd_L2 l0_1 x12_3).length : Int)) = true := decide_eq_true c71
                                                clear c71
                                                by_cases c72 : 0 ≤ x6_1
                                                · rw [if_pos c72] at H
                                                  have c72b0 : decide (0 ≤ x6_1) = true := decide_eq_true c72
                                                  clear c72
                                                  by_cases c73 : x6_1 < (l1.length : Int)
                                                  · rw [if_pos c73] at H
                                                    have c73b0 : decide (x6_1 < (l1.length : Int)) = true := decide_eq_true c73
                                                    clear c73
                                                    by_cases c74 : ((rd_T82 (rd_L2 l0_1 x12_3) x13_4).f0) = (rd l1 x6_1)
                                                    · rw [if_pos c74] at H
                                                      have c74b0 : (((rd_T82 (rd_L2 l0_1 x12_3) x13_4).f0) == (rd l1 x6_1)) = true := beq_iff_eq.mpr c74
                                                      have c74b1 : (((rd_T82 (rd_L2 l0_1 x12_3) x13_4).f0) != (rd l1 x6_1)) = false := bne_eq_false_iff_eq.mpr c74
                                                      clear c74
                                                      by_cases c75 : 0 ≤ ((rd_T82 (rd_L2 l0_1 x12_3) x13_4).f1)
                                                      · rw [if_pos c75] at H
                                                        have c75b0 : decide (0 ≤ ((rd_T82 (rd_L2 l0_1 x12_3) x13_4).f1)) = true := decide_eq_true c75
                                                        clear c75
                                                        by_cases c76 : ((rd_T82 (rd_L2 l0_1 x12_3) x13_4).f1) < (x11_4.length : Int)
                                                        · rw [if_pos c76] at H
                                                          have c76b0 : decide (((rd_T82 (rd_L2 l0_1 x12_3) x13_4).f1) < (x11_4.length : Int)) = true := decide_eq_true c76
                                                          clear c76
                                                          obtain ⟨y123, hy123⟩ : ∃ y_ : List Bool, y_ = (x11_4.set (((rd_T82 (rd_L2 l0_1 x12_3) x13_4).f1) : Int).toNat true) := ⟨_, rfl⟩
                                                          replace H : (caesuralaw19_goes.l5 kj59 l1 x5_2 x6_1 y123 x12_3 (wrap64 (x13_4 + 1)) a0_0 l0_1) = some r := by first | (rw [hy123]; with_reducible exact H) | (have H2_ := (Option.bind_some _ _).symm.trans H; rw [hy123]; with_reducible exact H2_) | (have H2_ := (Option.bind_some _ _).symm.trans H; with_reducible exact H2_) | with_reducible exact H | (rw [hy123]; exact H) | exact H
                                                          have Ny123 := Aside0.mk hy123
                                                          clear hy123
                                                          have H' := Aside0.mk H
                                                          clear H
                                                          have hcz78_0 : wc.cell? ⟨gb101, 0, none⟩ = some (.int .i64 a0_0) := (blk_cell BK101.out 0).trans rfl
                                                          have hcz78_1 : wc.cell? ⟨gb101, 1, none⟩ = some (.slice A0_1 l0_1.length c0_1) := (blk_cell BK101.out 1).trans rfl
                                                          have hfz78_0 := blk_frozen BK101.out 0
                                                          have hfz78_1 := blk_frozen BK101.out 1
                                                          have p119 : 0 ≤ (x12_3 : Int) := of_decide_eq_true (by first | (with_reducible assumption) | assumption)
                                                          have q119 : x12_3 < (l0_1.length : Int) := of_decide_eq_true (by first | (with_reducible assumption) | assumption)
                                                          obtain ⟨ad119, A119_0, c119_0, e119, hx119_0, hl119_0, hi119_0⟩ := at_L2 HR0_1.out x12_3 p119 q119
                                                          cases e119
                                                          replace hx119_0 := (HB.out.cell (World.block_lt_of_cell? w _ hx119_0)).trans hx119_0
                                                          have HR119_0 := Aside0.mk hi119_0
                                                          have HC119_0 := Aside0.mk hl119_0
                                                          clear hi119_0 hl119_0
                                                          replace p119 := eq_true p119
                                                          replace q119 := eq_true q119
                                                          have p120 : 0 ≤ (x13_4 : Int) := of_decide_eq_true (by first | (with_reducible assumption) | assumption)
                                                          have q120 : x13_4 < ((rd_L2 l0_1 x12_3).length : Int) := of_decide_eq_true (by first | (with_reducible assumption) | assumption)
                                                          obtain ⟨ad120, e120, hx120_0, hx120_1⟩ := at_T82 HR119_0.out x13_4 p120 q120
                                                          cases e120
                                                          replace hx120_0 := (HB.out.cell (World.block_lt_of_cell? w _ hx120_0)).trans hx120_0
                                                          replace hx120_1 := (HB.out.cell (World.block_lt_of_cell? w _ hx120_1)).trans hx120_1
                                                          replace p120 := eq_true p120
                                                          replace q120 := eq_true q120
                                                          go_wp2_with (first | ((with_reducible refine gate_dst (N := 14) rfl ?_); refine box_event ?hg (N := 14) ?hd (cs := #[.int .i64 0, .int .i64 0]) (t := 82) ?hr ?_; (case hd => rfl); (case hg => rfl); (case hr => first | (go_simp; done) | (go_simp; rfl)); intro gb121 hg w79 hbox hb; have n0_ := Aside0.mk (Kd.R_below (by (with_reducible repeat (first | apply Kd.R_alloc | apply Kd.R_drewN | apply Kd.R_drew)); exact HO_5.out) hb); have n1_ := Aside0.mk (Kd.R_below (by (with_reducible repeat (first | apply Kd.R_alloc | apply Kd.R_drewN | apply Kd.R_drew)); exact HO_11.out) hb); have n2_ := Aside0.mk (blk_below (g := gb101) (o := .cells #[.int .i64 a0_0, .slice (some ad119) l0_1.length c0_1] 28 (0, 0)) (by (with_reducible repeat (first | refine blk_drewN ?_ _ | refine blk_drew ?_ | refine blk_alloc ?_ _)); exact BK101.out) hb); have n3_ := Aside0.mk (below_step (by repeat (first | (with_reducible first | exact HB.out | apply below_alloc | apply pw_below_drewN | apply below_drew1 | refine below_set ?_ GE101.out) | exact HB.out)) hb); have n4_ := Aside0.mk (hbox); have n5_ := Aside0.mk ((by rw [hg]; exact (below_size (by repeat (first | (with_reducible first | exact HB.out | apply below_alloc | apply pw_below_drewN | apply below_drew1 | refine below_set ?_ GE101.out) | exact HB.out))) : w.heap.size ≤ gb121)); have n6_ := Aside0.mk ((by rw [hg]; exact (below_size (by repeat (first | (with_reducible first | exact HB.out | apply below_alloc | apply pw_below_drewN | apply below_drew1 | refine below_set ?_ GE101.out) | exact HB.out))) : w.heap.size ≤ gb121)); have n7_ := Aside0.mk ((by rw [hg]; exact Nat.ne_of_lt (blk_lt (g := gb101) (o := .cells #[.int .i64 a0_0, .slice (some ad119) l0_1.length c0_1] 28 (0, 0)) (by (with_reducible repeat (first | refine blk_drewN ?_ _ | refine blk_drew ?_ | refine blk_alloc ?_ _)); exact BK101.out)) : gb101 ≠ gb121)); have n8_ := Aside0.mk ((by rw [hg]; exact Nat.ne_of_gt (blk_lt (g := gb101) (o := .cells #[.int .i64 a0_0, .slice (some ad119) l0_1.length c0_1] 28 (0, 0)) (by (with_reducible repeat (first | refine blk_drewN ?_ _ | refine blk_drew ?_ | refine blk_alloc ?_ _)); exact BK101.out)) : gb121 ≠ gb101)); clear HO_5; clear HO_11; clear BK101; clear HB; have HO_5 := n0_; have HO_11 := n1_; have BK101 := n2_; have HB := n3_; have BK121 := n4_; have GW121 := n5_; have GE121 := n6_; have NB101_121 := n7_; have NB121_101 := n8_; clear n0_ n1_ n2_ n3_ n4_ n5_ n6_ n7_ n8_; clear hb hbox hg; have hnb80 := NB121_101.out; have hnc80 := NB101_121.out; have hcz81_0 : w79.cell? ⟨gb121, 0, none⟩ = some (.int .i64 0) := (blk_cell BK121.out 0).trans rfl; have hcz81_1 : w79.cell? ⟨gb121, 1, none⟩ = some (.int .i64 0) := (blk_cell BK121.out 1).trans rfl; have hfz81_0 := blk_frozen BK121.out 0; have hfz81_1 := blk_frozen BK121.out 1) | ((with_reducible refine gate_store (t := 82) (p := 14) rfl ?_); (try (rw [drewN_self w79]; generalize hq_ : World.drewN w79 _ = w79; have n0_ := Aside0.mk (Kd.R_at hq_ HO_5.out); have n1_ := Aside0.mk (Kd.R_at hq_ HO_11.out); have n2_ := Aside0.mk (blk_at hq_ BK101.out); have n3_ := Aside0.mk (blk_at hq_ BK121.out); have n4_ := Aside0.mk (below_at hq_ HB.out); clear hq_ HO_5 HO_11 BK101 BK121 HB; have HO_5 := n0_; have HO_11 := n1_; have BK101 := n2_; have BK121 := n3_; have HB := n4_; clear n0_ n1_ n2_ n3_ n4_)); refine store_event (t := 82) (p := 14) (v := ?vo_w82) (w1 := ((w79.setCell ⟨gb121, 0, none⟩ (.int .i64 ((rd_T82 (rd_L2 l0_1 x12_3) x13_4).f0))).setCell ⟨gb121, 1, none⟩ (.int .i64 ((rd_T82 (rd_L2 l0_1 x12_3) x13_4).f1)))) ?hg ?ho ?hn ?hr ?_; (case ho => rfl); (case hg => rfl); (case hn => rfl); (case hr => first | (go_simp; done) | (go_simp; rfl)); intro w82 hw; have n0_ : Aside0 (Kd.R Kd.bool 4 w82 w.heap.size (fun k_ => some k_ ≠ (v115 : Value).ownBlock) (.slice Ao56 x5_2.length co56) x5_2) := ⟨(by rw [hw]; exact (by (with_reducible repeat (first | apply Kd.R_alloc | apply Kd.R_drewN | apply Kd.R_drew)); exact Kd.R_mono (Kd.R_far (p := ⟨gb121, 1, none⟩) (Kd.R_far (p := ⟨gb121, 0, none⟩) (Kd.R_types HO_5.out BK121.out (by decide)) (fun _ hk => hk.2) (.int .i64 ((rd_T82 (rd_L2 l0_1 x12_3) x13_4).f0))) (fun _ hk => hk.2) (.int .i64 ((rd_T82 (rd_L2 l0_1 x12_3) x13_4).f1))) (fun _ hk => hk.1)))⟩; have n1_ : Aside0 (Kd.R Kd.bool 4 w82 w.heap.size (fun k_ => some k_ ≠ (.slice Ao56 x5_2.length co56 : Value).ownBlock) v115 x11_4) := ⟨(by rw [hw]; exact (by (with_reducible repeat (first | apply Kd.R_alloc | apply Kd.R_drewN | apply Kd.R_drew)); exact Kd.R_mono (Kd.R_far (p := ⟨gb121, 1, none⟩) (Kd.R_far (p := ⟨gb121, 0, none⟩) (Kd.R_types HO_11.out BK121.out (by decide)) (fun _ hk => hk.2) (.int .i64 ((rd_T82 (rd_L2 l0_1 x12_3) x13_4).f0))) (fun _ hk => hk.2) (.int .i64 ((rd_T82 (rd_L2 l0_1 x12_3) x13_4).f1))) (fun _ hk => hk.1)))⟩; have n2_ : Aside0 (w82.heap[gb101]? = some (.cells #[.int .i64 a0_0, .slice (some ad119) l0_1.length c0_1] 28 (0, 0))) := ⟨(by rw [hw]; exact (by (with_reducible repeat (first | refine blk_drewN ?_ _ | refine blk_drew ?_ | refine blk_alloc ?_ _)); refine blk_far ?_ NB101_121.out _; (with_reducible repeat (first | refine blk_drewN ?_ _ | refine blk_drew ?_ | refine blk_alloc ?_ _)); refine blk_far ?_ NB101_121.out _; (with_reducible repeat (first | refine blk_drewN ?_ _ | refine blk_drew ?_ | refine blk_alloc ?_ _)); exact BK101.out))⟩; have n3_ : Aside0 (w82.heap[gb121]? = some (.cells #[.int .i64 ((rd_T82 (rd_L2 l0_1 x12_3) x13_4).f0), .int .i64 ((rd_T82 (rd_L2 l0_1 x12_3) x13_4).f1)] 82 (0, 0))) := ⟨(by rw [hw]; exact (by (with_reducible repeat (first | refine blk_drewN ?_ _ | refine blk_drew ?_ | refine blk_alloc ?_ _)); refine blk_put (cs := #[.int .i64 ((rd_T82 (rd_L2 l0_1 x12_3) x13_4).f0), .int .i64 0]) ?_ 1 _ rfl; (with_reducible repeat (first | refine blk_drewN ?_ _ | refine blk_drew ?_ | refine blk_alloc ?_ _)); refine blk_put (cs := #[.int .i64 0, .int .i64 0]) ?_ 0 _ rfl; (with_reducible repeat (first | refine blk_drewN ?_ _ | refine blk_drew ?_ | refine blk_alloc ?_ _)); exact BK121.out))⟩; have n4_ : Aside0 (Below w.heap.size w w82) := ⟨(by rw [hw]; exact (by repeat (first | (with_reducible first | exact HB.out | apply below_alloc | apply pw_below_drewN | apply below_drew1 | refine below_set ?_ GE101.out | refine below_set ?_ GE121.out) | exact HB.out)))⟩; clear hw; clear HO_5; clear HO_11; clear BK101; clear BK121; clear HB; have HO_5 := n0_; have HO_11 := n1_; have BK101 := n2_; have BK121 := n3_; have HB := n4_; clear n0_ n1_ n2_ n3_ n4_; have hcz83_0 : w82.cell? ⟨gb121, 0, none⟩ = some (.int .i64 ((rd_T82 (rd_L2 l0_1 x12_3) x13_4).f0)) := (blk_cell BK121.out 0).trans rfl; have hcz83_1 : w82.cell? ⟨gb121, 1, none⟩ = some (.int .i64 ((rd_T82 (rd_L2 l0_1 x12_3) x13_4).f1)) := (blk_cell BK121.out 1).trans rfl; have hfz83_0 := blk_frozen BK121.out 0; have hfz83_1 := blk_frozen BK121.out 1; have p122 : 0 ≤ (x6_1 : Int) := of_decide_eq_true (by first | (with_reducible assumption) | assumption); have q122 : x6_1 < (l1.length : Int) := of_decide_eq_true (by first | (with_reducible assumption) | assumption); obtain ⟨ad122, e122, hx122_0⟩ := Kd.at_int HR1.out x6_1 p122 q122; cases e122; replace hx122_0 := (HB.out.cell (World.block_lt_of_cell? w _ hx122_0)).trans hx122_0; replace p122 := eq_true p122; replace q122 := eq_true q122; have p77 : 0 ≤ (((rd_T82 (rd_L2 l0_1 x12_3) x13_4).f1) : Int) := of_decide_eq_true (by first | (with_reducible assumption) | assumption); have q77 : (((rd_T82 (rd_L2 l0_1 x12_3) x13_4).f1) : Int) < ((x11_4.length : Int) : Int) := of_decide_eq_true (by first | (with_reducible assumption) | assumption); obtain ⟨go77, co77, eo77, gb77, gl77, cl77, HG77⟩ := Kd.R_form HO_11.out (by omega); (first | cases eo77 | (injection eo77 with ea_ en_ ec_; (first | subst ea_ | (injection ea_ with ea_; subst ea_)); subst ec_; clear en_)); have GB77 := Aside0.mk gb77; have GG77 := Aside0.mk HG77; clear gb77 gl77 HG77; obtain ⟨hx77_0, hf77_0⟩ := Kd.R_celln false HO_11.out (((rd_T82 (rd_L2 l0_1 x12_3) x13_4).f1) : Int) p77 q77; replace p77 := eq_true p77; replace q77 := eq_true q77; obtain ⟨hy84_, hz84_⟩ := Kd.R_celln false HO_11.out (((rd_T82 (rd_L2 l0_1 x12_3) x13_4).f1) : Int) (of_decide_eq_true (by first | (with_reducible assumption) | assumption)) (of_decide_eq_true (by first | (with_reducible assumption) | assumption)); have HP84 := Kd.R_putg HO_11.out (((rd_T82 (rd_L2 l0_1 x12_3) x13_4).f1) : Int) true) | ((with_reducible refine gate_store (t := 4) (p := 119) rfl ?_); (try (rw [drewN_self w82]; generalize hq_ : World.drewN w82 _ = w82; have n0_ := Aside0.mk (Kd.R_at hq_ HO_5.out); have n1_ := Aside0.mk (Kd.R_at hq_ HO_11.out); have n2_ := Aside0.mk (blk_at hq_ BK101.out); have n3_ := Aside0.mk (blk_at hq_ BK121.out); have n4_ := Aside0.mk (below_at hq_ HB.out); clear hq_ HO_5 HO_11 BK101 BK121 HB; have HO_5 := n0_; have HO_11 := n1_; have BK101 := n2_; have BK121 := n3_; have HB := n4_; clear n0_ n1_ n2_ n3_ n4_; (try (obtain ⟨hy84_, hz84_⟩ := Kd.R_celln false HO_11.out (((rd_T82 (rd_L2 l0_1 x12_3) x13_4).f1) : Int) (of_decide_eq_true (by first | (with_reducible assumption) | assumption)) (of_decide_eq_true (by first | (with_reducible assumption) | assumption)))); (try (have HP84 := Kd.R_putg HO_11.out (((rd_T82 (rd_L2 l0_1 x12_3) x13_4).f1) : Int) true)))); refine store_event (t := 4) (p := 119) (v := ?vo_w85) (w1 := (w82.setCell ⟨go77, (((rd_T82 (rd_L2 l0_1 x12_3) x13_4).f1) : Int).toNat, none⟩ (.bool true))) ?hg ?ho ?hn ?hr ?_; (case ho => rfl); (case hg => rfl); (case hn => rfl); (case hr => first | (go_simp; done) | (go_simp; rfl)); intro w85 hw; have hg : w82.grownBy w85 (some go77) := (by rw [hw]; exact HP84.2); have hp_ : Kd.R Kd.bool 4 w85 w.heap.size (fun k_ => some k_ ≠ (.slice Ao56 x5_2.length co56 : Value).ownBlock) (.slice (some ⟨go77, 0, none⟩) x11_4.length co77) y123 := (by rw [hw, Ny123.out]; exact HP84.1); clear HP84; have n0_ := Aside0.mk (Kd.R_after (v := (.slice (some ⟨go77, 0, none⟩) x11_4.length co77)) (v1 := (.slice (some ⟨go77, 0, none⟩) x11_4.length co77)) (ok := (fun _ => True)) (by (with_reducible repeat (first | apply Kd.R_alloc | apply Kd.R_drewN | apply Kd.R_drew)); exact Kd.R_mono HO_5.out (fun _ hk => ⟨trivial, hk⟩)) hg (.inl rfl)); have n1_ := Aside0.mk (hp_); have n2_ := Aside0.mk (blk_grown (g := gb101) (o := .cells #[.int .i64 a0_0, .slice (some ad119) l0_1.length c0_1] 28 (0, 0)) (by (with_reducible repeat (first | refine blk_drewN ?_ _ | refine blk_drew ?_ | refine blk_alloc ?_ _)); exact BK101.out) hg (Kd.R_ne HO_11.out BK101.out (by decide))); have n3_ := Aside0.mk (blk_grown (g := gb121) (o := .cells #[.int .i64 ((rd_T82 (rd_L2 l0_1 x12_3) x13_4).f0), .int .i64 ((rd_T82 (rd_L2 l0_1 x12_3) x13_4).f1)] 82 (0, 0)) (by (with_reducible repeat (first | refine blk_drewN ?_ _ | refine blk_drew ?_ | refine blk_alloc ?_ _)); exact BK121.out) hg (Kd.R_ne HO_11.out BK121.out (by decide))); have n4_ := Aside0.mk ((by rw [hw]; exact below_set (HB.out) GB77.out : Below w.heap.size w w85)); clear HO_5; clear HO_11; clear BK101; clear BK121; clear HB; have HO_5 := n0_; have HO_11 := n1_; have BK101 := n2_; have BK121 := n3_; have HB := n4_; clear n0_ n1_ n2_ n3_ n4_; clear hg hw hp_))
                                                          repeat (go_quiet (first | ((with_reducible refine gate_dst (N := 14) rfl ?_); refine box_event ?hg (N := 14) ?hd (cs := #[.int .i64 0, .int .i64 0]) (t := 82) ?hr ?_; (case hd => rfl); (case hg => rfl); (case hr => first | (go_simp; done) | (go_simp; rfl)); intro gb121 hg w79 hbox hb; have n0_ := Aside0.mk (Kd.R_below (by (with_reducible repeat (first | apply Kd.R_alloc | apply Kd.R_drewN | apply Kd.R_drew)); exact HO_5.out) hb); have n1_ := Aside0.mk (Kd.R_below (by (with_reducible repeat (first | apply Kd.R_alloc | apply Kd.R_drewN | apply Kd.R_drew)); exact HO_11.out) hb); have n2_ := Aside0.mk (blk_below (g := gb101) (o := .cells #[.int .i64 a0_0, .slice (some ad119) l0_1.length c0_1] 28 (0, 0)) (by (with_reducible repeat (first | refine blk_drewN ?_ _ | refine blk_drew ?_ | refine blk_alloc ?_ _)); exact BK101.out) hb); have n3_ := Aside0.mk (below_step (by repeat (first | (with_reducible first | exact HB.out | apply below_alloc | apply pw_below_drewN | apply below_drew1 | refine below_set ?_ GE101.out) | exact HB.out)) hb); have n4_ := Aside0.mk (hbox); have n5_ := Aside0.mk ((by rw [hg]; exact (below_size (by repeat (first | (with_reducible first | exact HB.out | apply below_alloc | apply pw_below_drewN | apply below_drew1 | refine below_set ?_ GE101.out) | exact HB.out))) : w.heap.size ≤ gb121)); have n6_ := Aside0.mk ((by rw [hg]; exact (below_size (by repeat (first | (with_reducible first | exact HB.out | apply below_alloc | apply pw_below_drewN | apply below_drew1 | refine below_set ?_ GE101.out) | exact HB.out))) : w.heap.size ≤ gb121)); have n7_ := Aside0.mk ((by rw [hg]; exact Nat.ne_of_lt (blk_lt (g := gb101) (o := .cells #[.int .i64 a0_0, .slice (some ad119) l0_1.length c0_1] 28 (0, 0)) (by (with_reducible repeat (first | refine blk_drewN ?_ _ | refine blk_drew ?_ | refine blk_alloc ?_ _)); exact BK101.out)) : gb101 ≠ gb121)); have n8_ := Aside0.mk ((by rw [hg]; exact Nat.ne_of_gt (blk_lt (g := gb101) (o := .cells #[.int .i64 a0_0, .slice (some ad119) l0_1.length c0_1] 28 (0, 0)) (by (with_reducible repeat (first | refine blk_drewN ?_ _ | refine blk_drew ?_ | refine blk_alloc ?_ _)); exact BK101.out)) : gb121 ≠ gb101)); clear HO_5; clear HO_11; clear BK101; clear HB; have HO_5 := n0_; have HO_11 := n1_; have BK101 := n2_; have HB := n3_; have BK121 := n4_; have GW121 := n5_; have GE121 := n6_; have NB101_121 := n7_; have NB121_101 := n8_; clear n0_ n1_ n2_ n3_ n4_ n5_ n6_ n7_ n8_; clear hb hbox hg; have hnb80 := NB121_101.out; have hnc80 := NB101_121.out; have hcz81_0 : w79.cell? ⟨gb121, 0, none⟩ = some (.int .i64 0) := (blk_cell BK121.out 0).trans rfl; have hcz81_1 : w79.cell? ⟨gb121, 1, none⟩ = some (.int .i64 0) := (blk_cell BK121.out 1).trans rfl; have hfz81_0 := blk_frozen BK121.out 0; have hfz81_1 := blk_frozen BK121.out 1) | ((with_reducible refine gate_store (t := 82) (p := 14) rfl ?_); (try (rw [drewN_self w79]; generalize hq_ : World.drewN w79 _ = w79; have n0_ := Aside0.mk (Kd.R_at hq_ HO_5.out); have n1_ := Aside0.mk (Kd.R_at hq_ HO_11.out); have n2_ := Aside0.mk (blk_at hq_ BK101.out); have n3_ := Aside0.mk (blk_at hq_ BK121.out); have n4_ := Aside0.mk (below_at hq_ HB.out); clear hq_ HO_5 HO_11 BK101 BK121 HB; have HO_5 := n0_; have HO_11 := n1_; have BK101 := n2_; have BK121 := n3_; have HB := n4_; clear n0_ n1_ n2_ n3_ n4_)); refine store_event (t := 82) (p := 14) (v := ?vo_w82) (w1 := ((w79.setCell ⟨gb121, 0, none⟩ (.int .i64 ((rd_T82 (rd_L2 l0_1 x12_3) x13_4).f0))).setCell ⟨gb121, 1, none⟩ (.int .i64 ((rd_T82 (rd_L2 l0_1 x12_3) x13_4).f1)))) ?hg ?ho ?hn ?hr ?_; (case ho => rfl); (case hg => rfl); (case hn => rfl); (case hr => first | (go_simp; done) | (go_simp; rfl)); intro w82 hw; have n0_ : Aside0 (Kd.R Kd.bool 4 w82 w.heap.size (fun k_ => some k_ ≠ (v115 : Value).ownBlock) (.slice Ao56 x5_2.length co56) x5_2) := ⟨(by rw [hw]; exact (by (with_reducible repeat (first | apply Kd.R_alloc | apply Kd.R_drewN | apply Kd.R_drew)); exact Kd.R_mono (Kd.R_far (p := ⟨gb121, 1, none⟩) (Kd.R_far (p := ⟨gb121, 0, none⟩) (Kd.R_types HO_5.out BK121.out (by decide)) (fun _ hk => hk.2) (.int .i64 ((rd_T82 (rd_L2 l0_1 x12_3) x13_4).f0))) (fun _ hk => hk.2) (.int .i64 ((rd_T82 (rd_L2 l0_1 x12_3) x13_4).f1))) (fun _ hk => hk.1)))⟩; have n1_ : Aside0 (Kd.R Kd.bool 4 w82 w.heap.size (fun k_ => some k_ ≠ (.slice Ao56 x5_2.length co56 : Value).ownBlock) v115 x11_4) := ⟨(by rw [hw]; exact (by (with_reducible repeat (first | apply Kd.R_alloc | apply Kd.R_drewN | apply Kd.R_drew)); exact Kd.R_mono (Kd.R_far (p := ⟨gb121, 1, none⟩) (Kd.R_far (p := ⟨gb121, 0, none⟩) (Kd.R_types HO_11.out BK121.out (by decide)) (fun _ hk => hk.2) (.int .i64 ((rd_T82 (rd_L2 l0_1 x12_3) x13_4).f0))) (fun _ hk => hk.2) (.int .i64 ((rd_T82 (rd_L2 l0_1 x12_3) x13_4).f1))) (fun _ hk => hk.1)))⟩; have n2_ : Aside0 (w82.heap[gb101]? = some (.cells #[.int .i64 a0_0, .slice (some ad119) l0_1.length c0_1] 28 (0, 0))) := ⟨(by rw [hw]; exact (by (with_reducible repeat (first | refine blk_drewN ?_ _ | refine blk_drew ?_ | refine blk_alloc ?_ _)); refine blk_far ?_ NB101_121.out _; (with_reducible repeat (first | refine blk_drewN ?_ _ | refine blk_drew ?_ | refine blk_alloc ?_ _)); refine blk_far ?_ NB101_121.out _; (with_reducible repeat (first | refine blk_drewN ?_ _ | refine blk_drew ?_ | refine blk_alloc ?_ _)); exact BK101.out))⟩; have n3_ : Aside0 (w82.heap[gb121]? = some (.cells #[.int .i64 ((rd_T82 (rd_L2 l0_1 x12_3) x13_4).f0), .int .i64 ((rd_T82 (rd_L2 l0_1 x12_3) x13_4).f1)] 82 (0, 0))) := ⟨(by rw [hw]; exact (by (with_reducible repeat (first | refine blk_drewN ?_ _ | refine blk_drew ?_ | refine blk_alloc ?_ _)); refine blk_put (cs := #[.int .i64 ((rd_T82 (rd_L2 l0_1 x12_3) x13_4).f0), .int .i64 0]) ?_ 1 _ rfl; (with_reducible repeat (first | refine blk_drewN ?_ _ | refine blk_drew ?_ | refine blk_alloc ?_ _)); refine blk_put (cs := #[.int .i64 0, .int .i64 0]) ?_ 0 _ rfl; (with_reducible repeat (first | refine blk_drewN ?_ _ | refine blk_drew ?_ | refine blk_alloc ?_ _)); exact BK121.out))⟩; have n4_ : Aside0 (Below w.heap.size w w82) := ⟨(by rw [hw]; exact (by repeat (first | (with_reducible first | exact HB.out | apply below_alloc | apply pw_below_drewN | apply below_drew1 | refine below_set ?_ GE101.out | refine below_set ?_ GE121.out) | exact HB.out)))⟩; clear hw; clear HO_5; clear HO_11; clear BK101; clear BK121; clear HB; have HO_5 := n0_; have HO_11 := n1_; have BK101 := n2_; have BK121 := n3_; have HB := n4_; clear n0_ n1_ n2_ n3_ n4_; have hcz83_0 : w82.cell? ⟨gb121, 0, none⟩ = some (.int .i64 ((rd_T82 (rd_L2 l0_1 x12_3) x13_4).f0)) := (blk_cell BK121.out 0).trans rfl; have hcz83_1 : w82.cell? ⟨gb121, 1, none⟩ = some (.int .i64 ((rd_T82 (rd_L2 l0_1 x12_3) x13_4).f1)) := (blk_cell BK121.out 1).trans rfl; have hfz83_0 := blk_frozen BK121.out 0; have hfz83_1 := blk_frozen BK121.out 1; have p122 : 0 ≤ (x6_1 : Int) := of_decide_eq_true (by first | (with_reducible assumption) | assumption); have q122 : x6_1 < (l1.length : Int) := of_decide_eq_true (by first | (with_reducible assumption) | assumption); obtain ⟨ad122, e122, hx122_0⟩ := Kd.at_int HR1.out x6_1 p122 q122; cases e122; replace hx122_0 := (HB.out.cell (World.block_lt_of_cell? w _ hx122_0)).trans hx122_0; replace p122 := eq_true p122; replace q122 := eq_true q122; have p77 : 0 ≤ (((rd_T82 (rd_L2 l0_1 x12_3) x13_4).f1) : Int) := of_decide_eq_true (by first | (with_reducible assumption) | assumption); have q77 : (((rd_T82 (rd_L2 l0_1 x12_3) x13_4).f1) : Int) < ((x11_4.length : Int) : Int) := of_decide_eq_true (by first | (with_reducible assumption) | assumption); obtain ⟨go77, co77, eo77, gb77, gl77, cl77, HG77⟩ := Kd.R_form HO_11.out (by omega); (first | cases eo77 | (injection eo77 with ea_ en_ ec_; (first | subst ea_ | (injection ea_ with ea_; subst ea_)); subst ec_; clear en_)); have GB77 := Aside0.mk gb77; have GG77 := Aside0.mk HG77; clear gb77 gl77 HG77; obtain ⟨hx77_0, hf77_0⟩ := Kd.R_celln false HO_11.out (((rd_T82 (rd_L2 l0_1 x12_3) x13_4).f1) : Int) p77 q77; replace p77 := eq_true p77; replace q77 := eq_true q77; obtain ⟨hy84_, hz84_⟩ := Kd.R_celln false HO_11.out (((rd_T82 (rd_L2 l0_1 x12_3) x13_4).f1) : Int) (of_decide_eq_true (by first | (with_reducible assumption) | assumption)) (of_decide_eq_true (by first | (with_reducible assumption) | assumption)); have HP84 := Kd.R_putg HO_11.out (((rd_T82 (rd_L2 l0_1 x12_3) x13_4).f1) : Int) true) | ((with_reducible refine gate_store (t := 4) (p := 119) rfl ?_); (try (rw [drewN_self w82]; generalize hq_ : World.drewN w82 _ = w82; have n0_ := Aside0.mk (Kd.R_at hq_ HO_5.out); have n1_ := Aside0.mk (Kd.R_at hq_ HO_11.out); have n2_ := Aside0.mk (blk_at hq_ BK101.out); have n3_ := Aside0.mk (blk_at hq_ BK121.out); have n4_ := Aside0.mk (below_at hq_ HB.out); clear hq_ HO_5 HO_11 BK101 BK121 HB; have HO_5 := n0_; have HO_11 := n1_; have BK101 := n2_; have BK121 := n3_; have HB := n4_; clear n0_ n1_ n2_ n3_ n4_; (try (obtain ⟨hy84_, hz84_⟩ := Kd.R_celln false HO_11.out (((rd_T82 (rd_L2 l0_1 x12_3) x13_4).f1) : Int) (of_decide_eq_true (by first | (with_reducible assumption) | assumption)) (of_decide_eq_true (by first | (with_reducible assumption) | assumption)))); (try (have HP84 := Kd.R_putg HO_11.out (((rd_T82 (rd_L2 l0_1 x12_3) x13_4).f1) : Int) true)))); refine store_event (t := 4) (p := 119) (v := ?vo_w85) (w1 := (w82.setCell ⟨go77, (((rd_T82 (rd_L2 l0_1 x12_3) x13_4).f1) : Int).toNat, none⟩ (.bool true))) ?hg ?ho ?hn ?hr ?_; (case ho => rfl); (case hg => rfl); (case hn => rfl); (case hr => first | (go_simp; done) | (go_simp; rfl)); intro w85 hw; have hg : w82.grownBy w85 (some go77) := (by rw [hw]; exact HP84.2); have hp_ : Kd.R Kd.bool 4 w85 w.heap.size (fun k_ => some k_ ≠ (.slice Ao56 x5_2.length co56 : Value).ownBlock) (.slice (some ⟨go77, 0, none⟩) x11_4.length co77) y123 := (by rw [hw, Ny123.out]; exact HP84.1); clear HP84; have n0_ := Aside0.mk (Kd.R_after (v := (.slice (some ⟨go77, 0, none⟩) x11_4.length co77)) (v1 := (.slice (some ⟨go77, 0, none⟩) x11_4.length co77)) (ok := (fun _ => True)) (by (with_reducible repeat (first | apply Kd.R_alloc | apply Kd.R_drewN | apply Kd.R_drew)); exact Kd.R_mono HO_5.out (fun _ hk => ⟨trivial, hk⟩)) hg (.inl rfl)); have n1_ := Aside0.mk (hp_); have n2_ := Aside0.mk (blk_grown (g := gb101) (o := .cells #[.int .i64 a0_0, .slice (some ad119) l0_1.length c0_1] 28 (0, 0)) (by (with_reducible repeat (first | refine blk_drewN ?_ _ | refine blk_drew ?_ | refine blk_alloc ?_ _)); exact BK101.out) hg (Kd.R_ne HO_11.out BK101.out (by decide))); have n3_ := Aside0.mk (blk_grown (g := gb121) (o := .cells #[.int .i64 ((rd_T82 (rd_L2 l0_1 x12_3) x13_4).f0), .int .i64 ((rd_T82 (rd_L2 l0_1 x12_3) x13_4).f1)] 82 (0, 0)) (by (with_reducible repeat (first | refine blk_drewN ?_ _ | refine blk_drew ?_ | refine blk_alloc ?_ _)); exact BK121.out) hg (Kd.R_ne HO_11.out BK121.out (by decide))); have n4_ := Aside0.mk ((by rw [hw]; exact below_set (HB.out) GB77.out : Below w.heap.size w w85)); clear HO_5; clear HO_11; clear BK101; clear BK121; clear HB; have HO_5 := n0_; have HO_11 := n1_; have BK101 := n2_; have BK121 := n3_; have HB := n4_; clear n0_ n1_ n2_ n3_ n4_; clear hg hw hp_)); try go_wp2_with (first | ((with_reducible refine gate_dst (N := 14) rfl ?_); refine box_event ?hg (N := 14) ?hd (cs := #[.int .i64 0, .int .i64 0]) (t := 82) ?hr ?_; (case hd => rfl); (case hg => rfl); (case hr => first | (go_simp; done) | (go_simp; rfl)); intro gb121 hg w79 hbox hb; have n0_ := Aside0.mk (Kd.R_below (by (with_reducible repeat (first | apply Kd.R_alloc | apply Kd.R_drewN | apply Kd.R_drew)); exact HO_5.out) hb); have n1_ := Aside0.mk (Kd.R_below (by (with_reducible repeat (first | apply Kd.R_alloc | apply Kd.R_drewN | apply Kd.R_drew)); exact HO_11.out) hb); have n2_ := Aside0.mk (blk_below (g := gb101) (o := .cells #[.int .i64 a0_0, .slice (some ad119) l0_1.length c0_1] 28 (0, 0)) (by (with_reducible repeat (first | refine blk_drewN ?_ _ | refine blk_drew ?_ | refine blk_alloc ?_ _)); exact BK101.out) hb); have n3_ := Aside0.mk (below_step (by repeat (first | (with_reducible first | exact HB.out | apply below_alloc | apply pw_below_drewN | apply below_drew1 | refine below_set ?_ GE101.out) | exact HB.out)) hb); have n4_ := Aside0.mk (hbox); have n5_ := Aside0.mk ((by rw [hg]; exact (below_size (by repeat (first | (with_reducible first | exact HB.out | apply below_alloc | apply pw_below_drewN | apply below_drew1 | refine below_set ?_ GE101.out) | exact HB.out))) : w.heap.size ≤ gb121)); have n6_ := Aside0.mk ((by rw [hg]; exact (below_size (by repeat (first | (with_reducible first | exact HB.out | apply below_alloc | apply pw_below_drewN | apply below_drew1 | refine below_set ?_ GE101.out) | exact HB.out))) : w.heap.size ≤ gb121)); have n7_ := Aside0.mk ((by rw [hg]; exact Nat.ne_of_lt (blk_lt (g := gb101) (o := .cells #[.int .i64 a0_0, .slice (some ad119) l0_1.length c0_1] 28 (0, 0)) (by (with_reducible repeat (first | refine blk_drewN ?_ _ | refine blk_drew ?_ | refine blk_alloc ?_ _)); exact BK101.out)) : gb101 ≠ gb121)); have n8_ := Aside0.mk ((by rw [hg]; exact Nat.ne_of_gt (blk_lt (g := gb101) (o := .cells #[.int .i64 a0_0, .slice (some ad119) l0_1.length c0_1] 28 (0, 0)) (by (with_reducible repeat (first | refine blk_drewN ?_ _ | refine blk_drew ?_ | refine blk_alloc ?_ _)); exact BK101.out)) : gb121 ≠ gb101)); clear HO_5; clear HO_11; clear BK101; clear HB; have HO_5 := n0_; have HO_11 := n1_; have BK101 := n2_; have HB := n3_; have BK121 := n4_; have GW121 := n5_; have GE121 := n6_; have NB101_121 := n7_; have NB121_101 := n8_; clear n0_ n1_ n2_ n3_ n4_ n5_ n6_ n7_ n8_; clear hb hbox hg; have hnb80 := NB121_101.out; have hnc80 := NB101_121.out; have hcz81_0 : w79.cell? ⟨gb121, 0, none⟩ = some (.int .i64 0) := (blk_cell BK121.out 0).trans rfl; have hcz81_1 : w79.cell? ⟨gb121, 1, none⟩ = some (.int .i64 0) := (blk_cell BK121.out 1).trans rfl; have hfz81_0 := blk_frozen BK121.out 0; have hfz81_1 := blk_frozen BK121.out 1) | ((with_reducible refine gate_store (t := 82) (p := 14) rfl ?_); (try (rw [drewN_self w79]; generalize hq_ : World.drewN w79 _ = w79; have n0_ := Aside0.mk (Kd.R_at hq_ HO_5.out); have n1_ := Aside0.mk (Kd.R_at hq_ HO_11.out); have n2_ := Aside0.mk (blk_at hq_ BK101.out); have n3_ := Aside0.mk (blk_at hq_ BK121.out); have n4_ := Aside0.mk (below_at hq_ HB.out); clear hq_ HO_5 HO_11 BK101 BK121 HB; have HO_5 := n0_; have HO_11 := n1_; have BK101 := n2_; have BK121 := n3_; have HB := n4_; clear n0_ n1_ n2_ n3_ n4_)); refine store_event (t := 82) (p := 14) (v := ?vo_w82) (w1 := ((w79.setCell ⟨gb121, 0, none⟩ (.int .i64 ((rd_T82 (rd_L2 l0_1 x12_3) x13_4).f0))).setCell ⟨gb121, 1, none⟩ (.int .i64 ((rd_T82 (rd_L2 l0_1 x12_3) x13_4).f1)))) ?hg ?ho ?hn ?hr ?_; (case ho => rfl); (case hg => rfl); (case hn => rfl); (case hr => first | (go_simp; done) | (go_simp; rfl)); intro w82 hw; have n0_ : Aside0 (Kd.R Kd.bool 4 w82 w.heap.size (fun k_ => some k_ ≠ (v115 : Value).ownBlock) (.slice Ao56 x5_2.length co56) x5_2) := ⟨(by rw [hw]; exact (by (with_reducible repeat (first | apply Kd.R_alloc | apply Kd.R_drewN | apply Kd.R_drew)); exact Kd.R_mono (Kd.R_far (p := ⟨gb121, 1, none⟩) (Kd.R_far (p := ⟨gb121, 0, none⟩) (Kd.R_types HO_5.out BK121.out (by decide)) (fun _ hk => hk.2) (.int .i64 ((rd_T82 (rd_L2 l0_1 x12_3) x13_4).f0))) (fun _ hk => hk.2) (.int .i64 ((rd_T82 (rd_L2 l0_1 x12_3) x13_4).f1))) (fun _ hk => hk.1)))⟩; have n1_ : Aside0 (Kd.R Kd.bool 4 w82 w.heap.size (fun k_ => some k_ ≠ (.slice Ao56 x5_2.length co56 : Value).ownBlock) v115 x11_4) := ⟨(by rw [hw]; exact (by (with_reducible repeat (first | apply Kd.R_alloc | apply Kd.R_drewN | apply Kd.R_drew)); exact Kd.R_mono (Kd.R_far (p := ⟨gb121, 1, none⟩) (Kd.R_far (p := ⟨gb121, 0, none⟩) (Kd.R_types HO_11.out BK121.out (by decide)) (fun _ hk => hk.2) (.int .i64 ((rd_T82 (rd_L2 l0_1 x12_3) x13_4).f0))) (fun _ hk => hk.2) (.int .i64 ((rd_T82 (rd_L2 l0_1 x12_3) x13_4).f1))) (fun _ hk => hk.1)))⟩; have n2_ : Aside0 (w82.heap[gb101]? = some (.cells #[.int .i64 a0_0, .slice (some ad119) l0_1.length c0_1] 28 (0, 0))) := ⟨(by rw [hw]; exact (by (with_reducible repeat (first | refine blk_drewN ?_ _ | refine blk_drew ?_ | refine blk_alloc ?_ _)); refine blk_far ?_ NB101_121.out _; (with_reducible repeat (first | refine blk_drewN ?_ _ | refine blk_drew ?_ | refine blk_alloc ?_ _)); refine blk_far ?_ NB101_121.out _; (with_reducible repeat (first | refine blk_drewN ?_ _ | refine blk_drew ?_ | refine blk_alloc ?_ _)); exact BK101.out))⟩; have n3_ : Aside0 (w82.heap[gb121]? = some (.cells #[.int .i64 ((rd_T82 (rd_L2 l0_1 x12_3) x13_4).f0), .int .i64 ((rd_T82 (rd_L2 l0_1 x12_3) x13_4).f1)] 82 (0, 0))) := ⟨(by rw [hw]; exact (by (with_reducible repeat (first | refine blk_drewN ?_ _ | refine blk_drew ?_ | refine blk_alloc ?_ _)); refine blk_put (cs := #[.int .i64 ((rd_T82 (rd_L2 l0_1 x12_3) x13_4).f0), .int .i64 0]) ?_ 1 _ rfl; (with_reducible repeat (first | refine blk_drewN ?_ _ | refine blk_drew ?_ | refine blk_alloc ?_ _)); refine blk_put (cs := #[.int .i64 0, .int .i64 0]) ?_ 0 _ rfl; (with_reducible repeat (first | refine blk_drewN ?_ _ | refine blk_drew ?_ | refine blk_alloc ?_ _)); exact BK121.out))⟩; have n4_ : Aside0 (Below w.heap.size w w82) := ⟨(by rw [hw]; exact (by repeat (first | (with_reducible first | exact HB.out | apply below_alloc | apply pw_below_drewN | apply below_drew1 | refine below_set ?_ GE101.out | refine below_set ?_ GE121.out) | exact HB.out)))⟩; clear hw; clear HO_5; clear HO_11; clear BK101; clear BK121; clear HB; have HO_5 := n0_; have HO_11 := n1_; have BK101 := n2_; have BK121 := n3_; have HB := n4_; clear n0_ n1_ n2_ n3_ n4_; have hcz83_0 : w82.cell? ⟨gb121, 0, none⟩ = some (.int .i64 ((rd_T82 (rd_L2 l0_1 x12_3) x13_4).f0)) := (blk_cell BK121.out 0).trans rfl; have hcz83_1 : w82.cell? ⟨gb121, 1, none⟩ = some (.int .i64 ((rd_T82 (rd_L2 l0_1 x12_3) x13_4).f1)) := (blk_cell BK121.out 1).trans rfl; have hfz83_0 := blk_frozen BK121.out 0; have hfz83_1 := blk_frozen BK121.out 1; have p122 : 0 ≤ (x6_1 : Int) := of_decide_eq_true (by first | (with_reducible assumption) | assumption); have q122 : x6_1 < (l1.length : Int) := of_decide_eq_true (by first | (with_reducible assumption) | assumption); obtain ⟨ad122, e122, hx122_0⟩ := Kd.at_int HR1.out x6_1 p122 q122; cases e122; replace hx122_0 := (HB.out.cell (World.block_lt_of_cell? w _ hx122_0)).trans hx122_0; replace p122 := eq_true p122; replace q122 := eq_true q122; have p77 : 0 ≤ (((rd_T82 (rd_L2 l0_1 x12_3) x13_4).f1) : Int) := of_decide_eq_true (by first | (with_reducible assumption) | assumption); have q77 : (((rd_T82 (rd_L2 l0_1 x12_3) x13_4).f1) : Int) < ((x11_4.length : Int) : Int) := of_decide_eq_true (by first | (with_reducible assumption) | assumption); obtain ⟨go77, co77, eo77, gb77, gl77, cl77, HG77⟩ := Kd.R_form HO_11.out (by omega); (first | cases eo77 | (injection eo77 with ea_ en_ ec_; (first | subst ea_ | (injection ea_ with ea_; subst ea_)); subst ec_; clear en_)); have GB77 := Aside0.mk gb77; have GG77 := Aside0.mk HG77; clear gb77 gl77 HG77; obtain ⟨hx77_0, hf77_0⟩ := Kd.R_celln false HO_11.out (((rd_T82 (rd_L2 l0_1 x12_3) x13_4).f1) : Int) p77 q77; replace p77 := eq_true p77; replace q77 := eq_true q77; obtain ⟨hy84_, hz84_⟩ := Kd.R_celln false HO_11.out (((rd_T82 (rd_L2 l0_1 x12_3) x13_4).f1) : Int) (of_decide_eq_true (by first | (with_reducible assumption) | assumption)) (of_decide_eq_true (by first | (with_reducible assumption) | assumption)); have HP84 := Kd.R_putg HO_11.out (((rd_T82 (rd_L2 l0_1 x12_3) x13_4).f1) : Int) true) | ((with_reducible refine gate_store (t := 4) (p := 119) rfl ?_); (try (rw [drewN_self w82]; generalize hq_ : World.drewN w82 _ = w82; have n0_ := Aside0.mk (Kd.R_at hq_ HO_5.out); have n1_ := Aside0.mk (Kd.R_at hq_ HO_11.out); have n2_ := Aside0.mk (blk_at hq_ BK101.out); have n3_ := Aside0.mk (blk_at hq_ BK121.out); have n4_ := Aside0.mk (below_at hq_ HB.out); clear hq_ HO_5 HO_11 BK101 BK121 HB; have HO_5 := n0_; have HO_11 := n1_; have BK101 := n2_; have BK121 := n3_; have HB := n4_; clear n0_ n1_ n2_ n3_ n4_; (try (obtain ⟨hy84_, hz84_⟩ := Kd.R_celln false HO_11.out (((rd_T82 (rd_L2 l0_1 x12_3) x13_4).f1) : Int) (of_decide_eq_true (by first | (with_reducible assumption) | assumption)) (of_decide_eq_true (by first | (with_reducible assumption) | assumption)))); (try (have HP84 := Kd.R_putg HO_11.out (((rd_T82 (rd_L2 l0_1 x12_3) x13_4).f1) : Int) true)))); refine store_event (t := 4) (p := 119) (v := ?vo_w85) (w1 := (w82.setCell ⟨go77, (((rd_T82 (rd_L2 l0_1 x12_3) x13_4).f1) : Int).toNat, none⟩ (.bool true))) ?hg ?ho ?hn ?hr ?_; (case ho => rfl); (case hg => rfl); (case hn => rfl); (case hr => first | (go_simp; done) | (go_simp; rfl)); intro w85 hw; have hg : w82.grownBy w85 (some go77) := (by rw [hw]; exact HP84.2); have hp_ : Kd.R Kd.bool 4 w85 w.heap.size (fun k_ => some k_ ≠ (.slice Ao56 x5_2.length co56 : Value).ownBlock) (.slice (some ⟨go77, 0, none⟩) x11_4.length co77) y123 := (by rw [hw, Ny123.out]; exact HP84.1); clear HP84; have n0_ := Aside0.mk (Kd.R_after (v := (.slice (some ⟨go77, 0, none⟩) x11_4.length co77)) (v1 := (.slice (some ⟨go77, 0, none⟩) x11_4.length co77)) (ok := (fun _ => True)) (by (with_reducible repeat (first | apply Kd.R_alloc | apply Kd.R_drewN | apply Kd.R_drew)); exact Kd.R_mono HO_5.out (fun _ hk => ⟨trivial, hk⟩)) hg (.inl rfl)); have n1_ := Aside0.mk (hp_); have n2_ := Aside0.mk (blk_grown (g := gb101) (o := .cells #[.int .i64 a0_0, .slice (some ad119) l0_1.length c0_1] 28 (0, 0)) (by (with_reducible repeat (first | refine blk_drewN ?_ _ | refine blk_drew ?_ | refine blk_alloc ?_ _)); exact BK101.out) hg (Kd.R_ne HO_11.out BK101.out (by decide))); have n3_ := Aside0.mk (blk_grown (g := gb121) (o := .cells #[.int .i64 ((rd_T82 (rd_L2 l0_1 x12_3) x13_4).f0), .int .i64 ((rd_T82 (rd_L2 l0_1 x12_3) x13_4).f1)] 82 (0, 0)) (by (with_reducible repeat (first | refine blk_drewN ?_ _ | refine blk_drew ?_ | refine blk_alloc ?_ _)); exact BK121.out) hg (Kd.R_ne HO_11.out BK121.out (by decide))); have n4_ := Aside0.mk ((by rw [hw]; exact below_set (HB.out) GB77.out : Below w.heap.size w w85)); clear HO_5; clear HO_11; clear BK101; clear BK121; clear HB; have HO_5 := n0_; have HO_11 := n1_; have BK101 := n2_; have BK121 := n3_; have HB := n4_; clear n0_ n1_ n2_ n3_ n4_; clear hg hw hp_)))
                                                          go_roundg kj59
                                                          case measure => have := HK1.out; have := HK2.out; have := HK3.out; have := HK4.out; have := HJ59.out; omega
                                                          case rel => exact ⟨(y123), (wrap64 (x13_4 + 1)), (by first | rfl | (simp; done) | (simp [*]; done)), H', ⟨by have := HK1.out; have := HK2.out; have := HK3.out; have := HK4.out; have := HJ59.out; omega⟩, ⟨by (with_reducible repeat (first | apply Kd.R_alloc | apply Kd.R_drewN | apply Kd.R_drew)); exact Kd.R_mono HO_5.out (fun _ hk => hk.2)⟩, ⟨by (with_reducible repeat (first | apply Kd.R_alloc | apply Kd.R_drewN | apply Kd.R_drew)); exact HO_11.out⟩, ⟨by (with_reducible repeat (first | refine blk_drewN ?_ _ | refine blk_drew ?_ | refine blk_alloc ?_ _)); exact BK101.out⟩, ⟨by repeat (first | (with_reducible first | exact HB.out | apply below_alloc | apply pw_below_drewN | apply below_drew1 | refine below_set ?_ GE101.out | refine below_set ?_ GE121.out) | exact HB.out)⟩⟩
                                                        · rw [if_neg c76] at H
                                                          exact absurd H (by simp)
                                                      · rw [if_neg c75] at H
                                                        exact absurd H (by simp)
                                                    · rw [if_neg c74] at H
                                                      have c74b0 : (((rd_T82 (rd_L2 l0_1 x12_3) x13_4).f0) == (rd l1 x6_1)) = false := beq_eq_false_iff_ne.mpr c74
                                                      have c74b1 : (((rd_T82 (rd_L2 l0_1 x12_3) x13_4).f0) != (rd l1 x6_1)) = true := bne_iff_ne.mpr c74
                                                      have H' := Aside0.mk H
                                                      clear H
                                                      have hcz86_0 : wc.cell? ⟨gb101, 0, none⟩ = some (.int .i64 a0_0) := (blk_cell BK101.out 0).trans rfl
                                                      have hcz86_1 : wc.cell? ⟨gb101, 1, none⟩ = some (.slice A0_1 l0_1.length c0_1) := (blk_cell BK101.out 1).trans rfl
                                                      have hfz86_0 := blk_frozen BK101.out 0
                                                      have hfz86_1 := blk_frozen BK101.out 1
                                                      have p119 : 0 ≤ (x12_3 : Int) := of_decide_eq_true (by first | (with_reducible assumption) | assumption)
                                                      have q119 : x12_3 < (l0_1.length : Int) := of_decide_eq_true (by first | (with_reducible assumption) | assumption)
                                                      obtain ⟨ad119, A119_0, c119_0, e119, hx119_0, hl119_0, hi119_0⟩ := at_L2 HR0_1.out x12_3 p119 q119
                                                      cases e119
                                                      replace hx119_0 := (HB.out.cell (World.block_lt_of_cell? w _ hx119_0)).trans hx119_0
                                                      have HR119_0 := Aside0.mk hi119_0
                                                      have HC119_0 := Aside0.mk hl119_0
                                                      clear hi119_0 hl119_0
                                                      replace p119 := eq_true p119
                                                      replace q119 := eq_true q119
                                                      have p120 : 0 ≤ (x13_4 : Int) := of_decide_eq_true (by first | (with_reducible assumption) | assumption)
                                                      have q120 : x13_4 < ((rd_L2 l0_1 x12_3).length : Int) := of_decide_eq_true (by first | (with_reducible assumption) | assumption)
                                                      obtain ⟨ad120, e120, hx120_0, hx120_1⟩ := at_T82 HR119_0.out x13_4 p120 q120
                                                      cases e120
                                                      replace hx120_0 := (HB.out.cell (World.block_lt_of_cell? w _ hx120_0)).trans hx120_0
                                                      replace hx120_1 := (HB.out.cell (World.block_lt_of_cell? w _ hx120_1)).trans hx120_1
                                                      replace p120 := eq_true p120
                                                      replace q120 := eq_true q120
                                                      go_wp2_with (first | ((with_reducible refine gate_dst (N := 14) rfl ?_); refine box_event ?hg (N := 14) ?hd (cs := #[.int .i64 0, .int .i64 0]) (t := 82) ?hr ?_; (case hd => rfl); (case hg => rfl); (case hr => first | (go_simp; done) | (go_simp; rfl)); intro gb121 hg w87 hbox hb; have n0_ := Aside0.mk (Kd.R_below (by (with_reducible repeat (first | apply Kd.R_alloc | apply Kd.R_drewN | apply Kd.R_drew)); exact HO_5.out) hb); have n1_ := Aside0.mk (Kd.R_below (by (with_reducible repeat (first | apply Kd.R_alloc | apply Kd.R_drewN | apply Kd.R_drew)); exact HO_11.out) hb); have n2_ := Aside0.mk (blk_below (g := gb101) (o := .cells #[.int .i64 a0_0, .slice (some ad119) l0_1.length c0_1] 28 (0, 0)) (by (with_reducible repeat (first | refine blk_drewN ?_ _ | refine blk_drew ?_ | refine blk_alloc ?_ _)); exact BK101.out) hb); have n3_ := Aside0.mk (below_step (by repeat (first | (with_reducible first | exact HB.out | apply below_alloc | apply pw_below_drewN | apply below_drew1 | refine below_set ?_ GE101.out) | exact HB.out)) hb); have n4_ := Aside0.mk (hbox); have n5_ := Aside0.mk ((by rw [hg]; exact (below_size (by repeat (first | (with_reducible first | exact HB.out | apply below_alloc | apply pw_below_drewN | apply below_drew1 | refine below_set ?_ GE101.out) | exact HB.out))) : w.heap.size ≤ gb121)); have n6_ := Aside0.mk ((by rw [hg]; exact (below_size (by repeat (first | (with_reducible first | exact HB.out | apply below_alloc | apply pw_below_drewN | apply below_drew1 | refine below_set ?_ GE101.out) | exact HB.out))) : w.heap.size ≤ gb121)); have n7_ := Aside0.mk ((by rw [hg]; exact Nat.ne_of_lt (blk_lt (g := gb101) (o := .cells #[.int .i64 a0_0, .slice (some ad119) l0_1.length c0_1] 28 (0, 0)) (by (with_reducible repeat (first | refine blk_drewN ?_ _ | refine blk_drew ?_ | refine blk_alloc ?_ _)); exact BK101.out)) : gb101 ≠ gb121)); have n8_ := Aside0.mk ((by rw [hg]; exact Nat.ne_of_gt (blk_lt (g := gb101) (o := .cells #[.int .i64 a0_0, .slice (some ad119) l0_1.length c0_1] 28 (0, 0)) (by (with_reducible repeat (first | refine blk_drewN ?_ _ | refine blk_drew ?_ | refine blk_alloc ?_ _)); exact BK101.out)) : gb121 ≠ gb101)); clear HO_5; clear HO_11; clear BK101; clear HB; have HO_5 := n0_; have HO_11 := n1_; have BK101 := n2_; have HB := n3_; have BK121 := n4_; have GW121 := n5_; have GE121 := n6_; have NB101_121 := n7_; have NB121_101 := n8_; clear n0_ n1_ n2_ n3_ n4_ n5_ n6_ n7_ n8_; clear hb hbox hg; have hnb88 := NB121_101.out; have hnc88 := NB101_121.out; have hcz89_0 : w87.cell? ⟨gb121, 0, none⟩ = some (.int .i64 0) := (blk_cell BK121.out 0).trans rfl; have hcz89_1 : w87.cell? ⟨gb121, 1, none⟩ = some (.int .i64 0) := (blk_cell BK121.out 1).trans rfl; have hfz89_0 := blk_frozen BK121.out 0; have hfz89_1 := blk_frozen BK121.out 1; have p122 : 0 ≤ (x6_1 : Int) := of_decide_eq_true (by first | (with_reducible assumption) | assumption); have q122 : x6_1 < (l1.length : Int) := of_decide_eq_true (by first | (with_reducible assumption) | assumption); obtain ⟨ad122, e122, hx122_0⟩ := Kd.at_int HR1.out x6_1 p122 q122; cases e122; have hn122_0 : ad122.block ≠ gb121 := Nat.ne_of_lt (Nat.lt_of_lt_of_le (by have := World.block_lt_of_cell? _ _ hx122_0; first | rwa [add_block] at this | exact this) GW121.out); have hn122_1 : ad122.block ≠ gb121 := Nat.ne_of_lt (Nat.lt_of_lt_of_le (by have := World.block_lt_of_cell? _ _ hx122_0; first | rwa [add_block] at this | exact this) GW121.out); replace hx122_0 := (HB.out.cell (World.block_lt_of_cell? w _ hx122_0)).trans hx122_0; replace hx122_0 := (cell_far (p := ⟨gb121, 0, none⟩) (by first | (rw [add_block]; exact hn122_0) | (show (Addr.add _ _).block ≠ _; rw [add_block]; exact hn122_0) | exact hn122_0) (.int .i64 ((rd_T82 (rd_L2 l0_1 x12_3) x13_4).f0))).trans hx122_0; replace hx122_0 := (cell_far (p := ⟨gb121, 1, none⟩) (by first | (rw [add_block]; exact hn122_1) | (show (Addr.add _ _).block ≠ _; rw [add_block]; exact hn122_1) | exact hn122_1) (.int .i64 ((rd_T82 (rd_L2 l0_1 x12_3) x13_4).f1))).trans hx122_0; (try have hy122_0 := fun (n_ : Nat) => (show ((((w87.drewN n_).setCell ⟨gb121, 0, none⟩ (.int .i64 ((rd_T82 (rd_L2 l0_1 x12_3) x13_4).f0))).setCell ⟨gb121, 1, none⟩ (.int .i64 ((rd_T82 (rd_L2 l0_1 x12_3) x13_4).f1)))).cell? _ = some _ from hx122_0)); clear hn122_0; clear hn122_1; replace p122 := eq_true p122; replace q122 := eq_true q122))
                                                      repeat (go_quiet (first | ((with_reducible refine gate_dst (N := 14) rfl ?_); refine box_event ?hg (N := 14) ?hd (cs := #[.int .i64 0, .int .i64 0]) (t := 82) ?hr ?_; (case hd => rfl); (case hg => rfl); (case hr => first | (go_simp; done) | (go_simp; rfl)); intro gb121 hg w87 hbox hb; have n0_ := Aside0.mk (Kd.R_below (by (with_reducible repeat (first | apply Kd.R_alloc | apply Kd.R_drewN | apply Kd.R_drew)); exact HO_5.out) hb); have n1_ := Aside0.mk (Kd.R_below (by (with_reducible repeat (first | apply Kd.R_alloc | apply Kd.R_drewN | apply Kd.R_drew)); exact HO_11.out) hb); have n2_ := Aside0.mk (blk_below (g := gb101) (o := .cells #[.int .i64 a0_0, .slice (some ad119) l0_1.length c0_1] 28 (0, 0)) (by (with_reducible repeat (first | refine blk_drewN ?_ _ | refine blk_drew ?_ | refine blk_alloc ?_ _)); exact BK101.out) hb); have n3_ := Aside0.mk (below_step (by repeat (first | (with_reducible first | exact HB.out | apply below_alloc | apply pw_below_drewN | apply below_drew1 | refine below_set ?_ GE101.out) | exact HB.out)) hb); have n4_ := Aside0.mk (hbox); have n5_ := Aside0.mk ((by rw [hg]; exact (below_size (by repeat (first | (with_reducible first | exact HB.out | apply below_alloc | apply pw_below_drewN | apply below_drew1 | refine below_set ?_ GE101.out) | exact HB.out))) : w.heap.size ≤ gb121)); have n6_ := Aside0.mk ((by rw [hg]; exact (below_size (by repeat (first | (with_reducible first | exact HB.out | apply below_alloc | apply pw_below_drewN | apply below_drew1 | refine below_set ?_ GE101.out) | exact HB.out))) : w.heap.size ≤ gb121)); have n7_ := Aside0.mk ((by rw [hg]; exact Nat.ne_of_lt (blk_lt (g := gb101) (o := .cells #[.int .i64 a0_0, .slice (some ad119) l0_1.length c0_1] 28 (0, 0)) (by (with_reducible repeat (first | refine blk_drewN ?_ _ | refine blk_drew ?_ | refine blk_alloc ?_ _)); exact BK101.out)) : gb101 ≠ gb121)); have n8_ := Aside0.mk ((by rw [hg]; exact Nat.ne_of_gt (blk_lt (g := gb101) (o := .cells #[.int .i64 a0_0, .slice (some ad119) l0_1.length c0_1] 28 (0, 0)) (by (with_reducible repeat (first | refine blk_drewN ?_ _ | refine blk_drew ?_ | refine blk_alloc ?_ _)); exact BK101.out)) : gb121 ≠ gb101)); clear HO_5; clear HO_11; clear BK101; clear HB; have HO_5 := n0_; have HO_11 := n1_; have BK101 := n2_; have HB := n3_; have BK121 := n4_; have GW121 := n5_; have GE121 := n6_; have NB101_121 := n7_; have NB121_101 := n8_; clear n0_ n1_ n2_ n3_ n4_ n5_ n6_ n7_ n8_; clear hb hbox hg; have hnb88 := NB121_101.out; have hnc88 := NB101_121.out; have hcz89_0 : w87.cell? ⟨gb121, 0, none⟩ = some (.int .i64 0) := (blk_cell BK121.out 0).trans rfl; have hcz89_1 : w87.cell? ⟨gb121, 1, none⟩ = some (.int .i64 0) := (blk_cell BK121.out 1).trans rfl; have hfz89_0 := blk_frozen BK121.out 0; have hfz89_1 := blk_frozen BK121.out 1; have p122 : 0 ≤ (x6_1 : Int) := of_decide_eq_true (by first | (with_reducible assumption) | assumption); have q122 : x6_1 < (l1.length : Int) := of_decide_eq_true (by first | (with_reducible assumption) | assumption); obtain ⟨ad122, e122, hx122_0⟩ := Kd.at_int HR1.out x6_1 p122 q122; cases e122; have hn122_0 : ad122.block ≠ gb121 := Nat.ne_of_lt (Nat.lt_of_lt_of_le (by have := World.block_lt_of_cell? _ _ hx122_0; first | rwa [add_block] at this | exact this) GW121.out); have hn122_1 : ad122.block ≠ gb121 := Nat.ne_of_lt (Nat.lt_of_lt_of_le (by have := World.block_lt_of_cell? _ _ hx122_0; first | rwa [add_block] at this | exact this) GW121.out); replace hx122_0 := (HB.out.cell (World.block_lt_of_cell? w _ hx122_0)).trans hx122_0; replace hx122_0 := (cell_far (p := ⟨gb121, 0, none⟩) (by first | (rw [add_block]; exact hn122_0) | (show (Addr.add _ _).block ≠ _; rw [add_block]; exact hn122_0) | exact hn122_0) (.int .i64 ((rd_T82 (rd_L2 l0_1 x12_3) x13_4).f0))).trans hx122_0; replace hx122_0 := (cell_far (p := ⟨gb121, 1, none⟩) (by first | (rw [add_block]; exact hn122_1) | (show (Addr.add _ _).block ≠ _; rw [add_block]; exact hn122_1) | exact hn122_1) (.int .i64 ((rd_T82 (rd_L2 l0_1 x12_3) x13_4).f1))).trans hx122_0; (try have hy122_0 := fun (n_ : Nat) => (show ((((w87.drewN n_).setCell ⟨gb121, 0, none⟩ (.int .i64 ((rd_T82 (rd_L2 l0_1 x12_3) x13_4).f0))).setCell ⟨gb121, 1, none⟩ (.int .i64 ((rd_T82 (rd_L2 l0_1 x12_3) x13_4).f1)))).cell? _ = some _ from hx122_0)); clear hn122_0; clear hn122_1; replace p122 := eq_true p122; replace q122 := eq_true q122)); try go_wp2_with (first | ((with_reducible refine gate_dst (N := 14) rfl ?_); refine box_event ?hg (N := 14) ?hd (cs := #[.int .i64 0, .int .i64 0]) (t := 82) ?hr ?_; (case hd => rfl); (case hg => rfl); (case hr => first | (go_simp; done) | (go_simp; rfl)); intro gb121 hg w87 hbox hb; have n0_ := Aside0.mk (Kd.R_below (by (with_reducible repeat (first | apply Kd.R_alloc | apply Kd.R_drewN | apply Kd.R_drew)); exact HO_5.out) hb); have n1_ := Aside0.mk (Kd.R_below (by (with_reducible repeat (first | apply Kd.R_alloc | apply Kd.R_drewN | apply Kd.R_drew)); exact HO_11.out) hb); have n2_ := Aside0.mk (blk_below (g := gb101) (o := .cells #[.int .i64 a0_0, .slice (some ad119) l0_1.length c0_1] 28 (0, 0)) (by (with_reducible repeat (first | refine blk_drewN ?_ _ | refine blk_drew ?_ | refine blk_alloc ?_ _)); exact BK101.out) hb); have n3_ := Aside0.mk (below_step (by repeat (first | (with_reducible first | exact HB.out | apply below_alloc | apply pw_below_drewN | apply below_drew1 | refine below_set ?_ GE101.out) | exact HB.out)) hb); have n4_ := Aside0.mk (hbox); have n5_ := Aside0.mk ((by rw [hg]; exact (below_size (by repeat (first | (with_reducible first | exact HB.out | apply below_alloc | apply pw_below_drewN | apply below_drew1 | refine below_set ?_ GE101.out) | exact HB.out))) : w.heap.size ≤ gb121)); have n6_ := Aside0.mk ((by rw [hg]; exact (below_size (by repeat (first | (with_reducible first | exact HB.out | apply below_alloc | apply pw_below_drewN | apply below_drew1 | refine below_set ?_ GE101.out) | exact HB.out))) : w.heap.size ≤ gb121)); have n7_ := Aside0.mk ((by rw [hg]; exact Nat.ne_of_lt (blk_lt (g := gb101) (o := .cells #[.int .i64 a0_0, .slice (some ad119) l0_1.length c0_1] 28 (0, 0)) (by (with_reducible repeat (first | refine blk_drewN ?_ _ | refine blk_drew ?_ | refine blk_alloc ?_ _)); exact BK101.out)) : gb101 ≠ gb121)); have n8_ := Aside0.mk ((by rw [hg]; exact Nat.ne_of_gt (blk_lt (g := gb101) (o := .cells #[.int .i64 a0_0, .slice (some ad119) l0_1.length c0_1] 28 (0, 0)) (by (with_reducible repeat (first | refine blk_drewN ?_ _ | refine blk_drew ?_ | refine blk_alloc ?_ _)); exact BK101.out)) : gb121 ≠ gb101)); clear HO_5; clear HO_11; clear BK101; clear HB; have HO_5 := n0_; have HO_11 := n1_; have BK101 := n2_; have HB := n3_; have BK121 := n4_; have GW121 := n5_; have GE121 := n6_; have NB101_121 := n7_; have NB121_101 := n8_; clear n0_ n1_ n2_ n3_ n4_ n5_ n6_ n7_ n8_; clear hb hbox hg; have hnb88 := NB121_101.out; have hnc88 := NB101_121.out; have hcz89_0 : w87.cell? ⟨gb121, 0, none⟩ = some (.int .i64 0) := (blk_cell BK121.out 0).trans rfl; have hcz89_1 : w87.cell? ⟨gb121, 1, none⟩ = some (.int .i64 0) := (blk_cell BK121.out 1).trans rfl; have hfz89_0 := blk_frozen BK121.out 0; have hfz89_1 := blk_frozen BK121.out 1; have p122 : 0 ≤ (x6_1 : Int) := of_decide_eq_true (by first | (with_reducible assumption) | assumption); have q122 : x6_1 < (l1.length : Int) := of_decide_eq_true (by first | (with_reducible assumption) | assumption); obtain ⟨ad122, e122, hx122_0⟩ := Kd.at_int HR1.out x6_1 p122 q122; cases e122; have hn122_0 : ad122.block ≠ gb121 := Nat.ne_of_lt (Nat.lt_of_lt_of_le (by have := World.block_lt_of_cell? _ _ hx122_0; first | rwa [add_block] at this | exact this) GW121.out); have hn122_1 : ad122.block ≠ gb121 := Nat.ne_of_lt (Nat.lt_of_lt_of_le (by have := World.block_lt_of_cell? _ _ hx122_0; first | rwa [add_block] at this | exact this) GW121.out); replace hx122_0 := (HB.out.cell (World.block_lt_of_cell? w _ hx122_0)).trans hx122_0; replace hx122_0 := (cell_far (p := ⟨gb121, 0, none⟩) (by first | (rw [add_block]; exact hn122_0) | (show (Addr.add _ _).block ≠ _; rw [add_block]; exact hn122_0) | exact hn122_0) (.int .i64 ((rd_T82 (rd_L2 l0_1 x12_3) x13_4).f0))).trans hx122_0; replace hx122_0 := (cell_far (p := ⟨gb121, 1, none⟩) (by first | (rw [add_block]; exact hn122_1) | (show (Addr.add _ _).block ≠ _; rw [add_block]; exact hn122_1) | exact hn122_1) (.int .i64 ((rd_T82 (rd_L2 l0_1 x12_3) x13_4).f1))).trans hx122_0; (try have hy122_0 := fun (n_ : Nat) => (show ((((w87.drewN n_).setCell ⟨gb121, 0, none⟩ (.int .i64 ((rd_T82 (rd_L2 l0_1 x12_3) x13_4).f0))).setCell ⟨gb121, 1, none⟩ (.int .i64 ((rd_T82 (rd_L2 l0_1 x12_3) x13_4).f1)))).cell? _ = some _ from hx122_0)); clear hn122_0; clear hn122_1; replace p122 := eq_true p122; replace q122 := eq_true q122)))
                                                      go_roundg kj59
                                                      case measure => have := HK1.out; have := HK2.out; have := HK3.out; have := HK4.out; have := HJ59.out; omega
                                                      case rel => exact ⟨(x11_4), (wrap64 (x13_4 + 1)), (by first | rfl | (simp; done) | (simp [*]; done)), H', ⟨by have := HK1.out; have := HK2.out; have := HK3.out; have := HK4.out; have := HJ59.out; omega⟩, ⟨by (with_reducible repeat (first | apply Kd.R_alloc | apply Kd.R_drewN | apply Kd.R_drew)); exact Kd.R_mono (Kd.R_far (p := ⟨gb121, 1, none⟩) (Kd.R_far (p := ⟨gb121, 0, none⟩) (Kd.R_types HO_5.out BK121.out (by decide)) (fun _ hk => hk.2) (.int .i64 ((rd_T82 (rd_L2 l0_1 x12_3) x13_4).f0))) (fun _ hk => hk.2) (.int .i64 ((rd_T82 (rd_L2 l0_1 x12_3) x13_4).f1))) (fun _ hk => hk.1)⟩, ⟨by (with_reducible repeat (first | apply Kd.R_alloc | apply Kd.R_drewN | apply Kd.R_drew)); exact Kd.R_mono (Kd.R_far (p := ⟨gb121, 1, none⟩) (Kd.R_far (p := ⟨gb121, 0, none⟩) (Kd.R_types HO_11.out BK121.out (by decide)) (fun _ hk => hk.2) (.int .i64 ((rd_T82 (rd_L2 l0_1 x12_3) x13_4).f0))) (fun _ hk => hk.2) (.int .i64 ((rd_T82 (rd_L2 l0_1 x12_3) x13_4).f1))) (fun _ hk => hk.1)⟩, ⟨by (with_reducible repeat (first | refine blk_drewN ?_ _ | refine blk_drew ?_ | refine blk_alloc ?_ _)); refine blk_far ?_ NB101_121.out _; (with_reducible repeat (first | refine blk_drewN ?_ _ | refine blk_drew ?_ | refine blk_alloc ?_ _)); refine blk_far ?_ NB101_121.out _; (with_reducible repeat (first | refine blk_drewN ?_ _ | refine blk_drew ?_ | refine blk_alloc ?_ _)); exact BK101.out⟩, ⟨by repeat (first | (with_reducible first | exact HB.out | apply below_alloc | apply pw_below_drewN | apply below_drew1 | refine below_set ?_ GE101.out | refine below_set ?_ GE121.out) | exact HB.out)⟩⟩
                                                  · rw [if_neg c73] at H
                                                    exact absurd H (by simp)
                                                · rw [if_neg c72] at H
                                                  exact absurd H (by simp)
                                              · rw [if_neg c71] at H
                                                exact absurd H (by simp)
                                            · rw [if_neg c70] at H
                                              exact absurd H (by simp)
                                          · rw [if_neg c69] at H
                                            exact absurd H (by simp)
                                        · rw [if_neg c68] at H
                                          exact absurd H (by simp)
                                      · replace c67 := Bool.eq_false_iff.mpr c67
                                        subst c67
                                        have H1 : (caesuralaw19_goes.l4 kj59 l1 x5_2 x6_1 x11_4 (wrap64 (x12_3 + 1)) a0_0 l0_1) = some r := by rw [if_neg (show ¬ (false = true) by decide)] at H; exact H
                                        clear H
                                        have H := H1
                                        clear H1
                                        have H' := Aside0.mk H
                                        clear H
                                        go_wp2
                                        repeat (go_quiet (fail); try go_wp2)
                                        go_roundg kj59
                                        case measure => have := HK1.out; have := HK2.out; have := HK3.out; have := HK4.out; have := HJ59.out; omega
                                        case rel => exact ⟨(x11_4), (wrap64 (x12_3 + 1)), (by first | rfl | (simp; done) | (simp [*]; done)), H', ⟨by have := HK1.out; have := HK2.out; have := HK3.out; have := HK4.out; have := HJ59.out; omega⟩, ⟨by (with_reducible repeat (first | apply Kd.R_alloc | apply Kd.R_drewN | apply Kd.R_drew)); exact HO_5.out⟩, ⟨by (with_reducible repeat (first | apply Kd.R_alloc | apply Kd.R_drewN | apply Kd.R_drew)); exact HO_11.out⟩, ⟨by (with_reducible repeat (first | refine blk_drewN ?_ _ | refine blk_drew ?_ | refine blk_alloc ?_ _)); exact BK101.out⟩, ⟨by repeat (first | (with_reducible first | exact HB.out | apply below_alloc | apply pw_below_drewN | apply below_drew1 | refine below_set ?_ GE101.out) | exact HB.out)⟩⟩
                            · rw [if_neg c59] at H
                              have c59b0 : decide (x12_3 < (x5_2.length : Int)) = false := decide_eq_false c59
                              clear c59
                              have H' := Aside0.mk H
                              clear H
                              go_wp2
                              repeat (go_quiet (fail); try go_wp2)
                              go_roundg k3
                              case measure => have := HK1.out; have := HK2.out; have := HK3.out; omega
                              case rel => exact ⟨(x11_3), (wrap64 (x6_1 + 1)), (by first | rfl | (simp; done) | (simp [*]; done)), H', ⟨by have := HK1.out; have := HK2.out; have := HK3.out; omega⟩, ⟨by (with_reducible repeat (first | apply Kd.R_alloc | apply Kd.R_drewN | apply Kd.R_drew)); exact Kd.R_mono HO_11.out (fun _ hk => trivial)⟩, ⟨by (with_reducible repeat (first | refine blk_drewN ?_ _ | refine blk_drew ?_ | refine blk_alloc ?_ _)); exact BK101.out⟩, ⟨by repeat (first | (with_reducible first | exact HB.out | apply below_alloc | apply pw_below_drewN | apply below_drew1 | refine below_set ?_ GE101.out) | exact HB.out)⟩⟩
                      · rw [if_neg c55] at H
                        exact absurd H (by simp)
                    · rw [if_neg c54] at H
                      exact absurd H (by simp)
      · rw [if_neg c5] at H
        exact absurd H (by simp)
    · rw [if_neg c4] at H
      exact absurd H (by simp)
  · rw [if_neg c3] at H
    exact absurd H (by simp)

end Go.Proofs.Ytelkjbacdpmnfaa.A
