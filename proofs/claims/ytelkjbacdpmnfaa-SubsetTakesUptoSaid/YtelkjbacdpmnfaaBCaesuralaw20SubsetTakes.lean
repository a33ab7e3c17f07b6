/- Contracts. -/
import Derived.Test.YtelkjbacdpmnfaaB0
import Derived.Test.YtelkjbacdpmnfaaBCaesurakeepAutomaton
import Derived.Test.YtelkjbacdpmnfaaBCaesuralaw20Wakes
import Derived.Test.YtelkjbacdpmnfaaBCaesuraref19Good
import Derived.Test.YtelkjbacdpmnfaaBCaesuraref19GoodNet
import Derived.Test.YtelkjbacdpmnfaaBSets
import Derived.Test.YtelkjbacdpmnfaaBSets
import Derived.Test.YtelkjbacdpmnfaaBSubsetTakes







namespace Go.Proofs.Ytelkjbacdpmnfaa.A
open Go.RowKit Go.W_.PrintWords Go.W_.PrintLast Go.W_.PrintMore
attribute [local go_sem] max2_int min2_int max_two min_two max_three min_three max_four min_four
set_option linter.unusedVariables false
set_option linter.unusedSimpArgs false

/-! ### cl20_SubsetTakes: function 12 -/
mutual
def cl20_SubsetTakes.j0 : Nat → List Int → Bool → Int → List (List (S82)) → Option (Bool)
 | 0, _, _, _, _ => none
 | k + 1, x1, x29, x102000, x102001 => if x29 = true then ((cl20_wakes.f k).bind fun t103 => (some t103)) else (cl20_SubsetTakes.l0 k x1 ([] : List Int) 0 x102000 x102001)
def cl20_SubsetTakes.l0 : Nat → List Int → List Int → Int → Int → List (List (S82)) → Option (Bool)
 | 0, _, _, _, _, _ => none
 | k + 1, x1, x5, x6, x102000, x102001 => if x6 < (x1.length : Int) then (if 0 ≤ x6 then (if x102000 = 0 then (none) else (if x5.length < 17592186044416 then (cl20_SubsetTakes.l0 k x1 (x5 ++ [Int.tmod (wrap64 (rd x1 x6)) x102000]) (wrap64 (x6 + 1)) x102000 x102001) else (none))) else (none)) else ((subset_Of.f k x102000 x102001 120).bind fun bt108 => (if bt108.2.2.2 = 0 then ((cr19_Good.f k bt108.1 bt108.2.1 bt108.2.2.1).bind fun t118 => (if t118 = true then ((subset_Of.f k x102000 x102001 (bt108.2.1.length : Int)).bind fun bt119 => ((subset_Of.f k x102000 x102001 (wrap64 ((bt108.2.1.length : Int) - 1))).bind fun bt128 => (cl20_SubsetTakes.l1 k x5 bt119.2.2.2 bt128.2.2.2 1 0 x102000 x102001 bt108.1 bt108.2.1 bt108.2.2.1 bt119.1 bt119.2.1 bt119.2.2.1))) else (none))) else (if bt108.2.2.2 = 14 then (if (bt108.2.1.length : Int) = 0 then ((cl20_wakes.f k).bind fun t117 => (some t117)) else (none)) else (none))))
def cl20_SubsetTakes.l1 : Nat → List Int → Int → Int → Int → Int → Int → List (List (S82)) → Int → List (List Int) → List Bool → Int → List (List Int) → List Bool → Option (Bool)
 | 0, _, _, _, _, _, _, _, _, _, _, _, _, _ => none
 | k + 1, x5, x10, x12, x13, x14, x102000, x102001, x117000, x117001, x117002, x128000, x128001, x128002 => if x14 < (x117001.length : Int) then (cl20_SubsetTakes.l2 k x5 x10 x12 x13 x14 0 x102000 x102001 x117000 x117001 x117002 x128000 x128001 x128002) else (if x13 = (x117001.length : Int) then (if x10 = 0 then ((ck_Automaton.f k x117000 x117001 x117002 x128000 x128001 x128002).bind fun t141 => (if t141 = true then (if x12 = 14 then ((subset_Takes.f k x117000 x117001 x117002 x5).bind fun t142 => ((subset_Goes.f x102000 x102001 x5).bind fun t143 => (if (t142 == t143) = true then ((cl20_wakes.f k).bind fun t144 => (some t144)) else (none)))) else (none)) else (none))) else (none)) else (none))
def cl20_SubsetTakes.l2 : Nat → List Int → Int → Int → Int → Int → Int → Int → List (List (S82)) → Int → List (List Int) → List Bool → Int → List (List Int) → List Bool → Option (Bool)
 | 0, _, _, _, _, _, _, _, _, _, _, _, _, _, _ => none
 | k + 1, x5, x10, x12, x13, x14, x15, x102000, x102001, x117000, x117001, x117002, x128000, x128001, x128002 => if x15 < x117000 then (if 0 ≤ x14 then (if x14 < (x117001.length : Int) then (if 0 ≤ x15 then (if x15 < ((rd_L5 x117001 x14).length : Int) then (if (rd (rd_L5 x117001 x14) x15) > x13 then (none) else (if (rd (rd_L5 x117001 x14) x15) = x13 then (cl20_SubsetTakes.l2 k x5 x10 x12 (wrap64 (x13 + 1)) x14 (wrap64 (x15 + 1)) x102000 x102001 x117000 x117001 x117002 x128000 x128001 x128002) else (cl20_SubsetTakes.l2 k x5 x10 x12 x13 x14 (wrap64 (x15 + 1)) x102000 x102001 x117000 x117001 x117002 x128000 x128001 x128002))) else (none)) else (none)) else (none)) else (none)) else (cl20_SubsetTakes.l1 k x5 x10 x12 x13 (wrap64 (x14 + 1)) x102000 x102001 x117000 x117001 x117002 x128000 x128001 x128002)
end
def cl20_SubsetTakes.f (k : Nat) (a0_0 : Int) (l0_1 : List (List (S82))) (l1 : List Int) : Option (Bool) := (cr19_GoodNet.f k a0_0 l0_1).bind fun t102 => (if t102 = true then (if (l0_1.length : Int) > 30 then (cl20_SubsetTakes.j0 k l1 true a0_0 l0_1) else (cl20_SubsetTakes.j0 k l1 (decide ((l1.length : Int) > 30)) a0_0 l0_1)) else (cl20_SubsetTakes.j0 k l1 true a0_0 l0_1))
theorem cl20_SubsetTakes.mono_l : ∀ k, (∀ y0 y1 y2 y3, LeO (cl20_SubsetTakes.j0 k y0 y1 y2 y3) (cl20_SubsetTakes.j0 (k + 1) y0 y1 y2 y3)) ∧ (∀ y0 y1 y2 y3 y4, LeO (cl20_SubsetTakes.l0 k y0 y1 y2 y3 y4) (cl20_SubsetTakes.l0 (k + 1) y0 y1 y2 y3 y4)) ∧ (∀ y0 y1 y2 y3 y4 y5 y6 y7 y8 y9 y10 y11 y12, LeO (cl20_SubsetTakes.l1 k y0 y1 y2 y3 y4 y5 y6 y7 y8 y9 y10 y11 y12) (cl20_SubsetTakes.l1 (k + 1) y0 y1 y2 y3 y4 y5 y6 y7 y8 y9 y10 y11 y12)) ∧ (∀ y0 y1 y2 y3 y4 y5 y6 y7 y8 y9 y10 y11 y12 y13, LeO (cl20_SubsetTakes.l2 k y0 y1 y2 y3 y4 y5 y6 y7 y8 y9 y10 y11 y12 y13) (cl20_SubsetTakes.l2 (k + 1) y0 y1 y2 y3 y4 y5 y6 y7 y8 y9 y10 y11 y12 y13))
 | 0 => ⟨fun _ _ _ _ r h => by simp [cl20_SubsetTakes.j0] at h, fun _ _ _ _ _ r h => by simp [cl20_SubsetTakes.l0] at h, fun _ _ _ _ _ _ _ _ _ _ _ _ _ r h => by simp [cl20_SubsetTakes.l1] at h, fun _ _ _ _ _ _ _ _ _ _ _ _ _ _ r h => by simp [cl20_SubsetTakes.l2] at h⟩
 | k + 1 => by
  obtain ⟨ih0, ih1, ih2, ih3⟩ := cl20_SubsetTakes.mono_l k
  refine ⟨?_, ?_, ?_, ?_⟩
  ·intro y0 y1 y2 y3
   unfold cl20_SubsetTakes.j0
   repeat' first
   | (with_reducible exact ih0 _ _ _ _)
   | (with_reducible exact ih1 _ _ _ _ _)
   | (with_reducible exact ih2 _ _ _ _ _ _ _ _ _ _ _ _ _)
   | (with_reducible exact ih3 _ _ _ _ _ _ _ _ _ _ _ _ _ _)
   | (with_reducible exact ck_Automaton.mono _ _ _ _ _ _ _)
   | (with_reducible exact cl20_wakes.mono _)
   | (with_reducible exact cr19_Good.mono _ _ _ _)
   | (with_reducible exact cr19_GoodNet.mono _ _ _)
   | (with_reducible exact subset_Of.mono _ _ _ _)
   | (with_reducible exact subset_Takes.mono _ _ _ _ _)
   | (with_reducible exact LeO.refl _)
   | (with_reducible exact LeO.none _)
   | (with_reducible refine LeO.ite ?_ ?_)
   | (with_reducible refine LeO.bind ?_ (fun _ => ?_))
   | exact ih0 _ _ _ _
   | exact ih1 _ _ _ _ _
   | exact ih2 _ _ _ _ _ _ _ _ _ _ _ _ _
   | exact ih3 _ _ _ _ _ _ _ _ _ _ _ _ _ _
   | exact ck_Automaton.mono _ _ _ _ _ _ _
   | exact cl20_wakes.mono _
   | exact cr19_Good.mono _ _ _ _
   | exact cr19_GoodNet.mono _ _ _
   | exact subset_Of.mono _ _ _ _
   | exact subset_Takes.mono _ _ _ _ _
   | exact LeO.none _
   | refine LeO.ite ?_ ?_
   | refine LeO.bind ?_ (fun _ => ?_)
  ·intro y0 y1 y2 y3 y4
   unfold cl20_SubsetTakes.l0
   repeat' first
   | (with_reducible exact ih0 _ _ _ _)
   | (with_reducible exact ih1 _ _ _ _ _)
   | (with_reducible exact ih2 _ _ _ _ _ _ _ _ _ _ _ _ _)
   | (with_reducible exact ih3 _ _ _ _ _ _ _ _ _ _ _ _ _ _)
   | (with_reducible exact ck_Automaton.mono _ _ _ _ _ _ _)
   | (with_reducible exact cl20_wakes.mono _)
   | (with_reducible exact cr19_Good.mono _ _ _ _)
   | (with_reducible exact cr19_GoodNet.mono _ _ _)
   | (with_reducible exact subset_Of.mono _ _ _ _)
   | (with_reducible exact subset_Takes.mono _ _ _ _ _)
   | (with_reducible exact LeO.refl _)
   | (with_reducible exact LeO.none _)
   | (with_reducible refine LeO.ite ?_ ?_)
   | (with_reducible refine LeO.bind ?_ (fun _ => ?_))
   | exact ih0 _ _ _ _
   | exact ih1 _ _ _ _ _
   | exact ih2 _ _ _ _ _ _ _ _ _ _ _ _ _
   | exact ih3 _ _ _ _ _ _ _ _ _ _ _ _ _ _
   | exact ck_Automaton.mono _ _ _ _ _ _ _
   | exact cl20_wakes.mono _
   | exact cr19_Good.mono _ _ _ _
   | exact cr19_GoodNet.mono _ _ _
   | exact subset_Of.mono _ _ _ _
   | exact subset_Takes.mono _ _ _ _ _
   | exact LeO.none _
   | refine LeO.ite ?_ ?_
   | refine LeO.bind ?_ (fun _ => ?_)
  ·intro y0 y1 y2 y3 y4 y5 y6 y7 y8 y9 y10 y11 y12
   unfold cl20_SubsetTakes.l1
   repeat' first
   | (with_reducible exact ih0 _ _ _ _)
   | (with_reducible exact ih1 _ _ _ _ _)
   | (with_reducible exact ih2 _ _ _ _ _ _ _ _ _ _ _ _ _)
   | (with_reducible exact ih3 _ _ _ _ _ _ _ _ _ _ _ _ _ _)
   | (with_reducible exact ck_Automaton.mono _ _ _ _ _ _ _)
   | (with_reducible exact cl20_wakes.mono _)
   | (with_reducible exact cr19_Good.mono _ _ _ _)
   | (with_reducible exact cr19_GoodNet.mono _ _ _)
   | (with_reducible exact subset_Of.mono _ _ _ _)
   | (with_reducible exact subset_Takes.mono _ _ _ _ _)
   | (with_reducible exact LeO.refl _)
   | (with_reducible exact LeO.none _)
   | (with_reducible refine LeO.ite ?_ ?_)
   | (with_reducible refine LeO.bind ?_ (fun _ => ?_))
   | exact ih0 _ _ _ _
   | exact ih1 _ _ _ _ _
   | exact ih2 _ _ _ _ _ _ _ _ _ _ _ _ _
   | exact ih3 _ _ _ _ _ _ _ _ _ _ _ _ _ _
   | exact ck_Automaton.mono _ _ _ _ _ _ _
   | exact cl20_wakes.mono _
   | exact cr19_Good.mono _ _ _ _
   | exact cr19_GoodNet.mono _ _ _
   | exact subset_Of.mono _ _ _ _
   | exact subset_Takes.mono _ _ _ _ _
   | exact LeO.none _
   | refine LeO.ite ?_ ?_
   | refine LeO.bind ?_ (fun _ => ?_)
  ·intro y0 y1 y2 y3 y4 y5 y6 y7 y8 y9 y10 y11 y12 y13
   unfold cl20_SubsetTakes.l2
   repeat' first
   | (with_reducible exact ih0 _ _ _ _)
   | (with_reducible exact ih1 _ _ _ _ _)
   | (with_reducible exact ih2 _ _ _ _ _ _ _ _ _ _ _ _ _)
   | (with_reducible exact ih3 _ _ _ _ _ _ _ _ _ _ _ _ _ _)
   | (with_reducible exact ck_Automaton.mono _ _ _ _ _ _ _)
   | (with_reducible exact cl20_wakes.mono _)
   | (with_reducible exact cr19_Good.mono _ _ _ _)
   | (with_reducible exact cr19_GoodNet.mono _ _ _)
   | (with_reducible exact subset_Of.mono _ _ _ _)
   | (with_reducible exact subset_Takes.mono _ _ _ _ _)
   | (with_reducible exact LeO.refl _)
   | (with_reducible exact LeO.none _)
   | (with_reducible refine LeO.ite ?_ ?_)
   | (with_reducible refine LeO.bind ?_ (fun _ => ?_))
   | exact ih0 _ _ _ _
   | exact ih1 _ _ _ _ _
   | exact ih2 _ _ _ _ _ _ _ _ _ _ _ _ _
   | exact ih3 _ _ _ _ _ _ _ _ _ _ _ _ _ _
   | exact ck_Automaton.mono _ _ _ _ _ _ _
   | exact cl20_wakes.mono _
   | exact cr19_Good.mono _ _ _ _
   | exact cr19_GoodNet.mono _ _ _
   | exact subset_Of.mono _ _ _ _
   | exact subset_Takes.mono _ _ _ _ _
   | exact LeO.none _
   | refine LeO.ite ?_ ?_
   | refine LeO.bind ?_ (fun _ => ?_)
theorem cl20_SubsetTakes.mono : ∀ a0 a1 a2 k, LeO (cl20_SubsetTakes.f k a0 a1 a2) (cl20_SubsetTakes.f (k + 1) a0 a1 a2) := by
 intro a0 a1 a2 k
 obtain ⟨ih0, ih1, ih2, ih3⟩ := cl20_SubsetTakes.mono_l k
 unfold cl20_SubsetTakes.f
 repeat' first
   | (with_reducible exact ih0 _ _ _ _)
   | (with_reducible exact ih1 _ _ _ _ _)
   | (with_reducible exact ih2 _ _ _ _ _ _ _ _ _ _ _ _ _)
   | (with_reducible exact ih3 _ _ _ _ _ _ _ _ _ _ _ _ _ _)
   | (with_reducible exact ck_Automaton.mono _ _ _ _ _ _ _)
   | (with_reducible exact cl20_wakes.mono _)
   | (with_reducible exact cr19_Good.mono _ _ _ _)
   | (with_reducible exact cr19_GoodNet.mono _ _ _)
   | (with_reducible exact subset_Of.mono _ _ _ _)
   | (with_reducible exact subset_Takes.mono _ _ _ _ _)
   | (with_reducible exact LeO.refl _)
   | (with_reducible exact LeO.none _)
   | (with_reducible refine LeO.ite ?_ ?_)
   | (with_reducible refine LeO.bind ?_ (fun _ => ?_))
   | exact ih0 _ _ _ _
   | exact ih1 _ _ _ _ _
   | exact ih2 _ _ _ _ _ _ _ _ _ _ _ _ _
   | exact ih3 _ _ _ _ _ _ _ _ _ _ _ _ _ _
   | exact ck_Automaton.mono _ _ _ _ _ _ _
   | exact cl20_wakes.mono _
   | exact cr19_Good.mono _ _ _ _
   | exact cr19_GoodNet.mono _ _ _
   | exact subset_Of.mono _ _ _ _
   | exact subset_Takes.mono _ _ _ _ _
   | exact LeO.none _
   | refine LeO.ite ?_ ?_
   | refine LeO.bind ?_ (fun _ => ?_)
def cl20_SubsetTakes.T7 : Bool × List (List Nat × List Nat) := (true, [([], []), ([], []), ([], []), ([1, 2], [1, 2]), ([3], [3]), ([4], [4]), ([], []), ([6], [6]), ([5, 7], [5, 7]), ([8], [8]), ([0, 9], [0, 9]), ([10, 10, 0, 1, 2, 3, 4, 5, 6, 7, 8, 9, 10], [0, 10])])
def cl20_SubsetTakes.B7 : List Nat := [0, 0, 0, 6, 14, 30, 0, 64, 254, 510, 1023, 2047]
theorem cl20_SubsetTakes.tab7 : rtab .any (opsOf Try.f12 7) = cl20_SubsetTakes.T7 := by kernel_rfl
theorem cl20_SubsetTakes.bits7 : waitsOk cl20_SubsetTakes.T7.2 cl20_SubsetTakes.B7 = true := by kernel_rfl
def cl20_SubsetTakes.T26 : Bool × List (List Nat × List Nat) := (true, [([], []), ([], []), ([1], [1]), ([2], [2]), ([0, 3], [0, 3]), ([4], [4]), ([5], [5]), ([6, 5], [5, 6]), ([5, 7], [5, 7]), ([8, 5], [8]), ([9], [9]), ([9], [9]), ([10, 11, 9, 9], [9, 10, 11]), ([9, 12], [9, 12]), ([13, 12], [13]), ([14], [14]), ([15, 14], [14, 15]), ([14, 16], [14, 16]), ([17, 14], [17]), ([18], [18]), ([18], [18]), ([19, 20, 18, 18], [18, 19, 20]), ([18], [18]), ([18], [18]), ([22, 23, 21, 18], [18, 22, 23]), ([21, 24, 18], [18, 21, 24]), ([18, 25], [18, 25]), ([26, 24], [26]), ([27, 27], [27]), ([27, 28], [27, 28]), ([29, 28, 0, 1, 2, 3, 4, 5, 6, 7, 8, 9, 10, 11, 12, 13, 14, 15, 16, 17, 18, 19, 20, 21, 22, 23, 24, 25, 26, 27, 28, 29], [29])])
def cl20_SubsetTakes.B26 : List Nat := [0, 0, 2, 6, 15, 31, 63, 127, 255, 511, 1023, 1023, 4095, 8191, 16383, 32767, 65535, 131071, 262143, 524287, 524287, 2097151, 524287, 524287, 16777215, 33554431, 67108863, 134217727, 268435455, 536870911, 1073741823]
theorem cl20_SubsetTakes.tab26 : rtab .any (opsOf Try.f12 26) = cl20_SubsetTakes.T26 := by kernel_rfl
theorem cl20_SubsetTakes.bits26 : waitsOk cl20_SubsetTakes.T26.2 cl20_SubsetTakes.B26 = true := by kernel_rfl
set_option maxHeartbeats 8000000 in
set_option maxRecDepth 100000 in
theorem cl20_SubsetTakes.calls (k : Nat) (a0_0 : Int) (A0_1 : Option Addr) (c0_1 : Nat) (l0_1 : List (List (S82))) (A1 : Option Addr) (c1 : Nat) (l1 : List Int) (r : Bool) (w : World) (hr0_1 : Kd.C (Kd.slice 82 k82) w A0_1 l0_1.length l0_1) (hc0_1 : l0_1.length ≤ c0_1) (hr1 : Kd.C (Kd.int .u8) w A1 l1.length l1) (hc1 : l1.length ≤ c1) (h : cl20_SubsetTakes.f k a0_0 l0_1 l1 = some r) :
  Calls Try.prog 12 #[.agg #[.int .i64 a0_0, .slice A0_1 l0_1.length c0_1], .slice A1 l1.length c1] w fun e w' => e = .returned (.bool r) ∧ Below w.heap.size w w' := by
 have hu28 := Try.underlying28
 have hu25 := Try.underlying25
 have HR0_1 := Q0z.mk hr0_1
 have HC0_1 := Q0z.mk hc0_1
 clear hr0_1 hc0_1
 have HR1 := Q0z.mk hr1
 have HC1 := Q0z.mk hc1
 clear hr1 hc1
 have HB := Q0z.mk (Below.refl w.heap.size w)
 have H : ((cr19_GoodNet.f k a0_0 l0_1).bind fun t102 => (if t102 = true then (if (l0_1.length : Int) > 30 then (cl20_SubsetTakes.j0 k l1 true a0_0 l0_1) else (cl20_SubsetTakes.j0 k l1 (decide ((l1.length : Int) > 30)) a0_0 l0_1)) else (cl20_SubsetTakes.j0 k l1 true a0_0 l0_1))) = some r := h
 clear h
 have HC3 := Q0z.mk H
 clear H
 go_enter Try.func12, Try.ntmps12
 go_upto_region 1 with (first | ((with_reducible refine gate_dst (N := 2) rfl ?_); (try (refine gate_guard (by rfl) ?_; dsimp only)); refine box_event ?hg (N := 2) ?hd (cs := #[.int .i64 a0_0, .slice A0_1 l0_1.length c0_1]) (t := 28) ?hr ?_; (case hd => rfl); (case hg => rfl); (case hr => first | (go_simp; done) | (go_simp; rfl)); intro gb101 hg w4 hbox hb; have n0_ := Q0z.mk (bsz (by repeat (first | (with_reducible first | exact HB.1 | apply ba | apply pN | apply bD) | exact HB.1)) hb); have n1_ := Q0z.mk (hbox); have n2_ := Q0z.mk ((by rw [hg]; exact (below_size (by repeat (first | (with_reducible first | exact HB.1 | apply ba | apply pN | apply bD) | exact HB.1))) : w.heap.size ≤ gb101)); have n3_ := Q0z.mk ((by rw [hg]; exact (below_size (by repeat (first | (with_reducible first | exact HB.1 | apply ba | apply pN | apply bD) | exact HB.1))) : w.heap.size ≤ gb101)); clear HB; have HB := n0_; have BK101 := n1_; have GW101 := n2_; have GE101 := n3_; clear n0_ n1_ n2_ n3_; clear hb hbox hg))
 (try simp only [Act.put, sA, sB, sC])
 go_cut [29] (fun v29 wc => ∃ (kq : Nat) (x29_2 : Bool), v29 = .bool x29_2 ∧ Q0z (cl20_SubsetTakes.j0 kq l1 x29_2 a0_0 l0_1 = some r) ∧ Q0z (kq ≤ k) ∧ Q0z (wc.heap[gb101]? = some (.cells #[.int .i64 a0_0, (.slice A0_1 l0_1.length c0_1)] 28 (0, 0))) ∧ Q0z (Below w.heap.size w wc))
 case first =>
  have H := HC3.1
  clear HC3
  replace H := Option.bind_eq_some_iff.mp H
  obtain ⟨t102, A50, H⟩ := H
  replace H : (if t102 = true then (if (l0_1.length : Int) > 30 then (cl20_SubsetTakes.j0 k l1 true a0_0 l0_1) else (cl20_SubsetTakes.j0 k l1 (decide ((l1.length : Int) > 30)) a0_0 l0_1)) else (cl20_SubsetTakes.j0 k l1 true a0_0 l0_1)) = some r := H
  have A5 := Q0z.mk A50
  clear A50
  by_cases c6 : t102 = true
  ·subst c6
   have H1 : (if (l0_1.length : Int) > 30 then (cl20_SubsetTakes.j0 k l1 true a0_0 l0_1) else (cl20_SubsetTakes.j0 k l1 (decide ((l1.length : Int) > 30)) a0_0 l0_1)) = some r := by rw [if_pos rfl] at H; exact H
   clear H
   have H := H1
   clear H1
   by_cases c7 : (l0_1.length : Int) > 30
   ·rw [if_pos c7] at H
    have c7b0 : decide (30 < (l0_1.length : Int)) = true := decide_eq_true c7
    have c7b1 : decide (30 < l0_1.length) = true := decide_eq_true (by omega)
    clear c7
    (first | rw [c7b0] | (simp only [i64_w, i32_w]; rw [c7b0]) | skip)
    have H' := Q0z.mk H
    clear H
    have hcz8_0 : w4.cell? ⟨gb101, 0, none⟩ = some (.int .i64 a0_0) := (bcz BK101.1 0).trans rfl
    have hcz8_1 : w4.cell? ⟨gb101, 1, none⟩ = some (.slice A0_1 l0_1.length c0_1) := (bcz BK101.1 1).trans rfl
    have hfz8_0 := bf BK101.1 0
    have hfz8_1 := bf BK101.1 1
    go_wp2_with (first | ((with_reducible refine gate_callee (f := 39) rfl ?_); refine goesL_ (some 17) rfl rfl Try.func39 (by kernel_rfl) rfl #[.agg #[.int .i64 a0_0, .slice A0_1 l0_1.length c0_1]] rfl (by (try simp only [List.map_toArray, List.map_cons, List.map_nil]); first | done | rfl | (simp only [List.length_drop, List.length_take]; rfl)) ?_; (with_reducible refine (cr19_GoodNet.calls k a0_0 _ _ l0_1 true _ ?side1 ?side2 A5.1).mono ?_); (case side1 => repeat (first | exact (Kd.C_below HR0_1.1 HB.1) | (with_reducible refine Kd.C_alloc ?_ _) | (with_reducible refine Kd.C_drewN ?_ _) | (with_reducible refine Kd.C_drew ?_))); (case side2 => exact HC0_1.1); rintro e w9 ⟨rfl, hb⟩; refine ⟨_, rfl, ?_⟩; have n0_ := Q0z.mk (bbz (g := gb101) (o := .cells #[.int .i64 a0_0, .slice A0_1 l0_1.length c0_1] 28 (0, 0)) (by (with_reducible repeat (first | refine bN ?_ _ | refine bd ?_ | refine bA ?_ _)); exact BK101.1) hb); have n1_ := Q0z.mk (bsz (by repeat (first | (with_reducible first | exact HB.1 | apply ba | apply pN | apply bD | refine bS ?_ GE101.1) | exact HB.1)) hb); clear BK101; clear HB; have BK101 := n0_; have HB := n1_; clear n0_ n1_; (try clear hb); (try clear hb2); (try clear hk); (try clear hi); have hcz10_0 : w9.cell? ⟨gb101, 0, none⟩ = some (.int .i64 a0_0) := (bcz BK101.1 0).trans rfl; have hcz10_1 : w9.cell? ⟨gb101, 1, none⟩ = some (.slice A0_1 l0_1.length c0_1) := (bcz BK101.1 1).trans rfl; have hfz10_0 := bf BK101.1 0; have hfz10_1 := bf BK101.1 1))
    go_meet
    case rel => exact ⟨_, (true), (by first | rfl | (simp; done) | (simp [*]; done)), H', ⟨by first | omega | exact Nat.le_refl _⟩, ⟨by (with_reducible repeat (first | refine bN ?_ _ | refine bd ?_ | refine bA ?_ _)); exact BK101.1⟩, ⟨by repeat (first | (with_reducible first | exact HB.1 | apply ba | apply pN | apply bD | refine bS ?_ GE101.1) | exact HB.1)⟩⟩
   ·rw [if_neg c7] at H
    have c7b0 : decide (30 < (l0_1.length : Int)) = false := decide_eq_false c7
    have c7b1 : decide (30 < l0_1.length) = false := decide_eq_false (by omega)
    clear c7
    (first | rw [c7b0] | (simp only [i64_w, i32_w]; rw [c7b0]) | skip)
    have H' := Q0z.mk H
    clear H
    have hcz11_0 : w4.cell? ⟨gb101, 0, none⟩ = some (.int .i64 a0_0) := (bcz BK101.1 0).trans rfl
    have hcz11_1 : w4.cell? ⟨gb101, 1, none⟩ = some (.slice A0_1 l0_1.length c0_1) := (bcz BK101.1 1).trans rfl
    have hfz11_0 := bf BK101.1 0
    have hfz11_1 := bf BK101.1 1
    go_wp2_with (first | ((with_reducible refine gate_callee (f := 39) rfl ?_); refine goesL_ (some 17) rfl rfl Try.func39 (by kernel_rfl) rfl #[.agg #[.int .i64 a0_0, .slice A0_1 l0_1.length c0_1]] rfl (by (try simp only [List.map_toArray, List.map_cons, List.map_nil]); first | done | rfl | (simp only [List.length_drop, List.length_take]; rfl)) ?_; (with_reducible refine (cr19_GoodNet.calls k a0_0 _ _ l0_1 true _ ?side1 ?side2 A5.1).mono ?_); (case side1 => repeat (first | exact (Kd.C_below HR0_1.1 HB.1) | (with_reducible refine Kd.C_alloc ?_ _) | (with_reducible refine Kd.C_drewN ?_ _) | (with_reducible refine Kd.C_drew ?_))); (case side2 => exact HC0_1.1); rintro e w12 ⟨rfl, hb⟩; refine ⟨_, rfl, ?_⟩; have n0_ := Q0z.mk (bbz (g := gb101) (o := .cells #[.int .i64 a0_0, .slice A0_1 l0_1.length c0_1] 28 (0, 0)) (by (with_reducible repeat (first | refine bN ?_ _ | refine bd ?_ | refine bA ?_ _)); exact BK101.1) hb); have n1_ := Q0z.mk (bsz (by repeat (first | (with_reducible first | exact HB.1 | apply ba | apply pN | apply bD | refine bS ?_ GE101.1) | exact HB.1)) hb); clear BK101; clear HB; have BK101 := n0_; have HB := n1_; clear n0_ n1_; (try clear hb); (try clear hb2); (try clear hk); (try clear hi); have hcz13_0 : w12.cell? ⟨gb101, 0, none⟩ = some (.int .i64 a0_0) := (bcz BK101.1 0).trans rfl; have hcz13_1 : w12.cell? ⟨gb101, 1, none⟩ = some (.slice A0_1 l0_1.length c0_1) := (bcz BK101.1 1).trans rfl; have hfz13_0 := bf BK101.1 0; have hfz13_1 := bf BK101.1 1))
    go_meet
    case rel => exact ⟨_, (decide ((l1.length : Int) > 30)), (by first | rfl | (simp; done) | (simp [*]; done)), H', ⟨by first | omega | exact Nat.le_refl _⟩, ⟨by (with_reducible repeat (first | refine bN ?_ _ | refine bd ?_ | refine bA ?_ _)); exact BK101.1⟩, ⟨by repeat (first | (with_reducible first | exact HB.1 | apply ba | apply pN | apply bD | refine bS ?_ GE101.1) | exact HB.1)⟩⟩
  ·replace c6 := Bool.eq_false_iff.mpr c6
   subst c6
   have H1 : (cl20_SubsetTakes.j0 k l1 true a0_0 l0_1) = some r := by rw [if_neg (show ¬ (false = true) by decide)] at H; exact H
   clear H
   have H := H1
   clear H1
   have H' := Q0z.mk H
   clear H
   have hcz14_0 : w4.cell? ⟨gb101, 0, none⟩ = some (.int .i64 a0_0) := (bcz BK101.1 0).trans rfl
   have hcz14_1 : w4.cell? ⟨gb101, 1, none⟩ = some (.slice A0_1 l0_1.length c0_1) := (bcz BK101.1 1).trans rfl
   have hfz14_0 := bf BK101.1 0
   have hfz14_1 := bf BK101.1 1
   go_wp2_with (first | ((with_reducible refine gate_callee (f := 39) rfl ?_); refine goesL_ (some 17) rfl rfl Try.func39 (by kernel_rfl) rfl #[.agg #[.int .i64 a0_0, .slice A0_1 l0_1.length c0_1]] rfl (by (try simp only [List.map_toArray, List.map_cons, List.map_nil]); first | done | rfl | (simp only [List.length_drop, List.length_take]; rfl)) ?_; (with_reducible refine (cr19_GoodNet.calls k a0_0 _ _ l0_1 false _ ?side1 ?side2 A5.1).mono ?_); (case side1 => repeat (first | exact (Kd.C_below HR0_1.1 HB.1) | (with_reducible refine Kd.C_alloc ?_ _) | (with_reducible refine Kd.C_drewN ?_ _) | (with_reducible refine Kd.C_drew ?_))); (case side2 => exact HC0_1.1); rintro e w15 ⟨rfl, hb⟩; refine ⟨_, rfl, ?_⟩; have n0_ := Q0z.mk (bbz (g := gb101) (o := .cells #[.int .i64 a0_0, .slice A0_1 l0_1.length c0_1] 28 (0, 0)) (by (with_reducible repeat (first | refine bN ?_ _ | refine bd ?_ | refine bA ?_ _)); exact BK101.1) hb); have n1_ := Q0z.mk (bsz (by repeat (first | (with_reducible first | exact HB.1 | apply ba | apply pN | apply bD | refine bS ?_ GE101.1) | exact HB.1)) hb); clear BK101; clear HB; have BK101 := n0_; have HB := n1_; clear n0_ n1_; (try clear hb); (try clear hb2); (try clear hk); (try clear hi)))
   go_meet
   case rel => exact ⟨_, (true), (by first | rfl | (simp; done) | (simp [*]; done)), H', ⟨by first | omega | exact Nat.le_refl _⟩, ⟨by (with_reducible repeat (first | refine bN ?_ _ | refine bd ?_ | refine bA ?_ _)); exact BK101.1⟩, ⟨by repeat (first | (with_reducible first | exact HB.1 | apply ba | apply pN | apply bD | refine bS ?_ GE101.1) | exact HB.1)⟩⟩
 case rest =>
  clear HC3
  try clear c1
  try clear p2
  try clear c3
  try clear c6
  try clear c7
  try clear c7b0
  try clear c7b1
  try clear c12
  try clear hcz10_0
  try clear hcz10_1
  try clear hcz11_0
  try clear hcz11_1
  try clear hcz13_0
  try clear hcz13_1
  try clear hcz14_0
  try clear hcz14_1
  try clear hcz8_0
  try clear hcz8_1
  try clear hfz10_0
  try clear hfz10_1
  try clear hfz11_0
  try clear hfz11_1
  try clear hfz13_0
  try clear hfz13_1
  try clear hfz14_0
  try clear hfz14_1
  try clear hfz8_0
  try clear hfz8_1
  obtain ⟨kq, x29_2, rfl, HA, HJ2, BK101, HB⟩ := hcut
  cases kq with
  | zero => exact absurd HA.1 (by simp [cl20_SubsetTakes.j0])
  | succ kj2 =>
   have H := HA.1
   clear HA
   simp only [cl20_SubsetTakes.j0] at H
   by_cases c16 : x29_2 = true
   ·subst c16
    have H1 : ((cl20_wakes.f kj2).bind fun t103 => (some t103)) = some r := by rw [if_pos rfl] at H; exact H
    clear H
    have H := H1
    clear H1
    replace H := Option.bind_eq_some_iff.mp H
    obtain ⟨t103, A170, H⟩ := H
    replace H : (some t103) = some r := H
    have A17 := Q0z.mk A170
    clear A170
    obtain rfl := Option.some.inj H
    go_wp2_with (first | ((with_reducible refine gate_callee (f := 57) rfl ?_); refine goesL_ (some 30) rfl rfl Try.func57 (by kernel_rfl) rfl #[] rfl (by (try simp only [List.map_toArray, List.map_cons, List.map_nil]); first | done | rfl | (simp only [List.length_drop, List.length_take]; rfl)) ?_; (with_reducible refine (cl20_wakes.calls kj2  t103 _ A17.1).mono ?_); rintro e w18 ⟨rfl, hb⟩; refine ⟨_, rfl, ?_⟩; have n0_ := Q0z.mk (bbz (g := gb101) (o := .cells #[.int .i64 a0_0, .slice A0_1 l0_1.length c0_1] 28 (0, 0)) (by (with_reducible repeat (first | refine bN ?_ _ | refine bd ?_ | refine bA ?_ _)); exact BK101.1) hb); have n1_ := Q0z.mk (bsz (by repeat (first | (with_reducible first | exact HB.1 | apply ba | apply pN | apply bD | refine bS ?_ GE101.1) | exact HB.1)) hb); clear BK101; clear HB; have BK101 := n0_; have HB := n1_; clear n0_ n1_; (try clear hb); (try clear hb2); (try clear hk); (try clear hi)))
    go_ret
    exact ⟨by first | rfl | (simp [errW_none, errW_some] <;> rfl) | (simp [*, errW_none, errW_some] <;> rfl), by repeat (first | (with_reducible first | exact HB.1 | apply ba | apply pN | apply bD | refine bS ?_ GE101.1) | exact HB.1)⟩
   ·replace c16 := Bool.eq_false_iff.mpr c16
    subst c16
    have H1 : (cl20_SubsetTakes.l0 kj2 l1 ([] : List Int) 0 a0_0 l0_1) = some r := by rw [if_neg (show ¬ (false = true) by decide)] at H; exact H
    clear H
    have H := H1
    clear H1
    have H' := Q0z.mk H
    clear H
    go_wp2
    go_loopg [5, 6] kj2 (fun kq v5 v6 w' => ∃ (x5_2 : List Int) (x6_2 : Int), v6 = .int .i64 x6_2 ∧ Q0z (cl20_SubsetTakes.l0 kq l1 x5_2 x6_2 a0_0 l0_1 = some r) ∧ Q0z (kq ≤ kj2) ∧ Q0z (Kd.R (Kd.int .i64) 3 w' w.heap.size (fun _ => True) v5 x5_2) ∧ Q0z (w'.heap[gb101]? = some (.cells #[.int .i64 a0_0, (.slice A0_1 l0_1.length c0_1)] 28 (0, 0))) ∧ Q0z (Below w.heap.size w w'))
    case atStart => exact ⟨(([] : List Int)), (0), (by first | rfl | (simp; done) | (simp [*]; done)), H', ⟨Nat.le_refl _⟩, ⟨by first | exact Kd.R_nil _ _ _ _ _ | exact Kd.N_nil _ _ _ _ _ | exact Kd.V_nil _ _ _ _ _ | exact Kd.Q_nil _ _ _ _ _ | exact Kd.S_nil _ _ _ _ _⟩, ⟨by (with_reducible repeat (first | refine bN ?_ _ | refine bd ?_ | refine bA ?_ _)); exact BK101.1⟩, ⟨by repeat (first | (with_reducible first | exact HB.1 | apply ba | apply pN | apply bD | refine bS ?_ GE101.1) | exact HB.1)⟩⟩
    case round =>
     clear H'
     try clear c1
     try clear p2
     try clear c3
     try clear c5
     try clear c6
     try clear c7
     try clear c7b0
     try clear c7b1
     try clear c12
     try clear c16
     try clear hcz10_0
     try clear hcz10_1
     try clear hcz11_0
     try clear hcz11_1
     try clear hcz13_0
     try clear hcz13_1
     try clear hcz14_0
     try clear hcz14_1
     try clear hcz8_0
     try clear hcz8_1
     try clear hfz10_0
     try clear hfz10_1
     try clear hfz11_0
     try clear hfz11_1
     try clear hfz13_0
     try clear hfz13_1
     try clear hfz14_0
     try clear hfz14_1
     try clear hfz8_0
     try clear hfz8_1
     try clear p2
     obtain ⟨x5_2, x6_2, rfl, HA, HK2, HO_5, BK101, HB⟩ := hrel
     cases gk with
     | zero => exact absurd HA.1 (by simp [cl20_SubsetTakes.l0])
     | succ k2 =>
      have H := HA.1
      clear HA
      simp only [cl20_SubsetTakes.l0] at H
      by_cases c19 : x6_2 < (l1.length : Int)
      ·rw [if_pos c19] at H
       have c19b0 : decide (x6_2 < (l1.length : Int)) = true := decide_eq_true c19
       clear c19
       by_cases c20 : 0 ≤ x6_2
       ·rw [if_pos c20] at H
        have c20b0 : decide (0 ≤ x6_2) = true := decide_eq_true c20
        clear c20
        by_cases c21 : a0_0 = 0
        ·rw [if_pos c21] at H
         exact absurd H (by simp)
        ·rw [if_neg c21] at H
         have c21b0 : (a0_0 == 0) = false := beq_eq_false_iff_ne.mpr c21
         have c21b1 : (a0_0 != 0) = true := bne_iff_ne.mpr c21
         by_cases c22 : x5_2.length < 17592186044416
         ·rw [if_pos c22] at H
          have LMc22 := Q0z.mk c22
          clear c22
          obtain ⟨y105, hy105⟩ : ∃ y_ : List Int, y_ = (x5_2 ++ [Int.tmod (wrap64 (rd l1 x6_2)) a0_0]) := ⟨_, rfl⟩
          replace H : (cl20_SubsetTakes.l0 k2 l1 y105 (wrap64 (x6_2 + 1)) a0_0 l0_1) = some r := by first | (rw [hy105]; with_reducible exact H) | (have H2_ := (Option.bind_some _ _).symm.trans H; rw [hy105]; with_reducible exact H2_) | (have H2_ := (Option.bind_some _ _).symm.trans H; with_reducible exact H2_) | with_reducible exact H | (rw [hy105]; exact H) | exact H
          have Ny105 := Q0z.mk hy105
          clear hy105
          have H' := Q0z.mk H
          clear H
          try go_wp2
          have n0_ := Q0z.mk (Kd.R_drew HO_5.1)
          have n1_ := Q0z.mk (bd BK101.1)
          have n2_ := Q0z.mk (bD HB.1)
          clear HO_5
          clear BK101
          clear HB
          have HO_5 := n0_
          have BK101 := n1_
          have HB := n2_
          clear n0_ n1_ n2_
          have p104 : 0 ≤ (x6_2 : Int) := of_decide_eq_true (by first | (with_reducible assumption) | assumption)
          have q104 : x6_2 < (l1.length : Int) := of_decide_eq_true (by first | (with_reducible assumption) | assumption)
          obtain ⟨ad104, e104, hx104_0⟩ := Kd.at_int HR1.1 x6_2 p104 q104
          have hw104_0 := hx104_0
          cases e104
          replace hx104_0 := (HB.1.cell (World.block_lt_of_cell? w _ hx104_0)).trans hx104_0
          replace p104 := eq_true p104
          replace q104 := eq_true q104
          refine start_ (n := 12) (S := fun w' => w'.cell? ⟨gb101, 0, none⟩ = some (.int .i64 a0_0) ∧ w'.cell? ⟨gb101, 1, none⟩ = some (.slice A0_1 l0_1.length c0_1) ∧ w'.cell? (ad104.add (x6_2).toNat) = some (.int .u8 (rd l1 x6_2))) (ds := []) #[false, false, false, false, false, false, false, false, false, false, false, false] (by kernel_rfl) rfl rfl ⟨(bcz BK101.1 0).trans rfl, (bcz BK101.1 1).trans rfl, ((HB.1.cell (World.block_lt_of_cell? w _ hw104_0)).trans hw104_0)⟩ (fun hHeld => ?_); refine with_tabW cl20_SubsetTakes.tab7 cl20_SubsetTakes.bits7 (fun HT_ HW_ => ?_)
          generalize wr.drew = w23 at HO_5 BK101 HB hx104_0 hHeld ⊢
          refine pure_ (i := 0) (N := some 37) (v := ?_) (a' := ?_) #[true, false, false, false, false, false, false, false, false, false, false, false] rfl rfl (any_of HT_.1 (by kernel_rfl)) (fun _ _ _ h => h) (Or.inl ⟨by rfl, ?_⟩) ?_ ?_
          rotate_left
          ·intro w'
           go_simp
           with_reducible rfl
          rotate_left
          ·simp only [Act.put, sA, sB, sC, i64_w, i32_w]
           rfl
          refine pure_ (i := 1) (N := some 38) (v := ?_) (a' := ?_) #[true, true, false, false, false, false, false, false, false, false, false, false] rfl rfl (any_of HT_.1 (by kernel_rfl)) (fun _ _ _ h => h) (Or.inl ⟨by rfl, ?_⟩) ?_ ?_
          rotate_left
          ·intro w'
           go_simp
           with_reducible rfl
          rotate_left
          ·simp only [Act.put, sA, sB, sC, i64_w, i32_w]
           rfl
          refine pure_ (i := 2) (N := some 39) (v := ?_) (a' := ?_) #[true, true, true, false, false, false, false, false, false, false, false, false] rfl rfl (any_of HT_.1 (by kernel_rfl)) (fun _ _ _ h => h) (Or.inl ⟨by rfl, ?_⟩) ?_ ?_
          rotate_left
          ·intro w'
           go_simp
           with_reducible rfl
          rotate_left
          ·simp only [Act.put, sA, sB, sC, i64_w, i32_w]
           rfl
          refine pure_ (i := 3) (N := some 40) (v := ?_) (a' := ?_) #[true, true, true, true, false, false, false, false, false, false, false, false] rfl rfl (any_of HT_.1 (by kernel_rfl)) (fun _ _ _ h => h) (Or.inl ⟨by rfl, ?_⟩) ?_ ?_
          rotate_left
          ·intro w'
           go_simp
           with_reducible rfl
          rotate_left
          ·simp only [Act.put, sA, sB, sC, i64_w, i32_w]
           rfl
          refine pure_ (i := 6) (N := some 43) (v := ?_) (a' := ?_) #[true, true, true, true, false, false, true, false, false, false, false, false] rfl rfl (any_of HT_.1 (by kernel_rfl)) (fun _ _ _ h => h) (Or.inl ⟨by rfl, ?_⟩) ?_ ?_
          rotate_left
          ·intro w'
           go_simp
           with_reducible rfl
          rotate_left
          ·simp only [Act.put, sA, sB, sC, i64_w, i32_w]
           rfl
          refine take_ (i := 4) (N := some 41) (v := ?_) (a' := ?_) #[true, true, true, true, true, false, true, false, false, false, false, false] rfl rfl (take_ofW HT_.1 HW_.1 (by kernel_rfl)) (fun _ _ _ h => h) (Or.inl ⟨by rfl, ?_⟩) hHeld ?_ ?_
          rotate_left
          ·rintro w' ⟨s0, s1, s2⟩
           go_simp
           with_reducible rfl
          rotate_left
          ·simp only [Act.put, sA, sB, sC, i64_w, i32_w]
           rfl
          refine pure_ (i := 5) (N := some 42) (v := ?_) (a' := ?_) #[true, true, true, true, true, true, true, false, false, false, false, false] rfl rfl (any_of HT_.1 (by kernel_rfl)) (fun _ _ _ h => h) (Or.inl ⟨by rfl, ?_⟩) ?_ ?_
          rotate_left
          ·intro w'
           go_simp
           with_reducible rfl
          rotate_left
          ·simp only [Act.put, sA, sB, sC, i64_w, i32_w]
           rfl
          refine take_ (i := 7) (N := some 44) (v := ?_) (a' := ?_) #[true, true, true, true, true, true, true, true, false, false, false, false] rfl rfl (take_ofW HT_.1 HW_.1 (by kernel_rfl)) (fun _ _ _ h => h) (Or.inl ⟨by rfl, ?_⟩) hHeld ?_ ?_
          rotate_left
          ·rintro w' ⟨s0, s1, s2⟩
           go_simp
           with_reducible rfl
          rotate_left
          ·simp only [Act.put, sA, sB, sC, i64_w, i32_w]
           rfl
          refine pure_ (i := 8) (N := some 45) (v := ?_) (a' := ?_) #[true, true, true, true, true, true, true, true, true, false, false, false] rfl rfl (any_of HT_.1 (by kernel_rfl)) (fun _ _ _ h => h) (Or.inl ⟨by rfl, ?_⟩) ?_ ?_
          rotate_left
          ·intro w'
           go_simp
           with_reducible rfl
          rotate_left
          ·simp only [Act.put, sA, sB, sC, i64_w, i32_w]
           rfl
          refine one_ (i := 9) (N := some 46) #[true, true, true, true, true, true, true, true, true, true, false, false] rfl rfl (one_of HT_.1 (by kernel_rfl)) (by decide) (fun K hK => ?_)
          refine value_ (w1 := ?_) (v := ?_) (by rfl) rfl ?_ ?_
          rotate_left 2
          ·go_simp
           constructor
           ·rfl
           ·rfl
          refine hK.out _ _ ⟨(bcz (bA BK101.1 _) 0).trans rfl, (bcz (bA BK101.1 _) 1).trans rfl, (World.cell?_alloc_lt _ _ _ (World.block_lt_of_cell? _ _ (((HB.1.cell (World.block_lt_of_cell? w _ hw104_0)).trans hw104_0)))).trans (((HB.1.cell (World.block_lt_of_cell? w _ hw104_0)).trans hw104_0))⟩ (fun hHeld => ?_)
          clear hK K
          refine norm_ (a' := ?_) ?_ ?_
          rotate_left
          ·show Act.put _ (some 46) _ = _
           simp only [Act.put, sA, sB, sC, i64_w, i32_w]
           rfl
          refine one_ (i := 10) (N := some 47) #[true, true, true, true, true, true, true, true, true, true, true, false] rfl rfl (one_of HT_.1 (by kernel_rfl)) (by decide) (fun K hK => ?_)
          refine Kd.R_append_step (Kd.int .i64) (w0 := w) w.heap.size (by rfl) (.tmp 37) (.tmp 46) 45 3 (.int .i64 0) 8 rfl Try.underlying45 info3 rfl (by decide) (by omega) u5 x5_2 (Int.tmod (wrap64 (rd l1 x6_2)) a0_0) [.int .i64 (Int.tmod (wrap64 (rd l1 x6_2)) a0_0)] (fun _ => True) (fun _ => False) rfl rfl ?aP (fun _ hk => hk.elim) ?aF ?aO ?aB ?aS ?aL ?_
          (case aP => exact rfl)
          (case aB => exact (by repeat (first | (with_reducible first | exact HB.1 | apply ba | apply pN | apply bD | refine bS ?_ GE101.1) | exact HB.1)))
          (case aF => exact (fun _ _ => trivial))
          (case aO => exact (by (with_reducible repeat (first | apply Kd.R_alloc | apply Kd.R_drewN | apply Kd.R_drew)); exact HO_5.1))
          (case aS => exact (below_size (by repeat (first | (with_reducible first | exact HB.1 | apply ba | apply pN | apply bD | refine bS ?_ GE101.1) | exact HB.1))))
          (case aL => have := LMc22.1; omega)
          intro v106 w24 ho hb hg hat
          rw [← Ny105.1] at ho
          have n0_ := Q0z.mk (bG (g := gb101) (o := .cells #[.int .i64 a0_0, .slice A0_1 l0_1.length c0_1] 28 (0, 0)) (by (with_reducible repeat (first | refine bN ?_ _ | refine bd ?_ | refine bA ?_ _)); exact BK101.1) hg (Kd.R_ne HO_5.1 BK101.1 (by decide)))
          have n1_ := Q0z.mk (hb)
          have n2_ := Q0z.mk (ho)
          clear BK101
          clear HB
          clear HO_5
          have BK101 := n0_
          have HB := n1_
          have HO107 := n2_
          clear n0_ n1_ n2_
          clear ho hb hg hat
          refine hK.out _ _ ⟨(bcz BK101.1 0).trans rfl, (bcz BK101.1 1).trans rfl, ((HB.1.cell (World.block_lt_of_cell? w _ hw104_0)).trans hw104_0)⟩ (fun hHeld => ?_)
          clear hK K
          refine norm_ (a' := ?_) ?_ ?_
          rotate_left
          ·show Act.put _ (some 47) _ = _
           simp only [Act.put, sA, sB, sC, i64_w, i32_w]
           rfl
          refine pure_ (i := 11) (N := some 5) (v := ?_) (a' := ?_) #[true, true, true, true, true, true, true, true, true, true, true, true] rfl rfl (any_of HT_.1 (by kernel_rfl)) (fun _ _ _ h => h) (Or.inl ⟨by rfl, ?_⟩) ?_ ?_
          rotate_left
          ·intro w'
           go_simp
           with_reducible rfl
          rotate_left
          ·simp only [Act.put, sA, sB, sC, i64_w, i32_w]
           rfl
          refine done_ (done_of HT_.1 (by kernel_rfl)) ?_
          try go_wp2
          go_roundg k2
          case measure => have := HJ2.1; have := HK2.1; omega
          case rel => exact ⟨(y105), (wrap64 (x6_2 + 1)), (by first | rfl | (simp; done) | (simp [*]; done)), H', ⟨by have := HJ2.1; have := HK2.1; omega⟩, ⟨by (with_reducible repeat (first | apply Kd.R_alloc | apply Kd.R_drewN | apply Kd.R_drew)); exact HO107.1⟩, ⟨by (with_reducible repeat (first | refine bN ?_ _ | refine bd ?_ | refine bA ?_ _)); exact BK101.1⟩, ⟨by repeat (first | (with_reducible first | exact HB.1 | apply ba | apply pN | apply bD | refine bS ?_ GE101.1) | exact HB.1)⟩⟩
         ·rw [if_neg c22] at H
          exact absurd H (by simp)
       ·rw [if_neg c20] at H
        exact absurd H (by simp)
      ·rw [if_neg c19] at H
       have c19b0 : decide (x6_2 < (l1.length : Int)) = false := decide_eq_false c19
       clear c19
       replace H := Option.bind_eq_some_iff.mp H
       obtain ⟨⟨t108, t109, t112, t115⟩, A250, H⟩ := H
       replace H : (if t115 = 0 then ((cr19_Good.f k2 t108 t109 t112).bind fun t118 => (if t118 = true then ((subset_Of.f k2 a0_0 l0_1 (t109.length : Int)).bind fun bt119 => ((subset_Of.f k2 a0_0 l0_1 (wrap64 ((t109.length : Int) - 1))).bind fun bt128 => (cl20_SubsetTakes.l1 k2 x5_2 bt119.2.2.2 bt128.2.2.2 1 0 a0_0 l0_1 t108 t109 t112 bt119.1 bt119.2.1 bt119.2.2.1))) else (none))) else (if t115 = 14 then (if (t109.length : Int) = 0 then ((cl20_wakes.f k2).bind fun t117 => (some t117)) else (none)) else (none))) = some r := H
       have A25 := Q0z.mk A250
       clear A250
       by_cases c26 : t115 = 0
       ·rw [if_pos c26] at H
        have c26b0 : (t115 == 0) = true := beq_iff_eq.mpr c26
        have c26b1 : (t115 != 0) = false := bne_eq_false_iff_eq.mpr c26
        clear c26
        replace H := Option.bind_eq_some_iff.mp H
        obtain ⟨t118, A270, H⟩ := H
        replace H : (if t118 = true then ((subset_Of.f k2 a0_0 l0_1 (t109.length : Int)).bind fun bt119 => ((subset_Of.f k2 a0_0 l0_1 (wrap64 ((t109.length : Int) - 1))).bind fun bt128 => (cl20_SubsetTakes.l1 k2 x5_2 bt119.2.2.2 bt128.2.2.2 1 0 a0_0 l0_1 t108 t109 t112 bt119.1 bt119.2.1 bt119.2.2.1))) else (none)) = some r := H
        have A27 := Q0z.mk A270
        clear A270
        by_cases c28 : t118 = true
        ·subst c28
         have H1 : ((subset_Of.f k2 a0_0 l0_1 (t109.length : Int)).bind fun bt119 => ((subset_Of.f k2 a0_0 l0_1 (wrap64 ((t109.length : Int) - 1))).bind fun bt128 => (cl20_SubsetTakes.l1 k2 x5_2 bt119.2.2.2 bt128.2.2.2 1 0 a0_0 l0_1 t108 t109 t112 bt119.1 bt119.2.1 bt119.2.2.1))) = some r := by rw [if_pos rfl] at H; exact H
         clear H
         have H := H1
         clear H1
         replace H := Option.bind_eq_some_iff.mp H
         obtain ⟨⟨t119, t120, t123, t126⟩, A290, H⟩ := H
         replace H : ((subset_Of.f k2 a0_0 l0_1 (wrap64 ((t109.length : Int) - 1))).bind fun bt128 => (cl20_SubsetTakes.l1 k2 x5_2 t126 bt128.2.2.2 1 0 a0_0 l0_1 t108 t109 t112 t119 t120 t123)) = some r := H
         have A29 := Q0z.mk A290
         clear A290
         replace H := Option.bind_eq_some_iff.mp H
         obtain ⟨⟨t128, t129, t132, t135⟩, A300, H⟩ := H
         replace H : (cl20_SubsetTakes.l1 k2 x5_2 t126 t135 1 0 a0_0 l0_1 t108 t109 t112 t119 t120 t123) = some r := H
         have A30 := Q0z.mk A300
         clear A300
         have H' := Q0z.mk H
         clear H
         have hcz31_0 : wr.cell? ⟨gb101, 0, none⟩ = some (.int .i64 a0_0) := (bcz BK101.1 0).trans rfl
         have hcz31_1 : wr.cell? ⟨gb101, 1, none⟩ = some (.slice A0_1 l0_1.length c0_1) := (bcz BK101.1 1).trans rfl
         have hfz31_0 := bf BK101.1 0
         have hfz31_1 := bf BK101.1 1
         go_wp2_with (first | ((with_reducible refine gate_callee (f := 58) rfl ?_); refine goesL_ (some 50) rfl rfl Try.func58 (by kernel_rfl) rfl #[.agg #[.int .i64 a0_0, .slice A0_1 l0_1.length c0_1], .int .i64 120] rfl (by (try simp only [List.map_toArray, List.map_cons, List.map_nil]); first | done | rfl | (simp only [List.length_drop, List.length_take]; rfl)) ?_; (with_reducible refine (subset_Of.calls k2 a0_0 _ _ l0_1 120 t108 t109 t112 t115 _ ?side1 ?side2 A25.1).mono ?_); (case side1 => repeat (first | exact (Kd.C_below HR0_1.1 HB.1) | (with_reducible refine Kd.C_alloc ?_ _) | (with_reducible refine Kd.C_drewN ?_ _) | (with_reducible refine Kd.C_drew ?_))); (case side2 => exact HC0_1.1); rintro e w32 ⟨v110, v113, rfl, ho0, ho1, hb⟩; refine ⟨_, rfl, ?_⟩; have n0_ := Q0z.mk (Kd.R_below (by (with_reducible repeat (first | apply Kd.R_alloc | apply Kd.R_drewN | apply Kd.R_drew)); exact HO_5.1) hb); have n1_ := Q0z.mk (Kd.S_lower (Kd.S_new' ho0 (Kd.R_lt (by (with_reducible repeat (first | apply Kd.R_alloc | apply Kd.R_drewN | apply Kd.R_drew)); exact HO_5.1))) (below_size (by repeat (first | (with_reducible first | exact HB.1 | apply ba | apply pN | apply bD | refine bS ?_ GE101.1) | exact HB.1)))); have n2_ := Q0z.mk (Kd.R_lower ho1 (below_size (by repeat (first | (with_reducible first | exact HB.1 | apply ba | apply pN | apply bD | refine bS ?_ GE101.1) | exact HB.1)))); have n3_ := Q0z.mk (bbz (g := gb101) (o := .cells #[.int .i64 a0_0, .slice A0_1 l0_1.length c0_1] 28 (0, 0)) (by (with_reducible repeat (first | refine bN ?_ _ | refine bd ?_ | refine bA ?_ _)); exact BK101.1) hb); have n4_ := Q0z.mk (bsz (by repeat (first | (with_reducible first | exact HB.1 | apply ba | apply pN | apply bD | refine bS ?_ GE101.1) | exact HB.1)) hb); clear HO_5; clear BK101; clear HB; have HO_5 := n0_; have HO111 := n1_; have HO114 := n2_; have BK101 := n3_; have HB := n4_; clear n0_ n1_ n2_ n3_ n4_; (try clear hb); (try clear hb2); (try clear hk); (try clear hi); (try clear ho0); (try clear ho1)) | ((with_reducible refine gate_dst (N := 7) rfl ?_); (try (refine gate_guard (by rfl) ?_; dsimp only)); refine box_event ?hg (N := 7) ?hd (cs := #[.int .i64 0, .slice none 0 0, .slice none 0 0]) (t := 25) ?hr ?_; (case hd => rfl); (case hg => rfl); (case hr => first | (go_simp; done) | (go_simp; rfl)); intro gb116 hg w33 hbox hb; have n0_ := Q0z.mk (Kd.R_below (by (with_reducible repeat (first | apply Kd.R_alloc | apply Kd.R_drewN | apply Kd.R_drew)); exact HO_5.1) hb); have n1_ := Q0z.mk (Kd.S_below (by (with_reducible repeat (first | apply Kd.S_alloc | apply Kd.S_drewN | apply Kd.S_drew)); exact HO111.1) hb); have n2_ := Q0z.mk (Kd.R_below (by (with_reducible repeat (first | apply Kd.R_alloc | apply Kd.R_drewN | apply Kd.R_drew)); exact HO114.1) hb); have n3_ := Q0z.mk (bbz (g := gb101) (o := .cells #[.int .i64 a0_0, .slice A0_1 l0_1.length c0_1] 28 (0, 0)) (by (with_reducible repeat (first | refine bN ?_ _ | refine bd ?_ | refine bA ?_ _)); exact BK101.1) hb); have n4_ := Q0z.mk (bsz (by repeat (first | (with_reducible first | exact HB.1 | apply ba | apply pN | apply bD | refine bS ?_ GE101.1) | exact HB.1)) hb); have n5_ := Q0z.mk (hbox); have n6_ := Q0z.mk ((by rw [hg]; exact (below_size (by repeat (first | (with_reducible first | exact HB.1 | apply ba | apply pN | apply bD | refine bS ?_ GE101.1) | exact HB.1))) : w.heap.size ≤ gb116)); have n7_ := Q0z.mk ((by rw [hg]; exact (below_size (by repeat (first | (with_reducible first | exact HB.1 | apply ba | apply pN | apply bD | refine bS ?_ GE101.1) | exact HB.1))) : w.heap.size ≤ gb116)); have n8_ := Q0z.mk ((by rw [hg]; exact Nat.ne_of_lt (blk_lt (g := gb101) (o := .cells #[.int .i64 a0_0, .slice A0_1 l0_1.length c0_1] 28 (0, 0)) (by (with_reducible repeat (first | refine bN ?_ _ | refine bd ?_ | refine bA ?_ _)); exact BK101.1)) : gb101 ≠ gb116)); have n9_ := Q0z.mk ((by rw [hg]; exact Nat.ne_of_gt (blk_lt (g := gb101) (o := .cells #[.int .i64 a0_0, .slice A0_1 l0_1.length c0_1] 28 (0, 0)) (by (with_reducible repeat (first | refine bN ?_ _ | refine bd ?_ | refine bA ?_ _)); exact BK101.1)) : gb116 ≠ gb101)); clear HO_5; clear HO111; clear HO114; clear BK101; clear HB; have HO_5 := n0_; have HO111 := n1_; have HO114 := n2_; have BK101 := n3_; have HB := n4_; have BK116 := n5_; have GW116 := n6_; have GE116 := n7_; have NB101_116 := n8_; have NB116_101 := n9_; clear n0_ n1_ n2_ n3_ n4_ n5_ n6_ n7_ n8_ n9_; clear hb hbox hg; have hnb34 := NB116_101.1; have hnc34 := NB101_116.1; have hcz35_0 : w33.cell? ⟨gb116, 0, none⟩ = some (.int .i64 0) := (bcz BK116.1 0).trans rfl; have hcz35_1 : w33.cell? ⟨gb116, 1, none⟩ = some (.slice none 0 0) := (bcz BK116.1 1).trans rfl; have hcz35_2 : w33.cell? ⟨gb116, 2, none⟩ = some (.slice none 0 0) := (bcz BK116.1 2).trans rfl; have hfz35_0 := bf BK116.1 0; have hfz35_1 := bf BK116.1 1; have hfz35_2 := bf BK116.1 2; obtain ⟨Ao36, co36, eo36⟩ := Kd.S_slice HO111.1; subst eo36; obtain ⟨Ao37, co37, eo37⟩ := Kd.R_slice HO114.1; subst eo37) | ((with_reducible refine gate_callee (f := 37) rfl ?_); refine goesL_ (some 67) rfl rfl Try.func37 (by kernel_rfl) rfl #[.agg #[.int .i64 t108, .slice Ao36 t109.length co36, .slice Ao37 t112.length co37]] rfl (by (try simp only [List.map_toArray, List.map_cons, List.map_nil]); first | done | rfl | (simp only [List.length_drop, List.length_take]; rfl)) ?_; (with_reducible refine (cr19_Good.calls k2 t108 _ _ t109 _ _ t112 true _ ?side1 ?side2 ?side3 ?side4 A27.1).mono ?_); (case side1 => refine (Kd.S_reads' (e := 45) (base := w.heap.size) (ok := fun k_ => (True ∧ some k_ ≠ (u5 : Value).ownBlock)) (n := t109.length) (c := co36) ?_).2.2; exact (by (with_reducible repeat (first | apply Kd.S_alloc | apply Kd.S_drewN | apply Kd.S_drew)); exact (Kd.S_mono (Kd.S_far (p := ⟨gb116, 2, none⟩) (Kd.S_far (p := ⟨gb116, 1, none⟩) (Kd.S_far (p := ⟨gb116, 0, none⟩) (Kd.S_types HO111.1 BK116.1 (by decide)) (fun _ hk => hk.2) (.int .i64 t108)) (fun _ hk => hk.2) (.slice Ao36 t109.length co36)) (fun _ hk => hk.2) (.slice Ao37 t112.length co37)) (fun _ h_ => h_.1)))); (case side2 => exact (Kd.S_reads' HO111.1).2.1); (case side3 => refine (Kd.R_reads' (e := 4) (base := w.heap.size) (ok := fun k_ => True) (n := t112.length) (c := co37) ?_).2.2; exact (by (with_reducible repeat (first | apply Kd.R_alloc | apply Kd.R_drewN | apply Kd.R_drew)); exact (Kd.R_mono (Kd.R_far (p := ⟨gb116, 2, none⟩) (Kd.R_far (p := ⟨gb116, 1, none⟩) (Kd.R_far (p := ⟨gb116, 0, none⟩) (Kd.R_types HO114.1 BK116.1 (by decide)) (fun _ hk => hk.2) (.int .i64 t108)) (fun _ hk => hk.2) (.slice Ao36 t109.length co36)) (fun _ hk => hk.2) (.slice Ao37 t112.length co37)) (fun _ h_ => h_.1)))); (case side4 => exact (Kd.R_reads' HO114.1).2.1); rintro e w38 ⟨rfl, hb⟩; refine ⟨_, rfl, ?_⟩; have n0_ := Q0z.mk (Kd.R_below (by (with_reducible repeat (first | apply Kd.R_alloc | apply Kd.R_drewN | apply Kd.R_drew)); exact (Kd.R_mono (Kd.R_far (p := ⟨gb116, 2, none⟩) (Kd.R_far (p := ⟨gb116, 1, none⟩) (Kd.R_far (p := ⟨gb116, 0, none⟩) (Kd.R_types HO_5.1 BK116.1 (by decide)) (fun _ hk => hk.2) (.int .i64 t108)) (fun _ hk => hk.2) (.slice Ao36 t109.length co36)) (fun _ hk => hk.2) (.slice Ao37 t112.length co37)) (fun _ h_ => h_.1))) hb); have n1_ := Q0z.mk (Kd.S_below (by (with_reducible repeat (first | apply Kd.S_alloc | apply Kd.S_drewN | apply Kd.S_drew)); exact (Kd.S_mono (Kd.S_far (p := ⟨gb116, 2, none⟩) (Kd.S_far (p := ⟨gb116, 1, none⟩) (Kd.S_far (p := ⟨gb116, 0, none⟩) (Kd.S_types HO111.1 BK116.1 (by decide)) (fun _ hk => hk.2) (.int .i64 t108)) (fun _ hk => hk.2) (.slice Ao36 t109.length co36)) (fun _ hk => hk.2) (.slice Ao37 t112.length co37)) (fun _ h_ => h_.1))) hb); have n2_ := Q0z.mk (Kd.R_below (by (with_reducible repeat (first | apply Kd.R_alloc | apply Kd.R_drewN | apply Kd.R_drew)); exact (Kd.R_mono (Kd.R_far (p := ⟨gb116, 2, none⟩) (Kd.R_far (p := ⟨gb116, 1, none⟩) (Kd.R_far (p := ⟨gb116, 0, none⟩) (Kd.R_types HO114.1 BK116.1 (by decide)) (fun _ hk => hk.2) (.int .i64 t108)) (fun _ hk => hk.2) (.slice Ao36 t109.length co36)) (fun _ hk => hk.2) (.slice Ao37 t112.length co37)) (fun _ h_ => h_.1))) hb); have n3_ := Q0z.mk (bbz (g := gb101) (o := .cells #[.int .i64 a0_0, .slice A0_1 l0_1.length c0_1] 28 (0, 0)) (by (with_reducible repeat (first | refine bN ?_ _ | refine bd ?_ | refine bA ?_ _)); refine bF ?_ NB101_116.1 _; (with_reducible repeat (first | refine bN ?_ _ | refine bd ?_ | refine bA ?_ _)); refine bF ?_ NB101_116.1 _; (with_reducible repeat (first | refine bN ?_ _ | refine bd ?_ | refine bA ?_ _)); refine bF ?_ NB101_116.1 _; (with_reducible repeat (first | refine bN ?_ _ | refine bd ?_ | refine bA ?_ _)); exact BK101.1) hb); have n4_ := Q0z.mk (bbz (g := gb116) (o := .cells #[.int .i64 t108, .slice Ao36 t109.length co36, .slice Ao37 t112.length co37] 25 (0, 0)) (by (with_reducible repeat (first | refine bN ?_ _ | refine bd ?_ | refine bA ?_ _)); refine bp (cs := #[.int .i64 t108, .slice Ao36 t109.length co36, .slice none 0 0]) ?_ 2 _ rfl; (with_reducible repeat (first | refine bN ?_ _ | refine bd ?_ | refine bA ?_ _)); refine bp (cs := #[.int .i64 t108, .slice none 0 0, .slice none 0 0]) ?_ 1 _ rfl; (with_reducible repeat (first | refine bN ?_ _ | refine bd ?_ | refine bA ?_ _)); refine bp (cs := #[.int .i64 0, .slice none 0 0, .slice none 0 0]) ?_ 0 _ rfl; (with_reducible repeat (first | refine bN ?_ _ | refine bd ?_ | refine bA ?_ _)); exact BK116.1) hb); have n5_ := Q0z.mk (bsz (by repeat (first | (with_reducible first | exact HB.1 | apply ba | apply pN | apply bD | refine bS ?_ GE101.1 | refine bS ?_ GE116.1) | exact HB.1)) hb); clear HO_5; clear HO111; clear HO114; clear BK101; clear BK116; clear HB; have HO_5 := n0_; have HO111 := n1_; have HO114 := n2_; have BK101 := n3_; have BK116 := n4_; have HB := n5_; clear n0_ n1_ n2_ n3_ n4_ n5_; (try clear hb); (try clear hb2); (try clear hk); (try clear hi); have hcz39_0 : w38.cell? ⟨gb101, 0, none⟩ = some (.int .i64 a0_0) := (bcz BK101.1 0).trans rfl; have hcz39_1 : w38.cell? ⟨gb101, 1, none⟩ = some (.slice A0_1 l0_1.length c0_1) := (bcz BK101.1 1).trans rfl; have hfz39_0 := bf BK101.1 0; have hfz39_1 := bf BK101.1 1; have hcz40_0 : w38.cell? ⟨gb116, 0, none⟩ = some (.int .i64 t108) := (bcz BK116.1 0).trans rfl; have hcz40_1 : w38.cell? ⟨gb116, 1, none⟩ = some (.slice Ao36 t109.length co36) := (bcz BK116.1 1).trans rfl; have hcz40_2 : w38.cell? ⟨gb116, 2, none⟩ = some (.slice Ao37 t112.length co37) := (bcz BK116.1 2).trans rfl; have hfz40_0 := bf BK116.1 0; have hfz40_1 := bf BK116.1 1; have hfz40_2 := bf BK116.1 2) | ((with_reducible refine gate_callee (f := 58) rfl ?_); refine goesL_ (some 74) rfl rfl Try.func58 (by kernel_rfl) rfl #[.agg #[.int .i64 a0_0, .slice A0_1 l0_1.length c0_1], .int .i64 (t109.length : Int)] rfl (by (try simp only [List.map_toArray, List.map_cons, List.map_nil]); first | done | rfl | (simp only [List.length_drop, List.length_take]; rfl)) ?_; (with_reducible refine (subset_Of.calls k2 a0_0 _ _ l0_1 (t109.length : Int) t119 t120 t123 t126 _ ?side1 ?side2 A29.1).mono ?_); (case side1 => repeat (first | exact (Kd.C_below HR0_1.1 HB.1) | (with_reducible refine Kd.C_alloc ?_ _) | (with_reducible refine Kd.C_drewN ?_ _) | (with_reducible refine Kd.C_drew ?_))); (case side2 => exact HC0_1.1); rintro e w41 ⟨v121, v124, rfl, ho0, ho1, hb⟩; refine ⟨_, rfl, ?_⟩; have n0_ := Q0z.mk (Kd.R_below (by (with_reducible repeat (first | apply Kd.R_alloc | apply Kd.R_drewN | apply Kd.R_drew)); exact HO_5.1) hb); have n1_ := Q0z.mk (Kd.S_elder' (by (with_reducible repeat (first | apply Kd.S_alloc | apply Kd.S_drewN | apply Kd.S_drew)); exact HO111.1) (Kd.S_base ho0) hb); have n2_ := Q0z.mk (Kd.R_elder' (by (with_reducible repeat (first | apply Kd.R_alloc | apply Kd.R_drewN | apply Kd.R_drew)); exact HO114.1) (Kd.R_base ho1) hb); have n3_ := Q0z.mk (Kd.S_lower (Kd.S_new' (Kd.S_new' ho0 (Kd.R_lt (by (with_reducible repeat (first | apply Kd.R_alloc | apply Kd.R_drewN | apply Kd.R_drew)); exact HO_5.1))) (Kd.S_lt (by (with_reducible repeat (first | apply Kd.S_alloc | apply Kd.S_drewN | apply Kd.S_drew)); exact HO111.1))) (below_size (by repeat (first | (with_reducible first | exact HB.1 | apply ba | apply pN | apply bD | refine bS ?_ GE101.1 | refine bS ?_ GE116.1) | exact HB.1)))); have n4_ := Q0z.mk (Kd.R_lower (Kd.R_new' ho1 (Kd.R_lt (by (with_reducible repeat (first | apply Kd.R_alloc | apply Kd.R_drewN | apply Kd.R_drew)); exact HO114.1))) (below_size (by repeat (first | (with_reducible first | exact HB.1 | apply ba | apply pN | apply bD | refine bS ?_ GE101.1 | refine bS ?_ GE116.1) | exact HB.1)))); have n5_ := Q0z.mk (bbz (g := gb101) (o := .cells #[.int .i64 a0_0, .slice A0_1 l0_1.length c0_1] 28 (0, 0)) (by (with_reducible repeat (first | refine bN ?_ _ | refine bd ?_ | refine bA ?_ _)); exact BK101.1) hb); have n6_ := Q0z.mk (bbz (g := gb116) (o := .cells #[.int .i64 t108, .slice Ao36 t109.length co36, .slice Ao37 t112.length co37] 25 (0, 0)) (by (with_reducible repeat (first | refine bN ?_ _ | refine bd ?_ | refine bA ?_ _)); exact BK116.1) hb); have n7_ := Q0z.mk (bsz (by repeat (first | (with_reducible first | exact HB.1 | apply ba | apply pN | apply bD | refine bS ?_ GE101.1 | refine bS ?_ GE116.1) | exact HB.1)) hb); clear HO_5; clear HO111; clear HO114; clear BK101; clear BK116; clear HB; have HO_5 := n0_; have HO111 := n1_; have HO114 := n2_; have HO122 := n3_; have HO125 := n4_; have BK101 := n5_; have BK116 := n6_; have HB := n7_; clear n0_ n1_ n2_ n3_ n4_ n5_ n6_ n7_; (try clear hb); (try clear hb2); (try clear hk); (try clear hi); (try clear ho0); (try clear ho1)) | ((with_reducible refine gate_dst (N := 9) rfl ?_); (try (refine gate_guard (by rfl) ?_; dsimp only)); refine box_event ?hg (N := 9) ?hd (cs := #[.int .i64 0, .slice none 0 0, .slice none 0 0]) (t := 25) ?hr ?_; (case hd => rfl); (case hg => rfl); (case hr => first | (go_simp; done) | (go_simp; rfl)); intro gb127 hg w42 hbox hb; have n0_ := Q0z.mk (Kd.R_below (by (with_reducible repeat (first | apply Kd.R_alloc | apply Kd.R_drewN | apply Kd.R_drew)); exact HO_5.1) hb); have n1_ := Q0z.mk (Kd.S_below (by (with_reducible repeat (first | apply Kd.S_alloc | apply Kd.S_drewN | apply Kd.S_drew)); exact HO111.1) hb); have n2_ := Q0z.mk (Kd.R_below (by (with_reducible repeat (first | apply Kd.R_alloc | apply Kd.R_drewN | apply Kd.R_drew)); exact HO114.1) hb); have n3_ := Q0z.mk (Kd.S_below (by (with_reducible repeat (first | apply Kd.S_alloc | apply Kd.S_drewN | apply Kd.S_drew)); exact HO122.1) hb); have n4_ := Q0z.mk (Kd.R_below (by (with_reducible repeat (first | apply Kd.R_alloc | apply Kd.R_drewN | apply Kd.R_drew)); exact HO125.1) hb); have n5_ := Q0z.mk (bbz (g := gb101) (o := .cells #[.int .i64 a0_0, .slice A0_1 l0_1.length c0_1] 28 (0, 0)) (by (with_reducible repeat (first | refine bN ?_ _ | refine bd ?_ | refine bA ?_ _)); exact BK101.1) hb); have n6_ := Q0z.mk (bbz (g := gb116) (o := .cells #[.int .i64 t108, .slice Ao36 t109.length co36, .slice Ao37 t112.length co37] 25 (0, 0)) (by (with_reducible repeat (first | refine bN ?_ _ | refine bd ?_ | refine bA ?_ _)); exact BK116.1) hb); have n7_ := Q0z.mk (bsz (by repeat (first | (with_reducible first | exact HB.1 | apply ba | apply pN | apply bD | refine bS ?_ GE101.1 | refine bS ?_ GE116.1) | exact HB.1)) hb); have n8_ := Q0z.mk (hbox); have n9_ := Q0z.mk ((by rw [hg]; exact (below_size (by repeat (first | (with_reducible first | exact HB.1 | apply ba | apply pN | apply bD | refine bS ?_ GE101.1 | refine bS ?_ GE116.1) | exact HB.1))) : w.heap.size ≤ gb127)); have n10_ := Q0z.mk ((by rw [hg]; exact (below_size (by repeat (first | (with_reducible first | exact HB.1 | apply ba | apply pN | apply bD | refine bS ?_ GE101.1 | refine bS ?_ GE116.1) | exact HB.1))) : w.heap.size ≤ gb127)); have n11_ := Q0z.mk ((by rw [hg]; exact Nat.ne_of_lt (blk_lt (g := gb101) (o := .cells #[.int .i64 a0_0, .slice A0_1 l0_1.length c0_1] 28 (0, 0)) (by (with_reducible repeat (first | refine bN ?_ _ | refine bd ?_ | refine bA ?_ _)); exact BK101.1)) : gb101 ≠ gb127)); have n12_ := Q0z.mk ((by rw [hg]; exact Nat.ne_of_gt (blk_lt (g := gb101) (o := .cells #[.int .i64 a0_0, .slice A0_1 l0_1.length c0_1] 28 (0, 0)) (by (with_reducible repeat (first | refine bN ?_ _ | refine bd ?_ | refine bA ?_ _)); exact BK101.1)) : gb127 ≠ gb101)); have n13_ := Q0z.mk ((by rw [hg]; exact Nat.ne_of_lt (blk_lt (g := gb116) (o := .cells #[.int .i64 t108, .slice Ao36 t109.length co36, .slice Ao37 t112.length co37] 25 (0, 0)) (by (with_reducible repeat (first | refine bN ?_ _ | refine bd ?_ | refine bA ?_ _)); exact BK116.1)) : gb116 ≠ gb127)); have n14_ := Q0z.mk ((by rw [hg]; exact Nat.ne_of_gt (blk_lt (g := gb116) (o := .cells #[.int .i64 t108, .slice Ao36 t109.length co36, .slice Ao37 t112.length co37] 25 (0, 0)) (by (with_reducible repeat (first | refine bN ?_ _ | refine bd ?_ | refine bA ?_ _)); exact BK116.1)) : gb127 ≠ gb116)); clear HO_5; clear HO111; clear HO114; clear HO122; clear HO125; clear BK101; clear BK116; clear HB; have HO_5 := n0_; have HO111 := n1_; have HO114 := n2_; have HO122 := n3_; have HO125 := n4_; have BK101 := n5_; have BK116 := n6_; have HB := n7_; have BK127 := n8_; have GW127 := n9_; have GE127 := n10_; have NB101_127 := n11_; have NB127_101 := n12_; have NB116_127 := n13_; have NB127_116 := n14_; clear n0_ n1_ n2_ n3_ n4_ n5_ n6_ n7_ n8_ n9_ n10_ n11_ n12_ n13_ n14_; clear hb hbox hg; have hnb43 := NB127_101.1; have hnc43 := NB101_127.1; have hnb44 := NB127_116.1; have hnc44 := NB116_127.1; have hcz45_0 : w42.cell? ⟨gb127, 0, none⟩ = some (.int .i64 0) := (bcz BK127.1 0).trans rfl; have hcz45_1 : w42.cell? ⟨gb127, 1, none⟩ = some (.slice none 0 0) := (bcz BK127.1 1).trans rfl; have hcz45_2 : w42.cell? ⟨gb127, 2, none⟩ = some (.slice none 0 0) := (bcz BK127.1 2).trans rfl; have hfz45_0 := bf BK127.1 0; have hfz45_1 := bf BK127.1 1; have hfz45_2 := bf BK127.1 2; obtain ⟨Ao46, co46, eo46⟩ := Kd.S_slice HO122.1; subst eo46; obtain ⟨Ao47, co47, eo47⟩ := Kd.R_slice HO125.1; subst eo47; have hcz48_0 : w42.cell? ⟨gb101, 0, none⟩ = some (.int .i64 a0_0) := (bcz BK101.1 0).trans rfl; have hcz48_1 : w42.cell? ⟨gb101, 1, none⟩ = some (.slice A0_1 l0_1.length c0_1) := (bcz BK101.1 1).trans rfl; have hfz48_0 := bf BK101.1 0; have hfz48_1 := bf BK101.1 1; have hcz49_0 : w42.cell? ⟨gb116, 0, none⟩ = some (.int .i64 t108) := (bcz BK116.1 0).trans rfl; have hcz49_1 : w42.cell? ⟨gb116, 1, none⟩ = some (.slice Ao36 t109.length co36) := (bcz BK116.1 1).trans rfl; have hcz49_2 : w42.cell? ⟨gb116, 2, none⟩ = some (.slice Ao37 t112.length co37) := (bcz BK116.1 2).trans rfl; have hfz49_0 := bf BK116.1 0; have hfz49_1 := bf BK116.1 1; have hfz49_2 := bf BK116.1 2) | ((with_reducible refine gate_callee (f := 58) rfl ?_); refine goesL_ (some 83) rfl rfl Try.func58 (by kernel_rfl) rfl #[.agg #[.int .i64 a0_0, .slice A0_1 l0_1.length c0_1], .int .i64 (wrap64 ((t109.length : Int) - 1))] rfl (by (try simp only [List.map_toArray, List.map_cons, List.map_nil]); first | done | rfl | (simp only [List.length_drop, List.length_take]; rfl)) ?_; (with_reducible refine (subset_Of.calls k2 a0_0 _ _ l0_1 (wrap64 ((t109.length : Int) - 1)) t128 t129 t132 t135 _ ?side1 ?side2 A30.1).mono ?_); (case side1 => exact Kd.C_below HR0_1.1 (by repeat (first | (with_reducible first | exact HB.1 | apply ba | apply pN | apply bD | refine bS ?_ GE101.1 | refine bS ?_ GE116.1 | refine bS ?_ GE127.1) | exact HB.1))); (case side2 => exact HC0_1.1); rintro e w50 ⟨v130, v133, rfl, ho0, ho1, hb⟩; refine ⟨_, rfl, ?_⟩; have n0_ := Q0z.mk (Kd.R_below (by (with_reducible repeat (first | apply Kd.R_alloc | apply Kd.R_drewN | apply Kd.R_drew)); exact (Kd.R_mono (Kd.R_far (p := ⟨gb127, 2, none⟩) (Kd.R_far (p := ⟨gb127, 1, none⟩) (Kd.R_far (p := ⟨gb127, 0, none⟩) (Kd.R_types HO_5.1 BK127.1 (by decide)) (fun _ hk => hk.2) (.int .i64 t119)) (fun _ hk => hk.2) (.slice Ao46 t120.length co46)) (fun _ hk => hk.2) (.slice Ao47 t123.length co47)) (fun _ h_ => h_.1))) hb); have n1_ := Q0z.mk (Kd.S_elder' (by (with_reducible repeat (first | apply Kd.S_alloc | apply Kd.S_drewN | apply Kd.S_drew)); exact (Kd.S_mono (Kd.S_far (p := ⟨gb127, 2, none⟩) (Kd.S_far (p := ⟨gb127, 1, none⟩) (Kd.S_far (p := ⟨gb127, 0, none⟩) (Kd.S_types HO111.1 BK127.1 (by decide)) (fun _ hk => hk.2) (.int .i64 t119)) (fun _ hk => hk.2) (.slice Ao46 t120.length co46)) (fun _ hk => hk.2) (.slice Ao47 t123.length co47)) (fun _ h_ => h_.1))) (Kd.S_base ho0) hb); have n2_ := Q0z.mk (Kd.R_elder' (by (with_reducible repeat (first | apply Kd.R_alloc | apply Kd.R_drewN | apply Kd.R_drew)); exact (Kd.R_mono (Kd.R_far (p := ⟨gb127, 2, none⟩) (Kd.R_far (p := ⟨gb127, 1, none⟩) (Kd.R_far (p := ⟨gb127, 0, none⟩) (Kd.R_types HO114.1 BK127.1 (by decide)) (fun _ hk => hk.2) (.int .i64 t119)) (fun _ hk => hk.2) (.slice Ao46 t120.length co46)) (fun _ hk => hk.2) (.slice Ao47 t123.length co47)) (fun _ h_ => h_.1))) (Kd.R_base ho1) hb); have n3_ := Q0z.mk (Kd.S_elder' (by (with_reducible repeat (first | apply Kd.S_alloc | apply Kd.S_drewN | apply Kd.S_drew)); exact (Kd.S_mono (Kd.S_far (p := ⟨gb127, 2, none⟩) (Kd.S_far (p := ⟨gb127, 1, none⟩) (Kd.S_far (p := ⟨gb127, 0, none⟩) (Kd.S_types HO122.1 BK127.1 (by decide)) (fun _ hk => hk.2) (.int .i64 t119)) (fun _ hk => hk.2) (.slice Ao46 t120.length co46)) (fun _ hk => hk.2) (.slice Ao47 t123.length co47)) (fun _ h_ => h_.1))) (Kd.S_base ho0) hb); have n4_ := Q0z.mk (Kd.R_elder' (by (with_reducible repeat (first | apply Kd.R_alloc | apply Kd.R_drewN | apply Kd.R_drew)); exact (Kd.R_mono (Kd.R_far (p := ⟨gb127, 2, none⟩) (Kd.R_far (p := ⟨gb127, 1, none⟩) (Kd.R_far (p := ⟨gb127, 0, none⟩) (Kd.R_types HO125.1 BK127.1 (by decide)) (fun _ hk => hk.2) (.int .i64 t119)) (fun _ hk => hk.2) (.slice Ao46 t120.length co46)) (fun _ hk => hk.2) (.slice Ao47 t123.length co47)) (fun _ h_ => h_.1))) (Kd.R_base ho1) hb); have n5_ := Q0z.mk (Kd.S_lower (Kd.S_new' (Kd.S_new' (Kd.S_new' ho0 (Kd.R_lt (by (with_reducible repeat (first | apply Kd.R_alloc | apply Kd.R_drewN | apply Kd.R_drew)); exact (Kd.R_mono (Kd.R_far (p := ⟨gb127, 2, none⟩) (Kd.R_far (p := ⟨gb127, 1, none⟩) (Kd.R_far (p := ⟨gb127, 0, none⟩) (Kd.R_types HO_5.1 BK127.1 (by decide)) (fun _ hk => hk.2) (.int .i64 t119)) (fun _ hk => hk.2) (.slice Ao46 t120.length co46)) (fun _ hk => hk.2) (.slice Ao47 t123.length co47)) (fun _ h_ => h_.1))))) (Kd.S_lt (by (with_reducible repeat (first | apply Kd.S_alloc | apply Kd.S_drewN | apply Kd.S_drew)); exact (Kd.S_mono (Kd.S_far (p := ⟨gb127, 2, none⟩) (Kd.S_far (p := ⟨gb127, 1, none⟩) (Kd.S_far (p := ⟨gb127, 0, none⟩) (Kd.S_types HO111.1 BK127.1 (by decide)) (fun _ hk => hk.2) (.int .i64 t119)) (fun _ hk => hk.2) (.slice Ao46 t120.length co46)) (fun _ hk => hk.2) (.slice Ao47 t123.length co47)) (fun _ h_ => h_.1))))) (Kd.S_lt (by (with_reducible repeat (first | apply Kd.S_alloc | apply Kd.S_drewN | apply Kd.S_drew)); exact (Kd.S_mono (Kd.S_far (p := ⟨gb127, 2, none⟩) (Kd.S_far (p := ⟨gb127, 1, none⟩) (Kd.S_far (p := ⟨gb127, 0, none⟩) (Kd.S_types HO122.1 BK127.1 (by decide)) (fun _ hk => hk.2) (.int .i64 t119)) (fun _ hk => hk.2) (.slice Ao46 t120.length co46)) (fun _ hk => hk.2) (.slice Ao47 t123.length co47)) (fun _ h_ => h_.1))))) (below_size (by repeat (first | (with_reducible first | exact HB.1 | apply ba | apply pN | apply bD | refine bS ?_ GE101.1 | refine bS ?_ GE116.1 | refine bS ?_ GE127.1) | exact HB.1)))); have n6_ := Q0z.mk (Kd.R_lower (Kd.R_new' (Kd.R_new' ho1 (Kd.R_lt (by (with_reducible repeat (first | apply Kd.R_alloc | apply Kd.R_drewN | apply Kd.R_drew)); exact (Kd.R_mono (Kd.R_far (p := ⟨gb127, 2, none⟩) (Kd.R_far (p := ⟨gb127, 1, none⟩) (Kd.R_far (p := ⟨gb127, 0, none⟩) (Kd.R_types HO114.1 BK127.1 (by decide)) (fun _ hk => hk.2) (.int .i64 t119)) (fun _ hk => hk.2) (.slice Ao46 t120.length co46)) (fun _ hk => hk.2) (.slice Ao47 t123.length co47)) (fun _ h_ => h_.1))))) (Kd.R_lt (by (with_reducible repeat (first | apply Kd.R_alloc | apply Kd.R_drewN | apply Kd.R_drew)); exact (Kd.R_mono (Kd.R_far (p := ⟨gb127, 2, none⟩) (Kd.R_far (p := ⟨gb127, 1, none⟩) (Kd.R_far (p := ⟨gb127, 0, none⟩) (Kd.R_types HO125.1 BK127.1 (by decide)) (fun _ hk => hk.2) (.int .i64 t119)) (fun _ hk => hk.2) (.slice Ao46 t120.length co46)) (fun _ hk => hk.2) (.slice Ao47 t123.length co47)) (fun _ h_ => h_.1))))) (below_size (by repeat (first | (with_reducible first | exact HB.1 | apply ba | apply pN | apply bD | refine bS ?_ GE101.1 | refine bS ?_ GE116.1 | refine bS ?_ GE127.1) | exact HB.1)))); have n7_ := Q0z.mk (bbz (g := gb101) (o := .cells #[.int .i64 a0_0, .slice A0_1 l0_1.length c0_1] 28 (0, 0)) (by (with_reducible repeat (first | refine bN ?_ _ | refine bd ?_ | refine bA ?_ _)); refine bF ?_ NB101_127.1 _; (with_reducible repeat (first | refine bN ?_ _ | refine bd ?_ | refine bA ?_ _)); refine bF ?_ NB101_127.1 _; (with_reducible repeat (first | refine bN ?_ _ | refine bd ?_ | refine bA ?_ _)); refine bF ?_ NB101_127.1 _; (with_reducible repeat (first | refine bN ?_ _ | refine bd ?_ | refine bA ?_ _)); exact BK101.1) hb); have n8_ := Q0z.mk (bbz (g := gb116) (o := .cells #[.int .i64 t108, .slice Ao36 t109.length co36, .slice Ao37 t112.length co37] 25 (0, 0)) (by (with_reducible repeat (first | refine bN ?_ _ | refine bd ?_ | refine bA ?_ _)); refine bF ?_ NB116_127.1 _; (with_reducible repeat (first | refine bN ?_ _ | refine bd ?_ | refine bA ?_ _)); refine bF ?_ NB116_127.1 _; (with_reducible repeat (first | refine bN ?_ _ | refine bd ?_ | refine bA ?_ _)); refine bF ?_ NB116_127.1 _; (with_reducible repeat (first | refine bN ?_ _ | refine bd ?_ | refine bA ?_ _)); exact BK116.1) hb); have n9_ := Q0z.mk (bbz (g := gb127) (o := .cells #[.int .i64 t119, .slice Ao46 t120.length co46, .slice Ao47 t123.length co47] 25 (0, 0)) (by (with_reducible repeat (first | refine bN ?_ _ | refine bd ?_ | refine bA ?_ _)); refine bp (cs := #[.int .i64 t119, .slice Ao46 t120.length co46, .slice none 0 0]) ?_ 2 _ rfl; (with_reducible repeat (first | refine bN ?_ _ | refine bd ?_ | refine bA ?_ _)); refine bp (cs := #[.int .i64 t119, .slice none 0 0, .slice none 0 0]) ?_ 1 _ rfl; (with_reducible repeat (first | refine bN ?_ _ | refine bd ?_ | refine bA ?_ _)); refine bp (cs := #[.int .i64 0, .slice none 0 0, .slice none 0 0]) ?_ 0 _ rfl; (with_reducible repeat (first | refine bN ?_ _ | refine bd ?_ | refine bA ?_ _)); exact BK127.1) hb); have n10_ := Q0z.mk (bsz (by repeat (first | (with_reducible first | exact HB.1 | apply ba | apply pN | apply bD | refine bS ?_ GE101.1 | refine bS ?_ GE116.1 | refine bS ?_ GE127.1) | exact HB.1)) hb); clear HO_5; clear HO111; clear HO114; clear HO122; clear HO125; clear BK101; clear BK116; clear BK127; clear HB; have HO_5 := n0_; have HO111 := n1_; have HO114 := n2_; have HO122 := n3_; have HO125 := n4_; have HO131 := n5_; have HO134 := n6_; have BK101 := n7_; have BK116 := n8_; have BK127 := n9_; have HB := n10_; clear n0_ n1_ n2_ n3_ n4_ n5_ n6_ n7_ n8_ n9_ n10_; (try clear hb); (try clear hb2); (try clear hk); (try clear hi); (try clear ho0); (try clear ho1)) | ((with_reducible refine gate_dst (N := 11) rfl ?_); (try (refine gate_guard (by rfl) ?_; dsimp only)); refine box_event ?hg (N := 11) ?hd (cs := #[.int .i64 0, .slice none 0 0, .slice none 0 0]) (t := 25) ?hr ?_; (case hd => rfl); (case hg => rfl); (case hr => first | (go_simp; done) | (go_simp; rfl)); intro gb136 hg w51 hbox hb; have n0_ := Q0z.mk (Kd.R_below (by (with_reducible repeat (first | apply Kd.R_alloc | apply Kd.R_drewN | apply Kd.R_drew)); exact HO_5.1) hb); have n1_ := Q0z.mk (Kd.S_below (by (with_reducible repeat (first | apply Kd.S_alloc | apply Kd.S_drewN | apply Kd.S_drew)); exact HO111.1) hb); have n2_ := Q0z.mk (Kd.R_below (by (with_reducible repeat (first | apply Kd.R_alloc | apply Kd.R_drewN | apply Kd.R_drew)); exact HO114.1) hb); have n3_ := Q0z.mk (Kd.S_below (by (with_reducible repeat (first | apply Kd.S_alloc | apply Kd.S_drewN | apply Kd.S_drew)); exact HO122.1) hb); have n4_ := Q0z.mk (Kd.R_below (by (with_reducible repeat (first | apply Kd.R_alloc | apply Kd.R_drewN | apply Kd.R_drew)); exact HO125.1) hb); have n5_ := Q0z.mk (Kd.S_below (by (with_reducible repeat (first | apply Kd.S_alloc | apply Kd.S_drewN | apply Kd.S_drew)); exact HO131.1) hb); have n6_ := Q0z.mk (Kd.R_below (by (with_reducible repeat (first | apply Kd.R_alloc | apply Kd.R_drewN | apply Kd.R_drew)); exact HO134.1) hb); have n7_ := Q0z.mk (bbz (g := gb101) (o := .cells #[.int .i64 a0_0, .slice A0_1 l0_1.length c0_1] 28 (0, 0)) (by (with_reducible repeat (first | refine bN ?_ _ | refine bd ?_ | refine bA ?_ _)); exact BK101.1) hb); have n8_ := Q0z.mk (bbz (g := gb116) (o := .cells #[.int .i64 t108, .slice Ao36 t109.length co36, .slice Ao37 t112.length co37] 25 (0, 0)) (by (with_reducible repeat (first | refine bN ?_ _ | refine bd ?_ | refine bA ?_ _)); exact BK116.1) hb); have n9_ := Q0z.mk (bbz (g := gb127) (o := .cells #[.int .i64 t119, .slice Ao46 t120.length co46, .slice Ao47 t123.length co47] 25 (0, 0)) (by (with_reducible repeat (first | refine bN ?_ _ | refine bd ?_ | refine bA ?_ _)); exact BK127.1) hb); have n10_ := Q0z.mk (bsz (by repeat (first | (with_reducible first | exact HB.1 | apply ba | apply pN | apply bD | refine bS ?_ GE101.1 | refine bS ?_ GE116.1 | refine bS ?_ GE127.1) | exact HB.1)) hb); have n11_ := Q0z.mk (hbox); have n12_ := Q0z.mk ((by rw [hg]; exact (below_size (by repeat (first | (with_reducible first | exact HB.1 | apply ba | apply pN | apply bD | refine bS ?_ GE101.1 | refine bS ?_ GE116.1 | refine bS ?_ GE127.1) | exact HB.1))) : w.heap.size ≤ gb136)); have n13_ := Q0z.mk ((by rw [hg]; exact (below_size (by repeat (first | (with_reducible first | exact HB.1 | apply ba | apply pN | apply bD | refine bS ?_ GE101.1 | refine bS ?_ GE116.1 | refine bS ?_ GE127.1) | exact HB.1))) : w.heap.size ≤ gb136)); have n14_ := Q0z.mk ((by rw [hg]; exact Nat.ne_of_lt (blk_lt (g := gb101) (o := .cells #[.int .i64 a0_0, .slice A0_1 l0_1.length c0_1] 28 (0, 0)) (by (with_reducible repeat (first | refine bN ?_ _ | refine bd ?_ | refine bA ?_ _)); exact BK101.1)) : gb101 ≠ gb136)); have n15_ := Q0z.mk ((by rw [hg]; exact Nat.ne_of_gt (blk_lt (g := gb101) (o := .cells #[.int .i64 a0_0, .slice A0_1 l0_1.length c0_1] 28 (0, 0)) (by (with_reducible repeat (first | refine bN ?_ _ | refine bd ?_ | refine bA ?_ _)); exact BK101.1)) : gb136 ≠ gb101)); have n16_ := Q0z.mk ((by rw [hg]; exact Nat.ne_of_lt (blk_lt (g := gb116) (o := .cells #[.int .i64 t108, .slice Ao36 t109.length co36, .slice Ao37 t112.length co37] 25 (0, 0)) (by (with_reducible repeat (first | refine bN ?_ _ | refine bd ?_ | refine bA ?_ _)); exact BK116.1)) : gb116 ≠ gb136)); have n17_ := Q0z.mk ((by rw [hg]; exact Nat.ne_of_gt (blk_lt (g := gb116) (o := .cells #[.int .i64 t108, .slice Ao36 t109.length co36, .slice Ao37 t112.length co37] 25 (0, 0)) (by (with_reducible repeat (first | refine bN ?_ _ | refine bd ?_ | refine bA ?_ _)); exact BK116.1)) : gb136 ≠ gb116)); have n18_ := Q0z.mk ((by rw [hg]; exact Nat.ne_of_lt (blk_lt (g := gb127) (o := .cells #[.int .i64 t119, .slice Ao46 t120.length co46, .slice Ao47 t123.length co47] 25 (0, 0)) (by (with_reducible repeat (first | refine bN ?_ _ | refine bd ?_ | refine bA ?_ _)); exact BK127.1)) : gb127 ≠ gb136)); have n19_ := Q0z.mk ((by rw [hg]; exact Nat.ne_of_gt (blk_lt (g := gb127) (o := .cells #[.int .i64 t119, .slice Ao46 t120.length co46, .slice Ao47 t123.length co47] 25 (0, 0)) (by (with_reducible repeat (first | refine bN ?_ _ | refine bd ?_ | refine bA ?_ _)); exact BK127.1)) : gb136 ≠ gb127)); clear HO_5; clear HO111; clear HO114; clear HO122; clear HO125; clear HO131; clear HO134; clear BK101; clear BK116; clear BK127; clear HB; have HO_5 := n0_; have HO111 := n1_; have HO114 := n2_; have HO122 := n3_; have HO125 := n4_; have HO131 := n5_; have HO134 := n6_; have BK101 := n7_; have BK116 := n8_; have BK127 := n9_; have HB := n10_; have BK136 := n11_; have GW136 := n12_; have GE136 := n13_; have NB101_136 := n14_; have NB136_101 := n15_; have NB116_136 := n16_; have NB136_116 := n17_; have NB127_136 := n18_; have NB136_127 := n19_; clear n0_ n1_ n2_ n3_ n4_ n5_ n6_ n7_ n8_ n9_ n10_ n11_ n12_ n13_ n14_ n15_ n16_ n17_ n18_ n19_; clear hb hbox hg; have hnb52 := NB136_101.1; have hnc52 := NB101_136.1; have hnb53 := NB136_116.1; have hnc53 := NB116_136.1; have hnb54 := NB136_127.1; have hnc54 := NB127_136.1; have hcz55_0 : w51.cell? ⟨gb136, 0, none⟩ = some (.int .i64 0) := (bcz BK136.1 0).trans rfl; have hcz55_1 : w51.cell? ⟨gb136, 1, none⟩ = some (.slice none 0 0) := (bcz BK136.1 1).trans rfl; have hcz55_2 : w51.cell? ⟨gb136, 2, none⟩ = some (.slice none 0 0) := (bcz BK136.1 2).trans rfl; have hfz55_0 := bf BK136.1 0; have hfz55_1 := bf BK136.1 1; have hfz55_2 := bf BK136.1 2; obtain ⟨Ao56, co56, eo56⟩ := Kd.S_slice HO131.1; subst eo56; obtain ⟨Ao57, co57, eo57⟩ := Kd.R_slice HO134.1; subst eo57))
         go_loopg [13, 14] k2 (fun kq v13 v14 w' => ∃ (x13_3 : Int) (x14_3 : Int), v13 = .int .i64 x13_3 ∧ v14 = .int .i64 x14_3 ∧ Q0z (cl20_SubsetTakes.l1 kq x5_2 t126 t135 x13_3 x14_3 a0_0 l0_1 t108 t109 t112 t119 t120 t123 = some r) ∧ Q0z (kq ≤ k2) ∧ Q0z (Kd.R (Kd.int .i64) 3 w' w.heap.size (fun _ => True) u5 x5_2) ∧ Q0z (Kd.S (Kd.slice 3 (Kd.int .i64)) 45 w' w.heap.size (fun k_ => some k_ ≠ (u5 : Value).ownBlock ∧ some k_ ≠ ((.slice Ao46 t120.length co46) : Value).ownBlock ∧ some k_ ≠ ((.slice Ao56 t129.length co56) : Value).ownBlock) (.slice Ao36 t109.length co36) t109) ∧ Q0z (Kd.R Kd.bool 4 w' w.heap.size (fun k_ => some k_ ≠ ((.slice Ao47 t123.length co47) : Value).ownBlock ∧ some k_ ≠ ((.slice Ao57 t132.length co57) : Value).ownBlock) (.slice Ao37 t112.length co37) t112) ∧ Q0z (Kd.S (Kd.slice 3 (Kd.int .i64)) 45 w' w.heap.size (fun k_ => some k_ ≠ (u5 : Value).ownBlock ∧ some k_ ≠ ((.slice Ao36 t109.length co36) : Value).ownBlock ∧ some k_ ≠ ((.slice Ao56 t129.length co56) : Value).ownBlock) (.slice Ao46 t120.length co46) t120) ∧ Q0z (Kd.R Kd.bool 4 w' w.heap.size (fun k_ => some k_ ≠ ((.slice Ao37 t112.length co37) : Value).ownBlock ∧ some k_ ≠ ((.slice Ao57 t132.length co57) : Value).ownBlock) (.slice Ao47 t123.length co47) t123) ∧ Q0z (Kd.S (Kd.slice 3 (Kd.int .i64)) 45 w' w.heap.size (fun k_ => some k_ ≠ (u5 : Value).ownBlock ∧ some k_ ≠ ((.slice Ao36 t109.length co36) : Value).ownBlock ∧ some k_ ≠ ((.slice Ao46 t120.length co46) : Value).ownBlock) (.slice Ao56 t129.length co56) t129) ∧ Q0z (Kd.R Kd.bool 4 w' w.heap.size (fun k_ => some k_ ≠ ((.slice Ao37 t112.length co37) : Value).ownBlock ∧ some k_ ≠ ((.slice Ao47 t123.length co47) : Value).ownBlock) (.slice Ao57 t132.length co57) t132) ∧ Q0z (w'.heap[gb101]? = some (.cells #[.int .i64 a0_0, (.slice A0_1 l0_1.length c0_1)] 28 (0, 0))) ∧ Q0z (w'.heap[gb116]? = some (.cells #[.int .i64 t108, (.slice Ao36 t109.length co36), (.slice Ao37 t112.length co37)] 25 (0, 0))) ∧ Q0z (w'.heap[gb127]? = some (.cells #[.int .i64 t119, (.slice Ao46 t120.length co46), (.slice Ao47 t123.length co47)] 25 (0, 0))) ∧ Q0z (w'.heap[gb136]? = some (.cells #[.int .i64 t128, (.slice Ao56 t129.length co56), (.slice Ao57 t132.length co57)] 25 (0, 0))) ∧ Q0z (Below w.heap.size w w'))
         case atStart => exact ⟨(1), (0), (by first | rfl | (simp; done) | (simp [*]; done)), (by first | rfl | (simp; done) | (simp [*]; done)), H', ⟨Nat.le_refl _⟩, ⟨by (with_reducible repeat (first | apply Kd.R_alloc | apply Kd.R_drewN | apply Kd.R_drew)); exact Kd.R_mono (Kd.R_far (p := ⟨gb136, 2, none⟩) (Kd.R_far (p := ⟨gb136, 1, none⟩) (Kd.R_far (p := ⟨gb136, 0, none⟩) (Kd.R_types HO_5.1 BK136.1 (by decide)) (fun _ hk => hk.2) (.int .i64 t128)) (fun _ hk => hk.2) (.slice Ao56 t129.length co56)) (fun _ hk => hk.2) (.slice Ao57 t132.length co57)) (fun _ hk => trivial)⟩, ⟨by (with_reducible repeat (first | apply Kd.S_alloc | apply Kd.S_drewN | apply Kd.S_drew)); exact Kd.S_mono (Kd.S_far (p := ⟨gb136, 2, none⟩) (Kd.S_far (p := ⟨gb136, 1, none⟩) (Kd.S_far (p := ⟨gb136, 0, none⟩) (Kd.S_types HO111.1 BK136.1 (by decide)) (fun _ hk => hk.2) (.int .i64 t128)) (fun _ hk => hk.2) (.slice Ao56 t129.length co56)) (fun _ hk => hk.2) (.slice Ao57 t132.length co57)) (fun _ hk => ⟨hk.1.1.1.2, ⟨hk.1.1.2, hk.1.2⟩⟩)⟩, ⟨by (with_reducible repeat (first | apply Kd.R_alloc | apply Kd.R_drewN | apply Kd.R_drew)); exact Kd.R_mono (Kd.R_far (p := ⟨gb136, 2, none⟩) (Kd.R_far (p := ⟨gb136, 1, none⟩) (Kd.R_far (p := ⟨gb136, 0, none⟩) (Kd.R_types HO114.1 BK136.1 (by decide)) (fun _ hk => hk.2) (.int .i64 t128)) (fun _ hk => hk.2) (.slice Ao56 t129.length co56)) (fun _ hk => hk.2) (.slice Ao57 t132.length co57)) (fun _ hk => ⟨hk.1.1.2, hk.1.2⟩)⟩, ⟨by (with_reducible repeat (first | apply Kd.S_alloc | apply Kd.S_drewN | apply Kd.S_drew)); exact Kd.S_mono (Kd.S_far (p := ⟨gb136, 2, none⟩) (Kd.S_far (p := ⟨gb136, 1, none⟩) (Kd.S_far (p := ⟨gb136, 0, none⟩) (Kd.S_types HO122.1 BK136.1 (by decide)) (fun _ hk => hk.2) (.int .i64 t128)) (fun _ hk => hk.2) (.slice Ao56 t129.length co56)) (fun _ hk => hk.2) (.slice Ao57 t132.length co57)) (fun _ hk => ⟨hk.1.1.1.2, ⟨hk.1.1.2, hk.1.2⟩⟩)⟩, ⟨by (with_reducible repeat (first | apply Kd.R_alloc | apply Kd.R_drewN | apply Kd.R_drew)); exact Kd.R_mono (Kd.R_far (p := ⟨gb136, 2, none⟩) (Kd.R_far (p := ⟨gb136, 1, none⟩) (Kd.R_far (p := ⟨gb136, 0, none⟩) (Kd.R_types HO125.1 BK136.1 (by decide)) (fun _ hk => hk.2) (.int .i64 t128)) (fun _ hk => hk.2) (.slice Ao56 t129.length co56)) (fun _ hk => hk.2) (.slice Ao57 t132.length co57)) (fun _ hk => ⟨hk.1.1.2, hk.1.2⟩)⟩, ⟨by (with_reducible repeat (first | apply Kd.S_alloc | apply Kd.S_drewN | apply Kd.S_drew)); exact Kd.S_mono (Kd.S_far (p := ⟨gb136, 2, none⟩) (Kd.S_far (p := ⟨gb136, 1, none⟩) (Kd.S_far (p := ⟨gb136, 0, none⟩) (Kd.S_types HO131.1 BK136.1 (by decide)) (fun _ hk => hk.2) (.int .i64 t128)) (fun _ hk => hk.2) (.slice Ao56 t129.length co56)) (fun _ hk => hk.2) (.slice Ao57 t132.length co57)) (fun _ hk => ⟨hk.1.1.1.2, ⟨hk.1.1.2, hk.1.2⟩⟩)⟩, ⟨by (with_reducible repeat (first | apply Kd.R_alloc | apply Kd.R_drewN | apply Kd.R_drew)); exact Kd.R_mono (Kd.R_far (p := ⟨gb136, 2, none⟩) (Kd.R_far (p := ⟨gb136, 1, none⟩) (Kd.R_far (p := ⟨gb136, 0, none⟩) (Kd.R_types HO134.1 BK136.1 (by decide)) (fun _ hk => hk.2) (.int .i64 t128)) (fun _ hk => hk.2) (.slice Ao56 t129.length co56)) (fun _ hk => hk.2) (.slice Ao57 t132.length co57)) (fun _ hk => ⟨hk.1.1.2, hk.1.2⟩)⟩, ⟨by (with_reducible repeat (first | refine bN ?_ _ | refine bd ?_ | refine bA ?_ _)); refine bF ?_ NB101_136.1 _; (with_reducible repeat (first | refine bN ?_ _ | refine bd ?_ | refine bA ?_ _)); refine bF ?_ NB101_136.1 _; (with_reducible repeat (first | refine bN ?_ _ | refine bd ?_ | refine bA ?_ _)); refine bF ?_ NB101_136.1 _; (with_reducible repeat (first | refine bN ?_ _ | refine bd ?_ | refine bA ?_ _)); exact BK101.1⟩, ⟨by (with_reducible repeat (first | refine bN ?_ _ | refine bd ?_ | refine bA ?_ _)); refine bF ?_ NB116_136.1 _; (with_reducible repeat (first | refine bN ?_ _ | refine bd ?_ | refine bA ?_ _)); refine bF ?_ NB116_136.1 _; (with_reducible repeat (first | refine bN ?_ _ | refine bd ?_ | refine bA ?_ _)); refine bF ?_ NB116_136.1 _; (with_reducible repeat (first | refine bN ?_ _ | refine bd ?_ | refine bA ?_ _)); exact BK116.1⟩, ⟨by (with_reducible repeat (first | refine bN ?_ _ | refine bd ?_ | refine bA ?_ _)); refine bF ?_ NB127_136.1 _; (with_reducible repeat (first | refine bN ?_ _ | refine bd ?_ | refine bA ?_ _)); refine bF ?_ NB127_136.1 _; (with_reducible repeat (first | refine bN ?_ _ | refine bd ?_ | refine bA ?_ _)); refine bF ?_ NB127_136.1 _; (with_reducible repeat (first | refine bN ?_ _ | refine bd ?_ | refine bA ?_ _)); exact BK127.1⟩, ⟨by (with_reducible repeat (first | refine bN ?_ _ | refine bd ?_ | refine bA ?_ _)); refine bp (cs := #[.int .i64 t128, .slice Ao56 t129.length co56, .slice none 0 0]) ?_ 2 _ rfl; (with_reducible repeat (first | refine bN ?_ _ | refine bd ?_ | refine bA ?_ _)); refine bp (cs := #[.int .i64 t128, .slice none 0 0, .slice none 0 0]) ?_ 1 _ rfl; (with_reducible repeat (first | refine bN ?_ _ | refine bd ?_ | refine bA ?_ _)); refine bp (cs := #[.int .i64 0, .slice none 0 0, .slice none 0 0]) ?_ 0 _ rfl; (with_reducible repeat (first | refine bN ?_ _ | refine bd ?_ | refine bA ?_ _)); exact BK136.1⟩, ⟨by repeat (first | (with_reducible first | exact HB.1 | apply ba | apply pN | apply bD | refine bS ?_ GE101.1 | refine bS ?_ GE116.1 | refine bS ?_ GE127.1 | refine bS ?_ GE136.1) | exact HB.1)⟩⟩
         case round =>
          clear H'
          try clear c1
          try clear p1
          try clear q1
          try clear hx1
          try clear c2
          try clear p2
          try clear c3
          try clear c4
          try clear c5
          try clear c6
          try clear p6
          try clear c7
          try clear c7b0
          try clear c7b1
          try clear p10
          try clear q10
          try clear hx10
          try clear c12
          try clear c16
          try clear c19
          try clear c19b0
          try clear c20
          try clear c20b0
          try clear c21
          try clear c21b0
          try clear c21b1
          try clear c22
          try clear c26
          try clear c26b0
          try clear c26b1
          try clear c28
          try clear c34
          try clear c37
          try clear c39
          try clear c43
          try clear c44
          try clear c52
          try clear c53
          try clear c54
          try clear c57
          try clear hcz10_0
          try clear hcz10_1
          try clear hcz11_0
          try clear hcz11_1
          try clear hcz13_0
          try clear hcz13_1
          try clear hcz14_0
          try clear hcz14_1
          try clear hcz31_0
          try clear hcz31_1
          try clear hcz35_0
          try clear hcz35_1
          try clear hcz35_2
          try clear hcz39_0
          try clear hcz39_1
          try clear hcz40_0
          try clear hcz40_1
          try clear hcz40_2
          try clear hcz45_0
          try clear hcz45_1
          try clear hcz45_2
          try clear hcz48_0
          try clear hcz48_1
          try clear hcz49_0
          try clear hcz49_1
          try clear hcz49_2
          try clear hcz55_0
          try clear hcz55_1
          try clear hcz55_2
          try clear hcz8_0
          try clear hcz8_1
          try clear hfz10_0
          try clear hfz10_1
          try clear hfz11_0
          try clear hfz11_1
          try clear hfz13_0
          try clear hfz13_1
          try clear hfz14_0
          try clear hfz14_1
          try clear hfz31_0
          try clear hfz31_1
          try clear hfz35_0
          try clear hfz35_1
          try clear hfz35_2
          try clear hfz39_0
          try clear hfz39_1
          try clear hfz40_0
          try clear hfz40_1
          try clear hfz40_2
          try clear hfz45_0
          try clear hfz45_1
          try clear hfz45_2
          try clear hfz48_0
          try clear hfz48_1
          try clear hfz49_0
          try clear hfz49_1
          try clear hfz49_2
          try clear hfz55_0
          try clear hfz55_1
          try clear hfz55_2
          try clear hfz8_0
          try clear hfz8_1
          try clear hx104_0
          try clear p104
          try clear p2
          try clear q104
          obtain ⟨x13_3, x14_3, rfl, rfl, HA, HK3, HO_5, HO_117001, HO_117002, HO_128001, HO_128002, HO_137001, HO_137002, BK101, BK116, BK127, BK136, HB⟩ := hrel
          cases gk with
          | zero => exact absurd HA.1 (by simp [cl20_SubsetTakes.l1])
          | succ k3 =>
           have H := HA.1
           clear HA
           simp only [cl20_SubsetTakes.l1] at H
           by_cases c58 : x14_3 < (t109.length : Int)
           ·rw [if_pos c58] at H
            have c58b0 : decide (x14_3 < (t109.length : Int)) = true := decide_eq_true c58
            clear c58
            have H' := Q0z.mk H
            clear H
            have hnb59 := NB116_101.1
            have hnc59 := NB101_116.1
            have hnb60 := NB116_127.1
            have hnc60 := NB127_116.1
            have hnb61 := NB116_136.1
            have hnc61 := NB136_116.1
            have hcz62_0 : wr.cell? ⟨gb116, 0, none⟩ = some (.int .i64 t108) := (bcz BK116.1 0).trans rfl
            have hcz62_1 : wr.cell? ⟨gb116, 1, none⟩ = some (.slice Ao36 t109.length co36) := (bcz BK116.1 1).trans rfl
            have hcz62_2 : wr.cell? ⟨gb116, 2, none⟩ = some (.slice Ao37 t112.length co37) := (bcz BK116.1 2).trans rfl
            have hfz62_0 := bf BK116.1 0
            have hfz62_1 := bf BK116.1 1
            have hfz62_2 := bf BK116.1 2
            go_wp2
            go_loopg [13, 15] k3 (fun kq v13 v15 w' => ∃ (x13_4 : Int) (x15_4 : Int), v13 = .int .i64 x13_4 ∧ v15 = .int .i64 x15_4 ∧ Q0z (cl20_SubsetTakes.l2 kq x5_2 t126 t135 x13_4 x14_3 x15_4 a0_0 l0_1 t108 t109 t112 t119 t120 t123 = some r) ∧ Q0z (kq ≤ k3) ∧ Q0z (Kd.R (Kd.int .i64) 3 w' w.heap.size (fun _ => True) u5 x5_2) ∧ Q0z (Kd.S (Kd.slice 3 (Kd.int .i64)) 45 w' w.heap.size (fun k_ => some k_ ≠ (u5 : Value).ownBlock ∧ some k_ ≠ ((.slice Ao46 t120.length co46) : Value).ownBlock ∧ some k_ ≠ ((.slice Ao56 t129.length co56) : Value).ownBlock) (.slice Ao36 t109.length co36) t109) ∧ Q0z (Kd.R Kd.bool 4 w' w.heap.size (fun k_ => some k_ ≠ ((.slice Ao47 t123.length co47) : Value).ownBlock ∧ some k_ ≠ ((.slice Ao57 t132.length co57) : Value).ownBlock) (.slice Ao37 t112.length co37) t112) ∧ Q0z (Kd.S (Kd.slice 3 (Kd.int .i64)) 45 w' w.heap.size (fun k_ => some k_ ≠ (u5 : Value).ownBlock ∧ some k_ ≠ ((.slice Ao36 t109.length co36) : Value).ownBlock ∧ some k_ ≠ ((.slice Ao56 t129.length co56) : Value).ownBlock) (.slice Ao46 t120.length co46) t120) ∧ Q0z (Kd.R Kd.bool 4 w' w.heap.size (fun k_ => some k_ ≠ ((.slice Ao37 t112.length co37) : Value).ownBlock ∧ some k_ ≠ ((.slice Ao57 t132.length co57) : Value).ownBlock) (.slice Ao47 t123.length co47) t123) ∧ Q0z (Kd.S (Kd.slice 3 (Kd.int .i64)) 45 w' w.heap.size (fun k_ => some k_ ≠ (u5 : Value).ownBlock ∧ some k_ ≠ ((.slice Ao36 t109.length co36) : Value).ownBlock ∧ some k_ ≠ ((.slice Ao46 t120.length co46) : Value).ownBlock) (.slice Ao56 t129.length co56) t129) ∧ Q0z (Kd.R Kd.bool 4 w' w.heap.size (fun k_ => some k_ ≠ ((.slice Ao37 t112.length co37) : Value).ownBlock ∧ some k_ ≠ ((.slice Ao47 t123.length co47) : Value).ownBlock) (.slice Ao57 t132.length co57) t132) ∧ Q0z (w'.heap[gb101]? = some (.cells #[.int .i64 a0_0, (.slice A0_1 l0_1.length c0_1)] 28 (0, 0))) ∧ Q0z (w'.heap[gb116]? = some (.cells #[.int .i64 t108, (.slice Ao36 t109.length co36), (.slice Ao37 t112.length co37)] 25 (0, 0))) ∧ Q0z (w'.heap[gb127]? = some (.cells #[.int .i64 t119, (.slice Ao46 t120.length co46), (.slice Ao47 t123.length co47)] 25 (0, 0))) ∧ Q0z (w'.heap[gb136]? = some (.cells #[.int .i64 t128, (.slice Ao56 t129.length co56), (.slice Ao57 t132.length co57)] 25 (0, 0))) ∧ Q0z (Below w.heap.size w w'))
            case atStart => exact ⟨(x13_3), (0), (by first | rfl | (simp; done) | (simp [*]; done)), (by first | rfl | (simp; done) | (simp [*]; done)), H', ⟨Nat.le_refl _⟩, ⟨by (with_reducible repeat (first | apply Kd.R_alloc | apply Kd.R_drewN | apply Kd.R_drew)); exact HO_5.1⟩, ⟨by (with_reducible repeat (first | apply Kd.S_alloc | apply Kd.S_drewN | apply Kd.S_drew)); exact HO_117001.1⟩, ⟨by (with_reducible repeat (first | apply Kd.R_alloc | apply Kd.R_drewN | apply Kd.R_drew)); exact HO_117002.1⟩, ⟨by (with_reducible repeat (first | apply Kd.S_alloc | apply Kd.S_drewN | apply Kd.S_drew)); exact HO_128001.1⟩, ⟨by (with_reducible repeat (first | apply Kd.R_alloc | apply Kd.R_drewN | apply Kd.R_drew)); exact HO_128002.1⟩, ⟨by (with_reducible repeat (first | apply Kd.S_alloc | apply Kd.S_drewN | apply Kd.S_drew)); exact HO_137001.1⟩, ⟨by (with_reducible repeat (first | apply Kd.R_alloc | apply Kd.R_drewN | apply Kd.R_drew)); exact HO_137002.1⟩, ⟨by (with_reducible repeat (first | refine bN ?_ _ | refine bd ?_ | refine bA ?_ _)); exact BK101.1⟩, ⟨by (with_reducible repeat (first | refine bN ?_ _ | refine bd ?_ | refine bA ?_ _)); exact BK116.1⟩, ⟨by (with_reducible repeat (first | refine bN ?_ _ | refine bd ?_ | refine bA ?_ _)); exact BK127.1⟩, ⟨by (with_reducible repeat (first | refine bN ?_ _ | refine bd ?_ | refine bA ?_ _)); exact BK136.1⟩, ⟨by repeat (first | (with_reducible first | exact HB.1 | apply ba | apply pN | apply bD | refine bS ?_ GE101.1 | refine bS ?_ GE116.1 | refine bS ?_ GE127.1 | refine bS ?_ GE136.1) | exact HB.1)⟩⟩
            case round =>
             clear H'
             try clear c1
             try clear p1
             try clear q1
             try clear hx1
             try clear c2
             try clear p2
             try clear c3
             try clear c4
             try clear c5
             try clear c6
             try clear p6
             try clear c7
             try clear c7b0
             try clear c7b1
             try clear p10
             try clear q10
             try clear hx10
             try clear c12
             try clear c16
             try clear c19
             try clear c19b0
             try clear c20
             try clear c20b0
             try clear c21
             try clear c21b0
             try clear c21b1
             try clear c22
             try clear c26
             try clear c26b0
             try clear c26b1
             try clear c28
             try clear c34
             try clear c37
             try clear c39
             try clear c43
             try clear c44
             try clear c52
             try clear c53
             try clear c54
             try clear c57
             try clear c58
             try clear c58b0
             try clear c59
             try clear c60
             try clear c61
             try clear hcz10_0
             try clear hcz10_1
             try clear hcz11_0
             try clear hcz11_1
             try clear hcz13_0
             try clear hcz13_1
             try clear hcz14_0
             try clear hcz14_1
             try clear hcz31_0
             try clear hcz31_1
             try clear hcz35_0
             try clear hcz35_1
             try clear hcz35_2
             try clear hcz39_0
             try clear hcz39_1
             try clear hcz40_0
             try clear hcz40_1
             try clear hcz40_2
             try clear hcz45_0
             try clear hcz45_1
             try clear hcz45_2
             try clear hcz48_0
             try clear hcz48_1
             try clear hcz49_0
             try clear hcz49_1
             try clear hcz49_2
             try clear hcz55_0
             try clear hcz55_1
             try clear hcz55_2
             try clear hcz62_0
             try clear hcz62_1
             try clear hcz62_2
             try clear hcz8_0
             try clear hcz8_1
             try clear hfz10_0
             try clear hfz10_1
             try clear hfz11_0
             try clear hfz11_1
             try clear hfz13_0
             try clear hfz13_1
             try clear hfz14_0
             try clear hfz14_1
             try clear hfz31_0
             try clear hfz31_1
             try clear hfz35_0
             try clear hfz35_1
             try clear hfz35_2
             try clear hfz39_0
             try clear hfz39_1
             try clear hfz40_0
             try clear hfz40_1
             try clear hfz40_2
             try clear hfz45_0
             try clear hfz45_1
             try clear hfz45_2
             try clear hfz48_0
             try clear hfz48_1
             try clear hfz49_0
             try clear hfz49_1
             try clear hfz49_2
             try clear hfz55_0
             try clear hfz55_1
             try clear hfz55_2
             try clear hfz62_0
             try clear hfz62_1
             try clear hfz62_2
             try clear hfz8_0
             try clear hfz8_1
             try clear hx104_0
             try clear p1
             try clear p10
             try clear p104
             try clear p2
             try clear p6
             try clear q1
             try clear q10
             try clear q104
             obtain ⟨x13_4, x15_4, rfl, rfl, HA, HK4, HO_5, HO_117001, HO_117002, HO_128001, HO_128002, HO_137001, HO_137002, BK101, BK116, BK127, BK136, HB⟩ := hrel
             cases gk with
             | zero => exact absurd HA.1 (by simp [cl20_SubsetTakes.l2])
             | succ k4 =>
              have H := HA.1
              clear HA
              simp only [cl20_SubsetTakes.l2] at H
              by_cases c63 : x15_4 < t108
              ·rw [if_pos c63] at H
               have c63b0 : decide (x15_4 < t108) = true := decide_eq_true c63
               clear c63
               by_cases c64 : 0 ≤ x14_3
               ·rw [if_pos c64] at H
                have c64b0 : decide (0 ≤ x14_3) = true := decide_eq_true c64
                clear c64
                by_cases c65 : x14_3 < (t109.length : Int)
                ·rw [if_pos c65] at H
                 have c65b0 : decide (x14_3 < (t109.length : Int)) = true := decide_eq_true c65
                 clear c65
                 by_cases c66 : 0 ≤ x15_4
                 ·rw [if_pos c66] at H
                  have c66b0 : decide (0 ≤ x15_4) = true := decide_eq_true c66
                  clear c66
                  by_cases c67 : x15_4 < ((rd_L5 t109 x14_3).length : Int)
                  ·rw [if_pos c67] at H
                   have c67b0 : decide (x15_4 < ((rd_L5 t109 x14_3).length : Int)) = true := decide_eq_true c67
                   clear c67
                   by_cases c68 : (rd (rd_L5 t109 x14_3) x15_4) > x13_4
                   ·rw [if_pos c68] at H
                    exact absurd H (by simp)
                   ·rw [if_neg c68] at H
                    have c68b0 : decide (x13_4 < (rd (rd_L5 t109 x14_3) x15_4)) = false := decide_eq_false c68
                    clear c68
                    by_cases c69 : (rd (rd_L5 t109 x14_3) x15_4) = x13_4
                    ·rw [if_pos c69] at H
                     have c69b0 : ((rd (rd_L5 t109 x14_3) x15_4) == x13_4) = true := beq_iff_eq.mpr c69
                     have c69b1 : ((rd (rd_L5 t109 x14_3) x15_4) != x13_4) = false := bne_eq_false_iff_eq.mpr c69
                     clear c69
                     have H' := Q0z.mk H
                     clear H
                     have hnb70 := NB116_101.1
                     have hnc70 := NB101_116.1
                     have hnb71 := NB116_127.1
                     have hnc71 := NB127_116.1
                     have hnb72 := NB116_136.1
                     have hnc72 := NB136_116.1
                     have hcz73_0 : wr.cell? ⟨gb116, 0, none⟩ = some (.int .i64 t108) := (bcz BK116.1 0).trans rfl
                     have hcz73_1 : wr.cell? ⟨gb116, 1, none⟩ = some (.slice Ao36 t109.length co36) := (bcz BK116.1 1).trans rfl
                     have hcz73_2 : wr.cell? ⟨gb116, 2, none⟩ = some (.slice Ao37 t112.length co37) := (bcz BK116.1 2).trans rfl
                     have hfz73_0 := bf BK116.1 0
                     have hfz73_1 := bf BK116.1 1
                     have hfz73_2 := bf BK116.1 2
                     have p137 : 0 ≤ (x14_3 : Int) := of_decide_eq_true (by first | (with_reducible assumption) | assumption)
                     have q137 : x14_3 < (t109.length : Int) := of_decide_eq_true (by first | (with_reducible assumption) | assumption)
                     obtain ⟨ad137, A137_0, c137_0, e137, hx137_0, hl137_0, hi137_0⟩ := at_L5 (Kd.S_reads' HO_117001.1).2.2 x14_3 p137 q137
                     cases e137
                     obtain ⟨ce137, hce137, hMe137, hcc137⟩ := Kd.S_get HO_117001.1 [] x14_3 p137 (by first | exact q137 | exact of_decide_eq_true (by first | (with_reducible assumption) | assumption) | (have e_ := (Kd.S_reads' HO_117001.1).1; omega))
                     obtain ⟨ve137_0, rfl, ge137_0⟩ := hMe137
                     have hv137_0 := hcc137 0 _ rfl
                     rw [Nat.add_zero, show ((Kd.slice 3 (Kd.int .i64))).sz = 1 from rfl, Nat.mul_one] at hv137_0
                     replace hv137_0 := Option.some.inj (hv137_0.symm.trans hx137_0)
                     rw [hv137_0] at ge137_0
                     have HL137_0 := Q0z.mk (show Kd.R (Kd.int .i64) 3 _ _ _ _ (rd_L5 t109 x14_3) from ge137_0)
                     clear hv137_0 ge137_0
                     clear hcc137 hce137
                     have HR137_0 := Q0z.mk hi137_0
                     have HC137_0 := Q0z.mk hl137_0
                     clear hi137_0 hl137_0
                     replace p137 := eq_true p137
                     replace q137 := eq_true q137
                     have p138 : 0 ≤ (x15_4 : Int) := of_decide_eq_true (by first | (with_reducible assumption) | assumption)
                     have q138 : x15_4 < ((rd_L5 t109 x14_3).length : Int) := of_decide_eq_true (by first | (with_reducible assumption) | assumption)
                     obtain ⟨ad138, e138, hx138_0⟩ := Kd.at_int (by repeat (first | (with_reducible exact HR137_0.1) | (with_reducible refine Kd.C_alloc ?_ _) | (with_reducible refine Kd.C_drewN ?_ _) | (with_reducible refine Kd.C_drew ?_) | exact HR137_0.1)) x15_4 p138 q138
                     cases e138
                     replace p138 := eq_true p138
                     replace q138 := eq_true q138
                     have p139 : 0 ≤ (x14_3 : Int) := of_decide_eq_true (by first | (with_reducible assumption) | assumption)
                     have q139 : x14_3 < (t109.length : Int) := of_decide_eq_true (by first | (with_reducible assumption) | assumption)
                     obtain ⟨ad139, A139_0, c139_0, e139, hx139_0, hl139_0, hi139_0⟩ := at_L5 (Kd.S_reads' HO_117001.1).2.2 x14_3 p139 q139
                     obtain rfl : ad137 = ad139 := (by injection e139)
                     obtain ⟨ce139, hce139, hMe139, hcc139⟩ := Kd.S_get HO_117001.1 [] x14_3 p139 (by first | exact q139 | exact of_decide_eq_true (by first | (with_reducible assumption) | assumption) | (have e_ := (Kd.S_reads' HO_117001.1).1; omega))
                     obtain ⟨ve139_0, rfl, ge139_0⟩ := hMe139
                     have hv139_0 := hcc139 0 _ rfl
                     rw [Nat.add_zero, show ((Kd.slice 3 (Kd.int .i64))).sz = 1 from rfl, Nat.mul_one] at hv139_0
                     replace hv139_0 := Option.some.inj (hv139_0.symm.trans hx139_0)
                     rw [hv139_0] at ge139_0
                     have HL139_0 := Q0z.mk (show Kd.R (Kd.int .i64) 3 _ _ _ _ (rd_L5 t109 x14_3) from ge139_0)
                     clear hv139_0 ge139_0
                     clear hcc139 hce139
                     have HR139_0 := Q0z.mk hi139_0
                     have HC139_0 := Q0z.mk hl139_0
                     clear hi139_0 hl139_0
                     replace p139 := eq_true p139
                     replace q139 := eq_true q139
                     have ea_ := Option.some.inj (hx137_0.symm.trans hx139_0)
                     injection ea_ with ea_ en_ ec_
                     subst ea_
                     subst ec_
                     clear en_
                     have p140 : 0 ≤ (x15_4 : Int) := of_decide_eq_true (by first | (with_reducible assumption) | assumption)
                     have q140 : x15_4 < ((rd_L5 t109 x14_3).length : Int) := of_decide_eq_true (by first | (with_reducible assumption) | assumption)
                     obtain ⟨ad140, e140, hx140_0⟩ := Kd.at_int (by repeat (first | (with_reducible exact HR139_0.1) | (with_reducible refine Kd.C_alloc ?_ _) | (with_reducible refine Kd.C_drewN ?_ _) | (with_reducible refine Kd.C_drew ?_) | exact HR139_0.1)) x15_4 p140 q140
                     cases e140
                     replace p140 := eq_true p140
                     replace q140 := eq_true q140
                     go_wp2
                     go_roundg k4
                     case measure => have := HJ2.1; have := HK2.1; have := HK3.1; have := HK4.1; omega
                     case rel => exact ⟨(wrap64 (x13_4 + 1)), (wrap64 (x15_4 + 1)), (by first | rfl | (simp; done) | (simp [*]; done)), (by first | rfl | (simp; done) | (simp [*]; done)), H', ⟨by have := HJ2.1; have := HK2.1; have := HK3.1; have := HK4.1; omega⟩, ⟨by (with_reducible repeat (first | apply Kd.R_alloc | apply Kd.R_drewN | apply Kd.R_drew)); exact HO_5.1⟩, ⟨by (with_reducible repeat (first | apply Kd.S_alloc | apply Kd.S_drewN | apply Kd.S_drew)); exact HO_117001.1⟩, ⟨by (with_reducible repeat (first | apply Kd.R_alloc | apply Kd.R_drewN | apply Kd.R_drew)); exact HO_117002.1⟩, ⟨by (with_reducible repeat (first | apply Kd.S_alloc | apply Kd.S_drewN | apply Kd.S_drew)); exact HO_128001.1⟩, ⟨by (with_reducible repeat (first | apply Kd.R_alloc | apply Kd.R_drewN | apply Kd.R_drew)); exact HO_128002.1⟩, ⟨by (with_reducible repeat (first | apply Kd.S_alloc | apply Kd.S_drewN | apply Kd.S_drew)); exact HO_137001.1⟩, ⟨by (with_reducible repeat (first | apply Kd.R_alloc | apply Kd.R_drewN | apply Kd.R_drew)); exact HO_137002.1⟩, ⟨by (with_reducible repeat (first | refine bN ?_ _ | refine bd ?_ | refine bA ?_ _)); exact BK101.1⟩, ⟨by (with_reducible repeat (first | refine bN ?_ _ | refine bd ?_ | refine bA ?_ _)); exact BK116.1⟩, ⟨by (with_reducible repeat (first | refine bN ?_ _ | refine bd ?_ | refine bA ?_ _)); exact BK127.1⟩, ⟨by (with_reducible repeat (first | refine bN ?_ _ | refine bd ?_ | refine bA ?_ _)); exact BK136.1⟩, ⟨by repeat (first | (with_reducible first | exact HB.1 | apply ba | apply pN | apply bD | refine bS ?_ GE101.1 | refine bS ?_ GE116.1 | refine bS ?_ GE127.1 | refine bS ?_ GE136.1) | exact HB.1)⟩⟩
                    ·rw [if_neg c69] at H
                     have c69b0 : ((rd (rd_L5 t109 x14_3) x15_4) == x13_4) = false := beq_eq_false_iff_ne.mpr c69
                     have c69b1 : ((rd (rd_L5 t109 x14_3) x15_4) != x13_4) = true := bne_iff_ne.mpr c69
                     have H' := Q0z.mk H
                     clear H
                     have hnb74 := NB116_101.1
                     have hnc74 := NB101_116.1
                     have hnb75 := NB116_127.1
                     have hnc75 := NB127_116.1
                     have hnb76 := NB116_136.1
                     have hnc76 := NB136_116.1
                     have hcz77_0 : wr.cell? ⟨gb116, 0, none⟩ = some (.int .i64 t108) := (bcz BK116.1 0).trans rfl
                     have hcz77_1 : wr.cell? ⟨gb116, 1, none⟩ = some (.slice Ao36 t109.length co36) := (bcz BK116.1 1).trans rfl
                     have hcz77_2 : wr.cell? ⟨gb116, 2, none⟩ = some (.slice Ao37 t112.length co37) := (bcz BK116.1 2).trans rfl
                     have hfz77_0 := bf BK116.1 0
                     have hfz77_1 := bf BK116.1 1
                     have hfz77_2 := bf BK116.1 2
                     have p137 : 0 ≤ (x14_3 : Int) := of_decide_eq_true (by first | (with_reducible assumption) | assumption)
                     have q137 : x14_3 < (t109.length : Int) := of_decide_eq_true (by first | (with_reducible assumption) | assumption)
                     obtain ⟨ad137, A137_0, c137_0, e137, hx137_0, hl137_0, hi137_0⟩ := at_L5 (Kd.S_reads' HO_117001.1).2.2 x14_3 p137 q137
                     cases e137
                     obtain ⟨ce137, hce137, hMe137, hcc137⟩ := Kd.S_get HO_117001.1 [] x14_3 p137 (by first | exact q137 | exact of_decide_eq_true (by first | (with_reducible assumption) | assumption) | (have e_ := (Kd.S_reads' HO_117001.1).1; omega))
                     obtain ⟨ve137_0, rfl, ge137_0⟩ := hMe137
                     have hv137_0 := hcc137 0 _ rfl
                     rw [Nat.add_zero, show ((Kd.slice 3 (Kd.int .i64))).sz = 1 from rfl, Nat.mul_one] at hv137_0
                     replace hv137_0 := Option.some.inj (hv137_0.symm.trans hx137_0)
                     rw [hv137_0] at ge137_0
                     have HL137_0 := Q0z.mk (show Kd.R (Kd.int .i64) 3 _ _ _ _ (rd_L5 t109 x14_3) from ge137_0)
                     clear hv137_0 ge137_0
                     clear hcc137 hce137
                     have HR137_0 := Q0z.mk hi137_0
                     have HC137_0 := Q0z.mk hl137_0
                     clear hi137_0 hl137_0
                     replace p137 := eq_true p137
                     replace q137 := eq_true q137
                     have p138 : 0 ≤ (x15_4 : Int) := of_decide_eq_true (by first | (with_reducible assumption) | assumption)
                     have q138 : x15_4 < ((rd_L5 t109 x14_3).length : Int) := of_decide_eq_true (by first | (with_reducible assumption) | assumption)
                     obtain ⟨ad138, e138, hx138_0⟩ := Kd.at_int (by repeat (first | (with_reducible exact HR137_0.1) | (with_reducible refine Kd.C_alloc ?_ _) | (with_reducible refine Kd.C_drewN ?_ _) | (with_reducible refine Kd.C_drew ?_) | exact HR137_0.1)) x15_4 p138 q138
                     cases e138
                     replace p138 := eq_true p138
                     replace q138 := eq_true q138
                     have p139 : 0 ≤ (x14_3 : Int) := of_decide_eq_true (by first | (with_reducible assumption) | assumption)
                     have q139 : x14_3 < (t109.length : Int) := of_decide_eq_true (by first | (with_reducible assumption) | assumption)
                     obtain ⟨ad139, A139_0, c139_0, e139, hx139_0, hl139_0, hi139_0⟩ := at_L5 (Kd.S_reads' HO_117001.1).2.2 x14_3 p139 q139
                     obtain rfl : ad137 = ad139 := (by injection e139)
                     obtain ⟨ce139, hce139, hMe139, hcc139⟩ := Kd.S_get HO_117001.1 [] x14_3 p139 (by first | exact q139 | exact of_decide_eq_true (by first | (with_reducible assumption) | assumption) | (have e_ := (Kd.S_reads' HO_117001.1).1; omega))
                     obtain ⟨ve139_0, rfl, ge139_0⟩ := hMe139
                     have hv139_0 := hcc139 0 _ rfl
                     rw [Nat.add_zero, show ((Kd.slice 3 (Kd.int .i64))).sz = 1 from rfl, Nat.mul_one] at hv139_0
                     replace hv139_0 := Option.some.inj (hv139_0.symm.trans hx139_0)
                     rw [hv139_0] at ge139_0
                     have HL139_0 := Q0z.mk (show Kd.R (Kd.int .i64) 3 _ _ _ _ (rd_L5 t109 x14_3) from ge139_0)
                     clear hv139_0 ge139_0
                     clear hcc139 hce139
                     have HR139_0 := Q0z.mk hi139_0
                     have HC139_0 := Q0z.mk hl139_0
                     clear hi139_0 hl139_0
                     replace p139 := eq_true p139
                     replace q139 := eq_true q139
                     have ea_ := Option.some.inj (hx137_0.symm.trans hx139_0)
                     injection ea_ with ea_ en_ ec_
                     subst ea_
                     subst ec_
                     clear en_
                     have p140 : 0 ≤ (x15_4 : Int) := of_decide_eq_true (by first | (with_reducible assumption) | assumption)
                     have q140 : x15_4 < ((rd_L5 t109 x14_3).length : Int) := of_decide_eq_true (by first | (with_reducible assumption) | assumption)
                     obtain ⟨ad140, e140, hx140_0⟩ := Kd.at_int (by repeat (first | (with_reducible exact HR139_0.1) | (with_reducible refine Kd.C_alloc ?_ _) | (with_reducible refine Kd.C_drewN ?_ _) | (with_reducible refine Kd.C_drew ?_) | exact HR139_0.1)) x15_4 p140 q140
                     cases e140
                     replace p140 := eq_true p140
                     replace q140 := eq_true q140
                     go_wp2
                     go_roundg k4
                     case measure => have := HJ2.1; have := HK2.1; have := HK3.1; have := HK4.1; omega
                     case rel => exact ⟨(x13_4), (wrap64 (x15_4 + 1)), (by first | rfl | (simp; done) | (simp [*]; done)), (by first | rfl | (simp; done) | (simp [*]; done)), H', ⟨by have := HJ2.1; have := HK2.1; have := HK3.1; have := HK4.1; omega⟩, ⟨by (with_reducible repeat (first | apply Kd.R_alloc | apply Kd.R_drewN | apply Kd.R_drew)); exact HO_5.1⟩, ⟨by (with_reducible repeat (first | apply Kd.S_alloc | apply Kd.S_drewN | apply Kd.S_drew)); exact HO_117001.1⟩, ⟨by (with_reducible repeat (first | apply Kd.R_alloc | apply Kd.R_drewN | apply Kd.R_drew)); exact HO_117002.1⟩, ⟨by (with_reducible repeat (first | apply Kd.S_alloc | apply Kd.S_drewN | apply Kd.S_drew)); exact HO_128001.1⟩, ⟨by (with_reducible repeat (first | apply Kd.R_alloc | apply Kd.R_drewN | apply Kd.R_drew)); exact HO_128002.1⟩, ⟨by (with_reducible repeat (first | apply Kd.S_alloc | apply Kd.S_drewN | apply Kd.S_drew)); exact HO_137001.1⟩, ⟨by (with_reducible repeat (first | apply Kd.R_alloc | apply Kd.R_drewN | apply Kd.R_drew)); exact HO_137002.1⟩, ⟨by (with_reducible repeat (first | refine bN ?_ _ | refine bd ?_ | refine bA ?_ _)); exact BK101.1⟩, ⟨by (with_reducible repeat (first | refine bN ?_ _ | refine bd ?_ | refine bA ?_ _)); exact BK116.1⟩, ⟨by (with_reducible repeat (first | refine bN ?_ _ | refine bd ?_ | refine bA ?_ _)); exact BK127.1⟩, ⟨by (with_reducible repeat (first | refine bN ?_ _ | refine bd ?_ | refine bA ?_ _)); exact BK136.1⟩, ⟨by repeat (first | (with_reducible first | exact HB.1 | apply ba | apply pN | apply bD | refine bS ?_ GE101.1 | refine bS ?_ GE116.1 | refine bS ?_ GE127.1 | refine bS ?_ GE136.1) | exact HB.1)⟩⟩
                  ·rw [if_neg c67] at H
                   exact absurd H (by simp)
                 ·rw [if_neg c66] at H
                  exact absurd H (by simp)
                ·rw [if_neg c65] at H
                 exact absurd H (by simp)
               ·rw [if_neg c64] at H
                exact absurd H (by simp)
              ·rw [if_neg c63] at H
               have c63b0 : decide (x15_4 < t108) = false := decide_eq_false c63
               clear c63
               have H' := Q0z.mk H
               clear H
               have hnb78 := NB116_101.1
               have hnc78 := NB101_116.1
               have hnb79 := NB116_127.1
               have hnc79 := NB127_116.1
               have hnb80 := NB116_136.1
               have hnc80 := NB136_116.1
               have hcz81_0 : wr.cell? ⟨gb116, 0, none⟩ = some (.int .i64 t108) := (bcz BK116.1 0).trans rfl
               have hcz81_1 : wr.cell? ⟨gb116, 1, none⟩ = some (.slice Ao36 t109.length co36) := (bcz BK116.1 1).trans rfl
               have hcz81_2 : wr.cell? ⟨gb116, 2, none⟩ = some (.slice Ao37 t112.length co37) := (bcz BK116.1 2).trans rfl
               have hfz81_0 := bf BK116.1 0
               have hfz81_1 := bf BK116.1 1
               have hfz81_2 := bf BK116.1 2
               go_wp2
               go_roundg k4
               case measure => have := HJ2.1; have := HK2.1; have := HK3.1; have := HK4.1; omega
               case rel => exact ⟨(x13_4), (wrap64 (x14_3 + 1)), (by first | rfl | (simp; done) | (simp [*]; done)), (by first | rfl | (simp; done) | (simp [*]; done)), H', ⟨by have := HJ2.1; have := HK2.1; have := HK3.1; have := HK4.1; omega⟩, ⟨by (with_reducible repeat (first | apply Kd.R_alloc | apply Kd.R_drewN | apply Kd.R_drew)); exact HO_5.1⟩, ⟨by (with_reducible repeat (first | apply Kd.S_alloc | apply Kd.S_drewN | apply Kd.S_drew)); exact HO_117001.1⟩, ⟨by (with_reducible repeat (first | apply Kd.R_alloc | apply Kd.R_drewN | apply Kd.R_drew)); exact HO_117002.1⟩, ⟨by (with_reducible repeat (first | apply Kd.S_alloc | apply Kd.S_drewN | apply Kd.S_drew)); exact HO_128001.1⟩, ⟨by (with_reducible repeat (first | apply Kd.R_alloc | apply Kd.R_drewN | apply Kd.R_drew)); exact HO_128002.1⟩, ⟨by (with_reducible repeat (first | apply Kd.S_alloc | apply Kd.S_drewN | apply Kd.S_drew)); exact HO_137001.1⟩, ⟨by (with_reducible repeat (first | apply Kd.R_alloc | apply Kd.R_drewN | apply Kd.R_drew)); exact HO_137002.1⟩, ⟨by (with_reducible repeat (first | refine bN ?_ _ | refine bd ?_ | refine bA ?_ _)); exact BK101.1⟩, ⟨by (with_reducible repeat (first | refine bN ?_ _ | refine bd ?_ | refine bA ?_ _)); exact BK116.1⟩, ⟨by (with_reducible repeat (first | refine bN ?_ _ | refine bd ?_ | refine bA ?_ _)); exact BK127.1⟩, ⟨by (with_reducible repeat (first | refine bN ?_ _ | refine bd ?_ | refine bA ?_ _)); exact BK136.1⟩, ⟨by repeat (first | (with_reducible first | exact HB.1 | apply ba | apply pN | apply bD | refine bS ?_ GE101.1 | refine bS ?_ GE116.1 | refine bS ?_ GE127.1 | refine bS ?_ GE136.1) | exact HB.1)⟩⟩
           ·rw [if_neg c58] at H
            have c58b0 : decide (x14_3 < (t109.length : Int)) = false := decide_eq_false c58
            clear c58
            by_cases c82 : x13_3 = (t109.length : Int)
            ·rw [if_pos c82] at H
             have c82b0 : (x13_3 == (t109.length : Int)) = true := beq_iff_eq.mpr c82
             have c82b1 : (x13_3 != (t109.length : Int)) = false := bne_eq_false_iff_eq.mpr c82
             clear c82
             by_cases c83 : t126 = 0
             ·rw [if_pos c83] at H
              have c83b0 : (t126 == 0) = true := beq_iff_eq.mpr c83
              have c83b1 : (t126 != 0) = false := bne_eq_false_iff_eq.mpr c83
              clear c83
              replace H := Option.bind_eq_some_iff.mp H
              obtain ⟨t141, A840, H⟩ := H
              replace H : (if t141 = true then (if t135 = 14 then ((subset_Takes.f k3 t108 t109 t112 x5_2).bind fun t142 => ((subset_Goes.f a0_0 l0_1 x5_2).bind fun t143 => (if (t142 == t143) = true then ((cl20_wakes.f k3).bind fun t144 => (some t144)) else (none)))) else (none)) else (none)) = some r := H
              have A84 := Q0z.mk A840
              clear A840
              by_cases c85 : t141 = true
              ·subst c85
               have H1 : (if t135 = 14 then ((subset_Takes.f k3 t108 t109 t112 x5_2).bind fun t142 => ((subset_Goes.f a0_0 l0_1 x5_2).bind fun t143 => (if (t142 == t143) = true then ((cl20_wakes.f k3).bind fun t144 => (some t144)) else (none)))) else (none)) = some r := by rw [if_pos rfl] at H; exact H
               clear H
               have H := H1
               clear H1
               by_cases c86 : t135 = 14
               ·rw [if_pos c86] at H
                have c86b0 : (t135 == 14) = true := beq_iff_eq.mpr c86
                have c86b1 : (t135 != 14) = false := bne_eq_false_iff_eq.mpr c86
                clear c86
                replace H := Option.bind_eq_some_iff.mp H
                obtain ⟨t142, A870, H⟩ := H
                replace H : ((subset_Goes.f a0_0 l0_1 x5_2).bind fun t143 => (if (t142 == t143) = true then ((cl20_wakes.f k3).bind fun t144 => (some t144)) else (none))) = some r := H
                have A87 := Q0z.mk A870
                clear A870
                replace H := Option.bind_eq_some_iff.mp H
                obtain ⟨t143, A880, H⟩ := H
                replace H : (if (t142 == t143) = true then ((cl20_wakes.f k3).bind fun t144 => (some t144)) else (none)) = some r := H
                have A88 := Q0z.mk A880
                clear A880
                by_cases c89 : (t142 == t143) = true
                ·rw [if_pos c89] at H
                 have c89b0 : (t142 == t143) = true := c89
                 (try (have c89b1 : decide (t142 = t143) = true := by simpa using c89))
                 (try (have c89b2 : (t142 == t143) = true := by simpa using c89))
                 clear c89
                 replace H := Option.bind_eq_some_iff.mp H
                 obtain ⟨t144, A900, H⟩ := H
                 replace H : (some t144) = some r := H
                 have A90 := Q0z.mk A900
                 clear A900
                 obtain rfl := Option.some.inj H
                 have hnb91 := NB116_101.1
                 have hnc91 := NB101_116.1
                 have hnb92 := NB116_127.1
                 have hnc92 := NB127_116.1
                 have hnb93 := NB116_136.1
                 have hnc93 := NB136_116.1
                 have hcz94_0 : wr.cell? ⟨gb116, 0, none⟩ = some (.int .i64 t108) := (bcz BK116.1 0).trans rfl
                 have hcz94_1 : wr.cell? ⟨gb116, 1, none⟩ = some (.slice Ao36 t109.length co36) := (bcz BK116.1 1).trans rfl
                 have hcz94_2 : wr.cell? ⟨gb116, 2, none⟩ = some (.slice Ao37 t112.length co37) := (bcz BK116.1 2).trans rfl
                 have hfz94_0 := bf BK116.1 0
                 have hfz94_1 := bf BK116.1 1
                 have hfz94_2 := bf BK116.1 2
                 try go_wp2
                 have n0_ := Q0z.mk (Kd.R_drew HO_5.1)
                 have n1_ := Q0z.mk (Kd.S_drew HO_117001.1)
                 have n2_ := Q0z.mk (Kd.R_drew HO_117002.1)
                 have n3_ := Q0z.mk (Kd.S_drew HO_128001.1)
                 have n4_ := Q0z.mk (Kd.R_drew HO_128002.1)
                 have n5_ := Q0z.mk (Kd.S_drew HO_137001.1)
                 have n6_ := Q0z.mk (Kd.R_drew HO_137002.1)
                 have n7_ := Q0z.mk (bd BK101.1)
                 have n8_ := Q0z.mk (bd BK116.1)
                 have n9_ := Q0z.mk (bd BK127.1)
                 have n10_ := Q0z.mk (bd BK136.1)
                 have n11_ := Q0z.mk (bD HB.1)
                 clear HO_5
                 clear HO_117001
                 clear HO_117002
                 clear HO_128001
                 clear HO_128002
                 clear HO_137001
                 clear HO_137002
                 clear BK101
                 clear BK116
                 clear BK127
                 clear BK136
                 clear HB
                 have HO_5 := n0_
                 have HO_117001 := n1_
                 have HO_117002 := n2_
                 have HO_128001 := n3_
                 have HO_128002 := n4_
                 have HO_137001 := n5_
                 have HO_137002 := n6_
                 have BK101 := n7_
                 have BK116 := n8_
                 have BK127 := n9_
                 have BK136 := n10_
                 have HB := n11_
                 clear n0_ n1_ n2_ n3_ n4_ n5_ n6_ n7_ n8_ n9_ n10_ n11_
                 refine start_ (n := 31) (S := fun w' => w'.cell? ⟨gb116, 0, none⟩ = some (.int .i64 t108) ∧ w'.cell? ⟨gb116, 1, none⟩ = some (.slice Ao36 t109.length co36) ∧ w'.cell? ⟨gb116, 2, none⟩ = some (.slice Ao37 t112.length co37) ∧ w'.cell? ⟨gb127, 0, none⟩ = some (.int .i64 t119) ∧ w'.cell? ⟨gb127, 1, none⟩ = some (.slice Ao46 t120.length co46) ∧ w'.cell? ⟨gb127, 2, none⟩ = some (.slice Ao47 t123.length co47) ∧ w'.cell? ⟨gb101, 0, none⟩ = some (.int .i64 a0_0) ∧ w'.cell? ⟨gb101, 1, none⟩ = some (.slice A0_1 l0_1.length c0_1)) (ds := []) #[false, false, false, false, false, false, false, false, false, false, false, false, false, false, false, false, false, false, false, false, false, false, false, false, false, false, false, false, false, false, false] (by kernel_rfl) rfl rfl ⟨(bcz BK116.1 0).trans rfl, (bcz BK116.1 1).trans rfl, (bcz BK116.1 2).trans rfl, (bcz BK127.1 0).trans rfl, (bcz BK127.1 1).trans rfl, (bcz BK127.1 2).trans rfl, (bcz BK101.1 0).trans rfl, (bcz BK101.1 1).trans rfl⟩ (fun hHeld => ?_); refine with_tabW cl20_SubsetTakes.tab26 cl20_SubsetTakes.bits26 (fun HT_ HW_ => ?_)
                 generalize wr.drew = w95 at HO_5 HO_117001 HO_117002 HO_128001 HO_128002 HO_137001 HO_137002 BK101 BK116 BK127 BK136 HB hHeld ⊢
                 refine pure_ (i := 0) (N := some 121) (v := ?_) (a' := ?_) #[true, false, false, false, false, false, false, false, false, false, false, false, false, false, false, false, false, false, false, false, false, false, false, false, false, false, false, false, false, false, false] rfl rfl (any_of HT_.1 (by kernel_rfl)) (fun _ _ _ h => h) (Or.inl ⟨by rfl, ?_⟩) ?_ ?_
                 rotate_left
                 ·intro w'
                  go_simp
                  with_reducible rfl
                 rotate_left
                 ·simp only [Act.put, sA, sB, sC, i64_w, i32_w]
                  rfl
                 refine pure_ (i := 1) (N := some 122) (v := ?_) (a' := ?_) #[true, true, false, false, false, false, false, false, false, false, false, false, false, false, false, false, false, false, false, false, false, false, false, false, false, false, false, false, false, false, false] rfl rfl (any_of HT_.1 (by kernel_rfl)) (fun _ _ _ h => h) (Or.inl ⟨by rfl, ?_⟩) ?_ ?_
                 rotate_left
                 ·intro w'
                  go_simp
                  with_reducible rfl
                 rotate_left
                 ·simp only [Act.put, sA, sB, sC, i64_w, i32_w]
                  rfl
                 refine take_ (i := 2) (N := some 123) (v := ?_) (a' := ?_) #[true, true, true, false, false, false, false, false, false, false, false, false, false, false, false, false, false, false, false, false, false, false, false, false, false, false, false, false, false, false, false] rfl rfl (take_ofW HT_.1 HW_.1 (by kernel_rfl)) (fun _ _ _ h => h) (Or.inl ⟨by rfl, ?_⟩) hHeld ?_ ?_
                 rotate_left
                 ·rintro w' ⟨s0, s1, s2, s3, s4, s5, s6, s7⟩
                  go_simp
                  with_reducible rfl
                 rotate_left
                 ·simp only [Act.put, sA, sB, sC, i64_w, i32_w]
                  rfl
                 refine pure_ (i := 3) (N := some 124) (v := ?_) (a' := ?_) #[true, true, true, true, false, false, false, false, false, false, false, false, false, false, false, false, false, false, false, false, false, false, false, false, false, false, false, false, false, false, false] rfl rfl (any_of HT_.1 (by kernel_rfl)) (fun _ _ _ h => h) (Or.inl ⟨by rfl, ?_⟩) ?_ ?_
                 rotate_left
                 ·intro w'
                  go_simp
                  with_reducible rfl
                 rotate_left
                 ·simp only [Act.put, sA, sB, sC, i64_w, i32_w]
                  rfl
                 refine pure_ (i := 4) (N := some 125) (v := ?_) (a' := ?_) #[true, true, true, true, true, false, false, false, false, false, false, false, false, false, false, false, false, false, false, false, false, false, false, false, false, false, false, false, false, false, false] rfl rfl (any_of HT_.1 (by kernel_rfl)) (fun _ _ _ h => h) (Or.inl ⟨by rfl, ?_⟩) ?_ ?_
                 rotate_left
                 ·intro w'
                  go_simp
                  with_reducible rfl
                 rotate_left
                 ·simp only [Act.put, sA, sB, sC, i64_w, i32_w]
                  rfl
                 refine pure_ (i := 5) (N := some 126) (v := ?_) (a' := ?_) #[true, true, true, true, true, true, false, false, false, false, false, false, false, false, false, false, false, false, false, false, false, false, false, false, false, false, false, false, false, false, false] rfl rfl (any_of HT_.1 (by kernel_rfl)) (fun _ _ _ h => h) (Or.inl ⟨by rfl, ?_⟩) ?_ ?_
                 rotate_left
                 ·intro w'
                  go_simp
                  with_reducible rfl
                 rotate_left
                 ·simp only [Act.put, sA, sB, sC, i64_w, i32_w]
                  rfl
                 refine pure_ (i := 6) (N := some 127) (v := ?_) (a' := ?_) #[true, true, true, true, true, true, true, false, false, false, false, false, false, false, false, false, false, false, false, false, false, false, false, false, false, false, false, false, false, false, false] rfl rfl (any_of HT_.1 (by kernel_rfl)) (fun _ _ _ h => h) (Or.inl ⟨by rfl, ?_⟩) ?_ ?_
                 rotate_left
                 ·intro w'
                  go_simp
                  with_reducible rfl
                 rotate_left
                 ·simp only [Act.put, sA, sB, sC, i64_w, i32_w]
                  rfl
                 refine pure_ (i := 7) (N := some 128) (v := ?_) (a' := ?_) #[true, true, true, true, true, true, true, true, false, false, false, false, false, false, false, false, false, false, false, false, false, false, false, false, false, false, false, false, false, false, false] rfl rfl (any_of HT_.1 (by kernel_rfl)) (fun _ _ _ h => h) (Or.inl ⟨by rfl, ?_⟩) ?_ ?_
                 rotate_left
                 ·intro w'
                  go_simp
                  with_reducible rfl
                 rotate_left
                 ·simp only [Act.put, sA, sB, sC, i64_w, i32_w]
                  rfl
                 refine pure_ (i := 8) (N := some 129) (v := ?_) (a' := ?_) #[true, true, true, true, true, true, true, true, true, false, false, false, false, false, false, false, false, false, false, false, false, false, false, false, false, false, false, false, false, false, false] rfl rfl (any_of HT_.1 (by kernel_rfl)) (fun _ _ _ h => h) (Or.inl ⟨by rfl, ?_⟩) ?_ ?_
                 rotate_left
                 ·intro w'
                  go_simp
                  with_reducible rfl
                 rotate_left
                 ·simp only [Act.put, sA, sB, sC, i64_w, i32_w]
                  rfl
                 refine pure_ (i := 9) (N := some 130) (v := ?_) (a' := ?_) #[true, true, true, true, true, true, true, true, true, true, false, false, false, false, false, false, false, false, false, false, false, false, false, false, false, false, false, false, false, false, false] rfl rfl (any_of HT_.1 (by kernel_rfl)) (fun _ _ _ h => h) (Or.inl ⟨by rfl, ?_⟩) ?_ ?_
                 rotate_left
                 ·intro w'
                  go_simp
                  with_reducible rfl
                 rotate_left
                 ·simp only [Act.put, sA, sB, sC, i64_w, i32_w]
                  rfl
                 refine take_ (i := 10) (N := some 131) (v := ?_) (a' := ?_) #[true, true, true, true, true, true, true, true, true, true, true, false, false, false, false, false, false, false, false, false, false, false, false, false, false, false, false, false, false, false, false] rfl rfl (take_ofW HT_.1 HW_.1 (by kernel_rfl)) (fun _ _ _ h => h) (Or.inl ⟨by rfl, ?_⟩) hHeld ?_ ?_
                 rotate_left
                 ·rintro w' ⟨s0, s1, s2, s3, s4, s5, s6, s7⟩
                  go_simp
                  with_reducible rfl
                 rotate_left
                 ·simp only [Act.put, sA, sB, sC, i64_w, i32_w]
                  rfl
                 refine take_ (i := 11) (N := some 132) (v := ?_) (a' := ?_) #[true, true, true, true, true, true, true, true, true, true, true, true, false, false, false, false, false, false, false, false, false, false, false, false, false, false, false, false, false, false, false] rfl rfl (take_ofW HT_.1 HW_.1 (by kernel_rfl)) (fun _ _ _ h => h) (Or.inl ⟨by rfl, ?_⟩) hHeld ?_ ?_
                 rotate_left
                 ·rintro w' ⟨s0, s1, s2, s3, s4, s5, s6, s7⟩
                  go_simp
                  with_reducible rfl
                 rotate_left
                 ·simp only [Act.put, sA, sB, sC, i64_w, i32_w]
                  rfl
                 refine one_ (i := 12) (N := some 133) #[true, true, true, true, true, true, true, true, true, true, true, true, true, false, false, false, false, false, false, false, false, false, false, false, false, false, false, false, false, false, false] rfl rfl (one_of HT_.1 (by kernel_rfl)) (by decide) (fun K hK => ?_)
                 refine goes_ Try.func41 (by kernel_rfl) rfl #[.agg #[.int .i64 t108, .slice Ao36 t109.length co36, .slice Ao37 t112.length co37], .agg #[.int .i64 t119, .slice Ao46 t120.length co46, .slice Ao47 t123.length co47]] (by rfl) rfl rfl (by (try simp only [List.map_toArray, List.map_cons, List.map_nil]); first | done | rfl | (simp only [List.length_drop, List.length_take]; rfl)) ?_
                 with_reducible refine (ck_Automaton.calls k3 t108 _ _ t109 _ _ t112 t119 _ _ t120 _ _ t123 true _ ?side1 ?side2 ?side3 ?side4 ?side5 ?side6 ?side7 ?side8 A84.1).mono ?_
                 (case side1 => repeat (first | exact (Kd.S_reads' HO_117001.1).2.2 | (with_reducible refine Kd.C_alloc ?_ _) | (with_reducible refine Kd.C_drewN ?_ _) | (with_reducible refine Kd.C_drew ?_)))
                 (case side2 => exact (Kd.S_reads' HO_117001.1).2.1)
                 (case side3 => repeat (first | exact (Kd.R_reads' HO_117002.1).2.2 | (with_reducible refine Kd.C_alloc ?_ _) | (with_reducible refine Kd.C_drewN ?_ _) | (with_reducible refine Kd.C_drew ?_)))
                 (case side4 => exact (Kd.R_reads' HO_117002.1).2.1)
                 (case side5 => repeat (first | exact (Kd.S_reads' HO_128001.1).2.2 | (with_reducible refine Kd.C_alloc ?_ _) | (with_reducible refine Kd.C_drewN ?_ _) | (with_reducible refine Kd.C_drew ?_)))
                 (case side6 => exact (Kd.S_reads' HO_128001.1).2.1)
                 (case side7 => repeat (first | exact (Kd.R_reads' HO_128002.1).2.2 | (with_reducible refine Kd.C_alloc ?_ _) | (with_reducible refine Kd.C_drewN ?_ _) | (with_reducible refine Kd.C_drew ?_)))
                 (case side8 => exact (Kd.R_reads' HO_128002.1).2.1)
                 rintro e w96 ⟨rfl, hb⟩
                 refine ⟨_, rfl, ?_⟩
                 have n0_ := Q0z.mk (Kd.R_below (by (with_reducible repeat (first | apply Kd.R_alloc | apply Kd.R_drewN | apply Kd.R_drew)); exact HO_5.1) hb)
                 have n1_ := Q0z.mk (Kd.S_below (by (with_reducible repeat (first | apply Kd.S_alloc | apply Kd.S_drewN | apply Kd.S_drew)); exact HO_117001.1) hb)
                 have n2_ := Q0z.mk (Kd.R_below (by (with_reducible repeat (first | apply Kd.R_alloc | apply Kd.R_drewN | apply Kd.R_drew)); exact HO_117002.1) hb)
                 have n3_ := Q0z.mk (Kd.S_below (by (with_reducible repeat (first | apply Kd.S_alloc | apply Kd.S_drewN | apply Kd.S_drew)); exact HO_128001.1) hb)
                 have n4_ := Q0z.mk (Kd.R_below (by (with_reducible repeat (first | apply Kd.R_alloc | apply Kd.R_drewN | apply Kd.R_drew)); exact HO_128002.1) hb)
                 have n5_ := Q0z.mk (Kd.S_below (by (with_reducible repeat (first | apply Kd.S_alloc | apply Kd.S_drewN | apply Kd.S_drew)); exact HO_137001.1) hb)
                 have n6_ := Q0z.mk (Kd.R_below (by (with_reducible repeat (first | apply Kd.R_alloc | apply Kd.R_drewN | apply Kd.R_drew)); exact HO_137002.1) hb)
                 have n7_ := Q0z.mk (bbz (g := gb101) (o := .cells #[.int .i64 a0_0, .slice A0_1 l0_1.length c0_1] 28 (0, 0)) (by (with_reducible repeat (first | refine bN ?_ _ | refine bd ?_ | refine bA ?_ _)); exact BK101.1) hb)
                 have n8_ := Q0z.mk (bbz (g := gb116) (o := .cells #[.int .i64 t108, .slice Ao36 t109.length co36, .slice Ao37 t112.length co37] 25 (0, 0)) (by (with_reducible repeat (first | refine bN ?_ _ | refine bd ?_ | refine bA ?_ _)); exact BK116.1) hb)
                 have n9_ := Q0z.mk (bbz (g := gb127) (o := .cells #[.int .i64 t119, .slice Ao46 t120.length co46, .slice Ao47 t123.length co47] 25 (0, 0)) (by (with_reducible repeat (first | refine bN ?_ _ | refine bd ?_ | refine bA ?_ _)); exact BK127.1) hb)
                 have n10_ := Q0z.mk (bbz (g := gb136) (o := .cells #[.int .i64 t128, .slice Ao56 t129.length co56, .slice Ao57 t132.length co57] 25 (0, 0)) (by (with_reducible repeat (first | refine bN ?_ _ | refine bd ?_ | refine bA ?_ _)); exact BK136.1) hb)
                 have n11_ := Q0z.mk (bsz (by repeat (first | (with_reducible first | exact HB.1 | apply ba | apply pN | apply bD | refine bS ?_ GE101.1 | refine bS ?_ GE116.1 | refine bS ?_ GE127.1 | refine bS ?_ GE136.1) | exact HB.1)) hb)
                 clear HO_5
                 clear HO_117001
                 clear HO_117002
                 clear HO_128001
                 clear HO_128002
                 clear HO_137001
                 clear HO_137002
                 clear BK101
                 clear BK116
                 clear BK127
                 clear BK136
                 clear HB
                 have HO_5 := n0_
                 have HO_117001 := n1_
                 have HO_117002 := n2_
                 have HO_128001 := n3_
                 have HO_128002 := n4_
                 have HO_137001 := n5_
                 have HO_137002 := n6_
                 have BK101 := n7_
                 have BK116 := n8_
                 have BK127 := n9_
                 have BK136 := n10_
                 have HB := n11_
                 clear n0_ n1_ n2_ n3_ n4_ n5_ n6_ n7_ n8_ n9_ n10_ n11_
                 (try clear hb)
                 (try clear hb2)
                 (try clear hk)
                 (try clear hi)
                 obtain ⟨Ao97, co97, eo97⟩ := Kd.R_slice HO_5.1
                 (first | subst eo97 | (injection eo97 with f1_ f2_ f3_; have f4_ := f1_.symm; have f5_ := f3_.symm; clear f1_ f2_ f3_; subst f4_; subst f5_))
                 refine hK.out _ _ ⟨(bcz BK116.1 0).trans rfl, (bcz BK116.1 1).trans rfl, (bcz BK116.1 2).trans rfl, (bcz BK127.1 0).trans rfl, (bcz BK127.1 1).trans rfl, (bcz BK127.1 2).trans rfl, (bcz BK101.1 0).trans rfl, (bcz BK101.1 1).trans rfl⟩ (fun hHeld => ?_)
                 clear hK K
                 refine norm_ (a' := ?_) ?_ ?_
                 rotate_left
                 ·show Act.put _ (some 133) _ = _
                  simp only [Act.put, sA, sB, sC, i64_w, i32_w]
                  rfl
                 refine pure_ (i := 13) (N := some 134) (v := ?_) (a' := ?_) #[true, true, true, true, true, true, true, true, true, true, true, true, true, true, false, false, false, false, false, false, false, false, false, false, false, false, false, false, false, false, false] rfl rfl (any_of HT_.1 (by kernel_rfl)) (fun _ _ _ h => h) (Or.inl ⟨by rfl, ?_⟩) ?_ ?_
                 rotate_left
                 ·intro w'
                  go_simp
                  with_reducible rfl
                 rotate_left
                 ·simp only [Act.put, sA, sB, sC, i64_w, i32_w]
                  rfl
                 refine pure_ (i := 14) (N := some 135) (v := ?_) (a' := ?_) #[true, true, true, true, true, true, true, true, true, true, true, true, true, true, true, false, false, false, false, false, false, false, false, false, false, false, false, false, false, false, false] rfl rfl (any_of HT_.1 (by kernel_rfl)) (fun _ _ _ h => h) (Or.inl ⟨by rfl, ?_⟩) ?_ ?_
                 rotate_left
                 ·intro w'
                  go_simp
                  with_reducible rfl
                 rotate_left
                 ·simp only [Act.put, sA, sB, sC, i64_w, i32_w]
                  rfl
                 refine pure_ (i := 15) (N := some 136) (v := ?_) (a' := ?_) #[true, true, true, true, true, true, true, true, true, true, true, true, true, true, true, true, false, false, false, false, false, false, false, false, false, false, false, false, false, false, false] rfl rfl (any_of HT_.1 (by kernel_rfl)) (fun _ _ _ h => h) (Or.inl ⟨by rfl, ?_⟩) ?_ ?_
                 rotate_left
                 ·intro w'
                  go_simp
                  with_reducible rfl
                 rotate_left
                 ·simp only [Act.put, sA, sB, sC, i64_w, i32_w]
                  rfl
                 refine pure_ (i := 16) (N := some 137) (v := ?_) (a' := ?_) #[true, true, true, true, true, true, true, true, true, true, true, true, true, true, true, true, true, false, false, false, false, false, false, false, false, false, false, false, false, false, false] rfl rfl (any_of HT_.1 (by kernel_rfl)) (fun _ _ _ h => h) (Or.inl ⟨by rfl, ?_⟩) ?_ ?_
                 rotate_left
                 ·intro w'
                  go_simp
                  with_reducible rfl
                 rotate_left
                 ·simp only [Act.put, sA, sB, sC, i64_w, i32_w]
                  rfl
                 refine pure_ (i := 17) (N := some 138) (v := ?_) (a' := ?_) #[true, true, true, true, true, true, true, true, true, true, true, true, true, true, true, true, true, true, false, false, false, false, false, false, false, false, false, false, false, false, false] rfl rfl (any_of HT_.1 (by kernel_rfl)) (fun _ _ _ h => h) (Or.inl ⟨by rfl, ?_⟩) ?_ ?_
                 rotate_left
                 ·intro w'
                  go_simp
                  with_reducible rfl
                 rotate_left
                 ·simp only [Act.put, sA, sB, sC, i64_w, i32_w]
                  rfl
                 refine pure_ (i := 18) (N := some 139) (v := ?_) (a' := ?_) #[true, true, true, true, true, true, true, true, true, true, true, true, true, true, true, true, true, true, true, false, false, false, false, false, false, false, false, false, false, false, false] rfl rfl (any_of HT_.1 (by kernel_rfl)) (fun _ _ _ h => h) (Or.inl ⟨by rfl, ?_⟩) ?_ ?_
                 rotate_left
                 ·intro w'
                  go_simp
                  with_reducible rfl
                 rotate_left
                 ·simp only [Act.put, sA, sB, sC, i64_w, i32_w]
                  rfl
                 refine pure_ (i := 20) (N := some 141) (v := ?_) (a' := ?_) #[true, true, true, true, true, true, true, true, true, true, true, true, true, true, true, true, true, true, true, false, true, false, false, false, false, false, false, false, false, false, false] rfl rfl (any_of HT_.1 (by kernel_rfl)) (fun _ _ _ h => h) (Or.inl ⟨by rfl, ?_⟩) ?_ ?_
                 rotate_left
                 ·intro w'
                  go_simp
                  with_reducible rfl
                 rotate_left
                 ·simp only [Act.put, sA, sB, sC, i64_w, i32_w]
                  rfl
                 refine pure_ (i := 23) (N := some 144) (v := ?_) (a' := ?_) #[true, true, true, true, true, true, true, true, true, true, true, true, true, true, true, true, true, true, true, false, true, false, false, true, false, false, false, false, false, false, false] rfl rfl (any_of HT_.1 (by kernel_rfl)) (fun _ _ _ h => h) (Or.inl ⟨by rfl, ?_⟩) ?_ ?_
                 rotate_left
                 ·intro w'
                  go_simp
                  with_reducible rfl
                 rotate_left
                 ·simp only [Act.put, sA, sB, sC, i64_w, i32_w]
                  rfl
                 refine take_ (i := 19) (N := some 140) (v := ?_) (a' := ?_) #[true, true, true, true, true, true, true, true, true, true, true, true, true, true, true, true, true, true, true, true, true, false, false, true, false, false, false, false, false, false, false] rfl rfl (take_ofW HT_.1 HW_.1 (by kernel_rfl)) (fun _ _ _ h => h) (Or.inl ⟨by rfl, ?_⟩) hHeld ?_ ?_
                 rotate_left
                 ·rintro w' ⟨s0, s1, s2, s3, s4, s5, s6, s7⟩
                  go_simp
                  with_reducible rfl
                 rotate_left
                 ·simp only [Act.put, sA, sB, sC, i64_w, i32_w]
                  rfl
                 refine take_ (i := 22) (N := some 143) (v := ?_) (a' := ?_) #[true, true, true, true, true, true, true, true, true, true, true, true, true, true, true, true, true, true, true, true, true, false, true, true, false, false, false, false, false, false, false] rfl rfl (take_ofW HT_.1 HW_.1 (by kernel_rfl)) (fun _ _ _ h => h) (Or.inl ⟨by rfl, ?_⟩) hHeld ?_ ?_
                 rotate_left
                 ·rintro w' ⟨s0, s1, s2, s3, s4, s5, s6, s7⟩
                  go_simp
                  with_reducible rfl
                 rotate_left
                 ·simp only [Act.put, sA, sB, sC, i64_w, i32_w]
                  rfl
                 refine one_ (i := 21) (N := some 142) #[true, true, true, true, true, true, true, true, true, true, true, true, true, true, true, true, true, true, true, true, true, true, true, true, false, false, false, false, false, false, false] rfl rfl (one_of HT_.1 (by kernel_rfl)) (by decide) (fun K hK => ?_)
                 refine goes_ Try.func56 (by kernel_rfl) rfl #[.agg #[.int .i64 t108, .slice Ao36 t109.length co36, .slice Ao37 t112.length co37], .slice Ao97 x5_2.length co97] (by rfl) rfl rfl (by (try simp only [List.map_toArray, List.map_cons, List.map_nil]); first | done | rfl | (simp only [List.length_drop, List.length_take]; rfl)) ?_
                 with_reducible refine (subset_Takes.calls k3 t108 _ _ t109 _ _ t112 _ _ x5_2 t142 _ ?side1 ?side2 ?side3 ?side4 ?side5 ?side6 A87.1).mono ?_
                 (case side1 => repeat (first | exact (Kd.S_reads' HO_117001.1).2.2 | (with_reducible refine Kd.C_alloc ?_ _) | (with_reducible refine Kd.C_drewN ?_ _) | (with_reducible refine Kd.C_drew ?_)))
                 (case side2 => exact (Kd.S_reads' HO_117001.1).2.1)
                 (case side3 => repeat (first | exact (Kd.R_reads' HO_117002.1).2.2 | (with_reducible refine Kd.C_alloc ?_ _) | (with_reducible refine Kd.C_drewN ?_ _) | (with_reducible refine Kd.C_drew ?_)))
                 (case side4 => exact (Kd.R_reads' HO_117002.1).2.1)
                 (case side5 => repeat (first | exact (Kd.R_reads' HO_5.1).2.2 | (with_reducible refine Kd.C_alloc ?_ _) | (with_reducible refine Kd.C_drewN ?_ _) | (with_reducible refine Kd.C_drew ?_)))
                 (case side6 => exact (Kd.R_reads' HO_5.1).2.1)
                 rintro e w98 ⟨rfl, hb⟩
                 refine ⟨_, rfl, ?_⟩
                 have n0_ := Q0z.mk (Kd.R_below (by (with_reducible repeat (first | apply Kd.R_alloc | apply Kd.R_drewN | apply Kd.R_drew)); exact HO_5.1) hb)
                 have n1_ := Q0z.mk (Kd.S_below (by (with_reducible repeat (first | apply Kd.S_alloc | apply Kd.S_drewN | apply Kd.S_drew)); exact HO_117001.1) hb)
                 have n2_ := Q0z.mk (Kd.R_below (by (with_reducible repeat (first | apply Kd.R_alloc | apply Kd.R_drewN | apply Kd.R_drew)); exact HO_117002.1) hb)
                 have n3_ := Q0z.mk (Kd.S_below (by (with_reducible repeat (first | apply Kd.S_alloc | apply Kd.S_drewN | apply Kd.S_drew)); exact HO_128001.1) hb)
                 have n4_ := Q0z.mk (Kd.R_below (by (with_reducible repeat (first | apply Kd.R_alloc | apply Kd.R_drewN | apply Kd.R_drew)); exact HO_128002.1) hb)
                 have n5_ := Q0z.mk (Kd.S_below (by (with_reducible repeat (first | apply Kd.S_alloc | apply Kd.S_drewN | apply Kd.S_drew)); exact HO_137001.1) hb)
                 have n6_ := Q0z.mk (Kd.R_below (by (with_reducible repeat (first | apply Kd.R_alloc | apply Kd.R_drewN | apply Kd.R_drew)); exact HO_137002.1) hb)
                 have n7_ := Q0z.mk (bbz (g := gb101) (o := .cells #[.int .i64 a0_0, .slice A0_1 l0_1.length c0_1] 28 (0, 0)) (by (with_reducible repeat (first | refine bN ?_ _ | refine bd ?_ | refine bA ?_ _)); exact BK101.1) hb)
                 have n8_ := Q0z.mk (bbz (g := gb116) (o := .cells #[.int .i64 t108, .slice Ao36 t109.length co36, .slice Ao37 t112.length co37] 25 (0, 0)) (by (with_reducible repeat (first | refine bN ?_ _ | refine bd ?_ | refine bA ?_ _)); exact BK116.1) hb)
                 have n9_ := Q0z.mk (bbz (g := gb127) (o := .cells #[.int .i64 t119, .slice Ao46 t120.length co46, .slice Ao47 t123.length co47] 25 (0, 0)) (by (with_reducible repeat (first | refine bN ?_ _ | refine bd ?_ | refine bA ?_ _)); exact BK127.1) hb)
                 have n10_ := Q0z.mk (bbz (g := gb136) (o := .cells #[.int .i64 t128, .slice Ao56 t129.length co56, .slice Ao57 t132.length co57] 25 (0, 0)) (by (with_reducible repeat (first | refine bN ?_ _ | refine bd ?_ | refine bA ?_ _)); exact BK136.1) hb)
                 have n11_ := Q0z.mk (bsz (by repeat (first | (with_reducible first | exact HB.1 | apply ba | apply pN | apply bD | refine bS ?_ GE101.1 | refine bS ?_ GE116.1 | refine bS ?_ GE127.1 | refine bS ?_ GE136.1) | exact HB.1)) hb)
                 clear HO_5
                 clear HO_117001
                 clear HO_117002
                 clear HO_128001
                 clear HO_128002
                 clear HO_137001
                 clear HO_137002
                 clear BK101
                 clear BK116
                 clear BK127
                 clear BK136
                 clear HB
                 have HO_5 := n0_
                 have HO_117001 := n1_
                 have HO_117002 := n2_
                 have HO_128001 := n3_
                 have HO_128002 := n4_
                 have HO_137001 := n5_
                 have HO_137002 := n6_
                 have BK101 := n7_
                 have BK116 := n8_
                 have BK127 := n9_
                 have BK136 := n10_
                 have HB := n11_
                 clear n0_ n1_ n2_ n3_ n4_ n5_ n6_ n7_ n8_ n9_ n10_ n11_
                 (try clear hb)
                 (try clear hb2)
                 (try clear hk)
                 (try clear hi)
                 refine hK.out _ _ ⟨(bcz BK116.1 0).trans rfl, (bcz BK116.1 1).trans rfl, (bcz BK116.1 2).trans rfl, (bcz BK127.1 0).trans rfl, (bcz BK127.1 1).trans rfl, (bcz BK127.1 2).trans rfl, (bcz BK101.1 0).trans rfl, (bcz BK101.1 1).trans rfl⟩ (fun hHeld => ?_)
                 clear hK K
                 refine norm_ (a' := ?_) ?_ ?_
                 rotate_left
                 ·show Act.put _ (some 142) _ = _
                  simp only [Act.put, sA, sB, sC, i64_w, i32_w]
                  rfl
                 refine one_ (i := 24) (N := some 145) #[true, true, true, true, true, true, true, true, true, true, true, true, true, true, true, true, true, true, true, true, true, true, true, true, true, false, false, false, false, false, false] rfl rfl (one_of HT_.1 (by kernel_rfl)) (by decide) (fun K hK => ?_)
                 refine goes_ Try.func61 (by kernel_rfl) rfl #[.agg #[.int .i64 a0_0, .slice A0_1 l0_1.length c0_1], .slice Ao97 x5_2.length co97] (by rfl) rfl rfl (by (try simp only [List.map_toArray, List.map_cons, List.map_nil]); first | done | rfl | (simp only [List.length_drop, List.length_take]; rfl)) ?_
                 with_reducible refine (subset_Goes.calls a0_0 _ _ l0_1 _ _ x5_2 t143 _ ?side1 ?side2 ?side3 ?side4 A88.1).mono ?_
                 (case side1 => repeat (first | exact (Kd.C_below HR0_1.1 HB.1) | (with_reducible refine Kd.C_alloc ?_ _) | (with_reducible refine Kd.C_drewN ?_ _) | (with_reducible refine Kd.C_drew ?_)))
                 (case side2 => exact HC0_1.1)
                 (case side3 => repeat (first | exact (Kd.R_reads' HO_5.1).2.2 | (with_reducible refine Kd.C_alloc ?_ _) | (with_reducible refine Kd.C_drewN ?_ _) | (with_reducible refine Kd.C_drew ?_)))
                 (case side4 => exact (Kd.R_reads' HO_5.1).2.1)
                 rintro e w99 ⟨rfl, hb⟩
                 refine ⟨_, rfl, ?_⟩
                 have n0_ := Q0z.mk (Kd.R_below (by (with_reducible repeat (first | apply Kd.R_alloc | apply Kd.R_drewN | apply Kd.R_drew)); exact HO_5.1) hb)
                 have n1_ := Q0z.mk (Kd.S_below (by (with_reducible repeat (first | apply Kd.S_alloc | apply Kd.S_drewN | apply Kd.S_drew)); exact HO_117001.1) hb)
                 have n2_ := Q0z.mk (Kd.R_below (by (with_reducible repeat (first | apply Kd.R_alloc | apply Kd.R_drewN | apply Kd.R_drew)); exact HO_117002.1) hb)
                 have n3_ := Q0z.mk (Kd.S_below (by (with_reducible repeat (first | apply Kd.S_alloc | apply Kd.S_drewN | apply Kd.S_drew)); exact HO_128001.1) hb)
                 have n4_ := Q0z.mk (Kd.R_below (by (with_reducible repeat (first | apply Kd.R_alloc | apply Kd.R_drewN | apply Kd.R_drew)); exact HO_128002.1) hb)
                 have n5_ := Q0z.mk (Kd.S_below (by (with_reducible repeat (first | apply Kd.S_alloc | apply Kd.S_drewN | apply Kd.S_drew)); exact HO_137001.1) hb)
                 have n6_ := Q0z.mk (Kd.R_below (by (with_reducible repeat (first | apply Kd.R_alloc | apply Kd.R_drewN | apply Kd.R_drew)); exact HO_137002.1) hb)
                 have n7_ := Q0z.mk (bbz (g := gb101) (o := .cells #[.int .i64 a0_0, .slice A0_1 l0_1.length c0_1] 28 (0, 0)) (by (with_reducible repeat (first | refine bN ?_ _ | refine bd ?_ | refine bA ?_ _)); exact BK101.1) hb)
                 have n8_ := Q0z.mk (bbz (g := gb116) (o := .cells #[.int .i64 t108, .slice Ao36 t109.length co36, .slice Ao37 t112.length co37] 25 (0, 0)) (by (with_reducible repeat (first | refine bN ?_ _ | refine bd ?_ | refine bA ?_ _)); exact BK116.1) hb)
                 have n9_ := Q0z.mk (bbz (g := gb127) (o := .cells #[.int .i64 t119, .slice Ao46 t120.length co46, .slice Ao47 t123.length co47] 25 (0, 0)) (by (with_reducible repeat (first | refine bN ?_ _ | refine bd ?_ | refine bA ?_ _)); exact BK127.1) hb)
                 have n10_ := Q0z.mk (bbz (g := gb136) (o := .cells #[.int .i64 t128, .slice Ao56 t129.length co56, .slice Ao57 t132.length co57] 25 (0, 0)) (by (with_reducible repeat (first | refine bN ?_ _ | refine bd ?_ | refine bA ?_ _)); exact BK136.1) hb)
                 have n11_ := Q0z.mk (bsz (by repeat (first | (with_reducible first | exact HB.1 | apply ba | apply pN | apply bD | refine bS ?_ GE101.1 | refine bS ?_ GE116.1 | refine bS ?_ GE127.1 | refine bS ?_ GE136.1) | exact HB.1)) hb)
                 clear HO_5
                 clear HO_117001
                 clear HO_117002
                 clear HO_128001
                 clear HO_128002
                 clear HO_137001
                 clear HO_137002
                 clear BK101
                 clear BK116
                 clear BK127
                 clear BK136
                 clear HB
                 have HO_5 := n0_
                 have HO_117001 := n1_
                 have HO_117002 := n2_
                 have HO_128001 := n3_
                 have HO_128002 := n4_
                 have HO_137001 := n5_
                 have HO_137002 := n6_
                 have BK101 := n7_
                 have BK116 := n8_
                 have BK127 := n9_
                 have BK136 := n10_
                 have HB := n11_
                 clear n0_ n1_ n2_ n3_ n4_ n5_ n6_ n7_ n8_ n9_ n10_ n11_
                 (try clear hb)
                 (try clear hb2)
                 (try clear hk)
                 (try clear hi)
                 refine hK.out _ _ ⟨(bcz BK116.1 0).trans rfl, (bcz BK116.1 1).trans rfl, (bcz BK116.1 2).trans rfl, (bcz BK127.1 0).trans rfl, (bcz BK127.1 1).trans rfl, (bcz BK127.1 2).trans rfl, (bcz BK101.1 0).trans rfl, (bcz BK101.1 1).trans rfl⟩ (fun hHeld => ?_)
                 clear hK K
                 refine norm_ (a' := ?_) ?_ ?_
                 rotate_left
                 ·show Act.put _ (some 145) _ = _
                  simp only [Act.put, sA, sB, sC, i64_w, i32_w]
                  rfl
                 refine pure_ (i := 25) (N := some 146) (v := ?_) (a' := ?_) #[true, true, true, true, true, true, true, true, true, true, true, true, true, true, true, true, true, true, true, true, true, true, true, true, true, true, false, false, false, false, false] rfl rfl (any_of HT_.1 (by kernel_rfl)) (fun _ _ _ h => h) (Or.inl ⟨by rfl, ?_⟩) ?_ ?_
                 rotate_left
                 ·intro w'
                  go_simp
                  with_reducible rfl
                 rotate_left
                 ·simp only [Act.put, sA, sB, sC, i64_w, i32_w]
                  rfl
                 refine pure_ (i := 26) (N := some 147) (v := ?_) (a' := ?_) #[true, true, true, true, true, true, true, true, true, true, true, true, true, true, true, true, true, true, true, true, true, true, true, true, true, true, true, false, false, false, false] rfl rfl (any_of HT_.1 (by kernel_rfl)) (fun _ _ _ h => h) (Or.inl ⟨by rfl, ?_⟩) ?_ ?_
                 rotate_left
                 ·intro w'
                  go_simp
                  with_reducible rfl
                 rotate_left
                 ·simp only [Act.put, sA, sB, sC, i64_w, i32_w]
                  rfl
                 refine pure_ (i := 27) (N := some 148) (v := ?_) (a' := ?_) #[true, true, true, true, true, true, true, true, true, true, true, true, true, true, true, true, true, true, true, true, true, true, true, true, true, true, true, true, false, false, false] rfl rfl (any_of HT_.1 (by kernel_rfl)) (fun _ _ _ h => h) (Or.inl ⟨by rfl, ?_⟩) ?_ ?_
                 rotate_left
                 ·intro w'
                  go_simp
                  with_reducible rfl
                 rotate_left
                 ·simp only [Act.put, sA, sB, sC, i64_w, i32_w]
                  rfl
                 refine one_ (i := 28) (N := some 149) #[true, true, true, true, true, true, true, true, true, true, true, true, true, true, true, true, true, true, true, true, true, true, true, true, true, true, true, true, true, false, false] rfl rfl (one_of HT_.1 (by kernel_rfl)) (by decide) (fun K hK => ?_)
                 refine goes_ Try.func57 (by kernel_rfl) rfl #[] (by rfl) rfl rfl (by (try simp only [List.map_toArray, List.map_cons, List.map_nil]); first | done | rfl | (simp only [List.length_drop, List.length_take]; rfl)) ?_
                 with_reducible refine (cl20_wakes.calls k3  t144 _ A90.1).mono ?_
                 rintro e w100 ⟨rfl, hb⟩
                 refine ⟨_, rfl, ?_⟩
                 have n0_ := Q0z.mk (Kd.R_below (by (with_reducible repeat (first | apply Kd.R_alloc | apply Kd.R_drewN | apply Kd.R_drew)); exact HO_5.1) hb)
                 have n1_ := Q0z.mk (Kd.S_below (by (with_reducible repeat (first | apply Kd.S_alloc | apply Kd.S_drewN | apply Kd.S_drew)); exact HO_117001.1) hb)
                 have n2_ := Q0z.mk (Kd.R_below (by (with_reducible repeat (first | apply Kd.R_alloc | apply Kd.R_drewN | apply Kd.R_drew)); exact HO_117002.1) hb)
                 have n3_ := Q0z.mk (Kd.S_below (by (with_reducible repeat (first | apply Kd.S_alloc | apply Kd.S_drewN | apply Kd.S_drew)); exact HO_128001.1) hb)
                 have n4_ := Q0z.mk (Kd.R_below (by (with_reducible repeat (first | apply Kd.R_alloc | apply Kd.R_drewN | apply Kd.R_drew)); exact HO_128002.1) hb)
                 have n5_ := Q0z.mk (Kd.S_below (by (with_reducible repeat (first | apply Kd.S_alloc | apply Kd.S_drewN | apply Kd.S_drew)); exact HO_137001.1) hb)
                 have n6_ := Q0z.mk (Kd.R_below (by (with_reducible repeat (first | apply Kd.R_alloc | apply Kd.R_drewN | apply Kd.R_drew)); exact HO_137002.1) hb)
                 have n7_ := Q0z.mk (bbz (g := gb101) (o := .cells #[.int .i64 a0_0, .slice A0_1 l0_1.length c0_1] 28 (0, 0)) (by (with_reducible repeat (first | refine bN ?_ _ | refine bd ?_ | refine bA ?_ _)); exact BK101.1) hb)
                 have n8_ := Q0z.mk (bbz (g := gb116) (o := .cells #[.int .i64 t108, .slice Ao36 t109.length co36, .slice Ao37 t112.length co37] 25 (0, 0)) (by (with_reducible repeat (first | refine bN ?_ _ | refine bd ?_ | refine bA ?_ _)); exact BK116.1) hb)
                 have n9_ := Q0z.mk (bbz (g := gb127) (o := .cells #[.int .i64 t119, .slice Ao46 t120.length co46, .slice Ao47 t123.length co47] 25 (0, 0)) (by (with_reducible repeat (first | refine bN ?_ _ | refine bd ?_ | refine bA ?_ _)); exact BK127.1) hb)
                 have n10_ := Q0z.mk (bbz (g := gb136) (o := .cells #[.int .i64 t128, .slice Ao56 t129.length co56, .slice Ao57 t132.length co57] 25 (0, 0)) (by (with_reducible repeat (first | refine bN ?_ _ | refine bd ?_ | refine bA ?_ _)); exact BK136.1) hb)
                 have n11_ := Q0z.mk (bsz (by repeat (first | (with_reducible first | exact HB.1 | apply ba | apply pN | apply bD | refine bS ?_ GE101.1 | refine bS ?_ GE116.1 | refine bS ?_ GE127.1 | refine bS ?_ GE136.1) | exact HB.1)) hb)
                 clear HO_5
                 clear HO_117001
                 clear HO_117002
                 clear HO_128001
                 clear HO_128002
                 clear HO_137001
                 clear HO_137002
                 clear BK101
                 clear BK116
                 clear BK127
                 clear BK136
                 clear HB
                 have HO_5 := n0_
                 have HO_117001 := n1_
                 have HO_117002 := n2_
                 have HO_128001 := n3_
                 have HO_128002 := n4_
                 have HO_137001 := n5_
                 have HO_137002 := n6_
                 have BK101 := n7_
                 have BK116 := n8_
                 have BK127 := n9_
                 have BK136 := n10_
                 have HB := n11_
                 clear n0_ n1_ n2_ n3_ n4_ n5_ n6_ n7_ n8_ n9_ n10_ n11_
                 (try clear hb)
                 (try clear hb2)
                 (try clear hk)
                 (try clear hi)
                 refine hK.out _ _ ⟨(bcz BK116.1 0).trans rfl, (bcz BK116.1 1).trans rfl, (bcz BK116.1 2).trans rfl, (bcz BK127.1 0).trans rfl, (bcz BK127.1 1).trans rfl, (bcz BK127.1 2).trans rfl, (bcz BK101.1 0).trans rfl, (bcz BK101.1 1).trans rfl⟩ (fun hHeld => ?_)
                 clear hK K
                 refine norm_ (a' := ?_) ?_ ?_
                 rotate_left
                 ·show Act.put _ (some 149) _ = _
                  simp only [Act.put, sA, sB, sC, i64_w, i32_w]
                  rfl
                 refine pure_ (i := 29) (N := some 150) (v := ?_) (a' := ?_) #[true, true, true, true, true, true, true, true, true, true, true, true, true, true, true, true, true, true, true, true, true, true, true, true, true, true, true, true, true, true, false] rfl rfl (any_of HT_.1 (by kernel_rfl)) (fun _ _ _ h => h) (Or.inl ⟨by rfl, ?_⟩) ?_ ?_
                 rotate_left
                 ·intro w'
                  go_simp
                  with_reducible rfl
                 rotate_left
                 ·simp only [Act.put, sA, sB, sC, i64_w, i32_w]
                  rfl
                 refine pure_ (i := 30) (N := some 4) (v := ?_) (a' := ?_) #[true, true, true, true, true, true, true, true, true, true, true, true, true, true, true, true, true, true, true, true, true, true, true, true, true, true, true, true, true, true, true] rfl rfl (any_of HT_.1 (by kernel_rfl)) (fun _ _ _ h => h) (Or.inl ⟨by rfl, ?_⟩) ?_ ?_
                 rotate_left
                 ·intro w'
                  go_simp
                  with_reducible rfl
                 rotate_left
                 ·simp only [Act.put, sA, sB, sC, i64_w, i32_w]
                  rfl
                 refine done_ (done_of HT_.1 (by kernel_rfl)) ?_
                 try go_wp2
                 go_ret
                 exact ⟨by first | rfl | (simp [errW_none, errW_some] <;> rfl) | (simp [*, errW_none, errW_some] <;> rfl), by repeat (first | (with_reducible first | exact HB.1 | apply ba | apply pN | apply bD | refine bS ?_ GE101.1 | refine bS ?_ GE116.1 | refine bS ?_ GE127.1 | refine bS ?_ GE136.1) | exact HB.1)⟩
                ·rw [if_neg c89] at H
                 exact absurd H (by simp)
               ·rw [if_neg c86] at H
                exact absurd H (by simp)
              ·replace c85 := Bool.eq_false_iff.mpr c85
               subst c85
               have H1 : (none) = some r := by rw [if_neg (show ¬ (false = true) by decide)] at H; exact H
               clear H
               have H := H1
               clear H1
               exact absurd H (by simp)
             ·rw [if_neg c83] at H
              exact absurd H (by simp)
            ·rw [if_neg c82] at H
             exact absurd H (by simp)
        ·replace c28 := Bool.eq_false_iff.mpr c28
         subst c28
         have H1 : (none) = some r := by rw [if_neg (show ¬ (false = true) by decide)] at H; exact H
         clear H
         have H := H1
         clear H1
         exact absurd H (by simp)
       ·rw [if_neg c26] at H
        have c26b0 : (t115 == 0) = false := beq_eq_false_iff_ne.mpr c26
        have c26b1 : (t115 != 0) = true := bne_iff_ne.mpr c26
        by_cases c101 : t115 = 14
        ·rw [if_pos c101] at H
         have c101b0 : (t115 == 14) = true := beq_iff_eq.mpr c101
         have c101b1 : (t115 != 14) = false := bne_eq_false_iff_eq.mpr c101
         clear c101
         by_cases c102 : (t109.length : Int) = 0
         ·rw [if_pos c102] at H
          have c102b0 : ((t109.length : Int) == 0) = true := beq_iff_eq.mpr c102
          have c102b1 : ((t109.length : Int) != 0) = false := bne_eq_false_iff_eq.mpr c102
          clear c102
          replace H := Option.bind_eq_some_iff.mp H
          obtain ⟨t117, A1030, H⟩ := H
          replace H : (some t117) = some r := H
          have A103 := Q0z.mk A1030
          clear A1030
          obtain rfl := Option.some.inj H
          have hcz104_0 : wr.cell? ⟨gb101, 0, none⟩ = some (.int .i64 a0_0) := (bcz BK101.1 0).trans rfl
          have hcz104_1 : wr.cell? ⟨gb101, 1, none⟩ = some (.slice A0_1 l0_1.length c0_1) := (bcz BK101.1 1).trans rfl
          have hfz104_0 := bf BK101.1 0
          have hfz104_1 := bf BK101.1 1
          go_wp2_with (first | ((with_reducible refine gate_callee (f := 58) rfl ?_); refine goesL_ (some 50) rfl rfl Try.func58 (by kernel_rfl) rfl #[.agg #[.int .i64 a0_0, .slice A0_1 l0_1.length c0_1], .int .i64 120] rfl (by (try simp only [List.map_toArray, List.map_cons, List.map_nil]); first | done | rfl | (simp only [List.length_drop, List.length_take]; rfl)) ?_; (with_reducible refine (subset_Of.calls k2 a0_0 _ _ l0_1 120 t108 t109 t112 t115 _ ?side1 ?side2 A25.1).mono ?_); (case side1 => repeat (first | exact (Kd.C_below HR0_1.1 HB.1) | (with_reducible refine Kd.C_alloc ?_ _) | (with_reducible refine Kd.C_drewN ?_ _) | (with_reducible refine Kd.C_drew ?_))); (case side2 => exact HC0_1.1); rintro e w105 ⟨v110, v113, rfl, ho0, ho1, hb⟩; refine ⟨_, rfl, ?_⟩; have n0_ := Q0z.mk (Kd.R_below (by (with_reducible repeat (first | apply Kd.R_alloc | apply Kd.R_drewN | apply Kd.R_drew)); exact HO_5.1) hb); have n1_ := Q0z.mk (Kd.S_lower (Kd.S_new' ho0 (Kd.R_lt (by (with_reducible repeat (first | apply Kd.R_alloc | apply Kd.R_drewN | apply Kd.R_drew)); exact HO_5.1))) (below_size (by repeat (first | (with_reducible first | exact HB.1 | apply ba | apply pN | apply bD | refine bS ?_ GE101.1) | exact HB.1)))); have n2_ := Q0z.mk (Kd.R_lower ho1 (below_size (by repeat (first | (with_reducible first | exact HB.1 | apply ba | apply pN | apply bD | refine bS ?_ GE101.1) | exact HB.1)))); have n3_ := Q0z.mk (bbz (g := gb101) (o := .cells #[.int .i64 a0_0, .slice A0_1 l0_1.length c0_1] 28 (0, 0)) (by (with_reducible repeat (first | refine bN ?_ _ | refine bd ?_ | refine bA ?_ _)); exact BK101.1) hb); have n4_ := Q0z.mk (bsz (by repeat (first | (with_reducible first | exact HB.1 | apply ba | apply pN | apply bD | refine bS ?_ GE101.1) | exact HB.1)) hb); clear HO_5; clear BK101; clear HB; have HO_5 := n0_; have HO111 := n1_; have HO114 := n2_; have BK101 := n3_; have HB := n4_; clear n0_ n1_ n2_ n3_ n4_; (try clear hb); (try clear hb2); (try clear hk); (try clear hi); (try clear ho0); (try clear ho1)) | ((with_reducible refine gate_dst (N := 7) rfl ?_); (try (refine gate_guard (by rfl) ?_; dsimp only)); refine box_event ?hg (N := 7) ?hd (cs := #[.int .i64 0, .slice none 0 0, .slice none 0 0]) (t := 25) ?hr ?_; (case hd => rfl); (case hg => rfl); (case hr => first | (go_simp; done) | (go_simp; rfl)); intro gb116 hg w106 hbox hb; have n0_ := Q0z.mk (Kd.R_below (by (with_reducible repeat (first | apply Kd.R_alloc | apply Kd.R_drewN | apply Kd.R_drew)); exact HO_5.1) hb); have n1_ := Q0z.mk (Kd.S_below (by (with_reducible repeat (first | apply Kd.S_alloc | apply Kd.S_drewN | apply Kd.S_drew)); exact HO111.1) hb); have n2_ := Q0z.mk (Kd.R_below (by (with_reducible repeat (first | apply Kd.R_alloc | apply Kd.R_drewN | apply Kd.R_drew)); exact HO114.1) hb); have n3_ := Q0z.mk (bbz (g := gb101) (o := .cells #[.int .i64 a0_0, .slice A0_1 l0_1.length c0_1] 28 (0, 0)) (by (with_reducible repeat (first | refine bN ?_ _ | refine bd ?_ | refine bA ?_ _)); exact BK101.1) hb); have n4_ := Q0z.mk (bsz (by repeat (first | (with_reducible first | exact HB.1 | apply ba | apply pN | apply bD | refine bS ?_ GE101.1) | exact HB.1)) hb); have n5_ := Q0z.mk (hbox); have n6_ := Q0z.mk ((by rw [hg]; exact (below_size (by repeat (first | (with_reducible first | exact HB.1 | apply ba | apply pN | apply bD | refine bS ?_ GE101.1) | exact HB.1))) : w.heap.size ≤ gb116)); have n7_ := Q0z.mk ((by rw [hg]; exact (below_size (by repeat (first | (with_reducible first | exact HB.1 | apply ba | apply pN | apply bD | refine bS ?_ GE101.1) | exact HB.1))) : w.heap.size ≤ gb116)); have n8_ := Q0z.mk ((by rw [hg]; exact Nat.ne_of_lt (blk_lt (g := gb101) (o := .cells #[.int .i64 a0_0, .slice A0_1 l0_1.length c0_1] 28 (0, 0)) (by (with_reducible repeat (first | refine bN ?_ _ | refine bd ?_ | refine bA ?_ _)); exact BK101.1)) : gb101 ≠ gb116)); have n9_ := Q0z.mk ((by rw [hg]; exact Nat.ne_of_gt (blk_lt (g := gb101) (o := .cells #[.int .i64 a0_0, .slice A0_1 l0_1.length c0_1] 28 (0, 0)) (by (with_reducible repeat (first | refine bN ?_ _ | refine bd ?_ | refine bA ?_ _)); exact BK101.1)) : gb116 ≠ gb101)); clear HO_5; clear HO111; clear HO114; clear BK101; clear HB; have HO_5 := n0_; have HO111 := n1_; have HO114 := n2_; have BK101 := n3_; have HB := n4_; have BK116 := n5_; have GW116 := n6_; have GE116 := n7_; have NB101_116 := n8_; have NB116_101 := n9_; clear n0_ n1_ n2_ n3_ n4_ n5_ n6_ n7_ n8_ n9_; clear hb hbox hg; have hnb107 := NB116_101.1; have hnc107 := NB101_116.1; have hcz108_0 : w106.cell? ⟨gb116, 0, none⟩ = some (.int .i64 0) := (bcz BK116.1 0).trans rfl; have hcz108_1 : w106.cell? ⟨gb116, 1, none⟩ = some (.slice none 0 0) := (bcz BK116.1 1).trans rfl; have hcz108_2 : w106.cell? ⟨gb116, 2, none⟩ = some (.slice none 0 0) := (bcz BK116.1 2).trans rfl; have hfz108_0 := bf BK116.1 0; have hfz108_1 := bf BK116.1 1; have hfz108_2 := bf BK116.1 2; obtain ⟨Ao109, co109, eo109⟩ := Kd.S_slice HO111.1; subst eo109; obtain ⟨Ao110, co110, eo110⟩ := Kd.R_slice HO114.1; subst eo110) | (go_at_call 57; (with_reducible refine (cl20_wakes.calls k2  t117 _ A103.1).mono ?_); rintro e w111 ⟨rfl, hb⟩; have n0_ := Q0z.mk (Kd.R_below (by (with_reducible repeat (first | apply Kd.R_alloc | apply Kd.R_drewN | apply Kd.R_drew)); exact (Kd.R_mono (Kd.R_far (p := ⟨gb116, 2, none⟩) (Kd.R_far (p := ⟨gb116, 1, none⟩) (Kd.R_far (p := ⟨gb116, 0, none⟩) (Kd.R_types HO_5.1 BK116.1 (by decide)) (fun _ hk => hk.2) (.int .i64 t108)) (fun _ hk => hk.2) (.slice Ao109 t109.length co109)) (fun _ hk => hk.2) (.slice Ao110 t112.length co110)) (fun _ h_ => h_.1))) hb); have n1_ := Q0z.mk (Kd.S_below (by (with_reducible repeat (first | apply Kd.S_alloc | apply Kd.S_drewN | apply Kd.S_drew)); exact (Kd.S_mono (Kd.S_far (p := ⟨gb116, 2, none⟩) (Kd.S_far (p := ⟨gb116, 1, none⟩) (Kd.S_far (p := ⟨gb116, 0, none⟩) (Kd.S_types HO111.1 BK116.1 (by decide)) (fun _ hk => hk.2) (.int .i64 t108)) (fun _ hk => hk.2) (.slice Ao109 t109.length co109)) (fun _ hk => hk.2) (.slice Ao110 t112.length co110)) (fun _ h_ => h_.1))) hb); have n2_ := Q0z.mk (Kd.R_below (by (with_reducible repeat (first | apply Kd.R_alloc | apply Kd.R_drewN | apply Kd.R_drew)); exact (Kd.R_mono (Kd.R_far (p := ⟨gb116, 2, none⟩) (Kd.R_far (p := ⟨gb116, 1, none⟩) (Kd.R_far (p := ⟨gb116, 0, none⟩) (Kd.R_types HO114.1 BK116.1 (by decide)) (fun _ hk => hk.2) (.int .i64 t108)) (fun _ hk => hk.2) (.slice Ao109 t109.length co109)) (fun _ hk => hk.2) (.slice Ao110 t112.length co110)) (fun _ h_ => h_.1))) hb); have n3_ := Q0z.mk (bbz (g := gb101) (o := .cells #[.int .i64 a0_0, .slice A0_1 l0_1.length c0_1] 28 (0, 0)) (by (with_reducible repeat (first | refine bN ?_ _ | refine bd ?_ | refine bA ?_ _)); refine bF ?_ NB101_116.1 _; (with_reducible repeat (first | refine bN ?_ _ | refine bd ?_ | refine bA ?_ _)); refine bF ?_ NB101_116.1 _; (with_reducible repeat (first | refine bN ?_ _ | refine bd ?_ | refine bA ?_ _)); refine bF ?_ NB101_116.1 _; (with_reducible repeat (first | refine bN ?_ _ | refine bd ?_ | refine bA ?_ _)); exact BK101.1) hb); have n4_ := Q0z.mk (bbz (g := gb116) (o := .cells #[.int .i64 t108, .slice Ao109 t109.length co109, .slice Ao110 t112.length co110] 25 (0, 0)) (by (with_reducible repeat (first | refine bN ?_ _ | refine bd ?_ | refine bA ?_ _)); refine bp (cs := #[.int .i64 t108, .slice Ao109 t109.length co109, .slice none 0 0]) ?_ 2 _ rfl; (with_reducible repeat (first | refine bN ?_ _ | refine bd ?_ | refine bA ?_ _)); refine bp (cs := #[.int .i64 t108, .slice none 0 0, .slice none 0 0]) ?_ 1 _ rfl; (with_reducible repeat (first | refine bN ?_ _ | refine bd ?_ | refine bA ?_ _)); refine bp (cs := #[.int .i64 0, .slice none 0 0, .slice none 0 0]) ?_ 0 _ rfl; (with_reducible repeat (first | refine bN ?_ _ | refine bd ?_ | refine bA ?_ _)); exact BK116.1) hb); have n5_ := Q0z.mk (bsz (by repeat (first | (with_reducible first | exact HB.1 | apply ba | apply pN | apply bD | refine bS ?_ GE101.1 | refine bS ?_ GE116.1) | exact HB.1)) hb); clear HO_5; clear HO111; clear HO114; clear BK101; clear BK116; clear HB; have HO_5 := n0_; have HO111 := n1_; have HO114 := n2_; have BK101 := n3_; have BK116 := n4_; have HB := n5_; clear n0_ n1_ n2_ n3_ n4_ n5_; (try clear hb); (try clear hb2); (try clear hk); (try clear hi)))
          go_ret
          exact ⟨by first | rfl | (simp [errW_none, errW_some] <;> rfl) | (simp [*, errW_none, errW_some] <;> rfl), by repeat (first | (with_reducible first | exact HB.1 | apply ba | apply pN | apply bD | refine bS ?_ GE101.1 | refine bS ?_ GE116.1) | exact HB.1)⟩
         ·rw [if_neg c102] at H
          exact absurd H (by simp)
        ·rw [if_neg c101] at H
         exact absurd H (by simp)

end Go.Proofs.Ytelkjbacdpmnfaa.A
