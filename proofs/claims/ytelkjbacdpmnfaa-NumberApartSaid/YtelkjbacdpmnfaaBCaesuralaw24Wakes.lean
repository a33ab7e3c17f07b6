/- By a program, out of the translation (wip/myprint.py). -/
import Derived.Test.YtelkjbacdpmnfaaB0
import Derived.Test.YtelkjbacdpmnfaaBCaesuralaw19One
import Derived.Test.YtelkjbacdpmnfaaBNumberAlike
import Derived.Test.YtelkjbacdpmnfaaBProductBoth
import Derived.Test.YtelkjbacdpmnfaaBProductLess
import Derived.Test.YtelkjbacdpmnfaaBProductNot
import Derived.Test.YtelkjbacdpmnfaaBProductSome
import Derived.Test.YtelkjbacdpmnfaaBSubsetTakes
import Derived.Test.YtelkjbacdpmnfaaBWordsA
import Derived.Test.YtelkjbacdpmnfaaBWordsB
namespace Go.Proofs.Ytelkjbacdpmnfaa.A
open Go.RowKit Go.W_.PrintWords Go.W_.PrintLast Go.W_.PrintMore
attribute [local go_sem] max2_int min2_int max_two min_two max_three min_three max_four min_four
set_option linter.unusedVariables false
set_option linter.unusedSimpArgs false

def caesuralaw24_wakes.f (k : Nat) : Option Bool := some true
theorem caesuralaw24_wakes.mono : ∀ k, LeO (caesuralaw24_wakes.f k) (caesuralaw24_wakes.f (k + 1)) := fun k => LeO.refl _
theorem wake24_A : caesuralaw19_One.f 0 = some (2, [[1, 2], [2, 2], [2, 2]], [false, true, false]) := by kernel_rfl
theorem wake24_B : caesuralaw19_One.f 1 = some (2, [[2, 1], [2, 2], [2, 2]], [false, true, false]) := by kernel_rfl
theorem wake24_A2 : caesuralaw19_One.f 0 = some (2, [[1, 2], [2, 2], [2, 2]], [false, true, false]) := by kernel_rfl
theorem wake24_A3 : caesuralaw19_One.f 0 = some (2, [[1, 2], [2, 2], [2, 2]], [false, true, false]) := by kernel_rfl
theorem wake24_B2 : caesuralaw19_One.f 1 = some (2, [[2, 1], [2, 2], [2, 2]], [false, true, false]) := by kernel_rfl
theorem wake24_S : product_Some.f 60 2 [[1, 2], [2, 2], [2, 2]] [false, true, false] 2 [[2, 1], [2, 2], [2, 2]] [false, true, false] 100 = some (2, [[1, 2], [3, 3], [3, 3], [3, 3]], [false, true, true, false], 0) := by kernel_rfl
theorem wake24_D : product_Less.f 60 2 [[1, 2], [3, 3], [3, 3], [3, 3]] [false, true, true, false] 2 [[1, 2], [2, 2], [2, 2]] [false, true, false] 100 = some (2, [[1, 2], [3, 3], [3, 3], [3, 3]], [false, false, true, false], 0) := by kernel_rfl
theorem wake24_C : product_Both.f 60 2 [[1, 2], [3, 3], [3, 3], [3, 3]] [false, true, true, false] 2 [[1, 2], [3, 3], [3, 3], [3, 3]] [false, false, true, false] 100 = some (2, [[1, 2], [3, 3], [3, 3], [3, 3]], [false, false, true, false], 0) := by kernel_rfl
theorem wake24_N : product_Not.f 60 2 [[1, 2], [2, 2], [2, 2]] [false, true, false] = some (2, [[1, 2], [2, 2], [2, 2]], [true, false, true], true) := by kernel_rfl
theorem wake24_G : product_Both.f 60 2 [[1, 2], [3, 3], [3, 3], [3, 3]] [false, true, true, false] 2 [[1, 2], [3, 3], [3, 3], [3, 3]] [false, false, true, false] 1 = some (0, [], [], 14) := by kernel_rfl
theorem wake24_E : product_Both.f 60 2 [[1, 2], [3, 3], [3, 3], [3, 3]] [false, true, true, false] 0 [] [] 100 = some (0, [], [], 1) := by kernel_rfl
theorem wake24_T0 : subset_Takes.f 60 2 [[1, 2], [3, 3], [3, 3], [3, 3]] [false, true, true, false] [0] = some true := by kernel_rfl
theorem wake24_T1 : subset_Takes.f 60 2 [[1, 2], [3, 3], [3, 3], [3, 3]] [false, true, true, false] [1] = some true := by kernel_rfl
theorem wake24_L1 : number_Alike.f 60 2 [[1, 2], [3, 3], [3, 3], [3, 3]] [false, false, true, false] 2 [[2, 1], [2, 2], [2, 2]] [false, true, false] = some true := by kernel_rfl
theorem wake24_L2 : number_Alike.f 60 2 [[1, 2], [3, 3], [3, 3], [3, 3]] [false, false, true, false] 2 [[1, 2], [3, 3], [3, 3], [3, 3]] [false, false, true, false] = some true := by kernel_rfl
theorem wake24_T2 : subset_Takes.f 60 2 [[1, 2], [2, 2], [2, 2]] [true, false, true] [] = some true := by kernel_rfl
theorem wake24_T3 : subset_Takes.f 60 2 [[1, 2], [2, 2], [2, 2]] [true, false, true] [0] = some false := by kernel_rfl
def wakes24.T7 : Bool × List (List Nat × List Nat) := (true, [([], []), ([0], [0]), ([1], [1]), ([2], [2]), ([2], [2]), ([3, 4, 2, 2], [2, 3, 4]), ([2, 5], [2, 5]), ([6, 5], [6]), ([7], [7]), ([7], [7]), ([8, 9, 7, 7], [7, 8, 9]), ([7, 10], [7, 10]), ([11, 10], [11]), ([12], [12]), ([13, 12], [12, 13]), ([12, 14], [12, 14]), ([15, 12], [15]), ([16], [16]), ([16, 16], [16]), ([17, 18, 18, 16], [16, 17, 18]), ([16, 19], [16, 19]), ([20, 19], [20]), ([21], [21]), ([22, 21], [21, 22]), ([21, 23], [21, 23]), ([24, 21], [24]), ([25], [25]), ([25], [25]), ([26, 27, 25, 25], [25, 26, 27]), ([25, 28], [25, 28]), ([29, 28], [29]), ([30], [30]), ([30, 31], [30, 31]), ([32, 30], [32]), ([33], [33]), ([34, 33, 33], [33, 34]), ([33, 35], [33, 35]), ([36, 35], [36]), ([37], [37]), ([37], [37]), ([38, 39, 37, 37], [37, 38, 39]), ([40, 37], [37, 40]), ([37, 41], [37, 41]), ([42, 40], [42]), ([43], [43]), ([44, 43], [43, 44]), ([43, 45], [43, 45]), ([46, 43], [46]), ([47], [47]), ([48, 47], [47, 48]), ([47, 49], [47, 49]), ([50, 47, 0, 1, 2, 3, 4, 5, 6, 7, 8, 9, 10, 11, 12, 13, 14, 15, 16, 17, 18, 19, 20, 21, 22, 23, 24, 25, 26, 27, 28, 29, 30, 31, 32, 33, 34, 35, 36, 37, 38, 39, 40, 41, 42, 43, 44, 45, 46, 47, 48, 49, 50], [50])])
def wakes24.B7 : List Nat := [0, 1, 3, 7, 7, 31, 63, 127, 255, 255, 1023, 2047, 4095, 8191, 16383, 32767, 65535, 131071, 131071, 524287, 1048575, 2097151, 4194303, 8388607, 16777215, 33554431, 67108863, 67108863, 268435455, 536870911, 1073741823, 2147483647, 4294967295, 8589934591, 17179869183, 34359738367, 68719476735, 137438953471, 274877906943, 274877906943, 1099511627775, 2199023255551, 4398046511103, 8796093022207, 17592186044415, 35184372088831, 70368744177663, 140737488355327, 281474976710655, 562949953421311, 1125899906842623, 2251799813685247]
theorem wakes24.tab7 : rtab .any (opsOf Try.f73 7) = wakes24.T7 := by kernel_rfl
theorem wakes24.bits7 : waitsOk wakes24.T7.2 wakes24.B7 = true := by kernel_rfl
set_option maxHeartbeats 8000000 in
set_option maxRecDepth 100000 in
theorem caesuralaw24_wakes.calls (k : Nat) (r : Bool) (w : World) (h : caesuralaw24_wakes.f k = some r) :
  Calls Try.prog 73 #[] w fun e w' => e = .returned (.bool r) ∧ Below w.heap.size w w' := by
 obtain rfl : true = r := Option.some.inj h
 clear h
 have hu25 := Try.underlying25
 have hu45 := Try.underlying45
 have hu22 := Try.underlying22
 have hu23 := Try.underlying23
 have ZA := Q0.mk wake24_A
 have ZB := Q0.mk wake24_B
 have ZA2 := Q0.mk wake24_A2
 have ZA3 := Q0.mk wake24_A3
 have ZB2 := Q0.mk wake24_B2
 have ZS := Q0.mk wake24_S
 have ZD := Q0.mk wake24_D
 have ZC := Q0.mk wake24_C
 have ZN := Q0.mk wake24_N
 have ZG := Q0.mk wake24_G
 have ZE := Q0.mk wake24_E
 have ZT0 := Q0.mk wake24_T0
 have ZT1 := Q0.mk wake24_T1
 have ZL1 := Q0.mk wake24_L1
 have ZL2 := Q0.mk wake24_L2
 have ZT2 := Q0.mk wake24_T2
 have ZT3 := Q0.mk wake24_T3
 go_enter Try.func73, Try.ntmps73
 go_wp2_with (first | (go_at_call 80; have hF_ := ZA.out; clear ZA; refine (caesuralaw19_One.calls 0   2 [[1, 2], [2, 2], [2, 2]] [false, true, false] _   hF_).mono ?_; clear hF_; rintro e w1_ ⟨u_, v_, rfl, hS_, hR_, hb_⟩; obtain ⟨A3_, c4_, rfl⟩ := Kd.S_slice hS_; obtain ⟨A5_, c6_, rfl⟩ := Kd.R_slice hR_; have K7_ := Q0.mk (Kd.R_reads' (Kd.S_R hS_)).2.2; have L8_ := Q0.mk (Kd.R_reads' (Kd.S_R hS_)).2.1; have K9_ := Q0.mk (Kd.R_reads' hR_).2.2; have L10_ := Q0.mk (Kd.R_reads' hR_).2.1; clear hS_ hR_; have S2_ := Q0.mk hb_; clear hb_) | (go_at_call 80; have hF_ := ZB.out; clear ZB; refine (caesuralaw19_One.calls 1   2 [[2, 1], [2, 2], [2, 2]] [false, true, false] _   hF_).mono ?_; clear hF_; rintro e w11_ ⟨u_, v_, rfl, hS_, hR_, hb_⟩; obtain ⟨A13_, c14_, rfl⟩ := Kd.S_slice hS_; obtain ⟨A15_, c16_, rfl⟩ := Kd.R_slice hR_; have K17_ := Q0.mk (Kd.R_reads' (Kd.S_R hS_)).2.2; have L18_ := Q0.mk (Kd.R_reads' (Kd.S_R hS_)).2.1; have K19_ := Q0.mk (Kd.R_reads' hR_).2.2; have L20_ := Q0.mk (Kd.R_reads' hR_).2.1; clear hS_ hR_; have S12_ := Q0.mk hb_; clear hb_) | (go_at_call 75; have hF_ := ZS.out; clear ZS; refine (product_Some.calls 60  2 A3_ c4_ [[1, 2], [2, 2], [2, 2]] A5_ c6_ [false, true, false] 2 A13_ c14_ [[2, 1], [2, 2], [2, 2]] A15_ c16_ [false, true, false] 100 2 [[1, 2], [3, 3], [3, 3], [3, 3]] [false, true, true, false] 0 _ (Kd.C_below (K7_.out) (S12_.out)) L8_.out (Kd.C_below (K9_.out) (S12_.out)) L10_.out (Kd.C_below (K17_.out) (Below.refl _ _)) L18_.out (Kd.C_below (K19_.out) (Below.refl _ _)) L20_.out  hF_).mono ?_; clear hF_; rintro e w21_ ⟨u_, v_, rfl, hS_, hR_, hb_⟩; obtain ⟨A23_, c24_, rfl⟩ := Kd.S_slice hS_; obtain ⟨A25_, c26_, rfl⟩ := Kd.R_slice hR_; have K27_ := Q0.mk (Kd.R_reads' (Kd.S_R hS_)).2.2; have L28_ := Q0.mk (Kd.R_reads' (Kd.S_R hS_)).2.1; have K29_ := Q0.mk (Kd.R_reads' hR_).2.2; have L30_ := Q0.mk (Kd.R_reads' hR_).2.1; clear hS_ hR_; have S22_ := Q0.mk hb_; clear hb_))
 obtain ⟨w31_, hx_⟩ : ∃ x, x = (w21_.alloc (.cells #[.int .i64 2, .slice A23_ 4 c24_, .slice A25_ 4 c26_] 25)) := ⟨_, rfl⟩
 have S32_ : Q0 (Below w21_.heap.size w21_ w31_) := ⟨by rw [hx_]; exact ba (Below.refl _ _) (.cells #[.int .i64 2, .slice A23_ 4 c24_, .slice A25_ 4 c26_] 25)⟩
 have K33_ : Q0 (w31_.heap[w21_.heap.size]? = some (.cells #[.int .i64 2, .slice A23_ 4 c24_, .slice A25_ 4 c26_] 25 (0, 0))) := ⟨by rw [hx_]; exact new_at _ (by simp)⟩
 rw [← hx_]
 clear hx_
 have HH := Q0.mk (Hold.refl w31_).drew
 rename_i hKK_
 refine any_order 9 (fun A0 d a' w' => ∃ (t20 t21 t22 t19 t23 t24 t3 t4 : Value) (P1a : Option Addr) (p1a : Nat) (P1b : Option Addr) (p1b : Nat) (P2a : Option Addr) (p2a : Nat) (P2b : Option Addr) (p2b : Nat) (g6 : Nat), a' = putAll A0 [(20, t20), (21, t21), (22, t22), (19, t19), (23, t23), (24, t24), (3, t3), (4, t4)] ∧ Q0 ((d 0 = true → t20 = .agg #[.int .i64 2, .slice A23_ 4 c24_, .slice A25_ 4 c26_]) ∧ (d 1 = true → t21 = .agg #[.int .i64 2, .slice P1a 3 p1a, .slice P1b 3 p1b]) ∧ (d 2 = true → t22 = .tuple #[.agg #[.int .i64 2, .slice P2a 4 p2a, .slice P2b 4 p2b], .int .i64 0]) ∧ (d 3 = true → t19 = .tuple #[.agg #[.int .i64 2, .slice P2a 4 p2a, .slice P2b 4 p2b], .int .i64 0]) ∧ (d 4 = true → t23 = .agg #[.int .i64 2, .slice P2a 4 p2a, .slice P2b 4 p2b]) ∧ (d 5 = true → t24 = .int .i64 0) ∧ (d 6 = true → t3 = .pointer (some ⟨g6, 0, none⟩)) ∧ (d 8 = true → t4 = .int .i64 0)) ∧ Q0 (Hold w31_ w' (optl (d 6) (g6, sel (d 7) (#[.int .i64 0, .slice none 0 0, .slice none 0 0]) (#[.int .i64 2, .slice P2a 4 p2a, .slice P2b 4 p2b]), 25) ++ []) ([]) (optl (d 2) (.slice P2a 4 p2a, [[1, 2], [3, 3], [3, 3], [3, 3]]) ++ (optl (d 1) (.slice P1a 3 p1a, [[1, 2], [2, 2], [2, 2]]) ++ [])) (optl (d 2) (.slice P2b 4 p2b, [false, false, true, false]) ++ (optl (d 1) (.slice P1b 3 p1b, [false, true, false]) ++ [])))) rfl rfl (by kernel_rfl) ?_ ?_ ?_
 ·exact ⟨_, _, _, _, _, _, _, _, none, 0, none, 0, none, 0, none, 0, 0, by first | (simp only [putAll, Act.put, sA, sB, sC]; done) | (simp only [putAll, Act.put, sA, sB, sC]; rfl), ⟨none0 (i := 0), none0 (i := 1), none0 (i := 2), none0 (i := 3), none0 (i := 4), none0 (i := 5), none0 (i := 6), none0 (i := 8)⟩, ⟨HH.out⟩⟩
 ·intro Q'
  clear hKK_
  refine ⟨?_, ?_, ?_, ?_, ?_, ?_, ?_, ?_, ?_, trivial⟩
  ·intro d a' w'
   refine ei fun t20 => ei fun t21 => ei fun t22 => ei fun t19 => ei fun t23 => ei fun t24 => ei fun t3 => ei fun t4 => ei fun P1a => ei fun p1a => ei fun P1b => ei fun p1b => ei fun P2a => ei fun p2a => ei fun P2b => ei fun p2b => ei fun g6 => fun hI hd hcl hdep K hK => ?_
   have ha := hI.1
   have hF := hI.2.1
   have hH := hI.2.2
   clear hI
   have h_ := hH.out
   refine norm_if (a' := ?_) (ha.trans ?_) ?_
   rotate_left
   ·simp only [putAll, Act.put, sA, sB, sC]
    rfl
   have c0_ : w'.cell? ⟨w21_.heap.size, 0, none⟩ = some (.int .i64 2) := (bcz (bb K33_.out (h_.low)) 0).trans rfl
   have c1_ : w'.cell? ⟨w21_.heap.size, 1, none⟩ = some (.slice A23_ 4 c24_) := (bcz (bb K33_.out (h_.low)) 1).trans rfl
   have c2_ : w'.cell? ⟨w21_.heap.size, 2, none⟩ = some (.slice A25_ 4 c26_) := (bcz (bb K33_.out (h_.low)) 2).trans rfl
   refine value_ (w1 := ?_) (v := ?_) (by rfl) rfl ?_ ?_
   rotate_left 2
   ·go_simp
    constructor
    ·rfl
    ·rfl
   refine hK _ _ ⟨_, _, _, _, _, _, _, _, P1a, p1a, P1b, p1b, P2a, p2a, P2b, p2b, g6, by first | (simp only [putAll, Act.put, sA, sB, sC]; done) | (simp only [putAll, Act.put, sA, sB, sC]; rfl) | rfl, ⟨(fun _ => rfl), (kept 0 hF.out.2.1 rfl), (kept 0 hF.out.2.2.1 rfl), (kept 0 hF.out.2.2.2.1 rfl), (kept 0 hF.out.2.2.2.2.1 rfl), (kept 0 hF.out.2.2.2.2.2.1 rfl), (kept 0 hF.out.2.2.2.2.2.2.1 rfl), (kept 0 hF.out.2.2.2.2.2.2.2 rfl)⟩, ⟨?_⟩⟩
   exact hH.out
  ·intro d a' w'
   refine ei fun t20 => ei fun t21 => ei fun t22 => ei fun t19 => ei fun t23 => ei fun t24 => ei fun t3 => ei fun t4 => ei fun P1a => ei fun p1a => ei fun P1b => ei fun p1b => ei fun P2a => ei fun p2a => ei fun P2b => ei fun p2b => ei fun g6 => fun hI hd hcl hdep K hK => ?_
   have ha := hI.1
   have hF := hI.2.1
   have hH := hI.2.2
   clear hI
   have n2 := not_yet hcl 2 1 rfl rfl hd
   have h_ := hH.out
   simp only [hd, n2, optl, sel, cond_true, cond_false, List.nil_append, List.cons_append] at h_
   refine norm_if (a' := ?_) (ha.trans ?_) ?_
   rotate_left
   ·simp only [putAll, Act.put, sA, sB, sC]
    rfl
   refine goes_ Try.func80 (by kernel_rfl) rfl #[.int .i64 0] (by rfl) rfl rfl (by simp only [List.map_toArray, List.map_cons, List.map_nil]; rfl) ?_
   refine (caesuralaw19_One.calls 0   2 [[1, 2], [2, 2], [2, 2]] [false, true, false] w'  ZA2.out).mono ?_
   rintro e wm ⟨v1_, v2_, rfl, hS_, hR_, hb_⟩
   obtain ⟨Q1_, q1_, rfl⟩ := Kd.S_slice hS_
   obtain ⟨Q2_, q2_, rfl⟩ := Kd.R_slice hR_
   refine ⟨_, rfl, ?_⟩
   refine hK _ _ ⟨_, _, _, _, _, _, _, _, Q1_, q1_, Q2_, q2_, P2a, p2a, P2b, p2b, g6, by first | (simp only [putAll, Act.put, sA, sB, sC]; done) | (simp only [putAll, Act.put, sA, sB, sC]; rfl) | rfl, ⟨(kept 1 hF.out.1 rfl), (fun _ => rfl), (kept 1 hF.out.2.2.1 rfl), (kept 1 hF.out.2.2.2.1 rfl), (kept 1 hF.out.2.2.2.2.1 rfl), (kept 1 hF.out.2.2.2.2.2.1 rfl), (kept 1 hF.out.2.2.2.2.2.2.1 rfl), (kept 1 hF.out.2.2.2.2.2.2.2 rfl)⟩, ⟨?_⟩⟩
   rw [show also d 1 2 = false from n2]
   exact h_.aut hS_ hR_ hb_
  ·intro d a' w'
   refine ei fun t20 => ei fun t21 => ei fun t22 => ei fun t19 => ei fun t23 => ei fun t24 => ei fun t3 => ei fun t4 => ei fun P1a => ei fun p1a => ei fun P1b => ei fun p1b => ei fun P2a => ei fun p2a => ei fun P2b => ei fun p2b => ei fun g6 => fun hI hd hcl hdep K hK => ?_
   have ha := hI.1
   have hF := hI.2.1
   have hH := hI.2.2
   clear hI
   have e0 := has_run hdep 0 rfl
   obtain rfl := hF.out.1 e0
   have e1 := has_run hdep 1 rfl
   obtain rfl := hF.out.2.1 e1
   have n3 := not_yet hcl 3 2 rfl rfl hd
   have n4 := not_yet hcl 4 3 rfl rfl n3
   have n7 := not_yet hcl 7 4 rfl rfl n4
   have h_ := hH.out
   simp only [hd, e1, n3, n4, n7, optl, sel, cond_true, cond_false, List.nil_append, List.cons_append] at h_
   refine norm_if (a' := ?_) (ha.trans ?_) ?_
   rotate_left
   ·simp only [putAll, Act.put, sA, sB, sC]
    rfl
   refine goes_ Try.func76 (by kernel_rfl) rfl #[.agg #[.int .i64 2, .slice A23_ 4 c24_, .slice A25_ 4 c26_], .agg #[.int .i64 2, .slice P1a 3 p1a, .slice P1b 3 p1b], .int .i64 100] (by rfl) rfl rfl (by simp only [List.map_toArray, List.map_cons, List.map_nil]; rfl) ?_
   refine (product_Less.calls 60  2 A23_ c24_ [[1, 2], [3, 3], [3, 3], [3, 3]] A25_ c26_ [false, true, true, false] 2 P1a p1a [[1, 2], [2, 2], [2, 2]] P1b p1b [false, true, false] 100 2 [[1, 2], [3, 3], [3, 3], [3, 3]] [false, false, true, false] 0 w' (Kd.C_below (K27_.out) (bsz (S32_.out) (h_.low))) L28_.out (Kd.C_below (K29_.out) (bsz (S32_.out) (h_.low))) L30_.out (h_.C_rows (A := P1a) (c := p1a) (n := 3) (L := [[1, 2], [2, 2], [2, 2]]) (by simp)).2.2 (h_.C_rows (A := P1a) (c := p1a) (n := 3) (L := [[1, 2], [2, 2], [2, 2]]) (by simp)).2.1 (h_.C_ends (A := P1b) (c := p1b) (n := 3) (L := [false, true, false]) (by simp)).2.2 (h_.C_ends (A := P1b) (c := p1b) (n := 3) (L := [false, true, false]) (by simp)).2.1 ZD.out).mono ?_
   rintro e wm ⟨v1_, v2_, rfl, hS_, hR_, hb_⟩
   obtain ⟨Q1_, q1_, rfl⟩ := Kd.S_slice hS_
   obtain ⟨Q2_, q2_, rfl⟩ := Kd.R_slice hR_
   refine ⟨_, rfl, ?_⟩
   refine hK _ _ ⟨_, _, _, _, _, _, _, _, P1a, p1a, P1b, p1b, Q1_, q1_, Q2_, q2_, g6, by first | (simp only [putAll, Act.put, sA, sB, sC]; done) | (simp only [putAll, Act.put, sA, sB, sC]; rfl) | rfl, ⟨(kept 2 hF.out.1 rfl), (kept 2 hF.out.2.1 rfl), (fun _ => rfl), (fun h_ => by rw [also_ne d (by decide), n3] at h_; cases h_), (fun h_ => by rw [also_ne d (by decide), n4] at h_; cases h_), (kept 2 hF.out.2.2.2.2.2.1 rfl), (kept 2 hF.out.2.2.2.2.2.2.1 rfl), (kept 2 hF.out.2.2.2.2.2.2.2 rfl)⟩, ⟨?_⟩⟩
   rw [show also d 2 1 = true from e1, show also d 2 7 = false from n7]
   exact h_.aut hS_ hR_ hb_
  ·intro d a' w'
   refine ei fun t20 => ei fun t21 => ei fun t22 => ei fun t19 => ei fun t23 => ei fun t24 => ei fun t3 => ei fun t4 => ei fun P1a => ei fun p1a => ei fun P1b => ei fun p1b => ei fun P2a => ei fun p2a => ei fun P2b => ei fun p2b => ei fun g6 => fun hI hd hcl hdep K hK => ?_
   have ha := hI.1
   have hF := hI.2.1
   have hH := hI.2.2
   clear hI
   have e2 := has_run hdep 2 rfl
   obtain rfl := hF.out.2.2.1 e2
   have h_ := hH.out
   refine norm_if (a' := ?_) (ha.trans ?_) ?_
   rotate_left
   ·simp only [putAll, Act.put, sA, sB, sC]
    rfl
   refine value_ (w1 := ?_) (v := ?_) (by rfl) rfl ?_ ?_
   rotate_left 2
   ·go_simp
    constructor
    ·rfl
    ·rfl
   refine hK _ _ ⟨_, _, _, _, _, _, _, _, P1a, p1a, P1b, p1b, P2a, p2a, P2b, p2b, g6, by first | (simp only [putAll, Act.put, sA, sB, sC]; done) | (simp only [putAll, Act.put, sA, sB, sC]; rfl) | rfl, ⟨(kept 3 hF.out.1 rfl), (kept 3 hF.out.2.1 rfl), (kept 3 hF.out.2.2.1 rfl), (fun _ => rfl), (kept 3 hF.out.2.2.2.2.1 rfl), (kept 3 hF.out.2.2.2.2.2.1 rfl), (kept 3 hF.out.2.2.2.2.2.2.1 rfl), (kept 3 hF.out.2.2.2.2.2.2.2 rfl)⟩, ⟨?_⟩⟩
   exact hH.out
  ·intro d a' w'
   refine ei fun t20 => ei fun t21 => ei fun t22 => ei fun t19 => ei fun t23 => ei fun t24 => ei fun t3 => ei fun t4 => ei fun P1a => ei fun p1a => ei fun P1b => ei fun p1b => ei fun P2a => ei fun p2a => ei fun P2b => ei fun p2b => ei fun g6 => fun hI hd hcl hdep K hK => ?_
   have ha := hI.1
   have hF := hI.2.1
   have hH := hI.2.2
   clear hI
   have e3 := has_run hdep 3 rfl
   obtain rfl := hF.out.2.2.2.1 e3
   have h_ := hH.out
   refine norm_if (a' := ?_) (ha.trans ?_) ?_
   rotate_left
   ·simp only [putAll, Act.put, sA, sB, sC]
    rfl
   refine value_ (w1 := ?_) (v := ?_) (by rfl) rfl ?_ ?_
   rotate_left 2
   ·go_simp
    constructor
    ·rfl
    ·rfl
   refine hK _ _ ⟨_, _, _, _, _, _, _, _, P1a, p1a, P1b, p1b, P2a, p2a, P2b, p2b, g6, by first | (simp only [putAll, Act.put, sA, sB, sC]; done) | (simp only [putAll, Act.put, sA, sB, sC]; rfl) | rfl, ⟨(kept 4 hF.out.1 rfl), (kept 4 hF.out.2.1 rfl), (kept 4 hF.out.2.2.1 rfl), (kept 4 hF.out.2.2.2.1 rfl), (fun _ => rfl), (kept 4 hF.out.2.2.2.2.2.1 rfl), (kept 4 hF.out.2.2.2.2.2.2.1 rfl), (kept 4 hF.out.2.2.2.2.2.2.2 rfl)⟩, ⟨?_⟩⟩
   exact hH.out
  ·intro d a' w'
   refine ei fun t20 => ei fun t21 => ei fun t22 => ei fun t19 => ei fun t23 => ei fun t24 => ei fun t3 => ei fun t4 => ei fun P1a => ei fun p1a => ei fun P1b => ei fun p1b => ei fun P2a => ei fun p2a => ei fun P2b => ei fun p2b => ei fun g6 => fun hI hd hcl hdep K hK => ?_
   have ha := hI.1
   have hF := hI.2.1
   have hH := hI.2.2
   clear hI
   have e3 := has_run hdep 3 rfl
   obtain rfl := hF.out.2.2.2.1 e3
   have h_ := hH.out
   refine norm_if (a' := ?_) (ha.trans ?_) ?_
   rotate_left
   ·simp only [putAll, Act.put, sA, sB, sC]
    rfl
   refine value_ (w1 := ?_) (v := ?_) (by rfl) rfl ?_ ?_
   rotate_left 2
   ·go_simp
    constructor
    ·rfl
    ·rfl
   refine hK _ _ ⟨_, _, _, _, _, _, _, _, P1a, p1a, P1b, p1b, P2a, p2a, P2b, p2b, g6, by first | (simp only [putAll, Act.put, sA, sB, sC]; done) | (simp only [putAll, Act.put, sA, sB, sC]; rfl) | rfl, ⟨(kept 5 hF.out.1 rfl), (kept 5 hF.out.2.1 rfl), (kept 5 hF.out.2.2.1 rfl), (kept 5 hF.out.2.2.2.1 rfl), (kept 5 hF.out.2.2.2.2.1 rfl), (fun _ => rfl), (kept 5 hF.out.2.2.2.2.2.2.1 rfl), (kept 5 hF.out.2.2.2.2.2.2.2 rfl)⟩, ⟨?_⟩⟩
   exact hH.out
  ·intro d a' w'
   refine ei fun t20 => ei fun t21 => ei fun t22 => ei fun t19 => ei fun t23 => ei fun t24 => ei fun t3 => ei fun t4 => ei fun P1a => ei fun p1a => ei fun P1b => ei fun p1b => ei fun P2a => ei fun p2a => ei fun P2b => ei fun p2b => ei fun g6 => fun hI hd hcl hdep K hK => ?_
   have ha := hI.1
   have hF := hI.2.1
   have hH := hI.2.2
   clear hI
   have n7 := not_yet hcl 7 6 rfl rfl hd
   have h_ := hH.out
   simp only [hd, n7, optl, sel, cond_true, cond_false, List.nil_append, List.cons_append] at h_
   refine norm_if (a' := ?_) (ha.trans ?_) ?_
   rotate_left
   ·simp only [putAll, Act.put, sA, sB, sC]
    rfl
   refine value_ (w1 := ?_) (v := ?_) (by rfl) rfl ?_ ?_
   rotate_left 2
   ·go_simp
    constructor
    ·rfl
    ·rfl
   refine hK _ _ ⟨_, _, _, _, _, _, _, _, P1a, p1a, P1b, p1b, P2a, p2a, P2b, p2b, w'.heap.size, by first | (simp only [putAll, Act.put, sA, sB, sC]; done) | (simp only [putAll, Act.put, sA, sB, sC]; rfl) | rfl, ⟨(kept 6 hF.out.1 rfl), (kept 6 hF.out.2.1 rfl), (kept 6 hF.out.2.2.1 rfl), (kept 6 hF.out.2.2.2.1 rfl), (kept 6 hF.out.2.2.2.2.1 rfl), (kept 6 hF.out.2.2.2.2.2.1 rfl), (fun _ => rfl), (kept 6 hF.out.2.2.2.2.2.2.2 rfl)⟩, ⟨?_⟩⟩
   rw [show also d 6 7 = false from n7]
   exact Hold.alloc (b1 := []) h_ #[.int .i64 0, .slice none 0 0, .slice none 0 0] 25
  ·intro d a' w'
   refine ei fun t20 => ei fun t21 => ei fun t22 => ei fun t19 => ei fun t23 => ei fun t24 => ei fun t3 => ei fun t4 => ei fun P1a => ei fun p1a => ei fun P1b => ei fun p1b => ei fun P2a => ei fun p2a => ei fun P2b => ei fun p2b => ei fun g6 => fun hI hd hcl hdep K hK => ?_
   have ha := hI.1
   have hF := hI.2.1
   have hH := hI.2.2
   clear hI
   have e4 := has_run hdep 4 rfl
   obtain rfl := hF.out.2.2.2.2.1 e4
   have e6 := has_run hdep 6 rfl
   obtain rfl := hF.out.2.2.2.2.2.2.1 e6
   have h_ := hH.out
   simp only [hd, e6, optl, sel, cond_true, cond_false, List.nil_append, List.cons_append] at h_
   refine norm_if (a' := ?_) (ha.trans ?_) ?_
   rotate_left
   ·simp only [putAll, Act.put, sA, sB, sC]
    rfl
   have hb_ := h_.blks (g6, #[.int .i64 0, .slice none 0 0, .slice none 0 0], 25) (by simp)
   have hc0_ : w'.cell? ⟨g6, 0, none⟩ = some (.int .i64 0) := (bcz hb_ 0).trans rfl
   have hf0_ := bf hb_ 0
   have hc1_ : w'.cell? ⟨g6, 1, none⟩ = some (.slice none 0 0) := (bcz hb_ 1).trans rfl
   have hf1_ := bf hb_ 1
   have hc2_ : w'.cell? ⟨g6, 2, none⟩ = some (.slice none 0 0) := (bcz hb_ 2).trans rfl
   have hf2_ := bf hb_ 2
   clear hb_
   refine skip_ (w1 := ?_) (by rfl) rfl ?_ ?_
   rotate_left
   ·go_simp
    rfl
   refine hK _ _ ⟨_, _, _, _, _, _, _, _, P1a, p1a, P1b, p1b, P2a, p2a, P2b, p2b, g6, by first | (simp only [putAll, Act.put, sA, sB, sC]; done) | (simp only [putAll, Act.put, sA, sB, sC]; rfl) | rfl, ⟨(kept 7 hF.out.1 rfl), (kept 7 hF.out.2.1 rfl), (kept 7 hF.out.2.2.1 rfl), (kept 7 hF.out.2.2.2.1 rfl), (kept 7 hF.out.2.2.2.2.1 rfl), (kept 7 hF.out.2.2.2.2.2.1 rfl), (kept 7 hF.out.2.2.2.2.2.2.1 rfl), (kept 7 hF.out.2.2.2.2.2.2.2 rfl)⟩, ⟨?_⟩⟩
   rw [show also d 7 6 = true from e6]
   exact (Hold.put (b1 := []) (b2 := []) (Hold.put (b1 := []) (b2 := []) (Hold.put (b1 := []) (b2 := []) h_ 0 (.int .i64 2) own25 rfl) 1 (.slice P2a 4 p2a) own25 rfl) 2 (.slice P2b 4 p2b) own25 rfl)
  ·intro d a' w'
   refine ei fun t20 => ei fun t21 => ei fun t22 => ei fun t19 => ei fun t23 => ei fun t24 => ei fun t3 => ei fun t4 => ei fun P1a => ei fun p1a => ei fun P1b => ei fun p1b => ei fun P2a => ei fun p2a => ei fun P2b => ei fun p2b => ei fun g6 => fun hI hd hcl hdep K hK => ?_
   have ha := hI.1
   have hF := hI.2.1
   have hH := hI.2.2
   clear hI
   have e5 := has_run hdep 5 rfl
   obtain rfl := hF.out.2.2.2.2.2.1 e5
   have h_ := hH.out
   refine norm_if (a' := ?_) (ha.trans ?_) ?_
   rotate_left
   ·simp only [putAll, Act.put, sA, sB, sC]
    rfl
   refine value_ (w1 := ?_) (v := ?_) (by rfl) rfl ?_ ?_
   rotate_left 2
   ·go_simp
    constructor
    ·rfl
    ·rfl
   refine hK _ _ ⟨_, _, _, _, _, _, _, _, P1a, p1a, P1b, p1b, P2a, p2a, P2b, p2b, g6, by first | (simp only [putAll, Act.put, sA, sB, sC]; done) | (simp only [putAll, Act.put, sA, sB, sC]; rfl) | rfl, ⟨(kept 8 hF.out.1 rfl), (kept 8 hF.out.2.1 rfl), (kept 8 hF.out.2.2.1 rfl), (kept 8 hF.out.2.2.2.1 rfl), (kept 8 hF.out.2.2.2.2.1 rfl), (kept 8 hF.out.2.2.2.2.2.1 rfl), (kept 8 hF.out.2.2.2.2.2.2.1 rfl), (fun _ => rfl)⟩, ⟨?_⟩⟩
   exact hH.out
 intro d a' wr2
 refine ei fun t20 => ei fun t21 => ei fun t22 => ei fun t19 => ei fun t23 => ei fun t24 => ei fun t3 => ei fun t4 => ei fun P1a => ei fun p1a => ei fun P1b => ei fun p1b => ei fun P2a => ei fun p2a => ei fun P2b => ei fun p2b => ei fun g6 => fun hI hall => ?_
 have ha := hI.1
 have hF := hI.2.1
 have hH := hI.2.2
 clear hI
 have e0 := hall 0 (by decide)
 have e1 := hall 1 (by decide)
 have e2 := hall 2 (by decide)
 have e3 := hall 3 (by decide)
 have e4 := hall 4 (by decide)
 have e5 := hall 5 (by decide)
 have e6 := hall 6 (by decide)
 have e7 := hall 7 (by decide)
 have e8 := hall 8 (by decide)
 obtain rfl := hF.out.1 e0
 obtain rfl := hF.out.2.1 e1
 obtain rfl := hF.out.2.2.1 e2
 obtain rfl := hF.out.2.2.2.1 e3
 obtain rfl := hF.out.2.2.2.2.1 e4
 obtain rfl := hF.out.2.2.2.2.2.1 e5
 obtain rfl := hF.out.2.2.2.2.2.2.1 e6
 obtain rfl := hF.out.2.2.2.2.2.2.2 e8
 subst ha
 have h_ := hH.out
 clear hH hF HH
 simp only [e0, e1, e2, e3, e4, e5, e6, e7, e8, optl, sel, cond_true, cond_false, List.nil_append, List.cons_append] at h_
 clear hall e0 e1 e2 e3 e4 e5 e6 e7 e8
 simp only [putAll, Act.put, sA, sB, sC]
 have S34_ := Q0.mk h_.low
 have K35_ := Q0.mk (h_.blks (g6, #[.int .i64 2, .slice P2a 4 p2a, .slice P2b 4 p2b], 25) (by simp))
 have K36_ := Q0.mk (h_.C_rows (A := P1a) (c := p1a) (n := 3) (L := [[1, 2], [2, 2], [2, 2]]) (by simp)).2
 have K37_ := Q0.mk (h_.C_ends (A := P1b) (c := p1b) (n := 3) (L := [false, true, false]) (by simp)).2
 have K38_ := Q0.mk (h_.C_rows (A := P2a) (c := p2a) (n := 4) (L := [[1, 2], [3, 3], [3, 3], [3, 3]]) (by simp)).2
 have K39_ := Q0.mk (h_.C_ends (A := P2b) (c := p2b) (n := 4) (L := [false, false, true, false]) (by simp)).2
 clear h_
 obtain ⟨c40_, c41_, c42_⟩ := cells3 (bb K33_.out (S34_.out))
 obtain ⟨c43_, c44_, c45_⟩ := cells3 (bb K35_.out (Below.refl _ _))
 go_wp2_with (first | (go_at_call 74; have hF_ := ZC.out; clear ZC; (try clear c40_ c41_ c42_ c43_ c44_ c45_); refine (product_Both.calls 60  2 A23_ c24_ [[1, 2], [3, 3], [3, 3], [3, 3]] A25_ c26_ [false, true, true, false] 2 P2a p2a [[1, 2], [3, 3], [3, 3], [3, 3]] P2b p2b [false, false, true, false] 100 2 [[1, 2], [3, 3], [3, 3], [3, 3]] [false, false, true, false] 0 _ (Kd.C_below (K27_.out) (bsz (S32_.out) S34_.out)) L28_.out (Kd.C_below (K29_.out) (bsz (S32_.out) S34_.out)) L30_.out (Kd.C_below (K38_.out.2) (Below.refl _ _)) K38_.out.1 (Kd.C_below (K39_.out.2) (Below.refl _ _)) K39_.out.1  hF_).mono ?_; clear hF_; rintro e w46_ ⟨u_, v_, rfl, hS_, hR_, hb_⟩; obtain ⟨A48_, c49_, rfl⟩ := Kd.S_slice hS_; obtain ⟨A50_, c51_, rfl⟩ := Kd.R_slice hR_; have K52_ := Q0.mk (Kd.R_reads' (Kd.S_R hS_)).2.2; have L53_ := Q0.mk (Kd.R_reads' (Kd.S_R hS_)).2.1; have K54_ := Q0.mk (Kd.R_reads' hR_).2.2; have L55_ := Q0.mk (Kd.R_reads' hR_).2.1; clear hS_ hR_; have S47_ := Q0.mk hb_; clear hb_) | (go_at_call 80; have hF_ := ZA3.out; clear ZA3; refine calls_new (v := w46_) (F := fun W => W.heap[w46_.heap.size]? = some (.cells #[.int .i64 2, .slice A48_ 4 c49_, .slice A50_ 4 c51_] 25 (0, 0))) (ba (Below.refl _ _) (.cells #[.int .i64 2, .slice A48_ 4 c49_, .slice A50_ 4 c51_] 25)) (new_at _ (by simp)) (fun w56_ b_ f_ => ?_); have S57_ := Q0.mk b_; have K58_ := Q0.mk f_; clear b_ f_; refine (caesuralaw19_One.calls 0   2 [[1, 2], [2, 2], [2, 2]] [false, true, false] _   hF_).mono ?_; clear hF_; rintro e w59_ ⟨u_, v_, rfl, hS_, hR_, hb_⟩; obtain ⟨A61_, c62_, rfl⟩ := Kd.S_slice hS_; obtain ⟨A63_, c64_, rfl⟩ := Kd.R_slice hR_; have K65_ := Q0.mk (Kd.R_reads' (Kd.S_R hS_)).2.2; have L66_ := Q0.mk (Kd.R_reads' (Kd.S_R hS_)).2.1; have K67_ := Q0.mk (Kd.R_reads' hR_).2.2; have L68_ := Q0.mk (Kd.R_reads' hR_).2.1; clear hS_ hR_; have S60_ := Q0.mk hb_; clear hb_) | (go_at_call 77; have hF_ := ZN.out; clear ZN; refine (product_Not.calls 60  2 A61_ c62_ [[1, 2], [2, 2], [2, 2]] A63_ c64_ [false, true, false]  2 [[1, 2], [2, 2], [2, 2]] [true, false, true] true _ (Kd.C_below (K65_.out) (Below.refl _ _)) L66_.out (Kd.C_below (K67_.out) (Below.refl _ _)) L68_.out  hF_).mono ?_; clear hF_; rintro e w69_ ⟨u_, v_, rfl, hS_, hR_, hb_⟩; obtain ⟨A71_, c72_, rfl⟩ := Kd.S_slice hS_; obtain ⟨A73_, c74_, rfl⟩ := Kd.R_slice hR_; have K75_ := Q0.mk (Kd.R_reads' (Kd.S_R hS_)).2.2; have L76_ := Q0.mk (Kd.R_reads' (Kd.S_R hS_)).2.1; have K77_ := Q0.mk (Kd.R_reads' hR_).2.2; have L78_ := Q0.mk (Kd.R_reads' hR_).2.1; clear hS_ hR_; have S70_ := Q0.mk hb_; clear hb_; obtain ⟨c79_, c80_, c81_⟩ := cells3 (bb K33_.out (bsz (bsz (bsz (bsz (bsz (S34_.out) S47_.out) S57_.out) S60_.out) S70_.out) (ba (Below.refl _ _) (.cells #[.int .i64 2, .slice A71_ 3 c72_, .slice A73_ 3 c74_] 25)))); obtain ⟨c82_, c83_, c84_⟩ := cells3 (bb K35_.out (bsz (bsz (bsz (bsz (S47_.out) S57_.out) S60_.out) S70_.out) (ba (Below.refl _ _) (.cells #[.int .i64 2, .slice A71_ 3 c72_, .slice A73_ 3 c74_] 25))))) | (go_at_call 74; have hF_ := ZG.out; clear ZG; (try clear c79_ c80_ c81_ c82_ c83_ c84_); refine calls_new (v := w69_) (F := fun W => W.heap[w69_.heap.size]? = some (.cells #[.int .i64 2, .slice A71_ 3 c72_, .slice A73_ 3 c74_] 25 (0, 0))) (ba (Below.refl _ _) (.cells #[.int .i64 2, .slice A71_ 3 c72_, .slice A73_ 3 c74_] 25)) (new_at _ (by simp)) (fun w85_ b_ f_ => ?_); have S86_ := Q0.mk b_; have K87_ := Q0.mk f_; clear b_ f_; refine (product_Both.calls 60  2 A23_ c24_ [[1, 2], [3, 3], [3, 3], [3, 3]] A25_ c26_ [false, true, true, false] 2 P2a p2a [[1, 2], [3, 3], [3, 3], [3, 3]] P2b p2b [false, false, true, false] 1 0 [] [] 14 _ (Kd.C_below (K27_.out) (bsz (bsz (bsz (bsz (bsz (bsz (S32_.out) S34_.out) S47_.out) S57_.out) S60_.out) S70_.out) S86_.out)) L28_.out (Kd.C_below (K29_.out) (bsz (bsz (bsz (bsz (bsz (bsz (S32_.out) S34_.out) S47_.out) S57_.out) S60_.out) S70_.out) S86_.out)) L30_.out (Kd.C_below (K38_.out.2) (bsz (bsz (bsz (bsz (S47_.out) S57_.out) S60_.out) S70_.out) S86_.out)) K38_.out.1 (Kd.C_below (K39_.out.2) (bsz (bsz (bsz (bsz (S47_.out) S57_.out) S60_.out) S70_.out) S86_.out)) K39_.out.1  hF_).mono ?_; clear hF_; rintro e w88_ ⟨u_, v_, rfl, hS_, hR_, hb_⟩; obtain ⟨A90_, c91_, rfl⟩ := Kd.S_slice hS_; obtain ⟨A92_, c93_, rfl⟩ := Kd.R_slice hR_; have K94_ := Q0.mk (Kd.R_reads' (Kd.S_R hS_)).2.2; have L95_ := Q0.mk (Kd.R_reads' (Kd.S_R hS_)).2.1; have K96_ := Q0.mk (Kd.R_reads' hR_).2.2; have L97_ := Q0.mk (Kd.R_reads' hR_).2.1; clear hS_ hR_; have S89_ := Q0.mk hb_; clear hb_; obtain ⟨c98_, c99_, c100_⟩ := cells3 (bb K33_.out (bsz (bsz (bsz (bsz (bsz (bsz (bsz (S34_.out) S47_.out) S57_.out) S60_.out) S70_.out) S86_.out) S89_.out) (ba (Below.refl _ _) (.cells #[.int .i64 0, .slice A90_ 0 c91_, .slice A92_ 0 c93_] 25))))) | (go_at_call 74; have hF_ := ZE.out; clear ZE; (try clear c98_ c99_ c100_); refine calls_new (v := w88_) (F := fun W => W.heap[w88_.heap.size]? = some (.cells #[.int .i64 0, .slice A90_ 0 c91_, .slice A92_ 0 c93_] 25 (0, 0))) (ba (Below.refl _ _) (.cells #[.int .i64 0, .slice A90_ 0 c91_, .slice A92_ 0 c93_] 25)) (new_at _ (by simp)) (fun w101_ b_ f_ => ?_); have S102_ := Q0.mk b_; have K103_ := Q0.mk f_; clear b_ f_; refine (product_Both.calls 60  2 A23_ c24_ [[1, 2], [3, 3], [3, 3], [3, 3]] A25_ c26_ [false, true, true, false] 0 none 0 [] none 0 [] 100 0 [] [] 1 _ (Kd.C_below (K27_.out) (bsz (bsz (bsz (bsz (bsz (bsz (bsz (bsz (S32_.out) S34_.out) S47_.out) S57_.out) S60_.out) S70_.out) S86_.out) S89_.out) S102_.out)) L28_.out (Kd.C_below (K29_.out) (bsz (bsz (bsz (bsz (bsz (bsz (bsz (bsz (S32_.out) S34_.out) S47_.out) S57_.out) S60_.out) S70_.out) S86_.out) S89_.out) S102_.out)) L30_.out (Kd.C_nil _ _) (by decide) (Kd.C_nil _ _) (by decide)  hF_).mono ?_; clear hF_; rintro e w104_ ⟨u_, v_, rfl, hS_, hR_, hb_⟩; obtain ⟨A106_, c107_, rfl⟩ := Kd.S_slice hS_; obtain ⟨A108_, c109_, rfl⟩ := Kd.R_slice hR_; have K110_ := Q0.mk (Kd.R_reads' (Kd.S_R hS_)).2.2; have L111_ := Q0.mk (Kd.R_reads' (Kd.S_R hS_)).2.1; have K112_ := Q0.mk (Kd.R_reads' hR_).2.2; have L113_ := Q0.mk (Kd.R_reads' hR_).2.1; clear hS_ hR_; have S105_ := Q0.mk hb_; clear hb_))
 obtain ⟨w114_, hx_⟩ : ∃ x, x = (w104_.alloc (.cells #[.int .i64 0, .slice A106_ 0 c107_, .slice A108_ 0 c109_] 25)) := ⟨_, rfl⟩
 have S115_ : Q0 (Below w104_.heap.size w104_ w114_) := ⟨by rw [hx_]; exact ba (Below.refl _ _) (.cells #[.int .i64 0, .slice A106_ 0 c107_, .slice A108_ 0 c109_] 25)⟩
 have K116_ : Q0 (w114_.heap[w104_.heap.size]? = some (.cells #[.int .i64 0, .slice A106_ 0 c107_, .slice A108_ 0 c109_] 25 (0, 0))) := ⟨by rw [hx_]; exact new_at _ (by simp)⟩
 rw [← hx_]
 clear hx_
 refine start_ (n := 52) (S := fun w' => Below w114_.heap.size w114_ w') (ds := []) #[false, false, false, false, false, false, false, false, false, false, false, false, false, false, false, false, false, false, false, false, false, false, false, false, false, false, false, false, false, false, false, false, false, false, false, false, false, false, false, false, false, false, false, false, false, false, false, false, false, false, false, false] (by kernel_rfl) rfl rfl (bD (Below.refl _ _)) (fun hHeld => ?_)
 refine with_tabW wakes24.tab7 wakes24.bits7 (fun HT_ HW_ => ?_)
 have S118_ := Q0.mk hHeld
 obtain ⟨w117_, hx_⟩ : ∃ x, x = w114_.drew := ⟨_, rfl⟩
 rw [← hx_] at hHeld S118_ ⊢
 clear hx_
 refine pure_ (i := 0) (N := some 48) (v := ?_) (a' := ?_) #[true, false, false, false, false, false, false, false, false, false, false, false, false, false, false, false, false, false, false, false, false, false, false, false, false, false, false, false, false, false, false, false, false, false, false, false, false, false, false, false, false, false, false, false, false, false, false, false, false, false, false, false] rfl rfl (any_of HT_.out (by kernel_rfl)) (fun _ _ _ h => h) (Or.inl ⟨by rfl, ?_⟩) ?_ ?_
 rotate_left
 ·intro w'
  go_simp
  with_reducible rfl
 rotate_left
 ·simp only [Act.put, sA, sB, sC, i64_w, i32_w]
  rfl
 refine pure_ (i := 1) (N := some 49) (v := ?_) (a' := ?_) #[true, true, false, false, false, false, false, false, false, false, false, false, false, false, false, false, false, false, false, false, false, false, false, false, false, false, false, false, false, false, false, false, false, false, false, false, false, false, false, false, false, false, false, false, false, false, false, false, false, false, false, false] rfl rfl (any_of HT_.out (by kernel_rfl)) (fun _ _ _ h => h) (Or.inl ⟨by rfl, ?_⟩) ?_ ?_
 rotate_left
 ·intro w'
  go_simp
  with_reducible rfl
 rotate_left
 ·simp only [Act.put, sA, sB, sC, i64_w, i32_w]
  rfl
 refine pure_ (i := 2) (N := some 50) (v := ?_) (a' := ?_) #[true, true, true, false, false, false, false, false, false, false, false, false, false, false, false, false, false, false, false, false, false, false, false, false, false, false, false, false, false, false, false, false, false, false, false, false, false, false, false, false, false, false, false, false, false, false, false, false, false, false, false, false] rfl rfl (any_of HT_.out (by kernel_rfl)) (fun _ _ _ h => h) (Or.inl ⟨by rfl, ?_⟩) ?_ ?_
 rotate_left
 ·intro w'
  go_simp
  with_reducible rfl
 rotate_left
 ·simp only [Act.put, sA, sB, sC, i64_w, i32_w]
  rfl
 refine take_ (i := 3) (N := some 51) (v := ?_) (a' := ?_) #[true, true, true, true, false, false, false, false, false, false, false, false, false, false, false, false, false, false, false, false, false, false, false, false, false, false, false, false, false, false, false, false, false, false, false, false, false, false, false, false, false, false, false, false, false, false, false, false, false, false, false, false] rfl rfl (take_ofW HT_.out HW_.out (by kernel_rfl)) (fun _ _ _ h => h) (Or.inl ⟨by rfl, ?_⟩) hHeld ?_ ?_
 rotate_left
 ·intro w' s0
  have c0_ : w'.cell? ⟨w21_.heap.size, 0, none⟩ = some (.int .i64 2) := (bcz (bb K33_.out (bsz (bsz (bsz (bsz (bsz (bsz (bsz (bsz (bsz (bsz (S34_.out) S47_.out) S57_.out) S60_.out) S70_.out) S86_.out) S89_.out) S102_.out) S105_.out) S115_.out) (s0))) 0).trans rfl
  have c1_ : w'.cell? ⟨w21_.heap.size, 1, none⟩ = some (.slice A23_ 4 c24_) := (bcz (bb K33_.out (bsz (bsz (bsz (bsz (bsz (bsz (bsz (bsz (bsz (bsz (S34_.out) S47_.out) S57_.out) S60_.out) S70_.out) S86_.out) S89_.out) S102_.out) S105_.out) S115_.out) (s0))) 1).trans rfl
  have c2_ : w'.cell? ⟨w21_.heap.size, 2, none⟩ = some (.slice A25_ 4 c26_) := (bcz (bb K33_.out (bsz (bsz (bsz (bsz (bsz (bsz (bsz (bsz (bsz (bsz (S34_.out) S47_.out) S57_.out) S60_.out) S70_.out) S86_.out) S89_.out) S102_.out) S105_.out) S115_.out) (s0))) 2).trans rfl
  clear s0
  go_simp
  with_reducible rfl
 rotate_left
 ·simp only [Act.put, sA, sB, sC, i64_w, i32_w]
  rfl
 refine one_ (i := 4) (N := some 52) #[true, true, true, true, true, false, false, false, false, false, false, false, false, false, false, false, false, false, false, false, false, false, false, false, false, false, false, false, false, false, false, false, false, false, false, false, false, false, false, false, false, false, false, false, false, false, false, false, false, false, false, false] rfl rfl (one_of HT_.out (by kernel_rfl)) (by decide) (fun K hK => ?_)
 refine value_ (w1 := ?_) (v := ?_) (by rfl) rfl ?_ ?_
 rotate_left 2
 ·go_simp
  constructor
  ·rfl
  ·rfl
 refine hK.out _ _ (ba hHeld (.cells #[.int .i64 0] 3)) (fun hHeld => ?_)
 clear hK K
 refine norm_ (a' := ?_) ?_ ?_
 rotate_left
 ·show Act.put _ (some 52) _ = _
  simp only [Act.put, sA, sB, sC, i64_w, i32_w]
  rfl
 refine one_ (i := 5) (N := some 53) #[true, true, true, true, true, true, false, false, false, false, false, false, false, false, false, false, false, false, false, false, false, false, false, false, false, false, false, false, false, false, false, false, false, false, false, false, false, false, false, false, false, false, false, false, false, false, false, false, false, false, false, false] rfl rfl (one_of HT_.out (by kernel_rfl)) (by decide) (fun K hK => ?_)
 have hrow_ := C_ints (W := (w117_.alloc (.cells #[.int .i64 0] 3))) (w117_.heap.size) [0] (by simp [maxLen]) (new_at _ (by simp))
 refine goes_ Try.func56 (by kernel_rfl) rfl #[.agg #[.int .i64 2, .slice A23_ 4 c24_, .slice A25_ 4 c26_], .slice (some ⟨w117_.heap.size, 0, none⟩) 1 1] (by rfl) rfl rfl (by simp only [List.map_toArray, List.map_cons, List.map_nil]; rfl) ?_
 refine (subset_Takes.calls 60  2 A23_ c24_ [[1, 2], [3, 3], [3, 3], [3, 3]] A25_ c26_ [false, true, true, false] (some ⟨w117_.heap.size, 0, none⟩) 1 [0] true _ (Kd.C_below (K27_.out) (bsz (bsz (bsz (bsz (bsz (bsz (bsz (bsz (bsz (bsz (bsz (bsz (S32_.out) S34_.out) S47_.out) S57_.out) S60_.out) S70_.out) S86_.out) S89_.out) S102_.out) S105_.out) S115_.out) S118_.out) (ba (Below.refl _ _) (.cells #[.int .i64 0] 3)))) L28_.out (Kd.C_below (K29_.out) (bsz (bsz (bsz (bsz (bsz (bsz (bsz (bsz (bsz (bsz (bsz (bsz (S32_.out) S34_.out) S47_.out) S57_.out) S60_.out) S70_.out) S86_.out) S89_.out) S102_.out) S105_.out) S115_.out) S118_.out) (ba (Below.refl _ _) (.cells #[.int .i64 0] 3)))) L30_.out hrow_ (by decide) ZT0.out).mono ?_
 rintro e w119_ ⟨rfl, hb_⟩
 clear hrow_
 refine ⟨_, rfl, ?_⟩
 have S120_ := Q0.mk (bsz (ba (Below.refl _ _) (.cells #[.int .i64 0] 3)) hb_)
 refine hK.out _ _ (bsz hHeld hb_) (fun hHeld => ?_)
 clear hK K
 refine norm_ (a' := ?_) ?_ ?_
 rotate_left
 ·show Act.put _ (some 53) _ = _
  simp only [Act.put, sA, sB, sC, i64_w, i32_w]
  rfl
 refine pure_ (i := 6) (N := some 54) (v := ?_) (a' := ?_) #[true, true, true, true, true, true, true, false, false, false, false, false, false, false, false, false, false, false, false, false, false, false, false, false, false, false, false, false, false, false, false, false, false, false, false, false, false, false, false, false, false, false, false, false, false, false, false, false, false, false, false, false] rfl rfl (any_of HT_.out (by kernel_rfl)) (fun _ _ _ h => h) (Or.inl ⟨by rfl, ?_⟩) ?_ ?_
 rotate_left
 ·intro w'
  go_simp
  with_reducible rfl
 rotate_left
 ·simp only [Act.put, sA, sB, sC, i64_w, i32_w]
  rfl
 refine pure_ (i := 7) (N := some 55) (v := ?_) (a' := ?_) #[true, true, true, true, true, true, true, true, false, false, false, false, false, false, false, false, false, false, false, false, false, false, false, false, false, false, false, false, false, false, false, false, false, false, false, false, false, false, false, false, false, false, false, false, false, false, false, false, false, false, false, false] rfl rfl (any_of HT_.out (by kernel_rfl)) (fun _ _ _ h => h) (Or.inl ⟨by rfl, ?_⟩) ?_ ?_
 rotate_left
 ·intro w'
  go_simp
  with_reducible rfl
 rotate_left
 ·simp only [Act.put, sA, sB, sC, i64_w, i32_w]
  rfl
 refine take_ (i := 8) (N := some 56) (v := ?_) (a' := ?_) #[true, true, true, true, true, true, true, true, true, false, false, false, false, false, false, false, false, false, false, false, false, false, false, false, false, false, false, false, false, false, false, false, false, false, false, false, false, false, false, false, false, false, false, false, false, false, false, false, false, false, false, false] rfl rfl (take_ofW HT_.out HW_.out (by kernel_rfl)) (fun _ _ _ h => h) (Or.inl ⟨by rfl, ?_⟩) hHeld ?_ ?_
 rotate_left
 ·intro w' s0
  have c0_ : w'.cell? ⟨w21_.heap.size, 0, none⟩ = some (.int .i64 2) := (bcz (bb K33_.out (bsz (bsz (bsz (bsz (bsz (bsz (bsz (bsz (bsz (bsz (S34_.out) S47_.out) S57_.out) S60_.out) S70_.out) S86_.out) S89_.out) S102_.out) S105_.out) S115_.out) (s0))) 0).trans rfl
  have c1_ : w'.cell? ⟨w21_.heap.size, 1, none⟩ = some (.slice A23_ 4 c24_) := (bcz (bb K33_.out (bsz (bsz (bsz (bsz (bsz (bsz (bsz (bsz (bsz (bsz (S34_.out) S47_.out) S57_.out) S60_.out) S70_.out) S86_.out) S89_.out) S102_.out) S105_.out) S115_.out) (s0))) 1).trans rfl
  have c2_ : w'.cell? ⟨w21_.heap.size, 2, none⟩ = some (.slice A25_ 4 c26_) := (bcz (bb K33_.out (bsz (bsz (bsz (bsz (bsz (bsz (bsz (bsz (bsz (bsz (S34_.out) S47_.out) S57_.out) S60_.out) S70_.out) S86_.out) S89_.out) S102_.out) S105_.out) S115_.out) (s0))) 2).trans rfl
  clear s0
  go_simp
  with_reducible rfl
 rotate_left
 ·simp only [Act.put, sA, sB, sC, i64_w, i32_w]
  rfl
 refine one_ (i := 9) (N := some 57) #[true, true, true, true, true, true, true, true, true, true, false, false, false, false, false, false, false, false, false, false, false, false, false, false, false, false, false, false, false, false, false, false, false, false, false, false, false, false, false, false, false, false, false, false, false, false, false, false, false, false, false, false] rfl rfl (one_of HT_.out (by kernel_rfl)) (by decide) (fun K hK => ?_)
 refine value_ (w1 := ?_) (v := ?_) (by rfl) rfl ?_ ?_
 rotate_left 2
 ·go_simp
  constructor
  ·rfl
  ·rfl
 refine hK.out _ _ (ba hHeld (.cells #[.int .i64 1] 3)) (fun hHeld => ?_)
 clear hK K
 refine norm_ (a' := ?_) ?_ ?_
 rotate_left
 ·show Act.put _ (some 57) _ = _
  simp only [Act.put, sA, sB, sC, i64_w, i32_w]
  rfl
 refine one_ (i := 10) (N := some 58) #[true, true, true, true, true, true, true, true, true, true, true, false, false, false, false, false, false, false, false, false, false, false, false, false, false, false, false, false, false, false, false, false, false, false, false, false, false, false, false, false, false, false, false, false, false, false, false, false, false, false, false, false] rfl rfl (one_of HT_.out (by kernel_rfl)) (by decide) (fun K hK => ?_)
 have hrow_ := C_ints (W := (w119_.alloc (.cells #[.int .i64 1] 3))) (w119_.heap.size) [1] (by simp [maxLen]) (new_at _ (by simp))
 refine goes_ Try.func56 (by kernel_rfl) rfl #[.agg #[.int .i64 2, .slice A23_ 4 c24_, .slice A25_ 4 c26_], .slice (some ⟨w119_.heap.size, 0, none⟩) 1 1] (by rfl) rfl rfl (by simp only [List.map_toArray, List.map_cons, List.map_nil]; rfl) ?_
 refine (subset_Takes.calls 60  2 A23_ c24_ [[1, 2], [3, 3], [3, 3], [3, 3]] A25_ c26_ [false, true, true, false] (some ⟨w119_.heap.size, 0, none⟩) 1 [1] true _ (Kd.C_below (K27_.out) (bsz (bsz (bsz (bsz (bsz (bsz (bsz (bsz (bsz (bsz (bsz (bsz (bsz (S32_.out) S34_.out) S47_.out) S57_.out) S60_.out) S70_.out) S86_.out) S89_.out) S102_.out) S105_.out) S115_.out) S118_.out) S120_.out) (ba (Below.refl _ _) (.cells #[.int .i64 1] 3)))) L28_.out (Kd.C_below (K29_.out) (bsz (bsz (bsz (bsz (bsz (bsz (bsz (bsz (bsz (bsz (bsz (bsz (bsz (S32_.out) S34_.out) S47_.out) S57_.out) S60_.out) S70_.out) S86_.out) S89_.out) S102_.out) S105_.out) S115_.out) S118_.out) S120_.out) (ba (Below.refl _ _) (.cells #[.int .i64 1] 3)))) L30_.out hrow_ (by decide) ZT1.out).mono ?_
 rintro e w121_ ⟨rfl, hb_⟩
 clear hrow_
 refine ⟨_, rfl, ?_⟩
 have S122_ := Q0.mk (bsz (ba (Below.refl _ _) (.cells #[.int .i64 1] 3)) hb_)
 refine hK.out _ _ (bsz hHeld hb_) (fun hHeld => ?_)
 clear hK K
 refine norm_ (a' := ?_) ?_ ?_
 rotate_left
 ·show Act.put _ (some 58) _ = _
  simp only [Act.put, sA, sB, sC, i64_w, i32_w]
  rfl
 refine pure_ (i := 11) (N := some 59) (v := ?_) (a' := ?_) #[true, true, true, true, true, true, true, true, true, true, true, true, false, false, false, false, false, false, false, false, false, false, false, false, false, false, false, false, false, false, false, false, false, false, false, false, false, false, false, false, false, false, false, false, false, false, false, false, false, false, false, false] rfl rfl (any_of HT_.out (by kernel_rfl)) (fun _ _ _ h => h) (Or.inl ⟨by rfl, ?_⟩) ?_ ?_
 rotate_left
 ·intro w'
  go_simp
  with_reducible rfl
 rotate_left
 ·simp only [Act.put, sA, sB, sC, i64_w, i32_w]
  rfl
 refine pure_ (i := 12) (N := some 60) (v := ?_) (a' := ?_) #[true, true, true, true, true, true, true, true, true, true, true, true, true, false, false, false, false, false, false, false, false, false, false, false, false, false, false, false, false, false, false, false, false, false, false, false, false, false, false, false, false, false, false, false, false, false, false, false, false, false, false, false] rfl rfl (any_of HT_.out (by kernel_rfl)) (fun _ _ _ h => h) (Or.inl ⟨by rfl, ?_⟩) ?_ ?_
 rotate_left
 ·intro w'
  go_simp
  with_reducible rfl
 rotate_left
 ·simp only [Act.put, sA, sB, sC, i64_w, i32_w]
  rfl
 refine pure_ (i := 13) (N := some 61) (v := ?_) (a' := ?_) #[true, true, true, true, true, true, true, true, true, true, true, true, true, true, false, false, false, false, false, false, false, false, false, false, false, false, false, false, false, false, false, false, false, false, false, false, false, false, false, false, false, false, false, false, false, false, false, false, false, false, false, false] rfl rfl (any_of HT_.out (by kernel_rfl)) (fun _ _ _ h => h) (Or.inl ⟨by rfl, ?_⟩) ?_ ?_
 rotate_left
 ·intro w'
  go_simp
  with_reducible rfl
 rotate_left
 ·simp only [Act.put, sA, sB, sC, i64_w, i32_w]
  rfl
 refine pure_ (i := 14) (N := some 62) (v := ?_) (a' := ?_) #[true, true, true, true, true, true, true, true, true, true, true, true, true, true, true, false, false, false, false, false, false, false, false, false, false, false, false, false, false, false, false, false, false, false, false, false, false, false, false, false, false, false, false, false, false, false, false, false, false, false, false, false] rfl rfl (any_of HT_.out (by kernel_rfl)) (fun _ _ _ h => h) (Or.inl ⟨by rfl, ?_⟩) ?_ ?_
 rotate_left
 ·intro w'
  go_simp
  with_reducible rfl
 rotate_left
 ·simp only [Act.put, sA, sB, sC, i64_w, i32_w]
  rfl
 refine pure_ (i := 15) (N := some 63) (v := ?_) (a' := ?_) #[true, true, true, true, true, true, true, true, true, true, true, true, true, true, true, true, false, false, false, false, false, false, false, false, false, false, false, false, false, false, false, false, false, false, false, false, false, false, false, false, false, false, false, false, false, false, false, false, false, false, false, false] rfl rfl (any_of HT_.out (by kernel_rfl)) (fun _ _ _ h => h) (Or.inl ⟨by rfl, ?_⟩) ?_ ?_
 rotate_left
 ·intro w'
  go_simp
  with_reducible rfl
 rotate_left
 ·simp only [Act.put, sA, sB, sC, i64_w, i32_w]
  rfl
 refine pure_ (i := 16) (N := some 64) (v := ?_) (a' := ?_) #[true, true, true, true, true, true, true, true, true, true, true, true, true, true, true, true, true, false, false, false, false, false, false, false, false, false, false, false, false, false, false, false, false, false, false, false, false, false, false, false, false, false, false, false, false, false, false, false, false, false, false, false] rfl rfl (any_of HT_.out (by kernel_rfl)) (fun _ _ _ h => h) (Or.inl ⟨by rfl, ?_⟩) ?_ ?_
 rotate_left
 ·intro w'
  go_simp
  with_reducible rfl
 rotate_left
 ·simp only [Act.put, sA, sB, sC, i64_w, i32_w]
  rfl
 refine take_ (i := 17) (N := some 65) (v := ?_) (a' := ?_) #[true, true, true, true, true, true, true, true, true, true, true, true, true, true, true, true, true, true, false, false, false, false, false, false, false, false, false, false, false, false, false, false, false, false, false, false, false, false, false, false, false, false, false, false, false, false, false, false, false, false, false, false] rfl rfl (take_ofW HT_.out HW_.out (by kernel_rfl)) (fun _ _ _ h => h) (Or.inl ⟨by rfl, ?_⟩) hHeld ?_ ?_
 rotate_left
 ·intro w' s0
  have c0_ : w'.cell? ⟨g6, 0, none⟩ = some (.int .i64 2) := (bcz (bb K35_.out (bsz (bsz (bsz (bsz (bsz (bsz (bsz (bsz (bsz (S47_.out) S57_.out) S60_.out) S70_.out) S86_.out) S89_.out) S102_.out) S105_.out) S115_.out) (s0))) 0).trans rfl
  have c1_ : w'.cell? ⟨g6, 1, none⟩ = some (.slice P2a 4 p2a) := (bcz (bb K35_.out (bsz (bsz (bsz (bsz (bsz (bsz (bsz (bsz (bsz (S47_.out) S57_.out) S60_.out) S70_.out) S86_.out) S89_.out) S102_.out) S105_.out) S115_.out) (s0))) 1).trans rfl
  have c2_ : w'.cell? ⟨g6, 2, none⟩ = some (.slice P2b 4 p2b) := (bcz (bb K35_.out (bsz (bsz (bsz (bsz (bsz (bsz (bsz (bsz (bsz (S47_.out) S57_.out) S60_.out) S70_.out) S86_.out) S89_.out) S102_.out) S105_.out) S115_.out) (s0))) 2).trans rfl
  clear s0
  go_simp
  with_reducible rfl
 rotate_left
 ·simp only [Act.put, sA, sB, sC, i64_w, i32_w]
  rfl
 refine one_ (i := 18) (N := some 66) #[true, true, true, true, true, true, true, true, true, true, true, true, true, true, true, true, true, true, true, false, false, false, false, false, false, false, false, false, false, false, false, false, false, false, false, false, false, false, false, false, false, false, false, false, false, false, false, false, false, false, false, false] rfl rfl (one_of HT_.out (by kernel_rfl)) (by decide) (fun K hK => ?_)
 refine goes_ Try.func80 (by kernel_rfl) rfl #[.int .i64 1] (by rfl) rfl rfl (by simp only [List.map_toArray, List.map_cons, List.map_nil]; rfl) ?_
 refine (caesuralaw19_One.calls 1   2 [[2, 1], [2, 2], [2, 2]] [false, true, false] _   ZB2.out).mono ?_
 rintro e w123_ ⟨u_, v_, rfl, hS_, hR_, hb_⟩
 obtain ⟨A125_, c126_, rfl⟩ := Kd.S_slice hS_
 obtain ⟨A127_, c128_, rfl⟩ := Kd.R_slice hR_
 have K129_ := Q0.mk (Kd.R_reads' (Kd.S_R hS_)).2.2
 have L130_ := Q0.mk (Kd.R_reads' (Kd.S_R hS_)).2.1
 have K131_ := Q0.mk (Kd.R_reads' hR_).2.2
 have L132_ := Q0.mk (Kd.R_reads' hR_).2.1
 clear hS_ hR_
 refine ⟨_, rfl, ?_⟩
 have S124_ := Q0.mk (hb_)
 refine hK.out _ _ (bsz hHeld hb_) (fun hHeld => ?_)
 clear hK K
 refine norm_ (a' := ?_) ?_ ?_
 rotate_left
 ·show Act.put _ (some 66) _ = _
  simp only [Act.put, sA, sB, sC, i64_w, i32_w]
  rfl
 refine one_ (i := 19) (N := some 67) #[true, true, true, true, true, true, true, true, true, true, true, true, true, true, true, true, true, true, true, true, false, false, false, false, false, false, false, false, false, false, false, false, false, false, false, false, false, false, false, false, false, false, false, false, false, false, false, false, false, false, false, false] rfl rfl (one_of HT_.out (by kernel_rfl)) (by decide) (fun K hK => ?_)
 refine goes_ Try.func70 (by kernel_rfl) rfl #[.agg #[.int .i64 2, .slice P2a 4 p2a, .slice P2b 4 p2b], .agg #[.int .i64 2, .slice A125_ 3 c126_, .slice A127_ 3 c128_]] (by rfl) rfl rfl (by simp only [List.map_toArray, List.map_cons, List.map_nil]; rfl) ?_
 refine (number_Alike.calls 60  2 P2a p2a [[1, 2], [3, 3], [3, 3], [3, 3]] P2b p2b [false, false, true, false] 2 A125_ c126_ [[2, 1], [2, 2], [2, 2]] A127_ c128_ [false, true, false]  true _ (Kd.C_below (K38_.out.2) (bsz (bsz (bsz (bsz (bsz (bsz (bsz (bsz (bsz (bsz (bsz (bsz (S47_.out) S57_.out) S60_.out) S70_.out) S86_.out) S89_.out) S102_.out) S105_.out) S115_.out) S118_.out) S120_.out) S122_.out) S124_.out)) K38_.out.1 (Kd.C_below (K39_.out.2) (bsz (bsz (bsz (bsz (bsz (bsz (bsz (bsz (bsz (bsz (bsz (bsz (S47_.out) S57_.out) S60_.out) S70_.out) S86_.out) S89_.out) S102_.out) S105_.out) S115_.out) S118_.out) S120_.out) S122_.out) S124_.out)) K39_.out.1 (Kd.C_below (K129_.out) (Below.refl _ _)) L130_.out (Kd.C_below (K131_.out) (Below.refl _ _)) L132_.out  ZL1.out).mono ?_
 rintro e w133_ ⟨rfl, hb_⟩
 refine ⟨_, rfl, ?_⟩
 have S134_ := Q0.mk (hb_)
 refine hK.out _ _ (bsz hHeld hb_) (fun hHeld => ?_)
 clear hK K
 refine norm_ (a' := ?_) ?_ ?_
 rotate_left
 ·show Act.put _ (some 67) _ = _
  simp only [Act.put, sA, sB, sC, i64_w, i32_w]
  rfl
 refine pure_ (i := 20) (N := some 68) (v := ?_) (a' := ?_) #[true, true, true, true, true, true, true, true, true, true, true, true, true, true, true, true, true, true, true, true, true, false, false, false, false, false, false, false, false, false, false, false, false, false, false, false, false, false, false, false, false, false, false, false, false, false, false, false, false, false, false, false] rfl rfl (any_of HT_.out (by kernel_rfl)) (fun _ _ _ h => h) (Or.inl ⟨by rfl, ?_⟩) ?_ ?_
 rotate_left
 ·intro w'
  go_simp
  with_reducible rfl
 rotate_left
 ·simp only [Act.put, sA, sB, sC, i64_w, i32_w]
  rfl
 refine pure_ (i := 21) (N := some 69) (v := ?_) (a' := ?_) #[true, true, true, true, true, true, true, true, true, true, true, true, true, true, true, true, true, true, true, true, true, true, false, false, false, false, false, false, false, false, false, false, false, false, false, false, false, false, false, false, false, false, false, false, false, false, false, false, false, false, false, false] rfl rfl (any_of HT_.out (by kernel_rfl)) (fun _ _ _ h => h) (Or.inl ⟨by rfl, ?_⟩) ?_ ?_
 rotate_left
 ·intro w'
  go_simp
  with_reducible rfl
 rotate_left
 ·simp only [Act.put, sA, sB, sC, i64_w, i32_w]
  rfl
 refine pure_ (i := 22) (N := some 70) (v := ?_) (a' := ?_) #[true, true, true, true, true, true, true, true, true, true, true, true, true, true, true, true, true, true, true, true, true, true, true, false, false, false, false, false, false, false, false, false, false, false, false, false, false, false, false, false, false, false, false, false, false, false, false, false, false, false, false, false] rfl rfl (any_of HT_.out (by kernel_rfl)) (fun _ _ _ h => h) (Or.inl ⟨by rfl, ?_⟩) ?_ ?_
 rotate_left
 ·intro w'
  go_simp
  with_reducible rfl
 rotate_left
 ·simp only [Act.put, sA, sB, sC, i64_w, i32_w]
  rfl
 refine pure_ (i := 23) (N := some 71) (v := ?_) (a' := ?_) #[true, true, true, true, true, true, true, true, true, true, true, true, true, true, true, true, true, true, true, true, true, true, true, true, false, false, false, false, false, false, false, false, false, false, false, false, false, false, false, false, false, false, false, false, false, false, false, false, false, false, false, false] rfl rfl (any_of HT_.out (by kernel_rfl)) (fun _ _ _ h => h) (Or.inl ⟨by rfl, ?_⟩) ?_ ?_
 rotate_left
 ·intro w'
  go_simp
  with_reducible rfl
 rotate_left
 ·simp only [Act.put, sA, sB, sC, i64_w, i32_w]
  rfl
 refine pure_ (i := 24) (N := some 72) (v := ?_) (a' := ?_) #[true, true, true, true, true, true, true, true, true, true, true, true, true, true, true, true, true, true, true, true, true, true, true, true, true, false, false, false, false, false, false, false, false, false, false, false, false, false, false, false, false, false, false, false, false, false, false, false, false, false, false, false] rfl rfl (any_of HT_.out (by kernel_rfl)) (fun _ _ _ h => h) (Or.inl ⟨by rfl, ?_⟩) ?_ ?_
 rotate_left
 ·intro w'
  go_simp
  with_reducible rfl
 rotate_left
 ·simp only [Act.put, sA, sB, sC, i64_w, i32_w]
  rfl
 refine pure_ (i := 25) (N := some 73) (v := ?_) (a' := ?_) #[true, true, true, true, true, true, true, true, true, true, true, true, true, true, true, true, true, true, true, true, true, true, true, true, true, true, false, false, false, false, false, false, false, false, false, false, false, false, false, false, false, false, false, false, false, false, false, false, false, false, false, false] rfl rfl (any_of HT_.out (by kernel_rfl)) (fun _ _ _ h => h) (Or.inl ⟨by rfl, ?_⟩) ?_ ?_
 rotate_left
 ·intro w'
  go_simp
  with_reducible rfl
 rotate_left
 ·simp only [Act.put, sA, sB, sC, i64_w, i32_w]
  rfl
 refine take_ (i := 26) (N := some 74) (v := ?_) (a' := ?_) #[true, true, true, true, true, true, true, true, true, true, true, true, true, true, true, true, true, true, true, true, true, true, true, true, true, true, true, false, false, false, false, false, false, false, false, false, false, false, false, false, false, false, false, false, false, false, false, false, false, false, false, false] rfl rfl (take_ofW HT_.out HW_.out (by kernel_rfl)) (fun _ _ _ h => h) (Or.inl ⟨by rfl, ?_⟩) hHeld ?_ ?_
 rotate_left
 ·intro w' s0
  have c0_ : w'.cell? ⟨w46_.heap.size, 0, none⟩ = some (.int .i64 2) := (bcz (bb K58_.out (bsz (bsz (bsz (bsz (bsz (bsz (bsz (S60_.out) S70_.out) S86_.out) S89_.out) S102_.out) S105_.out) S115_.out) (s0))) 0).trans rfl
  have c1_ : w'.cell? ⟨w46_.heap.size, 1, none⟩ = some (.slice A48_ 4 c49_) := (bcz (bb K58_.out (bsz (bsz (bsz (bsz (bsz (bsz (bsz (S60_.out) S70_.out) S86_.out) S89_.out) S102_.out) S105_.out) S115_.out) (s0))) 1).trans rfl
  have c2_ : w'.cell? ⟨w46_.heap.size, 2, none⟩ = some (.slice A50_ 4 c51_) := (bcz (bb K58_.out (bsz (bsz (bsz (bsz (bsz (bsz (bsz (S60_.out) S70_.out) S86_.out) S89_.out) S102_.out) S105_.out) S115_.out) (s0))) 2).trans rfl
  clear s0
  go_simp
  with_reducible rfl
 rotate_left
 ·simp only [Act.put, sA, sB, sC, i64_w, i32_w]
  rfl
 refine take_ (i := 27) (N := some 75) (v := ?_) (a' := ?_) #[true, true, true, true, true, true, true, true, true, true, true, true, true, true, true, true, true, true, true, true, true, true, true, true, true, true, true, true, false, false, false, false, false, false, false, false, false, false, false, false, false, false, false, false, false, false, false, false, false, false, false, false] rfl rfl (take_ofW HT_.out HW_.out (by kernel_rfl)) (fun _ _ _ h => h) (Or.inl ⟨by rfl, ?_⟩) hHeld ?_ ?_
 rotate_left
 ·intro w' s0
  have c0_ : w'.cell? ⟨g6, 0, none⟩ = some (.int .i64 2) := (bcz (bb K35_.out (bsz (bsz (bsz (bsz (bsz (bsz (bsz (bsz (bsz (S47_.out) S57_.out) S60_.out) S70_.out) S86_.out) S89_.out) S102_.out) S105_.out) S115_.out) (s0))) 0).trans rfl
  have c1_ : w'.cell? ⟨g6, 1, none⟩ = some (.slice P2a 4 p2a) := (bcz (bb K35_.out (bsz (bsz (bsz (bsz (bsz (bsz (bsz (bsz (bsz (S47_.out) S57_.out) S60_.out) S70_.out) S86_.out) S89_.out) S102_.out) S105_.out) S115_.out) (s0))) 1).trans rfl
  have c2_ : w'.cell? ⟨g6, 2, none⟩ = some (.slice P2b 4 p2b) := (bcz (bb K35_.out (bsz (bsz (bsz (bsz (bsz (bsz (bsz (bsz (bsz (S47_.out) S57_.out) S60_.out) S70_.out) S86_.out) S89_.out) S102_.out) S105_.out) S115_.out) (s0))) 2).trans rfl
  clear s0
  go_simp
  with_reducible rfl
 rotate_left
 ·simp only [Act.put, sA, sB, sC, i64_w, i32_w]
  rfl
 refine one_ (i := 28) (N := some 76) #[true, true, true, true, true, true, true, true, true, true, true, true, true, true, true, true, true, true, true, true, true, true, true, true, true, true, true, true, true, false, false, false, false, false, false, false, false, false, false, false, false, false, false, false, false, false, false, false, false, false, false, false] rfl rfl (one_of HT_.out (by kernel_rfl)) (by decide) (fun K hK => ?_)
 refine goes_ Try.func70 (by kernel_rfl) rfl #[.agg #[.int .i64 2, .slice A48_ 4 c49_, .slice A50_ 4 c51_], .agg #[.int .i64 2, .slice P2a 4 p2a, .slice P2b 4 p2b]] (by rfl) rfl rfl (by simp only [List.map_toArray, List.map_cons, List.map_nil]; rfl) ?_
 refine (number_Alike.calls 60  2 A48_ c49_ [[1, 2], [3, 3], [3, 3], [3, 3]] A50_ c51_ [false, false, true, false] 2 P2a p2a [[1, 2], [3, 3], [3, 3], [3, 3]] P2b p2b [false, false, true, false]  true _ (Kd.C_below (K52_.out) (bsz (bsz (bsz (bsz (bsz (bsz (bsz (bsz (bsz (bsz (bsz (bsz (S57_.out) S60_.out) S70_.out) S86_.out) S89_.out) S102_.out) S105_.out) S115_.out) S118_.out) S120_.out) S122_.out) S124_.out) S134_.out)) L53_.out (Kd.C_below (K54_.out) (bsz (bsz (bsz (bsz (bsz (bsz (bsz (bsz (bsz (bsz (bsz (bsz (S57_.out) S60_.out) S70_.out) S86_.out) S89_.out) S102_.out) S105_.out) S115_.out) S118_.out) S120_.out) S122_.out) S124_.out) S134_.out)) L55_.out (Kd.C_below (K38_.out.2) (bsz (bsz (bsz (bsz (bsz (bsz (bsz (bsz (bsz (bsz (bsz (bsz (bsz (S47_.out) S57_.out) S60_.out) S70_.out) S86_.out) S89_.out) S102_.out) S105_.out) S115_.out) S118_.out) S120_.out) S122_.out) S124_.out) S134_.out)) K38_.out.1 (Kd.C_below (K39_.out.2) (bsz (bsz (bsz (bsz (bsz (bsz (bsz (bsz (bsz (bsz (bsz (bsz (bsz (S47_.out) S57_.out) S60_.out) S70_.out) S86_.out) S89_.out) S102_.out) S105_.out) S115_.out) S118_.out) S120_.out) S122_.out) S124_.out) S134_.out)) K39_.out.1  ZL2.out).mono ?_
 rintro e w135_ ⟨rfl, hb_⟩
 refine ⟨_, rfl, ?_⟩
 have S136_ := Q0.mk (hb_)
 refine hK.out _ _ (bsz hHeld hb_) (fun hHeld => ?_)
 clear hK K
 refine norm_ (a' := ?_) ?_ ?_
 rotate_left
 ·show Act.put _ (some 76) _ = _
  simp only [Act.put, sA, sB, sC, i64_w, i32_w]
  rfl
 refine pure_ (i := 29) (N := some 77) (v := ?_) (a' := ?_) #[true, true, true, true, true, true, true, true, true, true, true, true, true, true, true, true, true, true, true, true, true, true, true, true, true, true, true, true, true, true, false, false, false, false, false, false, false, false, false, false, false, false, false, false, false, false, false, false, false, false, false, false] rfl rfl (any_of HT_.out (by kernel_rfl)) (fun _ _ _ h => h) (Or.inl ⟨by rfl, ?_⟩) ?_ ?_
 rotate_left
 ·intro w'
  go_simp
  with_reducible rfl
 rotate_left
 ·simp only [Act.put, sA, sB, sC, i64_w, i32_w]
  rfl
 refine pure_ (i := 30) (N := some 78) (v := ?_) (a' := ?_) #[true, true, true, true, true, true, true, true, true, true, true, true, true, true, true, true, true, true, true, true, true, true, true, true, true, true, true, true, true, true, true, false, false, false, false, false, false, false, false, false, false, false, false, false, false, false, false, false, false, false, false, false] rfl rfl (any_of HT_.out (by kernel_rfl)) (fun _ _ _ h => h) (Or.inl ⟨by rfl, ?_⟩) ?_ ?_
 rotate_left
 ·intro w'
  go_simp
  with_reducible rfl
 rotate_left
 ·simp only [Act.put, sA, sB, sC, i64_w, i32_w]
  rfl
 refine pure_ (i := 31) (N := some 79) (v := ?_) (a' := ?_) #[true, true, true, true, true, true, true, true, true, true, true, true, true, true, true, true, true, true, true, true, true, true, true, true, true, true, true, true, true, true, true, true, false, false, false, false, false, false, false, false, false, false, false, false, false, false, false, false, false, false, false, false] rfl rfl (any_of HT_.out (by kernel_rfl)) (fun _ _ _ h => h) (Or.inl ⟨by rfl, ?_⟩) ?_ ?_
 rotate_left
 ·intro w'
  go_simp
  with_reducible rfl
 rotate_left
 ·simp only [Act.put, sA, sB, sC, i64_w, i32_w]
  rfl
 refine pure_ (i := 32) (N := some 80) (v := ?_) (a' := ?_) #[true, true, true, true, true, true, true, true, true, true, true, true, true, true, true, true, true, true, true, true, true, true, true, true, true, true, true, true, true, true, true, true, true, false, false, false, false, false, false, false, false, false, false, false, false, false, false, false, false, false, false, false] rfl rfl (any_of HT_.out (by kernel_rfl)) (fun _ _ _ h => h) (Or.inl ⟨by rfl, ?_⟩) ?_ ?_
 rotate_left
 ·intro w'
  go_simp
  with_reducible rfl
 rotate_left
 ·simp only [Act.put, sA, sB, sC, i64_w, i32_w]
  rfl
 refine pure_ (i := 33) (N := some 81) (v := ?_) (a' := ?_) #[true, true, true, true, true, true, true, true, true, true, true, true, true, true, true, true, true, true, true, true, true, true, true, true, true, true, true, true, true, true, true, true, true, true, false, false, false, false, false, false, false, false, false, false, false, false, false, false, false, false, false, false] rfl rfl (any_of HT_.out (by kernel_rfl)) (fun _ _ _ h => h) (Or.inl ⟨by rfl, ?_⟩) ?_ ?_
 rotate_left
 ·intro w'
  go_simp
  with_reducible rfl
 rotate_left
 ·simp only [Act.put, sA, sB, sC, i64_w, i32_w]
  rfl
 refine take_ (i := 34) (N := some 82) (v := ?_) (a' := ?_) #[true, true, true, true, true, true, true, true, true, true, true, true, true, true, true, true, true, true, true, true, true, true, true, true, true, true, true, true, true, true, true, true, true, true, true, false, false, false, false, false, false, false, false, false, false, false, false, false, false, false, false, false] rfl rfl (take_ofW HT_.out HW_.out (by kernel_rfl)) (fun _ _ _ h => h) (Or.inl ⟨by rfl, ?_⟩) hHeld ?_ ?_
 rotate_left
 ·intro w' s0
  have c0_ : w'.cell? ⟨w69_.heap.size, 0, none⟩ = some (.int .i64 2) := (bcz (bb K87_.out (bsz (bsz (bsz (bsz (S89_.out) S102_.out) S105_.out) S115_.out) (s0))) 0).trans rfl
  have c1_ : w'.cell? ⟨w69_.heap.size, 1, none⟩ = some (.slice A71_ 3 c72_) := (bcz (bb K87_.out (bsz (bsz (bsz (bsz (S89_.out) S102_.out) S105_.out) S115_.out) (s0))) 1).trans rfl
  have c2_ : w'.cell? ⟨w69_.heap.size, 2, none⟩ = some (.slice A73_ 3 c74_) := (bcz (bb K87_.out (bsz (bsz (bsz (bsz (S89_.out) S102_.out) S105_.out) S115_.out) (s0))) 2).trans rfl
  clear s0
  go_simp
  with_reducible rfl
 rotate_left
 ·simp only [Act.put, sA, sB, sC, i64_w, i32_w]
  rfl
 refine one_ (i := 35) (N := some 83) #[true, true, true, true, true, true, true, true, true, true, true, true, true, true, true, true, true, true, true, true, true, true, true, true, true, true, true, true, true, true, true, true, true, true, true, true, false, false, false, false, false, false, false, false, false, false, false, false, false, false, false, false] rfl rfl (one_of HT_.out (by kernel_rfl)) (by decide) (fun K hK => ?_)
 refine goes_ Try.func56 (by kernel_rfl) rfl #[.agg #[.int .i64 2, .slice A71_ 3 c72_, .slice A73_ 3 c74_], .slice none 0 0] (by rfl) rfl rfl (by simp only [List.map_toArray, List.map_cons, List.map_nil]; rfl) ?_
 refine (subset_Takes.calls 60  2 A71_ c72_ [[1, 2], [2, 2], [2, 2]] A73_ c74_ [true, false, true] none 0 [] true _ (Kd.C_below (K75_.out) (bsz (bsz (bsz (bsz (bsz (bsz (bsz (bsz (bsz (bsz (S86_.out) S89_.out) S102_.out) S105_.out) S115_.out) S118_.out) S120_.out) S122_.out) S124_.out) S134_.out) S136_.out)) L76_.out (Kd.C_below (K77_.out) (bsz (bsz (bsz (bsz (bsz (bsz (bsz (bsz (bsz (bsz (S86_.out) S89_.out) S102_.out) S105_.out) S115_.out) S118_.out) S120_.out) S122_.out) S124_.out) S134_.out) S136_.out)) L78_.out (Kd.C_nil _ _) (by decide) ZT2.out).mono ?_
 rintro e w137_ ⟨rfl, hb_⟩
 refine ⟨_, rfl, ?_⟩
 have S138_ := Q0.mk (hb_)
 refine hK.out _ _ (bsz hHeld hb_) (fun hHeld => ?_)
 clear hK K
 refine norm_ (a' := ?_) ?_ ?_
 rotate_left
 ·show Act.put _ (some 83) _ = _
  simp only [Act.put, sA, sB, sC, i64_w, i32_w]
  rfl
 refine pure_ (i := 36) (N := some 84) (v := ?_) (a' := ?_) #[true, true, true, true, true, true, true, true, true, true, true, true, true, true, true, true, true, true, true, true, true, true, true, true, true, true, true, true, true, true, true, true, true, true, true, true, true, false, false, false, false, false, false, false, false, false, false, false, false, false, false, false] rfl rfl (any_of HT_.out (by kernel_rfl)) (fun _ _ _ h => h) (Or.inl ⟨by rfl, ?_⟩) ?_ ?_
 rotate_left
 ·intro w'
  go_simp
  with_reducible rfl
 rotate_left
 ·simp only [Act.put, sA, sB, sC, i64_w, i32_w]
  rfl
 refine pure_ (i := 37) (N := some 85) (v := ?_) (a' := ?_) #[true, true, true, true, true, true, true, true, true, true, true, true, true, true, true, true, true, true, true, true, true, true, true, true, true, true, true, true, true, true, true, true, true, true, true, true, true, true, false, false, false, false, false, false, false, false, false, false, false, false, false, false] rfl rfl (any_of HT_.out (by kernel_rfl)) (fun _ _ _ h => h) (Or.inl ⟨by rfl, ?_⟩) ?_ ?_
 rotate_left
 ·intro w'
  go_simp
  with_reducible rfl
 rotate_left
 ·simp only [Act.put, sA, sB, sC, i64_w, i32_w]
  rfl
 refine take_ (i := 38) (N := some 86) (v := ?_) (a' := ?_) #[true, true, true, true, true, true, true, true, true, true, true, true, true, true, true, true, true, true, true, true, true, true, true, true, true, true, true, true, true, true, true, true, true, true, true, true, true, true, true, false, false, false, false, false, false, false, false, false, false, false, false, false] rfl rfl (take_ofW HT_.out HW_.out (by kernel_rfl)) (fun _ _ _ h => h) (Or.inl ⟨by rfl, ?_⟩) hHeld ?_ ?_
 rotate_left
 ·intro w' s0
  have c0_ : w'.cell? ⟨w69_.heap.size, 0, none⟩ = some (.int .i64 2) := (bcz (bb K87_.out (bsz (bsz (bsz (bsz (S89_.out) S102_.out) S105_.out) S115_.out) (s0))) 0).trans rfl
  have c1_ : w'.cell? ⟨w69_.heap.size, 1, none⟩ = some (.slice A71_ 3 c72_) := (bcz (bb K87_.out (bsz (bsz (bsz (bsz (S89_.out) S102_.out) S105_.out) S115_.out) (s0))) 1).trans rfl
  have c2_ : w'.cell? ⟨w69_.heap.size, 2, none⟩ = some (.slice A73_ 3 c74_) := (bcz (bb K87_.out (bsz (bsz (bsz (bsz (S89_.out) S102_.out) S105_.out) S115_.out) (s0))) 2).trans rfl
  clear s0
  go_simp
  with_reducible rfl
 rotate_left
 ·simp only [Act.put, sA, sB, sC, i64_w, i32_w]
  rfl
 refine one_ (i := 39) (N := some 87) #[true, true, true, true, true, true, true, true, true, true, true, true, true, true, true, true, true, true, true, true, true, true, true, true, true, true, true, true, true, true, true, true, true, true, true, true, true, true, true, true, false, false, false, false, false, false, false, false, false, false, false, false] rfl rfl (one_of HT_.out (by kernel_rfl)) (by decide) (fun K hK => ?_)
 refine value_ (w1 := ?_) (v := ?_) (by rfl) rfl ?_ ?_
 rotate_left 2
 ·go_simp
  constructor
  ·rfl
  ·rfl
 refine hK.out _ _ (ba hHeld (.cells #[.int .i64 0] 3)) (fun hHeld => ?_)
 clear hK K
 refine norm_ (a' := ?_) ?_ ?_
 rotate_left
 ·show Act.put _ (some 87) _ = _
  simp only [Act.put, sA, sB, sC, i64_w, i32_w]
  rfl
 refine one_ (i := 40) (N := some 88) #[true, true, true, true, true, true, true, true, true, true, true, true, true, true, true, true, true, true, true, true, true, true, true, true, true, true, true, true, true, true, true, true, true, true, true, true, true, true, true, true, true, false, false, false, false, false, false, false, false, false, false, false] rfl rfl (one_of HT_.out (by kernel_rfl)) (by decide) (fun K hK => ?_)
 have hrow_ := C_ints (W := (w137_.alloc (.cells #[.int .i64 0] 3))) (w137_.heap.size) [0] (by simp [maxLen]) (new_at _ (by simp))
 refine goes_ Try.func56 (by kernel_rfl) rfl #[.agg #[.int .i64 2, .slice A71_ 3 c72_, .slice A73_ 3 c74_], .slice (some ⟨w137_.heap.size, 0, none⟩) 1 1] (by rfl) rfl rfl (by simp only [List.map_toArray, List.map_cons, List.map_nil]; rfl) ?_
 refine (subset_Takes.calls 60  2 A71_ c72_ [[1, 2], [2, 2], [2, 2]] A73_ c74_ [true, false, true] (some ⟨w137_.heap.size, 0, none⟩) 1 [0] false _ (Kd.C_below (K75_.out) (bsz (bsz (bsz (bsz (bsz (bsz (bsz (bsz (bsz (bsz (bsz (bsz (S86_.out) S89_.out) S102_.out) S105_.out) S115_.out) S118_.out) S120_.out) S122_.out) S124_.out) S134_.out) S136_.out) S138_.out) (ba (Below.refl _ _) (.cells #[.int .i64 0] 3)))) L76_.out (Kd.C_below (K77_.out) (bsz (bsz (bsz (bsz (bsz (bsz (bsz (bsz (bsz (bsz (bsz (bsz (S86_.out) S89_.out) S102_.out) S105_.out) S115_.out) S118_.out) S120_.out) S122_.out) S124_.out) S134_.out) S136_.out) S138_.out) (ba (Below.refl _ _) (.cells #[.int .i64 0] 3)))) L78_.out hrow_ (by decide) ZT3.out).mono ?_
 rintro e w139_ ⟨rfl, hb_⟩
 clear hrow_
 refine ⟨_, rfl, ?_⟩
 have S140_ := Q0.mk (bsz (ba (Below.refl _ _) (.cells #[.int .i64 0] 3)) hb_)
 refine hK.out _ _ (bsz hHeld hb_) (fun hHeld => ?_)
 clear hK K
 refine norm_ (a' := ?_) ?_ ?_
 rotate_left
 ·show Act.put _ (some 88) _ = _
  simp only [Act.put, sA, sB, sC, i64_w, i32_w]
  rfl
 refine pure_ (i := 41) (N := some 89) (v := ?_) (a' := ?_) #[true, true, true, true, true, true, true, true, true, true, true, true, true, true, true, true, true, true, true, true, true, true, true, true, true, true, true, true, true, true, true, true, true, true, true, true, true, true, true, true, true, true, false, false, false, false, false, false, false, false, false, false] rfl rfl (any_of HT_.out (by kernel_rfl)) (fun _ _ _ h => h) (Or.inl ⟨by rfl, ?_⟩) ?_ ?_
 rotate_left
 ·intro w'
  go_simp
  with_reducible rfl
 rotate_left
 ·simp only [Act.put, sA, sB, sC, i64_w, i32_w]
  rfl
 refine pure_ (i := 42) (N := some 90) (v := ?_) (a' := ?_) #[true, true, true, true, true, true, true, true, true, true, true, true, true, true, true, true, true, true, true, true, true, true, true, true, true, true, true, true, true, true, true, true, true, true, true, true, true, true, true, true, true, true, true, false, false, false, false, false, false, false, false, false] rfl rfl (any_of HT_.out (by kernel_rfl)) (fun _ _ _ h => h) (Or.inl ⟨by rfl, ?_⟩) ?_ ?_
 rotate_left
 ·intro w'
  go_simp
  with_reducible rfl
 rotate_left
 ·simp only [Act.put, sA, sB, sC, i64_w, i32_w]
  rfl
 refine pure_ (i := 43) (N := some 91) (v := ?_) (a' := ?_) #[true, true, true, true, true, true, true, true, true, true, true, true, true, true, true, true, true, true, true, true, true, true, true, true, true, true, true, true, true, true, true, true, true, true, true, true, true, true, true, true, true, true, true, true, false, false, false, false, false, false, false, false] rfl rfl (any_of HT_.out (by kernel_rfl)) (fun _ _ _ h => h) (Or.inl ⟨by rfl, ?_⟩) ?_ ?_
 rotate_left
 ·intro w'
  go_simp
  with_reducible rfl
 rotate_left
 ·simp only [Act.put, sA, sB, sC, i64_w, i32_w]
  rfl
 refine pure_ (i := 44) (N := some 92) (v := ?_) (a' := ?_) #[true, true, true, true, true, true, true, true, true, true, true, true, true, true, true, true, true, true, true, true, true, true, true, true, true, true, true, true, true, true, true, true, true, true, true, true, true, true, true, true, true, true, true, true, true, false, false, false, false, false, false, false] rfl rfl (any_of HT_.out (by kernel_rfl)) (fun _ _ _ h => h) (Or.inl ⟨by rfl, ?_⟩) ?_ ?_
 rotate_left
 ·intro w'
  go_simp
  with_reducible rfl
 rotate_left
 ·simp only [Act.put, sA, sB, sC, i64_w, i32_w]
  rfl
 refine pure_ (i := 45) (N := some 93) (v := ?_) (a' := ?_) #[true, true, true, true, true, true, true, true, true, true, true, true, true, true, true, true, true, true, true, true, true, true, true, true, true, true, true, true, true, true, true, true, true, true, true, true, true, true, true, true, true, true, true, true, true, true, false, false, false, false, false, false] rfl rfl (any_of HT_.out (by kernel_rfl)) (fun _ _ _ h => h) (Or.inl ⟨by rfl, ?_⟩) ?_ ?_
 rotate_left
 ·intro w'
  go_simp
  with_reducible rfl
 rotate_left
 ·simp only [Act.put, sA, sB, sC, i64_w, i32_w]
  rfl
 refine pure_ (i := 46) (N := some 94) (v := ?_) (a' := ?_) #[true, true, true, true, true, true, true, true, true, true, true, true, true, true, true, true, true, true, true, true, true, true, true, true, true, true, true, true, true, true, true, true, true, true, true, true, true, true, true, true, true, true, true, true, true, true, true, false, false, false, false, false] rfl rfl (any_of HT_.out (by kernel_rfl)) (fun _ _ _ h => h) (Or.inl ⟨by rfl, ?_⟩) ?_ ?_
 rotate_left
 ·intro w'
  go_simp
  with_reducible rfl
 rotate_left
 ·simp only [Act.put, sA, sB, sC, i64_w, i32_w]
  rfl
 refine pure_ (i := 47) (N := some 95) (v := ?_) (a' := ?_) #[true, true, true, true, true, true, true, true, true, true, true, true, true, true, true, true, true, true, true, true, true, true, true, true, true, true, true, true, true, true, true, true, true, true, true, true, true, true, true, true, true, true, true, true, true, true, true, true, false, false, false, false] rfl rfl (any_of HT_.out (by kernel_rfl)) (fun _ _ _ h => h) (Or.inl ⟨by rfl, ?_⟩) ?_ ?_
 rotate_left
 ·intro w'
  go_simp
  with_reducible rfl
 rotate_left
 ·simp only [Act.put, sA, sB, sC, i64_w, i32_w]
  rfl
 refine pure_ (i := 48) (N := some 96) (v := ?_) (a' := ?_) #[true, true, true, true, true, true, true, true, true, true, true, true, true, true, true, true, true, true, true, true, true, true, true, true, true, true, true, true, true, true, true, true, true, true, true, true, true, true, true, true, true, true, true, true, true, true, true, true, true, false, false, false] rfl rfl (any_of HT_.out (by kernel_rfl)) (fun _ _ _ h => h) (Or.inl ⟨by rfl, ?_⟩) ?_ ?_
 rotate_left
 ·intro w'
  go_simp
  with_reducible rfl
 rotate_left
 ·simp only [Act.put, sA, sB, sC, i64_w, i32_w]
  rfl
 refine pure_ (i := 49) (N := some 97) (v := ?_) (a' := ?_) #[true, true, true, true, true, true, true, true, true, true, true, true, true, true, true, true, true, true, true, true, true, true, true, true, true, true, true, true, true, true, true, true, true, true, true, true, true, true, true, true, true, true, true, true, true, true, true, true, true, true, false, false] rfl rfl (any_of HT_.out (by kernel_rfl)) (fun _ _ _ h => h) (Or.inl ⟨by rfl, ?_⟩) ?_ ?_
 rotate_left
 ·intro w'
  go_simp
  with_reducible rfl
 rotate_left
 ·simp only [Act.put, sA, sB, sC, i64_w, i32_w]
  rfl
 refine pure_ (i := 50) (N := some 98) (v := ?_) (a' := ?_) #[true, true, true, true, true, true, true, true, true, true, true, true, true, true, true, true, true, true, true, true, true, true, true, true, true, true, true, true, true, true, true, true, true, true, true, true, true, true, true, true, true, true, true, true, true, true, true, true, true, true, true, false] rfl rfl (any_of HT_.out (by kernel_rfl)) (fun _ _ _ h => h) (Or.inl ⟨by rfl, ?_⟩) ?_ ?_
 rotate_left
 ·intro w'
  go_simp
  with_reducible rfl
 rotate_left
 ·simp only [Act.put, sA, sB, sC, i64_w, i32_w]
  rfl
 refine pure_ (i := 51) (N := some 0) (v := ?_) (a' := ?_) #[true, true, true, true, true, true, true, true, true, true, true, true, true, true, true, true, true, true, true, true, true, true, true, true, true, true, true, true, true, true, true, true, true, true, true, true, true, true, true, true, true, true, true, true, true, true, true, true, true, true, true, true] rfl rfl (any_of HT_.out (by kernel_rfl)) (fun _ _ _ h => h) (Or.inl ⟨by rfl, ?_⟩) ?_ ?_
 rotate_left
 ·intro w'
  go_simp
  with_reducible rfl
 rotate_left
 ·simp only [Act.put, sA, sB, sC, i64_w, i32_w]
  rfl
 refine done_ (done_of HT_.out (by kernel_rfl)) ?_
 go_wp2
 go_ret
 exact ⟨rfl, bsz (bsz (bsz (bsz (bsz (bsz (bsz (bsz (bsz (bsz (bsz (bsz (bsz (bsz (bsz (bsz (bsz (bsz (bsz (bsz (bsz (S2_.out) S12_.out) S22_.out) S32_.out) S34_.out) S47_.out) S57_.out) S60_.out) S70_.out) S86_.out) S89_.out) S102_.out) S105_.out) S115_.out) S118_.out) S120_.out) S122_.out) S124_.out) S134_.out) S136_.out) S138_.out) S140_.out⟩

end Go.Proofs.Ytelkjbacdpmnfaa.A
