/- By a program, out of the translation (wip/myprint.py). -/
import Derived.Test.YtelkjbacdpmnfaaB0
import Derived.Test.YtelkjbacdpmnfaaBCaesurakeepAutomaton
import Derived.Test.YtelkjbacdpmnfaaBCaesurakeepOwnAutomaton
import Derived.Test.YtelkjbacdpmnfaaBCaesuralaw21Light
import Derived.Test.YtelkjbacdpmnfaaBCaesuralaw24Wakes
import Derived.Test.YtelkjbacdpmnfaaBCaesuraref19Good
import Derived.Test.YtelkjbacdpmnfaaBProdF
import Derived.Test.YtelkjbacdpmnfaaBProductBoth
import Derived.Test.YtelkjbacdpmnfaaBProductLess
import Derived.Test.YtelkjbacdpmnfaaBProductNot
import Derived.Test.YtelkjbacdpmnfaaBProductSome
import Derived.Test.YtelkjbacdpmnfaaBRef24
import Derived.Test.YtelkjbacdpmnfaaBRef24Words
import Derived.Test.YtelkjbacdpmnfaaBWordsA
import Derived.Test.YtelkjbacdpmnfaaBWordsB
namespace Go.Proofs.Ytelkjbacdpmnfaa.A
open Go.RowKit Go.W_.PrintWords Go.W_.PrintLast Go.W_.PrintMore
attribute [local go_sem] max2_int min2_int max_two min_two max_three min_three max_four min_four
set_option linter.unusedVariables false
set_option linter.unusedSimpArgs false

set_option maxHeartbeats 8000000 in
set_option maxRecDepth 100000 in
theorem ptells_short0 (k0 k1 kw : Nat) (a0_0 : Int) (A0_1 : Option Addr) (c0_1 : Nat) (l0_1 : List (List Int)) (A0_2 : Option Addr) (c0_2 : Nat) (l0_2 : List Bool) (a1_0 : Int) (A1_1 : Option Addr) (c1_1 : Nat) (l1_1 : List (List Int)) (A1_2 : Option Addr) (c1_2 : Nat) (l1_2 : List Bool) (a2 : Int) (w : World) (hr0_1 : Kd.C (Kd.slice 3 (Kd.int .i64)) w A0_1 l0_1.length l0_1) (hc0_1 : l0_1.length ≤ c0_1) (hr0_2 : Kd.C Kd.bool w A0_2 l0_2.length l0_2) (hc0_2 : l0_2.length ≤ c0_2) (hr1_1 : Kd.C (Kd.slice 3 (Kd.int .i64)) w A1_1 l1_1.length l1_1) (hc1_1 : l1_1.length ≤ c1_1) (hr1_2 : Kd.C Kd.bool w A1_2 l1_2.length l1_2) (hc1_2 : l1_2.length ≤ c1_2) (h0 : caesuralaw21_Light.f k0 a0_0 l0_1 l0_2 = some false) (hw : caesuralaw24_wakes.f kw = some true) :
  Calls Try.prog 19 #[.agg #[.int .i64 a0_0, .slice A0_1 l0_1.length c0_1, .slice A0_2 l0_2.length c0_2], .agg #[.int .i64 a1_0, .slice A1_1 l1_1.length c1_1, .slice A1_2 l1_2.length c1_2], .int .i64 a2] w fun e w' => e = .returned (.bool true) ∧ Below w.heap.size w w' := by
 have hu25 := Try.underlying25
 have hu45 := Try.underlying45
 have hu22 := Try.underlying22
 have hu23 := Try.underlying23
 have HR0_1 := Q0.mk hr0_1
 have HR0_2 := Q0.mk hr0_2
 clear hr0_1 hr0_2
 have HR1_1 := Q0.mk hr1_1
 have HR1_2 := Q0.mk hr1_2
 clear hr1_1 hr1_2
 have Zl0 := Q0.mk h0
 clear h0
 have ZW := Q0.mk hw
 clear hw
 obtain ⟨c1_, c2_, c3_⟩ := cells3 (show ((w.alloc (.cells #[.int .i64 a0_0, .slice A0_1 l0_1.length c0_1, .slice A0_2 l0_2.length c0_2] 25)).alloc (.cells #[.int .i64 a1_0, .slice A1_1 l1_1.length c1_1, .slice A1_2 l1_2.length c1_2] 25)).heap[w.heap.size]? = some (.cells #[.int .i64 a0_0, .slice A0_1 l0_1.length c0_1, .slice A0_2 l0_2.length c0_2] 25 (0, 0)) from bA (new_at _ (by simp)) _)
 go_enter Try.func19, Try.ntmps19
 go_wp2_with (first | (go_at_call 46; have hF_ := Zl0.out; clear Zl0; (try clear c1_ c2_ c3_); refine calls_new (v := w) (F := fun W => W.heap[w.heap.size]? = some (.cells #[.int .i64 a0_0, .slice A0_1 l0_1.length c0_1, .slice A0_2 l0_2.length c0_2] 25 (0, 0)) ∧ W.heap[w.heap.size + 1]? = some (.cells #[.int .i64 a1_0, .slice A1_1 l1_1.length c1_1, .slice A1_2 l1_2.length c1_2] 25 (0, 0))) (ba (ba (Below.refl _ _) (.cells #[.int .i64 a0_0, .slice A0_1 l0_1.length c0_1, .slice A0_2 l0_2.length c0_2] 25)) (.cells #[.int .i64 a1_0, .slice A1_1 l1_1.length c1_1, .slice A1_2 l1_2.length c1_2] 25)) (⟨bA (new_at _ (by simp)) _, new_at _ (by simp)⟩) (fun w4_ b_ f_ => ?_); have S5_ := Q0.mk b_; have K6_ := Q0.mk f_.1; have K7_ := Q0.mk f_.2; clear b_ f_; refine (caesuralaw21_Light.calls k0  a0_0 A0_1 c0_1 l0_1 A0_2 c0_2 l0_2  false _ (Kd.C_below (HR0_1.out) (S5_.out)) hc0_1 (Kd.C_below (HR0_2.out) (S5_.out)) hc0_2  hF_).mono ?_; clear hF_; rintro e w8_ ⟨rfl, hb_⟩; have S9_ := Q0.mk hb_; clear hb_) | (go_at_call 73; have hF_ := ZW.out; clear ZW; refine (caesuralaw24_wakes.calls kw    true _   hF_).mono ?_; clear hF_; rintro e w10_ ⟨rfl, hb_⟩; have S11_ := Q0.mk hb_; clear hb_))
 go_ret
 exact ⟨rfl, bsz (bsz (S5_.out) S9_.out) S11_.out⟩
set_option maxHeartbeats 8000000 in
set_option maxRecDepth 100000 in
theorem ptells_short1 (k0 k1 kw : Nat) (a0_0 : Int) (A0_1 : Option Addr) (c0_1 : Nat) (l0_1 : List (List Int)) (A0_2 : Option Addr) (c0_2 : Nat) (l0_2 : List Bool) (a1_0 : Int) (A1_1 : Option Addr) (c1_1 : Nat) (l1_1 : List (List Int)) (A1_2 : Option Addr) (c1_2 : Nat) (l1_2 : List Bool) (a2 : Int) (w : World) (hr0_1 : Kd.C (Kd.slice 3 (Kd.int .i64)) w A0_1 l0_1.length l0_1) (hc0_1 : l0_1.length ≤ c0_1) (hr0_2 : Kd.C Kd.bool w A0_2 l0_2.length l0_2) (hc0_2 : l0_2.length ≤ c0_2) (hr1_1 : Kd.C (Kd.slice 3 (Kd.int .i64)) w A1_1 l1_1.length l1_1) (hc1_1 : l1_1.length ≤ c1_1) (hr1_2 : Kd.C Kd.bool w A1_2 l1_2.length l1_2) (hc1_2 : l1_2.length ≤ c1_2) (h0 : caesuralaw21_Light.f k0 a0_0 l0_1 l0_2 = some true) (h1 : caesuralaw21_Light.f k1 a1_0 l1_1 l1_2 = some false) (hw : caesuralaw24_wakes.f kw = some true) :
  Calls Try.prog 19 #[.agg #[.int .i64 a0_0, .slice A0_1 l0_1.length c0_1, .slice A0_2 l0_2.length c0_2], .agg #[.int .i64 a1_0, .slice A1_1 l1_1.length c1_1, .slice A1_2 l1_2.length c1_2], .int .i64 a2] w fun e w' => e = .returned (.bool true) ∧ Below w.heap.size w w' := by
 have hu25 := Try.underlying25
 have hu45 := Try.underlying45
 have hu22 := Try.underlying22
 have hu23 := Try.underlying23
 have HR0_1 := Q0.mk hr0_1
 have HR0_2 := Q0.mk hr0_2
 clear hr0_1 hr0_2
 have HR1_1 := Q0.mk hr1_1
 have HR1_2 := Q0.mk hr1_2
 clear hr1_1 hr1_2
 have Zl0 := Q0.mk h0
 clear h0
 have Zl1 := Q0.mk h1
 clear h1
 have ZW := Q0.mk hw
 clear hw
 obtain ⟨c1_, c2_, c3_⟩ := cells3 (show ((w.alloc (.cells #[.int .i64 a0_0, .slice A0_1 l0_1.length c0_1, .slice A0_2 l0_2.length c0_2] 25)).alloc (.cells #[.int .i64 a1_0, .slice A1_1 l1_1.length c1_1, .slice A1_2 l1_2.length c1_2] 25)).heap[w.heap.size]? = some (.cells #[.int .i64 a0_0, .slice A0_1 l0_1.length c0_1, .slice A0_2 l0_2.length c0_2] 25 (0, 0)) from bA (new_at _ (by simp)) _)
 go_enter Try.func19, Try.ntmps19
 go_wp2_with (first | (go_at_call 46; have hF_ := Zl0.out; clear Zl0; (try clear c1_ c2_ c3_); refine calls_new (v := w) (F := fun W => W.heap[w.heap.size]? = some (.cells #[.int .i64 a0_0, .slice A0_1 l0_1.length c0_1, .slice A0_2 l0_2.length c0_2] 25 (0, 0)) ∧ W.heap[w.heap.size + 1]? = some (.cells #[.int .i64 a1_0, .slice A1_1 l1_1.length c1_1, .slice A1_2 l1_2.length c1_2] 25 (0, 0))) (ba (ba (Below.refl _ _) (.cells #[.int .i64 a0_0, .slice A0_1 l0_1.length c0_1, .slice A0_2 l0_2.length c0_2] 25)) (.cells #[.int .i64 a1_0, .slice A1_1 l1_1.length c1_1, .slice A1_2 l1_2.length c1_2] 25)) (⟨bA (new_at _ (by simp)) _, new_at _ (by simp)⟩) (fun w4_ b_ f_ => ?_); have S5_ := Q0.mk b_; have K6_ := Q0.mk f_.1; have K7_ := Q0.mk f_.2; clear b_ f_; refine (caesuralaw21_Light.calls k0  a0_0 A0_1 c0_1 l0_1 A0_2 c0_2 l0_2  true _ (Kd.C_below (HR0_1.out) (S5_.out)) hc0_1 (Kd.C_below (HR0_2.out) (S5_.out)) hc0_2  hF_).mono ?_; clear hF_; rintro e w8_ ⟨rfl, hb_⟩; have S9_ := Q0.mk hb_; clear hb_; obtain ⟨c10_, c11_, c12_⟩ := cells3 (bb K7_.out (S9_.out))) | (go_at_call 46; have hF_ := Zl1.out; clear Zl1; (try clear c10_ c11_ c12_); refine (caesuralaw21_Light.calls k1  a1_0 A1_1 c1_1 l1_1 A1_2 c1_2 l1_2  false _ (Kd.C_below (HR1_1.out) (bsz (S5_.out) S9_.out)) hc1_1 (Kd.C_below (HR1_2.out) (bsz (S5_.out) S9_.out)) hc1_2  hF_).mono ?_; clear hF_; rintro e w13_ ⟨rfl, hb_⟩; have S14_ := Q0.mk hb_; clear hb_) | (go_at_call 73; have hF_ := ZW.out; clear ZW; refine (caesuralaw24_wakes.calls kw    true _   hF_).mono ?_; clear hF_; rintro e w15_ ⟨rfl, hb_⟩; have S16_ := Q0.mk hb_; clear hb_))
 go_ret
 exact ⟨rfl, bsz (bsz (bsz (S5_.out) S9_.out) S14_.out) S16_.out⟩
def ptellsgd.T18 : Bool × List (List Nat × List Nat) := (true, [([], []), ([0], [0]), ([], []), ([], []), ([3], [3]), ([], []), ([4, 5], [4, 5]), ([6], [6]), ([7], [7]), ([1, 2, 0, 1, 2, 3, 4, 5, 6, 7, 8], [1, 2]), ([9, 8, 0, 1, 2, 3, 4, 5, 6, 7, 8], [8, 9])])
def ptellsgd.B18 : List Nat := [0, 1, 0, 0, 8, 0, 56, 120, 248, 511, 1023]
theorem ptellsgd.tab18 : rtab .any (opsOf Try.f19 18) = ptellsgd.T18 := by kernel_rfl
theorem ptellsgd.bits18 : waitsOk ptellsgd.T18.2 ptellsgd.B18 = true := by kernel_rfl
/-- The first i turned round. -/
def flipTo (l : List Bool) (i : Nat) : List Bool := (l.take i).map (!·) ++ l.drop i
theorem flipTo_zero (l : List Bool) : flipTo l 0 = l := by simp [flipTo]
theorem flipTo_all (l : List Bool) : flipTo l l.length = l.map (!·) := by simp [flipTo]
theorem flipTo_length (l : List Bool) (i : Nat) : (flipTo l i).length = l.length := by simp [flipTo]; omega
theorem flipTo_at {l : List Bool} {i : Nat} (h : i < l.length) : rdOf false (flipTo l i) (i : Int) = l.getD i false := by
 unfold rdOf flipTo
 rw [Int.toNat_natCast, List.getD_eq_getElem?_getD, List.getElem?_append_right (by simp; omega), List.getD_eq_getElem?_getD]
 simp [Nat.min_eq_left (Nat.le_of_lt h)]
theorem flipTo_step {l : List Bool} {i : Nat} (h : i < l.length) : flipTo l (i + 1) = (flipTo l i).set i (!l.getD i false) := by
 have hl : ((l.take i).map (!·)).length = i := by simp; omega
 unfold flipTo
 rw [List.set_append_right _ _ (by omega), hl, Nat.sub_self, List.drop_eq_getElem_cons h, sB, List.take_succ_eq_append_getElem h, List.map_append, List.append_assoc, List.getD_eq_getElem?_getD, List.getElem?_eq_getElem h]
 rfl
set_option maxHeartbeats 8000000 in
set_option maxRecDepth 100000 in
theorem ptells_main (k0 k1 kw q1 q2 q3 q4 p1 p2 p3 j1 j2 j3 i1 i2 i3 i4 i5 i6 : Nat) (a0_0 : Int) (A0_1 : Option Addr) (c0_1 : Nat) (l0_1 : List (List Int)) (A0_2 : Option Addr) (c0_2 : Nat) (l0_2 : List Bool) (a1_0 : Int) (A1_1 : Option Addr) (c1_1 : Nat) (l1_1 : List (List Int)) (A1_2 : Option Addr) (c1_2 : Nat) (l1_2 : List Bool) (a2 m : Int) (x1 : Int) (X1 : List (List Int)) (Y1 : List Bool) (n1 : Int) (x2 : Int) (X2 : List (List Int)) (Y2 : List Bool) (n2 : Int) (x3 : Int) (X3 : List (List Int)) (Y3 : List Bool) (n3 : Int) (x4 : Int) (X4 : List (List Int)) (Y4 : List Bool) (YF : List Bool) (gd : Bool) (w : World) (hr0_1 : Kd.C (Kd.slice 3 (Kd.int .i64)) w A0_1 l0_1.length l0_1) (hc0_1 : l0_1.length ≤ c0_1) (hr0_2 : Kd.C Kd.bool w A0_2 l0_2.length l0_2) (hc0_2 : l0_2.length ≤ c0_2) (hr1_1 : Kd.C (Kd.slice 3 (Kd.int .i64)) w A1_1 l1_1.length l1_1) (hc1_1 : l1_1.length ≤ c1_1) (hr1_2 : Kd.C Kd.bool w A1_2 l1_2.length l1_2) (hc1_2 : l1_2.length ≤ c1_2) (h0 : caesuralaw21_Light.f k0 a0_0 l0_1 l0_2 = some true) (h1 : caesuralaw21_Light.f k1 a1_0 l1_1 l1_2 = some true) (hm : m = if (300 : Int) < a2 then 300 else a2) (hl : gd = true → 0 < l0_2.length) (hll : l0_2.length ≤ 1000000) (hYF : YF = l0_2.map (!·)) (hw : caesuralaw24_wakes.f kw = some true)
  (e1 : product_Both.f q1 a0_0 l0_1 l0_2 a1_0 l1_1 l1_2 m = some (x1, X1, Y1, n1)) (e2 : product_Some.f q2 a0_0 l0_1 l0_2 a1_0 l1_1 l1_2 m = some (x2, X2, Y2, n2)) (e3 : product_Less.f q3 a0_0 l0_1 l0_2 a1_0 l1_1 l1_2 m = some (x3, X3, Y3, n3)) (f1 : prodF (refE 1) p1 a0_0 l0_1 l0_2 a1_0 l1_1 l1_2 m = some (x1, X1, Y1, n1)) (f2 : prodF (refE 2) p2 a0_0 l0_1 l0_2 a1_0 l1_1 l1_2 m = some (x2, X2, Y2, n2)) (f3 : prodF (refE 3) p3 a0_0 l0_1 l0_2 a1_0 l1_1 l1_2 m = some (x3, X3, Y3, n3)) (e4 : product_Not.f q4 a0_0 l0_1 l0_2 = some (x4, X4, Y4, gd)) (o1 : caesurakeep_OwnAutomaton.f j1 a0_0 l0_1 l0_2 = some (a0_0, l0_1, l0_2)) (o2 : caesurakeep_OwnAutomaton.f j2 a1_0 l1_1 l1_2 = some (a1_0, l1_1, l1_2)) (g1 : caesuraref19_Good.f j3 a0_0 l0_1 l0_2 = some gd) (s1 : caesurakeep_Automaton.f i1 x1 X1 Y1 x1 X1 Y1 = some true) (s2 : caesurakeep_Automaton.f i2 x2 X2 Y2 x2 X2 Y2 = some true) (s3 : caesurakeep_Automaton.f i3 x3 X3 Y3 x3 X3 Y3 = some true) (s4 : gd = true → caesurakeep_Automaton.f i4 x4 X4 Y4 a0_0 l0_1 YF = some true) (s7 : gd = false → caesurakeep_Automaton.f i4 x4 X4 Y4 0 [] [] = some true) (s5 : caesurakeep_Automaton.f i5 a0_0 l0_1 l0_2 a0_0 l0_1 l0_2 = some true) (s6 : caesurakeep_Automaton.f i6 a1_0 l1_1 l1_2 a1_0 l1_1 l1_2 = some true) :
  Calls Try.prog 19 #[.agg #[.int .i64 a0_0, .slice A0_1 l0_1.length c0_1, .slice A0_2 l0_2.length c0_2], .agg #[.int .i64 a1_0, .slice A1_1 l1_1.length c1_1, .slice A1_2 l1_2.length c1_2], .int .i64 a2] w fun e w' => e = .returned (.bool true) ∧ Below w.heap.size w w' := by
 have hu25 := Try.underlying25
 have hu45 := Try.underlying45
 have hu22 := Try.underlying22
 have hu23 := Try.underlying23
 have HR0_1 := Q0.mk hr0_1
 have HR0_2 := Q0.mk hr0_2
 clear hr0_1 hr0_2
 have HR1_1 := Q0.mk hr1_1
 have HR1_2 := Q0.mk hr1_2
 clear hr1_1 hr1_2
 have Zl0 := Q0.mk h0
 have Zl1 := Q0.mk h1
 have ZW := Q0.mk hw
 clear h0 h1 hw
 have Ze1 := Q0.mk e1
 clear e1
 have Ze2 := Q0.mk e2
 clear e2
 have Ze3 := Q0.mk e3
 clear e3
 have Zf1 := Q0.mk f1
 clear f1
 have Zf2 := Q0.mk f2
 clear f2
 have Zf3 := Q0.mk f3
 clear f3
 have Ze4 := Q0.mk e4
 clear e4
 have Zo1 := Q0.mk o1
 clear o1
 have Zo2 := Q0.mk o2
 clear o2
 have Zg1 := Q0.mk g1
 clear g1
 have Zs1 := Q0.mk s1
 clear s1
 have Zs2 := Q0.mk s2
 clear s2
 have Zs3 := Q0.mk s3
 clear s3
 have Zs4 := Q0.mk s4
 clear s4
 have Zs7 := Q0.mk s7
 clear s7
 have Zs5 := Q0.mk s5
 clear s5
 have Zs6 := Q0.mk s6
 clear s6
 have Zg2 := Zg1
 have Zs4_ := Zs4
 clear Zs4
 have ZL_ := Q0.mk (And.intro hl hll)
 have ZYF := Q0.mk hYF
 clear hl hll hYF
 have hif_ : (if (300 : Int) < a2 then (300 : Int) else a2) = m := hm.symm
 clear hm
 obtain ⟨c1_, c2_, c3_⟩ := cells3 (show ((w.alloc (.cells #[.int .i64 a0_0, .slice A0_1 l0_1.length c0_1, .slice A0_2 l0_2.length c0_2] 25)).alloc (.cells #[.int .i64 a1_0, .slice A1_1 l1_1.length c1_1, .slice A1_2 l1_2.length c1_2] 25)).heap[w.heap.size]? = some (.cells #[.int .i64 a0_0, .slice A0_1 l0_1.length c0_1, .slice A0_2 l0_2.length c0_2] 25 (0, 0)) from bA (new_at _ (by simp)) _)
 go_enter Try.func19, Try.ntmps19
 go_wp2_with (first | (go_at_call 46; have hF_ := Zl0.out; clear Zl0; (try clear c1_ c2_ c3_); refine calls_new (v := w) (F := fun W => W.heap[w.heap.size]? = some (.cells #[.int .i64 a0_0, .slice A0_1 l0_1.length c0_1, .slice A0_2 l0_2.length c0_2] 25 (0, 0)) ∧ W.heap[w.heap.size + 1]? = some (.cells #[.int .i64 a1_0, .slice A1_1 l1_1.length c1_1, .slice A1_2 l1_2.length c1_2] 25 (0, 0))) (ba (ba (Below.refl _ _) (.cells #[.int .i64 a0_0, .slice A0_1 l0_1.length c0_1, .slice A0_2 l0_2.length c0_2] 25)) (.cells #[.int .i64 a1_0, .slice A1_1 l1_1.length c1_1, .slice A1_2 l1_2.length c1_2] 25)) (⟨bA (new_at _ (by simp)) _, new_at _ (by simp)⟩) (fun w4_ b_ f_ => ?_); have S5_ := Q0.mk b_; have K6_ := Q0.mk f_.1; have K7_ := Q0.mk f_.2; clear b_ f_; refine (caesuralaw21_Light.calls k0  a0_0 A0_1 c0_1 l0_1 A0_2 c0_2 l0_2  true _ (Kd.C_below (HR0_1.out) (S5_.out)) hc0_1 (Kd.C_below (HR0_2.out) (S5_.out)) hc0_2  hF_).mono ?_; clear hF_; rintro e w8_ ⟨rfl, hb_⟩; have S9_ := Q0.mk hb_; clear hb_; obtain ⟨c10_, c11_, c12_⟩ := cells3 (bb K7_.out (S9_.out))) | (go_at_call 46; have hF_ := Zl1.out; clear Zl1; (try clear c10_ c11_ c12_); refine (caesuralaw21_Light.calls k1  a1_0 A1_1 c1_1 l1_1 A1_2 c1_2 l1_2  true _ (Kd.C_below (HR1_1.out) (bsz (S5_.out) S9_.out)) hc1_1 (Kd.C_below (HR1_2.out) (bsz (S5_.out) S9_.out)) hc1_2  hF_).mono ?_; clear hF_; rintro e w13_ ⟨rfl, hb_⟩; have S14_ := Q0.mk hb_; clear hb_))
 have HH := Q0.mk (Hold.refl w13_).drew
 rename_i hKK_
 refine any_order 8 (fun A0 d a' w' => ∃ (t35 t36 t37 t38 t7 t8 : Value) (P1a : Option Addr) (p1a : Nat) (P1b : Option Addr) (p1b : Nat) (P3a : Option Addr) (p3a : Nat) (P3b : Option Addr) (p3b : Nat) (g4 : Nat) (g5 : Nat), a' = putAll A0 [(35, t35), (36, t36), (37, t37), (38, t38), (7, t7), (8, t8)] ∧ Q0 ((d 0 = true → t35 = .agg #[.int .i64 a0_0, .slice A0_1 l0_1.length c0_1, .slice A0_2 l0_2.length c0_2]) ∧ (d 1 = true → t36 = .agg #[.int .i64 a0_0, .slice P1a l0_1.length p1a, .slice P1b l0_2.length p1b]) ∧ (d 2 = true → t37 = .agg #[.int .i64 a1_0, .slice A1_1 l1_1.length c1_1, .slice A1_2 l1_2.length c1_2]) ∧ (d 3 = true → t38 = .agg #[.int .i64 a1_0, .slice P3a l1_1.length p3a, .slice P3b l1_2.length p3b]) ∧ (d 4 = true → t7 = .pointer (some ⟨g4, 0, none⟩)) ∧ (d 5 = true → t8 = .pointer (some ⟨g5, 0, none⟩))) ∧ Q0 (Hold w13_ w' (optl (d 4) (g4, sel (d 6) (#[.int .i64 0, .slice none 0 0, .slice none 0 0]) (#[.int .i64 a0_0, .slice P1a l0_1.length p1a, .slice P1b l0_2.length p1b]), 25) ++ (optl (d 5) (g5, sel (d 7) (#[.int .i64 0, .slice none 0 0, .slice none 0 0]) (#[.int .i64 a1_0, .slice P3a l1_1.length p3a, .slice P3b l1_2.length p3b]), 25) ++ [])) ([]) (optl (d 3) (.slice P3a l1_1.length p3a, l1_1) ++ (optl (d 1) (.slice P1a l0_1.length p1a, l0_1) ++ [])) (optl (d 3) (.slice P3b l1_2.length p3b, l1_2) ++ (optl (d 1) (.slice P1b l0_2.length p1b, l0_2) ++ [])))) rfl rfl (by kernel_rfl) ?_ ?_ ?_
 ·exact ⟨_, _, _, _, _, _, none, 0, none, 0, none, 0, none, 0, 0, 0, by first | (simp only [putAll, Act.put, sA, sB, sC]; done) | (simp only [putAll, Act.put, sA, sB, sC]; rfl), ⟨none0 (i := 0), none0 (i := 1), none0 (i := 2), none0 (i := 3), none0 (i := 4), none0 (i := 5)⟩, ⟨HH.out⟩⟩
 ·intro Q'
  clear hKK_
  refine ⟨?_, ?_, ?_, ?_, ?_, ?_, ?_, ?_, trivial⟩
  ·intro d a' w'
   refine ei fun t35 => ei fun t36 => ei fun t37 => ei fun t38 => ei fun t7 => ei fun t8 => ei fun P1a => ei fun p1a => ei fun P1b => ei fun p1b => ei fun P3a => ei fun p3a => ei fun P3b => ei fun p3b => ei fun g4 => ei fun g5 => fun hI hd hcl hdep K hK => ?_
   have ha := hI.1
   have hF := hI.2.1
   have hH := hI.2.2
   clear hI
   have h_ := hH.out
   refine norm_if (a' := ?_) (ha.trans ?_) ?_
   rotate_left
   ·simp only [putAll, Act.put, sA, sB, sC]
    rfl
   have c0_ : w'.cell? ⟨w.heap.size, 0, none⟩ = some (.int .i64 a0_0) := (bcz (bb K6_.out (bsz (bsz (S9_.out) S14_.out) (h_.low))) 0).trans rfl
   have c1_ : w'.cell? ⟨w.heap.size, 1, none⟩ = some (.slice A0_1 l0_1.length c0_1) := (bcz (bb K6_.out (bsz (bsz (S9_.out) S14_.out) (h_.low))) 1).trans rfl
   have c2_ : w'.cell? ⟨w.heap.size, 2, none⟩ = some (.slice A0_2 l0_2.length c0_2) := (bcz (bb K6_.out (bsz (bsz (S9_.out) S14_.out) (h_.low))) 2).trans rfl
   refine value_ (w1 := ?_) (v := ?_) (by rfl) rfl ?_ ?_
   rotate_left 2
   ·go_simp
    constructor
    ·rfl
    ·rfl
   refine hK _ _ ⟨_, _, _, _, _, _, P1a, p1a, P1b, p1b, P3a, p3a, P3b, p3b, g4, g5, by first | (simp only [putAll, Act.put, sA, sB, sC]; done) | (simp only [putAll, Act.put, sA, sB, sC]; rfl) | rfl, ⟨(fun _ => rfl), (kept 0 hF.out.2.1 rfl), (kept 0 hF.out.2.2.1 rfl), (kept 0 hF.out.2.2.2.1 rfl), (kept 0 hF.out.2.2.2.2.1 rfl), (kept 0 hF.out.2.2.2.2.2 rfl)⟩, ⟨?_⟩⟩
   exact hH.out
  ·intro d a' w'
   refine ei fun t35 => ei fun t36 => ei fun t37 => ei fun t38 => ei fun t7 => ei fun t8 => ei fun P1a => ei fun p1a => ei fun P1b => ei fun p1b => ei fun P3a => ei fun p3a => ei fun P3b => ei fun p3b => ei fun g4 => ei fun g5 => fun hI hd hcl hdep K hK => ?_
   have ha := hI.1
   have hF := hI.2.1
   have hH := hI.2.2
   clear hI
   have e0 := has_run hdep 0 rfl
   obtain rfl := hF.out.1 e0
   have n3 := not_yet hcl 3 1 rfl rfl hd
   have n6 := not_yet hcl 6 1 rfl rfl hd
   have h_ := hH.out
   simp only [hd, n3, n6, optl, sel, cond_true, cond_false, List.nil_append, List.cons_append] at h_
   refine norm_if (a' := ?_) (ha.trans ?_) ?_
   rotate_left
   ·simp only [putAll, Act.put, sA, sB, sC]
    rfl
   refine goes_ Try.func26 (by kernel_rfl) rfl #[.agg #[.int .i64 a0_0, .slice A0_1 l0_1.length c0_1, .slice A0_2 l0_2.length c0_2]] (by rfl) rfl rfl (by simp only [List.map_toArray, List.map_cons, List.map_nil]; rfl) ?_
   refine (caesurakeep_OwnAutomaton.calls j1  a0_0 A0_1 c0_1 l0_1 A0_2 c0_2 l0_2  a0_0 l0_1 l0_2 w' (Kd.C_below (HR0_1.out) (bsz (bsz (bsz (S5_.out) S9_.out) S14_.out) (h_.low))) hc0_1 (Kd.C_below (HR0_2.out) (bsz (bsz (bsz (S5_.out) S9_.out) S14_.out) (h_.low))) hc0_2 Zo1.out).mono ?_
   rintro e wm ⟨v1_, v2_, rfl, hS_, hR_, hb_⟩
   obtain ⟨Q1_, q1_, rfl⟩ := Kd.S_slice hS_
   obtain ⟨Q2_, q2_, rfl⟩ := Kd.R_slice hR_
   refine ⟨_, rfl, ?_⟩
   refine hK _ _ ⟨_, _, _, _, _, _, Q1_, q1_, Q2_, q2_, P3a, p3a, P3b, p3b, g4, g5, by first | (simp only [putAll, Act.put, sA, sB, sC]; done) | (simp only [putAll, Act.put, sA, sB, sC]; rfl) | rfl, ⟨(kept 1 hF.out.1 rfl), (fun _ => rfl), (kept 1 hF.out.2.2.1 rfl), (kept 1 hF.out.2.2.2.1 rfl), (kept 1 hF.out.2.2.2.2.1 rfl), (kept 1 hF.out.2.2.2.2.2 rfl)⟩, ⟨?_⟩⟩
   rw [show also d 1 3 = false from n3, show also d 1 6 = false from n6]
   exact h_.aut hS_ hR_ hb_
  ·intro d a' w'
   refine ei fun t35 => ei fun t36 => ei fun t37 => ei fun t38 => ei fun t7 => ei fun t8 => ei fun P1a => ei fun p1a => ei fun P1b => ei fun p1b => ei fun P3a => ei fun p3a => ei fun P3b => ei fun p3b => ei fun g4 => ei fun g5 => fun hI hd hcl hdep K hK => ?_
   have ha := hI.1
   have hF := hI.2.1
   have hH := hI.2.2
   clear hI
   have h_ := hH.out
   refine norm_if (a' := ?_) (ha.trans ?_) ?_
   rotate_left
   ·simp only [putAll, Act.put, sA, sB, sC]
    rfl
   have c0_ : w'.cell? ⟨w.heap.size + 1, 0, none⟩ = some (.int .i64 a1_0) := (bcz (bb K7_.out (bsz (bsz (S9_.out) S14_.out) (h_.low))) 0).trans rfl
   have c1_ : w'.cell? ⟨w.heap.size + 1, 1, none⟩ = some (.slice A1_1 l1_1.length c1_1) := (bcz (bb K7_.out (bsz (bsz (S9_.out) S14_.out) (h_.low))) 1).trans rfl
   have c2_ : w'.cell? ⟨w.heap.size + 1, 2, none⟩ = some (.slice A1_2 l1_2.length c1_2) := (bcz (bb K7_.out (bsz (bsz (S9_.out) S14_.out) (h_.low))) 2).trans rfl
   refine value_ (w1 := ?_) (v := ?_) (by rfl) rfl ?_ ?_
   rotate_left 2
   ·go_simp
    constructor
    ·rfl
    ·rfl
   refine hK _ _ ⟨_, _, _, _, _, _, P1a, p1a, P1b, p1b, P3a, p3a, P3b, p3b, g4, g5, by first | (simp only [putAll, Act.put, sA, sB, sC]; done) | (simp only [putAll, Act.put, sA, sB, sC]; rfl) | rfl, ⟨(kept 2 hF.out.1 rfl), (kept 2 hF.out.2.1 rfl), (fun _ => rfl), (kept 2 hF.out.2.2.2.1 rfl), (kept 2 hF.out.2.2.2.2.1 rfl), (kept 2 hF.out.2.2.2.2.2 rfl)⟩, ⟨?_⟩⟩
   exact hH.out
  ·intro d a' w'
   refine ei fun t35 => ei fun t36 => ei fun t37 => ei fun t38 => ei fun t7 => ei fun t8 => ei fun P1a => ei fun p1a => ei fun P1b => ei fun p1b => ei fun P3a => ei fun p3a => ei fun P3b => ei fun p3b => ei fun g4 => ei fun g5 => fun hI hd hcl hdep K hK => ?_
   have ha := hI.1
   have hF := hI.2.1
   have hH := hI.2.2
   clear hI
   have e2 := has_run hdep 2 rfl
   obtain rfl := hF.out.2.2.1 e2
   have n7 := not_yet hcl 7 3 rfl rfl hd
   have h_ := hH.out
   simp only [hd, n7, optl, sel, cond_true, cond_false, List.nil_append, List.cons_append] at h_
   refine norm_if (a' := ?_) (ha.trans ?_) ?_
   rotate_left
   ·simp only [putAll, Act.put, sA, sB, sC]
    rfl
   refine goes_ Try.func26 (by kernel_rfl) rfl #[.agg #[.int .i64 a1_0, .slice A1_1 l1_1.length c1_1, .slice A1_2 l1_2.length c1_2]] (by rfl) rfl rfl (by simp only [List.map_toArray, List.map_cons, List.map_nil]; rfl) ?_
   refine (caesurakeep_OwnAutomaton.calls j2  a1_0 A1_1 c1_1 l1_1 A1_2 c1_2 l1_2  a1_0 l1_1 l1_2 w' (Kd.C_below (HR1_1.out) (bsz (bsz (bsz (S5_.out) S9_.out) S14_.out) (h_.low))) hc1_1 (Kd.C_below (HR1_2.out) (bsz (bsz (bsz (S5_.out) S9_.out) S14_.out) (h_.low))) hc1_2 Zo2.out).mono ?_
   rintro e wm ⟨v1_, v2_, rfl, hS_, hR_, hb_⟩
   obtain ⟨Q1_, q1_, rfl⟩ := Kd.S_slice hS_
   obtain ⟨Q2_, q2_, rfl⟩ := Kd.R_slice hR_
   refine ⟨_, rfl, ?_⟩
   refine hK _ _ ⟨_, _, _, _, _, _, P1a, p1a, P1b, p1b, Q1_, q1_, Q2_, q2_, g4, g5, by first | (simp only [putAll, Act.put, sA, sB, sC]; done) | (simp only [putAll, Act.put, sA, sB, sC]; rfl) | rfl, ⟨(kept 3 hF.out.1 rfl), (kept 3 hF.out.2.1 rfl), (kept 3 hF.out.2.2.1 rfl), (fun _ => rfl), (kept 3 hF.out.2.2.2.2.1 rfl), (kept 3 hF.out.2.2.2.2.2 rfl)⟩, ⟨?_⟩⟩
   rw [show also d 3 7 = false from n7]
   exact h_.aut hS_ hR_ hb_
  ·intro d a' w'
   refine ei fun t35 => ei fun t36 => ei fun t37 => ei fun t38 => ei fun t7 => ei fun t8 => ei fun P1a => ei fun p1a => ei fun P1b => ei fun p1b => ei fun P3a => ei fun p3a => ei fun P3b => ei fun p3b => ei fun g4 => ei fun g5 => fun hI hd hcl hdep K hK => ?_
   have ha := hI.1
   have hF := hI.2.1
   have hH := hI.2.2
   clear hI
   have n6 := not_yet hcl 6 4 rfl rfl hd
   have h_ := hH.out
   simp only [hd, n6, optl, sel, cond_true, cond_false, List.nil_append, List.cons_append] at h_
   refine norm_if (a' := ?_) (ha.trans ?_) ?_
   rotate_left
   ·simp only [putAll, Act.put, sA, sB, sC]
    rfl
   refine value_ (w1 := ?_) (v := ?_) (by rfl) rfl ?_ ?_
   rotate_left 2
   ·go_simp
    constructor
    ·rfl
    ·rfl
   refine hK _ _ ⟨_, _, _, _, _, _, P1a, p1a, P1b, p1b, P3a, p3a, P3b, p3b, w'.heap.size, g5, by first | (simp only [putAll, Act.put, sA, sB, sC]; done) | (simp only [putAll, Act.put, sA, sB, sC]; rfl) | rfl, ⟨(kept 4 hF.out.1 rfl), (kept 4 hF.out.2.1 rfl), (kept 4 hF.out.2.2.1 rfl), (kept 4 hF.out.2.2.2.1 rfl), (fun _ => rfl), (kept 4 hF.out.2.2.2.2.2 rfl)⟩, ⟨?_⟩⟩
   rw [show also d 4 6 = false from n6]
   exact Hold.alloc (b1 := []) h_ #[.int .i64 0, .slice none 0 0, .slice none 0 0] 25
  ·intro d a' w'
   refine ei fun t35 => ei fun t36 => ei fun t37 => ei fun t38 => ei fun t7 => ei fun t8 => ei fun P1a => ei fun p1a => ei fun P1b => ei fun p1b => ei fun P3a => ei fun p3a => ei fun P3b => ei fun p3b => ei fun g4 => ei fun g5 => fun hI hd hcl hdep K hK => ?_
   have ha := hI.1
   have hF := hI.2.1
   have hH := hI.2.2
   clear hI
   have n7 := not_yet hcl 7 5 rfl rfl hd
   have h_ := hH.out
   simp only [hd, n7, optl, sel, cond_true, cond_false, List.nil_append, List.cons_append] at h_
   refine norm_if (a' := ?_) (ha.trans ?_) ?_
   rotate_left
   ·simp only [putAll, Act.put, sA, sB, sC]
    rfl
   refine value_ (w1 := ?_) (v := ?_) (by rfl) rfl ?_ ?_
   rotate_left 2
   ·go_simp
    constructor
    ·rfl
    ·rfl
   refine hK _ _ ⟨_, _, _, _, _, _, P1a, p1a, P1b, p1b, P3a, p3a, P3b, p3b, g4, w'.heap.size, by first | (simp only [putAll, Act.put, sA, sB, sC]; done) | (simp only [putAll, Act.put, sA, sB, sC]; rfl) | rfl, ⟨(kept 5 hF.out.1 rfl), (kept 5 hF.out.2.1 rfl), (kept 5 hF.out.2.2.1 rfl), (kept 5 hF.out.2.2.2.1 rfl), (kept 5 hF.out.2.2.2.2.1 rfl), (fun _ => rfl)⟩, ⟨?_⟩⟩
   rw [show also d 5 7 = false from n7]
   exact Hold.alloc h_ #[.int .i64 0, .slice none 0 0, .slice none 0 0] 25
  ·intro d a' w'
   refine ei fun t35 => ei fun t36 => ei fun t37 => ei fun t38 => ei fun t7 => ei fun t8 => ei fun P1a => ei fun p1a => ei fun P1b => ei fun p1b => ei fun P3a => ei fun p3a => ei fun P3b => ei fun p3b => ei fun g4 => ei fun g5 => fun hI hd hcl hdep K hK => ?_
   have ha := hI.1
   have hF := hI.2.1
   have hH := hI.2.2
   clear hI
   have e1 := has_run hdep 1 rfl
   obtain rfl := hF.out.2.1 e1
   have e4 := has_run hdep 4 rfl
   obtain rfl := hF.out.2.2.2.2.1 e4
   have e5 := has_run hdep 5 rfl
   have n7 := not_yet hcl 7 6 rfl rfl hd
   have h_ := hH.out
   simp only [hd, e4, e5, n7, optl, sel, cond_true, cond_false, List.nil_append, List.cons_append] at h_
   refine norm_if (a' := ?_) (ha.trans ?_) ?_
   rotate_left
   ·simp only [putAll, Act.put, sA, sB, sC]
    rfl
   have hb_ := h_.blks (g4, #[.int .i64 0, .slice none 0 0, .slice none 0 0], 25) (by simp)
   have hc0_ : w'.cell? ⟨g4, 0, none⟩ = some (.int .i64 0) := (bcz hb_ 0).trans rfl
   have hf0_ := bf hb_ 0
   have hc1_ : w'.cell? ⟨g4, 1, none⟩ = some (.slice none 0 0) := (bcz hb_ 1).trans rfl
   have hf1_ := bf hb_ 1
   have hc2_ : w'.cell? ⟨g4, 2, none⟩ = some (.slice none 0 0) := (bcz hb_ 2).trans rfl
   have hf2_ := bf hb_ 2
   clear hb_
   refine skip_ (w1 := ?_) (by rfl) rfl ?_ ?_
   rotate_left
   ·go_simp
    rfl
   refine hK _ _ ⟨_, _, _, _, _, _, P1a, p1a, P1b, p1b, P3a, p3a, P3b, p3b, g4, g5, by first | (simp only [putAll, Act.put, sA, sB, sC]; done) | (simp only [putAll, Act.put, sA, sB, sC]; rfl) | rfl, ⟨(kept 6 hF.out.1 rfl), (kept 6 hF.out.2.1 rfl), (kept 6 hF.out.2.2.1 rfl), (kept 6 hF.out.2.2.2.1 rfl), (kept 6 hF.out.2.2.2.2.1 rfl), (kept 6 hF.out.2.2.2.2.2 rfl)⟩, ⟨?_⟩⟩
   rw [show also d 6 4 = true from e4, show also d 6 5 = true from e5, show also d 6 7 = false from n7]
   exact (Hold.put (b1 := []) (b2 := (g5, #[.int .i64 0, .slice none 0 0, .slice none 0 0], 25) :: []) (Hold.put (b1 := []) (b2 := (g5, #[.int .i64 0, .slice none 0 0, .slice none 0 0], 25) :: []) (Hold.put (b1 := []) (b2 := (g5, #[.int .i64 0, .slice none 0 0, .slice none 0 0], 25) :: []) h_ 0 (.int .i64 a0_0) own25 rfl) 1 (.slice P1a l0_1.length p1a) own25 rfl) 2 (.slice P1b l0_2.length p1b) own25 rfl)
  ·intro d a' w'
   refine ei fun t35 => ei fun t36 => ei fun t37 => ei fun t38 => ei fun t7 => ei fun t8 => ei fun P1a => ei fun p1a => ei fun P1b => ei fun p1b => ei fun P3a => ei fun p3a => ei fun P3b => ei fun p3b => ei fun g4 => ei fun g5 => fun hI hd hcl hdep K hK => ?_
   have ha := hI.1
   have hF := hI.2.1
   have hH := hI.2.2
   clear hI
   have e3 := has_run hdep 3 rfl
   obtain rfl := hF.out.2.2.2.1 e3
   have e5 := has_run hdep 5 rfl
   obtain rfl := hF.out.2.2.2.2.2 e5
   have e4 := has_run hdep 4 rfl
   have e6 := has_run hdep 6 rfl
   have h_ := hH.out
   simp only [hd, e4, e5, e6, optl, sel, cond_true, cond_false, List.nil_append, List.cons_append] at h_
   refine norm_if (a' := ?_) (ha.trans ?_) ?_
   rotate_left
   ·simp only [putAll, Act.put, sA, sB, sC]
    rfl
   have hb_ := h_.blks (g5, #[.int .i64 0, .slice none 0 0, .slice none 0 0], 25) (by simp)
   have hc0_ : w'.cell? ⟨g5, 0, none⟩ = some (.int .i64 0) := (bcz hb_ 0).trans rfl
   have hf0_ := bf hb_ 0
   have hc1_ : w'.cell? ⟨g5, 1, none⟩ = some (.slice none 0 0) := (bcz hb_ 1).trans rfl
   have hf1_ := bf hb_ 1
   have hc2_ : w'.cell? ⟨g5, 2, none⟩ = some (.slice none 0 0) := (bcz hb_ 2).trans rfl
   have hf2_ := bf hb_ 2
   clear hb_
   refine skip_ (w1 := ?_) (by rfl) rfl ?_ ?_
   rotate_left
   ·go_simp
    rfl
   refine hK _ _ ⟨_, _, _, _, _, _, P1a, p1a, P1b, p1b, P3a, p3a, P3b, p3b, g4, g5, by first | (simp only [putAll, Act.put, sA, sB, sC]; done) | (simp only [putAll, Act.put, sA, sB, sC]; rfl) | rfl, ⟨(kept 7 hF.out.1 rfl), (kept 7 hF.out.2.1 rfl), (kept 7 hF.out.2.2.1 rfl), (kept 7 hF.out.2.2.2.1 rfl), (kept 7 hF.out.2.2.2.2.1 rfl), (kept 7 hF.out.2.2.2.2.2 rfl)⟩, ⟨?_⟩⟩
   rw [show also d 7 4 = true from e4, show also d 7 5 = true from e5, show also d 7 6 = true from e6]
   exact (Hold.put (b1 := [(g4, #[.int .i64 a0_0, .slice P1a l0_1.length p1a, .slice P1b l0_2.length p1b], 25)]) (b2 := []) (Hold.put (b1 := [(g4, #[.int .i64 a0_0, .slice P1a l0_1.length p1a, .slice P1b l0_2.length p1b], 25)]) (b2 := []) (Hold.put (b1 := [(g4, #[.int .i64 a0_0, .slice P1a l0_1.length p1a, .slice P1b l0_2.length p1b], 25)]) (b2 := []) h_ 0 (.int .i64 a1_0) own25 rfl) 1 (.slice P3a l1_1.length p3a) own25 rfl) 2 (.slice P3b l1_2.length p3b) own25 rfl)
 intro d a' wr3
 refine ei fun t35 => ei fun t36 => ei fun t37 => ei fun t38 => ei fun t7 => ei fun t8 => ei fun P1a => ei fun p1a => ei fun P1b => ei fun p1b => ei fun P3a => ei fun p3a => ei fun P3b => ei fun p3b => ei fun g4 => ei fun g5 => fun hI hall => ?_
 have ha := hI.1
 have hF := hI.2.1
 have hH := hI.2.2
 clear hI
 have e0 := hall 0 (by decide)
 have e1 := hall 1 (by decide)
 have e2 := hall 2 (by decide)
 have e3 := hall 3 (by decide)
 have e4 := hall 4 (by decide)
 have e5 := hall 5 (by decide)
 have e6 := hall 6 (by decide)
 have e7 := hall 7 (by decide)
 obtain rfl := hF.out.1 e0
 obtain rfl := hF.out.2.1 e1
 obtain rfl := hF.out.2.2.1 e2
 obtain rfl := hF.out.2.2.2.1 e3
 obtain rfl := hF.out.2.2.2.2.1 e4
 obtain rfl := hF.out.2.2.2.2.2 e5
 subst ha
 have h_ := hH.out
 clear hH hF HH
 simp only [e0, e1, e2, e3, e4, e5, e6, e7, optl, sel, cond_true, cond_false, List.nil_append, List.cons_append] at h_
 clear hall e0 e1 e2 e3 e4 e5 e6 e7
 simp only [putAll, Act.put, sA, sB, sC]
 have S15_ := Q0.mk h_.low
 have K16_ := Q0.mk (h_.blks (g4, #[.int .i64 a0_0, .slice P1a l0_1.length p1a, .slice P1b l0_2.length p1b], 25) (by simp))
 have K17_ := Q0.mk (h_.blks (g5, #[.int .i64 a1_0, .slice P3a l1_1.length p3a, .slice P3b l1_2.length p3b], 25) (by simp))
 have K18_ := Q0.mk (h_.C_rows (A := P1a) (c := p1a) (n := l0_1.length) (L := l0_1) (by simp)).2
 have K19_ := Q0.mk (h_.C_ends (A := P1b) (c := p1b) (n := l0_2.length) (L := l0_2) (by simp)).2
 have K20_ := Q0.mk (h_.C_rows (A := P3a) (c := p3a) (n := l1_1.length) (L := l1_1) (by simp)).2
 have K21_ := Q0.mk (h_.C_ends (A := P3b) (c := p3b) (n := l1_2.length) (L := l1_2) (by simp)).2
 clear h_
 obtain ⟨c22_, c23_, c24_⟩ := cells3 (bb K16_.out (Below.refl _ _))
 obtain ⟨c25_, c26_, c27_⟩ := cells3 (bb K17_.out (Below.refl _ _))
 go_wp2_with (first | (go_at_call 74; have hF_ := Ze1.out; clear Ze1; (try clear c22_ c23_ c24_ c25_ c26_ c27_); refine (product_Both.calls q1  a0_0 P1a p1a l0_1 P1b p1b l0_2 a1_0 P3a p3a l1_1 P3b p3b l1_2 m x1 X1 Y1 n1 _ (Kd.C_below (K18_.out.2) (Below.refl _ _)) K18_.out.1 (Kd.C_below (K19_.out.2) (Below.refl _ _)) K19_.out.1 (Kd.C_below (K20_.out.2) (Below.refl _ _)) K20_.out.1 (Kd.C_below (K21_.out.2) (Below.refl _ _)) K21_.out.1  hF_).mono ?_; clear hF_; rintro e w28_ ⟨u_, v_, rfl, hS_, hR_, hb_⟩; obtain ⟨A30_, c31_, rfl⟩ := Kd.S_slice hS_; obtain ⟨A32_, c33_, rfl⟩ := Kd.R_slice hR_; have K34_ := Q0.mk (Kd.R_reads' (Kd.S_R hS_)).2.2; have L35_ := Q0.mk (Kd.R_reads' (Kd.S_R hS_)).2.1; have K36_ := Q0.mk (Kd.R_reads' hR_).2.2; have L37_ := Q0.mk (Kd.R_reads' hR_).2.1; clear hS_ hR_; have S29_ := Q0.mk hb_; clear hb_; obtain ⟨c38_, c39_, c40_⟩ := cells3 (bb K16_.out (bsz (S29_.out) (ba (Below.refl _ _) (.cells #[.int .i64 x1, .slice A30_ X1.length c31_, .slice A32_ Y1.length c33_] 25)))); obtain ⟨c41_, c42_, c43_⟩ := cells3 (bb K17_.out (bsz (S29_.out) (ba (Below.refl _ _) (.cells #[.int .i64 x1, .slice A30_ X1.length c31_, .slice A32_ Y1.length c33_] 25))))) | (go_at_call 75; have hF_ := Ze2.out; clear Ze2; (try clear c38_ c39_ c40_ c41_ c42_ c43_); refine calls_new (v := w28_) (F := fun W => W.heap[w28_.heap.size]? = some (.cells #[.int .i64 x1, .slice A30_ X1.length c31_, .slice A32_ Y1.length c33_] 25 (0, 0))) (ba (Below.refl _ _) (.cells #[.int .i64 x1, .slice A30_ X1.length c31_, .slice A32_ Y1.length c33_] 25)) (new_at _ (by simp)) (fun w44_ b_ f_ => ?_); have S45_ := Q0.mk b_; have K46_ := Q0.mk f_; clear b_ f_; refine (product_Some.calls q2  a0_0 P1a p1a l0_1 P1b p1b l0_2 a1_0 P3a p3a l1_1 P3b p3b l1_2 m x2 X2 Y2 n2 _ (Kd.C_below (K18_.out.2) (bsz (S29_.out) S45_.out)) K18_.out.1 (Kd.C_below (K19_.out.2) (bsz (S29_.out) S45_.out)) K19_.out.1 (Kd.C_below (K20_.out.2) (bsz (S29_.out) S45_.out)) K20_.out.1 (Kd.C_below (K21_.out.2) (bsz (S29_.out) S45_.out)) K21_.out.1  hF_).mono ?_; clear hF_; rintro e w47_ ⟨u_, v_, rfl, hS_, hR_, hb_⟩; obtain ⟨A49_, c50_, rfl⟩ := Kd.S_slice hS_; obtain ⟨A51_, c52_, rfl⟩ := Kd.R_slice hR_; have K53_ := Q0.mk (Kd.R_reads' (Kd.S_R hS_)).2.2; have L54_ := Q0.mk (Kd.R_reads' (Kd.S_R hS_)).2.1; have K55_ := Q0.mk (Kd.R_reads' hR_).2.2; have L56_ := Q0.mk (Kd.R_reads' hR_).2.1; clear hS_ hR_; have S48_ := Q0.mk hb_; clear hb_; obtain ⟨c57_, c58_, c59_⟩ := cells3 (bb K16_.out (bsz (bsz (bsz (S29_.out) S45_.out) S48_.out) (ba (Below.refl _ _) (.cells #[.int .i64 x2, .slice A49_ X2.length c50_, .slice A51_ Y2.length c52_] 25)))); obtain ⟨c60_, c61_, c62_⟩ := cells3 (bb K17_.out (bsz (bsz (bsz (S29_.out) S45_.out) S48_.out) (ba (Below.refl _ _) (.cells #[.int .i64 x2, .slice A49_ X2.length c50_, .slice A51_ Y2.length c52_] 25))))) | (go_at_call 76; have hF_ := Ze3.out; clear Ze3; (try clear c57_ c58_ c59_ c60_ c61_ c62_); refine calls_new (v := w47_) (F := fun W => W.heap[w47_.heap.size]? = some (.cells #[.int .i64 x2, .slice A49_ X2.length c50_, .slice A51_ Y2.length c52_] 25 (0, 0))) (ba (Below.refl _ _) (.cells #[.int .i64 x2, .slice A49_ X2.length c50_, .slice A51_ Y2.length c52_] 25)) (new_at _ (by simp)) (fun w63_ b_ f_ => ?_); have S64_ := Q0.mk b_; have K65_ := Q0.mk f_; clear b_ f_; refine (product_Less.calls q3  a0_0 P1a p1a l0_1 P1b p1b l0_2 a1_0 P3a p3a l1_1 P3b p3b l1_2 m x3 X3 Y3 n3 _ (Kd.C_below (K18_.out.2) (bsz (bsz (bsz (S29_.out) S45_.out) S48_.out) S64_.out)) K18_.out.1 (Kd.C_below (K19_.out.2) (bsz (bsz (bsz (S29_.out) S45_.out) S48_.out) S64_.out)) K19_.out.1 (Kd.C_below (K20_.out.2) (bsz (bsz (bsz (S29_.out) S45_.out) S48_.out) S64_.out)) K20_.out.1 (Kd.C_below (K21_.out.2) (bsz (bsz (bsz (S29_.out) S45_.out) S48_.out) S64_.out)) K21_.out.1  hF_).mono ?_; clear hF_; rintro e w66_ ⟨u_, v_, rfl, hS_, hR_, hb_⟩; obtain ⟨A68_, c69_, rfl⟩ := Kd.S_slice hS_; obtain ⟨A70_, c71_, rfl⟩ := Kd.R_slice hR_; have K72_ := Q0.mk (Kd.R_reads' (Kd.S_R hS_)).2.2; have L73_ := Q0.mk (Kd.R_reads' (Kd.S_R hS_)).2.1; have K74_ := Q0.mk (Kd.R_reads' hR_).2.2; have L75_ := Q0.mk (Kd.R_reads' hR_).2.1; clear hS_ hR_; have S67_ := Q0.mk hb_; clear hb_; obtain ⟨c76_, c77_, c78_⟩ := cells3 (bb K16_.out (bsz (bsz (bsz (bsz (bsz (S29_.out) S45_.out) S48_.out) S64_.out) S67_.out) (ba (Below.refl _ _) (.cells #[.int .i64 x3, .slice A68_ X3.length c69_, .slice A70_ Y3.length c71_] 25))))) | (go_at_call 77; have hF_ := Ze4.out; clear Ze4; (try clear c76_ c77_ c78_); refine calls_new (v := w66_) (F := fun W => W.heap[w66_.heap.size]? = some (.cells #[.int .i64 x3, .slice A68_ X3.length c69_, .slice A70_ Y3.length c71_] 25 (0, 0))) (ba (Below.refl _ _) (.cells #[.int .i64 x3, .slice A68_ X3.length c69_, .slice A70_ Y3.length c71_] 25)) (new_at _ (by simp)) (fun w79_ b_ f_ => ?_); have S80_ := Q0.mk b_; have K81_ := Q0.mk f_; clear b_ f_; refine (product_Not.calls q4  a0_0 P1a p1a l0_1 P1b p1b l0_2  x4 X4 Y4 gd _ (Kd.C_below (K18_.out.2) (bsz (bsz (bsz (bsz (bsz (S29_.out) S45_.out) S48_.out) S64_.out) S67_.out) S80_.out)) K18_.out.1 (Kd.C_below (K19_.out.2) (bsz (bsz (bsz (bsz (bsz (S29_.out) S45_.out) S48_.out) S64_.out) S67_.out) S80_.out)) K19_.out.1  hF_).mono ?_; clear hF_; rintro e w82_ ⟨u_, v_, rfl, hS_, hR_, hb_⟩; obtain ⟨A84_, c85_, rfl⟩ := Kd.S_slice hS_; obtain ⟨A86_, c87_, rfl⟩ := Kd.R_slice hR_; have K88_ := Q0.mk (Kd.R_reads' (Kd.S_R hS_)).2.2; have L89_ := Q0.mk (Kd.R_reads' (Kd.S_R hS_)).2.1; have K90_ := Q0.mk (Kd.R_reads' hR_).2.2; have L91_ := Q0.mk (Kd.R_reads' hR_).2.1; clear hS_ hR_; have S83_ := Q0.mk hb_; clear hb_; obtain ⟨c92_, c93_, c94_⟩ := cells3 (bb K6_.out (bsz (bsz (bsz (bsz (bsz (bsz (bsz (bsz (bsz (bsz (S9_.out) S14_.out) S15_.out) S29_.out) S45_.out) S48_.out) S64_.out) S67_.out) S80_.out) S83_.out) (ba (Below.refl _ _) (.cells #[.int .i64 x4, .slice A84_ X4.length c85_, .slice A86_ Y4.length c87_] 25)))); obtain ⟨c95_, c96_, c97_⟩ := cells3 (bb K7_.out (bsz (bsz (bsz (bsz (bsz (bsz (bsz (bsz (bsz (bsz (S9_.out) S14_.out) S15_.out) S29_.out) S45_.out) S48_.out) S64_.out) S67_.out) S80_.out) S83_.out) (ba (Below.refl _ _) (.cells #[.int .i64 x4, .slice A84_ X4.length c85_, .slice A86_ Y4.length c87_] 25))))) | (go_at_call 78; have hF_ := Zf1.out; clear Zf1; (try clear c92_ c93_ c94_ c95_ c96_ c97_); refine calls_new (v := w82_) (F := fun W => W.heap[w82_.heap.size]? = some (.cells #[.int .i64 x4, .slice A84_ X4.length c85_, .slice A86_ Y4.length c87_] 25 (0, 0))) (ba (Below.refl _ _) (.cells #[.int .i64 x4, .slice A84_ X4.length c85_, .slice A86_ Y4.length c87_] 25)) (new_at _ (by simp)) (fun w98_ b_ f_ => ?_); have S99_ := Q0.mk b_; have K100_ := Q0.mk f_; clear b_ f_; refine (ref24_Of.told 1 (.inl rfl) p1 a0_0 A0_1 c0_1 l0_1 A0_2 c0_2 l0_2 a1_0 A1_1 c1_1 l1_1 A1_2 c1_2 l1_2 m x1 X1 Y1 n1 _ (Kd.C_below (HR0_1.out) (bsz (bsz (bsz (bsz (bsz (bsz (bsz (bsz (bsz (bsz (bsz (S5_.out) S9_.out) S14_.out) S15_.out) S29_.out) S45_.out) S48_.out) S64_.out) S67_.out) S80_.out) S83_.out) S99_.out)) hc0_1 (Kd.C_below (HR0_2.out) (bsz (bsz (bsz (bsz (bsz (bsz (bsz (bsz (bsz (bsz (bsz (S5_.out) S9_.out) S14_.out) S15_.out) S29_.out) S45_.out) S48_.out) S64_.out) S67_.out) S80_.out) S83_.out) S99_.out)) hc0_2 (Kd.C_below (HR1_1.out) (bsz (bsz (bsz (bsz (bsz (bsz (bsz (bsz (bsz (bsz (bsz (S5_.out) S9_.out) S14_.out) S15_.out) S29_.out) S45_.out) S48_.out) S64_.out) S67_.out) S80_.out) S83_.out) S99_.out)) hc1_1 (Kd.C_below (HR1_2.out) (bsz (bsz (bsz (bsz (bsz (bsz (bsz (bsz (bsz (bsz (bsz (S5_.out) S9_.out) S14_.out) S15_.out) S29_.out) S45_.out) S48_.out) S64_.out) S67_.out) S80_.out) S83_.out) S99_.out)) hc1_2  hF_).mono ?_; clear hF_; rintro e w101_ ⟨u_, v_, rfl, hS_, hR_, hb_⟩; obtain ⟨A103_, c104_, rfl⟩ := Kd.S_slice hS_; obtain ⟨A105_, c106_, rfl⟩ := Kd.R_slice hR_; have K107_ := Q0.mk (Kd.R_reads' (Kd.S_R hS_)).2.2; have L108_ := Q0.mk (Kd.R_reads' (Kd.S_R hS_)).2.1; have K109_ := Q0.mk (Kd.R_reads' hR_).2.2; have L110_ := Q0.mk (Kd.R_reads' hR_).2.1; clear hS_ hR_; have S102_ := Q0.mk hb_; clear hb_; obtain ⟨c111_, c112_, c113_⟩ := cells3 (bb K6_.out (bsz (bsz (bsz (bsz (bsz (bsz (bsz (bsz (bsz (bsz (bsz (bsz (S9_.out) S14_.out) S15_.out) S29_.out) S45_.out) S48_.out) S64_.out) S67_.out) S80_.out) S83_.out) S99_.out) S102_.out) (ba (Below.refl _ _) (.cells #[.int .i64 x1, .slice A103_ X1.length c104_, .slice A105_ Y1.length c106_] 25)))); obtain ⟨c114_, c115_, c116_⟩ := cells3 (bb K7_.out (bsz (bsz (bsz (bsz (bsz (bsz (bsz (bsz (bsz (bsz (bsz (bsz (S9_.out) S14_.out) S15_.out) S29_.out) S45_.out) S48_.out) S64_.out) S67_.out) S80_.out) S83_.out) S99_.out) S102_.out) (ba (Below.refl _ _) (.cells #[.int .i64 x1, .slice A103_ X1.length c104_, .slice A105_ Y1.length c106_] 25))))) | (go_at_call 78; have hF_ := Zf2.out; clear Zf2; (try clear c111_ c112_ c113_ c114_ c115_ c116_); refine calls_new (v := w101_) (F := fun W => W.heap[w101_.heap.size]? = some (.cells #[.int .i64 x1, .slice A103_ X1.length c104_, .slice A105_ Y1.length c106_] 25 (0, 0))) (ba (Below.refl _ _) (.cells #[.int .i64 x1, .slice A103_ X1.length c104_, .slice A105_ Y1.length c106_] 25)) (new_at _ (by simp)) (fun w117_ b_ f_ => ?_); have S118_ := Q0.mk b_; have K119_ := Q0.mk f_; clear b_ f_; refine (ref24_Of.told 2 (.inr (.inl rfl)) p2 a0_0 A0_1 c0_1 l0_1 A0_2 c0_2 l0_2 a1_0 A1_1 c1_1 l1_1 A1_2 c1_2 l1_2 m x2 X2 Y2 n2 _ (Kd.C_below (HR0_1.out) (bsz (bsz (bsz (bsz (bsz (bsz (bsz (bsz (bsz (bsz (bsz (bsz (bsz (S5_.out) S9_.out) S14_.out) S15_.out) S29_.out) S45_.out) S48_.out) S64_.out) S67_.out) S80_.out) S83_.out) S99_.out) S102_.out) S118_.out)) hc0_1 (Kd.C_below (HR0_2.out) (bsz (bsz (bsz (bsz (bsz (bsz (bsz (bsz (bsz (bsz (bsz (bsz (bsz (S5_.out) S9_.out) S14_.out) S15_.out) S29_.out) S45_.out) S48_.out) S64_.out) S67_.out) S80_.out) S83_.out) S99_.out) S102_.out) S118_.out)) hc0_2 (Kd.C_below (HR1_1.out) (bsz (bsz (bsz (bsz (bsz (bsz (bsz (bsz (bsz (bsz (bsz (bsz (bsz (S5_.out) S9_.out) S14_.out) S15_.out) S29_.out) S45_.out) S48_.out) S64_.out) S67_.out) S80_.out) S83_.out) S99_.out) S102_.out) S118_.out)) hc1_1 (Kd.C_below (HR1_2.out) (bsz (bsz (bsz (bsz (bsz (bsz (bsz (bsz (bsz (bsz (bsz (bsz (bsz (S5_.out) S9_.out) S14_.out) S15_.out) S29_.out) S45_.out) S48_.out) S64_.out) S67_.out) S80_.out) S83_.out) S99_.out) S102_.out) S118_.out)) hc1_2  hF_).mono ?_; clear hF_; rintro e w120_ ⟨u_, v_, rfl, hS_, hR_, hb_⟩; obtain ⟨A122_, c123_, rfl⟩ := Kd.S_slice hS_; obtain ⟨A124_, c125_, rfl⟩ := Kd.R_slice hR_; have K126_ := Q0.mk (Kd.R_reads' (Kd.S_R hS_)).2.2; have L127_ := Q0.mk (Kd.R_reads' (Kd.S_R hS_)).2.1; have K128_ := Q0.mk (Kd.R_reads' hR_).2.2; have L129_ := Q0.mk (Kd.R_reads' hR_).2.1; clear hS_ hR_; have S121_ := Q0.mk hb_; clear hb_; obtain ⟨c130_, c131_, c132_⟩ := cells3 (bb K6_.out (bsz (bsz (bsz (bsz (bsz (bsz (bsz (bsz (bsz (bsz (bsz (bsz (bsz (bsz (S9_.out) S14_.out) S15_.out) S29_.out) S45_.out) S48_.out) S64_.out) S67_.out) S80_.out) S83_.out) S99_.out) S102_.out) S118_.out) S121_.out) (ba (Below.refl _ _) (.cells #[.int .i64 x2, .slice A122_ X2.length c123_, .slice A124_ Y2.length c125_] 25)))); obtain ⟨c133_, c134_, c135_⟩ := cells3 (bb K7_.out (bsz (bsz (bsz (bsz (bsz (bsz (bsz (bsz (bsz (bsz (bsz (bsz (bsz (bsz (S9_.out) S14_.out) S15_.out) S29_.out) S45_.out) S48_.out) S64_.out) S67_.out) S80_.out) S83_.out) S99_.out) S102_.out) S118_.out) S121_.out) (ba (Below.refl _ _) (.cells #[.int .i64 x2, .slice A122_ X2.length c123_, .slice A124_ Y2.length c125_] 25))))) | (go_at_call 78; have hF_ := Zf3.out; clear Zf3; (try clear c130_ c131_ c132_ c133_ c134_ c135_); refine calls_new (v := w120_) (F := fun W => W.heap[w120_.heap.size]? = some (.cells #[.int .i64 x2, .slice A122_ X2.length c123_, .slice A124_ Y2.length c125_] 25 (0, 0))) (ba (Below.refl _ _) (.cells #[.int .i64 x2, .slice A122_ X2.length c123_, .slice A124_ Y2.length c125_] 25)) (new_at _ (by simp)) (fun w136_ b_ f_ => ?_); have S137_ := Q0.mk b_; have K138_ := Q0.mk f_; clear b_ f_; refine (ref24_Of.told 3 (.inr (.inr rfl)) p3 a0_0 A0_1 c0_1 l0_1 A0_2 c0_2 l0_2 a1_0 A1_1 c1_1 l1_1 A1_2 c1_2 l1_2 m x3 X3 Y3 n3 _ (Kd.C_below (HR0_1.out) (bsz (bsz (bsz (bsz (bsz (bsz (bsz (bsz (bsz (bsz (bsz (bsz (bsz (bsz (bsz (S5_.out) S9_.out) S14_.out) S15_.out) S29_.out) S45_.out) S48_.out) S64_.out) S67_.out) S80_.out) S83_.out) S99_.out) S102_.out) S118_.out) S121_.out) S137_.out)) hc0_1 (Kd.C_below (HR0_2.out) (bsz (bsz (bsz (bsz (bsz (bsz (bsz (bsz (bsz (bsz (bsz (bsz (bsz (bsz (bsz (S5_.out) S9_.out) S14_.out) S15_.out) S29_.out) S45_.out) S48_.out) S64_.out) S67_.out) S80_.out) S83_.out) S99_.out) S102_.out) S118_.out) S121_.out) S137_.out)) hc0_2 (Kd.C_below (HR1_1.out) (bsz (bsz (bsz (bsz (bsz (bsz (bsz (bsz (bsz (bsz (bsz (bsz (bsz (bsz (bsz (S5_.out) S9_.out) S14_.out) S15_.out) S29_.out) S45_.out) S48_.out) S64_.out) S67_.out) S80_.out) S83_.out) S99_.out) S102_.out) S118_.out) S121_.out) S137_.out)) hc1_1 (Kd.C_below (HR1_2.out) (bsz (bsz (bsz (bsz (bsz (bsz (bsz (bsz (bsz (bsz (bsz (bsz (bsz (bsz (bsz (S5_.out) S9_.out) S14_.out) S15_.out) S29_.out) S45_.out) S48_.out) S64_.out) S67_.out) S80_.out) S83_.out) S99_.out) S102_.out) S118_.out) S121_.out) S137_.out)) hc1_2  hF_).mono ?_; clear hF_; rintro e w139_ ⟨u_, v_, rfl, hS_, hR_, hb_⟩; obtain ⟨A141_, c142_, rfl⟩ := Kd.S_slice hS_; obtain ⟨A143_, c144_, rfl⟩ := Kd.R_slice hR_; have K145_ := Q0.mk (Kd.R_reads' (Kd.S_R hS_)).2.2; have L146_ := Q0.mk (Kd.R_reads' (Kd.S_R hS_)).2.1; have K147_ := Q0.mk (Kd.R_reads' hR_).2.2; have L148_ := Q0.mk (Kd.R_reads' hR_).2.1; clear hS_ hR_; have S140_ := Q0.mk hb_; clear hb_; obtain ⟨c149_, c150_, c151_⟩ := cells3 (bb K6_.out (bsz (bsz (bsz (bsz (bsz (bsz (bsz (bsz (bsz (bsz (bsz (bsz (bsz (bsz (bsz (bsz (S9_.out) S14_.out) S15_.out) S29_.out) S45_.out) S48_.out) S64_.out) S67_.out) S80_.out) S83_.out) S99_.out) S102_.out) S118_.out) S121_.out) S137_.out) S140_.out) (ba (ba (Below.refl _ _) (.cells #[.int .i64 x3, .slice A141_ X3.length c142_, .slice A143_ Y3.length c144_] 25)) (.cells #[.int .i64 0, .slice none 0 0, .slice none 0 0] 25))))) | (go_at_call 37; have hF_ := Zg1.out; clear Zg1; (try clear c149_ c150_ c151_); refine calls_new (v := w139_) (F := fun W => W.heap[w139_.heap.size]? = some (.cells #[.int .i64 x3, .slice A141_ X3.length c142_, .slice A143_ Y3.length c144_] 25 (0, 0)) ∧ W.heap[w139_.heap.size + 1]? = some (.cells #[.int .i64 0, .slice none 0 0, .slice none 0 0] 25 (0, 0))) (ba (ba (Below.refl _ _) (.cells #[.int .i64 x3, .slice A141_ X3.length c142_, .slice A143_ Y3.length c144_] 25)) (.cells #[.int .i64 0, .slice none 0 0, .slice none 0 0] 25)) (⟨bA (new_at _ (by simp)) _, new_at _ (by simp)⟩) (fun w152_ b_ f_ => ?_); have S153_ := Q0.mk b_; have K154_ := Q0.mk f_.1; have K155_ := Q0.mk f_.2; clear b_ f_; refine (caesuraref19_Good.calls j3  a0_0 A0_1 c0_1 l0_1 A0_2 c0_2 l0_2  gd _ (Kd.C_below (HR0_1.out) (bsz (bsz (bsz (bsz (bsz (bsz (bsz (bsz (bsz (bsz (bsz (bsz (bsz (bsz (bsz (bsz (bsz (S5_.out) S9_.out) S14_.out) S15_.out) S29_.out) S45_.out) S48_.out) S64_.out) S67_.out) S80_.out) S83_.out) S99_.out) S102_.out) S118_.out) S121_.out) S137_.out) S140_.out) S153_.out)) hc0_1 (Kd.C_below (HR0_2.out) (bsz (bsz (bsz (bsz (bsz (bsz (bsz (bsz (bsz (bsz (bsz (bsz (bsz (bsz (bsz (bsz (bsz (S5_.out) S9_.out) S14_.out) S15_.out) S29_.out) S45_.out) S48_.out) S64_.out) S67_.out) S80_.out) S83_.out) S99_.out) S102_.out) S118_.out) S121_.out) S137_.out) S140_.out) S153_.out)) hc0_2  hF_).mono ?_; clear hF_; rintro e w156_ ⟨rfl, hb_⟩; have S157_ := Q0.mk hb_; clear hb_; obtain ⟨c158_, c159_, c160_⟩ := cells3 (bb K6_.out (bsz (bsz (bsz (bsz (bsz (bsz (bsz (bsz (bsz (bsz (bsz (bsz (bsz (bsz (bsz (bsz (bsz (S9_.out) S14_.out) S15_.out) S29_.out) S45_.out) S48_.out) S64_.out) S67_.out) S80_.out) S83_.out) S99_.out) S102_.out) S118_.out) S121_.out) S137_.out) S140_.out) S153_.out) S157_.out)); obtain ⟨c161_, c162_, c163_⟩ := cells3 (bb K46_.out (bsz (bsz (bsz (bsz (bsz (bsz (bsz (bsz (bsz (bsz (bsz (bsz (S48_.out) S64_.out) S67_.out) S80_.out) S83_.out) S99_.out) S102_.out) S118_.out) S121_.out) S137_.out) S140_.out) S153_.out) S157_.out)); obtain ⟨c164_, c165_, c166_⟩ := cells3 (bb K119_.out (bsz (bsz (bsz (bsz (S121_.out) S137_.out) S140_.out) S153_.out) S157_.out))) | (go_at_call 26; have hF_ := Zo1.out; clear Zo1; (try clear c158_ c159_ c160_ c161_ c162_ c163_ c164_ c165_ c166_); refine (caesurakeep_OwnAutomaton.calls j1  a0_0 A0_1 c0_1 l0_1 A0_2 c0_2 l0_2  a0_0 l0_1 l0_2 _ (Kd.C_below (HR0_1.out) (bsz (bsz (bsz (bsz (bsz (bsz (bsz (bsz (bsz (bsz (bsz (bsz (bsz (bsz (bsz (bsz (bsz (bsz (S5_.out) S9_.out) S14_.out) S15_.out) S29_.out) S45_.out) S48_.out) S64_.out) S67_.out) S80_.out) S83_.out) S99_.out) S102_.out) S118_.out) S121_.out) S137_.out) S140_.out) S153_.out) S157_.out)) hc0_1 (Kd.C_below (HR0_2.out) (bsz (bsz (bsz (bsz (bsz (bsz (bsz (bsz (bsz (bsz (bsz (bsz (bsz (bsz (bsz (bsz (bsz (bsz (S5_.out) S9_.out) S14_.out) S15_.out) S29_.out) S45_.out) S48_.out) S64_.out) S67_.out) S80_.out) S83_.out) S99_.out) S102_.out) S118_.out) S121_.out) S137_.out) S140_.out) S153_.out) S157_.out)) hc0_2  hF_).mono ?_; clear hF_; rintro e w167_ ⟨u_, v_, rfl, hS_, hR_, hb_⟩; obtain ⟨A171_, c172_, rfl⟩ := Kd.S_slice hS_; obtain ⟨A173_, c174_, rfl⟩ := Kd.R_slice hR_; have K175_ := Q0.mk (Kd.R_reads' (Kd.S_R hS_)).2.2; have L176_ := Q0.mk (Kd.R_reads' (Kd.S_R hS_)).2.1; have K177_ := Q0.mk (Kd.R_reads' hR_).2.2; have L178_ := Q0.mk (Kd.R_reads' hR_).2.1; have H169_ := Q0.mk hS_; have H170_ := Q0.mk hR_; clear hS_ hR_; have S168_ := Q0.mk hb_; clear hb_; have f179_ := bf (bb K155_.out (bsz (S157_.out) S168_.out)) 0; have f180_ := bf (bb K155_.out (bsz (S157_.out) S168_.out)) 1; have f181_ := bf (bb K155_.out (bsz (S157_.out) S168_.out)) 2; obtain ⟨c182_, c183_, c184_⟩ := cells3 (bb K155_.out (bsz (S157_.out) S168_.out))) | (go_at_call 41; have hF_ := Zs1.out; clear Zs1; (try clear c158_ c159_ c160_ c161_ c162_ c163_ c164_ c165_ c166_); refine (caesurakeep_Automaton.calls i1  x1 A30_ c31_ X1 A32_ c33_ Y1 x1 A103_ c104_ X1 A105_ c106_ Y1  true _ (Kd.C_below (K34_.out) (bsz (bsz (bsz (bsz (bsz (bsz (bsz (bsz (bsz (bsz (bsz (bsz (bsz (S45_.out) S48_.out) S64_.out) S67_.out) S80_.out) S83_.out) S99_.out) S102_.out) S118_.out) S121_.out) S137_.out) S140_.out) S153_.out) S157_.out)) L35_.out (Kd.C_below (K36_.out) (bsz (bsz (bsz (bsz (bsz (bsz (bsz (bsz (bsz (bsz (bsz (bsz (bsz (S45_.out) S48_.out) S64_.out) S67_.out) S80_.out) S83_.out) S99_.out) S102_.out) S118_.out) S121_.out) S137_.out) S140_.out) S153_.out) S157_.out)) L37_.out (Kd.C_below (K107_.out) (bsz (bsz (bsz (bsz (bsz (S118_.out) S121_.out) S137_.out) S140_.out) S153_.out) S157_.out)) L108_.out (Kd.C_below (K109_.out) (bsz (bsz (bsz (bsz (bsz (S118_.out) S121_.out) S137_.out) S140_.out) S153_.out) S157_.out)) L110_.out  hF_).mono ?_; clear hF_; rintro e w167_ ⟨rfl, hb_⟩; have S168_ := Q0.mk hb_; clear hb_; obtain ⟨c169_, c170_, c171_⟩ := cells3 (bb K65_.out (bsz (bsz (bsz (bsz (bsz (bsz (bsz (bsz (bsz (bsz (bsz (S67_.out) S80_.out) S83_.out) S99_.out) S102_.out) S118_.out) S121_.out) S137_.out) S140_.out) S153_.out) S157_.out) S168_.out)); obtain ⟨c172_, c173_, c174_⟩ := cells3 (bb K138_.out (bsz (bsz (bsz (S140_.out) S153_.out) S157_.out) S168_.out))) | (go_at_call 41; have hF_ := Zs2.out; clear Zs2; (try clear c169_ c170_ c171_ c172_ c173_ c174_); refine (caesurakeep_Automaton.calls i2  x2 A49_ c50_ X2 A51_ c52_ Y2 x2 A122_ c123_ X2 A124_ c125_ Y2  true _ (Kd.C_below (K53_.out) (bsz (bsz (bsz (bsz (bsz (bsz (bsz (bsz (bsz (bsz (bsz (bsz (S64_.out) S67_.out) S80_.out) S83_.out) S99_.out) S102_.out) S118_.out) S121_.out) S137_.out) S140_.out) S153_.out) S157_.out) S168_.out)) L54_.out (Kd.C_below (K55_.out) (bsz (bsz (bsz (bsz (bsz (bsz (bsz (bsz (bsz (bsz (bsz (bsz (S64_.out) S67_.out) S80_.out) S83_.out) S99_.out) S102_.out) S118_.out) S121_.out) S137_.out) S140_.out) S153_.out) S157_.out) S168_.out)) L56_.out (Kd.C_below (K126_.out) (bsz (bsz (bsz (bsz (S137_.out) S140_.out) S153_.out) S157_.out) S168_.out)) L127_.out (Kd.C_below (K128_.out) (bsz (bsz (bsz (bsz (S137_.out) S140_.out) S153_.out) S157_.out) S168_.out)) L129_.out  hF_).mono ?_; clear hF_; rintro e w175_ ⟨rfl, hb_⟩; have S176_ := Q0.mk hb_; clear hb_; obtain ⟨c177_, c178_, c179_⟩ := cells3 (bb K81_.out (bsz (bsz (bsz (bsz (bsz (bsz (bsz (bsz (bsz (bsz (S83_.out) S99_.out) S102_.out) S118_.out) S121_.out) S137_.out) S140_.out) S153_.out) S157_.out) S168_.out) S176_.out)); obtain ⟨c180_, c181_, c182_⟩ := cells3 (bb K154_.out (bsz (bsz (S157_.out) S168_.out) S176_.out))) | (go_at_call 41; have hF_ := Zs3.out; clear Zs3; (try clear c177_ c178_ c179_ c180_ c181_ c182_); refine (caesurakeep_Automaton.calls i3  x3 A68_ c69_ X3 A70_ c71_ Y3 x3 A141_ c142_ X3 A143_ c144_ Y3  true _ (Kd.C_below (K72_.out) (bsz (bsz (bsz (bsz (bsz (bsz (bsz (bsz (bsz (bsz (bsz (S80_.out) S83_.out) S99_.out) S102_.out) S118_.out) S121_.out) S137_.out) S140_.out) S153_.out) S157_.out) S168_.out) S176_.out)) L73_.out (Kd.C_below (K74_.out) (bsz (bsz (bsz (bsz (bsz (bsz (bsz (bsz (bsz (bsz (bsz (S80_.out) S83_.out) S99_.out) S102_.out) S118_.out) S121_.out) S137_.out) S140_.out) S153_.out) S157_.out) S168_.out) S176_.out)) L75_.out (Kd.C_below (K145_.out) (bsz (bsz (bsz (S153_.out) S157_.out) S168_.out) S176_.out)) L146_.out (Kd.C_below (K147_.out) (bsz (bsz (bsz (S153_.out) S157_.out) S168_.out) S176_.out)) L148_.out  hF_).mono ?_; clear hF_; rintro e w183_ ⟨rfl, hb_⟩; have S184_ := Q0.mk hb_; clear hb_; obtain ⟨c185_, c186_, c187_⟩ := cells3 (bb K100_.out (bsz (bsz (bsz (bsz (bsz (bsz (bsz (bsz (bsz (S102_.out) S118_.out) S121_.out) S137_.out) S140_.out) S153_.out) S157_.out) S168_.out) S176_.out) S184_.out)); obtain ⟨c188_, c189_, c190_⟩ := cells3 (bb K155_.out (bsz (bsz (bsz (S157_.out) S168_.out) S176_.out) S184_.out))) | (go_at_call 41; have hF_ := Zs7.out (by assumption); clear Zs7; (try clear c185_ c186_ c187_ c188_ c189_ c190_); refine (caesurakeep_Automaton.calls i4  x4 A84_ c85_ X4 A86_ c87_ Y4 0 none 0 [] none 0 []  true _ (Kd.C_below (K88_.out) (bsz (bsz (bsz (bsz (bsz (bsz (bsz (bsz (bsz (bsz (S99_.out) S102_.out) S118_.out) S121_.out) S137_.out) S140_.out) S153_.out) S157_.out) S168_.out) S176_.out) S184_.out)) L89_.out (Kd.C_below (K90_.out) (bsz (bsz (bsz (bsz (bsz (bsz (bsz (bsz (bsz (bsz (S99_.out) S102_.out) S118_.out) S121_.out) S137_.out) S140_.out) S153_.out) S157_.out) S168_.out) S176_.out) S184_.out)) L91_.out (Kd.C_nil _ _) (by decide) (Kd.C_nil _ _) (by decide)  hF_).mono ?_; clear hF_; rintro e w191_ ⟨rfl, hb_⟩; have S192_ := Q0.mk hb_; clear hb_; obtain ⟨c193_, c194_, c195_⟩ := cells3 (bb K6_.out (bsz (bsz (bsz (bsz (bsz (bsz (bsz (bsz (bsz (bsz (bsz (bsz (bsz (bsz (bsz (bsz (bsz (bsz (bsz (bsz (bsz (S9_.out) S14_.out) S15_.out) S29_.out) S45_.out) S48_.out) S64_.out) S67_.out) S80_.out) S83_.out) S99_.out) S102_.out) S118_.out) S121_.out) S137_.out) S140_.out) S153_.out) S157_.out) S168_.out) S176_.out) S184_.out) S192_.out))) | (go_at_call 37; have hF_ := Zg2.out; clear Zg2; (try clear c193_ c194_ c195_); refine (caesuraref19_Good.calls j3  a0_0 A0_1 c0_1 l0_1 A0_2 c0_2 l0_2  gd _ (Kd.C_below (HR0_1.out) (bsz (bsz (bsz (bsz (bsz (bsz (bsz (bsz (bsz (bsz (bsz (bsz (bsz (bsz (bsz (bsz (bsz (bsz (bsz (bsz (bsz (bsz (S5_.out) S9_.out) S14_.out) S15_.out) S29_.out) S45_.out) S48_.out) S64_.out) S67_.out) S80_.out) S83_.out) S99_.out) S102_.out) S118_.out) S121_.out) S137_.out) S140_.out) S153_.out) S157_.out) S168_.out) S176_.out) S184_.out) S192_.out)) hc0_1 (Kd.C_below (HR0_2.out) (bsz (bsz (bsz (bsz (bsz (bsz (bsz (bsz (bsz (bsz (bsz (bsz (bsz (bsz (bsz (bsz (bsz (bsz (bsz (bsz (bsz (bsz (S5_.out) S9_.out) S14_.out) S15_.out) S29_.out) S45_.out) S48_.out) S64_.out) S67_.out) S80_.out) S83_.out) S99_.out) S102_.out) S118_.out) S121_.out) S137_.out) S140_.out) S153_.out) S157_.out) S168_.out) S176_.out) S184_.out) S192_.out)) hc0_2  hF_).mono ?_; clear hF_; rintro e w196_ ⟨rfl, hb_⟩; have S197_ := Q0.mk hb_; clear hb_; obtain ⟨c198_, c199_, c200_⟩ := cells3 (bb K16_.out (bsz (bsz (bsz (bsz (bsz (bsz (bsz (bsz (bsz (bsz (bsz (bsz (bsz (bsz (bsz (bsz (bsz (bsz (bsz (S29_.out) S45_.out) S48_.out) S64_.out) S67_.out) S80_.out) S83_.out) S99_.out) S102_.out) S118_.out) S121_.out) S137_.out) S140_.out) S153_.out) S157_.out) S168_.out) S176_.out) S184_.out) S192_.out) S197_.out)); obtain ⟨c201_, c202_, c203_⟩ := cells3 (bb K6_.out (bsz (bsz (bsz (bsz (bsz (bsz (bsz (bsz (bsz (bsz (bsz (bsz (bsz (bsz (bsz (bsz (bsz (bsz (bsz (bsz (bsz (bsz (S9_.out) S14_.out) S15_.out) S29_.out) S45_.out) S48_.out) S64_.out) S67_.out) S80_.out) S83_.out) S99_.out) S102_.out) S118_.out) S121_.out) S137_.out) S140_.out) S153_.out) S157_.out) S168_.out) S176_.out) S184_.out) S192_.out) S197_.out))) | (go_at_call 41; have hF_ := Zs5.out; clear Zs5; (try clear c198_ c199_ c200_ c201_ c202_ c203_); refine (caesurakeep_Automaton.calls i5  a0_0 P1a p1a l0_1 P1b p1b l0_2 a0_0 A0_1 c0_1 l0_1 A0_2 c0_2 l0_2  true _ (Kd.C_below (K18_.out.2) (bsz (bsz (bsz (bsz (bsz (bsz (bsz (bsz (bsz (bsz (bsz (bsz (bsz (bsz (bsz (bsz (bsz (bsz (bsz (S29_.out) S45_.out) S48_.out) S64_.out) S67_.out) S80_.out) S83_.out) S99_.out) S102_.out) S118_.out) S121_.out) S137_.out) S140_.out) S153_.out) S157_.out) S168_.out) S176_.out) S184_.out) S192_.out) S197_.out)) K18_.out.1 (Kd.C_below (K19_.out.2) (bsz (bsz (bsz (bsz (bsz (bsz (bsz (bsz (bsz (bsz (bsz (bsz (bsz (bsz (bsz (bsz (bsz (bsz (bsz (S29_.out) S45_.out) S48_.out) S64_.out) S67_.out) S80_.out) S83_.out) S99_.out) S102_.out) S118_.out) S121_.out) S137_.out) S140_.out) S153_.out) S157_.out) S168_.out) S176_.out) S184_.out) S192_.out) S197_.out)) K19_.out.1 (Kd.C_below (HR0_1.out) (bsz (bsz (bsz (bsz (bsz (bsz (bsz (bsz (bsz (bsz (bsz (bsz (bsz (bsz (bsz (bsz (bsz (bsz (bsz (bsz (bsz (bsz (bsz (S5_.out) S9_.out) S14_.out) S15_.out) S29_.out) S45_.out) S48_.out) S64_.out) S67_.out) S80_.out) S83_.out) S99_.out) S102_.out) S118_.out) S121_.out) S137_.out) S140_.out) S153_.out) S157_.out) S168_.out) S176_.out) S184_.out) S192_.out) S197_.out)) hc0_1 (Kd.C_below (HR0_2.out) (bsz (bsz (bsz (bsz (bsz (bsz (bsz (bsz (bsz (bsz (bsz (bsz (bsz (bsz (bsz (bsz (bsz (bsz (bsz (bsz (bsz (bsz (bsz (S5_.out) S9_.out) S14_.out) S15_.out) S29_.out) S45_.out) S48_.out) S64_.out) S67_.out) S80_.out) S83_.out) S99_.out) S102_.out) S118_.out) S121_.out) S137_.out) S140_.out) S153_.out) S157_.out) S168_.out) S176_.out) S184_.out) S192_.out) S197_.out)) hc0_2  hF_).mono ?_; clear hF_; rintro e w204_ ⟨rfl, hb_⟩; have S205_ := Q0.mk hb_; clear hb_; obtain ⟨c206_, c207_, c208_⟩ := cells3 (bb K17_.out (bsz (bsz (bsz (bsz (bsz (bsz (bsz (bsz (bsz (bsz (bsz (bsz (bsz (bsz (bsz (bsz (bsz (bsz (bsz (bsz (S29_.out) S45_.out) S48_.out) S64_.out) S67_.out) S80_.out) S83_.out) S99_.out) S102_.out) S118_.out) S121_.out) S137_.out) S140_.out) S153_.out) S157_.out) S168_.out) S176_.out) S184_.out) S192_.out) S197_.out) S205_.out)); obtain ⟨c209_, c210_, c211_⟩ := cells3 (bb K7_.out (bsz (bsz (bsz (bsz (bsz (bsz (bsz (bsz (bsz (bsz (bsz (bsz (bsz (bsz (bsz (bsz (bsz (bsz (bsz (bsz (bsz (bsz (bsz (S9_.out) S14_.out) S15_.out) S29_.out) S45_.out) S48_.out) S64_.out) S67_.out) S80_.out) S83_.out) S99_.out) S102_.out) S118_.out) S121_.out) S137_.out) S140_.out) S153_.out) S157_.out) S168_.out) S176_.out) S184_.out) S192_.out) S197_.out) S205_.out))) | (go_at_call 41; have hF_ := Zs6.out; clear Zs6; (try clear c206_ c207_ c208_ c209_ c210_ c211_); refine (caesurakeep_Automaton.calls i6  a1_0 P3a p3a l1_1 P3b p3b l1_2 a1_0 A1_1 c1_1 l1_1 A1_2 c1_2 l1_2  true _ (Kd.C_below (K20_.out.2) (bsz (bsz (bsz (bsz (bsz (bsz (bsz (bsz (bsz (bsz (bsz (bsz (bsz (bsz (bsz (bsz (bsz (bsz (bsz (bsz (S29_.out) S45_.out) S48_.out) S64_.out) S67_.out) S80_.out) S83_.out) S99_.out) S102_.out) S118_.out) S121_.out) S137_.out) S140_.out) S153_.out) S157_.out) S168_.out) S176_.out) S184_.out) S192_.out) S197_.out) S205_.out)) K20_.out.1 (Kd.C_below (K21_.out.2) (bsz (bsz (bsz (bsz (bsz (bsz (bsz (bsz (bsz (bsz (bsz (bsz (bsz (bsz (bsz (bsz (bsz (bsz (bsz (bsz (S29_.out) S45_.out) S48_.out) S64_.out) S67_.out) S80_.out) S83_.out) S99_.out) S102_.out) S118_.out) S121_.out) S137_.out) S140_.out) S153_.out) S157_.out) S168_.out) S176_.out) S184_.out) S192_.out) S197_.out) S205_.out)) K21_.out.1 (Kd.C_below (HR1_1.out) (bsz (bsz (bsz (bsz (bsz (bsz (bsz (bsz (bsz (bsz (bsz (bsz (bsz (bsz (bsz (bsz (bsz (bsz (bsz (bsz (bsz (bsz (bsz (bsz (S5_.out) S9_.out) S14_.out) S15_.out) S29_.out) S45_.out) S48_.out) S64_.out) S67_.out) S80_.out) S83_.out) S99_.out) S102_.out) S118_.out) S121_.out) S137_.out) S140_.out) S153_.out) S157_.out) S168_.out) S176_.out) S184_.out) S192_.out) S197_.out) S205_.out)) hc1_1 (Kd.C_below (HR1_2.out) (bsz (bsz (bsz (bsz (bsz (bsz (bsz (bsz (bsz (bsz (bsz (bsz (bsz (bsz (bsz (bsz (bsz (bsz (bsz (bsz (bsz (bsz (bsz (bsz (S5_.out) S9_.out) S14_.out) S15_.out) S29_.out) S45_.out) S48_.out) S64_.out) S67_.out) S80_.out) S83_.out) S99_.out) S102_.out) S118_.out) S121_.out) S137_.out) S140_.out) S153_.out) S157_.out) S168_.out) S176_.out) S184_.out) S192_.out) S197_.out) S205_.out)) hc1_2  hF_).mono ?_; clear hF_; rintro e w212_ ⟨rfl, hb_⟩; have S213_ := Q0.mk hb_; clear hb_) | (go_at_call 73; have hF_ := ZW.out; clear ZW; refine (caesuralaw24_wakes.calls kw    true _   hF_).mono ?_; clear hF_; rintro e w214_ ⟨rfl, hb_⟩; have S215_ := Q0.mk hb_; clear hb_))
 rotate_left
 ·go_ret
  exact ⟨rfl, bsz (bsz (bsz (bsz (bsz (bsz (bsz (bsz (bsz (bsz (bsz (bsz (bsz (bsz (bsz (bsz (bsz (bsz (bsz (bsz (bsz (bsz (bsz (bsz (bsz (bsz (S5_.out) S9_.out) S14_.out) S15_.out) S29_.out) S45_.out) S48_.out) S64_.out) S67_.out) S80_.out) S83_.out) S99_.out) S102_.out) S118_.out) S121_.out) S137_.out) S140_.out) S153_.out) S157_.out) S168_.out) S176_.out) S184_.out) S192_.out) S197_.out) S205_.out) S213_.out) S215_.out⟩
 have Zs4 := Q0.mk (Zs4_.out (by assumption))
 have ZL := Q0.mk (And.intro (ZL_.out.1 (by assumption)) ZL_.out.2)
 have hb0_ := bp (cs' := #[.int .i64 a0_0, .slice none 0 0, .slice none 0 0]) (bb K155_.out (bsz (S157_.out) S168_.out)) 0 (.int .i64 a0_0) rfl
 have hk0_ := bF (p := ⟨w139_.heap.size + 1, 0, none⟩) (bb K154_.out (bsz (S157_.out) S168_.out)) (by dsimp only; omega) (.int .i64 a0_0)
 have hs0_ := Kd.S_mono (ok' := fun _ => True) (Kd.S_far (p := ⟨w139_.heap.size + 1, 0, none⟩) (Kd.S_types (H169_.out) (bb K155_.out (bsz (S157_.out) S168_.out)) (by decide)) (fun _ hk => hk.2) (.int .i64 a0_0)) (fun _ _ => trivial)
 have hr0_ := Kd.R_set (H170_.out) (bb K155_.out (bsz (S157_.out) S168_.out)) (by decide) 0 (.int .i64 a0_0)
 have hb1_ := bp (cs' := #[.int .i64 a0_0, .slice A171_ l0_1.length c172_, .slice none 0 0]) hb0_ 1 (.slice A171_ l0_1.length c172_) rfl
 have hk1_ := bF (p := ⟨w139_.heap.size + 1, 1, none⟩) hk0_ (by dsimp only; omega) (.slice A171_ l0_1.length c172_)
 have hs1_ := Kd.S_mono (ok' := fun _ => True) (Kd.S_far (p := ⟨w139_.heap.size + 1, 1, none⟩) (Kd.S_types (hs0_) hb0_ (by decide)) (fun _ hk => hk.2) (.slice A171_ l0_1.length c172_)) (fun _ _ => trivial)
 have hr1_ := Kd.R_set (hr0_) hb0_ (by decide) 1 (.slice A171_ l0_1.length c172_)
 have hb2_ := bp (cs' := #[.int .i64 a0_0, .slice A171_ l0_1.length c172_, .slice A173_ l0_2.length c174_]) hb1_ 2 (.slice A173_ l0_2.length c174_) rfl
 have hk2_ := bF (p := ⟨w139_.heap.size + 1, 2, none⟩) hk1_ (by dsimp only; omega) (.slice A173_ l0_2.length c174_)
 have hs2_ := Kd.S_mono (ok' := fun _ => True) (Kd.S_far (p := ⟨w139_.heap.size + 1, 2, none⟩) (Kd.S_types (hs1_) hb1_ (by decide)) (fun _ hk => hk.2) (.slice A173_ l0_2.length c174_)) (fun _ _ => trivial)
 have hr2_ := Kd.R_set (hr1_) hb1_ (by decide) 2 (.slice A173_ l0_2.length c174_)
 have hl_ : Below w139_.heap.size w139_ (((w167_.setCell ⟨w139_.heap.size + 1, 0, none⟩ (.int .i64 a0_0)).setCell ⟨w139_.heap.size + 1, 1, none⟩ (.slice A171_ l0_1.length c172_)).setCell ⟨w139_.heap.size + 1, 2, none⟩ (.slice A173_ l0_2.length c174_)) := Below.setCell (Below.setCell (Below.setCell (bsz (bsz (S153_.out) S157_.out) S168_.out) (p := ⟨w139_.heap.size + 1, 0, none⟩) (by dsimp only; omega) (.int .i64 a0_0)) (p := ⟨w139_.heap.size + 1, 1, none⟩) (by dsimp only; omega) (.slice A171_ l0_1.length c172_)) (p := ⟨w139_.heap.size + 1, 2, none⟩) (by dsimp only; omega) (.slice A173_ l0_2.length c174_)
 have hz_ : w139_.heap.size ≤ w156_.heap.size := below_size (bsz (S153_.out) S157_.out)
 replace hs2_ := Kd.S_lower hs2_ hz_
 replace hr2_ := Kd.R_lower hr2_ hz_
 obtain ⟨gb, cb, e_, hgb, -, -⟩ := Kd.R_form hr2_ ZL.out.1
 cases e_
 have HGB := Q0.mk hgb
 (try clear f179_ f180_ f181_ c182_ c183_ c184_)
 obtain ⟨wf, hwf_⟩ : ∃ x, x = (((w167_.setCell ⟨w139_.heap.size + 1, 0, none⟩ (.int .i64 a0_0)).setCell ⟨w139_.heap.size + 1, 1, none⟩ (.slice A171_ l0_1.length c172_)).setCell ⟨w139_.heap.size + 1, 2, none⟩ (.slice (some ⟨gb, 0, none⟩) l0_2.length c174_)) := ⟨_, rfl⟩
 rw [← hwf_] at hb2_ hk2_ hs2_ hr2_ hl_ ⊢
 have HG := Q0.mk hb2_
 have HK := Q0.mk hk2_
 have HS := Q0.mk hs2_
 have HR := Q0.mk hr2_
 have HB := Q0.mk hl_
 clear hb0_ hb1_ hb2_ hk0_ hk1_ hk2_ hs0_ hs1_ hs2_ hr0_ hr1_ hr2_ hl_ hz_ hgb hwf_
 go_loopw [25] (fun v25 wr => ∃ i : Nat, i ≤ l0_2.length ∧ v25 = .int .i64 (i : Int) ∧ Q0 (wr.heap[w139_.heap.size + 1]? = some (.cells #[.int .i64 a0_0, .slice A171_ l0_1.length c172_, .slice (some ⟨gb, 0, none⟩) l0_2.length c174_] 25 (0, 0))) ∧ Q0 (wr.heap[w139_.heap.size]? = some (.cells #[.int .i64 x3, .slice A141_ X3.length c142_, .slice A143_ Y3.length c144_] 25 (0, 0))) ∧ Q0 (Kd.S (Kd.slice 3 (Kd.int .i64)) 45 wr w139_.heap.size (fun _ => True) (.slice A171_ l0_1.length c172_) l0_1) ∧ Q0 (Kd.R Kd.bool 4 wr w139_.heap.size (fun _ => True) (.slice (some ⟨gb, 0, none⟩) l0_2.length c174_) (flipTo l0_2 i)) ∧ Q0 (Below w139_.heap.size w139_ wr)) (fun v25 _ => l0_2.length - (intOf v25).toNat)
 case atStart => exact ⟨0, Nat.zero_le _, rfl, HG, HK, HS, ⟨by rw [flipTo_zero]; exact HR.out⟩, HB⟩
 case round =>
  clear HG HK HS HR HB
  obtain ⟨i, hi, rfl, HG, HK, HS, HR, HB⟩ := hrel
  obtain ⟨wq, rfl⟩ : ∃ wq, wq = wr := ⟨wr, rfl⟩
  have hll_ := ZL.out.2
  have HFL : Q0 ((flipTo l0_2 i).length = l0_2.length) := ⟨flipTo_length _ _⟩
  have y2_ : wq.cell? ⟨w139_.heap.size + 1, 2, none⟩ = some (.slice (some ⟨gb, 0, none⟩) l0_2.length c174_) := (bcz HG.out 2).trans rfl
  by_cases hlt : i < l0_2.length
  ·have q1b : decide ((i : Int) < (l0_2.length : Int)) = true := decide_eq_true (by omega)
   have p1 : ((0 : Int) ≤ (i : Int)) = True := eq_true (by omega)
   have q1 : ((i : Int) < (l0_2.length : Int)) = True := eq_true (by omega)
   obtain ⟨x, hx⟩ : ∃ x, x = l0_2.getD i false := ⟨_, rfl⟩
   have HX := Q0.mk hx
   clear hx
   obtain ⟨ye_, -⟩ := Kd.R_celln false HR.out (i : Int) (by omega) (by omega)
   rw [show rdOf false (flipTo l0_2 i) (i : Int) = x by rw [HX.out]; exact flipTo_at hlt, Int.toNat_natCast] at ye_
   have HYE := Q0.mk ye_
   clear ye_
   go_wp2
   clear y2_
   refine start_ (n := 11) (S := fun w' => Below wq.heap.size wq w') (ds := [10]) #[false, false, false, false, false, false, false, false, false, false, false] (by kernel_rfl) rfl rfl (bD (Below.refl _ _)) (fun hHeld => ?_)
   refine with_tabW ptellsgd.tab18 ptellsgd.bits18 (fun HT_ HW_ => ?_)
   have HGd := Q0.mk (bdz HG.out)
   have HKd := Q0.mk (bdz HK.out)
   have HSd := Q0.mk (Kd.S_drew HS.out)
   have HRd := Q0.mk (Kd.R_drew HR.out)
   have HBd := Q0.mk (bD HB.out)
   obtain ⟨wd, hwd⟩ : ∃ wd, wd = wq.drew := ⟨_, rfl⟩
   rw [← hwd] at HGd HKd HSd HRd HBd hHeld ⊢
   clear hwd
   refine pure_ (i := 0) (N := some 100) (v := ?_) (a' := ?_) #[true, false, false, false, false, false, false, false, false, false, false] rfl rfl (any_of HT_.out (by kernel_rfl)) (fun _ _ _ h => h) (Or.inl ⟨by rfl, ?_⟩) ?_ ?_
   rotate_left
   ·intro w'
    go_simp
    with_reducible rfl
   rotate_left
   ·simp only [Act.put, sA, sB, sC, i64_w, i32_w]
    rfl
   refine pure_ (i := 2) (N := some 102) (v := ?_) (a' := ?_) #[true, false, true, false, false, false, false, false, false, false, false] rfl rfl (any_of HT_.out (by kernel_rfl)) (fun _ _ _ h => h) (Or.inl ⟨by rfl, ?_⟩) ?_ ?_
   rotate_left
   ·intro w'
    go_simp
    with_reducible rfl
   rotate_left
   ·simp only [Act.put, sA, sB, sC, i64_w, i32_w]
    rfl
   refine pure_ (i := 3) (N := some 103) (v := ?_) (a' := ?_) #[true, false, true, true, false, false, false, false, false, false, false] rfl rfl (any_of HT_.out (by kernel_rfl)) (fun _ _ _ h => h) (Or.inl ⟨by rfl, ?_⟩) ?_ ?_
   rotate_left
   ·intro w'
    go_simp
    with_reducible rfl
   rotate_left
   ·simp only [Act.put, sA, sB, sC, i64_w, i32_w]
    rfl
   refine pure_ (i := 5) (N := some 105) (v := ?_) (a' := ?_) #[true, false, true, true, false, true, false, false, false, false, false] rfl rfl (any_of HT_.out (by kernel_rfl)) (fun _ _ _ h => h) (Or.inl ⟨by rfl, ?_⟩) ?_ ?_
   rotate_left
   ·intro w'
    go_simp
    with_reducible rfl
   rotate_left
   ·simp only [Act.put, sA, sB, sC, i64_w, i32_w]
    rfl
   refine take_ (i := 1) (N := some 101) (v := ?_) (a' := ?_) #[true, true, true, true, false, true, false, false, false, false, false] rfl rfl (take_ofW HT_.out HW_.out (by kernel_rfl)) (fun _ _ _ h => h) (Or.inl ⟨by rfl, ?_⟩) hHeld ?_ ?_
   rotate_left
   ·intro w' s0
    have c2_ : w'.cell? ⟨w139_.heap.size + 1, 2, none⟩ = some (.slice (some ⟨gb, 0, none⟩) l0_2.length c174_) := (bcz (bb HG.out s0) 2).trans rfl
    clear s0
    go_simp
    with_reducible rfl
   rotate_left
   ·simp only [Act.put, sA, sB, sC, i64_w, i32_w]
    rfl
   refine take_ (i := 4) (N := some 104) (v := ?_) (a' := ?_) #[true, true, true, true, true, true, false, false, false, false, false] rfl rfl (take_ofW HT_.out HW_.out (by kernel_rfl)) (fun _ _ _ h => h) (Or.inl ⟨by rfl, ?_⟩) hHeld ?_ ?_
   rotate_left
   ·intro w' s0
    have c2_ : w'.cell? ⟨w139_.heap.size + 1, 2, none⟩ = some (.slice (some ⟨gb, 0, none⟩) l0_2.length c174_) := (bcz (bb HG.out s0) 2).trans rfl
    clear s0
    go_simp
    with_reducible rfl
   rotate_left
   ·simp only [Act.put, sA, sB, sC, i64_w, i32_w]
    rfl
   refine pure_ (i := 6) (N := some 106) (v := ?_) (a' := ?_) #[true, true, true, true, true, true, true, false, false, false, false] rfl rfl (any_of HT_.out (by kernel_rfl)) (fun _ _ _ h => h) (Or.inl ⟨by rfl, ?_⟩) ?_ ?_
   rotate_left
   ·intro w'
    go_simp
    with_reducible rfl
   rotate_left
   ·simp only [Act.put, sA, sB, sC, i64_w, i32_w]
    rfl
   refine take_ (i := 7) (N := some 107) (v := ?_) (a' := ?_) #[true, true, true, true, true, true, true, true, false, false, false] rfl rfl (take_ofW HT_.out HW_.out (by kernel_rfl)) (fun _ _ _ h => h) (Or.inl ⟨by rfl, ?_⟩) hHeld ?_ ?_
   rotate_left
   ·intro w' s0
    have c_ := (Below.cell s0 (World.block_lt_of_cell? _ _ HYE.out)).trans HYE.out
    clear s0
    go_simp
    with_reducible rfl
   rotate_left
   ·simp only [Act.put, sA, sB, sC, i64_w, i32_w]
    rfl
   refine pure_ (i := 8) (N := some 108) (v := ?_) (a' := ?_) #[true, true, true, true, true, true, true, true, true, false, false] rfl rfl (any_of HT_.out (by kernel_rfl)) (fun _ _ _ h => h) (Or.inl ⟨by rfl, ?_⟩) ?_ ?_
   rotate_left
   ·intro w'
    go_simp
    with_reducible rfl
   rotate_left
   ·simp only [Act.put, sA, sB, sC, i64_w, i32_w]
    rfl
   refine pure_ (i := 9) (N := some 109) (v := ?_) (a' := ?_) #[true, true, true, true, true, true, true, true, true, true, false] rfl rfl (any_of HT_.out (by kernel_rfl)) (fun _ _ _ h => h) (Or.inl ⟨by rfl, ?_⟩) ?_ ?_
   rotate_left
   ·intro w'
    go_simp
    with_reducible rfl
   rotate_left
   ·simp only [Act.put, sA, sB, sC, i64_w, i32_w]
    rfl
   refine last_ (i := 10) (N := none) #[true, true, true, true, true, true, true, true, true, true, true] rfl rfl (one_of HT_.out (by kernel_rfl)) (by decide) (fun K hK => ?_)
   obtain ⟨yd_, zd_⟩ := Kd.R_celln false HRd.out (i : Int) (by omega) (by omega)
   rw [Int.toNat_natCast] at yd_ zd_
   clear hHeld
   refine skip_ (w1 := ?_) (by rfl) rfl ?_ ?_
   rotate_left
   ·go_simp
    rfl
   refine hK.out _ _ ?_
   clear hK K
   refine done_ (done_of HT_.out (by kernel_rfl)) ?_
   go_wp2
   go_roundw
   case rel =>
    have h_ := Kd.R_putn HRd.out (i : Int) (!x)
    have g_ := (Kd.R_putg HRd.out (i : Int) (!x)).2
    rw [Int.toNat_natCast] at h_ g_
    refine ⟨i + 1, by omega, by go_num, ⟨bF (p := ⟨gb, i, none⟩) HGd.out (fun e_ => Kd.R_ne HRd.out HGd.out (by decide) (congrArg some e_)) _⟩, ⟨bF (p := ⟨gb, i, none⟩) HKd.out (fun e_ => Kd.R_ne HRd.out HKd.out (by decide) (congrArg some e_)) _⟩, ⟨Kd.S_over' HSd.out (Kd.R_typed HRd.out) (by decide) g_⟩, ⟨?_⟩, ⟨HBd.out.setCell (p := ⟨gb, i, none⟩) HGB.out _⟩⟩
    rw [flipTo_step hlt, ← HX.out]
    exact h_
   case measure => simp [intOf]; omega
  ·have q1b : decide ((i : Int) < (l0_2.length : Int)) = false := decide_eq_false (by omega)
   have q1c : (i < l0_2.length) = False := eq_false (by omega)
   obtain rfl : i = l0_2.length := by omega
   obtain ⟨wl, rfl⟩ : ∃ wl, wl = wq := ⟨wq, rfl⟩
   have hR_ := HR.out
   rw [flipTo_all, ← ZYF.out] at hR_
   have HYL : Q0 (l0_2.length = YF.length) := ⟨by rw [ZYF.out, List.length_map]⟩
   rw [HYL.out] at hR_
   have KR := Q0.mk hR_
   have K24 : Q0 (wl.heap[w139_.heap.size + 1]? = some (.cells #[.int .i64 a0_0, .slice A171_ l0_1.length c172_, .slice (some ⟨gb, 0, none⟩) YF.length c174_] 25 (0, 0))) := ⟨by rw [← HYL.out]; exact HG.out⟩
   have SW := Q0.mk HB.out
   clear hR_ HG HB HR q1c
   have y2_ : wl.cell? ⟨w139_.heap.size + 1, 2, none⟩ = some (.slice (some ⟨gb, 0, none⟩) l0_2.length c174_) := by rw [HYL.out]; exact (bcz K24.out 2).trans rfl
   have q9_ : ¬ ((l0_2.length : Int) < (l0_2.length : Int)) := by omega
   obtain ⟨c185_, c186_, c187_⟩ := cells3 (bb K46_.out (bsz (bsz (bsz (bsz (bsz (bsz (bsz (bsz (bsz (bsz (bsz (S48_.out) S64_.out) S67_.out) S80_.out) S83_.out) S99_.out) S102_.out) S118_.out) S121_.out) S137_.out) S140_.out) SW.out))
   obtain ⟨c188_, c189_, c190_⟩ := cells3 (bb K119_.out (bsz (bsz (bsz (S121_.out) S137_.out) S140_.out) SW.out))
   go_wp2_with (first | (go_at_call 41; have hF_ := Zs1.out; clear Zs1; (try clear y2_ c185_ c186_ c187_ c188_ c189_ c190_); refine (caesurakeep_Automaton.calls i1  x1 A30_ c31_ X1 A32_ c33_ Y1 x1 A103_ c104_ X1 A105_ c106_ Y1  true _ (Kd.C_below (K34_.out) (bsz (bsz (bsz (bsz (bsz (bsz (bsz (bsz (bsz (bsz (bsz (bsz (S45_.out) S48_.out) S64_.out) S67_.out) S80_.out) S83_.out) S99_.out) S102_.out) S118_.out) S121_.out) S137_.out) S140_.out) SW.out)) L35_.out (Kd.C_below (K36_.out) (bsz (bsz (bsz (bsz (bsz (bsz (bsz (bsz (bsz (bsz (bsz (bsz (S45_.out) S48_.out) S64_.out) S67_.out) S80_.out) S83_.out) S99_.out) S102_.out) S118_.out) S121_.out) S137_.out) S140_.out) SW.out)) L37_.out (Kd.C_below (K107_.out) (bsz (bsz (bsz (bsz (S118_.out) S121_.out) S137_.out) S140_.out) SW.out)) L108_.out (Kd.C_below (K109_.out) (bsz (bsz (bsz (bsz (S118_.out) S121_.out) S137_.out) S140_.out) SW.out)) L110_.out  hF_).mono ?_; clear hF_; rintro e w191_ ⟨rfl, hb_⟩; have S192_ := Q0.mk hb_; clear hb_; obtain ⟨c193_, c194_, c195_⟩ := cells3 (bb K65_.out (bsz (bsz (bsz (bsz (bsz (bsz (bsz (bsz (bsz (bsz (S67_.out) S80_.out) S83_.out) S99_.out) S102_.out) S118_.out) S121_.out) S137_.out) S140_.out) SW.out) S192_.out)); obtain ⟨c196_, c197_, c198_⟩ := cells3 (bb K138_.out (bsz (bsz (S140_.out) SW.out) S192_.out))) | (go_at_call 41; have hF_ := Zs2.out; clear Zs2; (try clear c193_ c194_ c195_ c196_ c197_ c198_); refine (caesurakeep_Automaton.calls i2  x2 A49_ c50_ X2 A51_ c52_ Y2 x2 A122_ c123_ X2 A124_ c125_ Y2  true _ (Kd.C_below (K53_.out) (bsz (bsz (bsz (bsz (bsz (bsz (bsz (bsz (bsz (bsz (bsz (S64_.out) S67_.out) S80_.out) S83_.out) S99_.out) S102_.out) S118_.out) S121_.out) S137_.out) S140_.out) SW.out) S192_.out)) L54_.out (Kd.C_below (K55_.out) (bsz (bsz (bsz (bsz (bsz (bsz (bsz (bsz (bsz (bsz (bsz (S64_.out) S67_.out) S80_.out) S83_.out) S99_.out) S102_.out) S118_.out) S121_.out) S137_.out) S140_.out) SW.out) S192_.out)) L56_.out (Kd.C_below (K126_.out) (bsz (bsz (bsz (S137_.out) S140_.out) SW.out) S192_.out)) L127_.out (Kd.C_below (K128_.out) (bsz (bsz (bsz (S137_.out) S140_.out) SW.out) S192_.out)) L129_.out  hF_).mono ?_; clear hF_; rintro e w199_ ⟨rfl, hb_⟩; have S200_ := Q0.mk hb_; clear hb_; obtain ⟨c201_, c202_, c203_⟩ := cells3 (bb K81_.out (bsz (bsz (bsz (bsz (bsz (bsz (bsz (bsz (bsz (S83_.out) S99_.out) S102_.out) S118_.out) S121_.out) S137_.out) S140_.out) SW.out) S192_.out) S200_.out)); obtain ⟨c204_, c205_, c206_⟩ := cells3 (bb HK.out (bsz (S192_.out) S200_.out))) | (go_at_call 41; have hF_ := Zs3.out; clear Zs3; (try clear c201_ c202_ c203_ c204_ c205_ c206_); refine (caesurakeep_Automaton.calls i3  x3 A68_ c69_ X3 A70_ c71_ Y3 x3 A141_ c142_ X3 A143_ c144_ Y3  true _ (Kd.C_below (K72_.out) (bsz (bsz (bsz (bsz (bsz (bsz (bsz (bsz (bsz (bsz (S80_.out) S83_.out) S99_.out) S102_.out) S118_.out) S121_.out) S137_.out) S140_.out) SW.out) S192_.out) S200_.out)) L73_.out (Kd.C_below (K74_.out) (bsz (bsz (bsz (bsz (bsz (bsz (bsz (bsz (bsz (bsz (S80_.out) S83_.out) S99_.out) S102_.out) S118_.out) S121_.out) S137_.out) S140_.out) SW.out) S192_.out) S200_.out)) L75_.out (Kd.C_below (K145_.out) (bsz (bsz (SW.out) S192_.out) S200_.out)) L146_.out (Kd.C_below (K147_.out) (bsz (bsz (SW.out) S192_.out) S200_.out)) L148_.out  hF_).mono ?_; clear hF_; rintro e w207_ ⟨rfl, hb_⟩; have S208_ := Q0.mk hb_; clear hb_; obtain ⟨c209_, c210_, c211_⟩ := cells3 (bb K100_.out (bsz (bsz (bsz (bsz (bsz (bsz (bsz (bsz (S102_.out) S118_.out) S121_.out) S137_.out) S140_.out) SW.out) S192_.out) S200_.out) S208_.out)); obtain ⟨c212_, c213_, c214_⟩ := cells3 (bb K24.out (bsz (bsz (S192_.out) S200_.out) S208_.out))) | (go_at_call 41; have hF_ := Zs4.out; clear Zs4; (try clear c209_ c210_ c211_ c212_ c213_ c214_); refine (caesurakeep_Automaton.calls i4  x4 A84_ c85_ X4 A86_ c87_ Y4 a0_0 A171_ c172_ l0_1 (some ⟨gb, 0, none⟩) c174_ YF  true _ (Kd.C_below (K88_.out) (bsz (bsz (bsz (bsz (bsz (bsz (bsz (bsz (bsz (S99_.out) S102_.out) S118_.out) S121_.out) S137_.out) S140_.out) SW.out) S192_.out) S200_.out) S208_.out)) L89_.out (Kd.C_below (K90_.out) (bsz (bsz (bsz (bsz (bsz (bsz (bsz (bsz (bsz (S99_.out) S102_.out) S118_.out) S121_.out) S137_.out) S140_.out) SW.out) S192_.out) S200_.out) S208_.out)) L91_.out (Kd.C_below ((Kd.R_reads' (Kd.S_R HS.out)).2.2) (bsz (bsz (S192_.out) S200_.out) S208_.out)) (Kd.R_reads' (Kd.S_R HS.out)).2.1 (Kd.C_below ((Kd.R_reads' KR.out).2.2) (bsz (bsz (S192_.out) S200_.out) S208_.out)) (Kd.R_reads' KR.out).2.1  hF_).mono ?_; clear hF_; rintro e w215_ ⟨rfl, hb_⟩; have S216_ := Q0.mk hb_; clear hb_; obtain ⟨c217_, c218_, c219_⟩ := cells3 (bb K6_.out (bsz (bsz (bsz (bsz (bsz (bsz (bsz (bsz (bsz (bsz (bsz (bsz (bsz (bsz (bsz (bsz (bsz (bsz (bsz (bsz (S9_.out) S14_.out) S15_.out) S29_.out) S45_.out) S48_.out) S64_.out) S67_.out) S80_.out) S83_.out) S99_.out) S102_.out) S118_.out) S121_.out) S137_.out) S140_.out) SW.out) S192_.out) S200_.out) S208_.out) S216_.out))) | (go_at_call 37; have hF_ := Zg2.out; clear Zg2; (try clear c217_ c218_ c219_); refine (caesuraref19_Good.calls j3  a0_0 A0_1 c0_1 l0_1 A0_2 c0_2 l0_2  gd _ (Kd.C_below (HR0_1.out) (bsz (bsz (bsz (bsz (bsz (bsz (bsz (bsz (bsz (bsz (bsz (bsz (bsz (bsz (bsz (bsz (bsz (bsz (bsz (bsz (bsz (S5_.out) S9_.out) S14_.out) S15_.out) S29_.out) S45_.out) S48_.out) S64_.out) S67_.out) S80_.out) S83_.out) S99_.out) S102_.out) S118_.out) S121_.out) S137_.out) S140_.out) SW.out) S192_.out) S200_.out) S208_.out) S216_.out)) hc0_1 (Kd.C_below (HR0_2.out) (bsz (bsz (bsz (bsz (bsz (bsz (bsz (bsz (bsz (bsz (bsz (bsz (bsz (bsz (bsz (bsz (bsz (bsz (bsz (bsz (bsz (S5_.out) S9_.out) S14_.out) S15_.out) S29_.out) S45_.out) S48_.out) S64_.out) S67_.out) S80_.out) S83_.out) S99_.out) S102_.out) S118_.out) S121_.out) S137_.out) S140_.out) SW.out) S192_.out) S200_.out) S208_.out) S216_.out)) hc0_2  hF_).mono ?_; clear hF_; rintro e w220_ ⟨rfl, hb_⟩; have S221_ := Q0.mk hb_; clear hb_; obtain ⟨c222_, c223_, c224_⟩ := cells3 (bb K16_.out (bsz (bsz (bsz (bsz (bsz (bsz (bsz (bsz (bsz (bsz (bsz (bsz (bsz (bsz (bsz (bsz (bsz (bsz (S29_.out) S45_.out) S48_.out) S64_.out) S67_.out) S80_.out) S83_.out) S99_.out) S102_.out) S118_.out) S121_.out) S137_.out) S140_.out) SW.out) S192_.out) S200_.out) S208_.out) S216_.out) S221_.out)); obtain ⟨c225_, c226_, c227_⟩ := cells3 (bb K6_.out (bsz (bsz (bsz (bsz (bsz (bsz (bsz (bsz (bsz (bsz (bsz (bsz (bsz (bsz (bsz (bsz (bsz (bsz (bsz (bsz (bsz (S9_.out) S14_.out) S15_.out) S29_.out) S45_.out) S48_.out) S64_.out) S67_.out) S80_.out) S83_.out) S99_.out) S102_.out) S118_.out) S121_.out) S137_.out) S140_.out) SW.out) S192_.out) S200_.out) S208_.out) S216_.out) S221_.out))) | (go_at_call 41; have hF_ := Zs5.out; clear Zs5; (try clear c222_ c223_ c224_ c225_ c226_ c227_); refine (caesurakeep_Automaton.calls i5  a0_0 P1a p1a l0_1 P1b p1b l0_2 a0_0 A0_1 c0_1 l0_1 A0_2 c0_2 l0_2  true _ (Kd.C_below (K18_.out.2) (bsz (bsz (bsz (bsz (bsz (bsz (bsz (bsz (bsz (bsz (bsz (bsz (bsz (bsz (bsz (bsz (bsz (bsz (S29_.out) S45_.out) S48_.out) S64_.out) S67_.out) S80_.out) S83_.out) S99_.out) S102_.out) S118_.out) S121_.out) S137_.out) S140_.out) SW.out) S192_.out) S200_.out) S208_.out) S216_.out) S221_.out)) K18_.out.1 (Kd.C_below (K19_.out.2) (bsz (bsz (bsz (bsz (bsz (bsz (bsz (bsz (bsz (bsz (bsz (bsz (bsz (bsz (bsz (bsz (bsz (bsz (S29_.out) S45_.out) S48_.out) S64_.out) S67_.out) S80_.out) S83_.out) S99_.out) S102_.out) S118_.out) S121_.out) S137_.out) S140_.out) SW.out) S192_.out) S200_.out) S208_.out) S216_.out) S221_.out)) K19_.out.1 (Kd.C_below (HR0_1.out) (bsz (bsz (bsz (bsz (bsz (bsz (bsz (bsz (bsz (bsz (bsz (bsz (bsz (bsz (bsz (bsz (bsz (bsz (bsz (bsz (bsz (bsz (S5_.out) S9_.out) S14_.out) S15_.out) S29_.out) S45_.out) S48_.out) S64_.out) S67_.out) S80_.out) S83_.out) S99_.out) S102_.out) S118_.out) S121_.out) S137_.out) S140_.out) SW.out) S192_.out) S200_.out) S208_.out) S216_.out) S221_.out)) hc0_1 (Kd.C_below (HR0_2.out) (bsz (bsz (bsz (bsz (bsz (bsz (bsz (bsz (bsz (bsz (bsz (bsz (bsz (bsz (bsz (bsz (bsz (bsz (bsz (bsz (bsz (bsz (S5_.out) S9_.out) S14_.out) S15_.out) S29_.out) S45_.out) S48_.out) S64_.out) S67_.out) S80_.out) S83_.out) S99_.out) S102_.out) S118_.out) S121_.out) S137_.out) S140_.out) SW.out) S192_.out) S200_.out) S208_.out) S216_.out) S221_.out)) hc0_2  hF_).mono ?_; clear hF_; rintro e w228_ ⟨rfl, hb_⟩; have S229_ := Q0.mk hb_; clear hb_; obtain ⟨c230_, c231_, c232_⟩ := cells3 (bb K17_.out (bsz (bsz (bsz (bsz (bsz (bsz (bsz (bsz (bsz (bsz (bsz (bsz (bsz (bsz (bsz (bsz (bsz (bsz (bsz (S29_.out) S45_.out) S48_.out) S64_.out) S67_.out) S80_.out) S83_.out) S99_.out) S102_.out) S118_.out) S121_.out) S137_.out) S140_.out) SW.out) S192_.out) S200_.out) S208_.out) S216_.out) S221_.out) S229_.out)); obtain ⟨c233_, c234_, c235_⟩ := cells3 (bb K7_.out (bsz (bsz (bsz (bsz (bsz (bsz (bsz (bsz (bsz (bsz (bsz (bsz (bsz (bsz (bsz (bsz (bsz (bsz (bsz (bsz (bsz (bsz (S9_.out) S14_.out) S15_.out) S29_.out) S45_.out) S48_.out) S64_.out) S67_.out) S80_.out) S83_.out) S99_.out) S102_.out) S118_.out) S121_.out) S137_.out) S140_.out) SW.out) S192_.out) S200_.out) S208_.out) S216_.out) S221_.out) S229_.out))) | (go_at_call 41; have hF_ := Zs6.out; clear Zs6; (try clear c230_ c231_ c232_ c233_ c234_ c235_); refine (caesurakeep_Automaton.calls i6  a1_0 P3a p3a l1_1 P3b p3b l1_2 a1_0 A1_1 c1_1 l1_1 A1_2 c1_2 l1_2  true _ (Kd.C_below (K20_.out.2) (bsz (bsz (bsz (bsz (bsz (bsz (bsz (bsz (bsz (bsz (bsz (bsz (bsz (bsz (bsz (bsz (bsz (bsz (bsz (S29_.out) S45_.out) S48_.out) S64_.out) S67_.out) S80_.out) S83_.out) S99_.out) S102_.out) S118_.out) S121_.out) S137_.out) S140_.out) SW.out) S192_.out) S200_.out) S208_.out) S216_.out) S221_.out) S229_.out)) K20_.out.1 (Kd.C_below (K21_.out.2) (bsz (bsz (bsz (bsz (bsz (bsz (bsz (bsz (bsz (bsz (bsz (bsz (bsz (bsz (bsz (bsz (bsz (bsz (bsz (S29_.out) S45_.out) S48_.out) S64_.out) S67_.out) S80_.out) S83_.out) S99_.out) S102_.out) S118_.out) S121_.out) S137_.out) S140_.out) SW.out) S192_.out) S200_.out) S208_.out) S216_.out) S221_.out) S229_.out)) K21_.out.1 (Kd.C_below (HR1_1.out) (bsz (bsz (bsz (bsz (bsz (bsz (bsz (bsz (bsz (bsz (bsz (bsz (bsz (bsz (bsz (bsz (bsz (bsz (bsz (bsz (bsz (bsz (bsz (S5_.out) S9_.out) S14_.out) S15_.out) S29_.out) S45_.out) S48_.out) S64_.out) S67_.out) S80_.out) S83_.out) S99_.out) S102_.out) S118_.out) S121_.out) S137_.out) S140_.out) SW.out) S192_.out) S200_.out) S208_.out) S216_.out) S221_.out) S229_.out)) hc1_1 (Kd.C_below (HR1_2.out) (bsz (bsz (bsz (bsz (bsz (bsz (bsz (bsz (bsz (bsz (bsz (bsz (bsz (bsz (bsz (bsz (bsz (bsz (bsz (bsz (bsz (bsz (bsz (S5_.out) S9_.out) S14_.out) S15_.out) S29_.out) S45_.out) S48_.out) S64_.out) S67_.out) S80_.out) S83_.out) S99_.out) S102_.out) S118_.out) S121_.out) S137_.out) S140_.out) SW.out) S192_.out) S200_.out) S208_.out) S216_.out) S221_.out) S229_.out)) hc1_2  hF_).mono ?_; clear hF_; rintro e w236_ ⟨rfl, hb_⟩; have S237_ := Q0.mk hb_; clear hb_) | (go_at_call 73; have hF_ := ZW.out; clear ZW; refine (caesuralaw24_wakes.calls kw    true _   hF_).mono ?_; clear hF_; rintro e w238_ ⟨rfl, hb_⟩; have S239_ := Q0.mk hb_; clear hb_))
   go_ret
   exact ⟨rfl, bsz (bsz (bsz (bsz (bsz (bsz (bsz (bsz (bsz (bsz (bsz (bsz (bsz (bsz (bsz (bsz (bsz (bsz (bsz (bsz (bsz (bsz (bsz (bsz (bsz (S5_.out) S9_.out) S14_.out) S15_.out) S29_.out) S45_.out) S48_.out) S64_.out) S67_.out) S80_.out) S83_.out) S99_.out) S102_.out) S118_.out) S121_.out) S137_.out) S140_.out) SW.out) S192_.out) S200_.out) S208_.out) S216_.out) S221_.out) S229_.out) S237_.out) S239_.out⟩

end Go.Proofs.Ytelkjbacdpmnfaa.A
