/- By a program, out of the translation (wip/myprint.py). -/
import Derived.Test.YtelkjbacdpmnfaaB0
import Derived.Test.YtelkjbacdpmnfaaBCaesuralaw22Wakes
import Derived.Test.YtelkjbacdpmnfaaBCaesuraref19Good
import Derived.Test.YtelkjbacdpmnfaaBEq60
import Derived.Test.YtelkjbacdpmnfaaBNumberAlike
import Derived.Test.YtelkjbacdpmnfaaBPlainAut
import Derived.Test.YtelkjbacdpmnfaaBPlainBase
import Derived.Test.YtelkjbacdpmnfaaBPlainGood
import Derived.Test.YtelkjbacdpmnfaaBProdF
import Derived.Test.YtelkjbacdpmnfaaBRef24Words
import Derived.Test.YtelkjbacdpmnfaaBThompsonGood
import Derived.Test.YtelkjbacdpmnfaaBWordsA
import Derived.Test.YtelkjbacdpmnfaaBWordsB
namespace Go.Proofs.Ytelkjbacdpmnfaa.A
open Go.RowKit Go.W_.PrintWords Go.W_.PrintLast Go.W_.PrintMore
attribute [local go_sem] max2_int min2_int max_two min_two max_three min_three max_four min_four
set_option linter.unusedVariables false
set_option linter.unusedSimpArgs false

attribute [local go_sem high] eqA60
set_option maxHeartbeats 8000000 in
set_option maxRecDepth 100000 in
theorem apart_short0 (k0 k1 kw : Nat) (a0_0 : Int) (A0_1 : Option Addr) (c0_1 : Nat) (l0_1 : List (List Int)) (A0_2 : Option Addr) (c0_2 : Nat) (l0_2 : List Bool) (a1_0 : Int) (A1_1 : Option Addr) (c1_1 : Nat) (l1_1 : List (List Int)) (A1_2 : Option Addr) (c1_2 : Nat) (l1_2 : List Bool) (w : World) (hr0_1 : Kd.C (Kd.slice 3 (Kd.int .i64)) w A0_1 l0_1.length l0_1) (hc0_1 : l0_1.length ≤ c0_1) (hr0_2 : Kd.C Kd.bool w A0_2 l0_2.length l0_2) (hc0_2 : l0_2.length ≤ c0_2) (hr1_1 : Kd.C (Kd.slice 3 (Kd.int .i64)) w A1_1 l1_1.length l1_1) (hc1_1 : l1_1.length ≤ c1_1) (hr1_2 : Kd.C Kd.bool w A1_2 l1_2.length l1_2) (hc1_2 : l1_2.length ≤ c1_2) (h0 : caesuraref19_Good.f k0 a0_0 l0_1 l0_2 = some false)  (hw : caesuralaw22_wakes.f kw = some true) :
  Calls Try.prog 15 #[.agg #[.int .i64 a0_0, .slice A0_1 l0_1.length c0_1, .slice A0_2 l0_2.length c0_2], .agg #[.int .i64 a1_0, .slice A1_1 l1_1.length c1_1, .slice A1_2 l1_2.length c1_2]] w fun e w' => e = .returned (.bool true) ∧ Below w.heap.size w w' := by
 have hu25 := Try.underlying25
 have hu45 := Try.underlying45
 have hu22 := Try.underlying22
 have hu23 := Try.underlying23
 have HR0_1 := Q0.mk hr0_1
 have HR0_2 := Q0.mk hr0_2
 clear hr0_1 hr0_2
 have HR1_1 := Q0.mk hr1_1
 have HR1_2 := Q0.mk hr1_2
 clear hr1_1 hr1_2
 have Zg0 := Q0.mk h0
 clear h0
 have ZW := Q0.mk hw
 clear hw
 obtain ⟨c1_, c2_, c3_⟩ := cells3 (show ((w.alloc (.cells #[.int .i64 a0_0, .slice A0_1 l0_1.length c0_1, .slice A0_2 l0_2.length c0_2] 25)).alloc (.cells #[.int .i64 a1_0, .slice A1_1 l1_1.length c1_1, .slice A1_2 l1_2.length c1_2] 25)).heap[w.heap.size]? = some (.cells #[.int .i64 a0_0, .slice A0_1 l0_1.length c0_1, .slice A0_2 l0_2.length c0_2] 25 (0, 0)) from bA (new_at _ (by simp)) _)
 go_enter Try.func15, Try.ntmps15
 go_wp2_with (first | (go_at_call 37; have hF_ := Zg0.out; clear Zg0; (try clear c1_ c2_ c3_); refine calls_new (v := w) (F := fun W => W.heap[w.heap.size]? = some (.cells #[.int .i64 a0_0, .slice A0_1 l0_1.length c0_1, .slice A0_2 l0_2.length c0_2] 25 (0, 0)) ∧ W.heap[w.heap.size + 1]? = some (.cells #[.int .i64 a1_0, .slice A1_1 l1_1.length c1_1, .slice A1_2 l1_2.length c1_2] 25 (0, 0))) (ba (ba (Below.refl _ _) (.cells #[.int .i64 a0_0, .slice A0_1 l0_1.length c0_1, .slice A0_2 l0_2.length c0_2] 25)) (.cells #[.int .i64 a1_0, .slice A1_1 l1_1.length c1_1, .slice A1_2 l1_2.length c1_2] 25)) (⟨bA (new_at _ (by simp)) _, new_at _ (by simp)⟩) (fun w4_ b_ f_ => ?_); have S5_ := Q0.mk b_; have K6_ := Q0.mk f_.1; have K7_ := Q0.mk f_.2; clear b_ f_; refine (caesuraref19_Good.calls k0  a0_0 A0_1 c0_1 l0_1 A0_2 c0_2 l0_2  false _ (Kd.C_below (HR0_1.out) (S5_.out)) hc0_1 (Kd.C_below (HR0_2.out) (S5_.out)) hc0_2  hF_).mono ?_; clear hF_; rintro e w8_ ⟨rfl, hb_⟩; have S9_ := Q0.mk hb_; clear hb_) | (go_at_call 63; have hF_ := ZW.out; clear ZW; refine (caesuralaw22_wakes.calls kw    true _   hF_).mono ?_; clear hF_; rintro e w10_ ⟨rfl, hb_⟩; have S11_ := Q0.mk hb_; clear hb_))
 go_ret
 exact ⟨rfl, bsz (bsz (S5_.out) S9_.out) S11_.out⟩
set_option maxHeartbeats 8000000 in
set_option maxRecDepth 100000 in
theorem apart_short1 (k0 k1 kw : Nat) (a0_0 : Int) (A0_1 : Option Addr) (c0_1 : Nat) (l0_1 : List (List Int)) (A0_2 : Option Addr) (c0_2 : Nat) (l0_2 : List Bool) (a1_0 : Int) (A1_1 : Option Addr) (c1_1 : Nat) (l1_1 : List (List Int)) (A1_2 : Option Addr) (c1_2 : Nat) (l1_2 : List Bool) (w : World) (hr0_1 : Kd.C (Kd.slice 3 (Kd.int .i64)) w A0_1 l0_1.length l0_1) (hc0_1 : l0_1.length ≤ c0_1) (hr0_2 : Kd.C Kd.bool w A0_2 l0_2.length l0_2) (hc0_2 : l0_2.length ≤ c0_2) (hr1_1 : Kd.C (Kd.slice 3 (Kd.int .i64)) w A1_1 l1_1.length l1_1) (hc1_1 : l1_1.length ≤ c1_1) (hr1_2 : Kd.C Kd.bool w A1_2 l1_2.length l1_2) (hc1_2 : l1_2.length ≤ c1_2) (h0 : caesuraref19_Good.f k0 a0_0 l0_1 l0_2 = some true) (h1 : caesuraref19_Good.f k1 a1_0 l1_1 l1_2 = some false)  (hw : caesuralaw22_wakes.f kw = some true) :
  Calls Try.prog 15 #[.agg #[.int .i64 a0_0, .slice A0_1 l0_1.length c0_1, .slice A0_2 l0_2.length c0_2], .agg #[.int .i64 a1_0, .slice A1_1 l1_1.length c1_1, .slice A1_2 l1_2.length c1_2]] w fun e w' => e = .returned (.bool true) ∧ Below w.heap.size w w' := by
 have hu25 := Try.underlying25
 have hu45 := Try.underlying45
 have hu22 := Try.underlying22
 have hu23 := Try.underlying23
 have HR0_1 := Q0.mk hr0_1
 have HR0_2 := Q0.mk hr0_2
 clear hr0_1 hr0_2
 have HR1_1 := Q0.mk hr1_1
 have HR1_2 := Q0.mk hr1_2
 clear hr1_1 hr1_2
 have Zg0 := Q0.mk h0
 clear h0
 have Zg1 := Q0.mk h1
 clear h1
 have ZW := Q0.mk hw
 clear hw
 obtain ⟨c1_, c2_, c3_⟩ := cells3 (show ((w.alloc (.cells #[.int .i64 a0_0, .slice A0_1 l0_1.length c0_1, .slice A0_2 l0_2.length c0_2] 25)).alloc (.cells #[.int .i64 a1_0, .slice A1_1 l1_1.length c1_1, .slice A1_2 l1_2.length c1_2] 25)).heap[w.heap.size]? = some (.cells #[.int .i64 a0_0, .slice A0_1 l0_1.length c0_1, .slice A0_2 l0_2.length c0_2] 25 (0, 0)) from bA (new_at _ (by simp)) _)
 go_enter Try.func15, Try.ntmps15
 go_wp2_with (first | (go_at_call 37; have hF_ := Zg0.out; clear Zg0; (try clear c1_ c2_ c3_); refine calls_new (v := w) (F := fun W => W.heap[w.heap.size]? = some (.cells #[.int .i64 a0_0, .slice A0_1 l0_1.length c0_1, .slice A0_2 l0_2.length c0_2] 25 (0, 0)) ∧ W.heap[w.heap.size + 1]? = some (.cells #[.int .i64 a1_0, .slice A1_1 l1_1.length c1_1, .slice A1_2 l1_2.length c1_2] 25 (0, 0))) (ba (ba (Below.refl _ _) (.cells #[.int .i64 a0_0, .slice A0_1 l0_1.length c0_1, .slice A0_2 l0_2.length c0_2] 25)) (.cells #[.int .i64 a1_0, .slice A1_1 l1_1.length c1_1, .slice A1_2 l1_2.length c1_2] 25)) (⟨bA (new_at _ (by simp)) _, new_at _ (by simp)⟩) (fun w4_ b_ f_ => ?_); have S5_ := Q0.mk b_; have K6_ := Q0.mk f_.1; have K7_ := Q0.mk f_.2; clear b_ f_; refine (caesuraref19_Good.calls k0  a0_0 A0_1 c0_1 l0_1 A0_2 c0_2 l0_2  true _ (Kd.C_below (HR0_1.out) (S5_.out)) hc0_1 (Kd.C_below (HR0_2.out) (S5_.out)) hc0_2  hF_).mono ?_; clear hF_; rintro e w8_ ⟨rfl, hb_⟩; have S9_ := Q0.mk hb_; clear hb_; obtain ⟨c10_, c11_, c12_⟩ := cells3 (bb K7_.out (S9_.out))) | (go_at_call 37; have hF_ := Zg1.out; clear Zg1; (try clear c10_ c11_ c12_); refine (caesuraref19_Good.calls k1  a1_0 A1_1 c1_1 l1_1 A1_2 c1_2 l1_2  false _ (Kd.C_below (HR1_1.out) (bsz (S5_.out) S9_.out)) hc1_1 (Kd.C_below (HR1_2.out) (bsz (S5_.out) S9_.out)) hc1_2  hF_).mono ?_; clear hF_; rintro e w13_ ⟨rfl, hb_⟩; have S14_ := Q0.mk hb_; clear hb_) | (go_at_call 63; have hF_ := ZW.out; clear ZW; refine (caesuralaw22_wakes.calls kw    true _   hF_).mono ?_; clear hF_; rintro e w15_ ⟨rfl, hb_⟩; have S16_ := Q0.mk hb_; clear hb_))
 go_ret
 exact ⟨rfl, bsz (bsz (bsz (S5_.out) S9_.out) S14_.out) S16_.out⟩
set_option maxHeartbeats 8000000 in
set_option maxRecDepth 100000 in
theorem apart_short2 (k0 k1 kw : Nat) (a0_0 : Int) (A0_1 : Option Addr) (c0_1 : Nat) (l0_1 : List (List Int)) (A0_2 : Option Addr) (c0_2 : Nat) (l0_2 : List Bool) (a1_0 : Int) (A1_1 : Option Addr) (c1_1 : Nat) (l1_1 : List (List Int)) (A1_2 : Option Addr) (c1_2 : Nat) (l1_2 : List Bool) (w : World) (hr0_1 : Kd.C (Kd.slice 3 (Kd.int .i64)) w A0_1 l0_1.length l0_1) (hc0_1 : l0_1.length ≤ c0_1) (hr0_2 : Kd.C Kd.bool w A0_2 l0_2.length l0_2) (hc0_2 : l0_2.length ≤ c0_2) (hr1_1 : Kd.C (Kd.slice 3 (Kd.int .i64)) w A1_1 l1_1.length l1_1) (hc1_1 : l1_1.length ≤ c1_1) (hr1_2 : Kd.C Kd.bool w A1_2 l1_2.length l1_2) (hc1_2 : l1_2.length ≤ c1_2) (h0 : caesuraref19_Good.f k0 a0_0 l0_1 l0_2 = some true) (h1 : caesuraref19_Good.f k1 a1_0 l1_1 l1_2 = some true) (h4 : a0_0 ≠ a1_0) (hw : caesuralaw22_wakes.f kw = some true) :
  Calls Try.prog 15 #[.agg #[.int .i64 a0_0, .slice A0_1 l0_1.length c0_1, .slice A0_2 l0_2.length c0_2], .agg #[.int .i64 a1_0, .slice A1_1 l1_1.length c1_1, .slice A1_2 l1_2.length c1_2]] w fun e w' => e = .returned (.bool true) ∧ Below w.heap.size w w' := by
 have hu25 := Try.underlying25
 have hu45 := Try.underlying45
 have hu22 := Try.underlying22
 have hu23 := Try.underlying23
 have HR0_1 := Q0.mk hr0_1
 have HR0_2 := Q0.mk hr0_2
 clear hr0_1 hr0_2
 have HR1_1 := Q0.mk hr1_1
 have HR1_2 := Q0.mk hr1_2
 clear hr1_1 hr1_2
 have Zg0 := Q0.mk h0
 clear h0
 have Zg1 := Q0.mk h1
 clear h1
 have ZW := Q0.mk hw
 clear hw
 have n0_ : (a0_0 != a1_0) = true := by simpa using h4
 have n1_ : (a0_0 = a1_0) = False := eq_false h4
 have n2_ : (a0_0 == a1_0) = false := by simpa using h4
 clear h4
 obtain ⟨c1_, c2_, c3_⟩ := cells3 (show ((w.alloc (.cells #[.int .i64 a0_0, .slice A0_1 l0_1.length c0_1, .slice A0_2 l0_2.length c0_2] 25)).alloc (.cells #[.int .i64 a1_0, .slice A1_1 l1_1.length c1_1, .slice A1_2 l1_2.length c1_2] 25)).heap[w.heap.size]? = some (.cells #[.int .i64 a0_0, .slice A0_1 l0_1.length c0_1, .slice A0_2 l0_2.length c0_2] 25 (0, 0)) from bA (new_at _ (by simp)) _)
 go_enter Try.func15, Try.ntmps15
 go_wp2_with (first | (go_at_call 37; have hF_ := Zg0.out; clear Zg0; (try clear c1_ c2_ c3_); refine calls_new (v := w) (F := fun W => W.heap[w.heap.size]? = some (.cells #[.int .i64 a0_0, .slice A0_1 l0_1.length c0_1, .slice A0_2 l0_2.length c0_2] 25 (0, 0)) ∧ W.heap[w.heap.size + 1]? = some (.cells #[.int .i64 a1_0, .slice A1_1 l1_1.length c1_1, .slice A1_2 l1_2.length c1_2] 25 (0, 0))) (ba (ba (Below.refl _ _) (.cells #[.int .i64 a0_0, .slice A0_1 l0_1.length c0_1, .slice A0_2 l0_2.length c0_2] 25)) (.cells #[.int .i64 a1_0, .slice A1_1 l1_1.length c1_1, .slice A1_2 l1_2.length c1_2] 25)) (⟨bA (new_at _ (by simp)) _, new_at _ (by simp)⟩) (fun w4_ b_ f_ => ?_); have S5_ := Q0.mk b_; have K6_ := Q0.mk f_.1; have K7_ := Q0.mk f_.2; clear b_ f_; refine (caesuraref19_Good.calls k0  a0_0 A0_1 c0_1 l0_1 A0_2 c0_2 l0_2  true _ (Kd.C_below (HR0_1.out) (S5_.out)) hc0_1 (Kd.C_below (HR0_2.out) (S5_.out)) hc0_2  hF_).mono ?_; clear hF_; rintro e w8_ ⟨rfl, hb_⟩; have S9_ := Q0.mk hb_; clear hb_; obtain ⟨c10_, c11_, c12_⟩ := cells3 (bb K7_.out (S9_.out))) | (go_at_call 37; have hF_ := Zg1.out; clear Zg1; (try clear c10_ c11_ c12_); refine (caesuraref19_Good.calls k1  a1_0 A1_1 c1_1 l1_1 A1_2 c1_2 l1_2  true _ (Kd.C_below (HR1_1.out) (bsz (S5_.out) S9_.out)) hc1_1 (Kd.C_below (HR1_2.out) (bsz (S5_.out) S9_.out)) hc1_2  hF_).mono ?_; clear hF_; rintro e w13_ ⟨rfl, hb_⟩; have S14_ := Q0.mk hb_; clear hb_; obtain ⟨c15_, c16_, c17_⟩ := cells3 (bb K6_.out (bsz (S9_.out) S14_.out)); obtain ⟨c18_, c19_, c20_⟩ := cells3 (bb K7_.out (bsz (S9_.out) S14_.out))) | (go_at_call 63; have hF_ := ZW.out; clear ZW; (try clear c15_ c16_ c17_ c18_ c19_ c20_); refine (caesuralaw22_wakes.calls kw    true _   hF_).mono ?_; clear hF_; rintro e w21_ ⟨rfl, hb_⟩; have S22_ := Q0.mk hb_; clear hb_))
 go_ret
 exact ⟨rfl, bsz (bsz (bsz (S5_.out) S9_.out) S14_.out) S22_.out⟩
set_option maxHeartbeats 8000000 in
set_option maxRecDepth 100000 in
theorem apart_short3 (k0 k1 kw : Nat) (a0_0 : Int) (A0_1 : Option Addr) (c0_1 : Nat) (l0_1 : List (List Int)) (A0_2 : Option Addr) (c0_2 : Nat) (l0_2 : List Bool) (a1_0 : Int) (A1_1 : Option Addr) (c1_1 : Nat) (l1_1 : List (List Int)) (A1_2 : Option Addr) (c1_2 : Nat) (l1_2 : List Bool) (w : World) (hr0_1 : Kd.C (Kd.slice 3 (Kd.int .i64)) w A0_1 l0_1.length l0_1) (hc0_1 : l0_1.length ≤ c0_1) (hr0_2 : Kd.C Kd.bool w A0_2 l0_2.length l0_2) (hc0_2 : l0_2.length ≤ c0_2) (hr1_1 : Kd.C (Kd.slice 3 (Kd.int .i64)) w A1_1 l1_1.length l1_1) (hc1_1 : l1_1.length ≤ c1_1) (hr1_2 : Kd.C Kd.bool w A1_2 l1_2.length l1_2) (hc1_2 : l1_2.length ≤ c1_2) (h0 : caesuraref19_Good.f k0 a0_0 l0_1 l0_2 = some true) (h1 : caesuraref19_Good.f k1 a1_0 l1_1 l1_2 = some true) (h4 : a0_0 = a1_0) (h5 : (l0_1.length : Int) > 20) (hw : caesuralaw22_wakes.f kw = some true) :
  Calls Try.prog 15 #[.agg #[.int .i64 a0_0, .slice A0_1 l0_1.length c0_1, .slice A0_2 l0_2.length c0_2], .agg #[.int .i64 a1_0, .slice A1_1 l1_1.length c1_1, .slice A1_2 l1_2.length c1_2]] w fun e w' => e = .returned (.bool true) ∧ Below w.heap.size w w' := by
 have hu25 := Try.underlying25
 have hu45 := Try.underlying45
 have hu22 := Try.underlying22
 have hu23 := Try.underlying23
 have HR0_1 := Q0.mk hr0_1
 have HR0_2 := Q0.mk hr0_2
 clear hr0_1 hr0_2
 have HR1_1 := Q0.mk hr1_1
 have HR1_2 := Q0.mk hr1_2
 clear hr1_1 hr1_2
 have Zg0 := Q0.mk h0
 clear h0
 have Zg1 := Q0.mk h1
 clear h1
 have ZW := Q0.mk hw
 clear hw
 have n0_ : (a0_0 != a1_0) = false := by simpa using h4
 have n1_ : (a0_0 = a1_0) = True := eq_true h4
 have n2_ : (a0_0 == a1_0) = true := by simpa using h4
 have b0_ : ((l0_1.length : Int) > 20) = True := eq_true (h5)
 have b0d_ : decide ((l0_1.length : Int) > 20) = true := decide_eq_true (h5)
 have c0_ : (20 < (l0_1.length : Int)) = True := eq_true (h5)
 have c0d_ : decide (20 < (l0_1.length : Int)) = true := decide_eq_true (h5)
 have d0_ : (20 < l0_1.length) = True := eq_true (by omega)
 have d0d_ : decide (20 < l0_1.length) = true := decide_eq_true (by omega)
 clear h4
 clear h5
 obtain ⟨c1_, c2_, c3_⟩ := cells3 (show ((w.alloc (.cells #[.int .i64 a0_0, .slice A0_1 l0_1.length c0_1, .slice A0_2 l0_2.length c0_2] 25)).alloc (.cells #[.int .i64 a1_0, .slice A1_1 l1_1.length c1_1, .slice A1_2 l1_2.length c1_2] 25)).heap[w.heap.size]? = some (.cells #[.int .i64 a0_0, .slice A0_1 l0_1.length c0_1, .slice A0_2 l0_2.length c0_2] 25 (0, 0)) from bA (new_at _ (by simp)) _)
 go_enter Try.func15, Try.ntmps15
 go_wp2_with (first | (go_at_call 37; have hF_ := Zg0.out; clear Zg0; (try clear c1_ c2_ c3_); refine calls_new (v := w) (F := fun W => W.heap[w.heap.size]? = some (.cells #[.int .i64 a0_0, .slice A0_1 l0_1.length c0_1, .slice A0_2 l0_2.length c0_2] 25 (0, 0)) ∧ W.heap[w.heap.size + 1]? = some (.cells #[.int .i64 a1_0, .slice A1_1 l1_1.length c1_1, .slice A1_2 l1_2.length c1_2] 25 (0, 0))) (ba (ba (Below.refl _ _) (.cells #[.int .i64 a0_0, .slice A0_1 l0_1.length c0_1, .slice A0_2 l0_2.length c0_2] 25)) (.cells #[.int .i64 a1_0, .slice A1_1 l1_1.length c1_1, .slice A1_2 l1_2.length c1_2] 25)) (⟨bA (new_at _ (by simp)) _, new_at _ (by simp)⟩) (fun w4_ b_ f_ => ?_); have S5_ := Q0.mk b_; have K6_ := Q0.mk f_.1; have K7_ := Q0.mk f_.2; clear b_ f_; refine (caesuraref19_Good.calls k0  a0_0 A0_1 c0_1 l0_1 A0_2 c0_2 l0_2  true _ (Kd.C_below (HR0_1.out) (S5_.out)) hc0_1 (Kd.C_below (HR0_2.out) (S5_.out)) hc0_2  hF_).mono ?_; clear hF_; rintro e w8_ ⟨rfl, hb_⟩; have S9_ := Q0.mk hb_; clear hb_; obtain ⟨c10_, c11_, c12_⟩ := cells3 (bb K7_.out (S9_.out))) | (go_at_call 37; have hF_ := Zg1.out; clear Zg1; (try clear c10_ c11_ c12_); refine (caesuraref19_Good.calls k1  a1_0 A1_1 c1_1 l1_1 A1_2 c1_2 l1_2  true _ (Kd.C_below (HR1_1.out) (bsz (S5_.out) S9_.out)) hc1_1 (Kd.C_below (HR1_2.out) (bsz (S5_.out) S9_.out)) hc1_2  hF_).mono ?_; clear hF_; rintro e w13_ ⟨rfl, hb_⟩; have S14_ := Q0.mk hb_; clear hb_; obtain ⟨c15_, c16_, c17_⟩ := cells3 (bb K6_.out (bsz (S9_.out) S14_.out)); obtain ⟨c18_, c19_, c20_⟩ := cells3 (bb K7_.out (bsz (S9_.out) S14_.out))) | (go_at_call 63; have hF_ := ZW.out; clear ZW; (try clear c15_ c16_ c17_ c18_ c19_ c20_); refine (caesuralaw22_wakes.calls kw    true _   hF_).mono ?_; clear hF_; rintro e w21_ ⟨rfl, hb_⟩; have S22_ := Q0.mk hb_; clear hb_))
 go_ret
 exact ⟨rfl, bsz (bsz (bsz (S5_.out) S9_.out) S14_.out) S22_.out⟩
set_option maxHeartbeats 8000000 in
set_option maxRecDepth 100000 in
theorem apart_short4 (k0 k1 kw : Nat) (a0_0 : Int) (A0_1 : Option Addr) (c0_1 : Nat) (l0_1 : List (List Int)) (A0_2 : Option Addr) (c0_2 : Nat) (l0_2 : List Bool) (a1_0 : Int) (A1_1 : Option Addr) (c1_1 : Nat) (l1_1 : List (List Int)) (A1_2 : Option Addr) (c1_2 : Nat) (l1_2 : List Bool) (w : World) (hr0_1 : Kd.C (Kd.slice 3 (Kd.int .i64)) w A0_1 l0_1.length l0_1) (hc0_1 : l0_1.length ≤ c0_1) (hr0_2 : Kd.C Kd.bool w A0_2 l0_2.length l0_2) (hc0_2 : l0_2.length ≤ c0_2) (hr1_1 : Kd.C (Kd.slice 3 (Kd.int .i64)) w A1_1 l1_1.length l1_1) (hc1_1 : l1_1.length ≤ c1_1) (hr1_2 : Kd.C Kd.bool w A1_2 l1_2.length l1_2) (hc1_2 : l1_2.length ≤ c1_2) (h0 : caesuraref19_Good.f k0 a0_0 l0_1 l0_2 = some true) (h1 : caesuraref19_Good.f k1 a1_0 l1_1 l1_2 = some true) (h4 : a0_0 = a1_0) (h5 : ¬ (l0_1.length : Int) > 20) (h6 : (l1_1.length : Int) > 20) (hw : caesuralaw22_wakes.f kw = some true) :
  Calls Try.prog 15 #[.agg #[.int .i64 a0_0, .slice A0_1 l0_1.length c0_1, .slice A0_2 l0_2.length c0_2], .agg #[.int .i64 a1_0, .slice A1_1 l1_1.length c1_1, .slice A1_2 l1_2.length c1_2]] w fun e w' => e = .returned (.bool true) ∧ Below w.heap.size w w' := by
 have hu25 := Try.underlying25
 have hu45 := Try.underlying45
 have hu22 := Try.underlying22
 have hu23 := Try.underlying23
 have HR0_1 := Q0.mk hr0_1
 have HR0_2 := Q0.mk hr0_2
 clear hr0_1 hr0_2
 have HR1_1 := Q0.mk hr1_1
 have HR1_2 := Q0.mk hr1_2
 clear hr1_1 hr1_2
 have Zg0 := Q0.mk h0
 clear h0
 have Zg1 := Q0.mk h1
 clear h1
 have ZW := Q0.mk hw
 clear hw
 have n0_ : (a0_0 != a1_0) = false := by simpa using h4
 have n1_ : (a0_0 = a1_0) = True := eq_true h4
 have n2_ : (a0_0 == a1_0) = true := by simpa using h4
 have b0_ : ((l0_1.length : Int) > 20) = False := eq_false (h5)
 have b0d_ : decide ((l0_1.length : Int) > 20) = false := decide_eq_false (h5)
 have c0_ : (20 < (l0_1.length : Int)) = False := eq_false (h5)
 have c0d_ : decide (20 < (l0_1.length : Int)) = false := decide_eq_false (h5)
 have d0_ : (20 < l0_1.length) = False := eq_false (by omega)
 have d0d_ : decide (20 < l0_1.length) = false := decide_eq_false (by omega)
 have b1_ : ((l1_1.length : Int) > 20) = True := eq_true (h6)
 have b1d_ : decide ((l1_1.length : Int) > 20) = true := decide_eq_true (h6)
 have c1_ : (20 < (l1_1.length : Int)) = True := eq_true (h6)
 have c1d_ : decide (20 < (l1_1.length : Int)) = true := decide_eq_true (h6)
 have d1_ : (20 < l1_1.length) = True := eq_true (by omega)
 have d1d_ : decide (20 < l1_1.length) = true := decide_eq_true (by omega)
 clear h4
 clear h5
 clear h6
 obtain ⟨c1_, c2_, c3_⟩ := cells3 (show ((w.alloc (.cells #[.int .i64 a0_0, .slice A0_1 l0_1.length c0_1, .slice A0_2 l0_2.length c0_2] 25)).alloc (.cells #[.int .i64 a1_0, .slice A1_1 l1_1.length c1_1, .slice A1_2 l1_2.length c1_2] 25)).heap[w.heap.size]? = some (.cells #[.int .i64 a0_0, .slice A0_1 l0_1.length c0_1, .slice A0_2 l0_2.length c0_2] 25 (0, 0)) from bA (new_at _ (by simp)) _)
 go_enter Try.func15, Try.ntmps15
 go_wp2_with (first | (go_at_call 37; have hF_ := Zg0.out; clear Zg0; (try clear c1_ c2_ c3_); refine calls_new (v := w) (F := fun W => W.heap[w.heap.size]? = some (.cells #[.int .i64 a0_0, .slice A0_1 l0_1.length c0_1, .slice A0_2 l0_2.length c0_2] 25 (0, 0)) ∧ W.heap[w.heap.size + 1]? = some (.cells #[.int .i64 a1_0, .slice A1_1 l1_1.length c1_1, .slice A1_2 l1_2.length c1_2] 25 (0, 0))) (ba (ba (Below.refl _ _) (.cells #[.int .i64 a0_0, .slice A0_1 l0_1.length c0_1, .slice A0_2 l0_2.length c0_2] 25)) (.cells #[.int .i64 a1_0, .slice A1_1 l1_1.length c1_1, .slice A1_2 l1_2.length c1_2] 25)) (⟨bA (new_at _ (by simp)) _, new_at _ (by simp)⟩) (fun w4_ b_ f_ => ?_); have S5_ := Q0.mk b_; have K6_ := Q0.mk f_.1; have K7_ := Q0.mk f_.2; clear b_ f_; refine (caesuraref19_Good.calls k0  a0_0 A0_1 c0_1 l0_1 A0_2 c0_2 l0_2  true _ (Kd.C_below (HR0_1.out) (S5_.out)) hc0_1 (Kd.C_below (HR0_2.out) (S5_.out)) hc0_2  hF_).mono ?_; clear hF_; rintro e w8_ ⟨rfl, hb_⟩; have S9_ := Q0.mk hb_; clear hb_; obtain ⟨c10_, c11_, c12_⟩ := cells3 (bb K7_.out (S9_.out))) | (go_at_call 37; have hF_ := Zg1.out; clear Zg1; (try clear c10_ c11_ c12_); refine (caesuraref19_Good.calls k1  a1_0 A1_1 c1_1 l1_1 A1_2 c1_2 l1_2  true _ (Kd.C_below (HR1_1.out) (bsz (S5_.out) S9_.out)) hc1_1 (Kd.C_below (HR1_2.out) (bsz (S5_.out) S9_.out)) hc1_2  hF_).mono ?_; clear hF_; rintro e w13_ ⟨rfl, hb_⟩; have S14_ := Q0.mk hb_; clear hb_; obtain ⟨c15_, c16_, c17_⟩ := cells3 (bb K6_.out (bsz (S9_.out) S14_.out)); obtain ⟨c18_, c19_, c20_⟩ := cells3 (bb K7_.out (bsz (S9_.out) S14_.out))) | (go_at_call 63; have hF_ := ZW.out; clear ZW; (try clear c15_ c16_ c17_ c18_ c19_ c20_); refine (caesuralaw22_wakes.calls kw    true _   hF_).mono ?_; clear hF_; rintro e w21_ ⟨rfl, hb_⟩; have S22_ := Q0.mk hb_; clear hb_))
 go_ret
 exact ⟨rfl, bsz (bsz (bsz (S5_.out) S9_.out) S14_.out) S22_.out⟩
def apart.T9 : Bool × List (List Nat × List Nat) := (true, [([], []), ([0], [0]), ([1], [1]), ([2, 1], [1, 2]), ([1], [1]), ([4, 1], [1, 4]), ([3, 5, 1], [1, 3, 5]), ([6, 1], [1, 6]), ([1], [1]), ([8, 1], [1, 8]), ([1], [1]), ([10, 1], [1, 10]), ([9, 11, 1], [1, 9, 11]), ([12, 1], [1, 12]), ([7, 13, 1], [1, 7, 13]), ([1, 14], [1, 14]), ([15, 1, 0, 1, 2, 3, 4, 5, 6, 7, 8, 9, 10, 11, 12, 13, 14, 15], [0, 15])])
def apart.B9 : List Nat := [0, 1, 3, 7, 3, 19, 63, 127, 3, 259, 3, 1027, 3843, 7939, 16383, 32767, 65535]
theorem apart.tab9 : rtab .any (opsOf Try.f15 9) = apart.T9 := by kernel_rfl
theorem apart.bits9 : waitsOk apart.T9.2 apart.B9 = true := by kernel_rfl
def apart.T13 : Bool × List (List Nat × List Nat) := (true, [([], []), ([0], [0]), ([], []), ([2], [2]), ([1, 3], [1, 3]), ([4], [4]), ([], []), ([5, 6], [5, 6]), ([7], [7]), ([], []), ([9], [9]), ([], []), ([11], [11]), ([10, 12], [10, 12]), ([13], [13]), ([], []), ([14, 15], [14, 15]), ([16], [16]), ([8, 17], [8, 17]), ([], []), ([19, 18, 0, 1, 2, 3, 4, 5, 6, 7, 8, 9, 10, 11, 12, 13, 14, 15, 16, 17, 18, 19], [18, 19])])
def apart.B13 : List Nat := [0, 1, 0, 4, 15, 31, 0, 127, 255, 0, 512, 0, 2048, 7680, 15872, 0, 65024, 130560, 262143, 0, 1048575]
theorem apart.tab13 : rtab .any (opsOf Try.f15 13) = apart.T13 := by kernel_rfl
theorem apart.bits13 : waitsOk apart.T13.2 apart.B13 = true := by kernel_rfl
def apart.T18 : Bool × List (List Nat × List Nat) := (true, [([], []), ([0], [0]), ([1], [1]), ([1], [1]), ([2, 3, 1], [1, 2, 3]), ([4, 1], [1, 4]), ([1], [1]), ([5, 6, 1], [1, 5, 6]), ([1, 7], [1, 7]), ([8, 1, 0, 1, 2, 3, 4, 5, 6, 7, 8], [0, 8])])
def apart.B18 : List Nat := [0, 1, 3, 3, 15, 31, 3, 127, 255, 511]
theorem apart.tab18 : rtab .any (opsOf Try.f15 18) = apart.T18 := by kernel_rfl
theorem apart.bits18 : waitsOk apart.T18.2 apart.B18 = true := by kernel_rfl
/-- Do the first i pairs of states end alike? -/
def sameUp (ac bc : List Bool) (M : List (Nat × Nat)) (i : Nat) : Bool := (M.take i).all fun p => acL ac p.1 == acL bc p.2
theorem sameUp_turn {ac bc : List Bool} {M : List (Nat × Nat)} {i : Nat} {p : Nat × Nat} (h : M[i]? = some p) : sameUp ac bc M (i + 1) = (sameUp ac bc M i && (acL ac p.1 == acL bc p.2)) := by
 obtain ⟨h1, rfl⟩ := List.getElem?_eq_some_iff.1 h
 unfold sameUp
 rw [List.take_succ_eq_append_getElem h1, List.all_append]
 simp
theorem sameUp_grow {ac bc : List Bool} {M : List (Nat × Nat)} {i : Nat} (h : i ≤ M.length) (q : Nat × Nat) : sameUp ac bc (M ++ [q]) i = sameUp ac bc M i := by
 unfold sameUp
 rw [List.take_append_of_le_length h]
theorem take_mem {M : List (Nat × Nat)} {j : Nat} {p : Nat × Nat} (h : M[j]? = some p) (q : Nat × Nat) : decide (q ∈ M.take (j + 1)) = (decide (q ∈ M.take j) || (((p.1 : Int) == (q.1 : Int)) && ((p.2 : Int) == (q.2 : Int)))) := by
 obtain ⟨h1, rfl⟩ := List.getElem?_eq_some_iff.1 h
 rw [List.take_succ_eq_append_getElem h1, Bool.eq_iff_iff]
 simp only [List.mem_append, List.mem_singleton, decide_eq_true_eq, Bool.or_eq_true, Bool.and_eq_true, beq_iff_eq, Int.natCast_inj]
 constructor
 ·rintro (h | h)
  ·exact .inl h
  ·exact .inr (by rw [h]; exact ⟨rfl, rfl⟩)
 ·rintro (h | h)
  ·exact .inl h
  ·exact .inr (Prod.ext h.1.symm h.2.symm)
set_option maxHeartbeats 8000000 in
set_option maxRecDepth 100000 in
theorem apart_main (k0 k1 kw kl : Nat) (a0_0 : Int) (A0_1 : Option Addr) (c0_1 : Nat) (l0_1 : List (List Int)) (A0_2 : Option Addr) (c0_2 : Nat) (l0_2 : List Bool) (a1_0 : Int) (A1_1 : Option Addr) (c1_1 : Nat) (l1_1 : List (List Int)) (A1_2 : Option Addr) (c1_2 : Nat) (l1_2 : List Bool) (w : World) (hr0_1 : Kd.C (Kd.slice 3 (Kd.int .i64)) w A0_1 l0_1.length l0_1) (hc0_1 : l0_1.length ≤ c0_1) (hr0_2 : Kd.C Kd.bool w A0_2 l0_2.length l0_2) (hc0_2 : l0_2.length ≤ c0_2) (hr1_1 : Kd.C (Kd.slice 3 (Kd.int .i64)) w A1_1 l1_1.length l1_1) (hc1_1 : l1_1.length ≤ c1_1) (hr1_2 : Kd.C Kd.bool w A1_2 l1_2.length l1_2) (hc1_2 : l1_2.length ≤ c1_2) (h0 : caesuraref19_Good.f k0 a0_0 l0_1 l0_2 = some true) (h1 : caesuraref19_Good.f k1 a1_0 l1_1 l1_2 = some true) (hg : goodB a0_0 l0_1 l0_2 = true) (hg2 : goodB a1_0 l1_1 l1_2 = true) (h4 : a0_0 = a1_0) (h5 : ¬ (l0_1.length : Int) > 20) (h6 : ¬ (l1_1.length : Int) > 20) (hal : ∀ M : List (Nat × Nat), Wbfs a0_0.toNat (prodSt l0_1 l1_1) (0, 0) (inP l0_1.length l1_1.length) M M.length 0 → number_Alike.f kl a0_0 l0_1 l0_2 a1_0 l1_1 l1_2 = some (sameUp l0_2 l1_2 M M.length)) (hw : caesuralaw22_wakes.f kw = some true) :
  Calls Try.prog 15 #[.agg #[.int .i64 a0_0, .slice A0_1 l0_1.length c0_1, .slice A0_2 l0_2.length c0_2], .agg #[.int .i64 a1_0, .slice A1_1 l1_1.length c1_1, .slice A1_2 l1_2.length c1_2]] w fun e w' => e = .returned (.bool true) ∧ Below w.heap.size w w' := by
 have hu25 := Try.underlying25
 have hu45 := Try.underlying45
 have hu22 := Try.underlying22
 have hu23 := Try.underlying23
 have HR0_1 := Q0.mk hr0_1
 have HR0_2 := Q0.mk hr0_2
 clear hr0_1 hr0_2
 have HR1_1 := Q0.mk hr1_1
 have HR1_2 := Q0.mk hr1_2
 clear hr1_1 hr1_2
 have hu60 := Try.underlying60
 have hu61 := Try.underlying61
 have Zg0 := Q0.mk h0
 clear h0
 have Zg1 := Q0.mk h1
 clear h1
 have HA := Q0.mk (Aut.of hg)
 have HBA := Q0.mk (Aut.of hg2)
 have HAB := Q0.mk h4
 have ZW := Q0.mk hw
 have ZAL := Q0.mk hal
 clear hg hg2 hw hal
 have n0_ : (a0_0 != a1_0) = false := by simpa using h4
 have n1_ : (a0_0 = a1_0) = True := eq_true h4
 have n2_ : (a0_0 == a1_0) = true := by simpa using h4
 have b0_ : ((l0_1.length : Int) > 20) = False := eq_false (h5)
 have b0d_ : decide ((l0_1.length : Int) > 20) = false := decide_eq_false (h5)
 have c0_ : (20 < (l0_1.length : Int)) = False := eq_false (h5)
 have c0d_ : decide (20 < (l0_1.length : Int)) = false := decide_eq_false (h5)
 have d0_ : (20 < l0_1.length) = False := eq_false (by omega)
 have d0d_ : decide (20 < l0_1.length) = false := decide_eq_false (by omega)
 have b1_ : ((l1_1.length : Int) > 20) = False := eq_false (h6)
 have b1d_ : decide ((l1_1.length : Int) > 20) = false := decide_eq_false (h6)
 have c1_ : (20 < (l1_1.length : Int)) = False := eq_false (h6)
 have c1d_ : decide (20 < (l1_1.length : Int)) = false := decide_eq_false (h6)
 have d1_ : (20 < l1_1.length) = False := eq_false (by omega)
 have d1d_ : decide (20 < l1_1.length) = false := decide_eq_false (by omega)
 have HSM : Q0 (l0_1.length ≤ 20 ∧ l1_1.length ≤ 20) := ⟨by omega⟩
 clear h4 h5 h6
 obtain ⟨c1_, c2_, c3_⟩ := cells3 (show ((w.alloc (.cells #[.int .i64 a0_0, .slice A0_1 l0_1.length c0_1, .slice A0_2 l0_2.length c0_2] 25)).alloc (.cells #[.int .i64 a1_0, .slice A1_1 l1_1.length c1_1, .slice A1_2 l1_2.length c1_2] 25)).heap[w.heap.size]? = some (.cells #[.int .i64 a0_0, .slice A0_1 l0_1.length c0_1, .slice A0_2 l0_2.length c0_2] 25 (0, 0)) from bA (new_at _ (by simp)) _)
 go_enter Try.func15, Try.ntmps15
 go_wp2_with (first | (go_at_call 37; have hF_ := Zg0.out; clear Zg0; (try clear c1_ c2_ c3_); refine calls_new (v := w) (F := fun W => W.heap[w.heap.size]? = some (.cells #[.int .i64 a0_0, .slice A0_1 l0_1.length c0_1, .slice A0_2 l0_2.length c0_2] 25 (0, 0)) ∧ W.heap[w.heap.size + 1]? = some (.cells #[.int .i64 a1_0, .slice A1_1 l1_1.length c1_1, .slice A1_2 l1_2.length c1_2] 25 (0, 0))) (ba (ba (Below.refl _ _) (.cells #[.int .i64 a0_0, .slice A0_1 l0_1.length c0_1, .slice A0_2 l0_2.length c0_2] 25)) (.cells #[.int .i64 a1_0, .slice A1_1 l1_1.length c1_1, .slice A1_2 l1_2.length c1_2] 25)) (⟨bA (new_at _ (by simp)) _, new_at _ (by simp)⟩) (fun w4_ b_ f_ => ?_); have S5_ := Q0.mk b_; have K6_ := Q0.mk f_.1; have K7_ := Q0.mk f_.2; clear b_ f_; refine (caesuraref19_Good.calls k0  a0_0 A0_1 c0_1 l0_1 A0_2 c0_2 l0_2  true _ (Kd.C_below (HR0_1.out) (S5_.out)) hc0_1 (Kd.C_below (HR0_2.out) (S5_.out)) hc0_2  hF_).mono ?_; clear hF_; rintro e w8_ ⟨rfl, hb_⟩; have S9_ := Q0.mk hb_; clear hb_; obtain ⟨c10_, c11_, c12_⟩ := cells3 (bb K7_.out (S9_.out))) | (go_at_call 37; have hF_ := Zg1.out; clear Zg1; (try clear c10_ c11_ c12_); refine (caesuraref19_Good.calls k1  a1_0 A1_1 c1_1 l1_1 A1_2 c1_2 l1_2  true _ (Kd.C_below (HR1_1.out) (bsz (S5_.out) S9_.out)) hc1_1 (Kd.C_below (HR1_2.out) (bsz (S5_.out) S9_.out)) hc1_2  hF_).mono ?_; clear hF_; rintro e w13_ ⟨rfl, hb_⟩; have S14_ := Q0.mk hb_; clear hb_; obtain ⟨c15_, c16_, c17_⟩ := cells3 (bb K6_.out (bsz (S9_.out) S14_.out)); obtain ⟨c18_, c19_, c20_⟩ := cells3 (bb K7_.out (bsz (S9_.out) S14_.out))) | ((try clear c15_ c16_ c17_ c18_ c19_ c20_); (with_reducible refine gate_dst (N := 42) rfl ?_); refine Kd.R_lit k60 _ 60 ?hg (N := 42) ?hd (xs := castQ [(0, 0)]) (inner := [.int .i64 0, .int .i64 0]) (ok := fun _ => True) (okp := fun _ => True) ?hr ?hp (fun _ hk => hk) trivial (Below.refl _ _) (Nat.le_refl _) (by simp [castQ]) ?_; (case hd => rfl); (case hg => rfl); (case hr => first | (go_simp; done) | (go_simp; rfl)); (case hp => exact (Reps.c2 (show Kd.M k60 _ _ _ (⟨0, 0⟩ : S60) [.int .i64 0, .int .i64 0] from (k60_mkM _ _ _ (⟨0, 0⟩ : S60))) (Reps.none _ _))); intro v5 w6 ho hb hg_ hnew_; have HP0 := Q0.mk ho; have S6 := Q0.mk hb; clear ho hb hg_ hnew_))
 clear n0_ n1_ n2_ b0_ b0d_ c0_ c0d_ d0_ d0d_ b1_ b1d_ c1_ c1d_ d1_ d1d_
 have HAL := HA.out.a1
 have HAL2 := HA.out.a2
 obtain ⟨L, rfl⟩ : ∃ L : Nat, a0_0 = (L : Int) := ⟨a0_0.toNat, by omega⟩
 have hLs : L ≤ 64 := by omega
 clear HAL HAL2
 have ZAL' := ZAL.out
 rw [Int.toNat_natCast] at ZAL'
 clear ZAL
 have ZAL := Q0.mk ZAL'
 clear ZAL'
 go_loopw [5, 6, 7] (fun v5 v6 v7 wr => ∃ (i : Nat) (M : List (Nat × Nat)), v7 = .int .i64 (i : Int) ∧ v6 = .bool (sameUp l0_2 l1_2 M i) ∧ Q0 (Wbfs L (prodSt l0_1 l1_1) (0, 0) (inP l0_1.length l1_1.length) M i 0) ∧ Q0 (Kd.R k60 60 wr w13_.heap.size (fun _ => True) v5 (castQ M)) ∧ Q0 (Below w13_.heap.size w13_ wr)) (fun _ _ v7 _ => 1000001 - (intOf v7).toNat)
 case atStart => exact ⟨0, [(0, 0)], rfl, rfl, ⟨Wbfs.start ⟨by have h_ := HA.out.n1; omega, by have h_ := HBA.out.n1; omega⟩⟩, HP0, S6⟩
 case round =>
  clear HP0 S6
  obtain ⟨i, M, rfl, rfl, HW, HP, HB⟩ := hrel
  obtain ⟨wq, rfl⟩ : ∃ wq, wq = wr := ⟨wr, rfl⟩
  obtain ⟨Ap, cp, rfl⟩ := R_pairsE HP.out
  have hMl : M.length ≤ 400 := by
   have h1_ := HW.out.most (N := l0_1.length * l1_1.length) (fun _ => code_lt) (fun _ _ => code_inj)
   have h2_ : l0_1.length * l1_1.length ≤ 20 * 20 := Nat.mul_le_mul HSM.out.1 HSM.out.2
   omega
  have HML := Q0.mk hMl
  by_cases hlt : i < M.length
  ·obtain ⟨⟨p1, p2⟩, hp⟩ : ∃ p, M[i]? = some p := ⟨_, List.getElem?_eq_getElem hlt⟩
   have hpo : p1 < l0_1.length ∧ p2 < l1_1.length := HW.out.good _ (List.mem_of_getElem? hp)
   obtain ⟨ad11, e_, hx0_, hx1_⟩ := pairs_atE HP.out hp
   cases e_
   dsimp only at hx0_ hx1_
   have HPI := Q0.mk hp
   have HPO := Q0.mk hpo
   have q1b : decide ((i : Int) < (M.length : Int)) = true := decide_eq_true (by omega)
   have p1_ : (0 : Int) ≤ (i : Int) := by omega
   have q1_ : (i : Int) < (M.length : Int) := by omega
   replace p1_ := eq_true p1_
   replace q1_ := eq_true q1_
   obtain ⟨sm, hsm⟩ : ∃ s, s = sameUp l0_2 l1_2 M i := ⟨_, rfl⟩
   rw [← hsm]
   go_wp2
   clear hx0_ hx1_ p1_ q1_ q1b
   obtain ⟨xA, hxA⟩ : ∃ x, x = acL l0_2 p1 := ⟨_, rfl⟩
   obtain ⟨xB, hxB⟩ : ∃ x, x = acL l1_2 p2 := ⟨_, rfl⟩
   obtain ⟨s2, hs2⟩ : ∃ s, s = (sm && (xA == xB)) := ⟨_, rfl⟩
   have HS2 : Q0 (s2 = sameUp l0_2 l1_2 M (i + 1)) := ⟨by rw [sameUp_turn hp, hs2, hsm, hxA, hxB]⟩
   clear hp hpo hsm
   have HPa := Q0.mk (Kd.R_elderB HP.out wq.heap.size (Nat.le_refl _))
   replace HPa := Q0.mk (Kd.R_alloc HPa.out (.cells #[.int .i64 (p1 : Int), .int .i64 (p2 : Int)] 60))
   have HGa := Q0.mk (bn wq (.cells #[.int .i64 (p1 : Int), .int .i64 (p2 : Int)] 60))
   have HBa := Q0.mk (ba HB.out (.cells #[.int .i64 (p1 : Int), .int .i64 (p2 : Int)] 60))
   clear HP HB
   obtain ⟨wa, hwa⟩ : ∃ x, x = (wq.alloc (.cells #[.int .i64 (p1 : Int), .int .i64 (p2 : Int)] 60)) := ⟨_, rfl⟩
   rw [← hwa] at HPa HGa HBa ⊢
   have HGQ : Q0 (wq.heap.size < wa.heap.size) := ⟨blk_lt HGa.out⟩
   clear hwa
   obtain ⟨hp1, hp2⟩ := HPO.out
   have hen1 := HA.out.ends
   have hen2 := HBA.out.ends
   obtain ⟨ad2, e_, hxa_⟩ := Kd.at_bool HR0_2.out (p1 : Int) (by omega) (by omega)
   cases e_
   obtain ⟨bd2, e_, hxb_⟩ := Kd.at_bool HR1_2.out (p2 : Int) (by omega) (by omega)
   cases e_
   rw [show rdOf false l0_2 (p1 : Int) = xA by rw [hxA, rdb_nat]; rfl, Int.toNat_natCast] at hxa_
   rw [show rdOf false l1_2 (p2 : Int) = xB by rw [hxB, rdb_nat]; rfl, Int.toNat_natCast] at hxb_
   have HXA := Q0.mk hxa_
   have HXB := Q0.mk hxb_
   clear hxa_ hxb_ hxA hxB
   have z1_ : ((0 : Int) ≤ (p1 : Int)) = True := eq_true (by omega)
   have z2_ : ((p1 : Int) < (l0_2.length : Int)) = True := eq_true (by omega)
   have z3_ : ((0 : Int) ≤ (p2 : Int)) = True := eq_true (by omega)
   have z4_ : ((p2 : Int) < (l1_2.length : Int)) = True := eq_true (by omega)
   clear hp1 hp2 hen1 hen2
   refine region_join (fun A0 a' w' => ∃ (t53 t54 t55 t56 t57 t58 t59 t60 t61 t62 t63 t64 t65 t66 t67 t68 : Value), a' = putAll A0 [(53, t53), (54, t54), (55, t55), (56, t56), (57, t57), (58, t58), (59, t59), (60, t60), (61, t61), (62, t62), (63, t63), (64, t64), (65, t65), (66, t66), (67, t67), (68, t68), (6, .bool s2)] ∧ Q0 (Kd.R k60 60 w' w13_.heap.size (fun k_ => True ∧ k_ ≠ wq.heap.size) (.slice (some ad11) M.length cp) (castQ M)) ∧ Q0 (w'.heap[wq.heap.size]? = some (.cells #[.int .i64 (p1 : Int), .int .i64 (p2 : Int)] 60 (0, 0))) ∧ Q0 (Below w13_.heap.size w13_ w')) ?_ ?_
   ·cases sm with
    | false =>
     obtain rfl : s2 = false := by rw [hs2]; rfl
     clear hs2
     refine start_ (n := 17) (S := fun w' => Below wa.heap.size wa w') (ds := []) #[false, false, false, false, false, false, false, false, false, false, false, false, false, false, false, false, false] (by kernel_rfl) rfl rfl (bD (Below.refl _ _)) (fun hHeld => ?_)
     refine with_tabW apart.tab9 apart.bits9 (fun HT_ HW_ => ?_)
     have HPd := Q0.mk (Kd.R_drew HPa.out)
     have HGd := Q0.mk (bdz HGa.out)
     have HBd := Q0.mk (bD HBa.out)
     refine pure_ (i := 0) (N := some 53) (v := ?_) (a' := ?_) #[true, false, false, false, false, false, false, false, false, false, false, false, false, false, false, false, false] rfl rfl (any_of HT_.out (by kernel_rfl)) (fun _ _ _ h => h) (Or.inl ⟨by rfl, ?_⟩) ?_ ?_
     rotate_left
     ·intro w'
      go_simp
      with_reducible rfl
     rotate_left
     ·simp only [Act.put, sA, sB, sC, i64_w, i32_w]
      rfl
     refine pure_ (i := 1) (N := some 54) (v := ?_) (a' := ?_) #[true, true, false, false, false, false, false, false, false, false, false, false, false, false, false, false, false] rfl rfl (any_of HT_.out (by kernel_rfl)) (fun _ _ _ h => h) (Or.inl ⟨by rfl, ?_⟩) ?_ ?_
     rotate_left
     ·intro w'
      go_simp
      with_reducible rfl
     rotate_left
     ·simp only [Act.put, sA, sB, sC, i64_w, i32_w]
      rfl
     refine pure_ (i := 2) (N := some 55) (v := undef) (a' := ?_) #[true, true, true, false, false, false, false, false, false, false, false, false, false, false, false, false, false] rfl rfl (any_of HT_.out (by kernel_rfl)) (fun _ _ _ h => h) (Or.inr ⟨by rfl, rfl⟩) ?_ ?_
     rotate_left
     ·simp only [Act.put, sA, sB, sC, i64_w, i32_w]
      rfl
     refine pure_ (i := 3) (N := some 56) (v := undef) (a' := ?_) #[true, true, true, true, false, false, false, false, false, false, false, false, false, false, false, false, false] rfl rfl (any_of HT_.out (by kernel_rfl)) (fun _ _ _ h => h) (Or.inr ⟨by rfl, rfl⟩) ?_ ?_
     rotate_left
     ·simp only [Act.put, sA, sB, sC, i64_w, i32_w]
      rfl
     refine pure_ (i := 4) (N := some 57) (v := undef) (a' := ?_) #[true, true, true, true, true, false, false, false, false, false, false, false, false, false, false, false, false] rfl rfl (any_of HT_.out (by kernel_rfl)) (fun _ _ _ h => h) (Or.inr ⟨by rfl, rfl⟩) ?_ ?_
     rotate_left
     ·simp only [Act.put, sA, sB, sC, i64_w, i32_w]
      rfl
     refine pure_ (i := 5) (N := some 58) (v := undef) (a' := ?_) #[true, true, true, true, true, true, false, false, false, false, false, false, false, false, false, false, false] rfl rfl (any_of HT_.out (by kernel_rfl)) (fun _ _ _ h => h) (Or.inr ⟨by rfl, rfl⟩) ?_ ?_
     rotate_left
     ·simp only [Act.put, sA, sB, sC, i64_w, i32_w]
      rfl
     refine pure_ (i := 6) (N := some 59) (v := undef) (a' := ?_) #[true, true, true, true, true, true, true, false, false, false, false, false, false, false, false, false, false] rfl rfl (any_of HT_.out (by kernel_rfl)) (fun _ _ _ h => h) (Or.inr ⟨by rfl, rfl⟩) ?_ ?_
     rotate_left
     ·simp only [Act.put, sA, sB, sC, i64_w, i32_w]
      rfl
     refine pure_ (i := 7) (N := some 60) (v := undef) (a' := ?_) #[true, true, true, true, true, true, true, true, false, false, false, false, false, false, false, false, false] rfl rfl (any_of HT_.out (by kernel_rfl)) (fun _ _ _ h => h) (Or.inr ⟨by rfl, rfl⟩) ?_ ?_
     rotate_left
     ·simp only [Act.put, sA, sB, sC, i64_w, i32_w]
      rfl
     refine pure_ (i := 8) (N := some 61) (v := undef) (a' := ?_) #[true, true, true, true, true, true, true, true, true, false, false, false, false, false, false, false, false] rfl rfl (any_of HT_.out (by kernel_rfl)) (fun _ _ _ h => h) (Or.inr ⟨by rfl, rfl⟩) ?_ ?_
     rotate_left
     ·simp only [Act.put, sA, sB, sC, i64_w, i32_w]
      rfl
     refine pure_ (i := 9) (N := some 62) (v := undef) (a' := ?_) #[true, true, true, true, true, true, true, true, true, true, false, false, false, false, false, false, false] rfl rfl (any_of HT_.out (by kernel_rfl)) (fun _ _ _ h => h) (Or.inr ⟨by rfl, rfl⟩) ?_ ?_
     rotate_left
     ·simp only [Act.put, sA, sB, sC, i64_w, i32_w]
      rfl
     refine pure_ (i := 10) (N := some 63) (v := undef) (a' := ?_) #[true, true, true, true, true, true, true, true, true, true, true, false, false, false, false, false, false] rfl rfl (any_of HT_.out (by kernel_rfl)) (fun _ _ _ h => h) (Or.inr ⟨by rfl, rfl⟩) ?_ ?_
     rotate_left
     ·simp only [Act.put, sA, sB, sC, i64_w, i32_w]
      rfl
     refine pure_ (i := 11) (N := some 64) (v := undef) (a' := ?_) #[true, true, true, true, true, true, true, true, true, true, true, true, false, false, false, false, false] rfl rfl (any_of HT_.out (by kernel_rfl)) (fun _ _ _ h => h) (Or.inr ⟨by rfl, rfl⟩) ?_ ?_
     rotate_left
     ·simp only [Act.put, sA, sB, sC, i64_w, i32_w]
      rfl
     refine pure_ (i := 12) (N := some 65) (v := undef) (a' := ?_) #[true, true, true, true, true, true, true, true, true, true, true, true, true, false, false, false, false] rfl rfl (any_of HT_.out (by kernel_rfl)) (fun _ _ _ h => h) (Or.inr ⟨by rfl, rfl⟩) ?_ ?_
     rotate_left
     ·simp only [Act.put, sA, sB, sC, i64_w, i32_w]
      rfl
     refine pure_ (i := 13) (N := some 66) (v := undef) (a' := ?_) #[true, true, true, true, true, true, true, true, true, true, true, true, true, true, false, false, false] rfl rfl (any_of HT_.out (by kernel_rfl)) (fun _ _ _ h => h) (Or.inr ⟨by rfl, rfl⟩) ?_ ?_
     rotate_left
     ·simp only [Act.put, sA, sB, sC, i64_w, i32_w]
      rfl
     refine pure_ (i := 14) (N := some 67) (v := undef) (a' := ?_) #[true, true, true, true, true, true, true, true, true, true, true, true, true, true, true, false, false] rfl rfl (any_of HT_.out (by kernel_rfl)) (fun _ _ _ h => h) (Or.inr ⟨by rfl, rfl⟩) ?_ ?_
     rotate_left
     ·simp only [Act.put, sA, sB, sC, i64_w, i32_w]
      rfl
     refine pure_ (i := 15) (N := some 68) (v := ?_) (a' := ?_) #[true, true, true, true, true, true, true, true, true, true, true, true, true, true, true, true, false] rfl rfl (any_of HT_.out (by kernel_rfl)) (fun _ _ _ h => h) (Or.inl ⟨by rfl, ?_⟩) ?_ ?_
     rotate_left
     ·intro w'
      go_simp
      with_reducible rfl
     rotate_left
     ·simp only [Act.put, sA, sB, sC, i64_w, i32_w]
      rfl
     refine pure_ (i := 16) (N := some 6) (v := ?_) (a' := ?_) #[true, true, true, true, true, true, true, true, true, true, true, true, true, true, true, true, true] rfl rfl (any_of HT_.out (by kernel_rfl)) (fun _ _ _ h => h) (Or.inl ⟨by rfl, ?_⟩) ?_ ?_
     rotate_left
     ·intro w'
      go_simp
      with_reducible rfl
     rotate_left
     ·simp only [Act.put, sA, sB, sC, i64_w, i32_w]
      rfl
     refine done_ (done_of HT_.out (by kernel_rfl)) ?_
     exact on_normal ⟨_, _, _, _, _, _, _, _, _, _, _, _, _, _, _, _, by first | (simp only [putAll, Act.put, sA, sB, sC]; done) | (simp only [putAll, Act.put, sA, sB, sC]; rfl) | rfl, HPd, HGd, HBd⟩
    | true =>
     obtain rfl : s2 = (xA == xB) := by rw [hs2]; rfl
     clear hs2
     refine start_ (n := 17) (S := fun w' => Below wa.heap.size wa w') (ds := []) #[false, false, false, false, false, false, false, false, false, false, false, false, false, false, false, false, false] (by kernel_rfl) rfl rfl (bD (Below.refl _ _)) (fun hHeld => ?_)
     refine with_tabW apart.tab9 apart.bits9 (fun HT_ HW_ => ?_)
     have HPd := Q0.mk (Kd.R_drew HPa.out)
     have HGd := Q0.mk (bdz HGa.out)
     have HBd := Q0.mk (bD HBa.out)
     refine pure_ (i := 0) (N := some 53) (v := ?_) (a' := ?_) #[true, false, false, false, false, false, false, false, false, false, false, false, false, false, false, false, false] rfl rfl (any_of HT_.out (by kernel_rfl)) (fun _ _ _ h => h) (Or.inl ⟨by rfl, ?_⟩) ?_ ?_
     rotate_left
     ·intro w'
      go_simp
      with_reducible rfl
     rotate_left
     ·simp only [Act.put, sA, sB, sC, i64_w, i32_w]
      rfl
     refine pure_ (i := 1) (N := some 54) (v := ?_) (a' := ?_) #[true, true, false, false, false, false, false, false, false, false, false, false, false, false, false, false, false] rfl rfl (any_of HT_.out (by kernel_rfl)) (fun _ _ _ h => h) (Or.inl ⟨by rfl, ?_⟩) ?_ ?_
     rotate_left
     ·intro w'
      go_simp
      with_reducible rfl
     rotate_left
     ·simp only [Act.put, sA, sB, sC, i64_w, i32_w]
      rfl
     refine pure_ (i := 2) (N := some 55) (v := ?_) (a' := ?_) #[true, true, true, false, false, false, false, false, false, false, false, false, false, false, false, false, false] rfl rfl (any_of HT_.out (by kernel_rfl)) (fun _ _ _ h => h) (Or.inl ⟨by rfl, ?_⟩) ?_ ?_
     rotate_left
     ·intro w'
      go_simp
      with_reducible rfl
     rotate_left
     ·simp only [Act.put, sA, sB, sC, i64_w, i32_w]
      rfl
     refine pure_ (i := 4) (N := some 57) (v := ?_) (a' := ?_) #[true, true, true, false, true, false, false, false, false, false, false, false, false, false, false, false, false] rfl rfl (any_of HT_.out (by kernel_rfl)) (fun _ _ _ h => h) (Or.inl ⟨by rfl, ?_⟩) ?_ ?_
     rotate_left
     ·intro w'
      go_simp
      with_reducible rfl
     rotate_left
     ·simp only [Act.put, sA, sB, sC, i64_w, i32_w]
      rfl
     refine pure_ (i := 8) (N := some 61) (v := ?_) (a' := ?_) #[true, true, true, false, true, false, false, false, true, false, false, false, false, false, false, false, false] rfl rfl (any_of HT_.out (by kernel_rfl)) (fun _ _ _ h => h) (Or.inl ⟨by rfl, ?_⟩) ?_ ?_
     rotate_left
     ·intro w'
      go_simp
      with_reducible rfl
     rotate_left
     ·simp only [Act.put, sA, sB, sC, i64_w, i32_w]
      rfl
     refine pure_ (i := 10) (N := some 63) (v := ?_) (a' := ?_) #[true, true, true, false, true, false, false, false, true, false, true, false, false, false, false, false, false] rfl rfl (any_of HT_.out (by kernel_rfl)) (fun _ _ _ h => h) (Or.inl ⟨by rfl, ?_⟩) ?_ ?_
     rotate_left
     ·intro w'
      go_simp
      with_reducible rfl
     rotate_left
     ·simp only [Act.put, sA, sB, sC, i64_w, i32_w]
      rfl
     refine take_ (i := 3) (N := some 56) (v := ?_) (a' := ?_) #[true, true, true, true, true, false, false, false, true, false, true, false, false, false, false, false, false] rfl rfl (take_ofW HT_.out HW_.out (by kernel_rfl)) (fun _ _ _ h => h) (Or.inl ⟨by rfl, ?_⟩) hHeld ?_ ?_
     rotate_left
     ·intro w' s0
      have c_ : w'.cell? ⟨w.heap.size, 2, none⟩ = some (.slice (some ad2) l0_2.length c0_2) := (bcz (bb K6_.out (bsz (bsz (S9_.out) S14_.out) (bsz HBa.out s0))) 2).trans rfl
      clear s0
      go_simp
      with_reducible rfl
     rotate_left
     ·simp only [Act.put, sA, sB, sC, i64_w, i32_w]
      rfl
     refine take_ (i := 5) (N := some 58) (v := ?_) (a' := ?_) #[true, true, true, true, true, true, false, false, true, false, true, false, false, false, false, false, false] rfl rfl (take_ofW HT_.out HW_.out (by kernel_rfl)) (fun _ _ _ h => h) (Or.inl ⟨by rfl, ?_⟩) hHeld ?_ ?_
     rotate_left
     ·intro w' s0
      have c_ : w'.cell? ⟨wq.heap.size, 0, none⟩ = some (.int .i64 (p1 : Int)) := (bcz (bb HGa.out s0) 0).trans rfl
      clear s0
      go_simp
      with_reducible rfl
     rotate_left
     ·simp only [Act.put, sA, sB, sC, i64_w, i32_w]
      rfl
     refine pure_ (i := 6) (N := some 59) (v := ?_) (a' := ?_) #[true, true, true, true, true, true, true, false, true, false, true, false, false, false, false, false, false] rfl rfl (any_of HT_.out (by kernel_rfl)) (fun _ _ _ h => h) (Or.inl ⟨by rfl, ?_⟩) ?_ ?_
     rotate_left
     ·intro w'
      go_simp
      with_reducible rfl
     rotate_left
     ·simp only [Act.put, sA, sB, sC, i64_w, i32_w]
      rfl
     refine take_ (i := 7) (N := some 60) (v := ?_) (a' := ?_) #[true, true, true, true, true, true, true, true, true, false, true, false, false, false, false, false, false] rfl rfl (take_ofW HT_.out HW_.out (by kernel_rfl)) (fun _ _ _ h => h) (Or.inl ⟨by rfl, ?_⟩) hHeld ?_ ?_
     rotate_left
     ·intro w' s0
      have c_ := (Below.cell (bsz (bsz (bsz (S5_.out) S9_.out) S14_.out) (bsz HBa.out s0)) (World.block_lt_of_cell? _ _ HXA.out)).trans HXA.out
      clear s0
      go_simp
      with_reducible rfl
     rotate_left
     ·simp only [Act.put, sA, sB, sC, i64_w, i32_w]
      rfl
     refine take_ (i := 9) (N := some 62) (v := ?_) (a' := ?_) #[true, true, true, true, true, true, true, true, true, true, true, false, false, false, false, false, false] rfl rfl (take_ofW HT_.out HW_.out (by kernel_rfl)) (fun _ _ _ h => h) (Or.inl ⟨by rfl, ?_⟩) hHeld ?_ ?_
     rotate_left
     ·intro w' s0
      have c_ : w'.cell? ⟨w.heap.size + 1, 2, none⟩ = some (.slice (some bd2) l1_2.length c1_2) := (bcz (bb K7_.out (bsz (bsz (S9_.out) S14_.out) (bsz HBa.out s0))) 2).trans rfl
      clear s0
      go_simp
      with_reducible rfl
     rotate_left
     ·simp only [Act.put, sA, sB, sC, i64_w, i32_w]
      rfl
     refine take_ (i := 11) (N := some 64) (v := ?_) (a' := ?_) #[true, true, true, true, true, true, true, true, true, true, true, true, false, false, false, false, false] rfl rfl (take_ofW HT_.out HW_.out (by kernel_rfl)) (fun _ _ _ h => h) (Or.inl ⟨by rfl, ?_⟩) hHeld ?_ ?_
     rotate_left
     ·intro w' s0
      have c_ : w'.cell? ⟨wq.heap.size, 1, none⟩ = some (.int .i64 (p2 : Int)) := (bcz (bb HGa.out s0) 1).trans rfl
      clear s0
      go_simp
      with_reducible rfl
     rotate_left
     ·simp only [Act.put, sA, sB, sC, i64_w, i32_w]
      rfl
     refine pure_ (i := 12) (N := some 65) (v := ?_) (a' := ?_) #[true, true, true, true, true, true, true, true, true, true, true, true, true, false, false, false, false] rfl rfl (any_of HT_.out (by kernel_rfl)) (fun _ _ _ h => h) (Or.inl ⟨by rfl, ?_⟩) ?_ ?_
     rotate_left
     ·intro w'
      go_simp
      with_reducible rfl
     rotate_left
     ·simp only [Act.put, sA, sB, sC, i64_w, i32_w]
      rfl
     refine take_ (i := 13) (N := some 66) (v := ?_) (a' := ?_) #[true, true, true, true, true, true, true, true, true, true, true, true, true, true, false, false, false] rfl rfl (take_ofW HT_.out HW_.out (by kernel_rfl)) (fun _ _ _ h => h) (Or.inl ⟨by rfl, ?_⟩) hHeld ?_ ?_
     rotate_left
     ·intro w' s0
      have c_ := (Below.cell (bsz (bsz (bsz (S5_.out) S9_.out) S14_.out) (bsz HBa.out s0)) (World.block_lt_of_cell? _ _ HXB.out)).trans HXB.out
      clear s0
      go_simp
      with_reducible rfl
     rotate_left
     ·simp only [Act.put, sA, sB, sC, i64_w, i32_w]
      rfl
     refine pure_ (i := 14) (N := some 67) (v := ?_) (a' := ?_) #[true, true, true, true, true, true, true, true, true, true, true, true, true, true, true, false, false] rfl rfl (any_of HT_.out (by kernel_rfl)) (fun _ _ _ h => h) (Or.inl ⟨by rfl, ?_⟩) ?_ ?_
     rotate_left
     ·intro w'
      go_simp
      with_reducible rfl
     rotate_left
     ·simp only [Act.put, sA, sB, sC, i64_w, i32_w]
      rfl
     refine pure_ (i := 15) (N := some 68) (v := ?_) (a' := ?_) #[true, true, true, true, true, true, true, true, true, true, true, true, true, true, true, true, false] rfl rfl (any_of HT_.out (by kernel_rfl)) (fun _ _ _ h => h) (Or.inl ⟨by rfl, ?_⟩) ?_ ?_
     rotate_left
     ·intro w'
      go_simp
      with_reducible rfl
     rotate_left
     ·simp only [Act.put, sA, sB, sC, i64_w, i32_w]
      rfl
     refine pure_ (i := 16) (N := some 6) (v := ?_) (a' := ?_) #[true, true, true, true, true, true, true, true, true, true, true, true, true, true, true, true, true] rfl rfl (any_of HT_.out (by kernel_rfl)) (fun _ _ _ h => h) (Or.inl ⟨by rfl, ?_⟩) ?_ ?_
     rotate_left
     ·intro w'
      go_simp
      with_reducible rfl
     rotate_left
     ·simp only [Act.put, sA, sB, sC, i64_w, i32_w]
      rfl
     refine done_ (done_of HT_.out (by kernel_rfl)) ?_
     exact on_normal ⟨_, _, _, _, _, _, _, _, _, _, _, _, _, _, _, _, by first | (simp only [putAll, Act.put, sA, sB, sC]; done) | (simp only [putAll, Act.put, sA, sB, sC]; rfl) | rfl, HPd, HGd, HBd⟩
   ·clear HPa HGa HBa hs2 z1_ z2_ z3_ z4_ HXA HXB
    intro a' we
    refine ei fun t53 => ei fun t54 => ei fun t55 => ei fun t56 => ei fun t57 => ei fun t58 => ei fun t59 => ei fun t60 => ei fun t61 => ei fun t62 => ei fun t63 => ei fun t64 => ei fun t65 => ei fun t66 => ei fun t67 => ei fun t68 => fun hI => ?_
    obtain ⟨ha_, HP, HG, HB⟩ := hI
    subst ha_
    simp only [putAll, Act.put, sA, sB, sC]
    have HGE : Q0 (wq.heap.size < we.heap.size) := ⟨blk_lt HG.out⟩
    go_wp2
    go_loopw [5, 9] (fun v5 v9 wr => ∃ (c : Nat) (Mc : List (Nat × Nat)), c ≤ L ∧ v9 = .int .i64 (c : Int) ∧ Q0 (Mc = growTo (prodSt l0_1 l1_1) (p1, p2) M c) ∧ Q0 (Wbfs L (prodSt l0_1 l1_1) (0, 0) (inP l0_1.length l1_1.length) Mc i c) ∧ Q0 (s2 = sameUp l0_2 l1_2 Mc (i + 1)) ∧ Q0 (Kd.R k60 60 wr w13_.heap.size (fun k_ => True ∧ k_ ≠ wq.heap.size) v5 (castQ Mc)) ∧ Q0 (wr.heap[wq.heap.size]? = some (.cells #[.int .i64 (p1 : Int), .int .i64 (p2 : Int)] 60 (0, 0))) ∧ Q0 (Below w13_.heap.size w13_ wr)) (fun _ v9 _ => L - (intOf v9).toNat)
    case atStart => exact ⟨0, M, Nat.zero_le _, rfl, ⟨rfl⟩, HW, HS2, HP, HG, HB⟩
    case round =>
     clear HP HG HB HW HS2
     obtain ⟨c, Mc, hc, rfl, HMc, HW, HS2, HP, HG, HB⟩ := hrel
     obtain ⟨Ap, cp, rfl⟩ := R_pairsE HP.out
     have hMcl : Mc.length ≤ 400 := by
      have h1_ := HW.out.most (N := l0_1.length * l1_1.length) (fun _ => code_lt) (fun _ _ => code_inj)
      have h2_ : l0_1.length * l1_1.length ≤ 20 * 20 := Nat.mul_le_mul HSM.out.1 HSM.out.2
      omega
     have HMCL := Q0.mk hMcl
     have k0_ : wr.cell? ⟨w.heap.size, 0, none⟩ = some (.int .i64 (L : Int)) := (bcz (bb K6_.out (bsz (bsz (S9_.out) S14_.out) (HB.out))) 0).trans rfl
     by_cases hcl : c < L
     ·have q1b : decide ((c : Int) < (L : Int)) = true := decide_eq_true (by omega)
      obtain ⟨hp1, hp2⟩ := HPO.out
      obtain ⟨ad1, Ar1, cr1, e_, hxr1_, -, hCr1_⟩ := at_L5 HR0_1.out (p1 : Int) (by omega) (by omega)
      cases e_
      rw [rd5_nat] at hxr1_ hCr1_
      rw [Int.toNat_natCast] at hxr1_
      have hl1_ := HA.out.len hp1
      have hs1_ := HA.out.st hp1 (c := c) (by rw [Int.toNat_natCast]; exact hcl)
      obtain ⟨adr, e_, hxe1_⟩ := Kd.at_int hCr1_ (c : Int) (by omega) (by omega)
      cases e_
      rw [rd_nat, hs1_, Int.toNat_natCast] at hxe1_
      obtain ⟨bd1, Ar2, cr2, e_, hxr2_, -, hCr2_⟩ := at_L5 HR1_1.out (p2 : Int) (by omega) (by omega)
      cases e_
      rw [rd5_nat] at hxr2_ hCr2_
      rw [Int.toNat_natCast] at hxr2_
      have hl2_ := HBA.out.len hp2
      have hs2_ := HBA.out.st hp2 (c := c) (by rw [← HAB.out, Int.toNat_natCast]; exact hcl)
      obtain ⟨bdr, e_, hxe2_⟩ := Kd.at_int hCr2_ (c : Int) (by omega) (by rw [← HAB.out, Int.toNat_natCast] at hl2_; omega)
      cases e_
      rw [rd_nat, hs2_, Int.toNat_natCast] at hxe2_
      rw [Int.toNat_natCast] at hl1_
      rw [← HAB.out, Int.toNat_natCast] at hl2_
      obtain ⟨q1, hq1⟩ : ∃ q, q = stL l0_1 p1 c := ⟨_, rfl⟩
      obtain ⟨q2, hq2⟩ : ∃ q, q = stL l1_1 p2 c := ⟨_, rfl⟩
      rw [← hq1] at hxe1_
      rw [← hq2] at hxe2_
      have hsh1 := HA.out.shuts p1 c hp1 (by rw [Int.toNat_natCast]; exact hcl)
      have hsh2 := HBA.out.shuts p2 c hp2 (by rw [← HAB.out, Int.toNat_natCast]; exact hcl)
      rw [← hq1] at hsh1
      rw [← hq2] at hsh2
      have HQ1 := Q0.mk hq1
      have HQ2 := Q0.mk hq2
      have HSH : Q0 (q1 < l0_1.length ∧ q2 < l1_1.length) := ⟨⟨hsh1, hsh2⟩⟩
      clear hq1 hq2 hsh1 hsh2 hs1_ hs2_ hCr1_ hCr2_
      obtain ⟨n1, hn1⟩ : ∃ n, n = (l0_1.getD p1 []).length := ⟨_, rfl⟩
      obtain ⟨n2, hn2⟩ : ∃ n, n = (l1_1.getD p2 []).length := ⟨_, rfl⟩
      rw [← hn1] at hxr1_ hl1_
      rw [← hn2] at hxr2_ hl2_
      clear hn1 hn2
      have HXR1 := Q0.mk hxr1_
      have HXR2 := Q0.mk hxr2_
      have HXE1 := Q0.mk hxe1_
      have HXE2 := Q0.mk hxe2_
      clear hxr1_ hxr2_ hxe1_ hxe2_
      have z1_ : ((0 : Int) ≤ (p1 : Int)) = True := eq_true (by omega)
      have z2_ : ((p1 : Int) < (l0_1.length : Int)) = True := eq_true (by omega)
      have z3_ : ((0 : Int) ≤ (p2 : Int)) = True := eq_true (by omega)
      have z4_ : ((p2 : Int) < (l1_1.length : Int)) = True := eq_true (by omega)
      have z5_ : ((0 : Int) ≤ (c : Int)) = True := eq_true (by omega)
      have z6_ : ((c : Int) < (n1 : Int)) = True := eq_true (by omega)
      have z7_ : ((c : Int) < (n2 : Int)) = True := eq_true (by omega)
      have HL12 := Q0.mk (And.intro hl1_ hl2_)
      clear hl1_ hl2_ hp1 hp2
      go_wp2
      clear k0_
      refine start_ (n := 21) (S := fun w' => Below wr.heap.size wr w') (ds := [20]) #[false, false, false, false, false, false, false, false, false, false, false, false, false, false, false, false, false, false, false, false, false] (by kernel_rfl) rfl rfl (bD (Below.refl _ _)) (fun hHeld => ?_)
      refine with_tabW apart.tab13 apart.bits13 (fun HT_ HW_ => ?_)
      have HPd := Q0.mk (Kd.R_drew HP.out)
      have HGd := Q0.mk (bdz HG.out)
      have HBd := Q0.mk (bD HB.out)
      obtain ⟨wd, hwd⟩ : ∃ wd, wd = wr.drew := ⟨_, rfl⟩
      rw [← hwd] at HPd HGd HBd hHeld ⊢
      clear hwd
      refine pure_ (i := 0) (N := some 75) (v := ?_) (a' := ?_) #[true, false, false, false, false, false, false, false, false, false, false, false, false, false, false, false, false, false, false, false, false] rfl rfl (any_of HT_.out (by kernel_rfl)) (fun _ _ _ h => h) (Or.inl ⟨by rfl, ?_⟩) ?_ ?_
      rotate_left
      ·intro w'
       go_simp
       with_reducible rfl
      rotate_left
      ·simp only [Act.put, sA, sB, sC, i64_w, i32_w]
       rfl
      refine pure_ (i := 2) (N := some 77) (v := ?_) (a' := ?_) #[true, false, true, false, false, false, false, false, false, false, false, false, false, false, false, false, false, false, false, false, false] rfl rfl (any_of HT_.out (by kernel_rfl)) (fun _ _ _ h => h) (Or.inl ⟨by rfl, ?_⟩) ?_ ?_
      rotate_left
      ·intro w'
       go_simp
       with_reducible rfl
      rotate_left
      ·simp only [Act.put, sA, sB, sC, i64_w, i32_w]
       rfl
      refine pure_ (i := 6) (N := some 81) (v := ?_) (a' := ?_) #[true, false, true, false, false, false, true, false, false, false, false, false, false, false, false, false, false, false, false, false, false] rfl rfl (any_of HT_.out (by kernel_rfl)) (fun _ _ _ h => h) (Or.inl ⟨by rfl, ?_⟩) ?_ ?_
      rotate_left
      ·intro w'
       go_simp
       with_reducible rfl
      rotate_left
      ·simp only [Act.put, sA, sB, sC, i64_w, i32_w]
       rfl
      refine pure_ (i := 9) (N := some 84) (v := ?_) (a' := ?_) #[true, false, true, false, false, false, true, false, false, true, false, false, false, false, false, false, false, false, false, false, false] rfl rfl (any_of HT_.out (by kernel_rfl)) (fun _ _ _ h => h) (Or.inl ⟨by rfl, ?_⟩) ?_ ?_
      rotate_left
      ·intro w'
       go_simp
       with_reducible rfl
      rotate_left
      ·simp only [Act.put, sA, sB, sC, i64_w, i32_w]
       rfl
      refine pure_ (i := 11) (N := some 86) (v := ?_) (a' := ?_) #[true, false, true, false, false, false, true, false, false, true, false, true, false, false, false, false, false, false, false, false, false] rfl rfl (any_of HT_.out (by kernel_rfl)) (fun _ _ _ h => h) (Or.inl ⟨by rfl, ?_⟩) ?_ ?_
      rotate_left
      ·intro w'
       go_simp
       with_reducible rfl
      rotate_left
      ·simp only [Act.put, sA, sB, sC, i64_w, i32_w]
       rfl
      refine pure_ (i := 15) (N := some 90) (v := ?_) (a' := ?_) #[true, false, true, false, false, false, true, false, false, true, false, true, false, false, false, true, false, false, false, false, false] rfl rfl (any_of HT_.out (by kernel_rfl)) (fun _ _ _ h => h) (Or.inl ⟨by rfl, ?_⟩) ?_ ?_
      rotate_left
      ·intro w'
       go_simp
       with_reducible rfl
      rotate_left
      ·simp only [Act.put, sA, sB, sC, i64_w, i32_w]
       rfl
      refine take_ (i := 1) (N := some 76) (v := ?_) (a' := ?_) #[true, true, true, false, false, false, true, false, false, true, false, true, false, false, false, true, false, false, false, false, false] rfl rfl (take_ofW HT_.out HW_.out (by kernel_rfl)) (fun _ _ _ h => h) (Or.inl ⟨by rfl, ?_⟩) hHeld ?_ ?_
      rotate_left
      ·intro w' s0
       have c_ : w'.cell? ⟨w.heap.size, 1, none⟩ = some (.slice (some ad1) l0_1.length c0_1) := (bcz (bb K6_.out (bsz (bsz (S9_.out) S14_.out) (bsz HB.out s0))) 1).trans rfl
       clear s0
       go_simp
       with_reducible rfl
      rotate_left
      ·simp only [Act.put, sA, sB, sC, i64_w, i32_w]
       rfl
      refine take_ (i := 3) (N := some 78) (v := ?_) (a' := ?_) #[true, true, true, true, false, false, true, false, false, true, false, true, false, false, false, true, false, false, false, false, false] rfl rfl (take_ofW HT_.out HW_.out (by kernel_rfl)) (fun _ _ _ h => h) (Or.inl ⟨by rfl, ?_⟩) hHeld ?_ ?_
      rotate_left
      ·intro w' s0
       have c_ : w'.cell? ⟨wq.heap.size, 0, none⟩ = some (.int .i64 (p1 : Int)) := (bcz (bb HG.out s0) 0).trans rfl
       clear s0
       go_simp
       with_reducible rfl
      rotate_left
      ·simp only [Act.put, sA, sB, sC, i64_w, i32_w]
       rfl
      refine pure_ (i := 4) (N := some 79) (v := ?_) (a' := ?_) #[true, true, true, true, true, false, true, false, false, true, false, true, false, false, false, true, false, false, false, false, false] rfl rfl (any_of HT_.out (by kernel_rfl)) (fun _ _ _ h => h) (Or.inl ⟨by rfl, ?_⟩) ?_ ?_
      rotate_left
      ·intro w'
       go_simp
       with_reducible rfl
      rotate_left
      ·simp only [Act.put, sA, sB, sC, i64_w, i32_w]
       rfl
      refine take_ (i := 5) (N := some 80) (v := ?_) (a' := ?_) #[true, true, true, true, true, true, true, false, false, true, false, true, false, false, false, true, false, false, false, false, false] rfl rfl (take_ofW HT_.out HW_.out (by kernel_rfl)) (fun _ _ _ h => h) (Or.inl ⟨by rfl, ?_⟩) hHeld ?_ ?_
      rotate_left
      ·intro w' s0
       have c_ := (Below.cell (bsz (bsz (bsz (S5_.out) S9_.out) S14_.out) (bsz HB.out s0)) (World.block_lt_of_cell? _ _ HXR1.out)).trans HXR1.out
       clear s0
       go_simp
       with_reducible rfl
      rotate_left
      ·simp only [Act.put, sA, sB, sC, i64_w, i32_w]
       rfl
      refine pure_ (i := 7) (N := some 82) (v := ?_) (a' := ?_) #[true, true, true, true, true, true, true, true, false, true, false, true, false, false, false, true, false, false, false, false, false] rfl rfl (any_of HT_.out (by kernel_rfl)) (fun _ _ _ h => h) (Or.inl ⟨by rfl, ?_⟩) ?_ ?_
      rotate_left
      ·intro w'
       go_simp
       with_reducible rfl
      rotate_left
      ·simp only [Act.put, sA, sB, sC, i64_w, i32_w]
       rfl
      refine take_ (i := 8) (N := some 83) (v := ?_) (a' := ?_) #[true, true, true, true, true, true, true, true, true, true, false, true, false, false, false, true, false, false, false, false, false] rfl rfl (take_ofW HT_.out HW_.out (by kernel_rfl)) (fun _ _ _ h => h) (Or.inl ⟨by rfl, ?_⟩) hHeld ?_ ?_
      rotate_left
      ·intro w' s0
       have c_ := (Below.cell (bsz (bsz (bsz (S5_.out) S9_.out) S14_.out) (bsz HB.out s0)) (World.block_lt_of_cell? _ _ HXE1.out)).trans HXE1.out
       clear s0
       go_simp
       with_reducible rfl
      rotate_left
      ·simp only [Act.put, sA, sB, sC, i64_w, i32_w]
       rfl
      refine take_ (i := 10) (N := some 85) (v := ?_) (a' := ?_) #[true, true, true, true, true, true, true, true, true, true, true, true, false, false, false, true, false, false, false, false, false] rfl rfl (take_ofW HT_.out HW_.out (by kernel_rfl)) (fun _ _ _ h => h) (Or.inl ⟨by rfl, ?_⟩) hHeld ?_ ?_
      rotate_left
      ·intro w' s0
       have c_ : w'.cell? ⟨w.heap.size + 1, 1, none⟩ = some (.slice (some bd1) l1_1.length c1_1) := (bcz (bb K7_.out (bsz (bsz (S9_.out) S14_.out) (bsz HB.out s0))) 1).trans rfl
       clear s0
       go_simp
       with_reducible rfl
      rotate_left
      ·simp only [Act.put, sA, sB, sC, i64_w, i32_w]
       rfl
      refine take_ (i := 12) (N := some 87) (v := ?_) (a' := ?_) #[true, true, true, true, true, true, true, true, true, true, true, true, true, false, false, true, false, false, false, false, false] rfl rfl (take_ofW HT_.out HW_.out (by kernel_rfl)) (fun _ _ _ h => h) (Or.inl ⟨by rfl, ?_⟩) hHeld ?_ ?_
      rotate_left
      ·intro w' s0
       have c_ : w'.cell? ⟨wq.heap.size, 1, none⟩ = some (.int .i64 (p2 : Int)) := (bcz (bb HG.out s0) 1).trans rfl
       clear s0
       go_simp
       with_reducible rfl
      rotate_left
      ·simp only [Act.put, sA, sB, sC, i64_w, i32_w]
       rfl
      refine pure_ (i := 13) (N := some 88) (v := ?_) (a' := ?_) #[true, true, true, true, true, true, true, true, true, true, true, true, true, true, false, true, false, false, false, false, false] rfl rfl (any_of HT_.out (by kernel_rfl)) (fun _ _ _ h => h) (Or.inl ⟨by rfl, ?_⟩) ?_ ?_
      rotate_left
      ·intro w'
       go_simp
       with_reducible rfl
      rotate_left
      ·simp only [Act.put, sA, sB, sC, i64_w, i32_w]
       rfl
      refine take_ (i := 14) (N := some 89) (v := ?_) (a' := ?_) #[true, true, true, true, true, true, true, true, true, true, true, true, true, true, true, true, false, false, false, false, false] rfl rfl (take_ofW HT_.out HW_.out (by kernel_rfl)) (fun _ _ _ h => h) (Or.inl ⟨by rfl, ?_⟩) hHeld ?_ ?_
      rotate_left
      ·intro w' s0
       have c_ := (Below.cell (bsz (bsz (bsz (S5_.out) S9_.out) S14_.out) (bsz HB.out s0)) (World.block_lt_of_cell? _ _ HXR2.out)).trans HXR2.out
       clear s0
       go_simp
       with_reducible rfl
      rotate_left
      ·simp only [Act.put, sA, sB, sC, i64_w, i32_w]
       rfl
      refine pure_ (i := 16) (N := some 91) (v := ?_) (a' := ?_) #[true, true, true, true, true, true, true, true, true, true, true, true, true, true, true, true, true, false, false, false, false] rfl rfl (any_of HT_.out (by kernel_rfl)) (fun _ _ _ h => h) (Or.inl ⟨by rfl, ?_⟩) ?_ ?_
      rotate_left
      ·intro w'
       go_simp
       with_reducible rfl
      rotate_left
      ·simp only [Act.put, sA, sB, sC, i64_w, i32_w]
       rfl
      refine take_ (i := 17) (N := some 92) (v := ?_) (a' := ?_) #[true, true, true, true, true, true, true, true, true, true, true, true, true, true, true, true, true, true, false, false, false] rfl rfl (take_ofW HT_.out HW_.out (by kernel_rfl)) (fun _ _ _ h => h) (Or.inl ⟨by rfl, ?_⟩) hHeld ?_ ?_
      rotate_left
      ·intro w' s0
       have c_ := (Below.cell (bsz (bsz (bsz (S5_.out) S9_.out) S14_.out) (bsz HB.out s0)) (World.block_lt_of_cell? _ _ HXE2.out)).trans HXE2.out
       clear s0
       go_simp
       with_reducible rfl
      rotate_left
      ·simp only [Act.put, sA, sB, sC, i64_w, i32_w]
       rfl
      refine pure_ (i := 18) (N := some 93) (v := ?_) (a' := ?_) #[true, true, true, true, true, true, true, true, true, true, true, true, true, true, true, true, true, true, true, false, false] rfl rfl (any_of HT_.out (by kernel_rfl)) (fun _ _ _ h => h) (Or.inl ⟨by rfl, ?_⟩) ?_ ?_
      rotate_left
      ·intro w'
       go_simp
       with_reducible rfl
      rotate_left
      ·simp only [Act.put, sA, sB, sC, i64_w, i32_w]
       rfl
      refine one_ (i := 19) (N := some 10) #[true, true, true, true, true, true, true, true, true, true, true, true, true, true, true, true, true, true, true, true, false] rfl rfl (one_of HT_.out (by kernel_rfl)) (by decide) (fun K hK => ?_)
      refine value_ (w1 := ?_) (v := ?_) (by rfl) rfl ?_ ?_
      rotate_left 2
      ·go_simp
       constructor
       ·rfl
       ·rfl
      refine hK.out _ _ (ba hHeld (.cells #[.int .i64 0, .int .i64 0] 60)) (fun hHeld => ?_)
      clear hK K
      refine norm_ (a' := ?_) ?_ ?_
      rotate_left
      ·show Act.put _ (some 10) _ = _
       simp only [Act.put, sA, sB, sC, i64_w, i32_w]
       rfl
      refine last_ (i := 20) (N := none) #[true, true, true, true, true, true, true, true, true, true, true, true, true, true, true, true, true, true, true, true, true] rfl rfl (one_of HT_.out (by kernel_rfl)) (by decide) (fun K hK => ?_)
      have hb_ := bn wd (.cells #[.int .i64 0, .int .i64 0] 60)
      have hc0_ : (wd.alloc (.cells #[.int .i64 0, .int .i64 0] 60)).cell? ⟨wd.heap.size, 0, none⟩ = some (.int .i64 0) := (bcz hb_ 0).trans rfl
      have hc1_ : (wd.alloc (.cells #[.int .i64 0, .int .i64 0] 60)).cell? ⟨wd.heap.size, 1, none⟩ = some (.int .i64 0) := (bcz hb_ 1).trans rfl
      clear hb_ hHeld
      refine skip_ (w1 := ?_) (by rfl) rfl ?_ ?_
      rotate_left
      ·go_simp
       rfl
      refine hK.out _ _ ?_
      clear hK K
      refine done_ (done_of HT_.out (by kernel_rfl)) ?_
      have HPa := Q0.mk (Kd.R_alloc (Kd.R_elderB HPd.out wd.heap.size (Nat.le_refl _)) (.cells #[.int .i64 (q1 : Int), .int .i64 (q2 : Int)] 60))
      have HGa := Q0.mk (bA HGd.out (.cells #[.int .i64 (q1 : Int), .int .i64 (q2 : Int)] 60))
      have HBa := Q0.mk (ba HBd.out (.cells #[.int .i64 (q1 : Int), .int .i64 (q2 : Int)] 60))
      have HQa := Q0.mk (bn wd (.cells #[.int .i64 (q1 : Int), .int .i64 (q2 : Int)] 60))
      have HGD : Q0 (wq.heap.size < wd.heap.size) := ⟨blk_lt HGd.out⟩
      clear HP HG HB HPd HGd HBd hHeld HXR1 HXR2 HXE1 HXE2 z1_ z2_ z3_ z4_ z5_ z6_ z7_
      have hst : prodSt l0_1 l1_1 (p1, p2) c = (q1, q2) := by show (stL l0_1 p1 c, stL l1_1 p2 c) = _; rw [HQ1.out, HQ2.out]
      have HST := Q0.mk hst
      clear hst
      obtain ⟨wb, hwb⟩ : ∃ x, x = (wd.alloc (.cells #[.int .i64 (q1 : Int), .int .i64 (q2 : Int)] 60)) := ⟨_, rfl⟩
      rw [← hwb] at HPa HGa HBa HQa ⊢
      have HQW : Q0 (wd.heap.size < wb.heap.size) := ⟨blk_lt HQa.out⟩
      clear hwb
      go_wp2
      go_loopw [11, 12] (fun v11 v12 ws => ∃ j : Nat, j ≤ Mc.length ∧ v12 = .int .i64 (j : Int) ∧ v11 = .bool (decide ((q1, q2) ∈ Mc.take j)) ∧ Q0 (Kd.R k60 60 ws w13_.heap.size (fun k_ => (True ∧ k_ ≠ wq.heap.size) ∧ k_ ≠ wd.heap.size) (.slice Ap Mc.length cp) (castQ Mc)) ∧ Q0 (ws.heap[wq.heap.size]? = some (.cells #[.int .i64 (p1 : Int), .int .i64 (p2 : Int)] 60 (0, 0))) ∧ Q0 (ws.heap[wd.heap.size]? = some (.cells #[.int .i64 (q1 : Int), .int .i64 (q2 : Int)] 60 (0, 0))) ∧ Q0 (Below w13_.heap.size w13_ ws)) (fun _ v12 _ => Mc.length - (intOf v12).toNat)
      case atStart => exact ⟨0, Nat.zero_le _, rfl, rfl, HPa, HGa, HQa, HBa⟩
      case round =>
       clear HPa HGa HQa HBa
       obtain ⟨j, hj, rfl, rfl, HP, HG, HQ, HB⟩ := hrel
       obtain ⟨wc, rfl⟩ : ∃ wc, wc = wr := ⟨wr, rfl⟩
       by_cases hjl : j < Mc.length
       ·have q2b : decide ((j : Int) < (Mc.length : Int)) = true := decide_eq_true (by omega)
        obtain ⟨⟨u1, u2⟩, hu⟩ : ∃ p, Mc[j]? = some p := ⟨_, List.getElem?_eq_getElem hjl⟩
        obtain ⟨ad12, e_, hx0_, hx1_⟩ := pairs_atE HP.out hu
        cases e_
        dsimp only at hx0_ hx1_
        have p1_ : ((0 : Int) ≤ (j : Int)) = True := eq_true (by omega)
        have q1_ : ((j : Int) < (Mc.length : Int)) = True := eq_true (by omega)
        have HX0 := Q0.mk hx0_
        have HX1 := Q0.mk hx1_
        clear hx0_ hx1_
        obtain ⟨mt, hmt⟩ : ∃ m, m = decide ((q1, q2) ∈ Mc.take j) := ⟨_, rfl⟩
        obtain ⟨m2, hm2⟩ : ∃ m, m = (mt || (((u1 : Int) == (q1 : Int)) && ((u2 : Int) == (q2 : Int)))) := ⟨_, rfl⟩
        have HM2 : Q0 (m2 = decide ((q1, q2) ∈ Mc.take (j + 1))) := ⟨by rw [take_mem hu, hm2, hmt]⟩
        rw [← hmt]
        clear hu hmt
        go_wp2
        refine region_join (fun A0 a' w' => ∃ (t100 t101 t102 t103 t104 t105 t106 t107 t108 : Value), a' = putAll A0 [(100, t100), (101, t101), (102, t102), (103, t103), (104, t104), (105, t105), (106, t106), (107, t107), (108, t108), (11, .bool m2)] ∧ Q0 (Kd.R k60 60 w' w13_.heap.size (fun k_ => (True ∧ k_ ≠ wq.heap.size) ∧ k_ ≠ wd.heap.size) (.slice (some ad12) Mc.length cp) (castQ Mc)) ∧ Q0 (w'.heap[wq.heap.size]? = some (.cells #[.int .i64 (p1 : Int), .int .i64 (p2 : Int)] 60 (0, 0))) ∧ Q0 (w'.heap[wd.heap.size]? = some (.cells #[.int .i64 (q1 : Int), .int .i64 (q2 : Int)] 60 (0, 0))) ∧ Q0 (Below w13_.heap.size w13_ w')) ?_ ?_
        ·cases mt with
         | true =>
          obtain rfl : m2 = true := by rw [hm2]; rfl
          clear hm2
          refine start_ (n := 10) (S := fun w' => Below wc.heap.size wc w') (ds := []) #[false, false, false, false, false, false, false, false, false, false] (by kernel_rfl) rfl rfl (bD (Below.refl _ _)) (fun hHeld => ?_)
          refine with_tabW apart.tab18 apart.bits18 (fun HT_ HW_ => ?_)
          have HPd := Q0.mk (Kd.R_drew HP.out)
          have HGd := Q0.mk (bdz HG.out)
          have HQd := Q0.mk (bdz HQ.out)
          have HBd := Q0.mk (bD HB.out)
          refine pure_ (i := 0) (N := some 100) (v := ?_) (a' := ?_) #[true, false, false, false, false, false, false, false, false, false] rfl rfl (any_of HT_.out (by kernel_rfl)) (fun _ _ _ h => h) (Or.inl ⟨by rfl, ?_⟩) ?_ ?_
          rotate_left
          ·intro w'
           go_simp
           with_reducible rfl
          rotate_left
          ·simp only [Act.put, sA, sB, sC, i64_w, i32_w]
           rfl
          refine pure_ (i := 1) (N := some 101) (v := ?_) (a' := ?_) #[true, true, false, false, false, false, false, false, false, false] rfl rfl (any_of HT_.out (by kernel_rfl)) (fun _ _ _ h => h) (Or.inl ⟨by rfl, ?_⟩) ?_ ?_
          rotate_left
          ·intro w'
           go_simp
           with_reducible rfl
          rotate_left
          ·simp only [Act.put, sA, sB, sC, i64_w, i32_w]
           rfl
          refine pure_ (i := 2) (N := some 102) (v := undef) (a' := ?_) #[true, true, true, false, false, false, false, false, false, false] rfl rfl (any_of HT_.out (by kernel_rfl)) (fun _ _ _ h => h) (Or.inr ⟨by rfl, rfl⟩) ?_ ?_
          rotate_left
          ·simp only [Act.put, sA, sB, sC, i64_w, i32_w]
           rfl
          refine pure_ (i := 3) (N := some 103) (v := undef) (a' := ?_) #[true, true, true, true, false, false, false, false, false, false] rfl rfl (any_of HT_.out (by kernel_rfl)) (fun _ _ _ h => h) (Or.inr ⟨by rfl, rfl⟩) ?_ ?_
          rotate_left
          ·simp only [Act.put, sA, sB, sC, i64_w, i32_w]
           rfl
          refine pure_ (i := 4) (N := some 104) (v := undef) (a' := ?_) #[true, true, true, true, true, false, false, false, false, false] rfl rfl (any_of HT_.out (by kernel_rfl)) (fun _ _ _ h => h) (Or.inr ⟨by rfl, rfl⟩) ?_ ?_
          rotate_left
          ·simp only [Act.put, sA, sB, sC, i64_w, i32_w]
           rfl
          refine pure_ (i := 5) (N := some 105) (v := undef) (a' := ?_) #[true, true, true, true, true, true, false, false, false, false] rfl rfl (any_of HT_.out (by kernel_rfl)) (fun _ _ _ h => h) (Or.inr ⟨by rfl, rfl⟩) ?_ ?_
          rotate_left
          ·simp only [Act.put, sA, sB, sC, i64_w, i32_w]
           rfl
          refine pure_ (i := 6) (N := some 106) (v := undef) (a' := ?_) #[true, true, true, true, true, true, true, false, false, false] rfl rfl (any_of HT_.out (by kernel_rfl)) (fun _ _ _ h => h) (Or.inr ⟨by rfl, rfl⟩) ?_ ?_
          rotate_left
          ·simp only [Act.put, sA, sB, sC, i64_w, i32_w]
           rfl
          refine pure_ (i := 7) (N := some 107) (v := undef) (a' := ?_) #[true, true, true, true, true, true, true, true, false, false] rfl rfl (any_of HT_.out (by kernel_rfl)) (fun _ _ _ h => h) (Or.inr ⟨by rfl, rfl⟩) ?_ ?_
          rotate_left
          ·simp only [Act.put, sA, sB, sC, i64_w, i32_w]
           rfl
          refine pure_ (i := 8) (N := some 108) (v := ?_) (a' := ?_) #[true, true, true, true, true, true, true, true, true, false] rfl rfl (any_of HT_.out (by kernel_rfl)) (fun _ _ _ h => h) (Or.inl ⟨by rfl, ?_⟩) ?_ ?_
          rotate_left
          ·intro w'
           go_simp
           with_reducible rfl
          rotate_left
          ·simp only [Act.put, sA, sB, sC, i64_w, i32_w]
           rfl
          refine pure_ (i := 9) (N := some 11) (v := ?_) (a' := ?_) #[true, true, true, true, true, true, true, true, true, true] rfl rfl (any_of HT_.out (by kernel_rfl)) (fun _ _ _ h => h) (Or.inl ⟨by rfl, ?_⟩) ?_ ?_
          rotate_left
          ·intro w'
           go_simp
           with_reducible rfl
          rotate_left
          ·simp only [Act.put, sA, sB, sC, i64_w, i32_w]
           rfl
          refine done_ (done_of HT_.out (by kernel_rfl)) ?_
          exact on_normal ⟨_, _, _, _, _, _, _, _, _, by first | (simp only [putAll, Act.put, sA, sB, sC]; done) | (simp only [putAll, Act.put, sA, sB, sC]; rfl) | rfl, HPd, HGd, HQd, HBd⟩
         | false =>
          obtain rfl : m2 = (((u1 : Int) == (q1 : Int)) && ((u2 : Int) == (q2 : Int))) := by rw [hm2]; rfl
          clear hm2
          refine start_ (n := 10) (S := fun w' => Below wc.heap.size wc w') (ds := []) #[false, false, false, false, false, false, false, false, false, false] (by kernel_rfl) rfl rfl (bD (Below.refl _ _)) (fun hHeld => ?_)
          refine with_tabW apart.tab18 apart.bits18 (fun HT_ HW_ => ?_)
          have HPd := Q0.mk (Kd.R_drew HP.out)
          have HGd := Q0.mk (bdz HG.out)
          have HQd := Q0.mk (bdz HQ.out)
          have HBd := Q0.mk (bD HB.out)
          refine pure_ (i := 0) (N := some 100) (v := ?_) (a' := ?_) #[true, false, false, false, false, false, false, false, false, false] rfl rfl (any_of HT_.out (by kernel_rfl)) (fun _ _ _ h => h) (Or.inl ⟨by rfl, ?_⟩) ?_ ?_
          rotate_left
          ·intro w'
           go_simp
           with_reducible rfl
          rotate_left
          ·simp only [Act.put, sA, sB, sC, i64_w, i32_w]
           rfl
          refine pure_ (i := 1) (N := some 101) (v := ?_) (a' := ?_) #[true, true, false, false, false, false, false, false, false, false] rfl rfl (any_of HT_.out (by kernel_rfl)) (fun _ _ _ h => h) (Or.inl ⟨by rfl, ?_⟩) ?_ ?_
          rotate_left
          ·intro w'
           go_simp
           with_reducible rfl
          rotate_left
          ·simp only [Act.put, sA, sB, sC, i64_w, i32_w]
           rfl
          refine pure_ (i := 2) (N := some 102) (v := ?_) (a' := ?_) #[true, true, true, false, false, false, false, false, false, false] rfl rfl (any_of HT_.out (by kernel_rfl)) (fun _ _ _ h => h) (Or.inl ⟨by rfl, ?_⟩) ?_ ?_
          rotate_left
          ·intro w'
           go_simp
           with_reducible rfl
          rotate_left
          ·simp only [Act.put, sA, sB, sC, i64_w, i32_w]
           rfl
          refine pure_ (i := 3) (N := some 103) (v := ?_) (a' := ?_) #[true, true, true, true, false, false, false, false, false, false] rfl rfl (any_of HT_.out (by kernel_rfl)) (fun _ _ _ h => h) (Or.inl ⟨by rfl, ?_⟩) ?_ ?_
          rotate_left
          ·intro w'
           go_simp
           with_reducible rfl
          rotate_left
          ·simp only [Act.put, sA, sB, sC, i64_w, i32_w]
           rfl
          refine pure_ (i := 4) (N := some 104) (v := ?_) (a' := ?_) #[true, true, true, true, true, false, false, false, false, false] rfl rfl (any_of HT_.out (by kernel_rfl)) (fun _ _ _ h => h) (Or.inl ⟨by rfl, ?_⟩) ?_ ?_
          rotate_left
          ·intro w'
           go_simp
           with_reducible rfl
          rotate_left
          ·simp only [Act.put, sA, sB, sC, i64_w, i32_w]
           rfl
          refine take_ (i := 5) (N := some 105) (v := ?_) (a' := ?_) #[true, true, true, true, true, true, false, false, false, false] rfl rfl (take_ofW HT_.out HW_.out (by kernel_rfl)) (fun _ _ _ h => h) (Or.inl ⟨by rfl, ?_⟩) hHeld ?_ ?_
          rotate_left
          ·intro w' s0
           have c0_ := (Below.cell s0 (World.block_lt_of_cell? _ _ HX0.out)).trans HX0.out
           have c1_ := (Below.cell s0 (World.block_lt_of_cell? _ _ HX1.out)).trans HX1.out
           clear s0
           go_simp
           with_reducible rfl
          rotate_left
          ·simp only [Act.put, sA, sB, sC, i64_w, i32_w]
           rfl
          refine take_ (i := 6) (N := some 106) (v := ?_) (a' := ?_) #[true, true, true, true, true, true, true, false, false, false] rfl rfl (take_ofW HT_.out HW_.out (by kernel_rfl)) (fun _ _ _ h => h) (Or.inl ⟨by rfl, ?_⟩) hHeld ?_ ?_
          rotate_left
          ·intro w' s0
           have c0_ : w'.cell? ⟨wd.heap.size, 0, none⟩ = some (.int .i64 (q1 : Int)) := (bcz (bb HQ.out s0) 0).trans rfl
           have c1_ : w'.cell? ⟨wd.heap.size, 1, none⟩ = some (.int .i64 (q2 : Int)) := (bcz (bb HQ.out s0) 1).trans rfl
           clear s0
           go_simp
           with_reducible rfl
          rotate_left
          ·simp only [Act.put, sA, sB, sC, i64_w, i32_w]
           rfl
          refine pure_ (i := 7) (N := some 107) (v := ?_) (a' := ?_) #[true, true, true, true, true, true, true, true, false, false] rfl rfl (any_of HT_.out (by kernel_rfl)) (fun _ _ _ h => h) (Or.inl ⟨by rfl, ?_⟩) ?_ ?_
          rotate_left
          ·intro w'
           go_simp
           with_reducible rfl
          rotate_left
          ·simp only [Act.put, sA, sB, sC, i64_w, i32_w]
           rfl
          refine pure_ (i := 8) (N := some 108) (v := ?_) (a' := ?_) #[true, true, true, true, true, true, true, true, true, false] rfl rfl (any_of HT_.out (by kernel_rfl)) (fun _ _ _ h => h) (Or.inl ⟨by rfl, ?_⟩) ?_ ?_
          rotate_left
          ·intro w'
           go_simp
           with_reducible rfl
          rotate_left
          ·simp only [Act.put, sA, sB, sC, i64_w, i32_w]
           rfl
          refine pure_ (i := 9) (N := some 11) (v := ?_) (a' := ?_) #[true, true, true, true, true, true, true, true, true, true] rfl rfl (any_of HT_.out (by kernel_rfl)) (fun _ _ _ h => h) (Or.inl ⟨by rfl, ?_⟩) ?_ ?_
          rotate_left
          ·intro w'
           go_simp
           with_reducible rfl
          rotate_left
          ·simp only [Act.put, sA, sB, sC, i64_w, i32_w]
           rfl
          refine done_ (done_of HT_.out (by kernel_rfl)) ?_
          exact on_normal ⟨_, _, _, _, _, _, _, _, _, by first | (simp only [putAll, Act.put, sA, sB, sC]; done) | (simp only [putAll, Act.put, sA, sB, sC]; rfl) | rfl, HPd, HGd, HQd, HBd⟩
        ·clear HP HG HQ HB hm2 HX0 HX1 p1_ q1_
         intro a' wf
         refine ei fun t100 => ei fun t101 => ei fun t102 => ei fun t103 => ei fun t104 => ei fun t105 => ei fun t106 => ei fun t107 => ei fun t108 => fun hI => ?_
         obtain ⟨ha_, HP, HG, HQ, HB⟩ := hI
         subst ha_
         simp only [putAll, Act.put, sA, sB, sC]
         go_wp2
         go_roundw
         case rel => exact ⟨j + 1, hjl, by go_num, by rw [HM2.out], HP, HG, HQ, HB⟩
         case measure => simp [intOf]; omega
       ·have q2b : decide ((j : Int) < (Mc.length : Int)) = false := decide_eq_false (by omega)
        have q2c : (j < Mc.length) = False := eq_false (by omega)
        obtain rfl : j = Mc.length := by omega
        rw [List.take_length]
        by_cases hmem : (q1, q2) ∈ Mc
        ·have HMEM := Q0.mk hmem
         rw [decide_eq_true hmem]
         clear hmem
         go_wp2
         go_roundw
         case rel =>
          refine ⟨c + 1, Mc, by omega, by go_num, ⟨?_⟩, ⟨?_⟩, HS2, ⟨Kd.R_mono HP.out (fun _ hk => hk.1)⟩, HG, HB⟩
          ·have h_ := HMEM.out
           rw [HMc.out, ← HST.out] at h_
           rw [growTo_old h_]
           exact HMc.out
          ·exact HW.out.old (x := (p1, p2)) (by rw [HMc.out]; exact growTo_get HPI.out c) (by rw [HST.out]; exact HMEM.out)
         case measure => simp [intOf]; omega
        ·have HMEM := Q0.mk hmem
         rw [decide_eq_false hmem]
         clear hmem
         obtain ⟨N2, hN2⟩ : ∃ N, N = Mc ++ [(q1, q2)] := ⟨_, rfl⟩
         have HN := Q0.mk hN2
         clear hN2
         have x0_ : wc.cell? ⟨wd.heap.size, 0, none⟩ = some (.int .i64 (q1 : Int)) := (bcz HQ.out 0).trans rfl
         have x1_ : wc.cell? ⟨wd.heap.size, 1, none⟩ = some (.int .i64 (q2 : Int)) := (bcz HQ.out 1).trans rfl
         go_wp2_with (first | ((with_reducible refine gate_builtin (b := .append) (xs := #[.tmp 111, .tmp 113]) rfl ?_); at_builtin; refine Kd.R_append k60 (w0 := w13_) w13_.heap.size rfl (.tmp 111) (.tmp 113) 61 60 (.agg #[(.int .i64 0), (.int .i64 0)]) 16 rfl Try.underlying61 info60 rfl (by decide) (by omega) (.slice Ap Mc.length cp) (castQ Mc) (q60 (q1, q2)) [.int .i64 (q1 : Int), .int .i64 (q2 : Int)] (fun k_ => (True ∧ k_ ≠ wq.heap.size) ∧ k_ ≠ wd.heap.size) (fun _ => False) rfl (by first | rfl | (rw [World.size_alloc]; rfl)) ?aP (fun _ hk => hk.elim) ?aF ?aO ?aB ?aS ?aL ?_; (case aP => exact k60_mkM _ _ _ (q60 (q1, q2))); (case aB => exact HB.out); (case aF => exact (fun k_ hk_ => by have h1_ := blk_lt HG.out; have h2_ := blk_lt HQ.out; exact ⟨⟨trivial, by omega⟩, by omega⟩)); (case aO => exact HP.out); (case aS => exact below_size HB.out); (case aL => rw [castQ_length]; have h_ := HMCL.out; omega); intro v7 w7 ho hb hg hat; rw [← castQ_snoc, ← HN.out] at ho; have HPv := Q0.mk ho; have HBv := Q0.mk hb; have HGv := Q0.mk (bG HG.out hg (Kd.R_away HP.out (fun k_ hk_ => hk_.1.2))); clear ho hb hg hat x0_ x1_; obtain ⟨A7, c7, rfl⟩ := R_pairsE HPv.out))
         go_roundw
         case rel =>
          have hcur_ : Mc[i]? = some (p1, p2) := by rw [HMc.out]; exact growTo_get HPI.out c
          have hWn_ := HW.out.new hcur_ hcl (by rw [HST.out]; exact HSH.out) (by rw [HST.out]; exact HMEM.out)
          rw [HST.out, ← HN.out] at hWn_
          refine ⟨c + 1, N2, by omega, by go_num, ⟨?_⟩, ⟨hWn_⟩, ⟨?_⟩, ⟨Kd.R_mono HPv.out (fun _ hk => hk.1)⟩, HGv, HBv⟩
          ·have h_ := HMEM.out
           rw [HMc.out, ← HST.out] at h_
           rw [growTo_new h_, ← HMc.out, HST.out, HN.out]
          ·rw [HN.out, sameUp_grow (by have h_ := (List.getElem?_eq_some_iff.1 hcur_).1; omega)]; exact HS2.out
         case measure => simp [intOf]; omega
     ·have q1b : decide ((c : Int) < (L : Int)) = false := decide_eq_false (by omega)
      have q1c : (c < L) = False := eq_false (by omega)
      obtain rfl : c = L := by omega
      go_wp2
      go_roundw
      case rel =>
       have hcur_ : Mc[i]? = some (p1, p2) := by rw [HMc.out]; exact growTo_get HPI.out c
       exact ⟨i + 1, Mc, by go_num, by rw [HS2.out], ⟨HW.out.turn (List.getElem?_eq_some_iff.1 hcur_).1⟩, ⟨Kd.R_mono HP.out (fun _ _ => trivial)⟩, HB⟩
      case measure => simp [intOf]; omega
  ·have q1b : decide ((i : Int) < (M.length : Int)) = false := decide_eq_false (by omega)
   have q1c : (i < M.length) = False := eq_false (by omega)
   have hil : i = M.length := by have h_ := HW.out.at_; omega
   have ZK := ZAL.out M (by have h_ := HW.out; rw [hil] at h_; exact h_)
   rw [hil]
   obtain ⟨sm, hsm⟩ : ∃ s, s = sameUp l0_2 l1_2 M M.length := ⟨_, rfl⟩
   rw [← hsm] at ZK ⊢
   have ZAK := Q0.mk ZK
   have SW := Q0.mk HB.out
   clear ZK hsm HB HP
   subst hil
   obtain ⟨c21_, c22_, c23_⟩ := cells3 (bb K6_.out (bsz (bsz (S9_.out) S14_.out) SW.out))
   obtain ⟨c24_, c25_, c26_⟩ := cells3 (bb K7_.out (bsz (bsz (S9_.out) S14_.out) SW.out))
   go_wp2_with (first | (go_at_call 70; have hF_ := ZAK.out; clear ZAK; (try clear c21_ c22_ c23_ c24_ c25_ c26_); refine (number_Alike.calls kl  (L : Int) A0_1 c0_1 l0_1 A0_2 c0_2 l0_2 a1_0 A1_1 c1_1 l1_1 A1_2 c1_2 l1_2  sm _ (Kd.C_below (HR0_1.out) (bsz (bsz (bsz (S5_.out) S9_.out) S14_.out) SW.out)) hc0_1 (Kd.C_below (HR0_2.out) (bsz (bsz (bsz (S5_.out) S9_.out) S14_.out) SW.out)) hc0_2 (Kd.C_below (HR1_1.out) (bsz (bsz (bsz (S5_.out) S9_.out) S14_.out) SW.out)) hc1_1 (Kd.C_below (HR1_2.out) (bsz (bsz (bsz (S5_.out) S9_.out) S14_.out) SW.out)) hc1_2  hF_).mono ?_; clear hF_; rintro e w27_ ⟨rfl, hb_⟩; have S28_ := Q0.mk hb_; clear hb_) | (go_at_call 63; have hF_ := ZW.out; clear ZW; refine (caesuralaw22_wakes.calls kw    true _   hF_).mono ?_; clear hF_; rintro e w29_ ⟨rfl, hb_⟩; have S30_ := Q0.mk hb_; clear hb_))
   go_ret
   exact ⟨rfl, bsz (bsz (bsz (bsz (bsz (S5_.out) S9_.out) S14_.out) SW.out) S28_.out) S30_.out⟩

end Go.Proofs.Ytelkjbacdpmnfaa.A
