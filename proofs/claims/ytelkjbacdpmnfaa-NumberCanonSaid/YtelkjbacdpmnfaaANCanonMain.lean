/- By a program, out of the translation (wip/myprint.py). -/
import Derived.Test.YtelkjbacdpmnfaaA0
import Derived.Test.YtelkjbacdpmnfaaACaesuralaw21Light
import Derived.Test.YtelkjbacdpmnfaaACaesuralaw22Wakes
import Derived.Test.YtelkjbacdpmnfaaACaesuraref19Good
import Derived.Test.YtelkjbacdpmnfaaANumberAlike
import Derived.Test.YtelkjbacdpmnfaaANumberCanon
import Derived.Test.YtelkjbacdpmnfaaANumberSame
import Derived.Test.YtelkjbacdpmnfaaAPlainAut
import Derived.Test.YtelkjbacdpmnfaaAPlainBase
import Derived.Test.YtelkjbacdpmnfaaAPlainDbl
import Derived.Test.YtelkjbacdpmnfaaAPlainGood
import Derived.Test.YtelkjbacdpmnfaaAPlainRowOf
import Derived.Test.YtelkjbacdpmnfaaASubsetTakes
import Derived.Test.YtelkjbacdpmnfaaAThompsonGood
import Derived.Test.YtelkjbacdpmnfaaAWordsA
import Derived.Test.YtelkjbacdpmnfaaAWordsB
namespace Go.Proofs.Ytelkjbacdpmnfaa.A
open Go.RowKit Go.Proofs.YtelkjbacdpmnfaaW.PrintWords Go.Proofs.YtelkjbacdpmnfaaW.PrintLast Go.Proofs.YtelkjbacdpmnfaaW.PrintMore
attribute [local go_sem] max2_int min2_int max_two min_two max_three min_three max_four min_four   -- for this text's walks alone
set_option linter.unusedVariables false
set_option linter.unusedSimpArgs false

/-! the walk of NumberCanon (printed by gen_ncanon.py) -/
set_option maxHeartbeats 8000000 in
set_option maxRecDepth 100000 in
theorem ncanon_short0 (k0 k1 kw : Nat) (a0_0 : Int) (A0_1 : Option Addr) (c0_1 : Nat) (l0_1 : List (List Int)) (A0_2 : Option Addr) (c0_2 : Nat) (l0_2 : List Bool) (A1 : Option Addr) (c1 : Nat) (l1 : List Int) (A2 : Option Addr) (c2 : Nat) (l2 : List Int) (w : World) (hr0_1 : Kd.C (Kd.slice 3 (Kd.int .i64)) w A0_1 l0_1.length l0_1) (hc0_1 : l0_1.length ≤ c0_1) (hr0_2 : Kd.C Kd.bool w A0_2 l0_2.length l0_2) (hc0_2 : l0_2.length ≤ c0_2) (hr1 : Kd.C (Kd.int .u8) w A1 l1.length l1) (hc1 : l1.length ≤ c1) (hr2 : Kd.C (Kd.int .u8) w A2 l2.length l2) (hc2 : l2.length ≤ c2) (h0 : caesuralaw21_Light.f k0 a0_0 l0_1 l0_2 = some false)  (hw : caesuralaw22_wakes.f kw = some true) :
  Calls Try.prog 18 #[.agg #[.int .i64 a0_0, .slice A0_1 l0_1.length c0_1, .slice A0_2 l0_2.length c0_2], .slice A1 l1.length c1, .slice A2 l2.length c2] w fun e w' => e = .returned (.bool true) ∧ Below w.heap.size w w' := by
 have hu25 := Try.underlying25
 have hu45 := Try.underlying45
 have hu22 := Try.underlying22
 have hu23 := Try.underlying23
 have HR0_1 := Aside0.mk hr0_1
 have HR0_2 := Aside0.mk hr0_2
 clear hr0_1 hr0_2
 clear hr1 hr2
 have Zl0 := Aside0.mk h0
 clear h0
 have ZW := Aside0.mk hw
 clear hw
 obtain ⟨c1_, c2_, c3_⟩ := cells3 (show (w.alloc (.cells #[.int .i64 a0_0, .slice A0_1 l0_1.length c0_1, .slice A0_2 l0_2.length c0_2] 25)).heap[w.heap.size]? = some (.cells #[.int .i64 a0_0, .slice A0_1 l0_1.length c0_1, .slice A0_2 l0_2.length c0_2] 25 (0, 0)) from new_at _ (by simp))
 go_enter Try.func18, Try.ntmps18
 go_wp2_with (first | (go_at_call 46; have hF_ := Zl0.out; clear Zl0; (try clear c1_ c2_ c3_); refine calls_new (v := w) (F := fun W => W.heap[w.heap.size]? = some (.cells #[.int .i64 a0_0, .slice A0_1 l0_1.length c0_1, .slice A0_2 l0_2.length c0_2] 25 (0, 0))) (below_alloc (Below.refl _ _) (.cells #[.int .i64 a0_0, .slice A0_1 l0_1.length c0_1, .slice A0_2 l0_2.length c0_2] 25)) (new_at _ (by simp)) (fun w4_ b_ f_ => ?_); have S5_ := Aside0.mk b_; have K6_ := Aside0.mk f_; clear b_ f_; refine (caesuralaw21_Light.calls k0  a0_0 A0_1 c0_1 l0_1 A0_2 c0_2 l0_2  false _ (Kd.C_below (HR0_1.out) (S5_.out)) hc0_1 (Kd.C_below (HR0_2.out) (S5_.out)) hc0_2  hF_).mono ?_; clear hF_; rintro e w7_ ⟨rfl, hb_⟩; have S8_ := Aside0.mk hb_; clear hb_) | (go_at_call 63; have hF_ := ZW.out; clear ZW; refine (caesuralaw22_wakes.calls kw    true _   hF_).mono ?_; clear hF_; rintro e w9_ ⟨rfl, hb_⟩; have S10_ := Aside0.mk hb_; clear hb_))
 go_ret
 exact ⟨rfl, below_step (below_step (S5_.out) S8_.out) S10_.out⟩
set_option maxHeartbeats 8000000 in
set_option maxRecDepth 100000 in
theorem ncanon_short1 (k0 k1 kw : Nat) (a0_0 : Int) (A0_1 : Option Addr) (c0_1 : Nat) (l0_1 : List (List Int)) (A0_2 : Option Addr) (c0_2 : Nat) (l0_2 : List Bool) (A1 : Option Addr) (c1 : Nat) (l1 : List Int) (A2 : Option Addr) (c2 : Nat) (l2 : List Int) (w : World) (hr0_1 : Kd.C (Kd.slice 3 (Kd.int .i64)) w A0_1 l0_1.length l0_1) (hc0_1 : l0_1.length ≤ c0_1) (hr0_2 : Kd.C Kd.bool w A0_2 l0_2.length l0_2) (hc0_2 : l0_2.length ≤ c0_2) (hr1 : Kd.C (Kd.int .u8) w A1 l1.length l1) (hc1 : l1.length ≤ c1) (hr2 : Kd.C (Kd.int .u8) w A2 l2.length l2) (hc2 : l2.length ≤ c2) (h0 : caesuralaw21_Light.f k0 a0_0 l0_1 l0_2 = some true) (h1 : caesuraref19_Good.f k1 a0_0 l0_1 l0_2 = some false)  (hw : caesuralaw22_wakes.f kw = some true) :
  Calls Try.prog 18 #[.agg #[.int .i64 a0_0, .slice A0_1 l0_1.length c0_1, .slice A0_2 l0_2.length c0_2], .slice A1 l1.length c1, .slice A2 l2.length c2] w fun e w' => e = .returned (.bool true) ∧ Below w.heap.size w w' := by
 have hu25 := Try.underlying25
 have hu45 := Try.underlying45
 have hu22 := Try.underlying22
 have hu23 := Try.underlying23
 have HR0_1 := Aside0.mk hr0_1
 have HR0_2 := Aside0.mk hr0_2
 clear hr0_1 hr0_2
 clear hr1 hr2
 have Zl0 := Aside0.mk h0
 clear h0
 have Zg0 := Aside0.mk h1
 clear h1
 have ZW := Aside0.mk hw
 clear hw
 obtain ⟨c1_, c2_, c3_⟩ := cells3 (show (w.alloc (.cells #[.int .i64 a0_0, .slice A0_1 l0_1.length c0_1, .slice A0_2 l0_2.length c0_2] 25)).heap[w.heap.size]? = some (.cells #[.int .i64 a0_0, .slice A0_1 l0_1.length c0_1, .slice A0_2 l0_2.length c0_2] 25 (0, 0)) from new_at _ (by simp))
 go_enter Try.func18, Try.ntmps18
 go_wp2_with (first | (go_at_call 46; have hF_ := Zl0.out; clear Zl0; (try clear c1_ c2_ c3_); refine calls_new (v := w) (F := fun W => W.heap[w.heap.size]? = some (.cells #[.int .i64 a0_0, .slice A0_1 l0_1.length c0_1, .slice A0_2 l0_2.length c0_2] 25 (0, 0))) (below_alloc (Below.refl _ _) (.cells #[.int .i64 a0_0, .slice A0_1 l0_1.length c0_1, .slice A0_2 l0_2.length c0_2] 25)) (new_at _ (by simp)) (fun w4_ b_ f_ => ?_); have S5_ := Aside0.mk b_; have K6_ := Aside0.mk f_; clear b_ f_; refine (caesuralaw21_Light.calls k0  a0_0 A0_1 c0_1 l0_1 A0_2 c0_2 l0_2  true _ (Kd.C_below (HR0_1.out) (S5_.out)) hc0_1 (Kd.C_below (HR0_2.out) (S5_.out)) hc0_2  hF_).mono ?_; clear hF_; rintro e w7_ ⟨rfl, hb_⟩; have S8_ := Aside0.mk hb_; clear hb_; obtain ⟨c9_, c10_, c11_⟩ := cells3 (blk_below K6_.out (S8_.out))) | (go_at_call 37; have hF_ := Zg0.out; clear Zg0; (try clear c9_ c10_ c11_); refine (caesuraref19_Good.calls k1  a0_0 A0_1 c0_1 l0_1 A0_2 c0_2 l0_2  false _ (Kd.C_below (HR0_1.out) (below_step (S5_.out) S8_.out)) hc0_1 (Kd.C_below (HR0_2.out) (below_step (S5_.out) S8_.out)) hc0_2  hF_).mono ?_; clear hF_; rintro e w12_ ⟨rfl, hb_⟩; have S13_ := Aside0.mk hb_; clear hb_) | (go_at_call 63; have hF_ := ZW.out; clear ZW; refine (caesuralaw22_wakes.calls kw    true _   hF_).mono ?_; clear hF_; rintro e w14_ ⟨rfl, hb_⟩; have S15_ := Aside0.mk hb_; clear hb_))
 go_ret
 exact ⟨rfl, below_step (below_step (below_step (S5_.out) S8_.out) S13_.out) S15_.out⟩
set_option maxHeartbeats 8000000 in
set_option maxRecDepth 100000 in
theorem ncanon_short2 (k0 k1 kw : Nat) (a0_0 : Int) (A0_1 : Option Addr) (c0_1 : Nat) (l0_1 : List (List Int)) (A0_2 : Option Addr) (c0_2 : Nat) (l0_2 : List Bool) (A1 : Option Addr) (c1 : Nat) (l1 : List Int) (A2 : Option Addr) (c2 : Nat) (l2 : List Int) (w : World) (hr0_1 : Kd.C (Kd.slice 3 (Kd.int .i64)) w A0_1 l0_1.length l0_1) (hc0_1 : l0_1.length ≤ c0_1) (hr0_2 : Kd.C Kd.bool w A0_2 l0_2.length l0_2) (hc0_2 : l0_2.length ≤ c0_2) (hr1 : Kd.C (Kd.int .u8) w A1 l1.length l1) (hc1 : l1.length ≤ c1) (hr2 : Kd.C (Kd.int .u8) w A2 l2.length l2) (hc2 : l2.length ≤ c2) (h0 : caesuralaw21_Light.f k0 a0_0 l0_1 l0_2 = some true) (h1 : caesuraref19_Good.f k1 a0_0 l0_1 l0_2 = some true) (h5 : (l0_1.length : Int) > 20) (hw : caesuralaw22_wakes.f kw = some true) :
  Calls Try.prog 18 #[.agg #[.int .i64 a0_0, .slice A0_1 l0_1.length c0_1, .slice A0_2 l0_2.length c0_2], .slice A1 l1.length c1, .slice A2 l2.length c2] w fun e w' => e = .returned (.bool true) ∧ Below w.heap.size w w' := by
 have hu25 := Try.underlying25
 have hu45 := Try.underlying45
 have hu22 := Try.underlying22
 have hu23 := Try.underlying23
 have HR0_1 := Aside0.mk hr0_1
 have HR0_2 := Aside0.mk hr0_2
 clear hr0_1 hr0_2
 clear hr1 hr2
 have Zl0 := Aside0.mk h0
 clear h0
 have Zg0 := Aside0.mk h1
 clear h1
 have ZW := Aside0.mk hw
 clear hw
 have b0_ : ((l0_1.length : Int) > 20) = True := eq_true (h5)
 have b0d_ : decide ((l0_1.length : Int) > 20) = true := decide_eq_true (h5)
 have c0_ : (20 < (l0_1.length : Int)) = True := eq_true (h5)
 have c0d_ : decide (20 < (l0_1.length : Int)) = true := decide_eq_true (h5)
 have d0_ : (20 < l0_1.length) = True := eq_true (by omega)
 have d0d_ : decide (20 < l0_1.length) = true := decide_eq_true (by omega)
 clear h5
 obtain ⟨c1_, c2_, c3_⟩ := cells3 (show (w.alloc (.cells #[.int .i64 a0_0, .slice A0_1 l0_1.length c0_1, .slice A0_2 l0_2.length c0_2] 25)).heap[w.heap.size]? = some (.cells #[.int .i64 a0_0, .slice A0_1 l0_1.length c0_1, .slice A0_2 l0_2.length c0_2] 25 (0, 0)) from new_at _ (by simp))
 go_enter Try.func18, Try.ntmps18
 go_wp2_with (first | (go_at_call 46; have hF_ := Zl0.out; clear Zl0; (try clear c1_ c2_ c3_); refine calls_new (v := w) (F := fun W => W.heap[w.heap.size]? = some (.cells #[.int .i64 a0_0, .slice A0_1 l0_1.length c0_1, .slice A0_2 l0_2.length c0_2] 25 (0, 0))) (below_alloc (Below.refl _ _) (.cells #[.int .i64 a0_0, .slice A0_1 l0_1.length c0_1, .slice A0_2 l0_2.length c0_2] 25)) (new_at _ (by simp)) (fun w4_ b_ f_ => ?_); have S5_ := Aside0.mk b_; have K6_ := Aside0.mk f_; clear b_ f_; refine (caesuralaw21_Light.calls k0  a0_0 A0_1 c0_1 l0_1 A0_2 c0_2 l0_2  true _ (Kd.C_below (HR0_1.out) (S5_.out)) hc0_1 (Kd.C_below (HR0_2.out) (S5_.out)) hc0_2  hF_).mono ?_; clear hF_; rintro e w7_ ⟨rfl, hb_⟩; have S8_ := Aside0.mk hb_; clear hb_; obtain ⟨c9_, c10_, c11_⟩ := cells3 (blk_below K6_.out (S8_.out))) | (go_at_call 37; have hF_ := Zg0.out; clear Zg0; (try clear c9_ c10_ c11_); refine (caesuraref19_Good.calls k1  a0_0 A0_1 c0_1 l0_1 A0_2 c0_2 l0_2  true _ (Kd.C_below (HR0_1.out) (below_step (S5_.out) S8_.out)) hc0_1 (Kd.C_below (HR0_2.out) (below_step (S5_.out) S8_.out)) hc0_2  hF_).mono ?_; clear hF_; rintro e w12_ ⟨rfl, hb_⟩; have S13_ := Aside0.mk hb_; clear hb_; obtain ⟨c14_, c15_, c16_⟩ := cells3 (blk_below K6_.out (below_step (S8_.out) S13_.out))) | (go_at_call 63; have hF_ := ZW.out; clear ZW; (try clear c14_ c15_ c16_); refine (caesuralaw22_wakes.calls kw    true _   hF_).mono ?_; clear hF_; rintro e w17_ ⟨rfl, hb_⟩; have S18_ := Aside0.mk hb_; clear hb_))
 go_ret
 exact ⟨rfl, below_step (below_step (below_step (S5_.out) S8_.out) S13_.out) S18_.out⟩
set_option maxHeartbeats 8000000 in
set_option maxRecDepth 100000 in
theorem ncanon_short3 (k0 k1 kw : Nat) (a0_0 : Int) (A0_1 : Option Addr) (c0_1 : Nat) (l0_1 : List (List Int)) (A0_2 : Option Addr) (c0_2 : Nat) (l0_2 : List Bool) (A1 : Option Addr) (c1 : Nat) (l1 : List Int) (A2 : Option Addr) (c2 : Nat) (l2 : List Int) (w : World) (hr0_1 : Kd.C (Kd.slice 3 (Kd.int .i64)) w A0_1 l0_1.length l0_1) (hc0_1 : l0_1.length ≤ c0_1) (hr0_2 : Kd.C Kd.bool w A0_2 l0_2.length l0_2) (hc0_2 : l0_2.length ≤ c0_2) (hr1 : Kd.C (Kd.int .u8) w A1 l1.length l1) (hc1 : l1.length ≤ c1) (hr2 : Kd.C (Kd.int .u8) w A2 l2.length l2) (hc2 : l2.length ≤ c2) (h0 : caesuralaw21_Light.f k0 a0_0 l0_1 l0_2 = some true) (h1 : caesuraref19_Good.f k1 a0_0 l0_1 l0_2 = some true) (h5 : ¬ (l0_1.length : Int) > 20) (h6 : (l1.length : Int) > 300) (hw : caesuralaw22_wakes.f kw = some true) :
  Calls Try.prog 18 #[.agg #[.int .i64 a0_0, .slice A0_1 l0_1.length c0_1, .slice A0_2 l0_2.length c0_2], .slice A1 l1.length c1, .slice A2 l2.length c2] w fun e w' => e = .returned (.bool true) ∧ Below w.heap.size w w' := by
 have hu25 := Try.underlying25
 have hu45 := Try.underlying45
 have hu22 := Try.underlying22
 have hu23 := Try.underlying23
 have HR0_1 := Aside0.mk hr0_1
 have HR0_2 := Aside0.mk hr0_2
 clear hr0_1 hr0_2
 clear hr1 hr2
 have Zl0 := Aside0.mk h0
 clear h0
 have Zg0 := Aside0.mk h1
 clear h1
 have ZW := Aside0.mk hw
 clear hw
 have b0_ : ((l0_1.length : Int) > 20) = False := eq_false (h5)
 have b0d_ : decide ((l0_1.length : Int) > 20) = false := decide_eq_false (h5)
 have c0_ : (20 < (l0_1.length : Int)) = False := eq_false (h5)
 have c0d_ : decide (20 < (l0_1.length : Int)) = false := decide_eq_false (h5)
 have d0_ : (20 < l0_1.length) = False := eq_false (by omega)
 have d0d_ : decide (20 < l0_1.length) = false := decide_eq_false (by omega)
 have b1_ : ((l1.length : Int) > 300) = True := eq_true (h6)
 have b1d_ : decide ((l1.length : Int) > 300) = true := decide_eq_true (h6)
 have c1_ : (300 < (l1.length : Int)) = True := eq_true (h6)
 have c1d_ : decide (300 < (l1.length : Int)) = true := decide_eq_true (h6)
 have d1_ : (300 < l1.length) = True := eq_true (by omega)
 have d1d_ : decide (300 < l1.length) = true := decide_eq_true (by omega)
 clear h5
 clear h6
 obtain ⟨c1_, c2_, c3_⟩ := cells3 (show (w.alloc (.cells #[.int .i64 a0_0, .slice A0_1 l0_1.length c0_1, .slice A0_2 l0_2.length c0_2] 25)).heap[w.heap.size]? = some (.cells #[.int .i64 a0_0, .slice A0_1 l0_1.length c0_1, .slice A0_2 l0_2.length c0_2] 25 (0, 0)) from new_at _ (by simp))
 go_enter Try.func18, Try.ntmps18
 go_wp2_with (first | (go_at_call 46; have hF_ := Zl0.out; clear Zl0; (try clear c1_ c2_ c3_); refine calls_new (v := w) (F := fun W => W.heap[w.heap.size]? = some (.cells #[.int .i64 a0_0, .slice A0_1 l0_1.length c0_1, .slice A0_2 l0_2.length c0_2] 25 (0, 0))) (below_alloc (Below.refl _ _) (.cells #[.int .i64 a0_0, .slice A0_1 l0_1.length c0_1, .slice A0_2 l0_2.length c0_2] 25)) (new_at _ (by simp)) (fun w4_ b_ f_ => ?_); have S5_ := Aside0.mk b_; have K6_ := Aside0.mk f_; clear b_ f_; refine (caesuralaw21_Light.calls k0  a0_0 A0_1 c0_1 l0_1 A0_2 c0_2 l0_2  true _ (Kd.C_below (HR0_1.out) (S5_.out)) hc0_1 (Kd.C_below (HR0_2.out) (S5_.out)) hc0_2  hF_).mono ?_; clear hF_; rintro e w7_ ⟨rfl, hb_⟩; have S8_ := Aside0.mk hb_; clear hb_; obtain ⟨c9_, c10_, c11_⟩ := cells3 (blk_below K6_.out (S8_.out))) | (go_at_call 37; have hF_ := Zg0.out; clear Zg0; (try clear c9_ c10_ c11_); refine (caesuraref19_Good.calls k1  a0_0 A0_1 c0_1 l0_1 A0_2 c0_2 l0_2  true _ (Kd.C_below (HR0_1.out) (below_step (S5_.out) S8_.out)) hc0_1 (Kd.C_below (HR0_2.out) (below_step (S5_.out) S8_.out)) hc0_2  hF_).mono ?_; clear hF_; rintro e w12_ ⟨rfl, hb_⟩; have S13_ := Aside0.mk hb_; clear hb_; obtain ⟨c14_, c15_, c16_⟩ := cells3 (blk_below K6_.out (below_step (S8_.out) S13_.out))) | (go_at_call 63; have hF_ := ZW.out; clear ZW; (try clear c14_ c15_ c16_); refine (caesuralaw22_wakes.calls kw    true _   hF_).mono ?_; clear hF_; rintro e w17_ ⟨rfl, hb_⟩; have S18_ := Aside0.mk hb_; clear hb_))
 go_ret
 exact ⟨rfl, below_step (below_step (below_step (S5_.out) S8_.out) S13_.out) S18_.out⟩
set_option maxHeartbeats 8000000 in
set_option maxRecDepth 100000 in
theorem ncanon_short4 (k0 k1 kw : Nat) (a0_0 : Int) (A0_1 : Option Addr) (c0_1 : Nat) (l0_1 : List (List Int)) (A0_2 : Option Addr) (c0_2 : Nat) (l0_2 : List Bool) (A1 : Option Addr) (c1 : Nat) (l1 : List Int) (A2 : Option Addr) (c2 : Nat) (l2 : List Int) (w : World) (hr0_1 : Kd.C (Kd.slice 3 (Kd.int .i64)) w A0_1 l0_1.length l0_1) (hc0_1 : l0_1.length ≤ c0_1) (hr0_2 : Kd.C Kd.bool w A0_2 l0_2.length l0_2) (hc0_2 : l0_2.length ≤ c0_2) (hr1 : Kd.C (Kd.int .u8) w A1 l1.length l1) (hc1 : l1.length ≤ c1) (hr2 : Kd.C (Kd.int .u8) w A2 l2.length l2) (hc2 : l2.length ≤ c2) (h0 : caesuralaw21_Light.f k0 a0_0 l0_1 l0_2 = some true) (h1 : caesuraref19_Good.f k1 a0_0 l0_1 l0_2 = some true) (h5 : ¬ (l0_1.length : Int) > 20) (h6 : ¬ (l1.length : Int) > 300) (h7 : (l2.length : Int) > 40) (hw : caesuralaw22_wakes.f kw = some true) :
  Calls Try.prog 18 #[.agg #[.int .i64 a0_0, .slice A0_1 l0_1.length c0_1, .slice A0_2 l0_2.length c0_2], .slice A1 l1.length c1, .slice A2 l2.length c2] w fun e w' => e = .returned (.bool true) ∧ Below w.heap.size w w' := by
 have hu25 := Try.underlying25
 have hu45 := Try.underlying45
 have hu22 := Try.underlying22
 have hu23 := Try.underlying23
 have HR0_1 := Aside0.mk hr0_1
 have HR0_2 := Aside0.mk hr0_2
 clear hr0_1 hr0_2
 clear hr1 hr2
 have Zl0 := Aside0.mk h0
 clear h0
 have Zg0 := Aside0.mk h1
 clear h1
 have ZW := Aside0.mk hw
 clear hw
 have b0_ : ((l0_1.length : Int) > 20) = False := eq_false (h5)
 have b0d_ : decide ((l0_1.length : Int) > 20) = false := decide_eq_false (h5)
 have c0_ : (20 < (l0_1.length : Int)) = False := eq_false (h5)
 have c0d_ : decide (20 < (l0_1.length : Int)) = false := decide_eq_false (h5)
 have d0_ : (20 < l0_1.length) = False := eq_false (by omega)
 have d0d_ : decide (20 < l0_1.length) = false := decide_eq_false (by omega)
 have b1_ : ((l1.length : Int) > 300) = False := eq_false (h6)
 have b1d_ : decide ((l1.length : Int) > 300) = false := decide_eq_false (h6)
 have c1_ : (300 < (l1.length : Int)) = False := eq_false (h6)
 have c1d_ : decide (300 < (l1.length : Int)) = false := decide_eq_false (h6)
 have d1_ : (300 < l1.length) = False := eq_false (by omega)
 have d1d_ : decide (300 < l1.length) = false := decide_eq_false (by omega)
 have b2_ : ((l2.length : Int) > 40) = True := eq_true (h7)
 have b2d_ : decide ((l2.length : Int) > 40) = true := decide_eq_true (h7)
 have c2_ : (40 < (l2.length : Int)) = True := eq_true (h7)
 have c2d_ : decide (40 < (l2.length : Int)) = true := decide_eq_true (h7)
 have d2_ : (40 < l2.length) = True := eq_true (by omega)
 have d2d_ : decide (40 < l2.length) = true := decide_eq_true (by omega)
 clear h5
 clear h6
 clear h7
 obtain ⟨c1_, c2_, c3_⟩ := cells3 (show (w.alloc (.cells #[.int .i64 a0_0, .slice A0_1 l0_1.length c0_1, .slice A0_2 l0_2.length c0_2] 25)).heap[w.heap.size]? = some (.cells #[.int .i64 a0_0, .slice A0_1 l0_1.length c0_1, .slice A0_2 l0_2.length c0_2] 25 (0, 0)) from new_at _ (by simp))
 go_enter Try.func18, Try.ntmps18
 go_wp2_with (first | (go_at_call 46; have hF_ := Zl0.out; clear Zl0; (try clear c1_ c2_ c3_); refine calls_new (v := w) (F := fun W => W.heap[w.heap.size]? = some (.cells #[.int .i64 a0_0, .slice A0_1 l0_1.length c0_1, .slice A0_2 l0_2.length c0_2] 25 (0, 0))) (below_alloc (Below.refl _ _) (.cells #[.int .i64 a0_0, .slice A0_1 l0_1.length c0_1, .slice A0_2 l0_2.length c0_2] 25)) (new_at _ (by simp)) (fun w4_ b_ f_ => ?_); have S5_ := Aside0.mk b_; have K6_ := Aside0.mk f_; clear b_ f_; refine (caesuralaw21_Light.calls k0  a0_0 A0_1 c0_1 l0_1 A0_2 c0_2 l0_2  true _ (Kd.C_below (HR0_1.out) (S5_.out)) hc0_1 (Kd.C_below (HR0_2.out) (S5_.out)) hc0_2  hF_).mono ?_; clear hF_; rintro e w7_ ⟨rfl, hb_⟩; have S8_ := Aside0.mk hb_; clear hb_; obtain ⟨c9_, c10_, c11_⟩ := cells3 (blk_below K6_.out (S8_.out))) | (go_at_call 37; have hF_ := Zg0.out; clear Zg0; (try clear c9_ c10_ c11_); refine (caesuraref19_Good.calls k1  a0_0 A0_1 c0_1 l0_1 A0_2 c0_2 l0_2  true _ (Kd.C_below (HR0_1.out) (below_step (S5_.out) S8_.out)) hc0_1 (Kd.C_below (HR0_2.out) (below_step (S5_.out) S8_.out)) hc0_2  hF_).mono ?_; clear hF_; rintro e w12_ ⟨rfl, hb_⟩; have S13_ := Aside0.mk hb_; clear hb_; obtain ⟨c14_, c15_, c16_⟩ := cells3 (blk_below K6_.out (below_step (S8_.out) S13_.out))) | (go_at_call 63; have hF_ := ZW.out; clear ZW; (try clear c14_ c15_ c16_); refine (caesuralaw22_wakes.calls kw    true _   hF_).mono ?_; clear hF_; rintro e w17_ ⟨rfl, hb_⟩; have S18_ := Aside0.mk hb_; clear hb_))
 go_ret
 exact ⟨rfl, below_step (below_step (below_step (S5_.out) S8_.out) S13_.out) S18_.out⟩
def ncanon.T13 : Bool × List (List Nat × List Nat) := (true, [([], []), ([0], [0]), ([], []), ([], []), ([2, 3], [2, 3]), ([1, 4], [1, 4]), ([5], [5]), ([], []), ([6, 7], [6, 7]), ([8], [8]), ([9, 0, 1, 2, 3, 4, 5, 6, 7, 8, 9], [9])])
def ncanon.B13 : List Nat := [0, 1, 0, 0, 12, 31, 63, 0, 255, 511, 1023]
theorem ncanon.tab13 : rtab .any (opsOf Try.f18 13) = ncanon.T13 := by kernel_rfl
theorem ncanon.bits13 : waitsOk ncanon.T13.2 ncanon.B13 = true := by kernel_rfl
def ncanon.T19 : Bool × List (List Nat × List Nat) := (true, [([], []), ([0], [0]), ([], []), ([2], [2]), ([], []), ([], []), ([4, 5], [4, 5]), ([3, 6], [3, 6]), ([7], [7]), ([8], [8]), ([1, 9], [1, 9]), ([0, 1, 2, 3, 4, 5, 6, 7, 8, 9, 10], []), ([11, 10, 10, 0, 1, 2, 3, 4, 5, 6, 7, 8, 9, 10], [10, 11])])
def ncanon.B19 : List Nat := [0, 1, 0, 4, 0, 0, 48, 124, 252, 508, 1023, 2047, 4095]
theorem ncanon.tab19 : rtab .any (opsOf Try.f18 19) = ncanon.T19 := by kernel_rfl
theorem ncanon.bits19 : waitsOk ncanon.T19.2 ncanon.B19 = true := by kernel_rfl
def ncanon.T29 : Bool × List (List Nat × List Nat) := (true, [([], []), ([], []), ([], []), ([1, 2], [1, 2]), ([3], [3]), ([4], [4]), ([], []), ([6], [6]), ([5, 7], [5, 7]), ([8], [8]), ([0, 9], [0, 9]), ([10, 10, 0, 1, 2, 3, 4, 5, 6, 7, 8, 9, 10], [0, 10])])
def ncanon.B29 : List Nat := [0, 0, 0, 6, 14, 30, 0, 64, 254, 510, 1023, 2047]
theorem ncanon.tab29 : rtab .any (opsOf Try.f18 29) = ncanon.T29 := by kernel_rfl
theorem ncanon.bits29 : waitsOk ncanon.T29.2 ncanon.B29 = true := by kernel_rfl
def ncanon.T30 : Bool × List (List Nat × List Nat) := (true, [([], []), ([], []), ([0, 1], [0, 1]), ([], []), ([], []), ([3, 4, 2], [3, 4]), ([2, 5], [2, 5]), ([6, 5], [6]), ([7], [7]), ([7], [7]), ([8, 9, 7, 7], [7, 8, 9]), ([7], [7]), ([7], [7]), ([11, 12, 10, 7], [7, 11, 12]), ([10, 13, 7], [7, 10, 13]), ([7, 14], [7, 14]), ([15, 13], [15]), ([16, 16], [16]), ([16, 17], [16, 17]), ([18, 17, 0, 1, 2, 3, 4, 5, 6, 7, 8, 9, 10, 11, 12, 13, 14, 15, 16, 17, 18], [18])])
def ncanon.B30 : List Nat := [0, 0, 3, 0, 0, 31, 63, 127, 255, 255, 1023, 255, 255, 8191, 16383, 32767, 65535, 131071, 262143, 524287]
theorem ncanon.tab30 : rtab .any (opsOf Try.f18 30) = ncanon.T30 := by kernel_rfl
theorem ncanon.bits30 : waitsOk ncanon.T30.2 ncanon.B30 = true := by kernel_rfl
set_option maxHeartbeats 8000000 in
set_option maxRecDepth 100000 in
theorem ncanon_main (k0 k1 kw q1 q2 q3 q4 p0 p1 p2 : Nat) (a0_0 : Int) (A0_1 : Option Addr) (c0_1 : Nat) (l0_1 : List (List Int)) (A0_2 : Option Addr) (c0_2 : Nat) (l0_2 : List Bool) (A1 : Option Addr) (c1 : Nat) (l1 : List Int) (A2 : Option Addr) (c2 : Nat) (l2 : List Int) (X : List (List Int)) (Y : List Bool) (tx : Bool) (w : World) (hr0_1 : Kd.C (Kd.slice 3 (Kd.int .i64)) w A0_1 l0_1.length l0_1) (hc0_1 : l0_1.length ≤ c0_1) (hr0_2 : Kd.C Kd.bool w A0_2 l0_2.length l0_2) (hc0_2 : l0_2.length ≤ c0_2) (hr1 : Kd.C (Kd.int .u8) w A1 l1.length l1) (hc1 : l1.length ≤ c1) (hr2 : Kd.C (Kd.int .u8) w A2 l2.length l2) (hc2 : l2.length ≤ c2) (h0 : caesuralaw21_Light.f k0 a0_0 l0_1 l0_2 = some true) (h1 : caesuraref19_Good.f k1 a0_0 l0_1 l0_2 = some true) (hg : goodB a0_0 l0_1 l0_2 = true) (h5 : ¬ (l0_1.length : Int) > 20) (h6 : ¬ (l1.length : Int) > 300) (h7 : ¬ (l2.length : Int) > 40) (hwl1 : ∀ y ∈ l1, (Lit.int .u8 y).wf = true) (hwl2 : ∀ y ∈ l2, (Lit.int .u8 y).wf = true) (hw : caesuralaw22_wakes.f kw = some true) (e1 : number_Canon.f q1 a0_0 l0_1 l0_2 = some (a0_0, X, Y, true)) (e2 : number_Canon.f q2 a0_0 (dblNext a0_0.toNat l0_1 l1 (2 * l0_1.length)) (dblAcc l0_1.length l0_2 (2 * l0_1.length)) = some (a0_0, X, Y, true)) (e3 : number_Canon.f q3 a0_0 X Y = some (a0_0, X, Y, true)) (s1 : number_Same.f a0_0 X Y a0_0 X Y = some true) (s3 : number_Alike.f q4 a0_0 l0_1 l0_2 a0_0 (dblNext a0_0.toNat l0_1 l1 (2 * l0_1.length)) (dblAcc l0_1.length l0_2 (2 * l0_1.length)) = some true) (t0 : subset_Takes.f p0 a0_0 l0_1 l0_2 (castL (rowW a0_0 l2)) = some tx) (t1 : subset_Takes.f p1 a0_0 X Y (castL (rowW a0_0 l2)) = some tx) (t2 : subset_Takes.f p2 a0_0 (dblNext a0_0.toNat l0_1 l1 (2 * l0_1.length)) (dblAcc l0_1.length l0_2 (2 * l0_1.length)) (castL (rowW a0_0 l2)) = some tx) :
  Calls Try.prog 18 #[.agg #[.int .i64 a0_0, .slice A0_1 l0_1.length c0_1, .slice A0_2 l0_2.length c0_2], .slice A1 l1.length c1, .slice A2 l2.length c2] w fun e w' => e = .returned (.bool true) ∧ Below w.heap.size w w' := by
 have hu25 := Try.underlying25
 have hu45 := Try.underlying45
 have hu22 := Try.underlying22
 have hu23 := Try.underlying23
 have hu44 := Try.underlying44
 have HR0_1 := Aside0.mk hr0_1
 have HR0_2 := Aside0.mk hr0_2
 clear hr0_1 hr0_2
 have HT1 := Aside0.mk hr1
 have HRR := Aside0.mk hr2
 clear hr1 hr2
 have Zl0 := Aside0.mk h0
 have Zg0 := Aside0.mk h1
 have ZW := Aside0.mk hw
 have HA := Aside0.mk (Aut.of hg)
 have ZA1 : Aside0 (1 ≤ a0_0) := ⟨(Aut.of hg).a1⟩
 have ZWL1 := Aside0.mk hwl1
 have ZWL := Aside0.mk hwl2
 clear h0 h1 hw hg hwl1 hwl2
 have Ze1 := Aside0.mk e1
 clear e1
 have Ze2 := Aside0.mk e2
 clear e2
 have Ze3 := Aside0.mk e3
 clear e3
 have Zs1 := Aside0.mk s1
 clear s1
 have Zs3 := Aside0.mk s3
 clear s3
 have Zt0 := Aside0.mk t0
 clear t0
 have Zt1 := Aside0.mk t1
 clear t1
 have Zt2 := Aside0.mk t2
 clear t2
 have Zs2 := Zs1
 have b0_ : ((l0_1.length : Int) > 20) = False := eq_false (h5)
 have b0d_ : decide ((l0_1.length : Int) > 20) = false := decide_eq_false (h5)
 have c0_ : (20 < (l0_1.length : Int)) = False := eq_false (h5)
 have c0d_ : decide (20 < (l0_1.length : Int)) = false := decide_eq_false (h5)
 have d0_ : (20 < l0_1.length) = False := eq_false (by omega)
 have d0d_ : decide (20 < l0_1.length) = false := decide_eq_false (by omega)
 have b1_ : ((l1.length : Int) > 300) = False := eq_false (h6)
 have b1d_ : decide ((l1.length : Int) > 300) = false := decide_eq_false (h6)
 have c1_ : (300 < (l1.length : Int)) = False := eq_false (h6)
 have c1d_ : decide (300 < (l1.length : Int)) = false := decide_eq_false (h6)
 have d1_ : (300 < l1.length) = False := eq_false (by omega)
 have d1d_ : decide (300 < l1.length) = false := decide_eq_false (by omega)
 have b2_ : ((l2.length : Int) > 40) = False := eq_false (h7)
 have b2d_ : decide ((l2.length : Int) > 40) = false := decide_eq_false (h7)
 have c2_ : (40 < (l2.length : Int)) = False := eq_false (h7)
 have c2d_ : decide (40 < (l2.length : Int)) = false := decide_eq_false (h7)
 have d2_ : (40 < l2.length) = False := eq_false (by omega)
 have d2d_ : decide (40 < l2.length) = false := decide_eq_false (by omega)
 have HSM : Aside0 (l0_1.length ≤ 20 ∧ l1.length ≤ 300) := ⟨by omega⟩
 have hl60 : l2.length ≤ 60 := by omega
 clear h5 h6 h7
 obtain ⟨c1_, c2_, c3_⟩ := cells3 (show (w.alloc (.cells #[.int .i64 a0_0, .slice A0_1 l0_1.length c0_1, .slice A0_2 l0_2.length c0_2] 25)).heap[w.heap.size]? = some (.cells #[.int .i64 a0_0, .slice A0_1 l0_1.length c0_1, .slice A0_2 l0_2.length c0_2] 25 (0, 0)) from new_at _ (by simp))
 go_enter Try.func18, Try.ntmps18
 go_wp2_with (first | (go_at_call 46; have hF_ := Zl0.out; clear Zl0; (try clear c1_ c2_ c3_); refine calls_new (v := w) (F := fun W => W.heap[w.heap.size]? = some (.cells #[.int .i64 a0_0, .slice A0_1 l0_1.length c0_1, .slice A0_2 l0_2.length c0_2] 25 (0, 0))) (below_alloc (Below.refl _ _) (.cells #[.int .i64 a0_0, .slice A0_1 l0_1.length c0_1, .slice A0_2 l0_2.length c0_2] 25)) (new_at _ (by simp)) (fun w4_ b_ f_ => ?_); have S5_ := Aside0.mk b_; have K6_ := Aside0.mk f_; clear b_ f_; refine (caesuralaw21_Light.calls k0  a0_0 A0_1 c0_1 l0_1 A0_2 c0_2 l0_2  true _ (Kd.C_below (HR0_1.out) (S5_.out)) hc0_1 (Kd.C_below (HR0_2.out) (S5_.out)) hc0_2  hF_).mono ?_; clear hF_; rintro e w7_ ⟨rfl, hb_⟩; have S8_ := Aside0.mk hb_; clear hb_; obtain ⟨c9_, c10_, c11_⟩ := cells3 (blk_below K6_.out (S8_.out))) | (go_at_call 37; have hF_ := Zg0.out; clear Zg0; (try clear c9_ c10_ c11_); refine (caesuraref19_Good.calls k1  a0_0 A0_1 c0_1 l0_1 A0_2 c0_2 l0_2  true _ (Kd.C_below (HR0_1.out) (below_step (S5_.out) S8_.out)) hc0_1 (Kd.C_below (HR0_2.out) (below_step (S5_.out) S8_.out)) hc0_2  hF_).mono ?_; clear hF_; rintro e w12_ ⟨rfl, hb_⟩; have S13_ := Aside0.mk hb_; clear hb_; obtain ⟨c14_, c15_, c16_⟩ := cells3 (blk_below K6_.out (below_step (S8_.out) S13_.out))))
 clear b0_ b0d_ c0_ c0d_ d0_ d0d_ b1_ b1d_ c1_ c1d_ d1_ d1d_ b2_ b2d_ c2_ c2d_ d2_ d2d_
 (try clear c14_ c15_ c16_)
 have HAL := HA.out.a1
 have HAL2 := HA.out.a2
 obtain ⟨L, hL⟩ : ∃ L : Nat, L = a0_0.toNat := ⟨_, rfl⟩
 have haL : (L : Int) = a0_0 := by omega
 have hLs : 1 ≤ L ∧ L ≤ 64 := by omega
 have HLA := Aside0.mk (And.intro hL haL)
 clear HAL HAL2 hL haL
 have hN1 := HA.out.n1
 have hN20 := HSM.out.1
 have HNN := Aside0.mk (And.intro hN1 hN20)
 go_loopw [9, 10] (fun v9 v10 wr => ∃ (i : Nat) (u1 u2 : Value), i ≤ 2 * l0_1.length ∧ v9 = .int .i64 ((i * L : Nat) : Int) ∧ v10 = .int .i64 (i : Int) ∧ Aside0 (wr.heap[w12_.heap.size]? = some (.cells #[.int .i64 a0_0, u1, u2] 25 (0, 0))) ∧ Aside0 (Kd.S (Kd.slice 3 (Kd.int .i64)) 45 wr w12_.heap.size (fun _ => True) u1 (dblNext L l0_1 l1 i)) ∧ Aside0 (Kd.R Kd.bool 4 wr w12_.heap.size (fun _ => True) u2 (dblAcc l0_1.length l0_2 i)) ∧ Aside0 (Below w12_.heap.size w12_ wr)) (fun _ v10 _ => 2 * l0_1.length - (intOf v10).toNat)
 case atStart => exact ⟨0, _, _, Nat.zero_le _, by rw [Nat.zero_mul]; rfl, rfl, ⟨blk_new w12_ _⟩, ⟨Kd.S_nil _ _ _ _ _⟩, ⟨Kd.R_nil _ _ _ _ _⟩, ⟨below_alloc (Below.refl _ _) _⟩⟩
 case round =>
  obtain ⟨i, u1, u2, hi, rfl, rfl, HG, HS, HE, HB⟩ := hrel
  obtain ⟨wq, rfl⟩ : ∃ wq, wq = wr := ⟨wr, rfl⟩
  have hw2 : wrap64 (2 * (l0_1.length : Int)) = ((2 * l0_1.length : Nat) : Int) := by rw [wself (by omega) (by omega)]; omega
  have HW2 := Aside0.mk hw2
  clear hw2
  by_cases hlt : i < 2 * l0_1.length
  ·have q1b : decide ((i : Int) < wrap64 (2 * (l0_1.length : Int))) = true := decide_eq_true (by rw [HW2.out]; omega)
   have q1c : ((i : Int) < wrap64 (2 * (l0_1.length : Int))) = True := eq_true (by rw [HW2.out]; omega)
   have q1d : decide ((i : Int) < 2 * (l0_1.length : Int)) = true := decide_eq_true (by omega)
   have q1e : ((i : Int) < 2 * (l0_1.length : Int)) = True := eq_true (by omega)
   go_wp2
   clear q1b q1c q1d q1e
   obtain ⟨X1, hX1⟩ : ∃ X, X = dblNext L l0_1 l1 i := ⟨_, rfl⟩
   obtain ⟨X2, hX2⟩ : ∃ X, X = dblAcc l0_1.length l0_2 i := ⟨_, rfl⟩
   rw [← hX1] at HS
   rw [← hX2] at HE
   have HXL : Aside0 (X1.length ≤ 1000 ∧ X2.length ≤ 1000) := ⟨by rw [hX1, hX2, dblNext_length, dblAcc_length]; omega⟩
   have HX1 := Aside0.mk hX1
   have HX2 := Aside0.mk hX2
   clear hX1 hX2
   obtain ⟨U1, e1, rfl⟩ := Kd.S_slice HS.out
   obtain ⟨U2, e2, rfl⟩ := Kd.R_slice HE.out
   have HSL := Aside0.mk (Kd.S_lt HS.out)
   have HQS := Aside0.mk HB.out.size
   go_loopw [9, 11, 12] (fun v9 v11 v12 wr => ∃ (c : Nat) (N : List Int), c ≤ L ∧ v9 = .int .i64 ((i * L + c : Nat) : Int) ∧ v12 = .int .i64 (c : Int) ∧ Aside0 (N = dblRow L l0_1 l1 i c) ∧ Aside0 (wr.heap[w12_.heap.size]? = some (.cells #[.int .i64 a0_0, .slice U1 X1.length e1, .slice U2 X2.length e2] 25 (0, 0))) ∧ Aside0 (Kd.S (Kd.slice 3 (Kd.int .i64)) 45 wr w12_.heap.size (fun k_ => k_ < wq.heap.size) (.slice U1 X1.length e1) X1) ∧ Aside0 (Kd.R Kd.bool 4 wr w12_.heap.size (fun _ => True) (.slice U2 X2.length e2) X2) ∧ Aside0 (wq.heap.size ≤ wr.heap.size) ∧ Aside0 (Kd.R (Kd.int .i64) 3 wr w12_.heap.size (fun k_ => wq.heap.size ≤ k_) v11 N) ∧ Aside0 (Below w12_.heap.size w12_ wr)) (fun _ _ v12 _ => L - (intOf v12).toNat)
   case atStart => exact ⟨0, [], Nat.zero_le _, rfl, rfl, ⟨rfl⟩, HG, ⟨Kd.S_mono (Kd.S_bound HS.out) (fun k_ hk_ => hk_.2.2.1)⟩, HE, ⟨Nat.le_refl _⟩, ⟨Kd.R_nil _ _ _ _ _⟩, HB⟩
   case round =>
    clear HG HS HE HB
    obtain ⟨c, N, hc, rfl, rfl, HN, HG, HS, HE, HQZ, HNr, HB⟩ := hrel
    obtain ⟨AT, hAT⟩ : ∃ AT : Nat, AT = i * L + c := ⟨_, rfl⟩
    rw [← hAT]
    have hATl : AT ≤ 10000 := by
     have h_ : i * L ≤ 40 * 64 := Nat.mul_le_mul (by omega) (by omega)
     omega
    have HAT := Aside0.mk hAT
    clear hAT
    obtain ⟨An, cn, rfl⟩ := Kd.R_slice HNr.out
    have hNl : N.length = c := by rw [HN.out]; exact dblRow_length _ _ _
    have HNL := Aside0.mk hNl
    clear hNl
    have k0_ : wr.cell? ⟨w.heap.size, 0, none⟩ = some (.int .i64 a0_0) := (blk_cell (blk_below K6_.out (below_step (below_step (S8_.out) S13_.out) (HB.out))) 0).trans rfl
    rw [← HLA.out.2] at k0_
    by_cases hcl : c < L
    ·have q1b : decide ((c : Int) < (L : Int)) = true := decide_eq_true (by omega)
     obtain ⟨r, hr⟩ : ∃ r : Nat, r = i % l0_1.length := ⟨_, rfl⟩
     have hrl : r < l0_1.length := by rw [hr]; exact Nat.mod_lt _ (by omega)
     have hrem_ : Int.tmod (i : Int) (l0_1.length : Int) = (r : Int) := by rw [hr]; exact tmod_nat i l0_1.length
     have HREM := Aside0.mk hr
     clear hr
     obtain ⟨ad1, Ar1, cr1, e_, hxr1_, -, hCr1_⟩ := at_L5 HR0_1.out (r : Int) (by omega) (by omega)
     cases e_
     rw [rd5_nat] at hxr1_ hCr1_
     rw [Int.toNat_natCast] at hxr1_
     have hl1_ := HA.out.len hrl
     have hs1_ := HA.out.st hrl (c := c) (by rw [← HLA.out.1]; exact hcl)
     obtain ⟨adr, e_, hxe1_⟩ := Kd.at_int hCr1_ (c : Int) (by omega) (by rw [← HLA.out.2] at hl1_; omega)
     cases e_
     rw [rd_nat, hs1_, Int.toNat_natCast] at hxe1_
     rw [← HLA.out.2] at hl1_
     obtain ⟨q, hq⟩ : ∃ q, q = stL l0_1 r c := ⟨_, rfl⟩
     rw [← hq] at hxe1_
     have hsh := HA.out.shuts r c hrl (by rw [← HLA.out.1]; exact hcl)
     rw [← hq] at hsh
     have HQ := Aside0.mk hq
     clear hq hs1_ hCr1_
     obtain ⟨n1, hn1⟩ : ∃ n, n = (l0_1.getD r []).length := ⟨_, rfl⟩
     rw [← hn1] at hxr1_ hl1_
     clear hn1
     have HXR1 := Aside0.mk hxr1_
     have HXE1 := Aside0.mk hxe1_
     clear hxr1_ hxe1_
     have z1_ : ((0 : Int) ≤ (r : Int)) = True := eq_true (by omega)
     have z2_ : ((r : Int) < (l0_1.length : Int)) = True := eq_true (by omega)
     have z5_ : ((0 : Int) ≤ (c : Int)) = True := eq_true (by omega)
     have z6_ : ((c : Int) < (n1 : Int)) = True := eq_true (by omega)
     have z7_ : ((l0_1.length : Int) = 0) = False := eq_false (by omega)
     have z8_ : ((l0_1.length : Int) == 0) = false := beq_eq_false_iff_ne.mpr (by omega)
     have z9_ : (l0_1.length = 0) = False := eq_false (by omega)
     have HL12 := Aside0.mk (And.intro hl1_ hsh)
     clear hl1_ hsh
     go_wp2
     clear k0_
     refine start_ (n := 11) (S := fun w' => Below wr.heap.size wr w') (ds := []) #[false, false, false, false, false, false, false, false, false, false, false] (by kernel_rfl) rfl rfl (below_drew1 (Below.refl _ _)) (fun hHeld => ?_)
     refine with_tabW ncanon.tab13 ncanon.bits13 (fun HT_ HW_ => ?_)
     have HGd := Aside0.mk (blk_drew HG.out)
     have HSd := Aside0.mk (Kd.S_drew HS.out)
     have HEd := Aside0.mk (Kd.R_drew HE.out)
     have HNd := Aside0.mk (Kd.R_drew HNr.out)
     have HBd := Aside0.mk (below_drew1 HB.out)
     have HQD : Aside0 (wq.heap.size ≤ wr.drew.heap.size) := ⟨HQZ.out⟩
     obtain ⟨wd, hwd⟩ : ∃ wd, wd = wr.drew := ⟨_, rfl⟩
     rw [← hwd] at HGd HSd HEd HNd HBd HQD hHeld ⊢
     clear hwd
     refine pure_ (i := 0) (N := some 65) (v := ?_) (a' := ?_) #[true, false, false, false, false, false, false, false, false, false, false] rfl rfl (any_of HT_.out (by kernel_rfl)) (fun _ _ _ h => h) (Or.inl ⟨by rfl, ?_⟩) ?_ ?_
     rotate_left
     ·intro w'
      go_simp
      with_reducible rfl
     rotate_left
     ·simp only [Act.put, List.setIfInBounds_toArray, List.set_cons_zero, List.set_cons_succ, i64_w, i32_w]
      rfl
     refine pure_ (i := 2) (N := some 67) (v := ?_) (a' := ?_) #[true, false, true, false, false, false, false, false, false, false, false] rfl rfl (any_of HT_.out (by kernel_rfl)) (fun _ _ _ h => h) (Or.inl ⟨by rfl, ?_⟩) ?_ ?_
     rotate_left
     ·intro w'
      go_simp
      with_reducible rfl
     rotate_left
     ·simp only [Act.put, List.setIfInBounds_toArray, List.set_cons_zero, List.set_cons_succ, i64_w, i32_w]
      rfl
     refine pure_ (i := 3) (N := some 68) (v := ?_) (a' := ?_) #[true, false, true, true, false, false, false, false, false, false, false] rfl rfl (any_of HT_.out (by kernel_rfl)) (fun _ _ _ h => h) (Or.inl ⟨by rfl, ?_⟩) ?_ ?_
     rotate_left
     ·intro w'
      go_simp
      with_reducible rfl
     rotate_left
     ·simp only [Act.put, List.setIfInBounds_toArray, List.set_cons_zero, List.set_cons_succ, i64_w, i32_w]
      rfl
     refine pure_ (i := 4) (N := some 69) (v := ?_) (a' := ?_) #[true, false, true, true, true, false, false, false, false, false, false] rfl rfl (any_of HT_.out (by kernel_rfl)) (fun _ _ _ h => h) (Or.inl ⟨by rfl, ?_⟩) ?_ ?_
     rotate_left
     ·intro w'
      go_simp
      with_reducible rfl
     rotate_left
     ·simp only [Act.put, List.setIfInBounds_toArray, List.set_cons_zero, List.set_cons_succ, i64_w, i32_w]
      rfl
     refine pure_ (i := 7) (N := some 72) (v := ?_) (a' := ?_) #[true, false, true, true, true, false, false, true, false, false, false] rfl rfl (any_of HT_.out (by kernel_rfl)) (fun _ _ _ h => h) (Or.inl ⟨by rfl, ?_⟩) ?_ ?_
     rotate_left
     ·intro w'
      go_simp
      with_reducible rfl
     rotate_left
     ·simp only [Act.put, List.setIfInBounds_toArray, List.set_cons_zero, List.set_cons_succ, i64_w, i32_w]
      rfl
     refine take_ (i := 1) (N := some 66) (v := ?_) (a' := ?_) #[true, true, true, true, true, false, false, true, false, false, false] rfl rfl (take_ofW HT_.out HW_.out (by kernel_rfl)) (fun _ _ _ h => h) (Or.inl ⟨by rfl, ?_⟩) hHeld ?_ ?_
     rotate_left
     ·intro w' s0
      have c_ : w'.cell? ⟨w.heap.size, 1, none⟩ = some (.slice (some ad1) l0_1.length c0_1) := (blk_cell (blk_below K6_.out (below_step (below_step (S8_.out) S13_.out) (below_step HB.out s0))) 1).trans rfl
      clear s0
      go_simp
      with_reducible rfl
     rotate_left
     ·simp only [Act.put, List.setIfInBounds_toArray, List.set_cons_zero, List.set_cons_succ, i64_w, i32_w]
      rfl
     refine pure_ (i := 5) (N := some 70) (v := ?_) (a' := ?_) #[true, true, true, true, true, true, false, true, false, false, false] rfl rfl (any_of HT_.out (by kernel_rfl)) (fun _ _ _ h => h) (Or.inl ⟨by rfl, ?_⟩) ?_ ?_
     rotate_left
     ·intro w'
      go_simp
      with_reducible rfl
     rotate_left
     ·simp only [Act.put, List.setIfInBounds_toArray, List.set_cons_zero, List.set_cons_succ, i64_w, i32_w]
      rfl
     refine take_ (i := 6) (N := some 71) (v := ?_) (a' := ?_) #[true, true, true, true, true, true, true, true, false, false, false] rfl rfl (take_ofW HT_.out HW_.out (by kernel_rfl)) (fun _ _ _ h => h) (Or.inl ⟨by rfl, ?_⟩) hHeld ?_ ?_
     rotate_left
     ·intro w' s0
      have c_ := (Below.cell (below_step (below_step (below_step (S5_.out) S8_.out) S13_.out) (below_step HB.out s0)) (World.block_lt_of_cell? _ _ HXR1.out)).trans HXR1.out
      clear s0
      go_simp
      with_reducible rfl
     rotate_left
     ·simp only [Act.put, List.setIfInBounds_toArray, List.set_cons_zero, List.set_cons_succ, i64_w, i32_w]
      rfl
     refine pure_ (i := 8) (N := some 73) (v := ?_) (a' := ?_) #[true, true, true, true, true, true, true, true, true, false, false] rfl rfl (any_of HT_.out (by kernel_rfl)) (fun _ _ _ h => h) (Or.inl ⟨by rfl, ?_⟩) ?_ ?_
     rotate_left
     ·intro w'
      go_simp
      with_reducible rfl
     rotate_left
     ·simp only [Act.put, List.setIfInBounds_toArray, List.set_cons_zero, List.set_cons_succ, i64_w, i32_w]
      rfl
     refine take_ (i := 9) (N := some 74) (v := ?_) (a' := ?_) #[true, true, true, true, true, true, true, true, true, true, false] rfl rfl (take_ofW HT_.out HW_.out (by kernel_rfl)) (fun _ _ _ h => h) (Or.inl ⟨by rfl, ?_⟩) hHeld ?_ ?_
     rotate_left
     ·intro w' s0
      have c_ := (Below.cell (below_step (below_step (below_step (S5_.out) S8_.out) S13_.out) (below_step HB.out s0)) (World.block_lt_of_cell? _ _ HXE1.out)).trans HXE1.out
      clear s0
      go_simp
      with_reducible rfl
     rotate_left
     ·simp only [Act.put, List.setIfInBounds_toArray, List.set_cons_zero, List.set_cons_succ, i64_w, i32_w]
      rfl
     refine pure_ (i := 10) (N := some 13) (v := ?_) (a' := ?_) #[true, true, true, true, true, true, true, true, true, true, true] rfl rfl (any_of HT_.out (by kernel_rfl)) (fun _ _ _ h => h) (Or.inl ⟨by rfl, ?_⟩) ?_ ?_
     rotate_left
     ·intro w'
      go_simp
      with_reducible rfl
     rotate_left
     ·simp only [Act.put, List.setIfInBounds_toArray, List.set_cons_zero, List.set_cons_succ, i64_w, i32_w]
      rfl
     refine done_ (done_of HT_.out (by kernel_rfl)) ?_
     clear HG HS HE HNr HB hHeld HXR1 HXE1 z1_ z2_ z5_ z6_ z7_ z8_ z9_
     obtain ⟨Z, hZ⟩ : ∃ Z, Z = dblSt L l0_1 l1 i c := ⟨_, rfl⟩
     have hZ2 : Z = q + if dblBit l1 AT = true then l0_1.length else 0 := by rw [hZ, HQ.out, HREM.out, HAT.out]; rfl
     have HZ := Aside0.mk hZ
     clear hZ hrem_
     by_cases hat : AT < l1.length
     ·obtain ⟨ad3, e_, hxt_⟩ := Kd.at_int HT1.out (AT : Int) (by omega) (by omega)
      cases e_
      rw [rd_nat, Int.toNat_natCast] at hxt_
      have hxt2_ := (Below.cell (below_step (below_step (below_step (S5_.out) S8_.out) S13_.out) (HBd.out)) (World.block_lt_of_cell? _ _ hxt_)).trans hxt_
      obtain ⟨x, hx⟩ : ∃ x, x = l1.getD AT 0 := ⟨_, rfl⟩
      have hx8 := ZWL1.out x (by rw [hx]; exact getD_in _ _ hat)
      obtain ⟨-, hx0⟩ := byte_facts hx8
      rw [← hx] at hxt2_
      have z1_ : ((0 : Int) ≤ (AT : Int)) = True := eq_true (by omega)
      have t0_ : ((AT : Int) < (l1.length : Int)) = True := eq_true (by omega)
      have t0d_ : decide ((AT : Int) < (l1.length : Int)) = true := decide_eq_true (by omega)
      have t1_ : (AT < l1.length) = True := eq_true (by omega)
      clear hxt_
      by_cases hod : Int.tmod x 2 = 1
      ·have hz3 : Z = q + l0_1.length := by rw [hZ2, if_pos (by unfold dblBit; rw [← hx, decide_eq_true hat, decide_eq_true hod]; rfl)]
       have hz_ : wrap64 ((q : Int) + (l0_1.length : Int)) = (Z : Int) := by have h_ := HL12.out.2; rw [wself (by omega) (by omega), hz3]; omega
       have o0_ : (Int.tmod x 2 = 1) = True := eq_true hod
       have o1_ : (Int.tmod x 2 == 1) = true := by simpa using hod
       have o2_ : decide (Int.tmod x 2 = 1) = true := by simpa using hod
       have o9_ : Int.tmod x 2 = x % 2 := Int.tmod_eq_emod_of_nonneg hx0
       rw [o9_] at hod
       have o3_ : (x % 2 = 1) = True := eq_true hod
       have o4_ : (x % 2 == 1) = true := by simpa using hod
       have o5_ : decide (x % 2 = 1) = true := by simpa using hod
       clear o9_
       clear hz3 hZ2 hod hx hx8
       go_wp2_with (first | ((with_reducible refine gate_builtin (b := .append) (xs := #[.tmp 92, .tmp 94]) rfl ?_); at_builtin; (try clear hz_); refine Kd.R_append (Kd.int .i64) (w0 := w12_) w12_.heap.size rfl (.tmp 92) (.tmp 94) 45 3 (.int .i64 0) 8 rfl Try.underlying45 info3 rfl (by decide) (by omega) (.slice An N.length cn) N (Z : Int) [.int .i64 (Z : Int)] (fun k_ => wq.heap.size ≤ k_) (fun _ => False) rfl (by first | rfl | (rw [World.size_alloc]; rfl)) ?aP (fun _ hk => hk.elim) ?aF ?aO ?aB ?aS ?aL ?_; (case aP => exact rfl); (case aB => exact HBd.out); (case aF => exact (fun k_ hk_ => by have h_ := HQD.out; omega)); (case aO => exact HNd.out); (case aS => exact below_size HBd.out); (case aL => have h_ := HNL.out; omega); intro v10 w10 ho hb hg hat; have HN6 := Aside0.mk ho; have HB6 := Aside0.mk hb; have HG6 := Aside0.mk hg; clear ho hb hg hat))
       go_roundw
       case rel =>
        have HG7 := Aside0.mk (blk_grown HGd.out HG6.out (Kd.R_ne HNd.out HGd.out (by decide)))
        have HS7 := Aside0.mk (Kd.S_step HSd.out (fun k_ ok_ hk_ => HG6.out.block k_ hk_ (fun e_ => by have h1_ := HNd.out.1 _ e_.symm; omega)))
        have HE7 := Aside0.mk (Kd.R_over' HEd.out (Kd.R_typed HNd.out) (by decide) HG6.out)
        exact ⟨c + 1, N ++ [(Z : Int)], by omega, by rw [show i * L + (c + 1) = AT + 1 by rw [HAT.out]; omega]; go_num, by go_num, ⟨by rw [dblRow_snoc, ← HN.out, ← HZ.out]⟩, HG7, HS7, HE7, ⟨Nat.le_trans HQD.out HG6.out.size⟩, HN6, HB6⟩
       case measure => simp [intOf]; omega
      ·obtain rfl : Z = q := by rw [hZ2, if_neg (by unfold dblBit; rw [← hx, decide_eq_true hat, decide_eq_false hod]; simp), Nat.add_zero]
       have o0_ : (Int.tmod x 2 = 1) = False := eq_false hod
       have o1_ : (Int.tmod x 2 == 1) = false := by simpa using hod
       have o2_ : decide (Int.tmod x 2 = 1) = false := by simpa using hod
       have o9_ : Int.tmod x 2 = x % 2 := Int.tmod_eq_emod_of_nonneg hx0
       rw [o9_] at hod
       have o3_ : (x % 2 = 1) = False := eq_false hod
       have o4_ : (x % 2 == 1) = false := by simpa using hod
       have o5_ : decide (x % 2 = 1) = false := by simpa using hod
       clear o9_
       clear hZ2 hod hx hx8
       go_wp2_with (first | ((with_reducible refine gate_builtin (b := .append) (xs := #[.tmp 92, .tmp 94]) rfl ?_); at_builtin; (try clear hz_); refine Kd.R_append (Kd.int .i64) (w0 := w12_) w12_.heap.size rfl (.tmp 92) (.tmp 94) 45 3 (.int .i64 0) 8 rfl Try.underlying45 info3 rfl (by decide) (by omega) (.slice An N.length cn) N (Z : Int) [.int .i64 (Z : Int)] (fun k_ => wq.heap.size ≤ k_) (fun _ => False) rfl (by first | rfl | (rw [World.size_alloc]; rfl)) ?aP (fun _ hk => hk.elim) ?aF ?aO ?aB ?aS ?aL ?_; (case aP => exact rfl); (case aB => exact HBd.out); (case aF => exact (fun k_ hk_ => by have h_ := HQD.out; omega)); (case aO => exact HNd.out); (case aS => exact below_size HBd.out); (case aL => have h_ := HNL.out; omega); intro v10 w10 ho hb hg hat; have HN6 := Aside0.mk ho; have HB6 := Aside0.mk hb; have HG6 := Aside0.mk hg; clear ho hb hg hat))
       go_roundw
       case rel =>
        have HG7 := Aside0.mk (blk_grown HGd.out HG6.out (Kd.R_ne HNd.out HGd.out (by decide)))
        have HS7 := Aside0.mk (Kd.S_step HSd.out (fun k_ ok_ hk_ => HG6.out.block k_ hk_ (fun e_ => by have h1_ := HNd.out.1 _ e_.symm; omega)))
        have HE7 := Aside0.mk (Kd.R_over' HEd.out (Kd.R_typed HNd.out) (by decide) HG6.out)
        exact ⟨c + 1, N ++ [(Z : Int)], by omega, by rw [show i * L + (c + 1) = AT + 1 by rw [HAT.out]; omega]; go_num, by go_num, ⟨by rw [dblRow_snoc, ← HN.out, ← HZ.out]⟩, HG7, HS7, HE7, ⟨Nat.le_trans HQD.out HG6.out.size⟩, HN6, HB6⟩
       case measure => simp [intOf]; omega
     ·obtain rfl : Z = q := by rw [hZ2, if_neg (by unfold dblBit; rw [decide_eq_false hat]; simp), Nat.add_zero]
      have t0_ : ((AT : Int) < (l1.length : Int)) = False := eq_false (by omega)
      have t0d_ : decide ((AT : Int) < (l1.length : Int)) = false := decide_eq_false (by omega)
      have t1_ : (AT < l1.length) = False := eq_false (by omega)
      clear hZ2
      go_wp2_with (first | ((with_reducible refine gate_builtin (b := .append) (xs := #[.tmp 92, .tmp 94]) rfl ?_); at_builtin; (try clear hz_); refine Kd.R_append (Kd.int .i64) (w0 := w12_) w12_.heap.size rfl (.tmp 92) (.tmp 94) 45 3 (.int .i64 0) 8 rfl Try.underlying45 info3 rfl (by decide) (by omega) (.slice An N.length cn) N (Z : Int) [.int .i64 (Z : Int)] (fun k_ => wq.heap.size ≤ k_) (fun _ => False) rfl (by first | rfl | (rw [World.size_alloc]; rfl)) ?aP (fun _ hk => hk.elim) ?aF ?aO ?aB ?aS ?aL ?_; (case aP => exact rfl); (case aB => exact HBd.out); (case aF => exact (fun k_ hk_ => by have h_ := HQD.out; omega)); (case aO => exact HNd.out); (case aS => exact below_size HBd.out); (case aL => have h_ := HNL.out; omega); intro v10 w10 ho hb hg hat; have HN6 := Aside0.mk ho; have HB6 := Aside0.mk hb; have HG6 := Aside0.mk hg; clear ho hb hg hat))
      go_roundw
      case rel =>
       have HG7 := Aside0.mk (blk_grown HGd.out HG6.out (Kd.R_ne HNd.out HGd.out (by decide)))
       have HS7 := Aside0.mk (Kd.S_step HSd.out (fun k_ ok_ hk_ => HG6.out.block k_ hk_ (fun e_ => by have h1_ := HNd.out.1 _ e_.symm; omega)))
       have HE7 := Aside0.mk (Kd.R_over' HEd.out (Kd.R_typed HNd.out) (by decide) HG6.out)
       exact ⟨c + 1, N ++ [(Z : Int)], by omega, by rw [show i * L + (c + 1) = AT + 1 by rw [HAT.out]; omega]; go_num, by go_num, ⟨by rw [dblRow_snoc, ← HN.out, ← HZ.out]⟩, HG7, HS7, HE7, ⟨Nat.le_trans HQD.out HG6.out.size⟩, HN6, HB6⟩
      case measure => simp [intOf]; omega
    ·have q1b : decide ((c : Int) < (L : Int)) = false := decide_eq_false (by omega)
     have q1c : (c < L) = False := eq_false (by omega)
     obtain rfl : c = L := by omega
     obtain ⟨wz, rfl⟩ : ∃ wz, wz = wr := ⟨wr, rfl⟩
     obtain ⟨Y1, hY1⟩ : ∃ Y, Y = X1 ++ [N] := ⟨_, rfl⟩
     obtain ⟨xA, hxA⟩ : ∃ x, x = acL l0_2 (i % l0_1.length) := ⟨_, rfl⟩
     obtain ⟨Y2, hY2⟩ : ∃ Y, Y = X2 ++ [xA] := ⟨_, rfl⟩
     have HT8 : Aside0 (dblNext c l0_1 l1 (i + 1) = Y1) := ⟨by rw [dblNext_snoc, ← HX1.out, ← HN.out, ← hY1]⟩
     have HT9 : Aside0 (dblAcc l0_1.length l0_2 (i + 1) = Y2) := ⟨by rw [dblAcc_snoc, ← HX2.out, ← hxA, ← hY2]⟩
     have HY1 := Aside0.mk hY1
     have HY2 := Aside0.mk hY2
     clear hY1 hY2
     have z1_ : wz.cell? ⟨w12_.heap.size, 1, none⟩ = some (.slice U1 X1.length e1) := (blk_cell HG.out 1).trans rfl
     go_wp2_with (first | ((with_reducible refine gate_builtin (b := .append) (xs := #[.tmp 97, .tmp 99]) rfl ?_); at_builtin; refine Kd.S_append (Kd.slice 3 (Kd.int .i64)) (w0 := w12_) w12_.heap.size rfl (.tmp 97) (.tmp 99) 22 45 (.slice none 0 0) 24 rfl Try.underlying22 info45 rfl (by decide) (by omega) (.slice U1 X1.length e1) X1 N [.slice An N.length cn] (fun _ => True) (fun k_ => wq.heap.size ≤ k_) rfl (by first | rfl | (rw [World.size_alloc]; rfl)) ?aP ?aK ?aF ?aO ?aB ?aS ?aL ?_; (case aP => exact Kd.M_row HNr.out); (case aK => exact (fun k_ hk_ => ⟨trivial, fun e_ => by have h_ := HSL.out k_ e_.symm; omega⟩)); (case aF => exact (fun _ _ => trivial)); (case aO => exact Kd.S_mono HS.out (fun k_ hk_ => ⟨trivial, by omega⟩)); (case aB => exact HB.out); (case aS => exact below_size HB.out); (case aL => have h_ := HXL.out; omega); intro v24 w24 ho hb hg hat; rw [← HY1.out] at ho; have HE3 := Aside0.mk (Kd.R_over' HE.out (Kd.S_typed HS.out) (by decide) hg); have HG3 := Aside0.mk (blk_grown HG.out hg (Kd.S_ne HS.out HG.out (by decide))); have HS3 := Aside0.mk ho; have HB3 := Aside0.mk hb; clear ho hb hg hat z1_; obtain ⟨U3, e3, rfl⟩ := Kd.S_slice HS3.out; have z1_ : w24.cell? ⟨w12_.heap.size, 1, none⟩ = some (.slice U1 X1.length e1) := (blk_cell HG3.out 1).trans rfl; have zf1_ := blk_frozen HG3.out 1))
     have HG4 := Aside0.mk (blk_put (cs' := #[.int .i64 a0_0, .slice U3 Y1.length e3, .slice U2 X2.length e2]) HG3.out 1 (.slice U3 Y1.length e3) rfl)
     have HS4 := Aside0.mk (Kd.S_mono (ok' := fun _ => True) (Kd.S_far (p := ⟨w12_.heap.size, 1, none⟩) (Kd.S_types HS3.out HG3.out (by decide)) (fun _ hk => hk.2) (.slice U3 Y1.length e3)) (fun _ hk => trivial))
     have HE4 := Aside0.mk (Kd.R_set HE3.out HG3.out (by decide) 1 (.slice U3 Y1.length e3))
     have HB4 := Aside0.mk (HB3.out.setCell (p := ⟨w12_.heap.size, 1, none⟩) (Nat.le_refl _) (.slice U3 Y1.length e3))
     clear HG3 HS3 HE3 HB3
     clear z1_ zf1_ HG HS HE HB HNr
     generalize (w24.setCell ⟨w12_.heap.size, 1, none⟩ (.slice U3 Y1.length e3)) = wk at HG4 HS4 HE4 HB4 ⊢
     obtain ⟨r, hr⟩ : ∃ r : Nat, r = i % l0_1.length := ⟨_, rfl⟩
     have hrl : r < l0_1.length := by rw [hr]; exact Nat.mod_lt _ (by omega)
     have hrem_ : Int.tmod (i : Int) (l0_1.length : Int) = (r : Int) := by rw [hr]; exact tmod_nat i l0_1.length
     rw [← hr] at hxA
     have hen := HA.out.ends
     obtain ⟨ad2, e_, hxa_⟩ := Kd.at_bool HR0_2.out (r : Int) (by omega) (by omega)
     cases e_
     rw [show rdOf false l0_2 (r : Int) = xA by rw [hxA, rdb_nat]; rfl, Int.toNat_natCast] at hxa_
     have HXA := Aside0.mk hxa_
     clear hxa_ hxA hr
     have z1_ : ((0 : Int) ≤ (r : Int)) = True := eq_true (by omega)
     have z2_ : ((r : Int) < (l0_2.length : Int)) = True := eq_true (by omega)
     have z7_ : ((l0_1.length : Int) = 0) = False := eq_false (by omega)
     have z8_ : ((l0_1.length : Int) == 0) = false := beq_eq_false_iff_ne.mpr (by omega)
     have z9_ : (l0_1.length = 0) = False := eq_false (by omega)
     clear hen
     refine start_ (n := 13) (S := fun w' => Below wk.heap.size wk w') (ds := [10, 12]) #[false, false, false, false, false, false, false, false, false, false, false, false, false] (by kernel_rfl) rfl rfl (below_drew1 (Below.refl _ _)) (fun hHeld => ?_)
     refine with_tabW ncanon.tab19 ncanon.bits19 (fun HT_ HW_ => ?_)
     have HGd := Aside0.mk (blk_drew HG4.out)
     have HSd := Aside0.mk (Kd.S_drew HS4.out)
     have HEd := Aside0.mk (Kd.R_drew HE4.out)
     have HBd := Aside0.mk (below_drew1 HB4.out)
     obtain ⟨wd, hwd⟩ : ∃ wd, wd = wk.drew := ⟨_, rfl⟩
     rw [← hwd] at HGd HSd HEd HBd hHeld ⊢
     clear hwd
     refine pure_ (i := 0) (N := some 102) (v := ?_) (a' := ?_) #[true, false, false, false, false, false, false, false, false, false, false, false, false] rfl rfl (any_of HT_.out (by kernel_rfl)) (fun _ _ _ h => h) (Or.inl ⟨by rfl, ?_⟩) ?_ ?_
     rotate_left
     ·intro w'
      go_simp
      with_reducible rfl
     rotate_left
     ·simp only [Act.put, List.setIfInBounds_toArray, List.set_cons_zero, List.set_cons_succ, i64_w, i32_w]
      rfl
     refine pure_ (i := 2) (N := some 104) (v := ?_) (a' := ?_) #[true, false, true, false, false, false, false, false, false, false, false, false, false] rfl rfl (any_of HT_.out (by kernel_rfl)) (fun _ _ _ h => h) (Or.inl ⟨by rfl, ?_⟩) ?_ ?_
     rotate_left
     ·intro w'
      go_simp
      with_reducible rfl
     rotate_left
     ·simp only [Act.put, List.setIfInBounds_toArray, List.set_cons_zero, List.set_cons_succ, i64_w, i32_w]
      rfl
     refine pure_ (i := 4) (N := some 106) (v := ?_) (a' := ?_) #[true, false, true, false, true, false, false, false, false, false, false, false, false] rfl rfl (any_of HT_.out (by kernel_rfl)) (fun _ _ _ h => h) (Or.inl ⟨by rfl, ?_⟩) ?_ ?_
     rotate_left
     ·intro w'
      go_simp
      with_reducible rfl
     rotate_left
     ·simp only [Act.put, List.setIfInBounds_toArray, List.set_cons_zero, List.set_cons_succ, i64_w, i32_w]
      rfl
     refine pure_ (i := 5) (N := some 107) (v := ?_) (a' := ?_) #[true, false, true, false, true, true, false, false, false, false, false, false, false] rfl rfl (any_of HT_.out (by kernel_rfl)) (fun _ _ _ h => h) (Or.inl ⟨by rfl, ?_⟩) ?_ ?_
     rotate_left
     ·intro w'
      go_simp
      with_reducible rfl
     rotate_left
     ·simp only [Act.put, List.setIfInBounds_toArray, List.set_cons_zero, List.set_cons_succ, i64_w, i32_w]
      rfl
     refine pure_ (i := 6) (N := some 108) (v := ?_) (a' := ?_) #[true, false, true, false, true, true, true, false, false, false, false, false, false] rfl rfl (any_of HT_.out (by kernel_rfl)) (fun _ _ _ h => h) (Or.inl ⟨by rfl, ?_⟩) ?_ ?_
     rotate_left
     ·intro w'
      go_simp
      with_reducible rfl
     rotate_left
     ·simp only [Act.put, List.setIfInBounds_toArray, List.set_cons_zero, List.set_cons_succ, i64_w, i32_w]
      rfl
     refine take_ (i := 1) (N := some 103) (v := ?_) (a' := ?_) #[true, true, true, false, true, true, true, false, false, false, false, false, false] rfl rfl (take_ofW HT_.out HW_.out (by kernel_rfl)) (fun _ _ _ h => h) (Or.inl ⟨by rfl, ?_⟩) hHeld ?_ ?_
     rotate_left
     ·intro w' s0
      have c_ : w'.cell? ⟨w12_.heap.size, 2, none⟩ = some (.slice U2 X2.length e2) := (blk_cell (blk_below HG4.out s0) 2).trans rfl
      clear s0
      go_simp
      with_reducible rfl
     rotate_left
     ·simp only [Act.put, List.setIfInBounds_toArray, List.set_cons_zero, List.set_cons_succ, i64_w, i32_w]
      rfl
     refine take_ (i := 3) (N := some 105) (v := ?_) (a' := ?_) #[true, true, true, true, true, true, true, false, false, false, false, false, false] rfl rfl (take_ofW HT_.out HW_.out (by kernel_rfl)) (fun _ _ _ h => h) (Or.inl ⟨by rfl, ?_⟩) hHeld ?_ ?_
     rotate_left
     ·intro w' s0
      have c_ : w'.cell? ⟨w.heap.size, 2, none⟩ = some (.slice (some ad2) l0_2.length c0_2) := (blk_cell (blk_below K6_.out (below_step (below_step (S8_.out) S13_.out) (below_step HB4.out s0))) 2).trans rfl
      clear s0
      go_simp
      with_reducible rfl
     rotate_left
     ·simp only [Act.put, List.setIfInBounds_toArray, List.set_cons_zero, List.set_cons_succ, i64_w, i32_w]
      rfl
     refine pure_ (i := 7) (N := some 109) (v := ?_) (a' := ?_) #[true, true, true, true, true, true, true, true, false, false, false, false, false] rfl rfl (any_of HT_.out (by kernel_rfl)) (fun _ _ _ h => h) (Or.inl ⟨by rfl, ?_⟩) ?_ ?_
     rotate_left
     ·intro w'
      go_simp
      with_reducible rfl
     rotate_left
     ·simp only [Act.put, List.setIfInBounds_toArray, List.set_cons_zero, List.set_cons_succ, i64_w, i32_w]
      rfl
     refine take_ (i := 8) (N := some 110) (v := ?_) (a' := ?_) #[true, true, true, true, true, true, true, true, true, false, false, false, false] rfl rfl (take_ofW HT_.out HW_.out (by kernel_rfl)) (fun _ _ _ h => h) (Or.inl ⟨by rfl, ?_⟩) hHeld ?_ ?_
     rotate_left
     ·intro w' s0
      have c_ := (Below.cell (below_step (below_step (below_step (S5_.out) S8_.out) S13_.out) (below_step HB4.out s0)) (World.block_lt_of_cell? _ _ HXA.out)).trans HXA.out
      clear s0
      go_simp
      with_reducible rfl
     rotate_left
     ·simp only [Act.put, List.setIfInBounds_toArray, List.set_cons_zero, List.set_cons_succ, i64_w, i32_w]
      rfl
     refine one_ (i := 9) (N := some 111) #[true, true, true, true, true, true, true, true, true, true, false, false, false] rfl rfl (one_of HT_.out (by kernel_rfl)) (by decide) (fun K hK => ?_)
     refine value_ (w1 := ?_) (v := ?_) (by rfl) rfl ?_ ?_
     rotate_left 2
     ·go_simp
      constructor
      ·rfl
      ·rfl
     refine hK.out _ _ (below_alloc hHeld _) (fun hHeld => ?_)
     clear hK K
     refine norm_ (a' := ?_) ?_ ?_
     rotate_left
     ·show Act.put _ (some 111) _ = _
      simp only [Act.put, List.setIfInBounds_toArray, List.set_cons_zero, List.set_cons_succ, i64_w, i32_w]
      rfl
     refine last_ (i := 10) (N := some 112) #[true, true, true, true, true, true, true, true, true, true, true, false, false] rfl rfl (one_of HT_.out (by kernel_rfl)) (by decide) (fun K hK => ?_)
     refine Kd.R_append_step Kd.bool (w0 := w12_) w12_.heap.size (by rfl) (.tmp 103) (.tmp 111) 23 4 (.bool false) 1 rfl Try.underlying23 info4 rfl (by decide) (by omega) (.slice U2 X2.length e2) X2 xA [.bool xA] (fun _ => True) (fun _ => False) rfl (by first | rfl | (rw [World.size_alloc]; rfl)) ?aP (fun _ hk => hk.elim) ?aF ?aO ?aB ?aS ?aL ?_
     (case aP => exact rfl)
     (case aB => exact HBd.out)
     (case aF => exact (fun _ _ => trivial))
     (case aO => exact HEd.out)
     (case aS => exact below_size HBd.out)
     (case aL => have h_ := HXL.out; omega)
     intro v25 w25 ho hb hg hat
     rw [← HY2.out] at ho
     have HG6 := Aside0.mk (blk_grown HGd.out hg (Kd.R_ne HEd.out HGd.out (by decide)))
     have HS6 := Aside0.mk (Kd.S_over' HSd.out (Kd.R_typed HEd.out) (by decide) hg)
     have HE6 := Aside0.mk ho
     have HB6 := Aside0.mk hb
     clear ho hb hg hat HGd HSd HEd HBd
     obtain ⟨U5, e5, rfl⟩ := Kd.R_slice HE6.out
     have z2_ : w25.cell? ⟨w12_.heap.size, 2, none⟩ = some (.slice U2 X2.length e2) := (blk_cell HG6.out 2).trans rfl
     have zf2_ := blk_frozen HG6.out 2
     refine hK.out _ _ ?_
     clear hK K
     refine norm_ (a' := ?_) ?_ ?_
     rotate_left
     ·show Act.put _ (some 112) _ = _
      simp only [Act.put, List.setIfInBounds_toArray, List.set_cons_zero, List.set_cons_succ, i64_w, i32_w]
      rfl
     refine pure_ (i := 11) (N := some 113) (v := ?_) (a' := ?_) #[true, true, true, true, true, true, true, true, true, true, true, true, false] rfl rfl (any_of HT_.out (by kernel_rfl)) (fun _ _ _ h => h) (Or.inl ⟨by rfl, ?_⟩) ?_ ?_
     rotate_left
     ·intro w'
      go_simp
      with_reducible rfl
     rotate_left
     ·simp only [Act.put, List.setIfInBounds_toArray, List.set_cons_zero, List.set_cons_succ, i64_w, i32_w]
      rfl
     refine last_ (i := 12) (N := none) #[true, true, true, true, true, true, true, true, true, true, true, true, true] rfl rfl (one_of HT_.out (by kernel_rfl)) (by decide) (fun K hK => ?_)
     refine skip_ (w1 := ?_) (by rfl) rfl ?_ ?_
     rotate_left
     ·go_simp
      rfl
     refine hK.out _ _ ?_
     clear hK K
     refine done_ (done_of HT_.out (by kernel_rfl)) ?_
     clear hrem_ z1_ z7_ z8_ z9_
     go_wp2
     go_roundw
     case rel =>
      refine ⟨i + 1, _, _, by omega, ?_, by go_num, ⟨blk_put (cs' := #[.int .i64 a0_0, .slice U3 Y1.length e3, .slice U5 Y2.length e5]) HG6.out 2 _ rfl⟩, ⟨?_⟩, ⟨?_⟩, ⟨HB6.out.setCell (p := ⟨w12_.heap.size, 2, none⟩) (Nat.le_refl _) _⟩⟩
      ·rw [HAT.out, Nat.succ_mul]
      ·rw [HT8.out]
       exact Kd.S_mono (Kd.S_far (p := ⟨w12_.heap.size, 2, none⟩) (Kd.S_types HS6.out HG6.out (by decide)) (fun _ hk => hk.2) _) (fun _ _ => trivial)
      ·rw [HT9.out]
       exact Kd.R_set HE6.out HG6.out (by decide) 2 _
     case measure => simp [intOf]; omega
  ·have q1b : decide ((i : Int) < wrap64 (2 * (l0_1.length : Int))) = false := decide_eq_false (by rw [HW2.out]; omega)
   have q1c : ((i : Int) < wrap64 (2 * (l0_1.length : Int))) = False := eq_false (by rw [HW2.out]; omega)
   have q1d : decide ((i : Int) < 2 * (l0_1.length : Int)) = false := decide_eq_false (by omega)
   have q1e : ((i : Int) < 2 * (l0_1.length : Int)) = False := eq_false (by omega)
   obtain rfl : i = 2 * l0_1.length := by omega
   rw [HLA.out.1] at HS
   obtain ⟨XD, hXD⟩ : ∃ X, X = (dblNext a0_0.toNat l0_1 l1 (2 * l0_1.length)) := ⟨_, rfl⟩
   obtain ⟨YD, hYD⟩ : ∃ X, X = (dblAcc l0_1.length l0_2 (2 * l0_1.length)) := ⟨_, rfl⟩
   rw [← hXD] at HS Ze2 Zs3 Zt2
   rw [← hYD] at HE Ze2 Zs3 Zt2
   clear hXD hYD
   obtain ⟨U1, e1, rfl⟩ := Kd.S_slice HS.out
   obtain ⟨U2, e2, rfl⟩ := Kd.R_slice HE.out
   have SW := Aside0.mk HB.out
   clear HB hLs
   obtain ⟨c17_, c18_, c19_⟩ := cells3 (blk_below K6_.out (below_step (below_step (S8_.out) S13_.out) SW.out))
   obtain ⟨c20_, c21_, c22_⟩ := cells3 (blk_below HG.out (Below.refl _ _))
   go_wp2_with (first | (go_at_call 65; have hF_ := Ze1.out; clear Ze1; (try clear c17_ c18_ c19_ c20_ c21_ c22_); refine (number_Canon.calls q1  a0_0 A0_1 c0_1 l0_1 A0_2 c0_2 l0_2  a0_0 X Y true _ (Kd.C_below (HR0_1.out) (below_step (below_step (below_step (S5_.out) S8_.out) S13_.out) SW.out)) hc0_1 (Kd.C_below (HR0_2.out) (below_step (below_step (below_step (S5_.out) S8_.out) S13_.out) SW.out)) hc0_2  hF_).mono ?_; clear hF_; rintro e w23_ ⟨u_, v_, rfl, hS_, hR_, hb_⟩; obtain ⟨A25_, c26_, rfl⟩ := Kd.S_slice hS_; obtain ⟨A27_, c28_, rfl⟩ := Kd.R_slice hR_; have K29_ := Aside0.mk (Kd.R_reads' (Kd.S_R hS_)).2.2; have L30_ := Aside0.mk (Kd.R_reads' (Kd.S_R hS_)).2.1; have K31_ := Aside0.mk (Kd.R_reads' hR_).2.2; have L32_ := Aside0.mk (Kd.R_reads' hR_).2.1; clear hS_ hR_; have S24_ := Aside0.mk hb_; clear hb_; obtain ⟨c33_, c34_, c35_⟩ := cells3 (blk_below HG.out (below_step (S24_.out) (below_alloc (Below.refl _ _) (.cells #[.int .i64 a0_0, .slice A25_ X.length c26_, .slice A27_ Y.length c28_] 25))))) | (go_at_call 65; have hF_ := Ze2.out; clear Ze2; (try clear c33_ c34_ c35_); refine calls_new (v := w23_) (F := fun W => W.heap[w23_.heap.size]? = some (.cells #[.int .i64 a0_0, .slice A25_ X.length c26_, .slice A27_ Y.length c28_] 25 (0, 0))) (below_alloc (Below.refl _ _) (.cells #[.int .i64 a0_0, .slice A25_ X.length c26_, .slice A27_ Y.length c28_] 25)) (new_at _ (by simp)) (fun w36_ b_ f_ => ?_); have S37_ := Aside0.mk b_; have K38_ := Aside0.mk f_; clear b_ f_; refine (number_Canon.calls q2  a0_0 U1 e1 XD U2 e2 YD  a0_0 X Y true _ (Kd.C_below ((Kd.R_reads' (Kd.S_R HS.out)).2.2) (below_step (S24_.out) S37_.out)) (Kd.R_reads' (Kd.S_R HS.out)).2.1 (Kd.C_below ((Kd.R_reads' HE.out).2.2) (below_step (S24_.out) S37_.out)) (Kd.R_reads' HE.out).2.1  hF_).mono ?_; clear hF_; rintro e w39_ ⟨u_, v_, rfl, hS_, hR_, hb_⟩; obtain ⟨A41_, c42_, rfl⟩ := Kd.S_slice hS_; obtain ⟨A43_, c44_, rfl⟩ := Kd.R_slice hR_; have K45_ := Aside0.mk (Kd.R_reads' (Kd.S_R hS_)).2.2; have L46_ := Aside0.mk (Kd.R_reads' (Kd.S_R hS_)).2.1; have K47_ := Aside0.mk (Kd.R_reads' hR_).2.2; have L48_ := Aside0.mk (Kd.R_reads' hR_).2.1; clear hS_ hR_; have S40_ := Aside0.mk hb_; clear hb_; obtain ⟨c49_, c50_, c51_⟩ := cells3 (blk_below K38_.out (below_step (S40_.out) (below_alloc (Below.refl _ _) (.cells #[.int .i64 a0_0, .slice A41_ X.length c42_, .slice A43_ Y.length c44_] 25))))) | (go_at_call 65; have hF_ := Ze3.out; clear Ze3; (try clear c49_ c50_ c51_); refine calls_new (v := w39_) (F := fun W => W.heap[w39_.heap.size]? = some (.cells #[.int .i64 a0_0, .slice A41_ X.length c42_, .slice A43_ Y.length c44_] 25 (0, 0))) (below_alloc (Below.refl _ _) (.cells #[.int .i64 a0_0, .slice A41_ X.length c42_, .slice A43_ Y.length c44_] 25)) (new_at _ (by simp)) (fun w52_ b_ f_ => ?_); have S53_ := Aside0.mk b_; have K54_ := Aside0.mk f_; clear b_ f_; refine (number_Canon.calls q3  a0_0 A25_ c26_ X A27_ c28_ Y  a0_0 X Y true _ (Kd.C_below (K29_.out) (below_step (below_step (S37_.out) S40_.out) S53_.out)) L30_.out (Kd.C_below (K31_.out) (below_step (below_step (S37_.out) S40_.out) S53_.out)) L32_.out  hF_).mono ?_; clear hF_; rintro e w55_ ⟨u_, v_, rfl, hS_, hR_, hb_⟩; obtain ⟨A57_, c58_, rfl⟩ := Kd.S_slice hS_; obtain ⟨A59_, c60_, rfl⟩ := Kd.R_slice hR_; have K61_ := Aside0.mk (Kd.R_reads' (Kd.S_R hS_)).2.2; have L62_ := Aside0.mk (Kd.R_reads' (Kd.S_R hS_)).2.1; have K63_ := Aside0.mk (Kd.R_reads' hR_).2.2; have L64_ := Aside0.mk (Kd.R_reads' hR_).2.1; clear hS_ hR_; have S56_ := Aside0.mk hb_; clear hb_; obtain ⟨c65_, c66_, c67_⟩ := cells3 (blk_below K38_.out (below_step (below_step (below_step (S40_.out) S53_.out) S56_.out) (below_alloc (Below.refl _ _) (.cells #[.int .i64 a0_0, .slice A57_ X.length c58_, .slice A59_ Y.length c60_] 25)))); obtain ⟨c68_, c69_, c70_⟩ := cells3 (blk_below K54_.out (below_step (S56_.out) (below_alloc (Below.refl _ _) (.cells #[.int .i64 a0_0, .slice A57_ X.length c58_, .slice A59_ Y.length c60_] 25))))) | (go_at_call 68; have hF_ := Zs1.out; clear Zs1; (try clear c65_ c66_ c67_ c68_ c69_ c70_); refine calls_new (v := w55_) (F := fun W => W.heap[w55_.heap.size]? = some (.cells #[.int .i64 a0_0, .slice A57_ X.length c58_, .slice A59_ Y.length c60_] 25 (0, 0))) (below_alloc (Below.refl _ _) (.cells #[.int .i64 a0_0, .slice A57_ X.length c58_, .slice A59_ Y.length c60_] 25)) (new_at _ (by simp)) (fun w71_ b_ f_ => ?_); have S72_ := Aside0.mk b_; have K73_ := Aside0.mk f_; clear b_ f_; refine (number_Same.calls  a0_0 A25_ c26_ X A27_ c28_ Y a0_0 A41_ c42_ X A43_ c44_ Y  true _ (Kd.C_below (K29_.out) (below_step (below_step (below_step (below_step (S37_.out) S40_.out) S53_.out) S56_.out) S72_.out)) L30_.out (Kd.C_below (K31_.out) (below_step (below_step (below_step (below_step (S37_.out) S40_.out) S53_.out) S56_.out) S72_.out)) L32_.out (Kd.C_below (K45_.out) (below_step (below_step (S53_.out) S56_.out) S72_.out)) L46_.out (Kd.C_below (K47_.out) (below_step (below_step (S53_.out) S56_.out) S72_.out)) L48_.out  hF_).mono ?_; clear hF_; rintro e w74_ ⟨rfl, hb_⟩; have S75_ := Aside0.mk hb_; clear hb_; obtain ⟨c76_, c77_, c78_⟩ := cells3 (blk_below K38_.out (below_step (below_step (below_step (below_step (S40_.out) S53_.out) S56_.out) S72_.out) S75_.out)); obtain ⟨c79_, c80_, c81_⟩ := cells3 (blk_below K73_.out (S75_.out))) | (go_at_call 68; have hF_ := Zs2.out; clear Zs2; (try clear c76_ c77_ c78_ c79_ c80_ c81_); refine (number_Same.calls  a0_0 A25_ c26_ X A27_ c28_ Y a0_0 A57_ c58_ X A59_ c60_ Y  true _ (Kd.C_below (K29_.out) (below_step (below_step (below_step (below_step (below_step (S37_.out) S40_.out) S53_.out) S56_.out) S72_.out) S75_.out)) L30_.out (Kd.C_below (K31_.out) (below_step (below_step (below_step (below_step (below_step (S37_.out) S40_.out) S53_.out) S56_.out) S72_.out) S75_.out)) L32_.out (Kd.C_below (K61_.out) (below_step (S72_.out) S75_.out)) L62_.out (Kd.C_below (K63_.out) (below_step (S72_.out) S75_.out)) L64_.out  hF_).mono ?_; clear hF_; rintro e w82_ ⟨rfl, hb_⟩; have S83_ := Aside0.mk hb_; clear hb_; obtain ⟨c84_, c85_, c86_⟩ := cells3 (blk_below K6_.out (below_step (below_step (below_step (below_step (below_step (below_step (below_step (below_step (below_step (below_step (S8_.out) S13_.out) SW.out) S24_.out) S37_.out) S40_.out) S53_.out) S56_.out) S72_.out) S75_.out) S83_.out)); obtain ⟨c87_, c88_, c89_⟩ := cells3 (blk_below HG.out (below_step (below_step (below_step (below_step (below_step (below_step (below_step (S24_.out) S37_.out) S40_.out) S53_.out) S56_.out) S72_.out) S75_.out) S83_.out))) | (go_at_call 70; have hF_ := Zs3.out; clear Zs3; (try clear c84_ c85_ c86_ c87_ c88_ c89_); refine (number_Alike.calls q4  a0_0 A0_1 c0_1 l0_1 A0_2 c0_2 l0_2 a0_0 U1 e1 XD U2 e2 YD  true _ (Kd.C_below (HR0_1.out) (below_step (below_step (below_step (below_step (below_step (below_step (below_step (below_step (below_step (below_step (below_step (S5_.out) S8_.out) S13_.out) SW.out) S24_.out) S37_.out) S40_.out) S53_.out) S56_.out) S72_.out) S75_.out) S83_.out)) hc0_1 (Kd.C_below (HR0_2.out) (below_step (below_step (below_step (below_step (below_step (below_step (below_step (below_step (below_step (below_step (below_step (S5_.out) S8_.out) S13_.out) SW.out) S24_.out) S37_.out) S40_.out) S53_.out) S56_.out) S72_.out) S75_.out) S83_.out)) hc0_2 (Kd.C_below ((Kd.R_reads' (Kd.S_R HS.out)).2.2) (below_step (below_step (below_step (below_step (below_step (below_step (below_step (S24_.out) S37_.out) S40_.out) S53_.out) S56_.out) S72_.out) S75_.out) S83_.out)) (Kd.R_reads' (Kd.S_R HS.out)).2.1 (Kd.C_below ((Kd.R_reads' HE.out).2.2) (below_step (below_step (below_step (below_step (below_step (below_step (below_step (S24_.out) S37_.out) S40_.out) S53_.out) S56_.out) S72_.out) S75_.out) S83_.out)) (Kd.R_reads' HE.out).2.1  hF_).mono ?_; clear hF_; rintro e w90_ ⟨rfl, hb_⟩; have S91_ := Aside0.mk hb_; clear hb_; obtain ⟨c92_, c93_, c94_⟩ := cells3 (blk_below K6_.out (below_step (below_step (below_step (below_step (below_step (below_step (below_step (below_step (below_step (below_step (below_step (S8_.out) S13_.out) SW.out) S24_.out) S37_.out) S40_.out) S53_.out) S56_.out) S72_.out) S75_.out) S83_.out) S91_.out))))
   have n3_ : (a0_0 = 0) = False := eq_false (by have h_ := ZA1.out; omega)
   have n4_ : (a0_0 == 0) = false := beq_eq_false_iff_ne.mpr (by have h_ := ZA1.out; omega)
   (try clear c92_ c93_ c94_)
   go_loopw [20, 21] (fun v_ u_ wr => ∃ i : Nat, i ≤ l2.length ∧ u_ = .int .i64 (i : Int) ∧ Aside0 (Kd.R (Kd.int .i64) 3 wr w90_.heap.size (fun _ => True) v_ (castL ((rowW a0_0 l2).take i))) ∧ Aside0 (Below w90_.heap.size w90_ wr)) (fun _ u_ _ => l2.length - (intOf u_).toNat)
   case atStart => exact ⟨0, Nat.zero_le _, rfl, ⟨Kd.R_nil _ _ _ _ _⟩, ⟨Below.refl _ _⟩⟩
   case round =>
    obtain ⟨i, hi, rfl, HL, HB⟩ := hrel
    by_cases hlt : i < l2.length
    ·have q1b : decide ((i : Int) < (l2.length : Int)) = true := decide_eq_true (by omega)
     have hll : (castL ((rowW a0_0 l2).take i)).length = i := by rw [castL_length, List.length_take, rowW_length]; omega
     obtain ⟨X, hX⟩ : ∃ X, X = castL ((rowW a0_0 l2).take i) := ⟨_, rfl⟩
     rw [← hX] at hll HL
     have HXX := Aside0.mk hX
     have HLL := Aside0.mk hll
     clear hX hll
     obtain ⟨Al, cl, rfl⟩ := Kd.R_slice HL.out
     obtain ⟨ad, e_, hx_⟩ := Kd.at_int (HRR.out) (i : Int) (by omega) (by omega)
     cases e_
     rw [rd_nat, Int.toNat_natCast] at hx_
     obtain ⟨x, hx⟩ : ∃ x, x = l2.getD i 0 := ⟨_, rfl⟩
     rw [← hx] at hx_
     have HX := Aside0.mk hx_
     have HXE := Aside0.mk hx
     clear hx_ hx
     have z1_ : ((0 : Int) ≤ (i : Int)) = True := eq_true (by omega)
     have z2_ : ((i : Int) < (l2.length : Int)) = True := eq_true (by omega)
     go_wp2
     refine start_ (n := 12) (S := fun w' => Below wr.heap.size wr w') (ds := [10]) #[false, false, false, false, false, false, false, false, false, false, false, false] (by kernel_rfl) rfl rfl (below_drew1 (Below.refl _ _)) (fun hHeld => ?_)
     refine with_tabW ncanon.tab29 ncanon.bits29 (fun HT_ HW_ => ?_)
     have HLd := Aside0.mk (Kd.R_drew HL.out)
     have HBd := Aside0.mk (below_drew1 HB.out)
     obtain ⟨wd, hwd⟩ : ∃ wd, wd = wr.drew := ⟨_, rfl⟩
     rw [← hwd] at HLd HBd hHeld ⊢
     clear hwd
     refine pure_ (i := 0) (N := some 163) (v := ?_) (a' := ?_) #[true, false, false, false, false, false, false, false, false, false, false, false] rfl rfl (any_of HT_.out (by kernel_rfl)) (fun _ _ _ h => h) (Or.inl ⟨by rfl, ?_⟩) ?_ ?_
     rotate_left
     ·intro w'
      go_simp
      with_reducible rfl
     rotate_left
     ·simp only [Act.put, List.setIfInBounds_toArray, List.set_cons_zero, List.set_cons_succ, i64_w, i32_w]
      rfl
     refine pure_ (i := 1) (N := some 164) (v := ?_) (a' := ?_) #[true, true, false, false, false, false, false, false, false, false, false, false] rfl rfl (any_of HT_.out (by kernel_rfl)) (fun _ _ _ h => h) (Or.inl ⟨by rfl, ?_⟩) ?_ ?_
     rotate_left
     ·intro w'
      go_simp
      with_reducible rfl
     rotate_left
     ·simp only [Act.put, List.setIfInBounds_toArray, List.set_cons_zero, List.set_cons_succ, i64_w, i32_w]
      rfl
     refine pure_ (i := 2) (N := some 165) (v := ?_) (a' := ?_) #[true, true, true, false, false, false, false, false, false, false, false, false] rfl rfl (any_of HT_.out (by kernel_rfl)) (fun _ _ _ h => h) (Or.inl ⟨by rfl, ?_⟩) ?_ ?_
     rotate_left
     ·intro w'
      go_simp
      with_reducible rfl
     rotate_left
     ·simp only [Act.put, List.setIfInBounds_toArray, List.set_cons_zero, List.set_cons_succ, i64_w, i32_w]
      rfl
     refine pure_ (i := 3) (N := some 166) (v := ?_) (a' := ?_) #[true, true, true, true, false, false, false, false, false, false, false, false] rfl rfl (any_of HT_.out (by kernel_rfl)) (fun _ _ _ h => h) (Or.inl ⟨by rfl, ?_⟩) ?_ ?_
     rotate_left
     ·intro w'
      go_simp
      with_reducible rfl
     rotate_left
     ·simp only [Act.put, List.setIfInBounds_toArray, List.set_cons_zero, List.set_cons_succ, i64_w, i32_w]
      rfl
     refine pure_ (i := 6) (N := some 169) (v := ?_) (a' := ?_) #[true, true, true, true, false, false, true, false, false, false, false, false] rfl rfl (any_of HT_.out (by kernel_rfl)) (fun _ _ _ h => h) (Or.inl ⟨by rfl, ?_⟩) ?_ ?_
     rotate_left
     ·intro w'
      go_simp
      with_reducible rfl
     rotate_left
     ·simp only [Act.put, List.setIfInBounds_toArray, List.set_cons_zero, List.set_cons_succ, i64_w, i32_w]
      rfl
     refine take_ (i := 4) (N := some 167) (v := ?_) (a' := ?_) #[true, true, true, true, true, false, true, false, false, false, false, false] rfl rfl (take_ofW HT_.out HW_.out (by kernel_rfl)) (fun _ _ _ h => h) (Or.inl ⟨by rfl, ?_⟩) hHeld ?_ ?_
     rotate_left
     ·intro w' s0
      have c_ := (Below.cell (below_step (below_step (below_step (below_step (below_step (below_step (below_step (below_step (below_step (below_step (below_step (below_step (below_step (S5_.out) S8_.out) S13_.out) SW.out) S24_.out) S37_.out) S40_.out) S53_.out) S56_.out) S72_.out) S75_.out) S83_.out) S91_.out) (below_step HB.out s0)) (World.block_lt_of_cell? _ _ HX.out)).trans HX.out
      clear s0
      go_simp
      with_reducible rfl
     rotate_left
     ·simp only [Act.put, List.setIfInBounds_toArray, List.set_cons_zero, List.set_cons_succ, i64_w, i32_w]
      rfl
     refine pure_ (i := 5) (N := some 168) (v := ?_) (a' := ?_) #[true, true, true, true, true, true, true, false, false, false, false, false] rfl rfl (any_of HT_.out (by kernel_rfl)) (fun _ _ _ h => h) (Or.inl ⟨by rfl, ?_⟩) ?_ ?_
     rotate_left
     ·intro w'
      go_simp
      with_reducible rfl
     rotate_left
     ·simp only [Act.put, List.setIfInBounds_toArray, List.set_cons_zero, List.set_cons_succ, i64_w, i32_w]
      rfl
     refine take_ (i := 7) (N := some 170) (v := ?_) (a' := ?_) #[true, true, true, true, true, true, true, true, false, false, false, false] rfl rfl (take_ofW HT_.out HW_.out (by kernel_rfl)) (fun _ _ _ h => h) (Or.inl ⟨by rfl, ?_⟩) hHeld ?_ ?_
     rotate_left
     ·intro w' s0
      have c_ : w'.cell? ⟨w.heap.size, 0, none⟩ = some (.int .i64 a0_0) := (blk_cell (blk_below K6_.out (below_step (below_step (below_step (below_step (below_step (below_step (below_step (below_step (below_step (below_step (below_step (below_step (S8_.out) S13_.out) SW.out) S24_.out) S37_.out) S40_.out) S53_.out) S56_.out) S72_.out) S75_.out) S83_.out) S91_.out) (below_step HB.out s0))) 0).trans rfl
      clear s0
      go_simp
      with_reducible rfl
     rotate_left
     ·simp only [Act.put, List.setIfInBounds_toArray, List.set_cons_zero, List.set_cons_succ, i64_w, i32_w]
      rfl
     refine pure_ (i := 8) (N := some 171) (v := ?_) (a' := ?_) #[true, true, true, true, true, true, true, true, true, false, false, false] rfl rfl (any_of HT_.out (by kernel_rfl)) (fun _ _ _ h => h) (Or.inl ⟨by rfl, ?_⟩) ?_ ?_
     rotate_left
     ·intro w'
      go_simp
      with_reducible rfl
     rotate_left
     ·simp only [Act.put, List.setIfInBounds_toArray, List.set_cons_zero, List.set_cons_succ, i64_w, i32_w]
      rfl
     refine one_ (i := 9) (N := some 172) #[true, true, true, true, true, true, true, true, true, true, false, false] rfl rfl (one_of HT_.out (by kernel_rfl)) (by decide) (fun K hK => ?_)
     refine value_ (w1 := ?_) (v := ?_) (by rfl) rfl ?_ ?_
     rotate_left 2
     ·go_simp
      constructor
      ·rfl
      ·rfl
     refine hK.out _ _ (below_alloc hHeld _) (fun hHeld => ?_)
     clear hK K
     refine norm_ (a' := ?_) ?_ ?_
     rotate_left
     ·show Act.put _ (some 172) _ = _
      simp only [Act.put, List.setIfInBounds_toArray, List.set_cons_zero, List.set_cons_succ, i64_w, i32_w]
      rfl
     refine last_ (i := 10) (N := some 173) #[true, true, true, true, true, true, true, true, true, true, true, false] rfl rfl (one_of HT_.out (by kernel_rfl)) (by decide) (fun K hK => ?_)
     refine Kd.R_append_step (Kd.int .i64) (w0 := w90_) w90_.heap.size (by rfl) (.tmp 163) (.tmp 172) 45 3 (.int .i64 0) 8 rfl Try.underlying45 info3 rfl (by decide) (by omega) (.slice Al X.length cl) X (Int.tmod (wrap64 x) a0_0) [.int .i64 (Int.tmod (wrap64 x) a0_0)] (fun _ => True) (fun _ => False) rfl (by first | rfl | (rw [World.size_alloc]; rfl)) ?aP (fun _ hk => hk.elim) ?aF ?aO ?aB ?aS ?aL ?_
     (case aP => exact rfl)
     (case aB => exact HBd.out)
     (case aF => exact (fun _ _ => trivial))
     (case aO => exact HLd.out)
     (case aS => exact below_size HBd.out)
     (case aL => have h_ := HLL.out; omega)
     intro v25 w25 ho hb hg hat
     have HL6 := Aside0.mk ho
     have HB6 := Aside0.mk hb
     clear ho hb hg hat
     refine hK.out _ _ ?_
     clear hK K
     refine norm_ (a' := ?_) ?_ ?_
     rotate_left
     ·show Act.put _ (some 173) _ = _
      simp only [Act.put, List.setIfInBounds_toArray, List.set_cons_zero, List.set_cons_succ, i64_w, i32_w]
      rfl
     refine pure_ (i := 11) (N := some 20) (v := ?_) (a' := ?_) #[true, true, true, true, true, true, true, true, true, true, true, true] rfl rfl (any_of HT_.out (by kernel_rfl)) (fun _ _ _ h => h) (Or.inl ⟨by rfl, ?_⟩) ?_ ?_
     rotate_left
     ·intro w'
      go_simp
      with_reducible rfl
     rotate_left
     ·simp only [Act.put, List.setIfInBounds_toArray, List.set_cons_zero, List.set_cons_succ, i64_w, i32_w]
      rfl
     refine done_ (done_of HT_.out (by kernel_rfl)) ?_
     go_wp2
     go_roundw
     case rel => exact ⟨i + 1, hlt, by go_num, ⟨by rw [rowW_step ZA1.out ZWL.out hlt, ← HXX.out, ← HXE.out]; exact HL6.out⟩, HB6⟩
     case measure => simp [intOf]; omega
    ·have q1b : decide ((i : Int) < (l2.length : Int)) = false := decide_eq_false (by omega)
     have q1c : (i < l2.length) = False := eq_false (by omega)
     obtain rfl : i = l2.length := by omega
     obtain ⟨w96_, rfl⟩ : ∃ y, y = wr := ⟨wr, rfl⟩
     have S95_ := HB
     obtain ⟨X99_, hX⟩ : ∃ X, X = castL (rowW a0_0 l2) := ⟨_, rfl⟩
     rw [List.take_of_length_le (by rw [rowW_length]; exact Nat.le_refl _), ← hX] at HL
     rw [← hX] at Zt0 Zt1 Zt2
     clear hX
     obtain ⟨A100_, c101_, rfl⟩ := Kd.R_slice HL.out
     have K97_ := Aside0.mk (Kd.R_reads' HL.out).2.2
     have L98_ := Aside0.mk (Kd.R_reads' HL.out).2.1
     clear HL HB
     go_wp2
     have Zt3 := Zt1
     refine start_ (n := 20) (S := fun w' => Below w96_.heap.size w96_ w') (ds := []) #[false, false, false, false, false, false, false, false, false, false, false, false, false, false, false, false, false, false, false, false] (by kernel_rfl) rfl rfl (below_drew1 (Below.refl _ _)) (fun hHeld => ?_)
     refine with_tabW ncanon.tab30 ncanon.bits30 (fun HT_ HW_ => ?_)
     have S103_ := Aside0.mk hHeld
     obtain ⟨w102_, hx_⟩ : ∃ x, x = w96_.drew := ⟨_, rfl⟩
     rw [← hx_] at hHeld S103_ ⊢
     clear hx_
     refine pure_ (i := 1) (N := some 175) (v := ?_) (a' := ?_) #[false, true, false, false, false, false, false, false, false, false, false, false, false, false, false, false, false, false, false, false] rfl rfl (any_of HT_.out (by kernel_rfl)) (fun _ _ _ h => h) (Or.inl ⟨by rfl, ?_⟩) ?_ ?_
     rotate_left
     ·intro w'
      go_simp
      with_reducible rfl
     rotate_left
     ·simp only [Act.put, List.setIfInBounds_toArray, List.set_cons_zero, List.set_cons_succ, i64_w, i32_w]
      rfl
     refine pure_ (i := 4) (N := some 178) (v := ?_) (a' := ?_) #[false, true, false, false, true, false, false, false, false, false, false, false, false, false, false, false, false, false, false, false] rfl rfl (any_of HT_.out (by kernel_rfl)) (fun _ _ _ h => h) (Or.inl ⟨by rfl, ?_⟩) ?_ ?_
     rotate_left
     ·intro w'
      go_simp
      with_reducible rfl
     rotate_left
     ·simp only [Act.put, List.setIfInBounds_toArray, List.set_cons_zero, List.set_cons_succ, i64_w, i32_w]
      rfl
     refine take_ (i := 0) (N := some 174) (v := ?_) (a' := ?_) #[true, true, false, false, true, false, false, false, false, false, false, false, false, false, false, false, false, false, false, false] rfl rfl (take_ofW HT_.out HW_.out (by kernel_rfl)) (fun _ _ _ h => h) (Or.inl ⟨by rfl, ?_⟩) hHeld ?_ ?_
     rotate_left
     ·intro w' s0
      have c0_ : w'.cell? ⟨w.heap.size, 0, none⟩ = some (.int .i64 a0_0) := (blk_cell (blk_below K6_.out (below_step (below_step (below_step (below_step (below_step (below_step (below_step (below_step (below_step (below_step (below_step (below_step (below_step (S8_.out) S13_.out) SW.out) S24_.out) S37_.out) S40_.out) S53_.out) S56_.out) S72_.out) S75_.out) S83_.out) S91_.out) S95_.out) (s0))) 0).trans rfl
      have c1_ : w'.cell? ⟨w.heap.size, 1, none⟩ = some (.slice A0_1 l0_1.length c0_1) := (blk_cell (blk_below K6_.out (below_step (below_step (below_step (below_step (below_step (below_step (below_step (below_step (below_step (below_step (below_step (below_step (below_step (S8_.out) S13_.out) SW.out) S24_.out) S37_.out) S40_.out) S53_.out) S56_.out) S72_.out) S75_.out) S83_.out) S91_.out) S95_.out) (s0))) 1).trans rfl
      have c2_ : w'.cell? ⟨w.heap.size, 2, none⟩ = some (.slice A0_2 l0_2.length c0_2) := (blk_cell (blk_below K6_.out (below_step (below_step (below_step (below_step (below_step (below_step (below_step (below_step (below_step (below_step (below_step (below_step (below_step (S8_.out) S13_.out) SW.out) S24_.out) S37_.out) S40_.out) S53_.out) S56_.out) S72_.out) S75_.out) S83_.out) S91_.out) S95_.out) (s0))) 2).trans rfl
      clear s0
      go_simp
      with_reducible rfl
     rotate_left
     ·simp only [Act.put, List.setIfInBounds_toArray, List.set_cons_zero, List.set_cons_succ, i64_w, i32_w]
      rfl
     refine take_ (i := 3) (N := some 177) (v := ?_) (a' := ?_) #[true, true, false, true, true, false, false, false, false, false, false, false, false, false, false, false, false, false, false, false] rfl rfl (take_ofW HT_.out HW_.out (by kernel_rfl)) (fun _ _ _ h => h) (Or.inl ⟨by rfl, ?_⟩) hHeld ?_ ?_
     rotate_left
     ·intro w' s0
      have c0_ : w'.cell? ⟨w23_.heap.size, 0, none⟩ = some (.int .i64 a0_0) := (blk_cell (blk_below K38_.out (below_step (below_step (below_step (below_step (below_step (below_step (below_step (below_step (S40_.out) S53_.out) S56_.out) S72_.out) S75_.out) S83_.out) S91_.out) S95_.out) (s0))) 0).trans rfl
      have c1_ : w'.cell? ⟨w23_.heap.size, 1, none⟩ = some (.slice A25_ X.length c26_) := (blk_cell (blk_below K38_.out (below_step (below_step (below_step (below_step (below_step (below_step (below_step (below_step (S40_.out) S53_.out) S56_.out) S72_.out) S75_.out) S83_.out) S91_.out) S95_.out) (s0))) 1).trans rfl
      have c2_ : w'.cell? ⟨w23_.heap.size, 2, none⟩ = some (.slice A27_ Y.length c28_) := (blk_cell (blk_below K38_.out (below_step (below_step (below_step (below_step (below_step (below_step (below_step (below_step (S40_.out) S53_.out) S56_.out) S72_.out) S75_.out) S83_.out) S91_.out) S95_.out) (s0))) 2).trans rfl
      clear s0
      go_simp
      with_reducible rfl
     rotate_left
     ·simp only [Act.put, List.setIfInBounds_toArray, List.set_cons_zero, List.set_cons_succ, i64_w, i32_w]
      rfl
     refine one_ (i := 2) (N := some 176) #[true, true, true, true, true, false, false, false, false, false, false, false, false, false, false, false, false, false, false, false] rfl rfl (one_of HT_.out (by kernel_rfl)) (by decide) (fun K hK => ?_)
     refine goes_ Try.func56 (by kernel_rfl) rfl #[.agg #[.int .i64 a0_0, .slice A0_1 l0_1.length c0_1, .slice A0_2 l0_2.length c0_2], .slice A100_ X99_.length c101_] (by rfl) rfl rfl (by simp only [List.map_toArray, List.map_cons, List.map_nil]; rfl) ?_
     refine (subset_Takes.calls p0  a0_0 A0_1 c0_1 l0_1 A0_2 c0_2 l0_2 A100_ c101_ X99_ tx _ (Kd.C_below (HR0_1.out) (below_step (below_step (below_step (below_step (below_step (below_step (below_step (below_step (below_step (below_step (below_step (below_step (below_step (below_step (S5_.out) S8_.out) S13_.out) SW.out) S24_.out) S37_.out) S40_.out) S53_.out) S56_.out) S72_.out) S75_.out) S83_.out) S91_.out) S95_.out) S103_.out)) hc0_1 (Kd.C_below (HR0_2.out) (below_step (below_step (below_step (below_step (below_step (below_step (below_step (below_step (below_step (below_step (below_step (below_step (below_step (below_step (S5_.out) S8_.out) S13_.out) SW.out) S24_.out) S37_.out) S40_.out) S53_.out) S56_.out) S72_.out) S75_.out) S83_.out) S91_.out) S95_.out) S103_.out)) hc0_2 (Kd.C_below K97_.out (S103_.out)) L98_.out Zt0.out).mono ?_
     rintro e w104_ ⟨rfl, hb_⟩
     refine ⟨_, rfl, ?_⟩
     have S105_ := Aside0.mk (hb_)
     refine hK.out _ _ (below_step hHeld hb_) (fun hHeld => ?_)
     clear hK K
     refine norm_ (a' := ?_) ?_ ?_
     rotate_left
     ·show Act.put _ (some 176) _ = _
      simp only [Act.put, List.setIfInBounds_toArray, List.set_cons_zero, List.set_cons_succ, i64_w, i32_w]
      rfl
     refine one_ (i := 5) (N := some 179) #[true, true, true, true, true, true, false, false, false, false, false, false, false, false, false, false, false, false, false, false] rfl rfl (one_of HT_.out (by kernel_rfl)) (by decide) (fun K hK => ?_)
     refine goes_ Try.func56 (by kernel_rfl) rfl #[.agg #[.int .i64 a0_0, .slice A25_ X.length c26_, .slice A27_ Y.length c28_], .slice A100_ X99_.length c101_] (by rfl) rfl rfl (by simp only [List.map_toArray, List.map_cons, List.map_nil]; rfl) ?_
     refine (subset_Takes.calls p1  a0_0 A25_ c26_ X A27_ c28_ Y A100_ c101_ X99_ tx _ (Kd.C_below (K29_.out) (below_step (below_step (below_step (below_step (below_step (below_step (below_step (below_step (below_step (below_step (S37_.out) S40_.out) S53_.out) S56_.out) S72_.out) S75_.out) S83_.out) S91_.out) S95_.out) S103_.out) S105_.out)) L30_.out (Kd.C_below (K31_.out) (below_step (below_step (below_step (below_step (below_step (below_step (below_step (below_step (below_step (below_step (S37_.out) S40_.out) S53_.out) S56_.out) S72_.out) S75_.out) S83_.out) S91_.out) S95_.out) S103_.out) S105_.out)) L32_.out (Kd.C_below K97_.out (below_step (S103_.out) S105_.out)) L98_.out Zt1.out).mono ?_
     rintro e w106_ ⟨rfl, hb_⟩
     refine ⟨_, rfl, ?_⟩
     have S107_ := Aside0.mk (hb_)
     refine hK.out _ _ (below_step hHeld hb_) (fun hHeld => ?_)
     clear hK K
     refine norm_ (a' := ?_) ?_ ?_
     rotate_left
     ·show Act.put _ (some 179) _ = _
      simp only [Act.put, List.setIfInBounds_toArray, List.set_cons_zero, List.set_cons_succ, i64_w, i32_w]
      rfl
     refine pure_ (i := 6) (N := some 180) (v := ?_) (a' := ?_) #[true, true, true, true, true, true, true, false, false, false, false, false, false, false, false, false, false, false, false, false] rfl rfl (any_of HT_.out (by kernel_rfl)) (fun _ _ _ h => h) (Or.inl ⟨by rfl, ?_⟩) ?_ ?_
     rotate_left
     ·intro w'
      go_simp
      with_reducible rfl
     rotate_left
     ·simp only [Act.put, List.setIfInBounds_toArray, List.set_cons_zero, List.set_cons_succ, i64_w, i32_w]
      rfl
     refine pure_ (i := 7) (N := some 181) (v := ?_) (a' := ?_) #[true, true, true, true, true, true, true, true, false, false, false, false, false, false, false, false, false, false, false, false] rfl rfl (any_of HT_.out (by kernel_rfl)) (fun _ _ _ h => h) (Or.inl ⟨by rfl, ?_⟩) ?_ ?_
     rotate_left
     ·intro w'
      go_simp
      with_reducible rfl
     rotate_left
     ·simp only [Act.put, List.setIfInBounds_toArray, List.set_cons_zero, List.set_cons_succ, i64_w, i32_w]
      rfl
     refine pure_ (i := 9) (N := some 183) (v := ?_) (a' := ?_) #[true, true, true, true, true, true, true, true, false, true, false, false, false, false, false, false, false, false, false, false] rfl rfl (any_of HT_.out (by kernel_rfl)) (fun _ _ _ h => h) (Or.inl ⟨by rfl, ?_⟩) ?_ ?_
     rotate_left
     ·intro w'
      go_simp
      with_reducible rfl
     rotate_left
     ·simp only [Act.put, List.setIfInBounds_toArray, List.set_cons_zero, List.set_cons_succ, i64_w, i32_w]
      rfl
     refine pure_ (i := 12) (N := some 186) (v := ?_) (a' := ?_) #[true, true, true, true, true, true, true, true, false, true, false, false, true, false, false, false, false, false, false, false] rfl rfl (any_of HT_.out (by kernel_rfl)) (fun _ _ _ h => h) (Or.inl ⟨by rfl, ?_⟩) ?_ ?_
     rotate_left
     ·intro w'
      go_simp
      with_reducible rfl
     rotate_left
     ·simp only [Act.put, List.setIfInBounds_toArray, List.set_cons_zero, List.set_cons_succ, i64_w, i32_w]
      rfl
     refine take_ (i := 8) (N := some 182) (v := ?_) (a' := ?_) #[true, true, true, true, true, true, true, true, true, true, false, false, true, false, false, false, false, false, false, false] rfl rfl (take_ofW HT_.out HW_.out (by kernel_rfl)) (fun _ _ _ h => h) (Or.inl ⟨by rfl, ?_⟩) hHeld ?_ ?_
     rotate_left
     ·intro w' s0
      have c0_ : w'.cell? ⟨w12_.heap.size, 0, none⟩ = some (.int .i64 a0_0) := (blk_cell (blk_below HG.out (below_step (below_step (below_step (below_step (below_step (below_step (below_step (below_step (below_step (below_step (S24_.out) S37_.out) S40_.out) S53_.out) S56_.out) S72_.out) S75_.out) S83_.out) S91_.out) S95_.out) (s0))) 0).trans rfl
      have c1_ : w'.cell? ⟨w12_.heap.size, 1, none⟩ = some (.slice U1 XD.length e1) := (blk_cell (blk_below HG.out (below_step (below_step (below_step (below_step (below_step (below_step (below_step (below_step (below_step (below_step (S24_.out) S37_.out) S40_.out) S53_.out) S56_.out) S72_.out) S75_.out) S83_.out) S91_.out) S95_.out) (s0))) 1).trans rfl
      have c2_ : w'.cell? ⟨w12_.heap.size, 2, none⟩ = some (.slice U2 YD.length e2) := (blk_cell (blk_below HG.out (below_step (below_step (below_step (below_step (below_step (below_step (below_step (below_step (below_step (below_step (S24_.out) S37_.out) S40_.out) S53_.out) S56_.out) S72_.out) S75_.out) S83_.out) S91_.out) S95_.out) (s0))) 2).trans rfl
      clear s0
      go_simp
      with_reducible rfl
     rotate_left
     ·simp only [Act.put, List.setIfInBounds_toArray, List.set_cons_zero, List.set_cons_succ, i64_w, i32_w]
      rfl
     refine take_ (i := 11) (N := some 185) (v := ?_) (a' := ?_) #[true, true, true, true, true, true, true, true, true, true, false, true, true, false, false, false, false, false, false, false] rfl rfl (take_ofW HT_.out HW_.out (by kernel_rfl)) (fun _ _ _ h => h) (Or.inl ⟨by rfl, ?_⟩) hHeld ?_ ?_
     rotate_left
     ·intro w' s0
      have c0_ : w'.cell? ⟨w23_.heap.size, 0, none⟩ = some (.int .i64 a0_0) := (blk_cell (blk_below K38_.out (below_step (below_step (below_step (below_step (below_step (below_step (below_step (below_step (S40_.out) S53_.out) S56_.out) S72_.out) S75_.out) S83_.out) S91_.out) S95_.out) (s0))) 0).trans rfl
      have c1_ : w'.cell? ⟨w23_.heap.size, 1, none⟩ = some (.slice A25_ X.length c26_) := (blk_cell (blk_below K38_.out (below_step (below_step (below_step (below_step (below_step (below_step (below_step (below_step (S40_.out) S53_.out) S56_.out) S72_.out) S75_.out) S83_.out) S91_.out) S95_.out) (s0))) 1).trans rfl
      have c2_ : w'.cell? ⟨w23_.heap.size, 2, none⟩ = some (.slice A27_ Y.length c28_) := (blk_cell (blk_below K38_.out (below_step (below_step (below_step (below_step (below_step (below_step (below_step (below_step (S40_.out) S53_.out) S56_.out) S72_.out) S75_.out) S83_.out) S91_.out) S95_.out) (s0))) 2).trans rfl
      clear s0
      go_simp
      with_reducible rfl
     rotate_left
     ·simp only [Act.put, List.setIfInBounds_toArray, List.set_cons_zero, List.set_cons_succ, i64_w, i32_w]
      rfl
     refine one_ (i := 10) (N := some 184) #[true, true, true, true, true, true, true, true, true, true, true, true, true, false, false, false, false, false, false, false] rfl rfl (one_of HT_.out (by kernel_rfl)) (by decide) (fun K hK => ?_)
     refine goes_ Try.func56 (by kernel_rfl) rfl #[.agg #[.int .i64 a0_0, .slice U1 XD.length e1, .slice U2 YD.length e2], .slice A100_ X99_.length c101_] (by rfl) rfl rfl (by simp only [List.map_toArray, List.map_cons, List.map_nil]; rfl) ?_
     refine (subset_Takes.calls p2  a0_0 U1 e1 XD U2 e2 YD A100_ c101_ X99_ tx _ (Kd.C_below ((Kd.R_reads' (Kd.S_R HS.out)).2.2) (below_step (below_step (below_step (below_step (below_step (below_step (below_step (below_step (below_step (below_step (below_step (below_step (S24_.out) S37_.out) S40_.out) S53_.out) S56_.out) S72_.out) S75_.out) S83_.out) S91_.out) S95_.out) S103_.out) S105_.out) S107_.out)) (Kd.R_reads' (Kd.S_R HS.out)).2.1 (Kd.C_below ((Kd.R_reads' HE.out).2.2) (below_step (below_step (below_step (below_step (below_step (below_step (below_step (below_step (below_step (below_step (below_step (below_step (S24_.out) S37_.out) S40_.out) S53_.out) S56_.out) S72_.out) S75_.out) S83_.out) S91_.out) S95_.out) S103_.out) S105_.out) S107_.out)) (Kd.R_reads' HE.out).2.1 (Kd.C_below K97_.out (below_step (below_step (S103_.out) S105_.out) S107_.out)) L98_.out Zt2.out).mono ?_
     rintro e w108_ ⟨rfl, hb_⟩
     refine ⟨_, rfl, ?_⟩
     have S109_ := Aside0.mk (hb_)
     refine hK.out _ _ (below_step hHeld hb_) (fun hHeld => ?_)
     clear hK K
     refine norm_ (a' := ?_) ?_ ?_
     rotate_left
     ·show Act.put _ (some 184) _ = _
      simp only [Act.put, List.setIfInBounds_toArray, List.set_cons_zero, List.set_cons_succ, i64_w, i32_w]
      rfl
     refine one_ (i := 13) (N := some 187) #[true, true, true, true, true, true, true, true, true, true, true, true, true, true, false, false, false, false, false, false] rfl rfl (one_of HT_.out (by kernel_rfl)) (by decide) (fun K hK => ?_)
     refine goes_ Try.func56 (by kernel_rfl) rfl #[.agg #[.int .i64 a0_0, .slice A25_ X.length c26_, .slice A27_ Y.length c28_], .slice A100_ X99_.length c101_] (by rfl) rfl rfl (by simp only [List.map_toArray, List.map_cons, List.map_nil]; rfl) ?_
     refine (subset_Takes.calls p1  a0_0 A25_ c26_ X A27_ c28_ Y A100_ c101_ X99_ tx _ (Kd.C_below (K29_.out) (below_step (below_step (below_step (below_step (below_step (below_step (below_step (below_step (below_step (below_step (below_step (below_step (S37_.out) S40_.out) S53_.out) S56_.out) S72_.out) S75_.out) S83_.out) S91_.out) S95_.out) S103_.out) S105_.out) S107_.out) S109_.out)) L30_.out (Kd.C_below (K31_.out) (below_step (below_step (below_step (below_step (below_step (below_step (below_step (below_step (below_step (below_step (below_step (below_step (S37_.out) S40_.out) S53_.out) S56_.out) S72_.out) S75_.out) S83_.out) S91_.out) S95_.out) S103_.out) S105_.out) S107_.out) S109_.out)) L32_.out (Kd.C_below K97_.out (below_step (below_step (below_step (S103_.out) S105_.out) S107_.out) S109_.out)) L98_.out Zt3.out).mono ?_
     rintro e w110_ ⟨rfl, hb_⟩
     refine ⟨_, rfl, ?_⟩
     have S111_ := Aside0.mk (hb_)
     refine hK.out _ _ (below_step hHeld hb_) (fun hHeld => ?_)
     clear hK K
     refine norm_ (a' := ?_) ?_ ?_
     rotate_left
     ·show Act.put _ (some 187) _ = _
      simp only [Act.put, List.setIfInBounds_toArray, List.set_cons_zero, List.set_cons_succ, i64_w, i32_w]
      rfl
     refine pure_ (i := 14) (N := some 188) (v := ?_) (a' := ?_) #[true, true, true, true, true, true, true, true, true, true, true, true, true, true, true, false, false, false, false, false] rfl rfl (any_of HT_.out (by kernel_rfl)) (fun _ _ _ h => h) (Or.inl ⟨by rfl, ?_⟩) ?_ ?_
     rotate_left
     ·intro w'
      go_simp
      with_reducible rfl
     rotate_left
     ·simp only [Act.put, List.setIfInBounds_toArray, List.set_cons_zero, List.set_cons_succ, i64_w, i32_w]
      rfl
     refine pure_ (i := 15) (N := some 189) (v := ?_) (a' := ?_) #[true, true, true, true, true, true, true, true, true, true, true, true, true, true, true, true, false, false, false, false] rfl rfl (any_of HT_.out (by kernel_rfl)) (fun _ _ _ h => h) (Or.inl ⟨by rfl, ?_⟩) ?_ ?_
     rotate_left
     ·intro w'
      go_simp
      with_reducible rfl
     rotate_left
     ·simp only [Act.put, List.setIfInBounds_toArray, List.set_cons_zero, List.set_cons_succ, i64_w, i32_w]
      rfl
     refine pure_ (i := 16) (N := some 190) (v := ?_) (a' := ?_) #[true, true, true, true, true, true, true, true, true, true, true, true, true, true, true, true, true, false, false, false] rfl rfl (any_of HT_.out (by kernel_rfl)) (fun _ _ _ h => h) (Or.inl ⟨by rfl, ?_⟩) ?_ ?_
     rotate_left
     ·intro w'
      go_simp
      with_reducible rfl
     rotate_left
     ·simp only [Act.put, List.setIfInBounds_toArray, List.set_cons_zero, List.set_cons_succ, i64_w, i32_w]
      rfl
     refine one_ (i := 17) (N := some 191) #[true, true, true, true, true, true, true, true, true, true, true, true, true, true, true, true, true, true, false, false] rfl rfl (one_of HT_.out (by kernel_rfl)) (by decide) (fun K hK => ?_)
     refine goes_ Try.func63 (by kernel_rfl) rfl #[] (by rfl) rfl rfl (by simp only [List.map_toArray, List.map_cons, List.map_nil]) ?_
     refine (caesuralaw22_wakes.calls kw    true _   ZW.out).mono ?_
     rintro e w112_ ⟨rfl, hb_⟩
     refine ⟨_, rfl, ?_⟩
     have S113_ := Aside0.mk (hb_)
     refine hK.out _ _ (below_step hHeld hb_) (fun hHeld => ?_)
     clear hK K
     refine norm_ (a' := ?_) ?_ ?_
     rotate_left
     ·show Act.put _ (some 191) _ = _
      simp only [Act.put, List.setIfInBounds_toArray, List.set_cons_zero, List.set_cons_succ, i64_w, i32_w]
      rfl
     refine pure_ (i := 18) (N := some 192) (v := ?_) (a' := ?_) #[true, true, true, true, true, true, true, true, true, true, true, true, true, true, true, true, true, true, true, false] rfl rfl (any_of HT_.out (by kernel_rfl)) (fun _ _ _ h => h) (Or.inl ⟨by rfl, ?_⟩) ?_ ?_
     rotate_left
     ·intro w'
      go_simp
      with_reducible rfl
     rotate_left
     ·simp only [Act.put, List.setIfInBounds_toArray, List.set_cons_zero, List.set_cons_succ, i64_w, i32_w]
      rfl
     refine pure_ (i := 19) (N := some 6) (v := ?_) (a' := ?_) #[true, true, true, true, true, true, true, true, true, true, true, true, true, true, true, true, true, true, true, true] rfl rfl (any_of HT_.out (by kernel_rfl)) (fun _ _ _ h => h) (Or.inl ⟨by rfl, ?_⟩) ?_ ?_
     rotate_left
     ·intro w'
      go_simp
      with_reducible rfl
     rotate_left
     ·simp only [Act.put, List.setIfInBounds_toArray, List.set_cons_zero, List.set_cons_succ, i64_w, i32_w]
      rfl
     refine done_ (done_of HT_.out (by kernel_rfl)) ?_
     go_wp2
     go_ret
     exact ⟨rfl, below_step (below_step (below_step (below_step (below_step (below_step (below_step (below_step (below_step (below_step (below_step (below_step (below_step (below_step (below_step (below_step (below_step (below_step (below_step (S5_.out) S8_.out) S13_.out) SW.out) S24_.out) S37_.out) S40_.out) S53_.out) S56_.out) S72_.out) S75_.out) S83_.out) S91_.out) S95_.out) S103_.out) S105_.out) S107_.out) S109_.out) S111_.out) S113_.out⟩

end Go.Proofs.Ytelkjbacdpmnfaa.A
