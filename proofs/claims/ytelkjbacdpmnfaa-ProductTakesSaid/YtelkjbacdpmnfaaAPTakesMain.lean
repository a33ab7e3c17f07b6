/- By a program, out of the translation (wip/myprint.py). -/
import Derived.Test.YtelkjbacdpmnfaaA0
import Derived.Test.YtelkjbacdpmnfaaACaesuralaw21Light
import Derived.Test.YtelkjbacdpmnfaaACaesuralaw24Wakes
import Derived.Test.YtelkjbacdpmnfaaACaesuraref19Good
import Derived.Test.YtelkjbacdpmnfaaANumberAlike
import Derived.Test.YtelkjbacdpmnfaaAPlainAut
import Derived.Test.YtelkjbacdpmnfaaAPlainGood
import Derived.Test.YtelkjbacdpmnfaaAPlainRowOf
import Derived.Test.YtelkjbacdpmnfaaAProductBoth
import Derived.Test.YtelkjbacdpmnfaaAProductLess
import Derived.Test.YtelkjbacdpmnfaaAProductNot
import Derived.Test.YtelkjbacdpmnfaaAProductSome
import Derived.Test.YtelkjbacdpmnfaaASubsetTakes
import Derived.Test.YtelkjbacdpmnfaaAWordsA
import Derived.Test.YtelkjbacdpmnfaaAWordsB
namespace Go.Proofs.Ytelkjbacdpmnfaa.A
open Go.RowKit Go.Proofs.YtelkjbacdpmnfaaW.PrintWords Go.Proofs.YtelkjbacdpmnfaaW.PrintLast Go.Proofs.YtelkjbacdpmnfaaW.PrintMore
attribute [local go_sem] max2_int min2_int max_two min_two max_three min_three max_four min_four   -- for this text's walks alone
set_option linter.unusedVariables false
set_option linter.unusedSimpArgs false

/-! the walk of ProductTakes (printed by gen_ptakes.py) -/
set_option maxHeartbeats 8000000 in
set_option maxRecDepth 100000 in
theorem ptakes_short0 (k0 k1 k2 k3 kw : Nat) (a0_0 : Int) (A0_1 : Option Addr) (c0_1 : Nat) (l0_1 : List (List Int)) (A0_2 : Option Addr) (c0_2 : Nat) (l0_2 : List Bool) (a1_0 : Int) (A1_1 : Option Addr) (c1_1 : Nat) (l1_1 : List (List Int)) (A1_2 : Option Addr) (c1_2 : Nat) (l1_2 : List Bool) (A2 : Option Addr) (c2 : Nat) (l2 : List Int) (w : World) (hr0_1 : Kd.C (Kd.slice 3 (Kd.int .i64)) w A0_1 l0_1.length l0_1) (hc0_1 : l0_1.length ≤ c0_1) (hr0_2 : Kd.C Kd.bool w A0_2 l0_2.length l0_2) (hc0_2 : l0_2.length ≤ c0_2) (hr1_1 : Kd.C (Kd.slice 3 (Kd.int .i64)) w A1_1 l1_1.length l1_1) (hc1_1 : l1_1.length ≤ c1_1) (hr1_2 : Kd.C Kd.bool w A1_2 l1_2.length l1_2) (hc1_2 : l1_2.length ≤ c1_2) (h0 : caesuralaw21_Light.f k0 a0_0 l0_1 l0_2 = some false)  (hw : caesuralaw24_wakes.f kw = some true) :
  Calls Try.prog 20 #[.agg #[.int .i64 a0_0, .slice A0_1 l0_1.length c0_1, .slice A0_2 l0_2.length c0_2], .agg #[.int .i64 a1_0, .slice A1_1 l1_1.length c1_1, .slice A1_2 l1_2.length c1_2], .slice A2 l2.length c2] w fun e w' => e = .returned (.bool true) ∧ Below w.heap.size w w' := by
 have hu25 := Try.underlying25
 have hu45 := Try.underlying45
 have hu22 := Try.underlying22
 have hu23 := Try.underlying23
 have HR0_1 := Aside0.mk hr0_1
 have HR0_2 := Aside0.mk hr0_2
 clear hr0_1 hr0_2
 have HR1_1 := Aside0.mk hr1_1
 have HR1_2 := Aside0.mk hr1_2
 clear hr1_1 hr1_2
 have Zl0 := Aside0.mk h0
 clear h0
 have ZW := Aside0.mk hw
 clear hw
 obtain ⟨c1_, c2_, c3_⟩ := cells3 (show ((w.alloc (.cells #[.int .i64 a0_0, .slice A0_1 l0_1.length c0_1, .slice A0_2 l0_2.length c0_2] 25)).alloc (.cells #[.int .i64 a1_0, .slice A1_1 l1_1.length c1_1, .slice A1_2 l1_2.length c1_2] 25)).heap[w.heap.size]? = some (.cells #[.int .i64 a0_0, .slice A0_1 l0_1.length c0_1, .slice A0_2 l0_2.length c0_2] 25 (0, 0)) from blk_alloc (new_at _ (by simp)) _)
 go_enter Try.func20, Try.ntmps20
 go_wp2_with (first | (go_at_call 46; have hF_ := Zl0.out; clear Zl0; (try clear c1_ c2_ c3_); refine calls_new (v := w) (F := fun W => W.heap[w.heap.size]? = some (.cells #[.int .i64 a0_0, .slice A0_1 l0_1.length c0_1, .slice A0_2 l0_2.length c0_2] 25 (0, 0)) ∧ W.heap[w.heap.size + 1]? = some (.cells #[.int .i64 a1_0, .slice A1_1 l1_1.length c1_1, .slice A1_2 l1_2.length c1_2] 25 (0, 0))) (below_alloc (below_alloc (Below.refl _ _) (.cells #[.int .i64 a0_0, .slice A0_1 l0_1.length c0_1, .slice A0_2 l0_2.length c0_2] 25)) (.cells #[.int .i64 a1_0, .slice A1_1 l1_1.length c1_1, .slice A1_2 l1_2.length c1_2] 25)) (⟨blk_alloc (new_at _ (by simp)) _, new_at _ (by simp)⟩) (fun w4_ b_ f_ => ?_); have S5_ := Aside0.mk b_; have K6_ := Aside0.mk f_.1; have K7_ := Aside0.mk f_.2; clear b_ f_; refine (caesuralaw21_Light.calls k0  a0_0 A0_1 c0_1 l0_1 A0_2 c0_2 l0_2  false _ (Kd.C_below (HR0_1.out) (S5_.out)) hc0_1 (Kd.C_below (HR0_2.out) (S5_.out)) hc0_2  hF_).mono ?_; clear hF_; rintro e w8_ ⟨rfl, hb_⟩; have S9_ := Aside0.mk hb_; clear hb_) | (go_at_call 73; have hF_ := ZW.out; clear ZW; refine (caesuralaw24_wakes.calls kw    true _   hF_).mono ?_; clear hF_; rintro e w10_ ⟨rfl, hb_⟩; have S11_ := Aside0.mk hb_; clear hb_))
 go_ret
 exact ⟨rfl, below_step (below_step (S5_.out) S9_.out) S11_.out⟩
set_option maxHeartbeats 8000000 in
set_option maxRecDepth 100000 in
theorem ptakes_short1 (k0 k1 k2 k3 kw : Nat) (a0_0 : Int) (A0_1 : Option Addr) (c0_1 : Nat) (l0_1 : List (List Int)) (A0_2 : Option Addr) (c0_2 : Nat) (l0_2 : List Bool) (a1_0 : Int) (A1_1 : Option Addr) (c1_1 : Nat) (l1_1 : List (List Int)) (A1_2 : Option Addr) (c1_2 : Nat) (l1_2 : List Bool) (A2 : Option Addr) (c2 : Nat) (l2 : List Int) (w : World) (hr0_1 : Kd.C (Kd.slice 3 (Kd.int .i64)) w A0_1 l0_1.length l0_1) (hc0_1 : l0_1.length ≤ c0_1) (hr0_2 : Kd.C Kd.bool w A0_2 l0_2.length l0_2) (hc0_2 : l0_2.length ≤ c0_2) (hr1_1 : Kd.C (Kd.slice 3 (Kd.int .i64)) w A1_1 l1_1.length l1_1) (hc1_1 : l1_1.length ≤ c1_1) (hr1_2 : Kd.C Kd.bool w A1_2 l1_2.length l1_2) (hc1_2 : l1_2.length ≤ c1_2) (h0 : caesuralaw21_Light.f k0 a0_0 l0_1 l0_2 = some true) (h1 : caesuralaw21_Light.f k1 a1_0 l1_1 l1_2 = some false)  (hw : caesuralaw24_wakes.f kw = some true) :
  Calls Try.prog 20 #[.agg #[.int .i64 a0_0, .slice A0_1 l0_1.length c0_1, .slice A0_2 l0_2.length c0_2], .agg #[.int .i64 a1_0, .slice A1_1 l1_1.length c1_1, .slice A1_2 l1_2.length c1_2], .slice A2 l2.length c2] w fun e w' => e = .returned (.bool true) ∧ Below w.heap.size w w' := by
 have hu25 := Try.underlying25
 have hu45 := Try.underlying45
 have hu22 := Try.underlying22
 have hu23 := Try.underlying23
 have HR0_1 := Aside0.mk hr0_1
 have HR0_2 := Aside0.mk hr0_2
 clear hr0_1 hr0_2
 have HR1_1 := Aside0.mk hr1_1
 have HR1_2 := Aside0.mk hr1_2
 clear hr1_1 hr1_2
 have Zl0 := Aside0.mk h0
 clear h0
 have Zl1 := Aside0.mk h1
 clear h1
 have ZW := Aside0.mk hw
 clear hw
 obtain ⟨c1_, c2_, c3_⟩ := cells3 (show ((w.alloc (.cells #[.int .i64 a0_0, .slice A0_1 l0_1.length c0_1, .slice A0_2 l0_2.length c0_2] 25)).alloc (.cells #[.int .i64 a1_0, .slice A1_1 l1_1.length c1_1, .slice A1_2 l1_2.length c1_2] 25)).heap[w.heap.size]? = some (.cells #[.int .i64 a0_0, .slice A0_1 l0_1.length c0_1, .slice A0_2 l0_2.length c0_2] 25 (0, 0)) from blk_alloc (new_at _ (by simp)) _)
 go_enter Try.func20, Try.ntmps20
 go_wp2_with (first | (go_at_call 46; have hF_ := Zl0.out; clear Zl0; (try clear c1_ c2_ c3_); refine calls_new (v := w) (F := fun W => W.heap[w.heap.size]? = some (.cells #[.int .i64 a0_0, .slice A0_1 l0_1.length c0_1, .slice A0_2 l0_2.length c0_2] 25 (0, 0)) ∧ W.heap[w.heap.size + 1]? = some (.cells #[.int .i64 a1_0, .slice A1_1 l1_1.length c1_1, .slice A1_2 l1_2.length c1_2] 25 (0, 0))) (below_alloc (below_alloc (Below.refl _ _) (.cells #[.int .i64 a0_0, .slice A0_1 l0_1.length c0_1, .slice A0_2 l0_2.length c0_2] 25)) (.cells #[.int .i64 a1_0, .slice A1_1 l1_1.length c1_1, .slice A1_2 l1_2.length c1_2] 25)) (⟨blk_alloc (new_at _ (by simp)) _, new_at _ (by simp)⟩) (fun w4_ b_ f_ => ?_); have S5_ := Aside0.mk b_; have K6_ := Aside0.mk f_.1; have K7_ := Aside0.mk f_.2; clear b_ f_; refine (caesuralaw21_Light.calls k0  a0_0 A0_1 c0_1 l0_1 A0_2 c0_2 l0_2  true _ (Kd.C_below (HR0_1.out) (S5_.out)) hc0_1 (Kd.C_below (HR0_2.out) (S5_.out)) hc0_2  hF_).mono ?_; clear hF_; rintro e w8_ ⟨rfl, hb_⟩; have S9_ := Aside0.mk hb_; clear hb_; obtain ⟨c10_, c11_, c12_⟩ := cells3 (blk_below K7_.out (S9_.out))) | (go_at_call 46; have hF_ := Zl1.out; clear Zl1; (try clear c10_ c11_ c12_); refine (caesuralaw21_Light.calls k1  a1_0 A1_1 c1_1 l1_1 A1_2 c1_2 l1_2  false _ (Kd.C_below (HR1_1.out) (below_step (S5_.out) S9_.out)) hc1_1 (Kd.C_below (HR1_2.out) (below_step (S5_.out) S9_.out)) hc1_2  hF_).mono ?_; clear hF_; rintro e w13_ ⟨rfl, hb_⟩; have S14_ := Aside0.mk hb_; clear hb_) | (go_at_call 73; have hF_ := ZW.out; clear ZW; refine (caesuralaw24_wakes.calls kw    true _   hF_).mono ?_; clear hF_; rintro e w15_ ⟨rfl, hb_⟩; have S16_ := Aside0.mk hb_; clear hb_))
 go_ret
 exact ⟨rfl, below_step (below_step (below_step (S5_.out) S9_.out) S14_.out) S16_.out⟩
set_option maxHeartbeats 8000000 in
set_option maxRecDepth 100000 in
theorem ptakes_short2 (k0 k1 k2 k3 kw : Nat) (a0_0 : Int) (A0_1 : Option Addr) (c0_1 : Nat) (l0_1 : List (List Int)) (A0_2 : Option Addr) (c0_2 : Nat) (l0_2 : List Bool) (a1_0 : Int) (A1_1 : Option Addr) (c1_1 : Nat) (l1_1 : List (List Int)) (A1_2 : Option Addr) (c1_2 : Nat) (l1_2 : List Bool) (A2 : Option Addr) (c2 : Nat) (l2 : List Int) (w : World) (hr0_1 : Kd.C (Kd.slice 3 (Kd.int .i64)) w A0_1 l0_1.length l0_1) (hc0_1 : l0_1.length ≤ c0_1) (hr0_2 : Kd.C Kd.bool w A0_2 l0_2.length l0_2) (hc0_2 : l0_2.length ≤ c0_2) (hr1_1 : Kd.C (Kd.slice 3 (Kd.int .i64)) w A1_1 l1_1.length l1_1) (hc1_1 : l1_1.length ≤ c1_1) (hr1_2 : Kd.C Kd.bool w A1_2 l1_2.length l1_2) (hc1_2 : l1_2.length ≤ c1_2) (h0 : caesuralaw21_Light.f k0 a0_0 l0_1 l0_2 = some true) (h1 : caesuralaw21_Light.f k1 a1_0 l1_1 l1_2 = some true) (h2 : caesuraref19_Good.f k2 a0_0 l0_1 l0_2 = some false)  (hw : caesuralaw24_wakes.f kw = some true) :
  Calls Try.prog 20 #[.agg #[.int .i64 a0_0, .slice A0_1 l0_1.length c0_1, .slice A0_2 l0_2.length c0_2], .agg #[.int .i64 a1_0, .slice A1_1 l1_1.length c1_1, .slice A1_2 l1_2.length c1_2], .slice A2 l2.length c2] w fun e w' => e = .returned (.bool true) ∧ Below w.heap.size w w' := by
 have hu25 := Try.underlying25
 have hu45 := Try.underlying45
 have hu22 := Try.underlying22
 have hu23 := Try.underlying23
 have HR0_1 := Aside0.mk hr0_1
 have HR0_2 := Aside0.mk hr0_2
 clear hr0_1 hr0_2
 have HR1_1 := Aside0.mk hr1_1
 have HR1_2 := Aside0.mk hr1_2
 clear hr1_1 hr1_2
 have Zl0 := Aside0.mk h0
 clear h0
 have Zl1 := Aside0.mk h1
 clear h1
 have Zg0 := Aside0.mk h2
 clear h2
 have ZW := Aside0.mk hw
 clear hw
 obtain ⟨c1_, c2_, c3_⟩ := cells3 (show ((w.alloc (.cells #[.int .i64 a0_0, .slice A0_1 l0_1.length c0_1, .slice A0_2 l0_2.length c0_2] 25)).alloc (.cells #[.int .i64 a1_0, .slice A1_1 l1_1.length c1_1, .slice A1_2 l1_2.length c1_2] 25)).heap[w.heap.size]? = some (.cells #[.int .i64 a0_0, .slice A0_1 l0_1.length c0_1, .slice A0_2 l0_2.length c0_2] 25 (0, 0)) from blk_alloc (new_at _ (by simp)) _)
 go_enter Try.func20, Try.ntmps20
 go_wp2_with (first | (go_at_call 46; have hF_ := Zl0.out; clear Zl0; (try clear c1_ c2_ c3_); refine calls_new (v := w) (F := fun W => W.heap[w.heap.size]? = some (.cells #[.int .i64 a0_0, .slice A0_1 l0_1.length c0_1, .slice A0_2 l0_2.length c0_2] 25 (0, 0)) ∧ W.heap[w.heap.size + 1]? = some (.cells #[.int .i64 a1_0, .slice A1_1 l1_1.length c1_1, .slice A1_2 l1_2.length c1_2] 25 (0, 0))) (below_alloc (below_alloc (Below.refl _ _) (.cells #[.int .i64 a0_0, .slice A0_1 l0_1.length c0_1, .slice A0_2 l0_2.length c0_2] 25)) (.cells #[.int .i64 a1_0, .slice A1_1 l1_1.length c1_1, .slice A1_2 l1_2.length c1_2] 25)) (⟨blk_alloc (new_at _ (by simp)) _, new_at _ (by simp)⟩) (fun w4_ b_ f_ => ?_); have S5_ := Aside0.mk b_; have K6_ := Aside0.mk f_.1; have K7_ := Aside0.mk f_.2; clear b_ f_; refine (caesuralaw21_Light.calls k0  a0_0 A0_1 c0_1 l0_1 A0_2 c0_2 l0_2  true _ (Kd.C_below (HR0_1.out) (S5_.out)) hc0_1 (Kd.C_below (HR0_2.out) (S5_.out)) hc0_2  hF_).mono ?_; clear hF_; rintro e w8_ ⟨rfl, hb_⟩; have S9_ := Aside0.mk hb_; clear hb_; obtain ⟨c10_, c11_, c12_⟩ := cells3 (blk_below K7_.out (S9_.out))) | (go_at_call 46; have hF_ := Zl1.out; clear Zl1; (try clear c10_ c11_ c12_); refine (caesuralaw21_Light.calls k1  a1_0 A1_1 c1_1 l1_1 A1_2 c1_2 l1_2  true _ (Kd.C_below (HR1_1.out) (below_step (S5_.out) S9_.out)) hc1_1 (Kd.C_below (HR1_2.out) (below_step (S5_.out) S9_.out)) hc1_2  hF_).mono ?_; clear hF_; rintro e w13_ ⟨rfl, hb_⟩; have S14_ := Aside0.mk hb_; clear hb_; obtain ⟨c15_, c16_, c17_⟩ := cells3 (blk_below K6_.out (below_step (S9_.out) S14_.out))) | (go_at_call 37; have hF_ := Zg0.out; clear Zg0; (try clear c15_ c16_ c17_); refine (caesuraref19_Good.calls k2  a0_0 A0_1 c0_1 l0_1 A0_2 c0_2 l0_2  false _ (Kd.C_below (HR0_1.out) (below_step (below_step (S5_.out) S9_.out) S14_.out)) hc0_1 (Kd.C_below (HR0_2.out) (below_step (below_step (S5_.out) S9_.out) S14_.out)) hc0_2  hF_).mono ?_; clear hF_; rintro e w18_ ⟨rfl, hb_⟩; have S19_ := Aside0.mk hb_; clear hb_) | (go_at_call 73; have hF_ := ZW.out; clear ZW; refine (caesuralaw24_wakes.calls kw    true _   hF_).mono ?_; clear hF_; rintro e w20_ ⟨rfl, hb_⟩; have S21_ := Aside0.mk hb_; clear hb_))
 go_ret
 exact ⟨rfl, below_step (below_step (below_step (below_step (S5_.out) S9_.out) S14_.out) S19_.out) S21_.out⟩
set_option maxHeartbeats 8000000 in
set_option maxRecDepth 100000 in
theorem ptakes_short3 (k0 k1 k2 k3 kw : Nat) (a0_0 : Int) (A0_1 : Option Addr) (c0_1 : Nat) (l0_1 : List (List Int)) (A0_2 : Option Addr) (c0_2 : Nat) (l0_2 : List Bool) (a1_0 : Int) (A1_1 : Option Addr) (c1_1 : Nat) (l1_1 : List (List Int)) (A1_2 : Option Addr) (c1_2 : Nat) (l1_2 : List Bool) (A2 : Option Addr) (c2 : Nat) (l2 : List Int) (w : World) (hr0_1 : Kd.C (Kd.slice 3 (Kd.int .i64)) w A0_1 l0_1.length l0_1) (hc0_1 : l0_1.length ≤ c0_1) (hr0_2 : Kd.C Kd.bool w A0_2 l0_2.length l0_2) (hc0_2 : l0_2.length ≤ c0_2) (hr1_1 : Kd.C (Kd.slice 3 (Kd.int .i64)) w A1_1 l1_1.length l1_1) (hc1_1 : l1_1.length ≤ c1_1) (hr1_2 : Kd.C Kd.bool w A1_2 l1_2.length l1_2) (hc1_2 : l1_2.length ≤ c1_2) (h0 : caesuralaw21_Light.f k0 a0_0 l0_1 l0_2 = some true) (h1 : caesuralaw21_Light.f k1 a1_0 l1_1 l1_2 = some true) (h2 : caesuraref19_Good.f k2 a0_0 l0_1 l0_2 = some true) (h3 : caesuraref19_Good.f k3 a1_0 l1_1 l1_2 = some false)  (hw : caesuralaw24_wakes.f kw = some true) :
  Calls Try.prog 20 #[.agg #[.int .i64 a0_0, .slice A0_1 l0_1.length c0_1, .slice A0_2 l0_2.length c0_2], .agg #[.int .i64 a1_0, .slice A1_1 l1_1.length c1_1, .slice A1_2 l1_2.length c1_2], .slice A2 l2.length c2] w fun e w' => e = .returned (.bool true) ∧ Below w.heap.size w w' := by
 have hu25 := Try.underlying25
 have hu45 := Try.underlying45
 have hu22 := Try.underlying22
 have hu23 := Try.underlying23
 have HR0_1 := Aside0.mk hr0_1
 have HR0_2 := Aside0.mk hr0_2
 clear hr0_1 hr0_2
 have HR1_1 := Aside0.mk hr1_1
 have HR1_2 := Aside0.mk hr1_2
 clear hr1_1 hr1_2
 have Zl0 := Aside0.mk h0
 clear h0
 have Zl1 := Aside0.mk h1
 clear h1
 have Zg0 := Aside0.mk h2
 clear h2
 have Zg1 := Aside0.mk h3
 clear h3
 have ZW := Aside0.mk hw
 clear hw
 obtain ⟨c1_, c2_, c3_⟩ := cells3 (show ((w.alloc (.cells #[.int .i64 a0_0, .slice A0_1 l0_1.length c0_1, .slice A0_2 l0_2.length c0_2] 25)).alloc (.cells #[.int .i64 a1_0, .slice A1_1 l1_1.length c1_1, .slice A1_2 l1_2.length c1_2] 25)).heap[w.heap.size]? = some (.cells #[.int .i64 a0_0, .slice A0_1 l0_1.length c0_1, .slice A0_2 l0_2.length c0_2] 25 (0, 0)) from blk_alloc (new_at _ (by simp)) _)
 go_enter Try.func20, Try.ntmps20
 go_wp2_with (first | (go_at_call 46; have hF_ := Zl0.out; clear Zl0; (try clear c1_ c2_ c3_); refine calls_new (v := w) (F := fun W => W.heap[w.heap.size]? = some (.cells #[.int .i64 a0_0, .slice A0_1 l0_1.length c0_1, .slice A0_2 l0_2.length c0_2] 25 (0, 0)) ∧ W.heap[w.heap.size + 1]? = some (.cells #[.int .i64 a1_0, .slice A1_1 l1_1.length c1_1, .slice A1_2 l1_2.length c1_2] 25 (0, 0))) (below_alloc (below_alloc (Below.refl _ _) (.cells #[.int .i64 a0_0, .slice A0_1 l0_1.length c0_1, .slice A0_2 l0_2.length c0_2] 25)) (.cells #[.int .i64 a1_0, .slice A1_1 l1_1.length c1_1, .slice A1_2 l1_2.length c1_2] 25)) (⟨blk_alloc (new_at _ (by simp)) _, new_at _ (by simp)⟩) (fun w4_ b_ f_ => ?_); have S5_ := Aside0.mk b_; have K6_ := Aside0.mk f_.1; have K7_ := Aside0.mk f_.2; clear b_ f_; refine (caesuralaw21_Light.calls k0  a0_0 A0_1 c0_1 l0_1 A0_2 c0_2 l0_2  true _ (Kd.C_below (HR0_1.out) (S5_.out)) hc0_1 (Kd.C_below (HR0_2.out) (S5_.out)) hc0_2  hF_).mono ?_; clear hF_; rintro e w8_ ⟨rfl, hb_⟩; have S9_ := Aside0.mk hb_; clear hb_; obtain ⟨c10_, c11_, c12_⟩ := cells3 (blk_below K7_.out (S9_.out))) | (go_at_call 46; have hF_ := Zl1.out; clear Zl1; (try clear c10_ c11_ c12_); refine (caesuralaw21_Light.calls k1  a1_0 A1_1 c1_1 l1_1 A1_2 c1_2 l1_2  true _ (Kd.C_below (HR1_1.out) (below_step (S5_.out) S9_.out)) hc1_1 (Kd.C_below (HR1_2.out) (below_step (S5_.out) S9_.out)) hc1_2  hF_).mono ?_; clear hF_; rintro e w13_ ⟨rfl, hb_⟩; have S14_ := Aside0.mk hb_; clear hb_; obtain ⟨c15_, c16_, c17_⟩ := cells3 (blk_below K6_.out (below_step (S9_.out) S14_.out))) | (go_at_call 37; have hF_ := Zg0.out; clear Zg0; (try clear c15_ c16_ c17_); refine (caesuraref19_Good.calls k2  a0_0 A0_1 c0_1 l0_1 A0_2 c0_2 l0_2  true _ (Kd.C_below (HR0_1.out) (below_step (below_step (S5_.out) S9_.out) S14_.out)) hc0_1 (Kd.C_below (HR0_2.out) (below_step (below_step (S5_.out) S9_.out) S14_.out)) hc0_2  hF_).mono ?_; clear hF_; rintro e w18_ ⟨rfl, hb_⟩; have S19_ := Aside0.mk hb_; clear hb_; obtain ⟨c20_, c21_, c22_⟩ := cells3 (blk_below K7_.out (below_step (below_step (S9_.out) S14_.out) S19_.out))) | (go_at_call 37; have hF_ := Zg1.out; clear Zg1; (try clear c20_ c21_ c22_); refine (caesuraref19_Good.calls k3  a1_0 A1_1 c1_1 l1_1 A1_2 c1_2 l1_2  false _ (Kd.C_below (HR1_1.out) (below_step (below_step (below_step (S5_.out) S9_.out) S14_.out) S19_.out)) hc1_1 (Kd.C_below (HR1_2.out) (below_step (below_step (below_step (S5_.out) S9_.out) S14_.out) S19_.out)) hc1_2  hF_).mono ?_; clear hF_; rintro e w23_ ⟨rfl, hb_⟩; have S24_ := Aside0.mk hb_; clear hb_) | (go_at_call 73; have hF_ := ZW.out; clear ZW; refine (caesuralaw24_wakes.calls kw    true _   hF_).mono ?_; clear hF_; rintro e w25_ ⟨rfl, hb_⟩; have S26_ := Aside0.mk hb_; clear hb_))
 go_ret
 exact ⟨rfl, below_step (below_step (below_step (below_step (below_step (S5_.out) S9_.out) S14_.out) S19_.out) S24_.out) S26_.out⟩
set_option maxHeartbeats 8000000 in
set_option maxRecDepth 100000 in
theorem ptakes_short4 (k0 k1 k2 k3 kw : Nat) (a0_0 : Int) (A0_1 : Option Addr) (c0_1 : Nat) (l0_1 : List (List Int)) (A0_2 : Option Addr) (c0_2 : Nat) (l0_2 : List Bool) (a1_0 : Int) (A1_1 : Option Addr) (c1_1 : Nat) (l1_1 : List (List Int)) (A1_2 : Option Addr) (c1_2 : Nat) (l1_2 : List Bool) (A2 : Option Addr) (c2 : Nat) (l2 : List Int) (w : World) (hr0_1 : Kd.C (Kd.slice 3 (Kd.int .i64)) w A0_1 l0_1.length l0_1) (hc0_1 : l0_1.length ≤ c0_1) (hr0_2 : Kd.C Kd.bool w A0_2 l0_2.length l0_2) (hc0_2 : l0_2.length ≤ c0_2) (hr1_1 : Kd.C (Kd.slice 3 (Kd.int .i64)) w A1_1 l1_1.length l1_1) (hc1_1 : l1_1.length ≤ c1_1) (hr1_2 : Kd.C Kd.bool w A1_2 l1_2.length l1_2) (hc1_2 : l1_2.length ≤ c1_2) (h0 : caesuralaw21_Light.f k0 a0_0 l0_1 l0_2 = some true) (h1 : caesuralaw21_Light.f k1 a1_0 l1_1 l1_2 = some true) (h2 : caesuraref19_Good.f k2 a0_0 l0_1 l0_2 = some true) (h3 : caesuraref19_Good.f k3 a1_0 l1_1 l1_2 = some true) (h4 : a0_0 ≠ a1_0) (hw : caesuralaw24_wakes.f kw = some true) :
  Calls Try.prog 20 #[.agg #[.int .i64 a0_0, .slice A0_1 l0_1.length c0_1, .slice A0_2 l0_2.length c0_2], .agg #[.int .i64 a1_0, .slice A1_1 l1_1.length c1_1, .slice A1_2 l1_2.length c1_2], .slice A2 l2.length c2] w fun e w' => e = .returned (.bool true) ∧ Below w.heap.size w w' := by
 have hu25 := Try.underlying25
 have hu45 := Try.underlying45
 have hu22 := Try.underlying22
 have hu23 := Try.underlying23
 have HR0_1 := Aside0.mk hr0_1
 have HR0_2 := Aside0.mk hr0_2
 clear hr0_1 hr0_2
 have HR1_1 := Aside0.mk hr1_1
 have HR1_2 := Aside0.mk hr1_2
 clear hr1_1 hr1_2
 have Zl0 := Aside0.mk h0
 clear h0
 have Zl1 := Aside0.mk h1
 clear h1
 have Zg0 := Aside0.mk h2
 clear h2
 have Zg1 := Aside0.mk h3
 clear h3
 have ZW := Aside0.mk hw
 clear hw
 have n0_ : (a0_0 != a1_0) = true := by simpa using h4
 have n1_ : (a0_0 = a1_0) = False := eq_false h4
 have n2_ : (a0_0 == a1_0) = false := by simpa using h4
 clear h4
 obtain ⟨c1_, c2_, c3_⟩ := cells3 (show ((w.alloc (.cells #[.int .i64 a0_0, .slice A0_1 l0_1.length c0_1, .slice A0_2 l0_2.length c0_2] 25)).alloc (.cells #[.int .i64 a1_0, .slice A1_1 l1_1.length c1_1, .slice A1_2 l1_2.length c1_2] 25)).heap[w.heap.size]? = some (.cells #[.int .i64 a0_0, .slice A0_1 l0_1.length c0_1, .slice A0_2 l0_2.length c0_2] 25 (0, 0)) from blk_alloc (new_at _ (by simp)) _)
 go_enter Try.func20, Try.ntmps20
 go_wp2_with (first | (go_at_call 46; have hF_ := Zl0.out; clear Zl0; (try clear c1_ c2_ c3_); refine calls_new (v := w) (F := fun W => W.heap[w.heap.size]? = some (.cells #[.int .i64 a0_0, .slice A0_1 l0_1.length c0_1, .slice A0_2 l0_2.length c0_2] 25 (0, 0)) ∧ W.heap[w.heap.size + 1]? = some (.cells #[.int .i64 a1_0, .slice A1_1 l1_1.length c1_1, .slice A1_2 l1_2.length c1_2] 25 (0, 0))) (below_alloc (below_alloc (Below.refl _ _) (.cells #[.int .i64 a0_0, .slice A0_1 l0_1.length c0_1, .slice A0_2 l0_2.length c0_2] 25)) (.cells #[.int .i64 a1_0, .slice A1_1 l1_1.length c1_1, .slice A1_2 l1_2.length c1_2] 25)) (⟨blk_alloc (new_at _ (by simp)) _, new_at _ (by simp)⟩) (fun w4_ b_ f_ => ?_); have S5_ := Aside0.mk b_; have K6_ := Aside0.mk f_.1; have K7_ := Aside0.mk f_.2; clear b_ f_; refine (caesuralaw21_Light.calls k0  a0_0 A0_1 c0_1 l0_1 A0_2 c0_2 l0_2  true _ (Kd.C_below (HR0_1.out) (S5_.out)) hc0_1 (Kd.C_below (HR0_2.out) (S5_.out)) hc0_2  hF_).mono ?_; clear hF_; rintro e w8_ ⟨rfl, hb_⟩; have S9_ := Aside0.mk hb_; clear hb_; obtain ⟨c10_, c11_, c12_⟩ := cells3 (blk_below K7_.out (S9_.out))) | (go_at_call 46; have hF_ := Zl1.out; clear Zl1; (try clear c10_ c11_ c12_); refine (caesuralaw21_Light.calls k1  a1_0 A1_1 c1_1 l1_1 A1_2 c1_2 l1_2  true _ (Kd.C_below (HR1_1.out) (below_step (S5_.out) S9_.out)) hc1_1 (Kd.C_below (HR1_2.out) (below_step (S5_.out) S9_.out)) hc1_2  hF_).mono ?_; clear hF_; rintro e w13_ ⟨rfl, hb_⟩; have S14_ := Aside0.mk hb_; clear hb_; obtain ⟨c15_, c16_, c17_⟩ := cells3 (blk_below K6_.out (below_step (S9_.out) S14_.out))) | (go_at_call 37; have hF_ := Zg0.out; clear Zg0; (try clear c15_ c16_ c17_); refine (caesuraref19_Good.calls k2  a0_0 A0_1 c0_1 l0_1 A0_2 c0_2 l0_2  true _ (Kd.C_below (HR0_1.out) (below_step (below_step (S5_.out) S9_.out) S14_.out)) hc0_1 (Kd.C_below (HR0_2.out) (below_step (below_step (S5_.out) S9_.out) S14_.out)) hc0_2  hF_).mono ?_; clear hF_; rintro e w18_ ⟨rfl, hb_⟩; have S19_ := Aside0.mk hb_; clear hb_; obtain ⟨c20_, c21_, c22_⟩ := cells3 (blk_below K7_.out (below_step (below_step (S9_.out) S14_.out) S19_.out))) | (go_at_call 37; have hF_ := Zg1.out; clear Zg1; (try clear c20_ c21_ c22_); refine (caesuraref19_Good.calls k3  a1_0 A1_1 c1_1 l1_1 A1_2 c1_2 l1_2  true _ (Kd.C_below (HR1_1.out) (below_step (below_step (below_step (S5_.out) S9_.out) S14_.out) S19_.out)) hc1_1 (Kd.C_below (HR1_2.out) (below_step (below_step (below_step (S5_.out) S9_.out) S14_.out) S19_.out)) hc1_2  hF_).mono ?_; clear hF_; rintro e w23_ ⟨rfl, hb_⟩; have S24_ := Aside0.mk hb_; clear hb_; obtain ⟨c25_, c26_, c27_⟩ := cells3 (blk_below K6_.out (below_step (below_step (below_step (S9_.out) S14_.out) S19_.out) S24_.out)); obtain ⟨c28_, c29_, c30_⟩ := cells3 (blk_below K7_.out (below_step (below_step (below_step (S9_.out) S14_.out) S19_.out) S24_.out))) | (go_at_call 73; have hF_ := ZW.out; clear ZW; (try clear c25_ c26_ c27_ c28_ c29_ c30_); refine (caesuralaw24_wakes.calls kw    true _   hF_).mono ?_; clear hF_; rintro e w31_ ⟨rfl, hb_⟩; have S32_ := Aside0.mk hb_; clear hb_))
 go_ret
 exact ⟨rfl, below_step (below_step (below_step (below_step (below_step (S5_.out) S9_.out) S14_.out) S19_.out) S24_.out) S32_.out⟩
set_option maxHeartbeats 8000000 in
set_option maxRecDepth 100000 in
theorem ptakes_short5 (k0 k1 k2 k3 kw : Nat) (a0_0 : Int) (A0_1 : Option Addr) (c0_1 : Nat) (l0_1 : List (List Int)) (A0_2 : Option Addr) (c0_2 : Nat) (l0_2 : List Bool) (a1_0 : Int) (A1_1 : Option Addr) (c1_1 : Nat) (l1_1 : List (List Int)) (A1_2 : Option Addr) (c1_2 : Nat) (l1_2 : List Bool) (A2 : Option Addr) (c2 : Nat) (l2 : List Int) (w : World) (hr0_1 : Kd.C (Kd.slice 3 (Kd.int .i64)) w A0_1 l0_1.length l0_1) (hc0_1 : l0_1.length ≤ c0_1) (hr0_2 : Kd.C Kd.bool w A0_2 l0_2.length l0_2) (hc0_2 : l0_2.length ≤ c0_2) (hr1_1 : Kd.C (Kd.slice 3 (Kd.int .i64)) w A1_1 l1_1.length l1_1) (hc1_1 : l1_1.length ≤ c1_1) (hr1_2 : Kd.C Kd.bool w A1_2 l1_2.length l1_2) (hc1_2 : l1_2.length ≤ c1_2) (h0 : caesuralaw21_Light.f k0 a0_0 l0_1 l0_2 = some true) (h1 : caesuralaw21_Light.f k1 a1_0 l1_1 l1_2 = some true) (h2 : caesuraref19_Good.f k2 a0_0 l0_1 l0_2 = some true) (h3 : caesuraref19_Good.f k3 a1_0 l1_1 l1_2 = some true) (h4 : a0_0 = a1_0) (h5 : (l2.length : Int) > 60) (hw : caesuralaw24_wakes.f kw = some true) :
  Calls Try.prog 20 #[.agg #[.int .i64 a0_0, .slice A0_1 l0_1.length c0_1, .slice A0_2 l0_2.length c0_2], .agg #[.int .i64 a1_0, .slice A1_1 l1_1.length c1_1, .slice A1_2 l1_2.length c1_2], .slice A2 l2.length c2] w fun e w' => e = .returned (.bool true) ∧ Below w.heap.size w w' := by
 have hu25 := Try.underlying25
 have hu45 := Try.underlying45
 have hu22 := Try.underlying22
 have hu23 := Try.underlying23
 have HR0_1 := Aside0.mk hr0_1
 have HR0_2 := Aside0.mk hr0_2
 clear hr0_1 hr0_2
 have HR1_1 := Aside0.mk hr1_1
 have HR1_2 := Aside0.mk hr1_2
 clear hr1_1 hr1_2
 have Zl0 := Aside0.mk h0
 clear h0
 have Zl1 := Aside0.mk h1
 clear h1
 have Zg0 := Aside0.mk h2
 clear h2
 have Zg1 := Aside0.mk h3
 clear h3
 have ZW := Aside0.mk hw
 clear hw
 have n0_ : (a0_0 != a1_0) = false := by simpa using h4
 have n1_ : (a0_0 = a1_0) = True := eq_true h4
 have n2_ : (a0_0 == a1_0) = true := by simpa using h4
 have r0_ : ((l2.length : Int) > 60) = True := eq_true (h5)
 have r0d_ : decide ((l2.length : Int) > 60) = true := decide_eq_true (h5)
 have r1_ : (60 < (l2.length : Int)) = True := eq_true (h5)
 have r1d_ : decide (60 < (l2.length : Int)) = true := decide_eq_true (h5)
 have r2_ : (60 < l2.length) = True := eq_true (by omega)
 have r2d_ : decide (60 < l2.length) = true := decide_eq_true (by omega)
 clear h4 h5
 obtain ⟨c1_, c2_, c3_⟩ := cells3 (show ((w.alloc (.cells #[.int .i64 a0_0, .slice A0_1 l0_1.length c0_1, .slice A0_2 l0_2.length c0_2] 25)).alloc (.cells #[.int .i64 a1_0, .slice A1_1 l1_1.length c1_1, .slice A1_2 l1_2.length c1_2] 25)).heap[w.heap.size]? = some (.cells #[.int .i64 a0_0, .slice A0_1 l0_1.length c0_1, .slice A0_2 l0_2.length c0_2] 25 (0, 0)) from blk_alloc (new_at _ (by simp)) _)
 go_enter Try.func20, Try.ntmps20
 go_wp2_with (first | (go_at_call 46; have hF_ := Zl0.out; clear Zl0; (try clear c1_ c2_ c3_); refine calls_new (v := w) (F := fun W => W.heap[w.heap.size]? = some (.cells #[.int .i64 a0_0, .slice A0_1 l0_1.length c0_1, .slice A0_2 l0_2.length c0_2] 25 (0, 0)) ∧ W.heap[w.heap.size + 1]? = some (.cells #[.int .i64 a1_0, .slice A1_1 l1_1.length c1_1, .slice A1_2 l1_2.length c1_2] 25 (0, 0))) (below_alloc (below_alloc (Below.refl _ _) (.cells #[.int .i64 a0_0, .slice A0_1 l0_1.length c0_1, .slice A0_2 l0_2.length c0_2] 25)) (.cells #[.int .i64 a1_0, .slice A1_1 l1_1.length c1_1, .slice A1_2 l1_2.length c1_2] 25)) (⟨blk_alloc (new_at _ (by simp)) _, new_at _ (by simp)⟩) (fun w4_ b_ f_ => ?_); have S5_ := Aside0.mk b_; have K6_ := Aside0.mk f_.1; have K7_ := Aside0.mk f_.2; clear b_ f_; refine (caesuralaw21_Light.calls k0  a0_0 A0_1 c0_1 l0_1 A0_2 c0_2 l0_2  true _ (Kd.C_below (HR0_1.out) (S5_.out)) hc0_1 (Kd.C_below (HR0_2.out) (S5_.out)) hc0_2  hF_).mono ?_; clear hF_; rintro e w8_ ⟨rfl, hb_⟩; have S9_ := Aside0.mk hb_; clear hb_; obtain ⟨c10_, c11_, c12_⟩ := cells3 (blk_below K7_.out (S9_.out))) | (go_at_call 46; have hF_ := Zl1.out; clear Zl1; (try clear c10_ c11_ c12_); refine (caesuralaw21_Light.calls k1  a1_0 A1_1 c1_1 l1_1 A1_2 c1_2 l1_2  true _ (Kd.C_below (HR1_1.out) (below_step (S5_.out) S9_.out)) hc1_1 (Kd.C_below (HR1_2.out) (below_step (S5_.out) S9_.out)) hc1_2  hF_).mono ?_; clear hF_; rintro e w13_ ⟨rfl, hb_⟩; have S14_ := Aside0.mk hb_; clear hb_; obtain ⟨c15_, c16_, c17_⟩ := cells3 (blk_below K6_.out (below_step (S9_.out) S14_.out))) | (go_at_call 37; have hF_ := Zg0.out; clear Zg0; (try clear c15_ c16_ c17_); refine (caesuraref19_Good.calls k2  a0_0 A0_1 c0_1 l0_1 A0_2 c0_2 l0_2  true _ (Kd.C_below (HR0_1.out) (below_step (below_step (S5_.out) S9_.out) S14_.out)) hc0_1 (Kd.C_below (HR0_2.out) (below_step (below_step (S5_.out) S9_.out) S14_.out)) hc0_2  hF_).mono ?_; clear hF_; rintro e w18_ ⟨rfl, hb_⟩; have S19_ := Aside0.mk hb_; clear hb_; obtain ⟨c20_, c21_, c22_⟩ := cells3 (blk_below K7_.out (below_step (below_step (S9_.out) S14_.out) S19_.out))) | (go_at_call 37; have hF_ := Zg1.out; clear Zg1; (try clear c20_ c21_ c22_); refine (caesuraref19_Good.calls k3  a1_0 A1_1 c1_1 l1_1 A1_2 c1_2 l1_2  true _ (Kd.C_below (HR1_1.out) (below_step (below_step (below_step (S5_.out) S9_.out) S14_.out) S19_.out)) hc1_1 (Kd.C_below (HR1_2.out) (below_step (below_step (below_step (S5_.out) S9_.out) S14_.out) S19_.out)) hc1_2  hF_).mono ?_; clear hF_; rintro e w23_ ⟨rfl, hb_⟩; have S24_ := Aside0.mk hb_; clear hb_; obtain ⟨c25_, c26_, c27_⟩ := cells3 (blk_below K6_.out (below_step (below_step (below_step (S9_.out) S14_.out) S19_.out) S24_.out)); obtain ⟨c28_, c29_, c30_⟩ := cells3 (blk_below K7_.out (below_step (below_step (below_step (S9_.out) S14_.out) S19_.out) S24_.out))) | (go_at_call 73; have hF_ := ZW.out; clear ZW; (try clear c25_ c26_ c27_ c28_ c29_ c30_); refine (caesuralaw24_wakes.calls kw    true _   hF_).mono ?_; clear hF_; rintro e w31_ ⟨rfl, hb_⟩; have S32_ := Aside0.mk hb_; clear hb_))
 go_ret
 exact ⟨rfl, below_step (below_step (below_step (below_step (below_step (S5_.out) S9_.out) S14_.out) S19_.out) S24_.out) S32_.out⟩
set_option maxHeartbeats 8000000 in
set_option maxRecDepth 100000 in
theorem ptakes_short6 (k0 k1 k2 k3 kw : Nat) (a0_0 : Int) (A0_1 : Option Addr) (c0_1 : Nat) (l0_1 : List (List Int)) (A0_2 : Option Addr) (c0_2 : Nat) (l0_2 : List Bool) (a1_0 : Int) (A1_1 : Option Addr) (c1_1 : Nat) (l1_1 : List (List Int)) (A1_2 : Option Addr) (c1_2 : Nat) (l1_2 : List Bool) (A2 : Option Addr) (c2 : Nat) (l2 : List Int) (w : World) (hr0_1 : Kd.C (Kd.slice 3 (Kd.int .i64)) w A0_1 l0_1.length l0_1) (hc0_1 : l0_1.length ≤ c0_1) (hr0_2 : Kd.C Kd.bool w A0_2 l0_2.length l0_2) (hc0_2 : l0_2.length ≤ c0_2) (hr1_1 : Kd.C (Kd.slice 3 (Kd.int .i64)) w A1_1 l1_1.length l1_1) (hc1_1 : l1_1.length ≤ c1_1) (hr1_2 : Kd.C Kd.bool w A1_2 l1_2.length l1_2) (hc1_2 : l1_2.length ≤ c1_2) (h0 : caesuralaw21_Light.f k0 a0_0 l0_1 l0_2 = some true) (h1 : caesuralaw21_Light.f k1 a1_0 l1_1 l1_2 = some true) (h2 : caesuraref19_Good.f k2 a0_0 l0_1 l0_2 = some true) (h3 : caesuraref19_Good.f k3 a1_0 l1_1 l1_2 = some true) (h4 : a0_0 = a1_0) (h6 : ¬ (l2.length : Int) > 60) (h5 : wrap64 ((l0_1.length : Int) * (l1_1.length : Int)) > 900) (hw : caesuralaw24_wakes.f kw = some true) :
  Calls Try.prog 20 #[.agg #[.int .i64 a0_0, .slice A0_1 l0_1.length c0_1, .slice A0_2 l0_2.length c0_2], .agg #[.int .i64 a1_0, .slice A1_1 l1_1.length c1_1, .slice A1_2 l1_2.length c1_2], .slice A2 l2.length c2] w fun e w' => e = .returned (.bool true) ∧ Below w.heap.size w w' := by
 have hu25 := Try.underlying25
 have hu45 := Try.underlying45
 have hu22 := Try.underlying22
 have hu23 := Try.underlying23
 have HR0_1 := Aside0.mk hr0_1
 have HR0_2 := Aside0.mk hr0_2
 clear hr0_1 hr0_2
 have HR1_1 := Aside0.mk hr1_1
 have HR1_2 := Aside0.mk hr1_2
 clear hr1_1 hr1_2
 have Zl0 := Aside0.mk h0
 clear h0
 have Zl1 := Aside0.mk h1
 clear h1
 have Zg0 := Aside0.mk h2
 clear h2
 have Zg1 := Aside0.mk h3
 clear h3
 have ZW := Aside0.mk hw
 clear hw
 have n0_ : (a0_0 != a1_0) = false := by simpa using h4
 have n1_ : (a0_0 = a1_0) = True := eq_true h4
 have n2_ : (a0_0 == a1_0) = true := by simpa using h4
 have r0_ : ((l2.length : Int) > 60) = False := eq_false (h6)
 have r0d_ : decide ((l2.length : Int) > 60) = false := decide_eq_false (h6)
 have r1_ : (60 < (l2.length : Int)) = False := eq_false (h6)
 have r1d_ : decide (60 < (l2.length : Int)) = false := decide_eq_false (h6)
 have r2_ : (60 < l2.length) = False := eq_false (by omega)
 have r2d_ : decide (60 < l2.length) = false := decide_eq_false (by omega)
 have b0_ : (wrap64 ((l0_1.length : Int) * (l1_1.length : Int)) > 900) = True := eq_true (h5)
 have b0d_ : decide (wrap64 ((l0_1.length : Int) * (l1_1.length : Int)) > 900) = true := decide_eq_true (h5)
 have b1_ : (900 < wrap64 ((l0_1.length : Int) * (l1_1.length : Int))) = True := eq_true (h5)
 have b1d_ : decide (900 < wrap64 ((l0_1.length : Int) * (l1_1.length : Int))) = true := decide_eq_true (h5)
 clear h6
 clear h4 h5
 obtain ⟨c1_, c2_, c3_⟩ := cells3 (show ((w.alloc (.cells #[.int .i64 a0_0, .slice A0_1 l0_1.length c0_1, .slice A0_2 l0_2.length c0_2] 25)).alloc (.cells #[.int .i64 a1_0, .slice A1_1 l1_1.length c1_1, .slice A1_2 l1_2.length c1_2] 25)).heap[w.heap.size]? = some (.cells #[.int .i64 a0_0, .slice A0_1 l0_1.length c0_1, .slice A0_2 l0_2.length c0_2] 25 (0, 0)) from blk_alloc (new_at _ (by simp)) _)
 go_enter Try.func20, Try.ntmps20
 go_wp2_with (first | (go_at_call 46; have hF_ := Zl0.out; clear Zl0; (try clear c1_ c2_ c3_); refine calls_new (v := w) (F := fun W => W.heap[w.heap.size]? = some (.cells #[.int .i64 a0_0, .slice A0_1 l0_1.length c0_1, .slice A0_2 l0_2.length c0_2] 25 (0, 0)) ∧ W.heap[w.heap.size + 1]? = some (.cells #[.int .i64 a1_0, .slice A1_1 l1_1.length c1_1, .slice A1_2 l1_2.length c1_2] 25 (0, 0))) (below_alloc (below_alloc (Below.refl _ _) (.cells #[.int .i64 a0_0, .slice A0_1 l0_1.length c0_1, .slice A0_2 l0_2.length c0_2] 25)) (.cells #[.int .i64 a1_0, .slice A1_1 l1_1.length c1_1, .slice A1_2 l1_2.length c1_2] 25)) (⟨blk_alloc (new_at _ (by simp)) _, new_at _ (by simp)⟩) (fun w4_ b_ f_ => ?_); have S5_ := Aside0.mk b_; have K6_ := Aside0.mk f_.1; have K7_ := Aside0.mk f_.2; clear b_ f_; refine (caesuralaw21_Light.calls k0  a0_0 A0_1 c0_1 l0_1 A0_2 c0_2 l0_2  true _ (Kd.C_below (HR0_1.out) (S5_.out)) hc0_1 (Kd.C_below (HR0_2.out) (S5_.out)) hc0_2  hF_).mono ?_; clear hF_; rintro e w8_ ⟨rfl, hb_⟩; have S9_ := Aside0.mk hb_; clear hb_; obtain ⟨c10_, c11_, c12_⟩ := cells3 (blk_below K7_.out (S9_.out))) | (go_at_call 46; have hF_ := Zl1.out; clear Zl1; (try clear c10_ c11_ c12_); refine (caesuralaw21_Light.calls k1  a1_0 A1_1 c1_1 l1_1 A1_2 c1_2 l1_2  true _ (Kd.C_below (HR1_1.out) (below_step (S5_.out) S9_.out)) hc1_1 (Kd.C_below (HR1_2.out) (below_step (S5_.out) S9_.out)) hc1_2  hF_).mono ?_; clear hF_; rintro e w13_ ⟨rfl, hb_⟩; have S14_ := Aside0.mk hb_; clear hb_; obtain ⟨c15_, c16_, c17_⟩ := cells3 (blk_below K6_.out (below_step (S9_.out) S14_.out))) | (go_at_call 37; have hF_ := Zg0.out; clear Zg0; (try clear c15_ c16_ c17_); refine (caesuraref19_Good.calls k2  a0_0 A0_1 c0_1 l0_1 A0_2 c0_2 l0_2  true _ (Kd.C_below (HR0_1.out) (below_step (below_step (S5_.out) S9_.out) S14_.out)) hc0_1 (Kd.C_below (HR0_2.out) (below_step (below_step (S5_.out) S9_.out) S14_.out)) hc0_2  hF_).mono ?_; clear hF_; rintro e w18_ ⟨rfl, hb_⟩; have S19_ := Aside0.mk hb_; clear hb_; obtain ⟨c20_, c21_, c22_⟩ := cells3 (blk_below K7_.out (below_step (below_step (S9_.out) S14_.out) S19_.out))) | (go_at_call 37; have hF_ := Zg1.out; clear Zg1; (try clear c20_ c21_ c22_); refine (caesuraref19_Good.calls k3  a1_0 A1_1 c1_1 l1_1 A1_2 c1_2 l1_2  true _ (Kd.C_below (HR1_1.out) (below_step (below_step (below_step (S5_.out) S9_.out) S14_.out) S19_.out)) hc1_1 (Kd.C_below (HR1_2.out) (below_step (below_step (below_step (S5_.out) S9_.out) S14_.out) S19_.out)) hc1_2  hF_).mono ?_; clear hF_; rintro e w23_ ⟨rfl, hb_⟩; have S24_ := Aside0.mk hb_; clear hb_; obtain ⟨c25_, c26_, c27_⟩ := cells3 (blk_below K6_.out (below_step (below_step (below_step (S9_.out) S14_.out) S19_.out) S24_.out)); obtain ⟨c28_, c29_, c30_⟩ := cells3 (blk_below K7_.out (below_step (below_step (below_step (S9_.out) S14_.out) S19_.out) S24_.out))) | (go_at_call 73; have hF_ := ZW.out; clear ZW; (try clear c25_ c26_ c27_ c28_ c29_ c30_); refine (caesuralaw24_wakes.calls kw    true _   hF_).mono ?_; clear hF_; rintro e w31_ ⟨rfl, hb_⟩; have S32_ := Aside0.mk hb_; clear hb_))
 go_ret
 exact ⟨rfl, below_step (below_step (below_step (below_step (below_step (S5_.out) S9_.out) S14_.out) S19_.out) S24_.out) S32_.out⟩
def ptakes.T7 : Bool × List (List Nat × List Nat) := (true, [([], []), ([], []), ([], []), ([1, 2], [1, 2]), ([3], [3]), ([4], [4]), ([], []), ([6], [6]), ([5, 7], [5, 7]), ([8], [8]), ([0, 9], [0, 9]), ([10, 10, 0, 1, 2, 3, 4, 5, 6, 7, 8, 9, 10], [0, 10])])
def ptakes.B7 : List Nat := [0, 0, 0, 6, 14, 30, 0, 64, 254, 510, 1023, 2047]
theorem ptakes.tab7 : rtab .any (opsOf Try.f20 7) = ptakes.T7 := by kernel_rfl
theorem ptakes.bits7 : waitsOk ptakes.T7.2 ptakes.B7 = true := by kernel_rfl
def ptakes.T15 : Bool × List (List Nat × List Nat) := (true, [([], []), ([], []), ([0, 1], [0, 1]), ([], []), ([], []), ([3, 4, 2], [3, 4]), ([2, 5, 0, 1, 2], [2]), ([5, 6, 0, 1, 2, 3, 4, 5, 6], [5])])
def ptakes.B15 : List Nat := [0, 0, 3, 0, 0, 31, 63, 127]
theorem ptakes.tab15 : rtab .any (opsOf Try.f20 15) = ptakes.T15 := by kernel_rfl
theorem ptakes.bits15 : waitsOk ptakes.T15.2 ptakes.B15 = true := by kernel_rfl
set_option maxHeartbeats 8000000 in
set_option maxRecDepth 100000 in
theorem ptakes_main (k0 k1 k2 k3 kw q0 q1 q2 q3 q4 p0 p1 p2 p3 p4 p5 p6 : Nat) (a0_0 : Int) (A0_1 : Option Addr) (c0_1 : Nat) (l0_1 : List (List Int)) (A0_2 : Option Addr) (c0_2 : Nat) (l0_2 : List Bool) (a1_0 : Int) (A1_1 : Option Addr) (c1_1 : Nat) (l1_1 : List (List Int)) (A1_2 : Option Addr) (c1_2 : Nat) (l1_2 : List Bool) (A2 : Option Addr) (c2 : Nat) (l2 : List Int) (X X3 : List (List Int)) (Y0 Y1 Y2 Y3 NY : List Bool) (tx ty : Bool) (w : World) (hr0_1 : Kd.C (Kd.slice 3 (Kd.int .i64)) w A0_1 l0_1.length l0_1) (hc0_1 : l0_1.length ≤ c0_1) (hr0_2 : Kd.C Kd.bool w A0_2 l0_2.length l0_2) (hc0_2 : l0_2.length ≤ c0_2) (hr1_1 : Kd.C (Kd.slice 3 (Kd.int .i64)) w A1_1 l1_1.length l1_1) (hc1_1 : l1_1.length ≤ c1_1) (hr1_2 : Kd.C Kd.bool w A1_2 l1_2.length l1_2) (hc1_2 : l1_2.length ≤ c1_2) (hr2 : Kd.C (Kd.int .u8) w A2 l2.length l2) (hc2 : l2.length ≤ c2) (h0 : caesuralaw21_Light.f k0 a0_0 l0_1 l0_2 = some true) (h1 : caesuralaw21_Light.f k1 a1_0 l1_1 l1_2 = some true) (h2 : caesuraref19_Good.f k2 a0_0 l0_1 l0_2 = some true) (h3 : caesuraref19_Good.f k3 a1_0 l1_1 l1_2 = some true) (h4 : a0_0 = a1_0) (h6 : ¬ (l2.length : Int) > 60) (h5 : ¬ wrap64 ((l0_1.length : Int) * (l1_1.length : Int)) > 900) (ha : 1 ≤ a0_0) (hwl : ∀ y ∈ l2, (Lit.int .u8 y).wf = true) (hw : caesuralaw24_wakes.f kw = some true)
  (hb : product_Both.f q0 a0_0 l0_1 l0_2 a1_0 l1_1 l1_2 1000 = some (a0_0, X, Y0, 0)) (hs : product_Some.f q1 a0_0 l0_1 l0_2 a1_0 l1_1 l1_2 1000 = some (a0_0, X, Y1, 0)) (hl : product_Less.f q2 a0_0 l0_1 l0_2 a1_0 l1_1 l1_2 1000 = some (a0_0, X, Y2, 0)) (hn : product_Not.f q3 a1_0 l1_1 l1_2 = some (a1_0, l1_1, NY, true)) (hm : product_Both.f q4 a0_0 l0_1 l0_2 a1_0 l1_1 NY 1000 = some (a0_0, X3, Y3, 0)) (t0 : subset_Takes.f p0 a0_0 l0_1 l0_2 (castL (rowW a0_0 l2)) = some tx) (t1 : subset_Takes.f p1 a1_0 l1_1 l1_2 (castL (rowW a0_0 l2)) = some ty) (t2 : subset_Takes.f p2 a0_0 X Y0 (castL (rowW a0_0 l2)) = some (tx && ty)) (t3 : subset_Takes.f p3 a0_0 X Y1 (castL (rowW a0_0 l2)) = some (tx || ty)) (t4 : subset_Takes.f p4 a0_0 X Y2 (castL (rowW a0_0 l2)) = some (tx && !ty)) (t5 : subset_Takes.f p5 a1_0 l1_1 NY (castL (rowW a0_0 l2)) = some (!ty)) (hk : number_Alike.f p6 a0_0 X3 Y3 a0_0 X Y2 = some true) :
  Calls Try.prog 20 #[.agg #[.int .i64 a0_0, .slice A0_1 l0_1.length c0_1, .slice A0_2 l0_2.length c0_2], .agg #[.int .i64 a1_0, .slice A1_1 l1_1.length c1_1, .slice A1_2 l1_2.length c1_2], .slice A2 l2.length c2] w fun e w' => e = .returned (.bool true) ∧ Below w.heap.size w w' := by
 have hu25 := Try.underlying25
 have hu45 := Try.underlying45
 have hu22 := Try.underlying22
 have hu23 := Try.underlying23
 have hu44 := Try.underlying44
 have HR0_1 := Aside0.mk hr0_1
 have HR0_2 := Aside0.mk hr0_2
 clear hr0_1 hr0_2
 have HR1_1 := Aside0.mk hr1_1
 have HR1_2 := Aside0.mk hr1_2
 clear hr1_1 hr1_2
 have HRR := Aside0.mk hr2
 clear hr2
 have Zl0 := Aside0.mk h0
 clear h0
 have Zl1 := Aside0.mk h1
 clear h1
 have Zg0 := Aside0.mk h2
 clear h2
 have Zg1 := Aside0.mk h3
 clear h3
 have ZW := Aside0.mk hw
 clear hw
 have ZA1 := Aside0.mk ha
 have ZWL := Aside0.mk hwl
 clear hwl
 have Zhb := Aside0.mk hb
 clear hb
 have Zhs := Aside0.mk hs
 clear hs
 have Zhl := Aside0.mk hl
 clear hl
 have Zhn := Aside0.mk hn
 clear hn
 have Zhm := Aside0.mk hm
 clear hm
 have Zt0 := Aside0.mk t0
 clear t0
 have Zt1 := Aside0.mk t1
 clear t1
 have Zt2 := Aside0.mk t2
 clear t2
 have Zt3 := Aside0.mk t3
 clear t3
 have Zt4 := Aside0.mk t4
 clear t4
 have Zt5 := Aside0.mk t5
 clear t5
 have Zhk := Aside0.mk hk
 clear hk
 have n0_ : (a0_0 != a1_0) = false := by simpa using h4
 have n1_ : (a0_0 = a1_0) = True := eq_true h4
 have n2_ : (a0_0 == a1_0) = true := by simpa using h4
 have n3_ : (a0_0 = 0) = False := eq_false (by omega)
 have n4_ : (a0_0 == 0) = false := beq_eq_false_iff_ne.mpr (by omega)
 have r0_ : ((l2.length : Int) > 60) = False := eq_false (h6)
 have r0d_ : decide ((l2.length : Int) > 60) = false := decide_eq_false (h6)
 have r1_ : (60 < (l2.length : Int)) = False := eq_false (h6)
 have r1d_ : decide (60 < (l2.length : Int)) = false := decide_eq_false (h6)
 have r2_ : (60 < l2.length) = False := eq_false (by omega)
 have r2d_ : decide (60 < l2.length) = false := decide_eq_false (by omega)
 have b0_ : (wrap64 ((l0_1.length : Int) * (l1_1.length : Int)) > 900) = False := eq_false (h5)
 have b0d_ : decide (wrap64 ((l0_1.length : Int) * (l1_1.length : Int)) > 900) = false := decide_eq_false (h5)
 have b1_ : (900 < wrap64 ((l0_1.length : Int) * (l1_1.length : Int))) = False := eq_false (h5)
 have b1d_ : decide (900 < wrap64 ((l0_1.length : Int) * (l1_1.length : Int))) = false := decide_eq_false (h5)
 have hl60 : l2.length ≤ 60 := by omega
 clear h4 h5 h6 ha
 obtain ⟨c1_, c2_, c3_⟩ := cells3 (show ((w.alloc (.cells #[.int .i64 a0_0, .slice A0_1 l0_1.length c0_1, .slice A0_2 l0_2.length c0_2] 25)).alloc (.cells #[.int .i64 a1_0, .slice A1_1 l1_1.length c1_1, .slice A1_2 l1_2.length c1_2] 25)).heap[w.heap.size]? = some (.cells #[.int .i64 a0_0, .slice A0_1 l0_1.length c0_1, .slice A0_2 l0_2.length c0_2] 25 (0, 0)) from blk_alloc (new_at _ (by simp)) _)
 go_enter Try.func20, Try.ntmps20
 go_wp2_with (first | (go_at_call 46; have hF_ := Zl0.out; clear Zl0; (try clear c1_ c2_ c3_); refine calls_new (v := w) (F := fun W => W.heap[w.heap.size]? = some (.cells #[.int .i64 a0_0, .slice A0_1 l0_1.length c0_1, .slice A0_2 l0_2.length c0_2] 25 (0, 0)) ∧ W.heap[w.heap.size + 1]? = some (.cells #[.int .i64 a1_0, .slice A1_1 l1_1.length c1_1, .slice A1_2 l1_2.length c1_2] 25 (0, 0))) (below_alloc (below_alloc (Below.refl _ _) (.cells #[.int .i64 a0_0, .slice A0_1 l0_1.length c0_1, .slice A0_2 l0_2.length c0_2] 25)) (.cells #[.int .i64 a1_0, .slice A1_1 l1_1.length c1_1, .slice A1_2 l1_2.length c1_2] 25)) (⟨blk_alloc (new_at _ (by simp)) _, new_at _ (by simp)⟩) (fun w4_ b_ f_ => ?_); have S5_ := Aside0.mk b_; have K6_ := Aside0.mk f_.1; have K7_ := Aside0.mk f_.2; clear b_ f_; refine (caesuralaw21_Light.calls k0  a0_0 A0_1 c0_1 l0_1 A0_2 c0_2 l0_2  true _ (Kd.C_below (HR0_1.out) (S5_.out)) hc0_1 (Kd.C_below (HR0_2.out) (S5_.out)) hc0_2  hF_).mono ?_; clear hF_; rintro e w8_ ⟨rfl, hb_⟩; have S9_ := Aside0.mk hb_; clear hb_; obtain ⟨c10_, c11_, c12_⟩ := cells3 (blk_below K7_.out (S9_.out))) | (go_at_call 46; have hF_ := Zl1.out; clear Zl1; (try clear c10_ c11_ c12_); refine (caesuralaw21_Light.calls k1  a1_0 A1_1 c1_1 l1_1 A1_2 c1_2 l1_2  true _ (Kd.C_below (HR1_1.out) (below_step (S5_.out) S9_.out)) hc1_1 (Kd.C_below (HR1_2.out) (below_step (S5_.out) S9_.out)) hc1_2  hF_).mono ?_; clear hF_; rintro e w13_ ⟨rfl, hb_⟩; have S14_ := Aside0.mk hb_; clear hb_; obtain ⟨c15_, c16_, c17_⟩ := cells3 (blk_below K6_.out (below_step (S9_.out) S14_.out))) | (go_at_call 37; have hF_ := Zg0.out; clear Zg0; (try clear c15_ c16_ c17_); refine (caesuraref19_Good.calls k2  a0_0 A0_1 c0_1 l0_1 A0_2 c0_2 l0_2  true _ (Kd.C_below (HR0_1.out) (below_step (below_step (S5_.out) S9_.out) S14_.out)) hc0_1 (Kd.C_below (HR0_2.out) (below_step (below_step (S5_.out) S9_.out) S14_.out)) hc0_2  hF_).mono ?_; clear hF_; rintro e w18_ ⟨rfl, hb_⟩; have S19_ := Aside0.mk hb_; clear hb_; obtain ⟨c20_, c21_, c22_⟩ := cells3 (blk_below K7_.out (below_step (below_step (S9_.out) S14_.out) S19_.out))) | (go_at_call 37; have hF_ := Zg1.out; clear Zg1; (try clear c20_ c21_ c22_); refine (caesuraref19_Good.calls k3  a1_0 A1_1 c1_1 l1_1 A1_2 c1_2 l1_2  true _ (Kd.C_below (HR1_1.out) (below_step (below_step (below_step (S5_.out) S9_.out) S14_.out) S19_.out)) hc1_1 (Kd.C_below (HR1_2.out) (below_step (below_step (below_step (S5_.out) S9_.out) S14_.out) S19_.out)) hc1_2  hF_).mono ?_; clear hF_; rintro e w23_ ⟨rfl, hb_⟩; have S24_ := Aside0.mk hb_; clear hb_; obtain ⟨c25_, c26_, c27_⟩ := cells3 (blk_below K6_.out (below_step (below_step (below_step (S9_.out) S14_.out) S19_.out) S24_.out)); obtain ⟨c28_, c29_, c30_⟩ := cells3 (blk_below K7_.out (below_step (below_step (below_step (S9_.out) S14_.out) S19_.out) S24_.out))))
 (try clear c25_ c26_ c27_ c28_ c29_ c30_)
 go_loopw [7, 8] (fun v_ u_ wr => ∃ i : Nat, i ≤ l2.length ∧ u_ = .int .i64 (i : Int) ∧ Aside0 (Kd.R (Kd.int .i64) 3 wr w23_.heap.size (fun _ => True) v_ (castL ((rowW a0_0 l2).take i))) ∧ Aside0 (Below w23_.heap.size w23_ wr)) (fun _ u_ _ => l2.length - (intOf u_).toNat)
 case atStart => exact ⟨0, Nat.zero_le _, rfl, ⟨Kd.R_nil _ _ _ _ _⟩, ⟨Below.refl _ _⟩⟩
 case round =>
  obtain ⟨i, hi, rfl, HL, HB⟩ := hrel
  by_cases hlt : i < l2.length
  ·have q1b : decide ((i : Int) < (l2.length : Int)) = true := decide_eq_true (by omega)
   have hll : (castL ((rowW a0_0 l2).take i)).length = i := by rw [castL_length, List.length_take, rowW_length]; omega
   obtain ⟨X, hX⟩ : ∃ X, X = castL ((rowW a0_0 l2).take i) := ⟨_, rfl⟩
   rw [← hX] at hll HL
   have HXX := Aside0.mk hX
   have HLL := Aside0.mk hll
   clear hX hll
   obtain ⟨Al, cl, rfl⟩ := Kd.R_slice HL.out
   obtain ⟨ad, e_, hx_⟩ := Kd.at_int (HRR.out) (i : Int) (by omega) (by omega)
   cases e_
   rw [rd_nat, Int.toNat_natCast] at hx_
   obtain ⟨x, hx⟩ : ∃ x, x = l2.getD i 0 := ⟨_, rfl⟩
   rw [← hx] at hx_
   have HX := Aside0.mk hx_
   have HXE := Aside0.mk hx
   clear hx_ hx
   have z1_ : ((0 : Int) ≤ (i : Int)) = True := eq_true (by omega)
   have z2_ : ((i : Int) < (l2.length : Int)) = True := eq_true (by omega)
   go_wp2
   refine start_ (n := 12) (S := fun w' => Below wr.heap.size wr w') (ds := [10]) #[false, false, false, false, false, false, false, false, false, false, false, false] (by kernel_rfl) rfl rfl (below_drew1 (Below.refl _ _)) (fun hHeld => ?_)
   refine with_tabW ptakes.tab7 ptakes.bits7 (fun HT_ HW_ => ?_)
   have HLd := Aside0.mk (Kd.R_drew HL.out)
   have HBd := Aside0.mk (below_drew1 HB.out)
   obtain ⟨wd, hwd⟩ : ∃ wd, wd = wr.drew := ⟨_, rfl⟩
   rw [← hwd] at HLd HBd hHeld ⊢
   clear hwd
   refine pure_ (i := 0) (N := some 68) (v := ?_) (a' := ?_) #[true, false, false, false, false, false, false, false, false, false, false, false] rfl rfl (any_of HT_.out (by kernel_rfl)) (fun _ _ _ h => h) (Or.inl ⟨by rfl, ?_⟩) ?_ ?_
   rotate_left
   ·intro w'
    go_simp
    with_reducible rfl
   rotate_left
   ·simp only [Act.put, List.setIfInBounds_toArray, List.set_cons_zero, List.set_cons_succ, i64_w, i32_w]
    rfl
   refine pure_ (i := 1) (N := some 69) (v := ?_) (a' := ?_) #[true, true, false, false, false, false, false, false, false, false, false, false] rfl rfl (any_of HT_.out (by kernel_rfl)) (fun _ _ _ h => h) (Or.inl ⟨by rfl, ?_⟩) ?_ ?_
   rotate_left
   ·intro w'
    go_simp
    with_reducible rfl
   rotate_left
   ·simp only [Act.put, List.setIfInBounds_toArray, List.set_cons_zero, List.set_cons_succ, i64_w, i32_w]
    rfl
   refine pure_ (i := 2) (N := some 70) (v := ?_) (a' := ?_) #[true, true, true, false, false, false, false, false, false, false, false, false] rfl rfl (any_of HT_.out (by kernel_rfl)) (fun _ _ _ h => h) (Or.inl ⟨by rfl, ?_⟩) ?_ ?_
   rotate_left
   ·intro w'
    go_simp
    with_reducible rfl
   rotate_left
   ·simp only [Act.put, List.setIfInBounds_toArray, List.set_cons_zero, List.set_cons_succ, i64_w, i32_w]
    rfl
   refine pure_ (i := 3) (N := some 71) (v := ?_) (a' := ?_) #[true, true, true, true, false, false, false, false, false, false, false, false] rfl rfl (any_of HT_.out (by kernel_rfl)) (fun _ _ _ h => h) (Or.inl ⟨by rfl, ?_⟩) ?_ ?_
   rotate_left
   ·intro w'
    go_simp
    with_reducible rfl
   rotate_left
   ·simp only [Act.put, List.setIfInBounds_toArray, List.set_cons_zero, List.set_cons_succ, i64_w, i32_w]
    rfl
   refine pure_ (i := 6) (N := some 74) (v := ?_) (a' := ?_) #[true, true, true, true, false, false, true, false, false, false, false, false] rfl rfl (any_of HT_.out (by kernel_rfl)) (fun _ _ _ h => h) (Or.inl ⟨by rfl, ?_⟩) ?_ ?_
   rotate_left
   ·intro w'
    go_simp
    with_reducible rfl
   rotate_left
   ·simp only [Act.put, List.setIfInBounds_toArray, List.set_cons_zero, List.set_cons_succ, i64_w, i32_w]
    rfl
   refine take_ (i := 4) (N := some 72) (v := ?_) (a' := ?_) #[true, true, true, true, true, false, true, false, false, false, false, false] rfl rfl (take_ofW HT_.out HW_.out (by kernel_rfl)) (fun _ _ _ h => h) (Or.inl ⟨by rfl, ?_⟩) hHeld ?_ ?_
   rotate_left
   ·intro w' s0
    have c_ := (Below.cell (below_step (below_step (below_step (below_step (below_step (S5_.out) S9_.out) S14_.out) S19_.out) S24_.out) (below_step HB.out s0)) (World.block_lt_of_cell? _ _ HX.out)).trans HX.out
    clear s0
    go_simp
    with_reducible rfl
   rotate_left
   ·simp only [Act.put, List.setIfInBounds_toArray, List.set_cons_zero, List.set_cons_succ, i64_w, i32_w]
    rfl
   refine pure_ (i := 5) (N := some 73) (v := ?_) (a' := ?_) #[true, true, true, true, true, true, true, false, false, false, false, false] rfl rfl (any_of HT_.out (by kernel_rfl)) (fun _ _ _ h => h) (Or.inl ⟨by rfl, ?_⟩) ?_ ?_
   rotate_left
   ·intro w'
    go_simp
    with_reducible rfl
   rotate_left
   ·simp only [Act.put, List.setIfInBounds_toArray, List.set_cons_zero, List.set_cons_succ, i64_w, i32_w]
    rfl
   refine take_ (i := 7) (N := some 75) (v := ?_) (a' := ?_) #[true, true, true, true, true, true, true, true, false, false, false, false] rfl rfl (take_ofW HT_.out HW_.out (by kernel_rfl)) (fun _ _ _ h => h) (Or.inl ⟨by rfl, ?_⟩) hHeld ?_ ?_
   rotate_left
   ·intro w' s0
    have c_ : w'.cell? ⟨w.heap.size, 0, none⟩ = some (.int .i64 a0_0) := (blk_cell (blk_below K6_.out (below_step (below_step (below_step (below_step (S9_.out) S14_.out) S19_.out) S24_.out) (below_step HB.out s0))) 0).trans rfl
    clear s0
    go_simp
    with_reducible rfl
   rotate_left
   ·simp only [Act.put, List.setIfInBounds_toArray, List.set_cons_zero, List.set_cons_succ, i64_w, i32_w]
    rfl
   refine pure_ (i := 8) (N := some 76) (v := ?_) (a' := ?_) #[true, true, true, true, true, true, true, true, true, false, false, false] rfl rfl (any_of HT_.out (by kernel_rfl)) (fun _ _ _ h => h) (Or.inl ⟨by rfl, ?_⟩) ?_ ?_
   rotate_left
   ·intro w'
    go_simp
    with_reducible rfl
   rotate_left
   ·simp only [Act.put, List.setIfInBounds_toArray, List.set_cons_zero, List.set_cons_succ, i64_w, i32_w]
    rfl
   refine one_ (i := 9) (N := some 77) #[true, true, true, true, true, true, true, true, true, true, false, false] rfl rfl (one_of HT_.out (by kernel_rfl)) (by decide) (fun K hK => ?_)
   refine value_ (w1 := ?_) (v := ?_) (by rfl) rfl ?_ ?_
   rotate_left 2
   ·go_simp
    constructor
    ·rfl
    ·rfl
   refine hK.out _ _ (below_alloc hHeld _) (fun hHeld => ?_)
   clear hK K
   refine norm_ (a' := ?_) ?_ ?_
   rotate_left
   ·show Act.put _ (some 77) _ = _
    simp only [Act.put, List.setIfInBounds_toArray, List.set_cons_zero, List.set_cons_succ, i64_w, i32_w]
    rfl
   refine last_ (i := 10) (N := some 78) #[true, true, true, true, true, true, true, true, true, true, true, false] rfl rfl (one_of HT_.out (by kernel_rfl)) (by decide) (fun K hK => ?_)
   refine Kd.R_append_step (Kd.int .i64) (w0 := w23_) w23_.heap.size (by rfl) (.tmp 68) (.tmp 77) 45 3 (.int .i64 0) 8 rfl Try.underlying45 info3 rfl (by decide) (by omega) (.slice Al X.length cl) X (Int.tmod (wrap64 x) a0_0) [.int .i64 (Int.tmod (wrap64 x) a0_0)] (fun _ => True) (fun _ => False) rfl (by first | rfl | (rw [World.size_alloc]; rfl)) ?aP (fun _ hk => hk.elim) ?aF ?aO ?aB ?aS ?aL ?_
   (case aP => exact rfl)
   (case aB => exact HBd.out)
   (case aF => exact (fun _ _ => trivial))
   (case aO => exact HLd.out)
   (case aS => exact below_size HBd.out)
   (case aL => have h_ := HLL.out; omega)
   intro v25 w25 ho hb hg hat
   have HL6 := Aside0.mk ho
   have HB6 := Aside0.mk hb
   clear ho hb hg hat
   refine hK.out _ _ ?_
   clear hK K
   refine norm_ (a' := ?_) ?_ ?_
   rotate_left
   ·show Act.put _ (some 78) _ = _
    simp only [Act.put, List.setIfInBounds_toArray, List.set_cons_zero, List.set_cons_succ, i64_w, i32_w]
    rfl
   refine pure_ (i := 11) (N := some 7) (v := ?_) (a' := ?_) #[true, true, true, true, true, true, true, true, true, true, true, true] rfl rfl (any_of HT_.out (by kernel_rfl)) (fun _ _ _ h => h) (Or.inl ⟨by rfl, ?_⟩) ?_ ?_
   rotate_left
   ·intro w'
    go_simp
    with_reducible rfl
   rotate_left
   ·simp only [Act.put, List.setIfInBounds_toArray, List.set_cons_zero, List.set_cons_succ, i64_w, i32_w]
    rfl
   refine done_ (done_of HT_.out (by kernel_rfl)) ?_
   go_wp2
   go_roundw
   case rel => exact ⟨i + 1, hlt, by go_num, ⟨by rw [rowW_step ZA1.out ZWL.out hlt, ← HXX.out, ← HXE.out]; exact HL6.out⟩, HB6⟩
   case measure => simp [intOf]; omega
  ·have q1b : decide ((i : Int) < (l2.length : Int)) = false := decide_eq_false (by omega)
   have q1c : (i < l2.length) = False := eq_false (by omega)
   obtain rfl : i = l2.length := by omega
   obtain ⟨w32_, rfl⟩ : ∃ y, y = wr := ⟨wr, rfl⟩
   have S31_ := HB
   obtain ⟨X35_, hX⟩ : ∃ X, X = castL (rowW a0_0 l2) := ⟨_, rfl⟩
   rw [List.take_of_length_le (by rw [rowW_length]; exact Nat.le_refl _), ← hX] at HL
   rw [← hX] at Zt0 Zt1 Zt2 Zt3 Zt4 Zt5
   clear hX
   obtain ⟨A36_, c37_, rfl⟩ := Kd.R_slice HL.out
   have K33_ := Aside0.mk (Kd.R_reads' HL.out).2.2
   have L34_ := Aside0.mk (Kd.R_reads' HL.out).2.1
   clear HL HB
   obtain ⟨c38_, c39_, c40_⟩ := cells3 (blk_below K6_.out (below_step (below_step (below_step (below_step (S9_.out) S14_.out) S19_.out) S24_.out) S31_.out))
   obtain ⟨c41_, c42_, c43_⟩ := cells3 (blk_below K7_.out (below_step (below_step (below_step (below_step (S9_.out) S14_.out) S19_.out) S24_.out) S31_.out))
   go_wp2_with (first | (go_at_call 74; have hF_ := Zhb.out; clear Zhb; (try clear c38_ c39_ c40_ c41_ c42_ c43_); refine (product_Both.calls q0  a0_0 A0_1 c0_1 l0_1 A0_2 c0_2 l0_2 a1_0 A1_1 c1_1 l1_1 A1_2 c1_2 l1_2 1000 a0_0 X Y0 0 _ (Kd.C_below (HR0_1.out) (below_step (below_step (below_step (below_step (below_step (S5_.out) S9_.out) S14_.out) S19_.out) S24_.out) S31_.out)) hc0_1 (Kd.C_below (HR0_2.out) (below_step (below_step (below_step (below_step (below_step (S5_.out) S9_.out) S14_.out) S19_.out) S24_.out) S31_.out)) hc0_2 (Kd.C_below (HR1_1.out) (below_step (below_step (below_step (below_step (below_step (S5_.out) S9_.out) S14_.out) S19_.out) S24_.out) S31_.out)) hc1_1 (Kd.C_below (HR1_2.out) (below_step (below_step (below_step (below_step (below_step (S5_.out) S9_.out) S14_.out) S19_.out) S24_.out) S31_.out)) hc1_2  hF_).mono ?_; clear hF_; rintro e w44_ ⟨u_, v_, rfl, hS_, hR_, hb_⟩; obtain ⟨A46_, c47_, rfl⟩ := Kd.S_slice hS_; obtain ⟨A48_, c49_, rfl⟩ := Kd.R_slice hR_; have K50_ := Aside0.mk (Kd.R_reads' (Kd.S_R hS_)).2.2; have L51_ := Aside0.mk (Kd.R_reads' (Kd.S_R hS_)).2.1; have K52_ := Aside0.mk (Kd.R_reads' hR_).2.2; have L53_ := Aside0.mk (Kd.R_reads' hR_).2.1; clear hS_ hR_; have S45_ := Aside0.mk hb_; clear hb_; obtain ⟨c54_, c55_, c56_⟩ := cells3 (blk_below K6_.out (below_step (below_step (below_step (below_step (below_step (below_step (S9_.out) S14_.out) S19_.out) S24_.out) S31_.out) S45_.out) (below_alloc (Below.refl _ _) (.cells #[.int .i64 a0_0, .slice A46_ X.length c47_, .slice A48_ Y0.length c49_] 25)))); obtain ⟨c57_, c58_, c59_⟩ := cells3 (blk_below K7_.out (below_step (below_step (below_step (below_step (below_step (below_step (S9_.out) S14_.out) S19_.out) S24_.out) S31_.out) S45_.out) (below_alloc (Below.refl _ _) (.cells #[.int .i64 a0_0, .slice A46_ X.length c47_, .slice A48_ Y0.length c49_] 25))))) | (go_at_call 75; have hF_ := Zhs.out; clear Zhs; (try clear c54_ c55_ c56_ c57_ c58_ c59_); refine calls_new (v := w44_) (F := fun W => W.heap[w44_.heap.size]? = some (.cells #[.int .i64 a0_0, .slice A46_ X.length c47_, .slice A48_ Y0.length c49_] 25 (0, 0))) (below_alloc (Below.refl _ _) (.cells #[.int .i64 a0_0, .slice A46_ X.length c47_, .slice A48_ Y0.length c49_] 25)) (new_at _ (by simp)) (fun w60_ b_ f_ => ?_); have S61_ := Aside0.mk b_; have K62_ := Aside0.mk f_; clear b_ f_; refine (product_Some.calls q1  a0_0 A0_1 c0_1 l0_1 A0_2 c0_2 l0_2 a1_0 A1_1 c1_1 l1_1 A1_2 c1_2 l1_2 1000 a0_0 X Y1 0 _ (Kd.C_below (HR0_1.out) (below_step (below_step (below_step (below_step (below_step (below_step (below_step (S5_.out) S9_.out) S14_.out) S19_.out) S24_.out) S31_.out) S45_.out) S61_.out)) hc0_1 (Kd.C_below (HR0_2.out) (below_step (below_step (below_step (below_step (below_step (below_step (below_step (S5_.out) S9_.out) S14_.out) S19_.out) S24_.out) S31_.out) S45_.out) S61_.out)) hc0_2 (Kd.C_below (HR1_1.out) (below_step (below_step (below_step (below_step (below_step (below_step (below_step (S5_.out) S9_.out) S14_.out) S19_.out) S24_.out) S31_.out) S45_.out) S61_.out)) hc1_1 (Kd.C_below (HR1_2.out) (below_step (below_step (below_step (below_step (below_step (below_step (below_step (S5_.out) S9_.out) S14_.out) S19_.out) S24_.out) S31_.out) S45_.out) S61_.out)) hc1_2  hF_).mono ?_; clear hF_; rintro e w63_ ⟨u_, v_, rfl, hS_, hR_, hb_⟩; obtain ⟨A65_, c66_, rfl⟩ := Kd.S_slice hS_; obtain ⟨A67_, c68_, rfl⟩ := Kd.R_slice hR_; have K69_ := Aside0.mk (Kd.R_reads' (Kd.S_R hS_)).2.2; have L70_ := Aside0.mk (Kd.R_reads' (Kd.S_R hS_)).2.1; have K71_ := Aside0.mk (Kd.R_reads' hR_).2.2; have L72_ := Aside0.mk (Kd.R_reads' hR_).2.1; clear hS_ hR_; have S64_ := Aside0.mk hb_; clear hb_; obtain ⟨c73_, c74_, c75_⟩ := cells3 (blk_below K6_.out (below_step (below_step (below_step (below_step (below_step (below_step (below_step (below_step (S9_.out) S14_.out) S19_.out) S24_.out) S31_.out) S45_.out) S61_.out) S64_.out) (below_alloc (Below.refl _ _) (.cells #[.int .i64 a0_0, .slice A65_ X.length c66_, .slice A67_ Y1.length c68_] 25)))); obtain ⟨c76_, c77_, c78_⟩ := cells3 (blk_below K7_.out (below_step (below_step (below_step (below_step (below_step (below_step (below_step (below_step (S9_.out) S14_.out) S19_.out) S24_.out) S31_.out) S45_.out) S61_.out) S64_.out) (below_alloc (Below.refl _ _) (.cells #[.int .i64 a0_0, .slice A65_ X.length c66_, .slice A67_ Y1.length c68_] 25))))) | (go_at_call 76; have hF_ := Zhl.out; clear Zhl; (try clear c73_ c74_ c75_ c76_ c77_ c78_); refine calls_new (v := w63_) (F := fun W => W.heap[w63_.heap.size]? = some (.cells #[.int .i64 a0_0, .slice A65_ X.length c66_, .slice A67_ Y1.length c68_] 25 (0, 0))) (below_alloc (Below.refl _ _) (.cells #[.int .i64 a0_0, .slice A65_ X.length c66_, .slice A67_ Y1.length c68_] 25)) (new_at _ (by simp)) (fun w79_ b_ f_ => ?_); have S80_ := Aside0.mk b_; have K81_ := Aside0.mk f_; clear b_ f_; refine (product_Less.calls q2  a0_0 A0_1 c0_1 l0_1 A0_2 c0_2 l0_2 a1_0 A1_1 c1_1 l1_1 A1_2 c1_2 l1_2 1000 a0_0 X Y2 0 _ (Kd.C_below (HR0_1.out) (below_step (below_step (below_step (below_step (below_step (below_step (below_step (below_step (below_step (S5_.out) S9_.out) S14_.out) S19_.out) S24_.out) S31_.out) S45_.out) S61_.out) S64_.out) S80_.out)) hc0_1 (Kd.C_below (HR0_2.out) (below_step (below_step (below_step (below_step (below_step (below_step (below_step (below_step (below_step (S5_.out) S9_.out) S14_.out) S19_.out) S24_.out) S31_.out) S45_.out) S61_.out) S64_.out) S80_.out)) hc0_2 (Kd.C_below (HR1_1.out) (below_step (below_step (below_step (below_step (below_step (below_step (below_step (below_step (below_step (S5_.out) S9_.out) S14_.out) S19_.out) S24_.out) S31_.out) S45_.out) S61_.out) S64_.out) S80_.out)) hc1_1 (Kd.C_below (HR1_2.out) (below_step (below_step (below_step (below_step (below_step (below_step (below_step (below_step (below_step (S5_.out) S9_.out) S14_.out) S19_.out) S24_.out) S31_.out) S45_.out) S61_.out) S64_.out) S80_.out)) hc1_2  hF_).mono ?_; clear hF_; rintro e w82_ ⟨u_, v_, rfl, hS_, hR_, hb_⟩; obtain ⟨A84_, c85_, rfl⟩ := Kd.S_slice hS_; obtain ⟨A86_, c87_, rfl⟩ := Kd.R_slice hR_; have K88_ := Aside0.mk (Kd.R_reads' (Kd.S_R hS_)).2.2; have L89_ := Aside0.mk (Kd.R_reads' (Kd.S_R hS_)).2.1; have K90_ := Aside0.mk (Kd.R_reads' hR_).2.2; have L91_ := Aside0.mk (Kd.R_reads' hR_).2.1; clear hS_ hR_; have S83_ := Aside0.mk hb_; clear hb_; obtain ⟨c92_, c93_, c94_⟩ := cells3 (blk_below K7_.out (below_step (below_step (below_step (below_step (below_step (below_step (below_step (below_step (below_step (below_step (S9_.out) S14_.out) S19_.out) S24_.out) S31_.out) S45_.out) S61_.out) S64_.out) S80_.out) S83_.out) (below_alloc (Below.refl _ _) (.cells #[.int .i64 a0_0, .slice A84_ X.length c85_, .slice A86_ Y2.length c87_] 25))))) | (go_at_call 77; have hF_ := Zhn.out; clear Zhn; (try clear c92_ c93_ c94_); refine calls_new (v := w82_) (F := fun W => W.heap[w82_.heap.size]? = some (.cells #[.int .i64 a0_0, .slice A84_ X.length c85_, .slice A86_ Y2.length c87_] 25 (0, 0))) (below_alloc (Below.refl _ _) (.cells #[.int .i64 a0_0, .slice A84_ X.length c85_, .slice A86_ Y2.length c87_] 25)) (new_at _ (by simp)) (fun w95_ b_ f_ => ?_); have S96_ := Aside0.mk b_; have K97_ := Aside0.mk f_; clear b_ f_; refine (product_Not.calls q3  a1_0 A1_1 c1_1 l1_1 A1_2 c1_2 l1_2  a1_0 l1_1 NY true _ (Kd.C_below (HR1_1.out) (below_step (below_step (below_step (below_step (below_step (below_step (below_step (below_step (below_step (below_step (below_step (S5_.out) S9_.out) S14_.out) S19_.out) S24_.out) S31_.out) S45_.out) S61_.out) S64_.out) S80_.out) S83_.out) S96_.out)) hc1_1 (Kd.C_below (HR1_2.out) (below_step (below_step (below_step (below_step (below_step (below_step (below_step (below_step (below_step (below_step (below_step (S5_.out) S9_.out) S14_.out) S19_.out) S24_.out) S31_.out) S45_.out) S61_.out) S64_.out) S80_.out) S83_.out) S96_.out)) hc1_2  hF_).mono ?_; clear hF_; rintro e w98_ ⟨u_, v_, rfl, hS_, hR_, hb_⟩; obtain ⟨A100_, c101_, rfl⟩ := Kd.S_slice hS_; obtain ⟨A102_, c103_, rfl⟩ := Kd.R_slice hR_; have K104_ := Aside0.mk (Kd.R_reads' (Kd.S_R hS_)).2.2; have L105_ := Aside0.mk (Kd.R_reads' (Kd.S_R hS_)).2.1; have K106_ := Aside0.mk (Kd.R_reads' hR_).2.2; have L107_ := Aside0.mk (Kd.R_reads' hR_).2.1; clear hS_ hR_; have S99_ := Aside0.mk hb_; clear hb_; obtain ⟨c108_, c109_, c110_⟩ := cells3 (blk_below K6_.out (below_step (below_step (below_step (below_step (below_step (below_step (below_step (below_step (below_step (below_step (below_step (below_step (S9_.out) S14_.out) S19_.out) S24_.out) S31_.out) S45_.out) S61_.out) S64_.out) S80_.out) S83_.out) S96_.out) S99_.out) (below_alloc (Below.refl _ _) (.cells #[.int .i64 a1_0, .slice A100_ l1_1.length c101_, .slice A102_ NY.length c103_] 25)))); obtain ⟨c111_, c112_, c113_⟩ := cells3 (show (w98_.alloc (.cells #[.int .i64 a1_0, .slice A100_ l1_1.length c101_, .slice A102_ NY.length c103_] 25)).heap[w98_.heap.size]? = some (.cells #[.int .i64 a1_0, .slice A100_ l1_1.length c101_, .slice A102_ NY.length c103_] 25 (0, 0)) from new_at _ (by simp))) | (go_at_call 74; have hF_ := Zhm.out; clear Zhm; (try clear c108_ c109_ c110_ c111_ c112_ c113_); refine calls_new (v := w98_) (F := fun W => W.heap[w98_.heap.size]? = some (.cells #[.int .i64 a1_0, .slice A100_ l1_1.length c101_, .slice A102_ NY.length c103_] 25 (0, 0))) (below_alloc (Below.refl _ _) (.cells #[.int .i64 a1_0, .slice A100_ l1_1.length c101_, .slice A102_ NY.length c103_] 25)) (new_at _ (by simp)) (fun w114_ b_ f_ => ?_); have S115_ := Aside0.mk b_; have K116_ := Aside0.mk f_; clear b_ f_; refine (product_Both.calls q4  a0_0 A0_1 c0_1 l0_1 A0_2 c0_2 l0_2 a1_0 A100_ c101_ l1_1 A102_ c103_ NY 1000 a0_0 X3 Y3 0 _ (Kd.C_below (HR0_1.out) (below_step (below_step (below_step (below_step (below_step (below_step (below_step (below_step (below_step (below_step (below_step (below_step (below_step (S5_.out) S9_.out) S14_.out) S19_.out) S24_.out) S31_.out) S45_.out) S61_.out) S64_.out) S80_.out) S83_.out) S96_.out) S99_.out) S115_.out)) hc0_1 (Kd.C_below (HR0_2.out) (below_step (below_step (below_step (below_step (below_step (below_step (below_step (below_step (below_step (below_step (below_step (below_step (below_step (S5_.out) S9_.out) S14_.out) S19_.out) S24_.out) S31_.out) S45_.out) S61_.out) S64_.out) S80_.out) S83_.out) S96_.out) S99_.out) S115_.out)) hc0_2 (Kd.C_below (K104_.out) (S115_.out)) L105_.out (Kd.C_below (K106_.out) (S115_.out)) L107_.out  hF_).mono ?_; clear hF_; rintro e w117_ ⟨u_, v_, rfl, hS_, hR_, hb_⟩; obtain ⟨A119_, c120_, rfl⟩ := Kd.S_slice hS_; obtain ⟨A121_, c122_, rfl⟩ := Kd.R_slice hR_; have K123_ := Aside0.mk (Kd.R_reads' (Kd.S_R hS_)).2.2; have L124_ := Aside0.mk (Kd.R_reads' (Kd.S_R hS_)).2.1; have K125_ := Aside0.mk (Kd.R_reads' hR_).2.2; have L126_ := Aside0.mk (Kd.R_reads' hR_).2.1; clear hS_ hR_; have S118_ := Aside0.mk hb_; clear hb_))
   obtain ⟨w127_, hx_⟩ : ∃ x, x = (w117_.alloc (.cells #[.int .i64 a0_0, .slice A119_ X3.length c120_, .slice A121_ Y3.length c122_] 25)) := ⟨_, rfl⟩
   have S128_ : Aside0 (Below w117_.heap.size w117_ w127_) := ⟨by rw [hx_]; exact below_alloc (Below.refl _ _) (.cells #[.int .i64 a0_0, .slice A119_ X3.length c120_, .slice A121_ Y3.length c122_] 25)⟩
   have K129_ : Aside0 (w127_.heap[w117_.heap.size]? = some (.cells #[.int .i64 a0_0, .slice A119_ X3.length c120_, .slice A121_ Y3.length c122_] 25 (0, 0))) := ⟨by rw [hx_]; exact new_at _ (by simp)⟩
   rw [← hx_]
   clear hx_
   refine start_ (n := 8) (S := fun w' => Below w127_.heap.size w127_ w') (ds := []) #[false, false, false, false, false, false, false, false] (by kernel_rfl) rfl rfl (below_drew1 (Below.refl _ _)) (fun hHeld => ?_)
   refine with_tabW ptakes.tab15 ptakes.bits15 (fun HT_ HW_ => ?_)
   have S131_ := Aside0.mk hHeld
   obtain ⟨w130_, hx_⟩ : ∃ x, x = w127_.drew := ⟨_, rfl⟩
   rw [← hx_] at hHeld S131_ ⊢
   clear hx_
   refine pure_ (i := 1) (N := some 127) (v := ?_) (a' := ?_) #[false, true, false, false, false, false, false, false] rfl rfl (any_of HT_.out (by kernel_rfl)) (fun _ _ _ h => h) (Or.inl ⟨by rfl, ?_⟩) ?_ ?_
   rotate_left
   ·intro w'
    go_simp
    with_reducible rfl
   rotate_left
   ·simp only [Act.put, List.setIfInBounds_toArray, List.set_cons_zero, List.set_cons_succ, i64_w, i32_w]
    rfl
   refine pure_ (i := 4) (N := some 130) (v := ?_) (a' := ?_) #[false, true, false, false, true, false, false, false] rfl rfl (any_of HT_.out (by kernel_rfl)) (fun _ _ _ h => h) (Or.inl ⟨by rfl, ?_⟩) ?_ ?_
   rotate_left
   ·intro w'
    go_simp
    with_reducible rfl
   rotate_left
   ·simp only [Act.put, List.setIfInBounds_toArray, List.set_cons_zero, List.set_cons_succ, i64_w, i32_w]
    rfl
   refine take_ (i := 0) (N := some 126) (v := ?_) (a' := ?_) #[true, true, false, false, true, false, false, false] rfl rfl (take_ofW HT_.out HW_.out (by kernel_rfl)) (fun _ _ _ h => h) (Or.inl ⟨by rfl, ?_⟩) hHeld ?_ ?_
   rotate_left
   ·intro w' s0
    have c0_ : w'.cell? ⟨w.heap.size, 0, none⟩ = some (.int .i64 a0_0) := (blk_cell (blk_below K6_.out (below_step (below_step (below_step (below_step (below_step (below_step (below_step (below_step (below_step (below_step (below_step (below_step (below_step (below_step (below_step (S9_.out) S14_.out) S19_.out) S24_.out) S31_.out) S45_.out) S61_.out) S64_.out) S80_.out) S83_.out) S96_.out) S99_.out) S115_.out) S118_.out) S128_.out) (s0))) 0).trans rfl
    have c1_ : w'.cell? ⟨w.heap.size, 1, none⟩ = some (.slice A0_1 l0_1.length c0_1) := (blk_cell (blk_below K6_.out (below_step (below_step (below_step (below_step (below_step (below_step (below_step (below_step (below_step (below_step (below_step (below_step (below_step (below_step (below_step (S9_.out) S14_.out) S19_.out) S24_.out) S31_.out) S45_.out) S61_.out) S64_.out) S80_.out) S83_.out) S96_.out) S99_.out) S115_.out) S118_.out) S128_.out) (s0))) 1).trans rfl
    have c2_ : w'.cell? ⟨w.heap.size, 2, none⟩ = some (.slice A0_2 l0_2.length c0_2) := (blk_cell (blk_below K6_.out (below_step (below_step (below_step (below_step (below_step (below_step (below_step (below_step (below_step (below_step (below_step (below_step (below_step (below_step (below_step (S9_.out) S14_.out) S19_.out) S24_.out) S31_.out) S45_.out) S61_.out) S64_.out) S80_.out) S83_.out) S96_.out) S99_.out) S115_.out) S118_.out) S128_.out) (s0))) 2).trans rfl
    clear s0
    go_simp
    with_reducible rfl
   rotate_left
   ·simp only [Act.put, List.setIfInBounds_toArray, List.set_cons_zero, List.set_cons_succ, i64_w, i32_w]
    rfl
   refine take_ (i := 3) (N := some 129) (v := ?_) (a' := ?_) #[true, true, false, true, true, false, false, false] rfl rfl (take_ofW HT_.out HW_.out (by kernel_rfl)) (fun _ _ _ h => h) (Or.inl ⟨by rfl, ?_⟩) hHeld ?_ ?_
   rotate_left
   ·intro w' s0
    have c0_ : w'.cell? ⟨w.heap.size + 1, 0, none⟩ = some (.int .i64 a1_0) := (blk_cell (blk_below K7_.out (below_step (below_step (below_step (below_step (below_step (below_step (below_step (below_step (below_step (below_step (below_step (below_step (below_step (below_step (below_step (S9_.out) S14_.out) S19_.out) S24_.out) S31_.out) S45_.out) S61_.out) S64_.out) S80_.out) S83_.out) S96_.out) S99_.out) S115_.out) S118_.out) S128_.out) (s0))) 0).trans rfl
    have c1_ : w'.cell? ⟨w.heap.size + 1, 1, none⟩ = some (.slice A1_1 l1_1.length c1_1) := (blk_cell (blk_below K7_.out (below_step (below_step (below_step (below_step (below_step (below_step (below_step (below_step (below_step (below_step (below_step (below_step (below_step (below_step (below_step (S9_.out) S14_.out) S19_.out) S24_.out) S31_.out) S45_.out) S61_.out) S64_.out) S80_.out) S83_.out) S96_.out) S99_.out) S115_.out) S118_.out) S128_.out) (s0))) 1).trans rfl
    have c2_ : w'.cell? ⟨w.heap.size + 1, 2, none⟩ = some (.slice A1_2 l1_2.length c1_2) := (blk_cell (blk_below K7_.out (below_step (below_step (below_step (below_step (below_step (below_step (below_step (below_step (below_step (below_step (below_step (below_step (below_step (below_step (below_step (S9_.out) S14_.out) S19_.out) S24_.out) S31_.out) S45_.out) S61_.out) S64_.out) S80_.out) S83_.out) S96_.out) S99_.out) S115_.out) S118_.out) S128_.out) (s0))) 2).trans rfl
    clear s0
    go_simp
    with_reducible rfl
   rotate_left
   ·simp only [Act.put, List.setIfInBounds_toArray, List.set_cons_zero, List.set_cons_succ, i64_w, i32_w]
    rfl
   refine one_ (i := 2) (N := some 128) #[true, true, true, true, true, false, false, false] rfl rfl (one_of HT_.out (by kernel_rfl)) (by decide) (fun K hK => ?_)
   refine goes_ Try.func56 (by kernel_rfl) rfl #[.agg #[.int .i64 a0_0, .slice A0_1 l0_1.length c0_1, .slice A0_2 l0_2.length c0_2], .slice A36_ X35_.length c37_] (by rfl) rfl rfl (by simp only [List.map_toArray, List.map_cons, List.map_nil]; rfl) ?_
   refine (subset_Takes.calls p0  a0_0 A0_1 c0_1 l0_1 A0_2 c0_2 l0_2 A36_ c37_ X35_ _ _ (Kd.C_below (HR0_1.out) (below_step (below_step (below_step (below_step (below_step (below_step (below_step (below_step (below_step (below_step (below_step (below_step (below_step (below_step (below_step (below_step (S5_.out) S9_.out) S14_.out) S19_.out) S24_.out) S31_.out) S45_.out) S61_.out) S64_.out) S80_.out) S83_.out) S96_.out) S99_.out) S115_.out) S118_.out) S128_.out) S131_.out)) hc0_1 (Kd.C_below (HR0_2.out) (below_step (below_step (below_step (below_step (below_step (below_step (below_step (below_step (below_step (below_step (below_step (below_step (below_step (below_step (below_step (below_step (S5_.out) S9_.out) S14_.out) S19_.out) S24_.out) S31_.out) S45_.out) S61_.out) S64_.out) S80_.out) S83_.out) S96_.out) S99_.out) S115_.out) S118_.out) S128_.out) S131_.out)) hc0_2 (Kd.C_below K33_.out (below_step (below_step (below_step (below_step (below_step (below_step (below_step (below_step (below_step (below_step (S45_.out) S61_.out) S64_.out) S80_.out) S83_.out) S96_.out) S99_.out) S115_.out) S118_.out) S128_.out) S131_.out)) L34_.out Zt0.out).mono ?_
   rintro e w132_ ⟨rfl, hb_⟩
   refine ⟨_, rfl, ?_⟩
   have S133_ := Aside0.mk (hb_)
   refine hK.out _ _ (below_step hHeld hb_) (fun hHeld => ?_)
   clear hK K
   refine norm_ (a' := ?_) ?_ ?_
   rotate_left
   ·show Act.put _ (some 128) _ = _
    simp only [Act.put, List.setIfInBounds_toArray, List.set_cons_zero, List.set_cons_succ, i64_w, i32_w]
    rfl
   refine one_ (i := 5) (N := some 131) #[true, true, true, true, true, true, false, false] rfl rfl (one_of HT_.out (by kernel_rfl)) (by decide) (fun K hK => ?_)
   refine goes_ Try.func56 (by kernel_rfl) rfl #[.agg #[.int .i64 a1_0, .slice A1_1 l1_1.length c1_1, .slice A1_2 l1_2.length c1_2], .slice A36_ X35_.length c37_] (by rfl) rfl rfl (by simp only [List.map_toArray, List.map_cons, List.map_nil]; rfl) ?_
   refine (subset_Takes.calls p1  a1_0 A1_1 c1_1 l1_1 A1_2 c1_2 l1_2 A36_ c37_ X35_ _ _ (Kd.C_below (HR1_1.out) (below_step (below_step (below_step (below_step (below_step (below_step (below_step (below_step (below_step (below_step (below_step (below_step (below_step (below_step (below_step (below_step (below_step (S5_.out) S9_.out) S14_.out) S19_.out) S24_.out) S31_.out) S45_.out) S61_.out) S64_.out) S80_.out) S83_.out) S96_.out) S99_.out) S115_.out) S118_.out) S128_.out) S131_.out) S133_.out)) hc1_1 (Kd.C_below (HR1_2.out) (below_step (below_step (below_step (below_step (below_step (below_step (below_step (below_step (below_step (below_step (below_step (below_step (below_step (below_step (below_step (below_step (below_step (S5_.out) S9_.out) S14_.out) S19_.out) S24_.out) S31_.out) S45_.out) S61_.out) S64_.out) S80_.out) S83_.out) S96_.out) S99_.out) S115_.out) S118_.out) S128_.out) S131_.out) S133_.out)) hc1_2 (Kd.C_below K33_.out (below_step (below_step (below_step (below_step (below_step (below_step (below_step (below_step (below_step (below_step (below_step (S45_.out) S61_.out) S64_.out) S80_.out) S83_.out) S96_.out) S99_.out) S115_.out) S118_.out) S128_.out) S131_.out) S133_.out)) L34_.out Zt1.out).mono ?_
   rintro e w134_ ⟨rfl, hb_⟩
   refine ⟨_, rfl, ?_⟩
   have S135_ := Aside0.mk (hb_)
   refine hK.out _ _ (below_step hHeld hb_) (fun hHeld => ?_)
   clear hK K
   refine norm_ (a' := ?_) ?_ ?_
   rotate_left
   ·show Act.put _ (some 131) _ = _
    simp only [Act.put, List.setIfInBounds_toArray, List.set_cons_zero, List.set_cons_succ, i64_w, i32_w]
    rfl
   refine pure_ (i := 6) (N := some 19) (v := ?_) (a' := ?_) #[true, true, true, true, true, true, true, false] rfl rfl (any_of HT_.out (by kernel_rfl)) (fun _ _ _ h => h) (Or.inl ⟨by rfl, ?_⟩) ?_ ?_
   rotate_left
   ·intro w'
    go_simp
    with_reducible rfl
   rotate_left
   ·simp only [Act.put, List.setIfInBounds_toArray, List.set_cons_zero, List.set_cons_succ, i64_w, i32_w]
    rfl
   refine pure_ (i := 7) (N := some 20) (v := ?_) (a' := ?_) #[true, true, true, true, true, true, true, true] rfl rfl (any_of HT_.out (by kernel_rfl)) (fun _ _ _ h => h) (Or.inl ⟨by rfl, ?_⟩) ?_ ?_
   rotate_left
   ·intro w'
    go_simp
    with_reducible rfl
   rotate_left
   ·simp only [Act.put, List.setIfInBounds_toArray, List.set_cons_zero, List.set_cons_succ, i64_w, i32_w]
    rfl
   refine done_ (done_of HT_.out (by kernel_rfl)) ?_
   cases tx <;> cases ty <;>
   (
    obtain ⟨c136_, c137_, c138_⟩ := cells3 (blk_below K62_.out (below_step (below_step (below_step (below_step (below_step (below_step (below_step (below_step (below_step (below_step (S64_.out) S80_.out) S83_.out) S96_.out) S99_.out) S115_.out) S118_.out) S128_.out) S131_.out) S133_.out) S135_.out))
    go_wp2_with (first | (go_at_call 56; have hF_ := Zt2.out; clear Zt2; (try clear c136_ c137_ c138_); refine (subset_Takes.calls p2  a0_0 A46_ c47_ X A48_ c49_ Y0 A36_ c37_ X35_ _ _ (Kd.C_below (K50_.out) (below_step (below_step (below_step (below_step (below_step (below_step (below_step (below_step (below_step (below_step (below_step (S61_.out) S64_.out) S80_.out) S83_.out) S96_.out) S99_.out) S115_.out) S118_.out) S128_.out) S131_.out) S133_.out) S135_.out)) L51_.out (Kd.C_below (K52_.out) (below_step (below_step (below_step (below_step (below_step (below_step (below_step (below_step (below_step (below_step (below_step (S61_.out) S64_.out) S80_.out) S83_.out) S96_.out) S99_.out) S115_.out) S118_.out) S128_.out) S131_.out) S133_.out) S135_.out)) L53_.out (Kd.C_below K33_.out (below_step (below_step (below_step (below_step (below_step (below_step (below_step (below_step (below_step (below_step (below_step (below_step (S45_.out) S61_.out) S64_.out) S80_.out) S83_.out) S96_.out) S99_.out) S115_.out) S118_.out) S128_.out) S131_.out) S133_.out) S135_.out)) L34_.out hF_).mono ?_; clear hF_; rintro e w139_ ⟨rfl, hb_⟩; have S140_ := Aside0.mk hb_; clear hb_; obtain ⟨c141_, c142_, c143_⟩ := cells3 (blk_below K81_.out (below_step (below_step (below_step (below_step (below_step (below_step (below_step (below_step (below_step (S83_.out) S96_.out) S99_.out) S115_.out) S118_.out) S128_.out) S131_.out) S133_.out) S135_.out) S140_.out))) | (go_at_call 56; have hF_ := Zt3.out; clear Zt3; (try clear c141_ c142_ c143_); refine (subset_Takes.calls p3  a0_0 A65_ c66_ X A67_ c68_ Y1 A36_ c37_ X35_ _ _ (Kd.C_below (K69_.out) (below_step (below_step (below_step (below_step (below_step (below_step (below_step (below_step (below_step (below_step (S80_.out) S83_.out) S96_.out) S99_.out) S115_.out) S118_.out) S128_.out) S131_.out) S133_.out) S135_.out) S140_.out)) L70_.out (Kd.C_below (K71_.out) (below_step (below_step (below_step (below_step (below_step (below_step (below_step (below_step (below_step (below_step (S80_.out) S83_.out) S96_.out) S99_.out) S115_.out) S118_.out) S128_.out) S131_.out) S133_.out) S135_.out) S140_.out)) L72_.out (Kd.C_below K33_.out (below_step (below_step (below_step (below_step (below_step (below_step (below_step (below_step (below_step (below_step (below_step (below_step (below_step (S45_.out) S61_.out) S64_.out) S80_.out) S83_.out) S96_.out) S99_.out) S115_.out) S118_.out) S128_.out) S131_.out) S133_.out) S135_.out) S140_.out)) L34_.out hF_).mono ?_; clear hF_; rintro e w144_ ⟨rfl, hb_⟩; have S145_ := Aside0.mk hb_; clear hb_; obtain ⟨c146_, c147_, c148_⟩ := cells3 (blk_below K97_.out (below_step (below_step (below_step (below_step (below_step (below_step (below_step (below_step (S99_.out) S115_.out) S118_.out) S128_.out) S131_.out) S133_.out) S135_.out) S140_.out) S145_.out))) | (go_at_call 56; have hF_ := Zt4.out; clear Zt4; (try clear c146_ c147_ c148_); refine (subset_Takes.calls p4  a0_0 A84_ c85_ X A86_ c87_ Y2 A36_ c37_ X35_ _ _ (Kd.C_below (K88_.out) (below_step (below_step (below_step (below_step (below_step (below_step (below_step (below_step (below_step (S96_.out) S99_.out) S115_.out) S118_.out) S128_.out) S131_.out) S133_.out) S135_.out) S140_.out) S145_.out)) L89_.out (Kd.C_below (K90_.out) (below_step (below_step (below_step (below_step (below_step (below_step (below_step (below_step (below_step (S96_.out) S99_.out) S115_.out) S118_.out) S128_.out) S131_.out) S133_.out) S135_.out) S140_.out) S145_.out)) L91_.out (Kd.C_below K33_.out (below_step (below_step (below_step (below_step (below_step (below_step (below_step (below_step (below_step (below_step (below_step (below_step (below_step (below_step (S45_.out) S61_.out) S64_.out) S80_.out) S83_.out) S96_.out) S99_.out) S115_.out) S118_.out) S128_.out) S131_.out) S133_.out) S135_.out) S140_.out) S145_.out)) L34_.out hF_).mono ?_; clear hF_; rintro e w149_ ⟨rfl, hb_⟩; have S150_ := Aside0.mk hb_; clear hb_; obtain ⟨c151_, c152_, c153_⟩ := cells3 (blk_below K116_.out (below_step (below_step (below_step (below_step (below_step (below_step (below_step (S118_.out) S128_.out) S131_.out) S133_.out) S135_.out) S140_.out) S145_.out) S150_.out))) | (go_at_call 56; have hF_ := Zt5.out; clear Zt5; (try clear c151_ c152_ c153_); refine (subset_Takes.calls p5  a1_0 A100_ c101_ l1_1 A102_ c103_ NY A36_ c37_ X35_ _ _ (Kd.C_below (K104_.out) (below_step (below_step (below_step (below_step (below_step (below_step (below_step (below_step (S115_.out) S118_.out) S128_.out) S131_.out) S133_.out) S135_.out) S140_.out) S145_.out) S150_.out)) L105_.out (Kd.C_below (K106_.out) (below_step (below_step (below_step (below_step (below_step (below_step (below_step (below_step (S115_.out) S118_.out) S128_.out) S131_.out) S133_.out) S135_.out) S140_.out) S145_.out) S150_.out)) L107_.out (Kd.C_below K33_.out (below_step (below_step (below_step (below_step (below_step (below_step (below_step (below_step (below_step (below_step (below_step (below_step (below_step (below_step (below_step (S45_.out) S61_.out) S64_.out) S80_.out) S83_.out) S96_.out) S99_.out) S115_.out) S118_.out) S128_.out) S131_.out) S133_.out) S135_.out) S140_.out) S145_.out) S150_.out)) L34_.out hF_).mono ?_; clear hF_; rintro e w154_ ⟨rfl, hb_⟩; have S155_ := Aside0.mk hb_; clear hb_; obtain ⟨c156_, c157_, c158_⟩ := cells3 (blk_below K129_.out (below_step (below_step (below_step (below_step (below_step (below_step (S131_.out) S133_.out) S135_.out) S140_.out) S145_.out) S150_.out) S155_.out)); obtain ⟨c159_, c160_, c161_⟩ := cells3 (blk_below K97_.out (below_step (below_step (below_step (below_step (below_step (below_step (below_step (below_step (below_step (below_step (S99_.out) S115_.out) S118_.out) S128_.out) S131_.out) S133_.out) S135_.out) S140_.out) S145_.out) S150_.out) S155_.out))) | (go_at_call 70; have hF_ := Zhk.out; clear Zhk; (try clear c156_ c157_ c158_ c159_ c160_ c161_); refine (number_Alike.calls p6  a0_0 A119_ c120_ X3 A121_ c122_ Y3 a0_0 A84_ c85_ X A86_ c87_ Y2  true _ (Kd.C_below (K123_.out) (below_step (below_step (below_step (below_step (below_step (below_step (below_step (S128_.out) S131_.out) S133_.out) S135_.out) S140_.out) S145_.out) S150_.out) S155_.out)) L124_.out (Kd.C_below (K125_.out) (below_step (below_step (below_step (below_step (below_step (below_step (below_step (S128_.out) S131_.out) S133_.out) S135_.out) S140_.out) S145_.out) S150_.out) S155_.out)) L126_.out (Kd.C_below (K88_.out) (below_step (below_step (below_step (below_step (below_step (below_step (below_step (below_step (below_step (below_step (below_step (S96_.out) S99_.out) S115_.out) S118_.out) S128_.out) S131_.out) S133_.out) S135_.out) S140_.out) S145_.out) S150_.out) S155_.out)) L89_.out (Kd.C_below (K90_.out) (below_step (below_step (below_step (below_step (below_step (below_step (below_step (below_step (below_step (below_step (below_step (S96_.out) S99_.out) S115_.out) S118_.out) S128_.out) S131_.out) S133_.out) S135_.out) S140_.out) S145_.out) S150_.out) S155_.out)) L91_.out  hF_).mono ?_; clear hF_; rintro e w162_ ⟨rfl, hb_⟩; have S163_ := Aside0.mk hb_; clear hb_) | (go_at_call 73; have hF_ := ZW.out; clear ZW; refine (caesuralaw24_wakes.calls kw    true _   hF_).mono ?_; clear hF_; rintro e w164_ ⟨rfl, hb_⟩; have S165_ := Aside0.mk hb_; clear hb_))
    go_ret
    exact ⟨rfl, below_step (below_step (below_step (below_step (below_step (below_step (below_step (below_step (below_step (below_step (below_step (below_step (below_step (below_step (below_step (below_step (below_step (below_step (below_step (below_step (below_step (below_step (below_step (below_step (S5_.out) S9_.out) S14_.out) S19_.out) S24_.out) S31_.out) S45_.out) S61_.out) S64_.out) S80_.out) S83_.out) S96_.out) S99_.out) S115_.out) S118_.out) S128_.out) S131_.out) S133_.out) S135_.out) S140_.out) S145_.out) S150_.out) S155_.out) S163_.out) S165_.out⟩)

end Go.Proofs.Ytelkjbacdpmnfaa.A
