/- By a program, out of the translation (wip/myprint.py). -/
import Derived.Test.YtelkjbacdpmnfaaA0
import Derived.Test.YtelkjbacdpmnfaaANumberCanon
import Derived.Test.YtelkjbacdpmnfaaANumberSame
import Derived.Test.YtelkjbacdpmnfaaAWordsA
import Derived.Test.YtelkjbacdpmnfaaAWordsB
namespace Go.Proofs.Ytelkjbacdpmnfaa.A
open Go.RowKit Go.Proofs.YtelkjbacdpmnfaaW.PrintWords Go.Proofs.YtelkjbacdpmnfaaW.PrintLast Go.Proofs.YtelkjbacdpmnfaaW.PrintMore
attribute [local go_sem] max2_int min2_int max_two min_two max_three min_three max_four min_four   -- for this text's walks alone
set_option linter.unusedVariables false
set_option linter.unusedSimpArgs false

/-! ### number_Alike: function 70 -/
def number_Alike.f (k : Nat) (a0_0 : Int) (l0_1 : List (List Int)) (l0_2 : List Bool) (a1_0 : Int) (l1_1 : List (List Int)) (l1_2 : List Bool) : Option Bool := (number_Canon.f k a0_0 l0_1 l0_2).bind fun b => (number_Canon.f k a1_0 l1_1 l1_2).bind fun c => if b.2.2.2 = true then (if c.2.2.2 = true then (number_Same.f b.1 b.2.1 b.2.2.1 c.1 c.2.1 c.2.2.1).bind fun t => some t else some false) else some false
theorem number_Alike.mono : ∀ a0 a1 a2 a3 a4 a5 k, LeO (number_Alike.f k a0 a1 a2 a3 a4 a5) (number_Alike.f (k + 1) a0 a1 a2 a3 a4 a5) := by
  intro a0 a1 a2 a3 a4 a5 k
  unfold number_Alike.f
  exact LeO.bind (number_Canon.mono _ _ _ _) fun b => LeO.bind (number_Canon.mono _ _ _ _) fun c => LeO.refl _
set_option maxHeartbeats 8000000 in
set_option maxRecDepth 100000 in
theorem number_Alike.no0 (k : Nat) (a0_0 : Int) (A0_1 : Option Addr) (c0_1 : Nat) (l0_1 : List (List Int)) (A0_2 : Option Addr) (c0_2 : Nat) (l0_2 : List Bool) (a1_0 : Int) (A1_1 : Option Addr) (c1_1 : Nat) (l1_1 : List (List Int)) (A1_2 : Option Addr) (c1_2 : Nat) (l1_2 : List Bool) (b1 : Int) (b2 : List (List Int)) (b3 : List Bool) (c1 : Int) (c2 : List (List Int)) (c3 : List Bool) (u : Bool) (w : World) (hr0_1 : Kd.C (Kd.slice 3 (Kd.int .i64)) w A0_1 l0_1.length l0_1) (hc0_1 : l0_1.length ≤ c0_1) (hr0_2 : Kd.C Kd.bool w A0_2 l0_2.length l0_2) (hc0_2 : l0_2.length ≤ c0_2) (hr1_1 : Kd.C (Kd.slice 3 (Kd.int .i64)) w A1_1 l1_1.length l1_1) (hc1_1 : l1_1.length ≤ c1_1) (hr1_2 : Kd.C Kd.bool w A1_2 l1_2.length l1_2) (hc1_2 : l1_2.length ≤ c1_2) (hb : number_Canon.f k a0_0 l0_1 l0_2 = some (b1, b2, b3, false)) (hc : number_Canon.f k a1_0 l1_1 l1_2 = some (c1, c2, c3, u)) :
    Calls Try.prog 70 #[.agg #[.int .i64 a0_0, .slice A0_1 l0_1.length c0_1, .slice A0_2 l0_2.length c0_2], .agg #[.int .i64 a1_0, .slice A1_1 l1_1.length c1_1, .slice A1_2 l1_2.length c1_2]] w fun e w' => e = .returned (.bool false) ∧ Below w.heap.size w w' := by
  have hu25 := Try.underlying25
  have hu45 := Try.underlying45
  have hu22 := Try.underlying22
  have hu23 := Try.underlying23
  have HR0_1 := Aside0.mk hr0_1
  have HR0_2 := Aside0.mk hr0_2
  clear hr0_1 hr0_2
  have HR1_1 := Aside0.mk hr1_1
  have HR1_2 := Aside0.mk hr1_2
  clear hr1_1 hr1_2
  have ZB := Aside0.mk hb
  have ZC := Aside0.mk hc
  clear hb hc
  obtain ⟨c1_, c2_, c3_⟩ := cells3 (show ((w.alloc (.cells #[.int .i64 a0_0, .slice A0_1 l0_1.length c0_1, .slice A0_2 l0_2.length c0_2] 25)).alloc (.cells #[.int .i64 a1_0, .slice A1_1 l1_1.length c1_1, .slice A1_2 l1_2.length c1_2] 25)).heap[w.heap.size]? = some (.cells #[.int .i64 a0_0, .slice A0_1 l0_1.length c0_1, .slice A0_2 l0_2.length c0_2] 25 (0, 0)) from blk_alloc (new_at _ (by simp)) _)
  go_enter Try.func70, Try.ntmps70
  go_wp2_with (first | (go_at_call 65; have hF_ := ZB.out; clear ZB; (try clear c1_ c2_ c3_); refine calls_new (v := w) (F := fun W => W.heap[w.heap.size]? = some (.cells #[.int .i64 a0_0, .slice A0_1 l0_1.length c0_1, .slice A0_2 l0_2.length c0_2] 25 (0, 0)) ∧ W.heap[w.heap.size + 1]? = some (.cells #[.int .i64 a1_0, .slice A1_1 l1_1.length c1_1, .slice A1_2 l1_2.length c1_2] 25 (0, 0))) (below_alloc (below_alloc (Below.refl _ _) (.cells #[.int .i64 a0_0, .slice A0_1 l0_1.length c0_1, .slice A0_2 l0_2.length c0_2] 25)) (.cells #[.int .i64 a1_0, .slice A1_1 l1_1.length c1_1, .slice A1_2 l1_2.length c1_2] 25)) (⟨blk_alloc (new_at _ (by simp)) _, new_at _ (by simp)⟩) (fun w4_ b_ f_ => ?_); have S5_ := Aside0.mk b_; have K6_ := Aside0.mk f_.1; have K7_ := Aside0.mk f_.2; clear b_ f_; refine (number_Canon.calls k  a0_0 A0_1 c0_1 l0_1 A0_2 c0_2 l0_2  b1 b2 b3 false _ (Kd.C_below (HR0_1.out) (S5_.out)) hc0_1 (Kd.C_below (HR0_2.out) (S5_.out)) hc0_2  hF_).mono ?_; clear hF_; rintro e w8_ ⟨u_, v_, rfl, hS_, hR_, hb_⟩; obtain ⟨A10_, c11_, rfl⟩ := Kd.S_slice hS_; obtain ⟨A12_, c13_, rfl⟩ := Kd.R_slice hR_; have K14_ := Aside0.mk (Kd.R_reads' (Kd.S_R hS_)).2.2; have L15_ := Aside0.mk (Kd.R_reads' (Kd.S_R hS_)).2.1; have K16_ := Aside0.mk (Kd.R_reads' hR_).2.2; have L17_ := Aside0.mk (Kd.R_reads' hR_).2.1; clear hS_ hR_; have S9_ := Aside0.mk hb_; clear hb_; obtain ⟨c18_, c19_, c20_⟩ := cells3 (blk_below K7_.out (below_step (S9_.out) (below_alloc (Below.refl _ _) (.cells #[.int .i64 b1, .slice A10_ b2.length c11_, .slice A12_ b3.length c13_] 25))))) | (go_at_call 65; have hF_ := ZC.out; clear ZC; (try clear c18_ c19_ c20_); refine calls_new (v := w8_) (F := fun W => W.heap[w8_.heap.size]? = some (.cells #[.int .i64 b1, .slice A10_ b2.length c11_, .slice A12_ b3.length c13_] 25 (0, 0))) (below_alloc (Below.refl _ _) (.cells #[.int .i64 b1, .slice A10_ b2.length c11_, .slice A12_ b3.length c13_] 25)) (new_at _ (by simp)) (fun w21_ b_ f_ => ?_); have S22_ := Aside0.mk b_; have K23_ := Aside0.mk f_; clear b_ f_; refine (number_Canon.calls k  a1_0 A1_1 c1_1 l1_1 A1_2 c1_2 l1_2  c1 c2 c3 u _ (Kd.C_below (HR1_1.out) (below_step (below_step (S5_.out) S9_.out) S22_.out)) hc1_1 (Kd.C_below (HR1_2.out) (below_step (below_step (S5_.out) S9_.out) S22_.out)) hc1_2  hF_).mono ?_; clear hF_; rintro e w24_ ⟨u_, v_, rfl, hS_, hR_, hb_⟩; obtain ⟨A26_, c27_, rfl⟩ := Kd.S_slice hS_; obtain ⟨A28_, c29_, rfl⟩ := Kd.R_slice hR_; have K30_ := Aside0.mk (Kd.R_reads' (Kd.S_R hS_)).2.2; have L31_ := Aside0.mk (Kd.R_reads' (Kd.S_R hS_)).2.1; have K32_ := Aside0.mk (Kd.R_reads' hR_).2.2; have L33_ := Aside0.mk (Kd.R_reads' hR_).2.1; clear hS_ hR_; have S25_ := Aside0.mk hb_; clear hb_; obtain ⟨c34_, c35_, c36_⟩ := cells3 (blk_below K23_.out (below_step (S25_.out) (below_alloc (Below.refl _ _) (.cells #[.int .i64 c1, .slice A26_ c2.length c27_, .slice A28_ c3.length c29_] 25)))); obtain ⟨c37_, c38_, c39_⟩ := cells3 (show (w24_.alloc (.cells #[.int .i64 c1, .slice A26_ c2.length c27_, .slice A28_ c3.length c29_] 25)).heap[w24_.heap.size]? = some (.cells #[.int .i64 c1, .slice A26_ c2.length c27_, .slice A28_ c3.length c29_] 25 (0, 0)) from new_at _ (by simp))))
  go_ret
  exact ⟨rfl, below_step (below_step (below_step (below_step (S5_.out) S9_.out) S22_.out) S25_.out) (below_alloc (Below.refl _ _) (.cells #[.int .i64 c1, .slice A26_ c2.length c27_, .slice A28_ c3.length c29_] 25))⟩
set_option maxHeartbeats 8000000 in
set_option maxRecDepth 100000 in
theorem number_Alike.no1 (k : Nat) (a0_0 : Int) (A0_1 : Option Addr) (c0_1 : Nat) (l0_1 : List (List Int)) (A0_2 : Option Addr) (c0_2 : Nat) (l0_2 : List Bool) (a1_0 : Int) (A1_1 : Option Addr) (c1_1 : Nat) (l1_1 : List (List Int)) (A1_2 : Option Addr) (c1_2 : Nat) (l1_2 : List Bool) (b1 : Int) (b2 : List (List Int)) (b3 : List Bool) (c1 : Int) (c2 : List (List Int)) (c3 : List Bool) (w : World) (hr0_1 : Kd.C (Kd.slice 3 (Kd.int .i64)) w A0_1 l0_1.length l0_1) (hc0_1 : l0_1.length ≤ c0_1) (hr0_2 : Kd.C Kd.bool w A0_2 l0_2.length l0_2) (hc0_2 : l0_2.length ≤ c0_2) (hr1_1 : Kd.C (Kd.slice 3 (Kd.int .i64)) w A1_1 l1_1.length l1_1) (hc1_1 : l1_1.length ≤ c1_1) (hr1_2 : Kd.C Kd.bool w A1_2 l1_2.length l1_2) (hc1_2 : l1_2.length ≤ c1_2) (hb : number_Canon.f k a0_0 l0_1 l0_2 = some (b1, b2, b3, true)) (hc : number_Canon.f k a1_0 l1_1 l1_2 = some (c1, c2, c3, false)) :
    Calls Try.prog 70 #[.agg #[.int .i64 a0_0, .slice A0_1 l0_1.length c0_1, .slice A0_2 l0_2.length c0_2], .agg #[.int .i64 a1_0, .slice A1_1 l1_1.length c1_1, .slice A1_2 l1_2.length c1_2]] w fun e w' => e = .returned (.bool false) ∧ Below w.heap.size w w' := by
  have hu25 := Try.underlying25
  have hu45 := Try.underlying45
  have hu22 := Try.underlying22
  have hu23 := Try.underlying23
  have HR0_1 := Aside0.mk hr0_1
  have HR0_2 := Aside0.mk hr0_2
  clear hr0_1 hr0_2
  have HR1_1 := Aside0.mk hr1_1
  have HR1_2 := Aside0.mk hr1_2
  clear hr1_1 hr1_2
  have ZB := Aside0.mk hb
  have ZC := Aside0.mk hc
  clear hb hc
  obtain ⟨c1_, c2_, c3_⟩ := cells3 (show ((w.alloc (.cells #[.int .i64 a0_0, .slice A0_1 l0_1.length c0_1, .slice A0_2 l0_2.length c0_2] 25)).alloc (.cells #[.int .i64 a1_0, .slice A1_1 l1_1.length c1_1, .slice A1_2 l1_2.length c1_2] 25)).heap[w.heap.size]? = some (.cells #[.int .i64 a0_0, .slice A0_1 l0_1.length c0_1, .slice A0_2 l0_2.length c0_2] 25 (0, 0)) from blk_alloc (new_at _ (by simp)) _)
  go_enter Try.func70, Try.ntmps70
  go_wp2_with (first | (go_at_call 65; have hF_ := ZB.out; clear ZB; (try clear c1_ c2_ c3_); refine calls_new (v := w) (F := fun W => W.heap[w.heap.size]? = some (.cells #[.int .i64 a0_0, .slice A0_1 l0_1.length c0_1, .slice A0_2 l0_2.length c0_2] 25 (0, 0)) ∧ W.heap[w.heap.size + 1]? = some (.cells #[.int .i64 a1_0, .slice A1_1 l1_1.length c1_1, .slice A1_2 l1_2.length c1_2] 25 (0, 0))) (below_alloc (below_alloc (Below.refl _ _) (.cells #[.int .i64 a0_0, .slice A0_1 l0_1.length c0_1, .slice A0_2 l0_2.length c0_2] 25)) (.cells #[.int .i64 a1_0, .slice A1_1 l1_1.length c1_1, .slice A1_2 l1_2.length c1_2] 25)) (⟨blk_alloc (new_at _ (by simp)) _, new_at _ (by simp)⟩) (fun w4_ b_ f_ => ?_); have S5_ := Aside0.mk b_; have K6_ := Aside0.mk f_.1; have K7_ := Aside0.mk f_.2; clear b_ f_; refine (number_Canon.calls k  a0_0 A0_1 c0_1 l0_1 A0_2 c0_2 l0_2  b1 b2 b3 true _ (Kd.C_below (HR0_1.out) (S5_.out)) hc0_1 (Kd.C_below (HR0_2.out) (S5_.out)) hc0_2  hF_).mono ?_; clear hF_; rintro e w8_ ⟨u_, v_, rfl, hS_, hR_, hb_⟩; obtain ⟨A10_, c11_, rfl⟩ := Kd.S_slice hS_; obtain ⟨A12_, c13_, rfl⟩ := Kd.R_slice hR_; have K14_ := Aside0.mk (Kd.R_reads' (Kd.S_R hS_)).2.2; have L15_ := Aside0.mk (Kd.R_reads' (Kd.S_R hS_)).2.1; have K16_ := Aside0.mk (Kd.R_reads' hR_).2.2; have L17_ := Aside0.mk (Kd.R_reads' hR_).2.1; clear hS_ hR_; have S9_ := Aside0.mk hb_; clear hb_; obtain ⟨c18_, c19_, c20_⟩ := cells3 (blk_below K7_.out (below_step (S9_.out) (below_alloc (Below.refl _ _) (.cells #[.int .i64 b1, .slice A10_ b2.length c11_, .slice A12_ b3.length c13_] 25))))) | (go_at_call 65; have hF_ := ZC.out; clear ZC; (try clear c18_ c19_ c20_); refine calls_new (v := w8_) (F := fun W => W.heap[w8_.heap.size]? = some (.cells #[.int .i64 b1, .slice A10_ b2.length c11_, .slice A12_ b3.length c13_] 25 (0, 0))) (below_alloc (Below.refl _ _) (.cells #[.int .i64 b1, .slice A10_ b2.length c11_, .slice A12_ b3.length c13_] 25)) (new_at _ (by simp)) (fun w21_ b_ f_ => ?_); have S22_ := Aside0.mk b_; have K23_ := Aside0.mk f_; clear b_ f_; refine (number_Canon.calls k  a1_0 A1_1 c1_1 l1_1 A1_2 c1_2 l1_2  c1 c2 c3 false _ (Kd.C_below (HR1_1.out) (below_step (below_step (S5_.out) S9_.out) S22_.out)) hc1_1 (Kd.C_below (HR1_2.out) (below_step (below_step (S5_.out) S9_.out) S22_.out)) hc1_2  hF_).mono ?_; clear hF_; rintro e w24_ ⟨u_, v_, rfl, hS_, hR_, hb_⟩; obtain ⟨A26_, c27_, rfl⟩ := Kd.S_slice hS_; obtain ⟨A28_, c29_, rfl⟩ := Kd.R_slice hR_; have K30_ := Aside0.mk (Kd.R_reads' (Kd.S_R hS_)).2.2; have L31_ := Aside0.mk (Kd.R_reads' (Kd.S_R hS_)).2.1; have K32_ := Aside0.mk (Kd.R_reads' hR_).2.2; have L33_ := Aside0.mk (Kd.R_reads' hR_).2.1; clear hS_ hR_; have S25_ := Aside0.mk hb_; clear hb_; obtain ⟨c34_, c35_, c36_⟩ := cells3 (blk_below K23_.out (below_step (S25_.out) (below_alloc (Below.refl _ _) (.cells #[.int .i64 c1, .slice A26_ c2.length c27_, .slice A28_ c3.length c29_] 25)))); obtain ⟨c37_, c38_, c39_⟩ := cells3 (show (w24_.alloc (.cells #[.int .i64 c1, .slice A26_ c2.length c27_, .slice A28_ c3.length c29_] 25)).heap[w24_.heap.size]? = some (.cells #[.int .i64 c1, .slice A26_ c2.length c27_, .slice A28_ c3.length c29_] 25 (0, 0)) from new_at _ (by simp))))
  go_ret
  exact ⟨rfl, below_step (below_step (below_step (below_step (S5_.out) S9_.out) S22_.out) S25_.out) (below_alloc (Below.refl _ _) (.cells #[.int .i64 c1, .slice A26_ c2.length c27_, .slice A28_ c3.length c29_] 25))⟩
set_option maxHeartbeats 8000000 in
set_option maxRecDepth 100000 in
theorem number_Alike.main (k : Nat) (a0_0 : Int) (A0_1 : Option Addr) (c0_1 : Nat) (l0_1 : List (List Int)) (A0_2 : Option Addr) (c0_2 : Nat) (l0_2 : List Bool) (a1_0 : Int) (A1_1 : Option Addr) (c1_1 : Nat) (l1_1 : List (List Int)) (A1_2 : Option Addr) (c1_2 : Nat) (l1_2 : List Bool) (b1 : Int) (b2 : List (List Int)) (b3 : List Bool) (c1 : Int) (c2 : List (List Int)) (c3 : List Bool) (r : Bool) (w : World) (hr0_1 : Kd.C (Kd.slice 3 (Kd.int .i64)) w A0_1 l0_1.length l0_1) (hc0_1 : l0_1.length ≤ c0_1) (hr0_2 : Kd.C Kd.bool w A0_2 l0_2.length l0_2) (hc0_2 : l0_2.length ≤ c0_2) (hr1_1 : Kd.C (Kd.slice 3 (Kd.int .i64)) w A1_1 l1_1.length l1_1) (hc1_1 : l1_1.length ≤ c1_1) (hr1_2 : Kd.C Kd.bool w A1_2 l1_2.length l1_2) (hc1_2 : l1_2.length ≤ c1_2) (hb : number_Canon.f k a0_0 l0_1 l0_2 = some (b1, b2, b3, true)) (hc : number_Canon.f k a1_0 l1_1 l1_2 = some (c1, c2, c3, true)) (hs : number_Same.f b1 b2 b3 c1 c2 c3 = some r) :
    Calls Try.prog 70 #[.agg #[.int .i64 a0_0, .slice A0_1 l0_1.length c0_1, .slice A0_2 l0_2.length c0_2], .agg #[.int .i64 a1_0, .slice A1_1 l1_1.length c1_1, .slice A1_2 l1_2.length c1_2]] w fun e w' => e = .returned (.bool r) ∧ Below w.heap.size w w' := by
  have hu25 := Try.underlying25
  have hu45 := Try.underlying45
  have hu22 := Try.underlying22
  have hu23 := Try.underlying23
  have HR0_1 := Aside0.mk hr0_1
  have HR0_2 := Aside0.mk hr0_2
  clear hr0_1 hr0_2
  have HR1_1 := Aside0.mk hr1_1
  have HR1_2 := Aside0.mk hr1_2
  clear hr1_1 hr1_2
  have ZB := Aside0.mk hb
  have ZC := Aside0.mk hc
  clear hb hc
  have ZS := Aside0.mk hs
  clear hs
  obtain ⟨c1_, c2_, c3_⟩ := cells3 (show ((w.alloc (.cells #[.int .i64 a0_0, .slice A0_1 l0_1.length c0_1, .slice A0_2 l0_2.length c0_2] 25)).alloc (.cells #[.int .i64 a1_0, .slice A1_1 l1_1.length c1_1, .slice A1_2 l1_2.length c1_2] 25)).heap[w.heap.size]? = some (.cells #[.int .i64 a0_0, .slice A0_1 l0_1.length c0_1, .slice A0_2 l0_2.length c0_2] 25 (0, 0)) from blk_alloc (new_at _ (by simp)) _)
  go_enter Try.func70, Try.ntmps70
  go_wp2_with (first | (go_at_call 65; have hF_ := ZB.out; clear ZB; (try clear c1_ c2_ c3_); refine calls_new (v := w) (F := fun W => W.heap[w.heap.size]? = some (.cells #[.int .i64 a0_0, .slice A0_1 l0_1.length c0_1, .slice A0_2 l0_2.length c0_2] 25 (0, 0)) ∧ W.heap[w.heap.size + 1]? = some (.cells #[.int .i64 a1_0, .slice A1_1 l1_1.length c1_1, .slice A1_2 l1_2.length c1_2] 25 (0, 0))) (below_alloc (below_alloc (Below.refl _ _) (.cells #[.int .i64 a0_0, .slice A0_1 l0_1.length c0_1, .slice A0_2 l0_2.length c0_2] 25)) (.cells #[.int .i64 a1_0, .slice A1_1 l1_1.length c1_1, .slice A1_2 l1_2.length c1_2] 25)) (⟨blk_alloc (new_at _ (by simp)) _, new_at _ (by simp)⟩) (fun w4_ b_ f_ => ?_); have S5_ := Aside0.mk b_; have K6_ := Aside0.mk f_.1; have K7_ := Aside0.mk f_.2; clear b_ f_; refine (number_Canon.calls k  a0_0 A0_1 c0_1 l0_1 A0_2 c0_2 l0_2  b1 b2 b3 true _ (Kd.C_below (HR0_1.out) (S5_.out)) hc0_1 (Kd.C_below (HR0_2.out) (S5_.out)) hc0_2  hF_).mono ?_; clear hF_; rintro e w8_ ⟨u_, v_, rfl, hS_, hR_, hb_⟩; obtain ⟨A10_, c11_, rfl⟩ := Kd.S_slice hS_; obtain ⟨A12_, c13_, rfl⟩ := Kd.R_slice hR_; have K14_ := Aside0.mk (Kd.R_reads' (Kd.S_R hS_)).2.2; have L15_ := Aside0.mk (Kd.R_reads' (Kd.S_R hS_)).2.1; have K16_ := Aside0.mk (Kd.R_reads' hR_).2.2; have L17_ := Aside0.mk (Kd.R_reads' hR_).2.1; clear hS_ hR_; have S9_ := Aside0.mk hb_; clear hb_; obtain ⟨c18_, c19_, c20_⟩ := cells3 (blk_below K7_.out (below_step (S9_.out) (below_alloc (Below.refl _ _) (.cells #[.int .i64 b1, .slice A10_ b2.length c11_, .slice A12_ b3.length c13_] 25))))) | (go_at_call 65; have hF_ := ZC.out; clear ZC; (try clear c18_ c19_ c20_); refine calls_new (v := w8_) (F := fun W => W.heap[w8_.heap.size]? = some (.cells #[.int .i64 b1, .slice A10_ b2.length c11_, .slice A12_ b3.length c13_] 25 (0, 0))) (below_alloc (Below.refl _ _) (.cells #[.int .i64 b1, .slice A10_ b2.length c11_, .slice A12_ b3.length c13_] 25)) (new_at _ (by simp)) (fun w21_ b_ f_ => ?_); have S22_ := Aside0.mk b_; have K23_ := Aside0.mk f_; clear b_ f_; refine (number_Canon.calls k  a1_0 A1_1 c1_1 l1_1 A1_2 c1_2 l1_2  c1 c2 c3 true _ (Kd.C_below (HR1_1.out) (below_step (below_step (S5_.out) S9_.out) S22_.out)) hc1_1 (Kd.C_below (HR1_2.out) (below_step (below_step (S5_.out) S9_.out) S22_.out)) hc1_2  hF_).mono ?_; clear hF_; rintro e w24_ ⟨u_, v_, rfl, hS_, hR_, hb_⟩; obtain ⟨A26_, c27_, rfl⟩ := Kd.S_slice hS_; obtain ⟨A28_, c29_, rfl⟩ := Kd.R_slice hR_; have K30_ := Aside0.mk (Kd.R_reads' (Kd.S_R hS_)).2.2; have L31_ := Aside0.mk (Kd.R_reads' (Kd.S_R hS_)).2.1; have K32_ := Aside0.mk (Kd.R_reads' hR_).2.2; have L33_ := Aside0.mk (Kd.R_reads' hR_).2.1; clear hS_ hR_; have S25_ := Aside0.mk hb_; clear hb_; obtain ⟨c34_, c35_, c36_⟩ := cells3 (blk_below K23_.out (below_step (S25_.out) (below_alloc (Below.refl _ _) (.cells #[.int .i64 c1, .slice A26_ c2.length c27_, .slice A28_ c3.length c29_] 25)))); obtain ⟨c37_, c38_, c39_⟩ := cells3 (show (w24_.alloc (.cells #[.int .i64 c1, .slice A26_ c2.length c27_, .slice A28_ c3.length c29_] 25)).heap[w24_.heap.size]? = some (.cells #[.int .i64 c1, .slice A26_ c2.length c27_, .slice A28_ c3.length c29_] 25 (0, 0)) from new_at _ (by simp))) | (go_at_call 68; have hF_ := ZS.out; clear ZS; (try clear c34_ c35_ c36_ c37_ c38_ c39_); refine calls_new (v := w24_) (F := fun W => W.heap[w24_.heap.size]? = some (.cells #[.int .i64 c1, .slice A26_ c2.length c27_, .slice A28_ c3.length c29_] 25 (0, 0))) (below_alloc (Below.refl _ _) (.cells #[.int .i64 c1, .slice A26_ c2.length c27_, .slice A28_ c3.length c29_] 25)) (new_at _ (by simp)) (fun w40_ b_ f_ => ?_); have S41_ := Aside0.mk b_; have K42_ := Aside0.mk f_; clear b_ f_; refine (number_Same.calls  b1 A10_ c11_ b2 A12_ c13_ b3 c1 A26_ c27_ c2 A28_ c29_ c3  r _ (Kd.C_below (K14_.out) (below_step (below_step (S22_.out) S25_.out) S41_.out)) L15_.out (Kd.C_below (K16_.out) (below_step (below_step (S22_.out) S25_.out) S41_.out)) L17_.out (Kd.C_below (K30_.out) (S41_.out)) L31_.out (Kd.C_below (K32_.out) (S41_.out)) L33_.out  hF_).mono ?_; clear hF_; rintro e w43_ ⟨rfl, hb_⟩; have S44_ := Aside0.mk hb_; clear hb_))
  go_ret
  exact ⟨rfl, below_step (below_step (below_step (below_step (below_step (S5_.out) S9_.out) S22_.out) S25_.out) S41_.out) S44_.out⟩
theorem number_Alike.calls (k : Nat) (a0_0 : Int) (A0_1 : Option Addr) (c0_1 : Nat) (l0_1 : List (List Int)) (A0_2 : Option Addr) (c0_2 : Nat) (l0_2 : List Bool) (a1_0 : Int) (A1_1 : Option Addr) (c1_1 : Nat) (l1_1 : List (List Int)) (A1_2 : Option Addr) (c1_2 : Nat) (l1_2 : List Bool) (r : Bool) (w : World) (hr0_1 : Kd.C (Kd.slice 3 (Kd.int .i64)) w A0_1 l0_1.length l0_1) (hc0_1 : l0_1.length ≤ c0_1) (hr0_2 : Kd.C Kd.bool w A0_2 l0_2.length l0_2) (hc0_2 : l0_2.length ≤ c0_2) (hr1_1 : Kd.C (Kd.slice 3 (Kd.int .i64)) w A1_1 l1_1.length l1_1) (hc1_1 : l1_1.length ≤ c1_1) (hr1_2 : Kd.C Kd.bool w A1_2 l1_2.length l1_2) (hc1_2 : l1_2.length ≤ c1_2) (h : number_Alike.f k a0_0 l0_1 l0_2 a1_0 l1_1 l1_2 = some r) :
    Calls Try.prog 70 #[.agg #[.int .i64 a0_0, .slice A0_1 l0_1.length c0_1, .slice A0_2 l0_2.length c0_2], .agg #[.int .i64 a1_0, .slice A1_1 l1_1.length c1_1, .slice A1_2 l1_2.length c1_2]] w fun e w' => e = .returned (.bool r) ∧ Below w.heap.size w w' := by
  unfold number_Alike.f at h
  obtain ⟨⟨b1, b2, b3, b4⟩, hb, h⟩ := Option.bind_eq_some_iff.mp h
  obtain ⟨⟨c1, c2, c3, c4⟩, hc, h⟩ := Option.bind_eq_some_iff.mp h
  cases b4 with
  | false =>
    simp only [Bool.false_eq_true, if_false, Option.some.injEq] at h
    subst h
    exact number_Alike.no0 k a0_0 A0_1 c0_1 l0_1 A0_2 c0_2 l0_2 a1_0 A1_1 c1_1 l1_1 A1_2 c1_2 l1_2 b1 b2 b3 c1 c2 c3 c4 w hr0_1 hc0_1 hr0_2 hc0_2 hr1_1 hc1_1 hr1_2 hc1_2 hb hc
  | true =>
    cases c4 with
    | false =>
      simp only [Bool.false_eq_true, if_false, if_true, Option.some.injEq] at h
      subst h
      exact number_Alike.no1 k a0_0 A0_1 c0_1 l0_1 A0_2 c0_2 l0_2 a1_0 A1_1 c1_1 l1_1 A1_2 c1_2 l1_2 b1 b2 b3 c1 c2 c3 w hr0_1 hc0_1 hr0_2 hc0_2 hr1_1 hc1_1 hr1_2 hc1_2 hb hc
    | true =>
      simp only [if_true] at h
      obtain ⟨t, hs, h⟩ := Option.bind_eq_some_iff.mp h
      obtain rfl := Option.some.inj h
      exact number_Alike.main k a0_0 A0_1 c0_1 l0_1 A0_2 c0_2 l0_2 a1_0 A1_1 c1_1 l1_1 A1_2 c1_2 l1_2 b1 b2 b3 c1 c2 c3 t w hr0_1 hc0_1 hr0_2 hc0_2 hr1_1 hc1_1 hr1_2 hc1_2 hb hc hs

end Go.Proofs.Ytelkjbacdpmnfaa.A
