/- By a program, out of the translation (wip/myprint.py). -/
import Derived.Test.YtelkjbacdpmnfaaB0
import Derived.Test.YtelkjbacdpmnfaaBPlainAut
import Derived.Test.YtelkjbacdpmnfaaBPlainBase
import Derived.Test.YtelkjbacdpmnfaaBPlainGood
import Derived.Test.YtelkjbacdpmnfaaBProdF
import Derived.Test.YtelkjbacdpmnfaaBThompsonGood
import Derived.Test.YtelkjbacdpmnfaaBWordsA
import Derived.Test.YtelkjbacdpmnfaaBWordsB
import Derived.Maps.OwnSet
import Derived.DeepKeys5
namespace Go.Proofs.Ytelkjbacdpmnfaa.A
open Go.RowKit Go.W_.PrintWords Go.W_.PrintLast Go.W_.PrintMore
attribute [local go_sem] max2_int min2_int max_two min_two max_three min_three max_four min_four
set_option linter.unusedVariables false
set_option linter.unusedSimpArgs false

def product_made.T15 : Bool × List (List Nat × List Nat) := (true, [([], []), ([0], [0]), ([], []), ([2], [2]), ([1, 3], [1, 3]), ([4], [4]), ([], []), ([5, 6], [5, 6]), ([7], [7]), ([], []), ([9], [9]), ([], []), ([11], [11]), ([10, 12], [10, 12]), ([13], [13]), ([], []), ([14, 15], [14, 15]), ([16], [16]), ([8, 17], [8, 17]), ([], []), ([19, 18, 0, 1, 2, 3, 4, 5, 6, 7, 8, 9, 10, 11, 12, 13, 14, 15, 16, 17, 18, 19], [18, 19])])
def product_made.B15 : List Nat := [0, 1, 0, 4, 15, 31, 0, 127, 255, 0, 512, 0, 2048, 7680, 15872, 0, 65024, 130560, 262143, 0, 1048575]
theorem product_made.tab15 : rtab .any (opsOf Try.f110 15) = product_made.T15 := by kernel_rfl
theorem product_made.bits15 : waitsOk product_made.T15.2 product_made.B15 = true := by kernel_rfl
def product_made.T24 : Bool × List (List Nat × List Nat) := (true, [([], []), ([0], [0]), ([], []), ([], []), ([3], [3]), ([], []), ([5], [5]), ([4, 6], [4, 6]), ([7], [7]), ([], []), ([9], [9]), ([], []), ([11], [11]), ([10, 12], [10, 12]), ([13], [13]), ([2, 8, 14], [2, 8, 14]), ([15], [15]), ([1, 16, 15], [1, 16]), ([0, 1, 2, 3, 4, 5, 6, 7, 8, 9, 10, 11, 12, 13, 14, 15, 16, 17], []), ([18, 17, 17, 0, 1, 2, 3, 4, 5, 6, 7, 8, 9, 10, 11, 12, 13, 14, 15, 16, 17], [17, 18])])
def product_made.B24 : List Nat := [0, 1, 0, 0, 8, 0, 32, 120, 248, 0, 512, 0, 2048, 7680, 15872, 32764, 65532, 131071, 262143, 524287]
theorem product_made.tab24 : rtab .any (opsOf Try.f110 24) = product_made.T24 := by kernel_rfl
theorem product_made.bits24 : waitsOk product_made.T24.2 product_made.B24 = true := by kernel_rfl
set_option maxHeartbeats 16000000 in
set_option maxRecDepth 100000 in
theorem product_made.bad0 (E : Bool → Bool → Bool) (fe : FuncId) (fn : Func) (a : Int) (A1 : Option Addr) (c1 : Nat) (nx : List (List Int)) (A2 : Option Addr) (c2 : Nat) (ac : List Bool) (b : Int) (B1 : Option Addr) (d1 : Nat) (mx : List (List Int)) (B2 : Option Addr) (d2 : Nat) (bc : List Bool) (most : Int) (w : World) (hr1 : Kd.C (Kd.slice 3 (Kd.int .i64)) w A1 nx.length nx) (hc1 : nx.length ≤ c1) (hr2 : Kd.C Kd.bool w A2 ac.length ac) (hc2 : ac.length ≤ c2) (hr3 : Kd.C (Kd.slice 3 (Kd.int .i64)) w B1 mx.length mx) (hc3 : mx.length ≤ d1) (hr4 : Kd.C Kd.bool w B2 bc.length bc) (hc4 : bc.length ≤ d2) (hg : goodB a nx ac = false) :
  Calls Try.prog 110 #[.agg #[.int .i64 a, .slice A1 nx.length c1, .slice A2 ac.length c2], .agg #[.int .i64 b, .slice B1 mx.length d1, .slice B2 bc.length d2], .int .i64 most, .func (.func fe) #[] #[]] w fun e w' => ∃ v1_ v2_ : Value, e = .returned (.tuple #[.agg #[.int .i64 0, v1_, v2_], .int .i64 1]) ∧ Kd.S (Kd.slice 3 (Kd.int .i64)) 45 w' w.heap.size (fun _ => True) v1_ ([] : List (List Int)) ∧ Kd.R Kd.bool 4 w' w.heap.size (fun _ => True) v2_ ([] : List Bool) ∧ Below w.heap.size w w' := by
 have hu25 := Try.underlying25
 have hu45 := Try.underlying45
 have hu22 := Try.underlying22
 have hu23 := Try.underlying23
 have hu138 := Try.underlying138
 have hu140 := Try.underlying140
 have HR1 := Q0.mk hr1
 clear hr1
 have HR2 := Q0.mk hr2
 clear hr2
 have HR3 := Q0.mk hr3
 clear hr3
 have HR4 := Q0.mk hr4
 clear hr4
 have ZA : Q0 (thompson_Good.f a nx ac = some false) := ⟨by unfold thompson_Good.f; rw [hg]⟩
 obtain ⟨c1_, c2_, c3_⟩ := cells3 (show (((w.alloc (.cells #[.int .i64 a, .slice A1 nx.length c1, .slice A2 ac.length c2] 25)).alloc (.cells #[.int .i64 b, .slice B1 mx.length d1, .slice B2 bc.length d2] 25)).alloc (.cells #[.int .i64 0, .slice none 0 0, .slice none 0 0] 25)).heap[w.heap.size]? = some (.cells #[.int .i64 a, .slice A1 nx.length c1, .slice A2 ac.length c2] 25 (0, 0)) from bA (bA (new_at _ (by simp)) _) _)
 go_enter Try.func110, Try.ntmps110
 go_wp2_with (first | (go_at_call 36; have hF_ := ZA.out; clear ZA; (try clear c1_ c2_ c3_); refine calls_new (v := w) (F := fun W => W.heap[w.heap.size]? = some (.cells #[.int .i64 a, .slice A1 nx.length c1, .slice A2 ac.length c2] 25 (0, 0)) ∧ W.heap[w.heap.size + 1]? = some (.cells #[.int .i64 b, .slice B1 mx.length d1, .slice B2 bc.length d2] 25 (0, 0)) ∧ W.heap[w.heap.size + 1 + 1]? = some (.cells #[.int .i64 0, .slice none 0 0, .slice none 0 0] 25 (0, 0))) (ba (ba (ba (Below.refl _ _) (.cells #[.int .i64 a, .slice A1 nx.length c1, .slice A2 ac.length c2] 25)) (.cells #[.int .i64 b, .slice B1 mx.length d1, .slice B2 bc.length d2] 25)) (.cells #[.int .i64 0, .slice none 0 0, .slice none 0 0] 25)) (⟨bA (bA (new_at _ (by simp)) _) _, bA (new_at _ (by simp)) _, new_at _ (by simp)⟩) (fun w4_ b_ f_ => ?_); have S5_ := Q0.mk b_; have K6_ := Q0.mk f_.1; have K7_ := Q0.mk f_.2.1; have K8_ := Q0.mk f_.2.2; clear b_ f_; refine (thompson_Good.calls  a A1 c1 nx A2 c2 ac  false _ (Kd.C_below (HR1.out) (S5_.out)) hc1 (Kd.C_below (HR2.out) (S5_.out)) hc2  hF_).mono ?_; clear hF_; rintro e w9_ ⟨rfl, hb_⟩; have S10_ := Q0.mk hb_; clear hb_; have f11_ := bf (bb K8_.out (S10_.out)) 0; have f12_ := bf (bb K8_.out (S10_.out)) 1; have f13_ := bf (bb K8_.out (S10_.out)) 2; obtain ⟨c14_, c15_, c16_⟩ := cells3 (bb K8_.out (S10_.out))))
 have hb0_ := bp (cs' := #[.int .i64 0, .slice none 0 0, .slice none 0 0]) (bb K8_.out (S10_.out)) 0 (.int .i64 0) rfl
 have hb1_ := bp (cs' := #[.int .i64 0, .slice none 0 0, .slice none 0 0]) hb0_ 1 (.slice none 0 0) rfl
 have hb2_ := bp (cs' := #[.int .i64 0, .slice none 0 0, .slice none 0 0]) hb1_ 2 (.slice none 0 0) rfl
 refine bodyPost_ret (results_ct (by rfl) _ _ (w.heap.size + 1 + 1) 25 #[.int .i64 0, .slice none 0 0, .slice none 0 0] (0, 0) _ (by rfl) (by exact hb2_) Try.underlying25 (by rfl) (by kernel_rfl)) (by rfl) ?_
 exact ⟨_, _, rfl, Kd.S_nil _ _ _ _ _, Kd.R_nil _ _ _ _ _, Below.setCell (Below.setCell (Below.setCell (bsz (S5_.out) S10_.out) (p := ⟨w.heap.size + 1 + 1, 0, none⟩) (by (try dsimp only); omega) (.int .i64 0)) (p := ⟨w.heap.size + 1 + 1, 1, none⟩) (by (try dsimp only); omega) (.slice none 0 0)) (p := ⟨w.heap.size + 1 + 1, 2, none⟩) (by (try dsimp only); omega) (.slice none 0 0)⟩
set_option maxHeartbeats 16000000 in
set_option maxRecDepth 100000 in
theorem product_made.bad1 (E : Bool → Bool → Bool) (fe : FuncId) (fn : Func) (a : Int) (A1 : Option Addr) (c1 : Nat) (nx : List (List Int)) (A2 : Option Addr) (c2 : Nat) (ac : List Bool) (b : Int) (B1 : Option Addr) (d1 : Nat) (mx : List (List Int)) (B2 : Option Addr) (d2 : Nat) (bc : List Bool) (most : Int) (w : World) (hr1 : Kd.C (Kd.slice 3 (Kd.int .i64)) w A1 nx.length nx) (hc1 : nx.length ≤ c1) (hr2 : Kd.C Kd.bool w A2 ac.length ac) (hc2 : ac.length ≤ c2) (hr3 : Kd.C (Kd.slice 3 (Kd.int .i64)) w B1 mx.length mx) (hc3 : mx.length ≤ d1) (hr4 : Kd.C Kd.bool w B2 bc.length bc) (hc4 : bc.length ≤ d2) (hg : goodB a nx ac = true) (hg2 : goodB b mx bc = false) :
  Calls Try.prog 110 #[.agg #[.int .i64 a, .slice A1 nx.length c1, .slice A2 ac.length c2], .agg #[.int .i64 b, .slice B1 mx.length d1, .slice B2 bc.length d2], .int .i64 most, .func (.func fe) #[] #[]] w fun e w' => ∃ v1_ v2_ : Value, e = .returned (.tuple #[.agg #[.int .i64 0, v1_, v2_], .int .i64 1]) ∧ Kd.S (Kd.slice 3 (Kd.int .i64)) 45 w' w.heap.size (fun _ => True) v1_ ([] : List (List Int)) ∧ Kd.R Kd.bool 4 w' w.heap.size (fun _ => True) v2_ ([] : List Bool) ∧ Below w.heap.size w w' := by
 have hu25 := Try.underlying25
 have hu45 := Try.underlying45
 have hu22 := Try.underlying22
 have hu23 := Try.underlying23
 have hu138 := Try.underlying138
 have hu140 := Try.underlying140
 have HR1 := Q0.mk hr1
 clear hr1
 have HR2 := Q0.mk hr2
 clear hr2
 have HR3 := Q0.mk hr3
 clear hr3
 have HR4 := Q0.mk hr4
 clear hr4
 have ZA : Q0 (thompson_Good.f a nx ac = some true) := ⟨by unfold thompson_Good.f; rw [hg]⟩
 have ZB : Q0 (thompson_Good.f b mx bc = some false) := ⟨by unfold thompson_Good.f; rw [hg2]⟩
 obtain ⟨c1_, c2_, c3_⟩ := cells3 (show (((w.alloc (.cells #[.int .i64 a, .slice A1 nx.length c1, .slice A2 ac.length c2] 25)).alloc (.cells #[.int .i64 b, .slice B1 mx.length d1, .slice B2 bc.length d2] 25)).alloc (.cells #[.int .i64 0, .slice none 0 0, .slice none 0 0] 25)).heap[w.heap.size]? = some (.cells #[.int .i64 a, .slice A1 nx.length c1, .slice A2 ac.length c2] 25 (0, 0)) from bA (bA (new_at _ (by simp)) _) _)
 go_enter Try.func110, Try.ntmps110
 go_wp2_with (first | (go_at_call 36; have hF_ := ZA.out; clear ZA; (try clear c1_ c2_ c3_); refine calls_new (v := w) (F := fun W => W.heap[w.heap.size]? = some (.cells #[.int .i64 a, .slice A1 nx.length c1, .slice A2 ac.length c2] 25 (0, 0)) ∧ W.heap[w.heap.size + 1]? = some (.cells #[.int .i64 b, .slice B1 mx.length d1, .slice B2 bc.length d2] 25 (0, 0)) ∧ W.heap[w.heap.size + 1 + 1]? = some (.cells #[.int .i64 0, .slice none 0 0, .slice none 0 0] 25 (0, 0))) (ba (ba (ba (Below.refl _ _) (.cells #[.int .i64 a, .slice A1 nx.length c1, .slice A2 ac.length c2] 25)) (.cells #[.int .i64 b, .slice B1 mx.length d1, .slice B2 bc.length d2] 25)) (.cells #[.int .i64 0, .slice none 0 0, .slice none 0 0] 25)) (⟨bA (bA (new_at _ (by simp)) _) _, bA (new_at _ (by simp)) _, new_at _ (by simp)⟩) (fun w4_ b_ f_ => ?_); have S5_ := Q0.mk b_; have K6_ := Q0.mk f_.1; have K7_ := Q0.mk f_.2.1; have K8_ := Q0.mk f_.2.2; clear b_ f_; refine (thompson_Good.calls  a A1 c1 nx A2 c2 ac  true _ (Kd.C_below (HR1.out) (S5_.out)) hc1 (Kd.C_below (HR2.out) (S5_.out)) hc2  hF_).mono ?_; clear hF_; rintro e w9_ ⟨rfl, hb_⟩; have S10_ := Q0.mk hb_; clear hb_; obtain ⟨c11_, c12_, c13_⟩ := cells3 (bb K7_.out (S10_.out))) | (go_at_call 36; have hF_ := ZB.out; clear ZB; (try clear c11_ c12_ c13_); refine (thompson_Good.calls  b B1 d1 mx B2 d2 bc  false _ (Kd.C_below (HR3.out) (bsz (S5_.out) S10_.out)) hc3 (Kd.C_below (HR4.out) (bsz (S5_.out) S10_.out)) hc4  hF_).mono ?_; clear hF_; rintro e w14_ ⟨rfl, hb_⟩; have S15_ := Q0.mk hb_; clear hb_; obtain ⟨c16_, _, _⟩ := cells3 (bb K6_.out (bsz (S10_.out) S15_.out)); obtain ⟨c17_, _, _⟩ := cells3 (bb K7_.out (bsz (S10_.out) S15_.out)); have f18_ := bf (bb K8_.out (bsz (S10_.out) S15_.out)) 0; have f19_ := bf (bb K8_.out (bsz (S10_.out) S15_.out)) 1; have f20_ := bf (bb K8_.out (bsz (S10_.out) S15_.out)) 2; obtain ⟨c21_, c22_, c23_⟩ := cells3 (bb K8_.out (bsz (S10_.out) S15_.out))))
 have hb0_ := bp (cs' := #[.int .i64 0, .slice none 0 0, .slice none 0 0]) (bb K8_.out (bsz (S10_.out) S15_.out)) 0 (.int .i64 0) rfl
 have hb1_ := bp (cs' := #[.int .i64 0, .slice none 0 0, .slice none 0 0]) hb0_ 1 (.slice none 0 0) rfl
 have hb2_ := bp (cs' := #[.int .i64 0, .slice none 0 0, .slice none 0 0]) hb1_ 2 (.slice none 0 0) rfl
 refine bodyPost_ret (results_ct (by rfl) _ _ (w.heap.size + 1 + 1) 25 #[.int .i64 0, .slice none 0 0, .slice none 0 0] (0, 0) _ (by rfl) (by exact hb2_) Try.underlying25 (by rfl) (by kernel_rfl)) (by rfl) ?_
 exact ⟨_, _, rfl, Kd.S_nil _ _ _ _ _, Kd.R_nil _ _ _ _ _, Below.setCell (Below.setCell (Below.setCell (bsz (bsz (S5_.out) S10_.out) S15_.out) (p := ⟨w.heap.size + 1 + 1, 0, none⟩) (by (try dsimp only); omega) (.int .i64 0)) (p := ⟨w.heap.size + 1 + 1, 1, none⟩) (by (try dsimp only); omega) (.slice none 0 0)) (p := ⟨w.heap.size + 1 + 1, 2, none⟩) (by (try dsimp only); omega) (.slice none 0 0)⟩
set_option maxHeartbeats 16000000 in
set_option maxRecDepth 100000 in
theorem product_made.bad2 (E : Bool → Bool → Bool) (fe : FuncId) (fn : Func) (a : Int) (A1 : Option Addr) (c1 : Nat) (nx : List (List Int)) (A2 : Option Addr) (c2 : Nat) (ac : List Bool) (b : Int) (B1 : Option Addr) (d1 : Nat) (mx : List (List Int)) (B2 : Option Addr) (d2 : Nat) (bc : List Bool) (most : Int) (w : World) (hr1 : Kd.C (Kd.slice 3 (Kd.int .i64)) w A1 nx.length nx) (hc1 : nx.length ≤ c1) (hr2 : Kd.C Kd.bool w A2 ac.length ac) (hc2 : ac.length ≤ c2) (hr3 : Kd.C (Kd.slice 3 (Kd.int .i64)) w B1 mx.length mx) (hc3 : mx.length ≤ d1) (hr4 : Kd.C Kd.bool w B2 bc.length bc) (hc4 : bc.length ≤ d2) (hg : goodB a nx ac = true) (hg2 : goodB b mx bc = true) (hab : a ≠ b) :
  Calls Try.prog 110 #[.agg #[.int .i64 a, .slice A1 nx.length c1, .slice A2 ac.length c2], .agg #[.int .i64 b, .slice B1 mx.length d1, .slice B2 bc.length d2], .int .i64 most, .func (.func fe) #[] #[]] w fun e w' => ∃ v1_ v2_ : Value, e = .returned (.tuple #[.agg #[.int .i64 0, v1_, v2_], .int .i64 1]) ∧ Kd.S (Kd.slice 3 (Kd.int .i64)) 45 w' w.heap.size (fun _ => True) v1_ ([] : List (List Int)) ∧ Kd.R Kd.bool 4 w' w.heap.size (fun _ => True) v2_ ([] : List Bool) ∧ Below w.heap.size w w' := by
 have hu25 := Try.underlying25
 have hu45 := Try.underlying45
 have hu22 := Try.underlying22
 have hu23 := Try.underlying23
 have hu138 := Try.underlying138
 have hu140 := Try.underlying140
 have HR1 := Q0.mk hr1
 clear hr1
 have HR2 := Q0.mk hr2
 clear hr2
 have HR3 := Q0.mk hr3
 clear hr3
 have HR4 := Q0.mk hr4
 clear hr4
 have ZA : Q0 (thompson_Good.f a nx ac = some true) := ⟨by unfold thompson_Good.f; rw [hg]⟩
 have ZB : Q0 (thompson_Good.f b mx bc = some true) := ⟨by unfold thompson_Good.f; rw [hg2]⟩
 have n0_ : (a != b) = true := by simpa using hab
 have n1_ : (a = b) = False := eq_false hab
 have n2_ : (a == b) = false := by simpa using hab
 obtain ⟨c1_, c2_, c3_⟩ := cells3 (show (((w.alloc (.cells #[.int .i64 a, .slice A1 nx.length c1, .slice A2 ac.length c2] 25)).alloc (.cells #[.int .i64 b, .slice B1 mx.length d1, .slice B2 bc.length d2] 25)).alloc (.cells #[.int .i64 0, .slice none 0 0, .slice none 0 0] 25)).heap[w.heap.size]? = some (.cells #[.int .i64 a, .slice A1 nx.length c1, .slice A2 ac.length c2] 25 (0, 0)) from bA (bA (new_at _ (by simp)) _) _)
 go_enter Try.func110, Try.ntmps110
 go_wp2_with (first | (go_at_call 36; have hF_ := ZA.out; clear ZA; (try clear c1_ c2_ c3_); refine calls_new (v := w) (F := fun W => W.heap[w.heap.size]? = some (.cells #[.int .i64 a, .slice A1 nx.length c1, .slice A2 ac.length c2] 25 (0, 0)) ∧ W.heap[w.heap.size + 1]? = some (.cells #[.int .i64 b, .slice B1 mx.length d1, .slice B2 bc.length d2] 25 (0, 0)) ∧ W.heap[w.heap.size + 1 + 1]? = some (.cells #[.int .i64 0, .slice none 0 0, .slice none 0 0] 25 (0, 0))) (ba (ba (ba (Below.refl _ _) (.cells #[.int .i64 a, .slice A1 nx.length c1, .slice A2 ac.length c2] 25)) (.cells #[.int .i64 b, .slice B1 mx.length d1, .slice B2 bc.length d2] 25)) (.cells #[.int .i64 0, .slice none 0 0, .slice none 0 0] 25)) (⟨bA (bA (new_at _ (by simp)) _) _, bA (new_at _ (by simp)) _, new_at _ (by simp)⟩) (fun w4_ b_ f_ => ?_); have S5_ := Q0.mk b_; have K6_ := Q0.mk f_.1; have K7_ := Q0.mk f_.2.1; have K8_ := Q0.mk f_.2.2; clear b_ f_; refine (thompson_Good.calls  a A1 c1 nx A2 c2 ac  true _ (Kd.C_below (HR1.out) (S5_.out)) hc1 (Kd.C_below (HR2.out) (S5_.out)) hc2  hF_).mono ?_; clear hF_; rintro e w9_ ⟨rfl, hb_⟩; have S10_ := Q0.mk hb_; clear hb_; obtain ⟨c11_, c12_, c13_⟩ := cells3 (bb K7_.out (S10_.out))) | (go_at_call 36; have hF_ := ZB.out; clear ZB; (try clear c11_ c12_ c13_); refine (thompson_Good.calls  b B1 d1 mx B2 d2 bc  true _ (Kd.C_below (HR3.out) (bsz (S5_.out) S10_.out)) hc3 (Kd.C_below (HR4.out) (bsz (S5_.out) S10_.out)) hc4  hF_).mono ?_; clear hF_; rintro e w14_ ⟨rfl, hb_⟩; have S15_ := Q0.mk hb_; clear hb_; obtain ⟨c16_, _, _⟩ := cells3 (bb K6_.out (bsz (S10_.out) S15_.out)); obtain ⟨c17_, _, _⟩ := cells3 (bb K7_.out (bsz (S10_.out) S15_.out)); have f18_ := bf (bb K8_.out (bsz (S10_.out) S15_.out)) 0; have f19_ := bf (bb K8_.out (bsz (S10_.out) S15_.out)) 1; have f20_ := bf (bb K8_.out (bsz (S10_.out) S15_.out)) 2; obtain ⟨c21_, c22_, c23_⟩ := cells3 (bb K8_.out (bsz (S10_.out) S15_.out))))
 have hb0_ := bp (cs' := #[.int .i64 0, .slice none 0 0, .slice none 0 0]) (bb K8_.out (bsz (S10_.out) S15_.out)) 0 (.int .i64 0) rfl
 have hb1_ := bp (cs' := #[.int .i64 0, .slice none 0 0, .slice none 0 0]) hb0_ 1 (.slice none 0 0) rfl
 have hb2_ := bp (cs' := #[.int .i64 0, .slice none 0 0, .slice none 0 0]) hb1_ 2 (.slice none 0 0) rfl
 refine bodyPost_ret (results_ct (by rfl) _ _ (w.heap.size + 1 + 1) 25 #[.int .i64 0, .slice none 0 0, .slice none 0 0] (0, 0) _ (by rfl) (by exact hb2_) Try.underlying25 (by rfl) (by kernel_rfl)) (by rfl) ?_
 exact ⟨_, _, rfl, Kd.S_nil _ _ _ _ _, Kd.R_nil _ _ _ _ _, Below.setCell (Below.setCell (Below.setCell (bsz (bsz (S5_.out) S10_.out) S15_.out) (p := ⟨w.heap.size + 1 + 1, 0, none⟩) (by (try dsimp only); omega) (.int .i64 0)) (p := ⟨w.heap.size + 1 + 1, 1, none⟩) (by (try dsimp only); omega) (.slice none 0 0)) (p := ⟨w.heap.size + 1 + 1, 2, none⟩) (by (try dsimp only); omega) (.slice none 0 0)⟩
set_option maxHeartbeats 16000000 in
set_option maxRecDepth 100000 in
theorem product_made.main (E : Bool → Bool → Bool) (fe : FuncId) (fn : Func) (a : Int) (A1 : Option Addr) (c1 : Nat) (nx : List (List Int)) (A2 : Option Addr) (c2 : Nat) (ac : List Bool) (b : Int) (B1 : Option Addr) (d1 : Nat) (mx : List (List Int)) (B2 : Option Addr) (d2 : Nat) (bc : List Bool) (most : Int) (w : World) (hr1 : Kd.C (Kd.slice 3 (Kd.int .i64)) w A1 nx.length nx) (hc1 : nx.length ≤ c1) (hr2 : Kd.C Kd.bool w A2 ac.length ac) (hc2 : ac.length ≤ c2) (hr3 : Kd.C (Kd.slice 3 (Kd.int .i64)) w B1 mx.length mx) (hc3 : mx.length ≤ d1) (hr4 : Kd.C Kd.bool w B2 bc.length bc) (hc4 : bc.length ≤ d2) (hf : Try.prog.funcs[fe]? = some fn) (hname : (fn.name == "runtime.NumGoroutine") = false) (hbody : fn.body.isSome = true) (hE : ∀ (x y : Bool) (W : World), Calls Try.prog fe #[.bool x, .bool y] W fun e W' => e = .returned (.bool (E x y)) ∧ Below W.heap.size W W') (hg : goodB a nx ac = true) (hg2 : goodB b mx bc = true) (hab : a = b) (m : Int) (hm : m = prodMost most) (k : Nat) (MF : List (Nat × Nat)) (hrun : prodRun a.toNat (prodSt nx mx) m k [(0, 0)] 0 = some MF) (r1 : Int) (r2 : List (List Int)) (r3 : List Bool) (r4 : Int) (hres : prodRes E a nx ac mx bc m MF = (r1, r2, r3, r4)) :
  Calls Try.prog 110 #[.agg #[.int .i64 a, .slice A1 nx.length c1, .slice A2 ac.length c2], .agg #[.int .i64 b, .slice B1 mx.length d1, .slice B2 bc.length d2], .int .i64 most, .func (.func fe) #[] #[]] w fun e w' => ∃ v1_ v2_ : Value, e = .returned (.tuple #[.agg #[.int .i64 r1, v1_, v2_], .int .i64 r4]) ∧ Kd.S (Kd.slice 3 (Kd.int .i64)) 45 w' w.heap.size (fun _ => True) v1_ r2 ∧ Kd.R Kd.bool 4 w' w.heap.size (fun _ => True) v2_ r3 ∧ Below w.heap.size w w' := by
 have hu25 := Try.underlying25
 have hu45 := Try.underlying45
 have hu22 := Try.underlying22
 have hu23 := Try.underlying23
 have hu138 := Try.underlying138
 have hu140 := Try.underlying140
 have HR1 := Q0.mk hr1
 clear hr1
 have HR2 := Q0.mk hr2
 clear hr2
 have HR3 := Q0.mk hr3
 clear hr3
 have HR4 := Q0.mk hr4
 clear hr4
 have hmm := @run_makeMap Try.prog
 have hA := Aut.of hg
 have hB := Aut.of hg2
 have ZA : Q0 (thompson_Good.f a nx ac = some true) := ⟨by unfold thompson_Good.f; rw [hg]⟩
 have ZB : Q0 (thompson_Good.f b mx bc = some true) := ⟨by unfold thompson_Good.f; rw [hg2]⟩
 clear hg hg2
 have ZF := Q0.mk (And.intro hf (And.intro hname hbody))
 clear hf hname hbody
 have ZE := Q0.mk hE
 have HA := Q0.mk hA
 have HBA := Q0.mk hB
 have HAB := Q0.mk hab
 have HRES := Q0.mk hres
 have HRUN := Q0.mk hrun
 have HM0 := Q0.mk hm
 clear hE hres hrun hm hA hB
 have n0_ : (a != b) = false := by simpa using hab
 have n1_ : (a = b) = True := eq_true hab
 have n2_ : (a == b) = true := by simpa using hab
 clear hab
 have hif_ : (if (1000 : Int) < most then (1000 : Int) else most) = m := HM0.out.symm
 obtain ⟨c1_, c2_, c3_⟩ := cells3 (show (((w.alloc (.cells #[.int .i64 a, .slice A1 nx.length c1, .slice A2 ac.length c2] 25)).alloc (.cells #[.int .i64 b, .slice B1 mx.length d1, .slice B2 bc.length d2] 25)).alloc (.cells #[.int .i64 0, .slice none 0 0, .slice none 0 0] 25)).heap[w.heap.size]? = some (.cells #[.int .i64 a, .slice A1 nx.length c1, .slice A2 ac.length c2] 25 (0, 0)) from bA (bA (new_at _ (by simp)) _) _)
 go_enter Try.func110, Try.ntmps110
 go_wp2_with (first | (go_at_call 36; have hF_ := ZA.out; clear ZA; (try clear c1_ c2_ c3_); refine calls_new (v := w) (F := fun W => W.heap[w.heap.size]? = some (.cells #[.int .i64 a, .slice A1 nx.length c1, .slice A2 ac.length c2] 25 (0, 0)) ∧ W.heap[w.heap.size + 1]? = some (.cells #[.int .i64 b, .slice B1 mx.length d1, .slice B2 bc.length d2] 25 (0, 0)) ∧ W.heap[w.heap.size + 1 + 1]? = some (.cells #[.int .i64 0, .slice none 0 0, .slice none 0 0] 25 (0, 0))) (ba (ba (ba (Below.refl _ _) (.cells #[.int .i64 a, .slice A1 nx.length c1, .slice A2 ac.length c2] 25)) (.cells #[.int .i64 b, .slice B1 mx.length d1, .slice B2 bc.length d2] 25)) (.cells #[.int .i64 0, .slice none 0 0, .slice none 0 0] 25)) (⟨bA (bA (new_at _ (by simp)) _) _, bA (new_at _ (by simp)) _, new_at _ (by simp)⟩) (fun w4_ b_ f_ => ?_); have S5_ := Q0.mk b_; have K6_ := Q0.mk f_.1; have K7_ := Q0.mk f_.2.1; have K8_ := Q0.mk f_.2.2; clear b_ f_; refine (thompson_Good.calls  a A1 c1 nx A2 c2 ac  true _ (Kd.C_below (HR1.out) (S5_.out)) hc1 (Kd.C_below (HR2.out) (S5_.out)) hc2  hF_).mono ?_; clear hF_; rintro e w9_ ⟨rfl, hb_⟩; have S10_ := Q0.mk hb_; clear hb_; obtain ⟨c11_, c12_, c13_⟩ := cells3 (bb K7_.out (S10_.out))) | (go_at_call 36; have hF_ := ZB.out; clear ZB; (try clear c11_ c12_ c13_); refine (thompson_Good.calls  b B1 d1 mx B2 d2 bc  true _ (Kd.C_below (HR3.out) (bsz (S5_.out) S10_.out)) hc3 (Kd.C_below (HR4.out) (bsz (S5_.out) S10_.out)) hc4  hF_).mono ?_; clear hF_; rintro e w14_ ⟨rfl, hb_⟩; have S15_ := Q0.mk hb_; clear hb_; obtain ⟨c16_, _, _⟩ := cells3 (bb K6_.out (bsz (S10_.out) S15_.out)); obtain ⟨c17_, _, _⟩ := cells3 (bb K7_.out (bsz (S10_.out) S15_.out))) | ((try clear c16_ c17_); refine wpList_insert_own _ rfl _ _ _ 139 rfl 138 3 keyed138 under139 _ w14_.heap.size 0 (.map []) rfl (World.ownsMap_made w14_ Try.prog 138 (plainElem Try.prog 3)) (by unfold maxLen; omega) _ _ (pairKey (0, 0)) rfl rfl (pair_key (p := (0, 0)) ⟨by decide, by decide⟩) _ [] (plainElem_int Try.underlying3 (by decide)) ?_; intro w5 hown5 hgrow5; have S5 := Q0.mk (Below.grown (ba (Below.refl w14_.heap.size w14_) (.map #[] 0)) hgrow5 (by simp) (fun k_ e_ => by cases e_; exact Nat.le_refl _)); have HMP : Q0 (PairMap w5 w14_.heap.size 1 [(0, 0)]) := ⟨⟨_, hown5, (NumData.nil pairKey pairOk).put (fun x y hx hy => pairKey_inj hx hy) (x := (0, 0)) ⟨by decide, by decide⟩ (keyed138.key (pair_key (p := (0, 0)) ⟨by decide, by decide⟩)) (by simp)⟩⟩; have HI5 : Q0 (w14_.heap.size < w5.heap.size) := ⟨HMP.out.lt⟩; clear hown5 hgrow5) | ((with_reducible refine gate_dst (N := 42) rfl ?_); refine Kd.R_lit k60 _ 138 ?hg (N := 42) ?hd (xs := castQ [(0, 0)]) (inner := [.int .i64 0, .int .i64 0]) (ok := fun _ => True) (okp := fun _ => True) ?hr ?hp (fun _ hk => hk) trivial (Below.refl _ _) (Nat.le_refl _) (by simp [castQ]) ?_; (case hd => rfl); (case hg => rfl); (case hr => first | (go_simp; done) | (go_simp; rfl)); (case hp => exact (Reps.c2 (show Kd.M k60 _ _ _ (⟨0, 0⟩ : S60) [.int .i64 0, .int .i64 0] from (k60_mkM _ _ _ (⟨0, 0⟩ : S60))) (Reps.none _ _))); intro v42 w6 ho hb hg_ hnew_; have HP0 := Q0.mk ho; have S6 := Q0.mk hb; replace HMP := Q0.mk (HMP.out.below hb); clear ho hb hg_ hnew_; obtain ⟨c18_, _, _⟩ := cells3 (bb K6_.out (bsz (bsz (bsz (S10_.out) S15_.out) S5.out) S6.out))))
 have HBW : Q0 (Below w14_.heap.size w14_ w6) := ⟨bsz (S5.out) S6.out⟩
 have HMPW := HMP
 obtain ⟨W7, hW7⟩ : ∃ W7, W7 = w6.alloc (.cells #[.int .i64 a, .slice none 0 0, .slice none 0 0] 25) := ⟨_, rfl⟩
 have HI : Q0 (w14_.heap.size < w6.heap.size) := ⟨HMP.out.lt⟩
 have HAL := HA.out.a1
 have HAL2 := HA.out.a2
 obtain ⟨L, rfl⟩ : ∃ L : Nat, a = (L : Int) := ⟨a.toNat, by omega⟩
 have HRUN' := HRUN.out
 have HRES' := HRES.out
 rw [Int.toNat_natCast] at HRUN'
 have hLs : L ≤ 64 := by omega
 clear HAL HAL2 HRUN HRES
 have HRUN := Q0.mk HRUN'
 have HRES := Q0.mk HRES'
 clear HRUN' HRES'
 clear n0_ n1_ n2_ hW7 W7 HMPW hif_
 (try clear c18_)
 go_loopw [11, 13] (fun v11 v13 wr => ∃ (i : Nat) (M : List (Nat × Nat)) (kf : Nat) (u1 u2 : Value), v13 = .int .i64 (i : Int) ∧ Q0 (prodRun L (prodSt nx mx) m kf M i = some MF) ∧ Q0 (Wbfs L (prodSt nx mx) (0, 0) (inP nx.length mx.length) M i 0) ∧ Q0 (Kd.R k60 138 wr w14_.heap.size (fun k_ => k_ ≠ w14_.heap.size) v11 (castQ M)) ∧ Q0 (PairMap wr w14_.heap.size M.length M) ∧ Q0 (wr.heap[w6.heap.size]? = some (.cells #[.int .i64 (L : Int), u1, u2] 25 (0, 0))) ∧ Q0 (Kd.S (Kd.slice 3 (Kd.int .i64)) 45 wr w14_.heap.size (fun k_ => k_ ≠ w14_.heap.size) u1 (numP L (prodSt nx mx) M i)) ∧ Q0 (Kd.R Kd.bool 4 wr w14_.heap.size (fun k_ => k_ ≠ w14_.heap.size) u2 (endsP (prodEnd E ac bc) M i)) ∧ Q0 (Below w14_.heap.size w14_ wr)) (fun _ v13 _ => 1000001 - (intOf v13).toNat)
 case atStart => exact ⟨0, [(0, 0)], k, _, _, rfl, HRUN, ⟨Wbfs.start ⟨by have h_ := HA.out.n1; omega, by have h_ := HBA.out.n1; omega⟩⟩, ⟨Kd.R_alloc (Kd.R_lower (Kd.R_mono (Kd.R_bound HP0.out) (fun k_ hk_ => by have h_ := HI5.out; have h2_ := hk_.2.1; omega)) (below_size S5.out)) _⟩, ⟨HMP.out.below (ba (Below.refl _ _) _)⟩, ⟨bn w6 _⟩, ⟨Kd.S_nil _ _ _ _ _⟩, ⟨Kd.R_nil _ _ _ _ _⟩, ⟨bsz HBW.out (ba (Below.refl _ _) _)⟩⟩
 case round =>
  clear HP0 HMP HBW HRUN
  obtain ⟨i, M, kf, u1, u2, rfl, HK, HW, HP, HM, HG, HS, HE, HB⟩ := hrel
  obtain ⟨wq, rfl⟩ : ∃ wq, wq = wr := ⟨wr, rfl⟩
  obtain ⟨Ap, cp, rfl⟩ := R_pairs HP.out
  have hMl : M.length ≤ 1000000 := by
   have h1_ := HW.out.most (N := nx.length * mx.length) (fun _ => code_lt) (fun _ _ => code_inj)
   have h2_ : nx.length * mx.length ≤ 1000 * 1000 := Nat.mul_le_mul HA.out.n2 HBA.out.n2
   omega
  have HML := Q0.mk hMl
  by_cases hlt : i < M.length
  ·by_cases hbg : (M.length : Int) ≤ m
   ·obtain ⟨⟨p1, p2⟩, hp⟩ : ∃ p, M[i]? = some p := ⟨_, List.getElem?_eq_getElem hlt⟩
    have hpo : p1 < nx.length ∧ p2 < mx.length := HW.out.good _ (List.mem_of_getElem? hp)
    obtain ⟨ad11, e_, hx0_, hx1_⟩ := pairs_at HP.out hp
    cases e_
    dsimp only at hx0_ hx1_
    have HPI := Q0.mk hp
    have HPO := Q0.mk hpo
    clear hp
    have q1b : decide ((i : Int) < (M.length : Int)) = true := decide_eq_true (by omega)
    have q2b : decide ((M.length : Int) ≤ m) = true := decide_eq_true hbg
    have q3b : ((M.length : Int) ≤ m) = True := eq_true hbg
    have p1_ : (0 : Int) ≤ (i : Int) := by omega
    have q1_ : (i : Int) < (M.length : Int) := by omega
    replace p1_ := eq_true p1_
    replace q1_ := eq_true q1_
    have c0_ : (wq.alloc (.cells #[.int .i64 (p1 : Int), .int .i64 (p2 : Int)] 138)).cell? ⟨w.heap.size, 0, none⟩ = some (.int .i64 (L : Int)) := (bcz (bb K6_.out (bsz (bsz (S10_.out) S15_.out) (ba HB.out (.cells #[.int .i64 (p1 : Int), .int .i64 (p2 : Int)] 138)))) 0).trans rfl
    go_wp2
    clear c0_ hx0_ hx1_ p1_ q1_ q1b q2b q3b
    go_loopw [11, 15, 64] (fun v11 v15 v64 wr => ∃ (c : Nat) (Mc : List (Nat × Nat)) (N : List Int), c ≤ L ∧ v64 = .int .i64 (c : Int) ∧ Q0 (Mc = growTo (prodSt nx mx) (p1, p2) M c) ∧ Q0 (N = rowP (prodSt nx mx) Mc (p1, p2) c) ∧ Q0 (Wbfs L (prodSt nx mx) (0, 0) (inP nx.length mx.length) Mc i c) ∧ Q0 (Kd.R k60 138 wr w14_.heap.size (fun k_ => k_ ≠ w14_.heap.size ∧ k_ ≠ wq.heap.size) v11 (castQ Mc)) ∧ Q0 (PairMap wr w14_.heap.size Mc.length Mc) ∧ Q0 (wr.heap[w6.heap.size]? = some (.cells #[.int .i64 (L : Int), u1, u2] 25 (0, 0))) ∧ Q0 (Kd.S (Kd.slice 3 (Kd.int .i64)) 45 wr w14_.heap.size (fun k_ => k_ ≠ w14_.heap.size ∧ k_ < wq.heap.size) u1 (numP L (prodSt nx mx) Mc i)) ∧ Q0 (Kd.R Kd.bool 4 wr w14_.heap.size (fun k_ => k_ ≠ w14_.heap.size) u2 (endsP (prodEnd E ac bc) Mc i)) ∧ Q0 (wr.heap[wq.heap.size]? = some (.cells #[.int .i64 (p1 : Int), .int .i64 (p2 : Int)] 138 (0, 0))) ∧ Q0 (Kd.R (Kd.int .i64) 3 wr w14_.heap.size (fun k_ => wq.heap.size ≤ k_) v15 N) ∧ Q0 (Below w14_.heap.size w14_ wr)) (fun _ _ v64 _ => L - (intOf v64).toNat)
    case atStart => exact ⟨0, M, [], Nat.zero_le _, rfl, ⟨rfl⟩, ⟨rfl⟩, HW, ⟨Kd.R_alloc (Kd.R_elderB HP.out wq.heap.size (Nat.le_refl _)) _⟩, ⟨HM.out.below (ba (Below.refl _ _) _)⟩, ⟨bA HG.out _⟩, ⟨Kd.S_mono (Kd.S_below (Kd.S_bound HS.out) (ba (Below.refl _ _) _)) (fun k_ hk_ => ⟨hk_.1, hk_.2.2.1⟩)⟩, ⟨Kd.R_alloc HE.out _⟩, ⟨bn wq _⟩, ⟨Kd.R_nil _ _ _ _ _⟩, ⟨ba HB.out (.cells #[.int .i64 (p1 : Int), .int .i64 (p2 : Int)] 138)⟩⟩
    case round =>
     have HSL := Q0.mk (Kd.S_lt HS.out)
     have HMQ : Q0 (w14_.heap.size < wq.heap.size) := ⟨HM.out.lt⟩
     have HGQ : Q0 (w6.heap.size < wq.heap.size) := ⟨blk_lt HG.out⟩
     have HQS := Q0.mk HB.out.size
     clear HP HM HG HS HE HB HW
     obtain ⟨c, Mc, N, hc, rfl, HMc, HN, HW, HP, HM, HG, HS, HE, HGp, HNr, HB⟩ := hrel
     obtain ⟨Ap, cp, rfl⟩ := R_pairs HP.out
     obtain ⟨An, cn, rfl⟩ := Kd.R_slice HNr.out
     have hNl : N.length = c := by rw [HN.out]; exact rowP_length _
     have HNL := Q0.mk hNl
     clear hNl
     have hMcl : Mc.length ≤ 1000000 := by
      have h1_ := HW.out.most (N := nx.length * mx.length) (fun _ => code_lt) (fun _ _ => code_inj)
      have h2_ : nx.length * mx.length ≤ 1000 * 1000 := Nat.mul_le_mul HA.out.n2 HBA.out.n2
      omega
     have HMCL := Q0.mk hMcl
     by_cases hcl : c < L
     ·have q1b : decide ((c : Int) < (L : Int)) = true := decide_eq_true (by omega)
      obtain ⟨hp1, hp2⟩ := HPO.out
      obtain ⟨ad1, Ar1, cr1, e_, hxr1_, -, hCr1_⟩ := at_L5 HR1.out (p1 : Int) (by omega) (by omega)
      cases e_
      rw [rd5_nat] at hxr1_ hCr1_
      rw [Int.toNat_natCast] at hxr1_
      have hl1_ := HA.out.len hp1
      have hs1_ := HA.out.st hp1 (c := c) (by rw [Int.toNat_natCast]; exact hcl)
      obtain ⟨adr, e_, hxe1_⟩ := Kd.at_int hCr1_ (c : Int) (by omega) (by omega)
      cases e_
      rw [rd_nat, hs1_, Int.toNat_natCast] at hxe1_
      obtain ⟨bd1, Ar2, cr2, e_, hxr2_, -, hCr2_⟩ := at_L5 HR3.out (p2 : Int) (by omega) (by omega)
      cases e_
      rw [rd5_nat] at hxr2_ hCr2_
      rw [Int.toNat_natCast] at hxr2_
      have hl2_ := HBA.out.len hp2
      have hs2_ := HBA.out.st hp2 (c := c) (by rw [← HAB.out, Int.toNat_natCast]; exact hcl)
      obtain ⟨bdr, e_, hxe2_⟩ := Kd.at_int hCr2_ (c : Int) (by omega) (by rw [← HAB.out, Int.toNat_natCast] at hl2_; omega)
      cases e_
      rw [rd_nat, hs2_, Int.toNat_natCast] at hxe2_
      rw [Int.toNat_natCast] at hl1_
      rw [← HAB.out, Int.toNat_natCast] at hl2_
      obtain ⟨q1, hq1⟩ : ∃ q, q = stL nx p1 c := ⟨_, rfl⟩
      obtain ⟨q2, hq2⟩ : ∃ q, q = stL mx p2 c := ⟨_, rfl⟩
      rw [← hq1] at hxe1_
      rw [← hq2] at hxe2_
      have hsh1 := HA.out.shuts p1 c hp1 (by rw [Int.toNat_natCast]; exact hcl)
      have hsh2 := HBA.out.shuts p2 c hp2 (by rw [← HAB.out, Int.toNat_natCast]; exact hcl)
      rw [← hq1] at hsh1
      rw [← hq2] at hsh2
      have HQ1 := Q0.mk hq1
      have HQ2 := Q0.mk hq2
      have HSH : Q0 (q1 < nx.length ∧ q2 < mx.length) := ⟨⟨hsh1, hsh2⟩⟩
      clear hq1 hq2 hsh1 hsh2 hs1_ hs2_ hCr1_ hCr2_
      obtain ⟨n1, hn1⟩ : ∃ n, n = (nx.getD p1 []).length := ⟨_, rfl⟩
      obtain ⟨n2, hn2⟩ : ∃ n, n = (mx.getD p2 []).length := ⟨_, rfl⟩
      rw [← hn1] at hxr1_ hl1_
      rw [← hn2] at hxr2_ hl2_
      clear hn1 hn2
      have HXR1 := Q0.mk hxr1_
      have HXR2 := Q0.mk hxr2_
      have HXE1 := Q0.mk hxe1_
      have HXE2 := Q0.mk hxe2_
      clear hxr1_ hxr2_ hxe1_ hxe2_
      have z1_ : ((0 : Int) ≤ (p1 : Int)) = True := eq_true (by omega)
      have z2_ : ((p1 : Int) < (nx.length : Int)) = True := eq_true (by omega)
      have z3_ : ((0 : Int) ≤ (p2 : Int)) = True := eq_true (by omega)
      have z4_ : ((p2 : Int) < (mx.length : Int)) = True := eq_true (by omega)
      have z5_ : ((0 : Int) ≤ (c : Int)) = True := eq_true (by omega)
      have z6_ : ((c : Int) < (n1 : Int)) = True := eq_true (by omega)
      have z7_ : ((c : Int) < (n2 : Int)) = True := eq_true (by omega)
      have HL12 := Q0.mk (And.intro hl1_ hl2_)
      clear hl1_ hl2_ hp1 hp2
      go_wp2
      refine start_ (n := 21) (S := fun w' => Below wr.heap.size wr w') (ds := [20]) #[false, false, false, false, false, false, false, false, false, false, false, false, false, false, false, false, false, false, false, false, false] (by kernel_rfl) rfl rfl (bD (Below.refl _ _)) (fun hHeld => ?_)
      refine with_tabW product_made.tab15 product_made.bits15 (fun HT_ HW_ => ?_)
      have HPd := Q0.mk (Kd.R_drew HP.out)
      have HMd : Q0 (PairMap wr.drew w14_.heap.size Mc.length Mc) := ⟨HM.out⟩
      have HGd := Q0.mk (bdz HG.out)
      have HSd := Q0.mk (Kd.S_drew HS.out)
      have HEd := Q0.mk (Kd.R_drew HE.out)
      have HGpd := Q0.mk (bdz HGp.out)
      have HNd := Q0.mk (Kd.R_drew HNr.out)
      have HBd := Q0.mk (bD HB.out)
      obtain ⟨wd, hwd⟩ : ∃ wd, wd = wr.drew := ⟨_, rfl⟩
      rw [← hwd] at HPd HMd HGd HSd HEd HGpd HNd HBd hHeld ⊢
      clear hwd
      refine pure_ (i := 0) (N := some 67) (v := ?_) (a' := ?_) #[true, false, false, false, false, false, false, false, false, false, false, false, false, false, false, false, false, false, false, false, false] rfl rfl (any_of HT_.out (by kernel_rfl)) (fun _ _ _ h => h) (Or.inl ⟨by rfl, ?_⟩) ?_ ?_
      rotate_left
      ·intro w'
       go_simp
       with_reducible rfl
      rotate_left
      ·simp only [Act.put, sA, sB, sC, i64_w, i32_w]
       rfl
      refine pure_ (i := 2) (N := some 69) (v := ?_) (a' := ?_) #[true, false, true, false, false, false, false, false, false, false, false, false, false, false, false, false, false, false, false, false, false] rfl rfl (any_of HT_.out (by kernel_rfl)) (fun _ _ _ h => h) (Or.inl ⟨by rfl, ?_⟩) ?_ ?_
      rotate_left
      ·intro w'
       go_simp
       with_reducible rfl
      rotate_left
      ·simp only [Act.put, sA, sB, sC, i64_w, i32_w]
       rfl
      refine pure_ (i := 6) (N := some 73) (v := ?_) (a' := ?_) #[true, false, true, false, false, false, true, false, false, false, false, false, false, false, false, false, false, false, false, false, false] rfl rfl (any_of HT_.out (by kernel_rfl)) (fun _ _ _ h => h) (Or.inl ⟨by rfl, ?_⟩) ?_ ?_
      rotate_left
      ·intro w'
       go_simp
       with_reducible rfl
      rotate_left
      ·simp only [Act.put, sA, sB, sC, i64_w, i32_w]
       rfl
      refine pure_ (i := 9) (N := some 76) (v := ?_) (a' := ?_) #[true, false, true, false, false, false, true, false, false, true, false, false, false, false, false, false, false, false, false, false, false] rfl rfl (any_of HT_.out (by kernel_rfl)) (fun _ _ _ h => h) (Or.inl ⟨by rfl, ?_⟩) ?_ ?_
      rotate_left
      ·intro w'
       go_simp
       with_reducible rfl
      rotate_left
      ·simp only [Act.put, sA, sB, sC, i64_w, i32_w]
       rfl
      refine pure_ (i := 11) (N := some 78) (v := ?_) (a' := ?_) #[true, false, true, false, false, false, true, false, false, true, false, true, false, false, false, false, false, false, false, false, false] rfl rfl (any_of HT_.out (by kernel_rfl)) (fun _ _ _ h => h) (Or.inl ⟨by rfl, ?_⟩) ?_ ?_
      rotate_left
      ·intro w'
       go_simp
       with_reducible rfl
      rotate_left
      ·simp only [Act.put, sA, sB, sC, i64_w, i32_w]
       rfl
      refine pure_ (i := 15) (N := some 82) (v := ?_) (a' := ?_) #[true, false, true, false, false, false, true, false, false, true, false, true, false, false, false, true, false, false, false, false, false] rfl rfl (any_of HT_.out (by kernel_rfl)) (fun _ _ _ h => h) (Or.inl ⟨by rfl, ?_⟩) ?_ ?_
      rotate_left
      ·intro w'
       go_simp
       with_reducible rfl
      rotate_left
      ·simp only [Act.put, sA, sB, sC, i64_w, i32_w]
       rfl
      refine take_ (i := 1) (N := some 68) (v := ?_) (a' := ?_) #[true, true, true, false, false, false, true, false, false, true, false, true, false, false, false, true, false, false, false, false, false] rfl rfl (take_ofW HT_.out HW_.out (by kernel_rfl)) (fun _ _ _ h => h) (Or.inl ⟨by rfl, ?_⟩) hHeld ?_ ?_
      rotate_left
      ·intro w' s0
       have c_ : w'.cell? ⟨w.heap.size, 1, none⟩ = some (.slice (some ad1) nx.length c1) := (bcz (bb K6_.out (bsz (bsz (S10_.out) S15_.out) (bsz HB.out s0))) 1).trans rfl
       clear s0
       go_simp
       with_reducible rfl
      rotate_left
      ·simp only [Act.put, sA, sB, sC, i64_w, i32_w]
       rfl
      refine take_ (i := 3) (N := some 70) (v := ?_) (a' := ?_) #[true, true, true, true, false, false, true, false, false, true, false, true, false, false, false, true, false, false, false, false, false] rfl rfl (take_ofW HT_.out HW_.out (by kernel_rfl)) (fun _ _ _ h => h) (Or.inl ⟨by rfl, ?_⟩) hHeld ?_ ?_
      rotate_left
      ·intro w' s0
       have c_ : w'.cell? ⟨wq.heap.size, 0, none⟩ = some (.int .i64 (p1 : Int)) := (bcz (bb HGp.out s0) 0).trans rfl
       clear s0
       go_simp
       with_reducible rfl
      rotate_left
      ·simp only [Act.put, sA, sB, sC, i64_w, i32_w]
       rfl
      refine pure_ (i := 4) (N := some 71) (v := ?_) (a' := ?_) #[true, true, true, true, true, false, true, false, false, true, false, true, false, false, false, true, false, false, false, false, false] rfl rfl (any_of HT_.out (by kernel_rfl)) (fun _ _ _ h => h) (Or.inl ⟨by rfl, ?_⟩) ?_ ?_
      rotate_left
      ·intro w'
       go_simp
       with_reducible rfl
      rotate_left
      ·simp only [Act.put, sA, sB, sC, i64_w, i32_w]
       rfl
      refine take_ (i := 5) (N := some 72) (v := ?_) (a' := ?_) #[true, true, true, true, true, true, true, false, false, true, false, true, false, false, false, true, false, false, false, false, false] rfl rfl (take_ofW HT_.out HW_.out (by kernel_rfl)) (fun _ _ _ h => h) (Or.inl ⟨by rfl, ?_⟩) hHeld ?_ ?_
      rotate_left
      ·intro w' s0
       have c_ := (Below.cell (bsz (bsz (bsz (S5_.out) S10_.out) S15_.out) (bsz HB.out s0)) (World.block_lt_of_cell? _ _ HXR1.out)).trans HXR1.out
       clear s0
       go_simp
       with_reducible rfl
      rotate_left
      ·simp only [Act.put, sA, sB, sC, i64_w, i32_w]
       rfl
      refine pure_ (i := 7) (N := some 74) (v := ?_) (a' := ?_) #[true, true, true, true, true, true, true, true, false, true, false, true, false, false, false, true, false, false, false, false, false] rfl rfl (any_of HT_.out (by kernel_rfl)) (fun _ _ _ h => h) (Or.inl ⟨by rfl, ?_⟩) ?_ ?_
      rotate_left
      ·intro w'
       go_simp
       with_reducible rfl
      rotate_left
      ·simp only [Act.put, sA, sB, sC, i64_w, i32_w]
       rfl
      refine take_ (i := 8) (N := some 75) (v := ?_) (a' := ?_) #[true, true, true, true, true, true, true, true, true, true, false, true, false, false, false, true, false, false, false, false, false] rfl rfl (take_ofW HT_.out HW_.out (by kernel_rfl)) (fun _ _ _ h => h) (Or.inl ⟨by rfl, ?_⟩) hHeld ?_ ?_
      rotate_left
      ·intro w' s0
       have c_ := (Below.cell (bsz (bsz (bsz (S5_.out) S10_.out) S15_.out) (bsz HB.out s0)) (World.block_lt_of_cell? _ _ HXE1.out)).trans HXE1.out
       clear s0
       go_simp
       with_reducible rfl
      rotate_left
      ·simp only [Act.put, sA, sB, sC, i64_w, i32_w]
       rfl
      refine take_ (i := 10) (N := some 77) (v := ?_) (a' := ?_) #[true, true, true, true, true, true, true, true, true, true, true, true, false, false, false, true, false, false, false, false, false] rfl rfl (take_ofW HT_.out HW_.out (by kernel_rfl)) (fun _ _ _ h => h) (Or.inl ⟨by rfl, ?_⟩) hHeld ?_ ?_
      rotate_left
      ·intro w' s0
       have c_ : w'.cell? ⟨w.heap.size + 1, 1, none⟩ = some (.slice (some bd1) mx.length d1) := (bcz (bb K7_.out (bsz (bsz (S10_.out) S15_.out) (bsz HB.out s0))) 1).trans rfl
       clear s0
       go_simp
       with_reducible rfl
      rotate_left
      ·simp only [Act.put, sA, sB, sC, i64_w, i32_w]
       rfl
      refine take_ (i := 12) (N := some 79) (v := ?_) (a' := ?_) #[true, true, true, true, true, true, true, true, true, true, true, true, true, false, false, true, false, false, false, false, false] rfl rfl (take_ofW HT_.out HW_.out (by kernel_rfl)) (fun _ _ _ h => h) (Or.inl ⟨by rfl, ?_⟩) hHeld ?_ ?_
      rotate_left
      ·intro w' s0
       have c_ : w'.cell? ⟨wq.heap.size, 1, none⟩ = some (.int .i64 (p2 : Int)) := (bcz (bb HGp.out s0) 1).trans rfl
       clear s0
       go_simp
       with_reducible rfl
      rotate_left
      ·simp only [Act.put, sA, sB, sC, i64_w, i32_w]
       rfl
      refine pure_ (i := 13) (N := some 80) (v := ?_) (a' := ?_) #[true, true, true, true, true, true, true, true, true, true, true, true, true, true, false, true, false, false, false, false, false] rfl rfl (any_of HT_.out (by kernel_rfl)) (fun _ _ _ h => h) (Or.inl ⟨by rfl, ?_⟩) ?_ ?_
      rotate_left
      ·intro w'
       go_simp
       with_reducible rfl
      rotate_left
      ·simp only [Act.put, sA, sB, sC, i64_w, i32_w]
       rfl
      refine take_ (i := 14) (N := some 81) (v := ?_) (a' := ?_) #[true, true, true, true, true, true, true, true, true, true, true, true, true, true, true, true, false, false, false, false, false] rfl rfl (take_ofW HT_.out HW_.out (by kernel_rfl)) (fun _ _ _ h => h) (Or.inl ⟨by rfl, ?_⟩) hHeld ?_ ?_
      rotate_left
      ·intro w' s0
       have c_ := (Below.cell (bsz (bsz (bsz (S5_.out) S10_.out) S15_.out) (bsz HB.out s0)) (World.block_lt_of_cell? _ _ HXR2.out)).trans HXR2.out
       clear s0
       go_simp
       with_reducible rfl
      rotate_left
      ·simp only [Act.put, sA, sB, sC, i64_w, i32_w]
       rfl
      refine pure_ (i := 16) (N := some 83) (v := ?_) (a' := ?_) #[true, true, true, true, true, true, true, true, true, true, true, true, true, true, true, true, true, false, false, false, false] rfl rfl (any_of HT_.out (by kernel_rfl)) (fun _ _ _ h => h) (Or.inl ⟨by rfl, ?_⟩) ?_ ?_
      rotate_left
      ·intro w'
       go_simp
       with_reducible rfl
      rotate_left
      ·simp only [Act.put, sA, sB, sC, i64_w, i32_w]
       rfl
      refine take_ (i := 17) (N := some 84) (v := ?_) (a' := ?_) #[true, true, true, true, true, true, true, true, true, true, true, true, true, true, true, true, true, true, false, false, false] rfl rfl (take_ofW HT_.out HW_.out (by kernel_rfl)) (fun _ _ _ h => h) (Or.inl ⟨by rfl, ?_⟩) hHeld ?_ ?_
      rotate_left
      ·intro w' s0
       have c_ := (Below.cell (bsz (bsz (bsz (S5_.out) S10_.out) S15_.out) (bsz HB.out s0)) (World.block_lt_of_cell? _ _ HXE2.out)).trans HXE2.out
       clear s0
       go_simp
       with_reducible rfl
      rotate_left
      ·simp only [Act.put, sA, sB, sC, i64_w, i32_w]
       rfl
      refine pure_ (i := 18) (N := some 85) (v := ?_) (a' := ?_) #[true, true, true, true, true, true, true, true, true, true, true, true, true, true, true, true, true, true, true, false, false] rfl rfl (any_of HT_.out (by kernel_rfl)) (fun _ _ _ h => h) (Or.inl ⟨by rfl, ?_⟩) ?_ ?_
      rotate_left
      ·intro w'
       go_simp
       with_reducible rfl
      rotate_left
      ·simp only [Act.put, sA, sB, sC, i64_w, i32_w]
       rfl
      refine one_ (i := 19) (N := some 17) #[true, true, true, true, true, true, true, true, true, true, true, true, true, true, true, true, true, true, true, true, false] rfl rfl (one_of HT_.out (by kernel_rfl)) (by decide) (fun K hK => ?_)
      refine value_ (w1 := ?_) (v := ?_) (by rfl) rfl ?_ ?_
      rotate_left 2
      ·go_simp
       constructor
       ·rfl
       ·rfl
      refine hK.out _ _ (ba hHeld (.cells #[.int .i64 0, .int .i64 0] 138)) (fun hHeld => ?_)
      clear hK K
      refine norm_ (a' := ?_) ?_ ?_
      rotate_left
      ·show Act.put _ (some 17) _ = _
       simp only [Act.put, sA, sB, sC, i64_w, i32_w]
       rfl
      refine last_ (i := 20) (N := none) #[true, true, true, true, true, true, true, true, true, true, true, true, true, true, true, true, true, true, true, true, true] rfl rfl (one_of HT_.out (by kernel_rfl)) (by decide) (fun K hK => ?_)
      have hb_ := bn wd (.cells #[.int .i64 0, .int .i64 0] 138)
      have hc0_ : (wd.alloc (.cells #[.int .i64 0, .int .i64 0] 138)).cell? ⟨wd.heap.size, 0, none⟩ = some (.int .i64 0) := (bcz hb_ 0).trans rfl
      have hc1_ : (wd.alloc (.cells #[.int .i64 0, .int .i64 0] 138)).cell? ⟨wd.heap.size, 1, none⟩ = some (.int .i64 0) := (bcz hb_ 1).trans rfl
      clear hb_ hHeld
      refine skip_ (w1 := ?_) (by rfl) rfl ?_ ?_
      rotate_left
      ·go_simp
       rfl
      refine hK.out _ _ ?_
      clear hK K
      refine done_ (done_of HT_.out (by kernel_rfl)) ?_
      have HPa := Q0.mk (Kd.R_alloc HPd.out (.cells #[.int .i64 (q1 : Int), .int .i64 (q2 : Int)] 138))
      have HMa := Q0.mk (HMd.out.below (ba (Below.refl _ _) (.cells #[.int .i64 (q1 : Int), .int .i64 (q2 : Int)] 138)))
      have HGa := Q0.mk (bA HGd.out (.cells #[.int .i64 (q1 : Int), .int .i64 (q2 : Int)] 138))
      have HSa := Q0.mk (Kd.S_alloc HSd.out (.cells #[.int .i64 (q1 : Int), .int .i64 (q2 : Int)] 138))
      have HEa := Q0.mk (Kd.R_alloc HEd.out (.cells #[.int .i64 (q1 : Int), .int .i64 (q2 : Int)] 138))
      have HGpa := Q0.mk (bA HGpd.out (.cells #[.int .i64 (q1 : Int), .int .i64 (q2 : Int)] 138))
      have HNa := Q0.mk (Kd.R_alloc HNd.out (.cells #[.int .i64 (q1 : Int), .int .i64 (q2 : Int)] 138))
      have HBa := Q0.mk (ba HBd.out (.cells #[.int .i64 (q1 : Int), .int .i64 (q2 : Int)] 138))
      have HQb := Q0.mk (bn wd (.cells #[.int .i64 (q1 : Int), .int .i64 (q2 : Int)] 138))
      have HMD : Q0 (w14_.heap.size < wd.heap.size ∧ wq.heap.size < wd.heap.size) := ⟨⟨HMd.out.lt, blk_lt HGpd.out⟩⟩
      clear HP HM HG HS HE HGp HNr HPd HMd HGd HSd HEd HGpd HNd hHeld HXR1 HXR2 HXE1 HXE2 z1_ z2_ z3_ z4_ z5_ z6_ z7_
      have x0_ : (wd.alloc (.cells #[.int .i64 (q1 : Int), .int .i64 (q2 : Int)] 138)).cell? ⟨wd.heap.size, 0, none⟩ = some (.int .i64 (q1 : Int)) := (bcz HQb.out 0).trans rfl
      have x1_ : (wd.alloc (.cells #[.int .i64 (q1 : Int), .int .i64 (q2 : Int)] 138)).cell? ⟨wd.heap.size, 1, none⟩ = some (.int .i64 (q2 : Int)) := (bcz HQb.out 1).trans rfl
      have hqo : pairOk (q1, q2) := by
       have h1_ := HSH.out
       have h2_ := HA.out.n2
       have h3_ := HBA.out.n2
       exact ⟨by dsimp only; omega, by dsimp only; omega⟩
      have HQO := Q0.mk hqo
      clear hqo
      obtain ⟨D, hD, hND⟩ := HMa.out
      have HD := Q0.mk hD
      have HND := Q0.mk hND
      clear hD hND
      have hst : prodSt nx mx (p1, p2) c = (q1, q2) := by show (stL nx p1 c, stL mx p2 c) = _; rw [HQ1.out, HQ2.out]
      have HST := Q0.mk hst
      clear hst
      by_cases hmem : (q1, q2) ∈ Mc
      ·have HMEM := Q0.mk hmem
       clear hmem
       have HMZ : Q0 (wq.heap.size ≤ (wd.alloc (.cells #[.int .i64 (q1 : Int), .int .i64 (q2 : Int)] 138)).heap.size) := ⟨by have h_ := HMD.out; simp; omega⟩
       go_wp2_with (first | (at_lookup; refine wpList_lookup_own_ok_int _ rfl _ _ 139 rfl 138 3 .i64 keyed138 under139 Try.underlying3 (zero3' _) w14_.heap.size Mc.length D rfl HD.out _ (pairKey (q1, q2)) rfl (pair_key HQO.out) ?_; intro cv hat hwc; obtain rfl : cv = ((Mc.idxOf (q1, q2) : Nat) : Int) := (by have h_ := hat.symm.trans (HND.out.2.2 (q1, q2) HQO.out).2; rw [if_pos HMEM.out] at h_; simpa using h_); clear hat hwc; rw [(HND.out.2.2 (q1, q2) HQO.out).1, show Mc.contains (q1, q2) = true by simpa using HMEM.out]) | ((with_reducible refine gate_builtin (b := .append) (xs := #[.tmp 103, .tmp 105]) rfl ?_); at_builtin; refine Kd.R_append (Kd.int .i64) (w0 := w14_) w14_.heap.size rfl (.tmp 103) (.tmp 105) 45 3 (.int .i64 0) 8 rfl Try.underlying45 info3 rfl (by decide) (by omega) (.slice An N.length cn) N (((Mc.idxOf (q1, q2) : Nat) : Int)) [.int .i64 (((Mc.idxOf (q1, q2) : Nat) : Int))] (fun k_ => wq.heap.size ≤ k_) (fun _ => False) rfl (by first | rfl | (rw [World.size_alloc]; rfl)) ?aP (fun _ hk => hk.elim) ?aF ?aO ?aB ?aS ?aL ?_; (case aP => exact rfl); (case aB => exact HBa.out); (case aF => exact (fun k_ hk_ => by have h_ := HMZ.out; omega)); (case aO => exact HNa.out); (case aS => exact below_size HBa.out); (case aL => have h_ := HNL.out; omega); intro v10 w10 ho hb hg hat; have HN6 := Q0.mk ho; have HB6 := Q0.mk hb; have HG6 := Q0.mk hg; clear ho hb hg hat))
       go_roundw
       case rel =>
        have HP6 := Q0.mk (Kd.R_over' HPa.out (Kd.R_typed HNa.out) (by decide) HG6.out)
        have hna_ : some w14_.heap.size ≠ (Value.slice An N.length cn).ownBlock := fun e_ => by have h1_ := HNa.out.1 _ e_.symm; have h2_ := HMQ.out; omega
        have HM6 := Q0.mk (HMa.out.grown HG6.out hna_)
        have HG6b := Q0.mk (bG HGa.out HG6.out (Kd.R_ne HNa.out HGa.out (by decide)))
        have HS6 := Q0.mk (Kd.S_step HSa.out (fun k_ ok_ hk_ => HG6.out.block k_ hk_ (fun e_ => by have h1_ := HNa.out.1 _ e_.symm; have h2_ := ok_.2; omega)))
        have HE6 := Q0.mk (Kd.R_over' HEa.out (Kd.R_typed HNa.out) (by decide) HG6.out)
        have HGp6 := Q0.mk (bG HGpa.out HG6.out (Kd.R_ne HNa.out HGpa.out (by decide)))
        refine ⟨c + 1, Mc, N ++ [((Mc.idxOf (q1, q2) : Nat) : Int)], by omega, by go_num, ⟨?_⟩, ⟨?_⟩, ⟨?_⟩, HP6, HM6, HG6b, HS6, HE6, HGp6, HN6, HB6⟩
        ·have h_ := HMEM.out
         rw [HMc.out, ← HST.out] at h_
         rw [growTo_old h_]
         exact HMc.out
        ·rw [rowP_snoc, HST.out, ← HN.out, ← idx_pair]
        ·exact HW.out.old (x := (p1, p2)) (by rw [HMc.out]; exact growTo_get HPI.out c) (by rw [HST.out]; exact HMEM.out)
       case measure => simp [intOf]; omega
      ·have HMEM := Q0.mk hmem
       clear hmem
       have hMn : (Mc ++ [(q1, q2)]).length = Mc.length + 1 := by simp
       have HMN := Q0.mk hMn
       clear hMn
       go_wp2_with (first | (at_lookup; refine wpList_lookup_own_ok_int _ rfl _ _ 139 rfl 138 3 .i64 keyed138 under139 Try.underlying3 (zero3' _) w14_.heap.size Mc.length D rfl HD.out _ (pairKey (q1, q2)) rfl (pair_key HQO.out) ?_; intro cv hat hwc; obtain rfl : cv = 0 := (by have h_ := hat.symm.trans (HND.out.2.2 (q1, q2) HQO.out).2; rw [if_neg HMEM.out] at h_; simpa using h_); clear hat hwc; rw [(HND.out.2.2 (q1, q2) HQO.out).1, show Mc.contains (q1, q2) = false by simpa using HMEM.out]) | (at_mapUpdate; refine wpList_mapUpdate_own _ rfl _ _ _ 139 rfl 138 3 keyed138 under139 _ w14_.heap.size Mc.length D rfl HD.out (by unfold maxLen; have h_ := HMCL.out; omega) _ _ (pairKey (q1, q2)) rfl rfl (pair_key HQO.out) _ [] (plainElem_int Try.underlying3 (small_wf HMCL.out)) ?_; intro wu hown5 hgrow5; have HGU := Q0.mk hgrow5; have HMu : Q0 (PairMap wu w14_.heap.size (Mc.length + 1) (Mc ++ [(q1, q2)])) := ⟨⟨_, hown5, HND.out.put (fun x y hx hy => pairKey_inj hx hy) HQO.out (keyed138.key (pair_key HQO.out)) HMEM.out⟩⟩; clear hown5 hgrow5; have hne_ : ∀ k_, k_ ≠ w14_.heap.size → some k_ ≠ some w14_.heap.size := fun k_ h_ e_ => h_ (Option.some.inj e_); have HPu := Q0.mk (Kd.R_step HPa.out (fun k_ ok_ hk_ => HGU.out.block k_ hk_ (hne_ k_ ok_.1))); have HGu := Q0.mk (bG HGa.out HGU.out (hne_ _ (by have h_ := HMQ.out; have h2_ := HI.out; omega))); have HSu := Q0.mk (Kd.S_step HSa.out (fun k_ ok_ hk_ => HGU.out.block k_ hk_ (hne_ k_ ok_.1))); have HEu := Q0.mk (Kd.R_step HEa.out (fun k_ ok_ hk_ => HGU.out.block k_ hk_ (hne_ k_ ok_))); have HGpu := Q0.mk (bG HGpa.out HGU.out (hne_ _ (by have h_ := HMQ.out; omega))); have HNu := Q0.mk (Kd.R_step HNa.out (fun k_ ok_ hk_ => HGU.out.block k_ hk_ (hne_ k_ (by have h_ := HMQ.out; omega)))); have HBu := Q0.mk (HBa.out.grown HGU.out (below_size HBa.out) (fun k_ e_ => by cases e_; exact Nat.le_refl _)); have HQu := Q0.mk (bG HQb.out HGU.out (hne_ _ (by have h_ := HMD.out; omega))); have HSZu := Q0.mk HGU.out.size; clear HPa HGa HSa HEa HGpa HNa HBa HQb x0_ x1_ hne_; have x0_ : wu.cell? ⟨wd.heap.size, 0, none⟩ = some (.int .i64 (q1 : Int)) := (bcz HQu.out 0).trans rfl; have x1_ : wu.cell? ⟨wd.heap.size, 1, none⟩ = some (.int .i64 (q2 : Int)) := (bcz HQu.out 1).trans rfl) | ((with_reducible refine gate_builtin (b := .append) (xs := #[.tmp 99, .tmp 101]) rfl ?_); at_builtin; refine Kd.R_append k60 (w0 := w14_) w14_.heap.size rfl (.tmp 99) (.tmp 101) 140 138 (.agg #[(.int .i64 0), (.int .i64 0)]) 16 rfl Try.underlying140 info138 rfl (by decide) (by omega) (.slice Ap Mc.length cp) (castQ Mc) (q60 (q1, q2)) [.int .i64 (q1 : Int), .int .i64 (q2 : Int)] (fun k_ => k_ ≠ w14_.heap.size ∧ k_ ≠ wq.heap.size) (fun _ => False) rfl rfl ?aP (fun _ hk => hk.elim) ?aF ?aO ?aB ?aS ?aL ?_; (case aP => exact k60_mkM _ _ _ (q60 (q1, q2))); (case aB => exact HBu.out); (case aF => exact (fun k_ hk_ => by have h1_ := HMu.out.lt; have h2_ := blk_lt HGpu.out; exact ⟨by omega, by omega⟩)); (case aO => exact HPu.out); (case aS => exact below_size HBu.out); (case aL => rw [castQ_length]; have h_ := HMCL.out; omega); intro v7 w7 ho hb hg hat; rw [← castQ_snoc] at ho; have HPv := Q0.mk ho; have HBv := Q0.mk hb; have HGG := Q0.mk hg; clear ho hb hg hat x0_ x1_; have HMv := Q0.mk (HMu.out.grown HGG.out (Kd.R_away HPu.out (fun k_ hk_ => hk_.1))); have HGv := Q0.mk (bG HGu.out HGG.out (Kd.R_ne HPu.out HGu.out (by decide))); have HSv := Q0.mk (Kd.S_over' HSu.out (Kd.R_typed HPu.out) (by decide) HGG.out); have HEv := Q0.mk (Kd.R_over' HEu.out (Kd.R_typed HPu.out) (by decide) HGG.out); have HGpv := Q0.mk (bG HGpu.out HGG.out (Kd.R_away HPu.out (fun k_ hk_ => hk_.2))); have HNv := Q0.mk (Kd.R_over' HNu.out (Kd.R_typed HPu.out) (by decide) HGG.out); have HMZ : Q0 (wq.heap.size ≤ w7.heap.size) := ⟨Nat.le_of_lt (blk_lt HGpv.out)⟩; clear HPu HMu HGu HSu HEu HGpu HNu HBu HQu HGG) | ((with_reducible refine gate_builtin (b := .append) (xs := #[.tmp 103, .tmp 105]) rfl ?_); at_builtin; refine Kd.R_append (Kd.int .i64) (w0 := w14_) w14_.heap.size rfl (.tmp 103) (.tmp 105) 45 3 (.int .i64 0) 8 rfl Try.underlying45 info3 rfl (by decide) (by omega) (.slice An N.length cn) N ((Mc.length : Int)) [.int .i64 ((Mc.length : Int))] (fun k_ => wq.heap.size ≤ k_) (fun _ => False) rfl (by first | rfl | (rw [World.size_alloc]; rfl)) ?aP (fun _ hk => hk.elim) ?aF ?aO ?aB ?aS ?aL ?_; (case aP => exact rfl); (case aB => exact HBv.out); (case aF => exact (fun k_ hk_ => by have h_ := HMZ.out; omega)); (case aO => exact HNv.out); (case aS => exact below_size HBv.out); (case aL => have h_ := HNL.out; omega); intro v10 w10 ho hb hg hat; have HN6 := Q0.mk ho; have HB6 := Q0.mk hb; have HG6 := Q0.mk hg; clear ho hb hg hat))
       go_roundw
       case rel =>
        have HP6 := Q0.mk (Kd.R_over' HPv.out (Kd.R_typed HNv.out) (by decide) HG6.out)
        have hna_ : some w14_.heap.size ≠ (Value.slice An N.length cn).ownBlock := fun e_ => by have h1_ := HNv.out.1 _ e_.symm; have h2_ := HMQ.out; omega
        have HM6 := Q0.mk (HMv.out.grown HG6.out hna_)
        have HG6b := Q0.mk (bG HGv.out HG6.out (Kd.R_ne HNv.out HGv.out (by decide)))
        have HS6 := Q0.mk (Kd.S_step HSv.out (fun k_ ok_ hk_ => HG6.out.block k_ hk_ (fun e_ => by have h1_ := HNv.out.1 _ e_.symm; have h2_ := ok_.2; omega)))
        have HE6 := Q0.mk (Kd.R_over' HEv.out (Kd.R_typed HNv.out) (by decide) HG6.out)
        have HGp6 := Q0.mk (bG HGpv.out HG6.out (Kd.R_ne HNv.out HGpv.out (by decide)))
        have hcur_ : Mc[i]? = some (p1, p2) := by rw [HMc.out]; exact growTo_get HPI.out c
        have hWn_ := HW.out.new hcur_ hcl (by rw [HST.out]; exact HSH.out) (by rw [HST.out]; exact HMEM.out)
        rw [HST.out] at hWn_
        refine ⟨c + 1, Mc ++ [(q1, q2)], N ++ [(Mc.length : Int)], by omega, by go_num, ⟨?_⟩, ⟨?_⟩, ⟨hWn_⟩, HP6, ⟨?_⟩, HG6b, ⟨?_⟩, ⟨?_⟩, HGp6, HN6, HB6⟩
        ·have h_ := HMEM.out
         rw [HMc.out, ← HST.out] at h_
         rw [growTo_new h_, ← HMc.out, HST.out]
        ·rw [rowP_snoc, HST.out, idxOf_snocP HMEM.out, rowP_grow (HW.out.now _ hcur_), ← HN.out]
        ·rw [HMN.out]; exact HM6.out
        ·rw [numP_growAt HW.out]; exact HS6.out
        ·rw [endsP_growAt _ HW.out.at_]; exact HE6.out
       case measure => simp [intOf]; omega
     ·have q1b : decide ((c : Int) < (L : Int)) = false := decide_eq_false (by omega)
      have q1c : (c < L) = False := eq_false (by omega)
      obtain rfl : c = L := by omega
      obtain ⟨wz, rfl⟩ : ∃ wz, wz = wr := ⟨wr, rfl⟩
      obtain ⟨X1, hX1⟩ : ∃ X, X = numP c (prodSt nx mx) Mc i := ⟨_, rfl⟩
      obtain ⟨X2, hX2⟩ : ∃ X, X = endsP (prodEnd E ac bc) Mc i := ⟨_, rfl⟩
      rw [← hX1] at HS
      rw [← hX2] at HE
      have hil_ : i < 1000000 := by have h_ := HML.out; omega
      have HXL : Q0 (X1.length ≤ 1000000 ∧ X2.length ≤ 1000000) := ⟨by rw [hX1, hX2, numP_length, endsP_length]; omega⟩
      obtain ⟨Y1, hY1⟩ : ∃ Y, Y = X1 ++ [N] := ⟨_, rfl⟩
      obtain ⟨xA, hxA⟩ : ∃ x, x = acL ac p1 := ⟨_, rfl⟩
      obtain ⟨xB, hxB⟩ : ∃ x, x = acL bc p2 := ⟨_, rfl⟩
      obtain ⟨Y2, hY2⟩ : ∃ Y, Y = X2 ++ [E xA xB] := ⟨_, rfl⟩
      have HX1 := Q0.mk hX1
      clear hX1
      have HX2 := Q0.mk hX2
      clear hX2
      have HY1 := Q0.mk hY1
      clear hY1
      have HY2 := Q0.mk hY2
      clear hY2
      have HxA := Q0.mk hxA
      clear hxA
      have HxB := Q0.mk hxB
      clear hxB
      obtain ⟨U1, e1, rfl⟩ := Kd.S_slice HS.out
      obtain ⟨U2, e2, rfl⟩ := Kd.R_slice HE.out
      have z1_ : wz.cell? ⟨w6.heap.size, 1, none⟩ = some (.slice U1 X1.length e1) := (bcz HG.out 1).trans rfl
      go_wp2_with (first | ((with_reducible refine gate_builtin (b := .append) (xs := #[.tmp 109, .tmp 111]) rfl ?_); at_builtin; refine Kd.S_append (Kd.slice 3 (Kd.int .i64)) (w0 := w14_) w14_.heap.size rfl (.tmp 109) (.tmp 111) 22 45 (.slice none 0 0) 24 rfl Try.underlying22 info45 rfl (by decide) (by omega) (.slice U1 X1.length e1) X1 N [.slice An N.length cn] (fun k_ => k_ ≠ w14_.heap.size) (fun k_ => wq.heap.size ≤ k_) rfl (by first | rfl | (rw [World.size_alloc]; rfl)) ?aP ?aK ?aF ?aO ?aB ?aS ?aL ?_; (case aP => exact Kd.M_row HNr.out); (case aK => exact (fun k_ hk_ => ⟨by have h_ := HMQ.out; omega, fun e_ => by have h_ := HSL.out k_ e_.symm; omega⟩)); (case aF => exact (fun k_ hk_ => by have h_ := HM.out.lt; omega)); (case aO => exact Kd.S_mono HS.out (fun k_ hk_ => ⟨hk_.1, by have h_ := hk_.2; omega⟩)); (case aB => exact HB.out); (case aS => exact below_size HB.out); (case aL => have h_ := HXL.out; omega); intro v24 w24 ho hb hg hat; rw [← HY1.out] at ho; have HE3 := Q0.mk (Kd.R_over' HE.out (Kd.S_typed HS.out) (by decide) hg); have HP3 := Q0.mk (Kd.R_over' HP.out (Kd.S_typed HS.out) (by decide) hg); have HG3 := Q0.mk (bG HG.out hg (Kd.S_ne HS.out HG.out (by decide))); have HGp3 := Q0.mk (bG HGp.out hg (Kd.S_ne HS.out HGp.out (by decide))); have HM3 := Q0.mk (HM.out.grown hg (Kd.R_away (Kd.S_R HS.out) (fun k_ hk_ => hk_.1))); have HS3 := Q0.mk ho; have HB3 := Q0.mk hb; clear ho hb hg hat HE HP HG HGp HM HS HB z1_; obtain ⟨U3, e3, rfl⟩ := Kd.S_slice HS3.out; have z1_ : w24.cell? ⟨w6.heap.size, 1, none⟩ = some (.slice U1 X1.length e1) := (bcz HG3.out 1).trans rfl; have zf1_ := bf HG3.out 1))
      have HG4 := Q0.mk (bp (cs' := #[.int .i64 (c : Int), .slice U3 Y1.length e3, .slice U2 X2.length e2]) HG3.out 1 (.slice U3 Y1.length e3) rfl)
      have HS4 := Q0.mk (Kd.S_mono (ok' := fun k_ => k_ ≠ w14_.heap.size) (Kd.S_far (p := ⟨w6.heap.size, 1, none⟩) (Kd.S_types HS3.out HG3.out (by decide)) (fun _ hk => hk.2) (.slice U3 Y1.length e3)) (fun _ hk => hk.1))
      have HE4 := Q0.mk (Kd.R_set HE3.out HG3.out (by decide) 1 (.slice U3 Y1.length e3))
      have HP4 := Q0.mk (Kd.R_set HP3.out HG3.out (by decide) 1 (.slice U3 Y1.length e3))
      have HGp4 := Q0.mk (bF (p := ⟨w6.heap.size, 1, none⟩) HGp3.out (by have h_ := HGQ.out; dsimp only; omega) (.slice U3 Y1.length e3))
      have HM4 := Q0.mk (HM3.out.set (p := ⟨w6.heap.size, 1, none⟩) (by have h_ := HI.out; dsimp only; omega) (.slice U3 Y1.length e3))
      have HB4 := Q0.mk (HB3.out.setCell (p := ⟨w6.heap.size, 1, none⟩) (by have h_ := HI.out; dsimp only; omega) (.slice U3 Y1.length e3))
      clear HG3 HS3 HE3 HP3 HGp3 HM3 HB3 z1_ zf1_
      obtain ⟨hp1, hp2⟩ := HPO.out
      have hen1 := HA.out.ends
      have hen2 := HBA.out.ends
      obtain ⟨ad2, e_, hxa_⟩ := Kd.at_bool HR2.out (p1 : Int) (by omega) (by omega)
      cases e_
      obtain ⟨bd2, e_, hxb_⟩ := Kd.at_bool HR4.out (p2 : Int) (by omega) (by omega)
      cases e_
      rw [show rdOf false ac (p1 : Int) = xA by rw [HxA.out, rdb_nat]; rfl, Int.toNat_natCast] at hxa_
      rw [show rdOf false bc (p2 : Int) = xB by rw [HxB.out, rdb_nat]; rfl, Int.toNat_natCast] at hxb_
      have HXA := Q0.mk hxa_
      have HXB := Q0.mk hxb_
      clear hxa_ hxb_
      have z1_ : ((0 : Int) ≤ (p1 : Int)) = True := eq_true (by omega)
      have z2_ : ((p1 : Int) < (ac.length : Int)) = True := eq_true (by omega)
      have z3_ : ((0 : Int) ≤ (p2 : Int)) = True := eq_true (by omega)
      have z4_ : ((p2 : Int) < (bc.length : Int)) = True := eq_true (by omega)
      clear hp1 hp2 hen1 hen2
      generalize (w24.setCell ⟨w6.heap.size, 1, none⟩ (.slice U3 Y1.length e3)) = wk at HG4 HS4 HE4 HP4 HGp4 HM4 HB4 ⊢
      refine start_ (n := 20) (S := fun w' => Below wk.heap.size wk w') (ds := [17, 19]) #[false, false, false, false, false, false, false, false, false, false, false, false, false, false, false, false, false, false, false, false] (by kernel_rfl) rfl rfl (bD (Below.refl _ _)) (fun hHeld => ?_)
      refine with_tabW product_made.tab24 product_made.bits24 (fun HT_ HW_ => ?_)
      have HGd := Q0.mk (bdz HG4.out)
      have HSd := Q0.mk (Kd.S_drew HS4.out)
      have HEd := Q0.mk (Kd.R_drew HE4.out)
      have HPd := Q0.mk (Kd.R_drew HP4.out)
      have HMd : Q0 (PairMap wk.drew w14_.heap.size Mc.length Mc) := ⟨HM4.out⟩
      have HBd := Q0.mk (bD HB4.out)
      obtain ⟨wd, hwd⟩ : ∃ wd, wd = wk.drew := ⟨_, rfl⟩
      rw [← hwd] at HGd HSd HEd HPd HMd HBd hHeld ⊢
      clear hwd
      refine pure_ (i := 0) (N := some 114) (v := ?_) (a' := ?_) #[true, false, false, false, false, false, false, false, false, false, false, false, false, false, false, false, false, false, false, false] rfl rfl (any_of HT_.out (by kernel_rfl)) (fun _ _ _ h => h) (Or.inl ⟨by rfl, ?_⟩) ?_ ?_
      rotate_left
      ·intro w'
       go_simp
       with_reducible rfl
      rotate_left
      ·simp only [Act.put, sA, sB, sC, i64_w, i32_w]
       rfl
      refine pure_ (i := 2) (N := some 116) (v := ?_) (a' := ?_) #[true, false, true, false, false, false, false, false, false, false, false, false, false, false, false, false, false, false, false, false] rfl rfl (any_of HT_.out (by kernel_rfl)) (fun _ _ _ h => h) (Or.inl ⟨by rfl, ?_⟩) ?_ ?_
      rotate_left
      ·intro w'
       go_simp
       with_reducible rfl
      rotate_left
      ·simp only [Act.put, sA, sB, sC, i64_w, i32_w]
       rfl
      refine pure_ (i := 3) (N := some 117) (v := ?_) (a' := ?_) #[true, false, true, true, false, false, false, false, false, false, false, false, false, false, false, false, false, false, false, false] rfl rfl (any_of HT_.out (by kernel_rfl)) (fun _ _ _ h => h) (Or.inl ⟨by rfl, ?_⟩) ?_ ?_
      rotate_left
      ·intro w'
       go_simp
       with_reducible rfl
      rotate_left
      ·simp only [Act.put, sA, sB, sC, i64_w, i32_w]
       rfl
      refine pure_ (i := 5) (N := some 119) (v := ?_) (a' := ?_) #[true, false, true, true, false, true, false, false, false, false, false, false, false, false, false, false, false, false, false, false] rfl rfl (any_of HT_.out (by kernel_rfl)) (fun _ _ _ h => h) (Or.inl ⟨by rfl, ?_⟩) ?_ ?_
      rotate_left
      ·intro w'
       go_simp
       with_reducible rfl
      rotate_left
      ·simp only [Act.put, sA, sB, sC, i64_w, i32_w]
       rfl
      refine pure_ (i := 9) (N := some 123) (v := ?_) (a' := ?_) #[true, false, true, true, false, true, false, false, false, true, false, false, false, false, false, false, false, false, false, false] rfl rfl (any_of HT_.out (by kernel_rfl)) (fun _ _ _ h => h) (Or.inl ⟨by rfl, ?_⟩) ?_ ?_
      rotate_left
      ·intro w'
       go_simp
       with_reducible rfl
      rotate_left
      ·simp only [Act.put, sA, sB, sC, i64_w, i32_w]
       rfl
      refine pure_ (i := 11) (N := some 125) (v := ?_) (a' := ?_) #[true, false, true, true, false, true, false, false, false, true, false, true, false, false, false, false, false, false, false, false] rfl rfl (any_of HT_.out (by kernel_rfl)) (fun _ _ _ h => h) (Or.inl ⟨by rfl, ?_⟩) ?_ ?_
      rotate_left
      ·intro w'
       go_simp
       with_reducible rfl
      rotate_left
      ·simp only [Act.put, sA, sB, sC, i64_w, i32_w]
       rfl
      refine take_ (i := 1) (N := some 115) (v := ?_) (a' := ?_) #[true, true, true, true, false, true, false, false, false, true, false, true, false, false, false, false, false, false, false, false] rfl rfl (take_ofW HT_.out HW_.out (by kernel_rfl)) (fun _ _ _ h => h) (Or.inl ⟨by rfl, ?_⟩) hHeld ?_ ?_
      rotate_left
      ·intro w' s0
       have c_ : w'.cell? ⟨w6.heap.size, 2, none⟩ = some (.slice U2 X2.length e2) := (bcz (bb HG4.out s0) 2).trans rfl
       clear s0
       go_simp
       with_reducible rfl
      rotate_left
      ·simp only [Act.put, sA, sB, sC, i64_w, i32_w]
       rfl
      refine take_ (i := 4) (N := some 118) (v := ?_) (a' := ?_) #[true, true, true, true, true, true, false, false, false, true, false, true, false, false, false, false, false, false, false, false] rfl rfl (take_ofW HT_.out HW_.out (by kernel_rfl)) (fun _ _ _ h => h) (Or.inl ⟨by rfl, ?_⟩) hHeld ?_ ?_
      rotate_left
      ·intro w' s0
       have c_ : w'.cell? ⟨w.heap.size, 2, none⟩ = some (.slice (some ad2) ac.length c2) := (bcz (bb K6_.out (bsz (bsz (S10_.out) S15_.out) (bsz HB4.out s0))) 2).trans rfl
       clear s0
       go_simp
       with_reducible rfl
      rotate_left
      ·simp only [Act.put, sA, sB, sC, i64_w, i32_w]
       rfl
      refine take_ (i := 6) (N := some 120) (v := ?_) (a' := ?_) #[true, true, true, true, true, true, true, false, false, true, false, true, false, false, false, false, false, false, false, false] rfl rfl (take_ofW HT_.out HW_.out (by kernel_rfl)) (fun _ _ _ h => h) (Or.inl ⟨by rfl, ?_⟩) hHeld ?_ ?_
      rotate_left
      ·intro w' s0
       have c_ : w'.cell? ⟨wq.heap.size, 0, none⟩ = some (.int .i64 (p1 : Int)) := (bcz (bb HGp4.out s0) 0).trans rfl
       clear s0
       go_simp
       with_reducible rfl
      rotate_left
      ·simp only [Act.put, sA, sB, sC, i64_w, i32_w]
       rfl
      refine pure_ (i := 7) (N := some 121) (v := ?_) (a' := ?_) #[true, true, true, true, true, true, true, true, false, true, false, true, false, false, false, false, false, false, false, false] rfl rfl (any_of HT_.out (by kernel_rfl)) (fun _ _ _ h => h) (Or.inl ⟨by rfl, ?_⟩) ?_ ?_
      rotate_left
      ·intro w'
       go_simp
       with_reducible rfl
      rotate_left
      ·simp only [Act.put, sA, sB, sC, i64_w, i32_w]
       rfl
      refine take_ (i := 8) (N := some 122) (v := ?_) (a' := ?_) #[true, true, true, true, true, true, true, true, true, true, false, true, false, false, false, false, false, false, false, false] rfl rfl (take_ofW HT_.out HW_.out (by kernel_rfl)) (fun _ _ _ h => h) (Or.inl ⟨by rfl, ?_⟩) hHeld ?_ ?_
      rotate_left
      ·intro w' s0
       have c_ := (Below.cell (bsz (bsz (bsz (S5_.out) S10_.out) S15_.out) (bsz HB4.out s0)) (World.block_lt_of_cell? _ _ HXA.out)).trans HXA.out
       clear s0
       go_simp
       with_reducible rfl
      rotate_left
      ·simp only [Act.put, sA, sB, sC, i64_w, i32_w]
       rfl
      refine take_ (i := 10) (N := some 124) (v := ?_) (a' := ?_) #[true, true, true, true, true, true, true, true, true, true, true, true, false, false, false, false, false, false, false, false] rfl rfl (take_ofW HT_.out HW_.out (by kernel_rfl)) (fun _ _ _ h => h) (Or.inl ⟨by rfl, ?_⟩) hHeld ?_ ?_
      rotate_left
      ·intro w' s0
       have c_ : w'.cell? ⟨w.heap.size + 1, 2, none⟩ = some (.slice (some bd2) bc.length d2) := (bcz (bb K7_.out (bsz (bsz (S10_.out) S15_.out) (bsz HB4.out s0))) 2).trans rfl
       clear s0
       go_simp
       with_reducible rfl
      rotate_left
      ·simp only [Act.put, sA, sB, sC, i64_w, i32_w]
       rfl
      refine take_ (i := 12) (N := some 126) (v := ?_) (a' := ?_) #[true, true, true, true, true, true, true, true, true, true, true, true, true, false, false, false, false, false, false, false] rfl rfl (take_ofW HT_.out HW_.out (by kernel_rfl)) (fun _ _ _ h => h) (Or.inl ⟨by rfl, ?_⟩) hHeld ?_ ?_
      rotate_left
      ·intro w' s0
       have c_ : w'.cell? ⟨wq.heap.size, 1, none⟩ = some (.int .i64 (p2 : Int)) := (bcz (bb HGp4.out s0) 1).trans rfl
       clear s0
       go_simp
       with_reducible rfl
      rotate_left
      ·simp only [Act.put, sA, sB, sC, i64_w, i32_w]
       rfl
      refine pure_ (i := 13) (N := some 127) (v := ?_) (a' := ?_) #[true, true, true, true, true, true, true, true, true, true, true, true, true, true, false, false, false, false, false, false] rfl rfl (any_of HT_.out (by kernel_rfl)) (fun _ _ _ h => h) (Or.inl ⟨by rfl, ?_⟩) ?_ ?_
      rotate_left
      ·intro w'
       go_simp
       with_reducible rfl
      rotate_left
      ·simp only [Act.put, sA, sB, sC, i64_w, i32_w]
       rfl
      refine take_ (i := 14) (N := some 128) (v := ?_) (a' := ?_) #[true, true, true, true, true, true, true, true, true, true, true, true, true, true, true, false, false, false, false, false] rfl rfl (take_ofW HT_.out HW_.out (by kernel_rfl)) (fun _ _ _ h => h) (Or.inl ⟨by rfl, ?_⟩) hHeld ?_ ?_
      rotate_left
      ·intro w' s0
       have c_ := (Below.cell (bsz (bsz (bsz (S5_.out) S10_.out) S15_.out) (bsz HB4.out s0)) (World.block_lt_of_cell? _ _ HXB.out)).trans HXB.out
       clear s0
       go_simp
       with_reducible rfl
      rotate_left
      ·simp only [Act.put, sA, sB, sC, i64_w, i32_w]
       rfl
      refine one_ (i := 15) (N := some 129) #[true, true, true, true, true, true, true, true, true, true, true, true, true, true, true, true, false, false, false, false] rfl rfl (one_of HT_.out (by kernel_rfl)) (by decide) (fun K hK => ?_)
      refine goesV_ (f := fe) (fn := fn) ZF.out.1 ZF.out.2.1 ZF.out.2.2 #[.bool xA, .bool xB] (by rfl) rfl rfl (by rfl) (by simp only [List.map_toArray, List.map_cons, List.map_nil]; rfl) ?_
      with_reducible refine (ZE.out xA xB wd).mono ?_
      rintro e we ⟨rfl, hb_⟩
      refine ⟨_, rfl, ?_⟩
      have HE5 := Q0.mk (Kd.R_below HEd.out hb_)
      have HS5 := Q0.mk (Kd.S_below HSd.out hb_)
      have HP5 := Q0.mk (Kd.R_below HPd.out hb_)
      have HM5 := Q0.mk (HMd.out.below hb_)
      have HG5 := Q0.mk (bb HGd.out hb_)
      have HB5 := Q0.mk (bsz HBd.out hb_)
      clear HEd HSd HPd HMd HGd HBd
      refine hK.out _ _ (bsz hHeld hb_) (fun hHeld => ?_)
      clear hK K
      refine norm_ (a' := ?_) ?_ ?_
      rotate_left
      ·show Act.put _ (some 129) _ = _
       simp only [Act.put, sA, sB, sC, i64_w, i32_w]
       rfl
      refine one_ (i := 16) (N := some 130) #[true, true, true, true, true, true, true, true, true, true, true, true, true, true, true, true, true, false, false, false] rfl rfl (one_of HT_.out (by kernel_rfl)) (by decide) (fun K hK => ?_)
      refine value_ (w1 := ?_) (v := ?_) (by rfl) rfl ?_ ?_
      rotate_left 2
      ·go_simp
       constructor
       ·rfl
       ·rfl
      refine hK.out _ _ (ba hHeld _) (fun hHeld => ?_)
      clear hK K
      refine norm_ (a' := ?_) ?_ ?_
      rotate_left
      ·show Act.put _ (some 130) _ = _
       simp only [Act.put, sA, sB, sC, i64_w, i32_w]
       rfl
      refine last_ (i := 17) (N := some 131) #[true, true, true, true, true, true, true, true, true, true, true, true, true, true, true, true, true, true, false, false] rfl rfl (one_of HT_.out (by kernel_rfl)) (by decide) (fun K hK => ?_)
      refine Kd.R_append_step Kd.bool (w0 := w14_) w14_.heap.size (by rfl) (.tmp 115) (.tmp 130) 23 4 (.bool false) 1 rfl Try.underlying23 info4 rfl (by decide) (by omega) (.slice U2 X2.length e2) X2 (E xA xB) [.bool (E xA xB)] (fun k_ => k_ ≠ w14_.heap.size) (fun _ => False) rfl (by first | rfl | (rw [World.size_alloc]; rfl)) ?aP (fun _ hk => hk.elim) ?aF ?aO ?aB ?aS ?aL ?_
      (case aP => exact rfl)
      (case aB => exact HB5.out)
      (case aF => exact (fun k_ hk_ => by have h_ := HM5.out.lt; omega))
      (case aO => exact HE5.out)
      (case aS => exact below_size HB5.out)
      (case aL => have h_ := HXL.out; omega)
      intro v25 w25 ho hb hg hat
      rw [← HY2.out] at ho
      have HG6 := Q0.mk (bG HG5.out hg (Kd.R_ne HE5.out HG5.out (by decide)))
      have HS6 := Q0.mk (Kd.S_over' HS5.out (Kd.R_typed HE5.out) (by decide) hg)
      have HP6 := Q0.mk (Kd.R_over' HP5.out (Kd.R_typed HE5.out) (by decide) hg)
      have HM6 := Q0.mk (HM5.out.grown hg (Kd.R_away HE5.out (fun k_ hk_ => hk_)))
      have HE6 := Q0.mk ho
      have HB6 := Q0.mk hb
      clear ho hb hg hat HG5 HS5 HE5 HB5 HP5 HM5
      obtain ⟨U5, e5, rfl⟩ := Kd.R_slice HE6.out
      have z2_ : w25.cell? ⟨w6.heap.size, 2, none⟩ = some (.slice U2 X2.length e2) := (bcz HG6.out 2).trans rfl
      have zf2_ := bf HG6.out 2
      refine hK.out _ _ ?_
      clear hK K
      refine norm_ (a' := ?_) ?_ ?_
      rotate_left
      ·show Act.put _ (some 131) _ = _
       simp only [Act.put, sA, sB, sC, i64_w, i32_w]
       rfl
      refine pure_ (i := 18) (N := some 132) (v := ?_) (a' := ?_) #[true, true, true, true, true, true, true, true, true, true, true, true, true, true, true, true, true, true, true, false] rfl rfl (any_of HT_.out (by kernel_rfl)) (fun _ _ _ h => h) (Or.inl ⟨by rfl, ?_⟩) ?_ ?_
      rotate_left
      ·intro w'
       go_simp
       with_reducible rfl
      rotate_left
      ·simp only [Act.put, sA, sB, sC, i64_w, i32_w]
       rfl
      refine last_ (i := 19) (N := none) #[true, true, true, true, true, true, true, true, true, true, true, true, true, true, true, true, true, true, true, true] rfl rfl (one_of HT_.out (by kernel_rfl)) (by decide) (fun K hK => ?_)
      refine skip_ (w1 := ?_) (by rfl) rfl ?_ ?_
      rotate_left
      ·go_simp
       rfl
      refine hK.out _ _ ?_
      clear hK K
      refine done_ (done_of HT_.out (by kernel_rfl)) ?_
      go_wp2
      go_roundw
      case rel =>
       have hcur_ : Mc[i]? = some (p1, p2) := by rw [HMc.out]; exact growTo_get HPI.out c
       obtain ⟨kf', hk_⟩ := prodRun_step HK.out HPI.out (of_decide_eq_true (decide_eq_true hbg))
       rw [← HMc.out] at hk_
       refine ⟨i + 1, Mc, kf', _, _, by go_num, ⟨hk_⟩, ⟨HW.out.turn (List.getElem?_eq_some_iff.1 hcur_).1⟩, ⟨Kd.R_mono (Kd.R_set HP6.out HG6.out (by decide) 2 (.slice U5 Y2.length e5)) (fun _ hk => hk.1)⟩, ⟨HM6.out.set (by have h_ := HI.out; dsimp only; omega) _⟩, ⟨bp (cs' := #[.int .i64 (c : Int), .slice U3 Y1.length e3, .slice U5 Y2.length e5]) HG6.out 2 _ rfl⟩, ⟨?_⟩, ⟨?_⟩, ⟨HB6.out.setCell (p := ⟨w6.heap.size, 2, none⟩) (by have h_ := HI.out; dsimp only; omega) _⟩⟩
       ·rw [numP_turn hcur_, ← HX1.out, ← HN.out, ← HY1.out]
        exact Kd.S_mono (Kd.S_far (p := ⟨w6.heap.size, 2, none⟩) (Kd.S_types HS6.out HG6.out (by decide)) (fun _ hk => hk.2) _) (fun _ hk => hk.1)
       ·rw [endsP_turn _ hcur_, ← HX2.out, show prodEnd E ac bc (p1, p2) = E xA xB by rw [HxA.out, HxB.out], ← HY2.out]
        exact Kd.R_set HE6.out HG6.out (by decide) 2 _
      case measure => simp [intOf]; omega
   ·have q1b : decide ((i : Int) < (M.length : Int)) = true := decide_eq_true (by omega)
    have HMF := prodRun_over HK.out hbg
    have m1_ : ((M.length : Int) ≤ m) = False := eq_false (by omega)
    have m2_ : decide ((M.length : Int) ≤ m) = false := decide_eq_false (by omega)
    have m3_ : ((M.length : Int) > m) = True := eq_true (by omega)
    have m4_ : decide ((M.length : Int) > m) = true := decide_eq_true (by omega)
    have m5_ : (m < (M.length : Int)) = True := eq_true (by omega)
    have m6_ : decide (m < (M.length : Int)) = true := decide_eq_true (by omega)
    have hr_ := HRES.out
    rw [HMF] at hr_
    unfold prodRes at hr_
    rw [if_pos (by omega)] at hr_
    simp only [Prod.mk.injEq] at hr_
    obtain ⟨rfl, rfl, rfl, rfl⟩ := hr_
    clear HMF
    have hH_ := Q0.mk (bb K8_.out (bsz (bsz (S10_.out) S15_.out) (HB.out)))
    have z0_ : wq.cell? ⟨w.heap.size + 1 + 1, 0, none⟩ = some (.int .i64 0) := (bcz hH_.out 0).trans rfl
    have z1_ : wq.cell? ⟨w.heap.size + 1 + 1, 1, none⟩ = some (.slice none 0 0) := (bcz hH_.out 1).trans rfl
    have z2_ : wq.cell? ⟨w.heap.size + 1 + 1, 2, none⟩ = some (.slice none 0 0) := (bcz hH_.out 2).trans rfl
    have zf0_ := bf hH_.out 0
    have zf1_ := bf hH_.out 1
    have zf2_ := bf hH_.out 2
    go_wp2
    have hb0_ := bp (cs' := #[.int .i64 0, .slice none 0 0, .slice none 0 0]) hH_.out 0 (.int .i64 0) rfl
    have hb1_ := bp (cs' := #[.int .i64 0, .slice none 0 0, .slice none 0 0]) hb0_ 1 (.slice none 0 0) rfl
    have hb2_ := bp (cs' := #[.int .i64 0, .slice none 0 0, .slice none 0 0]) hb1_ 2 (.slice none 0 0) rfl
    refine bodyPost_ret (results_ct (by rfl) _ _ (w.heap.size + 1 + 1) 25 #[.int .i64 0, .slice none 0 0, .slice none 0 0] (0, 0) _ (by rfl) (by exact hb2_) Try.underlying25 (by rfl) (by kernel_rfl)) (by rfl) ?_
    exact ⟨_, _, rfl, Kd.S_nil _ _ _ _ _, Kd.R_nil _ _ _ _ _, Below.setCell (Below.setCell (Below.setCell (bsz (bsz (bsz (S5_.out) S10_.out) S15_.out) (HB.out)) (p := ⟨w.heap.size + 1 + 1, 0, none⟩) (by (try dsimp only); omega) (.int .i64 0)) (p := ⟨w.heap.size + 1 + 1, 1, none⟩) (by (try dsimp only); omega) (.slice none 0 0)) (p := ⟨w.heap.size + 1 + 1, 2, none⟩) (by (try dsimp only); omega) (.slice none 0 0)⟩
  ·have q1b : decide ((i : Int) < (M.length : Int)) = false := decide_eq_false (by omega)
   have q1c : (i < M.length) = False := eq_false (by omega)
   have hil : i = M.length := by have h_ := HW.out.at_; omega
   by_cases hbg : (M.length : Int) > m
   ·have HMF := prodRun_end HK.out (Nat.le_of_eq hil.symm)
    have m1_ : ((M.length : Int) ≤ m) = False := eq_false (by omega)
    have m2_ : decide ((M.length : Int) ≤ m) = false := decide_eq_false (by omega)
    have m3_ : ((M.length : Int) > m) = True := eq_true (by omega)
    have m4_ : decide ((M.length : Int) > m) = true := decide_eq_true (by omega)
    have m5_ : (m < (M.length : Int)) = True := eq_true (by omega)
    have m6_ : decide (m < (M.length : Int)) = true := decide_eq_true (by omega)
    have hr_ := HRES.out
    rw [HMF] at hr_
    unfold prodRes at hr_
    rw [if_pos (by omega)] at hr_
    simp only [Prod.mk.injEq] at hr_
    obtain ⟨rfl, rfl, rfl, rfl⟩ := hr_
    clear HMF
    have hH_ := Q0.mk (bb K8_.out (bsz (bsz (S10_.out) S15_.out) (HB.out)))
    have z0_ : wq.cell? ⟨w.heap.size + 1 + 1, 0, none⟩ = some (.int .i64 0) := (bcz hH_.out 0).trans rfl
    have z1_ : wq.cell? ⟨w.heap.size + 1 + 1, 1, none⟩ = some (.slice none 0 0) := (bcz hH_.out 1).trans rfl
    have z2_ : wq.cell? ⟨w.heap.size + 1 + 1, 2, none⟩ = some (.slice none 0 0) := (bcz hH_.out 2).trans rfl
    have zf0_ := bf hH_.out 0
    have zf1_ := bf hH_.out 1
    have zf2_ := bf hH_.out 2
    go_wp2
    have hb0_ := bp (cs' := #[.int .i64 0, .slice none 0 0, .slice none 0 0]) hH_.out 0 (.int .i64 0) rfl
    have hb1_ := bp (cs' := #[.int .i64 0, .slice none 0 0, .slice none 0 0]) hb0_ 1 (.slice none 0 0) rfl
    have hb2_ := bp (cs' := #[.int .i64 0, .slice none 0 0, .slice none 0 0]) hb1_ 2 (.slice none 0 0) rfl
    refine bodyPost_ret (results_ct (by rfl) _ _ (w.heap.size + 1 + 1) 25 #[.int .i64 0, .slice none 0 0, .slice none 0 0] (0, 0) _ (by rfl) (by exact hb2_) Try.underlying25 (by rfl) (by kernel_rfl)) (by rfl) ?_
    exact ⟨_, _, rfl, Kd.S_nil _ _ _ _ _, Kd.R_nil _ _ _ _ _, Below.setCell (Below.setCell (Below.setCell (bsz (bsz (bsz (S5_.out) S10_.out) S15_.out) (HB.out)) (p := ⟨w.heap.size + 1 + 1, 0, none⟩) (by (try dsimp only); omega) (.int .i64 0)) (p := ⟨w.heap.size + 1 + 1, 1, none⟩) (by (try dsimp only); omega) (.slice none 0 0)) (p := ⟨w.heap.size + 1 + 1, 2, none⟩) (by (try dsimp only); omega) (.slice none 0 0)⟩
   ·have HMF := prodRun_end HK.out (Nat.le_of_eq hil.symm)
    have m3_ : ((M.length : Int) > m) = False := eq_false (by omega)
    have m4_ : decide ((M.length : Int) > m) = false := decide_eq_false (by omega)
    have m5_ : (m < (M.length : Int)) = False := eq_false (by omega)
    have m6_ : decide (m < (M.length : Int)) = false := decide_eq_false (by omega)
    have hr_ := HRES.out
    rw [HMF] at hr_
    unfold prodRes at hr_
    rw [if_neg (by omega), Int.toNat_natCast] at hr_
    simp only [Prod.mk.injEq] at hr_
    obtain ⟨rfl, rfl, rfl, rfl⟩ := hr_
    clear HMF
    rw [hil, numP_all] at HS
    rw [hil, endsP_all] at HE
    obtain ⟨X1, hX1⟩ : ∃ X, X = numNext L (prodSt nx mx) M := ⟨_, rfl⟩
    obtain ⟨X2, hX2⟩ : ∃ X, X = M.map (prodEnd E ac bc) := ⟨_, rfl⟩
    rw [← hX1] at HS
    rw [← hX2] at HE
    have HX1 := Q0.mk hX1
    have HX2 := Q0.mk hX2
    clear hX1 hX2
    obtain ⟨U1, e1, rfl⟩ := Kd.S_slice HS.out
    obtain ⟨U2, e2, rfl⟩ := Kd.R_slice HE.out
    have hH_ := Q0.mk (bb K8_.out (bsz (bsz (S10_.out) S15_.out) (HB.out)))
    have z0_ : wq.cell? ⟨w.heap.size + 1 + 1, 0, none⟩ = some (.int .i64 0) := (bcz hH_.out 0).trans rfl
    have z1_ : wq.cell? ⟨w.heap.size + 1 + 1, 1, none⟩ = some (.slice none 0 0) := (bcz hH_.out 1).trans rfl
    have z2_ : wq.cell? ⟨w.heap.size + 1 + 1, 2, none⟩ = some (.slice none 0 0) := (bcz hH_.out 2).trans rfl
    have zf0_ := bf hH_.out 0
    have zf1_ := bf hH_.out 1
    have zf2_ := bf hH_.out 2
    have y0_ : wq.cell? ⟨w6.heap.size, 0, none⟩ = some (.int .i64 (L : Int)) := (bcz HG.out 0).trans rfl
    have y1_ : wq.cell? ⟨w6.heap.size, 1, none⟩ = some (.slice U1 X1.length e1) := (bcz HG.out 1).trans rfl
    have y2_ : wq.cell? ⟨w6.heap.size, 2, none⟩ = some (.slice U2 X2.length e2) := (bcz HG.out 2).trans rfl
    go_wp2
    have hb0_ := bp (cs' := #[.int .i64 (L : Int), .slice none 0 0, .slice none 0 0]) hH_.out 0 (.int .i64 (L : Int)) rfl
    have s0_ := Kd.S_mono (ok' := fun _ => True) (Kd.S_far (p := ⟨w.heap.size + 1 + 1, 0, none⟩) (Kd.S_types (HS.out) hH_.out (by decide)) (fun _ hk => hk.2) (.int .i64 (L : Int))) (fun _ _ => trivial)
    have r0_ := Kd.R_set (HE.out) hH_.out (by decide) 0 (.int .i64 (L : Int))
    have hb1_ := bp (cs' := #[.int .i64 (L : Int), .slice U1 X1.length e1, .slice none 0 0]) hb0_ 1 (.slice U1 X1.length e1) rfl
    have s1_ := Kd.S_mono (ok' := fun _ => True) (Kd.S_far (p := ⟨w.heap.size + 1 + 1, 1, none⟩) (Kd.S_types (s0_) hb0_ (by decide)) (fun _ hk => hk.2) (.slice U1 X1.length e1)) (fun _ _ => trivial)
    have r1_ := Kd.R_set (r0_) hb0_ (by decide) 1 (.slice U1 X1.length e1)
    have hb2_ := bp (cs' := #[.int .i64 (L : Int), .slice U1 X1.length e1, .slice U2 X2.length e2]) hb1_ 2 (.slice U2 X2.length e2) rfl
    have s2_ := Kd.S_mono (ok' := fun _ => True) (Kd.S_far (p := ⟨w.heap.size + 1 + 1, 2, none⟩) (Kd.S_types (s1_) hb1_ (by decide)) (fun _ hk => hk.2) (.slice U2 X2.length e2)) (fun _ _ => trivial)
    have r2_ := Kd.R_set (r1_) hb1_ (by decide) 2 (.slice U2 X2.length e2)
    refine bodyPost_ret (results_ct (by rfl) _ _ (w.heap.size + 1 + 1) 25 #[.int .i64 (L : Int), .slice U1 X1.length e1, .slice U2 X2.length e2] (0, 0) _ (by rfl) (by exact hb2_) Try.underlying25 (by rfl) (by kernel_rfl)) (by rfl) ?_
    rw [← HX1.out, ← HX2.out]
    exact ⟨_, _, rfl, Kd.S_lower s2_ (below_size (bsz (bsz (S5_.out) S10_.out) S15_.out)), Kd.R_mono (Kd.R_lower r2_ (below_size (bsz (bsz (S5_.out) S10_.out) S15_.out))) (fun _ _ => trivial), Below.setCell (Below.setCell (Below.setCell (bsz (bsz (bsz (S5_.out) S10_.out) S15_.out) (HB.out)) (p := ⟨w.heap.size + 1 + 1, 0, none⟩) (by (try dsimp only); omega) (.int .i64 (L : Int))) (p := ⟨w.heap.size + 1 + 1, 1, none⟩) (by (try dsimp only); omega) (.slice U1 X1.length e1)) (p := ⟨w.heap.size + 1 + 1, 2, none⟩) (by (try dsimp only); omega) (.slice U2 X2.length e2)⟩
theorem product_made.told (E : Bool → Bool → Bool) (fe : FuncId) (fn : Func) (hf : Try.prog.funcs[fe]? = some fn) (hname : (fn.name == "runtime.NumGoroutine") = false) (hbody : fn.body.isSome = true) (hE : ∀ (x y : Bool) (W : World), Calls Try.prog fe #[.bool x, .bool y] W fun e W' => e = .returned (.bool (E x y)) ∧ Below W.heap.size W W') (k : Nat) (a : Int) (A1 : Option Addr) (c1 : Nat) (nx : List (List Int)) (A2 : Option Addr) (c2 : Nat) (ac : List Bool) (b : Int) (B1 : Option Addr) (d1 : Nat) (mx : List (List Int)) (B2 : Option Addr) (d2 : Nat) (bc : List Bool) (most : Int) (r1 : Int) (r2 : List (List Int)) (r3 : List Bool) (r4 : Int) (w : World) (hr1 : Kd.C (Kd.slice 3 (Kd.int .i64)) w A1 nx.length nx) (hc1 : nx.length ≤ c1) (hr2 : Kd.C Kd.bool w A2 ac.length ac) (hc2 : ac.length ≤ c2) (hr3 : Kd.C (Kd.slice 3 (Kd.int .i64)) w B1 mx.length mx) (hc3 : mx.length ≤ d1) (hr4 : Kd.C Kd.bool w B2 bc.length bc) (hc4 : bc.length ≤ d2) (h : prodF E k a nx ac b mx bc most = some (r1, r2, r3, r4)) :
  Calls Try.prog 110 #[.agg #[.int .i64 a, .slice A1 nx.length c1, .slice A2 ac.length c2], .agg #[.int .i64 b, .slice B1 mx.length d1, .slice B2 bc.length d2], .int .i64 most, .func (.func fe) #[] #[]] w fun e w' => ∃ v1_ v2_ : Value, e = .returned (.tuple #[.agg #[.int .i64 r1, v1_, v2_], .int .i64 r4]) ∧ Kd.S (Kd.slice 3 (Kd.int .i64)) 45 w' w.heap.size (fun _ => True) v1_ r2 ∧ Kd.R Kd.bool 4 w' w.heap.size (fun _ => True) v2_ r3 ∧ Below w.heap.size w w' := by
 unfold prodF at h
 cases hg : goodB a nx ac with
 | false =>
  simp only [hg, Bool.false_eq_true, if_false, Option.some.injEq, Prod.mk.injEq] at h
  obtain ⟨rfl, rfl, rfl, rfl⟩ := h
  exact product_made.bad0 E fe fn a A1 c1 nx A2 c2 ac b B1 d1 mx B2 d2 bc most w hr1 hc1 hr2 hc2 hr3 hc3 hr4 hc4 hg
 | true =>
  cases hg2 : goodB b mx bc with
  | false =>
   simp only [hg, hg2, Bool.false_eq_true, if_false, if_true, Option.some.injEq, Prod.mk.injEq] at h
   obtain ⟨rfl, rfl, rfl, rfl⟩ := h
   exact product_made.bad1 E fe fn a A1 c1 nx A2 c2 ac b B1 d1 mx B2 d2 bc most w hr1 hc1 hr2 hc2 hr3 hc3 hr4 hc4 hg hg2
  | true =>
   by_cases hab : a = b
   ·simp only [hg, hg2, if_true, if_pos hab] at h
    obtain ⟨MF, hM, h⟩ := Option.bind_eq_some_iff.mp h
    exact product_made.main E fe fn a A1 c1 nx A2 c2 ac b B1 d1 mx B2 d2 bc most w hr1 hc1 hr2 hc2 hr3 hc3 hr4 hc4 hf hname hbody hE hg hg2 hab _ rfl k MF hM r1 r2 r3 r4 (Option.some.inj h)
   ·simp only [hg, hg2, if_true, if_neg hab, Option.some.injEq, Prod.mk.injEq] at h
    obtain ⟨rfl, rfl, rfl, rfl⟩ := h
    exact product_made.bad2 E fe fn a A1 c1 nx A2 c2 ac b B1 d1 mx B2 d2 bc most w hr1 hc1 hr2 hc2 hr3 hc3 hr4 hc4 hg hg2 hab

end Go.Proofs.Ytelkjbacdpmnfaa.A
