/- By a program, out of the translation (wip/myprint.py). -/
import Derived.Test.YtelkjbacdpmnfaaB0
import Derived.Test.YtelkjbacdpmnfaaBCaesuraref19Good
import Derived.Test.YtelkjbacdpmnfaaBPlainAut
import Derived.Test.YtelkjbacdpmnfaaBPlainBase
import Derived.Test.YtelkjbacdpmnfaaBPlainGood
import Derived.Test.YtelkjbacdpmnfaaBProdF
import Derived.Test.YtelkjbacdpmnfaaBRef24Words
import Derived.Test.YtelkjbacdpmnfaaBThompsonGood
import Derived.Test.YtelkjbacdpmnfaaBWordsA
import Derived.Test.YtelkjbacdpmnfaaBWordsB
namespace Go.Proofs.Ytelkjbacdpmnfaa.A
open Go.RowKit Go.W_.PrintWords Go.W_.PrintLast Go.W_.PrintMore
attribute [local go_sem] max2_int min2_int max_two min_two max_three min_three max_four min_four
set_option linter.unusedVariables false
set_option linter.unusedSimpArgs false

def ref24_Of.T19 : Bool × List (List Nat × List Nat) := (true, [([], []), ([0], [0]), ([], []), ([2], [2]), ([1, 3], [1, 3]), ([4], [4]), ([], []), ([5, 6], [5, 6]), ([7], [7]), ([], []), ([9], [9]), ([], []), ([11], [11]), ([10, 12], [10, 12]), ([13], [13]), ([], []), ([14, 15], [14, 15]), ([16], [16]), ([8, 17], [8, 17]), ([], []), ([19, 18, 0, 1, 2, 3, 4, 5, 6, 7, 8, 9, 10, 11, 12, 13, 14, 15, 16, 17, 18, 19], [18, 19])])
def ref24_Of.B19 : List Nat := [0, 1, 0, 4, 15, 31, 0, 127, 255, 0, 512, 0, 2048, 7680, 15872, 0, 65024, 130560, 262143, 0, 1048575]
theorem ref24_Of.tab19 : rtab .any (opsOf Try.f78 19) = ref24_Of.T19 := by kernel_rfl
theorem ref24_Of.bits19 : waitsOk ref24_Of.T19.2 ref24_Of.B19 = true := by kernel_rfl
def ref24_Of.T25 : Bool × List (List Nat × List Nat) := (true, [([], []), ([0], [0]), ([], []), ([2], [2]), ([1, 3], [1, 3]), ([4], [4]), ([], []), ([6], [6]), ([], []), ([8], [8]), ([7, 9], [7, 9]), ([10], [10]), ([5, 0, 1, 2, 3, 4, 5], [5]), ([11, 12, 0, 1, 2, 3, 4, 5, 6, 7, 8, 9, 10, 11, 12], [11])])
def ref24_Of.B25 : List Nat := [0, 1, 0, 4, 15, 31, 0, 64, 0, 256, 960, 1984, 63, 8191]
theorem ref24_Of.tab25 : rtab .any (opsOf Try.f78 25) = ref24_Of.T25 := by kernel_rfl
theorem ref24_Of.bits25 : waitsOk ref24_Of.T25.2 ref24_Of.B25 = true := by kernel_rfl
set_option maxHeartbeats 16000000 in
set_option maxRecDepth 100000 in
theorem ref24_Of.bad0 (kd : Int) (kg kh : Nat) (a : Int) (A1 : Option Addr) (c1 : Nat) (nx : List (List Int)) (A2 : Option Addr) (c2 : Nat) (ac : List Bool) (b : Int) (B1 : Option Addr) (d1 : Nat) (mx : List (List Int)) (B2 : Option Addr) (d2 : Nat) (bc : List Bool) (most : Int) (w : World) (hr1 : Kd.C (Kd.slice 3 (Kd.int .i64)) w A1 nx.length nx) (hc1 : nx.length ≤ c1) (hr2 : Kd.C Kd.bool w A2 ac.length ac) (hc2 : ac.length ≤ c2) (hr3 : Kd.C (Kd.slice 3 (Kd.int .i64)) w B1 mx.length mx) (hc3 : mx.length ≤ d1) (hr4 : Kd.C Kd.bool w B2 bc.length bc) (hc4 : bc.length ≤ d2) (hg : caesuraref19_Good.f kg a nx ac = some false) :
  Calls Try.prog 78 #[.int .i64 kd, .agg #[.int .i64 a, .slice A1 nx.length c1, .slice A2 ac.length c2], .agg #[.int .i64 b, .slice B1 mx.length d1, .slice B2 bc.length d2], .int .i64 most] w fun e w' => ∃ v1_ v2_ : Value, e = .returned (.tuple #[.agg #[.int .i64 0, v1_, v2_], .int .i64 1]) ∧ Kd.S (Kd.slice 3 (Kd.int .i64)) 45 w' w.heap.size (fun _ => True) v1_ ([] : List (List Int)) ∧ Kd.R Kd.bool 4 w' w.heap.size (fun _ => True) v2_ ([] : List Bool) ∧ Below w.heap.size w w' := by
 have hu25 := Try.underlying25
 have hu45 := Try.underlying45
 have hu22 := Try.underlying22
 have hu23 := Try.underlying23
 have hu60 := Try.underlying60
 have hu61 := Try.underlying61
 have HR1 := Q0.mk hr1
 clear hr1
 have HR2 := Q0.mk hr2
 clear hr2
 have HR3 := Q0.mk hr3
 clear hr3
 have HR4 := Q0.mk hr4
 clear hr4
 have ZA := Q0.mk hg
 clear hg
 obtain ⟨c1_, c2_, c3_⟩ := cells3 (show (((w.alloc (.cells #[.int .i64 a, .slice A1 nx.length c1, .slice A2 ac.length c2] 25)).alloc (.cells #[.int .i64 b, .slice B1 mx.length d1, .slice B2 bc.length d2] 25)).alloc (.cells #[.int .i64 0, .slice none 0 0, .slice none 0 0] 25)).heap[w.heap.size]? = some (.cells #[.int .i64 a, .slice A1 nx.length c1, .slice A2 ac.length c2] 25 (0, 0)) from bA (bA (new_at _ (by simp)) _) _)
 go_enter Try.func78, Try.ntmps78
 go_wp2_with (first | (go_at_call 37; have hF_ := ZA.out; clear ZA; (try clear c1_ c2_ c3_); refine calls_new (v := w) (F := fun W => W.heap[w.heap.size]? = some (.cells #[.int .i64 a, .slice A1 nx.length c1, .slice A2 ac.length c2] 25 (0, 0)) ∧ W.heap[w.heap.size + 1]? = some (.cells #[.int .i64 b, .slice B1 mx.length d1, .slice B2 bc.length d2] 25 (0, 0)) ∧ W.heap[w.heap.size + 1 + 1]? = some (.cells #[.int .i64 0, .slice none 0 0, .slice none 0 0] 25 (0, 0))) (ba (ba (ba (Below.refl _ _) (.cells #[.int .i64 a, .slice A1 nx.length c1, .slice A2 ac.length c2] 25)) (.cells #[.int .i64 b, .slice B1 mx.length d1, .slice B2 bc.length d2] 25)) (.cells #[.int .i64 0, .slice none 0 0, .slice none 0 0] 25)) (⟨bA (bA (new_at _ (by simp)) _) _, bA (new_at _ (by simp)) _, new_at _ (by simp)⟩) (fun w4_ b_ f_ => ?_); have S5_ := Q0.mk b_; have K6_ := Q0.mk f_.1; have K7_ := Q0.mk f_.2.1; have K8_ := Q0.mk f_.2.2; clear b_ f_; refine (caesuraref19_Good.calls kg  a A1 c1 nx A2 c2 ac  false _ (Kd.C_below (HR1.out) (S5_.out)) hc1 (Kd.C_below (HR2.out) (S5_.out)) hc2  hF_).mono ?_; clear hF_; rintro e w9_ ⟨rfl, hb_⟩; have S10_ := Q0.mk hb_; clear hb_; have f11_ := bf (bb K8_.out (S10_.out)) 0; have f12_ := bf (bb K8_.out (S10_.out)) 1; have f13_ := bf (bb K8_.out (S10_.out)) 2; obtain ⟨c14_, c15_, c16_⟩ := cells3 (bb K8_.out (S10_.out))))
 have hb0_ := bp (cs' := #[.int .i64 0, .slice none 0 0, .slice none 0 0]) (bb K8_.out (S10_.out)) 0 (.int .i64 0) rfl
 have hb1_ := bp (cs' := #[.int .i64 0, .slice none 0 0, .slice none 0 0]) hb0_ 1 (.slice none 0 0) rfl
 have hb2_ := bp (cs' := #[.int .i64 0, .slice none 0 0, .slice none 0 0]) hb1_ 2 (.slice none 0 0) rfl
 refine bodyPost_ret (results_ct (by rfl) _ _ (w.heap.size + 1 + 1) 25 #[.int .i64 0, .slice none 0 0, .slice none 0 0] (0, 0) _ (by rfl) (by exact hb2_) Try.underlying25 (by rfl) (by kernel_rfl)) (by rfl) ?_
 exact ⟨_, _, rfl, Kd.S_nil _ _ _ _ _, Kd.R_nil _ _ _ _ _, Below.setCell (Below.setCell (Below.setCell (bsz (S5_.out) S10_.out) (p := ⟨w.heap.size + 1 + 1, 0, none⟩) (by (try dsimp only); omega) (.int .i64 0)) (p := ⟨w.heap.size + 1 + 1, 1, none⟩) (by (try dsimp only); omega) (.slice none 0 0)) (p := ⟨w.heap.size + 1 + 1, 2, none⟩) (by (try dsimp only); omega) (.slice none 0 0)⟩
set_option maxHeartbeats 16000000 in
set_option maxRecDepth 100000 in
theorem ref24_Of.bad1 (kd : Int) (kg kh : Nat) (a : Int) (A1 : Option Addr) (c1 : Nat) (nx : List (List Int)) (A2 : Option Addr) (c2 : Nat) (ac : List Bool) (b : Int) (B1 : Option Addr) (d1 : Nat) (mx : List (List Int)) (B2 : Option Addr) (d2 : Nat) (bc : List Bool) (most : Int) (w : World) (hr1 : Kd.C (Kd.slice 3 (Kd.int .i64)) w A1 nx.length nx) (hc1 : nx.length ≤ c1) (hr2 : Kd.C Kd.bool w A2 ac.length ac) (hc2 : ac.length ≤ c2) (hr3 : Kd.C (Kd.slice 3 (Kd.int .i64)) w B1 mx.length mx) (hc3 : mx.length ≤ d1) (hr4 : Kd.C Kd.bool w B2 bc.length bc) (hc4 : bc.length ≤ d2) (hg : caesuraref19_Good.f kg a nx ac = some true) (hg2 : caesuraref19_Good.f kh b mx bc = some false) :
  Calls Try.prog 78 #[.int .i64 kd, .agg #[.int .i64 a, .slice A1 nx.length c1, .slice A2 ac.length c2], .agg #[.int .i64 b, .slice B1 mx.length d1, .slice B2 bc.length d2], .int .i64 most] w fun e w' => ∃ v1_ v2_ : Value, e = .returned (.tuple #[.agg #[.int .i64 0, v1_, v2_], .int .i64 1]) ∧ Kd.S (Kd.slice 3 (Kd.int .i64)) 45 w' w.heap.size (fun _ => True) v1_ ([] : List (List Int)) ∧ Kd.R Kd.bool 4 w' w.heap.size (fun _ => True) v2_ ([] : List Bool) ∧ Below w.heap.size w w' := by
 have hu25 := Try.underlying25
 have hu45 := Try.underlying45
 have hu22 := Try.underlying22
 have hu23 := Try.underlying23
 have hu60 := Try.underlying60
 have hu61 := Try.underlying61
 have HR1 := Q0.mk hr1
 clear hr1
 have HR2 := Q0.mk hr2
 clear hr2
 have HR3 := Q0.mk hr3
 clear hr3
 have HR4 := Q0.mk hr4
 clear hr4
 have ZA := Q0.mk hg
 clear hg
 have ZB := Q0.mk hg2
 clear hg2
 obtain ⟨c1_, c2_, c3_⟩ := cells3 (show (((w.alloc (.cells #[.int .i64 a, .slice A1 nx.length c1, .slice A2 ac.length c2] 25)).alloc (.cells #[.int .i64 b, .slice B1 mx.length d1, .slice B2 bc.length d2] 25)).alloc (.cells #[.int .i64 0, .slice none 0 0, .slice none 0 0] 25)).heap[w.heap.size]? = some (.cells #[.int .i64 a, .slice A1 nx.length c1, .slice A2 ac.length c2] 25 (0, 0)) from bA (bA (new_at _ (by simp)) _) _)
 go_enter Try.func78, Try.ntmps78
 go_wp2_with (first | (go_at_call 37; have hF_ := ZA.out; clear ZA; (try clear c1_ c2_ c3_); refine calls_new (v := w) (F := fun W => W.heap[w.heap.size]? = some (.cells #[.int .i64 a, .slice A1 nx.length c1, .slice A2 ac.length c2] 25 (0, 0)) ∧ W.heap[w.heap.size + 1]? = some (.cells #[.int .i64 b, .slice B1 mx.length d1, .slice B2 bc.length d2] 25 (0, 0)) ∧ W.heap[w.heap.size + 1 + 1]? = some (.cells #[.int .i64 0, .slice none 0 0, .slice none 0 0] 25 (0, 0))) (ba (ba (ba (Below.refl _ _) (.cells #[.int .i64 a, .slice A1 nx.length c1, .slice A2 ac.length c2] 25)) (.cells #[.int .i64 b, .slice B1 mx.length d1, .slice B2 bc.length d2] 25)) (.cells #[.int .i64 0, .slice none 0 0, .slice none 0 0] 25)) (⟨bA (bA (new_at _ (by simp)) _) _, bA (new_at _ (by simp)) _, new_at _ (by simp)⟩) (fun w4_ b_ f_ => ?_); have S5_ := Q0.mk b_; have K6_ := Q0.mk f_.1; have K7_ := Q0.mk f_.2.1; have K8_ := Q0.mk f_.2.2; clear b_ f_; refine (caesuraref19_Good.calls kg  a A1 c1 nx A2 c2 ac  true _ (Kd.C_below (HR1.out) (S5_.out)) hc1 (Kd.C_below (HR2.out) (S5_.out)) hc2  hF_).mono ?_; clear hF_; rintro e w9_ ⟨rfl, hb_⟩; have S10_ := Q0.mk hb_; clear hb_; obtain ⟨c11_, c12_, c13_⟩ := cells3 (bb K7_.out (S10_.out))) | (go_at_call 37; have hF_ := ZB.out; clear ZB; (try clear c11_ c12_ c13_); refine (caesuraref19_Good.calls kh  b B1 d1 mx B2 d2 bc  false _ (Kd.C_below (HR3.out) (bsz (S5_.out) S10_.out)) hc3 (Kd.C_below (HR4.out) (bsz (S5_.out) S10_.out)) hc4  hF_).mono ?_; clear hF_; rintro e w14_ ⟨rfl, hb_⟩; have S15_ := Q0.mk hb_; clear hb_; obtain ⟨c16_, _, _⟩ := cells3 (bb K6_.out (bsz (S10_.out) S15_.out)); obtain ⟨c17_, _, _⟩ := cells3 (bb K7_.out (bsz (S10_.out) S15_.out)); have f18_ := bf (bb K8_.out (bsz (S10_.out) S15_.out)) 0; have f19_ := bf (bb K8_.out (bsz (S10_.out) S15_.out)) 1; have f20_ := bf (bb K8_.out (bsz (S10_.out) S15_.out)) 2; obtain ⟨c21_, c22_, c23_⟩ := cells3 (bb K8_.out (bsz (S10_.out) S15_.out))))
 have hb0_ := bp (cs' := #[.int .i64 0, .slice none 0 0, .slice none 0 0]) (bb K8_.out (bsz (S10_.out) S15_.out)) 0 (.int .i64 0) rfl
 have hb1_ := bp (cs' := #[.int .i64 0, .slice none 0 0, .slice none 0 0]) hb0_ 1 (.slice none 0 0) rfl
 have hb2_ := bp (cs' := #[.int .i64 0, .slice none 0 0, .slice none 0 0]) hb1_ 2 (.slice none 0 0) rfl
 refine bodyPost_ret (results_ct (by rfl) _ _ (w.heap.size + 1 + 1) 25 #[.int .i64 0, .slice none 0 0, .slice none 0 0] (0, 0) _ (by rfl) (by exact hb2_) Try.underlying25 (by rfl) (by kernel_rfl)) (by rfl) ?_
 exact ⟨_, _, rfl, Kd.S_nil _ _ _ _ _, Kd.R_nil _ _ _ _ _, Below.setCell (Below.setCell (Below.setCell (bsz (bsz (S5_.out) S10_.out) S15_.out) (p := ⟨w.heap.size + 1 + 1, 0, none⟩) (by (try dsimp only); omega) (.int .i64 0)) (p := ⟨w.heap.size + 1 + 1, 1, none⟩) (by (try dsimp only); omega) (.slice none 0 0)) (p := ⟨w.heap.size + 1 + 1, 2, none⟩) (by (try dsimp only); omega) (.slice none 0 0)⟩
set_option maxHeartbeats 16000000 in
set_option maxRecDepth 100000 in
theorem ref24_Of.bad2 (kd : Int) (kg kh : Nat) (a : Int) (A1 : Option Addr) (c1 : Nat) (nx : List (List Int)) (A2 : Option Addr) (c2 : Nat) (ac : List Bool) (b : Int) (B1 : Option Addr) (d1 : Nat) (mx : List (List Int)) (B2 : Option Addr) (d2 : Nat) (bc : List Bool) (most : Int) (w : World) (hr1 : Kd.C (Kd.slice 3 (Kd.int .i64)) w A1 nx.length nx) (hc1 : nx.length ≤ c1) (hr2 : Kd.C Kd.bool w A2 ac.length ac) (hc2 : ac.length ≤ c2) (hr3 : Kd.C (Kd.slice 3 (Kd.int .i64)) w B1 mx.length mx) (hc3 : mx.length ≤ d1) (hr4 : Kd.C Kd.bool w B2 bc.length bc) (hc4 : bc.length ≤ d2) (hg : caesuraref19_Good.f kg a nx ac = some true) (hg2 : caesuraref19_Good.f kh b mx bc = some true) (hab : a ≠ b) :
  Calls Try.prog 78 #[.int .i64 kd, .agg #[.int .i64 a, .slice A1 nx.length c1, .slice A2 ac.length c2], .agg #[.int .i64 b, .slice B1 mx.length d1, .slice B2 bc.length d2], .int .i64 most] w fun e w' => ∃ v1_ v2_ : Value, e = .returned (.tuple #[.agg #[.int .i64 0, v1_, v2_], .int .i64 1]) ∧ Kd.S (Kd.slice 3 (Kd.int .i64)) 45 w' w.heap.size (fun _ => True) v1_ ([] : List (List Int)) ∧ Kd.R Kd.bool 4 w' w.heap.size (fun _ => True) v2_ ([] : List Bool) ∧ Below w.heap.size w w' := by
 have hu25 := Try.underlying25
 have hu45 := Try.underlying45
 have hu22 := Try.underlying22
 have hu23 := Try.underlying23
 have hu60 := Try.underlying60
 have hu61 := Try.underlying61
 have HR1 := Q0.mk hr1
 clear hr1
 have HR2 := Q0.mk hr2
 clear hr2
 have HR3 := Q0.mk hr3
 clear hr3
 have HR4 := Q0.mk hr4
 clear hr4
 have ZA := Q0.mk hg
 clear hg
 have ZB := Q0.mk hg2
 clear hg2
 have n0_ : (a != b) = true := by simpa using hab
 have n1_ : (a = b) = False := eq_false hab
 have n2_ : (a == b) = false := by simpa using hab
 obtain ⟨c1_, c2_, c3_⟩ := cells3 (show (((w.alloc (.cells #[.int .i64 a, .slice A1 nx.length c1, .slice A2 ac.length c2] 25)).alloc (.cells #[.int .i64 b, .slice B1 mx.length d1, .slice B2 bc.length d2] 25)).alloc (.cells #[.int .i64 0, .slice none 0 0, .slice none 0 0] 25)).heap[w.heap.size]? = some (.cells #[.int .i64 a, .slice A1 nx.length c1, .slice A2 ac.length c2] 25 (0, 0)) from bA (bA (new_at _ (by simp)) _) _)
 go_enter Try.func78, Try.ntmps78
 go_wp2_with (first | (go_at_call 37; have hF_ := ZA.out; clear ZA; (try clear c1_ c2_ c3_); refine calls_new (v := w) (F := fun W => W.heap[w.heap.size]? = some (.cells #[.int .i64 a, .slice A1 nx.length c1, .slice A2 ac.length c2] 25 (0, 0)) ∧ W.heap[w.heap.size + 1]? = some (.cells #[.int .i64 b, .slice B1 mx.length d1, .slice B2 bc.length d2] 25 (0, 0)) ∧ W.heap[w.heap.size + 1 + 1]? = some (.cells #[.int .i64 0, .slice none 0 0, .slice none 0 0] 25 (0, 0))) (ba (ba (ba (Below.refl _ _) (.cells #[.int .i64 a, .slice A1 nx.length c1, .slice A2 ac.length c2] 25)) (.cells #[.int .i64 b, .slice B1 mx.length d1, .slice B2 bc.length d2] 25)) (.cells #[.int .i64 0, .slice none 0 0, .slice none 0 0] 25)) (⟨bA (bA (new_at _ (by simp)) _) _, bA (new_at _ (by simp)) _, new_at _ (by simp)⟩) (fun w4_ b_ f_ => ?_); have S5_ := Q0.mk b_; have K6_ := Q0.mk f_.1; have K7_ := Q0.mk f_.2.1; have K8_ := Q0.mk f_.2.2; clear b_ f_; refine (caesuraref19_Good.calls kg  a A1 c1 nx A2 c2 ac  true _ (Kd.C_below (HR1.out) (S5_.out)) hc1 (Kd.C_below (HR2.out) (S5_.out)) hc2  hF_).mono ?_; clear hF_; rintro e w9_ ⟨rfl, hb_⟩; have S10_ := Q0.mk hb_; clear hb_; obtain ⟨c11_, c12_, c13_⟩ := cells3 (bb K7_.out (S10_.out))) | (go_at_call 37; have hF_ := ZB.out; clear ZB; (try clear c11_ c12_ c13_); refine (caesuraref19_Good.calls kh  b B1 d1 mx B2 d2 bc  true _ (Kd.C_below (HR3.out) (bsz (S5_.out) S10_.out)) hc3 (Kd.C_below (HR4.out) (bsz (S5_.out) S10_.out)) hc4  hF_).mono ?_; clear hF_; rintro e w14_ ⟨rfl, hb_⟩; have S15_ := Q0.mk hb_; clear hb_; obtain ⟨c16_, _, _⟩ := cells3 (bb K6_.out (bsz (S10_.out) S15_.out)); obtain ⟨c17_, _, _⟩ := cells3 (bb K7_.out (bsz (S10_.out) S15_.out)); have f18_ := bf (bb K8_.out (bsz (S10_.out) S15_.out)) 0; have f19_ := bf (bb K8_.out (bsz (S10_.out) S15_.out)) 1; have f20_ := bf (bb K8_.out (bsz (S10_.out) S15_.out)) 2; obtain ⟨c21_, c22_, c23_⟩ := cells3 (bb K8_.out (bsz (S10_.out) S15_.out))))
 have hb0_ := bp (cs' := #[.int .i64 0, .slice none 0 0, .slice none 0 0]) (bb K8_.out (bsz (S10_.out) S15_.out)) 0 (.int .i64 0) rfl
 have hb1_ := bp (cs' := #[.int .i64 0, .slice none 0 0, .slice none 0 0]) hb0_ 1 (.slice none 0 0) rfl
 have hb2_ := bp (cs' := #[.int .i64 0, .slice none 0 0, .slice none 0 0]) hb1_ 2 (.slice none 0 0) rfl
 refine bodyPost_ret (results_ct (by rfl) _ _ (w.heap.size + 1 + 1) 25 #[.int .i64 0, .slice none 0 0, .slice none 0 0] (0, 0) _ (by rfl) (by exact hb2_) Try.underlying25 (by rfl) (by kernel_rfl)) (by rfl) ?_
 exact ⟨_, _, rfl, Kd.S_nil _ _ _ _ _, Kd.R_nil _ _ _ _ _, Below.setCell (Below.setCell (Below.setCell (bsz (bsz (S5_.out) S10_.out) S15_.out) (p := ⟨w.heap.size + 1 + 1, 0, none⟩) (by (try dsimp only); omega) (.int .i64 0)) (p := ⟨w.heap.size + 1 + 1, 1, none⟩) (by (try dsimp only); omega) (.slice none 0 0)) (p := ⟨w.heap.size + 1 + 1, 2, none⟩) (by (try dsimp only); omega) (.slice none 0 0)⟩
set_option maxHeartbeats 16000000 in
set_option maxRecDepth 100000 in
theorem ref24_Of.main (E : Bool → Bool → Bool) (kd : Int) (kg kh : Nat) (a : Int) (A1 : Option Addr) (c1 : Nat) (nx : List (List Int)) (A2 : Option Addr) (c2 : Nat) (ac : List Bool) (b : Int) (B1 : Option Addr) (d1 : Nat) (mx : List (List Int)) (B2 : Option Addr) (d2 : Nat) (bc : List Bool) (most : Int) (w : World) (hr1 : Kd.C (Kd.slice 3 (Kd.int .i64)) w A1 nx.length nx) (hc1 : nx.length ≤ c1) (hr2 : Kd.C Kd.bool w A2 ac.length ac) (hc2 : ac.length ≤ c2) (hr3 : Kd.C (Kd.slice 3 (Kd.int .i64)) w B1 mx.length mx) (hc3 : mx.length ≤ d1) (hr4 : Kd.C Kd.bool w B2 bc.length bc) (hc4 : bc.length ≤ d2) (hkd : kd = 1 ∨ kd = 2 ∨ kd = 3) (hE : E = refE kd) (hg : goodB a nx ac = true) (hg2 : goodB b mx bc = true) (hG1 : caesuraref19_Good.f kg a nx ac = some true) (hG2 : caesuraref19_Good.f kh b mx bc = some true) (hab : a = b) (m : Int) (hm : m = prodMost most) (k : Nat) (MF : List (Nat × Nat)) (hrun : prodRun a.toNat (prodSt nx mx) m k [(0, 0)] 0 = some MF) (r1 : Int) (r2 : List (List Int)) (r3 : List Bool) (r4 : Int) (hres : prodRes E a nx ac mx bc m MF = (r1, r2, r3, r4)) :
  Calls Try.prog 78 #[.int .i64 kd, .agg #[.int .i64 a, .slice A1 nx.length c1, .slice A2 ac.length c2], .agg #[.int .i64 b, .slice B1 mx.length d1, .slice B2 bc.length d2], .int .i64 most] w fun e w' => ∃ v1_ v2_ : Value, e = .returned (.tuple #[.agg #[.int .i64 r1, v1_, v2_], .int .i64 r4]) ∧ Kd.S (Kd.slice 3 (Kd.int .i64)) 45 w' w.heap.size (fun _ => True) v1_ r2 ∧ Kd.R Kd.bool 4 w' w.heap.size (fun _ => True) v2_ r3 ∧ Below w.heap.size w w' := by
 have hu25 := Try.underlying25
 have hu45 := Try.underlying45
 have hu22 := Try.underlying22
 have hu23 := Try.underlying23
 have hu60 := Try.underlying60
 have hu61 := Try.underlying61
 have HR1 := Q0.mk hr1
 clear hr1
 have HR2 := Q0.mk hr2
 clear hr2
 have HR3 := Q0.mk hr3
 clear hr3
 have HR4 := Q0.mk hr4
 clear hr4
 have hA := Aut.of hg
 have hB := Aut.of hg2
 have ZA := Q0.mk hG1
 have ZB := Q0.mk hG2
 clear hg hg2 hG1 hG2
 have HA := Q0.mk hA
 have HBA := Q0.mk hB
 have HAB := Q0.mk hab
 have HRES := Q0.mk hres
 have HRUN := Q0.mk hrun
 have HM0 := Q0.mk hm
 have HKD := Q0.mk hkd
 have HE0 := Q0.mk hE
 clear hres hrun hm hA hB hE hkd
 have n0_ : (a != b) = false := by simpa using hab
 have n1_ : (a = b) = True := eq_true hab
 have n2_ : (a == b) = true := by simpa using hab
 clear hab
 have hif_ : (if (1000 : Int) < most then (1000 : Int) else most) = m := HM0.out.symm
 have hN1 := HA.out.n1
 have hN2 := HBA.out.n1
 have hN3 := HA.out.n2
 have hN4 := HBA.out.n2
 obtain ⟨NM, hNM⟩ : ∃ NM : Nat, NM = nx.length * mx.length := ⟨_, rfl⟩
 have hNMl : NM ≤ 1000000 := by
  have h2_ : nx.length * mx.length ≤ 1000 * 1000 := Nat.mul_le_mul hN3 hN4
  omega
 have hNMp : 0 < NM := by rw [hNM]; exact Nat.mul_pos (by omega) (by omega)
 have hz0_ : (0 : Int) ≤ (NM : Int) := by omega
 have hz8_ : NM * 8 ≤ 281474976710656 := by omega
 have hmul_ : wrap64 ((nx.length : Int) * (mx.length : Int)) = (NM : Int) := by rw [← Int.natCast_mul, ← hNM]; exact wself (by omega) (by omega)
 have ZN0 : Q0 (0 ≤ wrap64 ((nx.length : Int) * (mx.length : Int)) ∧ (wrap64 ((nx.length : Int) * (mx.length : Int))).toNat * 8 ≤ 281474976710656) := ⟨by rw [hmul_, Int.toNat_natCast]; exact ⟨hz0_, hz8_⟩⟩
 clear hz0_ hz8_
 have HNM := Q0.mk hNM
 have HNP := Q0.mk (And.intro hNMl hNMp)
 clear hNM
 obtain ⟨c1_, c2_, c3_⟩ := cells3 (show (((w.alloc (.cells #[.int .i64 a, .slice A1 nx.length c1, .slice A2 ac.length c2] 25)).alloc (.cells #[.int .i64 b, .slice B1 mx.length d1, .slice B2 bc.length d2] 25)).alloc (.cells #[.int .i64 0, .slice none 0 0, .slice none 0 0] 25)).heap[w.heap.size]? = some (.cells #[.int .i64 a, .slice A1 nx.length c1, .slice A2 ac.length c2] 25 (0, 0)) from bA (bA (new_at _ (by simp)) _) _)
 go_enter Try.func78, Try.ntmps78
 go_wp2_with (first | (go_at_call 37; have hF_ := ZA.out; clear ZA; (try clear c1_ c2_ c3_); refine calls_new (v := w) (F := fun W => W.heap[w.heap.size]? = some (.cells #[.int .i64 a, .slice A1 nx.length c1, .slice A2 ac.length c2] 25 (0, 0)) ∧ W.heap[w.heap.size + 1]? = some (.cells #[.int .i64 b, .slice B1 mx.length d1, .slice B2 bc.length d2] 25 (0, 0)) ∧ W.heap[w.heap.size + 1 + 1]? = some (.cells #[.int .i64 0, .slice none 0 0, .slice none 0 0] 25 (0, 0))) (ba (ba (ba (Below.refl _ _) (.cells #[.int .i64 a, .slice A1 nx.length c1, .slice A2 ac.length c2] 25)) (.cells #[.int .i64 b, .slice B1 mx.length d1, .slice B2 bc.length d2] 25)) (.cells #[.int .i64 0, .slice none 0 0, .slice none 0 0] 25)) (⟨bA (bA (new_at _ (by simp)) _) _, bA (new_at _ (by simp)) _, new_at _ (by simp)⟩) (fun w4_ b_ f_ => ?_); have S5_ := Q0.mk b_; have K6_ := Q0.mk f_.1; have K7_ := Q0.mk f_.2.1; have K8_ := Q0.mk f_.2.2; clear b_ f_; refine (caesuraref19_Good.calls kg  a A1 c1 nx A2 c2 ac  true _ (Kd.C_below (HR1.out) (S5_.out)) hc1 (Kd.C_below (HR2.out) (S5_.out)) hc2  hF_).mono ?_; clear hF_; rintro e w9_ ⟨rfl, hb_⟩; have S10_ := Q0.mk hb_; clear hb_; obtain ⟨c11_, c12_, c13_⟩ := cells3 (bb K7_.out (S10_.out))) | (go_at_call 37; have hF_ := ZB.out; clear ZB; (try clear c11_ c12_ c13_); refine (caesuraref19_Good.calls kh  b B1 d1 mx B2 d2 bc  true _ (Kd.C_below (HR3.out) (bsz (S5_.out) S10_.out)) hc3 (Kd.C_below (HR4.out) (bsz (S5_.out) S10_.out)) hc4  hF_).mono ?_; clear hF_; rintro e w14_ ⟨rfl, hb_⟩; have S15_ := Q0.mk hb_; clear hb_; obtain ⟨c16_, c17_, c18_⟩ := cells3 (bb K6_.out (bsz (S10_.out) S15_.out)); obtain ⟨c19_, c20_, c21_⟩ := cells3 (bb K7_.out (bsz (S10_.out) S15_.out))) | ((try clear c16_ c17_ c18_ c19_ c20_ c21_); (with_reducible refine gate_dst (N := 48) rfl ?_); refine Kd.R_make (Kd.int .i64) _ 3 rfl (N := 48) rfl 45 _ _ rfl (wrap64 ((nx.length : Int) * (mx.length : Int))) rfl rfl Try.underlying45 (.int .i64 0) 8 info3 rfl (by decide) (by omega) 0 (ok := fun _ => True) (okp := fun _ => False) rfl (fun _ hk => hk.elim) trivial ZN0.out.1 ZN0.out.2 (Below.refl _ _) (Nat.le_refl _) ?_; intro v11 w5 ho hb hg_ hnew_; clear hg_ hnew_; rw [hmul_, Int.toNat_natCast] at ho; clear hmul_; obtain ⟨ga, ca, rfl, hga, hgl, -⟩ := Kd.R_form ho (by simp; omega); rw [List.length_replicate] at ho ⊢; have HI5 := Q0.mk (And.intro hga hgl); have S5 := Q0.mk hb; have HAT0 := Q0.mk ho; clear ho hb hga hgl hNMl hNMp) | ((with_reducible refine gate_dst (N := 50) rfl ?_); refine Kd.R_lit k60 _ 60 ?hg (N := 50) ?hd (xs := castQ [(0, 0)]) (inner := [.int .i64 0, .int .i64 0]) (ok := fun _ => True) (okp := fun _ => True) ?hr ?hp (fun _ hk => hk) trivial (Below.refl _ _) (Nat.le_refl _) (by simp [castQ]) ?_; (case hd => rfl); (case hg => rfl); (case hr => first | (go_simp; done) | (go_simp; rfl)); (case hp => exact (Reps.c2 (show Kd.M k60 _ _ _ (⟨0, 0⟩ : S60) [.int .i64 0, .int .i64 0] from (k60_mkM _ _ _ (⟨0, 0⟩ : S60))) (Reps.none _ _))); intro v12 w6 ho hb hg_ hnew_; have HP0 := Q0.mk ho; have S6 := Q0.mk hb; replace HAT0 := Q0.mk (Kd.R_below HAT0.out hb); clear ho hb hg_ hnew_; obtain ⟨y0_, z0_⟩ := Kd.R_celln 0 HAT0.out (0 : Int) (by omega) (by have h_ := HNP.out; omega); rw [show ((0 : Int).toNat) = 0 from rfl] at y0_ z0_; have p0_ : ((0 : Int) < (NM : Int)) = True := eq_true (by have h_ := HNP.out; omega); have p9_ : (0 < NM) = True := eq_true HNP.out.2; have k0_ : (w6.setCell ⟨ga, 0, none⟩ (.int .i64 1)).cell? ⟨w.heap.size, 0, none⟩ = some (.int .i64 a) := (bcz (bF (p := ⟨ga, 0, none⟩) (bb K6_.out (bsz (bsz (bsz (S10_.out) S15_.out) S5.out) S6.out)) (by have h1_ := blk_lt (bb K6_.out (bsz (S10_.out) S15_.out)); have h2_ := HI5.out; dsimp only; omega) (.int .i64 1)) 0).trans rfl))
 have HBW : Q0 (Below w14_.heap.size w14_ (w6.setCell ⟨ga, 0, none⟩ (.int .i64 1))) := ⟨(bsz S5.out S6.out).setCell (p := ⟨ga, 0, none⟩) HI5.out.1 _⟩
 have HI : Q0 (ga < w6.heap.size) := ⟨Nat.lt_of_lt_of_le HI5.out.2 S6.out.size⟩
 have HAL := HA.out.a1
 have HAL2 := HA.out.a2
 obtain ⟨L, rfl⟩ : ∃ L : Nat, a = (L : Int) := ⟨a.toNat, by omega⟩
 have HRUN' := HRUN.out
 have HRES' := HRES.out
 rw [Int.toNat_natCast] at HRUN'
 have hLs : L ≤ 64 := by omega
 clear HAL HAL2 HRUN HRES
 have HRUN := Q0.mk HRUN'
 have HRES := Q0.mk HRES'
 clear HRUN' HRES'
 clear n0_ n1_ n2_ hif_ y0_ z0_ p0_ p9_ k0_ hN1 hN2 hN3 hN4
 go_loopw [12, 14] (fun v12 v14 wr => ∃ (i : Nat) (M : List (Nat × Nat)) (kf : Nat) (u1 u2 : Value), v14 = .int .i64 (i : Int) ∧ Q0 (prodRun L (prodSt nx mx) m kf M i = some MF) ∧ Q0 (Wbfs L (prodSt nx mx) (0, 0) (inP nx.length mx.length) M i 0) ∧ Q0 (i < M.length ∨ (M.length : Int) ≤ m) ∧ Q0 (Kd.R k60 60 wr w14_.heap.size (fun k_ => k_ ≠ ga) v12 (castQ M)) ∧ Q0 (AtBlk wr w14_.heap.size ga NM ca nx.length mx.length M) ∧ Q0 (wr.heap[w6.heap.size]? = some (.cells #[.int .i64 (L : Int), u1, u2] 25 (0, 0))) ∧ Q0 (Kd.S (Kd.slice 3 (Kd.int .i64)) 45 wr w14_.heap.size (fun k_ => k_ ≠ ga) u1 (numP L (prodSt nx mx) M i)) ∧ Q0 (Kd.R Kd.bool 4 wr w14_.heap.size (fun k_ => k_ ≠ ga) u2 (endsP (prodEnd E ac bc) M i)) ∧ Q0 (Below w14_.heap.size w14_ wr)) (fun _ v14 _ => 1000001 - (intOf v14).toNat)
 case atStart => exact ⟨0, [(0, 0)], k, _, _, rfl, HRUN, ⟨Wbfs.start ⟨by have h_ := HA.out.n1; omega, by have h_ := HBA.out.n1; omega⟩⟩, ⟨.inl (by simp)⟩, ⟨Kd.R_alloc (Kd.R_far (p := ⟨ga, 0, none⟩) (Kd.R_lower (Kd.R_mono (Kd.R_bound HP0.out) (ok' := fun k_ => k_ ≠ ga) (fun k_ hk_ => by have h_ := HI5.out; have h2_ := hk_.2.1; omega)) (below_size S5.out)) (fun k_ hk_ => hk_) _) _⟩, ⟨(AtBlk.start HAT0.out HNM.out (by have h_ := HA.out.n1; omega) (by have h_ := HBA.out.n1; omega)).below (ba (Below.refl _ _) _)⟩, ⟨by have h_ := bn (w6.setCell ⟨ga, 0, none⟩ (.int .i64 1)) (.cells #[.int .i64 (L : Int), .slice none 0 0, .slice none 0 0] 25); simpa using h_⟩, ⟨Kd.S_nil _ _ _ _ _⟩, ⟨Kd.R_nil _ _ _ _ _⟩, ⟨bsz HBW.out (ba (Below.refl _ _) _)⟩⟩
 case round =>
  clear HP0 HAT0 HBW HRUN
  obtain ⟨i, M, kf, u1, u2, rfl, HK, HW, HTI, HP, HM, HG, HS, HE, HB⟩ := hrel
  obtain ⟨wq, rfl⟩ : ∃ wq, wq = wr := ⟨wr, rfl⟩
  obtain ⟨Ap, cp, rfl⟩ := R_pairsE HP.out
  have hMl : M.length ≤ 1000000 := by
   have h1_ := HW.out.most (N := nx.length * mx.length) (fun _ => code_lt) (fun _ _ => code_inj)
   have h2_ : nx.length * mx.length ≤ 1000 * 1000 := Nat.mul_le_mul HA.out.n2 HBA.out.n2
   omega
  have HML := Q0.mk hMl
  by_cases hlt : i < M.length
  ·by_cases hbg : (M.length : Int) ≤ m
   ·obtain ⟨⟨p1, p2⟩, hp⟩ : ∃ p, M[i]? = some p := ⟨_, List.getElem?_eq_getElem hlt⟩
    have hpo : p1 < nx.length ∧ p2 < mx.length := HW.out.good _ (List.mem_of_getElem? hp)
    obtain ⟨ad11, e_, hx0_, hx1_⟩ := pairs_atE HP.out hp
    cases e_
    dsimp only at hx0_ hx1_
    have HPI := Q0.mk hp
    have HPO := Q0.mk hpo
    clear hp
    have q1b : decide ((i : Int) < (M.length : Int)) = true := decide_eq_true (by omega)
    have m3_ : ((M.length : Int) > m) = False := eq_false (by omega)
    have m4_ : decide ((M.length : Int) > m) = false := decide_eq_false (by omega)
    have m5_ : (m < (M.length : Int)) = False := eq_false (by omega)
    have m6_ : decide (m < (M.length : Int)) = false := decide_eq_false (by omega)
    have p1_ : (0 : Int) ≤ (i : Int) := by omega
    have q1_ : (i : Int) < (M.length : Int) := by omega
    replace p1_ := eq_true p1_
    replace q1_ := eq_true q1_
    go_wp2
    clear hx0_ hx1_ p1_ q1_ q1b m3_ m4_ m5_ m6_
    go_loopw [12, 16, 17] (fun v12 v16 v17 wr => ∃ (c : Nat) (Mc : List (Nat × Nat)) (N : List Int), c ≤ L ∧ v17 = .int .i64 (c : Int) ∧ Q0 (Mc = growTo (prodSt nx mx) (p1, p2) M c) ∧ Q0 (N = rowP (prodSt nx mx) Mc (p1, p2) c) ∧ Q0 (Wbfs L (prodSt nx mx) (0, 0) (inP nx.length mx.length) Mc i c) ∧ Q0 (Kd.R k60 60 wr w14_.heap.size (fun k_ => k_ ≠ ga ∧ k_ ≠ wq.heap.size) v12 (castQ Mc)) ∧ Q0 (AtBlk wr w14_.heap.size ga NM ca nx.length mx.length Mc) ∧ Q0 (wr.heap[w6.heap.size]? = some (.cells #[.int .i64 (L : Int), u1, u2] 25 (0, 0))) ∧ Q0 (Kd.S (Kd.slice 3 (Kd.int .i64)) 45 wr w14_.heap.size (fun k_ => k_ ≠ ga ∧ k_ < wq.heap.size) u1 (numP L (prodSt nx mx) Mc i)) ∧ Q0 (Kd.R Kd.bool 4 wr w14_.heap.size (fun k_ => k_ ≠ ga) u2 (endsP (prodEnd E ac bc) Mc i)) ∧ Q0 (wr.heap[wq.heap.size]? = some (.cells #[.int .i64 (p1 : Int), .int .i64 (p2 : Int)] 60 (0, 0))) ∧ Q0 (Kd.R (Kd.int .i64) 3 wr w14_.heap.size (fun k_ => wq.heap.size ≤ k_) v16 N) ∧ Q0 (Below w14_.heap.size w14_ wr)) (fun _ _ v17 _ => L - (intOf v17).toNat)
    case atStart => exact ⟨0, M, [], Nat.zero_le _, rfl, ⟨rfl⟩, ⟨rfl⟩, HW, ⟨Kd.R_alloc (Kd.R_elderB HP.out wq.heap.size (Nat.le_refl _)) _⟩, ⟨HM.out.below (ba (Below.refl _ _) _)⟩, ⟨bA HG.out _⟩, ⟨Kd.S_mono (Kd.S_below (Kd.S_bound HS.out) (ba (Below.refl _ _) _)) (fun k_ hk_ => ⟨hk_.1, hk_.2.2.1⟩)⟩, ⟨Kd.R_alloc HE.out _⟩, ⟨bn wq _⟩, ⟨Kd.R_nil _ _ _ _ _⟩, ⟨ba HB.out (.cells #[.int .i64 (p1 : Int), .int .i64 (p2 : Int)] 60)⟩⟩
    case round =>
     have HSL := Q0.mk (Kd.S_lt HS.out)
     have HMQ : Q0 (ga < wq.heap.size) := ⟨HM.out.lt⟩
     have HGQ : Q0 (w6.heap.size < wq.heap.size) := ⟨blk_lt HG.out⟩
     have HQS := Q0.mk HB.out.size
     clear HP HM HG HS HE HB HW
     obtain ⟨c, Mc, N, hc, rfl, HMc, HN, HW, HP, HM, HG, HS, HE, HGp, HNr, HB⟩ := hrel
     obtain ⟨Ap, cp, rfl⟩ := R_pairsE HP.out
     obtain ⟨An, cn, rfl⟩ := Kd.R_slice HNr.out
     have hNl : N.length = c := by rw [HN.out]; exact rowP_length _
     have HNL := Q0.mk hNl
     clear hNl
     have hMcl : Mc.length ≤ 1000000 := by
      have h1_ := HW.out.most (N := nx.length * mx.length) (fun _ => code_lt) (fun _ _ => code_inj)
      have h2_ : nx.length * mx.length ≤ 1000 * 1000 := Nat.mul_le_mul HA.out.n2 HBA.out.n2
      omega
     have HMCL := Q0.mk hMcl
     have k0_ : wr.cell? ⟨w.heap.size, 0, none⟩ = some (.int .i64 (L : Int)) := (bcz (bb K6_.out (bsz (bsz (S10_.out) S15_.out) (HB.out))) 0).trans rfl
     by_cases hcl : c < L
     ·have q1b : decide ((c : Int) < (L : Int)) = true := decide_eq_true (by omega)
      obtain ⟨hp1, hp2⟩ := HPO.out
      obtain ⟨ad1, Ar1, cr1, e_, hxr1_, -, hCr1_⟩ := at_L5 HR1.out (p1 : Int) (by omega) (by omega)
      cases e_
      rw [rd5_nat] at hxr1_ hCr1_
      rw [Int.toNat_natCast] at hxr1_
      have hl1_ := HA.out.len hp1
      have hs1_ := HA.out.st hp1 (c := c) (by rw [Int.toNat_natCast]; exact hcl)
      obtain ⟨adr, e_, hxe1_⟩ := Kd.at_int hCr1_ (c : Int) (by omega) (by omega)
      cases e_
      rw [rd_nat, hs1_, Int.toNat_natCast] at hxe1_
      obtain ⟨bd1, Ar2, cr2, e_, hxr2_, -, hCr2_⟩ := at_L5 HR3.out (p2 : Int) (by omega) (by omega)
      cases e_
      rw [rd5_nat] at hxr2_ hCr2_
      rw [Int.toNat_natCast] at hxr2_
      have hl2_ := HBA.out.len hp2
      have hs2_ := HBA.out.st hp2 (c := c) (by rw [← HAB.out, Int.toNat_natCast]; exact hcl)
      obtain ⟨bdr, e_, hxe2_⟩ := Kd.at_int hCr2_ (c : Int) (by omega) (by rw [← HAB.out, Int.toNat_natCast] at hl2_; omega)
      cases e_
      rw [rd_nat, hs2_, Int.toNat_natCast] at hxe2_
      rw [Int.toNat_natCast] at hl1_
      rw [← HAB.out, Int.toNat_natCast] at hl2_
      obtain ⟨q1, hq1⟩ : ∃ q, q = stL nx p1 c := ⟨_, rfl⟩
      obtain ⟨q2, hq2⟩ : ∃ q, q = stL mx p2 c := ⟨_, rfl⟩
      rw [← hq1] at hxe1_
      rw [← hq2] at hxe2_
      have hsh1 := HA.out.shuts p1 c hp1 (by rw [Int.toNat_natCast]; exact hcl)
      have hsh2 := HBA.out.shuts p2 c hp2 (by rw [← HAB.out, Int.toNat_natCast]; exact hcl)
      rw [← hq1] at hsh1
      rw [← hq2] at hsh2
      have HQ1 := Q0.mk hq1
      have HQ2 := Q0.mk hq2
      have HSH : Q0 (q1 < nx.length ∧ q2 < mx.length) := ⟨⟨hsh1, hsh2⟩⟩
      clear hq1 hq2 hsh1 hsh2 hs1_ hs2_ hCr1_ hCr2_
      obtain ⟨n1, hn1⟩ : ∃ n, n = (nx.getD p1 []).length := ⟨_, rfl⟩
      obtain ⟨n2, hn2⟩ : ∃ n, n = (mx.getD p2 []).length := ⟨_, rfl⟩
      rw [← hn1] at hxr1_ hl1_
      rw [← hn2] at hxr2_ hl2_
      clear hn1 hn2
      have HXR1 := Q0.mk hxr1_
      have HXR2 := Q0.mk hxr2_
      have HXE1 := Q0.mk hxe1_
      have HXE2 := Q0.mk hxe2_
      clear hxr1_ hxr2_ hxe1_ hxe2_
      have z1_ : ((0 : Int) ≤ (p1 : Int)) = True := eq_true (by omega)
      have z2_ : ((p1 : Int) < (nx.length : Int)) = True := eq_true (by omega)
      have z3_ : ((0 : Int) ≤ (p2 : Int)) = True := eq_true (by omega)
      have z4_ : ((p2 : Int) < (mx.length : Int)) = True := eq_true (by omega)
      have z5_ : ((0 : Int) ≤ (c : Int)) = True := eq_true (by omega)
      have z6_ : ((c : Int) < (n1 : Int)) = True := eq_true (by omega)
      have z7_ : ((c : Int) < (n2 : Int)) = True := eq_true (by omega)
      have HL12 := Q0.mk (And.intro hl1_ hl2_)
      clear hl1_ hl2_ hp1 hp2
      go_wp2
      clear k0_
      refine start_ (n := 21) (S := fun w' => Below wr.heap.size wr w') (ds := [20]) #[false, false, false, false, false, false, false, false, false, false, false, false, false, false, false, false, false, false, false, false, false] (by kernel_rfl) rfl rfl (bD (Below.refl _ _)) (fun hHeld => ?_)
      refine with_tabW ref24_Of.tab19 ref24_Of.bits19 (fun HT_ HW_ => ?_)
      have HPd := Q0.mk (Kd.R_drew HP.out)
      have HMd := Q0.mk HM.out.drew
      have HGd := Q0.mk (bdz HG.out)
      have HSd := Q0.mk (Kd.S_drew HS.out)
      have HEd := Q0.mk (Kd.R_drew HE.out)
      have HGpd := Q0.mk (bdz HGp.out)
      have HNd := Q0.mk (Kd.R_drew HNr.out)
      have HBd := Q0.mk (bD HB.out)
      obtain ⟨wd, hwd⟩ : ∃ wd, wd = wr.drew := ⟨_, rfl⟩
      rw [← hwd] at HPd HMd HGd HSd HEd HGpd HNd HBd hHeld ⊢
      clear hwd
      refine pure_ (i := 0) (N := some 77) (v := ?_) (a' := ?_) #[true, false, false, false, false, false, false, false, false, false, false, false, false, false, false, false, false, false, false, false, false] rfl rfl (any_of HT_.out (by kernel_rfl)) (fun _ _ _ h => h) (Or.inl ⟨by rfl, ?_⟩) ?_ ?_
      rotate_left
      ·intro w'
       go_simp
       with_reducible rfl
      rotate_left
      ·simp only [Act.put, sA, sB, sC, i64_w, i32_w]
       rfl
      refine pure_ (i := 2) (N := some 79) (v := ?_) (a' := ?_) #[true, false, true, false, false, false, false, false, false, false, false, false, false, false, false, false, false, false, false, false, false] rfl rfl (any_of HT_.out (by kernel_rfl)) (fun _ _ _ h => h) (Or.inl ⟨by rfl, ?_⟩) ?_ ?_
      rotate_left
      ·intro w'
       go_simp
       with_reducible rfl
      rotate_left
      ·simp only [Act.put, sA, sB, sC, i64_w, i32_w]
       rfl
      refine pure_ (i := 6) (N := some 83) (v := ?_) (a' := ?_) #[true, false, true, false, false, false, true, false, false, false, false, false, false, false, false, false, false, false, false, false, false] rfl rfl (any_of HT_.out (by kernel_rfl)) (fun _ _ _ h => h) (Or.inl ⟨by rfl, ?_⟩) ?_ ?_
      rotate_left
      ·intro w'
       go_simp
       with_reducible rfl
      rotate_left
      ·simp only [Act.put, sA, sB, sC, i64_w, i32_w]
       rfl
      refine pure_ (i := 9) (N := some 86) (v := ?_) (a' := ?_) #[true, false, true, false, false, false, true, false, false, true, false, false, false, false, false, false, false, false, false, false, false] rfl rfl (any_of HT_.out (by kernel_rfl)) (fun _ _ _ h => h) (Or.inl ⟨by rfl, ?_⟩) ?_ ?_
      rotate_left
      ·intro w'
       go_simp
       with_reducible rfl
      rotate_left
      ·simp only [Act.put, sA, sB, sC, i64_w, i32_w]
       rfl
      refine pure_ (i := 11) (N := some 88) (v := ?_) (a' := ?_) #[true, false, true, false, false, false, true, false, false, true, false, true, false, false, false, false, false, false, false, false, false] rfl rfl (any_of HT_.out (by kernel_rfl)) (fun _ _ _ h => h) (Or.inl ⟨by rfl, ?_⟩) ?_ ?_
      rotate_left
      ·intro w'
       go_simp
       with_reducible rfl
      rotate_left
      ·simp only [Act.put, sA, sB, sC, i64_w, i32_w]
       rfl
      refine pure_ (i := 15) (N := some 92) (v := ?_) (a' := ?_) #[true, false, true, false, false, false, true, false, false, true, false, true, false, false, false, true, false, false, false, false, false] rfl rfl (any_of HT_.out (by kernel_rfl)) (fun _ _ _ h => h) (Or.inl ⟨by rfl, ?_⟩) ?_ ?_
      rotate_left
      ·intro w'
       go_simp
       with_reducible rfl
      rotate_left
      ·simp only [Act.put, sA, sB, sC, i64_w, i32_w]
       rfl
      refine take_ (i := 1) (N := some 78) (v := ?_) (a' := ?_) #[true, true, true, false, false, false, true, false, false, true, false, true, false, false, false, true, false, false, false, false, false] rfl rfl (take_ofW HT_.out HW_.out (by kernel_rfl)) (fun _ _ _ h => h) (Or.inl ⟨by rfl, ?_⟩) hHeld ?_ ?_
      rotate_left
      ·intro w' s0
       have c_ : w'.cell? ⟨w.heap.size, 1, none⟩ = some (.slice (some ad1) nx.length c1) := (bcz (bb K6_.out (bsz (bsz (S10_.out) S15_.out) (bsz HB.out s0))) 1).trans rfl
       clear s0
       go_simp
       with_reducible rfl
      rotate_left
      ·simp only [Act.put, sA, sB, sC, i64_w, i32_w]
       rfl
      refine take_ (i := 3) (N := some 80) (v := ?_) (a' := ?_) #[true, true, true, true, false, false, true, false, false, true, false, true, false, false, false, true, false, false, false, false, false] rfl rfl (take_ofW HT_.out HW_.out (by kernel_rfl)) (fun _ _ _ h => h) (Or.inl ⟨by rfl, ?_⟩) hHeld ?_ ?_
      rotate_left
      ·intro w' s0
       have c_ : w'.cell? ⟨wq.heap.size, 0, none⟩ = some (.int .i64 (p1 : Int)) := (bcz (bb HGp.out s0) 0).trans rfl
       clear s0
       go_simp
       with_reducible rfl
      rotate_left
      ·simp only [Act.put, sA, sB, sC, i64_w, i32_w]
       rfl
      refine pure_ (i := 4) (N := some 81) (v := ?_) (a' := ?_) #[true, true, true, true, true, false, true, false, false, true, false, true, false, false, false, true, false, false, false, false, false] rfl rfl (any_of HT_.out (by kernel_rfl)) (fun _ _ _ h => h) (Or.inl ⟨by rfl, ?_⟩) ?_ ?_
      rotate_left
      ·intro w'
       go_simp
       with_reducible rfl
      rotate_left
      ·simp only [Act.put, sA, sB, sC, i64_w, i32_w]
       rfl
      refine take_ (i := 5) (N := some 82) (v := ?_) (a' := ?_) #[true, true, true, true, true, true, true, false, false, true, false, true, false, false, false, true, false, false, false, false, false] rfl rfl (take_ofW HT_.out HW_.out (by kernel_rfl)) (fun _ _ _ h => h) (Or.inl ⟨by rfl, ?_⟩) hHeld ?_ ?_
      rotate_left
      ·intro w' s0
       have c_ := (Below.cell (bsz (bsz (bsz (S5_.out) S10_.out) S15_.out) (bsz HB.out s0)) (World.block_lt_of_cell? _ _ HXR1.out)).trans HXR1.out
       clear s0
       go_simp
       with_reducible rfl
      rotate_left
      ·simp only [Act.put, sA, sB, sC, i64_w, i32_w]
       rfl
      refine pure_ (i := 7) (N := some 84) (v := ?_) (a' := ?_) #[true, true, true, true, true, true, true, true, false, true, false, true, false, false, false, true, false, false, false, false, false] rfl rfl (any_of HT_.out (by kernel_rfl)) (fun _ _ _ h => h) (Or.inl ⟨by rfl, ?_⟩) ?_ ?_
      rotate_left
      ·intro w'
       go_simp
       with_reducible rfl
      rotate_left
      ·simp only [Act.put, sA, sB, sC, i64_w, i32_w]
       rfl
      refine take_ (i := 8) (N := some 85) (v := ?_) (a' := ?_) #[true, true, true, true, true, true, true, true, true, true, false, true, false, false, false, true, false, false, false, false, false] rfl rfl (take_ofW HT_.out HW_.out (by kernel_rfl)) (fun _ _ _ h => h) (Or.inl ⟨by rfl, ?_⟩) hHeld ?_ ?_
      rotate_left
      ·intro w' s0
       have c_ := (Below.cell (bsz (bsz (bsz (S5_.out) S10_.out) S15_.out) (bsz HB.out s0)) (World.block_lt_of_cell? _ _ HXE1.out)).trans HXE1.out
       clear s0
       go_simp
       with_reducible rfl
      rotate_left
      ·simp only [Act.put, sA, sB, sC, i64_w, i32_w]
       rfl
      refine take_ (i := 10) (N := some 87) (v := ?_) (a' := ?_) #[true, true, true, true, true, true, true, true, true, true, true, true, false, false, false, true, false, false, false, false, false] rfl rfl (take_ofW HT_.out HW_.out (by kernel_rfl)) (fun _ _ _ h => h) (Or.inl ⟨by rfl, ?_⟩) hHeld ?_ ?_
      rotate_left
      ·intro w' s0
       have c_ : w'.cell? ⟨w.heap.size + 1, 1, none⟩ = some (.slice (some bd1) mx.length d1) := (bcz (bb K7_.out (bsz (bsz (S10_.out) S15_.out) (bsz HB.out s0))) 1).trans rfl
       clear s0
       go_simp
       with_reducible rfl
      rotate_left
      ·simp only [Act.put, sA, sB, sC, i64_w, i32_w]
       rfl
      refine take_ (i := 12) (N := some 89) (v := ?_) (a' := ?_) #[true, true, true, true, true, true, true, true, true, true, true, true, true, false, false, true, false, false, false, false, false] rfl rfl (take_ofW HT_.out HW_.out (by kernel_rfl)) (fun _ _ _ h => h) (Or.inl ⟨by rfl, ?_⟩) hHeld ?_ ?_
      rotate_left
      ·intro w' s0
       have c_ : w'.cell? ⟨wq.heap.size, 1, none⟩ = some (.int .i64 (p2 : Int)) := (bcz (bb HGp.out s0) 1).trans rfl
       clear s0
       go_simp
       with_reducible rfl
      rotate_left
      ·simp only [Act.put, sA, sB, sC, i64_w, i32_w]
       rfl
      refine pure_ (i := 13) (N := some 90) (v := ?_) (a' := ?_) #[true, true, true, true, true, true, true, true, true, true, true, true, true, true, false, true, false, false, false, false, false] rfl rfl (any_of HT_.out (by kernel_rfl)) (fun _ _ _ h => h) (Or.inl ⟨by rfl, ?_⟩) ?_ ?_
      rotate_left
      ·intro w'
       go_simp
       with_reducible rfl
      rotate_left
      ·simp only [Act.put, sA, sB, sC, i64_w, i32_w]
       rfl
      refine take_ (i := 14) (N := some 91) (v := ?_) (a' := ?_) #[true, true, true, true, true, true, true, true, true, true, true, true, true, true, true, true, false, false, false, false, false] rfl rfl (take_ofW HT_.out HW_.out (by kernel_rfl)) (fun _ _ _ h => h) (Or.inl ⟨by rfl, ?_⟩) hHeld ?_ ?_
      rotate_left
      ·intro w' s0
       have c_ := (Below.cell (bsz (bsz (bsz (S5_.out) S10_.out) S15_.out) (bsz HB.out s0)) (World.block_lt_of_cell? _ _ HXR2.out)).trans HXR2.out
       clear s0
       go_simp
       with_reducible rfl
      rotate_left
      ·simp only [Act.put, sA, sB, sC, i64_w, i32_w]
       rfl
      refine pure_ (i := 16) (N := some 93) (v := ?_) (a' := ?_) #[true, true, true, true, true, true, true, true, true, true, true, true, true, true, true, true, true, false, false, false, false] rfl rfl (any_of HT_.out (by kernel_rfl)) (fun _ _ _ h => h) (Or.inl ⟨by rfl, ?_⟩) ?_ ?_
      rotate_left
      ·intro w'
       go_simp
       with_reducible rfl
      rotate_left
      ·simp only [Act.put, sA, sB, sC, i64_w, i32_w]
       rfl
      refine take_ (i := 17) (N := some 94) (v := ?_) (a' := ?_) #[true, true, true, true, true, true, true, true, true, true, true, true, true, true, true, true, true, true, false, false, false] rfl rfl (take_ofW HT_.out HW_.out (by kernel_rfl)) (fun _ _ _ h => h) (Or.inl ⟨by rfl, ?_⟩) hHeld ?_ ?_
      rotate_left
      ·intro w' s0
       have c_ := (Below.cell (bsz (bsz (bsz (S5_.out) S10_.out) S15_.out) (bsz HB.out s0)) (World.block_lt_of_cell? _ _ HXE2.out)).trans HXE2.out
       clear s0
       go_simp
       with_reducible rfl
      rotate_left
      ·simp only [Act.put, sA, sB, sC, i64_w, i32_w]
       rfl
      refine pure_ (i := 18) (N := some 95) (v := ?_) (a' := ?_) #[true, true, true, true, true, true, true, true, true, true, true, true, true, true, true, true, true, true, true, false, false] rfl rfl (any_of HT_.out (by kernel_rfl)) (fun _ _ _ h => h) (Or.inl ⟨by rfl, ?_⟩) ?_ ?_
      rotate_left
      ·intro w'
       go_simp
       with_reducible rfl
      rotate_left
      ·simp only [Act.put, sA, sB, sC, i64_w, i32_w]
       rfl
      refine one_ (i := 19) (N := some 18) #[true, true, true, true, true, true, true, true, true, true, true, true, true, true, true, true, true, true, true, true, false] rfl rfl (one_of HT_.out (by kernel_rfl)) (by decide) (fun K hK => ?_)
      refine value_ (w1 := ?_) (v := ?_) (by rfl) rfl ?_ ?_
      rotate_left 2
      ·go_simp
       constructor
       ·rfl
       ·rfl
      refine hK.out _ _ (ba hHeld (.cells #[.int .i64 0, .int .i64 0] 60)) (fun hHeld => ?_)
      clear hK K
      refine norm_ (a' := ?_) ?_ ?_
      rotate_left
      ·show Act.put _ (some 18) _ = _
       simp only [Act.put, sA, sB, sC, i64_w, i32_w]
       rfl
      refine last_ (i := 20) (N := none) #[true, true, true, true, true, true, true, true, true, true, true, true, true, true, true, true, true, true, true, true, true] rfl rfl (one_of HT_.out (by kernel_rfl)) (by decide) (fun K hK => ?_)
      have hb_ := bn wd (.cells #[.int .i64 0, .int .i64 0] 60)
      have hc0_ : (wd.alloc (.cells #[.int .i64 0, .int .i64 0] 60)).cell? ⟨wd.heap.size, 0, none⟩ = some (.int .i64 0) := (bcz hb_ 0).trans rfl
      have hc1_ : (wd.alloc (.cells #[.int .i64 0, .int .i64 0] 60)).cell? ⟨wd.heap.size, 1, none⟩ = some (.int .i64 0) := (bcz hb_ 1).trans rfl
      clear hb_ hHeld
      refine skip_ (w1 := ?_) (by rfl) rfl ?_ ?_
      rotate_left
      ·go_simp
       rfl
      refine hK.out _ _ ?_
      clear hK K
      refine done_ (done_of HT_.out (by kernel_rfl)) ?_
      have HPa := Q0.mk (Kd.R_alloc HPd.out (.cells #[.int .i64 (q1 : Int), .int .i64 (q2 : Int)] 60))
      have HMa := Q0.mk (HMd.out.below (ba (Below.refl _ _) (.cells #[.int .i64 (q1 : Int), .int .i64 (q2 : Int)] 60)))
      have HGa := Q0.mk (bA HGd.out (.cells #[.int .i64 (q1 : Int), .int .i64 (q2 : Int)] 60))
      have HSa := Q0.mk (Kd.S_alloc HSd.out (.cells #[.int .i64 (q1 : Int), .int .i64 (q2 : Int)] 60))
      have HEa := Q0.mk (Kd.R_alloc HEd.out (.cells #[.int .i64 (q1 : Int), .int .i64 (q2 : Int)] 60))
      have HGpa := Q0.mk (bA HGpd.out (.cells #[.int .i64 (q1 : Int), .int .i64 (q2 : Int)] 60))
      have HNa := Q0.mk (Kd.R_alloc HNd.out (.cells #[.int .i64 (q1 : Int), .int .i64 (q2 : Int)] 60))
      have HBa := Q0.mk (ba HBd.out (.cells #[.int .i64 (q1 : Int), .int .i64 (q2 : Int)] 60))
      have HQb := Q0.mk (bn wd (.cells #[.int .i64 (q1 : Int), .int .i64 (q2 : Int)] 60))
      have HMD : Q0 (ga < wd.heap.size ∧ wq.heap.size < wd.heap.size) := ⟨⟨HMd.out.lt, blk_lt HGpd.out⟩⟩
      clear HP HM HG HS HE HGp HNr HPd HMd HGd HSd HEd HGpd HNd hHeld HXR1 HXR2 HXE1 HXE2 z1_ z2_ z3_ z4_ z5_ z6_ z7_
      have x0_ : (wd.alloc (.cells #[.int .i64 (q1 : Int), .int .i64 (q2 : Int)] 60)).cell? ⟨wd.heap.size, 0, none⟩ = some (.int .i64 (q1 : Int)) := (bcz HQb.out 0).trans rfl
      have x1_ : (wd.alloc (.cells #[.int .i64 (q1 : Int), .int .i64 (q2 : Int)] 60)).cell? ⟨wd.heap.size, 1, none⟩ = some (.int .i64 (q2 : Int)) := (bcz HQb.out 1).trans rfl
      have hst : prodSt nx mx (p1, p2) c = (q1, q2) := by show (stL nx p1 c, stL mx p2 c) = _; rw [HQ1.out, HQ2.out]
      have HST := Q0.mk hst
      clear hst
      obtain ⟨K, hK⟩ : ∃ K : Nat, K = q1 * mx.length + q2 := ⟨_, rfl⟩
      have hKl : K < NM := by rw [hK, HNM.out]; exact code_lt (p := (q1, q2)) HSH.out
      have hQ1l : q1 ≤ 1000 ∧ mx.length ≤ 1000 ∧ q2 ≤ 1000 := by have h_ := HSH.out; have h1_ := HA.out.n2; have h2_ := HBA.out.n2; omega
      have hQ2l : q1 * mx.length ≤ 1000 * 1000 := Nat.mul_le_mul hQ1l.1 hQ1l.2.1
      obtain ⟨Z, hZ⟩ : ∃ Z : Nat, Z = q1 * mx.length := ⟨_, rfl⟩
      rw [← hZ] at hQ2l hK
      have k2_ : ((0 : Int) ≤ (K : Int)) = True := eq_true (by omega)
      have k3_ : ((K : Int) < (NM : Int)) = True := eq_true (by omega)
      have hk1_ : wrap64 (wrap64 ((q1 : Int) * (mx.length : Int)) + (q2 : Int)) = (K : Int) := by rw [← Int.natCast_mul, ← hZ, show wrap64 ((Z : Nat) : Int) = (Z : Int) from wself (by omega) (by omega), wself (by omega) (by omega), hK]; push_cast; rfl
      rw [hZ] at hK
      clear hZ hQ2l
      have HK1 := Q0.mk hK
      have HKL := Q0.mk (And.intro hKl hQ1l)
      clear hK hKl hQ1l
      have HIN : Q0 (inP nx.length mx.length (q1, q2)) := HSH
      obtain ⟨ya_, za_⟩ := HMa.out.cell HIN.out HK1.out
      have HH1 := Q0.mk hk1_
      clear hk1_
      by_cases hmem : (q1, q2) ∈ Mc
      ·have HMEM := Q0.mk hmem
       rw [if_pos hmem] at ya_
       clear hmem
       obtain ⟨D, hD⟩ : ∃ D : Int, D = ((Mc.idxOf (q1, q2) : Nat) : Int) + 1 := ⟨_, rfl⟩
       rw [← hD] at ya_
       have hix_ : Mc.idxOf (q1, q2) ≤ 1000000 := by have h_ := List.idxOf_lt_length_iff.2 HMEM.out; have h2_ := HMCL.out; omega
       have d0_ : (D = 0) = False := eq_false (by omega)
       have d1_ : (D == 0) = false := by simp; omega
       have d2_ : decide (D = 0) = false := decide_eq_false (by omega)
       have hs_ : wrap64 (D - 1) = ((Mc.idxOf (q1, q2) : Nat) : Int) := by rw [hD, show ((Mc.idxOf (q1, q2) : Nat) : Int) + 1 - 1 = ((Mc.idxOf (q1, q2) : Nat) : Int) by omega]; exact wself (by omega) (by omega)
       clear hix_ hD
       have hk1_ := HH1.out
       have HMZ : Q0 (wq.heap.size ≤ (wd.alloc (.cells #[.int .i64 (q1 : Int), .int .i64 (q2 : Int)] 60)).heap.size) := ⟨by have h_ := HMD.out; simp; omega⟩
       go_wp2_with (first | ((with_reducible refine gate_builtin (b := .append) (xs := #[.tmp 117, .tmp 123]) rfl ?_); at_builtin; (try clear hk1_); (try clear hs_); refine Kd.R_append (Kd.int .i64) (w0 := w14_) w14_.heap.size rfl (.tmp 117) (.tmp 123) 45 3 (.int .i64 0) 8 rfl Try.underlying45 info3 rfl (by decide) (by omega) (.slice An N.length cn) N (((Mc.idxOf (q1, q2) : Nat) : Int)) [.int .i64 (((Mc.idxOf (q1, q2) : Nat) : Int))] (fun k_ => wq.heap.size ≤ k_) (fun _ => False) rfl (by first | rfl | (rw [World.size_alloc]; rfl) | (rw [World.size_setCell]; rfl)) ?aP (fun _ hk => hk.elim) ?aF ?aO ?aB ?aS ?aL ?_; (case aP => exact rfl); (case aB => exact HBa.out); (case aF => exact (fun k_ hk_ => by have h_ := HMZ.out; omega)); (case aO => exact HNa.out); (case aS => exact below_size HBa.out); (case aL => have h_ := HNL.out; omega); intro v10 w10 ho hb hg hat; have HN6 := Q0.mk ho; have HB6 := Q0.mk hb; have HG6 := Q0.mk hg; clear ho hb hg hat))
       go_roundw
       case rel =>
        have HP6 := Q0.mk (Kd.R_over' HPa.out (Kd.R_typed HNa.out) (by decide) HG6.out)
        have hna_ : some ga ≠ (Value.slice An N.length cn).ownBlock := fun e_ => by have h1_ := HNa.out.1 _ e_.symm; have h2_ := HMQ.out; omega
        have HM6 := Q0.mk (HMa.out.grown HG6.out hna_)
        have HG6b := Q0.mk (bG HGa.out HG6.out (Kd.R_ne HNa.out HGa.out (by decide)))
        have HS6 := Q0.mk (Kd.S_step HSa.out (fun k_ ok_ hk_ => HG6.out.block k_ hk_ (fun e_ => by have h1_ := HNa.out.1 _ e_.symm; have h2_ := ok_.2; omega)))
        have HE6 := Q0.mk (Kd.R_over' HEa.out (Kd.R_typed HNa.out) (by decide) HG6.out)
        have HGp6 := Q0.mk (bG HGpa.out HG6.out (Kd.R_ne HNa.out HGpa.out (by decide)))
        refine ⟨c + 1, Mc, N ++ [((Mc.idxOf (q1, q2) : Nat) : Int)], by omega, by go_num, ⟨?_⟩, ⟨?_⟩, ⟨?_⟩, HP6, HM6, HG6b, HS6, HE6, HGp6, HN6, HB6⟩
        ·have h_ := HMEM.out
         rw [HMc.out, ← HST.out] at h_
         rw [growTo_old h_]
         exact HMc.out
        ·rw [rowP_snoc, HST.out, ← HN.out, ← idx_pair]
        ·exact HW.out.old (x := (p1, p2)) (by rw [HMc.out]; exact growTo_get HPI.out c) (by rw [HST.out]; exact HMEM.out)
       case measure => simp [intOf]; omega
      ·have HMEM := Q0.mk hmem
       rw [if_neg hmem] at ya_
       clear hmem
       obtain ⟨M2, hM2⟩ : ∃ M2, M2 = Mc ++ [(q1, q2)] := ⟨_, rfl⟩
       have hM2l : M2.length = Mc.length + 1 := by rw [hM2]; simp
       have HS_ : Q0 (wrap64 ((M2.length : Int) - 1) = (Mc.length : Int)) := ⟨by rw [hM2l, show (((Mc.length + 1 : Nat) : Int)) - 1 = (Mc.length : Int) by omega]; exact wself (by omega) (by omega)⟩
       have HM2 := Q0.mk hM2
       have HM2L := Q0.mk hM2l
       clear hM2 hM2l
       have hk1_ := HH1.out
       go_wp2_with (first | ((with_reducible refine gate_builtin (b := .append) (xs := #[.tmp 108, .tmp 110]) rfl ?_); at_builtin; (try clear hk1_); refine Kd.R_append k60 (w0 := w14_) w14_.heap.size rfl (.tmp 108) (.tmp 110) 61 60 (.agg #[(.int .i64 0), (.int .i64 0)]) 16 rfl Try.underlying61 info60 rfl (by decide) (by omega) (.slice Ap Mc.length cp) (castQ Mc) (q60 (q1, q2)) [.int .i64 (q1 : Int), .int .i64 (q2 : Int)] (fun k_ => k_ ≠ ga ∧ k_ ≠ wq.heap.size) (fun _ => False) rfl (by first | rfl | (rw [World.size_alloc]; rfl) | (rw [World.size_setCell]; rfl)) ?aP (fun _ hk => hk.elim) ?aF ?aO ?aB ?aS ?aL ?_; (case aP => exact k60_mkM _ _ _ (q60 (q1, q2))); (case aB => exact HBa.out); (case aF => exact (fun k_ hk_ => by have h1_ := HMa.out.lt; have h2_ := blk_lt HGpa.out; exact ⟨by omega, by omega⟩)); (case aO => exact HPa.out); (case aS => exact below_size HBa.out); (case aL => rw [castQ_length]; have h_ := HMCL.out; omega); intro v7 w7 ho hb hg hat; rw [← castQ_snoc, ← HM2.out] at ho; have HPv := Q0.mk ho; have HBv := Q0.mk hb; have HGG := Q0.mk hg; clear ho hb hg hat x0_ x1_; have HMv := Q0.mk (HMa.out.grown HGG.out (Kd.R_away HPa.out (fun k_ hk_ => hk_.1))); have HGv := Q0.mk (bG HGa.out HGG.out (Kd.R_ne HPa.out HGa.out (by decide))); have HSv := Q0.mk (Kd.S_over' HSa.out (Kd.R_typed HPa.out) (by decide) HGG.out); have HEv := Q0.mk (Kd.R_over' HEa.out (Kd.R_typed HPa.out) (by decide) HGG.out); have HGpv := Q0.mk (bG HGpa.out HGG.out (Kd.R_away HPa.out (fun k_ hk_ => hk_.2))); have HNv := Q0.mk (Kd.R_over' HNa.out (Kd.R_typed HPa.out) (by decide) HGG.out); clear HPa HMa HGa HSa HEa HGpa HNa HBa HQb HGG; obtain ⟨A7, c7, rfl⟩ := R_pairsE HPv.out; have HPs := Q0.mk (Kd.R_far (p := ⟨ga, K, none⟩) HPv.out (fun k_ hk_ => hk_.1) (.int .i64 (M2.length : Int))); have HMs_ := HMv.out.put HIN.out HMEM.out HK1.out; rw [← HM2.out] at HMs_; have HMs := Q0.mk HMs_; clear HMs_; have HGs := Q0.mk (bF (p := ⟨ga, K, none⟩) HGv.out (by have h_ := HI.out; dsimp only; omega) (.int .i64 (M2.length : Int))); have HSs := Q0.mk (Kd.S_far (p := ⟨ga, K, none⟩) HSv.out (fun k_ hk_ => hk_.1) (.int .i64 (M2.length : Int))); have HEs := Q0.mk (Kd.R_far (p := ⟨ga, K, none⟩) HEv.out (fun k_ hk_ => hk_) (.int .i64 (M2.length : Int))); have HGps := Q0.mk (bF (p := ⟨ga, K, none⟩) HGpv.out (by have h_ := HMQ.out; dsimp only; omega) (.int .i64 (M2.length : Int))); have HNs := Q0.mk (Kd.R_far (p := ⟨ga, K, none⟩) HNv.out (fun k_ hk_ => by have h_ := HMQ.out; dsimp only; omega) (.int .i64 (M2.length : Int))); have HBs := Q0.mk (HBv.out.setCell (p := ⟨ga, K, none⟩) (by have h_ := HI5.out; dsimp only; omega) (.int .i64 (M2.length : Int))); obtain ⟨yv_, zv_⟩ := HMv.out.cell HIN.out HK1.out; rw [if_neg HMEM.out] at yv_; obtain ⟨yw_, zw_⟩ := HMs.out.cell HIN.out HK1.out; rw [if_pos (show (q1, q2) ∈ M2 by rw [HM2.out]; simp), show ((M2.idxOf (q1, q2) : Nat) : Int) + 1 = (M2.length : Int) by rw [HM2.out, List.idxOf_append, if_neg HMEM.out]; simp] at yw_; have HMZ : Q0 (wq.heap.size ≤ (w7.setCell ⟨ga, K, none⟩ (.int .i64 (M2.length : Int))).heap.size) := ⟨Nat.le_of_lt (blk_lt HGps.out)⟩; clear HPv HMv HGv HSv HEv HGpv HNv HBv; have hs_ := HS_.out; have hk1_ := HH1.out) | ((with_reducible refine gate_builtin (b := .append) (xs := #[.tmp 117, .tmp 123]) rfl ?_); at_builtin; (try clear hk1_); (try clear hs_); refine Kd.R_append (Kd.int .i64) (w0 := w14_) w14_.heap.size rfl (.tmp 117) (.tmp 123) 45 3 (.int .i64 0) 8 rfl Try.underlying45 info3 rfl (by decide) (by omega) (.slice An N.length cn) N ((Mc.length : Int)) [.int .i64 ((Mc.length : Int))] (fun k_ => wq.heap.size ≤ k_) (fun _ => False) rfl (by first | rfl | (rw [World.size_alloc]; rfl) | (rw [World.size_setCell]; rfl)) ?aP (fun _ hk => hk.elim) ?aF ?aO ?aB ?aS ?aL ?_; (case aP => exact rfl); (case aB => exact HBs.out); (case aF => exact (fun k_ hk_ => by have h_ := HMZ.out; omega)); (case aO => exact HNs.out); (case aS => exact below_size HBs.out); (case aL => have h_ := HNL.out; omega); intro v10 w10 ho hb hg hat; have HN6 := Q0.mk ho; have HB6 := Q0.mk hb; have HG6 := Q0.mk hg; clear ho hb hg hat))
       go_roundw
       case rel =>
        have HP6 := Q0.mk (Kd.R_over' HPs.out (Kd.R_typed HNs.out) (by decide) HG6.out)
        have hna_ : some ga ≠ (Value.slice An N.length cn).ownBlock := fun e_ => by have h1_ := HNs.out.1 _ e_.symm; have h2_ := HMQ.out; omega
        have HM6 := Q0.mk (HMs.out.grown HG6.out hna_)
        have HG6b := Q0.mk (bG HGs.out HG6.out (Kd.R_ne HNs.out HGs.out (by decide)))
        have HS6 := Q0.mk (Kd.S_step HSs.out (fun k_ ok_ hk_ => HG6.out.block k_ hk_ (fun e_ => by have h1_ := HNs.out.1 _ e_.symm; have h2_ := ok_.2; omega)))
        have HE6 := Q0.mk (Kd.R_over' HEs.out (Kd.R_typed HNs.out) (by decide) HG6.out)
        have HGp6 := Q0.mk (bG HGps.out HG6.out (Kd.R_ne HNs.out HGps.out (by decide)))
        have hcur_ : Mc[i]? = some (p1, p2) := by rw [HMc.out]; exact growTo_get HPI.out c
        have hWn_ := HW.out.new hcur_ hcl (by rw [HST.out]; exact HSH.out) (by rw [HST.out]; exact HMEM.out)
        rw [HST.out, ← HM2.out] at hWn_
        refine ⟨c + 1, M2, N ++ [(Mc.length : Int)], by omega, by go_num, ⟨?_⟩, ⟨?_⟩, ⟨hWn_⟩, HP6, HM6, HG6b, ⟨?_⟩, ⟨?_⟩, HGp6, HN6, HB6⟩
        ·have h_ := HMEM.out
         rw [HMc.out, ← HST.out] at h_
         rw [growTo_new h_, ← HMc.out, HST.out, HM2.out]
        ·rw [rowP_snoc, HST.out, HM2.out, idxOf_snocP HMEM.out, rowP_grow (HW.out.now _ hcur_), ← HN.out]
        ·rw [HM2.out, numP_growAt HW.out]; exact HS6.out
        ·rw [HM2.out, endsP_growAt _ HW.out.at_]; exact HE6.out
       case measure => simp [intOf]; omega
     ·have q1b : decide ((c : Int) < (L : Int)) = false := decide_eq_false (by omega)
      have q1c : (c < L) = False := eq_false (by omega)
      obtain rfl : c = L := by omega
      obtain ⟨wz, rfl⟩ : ∃ wz, wz = wr := ⟨wr, rfl⟩
      have hcur_ : Mc[i]? = some (p1, p2) := by rw [HMc.out]; exact growTo_get HPI.out c
      obtain ⟨X1, hX1⟩ : ∃ X, X = numP c (prodSt nx mx) Mc i := ⟨_, rfl⟩
      obtain ⟨X2, hX2⟩ : ∃ X, X = endsP (prodEnd E ac bc) Mc i := ⟨_, rfl⟩
      rw [← hX1] at HS
      rw [← hX2] at HE
      have hil_ : i < 1000000 := by have h_ := HML.out; omega
      have HXL : Q0 (X1.length ≤ 1000000 ∧ X2.length ≤ 1000000) := ⟨by rw [hX1, hX2, numP_length, endsP_length]; omega⟩
      obtain ⟨Y1, hY1⟩ : ∃ Y, Y = X1 ++ [N] := ⟨_, rfl⟩
      obtain ⟨xA, hxA⟩ : ∃ x, x = acL ac p1 := ⟨_, rfl⟩
      obtain ⟨xB, hxB⟩ : ∃ x, x = acL bc p2 := ⟨_, rfl⟩
      obtain ⟨Y2, hY2⟩ : ∃ Y, Y = X2 ++ [E xA xB] := ⟨_, rfl⟩
      have HT1 : Q0 (numP c (prodSt nx mx) Mc (i + 1) = Y1) := ⟨by rw [numP_turn hcur_, ← hX1, ← HN.out, ← hY1]⟩
      have HT2 : Q0 (endsP (prodEnd E ac bc) Mc (i + 1) = Y2) := ⟨by rw [endsP_turn _ hcur_, ← hX2, show prodEnd E ac bc (p1, p2) = E xA xB by rw [hxA, hxB], ← hY2]⟩
      have HCUR := Q0.mk hcur_
      clear hcur_
      have HX1 := Q0.mk hX1
      clear hX1
      have HX2 := Q0.mk hX2
      clear hX2
      have HY1 := Q0.mk hY1
      clear hY1
      have HY2 := Q0.mk hY2
      clear hY2
      have HxA := Q0.mk hxA
      clear hxA
      have HxB := Q0.mk hxB
      clear hxB
      obtain ⟨U1, e1, rfl⟩ := Kd.S_slice HS.out
      obtain ⟨U2, e2, rfl⟩ := Kd.R_slice HE.out
      obtain ⟨hp1, hp2⟩ := HPO.out
      have hen1 := HA.out.ends
      have hen2 := HBA.out.ends
      obtain ⟨ad2, e_, hxa_⟩ := Kd.at_bool HR2.out (p1 : Int) (by omega) (by omega)
      cases e_
      obtain ⟨bd2, e_, hxb_⟩ := Kd.at_bool HR4.out (p2 : Int) (by omega) (by omega)
      cases e_
      rw [show rdOf false ac (p1 : Int) = xA by rw [HxA.out, rdb_nat]; rfl, Int.toNat_natCast] at hxa_
      rw [show rdOf false bc (p2 : Int) = xB by rw [HxB.out, rdb_nat]; rfl, Int.toNat_natCast] at hxb_
      have HXA := Q0.mk hxa_
      have HXB := Q0.mk hxb_
      clear hxa_ hxb_
      have z1_ : ((0 : Int) ≤ (p1 : Int)) = True := eq_true (by omega)
      have z2_ : ((p1 : Int) < (ac.length : Int)) = True := eq_true (by omega)
      have z3_ : ((0 : Int) ≤ (p2 : Int)) = True := eq_true (by omega)
      have z4_ : ((p2 : Int) < (bc.length : Int)) = True := eq_true (by omega)
      clear hp1 hp2 hen1 hen2
      go_wp2
      clear k0_
      refine start_ (n := 14) (S := fun w' => Below wz.heap.size wz w') (ds := []) #[false, false, false, false, false, false, false, false, false, false, false, false, false, false] (by kernel_rfl) rfl rfl (bD (Below.refl _ _)) (fun hHeld => ?_)
      refine with_tabW ref24_Of.tab25 ref24_Of.bits25 (fun HT_ HW_ => ?_)
      have HNd := Q0.mk (Kd.R_drew HNr.out)
      have HGd := Q0.mk (bdz HG.out)
      have HSd := Q0.mk (Kd.S_drew HS.out)
      have HEd := Q0.mk (Kd.R_drew HE.out)
      have HPd := Q0.mk (Kd.R_drew HP.out)
      have HMd := Q0.mk HM.out.drew
      have HBd := Q0.mk (bD HB.out)
      obtain ⟨wd, hwd⟩ : ∃ wd, wd = wz.drew := ⟨_, rfl⟩
      rw [← hwd] at HNd HGd HSd HEd HPd HMd HBd hHeld ⊢
      clear hwd
      refine pure_ (i := 0) (N := some 125) (v := ?_) (a' := ?_) #[true, false, false, false, false, false, false, false, false, false, false, false, false, false] rfl rfl (any_of HT_.out (by kernel_rfl)) (fun _ _ _ h => h) (Or.inl ⟨by rfl, ?_⟩) ?_ ?_
      rotate_left
      ·intro w'
       go_simp
       with_reducible rfl
      rotate_left
      ·simp only [Act.put, sA, sB, sC, i64_w, i32_w]
       rfl
      refine pure_ (i := 2) (N := some 127) (v := ?_) (a' := ?_) #[true, false, true, false, false, false, false, false, false, false, false, false, false, false] rfl rfl (any_of HT_.out (by kernel_rfl)) (fun _ _ _ h => h) (Or.inl ⟨by rfl, ?_⟩) ?_ ?_
      rotate_left
      ·intro w'
       go_simp
       with_reducible rfl
      rotate_left
      ·simp only [Act.put, sA, sB, sC, i64_w, i32_w]
       rfl
      refine pure_ (i := 6) (N := some 131) (v := ?_) (a' := ?_) #[true, false, true, false, false, false, true, false, false, false, false, false, false, false] rfl rfl (any_of HT_.out (by kernel_rfl)) (fun _ _ _ h => h) (Or.inl ⟨by rfl, ?_⟩) ?_ ?_
      rotate_left
      ·intro w'
       go_simp
       with_reducible rfl
      rotate_left
      ·simp only [Act.put, sA, sB, sC, i64_w, i32_w]
       rfl
      refine pure_ (i := 8) (N := some 133) (v := ?_) (a' := ?_) #[true, false, true, false, false, false, true, false, true, false, false, false, false, false] rfl rfl (any_of HT_.out (by kernel_rfl)) (fun _ _ _ h => h) (Or.inl ⟨by rfl, ?_⟩) ?_ ?_
      rotate_left
      ·intro w'
       go_simp
       with_reducible rfl
      rotate_left
      ·simp only [Act.put, sA, sB, sC, i64_w, i32_w]
       rfl
      refine take_ (i := 1) (N := some 126) (v := ?_) (a' := ?_) #[true, true, true, false, false, false, true, false, true, false, false, false, false, false] rfl rfl (take_ofW HT_.out HW_.out (by kernel_rfl)) (fun _ _ _ h => h) (Or.inl ⟨by rfl, ?_⟩) hHeld ?_ ?_
      rotate_left
      ·intro w' s0
       have c_ : w'.cell? ⟨w.heap.size, 2, none⟩ = some (.slice (some ad2) ac.length c2) := (bcz (bb K6_.out (bsz (bsz (S10_.out) S15_.out) (bsz HB.out s0))) 2).trans rfl
       clear s0
       go_simp
       with_reducible rfl
      rotate_left
      ·simp only [Act.put, sA, sB, sC, i64_w, i32_w]
       rfl
      refine take_ (i := 3) (N := some 128) (v := ?_) (a' := ?_) #[true, true, true, true, false, false, true, false, true, false, false, false, false, false] rfl rfl (take_ofW HT_.out HW_.out (by kernel_rfl)) (fun _ _ _ h => h) (Or.inl ⟨by rfl, ?_⟩) hHeld ?_ ?_
      rotate_left
      ·intro w' s0
       have c_ : w'.cell? ⟨wq.heap.size, 0, none⟩ = some (.int .i64 (p1 : Int)) := (bcz (bb HGp.out s0) 0).trans rfl
       clear s0
       go_simp
       with_reducible rfl
      rotate_left
      ·simp only [Act.put, sA, sB, sC, i64_w, i32_w]
       rfl
      refine pure_ (i := 4) (N := some 129) (v := ?_) (a' := ?_) #[true, true, true, true, true, false, true, false, true, false, false, false, false, false] rfl rfl (any_of HT_.out (by kernel_rfl)) (fun _ _ _ h => h) (Or.inl ⟨by rfl, ?_⟩) ?_ ?_
      rotate_left
      ·intro w'
       go_simp
       with_reducible rfl
      rotate_left
      ·simp only [Act.put, sA, sB, sC, i64_w, i32_w]
       rfl
      refine take_ (i := 5) (N := some 130) (v := ?_) (a' := ?_) #[true, true, true, true, true, true, true, false, true, false, false, false, false, false] rfl rfl (take_ofW HT_.out HW_.out (by kernel_rfl)) (fun _ _ _ h => h) (Or.inl ⟨by rfl, ?_⟩) hHeld ?_ ?_
      rotate_left
      ·intro w' s0
       have c_ := (Below.cell (bsz (bsz (bsz (S5_.out) S10_.out) S15_.out) (bsz HB.out s0)) (World.block_lt_of_cell? _ _ HXA.out)).trans HXA.out
       clear s0
       go_simp
       with_reducible rfl
      rotate_left
      ·simp only [Act.put, sA, sB, sC, i64_w, i32_w]
       rfl
      refine pure_ (i := 12) (N := some 20) (v := ?_) (a' := ?_) #[true, true, true, true, true, true, true, false, true, false, false, false, true, false] rfl rfl (any_of HT_.out (by kernel_rfl)) (fun _ _ _ h => h) (Or.inl ⟨by rfl, ?_⟩) ?_ ?_
      rotate_left
      ·intro w'
       go_simp
       with_reducible rfl
      rotate_left
      ·simp only [Act.put, sA, sB, sC, i64_w, i32_w]
       rfl
      refine take_ (i := 7) (N := some 132) (v := ?_) (a' := ?_) #[true, true, true, true, true, true, true, true, true, false, false, false, true, false] rfl rfl (take_ofW HT_.out HW_.out (by kernel_rfl)) (fun _ _ _ h => h) (Or.inl ⟨by rfl, ?_⟩) hHeld ?_ ?_
      rotate_left
      ·intro w' s0
       have c_ : w'.cell? ⟨w.heap.size + 1, 2, none⟩ = some (.slice (some bd2) bc.length d2) := (bcz (bb K7_.out (bsz (bsz (S10_.out) S15_.out) (bsz HB.out s0))) 2).trans rfl
       clear s0
       go_simp
       with_reducible rfl
      rotate_left
      ·simp only [Act.put, sA, sB, sC, i64_w, i32_w]
       rfl
      refine take_ (i := 9) (N := some 134) (v := ?_) (a' := ?_) #[true, true, true, true, true, true, true, true, true, true, false, false, true, false] rfl rfl (take_ofW HT_.out HW_.out (by kernel_rfl)) (fun _ _ _ h => h) (Or.inl ⟨by rfl, ?_⟩) hHeld ?_ ?_
      rotate_left
      ·intro w' s0
       have c_ : w'.cell? ⟨wq.heap.size, 1, none⟩ = some (.int .i64 (p2 : Int)) := (bcz (bb HGp.out s0) 1).trans rfl
       clear s0
       go_simp
       with_reducible rfl
      rotate_left
      ·simp only [Act.put, sA, sB, sC, i64_w, i32_w]
       rfl
      refine pure_ (i := 10) (N := some 135) (v := ?_) (a' := ?_) #[true, true, true, true, true, true, true, true, true, true, true, false, true, false] rfl rfl (any_of HT_.out (by kernel_rfl)) (fun _ _ _ h => h) (Or.inl ⟨by rfl, ?_⟩) ?_ ?_
      rotate_left
      ·intro w'
       go_simp
       with_reducible rfl
      rotate_left
      ·simp only [Act.put, sA, sB, sC, i64_w, i32_w]
       rfl
      refine take_ (i := 11) (N := some 136) (v := ?_) (a' := ?_) #[true, true, true, true, true, true, true, true, true, true, true, true, true, false] rfl rfl (take_ofW HT_.out HW_.out (by kernel_rfl)) (fun _ _ _ h => h) (Or.inl ⟨by rfl, ?_⟩) hHeld ?_ ?_
      rotate_left
      ·intro w' s0
       have c_ := (Below.cell (bsz (bsz (bsz (S5_.out) S10_.out) S15_.out) (bsz HB.out s0)) (World.block_lt_of_cell? _ _ HXB.out)).trans HXB.out
       clear s0
       go_simp
       with_reducible rfl
      rotate_left
      ·simp only [Act.put, sA, sB, sC, i64_w, i32_w]
       rfl
      refine pure_ (i := 13) (N := some 21) (v := ?_) (a' := ?_) #[true, true, true, true, true, true, true, true, true, true, true, true, true, true] rfl rfl (any_of HT_.out (by kernel_rfl)) (fun _ _ _ h => h) (Or.inl ⟨by rfl, ?_⟩) ?_ ?_
      rotate_left
      ·intro w'
       go_simp
       with_reducible rfl
      rotate_left
      ·simp only [Act.put, sA, sB, sC, i64_w, i32_w]
       rfl
      refine done_ (done_of HT_.out (by kernel_rfl)) ?_
      clear HG HS HE HP HM HB HNr hHeld z1_ z2_ z3_ z4_ HXA HXB HGp
      have z1_ : wd.cell? ⟨w6.heap.size, 1, none⟩ = some (.slice U1 X1.length e1) := (bcz HGd.out 1).trans rfl
      rcases HKD.out with rfl | rfl | rfl <;> cases xA <;> cases xB
      all_goals
       go_wp2_with (first | ((with_reducible refine gate_builtin (b := .append) (xs := #[.tmp 138, .tmp 140]) rfl ?_); at_builtin; refine Kd.S_append (Kd.slice 3 (Kd.int .i64)) (w0 := w14_) w14_.heap.size rfl (.tmp 138) (.tmp 140) 22 45 (.slice none 0 0) 24 rfl Try.underlying22 info45 rfl (by decide) (by omega) (.slice U1 X1.length e1) X1 N [.slice An N.length cn] (fun k_ => k_ ≠ ga) (fun k_ => wq.heap.size ≤ k_) rfl (by first | rfl | (rw [World.size_alloc]; rfl) | (rw [World.size_setCell]; rfl)) ?aP ?aK ?aF ?aO ?aB ?aS ?aL ?_; (case aP => exact Kd.M_row HNd.out); (case aK => exact (fun k_ hk_ => ⟨by have h_ := HMQ.out; omega, fun e_ => by have h_ := HSL.out k_ e_.symm; omega⟩)); (case aF => exact (fun k_ hk_ => by have h_ := HMd.out.lt; omega)); (case aO => exact Kd.S_mono HSd.out (fun k_ hk_ => ⟨hk_.1, by have h_ := hk_.2; omega⟩)); (case aB => exact HBd.out); (case aS => exact below_size HBd.out); (case aL => have h_ := HXL.out; omega); intro v24 w24 ho hb hg hat; rw [← HY1.out] at ho; have HE3 := Q0.mk (Kd.R_over' HEd.out (Kd.S_typed HSd.out) (by decide) hg); have HP3 := Q0.mk (Kd.R_over' HPd.out (Kd.S_typed HSd.out) (by decide) hg); have HG3 := Q0.mk (bG HGd.out hg (Kd.S_ne HSd.out HGd.out (by decide))); have HM3 := Q0.mk (HMd.out.grown hg (Kd.R_away (Kd.S_R HSd.out) (fun k_ hk_ => hk_.1))); have HS3 := Q0.mk ho; have HB3 := Q0.mk hb; clear ho hb hg hat HEd HPd HGd HMd HSd HBd HNd z1_; obtain ⟨U3, e3, rfl⟩ := Kd.S_slice HS3.out; have z1_ : w24.cell? ⟨w6.heap.size, 1, none⟩ = some (.slice U1 X1.length e1) := (bcz HG3.out 1).trans rfl; have zf1_ := bf HG3.out 1; have HG4 := Q0.mk (bp (cs' := #[.int .i64 (c : Int), .slice U3 Y1.length e3, .slice U2 X2.length e2]) HG3.out 1 (.slice U3 Y1.length e3) rfl); have HS4 := Q0.mk (Kd.S_mono (ok' := fun k_ => k_ ≠ ga) (Kd.S_far (p := ⟨w6.heap.size, 1, none⟩) (Kd.S_types HS3.out HG3.out (by decide)) (fun _ hk => hk.2) (.slice U3 Y1.length e3)) (fun _ hk => hk.1)); have HE4 := Q0.mk (Kd.R_set HE3.out HG3.out (by decide) 1 (.slice U3 Y1.length e3)); have HP4 := Q0.mk (Kd.R_set HP3.out HG3.out (by decide) 1 (.slice U3 Y1.length e3)); have HM4 := Q0.mk (HM3.out.set (p := ⟨w6.heap.size, 1, none⟩) (by have h_ := HI.out; dsimp only; omega) (.slice U3 Y1.length e3)); have HB4 := Q0.mk (HB3.out.setCell (p := ⟨w6.heap.size, 1, none⟩) (by have h_ := HI.out; have h2_ := HI5.out; dsimp only; omega) (.slice U3 Y1.length e3)); have z2_ : (w24.setCell ⟨w6.heap.size, 1, none⟩ (.slice U3 Y1.length e3)).cell? ⟨w6.heap.size, 2, none⟩ = some (.slice U2 X2.length e2) := (bcz HG4.out 2).trans rfl; clear HG3 HS3 HE3 HP3 HM3 HB3) | ((with_reducible refine gate_builtin (b := .append) (xs := #[.tmp 144, .tmp 174]) rfl ?_); at_builtin; refine Kd.R_append Kd.bool (w0 := w14_) w14_.heap.size rfl (.tmp 144) (.tmp 174) 23 4 (.bool false) 1 rfl Try.underlying23 info4 rfl (by decide) (by omega) (.slice U2 X2.length e2) X2 true [.bool true] (fun k_ => k_ ≠ ga) (fun _ => False) rfl (by first | rfl | (rw [World.size_alloc]; rfl) | (rw [World.size_setCell]; rfl)) ?aP (fun _ hk => hk.elim) ?aF ?aO ?aB ?aS ?aL ?_; (case aP => exact rfl); (case aB => exact HB4.out); (case aF => exact (fun k_ hk_ => by have h_ := HM4.out.lt; omega)); (case aO => exact HE4.out); (case aS => exact below_size HB4.out); (case aL => have h_ := HXL.out; omega); intro v25 w25 ho hb hg hat; have ho2 : Kd.R Kd.bool 4 w25 w14_.heap.size (fun k_ => k_ ≠ ga) v25 Y2 := (by rw [HY2.out, HE0.out]; exact ho); have HG6 := Q0.mk (bG HG4.out hg (Kd.R_ne HE4.out HG4.out (by decide))); have HS6 := Q0.mk (Kd.S_over' HS4.out (Kd.R_typed HE4.out) (by decide) hg); have HP6 := Q0.mk (Kd.R_over' HP4.out (Kd.R_typed HE4.out) (by decide) hg); have HM6 := Q0.mk (HM4.out.grown hg (Kd.R_away HE4.out (fun k_ hk_ => hk_))); have HE6 := Q0.mk ho2; have HB6 := Q0.mk hb; clear ho ho2 hb hg hat HG4 HS4 HE4 HB4 HP4 HM4; obtain ⟨U5, e5, rfl⟩ := Kd.R_slice HE6.out; have z2_ : w25.cell? ⟨w6.heap.size, 2, none⟩ = some (.slice U2 X2.length e2) := (bcz HG6.out 2).trans rfl; have zf2_ := bf HG6.out 2) | ((with_reducible refine gate_builtin (b := .append) (xs := #[.tmp 144, .tmp 174]) rfl ?_); at_builtin; refine Kd.R_append Kd.bool (w0 := w14_) w14_.heap.size rfl (.tmp 144) (.tmp 174) 23 4 (.bool false) 1 rfl Try.underlying23 info4 rfl (by decide) (by omega) (.slice U2 X2.length e2) X2 false [.bool false] (fun k_ => k_ ≠ ga) (fun _ => False) rfl (by first | rfl | (rw [World.size_alloc]; rfl) | (rw [World.size_setCell]; rfl)) ?aP (fun _ hk => hk.elim) ?aF ?aO ?aB ?aS ?aL ?_; (case aP => exact rfl); (case aB => exact HB4.out); (case aF => exact (fun k_ hk_ => by have h_ := HM4.out.lt; omega)); (case aO => exact HE4.out); (case aS => exact below_size HB4.out); (case aL => have h_ := HXL.out; omega); intro v25 w25 ho hb hg hat; have ho2 : Kd.R Kd.bool 4 w25 w14_.heap.size (fun k_ => k_ ≠ ga) v25 Y2 := (by rw [HY2.out, HE0.out]; exact ho); have HG6 := Q0.mk (bG HG4.out hg (Kd.R_ne HE4.out HG4.out (by decide))); have HS6 := Q0.mk (Kd.S_over' HS4.out (Kd.R_typed HE4.out) (by decide) hg); have HP6 := Q0.mk (Kd.R_over' HP4.out (Kd.R_typed HE4.out) (by decide) hg); have HM6 := Q0.mk (HM4.out.grown hg (Kd.R_away HE4.out (fun k_ hk_ => hk_))); have HE6 := Q0.mk ho2; have HB6 := Q0.mk hb; clear ho ho2 hb hg hat HG4 HS4 HE4 HB4 HP4 HM4; obtain ⟨U5, e5, rfl⟩ := Kd.R_slice HE6.out; have z2_ : w25.cell? ⟨w6.heap.size, 2, none⟩ = some (.slice U2 X2.length e2) := (bcz HG6.out 2).trans rfl; have zf2_ := bf HG6.out 2))
       go_roundw
       case rel =>
        obtain ⟨kf', hk_⟩ := prodRun_step HK.out HPI.out (of_decide_eq_true (decide_eq_true hbg))
        rw [← HMc.out] at hk_
        refine ⟨i + 1, Mc, kf', _, _, by go_num, ⟨hk_⟩, ⟨HW.out.turn (List.getElem?_eq_some_iff.1 HCUR.out).1⟩, ⟨?_⟩, ⟨Kd.R_mono (Kd.R_set HP6.out HG6.out (by decide) 2 (.slice U5 Y2.length e5)) (fun _ hk => hk.1)⟩, ⟨HM6.out.set (by have h_ := HI.out; dsimp only; omega) _⟩, ⟨bp (cs' := #[.int .i64 (c : Int), .slice U3 Y1.length e3, .slice U5 Y2.length e5]) HG6.out 2 _ rfl⟩, ⟨?_⟩, ⟨?_⟩, ⟨HB6.out.setCell (p := ⟨w6.heap.size, 2, none⟩) (by have h_ := HI.out; have h2_ := HI5.out; dsimp only; omega) _⟩⟩
        ·have h1_ := HMc.out
         have h2_ := growTo_ge (st := prodSt nx mx) (s := (p1, p2)) (l := M) c
         rw [← h1_] at h2_
         rcases Nat.lt_or_ge (i + 1) Mc.length with h3_ | h3_
         ·exact .inl h3_
         ·exact .inr (by omega)
        ·rw [HT1.out]
         exact Kd.S_mono (Kd.S_far (p := ⟨w6.heap.size, 2, none⟩) (Kd.S_types HS6.out HG6.out (by decide)) (fun _ hk => hk.2) _) (fun _ hk => hk.1)
        ·rw [HT2.out]
         exact Kd.R_set HE6.out HG6.out (by decide) 2 _
       case measure => simp [intOf]; omega
   ·have q1b : decide ((i : Int) < (M.length : Int)) = true := decide_eq_true (by omega)
    have HMF := prodRun_over HK.out hbg
    have m3_ : ((M.length : Int) > m) = True := eq_true (by omega)
    have m4_ : decide ((M.length : Int) > m) = true := decide_eq_true (by omega)
    have m5_ : (m < (M.length : Int)) = True := eq_true (by omega)
    have m6_ : decide (m < (M.length : Int)) = true := decide_eq_true (by omega)
    have hr_ := HRES.out
    rw [HMF] at hr_
    unfold prodRes at hr_
    rw [if_pos (by omega)] at hr_
    simp only [Prod.mk.injEq] at hr_
    obtain ⟨rfl, rfl, rfl, rfl⟩ := hr_
    clear HMF
    have hH_ := Q0.mk (bb K8_.out (bsz (bsz (S10_.out) S15_.out) (HB.out)))
    have z0_ : wq.cell? ⟨w.heap.size + 1 + 1, 0, none⟩ = some (.int .i64 0) := (bcz hH_.out 0).trans rfl
    have z1_ : wq.cell? ⟨w.heap.size + 1 + 1, 1, none⟩ = some (.slice none 0 0) := (bcz hH_.out 1).trans rfl
    have z2_ : wq.cell? ⟨w.heap.size + 1 + 1, 2, none⟩ = some (.slice none 0 0) := (bcz hH_.out 2).trans rfl
    have zf0_ := bf hH_.out 0
    have zf1_ := bf hH_.out 1
    have zf2_ := bf hH_.out 2
    go_wp2
    have hb0_ := bp (cs' := #[.int .i64 0, .slice none 0 0, .slice none 0 0]) hH_.out 0 (.int .i64 0) rfl
    have hb1_ := bp (cs' := #[.int .i64 0, .slice none 0 0, .slice none 0 0]) hb0_ 1 (.slice none 0 0) rfl
    have hb2_ := bp (cs' := #[.int .i64 0, .slice none 0 0, .slice none 0 0]) hb1_ 2 (.slice none 0 0) rfl
    refine bodyPost_ret (results_ct (by rfl) _ _ (w.heap.size + 1 + 1) 25 #[.int .i64 0, .slice none 0 0, .slice none 0 0] (0, 0) _ (by rfl) (by exact hb2_) Try.underlying25 (by rfl) (by kernel_rfl)) (by rfl) ?_
    exact ⟨_, _, rfl, Kd.S_nil _ _ _ _ _, Kd.R_nil _ _ _ _ _, Below.setCell (Below.setCell (Below.setCell (bsz (bsz (bsz (S5_.out) S10_.out) S15_.out) (HB.out)) (p := ⟨w.heap.size + 1 + 1, 0, none⟩) (by (try dsimp only); omega) (.int .i64 0)) (p := ⟨w.heap.size + 1 + 1, 1, none⟩) (by (try dsimp only); omega) (.slice none 0 0)) (p := ⟨w.heap.size + 1 + 1, 2, none⟩) (by (try dsimp only); omega) (.slice none 0 0)⟩
  ·have q1b : decide ((i : Int) < (M.length : Int)) = false := decide_eq_false (by omega)
   have q1c : (i < M.length) = False := eq_false (by omega)
   have hil : i = M.length := by have h_ := HW.out.at_; omega
   have hbg : (M.length : Int) ≤ m := HTI.out.resolve_left (by omega)
   have HMF := prodRun_end HK.out (Nat.le_of_eq hil.symm)
   have hr_ := HRES.out
   rw [HMF] at hr_
   unfold prodRes at hr_
   rw [if_neg (by omega), Int.toNat_natCast] at hr_
   simp only [Prod.mk.injEq] at hr_
   obtain ⟨rfl, rfl, rfl, rfl⟩ := hr_
   clear HMF
   rw [hil, numP_all] at HS
   rw [hil, endsP_all] at HE
   obtain ⟨X1, hX1⟩ : ∃ X, X = numNext L (prodSt nx mx) M := ⟨_, rfl⟩
   obtain ⟨X2, hX2⟩ : ∃ X, X = M.map (prodEnd E ac bc) := ⟨_, rfl⟩
   rw [← hX1] at HS
   rw [← hX2] at HE
   have HX1 := Q0.mk hX1
   have HX2 := Q0.mk hX2
   clear hX1 hX2
   obtain ⟨U1, e1, rfl⟩ := Kd.S_slice HS.out
   obtain ⟨U2, e2, rfl⟩ := Kd.R_slice HE.out
   have hH_ := Q0.mk (bb K8_.out (bsz (bsz (S10_.out) S15_.out) (HB.out)))
   have z0_ : wq.cell? ⟨w.heap.size + 1 + 1, 0, none⟩ = some (.int .i64 0) := (bcz hH_.out 0).trans rfl
   have z1_ : wq.cell? ⟨w.heap.size + 1 + 1, 1, none⟩ = some (.slice none 0 0) := (bcz hH_.out 1).trans rfl
   have z2_ : wq.cell? ⟨w.heap.size + 1 + 1, 2, none⟩ = some (.slice none 0 0) := (bcz hH_.out 2).trans rfl
   have zf0_ := bf hH_.out 0
   have zf1_ := bf hH_.out 1
   have zf2_ := bf hH_.out 2
   have y0_ : wq.cell? ⟨w6.heap.size, 0, none⟩ = some (.int .i64 (L : Int)) := (bcz HG.out 0).trans rfl
   have y1_ : wq.cell? ⟨w6.heap.size, 1, none⟩ = some (.slice U1 X1.length e1) := (bcz HG.out 1).trans rfl
   have y2_ : wq.cell? ⟨w6.heap.size, 2, none⟩ = some (.slice U2 X2.length e2) := (bcz HG.out 2).trans rfl
   go_wp2
   have hb0_ := bp (cs' := #[.int .i64 (L : Int), .slice none 0 0, .slice none 0 0]) hH_.out 0 (.int .i64 (L : Int)) rfl
   have s0_ := Kd.S_mono (ok' := fun _ => True) (Kd.S_far (p := ⟨w.heap.size + 1 + 1, 0, none⟩) (Kd.S_types (HS.out) hH_.out (by decide)) (fun _ hk => hk.2) (.int .i64 (L : Int))) (fun _ _ => trivial)
   have r0_ := Kd.R_set (HE.out) hH_.out (by decide) 0 (.int .i64 (L : Int))
   have hb1_ := bp (cs' := #[.int .i64 (L : Int), .slice U1 X1.length e1, .slice none 0 0]) hb0_ 1 (.slice U1 X1.length e1) rfl
   have s1_ := Kd.S_mono (ok' := fun _ => True) (Kd.S_far (p := ⟨w.heap.size + 1 + 1, 1, none⟩) (Kd.S_types (s0_) hb0_ (by decide)) (fun _ hk => hk.2) (.slice U1 X1.length e1)) (fun _ _ => trivial)
   have r1_ := Kd.R_set (r0_) hb0_ (by decide) 1 (.slice U1 X1.length e1)
   have hb2_ := bp (cs' := #[.int .i64 (L : Int), .slice U1 X1.length e1, .slice U2 X2.length e2]) hb1_ 2 (.slice U2 X2.length e2) rfl
   have s2_ := Kd.S_mono (ok' := fun _ => True) (Kd.S_far (p := ⟨w.heap.size + 1 + 1, 2, none⟩) (Kd.S_types (s1_) hb1_ (by decide)) (fun _ hk => hk.2) (.slice U2 X2.length e2)) (fun _ _ => trivial)
   have r2_ := Kd.R_set (r1_) hb1_ (by decide) 2 (.slice U2 X2.length e2)
   refine bodyPost_ret (results_ct (by rfl) _ _ (w.heap.size + 1 + 1) 25 #[.int .i64 (L : Int), .slice U1 X1.length e1, .slice U2 X2.length e2] (0, 0) _ (by rfl) (by exact hb2_) Try.underlying25 (by rfl) (by kernel_rfl)) (by rfl) ?_
   rw [← HX1.out, ← HX2.out]
   exact ⟨_, _, rfl, Kd.S_lower s2_ (below_size (bsz (bsz (S5_.out) S10_.out) S15_.out)), Kd.R_mono (Kd.R_lower r2_ (below_size (bsz (bsz (S5_.out) S10_.out) S15_.out))) (fun _ _ => trivial), Below.setCell (Below.setCell (Below.setCell (bsz (bsz (bsz (S5_.out) S10_.out) S15_.out) (HB.out)) (p := ⟨w.heap.size + 1 + 1, 0, none⟩) (by (try dsimp only); omega) (.int .i64 (L : Int))) (p := ⟨w.heap.size + 1 + 1, 1, none⟩) (by (try dsimp only); omega) (.slice U1 X1.length e1)) (p := ⟨w.heap.size + 1 + 1, 2, none⟩) (by (try dsimp only); omega) (.slice U2 X2.length e2)⟩
theorem ref24_Of.told (kd : Int) (hkd : kd = 1 ∨ kd = 2 ∨ kd = 3)  (k : Nat) (a : Int) (A1 : Option Addr) (c1 : Nat) (nx : List (List Int)) (A2 : Option Addr) (c2 : Nat) (ac : List Bool) (b : Int) (B1 : Option Addr) (d1 : Nat) (mx : List (List Int)) (B2 : Option Addr) (d2 : Nat) (bc : List Bool) (most : Int) (r1 : Int) (r2 : List (List Int)) (r3 : List Bool) (r4 : Int) (w : World) (hr1 : Kd.C (Kd.slice 3 (Kd.int .i64)) w A1 nx.length nx) (hc1 : nx.length ≤ c1) (hr2 : Kd.C Kd.bool w A2 ac.length ac) (hc2 : ac.length ≤ c2) (hr3 : Kd.C (Kd.slice 3 (Kd.int .i64)) w B1 mx.length mx) (hc3 : mx.length ≤ d1) (hr4 : Kd.C Kd.bool w B2 bc.length bc) (hc4 : bc.length ≤ d2) (h : prodF (refE kd) k a nx ac b mx bc most = some (r1, r2, r3, r4)) :
  Calls Try.prog 78 #[.int .i64 kd, .agg #[.int .i64 a, .slice A1 nx.length c1, .slice A2 ac.length c2], .agg #[.int .i64 b, .slice B1 mx.length d1, .slice B2 bc.length d2], .int .i64 most] w fun e w' => ∃ v1_ v2_ : Value, e = .returned (.tuple #[.agg #[.int .i64 r1, v1_, v2_], .int .i64 r4]) ∧ Kd.S (Kd.slice 3 (Kd.int .i64)) 45 w' w.heap.size (fun _ => True) v1_ r2 ∧ Kd.R Kd.bool 4 w' w.heap.size (fun _ => True) v2_ r3 ∧ Below w.heap.size w w' := by
 unfold prodF at h
 obtain ⟨kg, hG1⟩ := (ev_refGood a nx ac).rounds
 obtain ⟨kh, hG2⟩ := (ev_refGood b mx bc).rounds
 cases hg : goodB a nx ac with
 | false =>
  rw [hg] at hG1
  simp only [hg, Bool.false_eq_true, if_false, Option.some.injEq, Prod.mk.injEq] at h
  obtain ⟨rfl, rfl, rfl, rfl⟩ := h
  exact ref24_Of.bad0 kd kg kh a A1 c1 nx A2 c2 ac b B1 d1 mx B2 d2 bc most w hr1 hc1 hr2 hc2 hr3 hc3 hr4 hc4 hG1
 | true =>
  rw [hg] at hG1
  cases hg2 : goodB b mx bc with
  | false =>
   rw [hg2] at hG2
   simp only [hg, hg2, Bool.false_eq_true, if_false, if_true, Option.some.injEq, Prod.mk.injEq] at h
   obtain ⟨rfl, rfl, rfl, rfl⟩ := h
   exact ref24_Of.bad1 kd kg kh a A1 c1 nx A2 c2 ac b B1 d1 mx B2 d2 bc most w hr1 hc1 hr2 hc2 hr3 hc3 hr4 hc4 hG1 hG2
  | true =>
   rw [hg2] at hG2
   by_cases hab : a = b
   ·simp only [hg, hg2, if_true, if_pos hab] at h
    obtain ⟨MF, hM, h⟩ := Option.bind_eq_some_iff.mp h
    exact ref24_Of.main (refE kd) kd kg kh a A1 c1 nx A2 c2 ac b B1 d1 mx B2 d2 bc most w hr1 hc1 hr2 hc2 hr3 hc3 hr4 hc4 hkd rfl hg hg2 hG1 hG2 hab _ rfl k MF hM r1 r2 r3 r4 (Option.some.inj h)
   ·simp only [hg, hg2, if_true, if_neg hab, Option.some.injEq, Prod.mk.injEq] at h
    obtain ⟨rfl, rfl, rfl, rfl⟩ := h
    exact ref24_Of.bad2 kd kg kh a A1 c1 nx A2 c2 ac b B1 d1 mx B2 d2 bc most w hr1 hc1 hr2 hc2 hr3 hc3 hr4 hc4 hG1 hG2 hab

end Go.Proofs.Ytelkjbacdpmnfaa.A
