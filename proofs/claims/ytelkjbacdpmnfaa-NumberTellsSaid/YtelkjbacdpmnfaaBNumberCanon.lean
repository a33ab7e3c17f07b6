/- Contracts. -/
import Derived.Test.YtelkjbacdpmnfaaB0
import Derived.Test.YtelkjbacdpmnfaaBLeastOf
import Derived.Test.YtelkjbacdpmnfaaBNumberOf
import Derived.Test.YtelkjbacdpmnfaaBWordsA
import Derived.Test.YtelkjbacdpmnfaaBWordsB
namespace Go.Proofs.Ytelkjbacdpmnfaa.A
open Go.RowKit Go.W_.PrintWords Go.W_.PrintLast Go.W_.PrintMore
attribute [local go_sem] max2_int min2_int max_two min_two max_three min_three max_four min_four
set_option linter.unusedVariables false
set_option linter.unusedSimpArgs false

def number_Canon.f (k : Nat) (a0_0 : Int) (l0_1 : List (List Int)) (l0_2 : List Bool) : Option (Int × (List (List Int)) × List Bool × Bool) := (least_Of.f k a0_0 l0_1 l0_2).bind fun b => if b.2.2.2 = true then (number_Of.f k b.1 b.2.1 b.2.2.1).bind fun c => some (c.1, c.2.1, c.2.2.1, c.2.2.2) else some (0, [], [], false)
theorem number_Canon.mono : ∀ a0_0 l0_1 l0_2 k, LeO (number_Canon.f k a0_0 l0_1 l0_2) (number_Canon.f (k + 1) a0_0 l0_1 l0_2) := by
 intro a0_0 l0_1 l0_2 k
 unfold number_Canon.f
 refine LeO.bind (least_Of.mono _ _ _ _) fun b => ?_
 split
 ·exact LeO.bind (number_Of.mono _ _ _ _) fun _ => LeO.refl _
 ·exact LeO.refl _
set_option maxHeartbeats 8000000 in
set_option maxRecDepth 100000 in
theorem number_Canon.bad (k : Nat) (a0_0 : Int) (A0_1 : Option Addr) (c0_1 : Nat) (l0_1 : List (List Int)) (A0_2 : Option Addr) (c0_2 : Nat) (l0_2 : List Bool) (b1 : Int) (b2 : List (List Int)) (b3 : List Bool) (w : World) (hr0_1 : Kd.C (Kd.slice 3 (Kd.int .i64)) w A0_1 l0_1.length l0_1) (hc0_1 : l0_1.length ≤ c0_1) (hr0_2 : Kd.C Kd.bool w A0_2 l0_2.length l0_2) (hc0_2 : l0_2.length ≤ c0_2) (hb : least_Of.f k a0_0 l0_1 l0_2 = some (b1, b2, b3, false)) :
  Calls Try.prog 65 #[.agg #[.int .i64 a0_0, .slice A0_1 l0_1.length c0_1, .slice A0_2 l0_2.length c0_2]] w fun e w' => ∃ v1_ v2_ : Value, e = .returned (.tuple #[.agg #[.int .i64 0, v1_, v2_], .bool false]) ∧ Kd.S (Kd.slice 3 (Kd.int .i64)) 45 w' w.heap.size (fun _ => True) v1_ ([] : List (List Int)) ∧ Kd.R Kd.bool 4 w' w.heap.size (fun _ => True) v2_ ([] : List Bool) ∧ Below w.heap.size w w' := by
 have hu25 := Try.underlying25
 have hu45 := Try.underlying45
 have hu22 := Try.underlying22
 have hu23 := Try.underlying23
 have HR0_1 := Q0.mk hr0_1
 have HR0_2 := Q0.mk hr0_2
 clear hr0_1 hr0_2
 have ZB := Q0.mk hb
 clear hb
 obtain ⟨c1_, c2_, c3_⟩ := cells3 (show ((w.alloc (.cells #[.int .i64 a0_0, .slice A0_1 l0_1.length c0_1, .slice A0_2 l0_2.length c0_2] 25)).alloc (.cells #[.int .i64 0, .slice none 0 0, .slice none 0 0] 25)).heap[w.heap.size]? = some (.cells #[.int .i64 a0_0, .slice A0_1 l0_1.length c0_1, .slice A0_2 l0_2.length c0_2] 25 (0, 0)) from bA (new_at _ (by simp)) _)
 go_enter Try.func65, Try.ntmps65
 go_wp2_with (first | (go_at_call 48; have hF_ := ZB.1; clear ZB; (try clear c1_ c2_ c3_); refine calls_new (v := w) (F := fun W => W.heap[w.heap.size]? = some (.cells #[.int .i64 a0_0, .slice A0_1 l0_1.length c0_1, .slice A0_2 l0_2.length c0_2] 25 (0, 0)) ∧ W.heap[w.heap.size + 1]? = some (.cells #[.int .i64 0, .slice none 0 0, .slice none 0 0] 25 (0, 0))) (ba (ba (Below.refl _ _) (.cells #[.int .i64 a0_0, .slice A0_1 l0_1.length c0_1, .slice A0_2 l0_2.length c0_2] 25)) (.cells #[.int .i64 0, .slice none 0 0, .slice none 0 0] 25)) (⟨bA (new_at _ (by simp)) _, new_at _ (by simp)⟩) (fun w4_ b_ f_ => ?_); have S5_ := Q0.mk b_; have K6_ := Q0.mk f_.1; have K7_ := Q0.mk f_.2; clear b_ f_; refine (least_Of.calls k  a0_0 A0_1 c0_1 l0_1 A0_2 c0_2 l0_2  b1 b2 b3 false _ (Kd.C_below (HR0_1.1) (S5_.1)) hc0_1 (Kd.C_below (HR0_2.1) (S5_.1)) hc0_2  hF_).mono ?_; clear hF_; rintro e w8_ ⟨u_, v_, rfl, hS_, hR_, hb_⟩; obtain ⟨A10_, c11_, rfl⟩ := Kd.S_slice hS_; obtain ⟨A12_, c13_, rfl⟩ := Kd.R_slice hR_; have K14_ := Q0.mk (Kd.R_reads' (Kd.S_R hS_)).2.2; have L15_ := Q0.mk (Kd.R_reads' (Kd.S_R hS_)).2.1; have K16_ := Q0.mk (Kd.R_reads' hR_).2.2; have L17_ := Q0.mk (Kd.R_reads' hR_).2.1; clear hS_ hR_; have S9_ := Q0.mk hb_; clear hb_; have f18_ := bf (bb K7_.1 (bsz (S9_.1) (ba (Below.refl _ _) (.cells #[.int .i64 b1, .slice A10_ b2.length c11_, .slice A12_ b3.length c13_] 25)))) 0; have f19_ := bf (bb K7_.1 (bsz (S9_.1) (ba (Below.refl _ _) (.cells #[.int .i64 b1, .slice A10_ b2.length c11_, .slice A12_ b3.length c13_] 25)))) 1; have f20_ := bf (bb K7_.1 (bsz (S9_.1) (ba (Below.refl _ _) (.cells #[.int .i64 b1, .slice A10_ b2.length c11_, .slice A12_ b3.length c13_] 25)))) 2; obtain ⟨c21_, c22_, c23_⟩ := cells3 (bb K7_.1 (bsz (S9_.1) (ba (Below.refl _ _) (.cells #[.int .i64 b1, .slice A10_ b2.length c11_, .slice A12_ b3.length c13_] 25))))))
 have hb0_ := bp (cs' := #[.int .i64 0, .slice none 0 0, .slice none 0 0]) (bb K7_.1 (bsz (S9_.1) (ba (Below.refl _ _) (.cells #[.int .i64 b1, .slice A10_ b2.length c11_, .slice A12_ b3.length c13_] 25)))) 0 (.int .i64 0) rfl
 have hb1_ := bp (cs' := #[.int .i64 0, .slice none 0 0, .slice none 0 0]) hb0_ 1 (.slice none 0 0) rfl
 have hb2_ := bp (cs' := #[.int .i64 0, .slice none 0 0, .slice none 0 0]) hb1_ 2 (.slice none 0 0) rfl
 refine bodyPost_ret (results_ct (by rfl) _ _ (w.heap.size + 1) 25 #[.int .i64 0, .slice none 0 0, .slice none 0 0] (0, 0) _ (by rfl) (by exact hb2_) Try.underlying25 (by rfl) (by kernel_rfl)) (by rfl) ?_
 exact ⟨_, _, rfl, Kd.S_nil _ _ _ _ _, Kd.R_nil _ _ _ _ _, Below.setCell (Below.setCell (Below.setCell (bsz (bsz (S5_.1) S9_.1) (ba (Below.refl _ _) (.cells #[.int .i64 b1, .slice A10_ b2.length c11_, .slice A12_ b3.length c13_] 25))) (p := ⟨w.heap.size + 1, 0, none⟩) (by (try dsimp only); omega) (.int .i64 0)) (p := ⟨w.heap.size + 1, 1, none⟩) (by (try dsimp only); omega) (.slice none 0 0)) (p := ⟨w.heap.size + 1, 2, none⟩) (by (try dsimp only); omega) (.slice none 0 0)⟩
set_option maxHeartbeats 8000000 in
set_option maxRecDepth 100000 in
theorem number_Canon.main (k : Nat) (a0_0 : Int) (A0_1 : Option Addr) (c0_1 : Nat) (l0_1 : List (List Int)) (A0_2 : Option Addr) (c0_2 : Nat) (l0_2 : List Bool) (b1 : Int) (b2 : List (List Int)) (b3 : List Bool) (r1 : Int) (r2 : List (List Int)) (r3 : List Bool) (r4 : Bool) (w : World) (hr0_1 : Kd.C (Kd.slice 3 (Kd.int .i64)) w A0_1 l0_1.length l0_1) (hc0_1 : l0_1.length ≤ c0_1) (hr0_2 : Kd.C Kd.bool w A0_2 l0_2.length l0_2) (hc0_2 : l0_2.length ≤ c0_2) (hb : least_Of.f k a0_0 l0_1 l0_2 = some (b1, b2, b3, true)) (hc : number_Of.f k b1 b2 b3 = some (r1, r2, r3, r4)) :
  Calls Try.prog 65 #[.agg #[.int .i64 a0_0, .slice A0_1 l0_1.length c0_1, .slice A0_2 l0_2.length c0_2]] w fun e w' => ∃ v1_ v2_ : Value, e = .returned (.tuple #[.agg #[.int .i64 r1, v1_, v2_], .bool r4]) ∧ Kd.S (Kd.slice 3 (Kd.int .i64)) 45 w' w.heap.size (fun _ => True) v1_ r2 ∧ Kd.R Kd.bool 4 w' w.heap.size (fun _ => True) v2_ r3 ∧ Below w.heap.size w w' := by
 have hu25 := Try.underlying25
 have hu45 := Try.underlying45
 have hu22 := Try.underlying22
 have hu23 := Try.underlying23
 have HR0_1 := Q0.mk hr0_1
 have HR0_2 := Q0.mk hr0_2
 clear hr0_1 hr0_2
 have ZB := Q0.mk hb
 clear hb
 have ZC := Q0.mk hc
 clear hc
 obtain ⟨c1_, c2_, c3_⟩ := cells3 (show ((w.alloc (.cells #[.int .i64 a0_0, .slice A0_1 l0_1.length c0_1, .slice A0_2 l0_2.length c0_2] 25)).alloc (.cells #[.int .i64 0, .slice none 0 0, .slice none 0 0] 25)).heap[w.heap.size]? = some (.cells #[.int .i64 a0_0, .slice A0_1 l0_1.length c0_1, .slice A0_2 l0_2.length c0_2] 25 (0, 0)) from bA (new_at _ (by simp)) _)
 go_enter Try.func65, Try.ntmps65
 go_wp2_with (first | (go_at_call 48; have hF_ := ZB.1; clear ZB; (try clear c1_ c2_ c3_); refine calls_new (v := w) (F := fun W => W.heap[w.heap.size]? = some (.cells #[.int .i64 a0_0, .slice A0_1 l0_1.length c0_1, .slice A0_2 l0_2.length c0_2] 25 (0, 0)) ∧ W.heap[w.heap.size + 1]? = some (.cells #[.int .i64 0, .slice none 0 0, .slice none 0 0] 25 (0, 0))) (ba (ba (Below.refl _ _) (.cells #[.int .i64 a0_0, .slice A0_1 l0_1.length c0_1, .slice A0_2 l0_2.length c0_2] 25)) (.cells #[.int .i64 0, .slice none 0 0, .slice none 0 0] 25)) (⟨bA (new_at _ (by simp)) _, new_at _ (by simp)⟩) (fun w4_ b_ f_ => ?_); have S5_ := Q0.mk b_; have K6_ := Q0.mk f_.1; have K7_ := Q0.mk f_.2; clear b_ f_; refine (least_Of.calls k  a0_0 A0_1 c0_1 l0_1 A0_2 c0_2 l0_2  b1 b2 b3 true _ (Kd.C_below (HR0_1.1) (S5_.1)) hc0_1 (Kd.C_below (HR0_2.1) (S5_.1)) hc0_2  hF_).mono ?_; clear hF_; rintro e w8_ ⟨u_, v_, rfl, hS_, hR_, hb_⟩; obtain ⟨A10_, c11_, rfl⟩ := Kd.S_slice hS_; obtain ⟨A12_, c13_, rfl⟩ := Kd.R_slice hR_; have K14_ := Q0.mk (Kd.R_reads' (Kd.S_R hS_)).2.2; have L15_ := Q0.mk (Kd.R_reads' (Kd.S_R hS_)).2.1; have K16_ := Q0.mk (Kd.R_reads' hR_).2.2; have L17_ := Q0.mk (Kd.R_reads' hR_).2.1; clear hS_ hR_; have S9_ := Q0.mk hb_; clear hb_; obtain ⟨c18_, c19_, c20_⟩ := cells3 (show (w8_.alloc (.cells #[.int .i64 b1, .slice A10_ b2.length c11_, .slice A12_ b3.length c13_] 25)).heap[w8_.heap.size]? = some (.cells #[.int .i64 b1, .slice A10_ b2.length c11_, .slice A12_ b3.length c13_] 25 (0, 0)) from new_at _ (by simp)); have f21_ := bf (bb K7_.1 (bsz (S9_.1) (ba (Below.refl _ _) (.cells #[.int .i64 b1, .slice A10_ b2.length c11_, .slice A12_ b3.length c13_] 25)))) 0; have f22_ := bf (bb K7_.1 (bsz (S9_.1) (ba (Below.refl _ _) (.cells #[.int .i64 b1, .slice A10_ b2.length c11_, .slice A12_ b3.length c13_] 25)))) 1; have f23_ := bf (bb K7_.1 (bsz (S9_.1) (ba (Below.refl _ _) (.cells #[.int .i64 b1, .slice A10_ b2.length c11_, .slice A12_ b3.length c13_] 25)))) 2; obtain ⟨c24_, c25_, c26_⟩ := cells3 (bb K7_.1 (bsz (S9_.1) (ba (Below.refl _ _) (.cells #[.int .i64 b1, .slice A10_ b2.length c11_, .slice A12_ b3.length c13_] 25))))) | (go_at_call 64; have hF_ := ZC.1; clear ZC; (try clear c18_ c19_ c20_ f21_ f22_ f23_ c24_ c25_ c26_); refine calls_new (v := w8_) (F := fun W => W.heap[w8_.heap.size]? = some (.cells #[.int .i64 b1, .slice A10_ b2.length c11_, .slice A12_ b3.length c13_] 25 (0, 0))) (ba (Below.refl _ _) (.cells #[.int .i64 b1, .slice A10_ b2.length c11_, .slice A12_ b3.length c13_] 25)) (new_at _ (by simp)) (fun w27_ b_ f_ => ?_); have S28_ := Q0.mk b_; have K29_ := Q0.mk f_; clear b_ f_; refine (number_Of.calls k  b1 A10_ c11_ b2 A12_ c13_ b3  r1 r2 r3 r4 _ (Kd.C_below (K14_.1) (S28_.1)) L15_.1 (Kd.C_below (K16_.1) (S28_.1)) L17_.1  hF_).mono ?_; clear hF_; rintro e w30_ ⟨u_, v_, rfl, hS_, hR_, hb_⟩; obtain ⟨A34_, c35_, rfl⟩ := Kd.S_slice hS_; obtain ⟨A36_, c37_, rfl⟩ := Kd.R_slice hR_; have K38_ := Q0.mk (Kd.R_reads' (Kd.S_R hS_)).2.2; have L39_ := Q0.mk (Kd.R_reads' (Kd.S_R hS_)).2.1; have K40_ := Q0.mk (Kd.R_reads' hR_).2.2; have L41_ := Q0.mk (Kd.R_reads' hR_).2.1; have H32_ := Q0.mk hS_; have H33_ := Q0.mk hR_; clear hS_ hR_; have S31_ := Q0.mk hb_; clear hb_; have f42_ := bf (bb K7_.1 (bsz (bsz (S9_.1) S28_.1) S31_.1)) 0; have f43_ := bf (bb K7_.1 (bsz (bsz (S9_.1) S28_.1) S31_.1)) 1; have f44_ := bf (bb K7_.1 (bsz (bsz (S9_.1) S28_.1) S31_.1)) 2; obtain ⟨c45_, c46_, c47_⟩ := cells3 (bb K7_.1 (bsz (bsz (S9_.1) S28_.1) S31_.1))))
 have hb0_ := bp (cs' := #[.int .i64 r1, .slice none 0 0, .slice none 0 0]) (bb K7_.1 (bsz (bsz (S9_.1) S28_.1) S31_.1)) 0 (.int .i64 r1) rfl
 have s0_ := Kd.S_mono (ok' := fun _ => True) (Kd.S_far (p := ⟨w.heap.size + 1, 0, none⟩) (Kd.S_types (H32_.1) (bb K7_.1 (bsz (bsz (S9_.1) S28_.1) S31_.1)) (by decide)) (fun _ hk => hk.2) (.int .i64 r1)) (fun _ _ => trivial)
 have r0_ := Kd.R_set (H33_.1) (bb K7_.1 (bsz (bsz (S9_.1) S28_.1) S31_.1)) (by decide) 0 (.int .i64 r1)
 have hb1_ := bp (cs' := #[.int .i64 r1, .slice A34_ r2.length c35_, .slice none 0 0]) hb0_ 1 (.slice A34_ r2.length c35_) rfl
 have s1_ := Kd.S_mono (ok' := fun _ => True) (Kd.S_far (p := ⟨w.heap.size + 1, 1, none⟩) (Kd.S_types (s0_) hb0_ (by decide)) (fun _ hk => hk.2) (.slice A34_ r2.length c35_)) (fun _ _ => trivial)
 have r1_ := Kd.R_set (r0_) hb0_ (by decide) 1 (.slice A34_ r2.length c35_)
 have hb2_ := bp (cs' := #[.int .i64 r1, .slice A34_ r2.length c35_, .slice A36_ r3.length c37_]) hb1_ 2 (.slice A36_ r3.length c37_) rfl
 have s2_ := Kd.S_mono (ok' := fun _ => True) (Kd.S_far (p := ⟨w.heap.size + 1, 2, none⟩) (Kd.S_types (s1_) hb1_ (by decide)) (fun _ hk => hk.2) (.slice A36_ r3.length c37_)) (fun _ _ => trivial)
 have r2_ := Kd.R_set (r1_) hb1_ (by decide) 2 (.slice A36_ r3.length c37_)
 refine bodyPost_ret (results_ct (by rfl) _ _ (w.heap.size + 1) 25 #[.int .i64 r1, .slice A34_ r2.length c35_, .slice A36_ r3.length c37_] (0, 0) _ (by rfl) (by exact hb2_) Try.underlying25 (by rfl) (by kernel_rfl)) (by rfl) ?_
 exact ⟨_, _, rfl, Kd.S_lower s2_ (below_size (bsz (bsz (S5_.1) S9_.1) S28_.1)), Kd.R_lower r2_ (below_size (bsz (bsz (S5_.1) S9_.1) S28_.1)), Below.setCell (Below.setCell (Below.setCell (bsz (bsz (bsz (S5_.1) S9_.1) S28_.1) S31_.1) (p := ⟨w.heap.size + 1, 0, none⟩) (by (try dsimp only); omega) (.int .i64 r1)) (p := ⟨w.heap.size + 1, 1, none⟩) (by (try dsimp only); omega) (.slice A34_ r2.length c35_)) (p := ⟨w.heap.size + 1, 2, none⟩) (by (try dsimp only); omega) (.slice A36_ r3.length c37_)⟩
theorem number_Canon.calls (k : Nat) (a0_0 : Int) (A0_1 : Option Addr) (c0_1 : Nat) (l0_1 : List (List Int)) (A0_2 : Option Addr) (c0_2 : Nat) (l0_2 : List Bool) (r1 : Int) (r2 : List (List Int)) (r3 : List Bool) (r4 : Bool) (w : World) (hr0_1 : Kd.C (Kd.slice 3 (Kd.int .i64)) w A0_1 l0_1.length l0_1) (hc0_1 : l0_1.length ≤ c0_1) (hr0_2 : Kd.C Kd.bool w A0_2 l0_2.length l0_2) (hc0_2 : l0_2.length ≤ c0_2) (h : number_Canon.f k a0_0 l0_1 l0_2 = some (r1, r2, r3, r4)) :
  Calls Try.prog 65 #[.agg #[.int .i64 a0_0, .slice A0_1 l0_1.length c0_1, .slice A0_2 l0_2.length c0_2]] w fun e w' => ∃ v1_ v2_ : Value, e = .returned (.tuple #[.agg #[.int .i64 r1, v1_, v2_], .bool r4]) ∧ Kd.S (Kd.slice 3 (Kd.int .i64)) 45 w' w.heap.size (fun _ => True) v1_ r2 ∧ Kd.R Kd.bool 4 w' w.heap.size (fun _ => True) v2_ r3 ∧ Below w.heap.size w w' := by
 unfold number_Canon.f at h
 obtain ⟨⟨b1, b2, b3, b4⟩, hb, h⟩ := Option.bind_eq_some_iff.mp h
 cases b4 with
 | false =>
  simp only [Bool.false_eq_true, if_false, Option.some.injEq, Prod.mk.injEq] at h
  obtain ⟨rfl, rfl, rfl, rfl⟩ := h
  exact number_Canon.bad k a0_0 A0_1 c0_1 l0_1 A0_2 c0_2 l0_2 b1 b2 b3 w hr0_1 hc0_1 hr0_2 hc0_2 hb
 | true =>
  rw [if_pos rfl] at h
  obtain ⟨⟨c1, c2, c3, c4⟩, hc, h⟩ := Option.bind_eq_some_iff.mp h
  simp only [Option.some.injEq, Prod.mk.injEq] at h
  obtain ⟨rfl, rfl, rfl, rfl⟩ := h
  exact number_Canon.main k a0_0 A0_1 c0_1 l0_1 A0_2 c0_2 l0_2 b1 b2 b3 _ _ _ _ w hr0_1 hc0_1 hr0_2 hc0_2 hb hc

end Go.Proofs.Ytelkjbacdpmnfaa.A
