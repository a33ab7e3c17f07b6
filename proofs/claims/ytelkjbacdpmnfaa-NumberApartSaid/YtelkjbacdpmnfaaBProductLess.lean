/- By a program, out of the translation (wip/myprint.py). -/
import Derived.Test.YtelkjbacdpmnfaaB0
import Derived.Test.YtelkjbacdpmnfaaBProdF
import Derived.Test.YtelkjbacdpmnfaaBProdMade
import Derived.Test.YtelkjbacdpmnfaaBWordsA
import Derived.Test.YtelkjbacdpmnfaaBWordsB
namespace Go.Proofs.Ytelkjbacdpmnfaa.A
open Go.RowKit Go.W_.PrintWords Go.W_.PrintLast Go.W_.PrintMore
attribute [local go_sem] max2_int min2_int max_two min_two max_three min_three max_four min_four
set_option linter.unusedVariables false
set_option linter.unusedSimpArgs false

def product_Less.f (k : Nat) (a0_0 : Int) (l0_1 : List (List Int)) (l0_2 : List Bool) (a1_0 : Int) (l1_1 : List (List Int)) (l1_2 : List Bool) (a2 : Int) : Option (Int × (List (List Int)) × List Bool × Int) := prodF (fun x y => x && !y) k a0_0 l0_1 l0_2 a1_0 l1_1 l1_2 a2
theorem product_Less.mono : ∀ a0 a1 a2 a3 a4 a5 a6 k, LeO (product_Less.f k a0 a1 a2 a3 a4 a5 a6) (product_Less.f (k + 1) a0 a1 a2 a3 a4 a5 a6) := fun a0 a1 a2 a3 a4 a5 a6 k => prodF_mono _ k a0 a1 a2 a3 a4 a5 a6
theorem product_Less.ends (x y : Bool) (w : World) : Calls Try.prog 113 #[.bool x, .bool y] w fun e w' => e = .returned (.bool ((fun x y => x && !y) x y)) ∧ Below w.heap.size w w' := by
  cases x <;> cases y <;> (go_enter Try.func113, Try.ntmps113; go_wp2; go_ret; exact ⟨rfl, Below.refl _ _⟩)
set_option maxHeartbeats 8000000 in
set_option maxRecDepth 100000 in
theorem product_Less.calls (k : Nat) (a0_0 : Int) (A0_1 : Option Addr) (c0_1 : Nat) (l0_1 : List (List Int)) (A0_2 : Option Addr) (c0_2 : Nat) (l0_2 : List Bool) (a1_0 : Int) (A1_1 : Option Addr) (c1_1 : Nat) (l1_1 : List (List Int)) (A1_2 : Option Addr) (c1_2 : Nat) (l1_2 : List Bool) (a2 : Int) (r1 : Int) (r2 : List (List Int)) (r3 : List Bool) (r4 : Int) (w : World) (hr0_1 : Kd.C (Kd.slice 3 (Kd.int .i64)) w A0_1 l0_1.length l0_1) (hc0_1 : l0_1.length ≤ c0_1) (hr0_2 : Kd.C Kd.bool w A0_2 l0_2.length l0_2) (hc0_2 : l0_2.length ≤ c0_2) (hr1_1 : Kd.C (Kd.slice 3 (Kd.int .i64)) w A1_1 l1_1.length l1_1) (hc1_1 : l1_1.length ≤ c1_1) (hr1_2 : Kd.C Kd.bool w A1_2 l1_2.length l1_2) (hc1_2 : l1_2.length ≤ c1_2) (h : product_Less.f k a0_0 l0_1 l0_2 a1_0 l1_1 l1_2 a2 = some (r1, r2, r3, r4)) :
    Calls Try.prog 76 #[.agg #[.int .i64 a0_0, .slice A0_1 l0_1.length c0_1, .slice A0_2 l0_2.length c0_2], .agg #[.int .i64 a1_0, .slice A1_1 l1_1.length c1_1, .slice A1_2 l1_2.length c1_2], .int .i64 a2] w fun e w' => ∃ v1_ v2_ : Value, e = .returned (.tuple #[.agg #[.int .i64 r1, v1_, v2_], .int .i64 r4]) ∧ Kd.S (Kd.slice 3 (Kd.int .i64)) 45 w' w.heap.size (fun _ => True) v1_ r2 ∧ Kd.R Kd.bool 4 w' w.heap.size (fun _ => True) v2_ r3 ∧ Below w.heap.size w w' := by
  have hu25 := Try.underlying25
  have hu45 := Try.underlying45
  have hu22 := Try.underlying22
  have hu23 := Try.underlying23
  have HR0_1 := Q0.mk hr0_1
  have HR0_2 := Q0.mk hr0_2
  clear hr0_1 hr0_2
  have HR1_1 := Q0.mk hr1_1
  have HR1_2 := Q0.mk hr1_2
  clear hr1_1 hr1_2
  have ZH : Q0 (prodF (fun x y => x && !y) k a0_0 l0_1 l0_2 a1_0 l1_1 l1_2 a2 = some (r1, r2, r3, r4)) := ⟨h⟩
  clear h
  obtain ⟨c1_, c2_, c3_⟩ := cells3 (show (((w.alloc (.cells #[.int .i64 a0_0, .slice A0_1 l0_1.length c0_1, .slice A0_2 l0_2.length c0_2] 25)).alloc (.cells #[.int .i64 a1_0, .slice A1_1 l1_1.length c1_1, .slice A1_2 l1_2.length c1_2] 25)).alloc (.cells #[.int .i64 0, .slice none 0 0, .slice none 0 0] 25)).heap[w.heap.size]? = some (.cells #[.int .i64 a0_0, .slice A0_1 l0_1.length c0_1, .slice A0_2 l0_2.length c0_2] 25 (0, 0)) from bA (bA (new_at _ (by simp)) _) _)
  obtain ⟨c4_, c5_, c6_⟩ := cells3 (show (((w.alloc (.cells #[.int .i64 a0_0, .slice A0_1 l0_1.length c0_1, .slice A0_2 l0_2.length c0_2] 25)).alloc (.cells #[.int .i64 a1_0, .slice A1_1 l1_1.length c1_1, .slice A1_2 l1_2.length c1_2] 25)).alloc (.cells #[.int .i64 0, .slice none 0 0, .slice none 0 0] 25)).heap[w.heap.size + 1]? = some (.cells #[.int .i64 a1_0, .slice A1_1 l1_1.length c1_1, .slice A1_2 l1_2.length c1_2] 25 (0, 0)) from bA (new_at _ (by simp)) _)
  have f7_ := bf (show (((w.alloc (.cells #[.int .i64 a0_0, .slice A0_1 l0_1.length c0_1, .slice A0_2 l0_2.length c0_2] 25)).alloc (.cells #[.int .i64 a1_0, .slice A1_1 l1_1.length c1_1, .slice A1_2 l1_2.length c1_2] 25)).alloc (.cells #[.int .i64 0, .slice none 0 0, .slice none 0 0] 25)).heap[w.heap.size + 1 + 1]? = some (.cells #[.int .i64 0, .slice none 0 0, .slice none 0 0] 25 (0, 0)) from new_at _ (by simp)) 0
  have f8_ := bf (show (((w.alloc (.cells #[.int .i64 a0_0, .slice A0_1 l0_1.length c0_1, .slice A0_2 l0_2.length c0_2] 25)).alloc (.cells #[.int .i64 a1_0, .slice A1_1 l1_1.length c1_1, .slice A1_2 l1_2.length c1_2] 25)).alloc (.cells #[.int .i64 0, .slice none 0 0, .slice none 0 0] 25)).heap[w.heap.size + 1 + 1]? = some (.cells #[.int .i64 0, .slice none 0 0, .slice none 0 0] 25 (0, 0)) from new_at _ (by simp)) 1
  have f9_ := bf (show (((w.alloc (.cells #[.int .i64 a0_0, .slice A0_1 l0_1.length c0_1, .slice A0_2 l0_2.length c0_2] 25)).alloc (.cells #[.int .i64 a1_0, .slice A1_1 l1_1.length c1_1, .slice A1_2 l1_2.length c1_2] 25)).alloc (.cells #[.int .i64 0, .slice none 0 0, .slice none 0 0] 25)).heap[w.heap.size + 1 + 1]? = some (.cells #[.int .i64 0, .slice none 0 0, .slice none 0 0] 25 (0, 0)) from new_at _ (by simp)) 2
  obtain ⟨c10_, c11_, c12_⟩ := cells3 (show (((w.alloc (.cells #[.int .i64 a0_0, .slice A0_1 l0_1.length c0_1, .slice A0_2 l0_2.length c0_2] 25)).alloc (.cells #[.int .i64 a1_0, .slice A1_1 l1_1.length c1_1, .slice A1_2 l1_2.length c1_2] 25)).alloc (.cells #[.int .i64 0, .slice none 0 0, .slice none 0 0] 25)).heap[w.heap.size + 1 + 1]? = some (.cells #[.int .i64 0, .slice none 0 0, .slice none 0 0] 25 (0, 0)) from new_at _ (by simp))
  go_enter Try.func76, Try.ntmps76
  go_wp2_with (first | (go_at_call 110; have hF_ := ZH.out; clear ZH; (try clear c1_ c2_ c3_ c4_ c5_ c6_ f7_ f8_ f9_ c10_ c11_ c12_); refine calls_new (v := w) (F := fun W => W.heap[w.heap.size]? = some (.cells #[.int .i64 a0_0, .slice A0_1 l0_1.length c0_1, .slice A0_2 l0_2.length c0_2] 25 (0, 0)) ∧ W.heap[w.heap.size + 1]? = some (.cells #[.int .i64 a1_0, .slice A1_1 l1_1.length c1_1, .slice A1_2 l1_2.length c1_2] 25 (0, 0)) ∧ W.heap[w.heap.size + 1 + 1]? = some (.cells #[.int .i64 0, .slice none 0 0, .slice none 0 0] 25 (0, 0))) (ba (ba (ba (Below.refl _ _) (.cells #[.int .i64 a0_0, .slice A0_1 l0_1.length c0_1, .slice A0_2 l0_2.length c0_2] 25)) (.cells #[.int .i64 a1_0, .slice A1_1 l1_1.length c1_1, .slice A1_2 l1_2.length c1_2] 25)) (.cells #[.int .i64 0, .slice none 0 0, .slice none 0 0] 25)) (⟨bA (bA (new_at _ (by simp)) _) _, bA (new_at _ (by simp)) _, new_at _ (by simp)⟩) (fun w13_ b_ f_ => ?_); have S14_ := Q0.mk b_; have K15_ := Q0.mk f_.1; have K16_ := Q0.mk f_.2.1; have K17_ := Q0.mk f_.2.2; clear b_ f_; refine (product_made.told (fun x y => x && !y) 113 Try.f113 Try.func113 (by kernel_rfl) (by kernel_rfl) product_Less.ends k  a0_0 A0_1 c0_1 l0_1 A0_2 c0_2 l0_2 a1_0 A1_1 c1_1 l1_1 A1_2 c1_2 l1_2 a2 r1 r2 r3 r4 _ (Kd.C_below (HR0_1.out) (S14_.out)) hc0_1 (Kd.C_below (HR0_2.out) (S14_.out)) hc0_2 (Kd.C_below (HR1_1.out) (S14_.out)) hc1_1 (Kd.C_below (HR1_2.out) (S14_.out)) hc1_2  hF_).mono ?_; clear hF_; rintro e w18_ ⟨u_, v_, rfl, hS_, hR_, hb_⟩; obtain ⟨A22_, c23_, rfl⟩ := Kd.S_slice hS_; obtain ⟨A24_, c25_, rfl⟩ := Kd.R_slice hR_; have K26_ := Q0.mk (Kd.R_reads' (Kd.S_R hS_)).2.2; have L27_ := Q0.mk (Kd.R_reads' (Kd.S_R hS_)).2.1; have K28_ := Q0.mk (Kd.R_reads' hR_).2.2; have L29_ := Q0.mk (Kd.R_reads' hR_).2.1; have H20_ := Q0.mk hS_; have H21_ := Q0.mk hR_; clear hS_ hR_; have S19_ := Q0.mk hb_; clear hb_; have f30_ := bf (bb K17_.out (S19_.out)) 0; have f31_ := bf (bb K17_.out (S19_.out)) 1; have f32_ := bf (bb K17_.out (S19_.out)) 2; obtain ⟨c33_, c34_, c35_⟩ := cells3 (bb K17_.out (S19_.out))))
  have hb0_ := bp (cs' := #[.int .i64 r1, .slice none 0 0, .slice none 0 0]) (bb K17_.out (S19_.out)) 0 (.int .i64 r1) rfl
  have s0_ := Kd.S_mono (ok' := fun _ => True) (Kd.S_far (p := ⟨w.heap.size + 1 + 1, 0, none⟩) (Kd.S_types (H20_.out) (bb K17_.out (S19_.out)) (by decide)) (fun _ hk => hk.2) (.int .i64 r1)) (fun _ _ => trivial)
  have r0_ := Kd.R_set (H21_.out) (bb K17_.out (S19_.out)) (by decide) 0 (.int .i64 r1)
  have hb1_ := bp (cs' := #[.int .i64 r1, .slice A22_ r2.length c23_, .slice none 0 0]) hb0_ 1 (.slice A22_ r2.length c23_) rfl
  have s1_ := Kd.S_mono (ok' := fun _ => True) (Kd.S_far (p := ⟨w.heap.size + 1 + 1, 1, none⟩) (Kd.S_types (s0_) hb0_ (by decide)) (fun _ hk => hk.2) (.slice A22_ r2.length c23_)) (fun _ _ => trivial)
  have r1_ := Kd.R_set (r0_) hb0_ (by decide) 1 (.slice A22_ r2.length c23_)
  have hb2_ := bp (cs' := #[.int .i64 r1, .slice A22_ r2.length c23_, .slice A24_ r3.length c25_]) hb1_ 2 (.slice A24_ r3.length c25_) rfl
  have s2_ := Kd.S_mono (ok' := fun _ => True) (Kd.S_far (p := ⟨w.heap.size + 1 + 1, 2, none⟩) (Kd.S_types (s1_) hb1_ (by decide)) (fun _ hk => hk.2) (.slice A24_ r3.length c25_)) (fun _ _ => trivial)
  have r2_ := Kd.R_set (r1_) hb1_ (by decide) 2 (.slice A24_ r3.length c25_)
  refine bodyPost_ret (results_ct (by rfl) _ _ (w.heap.size + 1 + 1) 25 #[.int .i64 r1, .slice A22_ r2.length c23_, .slice A24_ r3.length c25_] (0, 0) _ (by rfl) (by exact hb2_) Try.underlying25 (by rfl) (by kernel_rfl)) (by rfl) ?_
  exact ⟨_, _, rfl, Kd.S_lower s2_ (below_size (S14_.out)), Kd.R_lower r2_ (below_size (S14_.out)), Below.setCell (Below.setCell (Below.setCell (bsz (S14_.out) S19_.out) (p := ⟨w.heap.size + 1 + 1, 0, none⟩) (by (try dsimp only); omega) (.int .i64 r1)) (p := ⟨w.heap.size + 1 + 1, 1, none⟩) (by (try dsimp only); omega) (.slice A22_ r2.length c23_)) (p := ⟨w.heap.size + 1 + 1, 2, none⟩) (by (try dsimp only); omega) (.slice A24_ r3.length c25_)⟩

end Go.Proofs.Ytelkjbacdpmnfaa.A
