/- Contracts. -/
import Derived.Test.YtelkjbacdpmnfaaB0
import Derived.Test.YtelkjbacdpmnfaaBWordsA

namespace Go.Proofs.Ytelkjbacdpmnfaa.A
open Go.RowKit Go.W_.PrintWords Go.W_.PrintLast Go.W_.PrintMore
attribute [local go_sem] max2_int min2_int max_two min_two max_three min_three max_four min_four
set_option linter.unusedVariables false
set_option linter.unusedSimpArgs false

def cl19_One.f (a0 : Int) : Option (Int × (List (List Int)) × List Bool) := if a0 = 0 then some (2, [[1, 2], [2, 2], [2, 2]], [false, true, false]) else if a0 = 1 then some (2, [[2, 1], [2, 2], [2, 2]], [false, true, false]) else none

theorem blk_new_at {W : World} (w : World) (n : Nat) (o : Obj) (h : W.heap.size = w.heap.size + n) : (W.alloc o).heap[w.heap.size + n]? = some o := by rw [← h]; exact bn W o

theorem one_world (w : World) (x y : Int) : let W := (((((((w.alloc (Obj.cells #[.int .i64 2, .slice (some ⟨w.heap.size + 1 + 1 + 1 + 1, 0, none⟩) 3 3, .slice (some ⟨w.heap.size + 1 + 1 + 1 + 1 + 1, 0, none⟩) 3 3] 25)).alloc (Obj.cells #[.int .i64 x, .int .i64 y] 3)).alloc (Obj.cells #[.int .i64 2, .int .i64 2] 3)).alloc (Obj.cells #[.int .i64 2, .int .i64 2] 3)).alloc (Obj.cells #[.slice (some ⟨w.heap.size + 1, 0, none⟩) 2 2, .slice (some ⟨w.heap.size + 1 + 1, 0, none⟩) 2 2, .slice (some ⟨w.heap.size + 1 + 1 + 1, 0, none⟩) 2 2] 45)).alloc (Obj.cells #[.bool false, .bool true, .bool false] 4)).alloc (Obj.cells #[.int .i64 2, .slice (some ⟨w.heap.size + 1 + 1 + 1 + 1, 0, none⟩) 3 3, .slice (some ⟨w.heap.size + 1 + 1 + 1 + 1 + 1, 0, none⟩) 3 3] 25))
  W.heap[w.heap.size]? = some (.cells #[.int .i64 2, .slice (some ⟨w.heap.size + 1 + 1 + 1 + 1, 0, none⟩) 3 3, .slice (some ⟨w.heap.size + 1 + 1 + 1 + 1 + 1, 0, none⟩) 3 3] 25 (0, 0)) ∧ W.heap[w.heap.size + 1]? = some (.cells #[.int .i64 x, .int .i64 y] 3 (0, 0)) ∧ W.heap[w.heap.size + 1 + 1]? = some (.cells #[.int .i64 2, .int .i64 2] 3 (0, 0)) ∧ W.heap[w.heap.size + 1 + 1 + 1]? = some (.cells #[.int .i64 2, .int .i64 2] 3 (0, 0)) ∧
  W.heap[w.heap.size + 1 + 1 + 1 + 1]? = some (.cells #[.slice (some ⟨w.heap.size + 1, 0, none⟩) 2 2, .slice (some ⟨w.heap.size + 1 + 1, 0, none⟩) 2 2, .slice (some ⟨w.heap.size + 1 + 1 + 1, 0, none⟩) 2 2] 45 (0, 0)) ∧ W.heap[w.heap.size + 1 + 1 + 1 + 1 + 1]? = some (.cells #[.bool false, .bool true, .bool false] 4 (0, 0)) := by
 refine ⟨?_, ?_, ?_, ?_, ?_, ?_⟩
 ·exact bA (bA (bA (bA (bA (bA (bn w _) _) _) _) _) _) _
 ·exact bA (bA (bA (bA (bA (blk_new_at w 1 _ (by simp)) _) _) _) _) _
 ·exact bA (bA (bA (bA (blk_new_at w 2 _ (by simp)) _) _) _) _
 ·exact bA (bA (bA (blk_new_at w 3 _ (by simp)) _) _) _
 ·exact bA (bA (blk_new_at w 4 _ (by simp)) _) _
 ·exact bA (blk_new_at w 5 _ (by simp)) _

theorem one_S {w W : World} {x y : Int} (b1 : W.heap[w.heap.size + 1]? = some (.cells #[.int .i64 x, .int .i64 y] 3 (0, 0))) (b2 : W.heap[w.heap.size + 1 + 1]? = some (.cells #[.int .i64 2, .int .i64 2] 3 (0, 0))) (b3 : W.heap[w.heap.size + 1 + 1 + 1]? = some (.cells #[.int .i64 2, .int .i64 2] 3 (0, 0)))
  (b4 : W.heap[w.heap.size + 1 + 1 + 1 + 1]? = some (.cells #[.slice (some ⟨w.heap.size + 1, 0, none⟩) 2 2, .slice (some ⟨w.heap.size + 1 + 1, 0, none⟩) 2 2, .slice (some ⟨w.heap.size + 1 + 1 + 1, 0, none⟩) 2 2] 45 (0, 0))) :
  Kd.S (Kd.slice 3 (Kd.int .i64)) 45 W w.heap.size (fun _ => True) (.slice (some ⟨w.heap.size + 1 + 1 + 1 + 1, 0, none⟩) 3 3) [[x, y], [2, 2], [2, 2]] := by
 have r1 : (Kd.int .i64).R 3 W w.heap.size (fun _ => True) (.slice (some ⟨w.heap.size + 1, 0, none⟩) 2 2) [x, y] := scalar_blk (xs := [x, y]) (by simpa using b1) (by omega) trivial (by simp [maxLen])
 have r2 : (Kd.int .i64).R 3 W w.heap.size (fun _ => True) (.slice (some ⟨w.heap.size + 1 + 1, 0, none⟩) 2 2) [2, 2] := scalar_blk (xs := [2, 2]) (by simpa using b2) (by omega) trivial (by simp [maxLen])
 have r3 : (Kd.int .i64).R 3 W w.heap.size (fun _ => True) (.slice (some ⟨w.heap.size + 1 + 1 + 1, 0, none⟩) 2 2) [2, 2] := scalar_blk (xs := [2, 2]) (by simpa using b3) (by omega) trivial (by simp [maxLen])
 refine S_of_hdrsI (hs := [(some ⟨w.heap.size + 1, 0, none⟩, 2, 2), (some ⟨w.heap.size + 1 + 1, 0, none⟩, 2, 2), (some ⟨w.heap.size + 1 + 1 + 1, 0, none⟩, 2, 2)]) (scalar_blk (enc := encH) (h1 := encH_one) (xs := [(some ⟨w.heap.size + 1, 0, none⟩, 2, 2), (some ⟨w.heap.size + 1 + 1, 0, none⟩, 2, 2), (some ⟨w.heap.size + 1 + 1 + 1, 0, none⟩, 2, 2)]) (by simpa [encH] using b4) (by omega) trivial (by simp [maxLen])) ?_
 refine RowsI.cons r1 (RowsI.cons r2 (RowsI.of_R (h := (some ⟨w.heap.size + 1 + 1 + 1, 0, none⟩, 2, 2)) r3) ?_) ?_
 ·intro y hy
  simp at hy
  subst hy
  simp [encH, Value.ownBlock]
 ·intro y hy
  simp at hy
  rcases hy with rfl | rfl <;> simp [encH, Value.ownBlock] <;> omega

theorem one_R {w W : World} (b5 : W.heap[w.heap.size + 1 + 1 + 1 + 1 + 1]? = some (.cells #[.bool false, .bool true, .bool false] 4 (0, 0))) :
  Kd.bool.R 4 W w.heap.size (fun _ => True) (.slice (some ⟨w.heap.size + 1 + 1 + 1 + 1 + 1, 0, none⟩) 3 3) [false, true, false] :=
 scalar_blk (xs := [false, true, false]) (by simpa using b5) (by omega) trivial (by simp [maxLen])

set_option maxHeartbeats 800000 in
set_option maxRecDepth 100000 in
theorem one80 (c : Int) (r1 : Int) (r2 : List (List Int)) (r3 : List Bool) (w : World) (h : cl19_One.f c = some (r1, r2, r3)) :
  Calls Try.prog 80 #[.int .i64 c] w fun e w' => ∃ v1_ v2_ : Value, e = .returned (.agg #[.int .i64 r1, v1_, v2_]) ∧ Kd.S (Kd.slice 3 (Kd.int .i64)) 45 w' w.heap.size (fun _ => True) v1_ r2 ∧ Kd.R Kd.bool 4 w' w.heap.size (fun _ => True) v2_ r3 ∧ Below w.heap.size w w' := by
 have hu25 := Try.underlying25
 have hu22 := Try.underlying22
 have hu45 := Try.underlying45
 have hcs : (c = 0 ∧ r1 = 2 ∧ r2 = [[1, 2], [2, 2], [2, 2]] ∧ r3 = [false, true, false]) ∨ (c = 1 ∧ r1 = 2 ∧ r2 = [[2, 1], [2, 2], [2, 2]] ∧ r3 = [false, true, false]) := by
  unfold cl19_One.f at h
  split at h
  ·simp only [Option.some.injEq, Prod.mk.injEq] at h
   exact .inl ⟨by assumption, h.1.symm, h.2.1.symm, h.2.2.symm⟩
  ·split at h
   ·simp only [Option.some.injEq, Prod.mk.injEq] at h
    exact .inr ⟨by assumption, h.1.symm, h.2.1.symm, h.2.2.symm⟩
   ·cases h
 clear h
 rcases hcs with ⟨rfl, rfl, rfl, rfl⟩ | ⟨rfl, rfl, rfl, rfl⟩
 ·go_enter Try.func80, Try.ntmps80
  go_wp2
  have e := one_world w 1 2
  obtain ⟨b0, b1, b2, b3, b4, b5⟩ := e
  refine bodyPost_ret (results_cell_row rfl _ _ w.heap.size 25 #[.int .i64 2, .slice (some ⟨w.heap.size + 1 + 1 + 1 + 1, 0, none⟩) 3 3, .slice (some ⟨w.heap.size + 1 + 1 + 1 + 1 + 1, 0, none⟩) 3 3] (0, 0) _ rfl b0 Try.underlying25 rfl (by kernel_rfl)) rfl ?_
  refine ⟨_, _, rfl, one_S b1 b2 b3 b4, one_R b5, ?_⟩
  repeat (first | exact Below.refl _ _ | refine ba ?_ _)
 ·go_enter Try.func80, Try.ntmps80
  go_wp2
  have e := one_world w 2 1
  obtain ⟨b0, b1, b2, b3, b4, b5⟩ := e
  refine bodyPost_ret (results_cell_row rfl _ _ w.heap.size 25 #[.int .i64 2, .slice (some ⟨w.heap.size + 1 + 1 + 1 + 1, 0, none⟩) 3 3, .slice (some ⟨w.heap.size + 1 + 1 + 1 + 1 + 1, 0, none⟩) 3 3] (0, 0) _ rfl b0 Try.underlying25 rfl (by kernel_rfl)) rfl ?_
  refine ⟨_, _, rfl, one_S b1 b2 b3 b4, one_R b5, ?_⟩
  repeat (first | exact Below.refl _ _ | refine ba ?_ _)

theorem cl19_One.calls (a0 : Int) (r1 : Int) (r2 : List (List Int)) (r3 : List Bool) (w : World) (h : cl19_One.f a0 = some (r1, r2, r3)) :
  Calls Try.prog 80 #[.int .i64 a0] w fun e w' => ∃ v1_ v2_ : Value, e = .returned (.agg #[.int .i64 r1, v1_, v2_]) ∧ Kd.S (Kd.slice 3 (Kd.int .i64)) 45 w' w.heap.size (fun _ => True) v1_ r2 ∧ Kd.R Kd.bool 4 w' w.heap.size (fun _ => True) v2_ r3 ∧ Below w.heap.size w w' := one80 a0 r1 r2 r3 w h

end Go.Proofs.Ytelkjbacdpmnfaa.A
