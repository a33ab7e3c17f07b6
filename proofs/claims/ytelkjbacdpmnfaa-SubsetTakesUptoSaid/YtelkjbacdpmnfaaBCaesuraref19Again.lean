/- Contracts. -/
import Derived.Test.YtelkjbacdpmnfaaB0
import Derived.Test.YtelkjbacdpmnfaaBCaesuraref19Fresh
import Derived.Test.YtelkjbacdpmnfaaBCaesuraref19Good
import Derived.Test.YtelkjbacdpmnfaaBCaesuraref19Nothing
import Derived.Test.YtelkjbacdpmnfaaBPlainGood
import Derived.Test.YtelkjbacdpmnfaaBPlainOne
import Derived.Test.YtelkjbacdpmnfaaBThompsonGood
import Derived.Test.YtelkjbacdpmnfaaBThompsonLay
import Derived.Test.YtelkjbacdpmnfaaBThompsonNets
import Derived.Test.YtelkjbacdpmnfaaBThompsonRefNets
import Derived.Test.YtelkjbacdpmnfaaBWordsA










namespace Go.Proofs.Ytelkjbacdpmnfaa.A
open Go.RowKit Go.W_.PrintWords Go.W_.PrintLast Go.W_.PrintMore
attribute [local go_sem] max2_int min2_int max_two min_two max_three min_three max_four min_four
set_option linter.unusedVariables false
set_option linter.unusedSimpArgs false

def cr19_Again.f (a0_0 : Int) (l0_1 : List (List Int)) (l0_2 : List Bool) : Option (Int × (List (List (S82))) × Bool) := if goodB a0_0 l0_1 l0_2 = true then some (a0_0, [[noth 1, noth 2], []] ++ List.zipWith (laidRow 2 0) l0_1 l0_2, true) else some (0, [], false)
set_option maxHeartbeats 8000000 in
set_option maxRecDepth 100000 in
theorem cr19_Again.calls (a0_0 : Int) (A0_1 : Option Addr) (c0_1 : Nat) (l0_1 : List (List Int)) (A0_2 : Option Addr) (c0_2 : Nat) (l0_2 : List Bool) (r1 : Int) (r2 : List (List (S82))) (r3 : Bool) (w : World) (hr0_1 : Kd.C (Kd.slice 3 (Kd.int .i64)) w A0_1 l0_1.length l0_1) (hc0_1 : l0_1.length ≤ c0_1) (hr0_2 : Kd.C Kd.bool w A0_2 l0_2.length l0_2) (hc0_2 : l0_2.length ≤ c0_2) (h : cr19_Again.f a0_0 l0_1 l0_2 = some (r1, r2, r3)) :
  Calls Try.prog 35 #[.agg #[.int .i64 a0_0, .slice A0_1 l0_1.length c0_1, .slice A0_2 l0_2.length c0_2]] w fun e w' => ∃ v1_ : Value, e = .returned (.agg #[.int .i64 r1, v1_, .bool r3]) ∧ Kd.S (Kd.slice 82 k82) 79 w' w.heap.size (fun _ => True) v1_ r2 ∧ Below w.heap.size w w' := by
 have hu25 := Try.underlying25
 have hu28 := Try.underlying28
 have hu38 := Try.underlying38
 have hu26 := Try.underlying26
 have hu79 := Try.underlying79
 have hu82 := Try.underlying82
 have hlm0 := hr0_1.2.1
 have HR0_1 := Q0z.mk hr0_1
 have HR0_2 := Q0z.mk hr0_2
 clear hr0_1 hr0_2
 unfold cr19_Again.f at h
 obtain ⟨kg0, hkg0⟩ := Ev.rounds (ev_refGood a0_0 l0_1 l0_2)
 cases hg0 : goodB a0_0 l0_1 l0_2 with
 | false =>
  rw [hg0] at h hkg0
  have hG0 := fun (W : World) (hb : Below w.heap.size w W) => cr19_Good.calls kg0 a0_0 A0_1 c0_1 l0_1 A0_2 c0_2 l0_2 false W (Kd.C_below HR0_1.1 hb) hc0_1 (Kd.C_below HR0_2.1 hb) hc0_2 hkg0
  have HG0 := Q0z.mk hG0
  clear hG0
  clear hkg0 hg0
  simp only [Bool.false_eq_true, if_false, Option.some.injEq, Prod.mk.injEq] at h
  obtain ⟨rfl, rfl, rfl⟩ := h
  go_enter Try.func35, Try.ntmps35
  go_wp2_with ((go_at_call 37; refine (HG0.1 _ (ba (ba (Below.refl w.heap.size w) (Obj.cells #[.int .i64 a0_0, .slice A0_1 l0_1.length c0_1, .slice A0_2 l0_2.length c0_2] 25)) (Obj.cells #[.int .i64 0, .slice none 0 0, .bool false] 38))).mono ?_; rintro e w' ⟨rfl, hb⟩; have HB := Q0z.mk (bsz (ba (ba (Below.refl w.heap.size w) (Obj.cells #[.int .i64 a0_0, .slice A0_1 l0_1.length c0_1, .slice A0_2 l0_2.length c0_2] 25)) (Obj.cells #[.int .i64 0, .slice none 0 0, .bool false] 38)) hb); have BB0 := Q0z.mk (bbz (bA (bn (w) _) _) hb); have BR := Q0z.mk (bbz (bn (w.alloc (Obj.cells #[.int .i64 a0_0, .slice A0_1 l0_1.length c0_1, .slice A0_2 l0_2.length c0_2] 25)) (Obj.cells #[.int .i64 0, .slice none 0 0, .bool false] 38)) hb); clear hb; simp only [heap_size_alloc', Nat.add_assoc] at BR BB0; have hs0_ : w'.cell? ⟨w.heap.size + 1, 0, none⟩ = some (.int .i64 0) := (bcz BR.1 0).trans rfl; have hf0_ := bf BR.1 0; have hs1_ : w'.cell? ⟨w.heap.size + 1, 1, none⟩ = some (.slice none 0 0) := (bcz BR.1 1).trans rfl; have hf1_ := bf BR.1 1; have hs2_ : w'.cell? ⟨w.heap.size + 1, 2, none⟩ = some (.bool false) := (bcz BR.1 2).trans rfl; have hf2_ := bf BR.1 2; have hq0_0 : w'.cell? ⟨w.heap.size, 0, none⟩ = some (.int .i64 a0_0) := (bcz BB0.1 0).trans rfl; have hq0_1 : w'.cell? ⟨w.heap.size, 1, none⟩ = some (.slice A0_1 l0_1.length c0_1) := (bcz BB0.1 1).trans rfl; have hq0_2 : w'.cell? ⟨w.heap.size, 2, none⟩ = some (.slice A0_2 l0_2.length c0_2) := (bcz BB0.1 2).trans rfl))
  refine bodyPost_ret (results_cell_row rfl _ _ (w.heap.size + 1) 38 #[.int .i64 0, .slice none 0 0, .bool false] (0, 0) _ rfl (bp (bp (bp BR.1 0 (.int .i64 0) rfl) 1 (.slice none 0 0) rfl) 2 (.bool false) rfl) Try.underlying38 rfl (by kernel_rfl)) rfl ?_
  exact ⟨.slice none 0 0, rfl, Kd.S_nil _ _ _ _ _, (((HB.1).setCell (by show w.heap.size ≤ w.heap.size + 1; omega) _).setCell (by show w.heap.size ≤ w.heap.size + 1; omega) _).setCell (by show w.heap.size ≤ w.heap.size + 1; omega) _⟩
 | true =>
  have HE0 := goodB_elim hg0
  rw [hg0] at h hkg0
  have hG0 := fun (W : World) (hb : Below w.heap.size w W) => cr19_Good.calls kg0 a0_0 A0_1 c0_1 l0_1 A0_2 c0_2 l0_2 true W (Kd.C_below HR0_1.1 hb) hc0_1 (Kd.C_below HR0_2.1 hb) hc0_2 hkg0
  have HG0 := Q0z.mk hG0
  clear hG0
  clear hkg0 hg0
  rw [if_pos rfl] at h
  simp only [Option.some.injEq, Prod.mk.injEq] at h
  obtain ⟨rfl, rfl, rfl⟩ := h
  obtain ⟨ha0, hb0, hl0, hm0, hac0, hrow0⟩ := HE0
  have HAC0 := Q0z.mk hac0
  have HRW0 := Q0z.mk hrow0
  clear hac0 hrow0
  have hF := fun (W : World) (hb : Below w.heap.size w W) => cr19_fresh.calls a0_0 A0_1 c0_1 l0_1 A0_2 c0_2 l0_2 a0_0 [[], []] W (Kd.C_below HR0_1.1 hb) hc0_1 (Kd.C_below HR0_2.1 hb) hc0_2 (by rfl)
  have HF := Q0z.mk hF
  clear hF
  go_enter Try.func35, Try.ntmps35
  go_wp2_with (first | (go_at_call 85; refine (HF.1 _ HB.1).mono ?_; rintro e w4 ⟨v1_, rfl, hS_, hb⟩; have hz_ := HB.1.size; obtain ⟨ge, ce, x0, x1, rfl, hH_, hRo_⟩ := nets_pick hS_; have HH := Q0z.mk (Kd.R_lower hH_ hz_); have HRO := Q0z.mk (RowsOK.lower hRo_ hz_); clear hS_ hH_ hRo_ hz_; have m0_ := Q0z.mk (bsz HB.1 hb); have mb0_ := Q0z.mk (bbz BB0.1 hb); have mr_ := Q0z.mk (bbz BR.1 hb); clear HB BR BB0 hb; clear hs0_ hs1_ hs2_ hf0_ hf1_ hf2_; clear hq0_0 hq0_1 hq0_2; have HB := m0_; have BR := mr_; clear m0_ mr_; have BB0 := mb0_; clear mb0_) | (go_at_call 37; refine (HG0.1 _ (ba (ba (Below.refl w.heap.size w) (Obj.cells #[.int .i64 a0_0, .slice A0_1 l0_1.length c0_1, .slice A0_2 l0_2.length c0_2] 25)) (Obj.cells #[.int .i64 0, .slice none 0 0, .bool false] 38))).mono ?_; rintro e w' ⟨rfl, hb⟩; have HB := Q0z.mk (bsz (ba (ba (Below.refl w.heap.size w) (Obj.cells #[.int .i64 a0_0, .slice A0_1 l0_1.length c0_1, .slice A0_2 l0_2.length c0_2] 25)) (Obj.cells #[.int .i64 0, .slice none 0 0, .bool false] 38)) hb); have BB0 := Q0z.mk (bbz (bA (bn (w) _) _) hb); have BR := Q0z.mk (bbz (bn (w.alloc (Obj.cells #[.int .i64 a0_0, .slice A0_1 l0_1.length c0_1, .slice A0_2 l0_2.length c0_2] 25)) (Obj.cells #[.int .i64 0, .slice none 0 0, .bool false] 38)) hb); clear hb; simp only [heap_size_alloc', Nat.add_assoc] at BR BB0; have hs0_ : w'.cell? ⟨w.heap.size + 1, 0, none⟩ = some (.int .i64 0) := (bcz BR.1 0).trans rfl; have hf0_ := bf BR.1 0; have hs1_ : w'.cell? ⟨w.heap.size + 1, 1, none⟩ = some (.slice none 0 0) := (bcz BR.1 1).trans rfl; have hf1_ := bf BR.1 1; have hs2_ : w'.cell? ⟨w.heap.size + 1, 2, none⟩ = some (.bool false) := (bcz BR.1 2).trans rfl; have hf2_ := bf BR.1 2; have hq0_0 : w'.cell? ⟨w.heap.size, 0, none⟩ = some (.int .i64 a0_0) := (bcz BB0.1 0).trans rfl; have hq0_1 : w'.cell? ⟨w.heap.size, 1, none⟩ = some (.slice A0_1 l0_1.length c0_1) := (bcz BB0.1 1).trans rfl; have hq0_2 : w'.cell? ⟨w.heap.size, 2, none⟩ = some (.slice A0_2 l0_2.length c0_2) := (bcz BB0.1 2).trans rfl))
  try clear hs0_ hs1_ hs2_ hf0_ hf1_ hf2_
  try clear hq0_0 hq0_1 hq0_2
  obtain ⟨gn, hgn⟩ : ∃ g, g = w4.heap.size := ⟨_, rfl⟩
  have hgb : w.heap.size ≤ gn := by rw [hgn]; exact HB.1.size
  have hgr : w.heap.size + 1 < gn := by have := blk_lt BR.1; omega
  have hba := bD (ba (Below.refl w4.heap.size w4) (Obj.cells #[.int .i64 a0_0, .slice (some ⟨ge, 0, none⟩) 2 ce] 28))
  have m99_ : Q0z ((w4.alloc (Obj.cells #[.int .i64 a0_0, .slice (some ⟨ge, 0, none⟩) 2 ce] 28)).drew.heap[gn]? = some (.cells #[.int .i64 a0_0, .slice (some ⟨ge, 0, none⟩) 2 ce] 28 (0, 0))) := ⟨by rw [hgn]; exact bd (bn w4 _)⟩
  have m0_ := Q0z.mk (bsz HB.1 hba)
  have m1_ := Q0z.mk (bbz BR.1 hba)
  have m2_ := Q0z.mk (bbz BB0.1 hba)
  have m3_ := Q0z.mk (Kd.R_below HH.1 hba)
  have m4_ := Q0z.mk (RowsOK.below HRO.1 hba)
  clear HB BR BB0 HH HRO
  have HB := m0_
  have BR := m1_
  have BB0 := m2_
  have HH := m3_
  have HRO := m4_
  clear m0_ m1_ m2_ m3_ m4_
  have BN := m99_
  clear m99_ hba
  simp only [← hgn]
  clear hgn
  refine start_ (n := 7) (S := fun w' => w'.cell? ⟨gn, 1, none⟩ = some (.slice (some ⟨ge, 0, none⟩) 2 ce)) (ds := [6]) #[false, false, false, false, false, false, false] (by kernel_rfl) rfl rfl ((bcz BN.1 1).trans rfl) (fun hHeld => ?_)
  generalize (w4.alloc (Obj.cells #[.int .i64 a0_0, .slice (some ⟨ge, 0, none⟩) 2 ce] 28)).drew = w5 at HB BR BB0 BN HH HRO hHeld ⊢
  refine pure_ (i := 0) (N := some 10) (v := ?_) (a' := ?_) #[true, false, false, false, false, false, false] rfl rfl (by kernel_rfl) (fun _ _ _ h => h) (Or.inl ⟨by rfl, ?_⟩) ?_ ?_
  rotate_left
  ·intro w'
   go_simp
   with_reducible rfl
  rotate_left
  ·simp only [Act.put, sA, sB, sC, i64_w, i32_w]
   rfl
  refine take_ (i := 1) (N := some 11) (v := ?_) (a' := ?_) #[true, true, false, false, false, false, false] rfl rfl (by kernel_rfl) (fun _ _ _ h => h) (Or.inl ⟨by rfl, ?_⟩) hHeld ?_ ?_
  rotate_left
  ·intro w' s0
   go_simp
   with_reducible rfl
  rotate_left
  ·simp only [Act.put, sA, sB, sC, i64_w, i32_w]
   rfl
  refine one_ (i := 2) (N := some 12) #[true, true, true, false, false, false, false] rfl rfl (by kernel_rfl) (by decide) (fun K hK => ?_)
  have hno_ : cr19_nothing.f 1 = some (-1, 1) := rfl
  refine goes_ Try.func86 (by kernel_rfl) rfl #[.int .i64 1] (by rfl) rfl rfl (by simp only [List.map_toArray, List.map_cons, List.map_nil]; rfl) ?_
  with_reducible refine (cr19_nothing.calls 1 (-1) 1 w5 hno_).mono ?_
  rintro e w6 ⟨rfl, hb_⟩
  have m0_ := Q0z.mk (bsz HB.1 hb_)
  have m1_ := Q0z.mk (bbz BR.1 hb_)
  have m2_ := Q0z.mk (bbz BB0.1 hb_)
  have m3_ := Q0z.mk (bbz BN.1 hb_)
  have m4_ := Q0z.mk (Kd.R_below HH.1 hb_)
  have m5_ := Q0z.mk (RowsOK.below HRO.1 hb_)
  clear HB BR BB0 BN HH HRO
  have HB := m0_
  have BR := m1_
  have BB0 := m2_
  have BN := m3_
  have HH := m4_
  have HRO := m5_
  clear m0_ m1_ m2_ m3_ m4_ m5_
  clear hb_ hno_
  refine ⟨_, rfl, ?_⟩
  refine hK.out _ _ ((bcz BN.1 1).trans rfl) (fun hHeld => ?_)
  clear hK K
  refine norm_ (a' := ?_) ?_ ?_
  rotate_left
  ·show Act.put _ (some 12) _ = _
   simp only [Act.put, sA, sB, sC, i64_w, i32_w]
   rfl
  refine one_ (i := 3) (N := some 13) #[true, true, true, true, false, false, false] rfl rfl (by kernel_rfl) (by decide) (fun K hK => ?_)
  have hno_ : cr19_nothing.f 2 = some (-1, 2) := rfl
  refine goes_ Try.func86 (by kernel_rfl) rfl #[.int .i64 2] (by rfl) rfl rfl (by simp only [List.map_toArray, List.map_cons, List.map_nil]; rfl) ?_
  with_reducible refine (cr19_nothing.calls 2 (-1) 2 w6 hno_).mono ?_
  rintro e w7 ⟨rfl, hb_⟩
  have m0_ := Q0z.mk (bsz HB.1 hb_)
  have m1_ := Q0z.mk (bbz BR.1 hb_)
  have m2_ := Q0z.mk (bbz BB0.1 hb_)
  have m3_ := Q0z.mk (bbz BN.1 hb_)
  have m4_ := Q0z.mk (Kd.R_below HH.1 hb_)
  have m5_ := Q0z.mk (RowsOK.below HRO.1 hb_)
  clear HB BR BB0 BN HH HRO
  have HB := m0_
  have BR := m1_
  have BB0 := m2_
  have BN := m3_
  have HH := m4_
  have HRO := m5_
  clear m0_ m1_ m2_ m3_ m4_ m5_
  clear hb_ hno_
  refine ⟨_, rfl, ?_⟩
  refine hK.out _ _ ((bcz BN.1 1).trans rfl) (fun hHeld => ?_)
  clear hK K
  refine norm_ (a' := ?_) ?_ ?_
  rotate_left
  ·show Act.put _ (some 13) _ = _
   simp only [Act.put, sA, sB, sC, i64_w, i32_w]
   rfl
  refine one_ (i := 4) (N := some 14) #[true, true, true, true, true, false, false] rfl rfl (by kernel_rfl) (by decide) (fun K hK => ?_)
  refine value_ (w1 := ?_) (v := ?_) (by rfl) rfl ?_ ?_
  rotate_left 2
  ·go_simp
   constructor
   ·rfl
   ·rfl
  have hxn : (encH x1).ownBlock ≠ some w7.heap.size := fun e => by have := RowsOK.lt HRO.1 (j := 1) rfl e; omega
  have hgx : w.heap.size ≤ w7.heap.size := HB.1.size
  have m99_ := Q0z.mk (bn w7 (Obj.cells #[.int .i64 (-1), .int .i64 1, .int .i64 (-1), .int .i64 2] 82))
  have m0_ := Q0z.mk (bsz HB.1 (ba (Below.refl w7.heap.size w7) (Obj.cells #[.int .i64 (-1), .int .i64 1, .int .i64 (-1), .int .i64 2] 82)))
  have m1_ := Q0z.mk (bbz BR.1 (ba (Below.refl w7.heap.size w7) (Obj.cells #[.int .i64 (-1), .int .i64 1, .int .i64 (-1), .int .i64 2] 82)))
  have m2_ := Q0z.mk (bbz BB0.1 (ba (Below.refl w7.heap.size w7) (Obj.cells #[.int .i64 (-1), .int .i64 1, .int .i64 (-1), .int .i64 2] 82)))
  have m3_ := Q0z.mk (bbz BN.1 (ba (Below.refl w7.heap.size w7) (Obj.cells #[.int .i64 (-1), .int .i64 1, .int .i64 (-1), .int .i64 2] 82)))
  have m4_ := Q0z.mk (Kd.R_below HH.1 (ba (Below.refl w7.heap.size w7) (Obj.cells #[.int .i64 (-1), .int .i64 1, .int .i64 (-1), .int .i64 2] 82)))
  have m5_ := Q0z.mk (RowsOK.below HRO.1 (ba (Below.refl w7.heap.size w7) (Obj.cells #[.int .i64 (-1), .int .i64 1, .int .i64 (-1), .int .i64 2] 82)))
  clear HB BR BB0 BN HH HRO
  have HB := m0_
  have BR := m1_
  have BB0 := m2_
  have BN := m3_
  have HH := m4_
  have HRO := m5_
  clear m0_ m1_ m2_ m3_ m4_ m5_
  have HX := m99_
  clear m99_
  obtain ⟨gx, hgx_⟩ : ∃ g, g = w7.heap.size := ⟨_, rfl⟩
  rw [← hgx_] at HX hxn hgx
  simp only [← hgx_]
  clear hgx_
  generalize w7.alloc (Obj.cells #[.int .i64 (-1), .int .i64 1, .int .i64 (-1), .int .i64 2] 82) = w8 at HB BR BB0 BN HH HRO HX ⊢
  refine hK.out _ _ ((bcz BN.1 1).trans rfl) (fun hHeld => ?_)
  clear hK K
  refine norm_ (a' := ?_) ?_ ?_
  rotate_left
  ·show Act.put _ (some 14) _ = _
   simp only [Act.put, sA, sB, sC, i64_w, i32_w]
   rfl
  refine pure_ (i := 5) (N := some 15) (v := ?_) (a' := ?_) #[true, true, true, true, true, true, false] rfl rfl (by kernel_rfl) (fun _ _ _ h => h) (Or.inl ⟨by rfl, ?_⟩) ?_ ?_
  rotate_left
  ·intro w'
   go_simp
   with_reducible rfl
  rotate_left
  ·simp only [Act.put, sA, sB, sC, i64_w, i32_w]
   rfl
  refine last_ (i := 6) (N := none) #[true, true, true, true, true, true, true] rfl rfl (by kernel_rfl) (by decide) (fun K hK => ?_)
  have hc_ : w8.cell? ⟨ge, 0, none⟩ = some (encH x0) := (Kd.R_celln (enc := encH) (h1 := encH_one) (none, 0, 0) HH.1 0 (by decide) (by decide)).1
  have hf_ : w8.frozen? ⟨ge, 0, none⟩ = false := (Kd.R_celln (enc := encH) (h1 := encH_one) (none, 0, 0) HH.1 0 (by decide) (by decide)).2
  refine skip_ (w1 := ?_) (by rfl) rfl ?_ ?_
  rotate_left
  ·go_simp
   rfl
  refine hK.out _ _ ?_
  clear hK K
  refine done_ (by kernel_rfl) ?_
  obtain ⟨ke, hE9⟩ := Kd.R_typed HH.1 ge rfl
  have hge := Kd.R_base HH.1 ge rfl
  have hgxe := ref_ne HX.1 hE9 (by decide)
  have hgne := ref_ne BN.1 hE9 (by decide)
  have hgre := ref_ne BR.1 hE9 (by decide)
  have hgbe0 := ref_ne BB0.1 hE9 (by decide)
  have hX9 := bF HX.1 (p := ⟨ge, 0, none⟩) hgxe (.slice (some ⟨gx, 0, none⟩) 2 2)
  have m0_ := Q0z.mk (HB.1.setCell (p := ⟨ge, 0, none⟩) hge (.slice (some ⟨gx, 0, none⟩) 2 2))
  have m1_ := Q0z.mk (bF BR.1 (p := ⟨ge, 0, none⟩) hgre (.slice (some ⟨gx, 0, none⟩) 2 2))
  have m2_ := Q0z.mk (bF BN.1 (p := ⟨ge, 0, none⟩) hgne (.slice (some ⟨gx, 0, none⟩) 2 2))
  have mb0_ := Q0z.mk (bF BB0.1 (p := ⟨ge, 0, none⟩) hgbe0 (.slice (some ⟨gx, 0, none⟩) 2 2))
  have HS := Q0z.mk (S_of_hdrs (hs := [(some ⟨gx, 0, none⟩, 2, 2), x1]) (L := [[noth 1, noth 2], []]) (Kd.R_putn (enc := encH) (h1 := encH_one) HH.1 0 (some ⟨gx, 0, none⟩, 2, 2)) (nets_put (RowsOK.set HRO.1 hE9 (by decide) 0 _) (edges_blk2 1 2 hX9 hgx) hxn))
  have hE8 : ∃ k8, (w8.setCell ⟨ge, 0, none⟩ (.slice (some ⟨gx, 0, none⟩) 2 2)).heap[ge]? = some (.cells k8 79 (0, 0)) := ⟨_, blk_set hE9 0 _⟩
  have hcs_ := hc_
  clear hc_ hf_ hE9 hX9 HB BR BB0 BN HX HH HRO hcs_
  have HB := m0_
  have BR := m1_
  have BN := m2_
  have BB0 := mb0_
  clear m0_ m1_ m2_ mb0_
  simp only [encH] at HS
  replace HS : Q0z (Kd.S (Kd.slice 82 k82) 79 (w8.setCell ⟨ge, 0, none⟩ (.slice (some ⟨gx, 0, none⟩) 2 2)) w.heap.size (fun _ => True) (.slice (some ⟨ge, 0, none⟩) 2 ce) [[noth 1, noth 2], []]) := HS
  generalize w8.setCell ⟨ge, 0, none⟩ (.slice (some ⟨gx, 0, none⟩) 2 2) = v0 at HB BR BB0 BN HS hE8 ⊢
  obtain ⟨k8, hE8⟩ := hE8
  have hq0_0 : v0.cell? ⟨w.heap.size, 0, none⟩ = some (.int .i64 a0_0) := (bcz BB0.1 0).trans rfl
  have hq0_1 : v0.cell? ⟨w.heap.size, 1, none⟩ = some (.slice A0_1 l0_1.length c0_1) := (bcz BB0.1 1).trans rfl
  have hq0_2 : v0.cell? ⟨w.heap.size, 2, none⟩ = some (.slice A0_2 l0_2.length c0_2) := (bcz BB0.1 2).trans rfl
  go_wp2_with (go_at_call 87; refine (lay87 a0_0 A0_1 c0_1 l0_1 A0_2 c0_2 l0_2 0 w v0 gn a0_0 (.slice (some ⟨ge, 0, none⟩) 2 ce) [[noth 1, noth 2], []] HR0_1.1 hc0_1 HR0_2.1 hc0_2 ha0 hb0 hm0 HAC0.1 HRW0.1 (by simp) HB.1 hgb BN.1 HS.1).mono ?_; rintro e v1 ⟨u1, rfl, hN_, hS_, hB_, hK_, hz_, hv_⟩; have mr_ := Q0z.mk ((hK_ (w.heap.size + 1) (blk_lt BR.1) (by omega) (by simp only [Value.ownBlock]; intro e_; exact ref_ne BR.1 hE8 (by decide) (by simpa using e_))).trans BR.1); have mb0_ := Q0z.mk ((hK_ (w.heap.size) (blk_lt BB0.1) (by omega) (by simp only [Value.ownBlock]; intro e_; exact ref_ne BB0.1 hE8 (by decide) (by simpa using e_))).trans BB0.1); clear HB BR BB0 BN HS hK_ hz_ hv_ hq0_0 hq0_1 hq0_2; have HB := Q0z.mk hB_; have BR := mr_; have BB0 := mb0_; clear mb0_; have BN := Q0z.mk hN_; have HS := Q0z.mk hS_; clear hB_ hN_ hS_ mr_; clear hE8; obtain ⟨A9, c9, hv9_⟩ := Kd.S_slice HS.1; have HS9 := HS; generalize hll_ : (List.length _) = n9 at hv9_; subst hv9_; have hs0_ : v1.cell? ⟨w.heap.size + 1, 0, none⟩ = some (.int .i64 0) := (bcz BR.1 0).trans rfl; have hf0_ := bf BR.1 0; have hs1_ : v1.cell? ⟨w.heap.size + 1, 1, none⟩ = some (.slice none 0 0) := (bcz BR.1 1).trans rfl; have hf1_ := bf BR.1 1; have hs2_ : v1.cell? ⟨w.heap.size + 1, 2, none⟩ = some (.bool false) := (bcz BR.1 2).trans rfl; have hf2_ := bf BR.1 2; have hn0_ : v1.cell? ⟨gn, 0, none⟩ = some (.int .i64 a0_0) := (bcz BN.1 0).trans rfl; have hn1_ : v1.cell? ⟨gn, 1, none⟩ = some (.slice A9 n9 c9) := (bcz BN.1 1).trans rfl)
  refine bodyPost_ret (results_cell_row rfl _ _ (w.heap.size + 1) 38 #[.int .i64 a0_0, .slice A9 n9 c9, .bool true] (0, 0) _ rfl (bp (bp (bp BR.1 0 (.int .i64 a0_0) rfl) 1 (.slice A9 n9 c9) rfl) 2 (.bool true) rfl) Try.underlying38 rfl (by kernel_rfl)) rfl ?_
  refine ⟨_, rfl, ?_, (((HB.1).setCell (by show w.heap.size ≤ w.heap.size + 1; omega) _).setCell (by show w.heap.size ≤ w.heap.size + 1; omega) _).setCell (by show w.heap.size ≤ w.heap.size + 1; omega) _⟩
  have HF9 := Kd.S_mono (Kd.S_far (p := ⟨w.heap.size + 1, 2, none⟩) (Kd.S_far (p := ⟨w.heap.size + 1, 1, none⟩) (Kd.S_far (p := ⟨w.heap.size + 1, 0, none⟩) (Kd.S_types HS.1 BR.1 (by decide)) (fun _ hk => hk.2) (.int .i64 a0_0)) (fun _ hk => hk.2) (.slice A9 n9 c9)) (fun _ hk => hk.2) (.bool true)) (ok' := fun _ => True) (fun _ hk => trivial)
  simpa using HF9

end Go.Proofs.Ytelkjbacdpmnfaa.A
