/- By a program, out of the translation (wip/myprint.py). -/
import Derived.Test.YtelkjbacdpmnfaaA0
import Derived.Test.YtelkjbacdpmnfaaAAnyOrder
import Derived.Test.YtelkjbacdpmnfaaACaesuralaw19Goes
import Derived.Test.YtelkjbacdpmnfaaACaesuralaw19Takes
import Derived.Test.YtelkjbacdpmnfaaACaesuralaw19Wakes
import Derived.Test.YtelkjbacdpmnfaaACaesuraref19Good
import Derived.Test.YtelkjbacdpmnfaaACaesuraref19GoodNet
import Derived.Test.YtelkjbacdpmnfaaACuts
import Derived.Test.YtelkjbacdpmnfaaAHolds
import Derived.Test.YtelkjbacdpmnfaaATakesDefs
import Derived.Test.YtelkjbacdpmnfaaAThompsonAgain
import Derived.Test.YtelkjbacdpmnfaaAThompsonEither
import Derived.Test.YtelkjbacdpmnfaaAThompsonJoin
import Derived.Test.YtelkjbacdpmnfaaAThompsonNets
import Derived.Test.YtelkjbacdpmnfaaAThompsonOf
namespace Go.Proofs.Ytelkjbacdpmnfaa.A
open Go.RowKit Go.Proofs.YtelkjbacdpmnfaaW.PrintWords Go.Proofs.YtelkjbacdpmnfaaW.PrintLast Go.Proofs.YtelkjbacdpmnfaaW.PrintMore
attribute [local go_sem] max2_int min2_int max_two min_two max_three min_three max_four min_four   -- for this text's walks alone
set_option linter.unusedVariables false
set_option linter.unusedSimpArgs false

/-! the law ThompsonTakes, where all is good and small (printed by gen_law.py) -/
def takes_law.T7 : Bool × List (List Nat × List Nat) := (true, [([], []), ([], []), ([], []), ([1, 2], [1, 2]), ([3], [3]), ([4], [4]), ([], []), ([6], [6]), ([5, 7], [5, 7]), ([8], [8]), ([0, 9], [0, 9]), ([10, 10, 0, 1, 2, 3, 4, 5, 6, 7, 8, 9, 10], [0, 10])])
def takes_law.B7 : List Nat := [0, 0, 0, 6, 14, 30, 0, 64, 254, 510, 1023, 2047]
theorem takes_law.tab7 : rtab .any (opsOf Try.f4 7) = takes_law.T7 := by kernel_rfl
theorem takes_law.bits7 : waitsOk takes_law.T7.2 takes_law.B7 = true := by kernel_rfl
def takes_law.T20 : Bool × List (List Nat × List Nat) := (true, [([], []), ([0], [0]), ([1], [1]), ([1], [1]), ([1], [1]), ([3, 4, 1], [1, 3, 4]), ([2, 5, 1, 1], [1, 2, 5]), ([6, 6, 1], [1, 6]), ([7], [7]), ([7], [7]), ([7], [7]), ([9, 10, 7], [7, 9, 10]), ([8, 11, 7, 7], [7, 8, 11]), ([7, 12, 1], [1, 7, 12]), ([1, 13], [1, 13]), ([14, 12, 0, 1, 2, 3, 4, 5, 6, 7, 8, 9, 10, 11, 12, 13, 14], [0, 14])])
def takes_law.B20 : List Nat := [0, 1, 3, 3, 3, 27, 63, 127, 255, 255, 255, 1791, 4095, 8191, 16383, 32767]
theorem takes_law.tab20 : rtab .any (opsOf Try.f4 20) = takes_law.T20 := by kernel_rfl
theorem takes_law.bits20 : waitsOk takes_law.T20.2 takes_law.B20 = true := by kernel_rfl
def takes_law.T24 : Bool × List (List Nat × List Nat) := (true, [([], []), ([], []), ([], []), ([], []), ([2, 3], [2, 3]), ([4], [4]), ([5], [5]), ([6], [6]), ([6], [6]), ([7, 8, 6], [6, 7, 8]), ([9, 6], [6, 9]), ([10, 6, 6], [6, 10]), ([11], [11]), ([11], [11]), ([11], [11]), ([11], [11]), ([13, 14, 15, 11], [11, 13, 14, 15]), ([12, 16, 11, 11], [11, 12, 16]), ([11, 17, 6], [6, 11, 17]), ([6, 18], [6, 18]), ([0, 1, 0, 1, 2, 3, 4, 5, 6, 7, 8, 9, 10, 11, 12, 13, 14, 15, 16, 17, 18, 19], [0, 1]), ([20, 19, 17, 0, 1, 2, 3, 4, 5, 6, 7, 8, 9, 10, 11, 12, 13, 14, 15, 16, 17, 18, 19], [19, 20])])
def takes_law.B24 : List Nat := [0, 0, 0, 0, 12, 28, 60, 124, 124, 508, 1020, 2044, 4092, 4092, 4092, 4092, 61436, 131068, 262140, 524284, 1048575, 2097151]
theorem takes_law.tab24 : rtab .any (opsOf Try.f4 24) = takes_law.T24 := by kernel_rfl
theorem takes_law.bits24 : waitsOk takes_law.T24.2 takes_law.B24 = true := by kernel_rfl
def takes_law.T25 : Bool × List (List Nat × List Nat) := (true, [([], []), ([], []), ([0, 1], [0, 1]), ([], []), ([], []), ([3, 4, 2], [3, 4]), ([2, 5], [2, 5]), ([6, 5], [6]), ([7], [7]), ([7], [7]), ([8, 9, 7, 7], [7, 8, 9]), ([7], [7]), ([10, 11, 7], [7, 10, 11]), ([7, 12], [7, 12]), ([13, 10], [13]), ([14], [14]), ([14], [14]), ([15, 16, 14, 14], [14, 15, 16]), ([14], [14]), ([14], [14]), ([18, 19, 17, 14], [14, 18, 19]), ([20, 20, 14], [14, 20]), ([21], [21]), ([21], [21]), ([22, 23, 21, 21], [21, 22, 23]), ([21, 24, 14], [14, 21, 24]), ([17, 25, 14], [14, 17, 25]), ([14, 26], [14, 26]), ([27, 24], [27]), ([28], [28]), ([28], [28]), ([29, 30, 28, 28], [28, 29, 30]), ([28], [28]), ([28], [28]), ([33, 28], [28, 33]), ([32, 34, 28], [28, 32, 34]), ([35, 28], [28, 35]), ([31, 36, 28], [28, 31, 36]), ([28, 37], [28, 37]), ([38, 31], [38]), ([39, 39], [39]), ([39, 40], [39, 40]), ([41, 40, 0, 1, 2, 3, 4, 5, 6, 7, 8, 9, 10, 11, 12, 13, 14, 15, 16, 17, 18, 19, 20, 21, 22, 23, 24, 25, 26, 27, 28, 29, 30, 31, 32, 33, 34, 35, 36, 37, 38, 39, 40, 41], [41])])
def takes_law.B25 : List Nat := [0, 0, 3, 0, 0, 31, 63, 127, 255, 255, 1023, 255, 4095, 8191, 16383, 32767, 32767, 131071, 32767, 32767, 1048575, 2097151, 4194303, 4194303, 16777215, 33554431, 67108863, 134217727, 268435455, 536870911, 536870911, 2147483647, 536870911, 536870911, 9126805503, 30601641983, 64961380351, 137438953471, 274877906943, 549755813887, 1099511627775, 2199023255551, 4398046511103]
theorem takes_law.tab25 : rtab .any (opsOf Try.f4 25) = takes_law.T25 := by kernel_rfl
theorem takes_law.bits25 : waitsOk takes_law.T25.2 takes_law.B25 = true := by kernel_rfl
set_option maxHeartbeats 8000000 in
set_option maxRecDepth 100000 in
theorem takes_main (a0_0 : Int) (A0_1 : Option Addr) (c0_1 : Nat) (l0_1 : List (List Int)) (A0_2 : Option Addr) (c0_2 : Nat) (l0_2 : List Bool) (a1_0 : Int) (A1_1 : Option Addr) (c1_1 : Nat) (l1_1 : List (List Int)) (A1_2 : Option Addr) (c1_2 : Nat) (l1_2 : List Bool) (A2 : Option Addr) (c2 : Nat) (l2 : List Int) (w : World) (hr0_1 : Kd.C (Kd.slice 3 (Kd.int .i64)) w A0_1 l0_1.length l0_1) (hc0_1 : l0_1.length ≤ c0_1) (hr0_2 : Kd.C Kd.bool w A0_2 l0_2.length l0_2) (hc0_2 : l0_2.length ≤ c0_2) (hr1_1 : Kd.C (Kd.slice 3 (Kd.int .i64)) w A1_1 l1_1.length l1_1) (hc1_1 : l1_1.length ≤ c1_1) (hr1_2 : Kd.C Kd.bool w A1_2 l1_2.length l1_2) (hc1_2 : l1_2.length ≤ c1_2) (hr2 : Kd.C (Kd.int .u8) w A2 l2.length l2) (hc2 : l2.length ≤ c2) (kg0 kg1 : Nat) (hg0 : caesuraref19_Good.f kg0 a0_0 l0_1 l0_2 = some true) (hg1 : caesuraref19_Good.f kg1 a1_0 l1_1 l1_2 = some true) (ha : a0_0 = a1_0) (hz : a0_0 ≠ 0) (hn0 : l0_1.length ≤ 20) (hn1 : l1_1.length ≤ 20) (hn2 : l2.length ≤ 8)
    (L : List Int) (hLL : L = l2.map (fun x => Int.tmod (wrap64 x) a0_0)) (x1 : Int) (X1 : List (List S82)) (t1 n1 : Nat)  (x2 : Int) (X2 : List (List S82)) (t2 n2 : Nat)  (x3 : Int) (X3 : List (List S82)) (t3 n3 : Nat)  (x4 : Int) (X4 : List (List S82)) (t4 n4 : Nat) (ht1 : thompson_Of.f t1 a0_0 l0_1 l0_2 = some (x1, X1, true)) (ht2 : thompson_Join.f t2 a0_0 l0_1 l0_2 a1_0 l1_1 l1_2 = some (x2, X2, true)) (ht3 : thompson_Either.f t3 a0_0 l0_1 l0_2 a1_0 l1_1 l1_2 = some (x3, X3, true)) (ht4 : thompson_Again.f t4 a0_0 l0_1 l0_2 = some (x4, X4, true)) (hs1 : caesuraref19_GoodNet.f n1 x1 X1 = some true) (hs2 : caesuraref19_GoodNet.f n2 x2 X2 = some true) (hs3 : caesuraref19_GoodNet.f n3 x3 X3 = some true) (hs4 : caesuraref19_GoodNet.f n4 x4 X4 = some true) (ta tb : Nat → Nat → Bool) (hTA : ∀ i j, ∃ m, caesuralaw19_takes.f m a0_0 l0_1 l0_2 ((L.take j).drop i) = some (ta i j)) (hTB : ∀ i j, ∃ m, caesuralaw19_takes.f m a1_0 l1_1 l1_2 ((L.take j).drop i) = some (tb i j)) (kw : Nat) (hkw : caesuralaw19_wakes.f kw = some true) (e1 e2 e3 e4 : Nat) (he1 : caesuralaw19_goes.f e1 x1 X1 L = some (ta 0 L.length)) (he2 : caesuralaw19_goes.f e2 x2 X2 L = some (catB ta tb L.length (L.length + 1))) (he3 : caesuralaw19_goes.f e3 x3 X3 L = some (ta 0 L.length || tb 0 L.length)) (he4 : caesuralaw19_goes.f e4 x4 X4 L = some ((agains ta L.length (L.length + 1)).getD L.length false))
    : Calls Try.prog 4 #[.agg #[.int .i64 a0_0, .slice A0_1 l0_1.length c0_1, .slice A0_2 l0_2.length c0_2], .agg #[.int .i64 a1_0, .slice A1_1 l1_1.length c1_1, .slice A1_2 l1_2.length c1_2], .slice A2 l2.length c2] w fun e w' => e = .returned (.bool true) ∧ Below w.heap.size w w' := by
  have hu25 := Try.underlying25
  have hu28 := Try.underlying28
  have hu44 := Try.underlying44
  have hu45 := Try.underlying45
  have hu23 := Try.underlying23
  have HR0_1 := Aside0.mk hr0_1
  have HR0_2 := Aside0.mk hr0_2
  clear hr0_1 hr0_2
  have HR1_1 := Aside0.mk hr1_1
  have HR1_2 := Aside0.mk hr1_2
  clear hr1_1 hr1_2
  have HR2 := Aside0.mk hr2
  clear hr2
  have HG0 := Aside0.mk hg0
  clear hg0
  have HG1 := Aside0.mk hg1
  clear hg1
  have HZ := Aside0.mk hz
  clear hz
  have HA := Aside0.mk ha
  clear ha
  have HTA := Aside0.mk hTA
  clear hTA
  have HTB := Aside0.mk hTB
  clear hTB
  have HKW := Aside0.mk hkw
  clear hkw
  have HE1 := Aside0.mk he1
  clear he1
  have HE2 := Aside0.mk he2
  clear he2
  have HE3 := Aside0.mk he3
  clear he3
  have HE4 := Aside0.mk he4
  clear he4
  have HLL := Aside0.mk hLL
  clear hLL
  have HT1 := Aside0.mk ht1
  clear ht1
  have HT2 := Aside0.mk ht2
  clear ht2
  have HT3 := Aside0.mk ht3
  clear ht3
  have HT4 := Aside0.mk ht4
  clear ht4
  have HS1 := Aside0.mk hs1
  clear hs1
  have HS2 := Aside0.mk hs2
  clear hs2
  have HS3 := Aside0.mk hs3
  clear hs3
  have HS4 := Aside0.mk hs4
  clear hs4
  have HH := Aside0.mk (Hold.alloc (b1 := []) (Hold.alloc (b1 := []) (b2 := []) (Hold.refl w) #[.int .i64 a0_0, .slice A0_1 l0_1.length c0_1, .slice A0_2 l0_2.length c0_2] 25) #[.int .i64 a1_0, .slice A1_1 l1_1.length c1_1, .slice A1_2 l1_2.length c1_2] 25)
  simp only [List.nil_append, heap_size_alloc'] at HH
  have n0_ : ((l0_1.length : Int) > 20) = False := eq_false (by omega)
  have n1_ : ((l1_1.length : Int) > 20) = False := eq_false (by omega)
  have n2_ : ((l2.length : Int) > 8) = False := eq_false (by omega)
  have n3_ : (a0_0 != a1_0) = false := by rw [HA.out]; simp
  go_enter Try.func4, Try.ntmps4
  have c00_ : ((w.alloc (Obj.cells #[.int .i64 a0_0, .slice A0_1 l0_1.length c0_1, .slice A0_2 l0_2.length c0_2] 25)).alloc (Obj.cells #[.int .i64 a1_0, .slice A1_1 l1_1.length c1_1, .slice A1_2 l1_2.length c1_2] 25)).cell? ⟨w.heap.size, 0, none⟩ = some (.int .i64 a0_0) := (blk_cell (HH.out.blks (w.heap.size, #[.int .i64 a0_0, .slice A0_1 l0_1.length c0_1, .slice A0_2 l0_2.length c0_2], 25) (by simp)) 0).trans rfl
  have c01_ : ((w.alloc (Obj.cells #[.int .i64 a0_0, .slice A0_1 l0_1.length c0_1, .slice A0_2 l0_2.length c0_2] 25)).alloc (Obj.cells #[.int .i64 a1_0, .slice A1_1 l1_1.length c1_1, .slice A1_2 l1_2.length c1_2] 25)).cell? ⟨w.heap.size, 1, none⟩ = some (.slice A0_1 l0_1.length c0_1) := (blk_cell (HH.out.blks (w.heap.size, #[.int .i64 a0_0, .slice A0_1 l0_1.length c0_1, .slice A0_2 l0_2.length c0_2], 25) (by simp)) 1).trans rfl
  have c02_ : ((w.alloc (Obj.cells #[.int .i64 a0_0, .slice A0_1 l0_1.length c0_1, .slice A0_2 l0_2.length c0_2] 25)).alloc (Obj.cells #[.int .i64 a1_0, .slice A1_1 l1_1.length c1_1, .slice A1_2 l1_2.length c1_2] 25)).cell? ⟨w.heap.size, 2, none⟩ = some (.slice A0_2 l0_2.length c0_2) := (blk_cell (HH.out.blks (w.heap.size, #[.int .i64 a0_0, .slice A0_1 l0_1.length c0_1, .slice A0_2 l0_2.length c0_2], 25) (by simp)) 2).trans rfl
  have c10_ : ((w.alloc (Obj.cells #[.int .i64 a0_0, .slice A0_1 l0_1.length c0_1, .slice A0_2 l0_2.length c0_2] 25)).alloc (Obj.cells #[.int .i64 a1_0, .slice A1_1 l1_1.length c1_1, .slice A1_2 l1_2.length c1_2] 25)).cell? ⟨w.heap.size + 1, 0, none⟩ = some (.int .i64 a1_0) := (blk_cell (HH.out.blks (w.heap.size + 1, #[.int .i64 a1_0, .slice A1_1 l1_1.length c1_1, .slice A1_2 l1_2.length c1_2], 25) (by simp)) 0).trans rfl
  have c11_ : ((w.alloc (Obj.cells #[.int .i64 a0_0, .slice A0_1 l0_1.length c0_1, .slice A0_2 l0_2.length c0_2] 25)).alloc (Obj.cells #[.int .i64 a1_0, .slice A1_1 l1_1.length c1_1, .slice A1_2 l1_2.length c1_2] 25)).cell? ⟨w.heap.size + 1, 1, none⟩ = some (.slice A1_1 l1_1.length c1_1) := (blk_cell (HH.out.blks (w.heap.size + 1, #[.int .i64 a1_0, .slice A1_1 l1_1.length c1_1, .slice A1_2 l1_2.length c1_2], 25) (by simp)) 1).trans rfl
  have c12_ : ((w.alloc (Obj.cells #[.int .i64 a0_0, .slice A0_1 l0_1.length c0_1, .slice A0_2 l0_2.length c0_2] 25)).alloc (Obj.cells #[.int .i64 a1_0, .slice A1_1 l1_1.length c1_1, .slice A1_2 l1_2.length c1_2] 25)).cell? ⟨w.heap.size + 1, 2, none⟩ = some (.slice A1_2 l1_2.length c1_2) := (blk_cell (HH.out.blks (w.heap.size + 1, #[.int .i64 a1_0, .slice A1_1 l1_1.length c1_1, .slice A1_2 l1_2.length c1_2], 25) (by simp)) 2).trans rfl
  go_wp2_with (first | (go_at_call 37; have hF_ := HG0.out; refine (caesuraref19_Good.calls kg0 a0_0 A0_1 c0_1 l0_1 A0_2 c0_2 l0_2 true _ (Kd.C_below HR0_1.out HH.out.low) hc0_1 (Kd.C_below HR0_2.out HH.out.low) hc0_2 hF_).mono ?_; clear hF_ HG0; rintro e wl ⟨rfl, hb⟩; have m0_ := Aside0.mk (HH.out.step hb); clear HH hb; have HH := m0_; clear m0_; (try clear c00_ c01_ c02_ c10_ c11_ c12_); have c00_ : wl.cell? ⟨w.heap.size, 0, none⟩ = some (.int .i64 a0_0) := (blk_cell (HH.out.blks (w.heap.size, #[.int .i64 a0_0, .slice A0_1 l0_1.length c0_1, .slice A0_2 l0_2.length c0_2], 25) (by simp)) 0).trans rfl; have c01_ : wl.cell? ⟨w.heap.size, 1, none⟩ = some (.slice A0_1 l0_1.length c0_1) := (blk_cell (HH.out.blks (w.heap.size, #[.int .i64 a0_0, .slice A0_1 l0_1.length c0_1, .slice A0_2 l0_2.length c0_2], 25) (by simp)) 1).trans rfl; have c02_ : wl.cell? ⟨w.heap.size, 2, none⟩ = some (.slice A0_2 l0_2.length c0_2) := (blk_cell (HH.out.blks (w.heap.size, #[.int .i64 a0_0, .slice A0_1 l0_1.length c0_1, .slice A0_2 l0_2.length c0_2], 25) (by simp)) 2).trans rfl; have c10_ : wl.cell? ⟨w.heap.size + 1, 0, none⟩ = some (.int .i64 a1_0) := (blk_cell (HH.out.blks (w.heap.size + 1, #[.int .i64 a1_0, .slice A1_1 l1_1.length c1_1, .slice A1_2 l1_2.length c1_2], 25) (by simp)) 0).trans rfl; have c11_ : wl.cell? ⟨w.heap.size + 1, 1, none⟩ = some (.slice A1_1 l1_1.length c1_1) := (blk_cell (HH.out.blks (w.heap.size + 1, #[.int .i64 a1_0, .slice A1_1 l1_1.length c1_1, .slice A1_2 l1_2.length c1_2], 25) (by simp)) 1).trans rfl; have c12_ : wl.cell? ⟨w.heap.size + 1, 2, none⟩ = some (.slice A1_2 l1_2.length c1_2) := (blk_cell (HH.out.blks (w.heap.size + 1, #[.int .i64 a1_0, .slice A1_1 l1_1.length c1_1, .slice A1_2 l1_2.length c1_2], 25) (by simp)) 2).trans rfl) | (go_at_call 37; have hF_ := HG1.out; refine (caesuraref19_Good.calls kg1 a1_0 A1_1 c1_1 l1_1 A1_2 c1_2 l1_2 true _ (Kd.C_below HR1_1.out HH.out.low) hc1_1 (Kd.C_below HR1_2.out HH.out.low) hc1_2 hF_).mono ?_; clear hF_ HG1; rintro e wl ⟨rfl, hb⟩; have m0_ := Aside0.mk (HH.out.step hb); clear HH hb; have HH := m0_; clear m0_; (try clear c00_ c01_ c02_ c10_ c11_ c12_); have c00_ : wl.cell? ⟨w.heap.size, 0, none⟩ = some (.int .i64 a0_0) := (blk_cell (HH.out.blks (w.heap.size, #[.int .i64 a0_0, .slice A0_1 l0_1.length c0_1, .slice A0_2 l0_2.length c0_2], 25) (by simp)) 0).trans rfl; have c01_ : wl.cell? ⟨w.heap.size, 1, none⟩ = some (.slice A0_1 l0_1.length c0_1) := (blk_cell (HH.out.blks (w.heap.size, #[.int .i64 a0_0, .slice A0_1 l0_1.length c0_1, .slice A0_2 l0_2.length c0_2], 25) (by simp)) 1).trans rfl; have c02_ : wl.cell? ⟨w.heap.size, 2, none⟩ = some (.slice A0_2 l0_2.length c0_2) := (blk_cell (HH.out.blks (w.heap.size, #[.int .i64 a0_0, .slice A0_1 l0_1.length c0_1, .slice A0_2 l0_2.length c0_2], 25) (by simp)) 2).trans rfl; have c10_ : wl.cell? ⟨w.heap.size + 1, 0, none⟩ = some (.int .i64 a1_0) := (blk_cell (HH.out.blks (w.heap.size + 1, #[.int .i64 a1_0, .slice A1_1 l1_1.length c1_1, .slice A1_2 l1_2.length c1_2], 25) (by simp)) 0).trans rfl; have c11_ : wl.cell? ⟨w.heap.size + 1, 1, none⟩ = some (.slice A1_1 l1_1.length c1_1) := (blk_cell (HH.out.blks (w.heap.size + 1, #[.int .i64 a1_0, .slice A1_1 l1_1.length c1_1, .slice A1_2 l1_2.length c1_2], 25) (by simp)) 1).trans rfl; have c12_ : wl.cell? ⟨w.heap.size + 1, 2, none⟩ = some (.slice A1_2 l1_2.length c1_2) := (blk_cell (HH.out.blks (w.heap.size + 1, #[.int .i64 a1_0, .slice A1_1 l1_1.length c1_1, .slice A1_2 l1_2.length c1_2], 25) (by simp)) 2).trans rfl))
  (try clear c00_ c01_ c02_ c10_ c11_ c12_)
  clear n0_ n1_ n2_ n3_
  have EA : Aside0 (∀ W : World, Below wl.heap.size wl W → Below w.heap.size w W ∧ W.heap[w.heap.size]? = some (.cells #[.int .i64 a0_0, .slice A0_1 l0_1.length c0_1, .slice A0_2 l0_2.length c0_2] 25 (0, 0)) ∧ W.heap[w.heap.size + 1]? = some (.cells #[.int .i64 a1_0, .slice A1_1 l1_1.length c1_1, .slice A1_2 l1_2.length c1_2] 25 (0, 0))) := ⟨fun W hb => ⟨below_step HH.out.low hb, blk_below (HH.out.blks (w.heap.size, #[.int .i64 a0_0, .slice A0_1 l0_1.length c0_1, .slice A0_2 l0_2.length c0_2], 25) (by simp)) hb, blk_below (HH.out.blks (w.heap.size + 1, #[.int .i64 a1_0, .slice A1_1 l1_1.length c1_1, .slice A1_2 l1_2.length c1_2], 25) (by simp)) hb⟩⟩
  clear HH
  go_loopw [7, 8] (fun v7 v8 wr => ∃ (i : Nat) (x7 : List Int), i ≤ l2.length ∧ v8 = .int .i64 i ∧ Aside0 (x7 = (l2.take i).map (fun x => Int.tmod (wrap64 x) a0_0)) ∧ Aside0 (Kd.R (Kd.int .i64) 3 wr wl.heap.size (fun _ => True) v7 x7) ∧ Aside0 (Below wl.heap.size wl wr)) (fun _ v8 _ => l2.length - (intOf v8).toNat)
  case atStart => exact ⟨0, [], Nat.zero_le _, rfl, ⟨rfl⟩, ⟨Kd.R_nil _ _ _ _ _⟩, ⟨Below.refl _ _⟩⟩
  case round =>
    obtain ⟨i, x7, hi, rfl, HX7, HL, HB⟩ := hrel
    by_cases hlt : i < l2.length
    · have p1 : 0 ≤ (i : Int) := by omega
      have q1 : (i : Int) < (l2.length : Int) := by omega
      obtain ⟨ad, ea, hx⟩ := Kd.at_int HR2.out (i : Int) p1 q1
      cases ea
      have HX := Aside0.mk hx
      clear hx
      have q1b : decide ((i : Int) < (l2.length : Int)) = true := decide_eq_true q1
      replace p1 := eq_true p1
      replace q1 := eq_true q1
      have hzz : (a0_0 = 0) = False := eq_false HZ.out
      obtain ⟨A7, c7, rfl, hl7, hr7⟩ := Kd.R_reads HL.out
      clear hl7 hr7
      go_wp2
      have HLd := Aside0.mk (Kd.R_drew HL.out)
      have HB2 := Aside0.mk (below_drew1 HB.out)
      refine start_ (n := 12) (S := fun w' => w'.heap[w.heap.size]? = some (.cells #[.int .i64 a0_0, .slice A0_1 l0_1.length c0_1, .slice A0_2 l0_2.length c0_2] 25 (0, 0)) ∧ w'.cell? (ad.add (i : Int).toNat) = some (.int .u8 (rd l2 (i : Int)))) (ds := [9, 10]) #[false, false, false, false, false, false, false, false, false, false, false, false] (by kernel_rfl) rfl rfl ⟨(EA.out _ (below_drew1 HB.out)).2.1, (((EA.out _ (below_drew1 HB.out)).1).cell (World.block_lt_of_cell? _ _ HX.out)).trans HX.out⟩ (fun hHeld => ?_)
      refine with_tabW takes_law.tab7 takes_law.bits7 (fun HT_ HW_ => ?_)
      clear HL HB
      have HL := HLd
      clear HLd
      generalize wr.drew = w9 at HL HB2 hHeld ⊢
      refine pure_ (i := 0) (N := some 60) (v := ?_) (a' := ?_) #[true, false, false, false, false, false, false, false, false, false, false, false] rfl rfl (any_of HT_.out (by kernel_rfl)) (fun _ _ _ h => h) (Or.inl ⟨by rfl, ?_⟩) ?_ ?_
      rotate_left
      · intro w'
        go_simp
        with_reducible rfl
      rotate_left
      · simp only [Act.put, List.setIfInBounds_toArray, List.set_cons_zero, List.set_cons_succ, i64_w, i32_w]
        rfl
      refine pure_ (i := 1) (N := some 61) (v := ?_) (a' := ?_) #[true, true, false, false, false, false, false, false, false, false, false, false] rfl rfl (any_of HT_.out (by kernel_rfl)) (fun _ _ _ h => h) (Or.inl ⟨by rfl, ?_⟩) ?_ ?_
      rotate_left
      · intro w'
        go_simp
        with_reducible rfl
      rotate_left
      · simp only [Act.put, List.setIfInBounds_toArray, List.set_cons_zero, List.set_cons_succ, i64_w, i32_w]
        rfl
      refine pure_ (i := 2) (N := some 62) (v := ?_) (a' := ?_) #[true, true, true, false, false, false, false, false, false, false, false, false] rfl rfl (any_of HT_.out (by kernel_rfl)) (fun _ _ _ h => h) (Or.inl ⟨by rfl, ?_⟩) ?_ ?_
      rotate_left
      · intro w'
        go_simp
        with_reducible rfl
      rotate_left
      · simp only [Act.put, List.setIfInBounds_toArray, List.set_cons_zero, List.set_cons_succ, i64_w, i32_w]
        rfl
      refine pure_ (i := 3) (N := some 63) (v := ?_) (a' := ?_) #[true, true, true, true, false, false, false, false, false, false, false, false] rfl rfl (any_of HT_.out (by kernel_rfl)) (fun _ _ _ h => h) (Or.inl ⟨by rfl, ?_⟩) ?_ ?_
      rotate_left
      · intro w'
        go_simp
        with_reducible rfl
      rotate_left
      · simp only [Act.put, List.setIfInBounds_toArray, List.set_cons_zero, List.set_cons_succ, i64_w, i32_w]
        rfl
      refine pure_ (i := 6) (N := some 66) (v := ?_) (a' := ?_) #[true, true, true, true, false, false, true, false, false, false, false, false] rfl rfl (any_of HT_.out (by kernel_rfl)) (fun _ _ _ h => h) (Or.inl ⟨by rfl, ?_⟩) ?_ ?_
      rotate_left
      · intro w'
        go_simp
        with_reducible rfl
      rotate_left
      · simp only [Act.put, List.setIfInBounds_toArray, List.set_cons_zero, List.set_cons_succ, i64_w, i32_w]
        rfl
      refine take_ (i := 4) (N := some 64) (v := ?_) (a' := ?_) #[true, true, true, true, true, false, true, false, false, false, false, false] rfl rfl (take_ofW HT_.out HW_.out (by kernel_rfl)) (fun _ _ _ h => h) (Or.inl ⟨by rfl, ?_⟩) hHeld ?_ ?_
      rotate_left
      · rintro w' ⟨s0, s1⟩
        have c00_ : w'.cell? ⟨w.heap.size, 0, none⟩ = some (.int .i64 a0_0) := (blk_cell s0 0).trans rfl
        (try simp only [Go.IntWalk.toNatUp] at s1)
        clear s0
        go_simp
        with_reducible rfl
      rotate_left
      · simp only [Act.put, List.setIfInBounds_toArray, List.set_cons_zero, List.set_cons_succ, i64_w, i32_w]
        rfl
      refine pure_ (i := 5) (N := some 65) (v := ?_) (a' := ?_) #[true, true, true, true, true, true, true, false, false, false, false, false] rfl rfl (any_of HT_.out (by kernel_rfl)) (fun _ _ _ h => h) (Or.inl ⟨by rfl, ?_⟩) ?_ ?_
      rotate_left
      · intro w'
        go_simp
        with_reducible rfl
      rotate_left
      · simp only [Act.put, List.setIfInBounds_toArray, List.set_cons_zero, List.set_cons_succ, i64_w, i32_w]
        rfl
      refine take_ (i := 7) (N := some 67) (v := ?_) (a' := ?_) #[true, true, true, true, true, true, true, true, false, false, false, false] rfl rfl (take_ofW HT_.out HW_.out (by kernel_rfl)) (fun _ _ _ h => h) (Or.inl ⟨by rfl, ?_⟩) hHeld ?_ ?_
      rotate_left
      · rintro w' ⟨s0, s1⟩
        have c00_ : w'.cell? ⟨w.heap.size, 0, none⟩ = some (.int .i64 a0_0) := (blk_cell s0 0).trans rfl
        (try simp only [Go.IntWalk.toNatUp] at s1)
        clear s0
        go_simp
        with_reducible rfl
      rotate_left
      · simp only [Act.put, List.setIfInBounds_toArray, List.set_cons_zero, List.set_cons_succ, i64_w, i32_w]
        rfl
      refine pure_ (i := 8) (N := some 68) (v := ?_) (a' := ?_) #[true, true, true, true, true, true, true, true, true, false, false, false] rfl rfl (any_of HT_.out (by kernel_rfl)) (fun _ _ _ h => h) (Or.inl ⟨by rfl, ?_⟩) ?_ ?_
      rotate_left
      · intro w'
        go_simp
        with_reducible rfl
      rotate_left
      · simp only [Act.put, List.setIfInBounds_toArray, List.set_cons_zero, List.set_cons_succ, i64_w, i32_w]
        rfl
      refine last_ (i := 9) (N := some 69) #[true, true, true, true, true, true, true, true, true, true, false, false] rfl rfl (one_of HT_.out (by kernel_rfl)) (by decide) (fun K hK => ?_)
      refine value_ (w1 := ?_) (v := ?_) (by rfl) rfl ?_ ?_
      rotate_left 2
      · go_simp
        constructor
        · rfl
        · rfl
      refine hK.out _ _ ?_
      clear hK K
      refine norm_ (a' := ?_) ?_ ?_
      rotate_left
      · show Act.put _ (some 69) _ = _
        simp only [Act.put, List.setIfInBounds_toArray, List.set_cons_zero, List.set_cons_succ, i64_w, i32_w]
        rfl
      refine last_ (i := 10) (N := some 70) #[true, true, true, true, true, true, true, true, true, true, true, false] rfl rfl (one_of HT_.out (by kernel_rfl)) (by decide) (fun K hK => ?_)
      refine Kd.R_append_step (Kd.int .i64) (w0 := wl) wl.heap.size (by rfl) (.tmp 60) (.tmp 69) 45 3 (.int .i64 0) 8 rfl Try.underlying45 info3 rfl (by decide) (by omega) (.slice A7 x7.length c7) x7 (Int.tmod (wrap64 (rd l2 (i : Int))) a0_0) [.int .i64 (Int.tmod (wrap64 (rd l2 (i : Int))) a0_0)] (fun _ => True) (fun _ => False) rfl rfl ?aP (fun _ hk => hk.elim) ?aF ?aO ?aB ?aS ?aL ?_
      (case aP => exact rfl)
      (case aB => exact HB2.out)
      (case aF => exact (fun _ _ => trivial))
      (case aO => exact HL.out)
      (case aS => exact below_size HB2.out)
      (case aL => rw [HX7.out]; simp only [List.length_map, List.length_take]; omega)
      intro v10 w10 ho hb hg hat
      have HL2 := Aside0.mk ho
      have HB3 := Aside0.mk hb
      clear ho hb hg hat
      refine hK.out _ _ ?_
      clear hK K
      refine norm_ (a' := ?_) ?_ ?_
      rotate_left
      · show Act.put _ (some 70) _ = _
        simp only [Act.put, List.setIfInBounds_toArray, List.set_cons_zero, List.set_cons_succ, i64_w, i32_w]
        rfl
      refine pure_ (i := 11) (N := some 7) (v := ?_) (a' := ?_) #[true, true, true, true, true, true, true, true, true, true, true, true] rfl rfl (any_of HT_.out (by kernel_rfl)) (fun _ _ _ h => h) (Or.inl ⟨by rfl, ?_⟩) ?_ ?_
      rotate_left
      · intro w'
        go_simp
        with_reducible rfl
      rotate_left
      · simp only [Act.put, List.setIfInBounds_toArray, List.set_cons_zero, List.set_cons_succ, i64_w, i32_w]
        rfl
      refine done_ (done_of HT_.out (by kernel_rfl)) ?_
      try go_wp2
      go_roundw
      case rel => exact ⟨i + 1, _, by omega, by go_num, ⟨by rw [List.take_succ_eq_append_getElem hlt, List.map_append, HX7.out]; simp [rd, List.getD, hlt]⟩, HL2, HB3⟩
      case measure => simp [intOf]; omega
    · have q1b : decide ((i : Int) < (l2.length : Int)) = false := decide_eq_false (by omega)
      obtain rfl : i = l2.length := by omega
      have hX := HX7.out
      rw [List.take_length] at hX
      subst hX
      clear HX7
      obtain ⟨A7, c7, rfl, hl7, hr7⟩ := Kd.R_reads HL.out
      have hE := HLL.out
      rw [← hE] at hl7 hr7 ⊢
      have HL7 := Aside0.mk hl7
      have HW := Aside0.mk (fun (W : World) (hb : Below wr.heap.size wr W) => (⟨below_step (EA.out wr HB.out).1 hb, (EA.out W (below_step HB.out hb)).2.1, (EA.out W (below_step HB.out hb)).2.2, Kd.C_below hr7 hb⟩ : Below w.heap.size w W ∧ W.heap[w.heap.size]? = some (.cells #[.int .i64 a0_0, .slice A0_1 l0_1.length c0_1, .slice A0_2 l0_2.length c0_2] 25 (0, 0)) ∧ W.heap[w.heap.size + 1]? = some (.cells #[.int .i64 a1_0, .slice A1_1 l1_1.length c1_1, .slice A1_2 l1_2.length c1_2] 25 (0, 0)) ∧ Kd.C (Kd.int .i64) W A7 L.length L))
      clear EA HB HL hr7 hl7 hE
      have HH := Aside0.mk (Hold.refl wr)
      have c00_ : wr.cell? ⟨w.heap.size, 0, none⟩ = some (.int .i64 a0_0) := (blk_cell (HW.out _ HH.out.low).2.1 0).trans rfl
      have c01_ : wr.cell? ⟨w.heap.size, 1, none⟩ = some (.slice A0_1 l0_1.length c0_1) := (blk_cell (HW.out _ HH.out.low).2.1 1).trans rfl
      have c02_ : wr.cell? ⟨w.heap.size, 2, none⟩ = some (.slice A0_2 l0_2.length c0_2) := (blk_cell (HW.out _ HH.out.low).2.1 2).trans rfl
      have c10_ : wr.cell? ⟨w.heap.size + 1, 0, none⟩ = some (.int .i64 a1_0) := (blk_cell (HW.out _ HH.out.low).2.2.1 0).trans rfl
      have c11_ : wr.cell? ⟨w.heap.size + 1, 1, none⟩ = some (.slice A1_1 l1_1.length c1_1) := (blk_cell (HW.out _ HH.out.low).2.2.1 1).trans rfl
      have c12_ : wr.cell? ⟨w.heap.size + 1, 2, none⟩ = some (.slice A1_2 l1_2.length c1_2) := (blk_cell (HW.out _ HH.out.low).2.2.1 2).trans rfl
      have hLn : L.length ≤ 8 := by rw [HLL.out, List.length_map]; exact hn2
      go_wp2_with (first | (go_at_call 28; have hF_ := HT1.out; refine (thompson_Of.calls t1 a0_0 A0_1 c0_1 l0_1 A0_2 c0_2 l0_2 x1 X1 true _ (Kd.C_below HR0_1.out (HW.out _ HH.out.low).1) hc0_1 (Kd.C_below HR0_2.out (HW.out _ HH.out.low).1) hc0_2 hF_).mono ?_; clear hF_ HT1; rintro e wa1 ⟨u_, rfl, hS_, hb_⟩; obtain ⟨U1, q1, rfl⟩ := Kd.S_slice hS_; have hz_ := Hold.alloc (b1 := []) (HH.out.net hS_ hb_) #[.int .i64 x1, .slice U1 X1.length q1] 28; clear HH hS_ hb_; have HH := Aside0.mk hz_; clear hz_; (try clear c00_ c01_ c02_ c10_ c11_ c12_); have c00_ : (wa1.alloc (Obj.cells #[.int .i64 x1, .slice U1 X1.length q1] 28)).cell? ⟨w.heap.size, 0, none⟩ = some (.int .i64 a0_0) := (blk_cell (HW.out _ HH.out.low).2.1 0).trans rfl; have c01_ : (wa1.alloc (Obj.cells #[.int .i64 x1, .slice U1 X1.length q1] 28)).cell? ⟨w.heap.size, 1, none⟩ = some (.slice A0_1 l0_1.length c0_1) := (blk_cell (HW.out _ HH.out.low).2.1 1).trans rfl; have c02_ : (wa1.alloc (Obj.cells #[.int .i64 x1, .slice U1 X1.length q1] 28)).cell? ⟨w.heap.size, 2, none⟩ = some (.slice A0_2 l0_2.length c0_2) := (blk_cell (HW.out _ HH.out.low).2.1 2).trans rfl; have c10_ : (wa1.alloc (Obj.cells #[.int .i64 x1, .slice U1 X1.length q1] 28)).cell? ⟨w.heap.size + 1, 0, none⟩ = some (.int .i64 a1_0) := (blk_cell (HW.out _ HH.out.low).2.2.1 0).trans rfl; have c11_ : (wa1.alloc (Obj.cells #[.int .i64 x1, .slice U1 X1.length q1] 28)).cell? ⟨w.heap.size + 1, 1, none⟩ = some (.slice A1_1 l1_1.length c1_1) := (blk_cell (HW.out _ HH.out.low).2.2.1 1).trans rfl; have c12_ : (wa1.alloc (Obj.cells #[.int .i64 x1, .slice U1 X1.length q1] 28)).cell? ⟨w.heap.size + 1, 2, none⟩ = some (.slice A1_2 l1_2.length c1_2) := (blk_cell (HW.out _ HH.out.low).2.2.1 2).trans rfl) | (go_at_call 29; have hF_ := HT2.out; refine (thompson_Join.calls t2 a0_0 A0_1 c0_1 l0_1 A0_2 c0_2 l0_2 a1_0 A1_1 c1_1 l1_1 A1_2 c1_2 l1_2 x2 X2 true _ (Kd.C_below HR0_1.out (HW.out _ HH.out.low).1) hc0_1 (Kd.C_below HR0_2.out (HW.out _ HH.out.low).1) hc0_2 (Kd.C_below HR1_1.out (HW.out _ HH.out.low).1) hc1_1 (Kd.C_below HR1_2.out (HW.out _ HH.out.low).1) hc1_2 hF_).mono ?_; clear hF_ HT2; rintro e wa2 ⟨u_, rfl, hS_, hb_⟩; obtain ⟨U2, q2, rfl⟩ := Kd.S_slice hS_; have hz_ := Hold.alloc (b1 := []) (HH.out.net hS_ hb_) #[.int .i64 x2, .slice U2 X2.length q2] 28; clear HH hS_ hb_; have HH := Aside0.mk hz_; clear hz_; (try clear c00_ c01_ c02_ c10_ c11_ c12_); have c00_ : (wa2.alloc (Obj.cells #[.int .i64 x2, .slice U2 X2.length q2] 28)).cell? ⟨w.heap.size, 0, none⟩ = some (.int .i64 a0_0) := (blk_cell (HW.out _ HH.out.low).2.1 0).trans rfl; have c01_ : (wa2.alloc (Obj.cells #[.int .i64 x2, .slice U2 X2.length q2] 28)).cell? ⟨w.heap.size, 1, none⟩ = some (.slice A0_1 l0_1.length c0_1) := (blk_cell (HW.out _ HH.out.low).2.1 1).trans rfl; have c02_ : (wa2.alloc (Obj.cells #[.int .i64 x2, .slice U2 X2.length q2] 28)).cell? ⟨w.heap.size, 2, none⟩ = some (.slice A0_2 l0_2.length c0_2) := (blk_cell (HW.out _ HH.out.low).2.1 2).trans rfl; have c10_ : (wa2.alloc (Obj.cells #[.int .i64 x2, .slice U2 X2.length q2] 28)).cell? ⟨w.heap.size + 1, 0, none⟩ = some (.int .i64 a1_0) := (blk_cell (HW.out _ HH.out.low).2.2.1 0).trans rfl; have c11_ : (wa2.alloc (Obj.cells #[.int .i64 x2, .slice U2 X2.length q2] 28)).cell? ⟨w.heap.size + 1, 1, none⟩ = some (.slice A1_1 l1_1.length c1_1) := (blk_cell (HW.out _ HH.out.low).2.2.1 1).trans rfl; have c12_ : (wa2.alloc (Obj.cells #[.int .i64 x2, .slice U2 X2.length q2] 28)).cell? ⟨w.heap.size + 1, 2, none⟩ = some (.slice A1_2 l1_2.length c1_2) := (blk_cell (HW.out _ HH.out.low).2.2.1 2).trans rfl) | (go_at_call 30; have hF_ := HT3.out; refine (thompson_Either.calls t3 a0_0 A0_1 c0_1 l0_1 A0_2 c0_2 l0_2 a1_0 A1_1 c1_1 l1_1 A1_2 c1_2 l1_2 x3 X3 true _ (Kd.C_below HR0_1.out (HW.out _ HH.out.low).1) hc0_1 (Kd.C_below HR0_2.out (HW.out _ HH.out.low).1) hc0_2 (Kd.C_below HR1_1.out (HW.out _ HH.out.low).1) hc1_1 (Kd.C_below HR1_2.out (HW.out _ HH.out.low).1) hc1_2 hF_).mono ?_; clear hF_ HT3; rintro e wa3 ⟨u_, rfl, hS_, hb_⟩; obtain ⟨U3, q3, rfl⟩ := Kd.S_slice hS_; have hz_ := Hold.alloc (b1 := []) (HH.out.net hS_ hb_) #[.int .i64 x3, .slice U3 X3.length q3] 28; clear HH hS_ hb_; have HH := Aside0.mk hz_; clear hz_; (try clear c00_ c01_ c02_ c10_ c11_ c12_); have c00_ : (wa3.alloc (Obj.cells #[.int .i64 x3, .slice U3 X3.length q3] 28)).cell? ⟨w.heap.size, 0, none⟩ = some (.int .i64 a0_0) := (blk_cell (HW.out _ HH.out.low).2.1 0).trans rfl; have c01_ : (wa3.alloc (Obj.cells #[.int .i64 x3, .slice U3 X3.length q3] 28)).cell? ⟨w.heap.size, 1, none⟩ = some (.slice A0_1 l0_1.length c0_1) := (blk_cell (HW.out _ HH.out.low).2.1 1).trans rfl; have c02_ : (wa3.alloc (Obj.cells #[.int .i64 x3, .slice U3 X3.length q3] 28)).cell? ⟨w.heap.size, 2, none⟩ = some (.slice A0_2 l0_2.length c0_2) := (blk_cell (HW.out _ HH.out.low).2.1 2).trans rfl; have c10_ : (wa3.alloc (Obj.cells #[.int .i64 x3, .slice U3 X3.length q3] 28)).cell? ⟨w.heap.size + 1, 0, none⟩ = some (.int .i64 a1_0) := (blk_cell (HW.out _ HH.out.low).2.2.1 0).trans rfl; have c11_ : (wa3.alloc (Obj.cells #[.int .i64 x3, .slice U3 X3.length q3] 28)).cell? ⟨w.heap.size + 1, 1, none⟩ = some (.slice A1_1 l1_1.length c1_1) := (blk_cell (HW.out _ HH.out.low).2.2.1 1).trans rfl; have c12_ : (wa3.alloc (Obj.cells #[.int .i64 x3, .slice U3 X3.length q3] 28)).cell? ⟨w.heap.size + 1, 2, none⟩ = some (.slice A1_2 l1_2.length c1_2) := (blk_cell (HW.out _ HH.out.low).2.2.1 2).trans rfl) | (go_at_call 31; have hF_ := HT4.out; refine (thompson_Again.calls t4 a0_0 A0_1 c0_1 l0_1 A0_2 c0_2 l0_2 x4 X4 true _ (Kd.C_below HR0_1.out (HW.out _ HH.out.low).1) hc0_1 (Kd.C_below HR0_2.out (HW.out _ HH.out.low).1) hc0_2 hF_).mono ?_; clear hF_ HT4; rintro e wa4 ⟨u_, rfl, hS_, hb_⟩; obtain ⟨U4, q4, rfl⟩ := Kd.S_slice hS_; have hz_ := Hold.alloc (b1 := []) (HH.out.net hS_ hb_) #[.int .i64 x4, .slice U4 X4.length q4] 28; clear HH hS_ hb_; have HH := Aside0.mk hz_; clear hz_; (try clear c00_ c01_ c02_ c10_ c11_ c12_); have b_ := HH.out.blks (wa1.heap.size, #[.int .i64 x1, .slice U1 X1.length q1], 28) (by simp); have n10_ : (wa4.alloc (Obj.cells #[.int .i64 x4, .slice U4 X4.length q4] 28)).cell? ⟨wa1.heap.size, 0, none⟩ = some (.int .i64 x1) := (blk_cell b_ 0).trans rfl; have n11_ : (wa4.alloc (Obj.cells #[.int .i64 x4, .slice U4 X4.length q4] 28)).cell? ⟨wa1.heap.size, 1, none⟩ = some (.slice U1 X1.length q1) := (blk_cell b_ 1).trans rfl; clear b_; have b_ := HH.out.blks (wa2.heap.size, #[.int .i64 x2, .slice U2 X2.length q2], 28) (by simp); have n20_ : (wa4.alloc (Obj.cells #[.int .i64 x4, .slice U4 X4.length q4] 28)).cell? ⟨wa2.heap.size, 0, none⟩ = some (.int .i64 x2) := (blk_cell b_ 0).trans rfl; have n21_ : (wa4.alloc (Obj.cells #[.int .i64 x4, .slice U4 X4.length q4] 28)).cell? ⟨wa2.heap.size, 1, none⟩ = some (.slice U2 X2.length q2) := (blk_cell b_ 1).trans rfl; clear b_; have b_ := HH.out.blks (wa3.heap.size, #[.int .i64 x3, .slice U3 X3.length q3], 28) (by simp); have n30_ : (wa4.alloc (Obj.cells #[.int .i64 x4, .slice U4 X4.length q4] 28)).cell? ⟨wa3.heap.size, 0, none⟩ = some (.int .i64 x3) := (blk_cell b_ 0).trans rfl; have n31_ : (wa4.alloc (Obj.cells #[.int .i64 x4, .slice U4 X4.length q4] 28)).cell? ⟨wa3.heap.size, 1, none⟩ = some (.slice U3 X3.length q3) := (blk_cell b_ 1).trans rfl; clear b_; have b_ := HH.out.blks (wa4.heap.size, #[.int .i64 x4, .slice U4 X4.length q4], 28) (by simp); have n40_ : (wa4.alloc (Obj.cells #[.int .i64 x4, .slice U4 X4.length q4] 28)).cell? ⟨wa4.heap.size, 0, none⟩ = some (.int .i64 x4) := (blk_cell b_ 0).trans rfl; have n41_ : (wa4.alloc (Obj.cells #[.int .i64 x4, .slice U4 X4.length q4] 28)).cell? ⟨wa4.heap.size, 1, none⟩ = some (.slice U4 X4.length q4) := (blk_cell b_ 1).trans rfl; clear b_) | (go_at_call 39; have hF_ := HS1.out; refine (caesuraref19_GoodNet.calls n1 x1 U1 q1 X1 true _ (HH.out.C_nets (A := U1) (c := q1) (n := X1.length) (L := X1) (by simp)).2.2 (HH.out.C_nets (A := U1) (c := q1) (n := X1.length) (L := X1) (by simp)).2.1 hF_).mono ?_; clear hF_ HS1; rintro e wb1 ⟨rfl, hb_⟩; have hz_ := HH.out.step hb_; clear HH hb_; have HH := Aside0.mk hz_; clear hz_; (try clear n10_ n11_ n20_ n21_ n30_ n31_ n40_ n41_); have b_ := HH.out.blks (wa1.heap.size, #[.int .i64 x1, .slice U1 X1.length q1], 28) (by simp); have n10_ : wb1.cell? ⟨wa1.heap.size, 0, none⟩ = some (.int .i64 x1) := (blk_cell b_ 0).trans rfl; have n11_ : wb1.cell? ⟨wa1.heap.size, 1, none⟩ = some (.slice U1 X1.length q1) := (blk_cell b_ 1).trans rfl; clear b_; have b_ := HH.out.blks (wa2.heap.size, #[.int .i64 x2, .slice U2 X2.length q2], 28) (by simp); have n20_ : wb1.cell? ⟨wa2.heap.size, 0, none⟩ = some (.int .i64 x2) := (blk_cell b_ 0).trans rfl; have n21_ : wb1.cell? ⟨wa2.heap.size, 1, none⟩ = some (.slice U2 X2.length q2) := (blk_cell b_ 1).trans rfl; clear b_; have b_ := HH.out.blks (wa3.heap.size, #[.int .i64 x3, .slice U3 X3.length q3], 28) (by simp); have n30_ : wb1.cell? ⟨wa3.heap.size, 0, none⟩ = some (.int .i64 x3) := (blk_cell b_ 0).trans rfl; have n31_ : wb1.cell? ⟨wa3.heap.size, 1, none⟩ = some (.slice U3 X3.length q3) := (blk_cell b_ 1).trans rfl; clear b_; have b_ := HH.out.blks (wa4.heap.size, #[.int .i64 x4, .slice U4 X4.length q4], 28) (by simp); have n40_ : wb1.cell? ⟨wa4.heap.size, 0, none⟩ = some (.int .i64 x4) := (blk_cell b_ 0).trans rfl; have n41_ : wb1.cell? ⟨wa4.heap.size, 1, none⟩ = some (.slice U4 X4.length q4) := (blk_cell b_ 1).trans rfl; clear b_) | (go_at_call 39; have hF_ := HS2.out; refine (caesuraref19_GoodNet.calls n2 x2 U2 q2 X2 true _ (HH.out.C_nets (A := U2) (c := q2) (n := X2.length) (L := X2) (by simp)).2.2 (HH.out.C_nets (A := U2) (c := q2) (n := X2.length) (L := X2) (by simp)).2.1 hF_).mono ?_; clear hF_ HS2; rintro e wb2 ⟨rfl, hb_⟩; have hz_ := HH.out.step hb_; clear HH hb_; have HH := Aside0.mk hz_; clear hz_; (try clear n10_ n11_ n20_ n21_ n30_ n31_ n40_ n41_); have b_ := HH.out.blks (wa1.heap.size, #[.int .i64 x1, .slice U1 X1.length q1], 28) (by simp); have n10_ : wb2.cell? ⟨wa1.heap.size, 0, none⟩ = some (.int .i64 x1) := (blk_cell b_ 0).trans rfl; have n11_ : wb2.cell? ⟨wa1.heap.size, 1, none⟩ = some (.slice U1 X1.length q1) := (blk_cell b_ 1).trans rfl; clear b_; have b_ := HH.out.blks (wa2.heap.size, #[.int .i64 x2, .slice U2 X2.length q2], 28) (by simp); have n20_ : wb2.cell? ⟨wa2.heap.size, 0, none⟩ = some (.int .i64 x2) := (blk_cell b_ 0).trans rfl; have n21_ : wb2.cell? ⟨wa2.heap.size, 1, none⟩ = some (.slice U2 X2.length q2) := (blk_cell b_ 1).trans rfl; clear b_; have b_ := HH.out.blks (wa3.heap.size, #[.int .i64 x3, .slice U3 X3.length q3], 28) (by simp); have n30_ : wb2.cell? ⟨wa3.heap.size, 0, none⟩ = some (.int .i64 x3) := (blk_cell b_ 0).trans rfl; have n31_ : wb2.cell? ⟨wa3.heap.size, 1, none⟩ = some (.slice U3 X3.length q3) := (blk_cell b_ 1).trans rfl; clear b_; have b_ := HH.out.blks (wa4.heap.size, #[.int .i64 x4, .slice U4 X4.length q4], 28) (by simp); have n40_ : wb2.cell? ⟨wa4.heap.size, 0, none⟩ = some (.int .i64 x4) := (blk_cell b_ 0).trans rfl; have n41_ : wb2.cell? ⟨wa4.heap.size, 1, none⟩ = some (.slice U4 X4.length q4) := (blk_cell b_ 1).trans rfl; clear b_) | (go_at_call 39; have hF_ := HS3.out; refine (caesuraref19_GoodNet.calls n3 x3 U3 q3 X3 true _ (HH.out.C_nets (A := U3) (c := q3) (n := X3.length) (L := X3) (by simp)).2.2 (HH.out.C_nets (A := U3) (c := q3) (n := X3.length) (L := X3) (by simp)).2.1 hF_).mono ?_; clear hF_ HS3; rintro e wb3 ⟨rfl, hb_⟩; have hz_ := HH.out.step hb_; clear HH hb_; have HH := Aside0.mk hz_; clear hz_; (try clear n10_ n11_ n20_ n21_ n30_ n31_ n40_ n41_); have b_ := HH.out.blks (wa1.heap.size, #[.int .i64 x1, .slice U1 X1.length q1], 28) (by simp); have n10_ : wb3.cell? ⟨wa1.heap.size, 0, none⟩ = some (.int .i64 x1) := (blk_cell b_ 0).trans rfl; have n11_ : wb3.cell? ⟨wa1.heap.size, 1, none⟩ = some (.slice U1 X1.length q1) := (blk_cell b_ 1).trans rfl; clear b_; have b_ := HH.out.blks (wa2.heap.size, #[.int .i64 x2, .slice U2 X2.length q2], 28) (by simp); have n20_ : wb3.cell? ⟨wa2.heap.size, 0, none⟩ = some (.int .i64 x2) := (blk_cell b_ 0).trans rfl; have n21_ : wb3.cell? ⟨wa2.heap.size, 1, none⟩ = some (.slice U2 X2.length q2) := (blk_cell b_ 1).trans rfl; clear b_; have b_ := HH.out.blks (wa3.heap.size, #[.int .i64 x3, .slice U3 X3.length q3], 28) (by simp); have n30_ : wb3.cell? ⟨wa3.heap.size, 0, none⟩ = some (.int .i64 x3) := (blk_cell b_ 0).trans rfl; have n31_ : wb3.cell? ⟨wa3.heap.size, 1, none⟩ = some (.slice U3 X3.length q3) := (blk_cell b_ 1).trans rfl; clear b_; have b_ := HH.out.blks (wa4.heap.size, #[.int .i64 x4, .slice U4 X4.length q4], 28) (by simp); have n40_ : wb3.cell? ⟨wa4.heap.size, 0, none⟩ = some (.int .i64 x4) := (blk_cell b_ 0).trans rfl; have n41_ : wb3.cell? ⟨wa4.heap.size, 1, none⟩ = some (.slice U4 X4.length q4) := (blk_cell b_ 1).trans rfl; clear b_) | (go_at_call 39; have hF_ := HS4.out; refine (caesuraref19_GoodNet.calls n4 x4 U4 q4 X4 true _ (HH.out.C_nets (A := U4) (c := q4) (n := X4.length) (L := X4) (by simp)).2.2 (HH.out.C_nets (A := U4) (c := q4) (n := X4.length) (L := X4) (by simp)).2.1 hF_).mono ?_; clear hF_ HS4; rintro e wb4 ⟨rfl, hb_⟩; have hz_ := HH.out.step hb_; clear HH hb_; have HH := Aside0.mk hz_; clear hz_; (try clear n10_ n11_ n20_ n21_ n30_ n31_ n40_ n41_); have b_ := HH.out.blks (wa1.heap.size, #[.int .i64 x1, .slice U1 X1.length q1], 28) (by simp); have n10_ : wb4.cell? ⟨wa1.heap.size, 0, none⟩ = some (.int .i64 x1) := (blk_cell b_ 0).trans rfl; have n11_ : wb4.cell? ⟨wa1.heap.size, 1, none⟩ = some (.slice U1 X1.length q1) := (blk_cell b_ 1).trans rfl; clear b_; have b_ := HH.out.blks (wa2.heap.size, #[.int .i64 x2, .slice U2 X2.length q2], 28) (by simp); have n20_ : wb4.cell? ⟨wa2.heap.size, 0, none⟩ = some (.int .i64 x2) := (blk_cell b_ 0).trans rfl; have n21_ : wb4.cell? ⟨wa2.heap.size, 1, none⟩ = some (.slice U2 X2.length q2) := (blk_cell b_ 1).trans rfl; clear b_; have b_ := HH.out.blks (wa3.heap.size, #[.int .i64 x3, .slice U3 X3.length q3], 28) (by simp); have n30_ : wb4.cell? ⟨wa3.heap.size, 0, none⟩ = some (.int .i64 x3) := (blk_cell b_ 0).trans rfl; have n31_ : wb4.cell? ⟨wa3.heap.size, 1, none⟩ = some (.slice U3 X3.length q3) := (blk_cell b_ 1).trans rfl; clear b_; have b_ := HH.out.blks (wa4.heap.size, #[.int .i64 x4, .slice U4 X4.length q4], 28) (by simp); have n40_ : wb4.cell? ⟨wa4.heap.size, 0, none⟩ = some (.int .i64 x4) := (blk_cell b_ 0).trans rfl; have n41_ : wb4.cell? ⟨wa4.heap.size, 1, none⟩ = some (.slice U4 X4.length q4) := (blk_cell b_ 1).trans rfl; clear b_) | ((with_reducible refine gate_dst (N := 130) rfl ?_); refine Kd.R_make Kd.bool _ 4 rfl (N := 130) rfl 23 _ _ rfl ((L.length : Int) + 1) rfl rfl Try.underlying23 (.bool false) 1 info4 rfl (by decide) (by omega) false (ok := fun _ => True) (okp := fun _ => True) rfl (fun _ hk => hk) trivial (by omega) (by omega) (Below.refl _ _) (Nat.le_refl _) ?_; intro v18_ w11 ho hb hg_ hnew_; clear hg_ hnew_; rw [show ((L.length : Int) + 1).toNat = L.length + 1 from by omega] at ho; obtain ⟨g, cg, rfl, hgb, -, -⟩ := Kd.R_form ho (by simp); rw [List.length_replicate] at ho ⊢; obtain ⟨y0_, z0_⟩ := Kd.R_celln false ho (0 : Int) (by omega) (by omega); rw [show ((0 : Int)).toNat = 0 from rfl] at y0_ z0_; have HP := Aside0.mk (Kd.R_putg ho (0 : Int) true).1; have HB0 := Aside0.mk (hb.setCell hgb (p := ⟨g, 0, none⟩) (.bool true)); have HGB := Aside0.mk hgb; have HW2 := Aside0.mk (fun (W : World) (hb' : Below wb4.heap.size wb4 W) => (HW.out W (below_step HH.out.low hb'))); have HN4 := Aside0.mk (fun (W : World) (hb' : Below wb4.heap.size wb4 W) => (HH.out.step hb')); clear ho hb hgb HW HH n10_ n11_ n20_ n21_ n30_ n31_ n40_ n41_))
      try clear y0_ z0_
      go_loopw [17, 19] (fun v17 v19 wq => ∃ (k : Nat) (G : List Bool), k ≤ L.length + 1 ∧ v19 = .int .i64 (k : Int) ∧ v17 = .bool (catB ta tb L.length k) ∧ Aside0 (G = agains ta L.length k) ∧ Aside0 (Kd.R Kd.bool 4 wq wb4.heap.size (fun _ => True) (.slice (some ⟨g, 0, none⟩) (L.length + 1) cg) (G)) ∧ Aside0 (Below wb4.heap.size wb4 wq)) (fun _ v19 _ => L.length + 1 - (intOf v19).toNat)
      case atStart => exact ⟨0, _, Nat.zero_le _, rfl, rfl, ⟨rfl⟩, HP, HB0⟩
      case round =>
        clear HP HB0
        obtain ⟨k, G, hk, rfl, rfl, HG, HP, HB⟩ := hrel
        by_cases hlt : k < L.length + 1
        · have hkl : k ≤ L.length := by omega
          have q1b : decide ((k : Int) ≤ (L.length : Int)) = true := decide_eq_true (by omega)
          have hGl : G.length = L.length + 1 := by rw [HG.out, agains_length]
          go_wp2
          obtain ⟨M1, hM1, cu1, cC1, cc1⟩ := cut_take (A := A7) (c := c7) HL7.out k hkl
          obtain ⟨M2, A8, c8, hM2, cu2, cC2, cc2⟩ := cut_drop (A := A7) (c := c7) HL7.out k hkl
          have CC1 := Aside0.mk cC1
          have CC2 := Aside0.mk cC2
          clear cC1 cC2
          have hd1_ := HTA.out 0 k
          rw [List.drop_zero, ← hM1] at hd1_
          obtain ⟨m1, hm1⟩ := hd1_
          have hd2_ := HTB.out k L.length
          rw [List.take_length, ← hM2] at hd2_
          obtain ⟨m2, hm2⟩ := hd2_
          have HM2 := Aside0.mk hm2
          clear hm2 hM1 hM2
          obtain ⟨cb, hcb⟩ : ∃ cb, cb = catB ta tb L.length (k + 1) := ⟨_, rfl⟩
          have HCB := Aside0.mk hcb
          rw [catB_succ] at hcb
          refine region_join (fun A0 a' w' => ∃ (t139 t140 t141 t142 t143 t144 t145 t146 t147 t148 t149 t150 t151 t152 t153 : Value), a' = putAll A0 [(139, t139), (140, t140), (141, t141), (142, t142), (143, t143), (144, t144), (145, t145), (146, t146), (147, t147), (148, t148), (149, t149), (150, t150), (151, t151), (152, t152), (153, t153), (17, .bool cb)] ∧ Aside0 (Kd.R Kd.bool 4 w' wb4.heap.size (fun _ => True) (.slice (some ⟨g, 0, none⟩) (L.length + 1) cg) (G)) ∧ Aside0 (Below wb4.heap.size wb4 w')) ?_ ?_
          · cases hc : catB ta tb L.length k with
            | true =>
              obtain rfl : cb = true := by rw [hcb, hc]; rfl
              clear hcb
              refine start_ (n := 16) (S := fun w' => Below wb4.heap.size wb4 w') (ds := []) #[false, false, false, false, false, false, false, false, false, false, false, false, false, false, false, false] (by kernel_rfl) rfl rfl (below_drew1 HB.out) (fun hHeld => ?_)
              refine with_tabW takes_law.tab20 takes_law.bits20 (fun HT_ HW_ => ?_)
              have HX := Aside0.mk (Kd.R_drew HP.out)
              clear HP HB
              generalize wr.drew = wd at HX hHeld ⊢
              refine pure_ (i := 0) (N := some 139) (v := ?_) (a' := ?_) #[true, false, false, false, false, false, false, false, false, false, false, false, false, false, false, false] rfl rfl (any_of HT_.out (by kernel_rfl)) (fun _ _ _ h => h) (Or.inl ⟨by rfl, ?_⟩) ?_ ?_
              rotate_left
              · intro w'
                go_simp
                with_reducible rfl
              rotate_left
              · simp only [Act.put, List.setIfInBounds_toArray, List.set_cons_zero, List.set_cons_succ, i64_w, i32_w]
                rfl
              refine pure_ (i := 1) (N := some 140) (v := ?_) (a' := ?_) #[true, true, false, false, false, false, false, false, false, false, false, false, false, false, false, false] rfl rfl (any_of HT_.out (by kernel_rfl)) (fun _ _ _ h => h) (Or.inl ⟨by rfl, ?_⟩) ?_ ?_
              rotate_left
              · intro w'
                go_simp
                with_reducible rfl
              rotate_left
              · simp only [Act.put, List.setIfInBounds_toArray, List.set_cons_zero, List.set_cons_succ, i64_w, i32_w]
                rfl
              refine pure_ (i := 2) (N := some 141) (v := undef) (a' := ?_) #[true, true, true, false, false, false, false, false, false, false, false, false, false, false, false, false] rfl rfl (any_of HT_.out (by kernel_rfl)) (fun _ _ _ h => h) (Or.inr ⟨by rfl, rfl⟩) ?_ ?_
              rotate_left
              · simp only [Act.put, List.setIfInBounds_toArray, List.set_cons_zero, List.set_cons_succ, i64_w, i32_w]
                rfl
              refine pure_ (i := 3) (N := some 142) (v := undef) (a' := ?_) #[true, true, true, true, false, false, false, false, false, false, false, false, false, false, false, false] rfl rfl (any_of HT_.out (by kernel_rfl)) (fun _ _ _ h => h) (Or.inr ⟨by rfl, rfl⟩) ?_ ?_
              rotate_left
              · simp only [Act.put, List.setIfInBounds_toArray, List.set_cons_zero, List.set_cons_succ, i64_w, i32_w]
                rfl
              refine pure_ (i := 4) (N := some 143) (v := undef) (a' := ?_) #[true, true, true, true, true, false, false, false, false, false, false, false, false, false, false, false] rfl rfl (any_of HT_.out (by kernel_rfl)) (fun _ _ _ h => h) (Or.inr ⟨by rfl, rfl⟩) ?_ ?_
              rotate_left
              · simp only [Act.put, List.setIfInBounds_toArray, List.set_cons_zero, List.set_cons_succ, i64_w, i32_w]
                rfl
              refine pure_ (i := 5) (N := some 144) (v := undef) (a' := ?_) #[true, true, true, true, true, true, false, false, false, false, false, false, false, false, false, false] rfl rfl (any_of HT_.out (by kernel_rfl)) (fun _ _ _ h => h) (Or.inr ⟨by rfl, rfl⟩) ?_ ?_
              rotate_left
              · simp only [Act.put, List.setIfInBounds_toArray, List.set_cons_zero, List.set_cons_succ, i64_w, i32_w]
                rfl
              refine pure_ (i := 6) (N := some 145) (v := undef) (a' := ?_) #[true, true, true, true, true, true, true, false, false, false, false, false, false, false, false, false] rfl rfl (any_of HT_.out (by kernel_rfl)) (fun _ _ _ h => h) (Or.inr ⟨by rfl, rfl⟩) ?_ ?_
              rotate_left
              · simp only [Act.put, List.setIfInBounds_toArray, List.set_cons_zero, List.set_cons_succ, i64_w, i32_w]
                rfl
              refine pure_ (i := 7) (N := some 146) (v := undef) (a' := ?_) #[true, true, true, true, true, true, true, true, false, false, false, false, false, false, false, false] rfl rfl (any_of HT_.out (by kernel_rfl)) (fun _ _ _ h => h) (Or.inr ⟨by rfl, rfl⟩) ?_ ?_
              rotate_left
              · simp only [Act.put, List.setIfInBounds_toArray, List.set_cons_zero, List.set_cons_succ, i64_w, i32_w]
                rfl
              refine pure_ (i := 8) (N := some 147) (v := undef) (a' := ?_) #[true, true, true, true, true, true, true, true, true, false, false, false, false, false, false, false] rfl rfl (any_of HT_.out (by kernel_rfl)) (fun _ _ _ h => h) (Or.inr ⟨by rfl, rfl⟩) ?_ ?_
              rotate_left
              · simp only [Act.put, List.setIfInBounds_toArray, List.set_cons_zero, List.set_cons_succ, i64_w, i32_w]
                rfl
              refine pure_ (i := 9) (N := some 148) (v := undef) (a' := ?_) #[true, true, true, true, true, true, true, true, true, true, false, false, false, false, false, false] rfl rfl (any_of HT_.out (by kernel_rfl)) (fun _ _ _ h => h) (Or.inr ⟨by rfl, rfl⟩) ?_ ?_
              rotate_left
              · simp only [Act.put, List.setIfInBounds_toArray, List.set_cons_zero, List.set_cons_succ, i64_w, i32_w]
                rfl
              refine pure_ (i := 10) (N := some 149) (v := undef) (a' := ?_) #[true, true, true, true, true, true, true, true, true, true, true, false, false, false, false, false] rfl rfl (any_of HT_.out (by kernel_rfl)) (fun _ _ _ h => h) (Or.inr ⟨by rfl, rfl⟩) ?_ ?_
              rotate_left
              · simp only [Act.put, List.setIfInBounds_toArray, List.set_cons_zero, List.set_cons_succ, i64_w, i32_w]
                rfl
              refine pure_ (i := 11) (N := some 150) (v := undef) (a' := ?_) #[true, true, true, true, true, true, true, true, true, true, true, true, false, false, false, false] rfl rfl (any_of HT_.out (by kernel_rfl)) (fun _ _ _ h => h) (Or.inr ⟨by rfl, rfl⟩) ?_ ?_
              rotate_left
              · simp only [Act.put, List.setIfInBounds_toArray, List.set_cons_zero, List.set_cons_succ, i64_w, i32_w]
                rfl
              refine pure_ (i := 12) (N := some 151) (v := undef) (a' := ?_) #[true, true, true, true, true, true, true, true, true, true, true, true, true, false, false, false] rfl rfl (any_of HT_.out (by kernel_rfl)) (fun _ _ _ h => h) (Or.inr ⟨by rfl, rfl⟩) ?_ ?_
              rotate_left
              · simp only [Act.put, List.setIfInBounds_toArray, List.set_cons_zero, List.set_cons_succ, i64_w, i32_w]
                rfl
              refine pure_ (i := 13) (N := some 152) (v := undef) (a' := ?_) #[true, true, true, true, true, true, true, true, true, true, true, true, true, true, false, false] rfl rfl (any_of HT_.out (by kernel_rfl)) (fun _ _ _ h => h) (Or.inr ⟨by rfl, rfl⟩) ?_ ?_
              rotate_left
              · simp only [Act.put, List.setIfInBounds_toArray, List.set_cons_zero, List.set_cons_succ, i64_w, i32_w]
                rfl
              refine pure_ (i := 14) (N := some 153) (v := ?_) (a' := ?_) #[true, true, true, true, true, true, true, true, true, true, true, true, true, true, true, false] rfl rfl (any_of HT_.out (by kernel_rfl)) (fun _ _ _ h => h) (Or.inl ⟨by rfl, ?_⟩) ?_ ?_
              rotate_left
              · intro w'
                go_simp
                with_reducible rfl
              rotate_left
              · simp only [Act.put, List.setIfInBounds_toArray, List.set_cons_zero, List.set_cons_succ, i64_w, i32_w]
                rfl
              refine pure_ (i := 15) (N := some 17) (v := ?_) (a' := ?_) #[true, true, true, true, true, true, true, true, true, true, true, true, true, true, true, true] rfl rfl (any_of HT_.out (by kernel_rfl)) (fun _ _ _ h => h) (Or.inl ⟨by rfl, ?_⟩) ?_ ?_
              rotate_left
              · intro w'
                go_simp
                with_reducible rfl
              rotate_left
              · simp only [Act.put, List.setIfInBounds_toArray, List.set_cons_zero, List.set_cons_succ, i64_w, i32_w]
                rfl
              refine done_ (done_of HT_.out (by kernel_rfl)) ?_
              exact on_normal ⟨_, _, _, _, _, _, _, _, _, _, _, _, _, _, _, by first | (simp only [putAll, Act.put, List.setIfInBounds_toArray, List.set_cons_zero, List.set_cons_succ]; done) | (simp only [putAll, Act.put, List.setIfInBounds_toArray, List.set_cons_zero, List.set_cons_succ]; rfl) | rfl, HX, ⟨hHeld⟩⟩
            | false =>
              cases h1 : ta 0 k with
              | false =>
                obtain rfl : cb = false := by rw [hcb, hc, h1]; rfl
                clear hcb
                rw [h1] at hm1
                have HM1 := Aside0.mk hm1
                clear hm1
                refine start_ (n := 16) (S := fun w' => Below wb4.heap.size wb4 w') (ds := []) #[false, false, false, false, false, false, false, false, false, false, false, false, false, false, false, false] (by kernel_rfl) rfl rfl (below_drew1 HB.out) (fun hHeld => ?_)
                refine with_tabW takes_law.tab20 takes_law.bits20 (fun HT_ HW_ => ?_)
                have HX := Aside0.mk (Kd.R_drew HP.out)
                clear HP HB
                generalize wr.drew = wd at HX hHeld ⊢
                refine pure_ (i := 0) (N := some 139) (v := ?_) (a' := ?_) #[true, false, false, false, false, false, false, false, false, false, false, false, false, false, false, false] rfl rfl (any_of HT_.out (by kernel_rfl)) (fun _ _ _ h => h) (Or.inl ⟨by rfl, ?_⟩) ?_ ?_
                rotate_left
                · intro w'
                  go_simp
                  with_reducible rfl
                rotate_left
                · simp only [Act.put, List.setIfInBounds_toArray, List.set_cons_zero, List.set_cons_succ, i64_w, i32_w]
                  rfl
                refine pure_ (i := 1) (N := some 140) (v := ?_) (a' := ?_) #[true, true, false, false, false, false, false, false, false, false, false, false, false, false, false, false] rfl rfl (any_of HT_.out (by kernel_rfl)) (fun _ _ _ h => h) (Or.inl ⟨by rfl, ?_⟩) ?_ ?_
                rotate_left
                · intro w'
                  go_simp
                  with_reducible rfl
                rotate_left
                · simp only [Act.put, List.setIfInBounds_toArray, List.set_cons_zero, List.set_cons_succ, i64_w, i32_w]
                  rfl
                refine pure_ (i := 3) (N := some 142) (v := ?_) (a' := ?_) #[true, true, false, true, false, false, false, false, false, false, false, false, false, false, false, false] rfl rfl (any_of HT_.out (by kernel_rfl)) (fun _ _ _ h => h) (Or.inl ⟨by rfl, ?_⟩) ?_ ?_
                rotate_left
                · intro w'
                  go_simp
                  with_reducible rfl
                rotate_left
                · simp only [Act.put, List.setIfInBounds_toArray, List.set_cons_zero, List.set_cons_succ, i64_w, i32_w]
                  rfl
                refine pure_ (i := 4) (N := some 143) (v := ?_) (a' := ?_) #[true, true, false, true, true, false, false, false, false, false, false, false, false, false, false, false] rfl rfl (any_of HT_.out (by kernel_rfl)) (fun _ _ _ h => h) (Or.inl ⟨by rfl, ?_⟩) ?_ ?_
                rotate_left
                · intro w'
                  go_simp
                  with_reducible rfl
                rotate_left
                · simp only [Act.put, List.setIfInBounds_toArray, List.set_cons_zero, List.set_cons_succ, i64_w, i32_w]
                  rfl
                refine pure_ (i := 5) (N := some 144) (v := ?_) (a' := ?_) #[true, true, false, true, true, true, false, false, false, false, false, false, false, false, false, false] rfl rfl (any_of HT_.out (by kernel_rfl)) (fun _ _ _ h => h) (Or.inl ⟨by rfl, ?_⟩) ?_ ?_
                rotate_left
                · intro w'
                  go_simp
                  with_reducible rfl
                rotate_left
                · simp only [Act.put, List.setIfInBounds_toArray, List.set_cons_zero, List.set_cons_succ, i64_w, i32_w]
                  rfl
                refine take_ (i := 2) (N := some 141) (v := ?_) (a' := ?_) #[true, true, true, true, true, true, false, false, false, false, false, false, false, false, false, false] rfl rfl (take_ofW HT_.out HW_.out (by kernel_rfl)) (fun _ _ _ h => h) (Or.inl ⟨by rfl, ?_⟩) hHeld ?_ ?_
                rotate_left
                · intro w' s0
                  have c00_ : w'.cell? ⟨w.heap.size, 0, none⟩ = some (.int .i64 a0_0) := (blk_cell (HW2.out w' s0).2.1 0).trans rfl
                  have c01_ : w'.cell? ⟨w.heap.size, 1, none⟩ = some (.slice A0_1 l0_1.length c0_1) := (blk_cell (HW2.out w' s0).2.1 1).trans rfl
                  have c02_ : w'.cell? ⟨w.heap.size, 2, none⟩ = some (.slice A0_2 l0_2.length c0_2) := (blk_cell (HW2.out w' s0).2.1 2).trans rfl
                  have c10_ : w'.cell? ⟨w.heap.size + 1, 0, none⟩ = some (.int .i64 a1_0) := (blk_cell (HW2.out w' s0).2.2.1 0).trans rfl
                  have c11_ : w'.cell? ⟨w.heap.size + 1, 1, none⟩ = some (.slice A1_1 l1_1.length c1_1) := (blk_cell (HW2.out w' s0).2.2.1 1).trans rfl
                  have c12_ : w'.cell? ⟨w.heap.size + 1, 2, none⟩ = some (.slice A1_2 l1_2.length c1_2) := (blk_cell (HW2.out w' s0).2.2.1 2).trans rfl
                  clear s0
                  go_simp
                  with_reducible rfl
                rotate_left
                · simp only [Act.put, List.setIfInBounds_toArray, List.set_cons_zero, List.set_cons_succ, i64_w, i32_w]
                  rfl
                refine one_ (i := 6) (N := some 145) #[true, true, true, true, true, true, true, false, false, false, false, false, false, false, false, false] rfl rfl (one_of HT_.out (by kernel_rfl)) (by decide) (fun K hK => ?_)
                refine goes_ Try.func42 (by kernel_rfl) rfl #[.agg #[.int .i64 a0_0, .slice A0_1 l0_1.length c0_1, .slice A0_2 l0_2.length c0_2], .slice A7 M1.length c7] (by rfl) rfl rfl (by simp only [List.map_toArray, List.map_cons, List.map_nil]; rfl) ?_
                with_reducible refine (caesuralaw19_takes.calls m1 a0_0 A0_1 c0_1 l0_1 A0_2 c0_2 l0_2 A7 c7 M1 false wd (Kd.C_below HR0_1.out (HW2.out _ hHeld).1) hc0_1 (Kd.C_below HR0_2.out (HW2.out _ hHeld).1) hc0_2 (CC1.out _ (HW2.out _ hHeld).2.2.2) cc1 HM1.out).mono ?_
                rintro e we ⟨rfl, hb_⟩
                refine ⟨_, rfl, ?_⟩
                have HX := Aside0.mk (Kd.R_below HX.out hb_)
                refine hK.out _ _ (below_step hHeld hb_) (fun hHeld => ?_)
                clear hK K
                refine norm_ (a' := ?_) ?_ ?_
                rotate_left
                · show Act.put _ (some 145) _ = _
                  simp only [Act.put, List.setIfInBounds_toArray, List.set_cons_zero, List.set_cons_succ, i64_w, i32_w]
                  rfl
                refine pure_ (i := 7) (N := some 146) (v := ?_) (a' := ?_) #[true, true, true, true, true, true, true, true, false, false, false, false, false, false, false, false] rfl rfl (any_of HT_.out (by kernel_rfl)) (fun _ _ _ h => h) (Or.inl ⟨by rfl, ?_⟩) ?_ ?_
                rotate_left
                · intro w'
                  go_simp
                  with_reducible rfl
                rotate_left
                · simp only [Act.put, List.setIfInBounds_toArray, List.set_cons_zero, List.set_cons_succ, i64_w, i32_w]
                  rfl
                refine pure_ (i := 8) (N := some 147) (v := undef) (a' := ?_) #[true, true, true, true, true, true, true, true, true, false, false, false, false, false, false, false] rfl rfl (any_of HT_.out (by kernel_rfl)) (fun _ _ _ h => h) (Or.inr ⟨by rfl, rfl⟩) ?_ ?_
                rotate_left
                · simp only [Act.put, List.setIfInBounds_toArray, List.set_cons_zero, List.set_cons_succ, i64_w, i32_w]
                  rfl
                refine pure_ (i := 9) (N := some 148) (v := undef) (a' := ?_) #[true, true, true, true, true, true, true, true, true, true, false, false, false, false, false, false] rfl rfl (any_of HT_.out (by kernel_rfl)) (fun _ _ _ h => h) (Or.inr ⟨by rfl, rfl⟩) ?_ ?_
                rotate_left
                · simp only [Act.put, List.setIfInBounds_toArray, List.set_cons_zero, List.set_cons_succ, i64_w, i32_w]
                  rfl
                refine pure_ (i := 10) (N := some 149) (v := undef) (a' := ?_) #[true, true, true, true, true, true, true, true, true, true, true, false, false, false, false, false] rfl rfl (any_of HT_.out (by kernel_rfl)) (fun _ _ _ h => h) (Or.inr ⟨by rfl, rfl⟩) ?_ ?_
                rotate_left
                · simp only [Act.put, List.setIfInBounds_toArray, List.set_cons_zero, List.set_cons_succ, i64_w, i32_w]
                  rfl
                refine pure_ (i := 11) (N := some 150) (v := undef) (a' := ?_) #[true, true, true, true, true, true, true, true, true, true, true, true, false, false, false, false] rfl rfl (any_of HT_.out (by kernel_rfl)) (fun _ _ _ h => h) (Or.inr ⟨by rfl, rfl⟩) ?_ ?_
                rotate_left
                · simp only [Act.put, List.setIfInBounds_toArray, List.set_cons_zero, List.set_cons_succ, i64_w, i32_w]
                  rfl
                refine pure_ (i := 12) (N := some 151) (v := undef) (a' := ?_) #[true, true, true, true, true, true, true, true, true, true, true, true, true, false, false, false] rfl rfl (any_of HT_.out (by kernel_rfl)) (fun _ _ _ h => h) (Or.inr ⟨by rfl, rfl⟩) ?_ ?_
                rotate_left
                · simp only [Act.put, List.setIfInBounds_toArray, List.set_cons_zero, List.set_cons_succ, i64_w, i32_w]
                  rfl
                refine pure_ (i := 13) (N := some 152) (v := ?_) (a' := ?_) #[true, true, true, true, true, true, true, true, true, true, true, true, true, true, false, false] rfl rfl (any_of HT_.out (by kernel_rfl)) (fun _ _ _ h => h) (Or.inl ⟨by rfl, ?_⟩) ?_ ?_
                rotate_left
                · intro w'
                  go_simp
                  with_reducible rfl
                rotate_left
                · simp only [Act.put, List.setIfInBounds_toArray, List.set_cons_zero, List.set_cons_succ, i64_w, i32_w]
                  rfl
                refine pure_ (i := 14) (N := some 153) (v := ?_) (a' := ?_) #[true, true, true, true, true, true, true, true, true, true, true, true, true, true, true, false] rfl rfl (any_of HT_.out (by kernel_rfl)) (fun _ _ _ h => h) (Or.inl ⟨by rfl, ?_⟩) ?_ ?_
                rotate_left
                · intro w'
                  go_simp
                  with_reducible rfl
                rotate_left
                · simp only [Act.put, List.setIfInBounds_toArray, List.set_cons_zero, List.set_cons_succ, i64_w, i32_w]
                  rfl
                refine pure_ (i := 15) (N := some 17) (v := ?_) (a' := ?_) #[true, true, true, true, true, true, true, true, true, true, true, true, true, true, true, true] rfl rfl (any_of HT_.out (by kernel_rfl)) (fun _ _ _ h => h) (Or.inl ⟨by rfl, ?_⟩) ?_ ?_
                rotate_left
                · intro w'
                  go_simp
                  with_reducible rfl
                rotate_left
                · simp only [Act.put, List.setIfInBounds_toArray, List.set_cons_zero, List.set_cons_succ, i64_w, i32_w]
                  rfl
                refine done_ (done_of HT_.out (by kernel_rfl)) ?_
                exact on_normal ⟨_, _, _, _, _, _, _, _, _, _, _, _, _, _, _, by first | (simp only [putAll, Act.put, List.setIfInBounds_toArray, List.set_cons_zero, List.set_cons_succ]; done) | (simp only [putAll, Act.put, List.setIfInBounds_toArray, List.set_cons_zero, List.set_cons_succ]; rfl) | rfl, HX, ⟨hHeld⟩⟩
              | true =>
                obtain rfl : cb = tb k L.length := by rw [hcb, hc, h1]; simp
                clear hcb
                rw [h1] at hm1
                have HM1 := Aside0.mk hm1
                clear hm1
                refine start_ (n := 16) (S := fun w' => Below wb4.heap.size wb4 w') (ds := []) #[false, false, false, false, false, false, false, false, false, false, false, false, false, false, false, false] (by kernel_rfl) rfl rfl (below_drew1 HB.out) (fun hHeld => ?_)
                refine with_tabW takes_law.tab20 takes_law.bits20 (fun HT_ HW_ => ?_)
                have HX := Aside0.mk (Kd.R_drew HP.out)
                clear HP HB
                generalize wr.drew = wd at HX hHeld ⊢
                refine pure_ (i := 0) (N := some 139) (v := ?_) (a' := ?_) #[true, false, false, false, false, false, false, false, false, false, false, false, false, false, false, false] rfl rfl (any_of HT_.out (by kernel_rfl)) (fun _ _ _ h => h) (Or.inl ⟨by rfl, ?_⟩) ?_ ?_
                rotate_left
                · intro w'
                  go_simp
                  with_reducible rfl
                rotate_left
                · simp only [Act.put, List.setIfInBounds_toArray, List.set_cons_zero, List.set_cons_succ, i64_w, i32_w]
                  rfl
                refine pure_ (i := 1) (N := some 140) (v := ?_) (a' := ?_) #[true, true, false, false, false, false, false, false, false, false, false, false, false, false, false, false] rfl rfl (any_of HT_.out (by kernel_rfl)) (fun _ _ _ h => h) (Or.inl ⟨by rfl, ?_⟩) ?_ ?_
                rotate_left
                · intro w'
                  go_simp
                  with_reducible rfl
                rotate_left
                · simp only [Act.put, List.setIfInBounds_toArray, List.set_cons_zero, List.set_cons_succ, i64_w, i32_w]
                  rfl
                refine pure_ (i := 3) (N := some 142) (v := ?_) (a' := ?_) #[true, true, false, true, false, false, false, false, false, false, false, false, false, false, false, false] rfl rfl (any_of HT_.out (by kernel_rfl)) (fun _ _ _ h => h) (Or.inl ⟨by rfl, ?_⟩) ?_ ?_
                rotate_left
                · intro w'
                  go_simp
                  with_reducible rfl
                rotate_left
                · simp only [Act.put, List.setIfInBounds_toArray, List.set_cons_zero, List.set_cons_succ, i64_w, i32_w]
                  rfl
                refine pure_ (i := 4) (N := some 143) (v := ?_) (a' := ?_) #[true, true, false, true, true, false, false, false, false, false, false, false, false, false, false, false] rfl rfl (any_of HT_.out (by kernel_rfl)) (fun _ _ _ h => h) (Or.inl ⟨by rfl, ?_⟩) ?_ ?_
                rotate_left
                · intro w'
                  go_simp
                  with_reducible rfl
                rotate_left
                · simp only [Act.put, List.setIfInBounds_toArray, List.set_cons_zero, List.set_cons_succ, i64_w, i32_w]
                  rfl
                refine pure_ (i := 5) (N := some 144) (v := ?_) (a' := ?_) #[true, true, false, true, true, true, false, false, false, false, false, false, false, false, false, false] rfl rfl (any_of HT_.out (by kernel_rfl)) (fun _ _ _ h => h) (Or.inl ⟨by rfl, ?_⟩) ?_ ?_
                rotate_left
                · intro w'
                  go_simp
                  with_reducible rfl
                rotate_left
                · simp only [Act.put, List.setIfInBounds_toArray, List.set_cons_zero, List.set_cons_succ, i64_w, i32_w]
                  rfl
                refine take_ (i := 2) (N := some 141) (v := ?_) (a' := ?_) #[true, true, true, true, true, true, false, false, false, false, false, false, false, false, false, false] rfl rfl (take_ofW HT_.out HW_.out (by kernel_rfl)) (fun _ _ _ h => h) (Or.inl ⟨by rfl, ?_⟩) hHeld ?_ ?_
                rotate_left
                · intro w' s0
                  have c00_ : w'.cell? ⟨w.heap.size, 0, none⟩ = some (.int .i64 a0_0) := (blk_cell (HW2.out w' s0).2.1 0).trans rfl
                  have c01_ : w'.cell? ⟨w.heap.size, 1, none⟩ = some (.slice A0_1 l0_1.length c0_1) := (blk_cell (HW2.out w' s0).2.1 1).trans rfl
                  have c02_ : w'.cell? ⟨w.heap.size, 2, none⟩ = some (.slice A0_2 l0_2.length c0_2) := (blk_cell (HW2.out w' s0).2.1 2).trans rfl
                  have c10_ : w'.cell? ⟨w.heap.size + 1, 0, none⟩ = some (.int .i64 a1_0) := (blk_cell (HW2.out w' s0).2.2.1 0).trans rfl
                  have c11_ : w'.cell? ⟨w.heap.size + 1, 1, none⟩ = some (.slice A1_1 l1_1.length c1_1) := (blk_cell (HW2.out w' s0).2.2.1 1).trans rfl
                  have c12_ : w'.cell? ⟨w.heap.size + 1, 2, none⟩ = some (.slice A1_2 l1_2.length c1_2) := (blk_cell (HW2.out w' s0).2.2.1 2).trans rfl
                  clear s0
                  go_simp
                  with_reducible rfl
                rotate_left
                · simp only [Act.put, List.setIfInBounds_toArray, List.set_cons_zero, List.set_cons_succ, i64_w, i32_w]
                  rfl
                refine one_ (i := 6) (N := some 145) #[true, true, true, true, true, true, true, false, false, false, false, false, false, false, false, false] rfl rfl (one_of HT_.out (by kernel_rfl)) (by decide) (fun K hK => ?_)
                refine goes_ Try.func42 (by kernel_rfl) rfl #[.agg #[.int .i64 a0_0, .slice A0_1 l0_1.length c0_1, .slice A0_2 l0_2.length c0_2], .slice A7 M1.length c7] (by rfl) rfl rfl (by simp only [List.map_toArray, List.map_cons, List.map_nil]; rfl) ?_
                with_reducible refine (caesuralaw19_takes.calls m1 a0_0 A0_1 c0_1 l0_1 A0_2 c0_2 l0_2 A7 c7 M1 true wd (Kd.C_below HR0_1.out (HW2.out _ hHeld).1) hc0_1 (Kd.C_below HR0_2.out (HW2.out _ hHeld).1) hc0_2 (CC1.out _ (HW2.out _ hHeld).2.2.2) cc1 HM1.out).mono ?_
                rintro e we ⟨rfl, hb_⟩
                refine ⟨_, rfl, ?_⟩
                have HX := Aside0.mk (Kd.R_below HX.out hb_)
                refine hK.out _ _ (below_step hHeld hb_) (fun hHeld => ?_)
                clear hK K
                refine norm_ (a' := ?_) ?_ ?_
                rotate_left
                · show Act.put _ (some 145) _ = _
                  simp only [Act.put, List.setIfInBounds_toArray, List.set_cons_zero, List.set_cons_succ, i64_w, i32_w]
                  rfl
                refine pure_ (i := 7) (N := some 146) (v := ?_) (a' := ?_) #[true, true, true, true, true, true, true, true, false, false, false, false, false, false, false, false] rfl rfl (any_of HT_.out (by kernel_rfl)) (fun _ _ _ h => h) (Or.inl ⟨by rfl, ?_⟩) ?_ ?_
                rotate_left
                · intro w'
                  go_simp
                  with_reducible rfl
                rotate_left
                · simp only [Act.put, List.setIfInBounds_toArray, List.set_cons_zero, List.set_cons_succ, i64_w, i32_w]
                  rfl
                refine pure_ (i := 9) (N := some 148) (v := ?_) (a' := ?_) #[true, true, true, true, true, true, true, true, false, true, false, false, false, false, false, false] rfl rfl (any_of HT_.out (by kernel_rfl)) (fun _ _ _ h => h) (Or.inl ⟨by rfl, ?_⟩) ?_ ?_
                rotate_left
                · intro w'
                  go_simp
                  with_reducible rfl
                rotate_left
                · simp only [Act.put, List.setIfInBounds_toArray, List.set_cons_zero, List.set_cons_succ, i64_w, i32_w]
                  rfl
                refine pure_ (i := 10) (N := some 149) (v := ?_) (a' := ?_) #[true, true, true, true, true, true, true, true, false, true, true, false, false, false, false, false] rfl rfl (any_of HT_.out (by kernel_rfl)) (fun _ _ _ h => h) (Or.inl ⟨by rfl, ?_⟩) ?_ ?_
                rotate_left
                · intro w'
                  go_simp
                  with_reducible rfl
                rotate_left
                · simp only [Act.put, List.setIfInBounds_toArray, List.set_cons_zero, List.set_cons_succ, i64_w, i32_w]
                  rfl
                refine pure_ (i := 11) (N := some 150) (v := ?_) (a' := ?_) #[true, true, true, true, true, true, true, true, false, true, true, true, false, false, false, false] rfl rfl (any_of HT_.out (by kernel_rfl)) (fun _ _ _ h => h) (Or.inl ⟨by rfl, ?_⟩) ?_ ?_
                rotate_left
                · intro w'
                  go_simp
                  with_reducible rfl
                rotate_left
                · simp only [Act.put, List.setIfInBounds_toArray, List.set_cons_zero, List.set_cons_succ, i64_w, i32_w]
                  rfl
                refine take_ (i := 8) (N := some 147) (v := ?_) (a' := ?_) #[true, true, true, true, true, true, true, true, true, true, true, true, false, false, false, false] rfl rfl (take_ofW HT_.out HW_.out (by kernel_rfl)) (fun _ _ _ h => h) (Or.inl ⟨by rfl, ?_⟩) hHeld ?_ ?_
                rotate_left
                · intro w' s0
                  have c00_ : w'.cell? ⟨w.heap.size, 0, none⟩ = some (.int .i64 a0_0) := (blk_cell (HW2.out w' s0).2.1 0).trans rfl
                  have c01_ : w'.cell? ⟨w.heap.size, 1, none⟩ = some (.slice A0_1 l0_1.length c0_1) := (blk_cell (HW2.out w' s0).2.1 1).trans rfl
                  have c02_ : w'.cell? ⟨w.heap.size, 2, none⟩ = some (.slice A0_2 l0_2.length c0_2) := (blk_cell (HW2.out w' s0).2.1 2).trans rfl
                  have c10_ : w'.cell? ⟨w.heap.size + 1, 0, none⟩ = some (.int .i64 a1_0) := (blk_cell (HW2.out w' s0).2.2.1 0).trans rfl
                  have c11_ : w'.cell? ⟨w.heap.size + 1, 1, none⟩ = some (.slice A1_1 l1_1.length c1_1) := (blk_cell (HW2.out w' s0).2.2.1 1).trans rfl
                  have c12_ : w'.cell? ⟨w.heap.size + 1, 2, none⟩ = some (.slice A1_2 l1_2.length c1_2) := (blk_cell (HW2.out w' s0).2.2.1 2).trans rfl
                  clear s0
                  go_simp
                  with_reducible rfl
                rotate_left
                · simp only [Act.put, List.setIfInBounds_toArray, List.set_cons_zero, List.set_cons_succ, i64_w, i32_w]
                  rfl
                refine one_ (i := 12) (N := some 151) #[true, true, true, true, true, true, true, true, true, true, true, true, true, false, false, false] rfl rfl (one_of HT_.out (by kernel_rfl)) (by decide) (fun K hK => ?_)
                refine goes_ Try.func42 (by kernel_rfl) rfl #[.agg #[.int .i64 a1_0, .slice A1_1 l1_1.length c1_1, .slice A1_2 l1_2.length c1_2], .slice A8 M2.length c8] (by rfl) rfl rfl (by simp only [List.map_toArray, List.map_cons, List.map_nil]; rfl) ?_
                with_reducible refine (caesuralaw19_takes.calls m2 a1_0 A1_1 c1_1 l1_1 A1_2 c1_2 l1_2 A8 c8 M2 (tb k L.length) we (Kd.C_below HR1_1.out (HW2.out _ hHeld).1) hc1_1 (Kd.C_below HR1_2.out (HW2.out _ hHeld).1) hc1_2 (CC2.out _ (HW2.out _ hHeld).2.2.2) cc2 HM2.out).mono ?_
                rintro e wf ⟨rfl, hb_⟩
                refine ⟨_, rfl, ?_⟩
                have HX := Aside0.mk (Kd.R_below HX.out hb_)
                refine hK.out _ _ (below_step hHeld hb_) (fun hHeld => ?_)
                clear hK K
                refine norm_ (a' := ?_) ?_ ?_
                rotate_left
                · show Act.put _ (some 151) _ = _
                  simp only [Act.put, List.setIfInBounds_toArray, List.set_cons_zero, List.set_cons_succ, i64_w, i32_w]
                  rfl
                refine pure_ (i := 13) (N := some 152) (v := ?_) (a' := ?_) #[true, true, true, true, true, true, true, true, true, true, true, true, true, true, false, false] rfl rfl (any_of HT_.out (by kernel_rfl)) (fun _ _ _ h => h) (Or.inl ⟨by rfl, ?_⟩) ?_ ?_
                rotate_left
                · intro w'
                  go_simp
                  with_reducible rfl
                rotate_left
                · simp only [Act.put, List.setIfInBounds_toArray, List.set_cons_zero, List.set_cons_succ, i64_w, i32_w]
                  rfl
                refine pure_ (i := 14) (N := some 153) (v := ?_) (a' := ?_) #[true, true, true, true, true, true, true, true, true, true, true, true, true, true, true, false] rfl rfl (any_of HT_.out (by kernel_rfl)) (fun _ _ _ h => h) (Or.inl ⟨by rfl, ?_⟩) ?_ ?_
                rotate_left
                · intro w'
                  go_simp
                  with_reducible rfl
                rotate_left
                · simp only [Act.put, List.setIfInBounds_toArray, List.set_cons_zero, List.set_cons_succ, i64_w, i32_w]
                  rfl
                refine pure_ (i := 15) (N := some 17) (v := ?_) (a' := ?_) #[true, true, true, true, true, true, true, true, true, true, true, true, true, true, true, true] rfl rfl (any_of HT_.out (by kernel_rfl)) (fun _ _ _ h => h) (Or.inl ⟨by rfl, ?_⟩) ?_ ?_
                rotate_left
                · intro w'
                  go_simp
                  with_reducible rfl
                rotate_left
                · simp only [Act.put, List.setIfInBounds_toArray, List.set_cons_zero, List.set_cons_succ, i64_w, i32_w]
                  rfl
                refine done_ (done_of HT_.out (by kernel_rfl)) ?_
                exact on_normal ⟨_, _, _, _, _, _, _, _, _, _, _, _, _, _, _, by first | (simp only [putAll, Act.put, List.setIfInBounds_toArray, List.set_cons_zero, List.set_cons_succ]; done) | (simp only [putAll, Act.put, List.setIfInBounds_toArray, List.set_cons_zero, List.set_cons_succ]; rfl) | rfl, HX, ⟨hHeld⟩⟩
          · clear HP HB hcb cu1 cu2 hm1
            intro a' wv
            refine ex_imp fun t139 => ex_imp fun t140 => ex_imp fun t141 => ex_imp fun t142 => ex_imp fun t143 => ex_imp fun t144 => ex_imp fun t145 => ex_imp fun t146 => ex_imp fun t147 => ex_imp fun t148 => ex_imp fun t149 => ex_imp fun t150 => ex_imp fun t151 => ex_imp fun t152 => ex_imp fun t153 => fun hI => ?_
            obtain ⟨ha_, HP, HB⟩ := hI
            subst ha_
            simp only [putAll, Act.put, List.setIfInBounds_toArray, List.set_cons_zero, List.set_cons_succ]
            go_wp2
            go_loopw [20] (fun v20 wz => ∃ (j : Nat) (X : List Bool), j ≤ k ∧ v20 = .int .i64 (j : Int) ∧ Aside0 (X = agStep ta G k j) ∧ Aside0 (Kd.R Kd.bool 4 wz wb4.heap.size (fun _ => True) (.slice (some ⟨g, 0, none⟩) (L.length + 1) cg) (X)) ∧ Aside0 (Below wb4.heap.size wb4 wz)) (fun v20 _ => k - (intOf v20).toNat)
            case atStart => exact ⟨0, _, Nat.zero_le _, rfl, ⟨(agStep_zero ta G k (by omega)).symm⟩, HP, HB⟩
            case round =>
              clear HP HB
              obtain ⟨j, X, hj, rfl, HX, HP, HB⟩ := hrel
              have hXl : X.length = L.length + 1 := by rw [HX.out, agStep_length, hGl]
              by_cases hjk : j < k
              · have q2b : decide ((j : Int) < (k : Int)) = true := decide_eq_true (by omega)
                go_wp2
                obtain ⟨M3, A9, c9, hM3, cu3, cC3, cc3⟩ := cut_part (A := A7) (c := c7) HL7.out j k (by omega) hkl
                have CC3 := Aside0.mk cC3
                clear cC3
                obtain ⟨m3, hm3⟩ := HTA.out j k
                rw [← hM3] at hm3
                clear hM3
                have hXk : rdOf false X (k : Int) = X.getD k false := rdOf_nat X k
                have hXj : rdOf false X (j : Int) = X.getD j false := rdOf_nat X j
                obtain ⟨b_, hb_⟩ : ∃ b, b = (X.getD k false || (X.getD j false && ta j k)) := ⟨_, rfl⟩
                have HXN : Aside0 (X.set k b_ = agStep ta G k (j + 1)) := ⟨by rw [agStep_succ ta G k j (by omega) hjk, ← HX.out, hb_]⟩
                have hk0 : ((0 : Int) ≤ (k : Int)) = True := eq_true (by omega)
                have hk1 : ((k : Int) < ((L.length + 1 : Nat) : Int)) = True := eq_true (by omega)
                have hk2 : ((k : Int) < (L.length : Int) + 1) = True := eq_true (by omega)
                have hj0 : ((0 : Int) ≤ (j : Int)) = True := eq_true (by omega)
                have hj1 : ((j : Int) < ((L.length + 1 : Nat) : Int)) = True := eq_true (by omega)
                have hj2 : ((j : Int) < (L.length : Int) + 1) = True := eq_true (by omega)
                refine region_join (fun A0 a' w' => ∃ (t159 t160 t161 t162 t163 t164 t165 t166 t167 t168 t169 t170 t171 t172 t173 t174 t175 t176 t177 t178 t179 : Value), a' = putAll A0 [(159, t159), (160, t160), (161, t161), (162, t162), (163, t163), (164, t164), (165, t165), (166, t166), (167, t167), (168, t168), (169, t169), (170, t170), (171, t171), (172, t172), (173, t173), (174, t174), (175, t175), (176, t176), (177, t177), (178, t178), (179, t179)] ∧ Aside0 (Kd.R Kd.bool 4 w' wb4.heap.size (fun _ => True) (.slice (some ⟨g, 0, none⟩) (L.length + 1) cg) (agStep ta G k (j + 1))) ∧ Aside0 (Below wb4.heap.size wb4 w')) ?_ ?_
                · cases hxk : X.getD k false with
                  | true =>
                    obtain rfl : b_ = true := by rw [hb_, hxk]; rfl
                    clear hb_ hm3
                    refine start_ (n := 22) (S := fun w' => Below wb4.heap.size wb4 w' ∧ Kd.R Kd.bool 4 w' wb4.heap.size (fun _ => True) (.slice (some ⟨g, 0, none⟩) (L.length + 1) cg) (X)) (ds := [21]) #[false, false, false, false, false, false, false, false, false, false, false, false, false, false, false, false, false, false, false, false, false, false] (by kernel_rfl) rfl rfl ⟨below_drew1 HB.out, Kd.R_drew HP.out⟩ (fun hHeld => ?_)
                    refine with_tabW takes_law.tab24 takes_law.bits24 (fun HT_ HW_ => ?_)
                    clear HP HB
                    generalize wr.drew = wd at hHeld ⊢
                    refine pure_ (i := 0) (N := some 159) (v := ?_) (a' := ?_) #[true, false, false, false, false, false, false, false, false, false, false, false, false, false, false, false, false, false, false, false, false, false] rfl rfl (any_of HT_.out (by kernel_rfl)) (fun _ _ _ h => h) (Or.inl ⟨by rfl, ?_⟩) ?_ ?_
                    rotate_left
                    · intro w'
                      go_simp
                      with_reducible rfl
                    rotate_left
                    · simp only [Act.put, List.setIfInBounds_toArray, List.set_cons_zero, List.set_cons_succ, i64_w, i32_w]
                      rfl
                    refine pure_ (i := 1) (N := some 160) (v := ?_) (a' := ?_) #[true, true, false, false, false, false, false, false, false, false, false, false, false, false, false, false, false, false, false, false, false, false] rfl rfl (any_of HT_.out (by kernel_rfl)) (fun _ _ _ h => h) (Or.inl ⟨by rfl, ?_⟩) ?_ ?_
                    rotate_left
                    · intro w'
                      go_simp
                      with_reducible rfl
                    rotate_left
                    · simp only [Act.put, List.setIfInBounds_toArray, List.set_cons_zero, List.set_cons_succ, i64_w, i32_w]
                      rfl
                    refine pure_ (i := 2) (N := some 161) (v := ?_) (a' := ?_) #[true, true, true, false, false, false, false, false, false, false, false, false, false, false, false, false, false, false, false, false, false, false] rfl rfl (any_of HT_.out (by kernel_rfl)) (fun _ _ _ h => h) (Or.inl ⟨by rfl, ?_⟩) ?_ ?_
                    rotate_left
                    · intro w'
                      go_simp
                      with_reducible rfl
                    rotate_left
                    · simp only [Act.put, List.setIfInBounds_toArray, List.set_cons_zero, List.set_cons_succ, i64_w, i32_w]
                      rfl
                    refine pure_ (i := 3) (N := some 162) (v := ?_) (a' := ?_) #[true, true, true, true, false, false, false, false, false, false, false, false, false, false, false, false, false, false, false, false, false, false] rfl rfl (any_of HT_.out (by kernel_rfl)) (fun _ _ _ h => h) (Or.inl ⟨by rfl, ?_⟩) ?_ ?_
                    rotate_left
                    · intro w'
                      go_simp
                      with_reducible rfl
                    rotate_left
                    · simp only [Act.put, List.setIfInBounds_toArray, List.set_cons_zero, List.set_cons_succ, i64_w, i32_w]
                      rfl
                    refine pure_ (i := 4) (N := some 163) (v := ?_) (a' := ?_) #[true, true, true, true, true, false, false, false, false, false, false, false, false, false, false, false, false, false, false, false, false, false] rfl rfl (any_of HT_.out (by kernel_rfl)) (fun _ _ _ h => h) (Or.inl ⟨by rfl, ?_⟩) ?_ ?_
                    rotate_left
                    · intro w'
                      go_simp
                      with_reducible rfl
                    rotate_left
                    · simp only [Act.put, List.setIfInBounds_toArray, List.set_cons_zero, List.set_cons_succ, i64_w, i32_w]
                      rfl
                    refine take_ (i := 5) (N := some 164) (v := ?_) (a' := ?_) #[true, true, true, true, true, true, false, false, false, false, false, false, false, false, false, false, false, false, false, false, false, false] rfl rfl (take_ofW HT_.out HW_.out (by kernel_rfl)) (fun _ _ _ h => h) (Or.inl ⟨by rfl, ?_⟩) hHeld ?_ ?_
                    rotate_left
                    · rintro w' ⟨s0, s1⟩
                      have c00_ : w'.cell? ⟨w.heap.size, 0, none⟩ = some (.int .i64 a0_0) := (blk_cell (HW2.out w' s0).2.1 0).trans rfl
                      have c01_ : w'.cell? ⟨w.heap.size, 1, none⟩ = some (.slice A0_1 l0_1.length c0_1) := (blk_cell (HW2.out w' s0).2.1 1).trans rfl
                      have c02_ : w'.cell? ⟨w.heap.size, 2, none⟩ = some (.slice A0_2 l0_2.length c0_2) := (blk_cell (HW2.out w' s0).2.1 2).trans rfl
                      obtain ⟨y1_, z1_⟩ := Kd.R_celln false s1 (k : Int) (by omega) (by omega)
                      obtain ⟨y2_, z2_⟩ := Kd.R_celln false s1 (j : Int) (by omega) (by omega)
                      rw [hXk, show ((k : Int)).toNat = k from Int.toNat_natCast k, hxk] at y1_
                      rw [hXj, show ((j : Int)).toNat = j from Int.toNat_natCast j] at y2_
                      clear s0 s1 z1_ z2_
                      go_simp
                      with_reducible rfl
                    rotate_left
                    · simp only [Act.put, List.setIfInBounds_toArray, List.set_cons_zero, List.set_cons_succ, i64_w, i32_w]
                      rfl
                    refine pure_ (i := 6) (N := some 165) (v := ?_) (a' := ?_) #[true, true, true, true, true, true, true, false, false, false, false, false, false, false, false, false, false, false, false, false, false, false] rfl rfl (any_of HT_.out (by kernel_rfl)) (fun _ _ _ h => h) (Or.inl ⟨by rfl, ?_⟩) ?_ ?_
                    rotate_left
                    · intro w'
                      go_simp
                      with_reducible rfl
                    rotate_left
                    · simp only [Act.put, List.setIfInBounds_toArray, List.set_cons_zero, List.set_cons_succ, i64_w, i32_w]
                      rfl
                    refine pure_ (i := 7) (N := some 166) (v := undef) (a' := ?_) #[true, true, true, true, true, true, true, true, false, false, false, false, false, false, false, false, false, false, false, false, false, false] rfl rfl (any_of HT_.out (by kernel_rfl)) (fun _ _ _ h => h) (Or.inr ⟨by rfl, rfl⟩) ?_ ?_
                    rotate_left
                    · simp only [Act.put, List.setIfInBounds_toArray, List.set_cons_zero, List.set_cons_succ, i64_w, i32_w]
                      rfl
                    refine pure_ (i := 8) (N := some 167) (v := undef) (a' := ?_) #[true, true, true, true, true, true, true, true, true, false, false, false, false, false, false, false, false, false, false, false, false, false] rfl rfl (any_of HT_.out (by kernel_rfl)) (fun _ _ _ h => h) (Or.inr ⟨by rfl, rfl⟩) ?_ ?_
                    rotate_left
                    · simp only [Act.put, List.setIfInBounds_toArray, List.set_cons_zero, List.set_cons_succ, i64_w, i32_w]
                      rfl
                    refine pure_ (i := 9) (N := some 168) (v := undef) (a' := ?_) #[true, true, true, true, true, true, true, true, true, true, false, false, false, false, false, false, false, false, false, false, false, false] rfl rfl (any_of HT_.out (by kernel_rfl)) (fun _ _ _ h => h) (Or.inr ⟨by rfl, rfl⟩) ?_ ?_
                    rotate_left
                    · simp only [Act.put, List.setIfInBounds_toArray, List.set_cons_zero, List.set_cons_succ, i64_w, i32_w]
                      rfl
                    refine pure_ (i := 10) (N := some 169) (v := undef) (a' := ?_) #[true, true, true, true, true, true, true, true, true, true, true, false, false, false, false, false, false, false, false, false, false, false] rfl rfl (any_of HT_.out (by kernel_rfl)) (fun _ _ _ h => h) (Or.inr ⟨by rfl, rfl⟩) ?_ ?_
                    rotate_left
                    · simp only [Act.put, List.setIfInBounds_toArray, List.set_cons_zero, List.set_cons_succ, i64_w, i32_w]
                      rfl
                    refine pure_ (i := 11) (N := some 170) (v := undef) (a' := ?_) #[true, true, true, true, true, true, true, true, true, true, true, true, false, false, false, false, false, false, false, false, false, false] rfl rfl (any_of HT_.out (by kernel_rfl)) (fun _ _ _ h => h) (Or.inr ⟨by rfl, rfl⟩) ?_ ?_
                    rotate_left
                    · simp only [Act.put, List.setIfInBounds_toArray, List.set_cons_zero, List.set_cons_succ, i64_w, i32_w]
                      rfl
                    refine pure_ (i := 12) (N := some 171) (v := undef) (a' := ?_) #[true, true, true, true, true, true, true, true, true, true, true, true, true, false, false, false, false, false, false, false, false, false] rfl rfl (any_of HT_.out (by kernel_rfl)) (fun _ _ _ h => h) (Or.inr ⟨by rfl, rfl⟩) ?_ ?_
                    rotate_left
                    · simp only [Act.put, List.setIfInBounds_toArray, List.set_cons_zero, List.set_cons_succ, i64_w, i32_w]
                      rfl
                    refine pure_ (i := 13) (N := some 172) (v := undef) (a' := ?_) #[true, true, true, true, true, true, true, true, true, true, true, true, true, true, false, false, false, false, false, false, false, false] rfl rfl (any_of HT_.out (by kernel_rfl)) (fun _ _ _ h => h) (Or.inr ⟨by rfl, rfl⟩) ?_ ?_
                    rotate_left
                    · simp only [Act.put, List.setIfInBounds_toArray, List.set_cons_zero, List.set_cons_succ, i64_w, i32_w]
                      rfl
                    refine pure_ (i := 14) (N := some 173) (v := undef) (a' := ?_) #[true, true, true, true, true, true, true, true, true, true, true, true, true, true, true, false, false, false, false, false, false, false] rfl rfl (any_of HT_.out (by kernel_rfl)) (fun _ _ _ h => h) (Or.inr ⟨by rfl, rfl⟩) ?_ ?_
                    rotate_left
                    · simp only [Act.put, List.setIfInBounds_toArray, List.set_cons_zero, List.set_cons_succ, i64_w, i32_w]
                      rfl
                    refine pure_ (i := 15) (N := some 174) (v := undef) (a' := ?_) #[true, true, true, true, true, true, true, true, true, true, true, true, true, true, true, true, false, false, false, false, false, false] rfl rfl (any_of HT_.out (by kernel_rfl)) (fun _ _ _ h => h) (Or.inr ⟨by rfl, rfl⟩) ?_ ?_
                    rotate_left
                    · simp only [Act.put, List.setIfInBounds_toArray, List.set_cons_zero, List.set_cons_succ, i64_w, i32_w]
                      rfl
                    refine pure_ (i := 16) (N := some 175) (v := undef) (a' := ?_) #[true, true, true, true, true, true, true, true, true, true, true, true, true, true, true, true, true, false, false, false, false, false] rfl rfl (any_of HT_.out (by kernel_rfl)) (fun _ _ _ h => h) (Or.inr ⟨by rfl, rfl⟩) ?_ ?_
                    rotate_left
                    · simp only [Act.put, List.setIfInBounds_toArray, List.set_cons_zero, List.set_cons_succ, i64_w, i32_w]
                      rfl
                    refine pure_ (i := 17) (N := some 176) (v := undef) (a' := ?_) #[true, true, true, true, true, true, true, true, true, true, true, true, true, true, true, true, true, true, false, false, false, false] rfl rfl (any_of HT_.out (by kernel_rfl)) (fun _ _ _ h => h) (Or.inr ⟨by rfl, rfl⟩) ?_ ?_
                    rotate_left
                    · simp only [Act.put, List.setIfInBounds_toArray, List.set_cons_zero, List.set_cons_succ, i64_w, i32_w]
                      rfl
                    refine pure_ (i := 18) (N := some 177) (v := undef) (a' := ?_) #[true, true, true, true, true, true, true, true, true, true, true, true, true, true, true, true, true, true, true, false, false, false] rfl rfl (any_of HT_.out (by kernel_rfl)) (fun _ _ _ h => h) (Or.inr ⟨by rfl, rfl⟩) ?_ ?_
                    rotate_left
                    · simp only [Act.put, List.setIfInBounds_toArray, List.set_cons_zero, List.set_cons_succ, i64_w, i32_w]
                      rfl
                    refine pure_ (i := 19) (N := some 178) (v := ?_) (a' := ?_) #[true, true, true, true, true, true, true, true, true, true, true, true, true, true, true, true, true, true, true, true, false, false] rfl rfl (any_of HT_.out (by kernel_rfl)) (fun _ _ _ h => h) (Or.inl ⟨by rfl, ?_⟩) ?_ ?_
                    rotate_left
                    · intro w'
                      go_simp
                      with_reducible rfl
                    rotate_left
                    · simp only [Act.put, List.setIfInBounds_toArray, List.set_cons_zero, List.set_cons_succ, i64_w, i32_w]
                      rfl
                    refine pure_ (i := 20) (N := some 179) (v := ?_) (a' := ?_) #[true, true, true, true, true, true, true, true, true, true, true, true, true, true, true, true, true, true, true, true, true, false] rfl rfl (any_of HT_.out (by kernel_rfl)) (fun _ _ _ h => h) (Or.inl ⟨by rfl, ?_⟩) ?_ ?_
                    rotate_left
                    · intro w'
                      go_simp
                      with_reducible rfl
                    rotate_left
                    · simp only [Act.put, List.setIfInBounds_toArray, List.set_cons_zero, List.set_cons_succ, i64_w, i32_w]
                      rfl
                    refine last_ (i := 21) (N := none) #[true, true, true, true, true, true, true, true, true, true, true, true, true, true, true, true, true, true, true, true, true, true] rfl rfl (one_of HT_.out (by kernel_rfl)) (by decide) (fun K hK => ?_)
                    obtain ⟨y_, z_⟩ := Kd.R_celln false hHeld.2 (k : Int) (by omega) (by omega)
                    have HP2 := Aside0.mk (Kd.R_putg hHeld.2 (k : Int) true).1
                    have HB2 := Aside0.mk (hHeld.1.setCell HGB.out (p := ⟨g, ((k : Int)).toNat, none⟩) (.bool true))
                    rw [show ((k : Int)).toNat = k from Int.toNat_natCast k] at y_ z_ HP2 HB2
                    clear hHeld
                    refine skip_ (w1 := ?_) (by rfl) rfl ?_ ?_
                    rotate_left
                    · go_simp
                      rfl
                    refine hK.out _ _ ?_
                    clear hK K
                    refine done_ (done_of HT_.out (by kernel_rfl)) ?_
                    rw [HXN.out] at HP2
                    exact on_normal ⟨_, _, _, _, _, _, _, _, _, _, _, _, _, _, _, _, _, _, _, _, _, by first | (simp only [putAll, Act.put, List.setIfInBounds_toArray, List.set_cons_zero, List.set_cons_succ]; done) | (simp only [putAll, Act.put, List.setIfInBounds_toArray, List.set_cons_zero, List.set_cons_succ]; rfl) | rfl, HP2, HB2⟩
                  | false =>
                    cases hxj : X.getD j false with
                    | false =>
                      obtain rfl : b_ = false := by rw [hb_, hxk, hxj]; rfl
                      clear hb_ hm3
                      refine start_ (n := 22) (S := fun w' => Below wb4.heap.size wb4 w' ∧ Kd.R Kd.bool 4 w' wb4.heap.size (fun _ => True) (.slice (some ⟨g, 0, none⟩) (L.length + 1) cg) (X)) (ds := [21]) #[false, false, false, false, false, false, false, false, false, false, false, false, false, false, false, false, false, false, false, false, false, false] (by kernel_rfl) rfl rfl ⟨below_drew1 HB.out, Kd.R_drew HP.out⟩ (fun hHeld => ?_)
                      refine with_tabW takes_law.tab24 takes_law.bits24 (fun HT_ HW_ => ?_)
                      clear HP HB
                      generalize wr.drew = wd at hHeld ⊢
                      refine pure_ (i := 0) (N := some 159) (v := ?_) (a' := ?_) #[true, false, false, false, false, false, false, false, false, false, false, false, false, false, false, false, false, false, false, false, false, false] rfl rfl (any_of HT_.out (by kernel_rfl)) (fun _ _ _ h => h) (Or.inl ⟨by rfl, ?_⟩) ?_ ?_
                      rotate_left
                      · intro w'
                        go_simp
                        with_reducible rfl
                      rotate_left
                      · simp only [Act.put, List.setIfInBounds_toArray, List.set_cons_zero, List.set_cons_succ, i64_w, i32_w]
                        rfl
                      refine pure_ (i := 1) (N := some 160) (v := ?_) (a' := ?_) #[true, true, false, false, false, false, false, false, false, false, false, false, false, false, false, false, false, false, false, false, false, false] rfl rfl (any_of HT_.out (by kernel_rfl)) (fun _ _ _ h => h) (Or.inl ⟨by rfl, ?_⟩) ?_ ?_
                      rotate_left
                      · intro w'
                        go_simp
                        with_reducible rfl
                      rotate_left
                      · simp only [Act.put, List.setIfInBounds_toArray, List.set_cons_zero, List.set_cons_succ, i64_w, i32_w]
                        rfl
                      refine pure_ (i := 2) (N := some 161) (v := ?_) (a' := ?_) #[true, true, true, false, false, false, false, false, false, false, false, false, false, false, false, false, false, false, false, false, false, false] rfl rfl (any_of HT_.out (by kernel_rfl)) (fun _ _ _ h => h) (Or.inl ⟨by rfl, ?_⟩) ?_ ?_
                      rotate_left
                      · intro w'
                        go_simp
                        with_reducible rfl
                      rotate_left
                      · simp only [Act.put, List.setIfInBounds_toArray, List.set_cons_zero, List.set_cons_succ, i64_w, i32_w]
                        rfl
                      refine pure_ (i := 3) (N := some 162) (v := ?_) (a' := ?_) #[true, true, true, true, false, false, false, false, false, false, false, false, false, false, false, false, false, false, false, false, false, false] rfl rfl (any_of HT_.out (by kernel_rfl)) (fun _ _ _ h => h) (Or.inl ⟨by rfl, ?_⟩) ?_ ?_
                      rotate_left
                      · intro w'
                        go_simp
                        with_reducible rfl
                      rotate_left
                      · simp only [Act.put, List.setIfInBounds_toArray, List.set_cons_zero, List.set_cons_succ, i64_w, i32_w]
                        rfl
                      refine pure_ (i := 4) (N := some 163) (v := ?_) (a' := ?_) #[true, true, true, true, true, false, false, false, false, false, false, false, false, false, false, false, false, false, false, false, false, false] rfl rfl (any_of HT_.out (by kernel_rfl)) (fun _ _ _ h => h) (Or.inl ⟨by rfl, ?_⟩) ?_ ?_
                      rotate_left
                      · intro w'
                        go_simp
                        with_reducible rfl
                      rotate_left
                      · simp only [Act.put, List.setIfInBounds_toArray, List.set_cons_zero, List.set_cons_succ, i64_w, i32_w]
                        rfl
                      refine take_ (i := 5) (N := some 164) (v := ?_) (a' := ?_) #[true, true, true, true, true, true, false, false, false, false, false, false, false, false, false, false, false, false, false, false, false, false] rfl rfl (take_ofW HT_.out HW_.out (by kernel_rfl)) (fun _ _ _ h => h) (Or.inl ⟨by rfl, ?_⟩) hHeld ?_ ?_
                      rotate_left
                      · rintro w' ⟨s0, s1⟩
                        have c00_ : w'.cell? ⟨w.heap.size, 0, none⟩ = some (.int .i64 a0_0) := (blk_cell (HW2.out w' s0).2.1 0).trans rfl
                        have c01_ : w'.cell? ⟨w.heap.size, 1, none⟩ = some (.slice A0_1 l0_1.length c0_1) := (blk_cell (HW2.out w' s0).2.1 1).trans rfl
                        have c02_ : w'.cell? ⟨w.heap.size, 2, none⟩ = some (.slice A0_2 l0_2.length c0_2) := (blk_cell (HW2.out w' s0).2.1 2).trans rfl
                        obtain ⟨y1_, z1_⟩ := Kd.R_celln false s1 (k : Int) (by omega) (by omega)
                        obtain ⟨y2_, z2_⟩ := Kd.R_celln false s1 (j : Int) (by omega) (by omega)
                        rw [hXk, show ((k : Int)).toNat = k from Int.toNat_natCast k, hxk] at y1_
                        rw [hXj, show ((j : Int)).toNat = j from Int.toNat_natCast j, hxj] at y2_
                        clear s0 s1 z1_ z2_
                        go_simp
                        with_reducible rfl
                      rotate_left
                      · simp only [Act.put, List.setIfInBounds_toArray, List.set_cons_zero, List.set_cons_succ, i64_w, i32_w]
                        rfl
                      refine pure_ (i := 6) (N := some 165) (v := ?_) (a' := ?_) #[true, true, true, true, true, true, true, false, false, false, false, false, false, false, false, false, false, false, false, false, false, false] rfl rfl (any_of HT_.out (by kernel_rfl)) (fun _ _ _ h => h) (Or.inl ⟨by rfl, ?_⟩) ?_ ?_
                      rotate_left
                      · intro w'
                        go_simp
                        with_reducible rfl
                      rotate_left
                      · simp only [Act.put, List.setIfInBounds_toArray, List.set_cons_zero, List.set_cons_succ, i64_w, i32_w]
                        rfl
                      refine pure_ (i := 7) (N := some 166) (v := ?_) (a' := ?_) #[true, true, true, true, true, true, true, true, false, false, false, false, false, false, false, false, false, false, false, false, false, false] rfl rfl (any_of HT_.out (by kernel_rfl)) (fun _ _ _ h => h) (Or.inl ⟨by rfl, ?_⟩) ?_ ?_
                      rotate_left
                      · intro w'
                        go_simp
                        with_reducible rfl
                      rotate_left
                      · simp only [Act.put, List.setIfInBounds_toArray, List.set_cons_zero, List.set_cons_succ, i64_w, i32_w]
                        rfl
                      refine pure_ (i := 8) (N := some 167) (v := ?_) (a' := ?_) #[true, true, true, true, true, true, true, true, true, false, false, false, false, false, false, false, false, false, false, false, false, false] rfl rfl (any_of HT_.out (by kernel_rfl)) (fun _ _ _ h => h) (Or.inl ⟨by rfl, ?_⟩) ?_ ?_
                      rotate_left
                      · intro w'
                        go_simp
                        with_reducible rfl
                      rotate_left
                      · simp only [Act.put, List.setIfInBounds_toArray, List.set_cons_zero, List.set_cons_succ, i64_w, i32_w]
                        rfl
                      refine pure_ (i := 9) (N := some 168) (v := ?_) (a' := ?_) #[true, true, true, true, true, true, true, true, true, true, false, false, false, false, false, false, false, false, false, false, false, false] rfl rfl (any_of HT_.out (by kernel_rfl)) (fun _ _ _ h => h) (Or.inl ⟨by rfl, ?_⟩) ?_ ?_
                      rotate_left
                      · intro w'
                        go_simp
                        with_reducible rfl
                      rotate_left
                      · simp only [Act.put, List.setIfInBounds_toArray, List.set_cons_zero, List.set_cons_succ, i64_w, i32_w]
                        rfl
                      refine take_ (i := 10) (N := some 169) (v := ?_) (a' := ?_) #[true, true, true, true, true, true, true, true, true, true, true, false, false, false, false, false, false, false, false, false, false, false] rfl rfl (take_ofW HT_.out HW_.out (by kernel_rfl)) (fun _ _ _ h => h) (Or.inl ⟨by rfl, ?_⟩) hHeld ?_ ?_
                      rotate_left
                      · rintro w' ⟨s0, s1⟩
                        have c00_ : w'.cell? ⟨w.heap.size, 0, none⟩ = some (.int .i64 a0_0) := (blk_cell (HW2.out w' s0).2.1 0).trans rfl
                        have c01_ : w'.cell? ⟨w.heap.size, 1, none⟩ = some (.slice A0_1 l0_1.length c0_1) := (blk_cell (HW2.out w' s0).2.1 1).trans rfl
                        have c02_ : w'.cell? ⟨w.heap.size, 2, none⟩ = some (.slice A0_2 l0_2.length c0_2) := (blk_cell (HW2.out w' s0).2.1 2).trans rfl
                        obtain ⟨y1_, z1_⟩ := Kd.R_celln false s1 (k : Int) (by omega) (by omega)
                        obtain ⟨y2_, z2_⟩ := Kd.R_celln false s1 (j : Int) (by omega) (by omega)
                        rw [hXk, show ((k : Int)).toNat = k from Int.toNat_natCast k, hxk] at y1_
                        rw [hXj, show ((j : Int)).toNat = j from Int.toNat_natCast j, hxj] at y2_
                        clear s0 s1 z1_ z2_
                        go_simp
                        with_reducible rfl
                      rotate_left
                      · simp only [Act.put, List.setIfInBounds_toArray, List.set_cons_zero, List.set_cons_succ, i64_w, i32_w]
                        rfl
                      refine pure_ (i := 11) (N := some 170) (v := ?_) (a' := ?_) #[true, true, true, true, true, true, true, true, true, true, true, true, false, false, false, false, false, false, false, false, false, false] rfl rfl (any_of HT_.out (by kernel_rfl)) (fun _ _ _ h => h) (Or.inl ⟨by rfl, ?_⟩) ?_ ?_
                      rotate_left
                      · intro w'
                        go_simp
                        with_reducible rfl
                      rotate_left
                      · simp only [Act.put, List.setIfInBounds_toArray, List.set_cons_zero, List.set_cons_succ, i64_w, i32_w]
                        rfl
                      refine pure_ (i := 12) (N := some 171) (v := undef) (a' := ?_) #[true, true, true, true, true, true, true, true, true, true, true, true, true, false, false, false, false, false, false, false, false, false] rfl rfl (any_of HT_.out (by kernel_rfl)) (fun _ _ _ h => h) (Or.inr ⟨by rfl, rfl⟩) ?_ ?_
                      rotate_left
                      · simp only [Act.put, List.setIfInBounds_toArray, List.set_cons_zero, List.set_cons_succ, i64_w, i32_w]
                        rfl
                      refine pure_ (i := 13) (N := some 172) (v := undef) (a' := ?_) #[true, true, true, true, true, true, true, true, true, true, true, true, true, true, false, false, false, false, false, false, false, false] rfl rfl (any_of HT_.out (by kernel_rfl)) (fun _ _ _ h => h) (Or.inr ⟨by rfl, rfl⟩) ?_ ?_
                      rotate_left
                      · simp only [Act.put, List.setIfInBounds_toArray, List.set_cons_zero, List.set_cons_succ, i64_w, i32_w]
                        rfl
                      refine pure_ (i := 14) (N := some 173) (v := undef) (a' := ?_) #[true, true, true, true, true, true, true, true, true, true, true, true, true, true, true, false, false, false, false, false, false, false] rfl rfl (any_of HT_.out (by kernel_rfl)) (fun _ _ _ h => h) (Or.inr ⟨by rfl, rfl⟩) ?_ ?_
                      rotate_left
                      · simp only [Act.put, List.setIfInBounds_toArray, List.set_cons_zero, List.set_cons_succ, i64_w, i32_w]
                        rfl
                      refine pure_ (i := 15) (N := some 174) (v := undef) (a' := ?_) #[true, true, true, true, true, true, true, true, true, true, true, true, true, true, true, true, false, false, false, false, false, false] rfl rfl (any_of HT_.out (by kernel_rfl)) (fun _ _ _ h => h) (Or.inr ⟨by rfl, rfl⟩) ?_ ?_
                      rotate_left
                      · simp only [Act.put, List.setIfInBounds_toArray, List.set_cons_zero, List.set_cons_succ, i64_w, i32_w]
                        rfl
                      refine pure_ (i := 16) (N := some 175) (v := undef) (a' := ?_) #[true, true, true, true, true, true, true, true, true, true, true, true, true, true, true, true, true, false, false, false, false, false] rfl rfl (any_of HT_.out (by kernel_rfl)) (fun _ _ _ h => h) (Or.inr ⟨by rfl, rfl⟩) ?_ ?_
                      rotate_left
                      · simp only [Act.put, List.setIfInBounds_toArray, List.set_cons_zero, List.set_cons_succ, i64_w, i32_w]
                        rfl
                      refine pure_ (i := 17) (N := some 176) (v := undef) (a' := ?_) #[true, true, true, true, true, true, true, true, true, true, true, true, true, true, true, true, true, true, false, false, false, false] rfl rfl (any_of HT_.out (by kernel_rfl)) (fun _ _ _ h => h) (Or.inr ⟨by rfl, rfl⟩) ?_ ?_
                      rotate_left
                      · simp only [Act.put, List.setIfInBounds_toArray, List.set_cons_zero, List.set_cons_succ, i64_w, i32_w]
                        rfl
                      refine pure_ (i := 18) (N := some 177) (v := ?_) (a' := ?_) #[true, true, true, true, true, true, true, true, true, true, true, true, true, true, true, true, true, true, true, false, false, false] rfl rfl (any_of HT_.out (by kernel_rfl)) (fun _ _ _ h => h) (Or.inl ⟨by rfl, ?_⟩) ?_ ?_
                      rotate_left
                      · intro w'
                        go_simp
                        with_reducible rfl
                      rotate_left
                      · simp only [Act.put, List.setIfInBounds_toArray, List.set_cons_zero, List.set_cons_succ, i64_w, i32_w]
                        rfl
                      refine pure_ (i := 19) (N := some 178) (v := ?_) (a' := ?_) #[true, true, true, true, true, true, true, true, true, true, true, true, true, true, true, true, true, true, true, true, false, false] rfl rfl (any_of HT_.out (by kernel_rfl)) (fun _ _ _ h => h) (Or.inl ⟨by rfl, ?_⟩) ?_ ?_
                      rotate_left
                      · intro w'
                        go_simp
                        with_reducible rfl
                      rotate_left
                      · simp only [Act.put, List.setIfInBounds_toArray, List.set_cons_zero, List.set_cons_succ, i64_w, i32_w]
                        rfl
                      refine pure_ (i := 20) (N := some 179) (v := ?_) (a' := ?_) #[true, true, true, true, true, true, true, true, true, true, true, true, true, true, true, true, true, true, true, true, true, false] rfl rfl (any_of HT_.out (by kernel_rfl)) (fun _ _ _ h => h) (Or.inl ⟨by rfl, ?_⟩) ?_ ?_
                      rotate_left
                      · intro w'
                        go_simp
                        with_reducible rfl
                      rotate_left
                      · simp only [Act.put, List.setIfInBounds_toArray, List.set_cons_zero, List.set_cons_succ, i64_w, i32_w]
                        rfl
                      refine last_ (i := 21) (N := none) #[true, true, true, true, true, true, true, true, true, true, true, true, true, true, true, true, true, true, true, true, true, true] rfl rfl (one_of HT_.out (by kernel_rfl)) (by decide) (fun K hK => ?_)
                      obtain ⟨y_, z_⟩ := Kd.R_celln false hHeld.2 (k : Int) (by omega) (by omega)
                      have HP2 := Aside0.mk (Kd.R_putg hHeld.2 (k : Int) false).1
                      have HB2 := Aside0.mk (hHeld.1.setCell HGB.out (p := ⟨g, ((k : Int)).toNat, none⟩) (.bool false))
                      rw [show ((k : Int)).toNat = k from Int.toNat_natCast k] at y_ z_ HP2 HB2
                      clear hHeld
                      refine skip_ (w1 := ?_) (by rfl) rfl ?_ ?_
                      rotate_left
                      · go_simp
                        rfl
                      refine hK.out _ _ ?_
                      clear hK K
                      refine done_ (done_of HT_.out (by kernel_rfl)) ?_
                      rw [HXN.out] at HP2
                      exact on_normal ⟨_, _, _, _, _, _, _, _, _, _, _, _, _, _, _, _, _, _, _, _, _, by first | (simp only [putAll, Act.put, List.setIfInBounds_toArray, List.set_cons_zero, List.set_cons_succ]; done) | (simp only [putAll, Act.put, List.setIfInBounds_toArray, List.set_cons_zero, List.set_cons_succ]; rfl) | rfl, HP2, HB2⟩
                    | true =>
                      obtain rfl : b_ = ta j k := by rw [hb_, hxk, hxj]; simp
                      clear hb_
                      have HM3 := Aside0.mk hm3
                      clear hm3
                      refine start_ (n := 22) (S := fun w' => Below wb4.heap.size wb4 w' ∧ Kd.R Kd.bool 4 w' wb4.heap.size (fun _ => True) (.slice (some ⟨g, 0, none⟩) (L.length + 1) cg) (X)) (ds := [21]) #[false, false, false, false, false, false, false, false, false, false, false, false, false, false, false, false, false, false, false, false, false, false] (by kernel_rfl) rfl rfl ⟨below_drew1 HB.out, Kd.R_drew HP.out⟩ (fun hHeld => ?_)
                      refine with_tabW takes_law.tab24 takes_law.bits24 (fun HT_ HW_ => ?_)
                      clear HP HB
                      generalize wr.drew = wd at hHeld ⊢
                      refine pure_ (i := 0) (N := some 159) (v := ?_) (a' := ?_) #[true, false, false, false, false, false, false, false, false, false, false, false, false, false, false, false, false, false, false, false, false, false] rfl rfl (any_of HT_.out (by kernel_rfl)) (fun _ _ _ h => h) (Or.inl ⟨by rfl, ?_⟩) ?_ ?_
                      rotate_left
                      · intro w'
                        go_simp
                        with_reducible rfl
                      rotate_left
                      · simp only [Act.put, List.setIfInBounds_toArray, List.set_cons_zero, List.set_cons_succ, i64_w, i32_w]
                        rfl
                      refine pure_ (i := 1) (N := some 160) (v := ?_) (a' := ?_) #[true, true, false, false, false, false, false, false, false, false, false, false, false, false, false, false, false, false, false, false, false, false] rfl rfl (any_of HT_.out (by kernel_rfl)) (fun _ _ _ h => h) (Or.inl ⟨by rfl, ?_⟩) ?_ ?_
                      rotate_left
                      · intro w'
                        go_simp
                        with_reducible rfl
                      rotate_left
                      · simp only [Act.put, List.setIfInBounds_toArray, List.set_cons_zero, List.set_cons_succ, i64_w, i32_w]
                        rfl
                      refine pure_ (i := 2) (N := some 161) (v := ?_) (a' := ?_) #[true, true, true, false, false, false, false, false, false, false, false, false, false, false, false, false, false, false, false, false, false, false] rfl rfl (any_of HT_.out (by kernel_rfl)) (fun _ _ _ h => h) (Or.inl ⟨by rfl, ?_⟩) ?_ ?_
                      rotate_left
                      · intro w'
                        go_simp
                        with_reducible rfl
                      rotate_left
                      · simp only [Act.put, List.setIfInBounds_toArray, List.set_cons_zero, List.set_cons_succ, i64_w, i32_w]
                        rfl
                      refine pure_ (i := 3) (N := some 162) (v := ?_) (a' := ?_) #[true, true, true, true, false, false, false, false, false, false, false, false, false, false, false, false, false, false, false, false, false, false] rfl rfl (any_of HT_.out (by kernel_rfl)) (fun _ _ _ h => h) (Or.inl ⟨by rfl, ?_⟩) ?_ ?_
                      rotate_left
                      · intro w'
                        go_simp
                        with_reducible rfl
                      rotate_left
                      · simp only [Act.put, List.setIfInBounds_toArray, List.set_cons_zero, List.set_cons_succ, i64_w, i32_w]
                        rfl
                      refine pure_ (i := 4) (N := some 163) (v := ?_) (a' := ?_) #[true, true, true, true, true, false, false, false, false, false, false, false, false, false, false, false, false, false, false, false, false, false] rfl rfl (any_of HT_.out (by kernel_rfl)) (fun _ _ _ h => h) (Or.inl ⟨by rfl, ?_⟩) ?_ ?_
                      rotate_left
                      · intro w'
                        go_simp
                        with_reducible rfl
                      rotate_left
                      · simp only [Act.put, List.setIfInBounds_toArray, List.set_cons_zero, List.set_cons_succ, i64_w, i32_w]
                        rfl
                      refine take_ (i := 5) (N := some 164) (v := ?_) (a' := ?_) #[true, true, true, true, true, true, false, false, false, false, false, false, false, false, false, false, false, false, false, false, false, false] rfl rfl (take_ofW HT_.out HW_.out (by kernel_rfl)) (fun _ _ _ h => h) (Or.inl ⟨by rfl, ?_⟩) hHeld ?_ ?_
                      rotate_left
                      · rintro w' ⟨s0, s1⟩
                        have c00_ : w'.cell? ⟨w.heap.size, 0, none⟩ = some (.int .i64 a0_0) := (blk_cell (HW2.out w' s0).2.1 0).trans rfl
                        have c01_ : w'.cell? ⟨w.heap.size, 1, none⟩ = some (.slice A0_1 l0_1.length c0_1) := (blk_cell (HW2.out w' s0).2.1 1).trans rfl
                        have c02_ : w'.cell? ⟨w.heap.size, 2, none⟩ = some (.slice A0_2 l0_2.length c0_2) := (blk_cell (HW2.out w' s0).2.1 2).trans rfl
                        obtain ⟨y1_, z1_⟩ := Kd.R_celln false s1 (k : Int) (by omega) (by omega)
                        obtain ⟨y2_, z2_⟩ := Kd.R_celln false s1 (j : Int) (by omega) (by omega)
                        rw [hXk, show ((k : Int)).toNat = k from Int.toNat_natCast k, hxk] at y1_
                        rw [hXj, show ((j : Int)).toNat = j from Int.toNat_natCast j, hxj] at y2_
                        clear s0 s1 z1_ z2_
                        go_simp
                        with_reducible rfl
                      rotate_left
                      · simp only [Act.put, List.setIfInBounds_toArray, List.set_cons_zero, List.set_cons_succ, i64_w, i32_w]
                        rfl
                      refine pure_ (i := 6) (N := some 165) (v := ?_) (a' := ?_) #[true, true, true, true, true, true, true, false, false, false, false, false, false, false, false, false, false, false, false, false, false, false] rfl rfl (any_of HT_.out (by kernel_rfl)) (fun _ _ _ h => h) (Or.inl ⟨by rfl, ?_⟩) ?_ ?_
                      rotate_left
                      · intro w'
                        go_simp
                        with_reducible rfl
                      rotate_left
                      · simp only [Act.put, List.setIfInBounds_toArray, List.set_cons_zero, List.set_cons_succ, i64_w, i32_w]
                        rfl
                      refine pure_ (i := 7) (N := some 166) (v := ?_) (a' := ?_) #[true, true, true, true, true, true, true, true, false, false, false, false, false, false, false, false, false, false, false, false, false, false] rfl rfl (any_of HT_.out (by kernel_rfl)) (fun _ _ _ h => h) (Or.inl ⟨by rfl, ?_⟩) ?_ ?_
                      rotate_left
                      · intro w'
                        go_simp
                        with_reducible rfl
                      rotate_left
                      · simp only [Act.put, List.setIfInBounds_toArray, List.set_cons_zero, List.set_cons_succ, i64_w, i32_w]
                        rfl
                      refine pure_ (i := 8) (N := some 167) (v := ?_) (a' := ?_) #[true, true, true, true, true, true, true, true, true, false, false, false, false, false, false, false, false, false, false, false, false, false] rfl rfl (any_of HT_.out (by kernel_rfl)) (fun _ _ _ h => h) (Or.inl ⟨by rfl, ?_⟩) ?_ ?_
                      rotate_left
                      · intro w'
                        go_simp
                        with_reducible rfl
                      rotate_left
                      · simp only [Act.put, List.setIfInBounds_toArray, List.set_cons_zero, List.set_cons_succ, i64_w, i32_w]
                        rfl
                      refine pure_ (i := 9) (N := some 168) (v := ?_) (a' := ?_) #[true, true, true, true, true, true, true, true, true, true, false, false, false, false, false, false, false, false, false, false, false, false] rfl rfl (any_of HT_.out (by kernel_rfl)) (fun _ _ _ h => h) (Or.inl ⟨by rfl, ?_⟩) ?_ ?_
                      rotate_left
                      · intro w'
                        go_simp
                        with_reducible rfl
                      rotate_left
                      · simp only [Act.put, List.setIfInBounds_toArray, List.set_cons_zero, List.set_cons_succ, i64_w, i32_w]
                        rfl
                      refine take_ (i := 10) (N := some 169) (v := ?_) (a' := ?_) #[true, true, true, true, true, true, true, true, true, true, true, false, false, false, false, false, false, false, false, false, false, false] rfl rfl (take_ofW HT_.out HW_.out (by kernel_rfl)) (fun _ _ _ h => h) (Or.inl ⟨by rfl, ?_⟩) hHeld ?_ ?_
                      rotate_left
                      · rintro w' ⟨s0, s1⟩
                        have c00_ : w'.cell? ⟨w.heap.size, 0, none⟩ = some (.int .i64 a0_0) := (blk_cell (HW2.out w' s0).2.1 0).trans rfl
                        have c01_ : w'.cell? ⟨w.heap.size, 1, none⟩ = some (.slice A0_1 l0_1.length c0_1) := (blk_cell (HW2.out w' s0).2.1 1).trans rfl
                        have c02_ : w'.cell? ⟨w.heap.size, 2, none⟩ = some (.slice A0_2 l0_2.length c0_2) := (blk_cell (HW2.out w' s0).2.1 2).trans rfl
                        obtain ⟨y1_, z1_⟩ := Kd.R_celln false s1 (k : Int) (by omega) (by omega)
                        obtain ⟨y2_, z2_⟩ := Kd.R_celln false s1 (j : Int) (by omega) (by omega)
                        rw [hXk, show ((k : Int)).toNat = k from Int.toNat_natCast k, hxk] at y1_
                        rw [hXj, show ((j : Int)).toNat = j from Int.toNat_natCast j, hxj] at y2_
                        clear s0 s1 z1_ z2_
                        go_simp
                        with_reducible rfl
                      rotate_left
                      · simp only [Act.put, List.setIfInBounds_toArray, List.set_cons_zero, List.set_cons_succ, i64_w, i32_w]
                        rfl
                      refine pure_ (i := 11) (N := some 170) (v := ?_) (a' := ?_) #[true, true, true, true, true, true, true, true, true, true, true, true, false, false, false, false, false, false, false, false, false, false] rfl rfl (any_of HT_.out (by kernel_rfl)) (fun _ _ _ h => h) (Or.inl ⟨by rfl, ?_⟩) ?_ ?_
                      rotate_left
                      · intro w'
                        go_simp
                        with_reducible rfl
                      rotate_left
                      · simp only [Act.put, List.setIfInBounds_toArray, List.set_cons_zero, List.set_cons_succ, i64_w, i32_w]
                        rfl
                      refine pure_ (i := 13) (N := some 172) (v := ?_) (a' := ?_) #[true, true, true, true, true, true, true, true, true, true, true, true, false, true, false, false, false, false, false, false, false, false] rfl rfl (any_of HT_.out (by kernel_rfl)) (fun _ _ _ h => h) (Or.inl ⟨by rfl, ?_⟩) ?_ ?_
                      rotate_left
                      · intro w'
                        go_simp
                        with_reducible rfl
                      rotate_left
                      · simp only [Act.put, List.setIfInBounds_toArray, List.set_cons_zero, List.set_cons_succ, i64_w, i32_w]
                        rfl
                      refine pure_ (i := 14) (N := some 173) (v := ?_) (a' := ?_) #[true, true, true, true, true, true, true, true, true, true, true, true, false, true, true, false, false, false, false, false, false, false] rfl rfl (any_of HT_.out (by kernel_rfl)) (fun _ _ _ h => h) (Or.inl ⟨by rfl, ?_⟩) ?_ ?_
                      rotate_left
                      · intro w'
                        go_simp
                        with_reducible rfl
                      rotate_left
                      · simp only [Act.put, List.setIfInBounds_toArray, List.set_cons_zero, List.set_cons_succ, i64_w, i32_w]
                        rfl
                      refine pure_ (i := 15) (N := some 174) (v := ?_) (a' := ?_) #[true, true, true, true, true, true, true, true, true, true, true, true, false, true, true, true, false, false, false, false, false, false] rfl rfl (any_of HT_.out (by kernel_rfl)) (fun _ _ _ h => h) (Or.inl ⟨by rfl, ?_⟩) ?_ ?_
                      rotate_left
                      · intro w'
                        go_simp
                        with_reducible rfl
                      rotate_left
                      · simp only [Act.put, List.setIfInBounds_toArray, List.set_cons_zero, List.set_cons_succ, i64_w, i32_w]
                        rfl
                      refine pure_ (i := 16) (N := some 175) (v := ?_) (a' := ?_) #[true, true, true, true, true, true, true, true, true, true, true, true, false, true, true, true, true, false, false, false, false, false] rfl rfl (any_of HT_.out (by kernel_rfl)) (fun _ _ _ h => h) (Or.inl ⟨by rfl, ?_⟩) ?_ ?_
                      rotate_left
                      · intro w'
                        go_simp
                        with_reducible rfl
                      rotate_left
                      · simp only [Act.put, List.setIfInBounds_toArray, List.set_cons_zero, List.set_cons_succ, i64_w, i32_w]
                        rfl
                      refine take_ (i := 12) (N := some 171) (v := ?_) (a' := ?_) #[true, true, true, true, true, true, true, true, true, true, true, true, true, true, true, true, true, false, false, false, false, false] rfl rfl (take_ofW HT_.out HW_.out (by kernel_rfl)) (fun _ _ _ h => h) (Or.inl ⟨by rfl, ?_⟩) hHeld ?_ ?_
                      rotate_left
                      · rintro w' ⟨s0, s1⟩
                        have c00_ : w'.cell? ⟨w.heap.size, 0, none⟩ = some (.int .i64 a0_0) := (blk_cell (HW2.out w' s0).2.1 0).trans rfl
                        have c01_ : w'.cell? ⟨w.heap.size, 1, none⟩ = some (.slice A0_1 l0_1.length c0_1) := (blk_cell (HW2.out w' s0).2.1 1).trans rfl
                        have c02_ : w'.cell? ⟨w.heap.size, 2, none⟩ = some (.slice A0_2 l0_2.length c0_2) := (blk_cell (HW2.out w' s0).2.1 2).trans rfl
                        obtain ⟨y1_, z1_⟩ := Kd.R_celln false s1 (k : Int) (by omega) (by omega)
                        obtain ⟨y2_, z2_⟩ := Kd.R_celln false s1 (j : Int) (by omega) (by omega)
                        rw [hXk, show ((k : Int)).toNat = k from Int.toNat_natCast k, hxk] at y1_
                        rw [hXj, show ((j : Int)).toNat = j from Int.toNat_natCast j, hxj] at y2_
                        clear s0 s1 z1_ z2_
                        go_simp
                        with_reducible rfl
                      rotate_left
                      · simp only [Act.put, List.setIfInBounds_toArray, List.set_cons_zero, List.set_cons_succ, i64_w, i32_w]
                        rfl
                      refine one_ (i := 17) (N := some 176) #[true, true, true, true, true, true, true, true, true, true, true, true, true, true, true, true, true, true, false, false, false, false] rfl rfl (one_of HT_.out (by kernel_rfl)) (by decide) (fun K hK => ?_)
                      refine goes_ Try.func42 (by kernel_rfl) rfl #[.agg #[.int .i64 a0_0, .slice A0_1 l0_1.length c0_1, .slice A0_2 l0_2.length c0_2], .slice A9 M3.length c9] (by rfl) rfl rfl (by simp only [List.map_toArray, List.map_cons, List.map_nil]; rfl) ?_
                      with_reducible refine (caesuralaw19_takes.calls m3 a0_0 A0_1 c0_1 l0_1 A0_2 c0_2 l0_2 A9 c9 M3 (ta j k) wd (Kd.C_below HR0_1.out (HW2.out _ hHeld.1).1) hc0_1 (Kd.C_below HR0_2.out (HW2.out _ hHeld.1).1) hc0_2 (CC3.out _ (HW2.out _ hHeld.1).2.2.2) cc3 HM3.out).mono ?_
                      rintro e we ⟨rfl, hb_⟩
                      refine ⟨_, rfl, ?_⟩
                      refine hK.out _ _ ⟨below_step hHeld.1 hb_, Kd.R_below hHeld.2 hb_⟩ (fun hHeld => ?_)
                      clear hK K
                      refine norm_ (a' := ?_) ?_ ?_
                      rotate_left
                      · show Act.put _ (some 176) _ = _
                        simp only [Act.put, List.setIfInBounds_toArray, List.set_cons_zero, List.set_cons_succ, i64_w, i32_w]
                        rfl
                      refine pure_ (i := 18) (N := some 177) (v := ?_) (a' := ?_) #[true, true, true, true, true, true, true, true, true, true, true, true, true, true, true, true, true, true, true, false, false, false] rfl rfl (any_of HT_.out (by kernel_rfl)) (fun _ _ _ h => h) (Or.inl ⟨by rfl, ?_⟩) ?_ ?_
                      rotate_left
                      · intro w'
                        go_simp
                        with_reducible rfl
                      rotate_left
                      · simp only [Act.put, List.setIfInBounds_toArray, List.set_cons_zero, List.set_cons_succ, i64_w, i32_w]
                        rfl
                      refine pure_ (i := 19) (N := some 178) (v := ?_) (a' := ?_) #[true, true, true, true, true, true, true, true, true, true, true, true, true, true, true, true, true, true, true, true, false, false] rfl rfl (any_of HT_.out (by kernel_rfl)) (fun _ _ _ h => h) (Or.inl ⟨by rfl, ?_⟩) ?_ ?_
                      rotate_left
                      · intro w'
                        go_simp
                        with_reducible rfl
                      rotate_left
                      · simp only [Act.put, List.setIfInBounds_toArray, List.set_cons_zero, List.set_cons_succ, i64_w, i32_w]
                        rfl
                      refine pure_ (i := 20) (N := some 179) (v := ?_) (a' := ?_) #[true, true, true, true, true, true, true, true, true, true, true, true, true, true, true, true, true, true, true, true, true, false] rfl rfl (any_of HT_.out (by kernel_rfl)) (fun _ _ _ h => h) (Or.inl ⟨by rfl, ?_⟩) ?_ ?_
                      rotate_left
                      · intro w'
                        go_simp
                        with_reducible rfl
                      rotate_left
                      · simp only [Act.put, List.setIfInBounds_toArray, List.set_cons_zero, List.set_cons_succ, i64_w, i32_w]
                        rfl
                      refine last_ (i := 21) (N := none) #[true, true, true, true, true, true, true, true, true, true, true, true, true, true, true, true, true, true, true, true, true, true] rfl rfl (one_of HT_.out (by kernel_rfl)) (by decide) (fun K hK => ?_)
                      obtain ⟨y_, z_⟩ := Kd.R_celln false hHeld.2 (k : Int) (by omega) (by omega)
                      have HP2 := Aside0.mk (Kd.R_putg hHeld.2 (k : Int) (ta j k)).1
                      have HB2 := Aside0.mk (hHeld.1.setCell HGB.out (p := ⟨g, ((k : Int)).toNat, none⟩) (.bool (ta j k)))
                      rw [show ((k : Int)).toNat = k from Int.toNat_natCast k] at y_ z_ HP2 HB2
                      clear hHeld
                      refine skip_ (w1 := ?_) (by rfl) rfl ?_ ?_
                      rotate_left
                      · go_simp
                        rfl
                      refine hK.out _ _ ?_
                      clear hK K
                      refine done_ (done_of HT_.out (by kernel_rfl)) ?_
                      rw [HXN.out] at HP2
                      exact on_normal ⟨_, _, _, _, _, _, _, _, _, _, _, _, _, _, _, _, _, _, _, _, _, by first | (simp only [putAll, Act.put, List.setIfInBounds_toArray, List.set_cons_zero, List.set_cons_succ]; done) | (simp only [putAll, Act.put, List.setIfInBounds_toArray, List.set_cons_zero, List.set_cons_succ]; rfl) | rfl, HP2, HB2⟩
                · clear HP HB hb_ cu3 hm3 HXN
                  intro a' wv
                  refine ex_imp fun t159 => ex_imp fun t160 => ex_imp fun t161 => ex_imp fun t162 => ex_imp fun t163 => ex_imp fun t164 => ex_imp fun t165 => ex_imp fun t166 => ex_imp fun t167 => ex_imp fun t168 => ex_imp fun t169 => ex_imp fun t170 => ex_imp fun t171 => ex_imp fun t172 => ex_imp fun t173 => ex_imp fun t174 => ex_imp fun t175 => ex_imp fun t176 => ex_imp fun t177 => ex_imp fun t178 => ex_imp fun t179 => fun hI => ?_
                  obtain ⟨ha_, HP, HB⟩ := hI
                  subst ha_
                  simp only [putAll, Act.put, List.setIfInBounds_toArray, List.set_cons_zero, List.set_cons_succ]
                  try go_wp2
                  go_roundw
                  case rel => exact ⟨j + 1, _, by omega, by go_num, ⟨rfl⟩, HP, HB⟩
                  case measure => simp [intOf]; omega
              · have q2b : decide ((j : Int) < (k : Int)) = false := decide_eq_false (by omega)
                obtain rfl : j = k := by omega
                go_wp2
                go_roundw
                case rel => exact ⟨j + 1, _, by omega, by go_num, by rw [HCB.out], ⟨by rw [agains, ← HG.out]; exact HX.out⟩, HP, HB⟩
                case measure => simp [intOf]; omega
        · have q1b : decide ((k : Int) ≤ (L.length : Int)) = false := decide_eq_false (by omega)
          obtain rfl : k = L.length + 1 := by omega
          have hGl : G.length = L.length + 1 := by rw [HG.out, agains_length]
          obtain ⟨cv, hcv⟩ : ∃ cv, cv = catB ta tb L.length (L.length + 1) := ⟨_, rfl⟩
          have he2 := HE2.out
          rw [← hcv] at he2 ⊢
          have HE2' := Aside0.mk he2
          have he4 := HE4.out
          rw [← HG.out] at he4
          obtain ⟨gv, hgv⟩ : ∃ gv, gv = G.getD L.length false := ⟨_, rfl⟩
          rw [← hgv] at he4
          have HE4' := Aside0.mk he4
          have hgr : rdOf false G (L.length : Int) = gv := by rw [rdOf_nat, hgv]
          clear he2 he4 hcv hgv HE2 HE4
          have hk0 : ((0 : Int) ≤ (L.length : Int)) = True := eq_true (by omega)
          have hk1 : ((L.length : Int) < ((L.length + 1 : Nat) : Int)) = True := eq_true (by omega)
          have hk2 : ((L.length : Int) < (L.length : Int) + 1) = True := eq_true (by omega)
          have hta_ := HTA.out 0 L.length
          rw [List.drop_zero, List.take_length] at hta_
          obtain ⟨ma, hma⟩ := hta_
          have htb_ := HTB.out 0 L.length
          rw [List.drop_zero, List.take_length] at htb_
          obtain ⟨mb, hmb⟩ := htb_
          have HMB := Aside0.mk hmb
          clear hmb
          have he3 := HE3.out
          have he1 := HE1.out
          clear HE1 HE3
          go_wp2
          cases h1 : ta 0 L.length with
          | true =>
            rw [h1] at hma he1 he3
            rw [Bool.true_or] at he3
            have HMA := Aside0.mk hma
            have HE1 := Aside0.mk he1
            have HE3 := Aside0.mk he3
            clear hma he1 he3
            refine start_ (n := 43) (S := fun w' => Below wb4.heap.size wb4 w' ∧ Kd.R Kd.bool 4 w' wb4.heap.size (fun _ => True) (.slice (some ⟨g, 0, none⟩) (L.length + 1) cg) (G)) (ds := []) #[false, false, false, false, false, false, false, false, false, false, false, false, false, false, false, false, false, false, false, false, false, false, false, false, false, false, false, false, false, false, false, false, false, false, false, false, false, false, false, false, false, false, false] (by kernel_rfl) rfl rfl ⟨below_drew1 HB.out, Kd.R_drew HP.out⟩ (fun hHeld => ?_)
            refine with_tabW takes_law.tab25 takes_law.bits25 (fun HT_ HW_ => ?_)
            clear HP HB
            generalize wr.drew = wd at hHeld ⊢
            refine pure_ (i := 1) (N := some 181) (v := ?_) (a' := ?_) #[false, true, false, false, false, false, false, false, false, false, false, false, false, false, false, false, false, false, false, false, false, false, false, false, false, false, false, false, false, false, false, false, false, false, false, false, false, false, false, false, false, false, false] rfl rfl (any_of HT_.out (by kernel_rfl)) (fun _ _ _ h => h) (Or.inl ⟨by rfl, ?_⟩) ?_ ?_
            rotate_left
            · intro w'
              go_simp
              with_reducible rfl
            rotate_left
            · simp only [Act.put, List.setIfInBounds_toArray, List.set_cons_zero, List.set_cons_succ, i64_w, i32_w]
              rfl
            refine pure_ (i := 4) (N := some 184) (v := ?_) (a' := ?_) #[false, true, false, false, true, false, false, false, false, false, false, false, false, false, false, false, false, false, false, false, false, false, false, false, false, false, false, false, false, false, false, false, false, false, false, false, false, false, false, false, false, false, false] rfl rfl (any_of HT_.out (by kernel_rfl)) (fun _ _ _ h => h) (Or.inl ⟨by rfl, ?_⟩) ?_ ?_
            rotate_left
            · intro w'
              go_simp
              with_reducible rfl
            rotate_left
            · simp only [Act.put, List.setIfInBounds_toArray, List.set_cons_zero, List.set_cons_succ, i64_w, i32_w]
              rfl
            refine take_ (i := 0) (N := some 180) (v := ?_) (a' := ?_) #[true, true, false, false, true, false, false, false, false, false, false, false, false, false, false, false, false, false, false, false, false, false, false, false, false, false, false, false, false, false, false, false, false, false, false, false, false, false, false, false, false, false, false] rfl rfl (take_ofW HT_.out HW_.out (by kernel_rfl)) (fun _ _ _ h => h) (Or.inl ⟨by rfl, ?_⟩) hHeld ?_ ?_
            rotate_left
            · rintro w' ⟨s0, s1⟩
              have b_ := (HN4.out w' s0).blks (wa1.heap.size, #[.int .i64 x1, .slice U1 X1.length q1], 28) (by simp)
              have n0_ : w'.cell? ⟨wa1.heap.size, 0, none⟩ = some (.int .i64 x1) := (blk_cell b_ 0).trans rfl
              have n1_ : w'.cell? ⟨wa1.heap.size, 1, none⟩ = some (.slice U1 X1.length q1) := (blk_cell b_ 1).trans rfl
              clear b_ s0 s1
              go_simp
              with_reducible rfl
            rotate_left
            · simp only [Act.put, List.setIfInBounds_toArray, List.set_cons_zero, List.set_cons_succ, i64_w, i32_w]
              rfl
            refine take_ (i := 3) (N := some 183) (v := ?_) (a' := ?_) #[true, true, false, true, true, false, false, false, false, false, false, false, false, false, false, false, false, false, false, false, false, false, false, false, false, false, false, false, false, false, false, false, false, false, false, false, false, false, false, false, false, false, false] rfl rfl (take_ofW HT_.out HW_.out (by kernel_rfl)) (fun _ _ _ h => h) (Or.inl ⟨by rfl, ?_⟩) hHeld ?_ ?_
            rotate_left
            · rintro w' ⟨s0, s1⟩
              have c00_ : w'.cell? ⟨w.heap.size, 0, none⟩ = some (.int .i64 a0_0) := (blk_cell (HW2.out w' s0).2.1 0).trans rfl
              have c01_ : w'.cell? ⟨w.heap.size, 1, none⟩ = some (.slice A0_1 l0_1.length c0_1) := (blk_cell (HW2.out w' s0).2.1 1).trans rfl
              have c02_ : w'.cell? ⟨w.heap.size, 2, none⟩ = some (.slice A0_2 l0_2.length c0_2) := (blk_cell (HW2.out w' s0).2.1 2).trans rfl
              clear s0 s1
              go_simp
              with_reducible rfl
            rotate_left
            · simp only [Act.put, List.setIfInBounds_toArray, List.set_cons_zero, List.set_cons_succ, i64_w, i32_w]
              rfl
            refine one_ (i := 2) (N := some 182) #[true, true, true, true, true, false, false, false, false, false, false, false, false, false, false, false, false, false, false, false, false, false, false, false, false, false, false, false, false, false, false, false, false, false, false, false, false, false, false, false, false, false, false] rfl rfl (one_of HT_.out (by kernel_rfl)) (by decide) (fun K hK => ?_)
            refine goes_ Try.func43 (by kernel_rfl) rfl #[.agg #[.int .i64 x1, .slice U1 X1.length q1], .slice A7 L.length c7] (by rfl) rfl rfl (by simp only [List.map_toArray, List.map_cons, List.map_nil]; rfl) ?_
            with_reducible refine (caesuralaw19_goes.calls e1 x1 U1 q1 X1 A7 c7 L true wd ((HN4.out _ hHeld.1).C_nets (A := U1) (c := q1) (n := X1.length) (L := X1) (by simp)).2.2 ((HN4.out _ hHeld.1).C_nets (A := U1) (c := q1) (n := X1.length) (L := X1) (by simp)).2.1 (HW2.out _ hHeld.1).2.2.2 HL7.out HE1.out).mono ?_
            rintro e v2 ⟨rfl, hb_⟩
            refine ⟨_, rfl, ?_⟩
            refine hK.out _ _ ⟨below_step hHeld.1 hb_, Kd.R_below hHeld.2 hb_⟩ (fun hHeld => ?_)
            clear hK K
            refine norm_ (a' := ?_) ?_ ?_
            rotate_left
            · show Act.put _ (some 182) _ = _
              simp only [Act.put, List.setIfInBounds_toArray, List.set_cons_zero, List.set_cons_succ, i64_w, i32_w]
              rfl
            refine one_ (i := 5) (N := some 185) #[true, true, true, true, true, true, false, false, false, false, false, false, false, false, false, false, false, false, false, false, false, false, false, false, false, false, false, false, false, false, false, false, false, false, false, false, false, false, false, false, false, false, false] rfl rfl (one_of HT_.out (by kernel_rfl)) (by decide) (fun K hK => ?_)
            refine goes_ Try.func42 (by kernel_rfl) rfl #[.agg #[.int .i64 a0_0, .slice A0_1 l0_1.length c0_1, .slice A0_2 l0_2.length c0_2], .slice A7 L.length c7] (by rfl) rfl rfl (by simp only [List.map_toArray, List.map_cons, List.map_nil]; rfl) ?_
            with_reducible refine (caesuralaw19_takes.calls ma a0_0 A0_1 c0_1 l0_1 A0_2 c0_2 l0_2 A7 c7 L true v2 (Kd.C_below HR0_1.out (HW2.out _ hHeld.1).1) hc0_1 (Kd.C_below HR0_2.out (HW2.out _ hHeld.1).1) hc0_2 (HW2.out _ hHeld.1).2.2.2 HL7.out HMA.out).mono ?_
            rintro e v5 ⟨rfl, hb_⟩
            refine ⟨_, rfl, ?_⟩
            refine hK.out _ _ ⟨below_step hHeld.1 hb_, Kd.R_below hHeld.2 hb_⟩ (fun hHeld => ?_)
            clear hK K
            refine norm_ (a' := ?_) ?_ ?_
            rotate_left
            · show Act.put _ (some 185) _ = _
              simp only [Act.put, List.setIfInBounds_toArray, List.set_cons_zero, List.set_cons_succ, i64_w, i32_w]
              rfl
            refine pure_ (i := 6) (N := some 186) (v := ?_) (a' := ?_) #[true, true, true, true, true, true, true, false, false, false, false, false, false, false, false, false, false, false, false, false, false, false, false, false, false, false, false, false, false, false, false, false, false, false, false, false, false, false, false, false, false, false, false] rfl rfl (any_of HT_.out (by kernel_rfl)) (fun _ _ _ h => h) (Or.inl ⟨by rfl, ?_⟩) ?_ ?_
            rotate_left
            · intro w'
              go_simp
              with_reducible rfl
            rotate_left
            · simp only [Act.put, List.setIfInBounds_toArray, List.set_cons_zero, List.set_cons_succ, i64_w, i32_w]
              rfl
            refine pure_ (i := 7) (N := some 187) (v := ?_) (a' := ?_) #[true, true, true, true, true, true, true, true, false, false, false, false, false, false, false, false, false, false, false, false, false, false, false, false, false, false, false, false, false, false, false, false, false, false, false, false, false, false, false, false, false, false, false] rfl rfl (any_of HT_.out (by kernel_rfl)) (fun _ _ _ h => h) (Or.inl ⟨by rfl, ?_⟩) ?_ ?_
            rotate_left
            · intro w'
              go_simp
              with_reducible rfl
            rotate_left
            · simp only [Act.put, List.setIfInBounds_toArray, List.set_cons_zero, List.set_cons_succ, i64_w, i32_w]
              rfl
            refine pure_ (i := 9) (N := some 189) (v := ?_) (a' := ?_) #[true, true, true, true, true, true, true, true, false, true, false, false, false, false, false, false, false, false, false, false, false, false, false, false, false, false, false, false, false, false, false, false, false, false, false, false, false, false, false, false, false, false, false] rfl rfl (any_of HT_.out (by kernel_rfl)) (fun _ _ _ h => h) (Or.inl ⟨by rfl, ?_⟩) ?_ ?_
            rotate_left
            · intro w'
              go_simp
              with_reducible rfl
            rotate_left
            · simp only [Act.put, List.setIfInBounds_toArray, List.set_cons_zero, List.set_cons_succ, i64_w, i32_w]
              rfl
            refine pure_ (i := 11) (N := some 191) (v := ?_) (a' := ?_) #[true, true, true, true, true, true, true, true, false, true, false, true, false, false, false, false, false, false, false, false, false, false, false, false, false, false, false, false, false, false, false, false, false, false, false, false, false, false, false, false, false, false, false] rfl rfl (any_of HT_.out (by kernel_rfl)) (fun _ _ _ h => h) (Or.inl ⟨by rfl, ?_⟩) ?_ ?_
            rotate_left
            · intro w'
              go_simp
              with_reducible rfl
            rotate_left
            · simp only [Act.put, List.setIfInBounds_toArray, List.set_cons_zero, List.set_cons_succ, i64_w, i32_w]
              rfl
            refine take_ (i := 8) (N := some 188) (v := ?_) (a' := ?_) #[true, true, true, true, true, true, true, true, true, true, false, true, false, false, false, false, false, false, false, false, false, false, false, false, false, false, false, false, false, false, false, false, false, false, false, false, false, false, false, false, false, false, false] rfl rfl (take_ofW HT_.out HW_.out (by kernel_rfl)) (fun _ _ _ h => h) (Or.inl ⟨by rfl, ?_⟩) hHeld ?_ ?_
            rotate_left
            · rintro w' ⟨s0, s1⟩
              have b_ := (HN4.out w' s0).blks (wa2.heap.size, #[.int .i64 x2, .slice U2 X2.length q2], 28) (by simp)
              have n0_ : w'.cell? ⟨wa2.heap.size, 0, none⟩ = some (.int .i64 x2) := (blk_cell b_ 0).trans rfl
              have n1_ : w'.cell? ⟨wa2.heap.size, 1, none⟩ = some (.slice U2 X2.length q2) := (blk_cell b_ 1).trans rfl
              clear b_ s0 s1
              go_simp
              with_reducible rfl
            rotate_left
            · simp only [Act.put, List.setIfInBounds_toArray, List.set_cons_zero, List.set_cons_succ, i64_w, i32_w]
              rfl
            refine one_ (i := 10) (N := some 190) #[true, true, true, true, true, true, true, true, true, true, true, true, false, false, false, false, false, false, false, false, false, false, false, false, false, false, false, false, false, false, false, false, false, false, false, false, false, false, false, false, false, false, false] rfl rfl (one_of HT_.out (by kernel_rfl)) (by decide) (fun K hK => ?_)
            refine goes_ Try.func43 (by kernel_rfl) rfl #[.agg #[.int .i64 x2, .slice U2 X2.length q2], .slice A7 L.length c7] (by rfl) rfl rfl (by simp only [List.map_toArray, List.map_cons, List.map_nil]; rfl) ?_
            with_reducible refine (caesuralaw19_goes.calls e2 x2 U2 q2 X2 A7 c7 L cv v5 ((HN4.out _ hHeld.1).C_nets (A := U2) (c := q2) (n := X2.length) (L := X2) (by simp)).2.2 ((HN4.out _ hHeld.1).C_nets (A := U2) (c := q2) (n := X2.length) (L := X2) (by simp)).2.1 (HW2.out _ hHeld.1).2.2.2 HL7.out HE2'.out).mono ?_
            rintro e v10 ⟨rfl, hb_⟩
            refine ⟨_, rfl, ?_⟩
            refine hK.out _ _ ⟨below_step hHeld.1 hb_, Kd.R_below hHeld.2 hb_⟩ (fun hHeld => ?_)
            clear hK K
            refine norm_ (a' := ?_) ?_ ?_
            rotate_left
            · show Act.put _ (some 190) _ = _
              simp only [Act.put, List.setIfInBounds_toArray, List.set_cons_zero, List.set_cons_succ, i64_w, i32_w]
              rfl
            refine pure_ (i := 12) (N := some 192) (v := ?_) (a' := ?_) #[true, true, true, true, true, true, true, true, true, true, true, true, true, false, false, false, false, false, false, false, false, false, false, false, false, false, false, false, false, false, false, false, false, false, false, false, false, false, false, false, false, false, false] rfl rfl (any_of HT_.out (by kernel_rfl)) (fun _ _ _ h => h) (Or.inl ⟨by rfl, ?_⟩) ?_ ?_
            rotate_left
            · intro w'
              go_simp
              with_reducible rfl
            rotate_left
            · simp only [Act.put, List.setIfInBounds_toArray, List.set_cons_zero, List.set_cons_succ, i64_w, i32_w]
              rfl
            refine pure_ (i := 13) (N := some 193) (v := ?_) (a' := ?_) #[true, true, true, true, true, true, true, true, true, true, true, true, true, true, false, false, false, false, false, false, false, false, false, false, false, false, false, false, false, false, false, false, false, false, false, false, false, false, false, false, false, false, false] rfl rfl (any_of HT_.out (by kernel_rfl)) (fun _ _ _ h => h) (Or.inl ⟨by rfl, ?_⟩) ?_ ?_
            rotate_left
            · intro w'
              go_simp
              with_reducible rfl
            rotate_left
            · simp only [Act.put, List.setIfInBounds_toArray, List.set_cons_zero, List.set_cons_succ, i64_w, i32_w]
              rfl
            refine pure_ (i := 14) (N := some 194) (v := ?_) (a' := ?_) #[true, true, true, true, true, true, true, true, true, true, true, true, true, true, true, false, false, false, false, false, false, false, false, false, false, false, false, false, false, false, false, false, false, false, false, false, false, false, false, false, false, false, false] rfl rfl (any_of HT_.out (by kernel_rfl)) (fun _ _ _ h => h) (Or.inl ⟨by rfl, ?_⟩) ?_ ?_
            rotate_left
            · intro w'
              go_simp
              with_reducible rfl
            rotate_left
            · simp only [Act.put, List.setIfInBounds_toArray, List.set_cons_zero, List.set_cons_succ, i64_w, i32_w]
              rfl
            refine pure_ (i := 16) (N := some 196) (v := ?_) (a' := ?_) #[true, true, true, true, true, true, true, true, true, true, true, true, true, true, true, false, true, false, false, false, false, false, false, false, false, false, false, false, false, false, false, false, false, false, false, false, false, false, false, false, false, false, false] rfl rfl (any_of HT_.out (by kernel_rfl)) (fun _ _ _ h => h) (Or.inl ⟨by rfl, ?_⟩) ?_ ?_
            rotate_left
            · intro w'
              go_simp
              with_reducible rfl
            rotate_left
            · simp only [Act.put, List.setIfInBounds_toArray, List.set_cons_zero, List.set_cons_succ, i64_w, i32_w]
              rfl
            refine pure_ (i := 19) (N := some 199) (v := ?_) (a' := ?_) #[true, true, true, true, true, true, true, true, true, true, true, true, true, true, true, false, true, false, false, true, false, false, false, false, false, false, false, false, false, false, false, false, false, false, false, false, false, false, false, false, false, false, false] rfl rfl (any_of HT_.out (by kernel_rfl)) (fun _ _ _ h => h) (Or.inl ⟨by rfl, ?_⟩) ?_ ?_
            rotate_left
            · intro w'
              go_simp
              with_reducible rfl
            rotate_left
            · simp only [Act.put, List.setIfInBounds_toArray, List.set_cons_zero, List.set_cons_succ, i64_w, i32_w]
              rfl
            refine take_ (i := 15) (N := some 195) (v := ?_) (a' := ?_) #[true, true, true, true, true, true, true, true, true, true, true, true, true, true, true, true, true, false, false, true, false, false, false, false, false, false, false, false, false, false, false, false, false, false, false, false, false, false, false, false, false, false, false] rfl rfl (take_ofW HT_.out HW_.out (by kernel_rfl)) (fun _ _ _ h => h) (Or.inl ⟨by rfl, ?_⟩) hHeld ?_ ?_
            rotate_left
            · rintro w' ⟨s0, s1⟩
              have b_ := (HN4.out w' s0).blks (wa3.heap.size, #[.int .i64 x3, .slice U3 X3.length q3], 28) (by simp)
              have n0_ : w'.cell? ⟨wa3.heap.size, 0, none⟩ = some (.int .i64 x3) := (blk_cell b_ 0).trans rfl
              have n1_ : w'.cell? ⟨wa3.heap.size, 1, none⟩ = some (.slice U3 X3.length q3) := (blk_cell b_ 1).trans rfl
              clear b_ s0 s1
              go_simp
              with_reducible rfl
            rotate_left
            · simp only [Act.put, List.setIfInBounds_toArray, List.set_cons_zero, List.set_cons_succ, i64_w, i32_w]
              rfl
            refine take_ (i := 18) (N := some 198) (v := ?_) (a' := ?_) #[true, true, true, true, true, true, true, true, true, true, true, true, true, true, true, true, true, false, true, true, false, false, false, false, false, false, false, false, false, false, false, false, false, false, false, false, false, false, false, false, false, false, false] rfl rfl (take_ofW HT_.out HW_.out (by kernel_rfl)) (fun _ _ _ h => h) (Or.inl ⟨by rfl, ?_⟩) hHeld ?_ ?_
            rotate_left
            · rintro w' ⟨s0, s1⟩
              have c00_ : w'.cell? ⟨w.heap.size, 0, none⟩ = some (.int .i64 a0_0) := (blk_cell (HW2.out w' s0).2.1 0).trans rfl
              have c01_ : w'.cell? ⟨w.heap.size, 1, none⟩ = some (.slice A0_1 l0_1.length c0_1) := (blk_cell (HW2.out w' s0).2.1 1).trans rfl
              have c02_ : w'.cell? ⟨w.heap.size, 2, none⟩ = some (.slice A0_2 l0_2.length c0_2) := (blk_cell (HW2.out w' s0).2.1 2).trans rfl
              clear s0 s1
              go_simp
              with_reducible rfl
            rotate_left
            · simp only [Act.put, List.setIfInBounds_toArray, List.set_cons_zero, List.set_cons_succ, i64_w, i32_w]
              rfl
            refine one_ (i := 17) (N := some 197) #[true, true, true, true, true, true, true, true, true, true, true, true, true, true, true, true, true, true, true, true, false, false, false, false, false, false, false, false, false, false, false, false, false, false, false, false, false, false, false, false, false, false, false] rfl rfl (one_of HT_.out (by kernel_rfl)) (by decide) (fun K hK => ?_)
            refine goes_ Try.func43 (by kernel_rfl) rfl #[.agg #[.int .i64 x3, .slice U3 X3.length q3], .slice A7 L.length c7] (by rfl) rfl rfl (by simp only [List.map_toArray, List.map_cons, List.map_nil]; rfl) ?_
            with_reducible refine (caesuralaw19_goes.calls e3 x3 U3 q3 X3 A7 c7 L true v10 ((HN4.out _ hHeld.1).C_nets (A := U3) (c := q3) (n := X3.length) (L := X3) (by simp)).2.2 ((HN4.out _ hHeld.1).C_nets (A := U3) (c := q3) (n := X3.length) (L := X3) (by simp)).2.1 (HW2.out _ hHeld.1).2.2.2 HL7.out HE3.out).mono ?_
            rintro e v17 ⟨rfl, hb_⟩
            refine ⟨_, rfl, ?_⟩
            refine hK.out _ _ ⟨below_step hHeld.1 hb_, Kd.R_below hHeld.2 hb_⟩ (fun hHeld => ?_)
            clear hK K
            refine norm_ (a' := ?_) ?_ ?_
            rotate_left
            · show Act.put _ (some 197) _ = _
              simp only [Act.put, List.setIfInBounds_toArray, List.set_cons_zero, List.set_cons_succ, i64_w, i32_w]
              rfl
            refine one_ (i := 20) (N := some 200) #[true, true, true, true, true, true, true, true, true, true, true, true, true, true, true, true, true, true, true, true, true, false, false, false, false, false, false, false, false, false, false, false, false, false, false, false, false, false, false, false, false, false, false] rfl rfl (one_of HT_.out (by kernel_rfl)) (by decide) (fun K hK => ?_)
            refine goes_ Try.func42 (by kernel_rfl) rfl #[.agg #[.int .i64 a0_0, .slice A0_1 l0_1.length c0_1, .slice A0_2 l0_2.length c0_2], .slice A7 L.length c7] (by rfl) rfl rfl (by simp only [List.map_toArray, List.map_cons, List.map_nil]; rfl) ?_
            with_reducible refine (caesuralaw19_takes.calls ma a0_0 A0_1 c0_1 l0_1 A0_2 c0_2 l0_2 A7 c7 L true v17 (Kd.C_below HR0_1.out (HW2.out _ hHeld.1).1) hc0_1 (Kd.C_below HR0_2.out (HW2.out _ hHeld.1).1) hc0_2 (HW2.out _ hHeld.1).2.2.2 HL7.out HMA.out).mono ?_
            rintro e v20 ⟨rfl, hb_⟩
            refine ⟨_, rfl, ?_⟩
            refine hK.out _ _ ⟨below_step hHeld.1 hb_, Kd.R_below hHeld.2 hb_⟩ (fun hHeld => ?_)
            clear hK K
            refine norm_ (a' := ?_) ?_ ?_
            rotate_left
            · show Act.put _ (some 200) _ = _
              simp only [Act.put, List.setIfInBounds_toArray, List.set_cons_zero, List.set_cons_succ, i64_w, i32_w]
              rfl
            refine pure_ (i := 21) (N := some 201) (v := ?_) (a' := ?_) #[true, true, true, true, true, true, true, true, true, true, true, true, true, true, true, true, true, true, true, true, true, true, false, false, false, false, false, false, false, false, false, false, false, false, false, false, false, false, false, false, false, false, false] rfl rfl (any_of HT_.out (by kernel_rfl)) (fun _ _ _ h => h) (Or.inl ⟨by rfl, ?_⟩) ?_ ?_
            rotate_left
            · intro w'
              go_simp
              with_reducible rfl
            rotate_left
            · simp only [Act.put, List.setIfInBounds_toArray, List.set_cons_zero, List.set_cons_succ, i64_w, i32_w]
              rfl
            refine pure_ (i := 22) (N := some 202) (v := undef) (a' := ?_) #[true, true, true, true, true, true, true, true, true, true, true, true, true, true, true, true, true, true, true, true, true, true, true, false, false, false, false, false, false, false, false, false, false, false, false, false, false, false, false, false, false, false, false] rfl rfl (any_of HT_.out (by kernel_rfl)) (fun _ _ _ h => h) (Or.inr ⟨by rfl, rfl⟩) ?_ ?_
            rotate_left
            · simp only [Act.put, List.setIfInBounds_toArray, List.set_cons_zero, List.set_cons_succ, i64_w, i32_w]
              rfl
            refine pure_ (i := 23) (N := some 203) (v := undef) (a' := ?_) #[true, true, true, true, true, true, true, true, true, true, true, true, true, true, true, true, true, true, true, true, true, true, true, true, false, false, false, false, false, false, false, false, false, false, false, false, false, false, false, false, false, false, false] rfl rfl (any_of HT_.out (by kernel_rfl)) (fun _ _ _ h => h) (Or.inr ⟨by rfl, rfl⟩) ?_ ?_
            rotate_left
            · simp only [Act.put, List.setIfInBounds_toArray, List.set_cons_zero, List.set_cons_succ, i64_w, i32_w]
              rfl
            refine pure_ (i := 24) (N := some 204) (v := undef) (a' := ?_) #[true, true, true, true, true, true, true, true, true, true, true, true, true, true, true, true, true, true, true, true, true, true, true, true, true, false, false, false, false, false, false, false, false, false, false, false, false, false, false, false, false, false, false] rfl rfl (any_of HT_.out (by kernel_rfl)) (fun _ _ _ h => h) (Or.inr ⟨by rfl, rfl⟩) ?_ ?_
            rotate_left
            · simp only [Act.put, List.setIfInBounds_toArray, List.set_cons_zero, List.set_cons_succ, i64_w, i32_w]
              rfl
            refine pure_ (i := 25) (N := some 205) (v := ?_) (a' := ?_) #[true, true, true, true, true, true, true, true, true, true, true, true, true, true, true, true, true, true, true, true, true, true, true, true, true, true, false, false, false, false, false, false, false, false, false, false, false, false, false, false, false, false, false] rfl rfl (any_of HT_.out (by kernel_rfl)) (fun _ _ _ h => h) (Or.inl ⟨by rfl, ?_⟩) ?_ ?_
            rotate_left
            · intro w'
              go_simp
              with_reducible rfl
            rotate_left
            · simp only [Act.put, List.setIfInBounds_toArray, List.set_cons_zero, List.set_cons_succ, i64_w, i32_w]
              rfl
            refine pure_ (i := 26) (N := some 206) (v := ?_) (a' := ?_) #[true, true, true, true, true, true, true, true, true, true, true, true, true, true, true, true, true, true, true, true, true, true, true, true, true, true, true, false, false, false, false, false, false, false, false, false, false, false, false, false, false, false, false] rfl rfl (any_of HT_.out (by kernel_rfl)) (fun _ _ _ h => h) (Or.inl ⟨by rfl, ?_⟩) ?_ ?_
            rotate_left
            · intro w'
              go_simp
              with_reducible rfl
            rotate_left
            · simp only [Act.put, List.setIfInBounds_toArray, List.set_cons_zero, List.set_cons_succ, i64_w, i32_w]
              rfl
            refine pure_ (i := 27) (N := some 207) (v := ?_) (a' := ?_) #[true, true, true, true, true, true, true, true, true, true, true, true, true, true, true, true, true, true, true, true, true, true, true, true, true, true, true, true, false, false, false, false, false, false, false, false, false, false, false, false, false, false, false] rfl rfl (any_of HT_.out (by kernel_rfl)) (fun _ _ _ h => h) (Or.inl ⟨by rfl, ?_⟩) ?_ ?_
            rotate_left
            · intro w'
              go_simp
              with_reducible rfl
            rotate_left
            · simp only [Act.put, List.setIfInBounds_toArray, List.set_cons_zero, List.set_cons_succ, i64_w, i32_w]
              rfl
            refine pure_ (i := 28) (N := some 208) (v := ?_) (a' := ?_) #[true, true, true, true, true, true, true, true, true, true, true, true, true, true, true, true, true, true, true, true, true, true, true, true, true, true, true, true, true, false, false, false, false, false, false, false, false, false, false, false, false, false, false] rfl rfl (any_of HT_.out (by kernel_rfl)) (fun _ _ _ h => h) (Or.inl ⟨by rfl, ?_⟩) ?_ ?_
            rotate_left
            · intro w'
              go_simp
              with_reducible rfl
            rotate_left
            · simp only [Act.put, List.setIfInBounds_toArray, List.set_cons_zero, List.set_cons_succ, i64_w, i32_w]
              rfl
            refine pure_ (i := 30) (N := some 210) (v := ?_) (a' := ?_) #[true, true, true, true, true, true, true, true, true, true, true, true, true, true, true, true, true, true, true, true, true, true, true, true, true, true, true, true, true, false, true, false, false, false, false, false, false, false, false, false, false, false, false] rfl rfl (any_of HT_.out (by kernel_rfl)) (fun _ _ _ h => h) (Or.inl ⟨by rfl, ?_⟩) ?_ ?_
            rotate_left
            · intro w'
              go_simp
              with_reducible rfl
            rotate_left
            · simp only [Act.put, List.setIfInBounds_toArray, List.set_cons_zero, List.set_cons_succ, i64_w, i32_w]
              rfl
            refine pure_ (i := 32) (N := some 212) (v := ?_) (a' := ?_) #[true, true, true, true, true, true, true, true, true, true, true, true, true, true, true, true, true, true, true, true, true, true, true, true, true, true, true, true, true, false, true, false, true, false, false, false, false, false, false, false, false, false, false] rfl rfl (any_of HT_.out (by kernel_rfl)) (fun _ _ _ h => h) (Or.inl ⟨by rfl, ?_⟩) ?_ ?_
            rotate_left
            · intro w'
              go_simp
              with_reducible rfl
            rotate_left
            · simp only [Act.put, List.setIfInBounds_toArray, List.set_cons_zero, List.set_cons_succ, i64_w, i32_w]
              rfl
            refine pure_ (i := 33) (N := some 213) (v := ?_) (a' := ?_) #[true, true, true, true, true, true, true, true, true, true, true, true, true, true, true, true, true, true, true, true, true, true, true, true, true, true, true, true, true, false, true, false, true, true, false, false, false, false, false, false, false, false, false] rfl rfl (any_of HT_.out (by kernel_rfl)) (fun _ _ _ h => h) (Or.inl ⟨by rfl, ?_⟩) ?_ ?_
            rotate_left
            · intro w'
              go_simp
              with_reducible rfl
            rotate_left
            · simp only [Act.put, List.setIfInBounds_toArray, List.set_cons_zero, List.set_cons_succ, i64_w, i32_w]
              rfl
            refine pure_ (i := 34) (N := some 214) (v := ?_) (a' := ?_) #[true, true, true, true, true, true, true, true, true, true, true, true, true, true, true, true, true, true, true, true, true, true, true, true, true, true, true, true, true, false, true, false, true, true, true, false, false, false, false, false, false, false, false] rfl rfl (any_of HT_.out (by kernel_rfl)) (fun _ _ _ h => h) (Or.inl ⟨by rfl, ?_⟩) ?_ ?_
            rotate_left
            · intro w'
              go_simp
              with_reducible rfl
            rotate_left
            · simp only [Act.put, List.setIfInBounds_toArray, List.set_cons_zero, List.set_cons_succ, i64_w, i32_w]
              rfl
            refine pure_ (i := 35) (N := some 215) (v := ?_) (a' := ?_) #[true, true, true, true, true, true, true, true, true, true, true, true, true, true, true, true, true, true, true, true, true, true, true, true, true, true, true, true, true, false, true, false, true, true, true, true, false, false, false, false, false, false, false] rfl rfl (any_of HT_.out (by kernel_rfl)) (fun _ _ _ h => h) (Or.inl ⟨by rfl, ?_⟩) ?_ ?_
            rotate_left
            · intro w'
              go_simp
              with_reducible rfl
            rotate_left
            · simp only [Act.put, List.setIfInBounds_toArray, List.set_cons_zero, List.set_cons_succ, i64_w, i32_w]
              rfl
            refine take_ (i := 29) (N := some 209) (v := ?_) (a' := ?_) #[true, true, true, true, true, true, true, true, true, true, true, true, true, true, true, true, true, true, true, true, true, true, true, true, true, true, true, true, true, true, true, false, true, true, true, true, false, false, false, false, false, false, false] rfl rfl (take_ofW HT_.out HW_.out (by kernel_rfl)) (fun _ _ _ h => h) (Or.inl ⟨by rfl, ?_⟩) hHeld ?_ ?_
            rotate_left
            · rintro w' ⟨s0, s1⟩
              have b_ := (HN4.out w' s0).blks (wa4.heap.size, #[.int .i64 x4, .slice U4 X4.length q4], 28) (by simp)
              have n0_ : w'.cell? ⟨wa4.heap.size, 0, none⟩ = some (.int .i64 x4) := (blk_cell b_ 0).trans rfl
              have n1_ : w'.cell? ⟨wa4.heap.size, 1, none⟩ = some (.slice U4 X4.length q4) := (blk_cell b_ 1).trans rfl
              clear b_ s0 s1
              go_simp
              with_reducible rfl
            rotate_left
            · simp only [Act.put, List.setIfInBounds_toArray, List.set_cons_zero, List.set_cons_succ, i64_w, i32_w]
              rfl
            refine take_ (i := 36) (N := some 216) (v := ?_) (a' := ?_) #[true, true, true, true, true, true, true, true, true, true, true, true, true, true, true, true, true, true, true, true, true, true, true, true, true, true, true, true, true, true, true, false, true, true, true, true, true, false, false, false, false, false, false] rfl rfl (take_ofW HT_.out HW_.out (by kernel_rfl)) (fun _ _ _ h => h) (Or.inl ⟨by rfl, ?_⟩) hHeld ?_ ?_
            rotate_left
            · rintro w' ⟨s0, s1⟩
              obtain ⟨y1_, z1_⟩ := Kd.R_celln false s1 (L.length : Int) (by omega) (by omega)
              rw [hgr, show ((L.length : Int)).toNat = L.length from Int.toNat_natCast _] at y1_
              clear s0 s1 z1_
              go_simp
              with_reducible rfl
            rotate_left
            · simp only [Act.put, List.setIfInBounds_toArray, List.set_cons_zero, List.set_cons_succ, i64_w, i32_w]
              rfl
            refine one_ (i := 31) (N := some 211) #[true, true, true, true, true, true, true, true, true, true, true, true, true, true, true, true, true, true, true, true, true, true, true, true, true, true, true, true, true, true, true, true, true, true, true, true, true, false, false, false, false, false, false] rfl rfl (one_of HT_.out (by kernel_rfl)) (by decide) (fun K hK => ?_)
            refine goes_ Try.func43 (by kernel_rfl) rfl #[.agg #[.int .i64 x4, .slice U4 X4.length q4], .slice A7 L.length c7] (by rfl) rfl rfl (by simp only [List.map_toArray, List.map_cons, List.map_nil]; rfl) ?_
            with_reducible refine (caesuralaw19_goes.calls e4 x4 U4 q4 X4 A7 c7 L gv v20 ((HN4.out _ hHeld.1).C_nets (A := U4) (c := q4) (n := X4.length) (L := X4) (by simp)).2.2 ((HN4.out _ hHeld.1).C_nets (A := U4) (c := q4) (n := X4.length) (L := X4) (by simp)).2.1 (HW2.out _ hHeld.1).2.2.2 HL7.out HE4'.out).mono ?_
            rintro e v31 ⟨rfl, hb_⟩
            refine ⟨_, rfl, ?_⟩
            refine hK.out _ _ ⟨below_step hHeld.1 hb_, Kd.R_below hHeld.2 hb_⟩ (fun hHeld => ?_)
            clear hK K
            refine norm_ (a' := ?_) ?_ ?_
            rotate_left
            · show Act.put _ (some 211) _ = _
              simp only [Act.put, List.setIfInBounds_toArray, List.set_cons_zero, List.set_cons_succ, i64_w, i32_w]
              rfl
            refine pure_ (i := 37) (N := some 217) (v := ?_) (a' := ?_) #[true, true, true, true, true, true, true, true, true, true, true, true, true, true, true, true, true, true, true, true, true, true, true, true, true, true, true, true, true, true, true, true, true, true, true, true, true, true, false, false, false, false, false] rfl rfl (any_of HT_.out (by kernel_rfl)) (fun _ _ _ h => h) (Or.inl ⟨by rfl, ?_⟩) ?_ ?_
            rotate_left
            · intro w'
              go_simp
              with_reducible rfl
            rotate_left
            · simp only [Act.put, List.setIfInBounds_toArray, List.set_cons_zero, List.set_cons_succ, i64_w, i32_w]
              rfl
            refine pure_ (i := 38) (N := some 218) (v := ?_) (a' := ?_) #[true, true, true, true, true, true, true, true, true, true, true, true, true, true, true, true, true, true, true, true, true, true, true, true, true, true, true, true, true, true, true, true, true, true, true, true, true, true, true, false, false, false, false] rfl rfl (any_of HT_.out (by kernel_rfl)) (fun _ _ _ h => h) (Or.inl ⟨by rfl, ?_⟩) ?_ ?_
            rotate_left
            · intro w'
              go_simp
              with_reducible rfl
            rotate_left
            · simp only [Act.put, List.setIfInBounds_toArray, List.set_cons_zero, List.set_cons_succ, i64_w, i32_w]
              rfl
            refine pure_ (i := 39) (N := some 219) (v := ?_) (a' := ?_) #[true, true, true, true, true, true, true, true, true, true, true, true, true, true, true, true, true, true, true, true, true, true, true, true, true, true, true, true, true, true, true, true, true, true, true, true, true, true, true, true, false, false, false] rfl rfl (any_of HT_.out (by kernel_rfl)) (fun _ _ _ h => h) (Or.inl ⟨by rfl, ?_⟩) ?_ ?_
            rotate_left
            · intro w'
              go_simp
              with_reducible rfl
            rotate_left
            · simp only [Act.put, List.setIfInBounds_toArray, List.set_cons_zero, List.set_cons_succ, i64_w, i32_w]
              rfl
            refine one_ (i := 40) (N := some 220) #[true, true, true, true, true, true, true, true, true, true, true, true, true, true, true, true, true, true, true, true, true, true, true, true, true, true, true, true, true, true, true, true, true, true, true, true, true, true, true, true, true, false, false] rfl rfl (one_of HT_.out (by kernel_rfl)) (by decide) (fun K hK => ?_)
            refine goes_ Try.func25 (by kernel_rfl) rfl #[] (by rfl) rfl rfl (by simp only [List.map_toArray, List.map_cons, List.map_nil]) ?_
            with_reducible refine (caesuralaw19_wakes.calls kw true v31 HKW.out).mono ?_
            rintro e v40 ⟨rfl, hb_⟩
            refine ⟨_, rfl, ?_⟩
            refine hK.out _ _ ⟨below_step hHeld.1 hb_, Kd.R_below hHeld.2 hb_⟩ (fun hHeld => ?_)
            clear hK K
            refine norm_ (a' := ?_) ?_ ?_
            rotate_left
            · show Act.put _ (some 220) _ = _
              simp only [Act.put, List.setIfInBounds_toArray, List.set_cons_zero, List.set_cons_succ, i64_w, i32_w]
              rfl
            refine pure_ (i := 41) (N := some 221) (v := ?_) (a' := ?_) #[true, true, true, true, true, true, true, true, true, true, true, true, true, true, true, true, true, true, true, true, true, true, true, true, true, true, true, true, true, true, true, true, true, true, true, true, true, true, true, true, true, true, false] rfl rfl (any_of HT_.out (by kernel_rfl)) (fun _ _ _ h => h) (Or.inl ⟨by rfl, ?_⟩) ?_ ?_
            rotate_left
            · intro w'
              go_simp
              with_reducible rfl
            rotate_left
            · simp only [Act.put, List.setIfInBounds_toArray, List.set_cons_zero, List.set_cons_succ, i64_w, i32_w]
              rfl
            refine pure_ (i := 42) (N := some 6) (v := ?_) (a' := ?_) #[true, true, true, true, true, true, true, true, true, true, true, true, true, true, true, true, true, true, true, true, true, true, true, true, true, true, true, true, true, true, true, true, true, true, true, true, true, true, true, true, true, true, true] rfl rfl (any_of HT_.out (by kernel_rfl)) (fun _ _ _ h => h) (Or.inl ⟨by rfl, ?_⟩) ?_ ?_
            rotate_left
            · intro w'
              go_simp
              with_reducible rfl
            rotate_left
            · simp only [Act.put, List.setIfInBounds_toArray, List.set_cons_zero, List.set_cons_succ, i64_w, i32_w]
              rfl
            refine done_ (done_of HT_.out (by kernel_rfl)) ?_
            try go_wp2
            go_ret
            exact ⟨rfl, (HW2.out _ hHeld.1).1⟩
          | false =>
            rw [h1] at hma he1 he3
            rw [Bool.false_or] at he3
            have HMA := Aside0.mk hma
            have HE1 := Aside0.mk he1
            have HE3 := Aside0.mk he3
            clear hma he1 he3
            refine start_ (n := 43) (S := fun w' => Below wb4.heap.size wb4 w' ∧ Kd.R Kd.bool 4 w' wb4.heap.size (fun _ => True) (.slice (some ⟨g, 0, none⟩) (L.length + 1) cg) (G)) (ds := []) #[false, false, false, false, false, false, false, false, false, false, false, false, false, false, false, false, false, false, false, false, false, false, false, false, false, false, false, false, false, false, false, false, false, false, false, false, false, false, false, false, false, false, false] (by kernel_rfl) rfl rfl ⟨below_drew1 HB.out, Kd.R_drew HP.out⟩ (fun hHeld => ?_)
            refine with_tabW takes_law.tab25 takes_law.bits25 (fun HT_ HW_ => ?_)
            clear HP HB
            generalize wr.drew = wd at hHeld ⊢
            refine pure_ (i := 1) (N := some 181) (v := ?_) (a' := ?_) #[false, true, false, false, false, false, false, false, false, false, false, false, false, false, false, false, false, false, false, false, false, false, false, false, false, false, false, false, false, false, false, false, false, false, false, false, false, false, false, false, false, false, false] rfl rfl (any_of HT_.out (by kernel_rfl)) (fun _ _ _ h => h) (Or.inl ⟨by rfl, ?_⟩) ?_ ?_
            rotate_left
            · intro w'
              go_simp
              with_reducible rfl
            rotate_left
            · simp only [Act.put, List.setIfInBounds_toArray, List.set_cons_zero, List.set_cons_succ, i64_w, i32_w]
              rfl
            refine pure_ (i := 4) (N := some 184) (v := ?_) (a' := ?_) #[false, true, false, false, true, false, false, false, false, false, false, false, false, false, false, false, false, false, false, false, false, false, false, false, false, false, false, false, false, false, false, false, false, false, false, false, false, false, false, false, false, false, false] rfl rfl (any_of HT_.out (by kernel_rfl)) (fun _ _ _ h => h) (Or.inl ⟨by rfl, ?_⟩) ?_ ?_
            rotate_left
            · intro w'
              go_simp
              with_reducible rfl
            rotate_left
            · simp only [Act.put, List.setIfInBounds_toArray, List.set_cons_zero, List.set_cons_succ, i64_w, i32_w]
              rfl
            refine take_ (i := 0) (N := some 180) (v := ?_) (a' := ?_) #[true, true, false, false, true, false, false, false, false, false, false, false, false, false, false, false, false, false, false, false, false, false, false, false, false, false, false, false, false, false, false, false, false, false, false, false, false, false, false, false, false, false, false] rfl rfl (take_ofW HT_.out HW_.out (by kernel_rfl)) (fun _ _ _ h => h) (Or.inl ⟨by rfl, ?_⟩) hHeld ?_ ?_
            rotate_left
            · rintro w' ⟨s0, s1⟩
              have b_ := (HN4.out w' s0).blks (wa1.heap.size, #[.int .i64 x1, .slice U1 X1.length q1], 28) (by simp)
              have n0_ : w'.cell? ⟨wa1.heap.size, 0, none⟩ = some (.int .i64 x1) := (blk_cell b_ 0).trans rfl
              have n1_ : w'.cell? ⟨wa1.heap.size, 1, none⟩ = some (.slice U1 X1.length q1) := (blk_cell b_ 1).trans rfl
              clear b_ s0 s1
              go_simp
              with_reducible rfl
            rotate_left
            · simp only [Act.put, List.setIfInBounds_toArray, List.set_cons_zero, List.set_cons_succ, i64_w, i32_w]
              rfl
            refine take_ (i := 3) (N := some 183) (v := ?_) (a' := ?_) #[true, true, false, true, true, false, false, false, false, false, false, false, false, false, false, false, false, false, false, false, false, false, false, false, false, false, false, false, false, false, false, false, false, false, false, false, false, false, false, false, false, false, false] rfl rfl (take_ofW HT_.out HW_.out (by kernel_rfl)) (fun _ _ _ h => h) (Or.inl ⟨by rfl, ?_⟩) hHeld ?_ ?_
            rotate_left
            · rintro w' ⟨s0, s1⟩
              have c00_ : w'.cell? ⟨w.heap.size, 0, none⟩ = some (.int .i64 a0_0) := (blk_cell (HW2.out w' s0).2.1 0).trans rfl
              have c01_ : w'.cell? ⟨w.heap.size, 1, none⟩ = some (.slice A0_1 l0_1.length c0_1) := (blk_cell (HW2.out w' s0).2.1 1).trans rfl
              have c02_ : w'.cell? ⟨w.heap.size, 2, none⟩ = some (.slice A0_2 l0_2.length c0_2) := (blk_cell (HW2.out w' s0).2.1 2).trans rfl
              clear s0 s1
              go_simp
              with_reducible rfl
            rotate_left
            · simp only [Act.put, List.setIfInBounds_toArray, List.set_cons_zero, List.set_cons_succ, i64_w, i32_w]
              rfl
            refine one_ (i := 2) (N := some 182) #[true, true, true, true, true, false, false, false, false, false, false, false, false, false, false, false, false, false, false, false, false, false, false, false, false, false, false, false, false, false, false, false, false, false, false, false, false, false, false, false, false, false, false] rfl rfl (one_of HT_.out (by kernel_rfl)) (by decide) (fun K hK => ?_)
            refine goes_ Try.func43 (by kernel_rfl) rfl #[.agg #[.int .i64 x1, .slice U1 X1.length q1], .slice A7 L.length c7] (by rfl) rfl rfl (by simp only [List.map_toArray, List.map_cons, List.map_nil]; rfl) ?_
            with_reducible refine (caesuralaw19_goes.calls e1 x1 U1 q1 X1 A7 c7 L false wd ((HN4.out _ hHeld.1).C_nets (A := U1) (c := q1) (n := X1.length) (L := X1) (by simp)).2.2 ((HN4.out _ hHeld.1).C_nets (A := U1) (c := q1) (n := X1.length) (L := X1) (by simp)).2.1 (HW2.out _ hHeld.1).2.2.2 HL7.out HE1.out).mono ?_
            rintro e v2 ⟨rfl, hb_⟩
            refine ⟨_, rfl, ?_⟩
            refine hK.out _ _ ⟨below_step hHeld.1 hb_, Kd.R_below hHeld.2 hb_⟩ (fun hHeld => ?_)
            clear hK K
            refine norm_ (a' := ?_) ?_ ?_
            rotate_left
            · show Act.put _ (some 182) _ = _
              simp only [Act.put, List.setIfInBounds_toArray, List.set_cons_zero, List.set_cons_succ, i64_w, i32_w]
              rfl
            refine one_ (i := 5) (N := some 185) #[true, true, true, true, true, true, false, false, false, false, false, false, false, false, false, false, false, false, false, false, false, false, false, false, false, false, false, false, false, false, false, false, false, false, false, false, false, false, false, false, false, false, false] rfl rfl (one_of HT_.out (by kernel_rfl)) (by decide) (fun K hK => ?_)
            refine goes_ Try.func42 (by kernel_rfl) rfl #[.agg #[.int .i64 a0_0, .slice A0_1 l0_1.length c0_1, .slice A0_2 l0_2.length c0_2], .slice A7 L.length c7] (by rfl) rfl rfl (by simp only [List.map_toArray, List.map_cons, List.map_nil]; rfl) ?_
            with_reducible refine (caesuralaw19_takes.calls ma a0_0 A0_1 c0_1 l0_1 A0_2 c0_2 l0_2 A7 c7 L false v2 (Kd.C_below HR0_1.out (HW2.out _ hHeld.1).1) hc0_1 (Kd.C_below HR0_2.out (HW2.out _ hHeld.1).1) hc0_2 (HW2.out _ hHeld.1).2.2.2 HL7.out HMA.out).mono ?_
            rintro e v5 ⟨rfl, hb_⟩
            refine ⟨_, rfl, ?_⟩
            refine hK.out _ _ ⟨below_step hHeld.1 hb_, Kd.R_below hHeld.2 hb_⟩ (fun hHeld => ?_)
            clear hK K
            refine norm_ (a' := ?_) ?_ ?_
            rotate_left
            · show Act.put _ (some 185) _ = _
              simp only [Act.put, List.setIfInBounds_toArray, List.set_cons_zero, List.set_cons_succ, i64_w, i32_w]
              rfl
            refine pure_ (i := 6) (N := some 186) (v := ?_) (a' := ?_) #[true, true, true, true, true, true, true, false, false, false, false, false, false, false, false, false, false, false, false, false, false, false, false, false, false, false, false, false, false, false, false, false, false, false, false, false, false, false, false, false, false, false, false] rfl rfl (any_of HT_.out (by kernel_rfl)) (fun _ _ _ h => h) (Or.inl ⟨by rfl, ?_⟩) ?_ ?_
            rotate_left
            · intro w'
              go_simp
              with_reducible rfl
            rotate_left
            · simp only [Act.put, List.setIfInBounds_toArray, List.set_cons_zero, List.set_cons_succ, i64_w, i32_w]
              rfl
            refine pure_ (i := 7) (N := some 187) (v := ?_) (a' := ?_) #[true, true, true, true, true, true, true, true, false, false, false, false, false, false, false, false, false, false, false, false, false, false, false, false, false, false, false, false, false, false, false, false, false, false, false, false, false, false, false, false, false, false, false] rfl rfl (any_of HT_.out (by kernel_rfl)) (fun _ _ _ h => h) (Or.inl ⟨by rfl, ?_⟩) ?_ ?_
            rotate_left
            · intro w'
              go_simp
              with_reducible rfl
            rotate_left
            · simp only [Act.put, List.setIfInBounds_toArray, List.set_cons_zero, List.set_cons_succ, i64_w, i32_w]
              rfl
            refine pure_ (i := 9) (N := some 189) (v := ?_) (a' := ?_) #[true, true, true, true, true, true, true, true, false, true, false, false, false, false, false, false, false, false, false, false, false, false, false, false, false, false, false, false, false, false, false, false, false, false, false, false, false, false, false, false, false, false, false] rfl rfl (any_of HT_.out (by kernel_rfl)) (fun _ _ _ h => h) (Or.inl ⟨by rfl, ?_⟩) ?_ ?_
            rotate_left
            · intro w'
              go_simp
              with_reducible rfl
            rotate_left
            · simp only [Act.put, List.setIfInBounds_toArray, List.set_cons_zero, List.set_cons_succ, i64_w, i32_w]
              rfl
            refine pure_ (i := 11) (N := some 191) (v := ?_) (a' := ?_) #[true, true, true, true, true, true, true, true, false, true, false, true, false, false, false, false, false, false, false, false, false, false, false, false, false, false, false, false, false, false, false, false, false, false, false, false, false, false, false, false, false, false, false] rfl rfl (any_of HT_.out (by kernel_rfl)) (fun _ _ _ h => h) (Or.inl ⟨by rfl, ?_⟩) ?_ ?_
            rotate_left
            · intro w'
              go_simp
              with_reducible rfl
            rotate_left
            · simp only [Act.put, List.setIfInBounds_toArray, List.set_cons_zero, List.set_cons_succ, i64_w, i32_w]
              rfl
            refine take_ (i := 8) (N := some 188) (v := ?_) (a' := ?_) #[true, true, true, true, true, true, true, true, true, true, false, true, false, false, false, false, false, false, false, false, false, false, false, false, false, false, false, false, false, false, false, false, false, false, false, false, false, false, false, false, false, false, false] rfl rfl (take_ofW HT_.out HW_.out (by kernel_rfl)) (fun _ _ _ h => h) (Or.inl ⟨by rfl, ?_⟩) hHeld ?_ ?_
            rotate_left
            · rintro w' ⟨s0, s1⟩
              have b_ := (HN4.out w' s0).blks (wa2.heap.size, #[.int .i64 x2, .slice U2 X2.length q2], 28) (by simp)
              have n0_ : w'.cell? ⟨wa2.heap.size, 0, none⟩ = some (.int .i64 x2) := (blk_cell b_ 0).trans rfl
              have n1_ : w'.cell? ⟨wa2.heap.size, 1, none⟩ = some (.slice U2 X2.length q2) := (blk_cell b_ 1).trans rfl
              clear b_ s0 s1
              go_simp
              with_reducible rfl
            rotate_left
            · simp only [Act.put, List.setIfInBounds_toArray, List.set_cons_zero, List.set_cons_succ, i64_w, i32_w]
              rfl
            refine one_ (i := 10) (N := some 190) #[true, true, true, true, true, true, true, true, true, true, true, true, false, false, false, false, false, false, false, false, false, false, false, false, false, false, false, false, false, false, false, false, false, false, false, false, false, false, false, false, false, false, false] rfl rfl (one_of HT_.out (by kernel_rfl)) (by decide) (fun K hK => ?_)
            refine goes_ Try.func43 (by kernel_rfl) rfl #[.agg #[.int .i64 x2, .slice U2 X2.length q2], .slice A7 L.length c7] (by rfl) rfl rfl (by simp only [List.map_toArray, List.map_cons, List.map_nil]; rfl) ?_
            with_reducible refine (caesuralaw19_goes.calls e2 x2 U2 q2 X2 A7 c7 L cv v5 ((HN4.out _ hHeld.1).C_nets (A := U2) (c := q2) (n := X2.length) (L := X2) (by simp)).2.2 ((HN4.out _ hHeld.1).C_nets (A := U2) (c := q2) (n := X2.length) (L := X2) (by simp)).2.1 (HW2.out _ hHeld.1).2.2.2 HL7.out HE2'.out).mono ?_
            rintro e v10 ⟨rfl, hb_⟩
            refine ⟨_, rfl, ?_⟩
            refine hK.out _ _ ⟨below_step hHeld.1 hb_, Kd.R_below hHeld.2 hb_⟩ (fun hHeld => ?_)
            clear hK K
            refine norm_ (a' := ?_) ?_ ?_
            rotate_left
            · show Act.put _ (some 190) _ = _
              simp only [Act.put, List.setIfInBounds_toArray, List.set_cons_zero, List.set_cons_succ, i64_w, i32_w]
              rfl
            refine pure_ (i := 12) (N := some 192) (v := ?_) (a' := ?_) #[true, true, true, true, true, true, true, true, true, true, true, true, true, false, false, false, false, false, false, false, false, false, false, false, false, false, false, false, false, false, false, false, false, false, false, false, false, false, false, false, false, false, false] rfl rfl (any_of HT_.out (by kernel_rfl)) (fun _ _ _ h => h) (Or.inl ⟨by rfl, ?_⟩) ?_ ?_
            rotate_left
            · intro w'
              go_simp
              with_reducible rfl
            rotate_left
            · simp only [Act.put, List.setIfInBounds_toArray, List.set_cons_zero, List.set_cons_succ, i64_w, i32_w]
              rfl
            refine pure_ (i := 13) (N := some 193) (v := ?_) (a' := ?_) #[true, true, true, true, true, true, true, true, true, true, true, true, true, true, false, false, false, false, false, false, false, false, false, false, false, false, false, false, false, false, false, false, false, false, false, false, false, false, false, false, false, false, false] rfl rfl (any_of HT_.out (by kernel_rfl)) (fun _ _ _ h => h) (Or.inl ⟨by rfl, ?_⟩) ?_ ?_
            rotate_left
            · intro w'
              go_simp
              with_reducible rfl
            rotate_left
            · simp only [Act.put, List.setIfInBounds_toArray, List.set_cons_zero, List.set_cons_succ, i64_w, i32_w]
              rfl
            refine pure_ (i := 14) (N := some 194) (v := ?_) (a' := ?_) #[true, true, true, true, true, true, true, true, true, true, true, true, true, true, true, false, false, false, false, false, false, false, false, false, false, false, false, false, false, false, false, false, false, false, false, false, false, false, false, false, false, false, false] rfl rfl (any_of HT_.out (by kernel_rfl)) (fun _ _ _ h => h) (Or.inl ⟨by rfl, ?_⟩) ?_ ?_
            rotate_left
            · intro w'
              go_simp
              with_reducible rfl
            rotate_left
            · simp only [Act.put, List.setIfInBounds_toArray, List.set_cons_zero, List.set_cons_succ, i64_w, i32_w]
              rfl
            refine pure_ (i := 16) (N := some 196) (v := ?_) (a' := ?_) #[true, true, true, true, true, true, true, true, true, true, true, true, true, true, true, false, true, false, false, false, false, false, false, false, false, false, false, false, false, false, false, false, false, false, false, false, false, false, false, false, false, false, false] rfl rfl (any_of HT_.out (by kernel_rfl)) (fun _ _ _ h => h) (Or.inl ⟨by rfl, ?_⟩) ?_ ?_
            rotate_left
            · intro w'
              go_simp
              with_reducible rfl
            rotate_left
            · simp only [Act.put, List.setIfInBounds_toArray, List.set_cons_zero, List.set_cons_succ, i64_w, i32_w]
              rfl
            refine pure_ (i := 19) (N := some 199) (v := ?_) (a' := ?_) #[true, true, true, true, true, true, true, true, true, true, true, true, true, true, true, false, true, false, false, true, false, false, false, false, false, false, false, false, false, false, false, false, false, false, false, false, false, false, false, false, false, false, false] rfl rfl (any_of HT_.out (by kernel_rfl)) (fun _ _ _ h => h) (Or.inl ⟨by rfl, ?_⟩) ?_ ?_
            rotate_left
            · intro w'
              go_simp
              with_reducible rfl
            rotate_left
            · simp only [Act.put, List.setIfInBounds_toArray, List.set_cons_zero, List.set_cons_succ, i64_w, i32_w]
              rfl
            refine take_ (i := 15) (N := some 195) (v := ?_) (a' := ?_) #[true, true, true, true, true, true, true, true, true, true, true, true, true, true, true, true, true, false, false, true, false, false, false, false, false, false, false, false, false, false, false, false, false, false, false, false, false, false, false, false, false, false, false] rfl rfl (take_ofW HT_.out HW_.out (by kernel_rfl)) (fun _ _ _ h => h) (Or.inl ⟨by rfl, ?_⟩) hHeld ?_ ?_
            rotate_left
            · rintro w' ⟨s0, s1⟩
              have b_ := (HN4.out w' s0).blks (wa3.heap.size, #[.int .i64 x3, .slice U3 X3.length q3], 28) (by simp)
              have n0_ : w'.cell? ⟨wa3.heap.size, 0, none⟩ = some (.int .i64 x3) := (blk_cell b_ 0).trans rfl
              have n1_ : w'.cell? ⟨wa3.heap.size, 1, none⟩ = some (.slice U3 X3.length q3) := (blk_cell b_ 1).trans rfl
              clear b_ s0 s1
              go_simp
              with_reducible rfl
            rotate_left
            · simp only [Act.put, List.setIfInBounds_toArray, List.set_cons_zero, List.set_cons_succ, i64_w, i32_w]
              rfl
            refine take_ (i := 18) (N := some 198) (v := ?_) (a' := ?_) #[true, true, true, true, true, true, true, true, true, true, true, true, true, true, true, true, true, false, true, true, false, false, false, false, false, false, false, false, false, false, false, false, false, false, false, false, false, false, false, false, false, false, false] rfl rfl (take_ofW HT_.out HW_.out (by kernel_rfl)) (fun _ _ _ h => h) (Or.inl ⟨by rfl, ?_⟩) hHeld ?_ ?_
            rotate_left
            · rintro w' ⟨s0, s1⟩
              have c00_ : w'.cell? ⟨w.heap.size, 0, none⟩ = some (.int .i64 a0_0) := (blk_cell (HW2.out w' s0).2.1 0).trans rfl
              have c01_ : w'.cell? ⟨w.heap.size, 1, none⟩ = some (.slice A0_1 l0_1.length c0_1) := (blk_cell (HW2.out w' s0).2.1 1).trans rfl
              have c02_ : w'.cell? ⟨w.heap.size, 2, none⟩ = some (.slice A0_2 l0_2.length c0_2) := (blk_cell (HW2.out w' s0).2.1 2).trans rfl
              clear s0 s1
              go_simp
              with_reducible rfl
            rotate_left
            · simp only [Act.put, List.setIfInBounds_toArray, List.set_cons_zero, List.set_cons_succ, i64_w, i32_w]
              rfl
            refine one_ (i := 17) (N := some 197) #[true, true, true, true, true, true, true, true, true, true, true, true, true, true, true, true, true, true, true, true, false, false, false, false, false, false, false, false, false, false, false, false, false, false, false, false, false, false, false, false, false, false, false] rfl rfl (one_of HT_.out (by kernel_rfl)) (by decide) (fun K hK => ?_)
            refine goes_ Try.func43 (by kernel_rfl) rfl #[.agg #[.int .i64 x3, .slice U3 X3.length q3], .slice A7 L.length c7] (by rfl) rfl rfl (by simp only [List.map_toArray, List.map_cons, List.map_nil]; rfl) ?_
            with_reducible refine (caesuralaw19_goes.calls e3 x3 U3 q3 X3 A7 c7 L (tb 0 L.length) v10 ((HN4.out _ hHeld.1).C_nets (A := U3) (c := q3) (n := X3.length) (L := X3) (by simp)).2.2 ((HN4.out _ hHeld.1).C_nets (A := U3) (c := q3) (n := X3.length) (L := X3) (by simp)).2.1 (HW2.out _ hHeld.1).2.2.2 HL7.out HE3.out).mono ?_
            rintro e v17 ⟨rfl, hb_⟩
            refine ⟨_, rfl, ?_⟩
            refine hK.out _ _ ⟨below_step hHeld.1 hb_, Kd.R_below hHeld.2 hb_⟩ (fun hHeld => ?_)
            clear hK K
            refine norm_ (a' := ?_) ?_ ?_
            rotate_left
            · show Act.put _ (some 197) _ = _
              simp only [Act.put, List.setIfInBounds_toArray, List.set_cons_zero, List.set_cons_succ, i64_w, i32_w]
              rfl
            refine one_ (i := 20) (N := some 200) #[true, true, true, true, true, true, true, true, true, true, true, true, true, true, true, true, true, true, true, true, true, false, false, false, false, false, false, false, false, false, false, false, false, false, false, false, false, false, false, false, false, false, false] rfl rfl (one_of HT_.out (by kernel_rfl)) (by decide) (fun K hK => ?_)
            refine goes_ Try.func42 (by kernel_rfl) rfl #[.agg #[.int .i64 a0_0, .slice A0_1 l0_1.length c0_1, .slice A0_2 l0_2.length c0_2], .slice A7 L.length c7] (by rfl) rfl rfl (by simp only [List.map_toArray, List.map_cons, List.map_nil]; rfl) ?_
            with_reducible refine (caesuralaw19_takes.calls ma a0_0 A0_1 c0_1 l0_1 A0_2 c0_2 l0_2 A7 c7 L false v17 (Kd.C_below HR0_1.out (HW2.out _ hHeld.1).1) hc0_1 (Kd.C_below HR0_2.out (HW2.out _ hHeld.1).1) hc0_2 (HW2.out _ hHeld.1).2.2.2 HL7.out HMA.out).mono ?_
            rintro e v20 ⟨rfl, hb_⟩
            refine ⟨_, rfl, ?_⟩
            refine hK.out _ _ ⟨below_step hHeld.1 hb_, Kd.R_below hHeld.2 hb_⟩ (fun hHeld => ?_)
            clear hK K
            refine norm_ (a' := ?_) ?_ ?_
            rotate_left
            · show Act.put _ (some 200) _ = _
              simp only [Act.put, List.setIfInBounds_toArray, List.set_cons_zero, List.set_cons_succ, i64_w, i32_w]
              rfl
            refine pure_ (i := 21) (N := some 201) (v := ?_) (a' := ?_) #[true, true, true, true, true, true, true, true, true, true, true, true, true, true, true, true, true, true, true, true, true, true, false, false, false, false, false, false, false, false, false, false, false, false, false, false, false, false, false, false, false, false, false] rfl rfl (any_of HT_.out (by kernel_rfl)) (fun _ _ _ h => h) (Or.inl ⟨by rfl, ?_⟩) ?_ ?_
            rotate_left
            · intro w'
              go_simp
              with_reducible rfl
            rotate_left
            · simp only [Act.put, List.setIfInBounds_toArray, List.set_cons_zero, List.set_cons_succ, i64_w, i32_w]
              rfl
            refine pure_ (i := 23) (N := some 203) (v := ?_) (a' := ?_) #[true, true, true, true, true, true, true, true, true, true, true, true, true, true, true, true, true, true, true, true, true, true, false, true, false, false, false, false, false, false, false, false, false, false, false, false, false, false, false, false, false, false, false] rfl rfl (any_of HT_.out (by kernel_rfl)) (fun _ _ _ h => h) (Or.inl ⟨by rfl, ?_⟩) ?_ ?_
            rotate_left
            · intro w'
              go_simp
              with_reducible rfl
            rotate_left
            · simp only [Act.put, List.setIfInBounds_toArray, List.set_cons_zero, List.set_cons_succ, i64_w, i32_w]
              rfl
            refine take_ (i := 22) (N := some 202) (v := ?_) (a' := ?_) #[true, true, true, true, true, true, true, true, true, true, true, true, true, true, true, true, true, true, true, true, true, true, true, true, false, false, false, false, false, false, false, false, false, false, false, false, false, false, false, false, false, false, false] rfl rfl (take_ofW HT_.out HW_.out (by kernel_rfl)) (fun _ _ _ h => h) (Or.inl ⟨by rfl, ?_⟩) hHeld ?_ ?_
            rotate_left
            · rintro w' ⟨s0, s1⟩
              have c10_ : w'.cell? ⟨w.heap.size + 1, 0, none⟩ = some (.int .i64 a1_0) := (blk_cell (HW2.out w' s0).2.2.1 0).trans rfl
              have c11_ : w'.cell? ⟨w.heap.size + 1, 1, none⟩ = some (.slice A1_1 l1_1.length c1_1) := (blk_cell (HW2.out w' s0).2.2.1 1).trans rfl
              have c12_ : w'.cell? ⟨w.heap.size + 1, 2, none⟩ = some (.slice A1_2 l1_2.length c1_2) := (blk_cell (HW2.out w' s0).2.2.1 2).trans rfl
              clear s0 s1
              go_simp
              with_reducible rfl
            rotate_left
            · simp only [Act.put, List.setIfInBounds_toArray, List.set_cons_zero, List.set_cons_succ, i64_w, i32_w]
              rfl
            refine one_ (i := 24) (N := some 204) #[true, true, true, true, true, true, true, true, true, true, true, true, true, true, true, true, true, true, true, true, true, true, true, true, true, false, false, false, false, false, false, false, false, false, false, false, false, false, false, false, false, false, false] rfl rfl (one_of HT_.out (by kernel_rfl)) (by decide) (fun K hK => ?_)
            refine goes_ Try.func42 (by kernel_rfl) rfl #[.agg #[.int .i64 a1_0, .slice A1_1 l1_1.length c1_1, .slice A1_2 l1_2.length c1_2], .slice A7 L.length c7] (by rfl) rfl rfl (by simp only [List.map_toArray, List.map_cons, List.map_nil]; rfl) ?_
            with_reducible refine (caesuralaw19_takes.calls mb a1_0 A1_1 c1_1 l1_1 A1_2 c1_2 l1_2 A7 c7 L (tb 0 L.length) v20 (Kd.C_below HR1_1.out (HW2.out _ hHeld.1).1) hc1_1 (Kd.C_below HR1_2.out (HW2.out _ hHeld.1).1) hc1_2 (HW2.out _ hHeld.1).2.2.2 HL7.out HMB.out).mono ?_
            rintro e v24 ⟨rfl, hb_⟩
            refine ⟨_, rfl, ?_⟩
            refine hK.out _ _ ⟨below_step hHeld.1 hb_, Kd.R_below hHeld.2 hb_⟩ (fun hHeld => ?_)
            clear hK K
            refine norm_ (a' := ?_) ?_ ?_
            rotate_left
            · show Act.put _ (some 204) _ = _
              simp only [Act.put, List.setIfInBounds_toArray, List.set_cons_zero, List.set_cons_succ, i64_w, i32_w]
              rfl
            refine pure_ (i := 25) (N := some 205) (v := ?_) (a' := ?_) #[true, true, true, true, true, true, true, true, true, true, true, true, true, true, true, true, true, true, true, true, true, true, true, true, true, true, false, false, false, false, false, false, false, false, false, false, false, false, false, false, false, false, false] rfl rfl (any_of HT_.out (by kernel_rfl)) (fun _ _ _ h => h) (Or.inl ⟨by rfl, ?_⟩) ?_ ?_
            rotate_left
            · intro w'
              go_simp
              with_reducible rfl
            rotate_left
            · simp only [Act.put, List.setIfInBounds_toArray, List.set_cons_zero, List.set_cons_succ, i64_w, i32_w]
              rfl
            refine pure_ (i := 26) (N := some 206) (v := ?_) (a' := ?_) #[true, true, true, true, true, true, true, true, true, true, true, true, true, true, true, true, true, true, true, true, true, true, true, true, true, true, true, false, false, false, false, false, false, false, false, false, false, false, false, false, false, false, false] rfl rfl (any_of HT_.out (by kernel_rfl)) (fun _ _ _ h => h) (Or.inl ⟨by rfl, ?_⟩) ?_ ?_
            rotate_left
            · intro w'
              go_simp
              with_reducible rfl
            rotate_left
            · simp only [Act.put, List.setIfInBounds_toArray, List.set_cons_zero, List.set_cons_succ, i64_w, i32_w]
              rfl
            refine pure_ (i := 27) (N := some 207) (v := ?_) (a' := ?_) #[true, true, true, true, true, true, true, true, true, true, true, true, true, true, true, true, true, true, true, true, true, true, true, true, true, true, true, true, false, false, false, false, false, false, false, false, false, false, false, false, false, false, false] rfl rfl (any_of HT_.out (by kernel_rfl)) (fun _ _ _ h => h) (Or.inl ⟨by rfl, ?_⟩) ?_ ?_
            rotate_left
            · intro w'
              go_simp
              with_reducible rfl
            rotate_left
            · simp only [Act.put, List.setIfInBounds_toArray, List.set_cons_zero, List.set_cons_succ, i64_w, i32_w]
              rfl
            refine pure_ (i := 28) (N := some 208) (v := ?_) (a' := ?_) #[true, true, true, true, true, true, true, true, true, true, true, true, true, true, true, true, true, true, true, true, true, true, true, true, true, true, true, true, true, false, false, false, false, false, false, false, false, false, false, false, false, false, false] rfl rfl (any_of HT_.out (by kernel_rfl)) (fun _ _ _ h => h) (Or.inl ⟨by rfl, ?_⟩) ?_ ?_
            rotate_left
            · intro w'
              go_simp
              with_reducible rfl
            rotate_left
            · simp only [Act.put, List.setIfInBounds_toArray, List.set_cons_zero, List.set_cons_succ, i64_w, i32_w]
              rfl
            refine pure_ (i := 30) (N := some 210) (v := ?_) (a' := ?_) #[true, true, true, true, true, true, true, true, true, true, true, true, true, true, true, true, true, true, true, true, true, true, true, true, true, true, true, true, true, false, true, false, false, false, false, false, false, false, false, false, false, false, false] rfl rfl (any_of HT_.out (by kernel_rfl)) (fun _ _ _ h => h) (Or.inl ⟨by rfl, ?_⟩) ?_ ?_
            rotate_left
            · intro w'
              go_simp
              with_reducible rfl
            rotate_left
            · simp only [Act.put, List.setIfInBounds_toArray, List.set_cons_zero, List.set_cons_succ, i64_w, i32_w]
              rfl
            refine pure_ (i := 32) (N := some 212) (v := ?_) (a' := ?_) #[true, true, true, true, true, true, true, true, true, true, true, true, true, true, true, true, true, true, true, true, true, true, true, true, true, true, true, true, true, false, true, false, true, false, false, false, false, false, false, false, false, false, false] rfl rfl (any_of HT_.out (by kernel_rfl)) (fun _ _ _ h => h) (Or.inl ⟨by rfl, ?_⟩) ?_ ?_
            rotate_left
            · intro w'
              go_simp
              with_reducible rfl
            rotate_left
            · simp only [Act.put, List.setIfInBounds_toArray, List.set_cons_zero, List.set_cons_succ, i64_w, i32_w]
              rfl
            refine pure_ (i := 33) (N := some 213) (v := ?_) (a' := ?_) #[true, true, true, true, true, true, true, true, true, true, true, true, true, true, true, true, true, true, true, true, true, true, true, true, true, true, true, true, true, false, true, false, true, true, false, false, false, false, false, false, false, false, false] rfl rfl (any_of HT_.out (by kernel_rfl)) (fun _ _ _ h => h) (Or.inl ⟨by rfl, ?_⟩) ?_ ?_
            rotate_left
            · intro w'
              go_simp
              with_reducible rfl
            rotate_left
            · simp only [Act.put, List.setIfInBounds_toArray, List.set_cons_zero, List.set_cons_succ, i64_w, i32_w]
              rfl
            refine pure_ (i := 34) (N := some 214) (v := ?_) (a' := ?_) #[true, true, true, true, true, true, true, true, true, true, true, true, true, true, true, true, true, true, true, true, true, true, true, true, true, true, true, true, true, false, true, false, true, true, true, false, false, false, false, false, false, false, false] rfl rfl (any_of HT_.out (by kernel_rfl)) (fun _ _ _ h => h) (Or.inl ⟨by rfl, ?_⟩) ?_ ?_
            rotate_left
            · intro w'
              go_simp
              with_reducible rfl
            rotate_left
            · simp only [Act.put, List.setIfInBounds_toArray, List.set_cons_zero, List.set_cons_succ, i64_w, i32_w]
              rfl
            refine pure_ (i := 35) (N := some 215) (v := ?_) (a' := ?_) #[true, true, true, true, true, true, true, true, true, true, true, true, true, true, true, true, true, true, true, true, true, true, true, true, true, true, true, true, true, false, true, false, true, true, true, true, false, false, false, false, false, false, false] rfl rfl (any_of HT_.out (by kernel_rfl)) (fun _ _ _ h => h) (Or.inl ⟨by rfl, ?_⟩) ?_ ?_
            rotate_left
            · intro w'
              go_simp
              with_reducible rfl
            rotate_left
            · simp only [Act.put, List.setIfInBounds_toArray, List.set_cons_zero, List.set_cons_succ, i64_w, i32_w]
              rfl
            refine take_ (i := 29) (N := some 209) (v := ?_) (a' := ?_) #[true, true, true, true, true, true, true, true, true, true, true, true, true, true, true, true, true, true, true, true, true, true, true, true, true, true, true, true, true, true, true, false, true, true, true, true, false, false, false, false, false, false, false] rfl rfl (take_ofW HT_.out HW_.out (by kernel_rfl)) (fun _ _ _ h => h) (Or.inl ⟨by rfl, ?_⟩) hHeld ?_ ?_
            rotate_left
            · rintro w' ⟨s0, s1⟩
              have b_ := (HN4.out w' s0).blks (wa4.heap.size, #[.int .i64 x4, .slice U4 X4.length q4], 28) (by simp)
              have n0_ : w'.cell? ⟨wa4.heap.size, 0, none⟩ = some (.int .i64 x4) := (blk_cell b_ 0).trans rfl
              have n1_ : w'.cell? ⟨wa4.heap.size, 1, none⟩ = some (.slice U4 X4.length q4) := (blk_cell b_ 1).trans rfl
              clear b_ s0 s1
              go_simp
              with_reducible rfl
            rotate_left
            · simp only [Act.put, List.setIfInBounds_toArray, List.set_cons_zero, List.set_cons_succ, i64_w, i32_w]
              rfl
            refine take_ (i := 36) (N := some 216) (v := ?_) (a' := ?_) #[true, true, true, true, true, true, true, true, true, true, true, true, true, true, true, true, true, true, true, true, true, true, true, true, true, true, true, true, true, true, true, false, true, true, true, true, true, false, false, false, false, false, false] rfl rfl (take_ofW HT_.out HW_.out (by kernel_rfl)) (fun _ _ _ h => h) (Or.inl ⟨by rfl, ?_⟩) hHeld ?_ ?_
            rotate_left
            · rintro w' ⟨s0, s1⟩
              obtain ⟨y1_, z1_⟩ := Kd.R_celln false s1 (L.length : Int) (by omega) (by omega)
              rw [hgr, show ((L.length : Int)).toNat = L.length from Int.toNat_natCast _] at y1_
              clear s0 s1 z1_
              go_simp
              with_reducible rfl
            rotate_left
            · simp only [Act.put, List.setIfInBounds_toArray, List.set_cons_zero, List.set_cons_succ, i64_w, i32_w]
              rfl
            refine one_ (i := 31) (N := some 211) #[true, true, true, true, true, true, true, true, true, true, true, true, true, true, true, true, true, true, true, true, true, true, true, true, true, true, true, true, true, true, true, true, true, true, true, true, true, false, false, false, false, false, false] rfl rfl (one_of HT_.out (by kernel_rfl)) (by decide) (fun K hK => ?_)
            refine goes_ Try.func43 (by kernel_rfl) rfl #[.agg #[.int .i64 x4, .slice U4 X4.length q4], .slice A7 L.length c7] (by rfl) rfl rfl (by simp only [List.map_toArray, List.map_cons, List.map_nil]; rfl) ?_
            with_reducible refine (caesuralaw19_goes.calls e4 x4 U4 q4 X4 A7 c7 L gv v24 ((HN4.out _ hHeld.1).C_nets (A := U4) (c := q4) (n := X4.length) (L := X4) (by simp)).2.2 ((HN4.out _ hHeld.1).C_nets (A := U4) (c := q4) (n := X4.length) (L := X4) (by simp)).2.1 (HW2.out _ hHeld.1).2.2.2 HL7.out HE4'.out).mono ?_
            rintro e v31 ⟨rfl, hb_⟩
            refine ⟨_, rfl, ?_⟩
            refine hK.out _ _ ⟨below_step hHeld.1 hb_, Kd.R_below hHeld.2 hb_⟩ (fun hHeld => ?_)
            clear hK K
            refine norm_ (a' := ?_) ?_ ?_
            rotate_left
            · show Act.put _ (some 211) _ = _
              simp only [Act.put, List.setIfInBounds_toArray, List.set_cons_zero, List.set_cons_succ, i64_w, i32_w]
              rfl
            refine pure_ (i := 37) (N := some 217) (v := ?_) (a' := ?_) #[true, true, true, true, true, true, true, true, true, true, true, true, true, true, true, true, true, true, true, true, true, true, true, true, true, true, true, true, true, true, true, true, true, true, true, true, true, true, false, false, false, false, false] rfl rfl (any_of HT_.out (by kernel_rfl)) (fun _ _ _ h => h) (Or.inl ⟨by rfl, ?_⟩) ?_ ?_
            rotate_left
            · intro w'
              go_simp
              with_reducible rfl
            rotate_left
            · simp only [Act.put, List.setIfInBounds_toArray, List.set_cons_zero, List.set_cons_succ, i64_w, i32_w]
              rfl
            refine pure_ (i := 38) (N := some 218) (v := ?_) (a' := ?_) #[true, true, true, true, true, true, true, true, true, true, true, true, true, true, true, true, true, true, true, true, true, true, true, true, true, true, true, true, true, true, true, true, true, true, true, true, true, true, true, false, false, false, false] rfl rfl (any_of HT_.out (by kernel_rfl)) (fun _ _ _ h => h) (Or.inl ⟨by rfl, ?_⟩) ?_ ?_
            rotate_left
            · intro w'
              go_simp
              with_reducible rfl
            rotate_left
            · simp only [Act.put, List.setIfInBounds_toArray, List.set_cons_zero, List.set_cons_succ, i64_w, i32_w]
              rfl
            refine pure_ (i := 39) (N := some 219) (v := ?_) (a' := ?_) #[true, true, true, true, true, true, true, true, true, true, true, true, true, true, true, true, true, true, true, true, true, true, true, true, true, true, true, true, true, true, true, true, true, true, true, true, true, true, true, true, false, false, false] rfl rfl (any_of HT_.out (by kernel_rfl)) (fun _ _ _ h => h) (Or.inl ⟨by rfl, ?_⟩) ?_ ?_
            rotate_left
            · intro w'
              go_simp
              with_reducible rfl
            rotate_left
            · simp only [Act.put, List.setIfInBounds_toArray, List.set_cons_zero, List.set_cons_succ, i64_w, i32_w]
              rfl
            refine one_ (i := 40) (N := some 220) #[true, true, true, true, true, true, true, true, true, true, true, true, true, true, true, true, true, true, true, true, true, true, true, true, true, true, true, true, true, true, true, true, true, true, true, true, true, true, true, true, true, false, false] rfl rfl (one_of HT_.out (by kernel_rfl)) (by decide) (fun K hK => ?_)
            refine goes_ Try.func25 (by kernel_rfl) rfl #[] (by rfl) rfl rfl (by simp only [List.map_toArray, List.map_cons, List.map_nil]) ?_
            with_reducible refine (caesuralaw19_wakes.calls kw true v31 HKW.out).mono ?_
            rintro e v40 ⟨rfl, hb_⟩
            refine ⟨_, rfl, ?_⟩
            refine hK.out _ _ ⟨below_step hHeld.1 hb_, Kd.R_below hHeld.2 hb_⟩ (fun hHeld => ?_)
            clear hK K
            refine norm_ (a' := ?_) ?_ ?_
            rotate_left
            · show Act.put _ (some 220) _ = _
              simp only [Act.put, List.setIfInBounds_toArray, List.set_cons_zero, List.set_cons_succ, i64_w, i32_w]
              rfl
            refine pure_ (i := 41) (N := some 221) (v := ?_) (a' := ?_) #[true, true, true, true, true, true, true, true, true, true, true, true, true, true, true, true, true, true, true, true, true, true, true, true, true, true, true, true, true, true, true, true, true, true, true, true, true, true, true, true, true, true, false] rfl rfl (any_of HT_.out (by kernel_rfl)) (fun _ _ _ h => h) (Or.inl ⟨by rfl, ?_⟩) ?_ ?_
            rotate_left
            · intro w'
              go_simp
              with_reducible rfl
            rotate_left
            · simp only [Act.put, List.setIfInBounds_toArray, List.set_cons_zero, List.set_cons_succ, i64_w, i32_w]
              rfl
            refine pure_ (i := 42) (N := some 6) (v := ?_) (a' := ?_) #[true, true, true, true, true, true, true, true, true, true, true, true, true, true, true, true, true, true, true, true, true, true, true, true, true, true, true, true, true, true, true, true, true, true, true, true, true, true, true, true, true, true, true] rfl rfl (any_of HT_.out (by kernel_rfl)) (fun _ _ _ h => h) (Or.inl ⟨by rfl, ?_⟩) ?_ ?_
            rotate_left
            · intro w'
              go_simp
              with_reducible rfl
            rotate_left
            · simp only [Act.put, List.setIfInBounds_toArray, List.set_cons_zero, List.set_cons_succ, i64_w, i32_w]
              rfl
            refine done_ (done_of HT_.out (by kernel_rfl)) ?_
            try go_wp2
            go_ret
            exact ⟨rfl, (HW2.out _ hHeld.1).1⟩

end Go.Proofs.Ytelkjbacdpmnfaa.A
