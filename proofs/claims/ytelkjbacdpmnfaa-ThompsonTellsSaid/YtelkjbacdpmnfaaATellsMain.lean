/- By a program, out of the translation (wip/myprint.py). -/
import Derived.Test.YtelkjbacdpmnfaaA0
import Derived.Test.YtelkjbacdpmnfaaAAnyOrder
import Derived.Test.YtelkjbacdpmnfaaACaesurakeepAutomaton
import Derived.Test.YtelkjbacdpmnfaaACaesurakeepNet
import Derived.Test.YtelkjbacdpmnfaaACaesurakeepOwnAutomaton
import Derived.Test.YtelkjbacdpmnfaaACaesurakeepOwnNet
import Derived.Test.YtelkjbacdpmnfaaACaesuralaw19Large
import Derived.Test.YtelkjbacdpmnfaaACaesuralaw19LargeNet
import Derived.Test.YtelkjbacdpmnfaaACaesuralaw19Wakes
import Derived.Test.YtelkjbacdpmnfaaACaesuraref19Again
import Derived.Test.YtelkjbacdpmnfaaACaesuraref19Either
import Derived.Test.YtelkjbacdpmnfaaACaesuraref19Good
import Derived.Test.YtelkjbacdpmnfaaACaesuraref19GoodNet
import Derived.Test.YtelkjbacdpmnfaaACaesuraref19Join
import Derived.Test.YtelkjbacdpmnfaaACaesuraref19Of
import Derived.Test.YtelkjbacdpmnfaaAHoldMore
import Derived.Test.YtelkjbacdpmnfaaAHolds
import Derived.Test.YtelkjbacdpmnfaaAThompsonAgain
import Derived.Test.YtelkjbacdpmnfaaAThompsonEither
import Derived.Test.YtelkjbacdpmnfaaAThompsonGood
import Derived.Test.YtelkjbacdpmnfaaAThompsonGoodNet
import Derived.Test.YtelkjbacdpmnfaaAThompsonJoin
import Derived.Test.YtelkjbacdpmnfaaAThompsonNets
import Derived.Test.YtelkjbacdpmnfaaAThompsonOf
namespace Go.Proofs.Ytelkjbacdpmnfaa.A
open Go.RowKit Go.Proofs.YtelkjbacdpmnfaaW.PrintWords Go.Proofs.YtelkjbacdpmnfaaW.PrintLast Go.Proofs.YtelkjbacdpmnfaaW.PrintMore
attribute [local go_sem] max2_int min2_int max_two min_two max_three min_three max_four min_four   -- for this text's walks alone
set_option linter.unusedVariables false
set_option linter.unusedSimpArgs false

/-! the law ThompsonTells, where nothing is large (printed by gen_tells.py) -/
def tells.T9 : Bool × List (List Nat × List Nat) := (true, [([], []), ([0], [0]), ([], []), ([2, 1], [2]), ([1, 3], [1, 3]), ([4, 3], [4]), ([5], [5]), ([6, 5, 5], [5, 6]), ([5], [5]), ([8, 7, 5], [5, 8]), ([7, 9, 5], [5, 7, 9]), ([5, 10], [5, 10]), ([11, 9], [11]), ([12], [12]), ([12], [12]), ([14, 12], [12, 14]), ([13, 15, 12, 12], [12, 13, 15]), ([12, 16], [12, 16]), ([17, 16], [17]), ([18], [18]), ([18], [18]), ([20, 18], [18, 20]), ([19, 21, 18], [18, 19, 21]), ([18, 22], [18, 22]), ([23, 18], [23]), ([24], [24]), ([24], [24]), ([26, 24], [24, 26]), ([25, 27, 24, 24], [24, 25, 27]), ([24, 28], [24, 28]), ([29, 28], [29]), ([30], [30]), ([30], [30]), ([32, 30], [30, 32]), ([31, 33, 30], [30, 31, 33]), ([30, 34], [30, 34]), ([35, 30], [35]), ([36], [36]), ([36], [36]), ([38, 36], [36, 38]), ([37, 39, 36, 36], [36, 37, 39]), ([36, 40], [36, 40]), ([41, 40], [41]), ([42], [42]), ([42], [42]), ([44, 42], [42, 44]), ([43, 45, 42], [42, 43, 45]), ([42, 46], [42, 46]), ([47, 42], [47]), ([48], [48]), ([48], [48]), ([50, 48], [48, 50]), ([49, 51, 48, 48], [48, 49, 51]), ([48, 52], [48, 52]), ([53, 52], [53]), ([54], [54]), ([54], [54]), ([56, 54], [54, 56]), ([55, 57, 54], [54, 55, 57]), ([54, 58], [54, 58]), ([59, 54], [59]), ([60], [60]), ([60], [60]), ([61, 62, 60, 60], [60, 61, 62]), ([60, 63], [60, 63]), ([64, 63], [64]), ([65], [65]), ([65], [65]), ([66, 67, 65, 65], [65, 66, 67]), ([65, 68], [65, 68]), ([69, 68], [69]), ([70], [70]), ([70], [70]), ([71, 72, 70, 70], [70, 71, 72]), ([70, 73], [70, 73]), ([74, 73], [74]), ([75, 75], [75]), ([75, 76], [75, 76]), ([77, 76, 0, 1, 2, 3, 4, 5, 6, 7, 8, 9, 10, 11, 12, 13, 14, 15, 16, 17, 18, 19, 20, 21, 22, 23, 24, 25, 26, 27, 28, 29, 30, 31, 32, 33, 34, 35, 36, 37, 38, 39, 40, 41, 42, 43, 44, 45, 46, 47, 48, 49, 50, 51, 52, 53, 54, 55, 56, 57, 58, 59, 60, 61, 62, 63, 64, 65, 66, 67, 68, 69, 70, 71, 72, 73, 74, 75, 76, 77], [77])])
def tells.B9 : List Nat := [0, 1, 0, 7, 15, 31, 63, 127, 63, 511, 1023, 2047, 4095, 8191, 8191, 24575, 65535, 131071, 262143, 524287, 524287, 1572863, 4194303, 8388607, 16777215, 33554431, 33554431, 100663295, 268435455, 536870911, 1073741823, 2147483647, 2147483647, 6442450943, 17179869183, 34359738367, 68719476735, 137438953471, 137438953471, 412316860415, 1099511627775, 2199023255551, 4398046511103, 8796093022207, 8796093022207, 26388279066623, 70368744177663, 140737488355327, 281474976710655, 562949953421311, 562949953421311, 1688849860263935, 4503599627370495, 9007199254740991, 18014398509481983, 36028797018963967, 36028797018963967, 108086391056891903, 288230376151711743, 576460752303423487, 1152921504606846975, 2305843009213693951, 2305843009213693951, 9223372036854775807, 18446744073709551615, 36893488147419103231, 73786976294838206463, 73786976294838206463, 295147905179352825855, 590295810358705651711, 1180591620717411303423, 2361183241434822606847, 2361183241434822606847, 9444732965739290427391, 18889465931478580854783, 37778931862957161709567, 75557863725914323419135, 151115727451828646838271, 302231454903657293676543]
theorem tells.tab9 : rtab .any (opsOf Try.f3 9) = tells.T9 := by kernel_rfl
theorem tells.bits9 : waitsOk tells.T9.2 tells.B9 = true := by kernel_rfl
set_option maxHeartbeats 8000000 in
set_option maxRecDepth 100000 in
theorem tells_main (a0_0 : Int) (A0_1 : Option Addr) (c0_1 : Nat) (l0_1 : List (List Int)) (A0_2 : Option Addr) (c0_2 : Nat) (l0_2 : List Bool) (a1_0 : Int) (A1_1 : Option Addr) (c1_1 : Nat) (l1_1 : List (List Int)) (A1_2 : Option Addr) (c1_2 : Nat) (l1_2 : List Bool) (a2_0 : Int) (A2_1 : Option Addr) (c2_1 : Nat) (l2_1 : List (List (S82))) (w : World) (hr0_1 : Kd.C (Kd.slice 3 (Kd.int .i64)) w A0_1 l0_1.length l0_1) (hc0_1 : l0_1.length ≤ c0_1) (hr0_2 : Kd.C Kd.bool w A0_2 l0_2.length l0_2) (hc0_2 : l0_2.length ≤ c0_2) (hr1_1 : Kd.C (Kd.slice 3 (Kd.int .i64)) w A1_1 l1_1.length l1_1) (hc1_1 : l1_1.length ≤ c1_1) (hr1_2 : Kd.C Kd.bool w A1_2 l1_2.length l1_2) (hc1_2 : l1_2.length ≤ c1_2) (hr2_1 : Kd.C (Kd.slice 82 k82) w A2_1 l2_1.length l2_1) (hc2_1 : l2_1.length ≤ c2_1) (kw k0 k1 k2 o0 o1 o2 : Nat) (x1 : Int) (X1 : List (List (S82))) (y1 : Bool) (x2 : Int) (X2 : List (List (S82))) (y2 : Bool) (x3 : Int) (X3 : List (List (S82))) (y3 : Bool) (x4 : Int) (X4 : List (List (S82))) (y4 : Bool) (t1 t2 t3 t4 : Nat) (ht1 : thompson_Of.f t1 a0_0 l0_1 l0_2 = some (x1, X1, y1)) (ht2 : thompson_Join.f t2 a0_0 l0_1 l0_2 a1_0 l1_1 l1_2 = some (x2, X2, y2)) (ht3 : thompson_Either.f t3 a0_0 l0_1 l0_2 a1_0 l1_1 l1_2 = some (x3, X3, y3)) (ht4 : thompson_Again.f t4 a0_0 l0_1 l0_2 = some (x4, X4, y4)) (hs1 : caesuraref19_Of.f a0_0 l0_1 l0_2 = some (x1, X1, y1)) (hs2 : caesuraref19_Join.f a0_0 l0_1 l0_2 a1_0 l1_1 l1_2 = some (x2, X2, y2)) (hs3 : caesuraref19_Either.f a0_0 l0_1 l0_2 a1_0 l1_1 l1_2 = some (x3, X3, y3)) (hs4 : caesuraref19_Again.f a0_0 l0_1 l0_2 = some (x4, X4, y4)) (hkw : caesuralaw19_wakes.f kw = some true) (hl0 : caesuralaw19_Large.f k0 a0_0 l0_1 l0_2 = some false) (hl1 : caesuralaw19_Large.f k1 a1_0 l1_1 l1_2 = some false) (hl2 : caesuralaw19_LargeNet.f k2 a2_0 l2_1 = some false)
    (ho0 : caesurakeep_OwnAutomaton.f o0 a0_0 l0_1 l0_2 = some (a0_0, l0_1, l0_2)) (ho1 : caesurakeep_OwnAutomaton.f o1 a1_0 l1_1 l1_2 = some (a1_0, l1_1, l1_2)) (ho2 : caesurakeep_OwnNet.f o2 a2_0 l2_1 = some (a2_0, l2_1)) (G0 G2 : Bool) (kg kn m1 m2 m3 m4 m5 m6 m7 : Nat) (hg0 : Aside0 (thompson_Good.f a0_0 l0_1 l0_2 = some G0)) (hg1 : Aside0 (caesuraref19_Good.f kg a0_0 l0_1 l0_2 = some G0)) (hg2 : Aside0 (thompson_GoodNet.f a2_0 l2_1 = some G2)) (hg3 : Aside0 (caesuraref19_GoodNet.f kn a2_0 l2_1 = some G2)) (hn1 : Aside0 (caesurakeep_Net.f m1 x1 X1 x1 X1 = some true)) (hn2 : Aside0 (caesurakeep_Net.f m2 x2 X2 x2 X2 = some true)) (hn3 : Aside0 (caesurakeep_Net.f m3 x3 X3 x3 X3 = some true)) (hn4 : Aside0 (caesurakeep_Net.f m4 x4 X4 x4 X4 = some true)) (hn5 : Aside0 (caesurakeep_Net.f m5 a2_0 l2_1 a2_0 l2_1 = some true)) (ha0 : Aside0 (caesurakeep_Automaton.f m6 a0_0 l0_1 l0_2 a0_0 l0_1 l0_2 = some true)) (ha1 : Aside0 (caesurakeep_Automaton.f m7 a1_0 l1_1 l1_2 a1_0 l1_1 l1_2 = some true)) :
    Calls Try.prog 3 #[.agg #[.int .i64 a0_0, .slice A0_1 l0_1.length c0_1, .slice A0_2 l0_2.length c0_2], .agg #[.int .i64 a1_0, .slice A1_1 l1_1.length c1_1, .slice A1_2 l1_2.length c1_2], .agg #[.int .i64 a2_0, .slice A2_1 l2_1.length c2_1]] w fun e w' => e = .returned (.bool true) ∧ Below w.heap.size w w' := by
  have hu25 := Try.underlying25
  have hu28 := Try.underlying28
  have hu38 := Try.underlying38
  have HR0_1 := Aside0.mk hr0_1
  have HR0_2 := Aside0.mk hr0_2
  clear hr0_1 hr0_2
  have HR1_1 := Aside0.mk hr1_1
  have HR1_2 := Aside0.mk hr1_2
  clear hr1_1 hr1_2
  have HR2_1 := Aside0.mk hr2_1
  clear hr2_1
  have HH := Aside0.mk (Hold.alloc (b1 := []) (Hold.alloc (b1 := []) (Hold.alloc (b1 := []) (b2 := []) (Hold.refl w) #[.int .i64 a0_0, .slice A0_1 l0_1.length c0_1, .slice A0_2 l0_2.length c0_2] 25) #[.int .i64 a1_0, .slice A1_1 l1_1.length c1_1, .slice A1_2 l1_2.length c1_2] 25) #[.int .i64 a2_0, .slice A2_1 l2_1.length c2_1] 28)
  simp only [List.nil_append, heap_size_alloc'] at HH
  have HBX : Aside0 (Boxes3 w.heap.size (#[.int .i64 a0_0, .slice A0_1 l0_1.length c0_1, .slice A0_2 l0_2.length c0_2]) (#[.int .i64 a1_0, .slice A1_1 l1_1.length c1_1, .slice A1_2 l1_2.length c1_2]) (#[.int .i64 a2_0, .slice A2_1 l2_1.length c2_1]) (((w.alloc (.cells #[.int .i64 a0_0, .slice A0_1 l0_1.length c0_1, .slice A0_2 l0_2.length c0_2] 25)).alloc (.cells #[.int .i64 a1_0, .slice A1_1 l1_1.length c1_1, .slice A1_2 l1_2.length c1_2] 25)).alloc (.cells #[.int .i64 a2_0, .slice A2_1 l2_1.length c2_1] 28))) := ⟨HH.out.blks (w.heap.size, _, _) (by simp), HH.out.blks (w.heap.size + 1, _, _) (by simp), HH.out.blks (w.heap.size + 1 + 1, _, _) (by simp)⟩
  have HB1 := Aside0.mk HH.out.low
  have HL0 := Aside0.mk (fun (W : World) (hb : Below w.heap.size w W) => caesuralaw19_Large.calls k0 a0_0 A0_1 c0_1 l0_1 A0_2 c0_2 l0_2 false W (Kd.C_below HR0_1.out hb) hc0_1 (Kd.C_below HR0_2.out hb) hc0_2 hl0)
  have HO0 := Aside0.mk ho0
  clear hl0 ho0
  have HL1 := Aside0.mk (fun (W : World) (hb : Below w.heap.size w W) => caesuralaw19_Large.calls k1 a1_0 A1_1 c1_1 l1_1 A1_2 c1_2 l1_2 false W (Kd.C_below HR1_1.out hb) hc1_1 (Kd.C_below HR1_2.out hb) hc1_2 hl1)
  have HO1 := Aside0.mk ho1
  clear hl1 ho1
  have HL2 := Aside0.mk (fun (W : World) (hb : Below w.heap.size w W) => caesuralaw19_LargeNet.calls k2 a2_0 A2_1 c2_1 l2_1 false W (Kd.C_below HR2_1.out hb) hc2_1 hl2)
  have HO2 := Aside0.mk ho2
  clear hl2 ho2
  have HKW := Aside0.mk hkw
  clear hkw
  have HS1 := Aside0.mk hs1
  clear hs1
  have HS2 := Aside0.mk hs2
  clear hs2
  have HS3 := Aside0.mk hs3
  clear hs3
  have HS4 := Aside0.mk hs4
  clear hs4
  have HT1 := Aside0.mk ht1
  clear ht1
  have HT2 := Aside0.mk ht2
  clear ht2
  have HT3 := Aside0.mk ht3
  clear ht3
  have HT4 := Aside0.mk ht4
  clear ht4
  go_enter Try.func3, Try.ntmps3
  go_wp2_with (first | (go_at_call 24; refine (HL2.out _ HH.out.low).mono ?_; rintro e wl ⟨rfl, hb⟩; clear HL2; have m0_ := Aside0.mk (HH.out.step hb); have m1_ := Aside0.mk (HBX.out.step hb); (try clear c00_ c01_ c02_ c10_ c11_ c12_ c20_ c21_); clear HH HBX hb; have HH := m0_; have HBX := m1_; clear m0_ m1_; have c00_ : wl.cell? ⟨w.heap.size, 0, none⟩ = some (.int .i64 a0_0) := (blk_cell HBX.out.1 0).trans rfl; have c01_ : wl.cell? ⟨w.heap.size, 1, none⟩ = some (.slice A0_1 l0_1.length c0_1) := (blk_cell HBX.out.1 1).trans rfl; have c02_ : wl.cell? ⟨w.heap.size, 2, none⟩ = some (.slice A0_2 l0_2.length c0_2) := (blk_cell HBX.out.1 2).trans rfl; have c10_ : wl.cell? ⟨w.heap.size + 1, 0, none⟩ = some (.int .i64 a1_0) := (blk_cell HBX.out.2.1 0).trans rfl; have c11_ : wl.cell? ⟨w.heap.size + 1, 1, none⟩ = some (.slice A1_1 l1_1.length c1_1) := (blk_cell HBX.out.2.1 1).trans rfl; have c12_ : wl.cell? ⟨w.heap.size + 1, 2, none⟩ = some (.slice A1_2 l1_2.length c1_2) := (blk_cell HBX.out.2.1 2).trans rfl; have c20_ : wl.cell? ⟨w.heap.size + 1 + 1, 0, none⟩ = some (.int .i64 a2_0) := (blk_cell HBX.out.2.2 0).trans rfl; have c21_ : wl.cell? ⟨w.heap.size + 1 + 1, 1, none⟩ = some (.slice A2_1 l2_1.length c2_1) := (blk_cell HBX.out.2.2 1).trans rfl) | (go_at_call 23; refine (HL0.out _ HH.out.low).mono ?_; rintro e wl ⟨rfl, hb⟩; clear HL0; have m0_ := Aside0.mk (HH.out.step hb); have m1_ := Aside0.mk (HBX.out.step hb); (try clear c00_ c01_ c02_ c10_ c11_ c12_ c20_ c21_); clear HH HBX hb; have HH := m0_; have HBX := m1_; clear m0_ m1_; have c00_ : wl.cell? ⟨w.heap.size, 0, none⟩ = some (.int .i64 a0_0) := (blk_cell HBX.out.1 0).trans rfl; have c01_ : wl.cell? ⟨w.heap.size, 1, none⟩ = some (.slice A0_1 l0_1.length c0_1) := (blk_cell HBX.out.1 1).trans rfl; have c02_ : wl.cell? ⟨w.heap.size, 2, none⟩ = some (.slice A0_2 l0_2.length c0_2) := (blk_cell HBX.out.1 2).trans rfl; have c10_ : wl.cell? ⟨w.heap.size + 1, 0, none⟩ = some (.int .i64 a1_0) := (blk_cell HBX.out.2.1 0).trans rfl; have c11_ : wl.cell? ⟨w.heap.size + 1, 1, none⟩ = some (.slice A1_1 l1_1.length c1_1) := (blk_cell HBX.out.2.1 1).trans rfl; have c12_ : wl.cell? ⟨w.heap.size + 1, 2, none⟩ = some (.slice A1_2 l1_2.length c1_2) := (blk_cell HBX.out.2.1 2).trans rfl; have c20_ : wl.cell? ⟨w.heap.size + 1 + 1, 0, none⟩ = some (.int .i64 a2_0) := (blk_cell HBX.out.2.2 0).trans rfl; have c21_ : wl.cell? ⟨w.heap.size + 1 + 1, 1, none⟩ = some (.slice A2_1 l2_1.length c2_1) := (blk_cell HBX.out.2.2 1).trans rfl) | (go_at_call 23; refine (HL1.out _ HH.out.low).mono ?_; rintro e wl ⟨rfl, hb⟩; clear HL1; have m0_ := Aside0.mk (HH.out.step hb); have m1_ := Aside0.mk (HBX.out.step hb); (try clear c00_ c01_ c02_ c10_ c11_ c12_ c20_ c21_); clear HH HBX hb; have HH := m0_; have HBX := m1_; clear m0_ m1_; have c00_ : wl.cell? ⟨w.heap.size, 0, none⟩ = some (.int .i64 a0_0) := (blk_cell HBX.out.1 0).trans rfl; have c01_ : wl.cell? ⟨w.heap.size, 1, none⟩ = some (.slice A0_1 l0_1.length c0_1) := (blk_cell HBX.out.1 1).trans rfl; have c02_ : wl.cell? ⟨w.heap.size, 2, none⟩ = some (.slice A0_2 l0_2.length c0_2) := (blk_cell HBX.out.1 2).trans rfl; have c10_ : wl.cell? ⟨w.heap.size + 1, 0, none⟩ = some (.int .i64 a1_0) := (blk_cell HBX.out.2.1 0).trans rfl; have c11_ : wl.cell? ⟨w.heap.size + 1, 1, none⟩ = some (.slice A1_1 l1_1.length c1_1) := (blk_cell HBX.out.2.1 1).trans rfl; have c12_ : wl.cell? ⟨w.heap.size + 1, 2, none⟩ = some (.slice A1_2 l1_2.length c1_2) := (blk_cell HBX.out.2.1 2).trans rfl; have c20_ : wl.cell? ⟨w.heap.size + 1 + 1, 0, none⟩ = some (.int .i64 a2_0) := (blk_cell HBX.out.2.2 0).trans rfl; have c21_ : wl.cell? ⟨w.heap.size + 1 + 1, 1, none⟩ = some (.slice A2_1 l2_1.length c2_1) := (blk_cell HBX.out.2.2 1).trans rfl))
  try clear c00_ c01_ c02_ c10_ c11_ c12_ c20_ c21_
  obtain ⟨B0, h_, hM0_, hM1_, hM2_⟩ : ∃ B0 : List (Nat × Array Value × TypeId), Hold w wl B0 [] [] [] ∧ (w.heap.size, #[.int .i64 a0_0, .slice A0_1 l0_1.length c0_1, .slice A0_2 l0_2.length c0_2], 25) ∈ B0 ∧ (w.heap.size + 1, #[.int .i64 a1_0, .slice A1_1 l1_1.length c1_1, .slice A1_2 l1_2.length c1_2], 25) ∈ B0 ∧ (w.heap.size + 1 + 1, #[.int .i64 a2_0, .slice A2_1 l2_1.length c2_1], 28) ∈ B0 := ⟨_, HH.out, by simp, by simp, by simp⟩
  clear HH
  have HH := Aside0.mk h_.drew
  clear h_
  have HM0 := Aside0.mk hM0_
  clear hM0_
  have HM1 := Aside0.mk hM1_
  clear hM1_
  have HM2 := Aside0.mk hM2_
  clear hM2_
  clear HBX
  rename_i hKK_
  refine any_order 12 (fun A0 d a' w' => ∃ (t33 t34 t35 t36 t37 t38 t7 t8 t9 : Value) (P11 : Option Addr) (p11 : Nat) (P12 : Option Addr) (p12 : Nat) (P31 : Option Addr) (p31 : Nat) (P32 : Option Addr) (p32 : Nat) (P50 : Option Addr) (p50 : Nat) (g1 : Nat) (g2 : Nat) (g3 : Nat), a' = putAll A0 [(33, t33), (34, t34), (35, t35), (36, t36), (37, t37), (38, t38), (7, t7), (8, t8), (9, t9)] ∧ Aside0 ((d 0 = true → t33 = .agg #[.int .i64 a0_0, .slice A0_1 l0_1.length c0_1, .slice A0_2 l0_2.length c0_2]) ∧ (d 1 = true → t34 = .agg #[.int .i64 a0_0, .slice P11 l0_1.length p11, .slice P12 l0_2.length p12]) ∧ (d 2 = true → t35 = .agg #[.int .i64 a1_0, .slice A1_1 l1_1.length c1_1, .slice A1_2 l1_2.length c1_2]) ∧ (d 3 = true → t36 = .agg #[.int .i64 a1_0, .slice P31 l1_1.length p31, .slice P32 l1_2.length p32]) ∧ (d 4 = true → t37 = .agg #[.int .i64 a2_0, .slice A2_1 l2_1.length c2_1]) ∧ (d 5 = true → t38 = .agg #[.int .i64 a2_0, .slice P50 l2_1.length p50]) ∧ (d 6 = true → t7 = .pointer (some ⟨g1, 0, none⟩)) ∧ (d 7 = true → t8 = .pointer (some ⟨g2, 0, none⟩)) ∧ (d 8 = true → t9 = .pointer (some ⟨g3, 0, none⟩))) ∧ Aside0 (Hold w w' (optl (d 6) (g1, sel (d 9) (#[.int .i64 0, .slice none 0 0, .slice none 0 0]) (#[.int .i64 a0_0, .slice P11 l0_1.length p11, .slice P12 l0_2.length p12]), 25) ++ (optl (d 7) (g2, sel (d 10) (#[.int .i64 0, .slice none 0 0, .slice none 0 0]) (#[.int .i64 a1_0, .slice P31 l1_1.length p31, .slice P32 l1_2.length p32]), 25) ++ (optl (d 8) (g3, sel (d 11) (#[.int .i64 0, .slice none 0 0]) (#[.int .i64 a2_0, .slice P50 l2_1.length p50]), 28) ++ B0))) (optl (d 5) (.slice P50 l2_1.length p50, l2_1) ++ []) (optl (d 3) (.slice P31 l1_1.length p31, l1_1) ++ (optl (d 1) (.slice P11 l0_1.length p11, l0_1) ++ [])) (optl (d 3) (.slice P32 l1_2.length p32, l1_2) ++ (optl (d 1) (.slice P12 l0_2.length p12, l0_2) ++ [])))) rfl rfl (by kernel_rfl) ?_ ?_ ?_
  · exact ⟨_, _, _, _, _, _, _, _, _, none, 0, none, 0, none, 0, none, 0, none, 0, 0, 0, 0, by first | (simp only [putAll, Act.put, List.setIfInBounds_toArray, List.set_cons_zero, List.set_cons_succ]; done) | (simp only [putAll, Act.put, List.setIfInBounds_toArray, List.set_cons_zero, List.set_cons_succ]; rfl), ⟨none0 (i := 0), none0 (i := 1), none0 (i := 2), none0 (i := 3), none0 (i := 4), none0 (i := 5), none0 (i := 6), none0 (i := 7), none0 (i := 8)⟩, ⟨HH.out⟩⟩
  · intro Q'
    clear hKK_
    refine ⟨?_, ?_, ?_, ?_, ?_, ?_, ?_, ?_, ?_, ?_, ?_, ?_, trivial⟩
    · intro d a' w'
      refine ex_imp fun t33 => ex_imp fun t34 => ex_imp fun t35 => ex_imp fun t36 => ex_imp fun t37 => ex_imp fun t38 => ex_imp fun t7 => ex_imp fun t8 => ex_imp fun t9 => ex_imp fun P11 => ex_imp fun p11 => ex_imp fun P12 => ex_imp fun p12 => ex_imp fun P31 => ex_imp fun p31 => ex_imp fun P32 => ex_imp fun p32 => ex_imp fun P50 => ex_imp fun p50 => ex_imp fun g1 => ex_imp fun g2 => ex_imp fun g3 => fun hI hd hcl hdep K hK => ?_
      have ha := hI.1
      have hF := hI.2.1
      have hH := hI.2.2
      clear hI
      have h_ := hH.out
      refine norm_if (a' := ?_) (ha.trans ?_) ?_
      rotate_left
      · simp only [putAll, Act.put, List.setIfInBounds_toArray, List.set_cons_zero, List.set_cons_succ]
        rfl
      have hb_ := h_.blks (w.heap.size, #[.int .i64 a0_0, .slice A0_1 l0_1.length c0_1, .slice A0_2 l0_2.length c0_2], 25) (List.mem_append_right _ (List.mem_append_right _ (List.mem_append_right _ HM0.out)))
      have c00_ : w'.cell? ⟨w.heap.size, 0, none⟩ = some (.int .i64 a0_0) := (blk_cell hb_ 0).trans rfl
      have c01_ : w'.cell? ⟨w.heap.size, 1, none⟩ = some (.slice A0_1 l0_1.length c0_1) := (blk_cell hb_ 1).trans rfl
      have c02_ : w'.cell? ⟨w.heap.size, 2, none⟩ = some (.slice A0_2 l0_2.length c0_2) := (blk_cell hb_ 2).trans rfl
      clear hb_
      refine value_ (w1 := ?_) (v := ?_) (by rfl) rfl ?_ ?_
      rotate_left 2
      · go_simp
        constructor
        · rfl
        · rfl
      refine hK _ _ ⟨_, _, _, _, _, _, _, _, _, P11, p11, P12, p12, P31, p31, P32, p32, P50, p50, g1, g2, g3, by first | (simp only [putAll, Act.put, List.setIfInBounds_toArray, List.set_cons_zero, List.set_cons_succ]; done) | (simp only [putAll, Act.put, List.setIfInBounds_toArray, List.set_cons_zero, List.set_cons_succ]; rfl) | rfl, ⟨(fun _ => rfl), (kept 0 hF.out.2.1 rfl), (kept 0 hF.out.2.2.1 rfl), (kept 0 hF.out.2.2.2.1 rfl), (kept 0 hF.out.2.2.2.2.1 rfl), (kept 0 hF.out.2.2.2.2.2.1 rfl), (kept 0 hF.out.2.2.2.2.2.2.1 rfl), (kept 0 hF.out.2.2.2.2.2.2.2.1 rfl), (kept 0 hF.out.2.2.2.2.2.2.2.2 rfl)⟩, ⟨?_⟩⟩
      exact hH.out
    · intro d a' w'
      refine ex_imp fun t33 => ex_imp fun t34 => ex_imp fun t35 => ex_imp fun t36 => ex_imp fun t37 => ex_imp fun t38 => ex_imp fun t7 => ex_imp fun t8 => ex_imp fun t9 => ex_imp fun P11 => ex_imp fun p11 => ex_imp fun P12 => ex_imp fun p12 => ex_imp fun P31 => ex_imp fun p31 => ex_imp fun P32 => ex_imp fun p32 => ex_imp fun P50 => ex_imp fun p50 => ex_imp fun g1 => ex_imp fun g2 => ex_imp fun g3 => fun hI hd hcl hdep K hK => ?_
      have ha := hI.1
      have hF := hI.2.1
      have hH := hI.2.2
      clear hI
      have e0 := has_run hdep 0 rfl
      obtain rfl := hF.out.1 e0
      have n3 := not_yet hcl 3 1 rfl rfl hd
      have n5 := not_yet hcl 5 3 rfl rfl n3
      have n9 := not_yet hcl 9 1 rfl rfl hd
      have h_ := hH.out
      simp only [hd, n3, n5, n9, optl, sel, cond_true, cond_false, List.nil_append, List.cons_append] at h_
      refine norm_if (a' := ?_) (ha.trans ?_) ?_
      rotate_left
      · simp only [putAll, Act.put, List.setIfInBounds_toArray, List.set_cons_zero, List.set_cons_succ]
        rfl
      refine goes_ Try.func26 (by kernel_rfl) rfl #[.agg #[.int .i64 a0_0, .slice A0_1 l0_1.length c0_1, .slice A0_2 l0_2.length c0_2]] (by rfl) rfl rfl (by simp only [List.map_toArray, List.map_cons, List.map_nil]; rfl) ?_
      with_reducible refine (caesurakeep_OwnAutomaton.calls o0 a0_0 A0_1 c0_1 l0_1 A0_2 c0_2 l0_2 a0_0 l0_1 l0_2 w' (Kd.C_below HR0_1.out h_.low) hc0_1 (Kd.C_below HR0_2.out h_.low) hc0_2 HO0.out).mono ?_
      rintro e wm ⟨v1_, v2_, rfl, hS_, hR_, hb_⟩
      obtain ⟨Q1_, q1_, rfl⟩ := Kd.S_slice hS_
      obtain ⟨Q2_, q2_, rfl, -, -⟩ := Kd.R_reads hR_
      refine ⟨_, rfl, ?_⟩
      refine hK _ _ ⟨_, _, _, _, _, _, _, _, _, Q1_, q1_, Q2_, q2_, P31, p31, P32, p32, P50, p50, g1, g2, g3, by first | (simp only [putAll, Act.put, List.setIfInBounds_toArray, List.set_cons_zero, List.set_cons_succ]; done) | (simp only [putAll, Act.put, List.setIfInBounds_toArray, List.set_cons_zero, List.set_cons_succ]; rfl) | rfl, ⟨(kept 1 hF.out.1 rfl), (fun _ => rfl), (kept 1 hF.out.2.2.1 rfl), (kept 1 hF.out.2.2.2.1 rfl), (kept 1 hF.out.2.2.2.2.1 rfl), (kept 1 hF.out.2.2.2.2.2.1 rfl), (kept 1 hF.out.2.2.2.2.2.2.1 rfl), (kept 1 hF.out.2.2.2.2.2.2.2.1 rfl), (kept 1 hF.out.2.2.2.2.2.2.2.2 rfl)⟩, ⟨?_⟩⟩
      rw [show also d 1 3 = false from n3, show also d 1 5 = false from n5, show also d 1 9 = false from n9]
      exact h_.aut hS_ hR_ hb_
    · intro d a' w'
      refine ex_imp fun t33 => ex_imp fun t34 => ex_imp fun t35 => ex_imp fun t36 => ex_imp fun t37 => ex_imp fun t38 => ex_imp fun t7 => ex_imp fun t8 => ex_imp fun t9 => ex_imp fun P11 => ex_imp fun p11 => ex_imp fun P12 => ex_imp fun p12 => ex_imp fun P31 => ex_imp fun p31 => ex_imp fun P32 => ex_imp fun p32 => ex_imp fun P50 => ex_imp fun p50 => ex_imp fun g1 => ex_imp fun g2 => ex_imp fun g3 => fun hI hd hcl hdep K hK => ?_
      have ha := hI.1
      have hF := hI.2.1
      have hH := hI.2.2
      clear hI
      have h_ := hH.out
      refine norm_if (a' := ?_) (ha.trans ?_) ?_
      rotate_left
      · simp only [putAll, Act.put, List.setIfInBounds_toArray, List.set_cons_zero, List.set_cons_succ]
        rfl
      have hb_ := h_.blks (w.heap.size + 1, #[.int .i64 a1_0, .slice A1_1 l1_1.length c1_1, .slice A1_2 l1_2.length c1_2], 25) (List.mem_append_right _ (List.mem_append_right _ (List.mem_append_right _ HM1.out)))
      have c10_ : w'.cell? ⟨w.heap.size + 1, 0, none⟩ = some (.int .i64 a1_0) := (blk_cell hb_ 0).trans rfl
      have c11_ : w'.cell? ⟨w.heap.size + 1, 1, none⟩ = some (.slice A1_1 l1_1.length c1_1) := (blk_cell hb_ 1).trans rfl
      have c12_ : w'.cell? ⟨w.heap.size + 1, 2, none⟩ = some (.slice A1_2 l1_2.length c1_2) := (blk_cell hb_ 2).trans rfl
      clear hb_
      refine value_ (w1 := ?_) (v := ?_) (by rfl) rfl ?_ ?_
      rotate_left 2
      · go_simp
        constructor
        · rfl
        · rfl
      refine hK _ _ ⟨_, _, _, _, _, _, _, _, _, P11, p11, P12, p12, P31, p31, P32, p32, P50, p50, g1, g2, g3, by first | (simp only [putAll, Act.put, List.setIfInBounds_toArray, List.set_cons_zero, List.set_cons_succ]; done) | (simp only [putAll, Act.put, List.setIfInBounds_toArray, List.set_cons_zero, List.set_cons_succ]; rfl) | rfl, ⟨(kept 2 hF.out.1 rfl), (kept 2 hF.out.2.1 rfl), (fun _ => rfl), (kept 2 hF.out.2.2.2.1 rfl), (kept 2 hF.out.2.2.2.2.1 rfl), (kept 2 hF.out.2.2.2.2.2.1 rfl), (kept 2 hF.out.2.2.2.2.2.2.1 rfl), (kept 2 hF.out.2.2.2.2.2.2.2.1 rfl), (kept 2 hF.out.2.2.2.2.2.2.2.2 rfl)⟩, ⟨?_⟩⟩
      exact hH.out
    · intro d a' w'
      refine ex_imp fun t33 => ex_imp fun t34 => ex_imp fun t35 => ex_imp fun t36 => ex_imp fun t37 => ex_imp fun t38 => ex_imp fun t7 => ex_imp fun t8 => ex_imp fun t9 => ex_imp fun P11 => ex_imp fun p11 => ex_imp fun P12 => ex_imp fun p12 => ex_imp fun P31 => ex_imp fun p31 => ex_imp fun P32 => ex_imp fun p32 => ex_imp fun P50 => ex_imp fun p50 => ex_imp fun g1 => ex_imp fun g2 => ex_imp fun g3 => fun hI hd hcl hdep K hK => ?_
      have ha := hI.1
      have hF := hI.2.1
      have hH := hI.2.2
      clear hI
      have e2 := has_run hdep 2 rfl
      obtain rfl := hF.out.2.2.1 e2
      have n5 := not_yet hcl 5 3 rfl rfl hd
      have n10 := not_yet hcl 10 3 rfl rfl hd
      have h_ := hH.out
      simp only [hd, n5, n10, optl, sel, cond_true, cond_false, List.nil_append, List.cons_append] at h_
      refine norm_if (a' := ?_) (ha.trans ?_) ?_
      rotate_left
      · simp only [putAll, Act.put, List.setIfInBounds_toArray, List.set_cons_zero, List.set_cons_succ]
        rfl
      refine goes_ Try.func26 (by kernel_rfl) rfl #[.agg #[.int .i64 a1_0, .slice A1_1 l1_1.length c1_1, .slice A1_2 l1_2.length c1_2]] (by rfl) rfl rfl (by simp only [List.map_toArray, List.map_cons, List.map_nil]; rfl) ?_
      with_reducible refine (caesurakeep_OwnAutomaton.calls o1 a1_0 A1_1 c1_1 l1_1 A1_2 c1_2 l1_2 a1_0 l1_1 l1_2 w' (Kd.C_below HR1_1.out h_.low) hc1_1 (Kd.C_below HR1_2.out h_.low) hc1_2 HO1.out).mono ?_
      rintro e wm ⟨v1_, v2_, rfl, hS_, hR_, hb_⟩
      obtain ⟨Q1_, q1_, rfl⟩ := Kd.S_slice hS_
      obtain ⟨Q2_, q2_, rfl, -, -⟩ := Kd.R_reads hR_
      refine ⟨_, rfl, ?_⟩
      refine hK _ _ ⟨_, _, _, _, _, _, _, _, _, P11, p11, P12, p12, Q1_, q1_, Q2_, q2_, P50, p50, g1, g2, g3, by first | (simp only [putAll, Act.put, List.setIfInBounds_toArray, List.set_cons_zero, List.set_cons_succ]; done) | (simp only [putAll, Act.put, List.setIfInBounds_toArray, List.set_cons_zero, List.set_cons_succ]; rfl) | rfl, ⟨(kept 3 hF.out.1 rfl), (kept 3 hF.out.2.1 rfl), (kept 3 hF.out.2.2.1 rfl), (fun _ => rfl), (kept 3 hF.out.2.2.2.2.1 rfl), (kept 3 hF.out.2.2.2.2.2.1 rfl), (kept 3 hF.out.2.2.2.2.2.2.1 rfl), (kept 3 hF.out.2.2.2.2.2.2.2.1 rfl), (kept 3 hF.out.2.2.2.2.2.2.2.2 rfl)⟩, ⟨?_⟩⟩
      rw [show also d 3 5 = false from n5, show also d 3 10 = false from n10]
      exact h_.aut hS_ hR_ hb_
    · intro d a' w'
      refine ex_imp fun t33 => ex_imp fun t34 => ex_imp fun t35 => ex_imp fun t36 => ex_imp fun t37 => ex_imp fun t38 => ex_imp fun t7 => ex_imp fun t8 => ex_imp fun t9 => ex_imp fun P11 => ex_imp fun p11 => ex_imp fun P12 => ex_imp fun p12 => ex_imp fun P31 => ex_imp fun p31 => ex_imp fun P32 => ex_imp fun p32 => ex_imp fun P50 => ex_imp fun p50 => ex_imp fun g1 => ex_imp fun g2 => ex_imp fun g3 => fun hI hd hcl hdep K hK => ?_
      have ha := hI.1
      have hF := hI.2.1
      have hH := hI.2.2
      clear hI
      have h_ := hH.out
      refine norm_if (a' := ?_) (ha.trans ?_) ?_
      rotate_left
      · simp only [putAll, Act.put, List.setIfInBounds_toArray, List.set_cons_zero, List.set_cons_succ]
        rfl
      have hb_ := h_.blks (w.heap.size + 1 + 1, #[.int .i64 a2_0, .slice A2_1 l2_1.length c2_1], 28) (List.mem_append_right _ (List.mem_append_right _ (List.mem_append_right _ HM2.out)))
      have c20_ : w'.cell? ⟨w.heap.size + 1 + 1, 0, none⟩ = some (.int .i64 a2_0) := (blk_cell hb_ 0).trans rfl
      have c21_ : w'.cell? ⟨w.heap.size + 1 + 1, 1, none⟩ = some (.slice A2_1 l2_1.length c2_1) := (blk_cell hb_ 1).trans rfl
      clear hb_
      refine value_ (w1 := ?_) (v := ?_) (by rfl) rfl ?_ ?_
      rotate_left 2
      · go_simp
        constructor
        · rfl
        · rfl
      refine hK _ _ ⟨_, _, _, _, _, _, _, _, _, P11, p11, P12, p12, P31, p31, P32, p32, P50, p50, g1, g2, g3, by first | (simp only [putAll, Act.put, List.setIfInBounds_toArray, List.set_cons_zero, List.set_cons_succ]; done) | (simp only [putAll, Act.put, List.setIfInBounds_toArray, List.set_cons_zero, List.set_cons_succ]; rfl) | rfl, ⟨(kept 4 hF.out.1 rfl), (kept 4 hF.out.2.1 rfl), (kept 4 hF.out.2.2.1 rfl), (kept 4 hF.out.2.2.2.1 rfl), (fun _ => rfl), (kept 4 hF.out.2.2.2.2.2.1 rfl), (kept 4 hF.out.2.2.2.2.2.2.1 rfl), (kept 4 hF.out.2.2.2.2.2.2.2.1 rfl), (kept 4 hF.out.2.2.2.2.2.2.2.2 rfl)⟩, ⟨?_⟩⟩
      exact hH.out
    · intro d a' w'
      refine ex_imp fun t33 => ex_imp fun t34 => ex_imp fun t35 => ex_imp fun t36 => ex_imp fun t37 => ex_imp fun t38 => ex_imp fun t7 => ex_imp fun t8 => ex_imp fun t9 => ex_imp fun P11 => ex_imp fun p11 => ex_imp fun P12 => ex_imp fun p12 => ex_imp fun P31 => ex_imp fun p31 => ex_imp fun P32 => ex_imp fun p32 => ex_imp fun P50 => ex_imp fun p50 => ex_imp fun g1 => ex_imp fun g2 => ex_imp fun g3 => fun hI hd hcl hdep K hK => ?_
      have ha := hI.1
      have hF := hI.2.1
      have hH := hI.2.2
      clear hI
      have e4 := has_run hdep 4 rfl
      obtain rfl := hF.out.2.2.2.2.1 e4
      have n11 := not_yet hcl 11 5 rfl rfl hd
      have h_ := hH.out
      simp only [hd, n11, optl, sel, cond_true, cond_false, List.nil_append, List.cons_append] at h_
      refine norm_if (a' := ?_) (ha.trans ?_) ?_
      rotate_left
      · simp only [putAll, Act.put, List.setIfInBounds_toArray, List.set_cons_zero, List.set_cons_succ]
        rfl
      refine goes_ Try.func27 (by kernel_rfl) rfl #[.agg #[.int .i64 a2_0, .slice A2_1 l2_1.length c2_1]] (by rfl) rfl rfl (by simp only [List.map_toArray, List.map_cons, List.map_nil]; rfl) ?_
      with_reducible refine (caesurakeep_OwnNet.calls o2 a2_0 A2_1 c2_1 l2_1 a2_0 l2_1 w' (Kd.C_below HR2_1.out h_.low) hc2_1 HO2.out).mono ?_
      rintro e wm ⟨v1_, rfl, hS_, hb_⟩
      obtain ⟨Q1_, q1_, rfl⟩ := Kd.S_slice hS_
      refine ⟨_, rfl, ?_⟩
      refine hK _ _ ⟨_, _, _, _, _, _, _, _, _, P11, p11, P12, p12, P31, p31, P32, p32, Q1_, q1_, g1, g2, g3, by first | (simp only [putAll, Act.put, List.setIfInBounds_toArray, List.set_cons_zero, List.set_cons_succ]; done) | (simp only [putAll, Act.put, List.setIfInBounds_toArray, List.set_cons_zero, List.set_cons_succ]; rfl) | rfl, ⟨(kept 5 hF.out.1 rfl), (kept 5 hF.out.2.1 rfl), (kept 5 hF.out.2.2.1 rfl), (kept 5 hF.out.2.2.2.1 rfl), (kept 5 hF.out.2.2.2.2.1 rfl), (fun _ => rfl), (kept 5 hF.out.2.2.2.2.2.2.1 rfl), (kept 5 hF.out.2.2.2.2.2.2.2.1 rfl), (kept 5 hF.out.2.2.2.2.2.2.2.2 rfl)⟩, ⟨?_⟩⟩
      rw [show also d 5 11 = false from n11]
      exact h_.net hS_ hb_
    · intro d a' w'
      refine ex_imp fun t33 => ex_imp fun t34 => ex_imp fun t35 => ex_imp fun t36 => ex_imp fun t37 => ex_imp fun t38 => ex_imp fun t7 => ex_imp fun t8 => ex_imp fun t9 => ex_imp fun P11 => ex_imp fun p11 => ex_imp fun P12 => ex_imp fun p12 => ex_imp fun P31 => ex_imp fun p31 => ex_imp fun P32 => ex_imp fun p32 => ex_imp fun P50 => ex_imp fun p50 => ex_imp fun g1 => ex_imp fun g2 => ex_imp fun g3 => fun hI hd hcl hdep K hK => ?_
      have ha := hI.1
      have hF := hI.2.1
      have hH := hI.2.2
      clear hI
      have n9 := not_yet hcl 9 6 rfl rfl hd
      have h_ := hH.out
      simp only [hd, n9, optl, sel, cond_true, cond_false, List.nil_append, List.cons_append] at h_
      refine norm_if (a' := ?_) (ha.trans ?_) ?_
      rotate_left
      · simp only [putAll, Act.put, List.setIfInBounds_toArray, List.set_cons_zero, List.set_cons_succ]
        rfl
      refine value_ (w1 := ?_) (v := ?_) (by rfl) rfl ?_ ?_
      rotate_left 2
      · go_simp
        constructor
        · rfl
        · rfl
      refine hK _ _ ⟨_, _, _, _, _, _, _, _, _, P11, p11, P12, p12, P31, p31, P32, p32, P50, p50, w'.heap.size, g2, g3, by first | (simp only [putAll, Act.put, List.setIfInBounds_toArray, List.set_cons_zero, List.set_cons_succ]; done) | (simp only [putAll, Act.put, List.setIfInBounds_toArray, List.set_cons_zero, List.set_cons_succ]; rfl) | rfl, ⟨(kept 6 hF.out.1 rfl), (kept 6 hF.out.2.1 rfl), (kept 6 hF.out.2.2.1 rfl), (kept 6 hF.out.2.2.2.1 rfl), (kept 6 hF.out.2.2.2.2.1 rfl), (kept 6 hF.out.2.2.2.2.2.1 rfl), (fun _ => rfl), (kept 6 hF.out.2.2.2.2.2.2.2.1 rfl), (kept 6 hF.out.2.2.2.2.2.2.2.2 rfl)⟩, ⟨?_⟩⟩
      rw [show also d 6 9 = false from n9]
      exact Hold.alloc (b1 := []) h_ #[.int .i64 0, .slice none 0 0, .slice none 0 0] 25
    · intro d a' w'
      refine ex_imp fun t33 => ex_imp fun t34 => ex_imp fun t35 => ex_imp fun t36 => ex_imp fun t37 => ex_imp fun t38 => ex_imp fun t7 => ex_imp fun t8 => ex_imp fun t9 => ex_imp fun P11 => ex_imp fun p11 => ex_imp fun P12 => ex_imp fun p12 => ex_imp fun P31 => ex_imp fun p31 => ex_imp fun P32 => ex_imp fun p32 => ex_imp fun P50 => ex_imp fun p50 => ex_imp fun g1 => ex_imp fun g2 => ex_imp fun g3 => fun hI hd hcl hdep K hK => ?_
      have ha := hI.1
      have hF := hI.2.1
      have hH := hI.2.2
      clear hI
      have n10 := not_yet hcl 10 7 rfl rfl hd
      have h_ := hH.out
      simp only [hd, n10, optl, sel, cond_true, cond_false, List.nil_append, List.cons_append] at h_
      refine norm_if (a' := ?_) (ha.trans ?_) ?_
      rotate_left
      · simp only [putAll, Act.put, List.setIfInBounds_toArray, List.set_cons_zero, List.set_cons_succ]
        rfl
      refine value_ (w1 := ?_) (v := ?_) (by rfl) rfl ?_ ?_
      rotate_left 2
      · go_simp
        constructor
        · rfl
        · rfl
      refine hK _ _ ⟨_, _, _, _, _, _, _, _, _, P11, p11, P12, p12, P31, p31, P32, p32, P50, p50, g1, w'.heap.size, g3, by first | (simp only [putAll, Act.put, List.setIfInBounds_toArray, List.set_cons_zero, List.set_cons_succ]; done) | (simp only [putAll, Act.put, List.setIfInBounds_toArray, List.set_cons_zero, List.set_cons_succ]; rfl) | rfl, ⟨(kept 7 hF.out.1 rfl), (kept 7 hF.out.2.1 rfl), (kept 7 hF.out.2.2.1 rfl), (kept 7 hF.out.2.2.2.1 rfl), (kept 7 hF.out.2.2.2.2.1 rfl), (kept 7 hF.out.2.2.2.2.2.1 rfl), (kept 7 hF.out.2.2.2.2.2.2.1 rfl), (fun _ => rfl), (kept 7 hF.out.2.2.2.2.2.2.2.2 rfl)⟩, ⟨?_⟩⟩
      rw [show also d 7 10 = false from n10]
      exact Hold.alloc h_ #[.int .i64 0, .slice none 0 0, .slice none 0 0] 25
    · intro d a' w'
      refine ex_imp fun t33 => ex_imp fun t34 => ex_imp fun t35 => ex_imp fun t36 => ex_imp fun t37 => ex_imp fun t38 => ex_imp fun t7 => ex_imp fun t8 => ex_imp fun t9 => ex_imp fun P11 => ex_imp fun p11 => ex_imp fun P12 => ex_imp fun p12 => ex_imp fun P31 => ex_imp fun p31 => ex_imp fun P32 => ex_imp fun p32 => ex_imp fun P50 => ex_imp fun p50 => ex_imp fun g1 => ex_imp fun g2 => ex_imp fun g3 => fun hI hd hcl hdep K hK => ?_
      have ha := hI.1
      have hF := hI.2.1
      have hH := hI.2.2
      clear hI
      have n11 := not_yet hcl 11 8 rfl rfl hd
      have h_ := hH.out
      simp only [hd, n11, optl, sel, cond_true, cond_false, List.nil_append, List.cons_append] at h_
      refine norm_if (a' := ?_) (ha.trans ?_) ?_
      rotate_left
      · simp only [putAll, Act.put, List.setIfInBounds_toArray, List.set_cons_zero, List.set_cons_succ]
        rfl
      refine value_ (w1 := ?_) (v := ?_) (by rfl) rfl ?_ ?_
      rotate_left 2
      · go_simp
        constructor
        · rfl
        · rfl
      refine hK _ _ ⟨_, _, _, _, _, _, _, _, _, P11, p11, P12, p12, P31, p31, P32, p32, P50, p50, g1, g2, w'.heap.size, by first | (simp only [putAll, Act.put, List.setIfInBounds_toArray, List.set_cons_zero, List.set_cons_succ]; done) | (simp only [putAll, Act.put, List.setIfInBounds_toArray, List.set_cons_zero, List.set_cons_succ]; rfl) | rfl, ⟨(kept 8 hF.out.1 rfl), (kept 8 hF.out.2.1 rfl), (kept 8 hF.out.2.2.1 rfl), (kept 8 hF.out.2.2.2.1 rfl), (kept 8 hF.out.2.2.2.2.1 rfl), (kept 8 hF.out.2.2.2.2.2.1 rfl), (kept 8 hF.out.2.2.2.2.2.2.1 rfl), (kept 8 hF.out.2.2.2.2.2.2.2.1 rfl), (fun _ => rfl)⟩, ⟨?_⟩⟩
      rw [show also d 8 11 = false from n11]
      exact Hold.alloc2 h_ #[.int .i64 0, .slice none 0 0] 28
    · intro d a' w'
      refine ex_imp fun t33 => ex_imp fun t34 => ex_imp fun t35 => ex_imp fun t36 => ex_imp fun t37 => ex_imp fun t38 => ex_imp fun t7 => ex_imp fun t8 => ex_imp fun t9 => ex_imp fun P11 => ex_imp fun p11 => ex_imp fun P12 => ex_imp fun p12 => ex_imp fun P31 => ex_imp fun p31 => ex_imp fun P32 => ex_imp fun p32 => ex_imp fun P50 => ex_imp fun p50 => ex_imp fun g1 => ex_imp fun g2 => ex_imp fun g3 => fun hI hd hcl hdep K hK => ?_
      have ha := hI.1
      have hF := hI.2.1
      have hH := hI.2.2
      clear hI
      have e1 := has_run hdep 1 rfl
      obtain rfl := hF.out.2.1 e1
      have e6 := has_run hdep 6 rfl
      obtain rfl := hF.out.2.2.2.2.2.2.1 e6
      have e7 := has_run hdep 7 rfl
      have e8 := has_run hdep 8 rfl
      have n10 := not_yet hcl 10 9 rfl rfl hd
      have n11 := not_yet hcl 11 9 rfl rfl hd
      have h_ := hH.out
      simp only [hd, e6, e7, e8, n10, n11, optl, sel, cond_true, cond_false, List.nil_append, List.cons_append] at h_
      refine norm_if (a' := ?_) (ha.trans ?_) ?_
      rotate_left
      · simp only [putAll, Act.put, List.setIfInBounds_toArray, List.set_cons_zero, List.set_cons_succ]
        rfl
      have hb_ := h_.blks (g1, #[.int .i64 0, .slice none 0 0, .slice none 0 0], 25) (by simp)
      have hc0_ : w'.cell? ⟨g1, 0, none⟩ = some (.int .i64 0) := (blk_cell hb_ 0).trans rfl
      have hf0_ := blk_frozen hb_ 0
      have hc1_ : w'.cell? ⟨g1, 1, none⟩ = some (.slice none 0 0) := (blk_cell hb_ 1).trans rfl
      have hf1_ := blk_frozen hb_ 1
      have hc2_ : w'.cell? ⟨g1, 2, none⟩ = some (.slice none 0 0) := (blk_cell hb_ 2).trans rfl
      have hf2_ := blk_frozen hb_ 2
      clear hb_
      refine skip_ (w1 := ?_) (by rfl) rfl ?_ ?_
      rotate_left
      · go_simp
        rfl
      refine hK _ _ ⟨_, _, _, _, _, _, _, _, _, P11, p11, P12, p12, P31, p31, P32, p32, P50, p50, g1, g2, g3, by first | (simp only [putAll, Act.put, List.setIfInBounds_toArray, List.set_cons_zero, List.set_cons_succ]; done) | (simp only [putAll, Act.put, List.setIfInBounds_toArray, List.set_cons_zero, List.set_cons_succ]; rfl) | rfl, ⟨(kept 9 hF.out.1 rfl), (kept 9 hF.out.2.1 rfl), (kept 9 hF.out.2.2.1 rfl), (kept 9 hF.out.2.2.2.1 rfl), (kept 9 hF.out.2.2.2.2.1 rfl), (kept 9 hF.out.2.2.2.2.2.1 rfl), (kept 9 hF.out.2.2.2.2.2.2.1 rfl), (kept 9 hF.out.2.2.2.2.2.2.2.1 rfl), (kept 9 hF.out.2.2.2.2.2.2.2.2 rfl)⟩, ⟨?_⟩⟩
      rw [show also d 9 6 = true from e6, show also d 9 7 = true from e7, show also d 9 8 = true from e8, show also d 9 10 = false from n10, show also d 9 11 = false from n11]
      exact (Hold.put (b1 := []) (b2 := (g2, #[.int .i64 0, .slice none 0 0, .slice none 0 0], 25) :: (g3, #[.int .i64 0, .slice none 0 0], 28) :: B0) (Hold.put (b1 := []) (b2 := (g2, #[.int .i64 0, .slice none 0 0, .slice none 0 0], 25) :: (g3, #[.int .i64 0, .slice none 0 0], 28) :: B0) (Hold.put (b1 := []) (b2 := (g2, #[.int .i64 0, .slice none 0 0, .slice none 0 0], 25) :: (g3, #[.int .i64 0, .slice none 0 0], 28) :: B0) h_ 0 (.int .i64 a0_0) own25 rfl) 1 (.slice P11 l0_1.length p11) own25 rfl) 2 (.slice P12 l0_2.length p12) own25 rfl)
    · intro d a' w'
      refine ex_imp fun t33 => ex_imp fun t34 => ex_imp fun t35 => ex_imp fun t36 => ex_imp fun t37 => ex_imp fun t38 => ex_imp fun t7 => ex_imp fun t8 => ex_imp fun t9 => ex_imp fun P11 => ex_imp fun p11 => ex_imp fun P12 => ex_imp fun p12 => ex_imp fun P31 => ex_imp fun p31 => ex_imp fun P32 => ex_imp fun p32 => ex_imp fun P50 => ex_imp fun p50 => ex_imp fun g1 => ex_imp fun g2 => ex_imp fun g3 => fun hI hd hcl hdep K hK => ?_
      have ha := hI.1
      have hF := hI.2.1
      have hH := hI.2.2
      clear hI
      have e3 := has_run hdep 3 rfl
      obtain rfl := hF.out.2.2.2.1 e3
      have e7 := has_run hdep 7 rfl
      obtain rfl := hF.out.2.2.2.2.2.2.2.1 e7
      have e6 := has_run hdep 6 rfl
      have e8 := has_run hdep 8 rfl
      have e9 := has_run hdep 9 rfl
      have n11 := not_yet hcl 11 10 rfl rfl hd
      have h_ := hH.out
      simp only [hd, e6, e7, e8, e9, n11, optl, sel, cond_true, cond_false, List.nil_append, List.cons_append] at h_
      refine norm_if (a' := ?_) (ha.trans ?_) ?_
      rotate_left
      · simp only [putAll, Act.put, List.setIfInBounds_toArray, List.set_cons_zero, List.set_cons_succ]
        rfl
      have hb_ := h_.blks (g2, #[.int .i64 0, .slice none 0 0, .slice none 0 0], 25) (by simp)
      have hc0_ : w'.cell? ⟨g2, 0, none⟩ = some (.int .i64 0) := (blk_cell hb_ 0).trans rfl
      have hf0_ := blk_frozen hb_ 0
      have hc1_ : w'.cell? ⟨g2, 1, none⟩ = some (.slice none 0 0) := (blk_cell hb_ 1).trans rfl
      have hf1_ := blk_frozen hb_ 1
      have hc2_ : w'.cell? ⟨g2, 2, none⟩ = some (.slice none 0 0) := (blk_cell hb_ 2).trans rfl
      have hf2_ := blk_frozen hb_ 2
      clear hb_
      refine skip_ (w1 := ?_) (by rfl) rfl ?_ ?_
      rotate_left
      · go_simp
        rfl
      refine hK _ _ ⟨_, _, _, _, _, _, _, _, _, P11, p11, P12, p12, P31, p31, P32, p32, P50, p50, g1, g2, g3, by first | (simp only [putAll, Act.put, List.setIfInBounds_toArray, List.set_cons_zero, List.set_cons_succ]; done) | (simp only [putAll, Act.put, List.setIfInBounds_toArray, List.set_cons_zero, List.set_cons_succ]; rfl) | rfl, ⟨(kept 10 hF.out.1 rfl), (kept 10 hF.out.2.1 rfl), (kept 10 hF.out.2.2.1 rfl), (kept 10 hF.out.2.2.2.1 rfl), (kept 10 hF.out.2.2.2.2.1 rfl), (kept 10 hF.out.2.2.2.2.2.1 rfl), (kept 10 hF.out.2.2.2.2.2.2.1 rfl), (kept 10 hF.out.2.2.2.2.2.2.2.1 rfl), (kept 10 hF.out.2.2.2.2.2.2.2.2 rfl)⟩, ⟨?_⟩⟩
      rw [show also d 10 6 = true from e6, show also d 10 7 = true from e7, show also d 10 8 = true from e8, show also d 10 9 = true from e9, show also d 10 11 = false from n11]
      exact (Hold.put (b1 := [(g1, #[.int .i64 a0_0, .slice P11 l0_1.length p11, .slice P12 l0_2.length p12], 25)]) (b2 := (g3, #[.int .i64 0, .slice none 0 0], 28) :: B0) (Hold.put (b1 := [(g1, #[.int .i64 a0_0, .slice P11 l0_1.length p11, .slice P12 l0_2.length p12], 25)]) (b2 := (g3, #[.int .i64 0, .slice none 0 0], 28) :: B0) (Hold.put (b1 := [(g1, #[.int .i64 a0_0, .slice P11 l0_1.length p11, .slice P12 l0_2.length p12], 25)]) (b2 := (g3, #[.int .i64 0, .slice none 0 0], 28) :: B0) h_ 0 (.int .i64 a1_0) own25 rfl) 1 (.slice P31 l1_1.length p31) own25 rfl) 2 (.slice P32 l1_2.length p32) own25 rfl)
    · intro d a' w'
      refine ex_imp fun t33 => ex_imp fun t34 => ex_imp fun t35 => ex_imp fun t36 => ex_imp fun t37 => ex_imp fun t38 => ex_imp fun t7 => ex_imp fun t8 => ex_imp fun t9 => ex_imp fun P11 => ex_imp fun p11 => ex_imp fun P12 => ex_imp fun p12 => ex_imp fun P31 => ex_imp fun p31 => ex_imp fun P32 => ex_imp fun p32 => ex_imp fun P50 => ex_imp fun p50 => ex_imp fun g1 => ex_imp fun g2 => ex_imp fun g3 => fun hI hd hcl hdep K hK => ?_
      have ha := hI.1
      have hF := hI.2.1
      have hH := hI.2.2
      clear hI
      have e5 := has_run hdep 5 rfl
      obtain rfl := hF.out.2.2.2.2.2.1 e5
      have e8 := has_run hdep 8 rfl
      obtain rfl := hF.out.2.2.2.2.2.2.2.2 e8
      have e6 := has_run hdep 6 rfl
      have e7 := has_run hdep 7 rfl
      have e9 := has_run hdep 9 rfl
      have e10 := has_run hdep 10 rfl
      have h_ := hH.out
      simp only [hd, e6, e7, e8, e9, e10, optl, sel, cond_true, cond_false, List.nil_append, List.cons_append] at h_
      refine norm_if (a' := ?_) (ha.trans ?_) ?_
      rotate_left
      · simp only [putAll, Act.put, List.setIfInBounds_toArray, List.set_cons_zero, List.set_cons_succ]
        rfl
      have hb_ := h_.blks (g3, #[.int .i64 0, .slice none 0 0], 28) (by simp)
      have hc0_ : w'.cell? ⟨g3, 0, none⟩ = some (.int .i64 0) := (blk_cell hb_ 0).trans rfl
      have hf0_ := blk_frozen hb_ 0
      have hc1_ : w'.cell? ⟨g3, 1, none⟩ = some (.slice none 0 0) := (blk_cell hb_ 1).trans rfl
      have hf1_ := blk_frozen hb_ 1
      clear hb_
      refine skip_ (w1 := ?_) (by rfl) rfl ?_ ?_
      rotate_left
      · go_simp
        rfl
      refine hK _ _ ⟨_, _, _, _, _, _, _, _, _, P11, p11, P12, p12, P31, p31, P32, p32, P50, p50, g1, g2, g3, by first | (simp only [putAll, Act.put, List.setIfInBounds_toArray, List.set_cons_zero, List.set_cons_succ]; done) | (simp only [putAll, Act.put, List.setIfInBounds_toArray, List.set_cons_zero, List.set_cons_succ]; rfl) | rfl, ⟨(kept 11 hF.out.1 rfl), (kept 11 hF.out.2.1 rfl), (kept 11 hF.out.2.2.1 rfl), (kept 11 hF.out.2.2.2.1 rfl), (kept 11 hF.out.2.2.2.2.1 rfl), (kept 11 hF.out.2.2.2.2.2.1 rfl), (kept 11 hF.out.2.2.2.2.2.2.1 rfl), (kept 11 hF.out.2.2.2.2.2.2.2.1 rfl), (kept 11 hF.out.2.2.2.2.2.2.2.2 rfl)⟩, ⟨?_⟩⟩
      rw [show also d 11 6 = true from e6, show also d 11 7 = true from e7, show also d 11 8 = true from e8, show also d 11 9 = true from e9, show also d 11 10 = true from e10]
      exact (Hold.put (b1 := [(g1, #[.int .i64 a0_0, .slice P11 l0_1.length p11, .slice P12 l0_2.length p12], 25), (g2, #[.int .i64 a1_0, .slice P31 l1_1.length p31, .slice P32 l1_2.length p32], 25)]) (b2 := B0) (Hold.put (b1 := [(g1, #[.int .i64 a0_0, .slice P11 l0_1.length p11, .slice P12 l0_2.length p12], 25), (g2, #[.int .i64 a1_0, .slice P31 l1_1.length p31, .slice P32 l1_2.length p32], 25)]) (b2 := B0) h_ 0 (.int .i64 a2_0) own28 rfl) 1 (.slice P50 l2_1.length p50) own28 rfl)
  intro d a' wk2
  refine ex_imp fun t33 => ex_imp fun t34 => ex_imp fun t35 => ex_imp fun t36 => ex_imp fun t37 => ex_imp fun t38 => ex_imp fun t7 => ex_imp fun t8 => ex_imp fun t9 => ex_imp fun P11 => ex_imp fun p11 => ex_imp fun P12 => ex_imp fun p12 => ex_imp fun P31 => ex_imp fun p31 => ex_imp fun P32 => ex_imp fun p32 => ex_imp fun P50 => ex_imp fun p50 => ex_imp fun g1 => ex_imp fun g2 => ex_imp fun g3 => fun hI hall => ?_
  have ha := hI.1
  have hF := hI.2.1
  have hH := hI.2.2
  clear hI
  have e0 := hall 0 (by decide)
  have e1 := hall 1 (by decide)
  have e2 := hall 2 (by decide)
  have e3 := hall 3 (by decide)
  have e4 := hall 4 (by decide)
  have e5 := hall 5 (by decide)
  have e6 := hall 6 (by decide)
  have e7 := hall 7 (by decide)
  have e8 := hall 8 (by decide)
  have e9 := hall 9 (by decide)
  have e10 := hall 10 (by decide)
  have e11 := hall 11 (by decide)
  obtain rfl := hF.out.1 e0
  obtain rfl := hF.out.2.1 e1
  obtain rfl := hF.out.2.2.1 e2
  obtain rfl := hF.out.2.2.2.1 e3
  obtain rfl := hF.out.2.2.2.2.1 e4
  obtain rfl := hF.out.2.2.2.2.2.1 e5
  obtain rfl := hF.out.2.2.2.2.2.2.1 e6
  obtain rfl := hF.out.2.2.2.2.2.2.2.1 e7
  obtain rfl := hF.out.2.2.2.2.2.2.2.2 e8
  subst ha
  have h_ := hH.out
  clear hH hF
  simp only [e0, e1, e2, e3, e4, e5, e6, e7, e8, e9, e10, e11, optl, sel, cond_true, cond_false, List.nil_append, List.cons_append] at h_
  clear hall e0 e1 e2 e3 e4 e5 e6 e7 e8 e9 e10 e11
  simp only [putAll, Act.put, List.setIfInBounds_toArray, List.set_cons_zero, List.set_cons_succ]
  clear HH
  have HH := Aside0.mk h_
  clear h_
  obtain ⟨B1, N1, R1, E1, h_, hG1_, hG2_, hG3_, hM0_, hM1_, hM2_, hN5_, hR3_, hR1_, hE4_, hE2_⟩ : ∃ (B1 : List (Nat × Array Value × TypeId)) (N1 : List (Value × List (List S82))) (R1 : List (Value × List (List Int))) (E1 : List (Value × List Bool)), Hold w wk2 B1 N1 R1 E1 ∧ (g1, #[.int .i64 a0_0, .slice P11 l0_1.length p11, .slice P12 l0_2.length p12], 25) ∈ B1 ∧ (g2, #[.int .i64 a1_0, .slice P31 l1_1.length p31, .slice P32 l1_2.length p32], 25) ∈ B1 ∧ (g3, #[.int .i64 a2_0, .slice P50 l2_1.length p50], 28) ∈ B1 ∧ (w.heap.size, #[.int .i64 a0_0, .slice A0_1 l0_1.length c0_1, .slice A0_2 l0_2.length c0_2], 25) ∈ B1 ∧ (w.heap.size + 1, #[.int .i64 a1_0, .slice A1_1 l1_1.length c1_1, .slice A1_2 l1_2.length c1_2], 25) ∈ B1 ∧ (w.heap.size + 1 + 1, #[.int .i64 a2_0, .slice A2_1 l2_1.length c2_1], 28) ∈ B1 ∧ (.slice P50 l2_1.length p50, l2_1) ∈ N1 ∧ (.slice P31 l1_1.length p31, l1_1) ∈ R1 ∧ (.slice P11 l0_1.length p11, l0_1) ∈ R1 ∧ (.slice P32 l1_2.length p32, l1_2) ∈ E1 ∧ (.slice P12 l0_2.length p12, l0_2) ∈ E1 := by
    have h0_ : Hold w wk2 ((g1, #[.int .i64 a0_0, .slice P11 l0_1.length p11, .slice P12 l0_2.length p12], 25) :: (g2, #[.int .i64 a1_0, .slice P31 l1_1.length p31, .slice P32 l1_2.length p32], 25) :: (g3, #[.int .i64 a2_0, .slice P50 l2_1.length p50], 28) :: B0) [(.slice P50 l2_1.length p50, l2_1)] [(.slice P31 l1_1.length p31, l1_1), (.slice P11 l0_1.length p11, l0_1)] [(.slice P32 l1_2.length p32, l1_2), (.slice P12 l0_2.length p12, l0_2)] := HH.out
    exact ⟨_, _, _, _, h0_, by simp, by simp, by simp, by simp [HM0.out], by simp [HM1.out], by simp [HM2.out], by simp, by simp, by simp, by simp, by simp⟩
  clear HH HM0 HM1 HM2
  have HH := Aside0.mk h_
  clear h_
  have XG1_ := Aside0.mk hG1_
  clear hG1_
  have XG2_ := Aside0.mk hG2_
  clear hG2_
  have XG3_ := Aside0.mk hG3_
  clear hG3_
  have XM0_ := Aside0.mk hM0_
  clear hM0_
  have XM1_ := Aside0.mk hM1_
  clear hM1_
  have XM2_ := Aside0.mk hM2_
  clear hM2_
  have XN5_ := Aside0.mk hN5_
  clear hN5_
  have XR3_ := Aside0.mk hR3_
  clear hR3_
  have XR1_ := Aside0.mk hR1_
  clear hR1_
  have XE4_ := Aside0.mk hE4_
  clear hE4_
  have XE2_ := Aside0.mk hE2_
  clear hE2_
  have d00_ : wk2.cell? ⟨g1, 0, none⟩ = some (.int .i64 a0_0) := (blk_cell (HH.out.blks (g1, _, _) (XG1_.out)) 0).trans rfl; have d01_ : wk2.cell? ⟨g1, 1, none⟩ = some (.slice P11 l0_1.length p11) := (blk_cell (HH.out.blks (g1, _, _) (XG1_.out)) 1).trans rfl; have d02_ : wk2.cell? ⟨g1, 2, none⟩ = some (.slice P12 l0_2.length p12) := (blk_cell (HH.out.blks (g1, _, _) (XG1_.out)) 2).trans rfl; have d10_ : wk2.cell? ⟨g2, 0, none⟩ = some (.int .i64 a1_0) := (blk_cell (HH.out.blks (g2, _, _) (XG2_.out)) 0).trans rfl; have d11_ : wk2.cell? ⟨g2, 1, none⟩ = some (.slice P31 l1_1.length p31) := (blk_cell (HH.out.blks (g2, _, _) (XG2_.out)) 1).trans rfl; have d12_ : wk2.cell? ⟨g2, 2, none⟩ = some (.slice P32 l1_2.length p32) := (blk_cell (HH.out.blks (g2, _, _) (XG2_.out)) 2).trans rfl
  go_wp2_with (first | (go_at_call 28; refine (thompson_Of.calls t1 a0_0 P11 p11 l0_1 P12 p12 l0_2 x1 X1 y1 _ (HH.out.C_rows XR1_.out).2.2 (HH.out.C_rows XR1_.out).2.1 (HH.out.C_ends XE2_.out).2.2 (HH.out.C_ends XE2_.out).2.1 HT1.out).mono ?_; rintro e wa1 ⟨u_, rfl, hS_, hb_⟩; obtain ⟨U1, q1, rfl⟩ := Kd.S_slice hS_; have hz_ := Hold.alloc (b1 := []) (HH.out.net hS_ hb_) #[.int .i64 x1, .slice U1 X1.length q1] 28; (try clear d00_ d01_ d02_ d10_ d11_ d12_); clear HH hS_ hb_; have HH := Aside0.mk hz_; clear hz_; have d00_ : (wa1.alloc (Obj.cells #[.int .i64 x1, .slice U1 X1.length q1] 28)).cell? ⟨g1, 0, none⟩ = some (.int .i64 a0_0) := (blk_cell (HH.out.blks (g1, _, _) ((List.mem_cons_of_mem _ XG1_.out))) 0).trans rfl; have d01_ : (wa1.alloc (Obj.cells #[.int .i64 x1, .slice U1 X1.length q1] 28)).cell? ⟨g1, 1, none⟩ = some (.slice P11 l0_1.length p11) := (blk_cell (HH.out.blks (g1, _, _) ((List.mem_cons_of_mem _ XG1_.out))) 1).trans rfl; have d02_ : (wa1.alloc (Obj.cells #[.int .i64 x1, .slice U1 X1.length q1] 28)).cell? ⟨g1, 2, none⟩ = some (.slice P12 l0_2.length p12) := (blk_cell (HH.out.blks (g1, _, _) ((List.mem_cons_of_mem _ XG1_.out))) 2).trans rfl; have d10_ : (wa1.alloc (Obj.cells #[.int .i64 x1, .slice U1 X1.length q1] 28)).cell? ⟨g2, 0, none⟩ = some (.int .i64 a1_0) := (blk_cell (HH.out.blks (g2, _, _) ((List.mem_cons_of_mem _ XG2_.out))) 0).trans rfl; have d11_ : (wa1.alloc (Obj.cells #[.int .i64 x1, .slice U1 X1.length q1] 28)).cell? ⟨g2, 1, none⟩ = some (.slice P31 l1_1.length p31) := (blk_cell (HH.out.blks (g2, _, _) ((List.mem_cons_of_mem _ XG2_.out))) 1).trans rfl; have d12_ : (wa1.alloc (Obj.cells #[.int .i64 x1, .slice U1 X1.length q1] 28)).cell? ⟨g2, 2, none⟩ = some (.slice P32 l1_2.length p32) := (blk_cell (HH.out.blks (g2, _, _) ((List.mem_cons_of_mem _ XG2_.out))) 2).trans rfl) | (go_at_call 29; refine (thompson_Join.calls t2 a0_0 P11 p11 l0_1 P12 p12 l0_2 a1_0 P31 p31 l1_1 P32 p32 l1_2 x2 X2 y2 _ (HH.out.C_rows XR1_.out).2.2 (HH.out.C_rows XR1_.out).2.1 (HH.out.C_ends XE2_.out).2.2 (HH.out.C_ends XE2_.out).2.1 (HH.out.C_rows XR3_.out).2.2 (HH.out.C_rows XR3_.out).2.1 (HH.out.C_ends XE4_.out).2.2 (HH.out.C_ends XE4_.out).2.1 HT2.out).mono ?_; rintro e wa2 ⟨u_, rfl, hS_, hb_⟩; obtain ⟨U2, q2, rfl⟩ := Kd.S_slice hS_; have hz_ := Hold.alloc (b1 := []) (HH.out.net hS_ hb_) #[.int .i64 x2, .slice U2 X2.length q2] 28; (try clear d00_ d01_ d02_ d10_ d11_ d12_); clear HH hS_ hb_; have HH := Aside0.mk hz_; clear hz_; have d00_ : (wa2.alloc (Obj.cells #[.int .i64 x2, .slice U2 X2.length q2] 28)).cell? ⟨g1, 0, none⟩ = some (.int .i64 a0_0) := (blk_cell (HH.out.blks (g1, _, _) ((List.mem_cons_of_mem _ (List.mem_cons_of_mem _ XG1_.out)))) 0).trans rfl; have d01_ : (wa2.alloc (Obj.cells #[.int .i64 x2, .slice U2 X2.length q2] 28)).cell? ⟨g1, 1, none⟩ = some (.slice P11 l0_1.length p11) := (blk_cell (HH.out.blks (g1, _, _) ((List.mem_cons_of_mem _ (List.mem_cons_of_mem _ XG1_.out)))) 1).trans rfl; have d02_ : (wa2.alloc (Obj.cells #[.int .i64 x2, .slice U2 X2.length q2] 28)).cell? ⟨g1, 2, none⟩ = some (.slice P12 l0_2.length p12) := (blk_cell (HH.out.blks (g1, _, _) ((List.mem_cons_of_mem _ (List.mem_cons_of_mem _ XG1_.out)))) 2).trans rfl; have d10_ : (wa2.alloc (Obj.cells #[.int .i64 x2, .slice U2 X2.length q2] 28)).cell? ⟨g2, 0, none⟩ = some (.int .i64 a1_0) := (blk_cell (HH.out.blks (g2, _, _) ((List.mem_cons_of_mem _ (List.mem_cons_of_mem _ XG2_.out)))) 0).trans rfl; have d11_ : (wa2.alloc (Obj.cells #[.int .i64 x2, .slice U2 X2.length q2] 28)).cell? ⟨g2, 1, none⟩ = some (.slice P31 l1_1.length p31) := (blk_cell (HH.out.blks (g2, _, _) ((List.mem_cons_of_mem _ (List.mem_cons_of_mem _ XG2_.out)))) 1).trans rfl; have d12_ : (wa2.alloc (Obj.cells #[.int .i64 x2, .slice U2 X2.length q2] 28)).cell? ⟨g2, 2, none⟩ = some (.slice P32 l1_2.length p32) := (blk_cell (HH.out.blks (g2, _, _) ((List.mem_cons_of_mem _ (List.mem_cons_of_mem _ XG2_.out)))) 2).trans rfl) | (go_at_call 30; refine (thompson_Either.calls t3 a0_0 P11 p11 l0_1 P12 p12 l0_2 a1_0 P31 p31 l1_1 P32 p32 l1_2 x3 X3 y3 _ (HH.out.C_rows XR1_.out).2.2 (HH.out.C_rows XR1_.out).2.1 (HH.out.C_ends XE2_.out).2.2 (HH.out.C_ends XE2_.out).2.1 (HH.out.C_rows XR3_.out).2.2 (HH.out.C_rows XR3_.out).2.1 (HH.out.C_ends XE4_.out).2.2 (HH.out.C_ends XE4_.out).2.1 HT3.out).mono ?_; rintro e wa3 ⟨u_, rfl, hS_, hb_⟩; obtain ⟨U3, q3, rfl⟩ := Kd.S_slice hS_; have hz_ := Hold.alloc (b1 := []) (HH.out.net hS_ hb_) #[.int .i64 x3, .slice U3 X3.length q3] 28; (try clear d00_ d01_ d02_ d10_ d11_ d12_); clear HH hS_ hb_; have HH := Aside0.mk hz_; clear hz_; have d00_ : (wa3.alloc (Obj.cells #[.int .i64 x3, .slice U3 X3.length q3] 28)).cell? ⟨g1, 0, none⟩ = some (.int .i64 a0_0) := (blk_cell (HH.out.blks (g1, _, _) ((List.mem_cons_of_mem _ (List.mem_cons_of_mem _ (List.mem_cons_of_mem _ XG1_.out))))) 0).trans rfl; have d01_ : (wa3.alloc (Obj.cells #[.int .i64 x3, .slice U3 X3.length q3] 28)).cell? ⟨g1, 1, none⟩ = some (.slice P11 l0_1.length p11) := (blk_cell (HH.out.blks (g1, _, _) ((List.mem_cons_of_mem _ (List.mem_cons_of_mem _ (List.mem_cons_of_mem _ XG1_.out))))) 1).trans rfl; have d02_ : (wa3.alloc (Obj.cells #[.int .i64 x3, .slice U3 X3.length q3] 28)).cell? ⟨g1, 2, none⟩ = some (.slice P12 l0_2.length p12) := (blk_cell (HH.out.blks (g1, _, _) ((List.mem_cons_of_mem _ (List.mem_cons_of_mem _ (List.mem_cons_of_mem _ XG1_.out))))) 2).trans rfl; have d10_ : (wa3.alloc (Obj.cells #[.int .i64 x3, .slice U3 X3.length q3] 28)).cell? ⟨g2, 0, none⟩ = some (.int .i64 a1_0) := (blk_cell (HH.out.blks (g2, _, _) ((List.mem_cons_of_mem _ (List.mem_cons_of_mem _ (List.mem_cons_of_mem _ XG2_.out))))) 0).trans rfl; have d11_ : (wa3.alloc (Obj.cells #[.int .i64 x3, .slice U3 X3.length q3] 28)).cell? ⟨g2, 1, none⟩ = some (.slice P31 l1_1.length p31) := (blk_cell (HH.out.blks (g2, _, _) ((List.mem_cons_of_mem _ (List.mem_cons_of_mem _ (List.mem_cons_of_mem _ XG2_.out))))) 1).trans rfl; have d12_ : (wa3.alloc (Obj.cells #[.int .i64 x3, .slice U3 X3.length q3] 28)).cell? ⟨g2, 2, none⟩ = some (.slice P32 l1_2.length p32) := (blk_cell (HH.out.blks (g2, _, _) ((List.mem_cons_of_mem _ (List.mem_cons_of_mem _ (List.mem_cons_of_mem _ XG2_.out))))) 2).trans rfl) | (go_at_call 31; refine (thompson_Again.calls t4 a0_0 P11 p11 l0_1 P12 p12 l0_2 x4 X4 y4 _ (HH.out.C_rows XR1_.out).2.2 (HH.out.C_rows XR1_.out).2.1 (HH.out.C_ends XE2_.out).2.2 (HH.out.C_ends XE2_.out).2.1 HT4.out).mono ?_; rintro e wa4 ⟨u_, rfl, hS_, hb_⟩; obtain ⟨U4, q4, rfl⟩ := Kd.S_slice hS_; have hz_ := Hold.alloc (b1 := []) (HH.out.net hS_ hb_) #[.int .i64 x4, .slice U4 X4.length q4] 28; (try clear d00_ d01_ d02_ d10_ d11_ d12_); clear HH hS_ hb_; have HH := Aside0.mk hz_; clear hz_; have d00_ : (wa4.alloc (Obj.cells #[.int .i64 x4, .slice U4 X4.length q4] 28)).cell? ⟨g1, 0, none⟩ = some (.int .i64 a0_0) := (blk_cell (HH.out.blks (g1, _, _) ((List.mem_cons_of_mem _ (List.mem_cons_of_mem _ (List.mem_cons_of_mem _ (List.mem_cons_of_mem _ XG1_.out)))))) 0).trans rfl; have d01_ : (wa4.alloc (Obj.cells #[.int .i64 x4, .slice U4 X4.length q4] 28)).cell? ⟨g1, 1, none⟩ = some (.slice P11 l0_1.length p11) := (blk_cell (HH.out.blks (g1, _, _) ((List.mem_cons_of_mem _ (List.mem_cons_of_mem _ (List.mem_cons_of_mem _ (List.mem_cons_of_mem _ XG1_.out)))))) 1).trans rfl; have d02_ : (wa4.alloc (Obj.cells #[.int .i64 x4, .slice U4 X4.length q4] 28)).cell? ⟨g1, 2, none⟩ = some (.slice P12 l0_2.length p12) := (blk_cell (HH.out.blks (g1, _, _) ((List.mem_cons_of_mem _ (List.mem_cons_of_mem _ (List.mem_cons_of_mem _ (List.mem_cons_of_mem _ XG1_.out)))))) 2).trans rfl; have d10_ : (wa4.alloc (Obj.cells #[.int .i64 x4, .slice U4 X4.length q4] 28)).cell? ⟨g2, 0, none⟩ = some (.int .i64 a1_0) := (blk_cell (HH.out.blks (g2, _, _) ((List.mem_cons_of_mem _ (List.mem_cons_of_mem _ (List.mem_cons_of_mem _ (List.mem_cons_of_mem _ XG2_.out)))))) 0).trans rfl; have d11_ : (wa4.alloc (Obj.cells #[.int .i64 x4, .slice U4 X4.length q4] 28)).cell? ⟨g2, 1, none⟩ = some (.slice P31 l1_1.length p31) := (blk_cell (HH.out.blks (g2, _, _) ((List.mem_cons_of_mem _ (List.mem_cons_of_mem _ (List.mem_cons_of_mem _ (List.mem_cons_of_mem _ XG2_.out)))))) 1).trans rfl; have d12_ : (wa4.alloc (Obj.cells #[.int .i64 x4, .slice U4 X4.length q4] 28)).cell? ⟨g2, 2, none⟩ = some (.slice P32 l1_2.length p32) := (blk_cell (HH.out.blks (g2, _, _) ((List.mem_cons_of_mem _ (List.mem_cons_of_mem _ (List.mem_cons_of_mem _ (List.mem_cons_of_mem _ XG2_.out)))))) 2).trans rfl))
  (try clear d00_ d01_ d02_ d10_ d11_ d12_)
  obtain ⟨B2, N2, h_, hT1_, hT2_, hT3_, hT4_, hG1_, hG2_, hG3_, hM0_, hM1_, hM2_, hU1_, hU2_, hU3_, hU4_, hN5_⟩ : ∃ (B2 : List (Nat × Array Value × TypeId)) (N2 : List (Value × List (List S82))), Hold w (wa4.alloc (Obj.cells #[.int .i64 x4, .slice U4 X4.length q4] 28)) B2 N2 R1 E1 ∧ (wa1.heap.size, #[.int .i64 x1, .slice U1 X1.length q1], 28) ∈ B2 ∧ (wa2.heap.size, #[.int .i64 x2, .slice U2 X2.length q2], 28) ∈ B2 ∧ (wa3.heap.size, #[.int .i64 x3, .slice U3 X3.length q3], 28) ∈ B2 ∧ (wa4.heap.size, #[.int .i64 x4, .slice U4 X4.length q4], 28) ∈ B2 ∧ (g1, #[.int .i64 a0_0, .slice P11 l0_1.length p11, .slice P12 l0_2.length p12], 25) ∈ B2 ∧ (g2, #[.int .i64 a1_0, .slice P31 l1_1.length p31, .slice P32 l1_2.length p32], 25) ∈ B2 ∧ (g3, #[.int .i64 a2_0, .slice P50 l2_1.length p50], 28) ∈ B2 ∧ (w.heap.size, #[.int .i64 a0_0, .slice A0_1 l0_1.length c0_1, .slice A0_2 l0_2.length c0_2], 25) ∈ B2 ∧ (w.heap.size + 1, #[.int .i64 a1_0, .slice A1_1 l1_1.length c1_1, .slice A1_2 l1_2.length c1_2], 25) ∈ B2 ∧ (w.heap.size + 1 + 1, #[.int .i64 a2_0, .slice A2_1 l2_1.length c2_1], 28) ∈ B2 ∧ (.slice U1 X1.length q1, X1) ∈ N2 ∧ (.slice U2 X2.length q2, X2) ∈ N2 ∧ (.slice U3 X3.length q3, X3) ∈ N2 ∧ (.slice U4 X4.length q4, X4) ∈ N2 ∧ (.slice P50 l2_1.length p50, l2_1) ∈ N2 := ⟨_, _, HH.out, by simp, by simp, by simp, by simp, by simp [XG1_.out], by simp [XG2_.out], by simp [XG3_.out], by simp [XM0_.out], by simp [XM1_.out], by simp [XM2_.out], by simp, by simp, by simp, by simp, by simp [XN5_.out]⟩
  clear HH XG1_ XG2_ XG3_ XM0_ XM1_ XM2_ XN5_
  have HBX : Aside0 (Boxes3 w.heap.size (#[.int .i64 a0_0, .slice A0_1 l0_1.length c0_1, .slice A0_2 l0_2.length c0_2]) (#[.int .i64 a1_0, .slice A1_1 l1_1.length c1_1, .slice A1_2 l1_2.length c1_2]) (#[.int .i64 a2_0, .slice A2_1 l2_1.length c2_1]) (wa4.alloc (Obj.cells #[.int .i64 x4, .slice U4 X4.length q4] 28))) := ⟨h_.blks _ hM0_, h_.blks _ hM1_, h_.blks _ hM2_⟩
  have HH := Aside0.mk h_.drew
  clear h_
  have XT1_ := Aside0.mk hT1_
  clear hT1_
  have XT2_ := Aside0.mk hT2_
  clear hT2_
  have XT3_ := Aside0.mk hT3_
  clear hT3_
  have XT4_ := Aside0.mk hT4_
  clear hT4_
  have XG1_ := Aside0.mk hG1_
  clear hG1_
  have XG2_ := Aside0.mk hG2_
  clear hG2_
  have XG3_ := Aside0.mk hG3_
  clear hG3_
  have XM0_ := Aside0.mk hM0_
  clear hM0_
  have XM1_ := Aside0.mk hM1_
  clear hM1_
  have XM2_ := Aside0.mk hM2_
  clear hM2_
  have XU1_ := Aside0.mk hU1_
  clear hU1_
  have XU2_ := Aside0.mk hU2_
  clear hU2_
  have XU3_ := Aside0.mk hU3_
  clear hU3_
  have XU4_ := Aside0.mk hU4_
  clear hU4_
  have XN5_ := Aside0.mk hN5_
  clear hN5_
  rename_i hKK_
  refine any_order 18 (fun A0 d a' w' => ∃ (t61 t62 t63 t64 t65 t66 t67 t68 t69 t70 t18 t19 t20 t21 : Value) (P10 : Option Addr) (p10 : Nat) (P40 : Option Addr) (p40 : Nat) (P70 : Option Addr) (p70 : Nat) (P90 : Option Addr) (p90 : Nat) (g4 : Nat) (g5 : Nat) (g6 : Nat) (g7 : Nat), a' = putAll A0 [(61, t61), (62, t62), (63, t63), (64, t64), (65, t65), (66, t66), (67, t67), (68, t68), (69, t69), (70, t70), (18, t18), (19, t19), (20, t20), (21, t21)] ∧ Aside0 ((d 0 = true → t61 = .agg #[.int .i64 a0_0, .slice A0_1 l0_1.length c0_1, .slice A0_2 l0_2.length c0_2]) ∧ (d 1 = true → t62 = .agg #[.int .i64 x1, .slice P10 X1.length p10, .bool y1]) ∧ (d 2 = true → t63 = .agg #[.int .i64 a0_0, .slice A0_1 l0_1.length c0_1, .slice A0_2 l0_2.length c0_2]) ∧ (d 3 = true → t64 = .agg #[.int .i64 a1_0, .slice A1_1 l1_1.length c1_1, .slice A1_2 l1_2.length c1_2]) ∧ (d 4 = true → t65 = .agg #[.int .i64 x2, .slice P40 X2.length p40, .bool y2]) ∧ (d 5 = true → t66 = .agg #[.int .i64 a0_0, .slice A0_1 l0_1.length c0_1, .slice A0_2 l0_2.length c0_2]) ∧ (d 6 = true → t67 = .agg #[.int .i64 a1_0, .slice A1_1 l1_1.length c1_1, .slice A1_2 l1_2.length c1_2]) ∧ (d 7 = true → t68 = .agg #[.int .i64 x3, .slice P70 X3.length p70, .bool y3]) ∧ (d 8 = true → t69 = .agg #[.int .i64 a0_0, .slice A0_1 l0_1.length c0_1, .slice A0_2 l0_2.length c0_2]) ∧ (d 9 = true → t70 = .agg #[.int .i64 x4, .slice P90 X4.length p90, .bool y4]) ∧ (d 10 = true → t18 = .pointer (some ⟨g4, 0, none⟩)) ∧ (d 11 = true → t19 = .pointer (some ⟨g5, 0, none⟩)) ∧ (d 12 = true → t20 = .pointer (some ⟨g6, 0, none⟩)) ∧ (d 13 = true → t21 = .pointer (some ⟨g7, 0, none⟩))) ∧ Aside0 (Hold w w' (optl (d 10) (g4, sel (d 14) (#[.int .i64 0, .slice none 0 0, .bool false]) (#[.int .i64 x1, .slice P10 X1.length p10, .bool y1]), 38) ++ (optl (d 11) (g5, sel (d 15) (#[.int .i64 0, .slice none 0 0, .bool false]) (#[.int .i64 x2, .slice P40 X2.length p40, .bool y2]), 38) ++ (optl (d 12) (g6, sel (d 16) (#[.int .i64 0, .slice none 0 0, .bool false]) (#[.int .i64 x3, .slice P70 X3.length p70, .bool y3]), 38) ++ (optl (d 13) (g7, sel (d 17) (#[.int .i64 0, .slice none 0 0, .bool false]) (#[.int .i64 x4, .slice P90 X4.length p90, .bool y4]), 38) ++ B2)))) (optl (d 9) (.slice P90 X4.length p90, X4) ++ (optl (d 7) (.slice P70 X3.length p70, X3) ++ (optl (d 4) (.slice P40 X2.length p40, X2) ++ (optl (d 1) (.slice P10 X1.length p10, X1) ++ N2)))) (R1) (E1))) rfl rfl (by kernel_rfl) ?_ ?_ ?_
  · exact ⟨_, _, _, _, _, _, _, _, _, _, _, _, _, _, none, 0, none, 0, none, 0, none, 0, 0, 0, 0, 0, by first | (simp only [putAll, Act.put, List.setIfInBounds_toArray, List.set_cons_zero, List.set_cons_succ]; done) | (simp only [putAll, Act.put, List.setIfInBounds_toArray, List.set_cons_zero, List.set_cons_succ]; rfl), ⟨none0 (i := 0), none0 (i := 1), none0 (i := 2), none0 (i := 3), none0 (i := 4), none0 (i := 5), none0 (i := 6), none0 (i := 7), none0 (i := 8), none0 (i := 9), none0 (i := 10), none0 (i := 11), none0 (i := 12), none0 (i := 13)⟩, ⟨HH.out⟩⟩
  · intro Q'
    clear hKK_
    refine ⟨?_, ?_, ?_, ?_, ?_, ?_, ?_, ?_, ?_, ?_, ?_, ?_, ?_, ?_, ?_, ?_, ?_, ?_, trivial⟩
    · intro d a' w'
      refine ex_imp fun t61 => ex_imp fun t62 => ex_imp fun t63 => ex_imp fun t64 => ex_imp fun t65 => ex_imp fun t66 => ex_imp fun t67 => ex_imp fun t68 => ex_imp fun t69 => ex_imp fun t70 => ex_imp fun t18 => ex_imp fun t19 => ex_imp fun t20 => ex_imp fun t21 => ex_imp fun P10 => ex_imp fun p10 => ex_imp fun P40 => ex_imp fun p40 => ex_imp fun P70 => ex_imp fun p70 => ex_imp fun P90 => ex_imp fun p90 => ex_imp fun g4 => ex_imp fun g5 => ex_imp fun g6 => ex_imp fun g7 => fun hI hd hcl hdep K hK => ?_
      have ha := hI.1
      have hF := hI.2.1
      have hH := hI.2.2
      clear hI
      have h_ := hH.out
      refine norm_if (a' := ?_) (ha.trans ?_) ?_
      rotate_left
      · simp only [putAll, Act.put, List.setIfInBounds_toArray, List.set_cons_zero, List.set_cons_succ]
        rfl
      have hb_ := h_.blks (w.heap.size, #[.int .i64 a0_0, .slice A0_1 l0_1.length c0_1, .slice A0_2 l0_2.length c0_2], 25) (List.mem_append_right _ (List.mem_append_right _ (List.mem_append_right _ (List.mem_append_right _ XM0_.out))))
      have c00_ : w'.cell? ⟨w.heap.size, 0, none⟩ = some (.int .i64 a0_0) := (blk_cell hb_ 0).trans rfl
      have c01_ : w'.cell? ⟨w.heap.size, 1, none⟩ = some (.slice A0_1 l0_1.length c0_1) := (blk_cell hb_ 1).trans rfl
      have c02_ : w'.cell? ⟨w.heap.size, 2, none⟩ = some (.slice A0_2 l0_2.length c0_2) := (blk_cell hb_ 2).trans rfl
      clear hb_
      refine value_ (w1 := ?_) (v := ?_) (by rfl) rfl ?_ ?_
      rotate_left 2
      · go_simp
        constructor
        · rfl
        · rfl
      refine hK _ _ ⟨_, _, _, _, _, _, _, _, _, _, _, _, _, _, P10, p10, P40, p40, P70, p70, P90, p90, g4, g5, g6, g7, by first | (simp only [putAll, Act.put, List.setIfInBounds_toArray, List.set_cons_zero, List.set_cons_succ]; done) | (simp only [putAll, Act.put, List.setIfInBounds_toArray, List.set_cons_zero, List.set_cons_succ]; rfl) | rfl, ⟨(fun _ => rfl), (kept 0 hF.out.2.1 rfl), (kept 0 hF.out.2.2.1 rfl), (kept 0 hF.out.2.2.2.1 rfl), (kept 0 hF.out.2.2.2.2.1 rfl), (kept 0 hF.out.2.2.2.2.2.1 rfl), (kept 0 hF.out.2.2.2.2.2.2.1 rfl), (kept 0 hF.out.2.2.2.2.2.2.2.1 rfl), (kept 0 hF.out.2.2.2.2.2.2.2.2.1 rfl), (kept 0 hF.out.2.2.2.2.2.2.2.2.2.1 rfl), (kept 0 hF.out.2.2.2.2.2.2.2.2.2.2.1 rfl), (kept 0 hF.out.2.2.2.2.2.2.2.2.2.2.2.1 rfl), (kept 0 hF.out.2.2.2.2.2.2.2.2.2.2.2.2.1 rfl), (kept 0 hF.out.2.2.2.2.2.2.2.2.2.2.2.2.2 rfl)⟩, ⟨?_⟩⟩
      exact hH.out
    · intro d a' w'
      refine ex_imp fun t61 => ex_imp fun t62 => ex_imp fun t63 => ex_imp fun t64 => ex_imp fun t65 => ex_imp fun t66 => ex_imp fun t67 => ex_imp fun t68 => ex_imp fun t69 => ex_imp fun t70 => ex_imp fun t18 => ex_imp fun t19 => ex_imp fun t20 => ex_imp fun t21 => ex_imp fun P10 => ex_imp fun p10 => ex_imp fun P40 => ex_imp fun p40 => ex_imp fun P70 => ex_imp fun p70 => ex_imp fun P90 => ex_imp fun p90 => ex_imp fun g4 => ex_imp fun g5 => ex_imp fun g6 => ex_imp fun g7 => fun hI hd hcl hdep K hK => ?_
      have ha := hI.1
      have hF := hI.2.1
      have hH := hI.2.2
      clear hI
      have e0 := has_run hdep 0 rfl
      obtain rfl := hF.out.1 e0
      have n4 := not_yet hcl 4 1 rfl rfl hd
      have n7 := not_yet hcl 7 4 rfl rfl n4
      have n9 := not_yet hcl 9 7 rfl rfl n7
      have n14 := not_yet hcl 14 1 rfl rfl hd
      have h_ := hH.out
      simp only [hd, n4, n7, n9, n14, optl, sel, cond_true, cond_false, List.nil_append, List.cons_append] at h_
      refine norm_if (a' := ?_) (ha.trans ?_) ?_
      rotate_left
      · simp only [putAll, Act.put, List.setIfInBounds_toArray, List.set_cons_zero, List.set_cons_succ]
        rfl
      refine goes_ Try.func32 (by kernel_rfl) rfl #[.agg #[.int .i64 a0_0, .slice A0_1 l0_1.length c0_1, .slice A0_2 l0_2.length c0_2]] (by rfl) rfl rfl (by simp only [List.map_toArray, List.map_cons, List.map_nil]; rfl) ?_
      with_reducible refine (caesuraref19_Of.calls a0_0 A0_1 c0_1 l0_1 A0_2 c0_2 l0_2 x1 X1 y1 w' (Kd.C_below HR0_1.out h_.low) hc0_1 (Kd.C_below HR0_2.out h_.low) hc0_2 HS1.out).mono ?_
      rintro e wm ⟨v1_, rfl, hS_, hb_⟩
      obtain ⟨Q1_, q1_, rfl⟩ := Kd.S_slice hS_
      refine ⟨_, rfl, ?_⟩
      refine hK _ _ ⟨_, _, _, _, _, _, _, _, _, _, _, _, _, _, Q1_, q1_, P40, p40, P70, p70, P90, p90, g4, g5, g6, g7, by first | (simp only [putAll, Act.put, List.setIfInBounds_toArray, List.set_cons_zero, List.set_cons_succ]; done) | (simp only [putAll, Act.put, List.setIfInBounds_toArray, List.set_cons_zero, List.set_cons_succ]; rfl) | rfl, ⟨(kept 1 hF.out.1 rfl), (fun _ => rfl), (kept 1 hF.out.2.2.1 rfl), (kept 1 hF.out.2.2.2.1 rfl), (kept 1 hF.out.2.2.2.2.1 rfl), (kept 1 hF.out.2.2.2.2.2.1 rfl), (kept 1 hF.out.2.2.2.2.2.2.1 rfl), (kept 1 hF.out.2.2.2.2.2.2.2.1 rfl), (kept 1 hF.out.2.2.2.2.2.2.2.2.1 rfl), (kept 1 hF.out.2.2.2.2.2.2.2.2.2.1 rfl), (kept 1 hF.out.2.2.2.2.2.2.2.2.2.2.1 rfl), (kept 1 hF.out.2.2.2.2.2.2.2.2.2.2.2.1 rfl), (kept 1 hF.out.2.2.2.2.2.2.2.2.2.2.2.2.1 rfl), (kept 1 hF.out.2.2.2.2.2.2.2.2.2.2.2.2.2 rfl)⟩, ⟨?_⟩⟩
      rw [show also d 1 4 = false from n4, show also d 1 7 = false from n7, show also d 1 9 = false from n9, show also d 1 14 = false from n14]
      exact h_.net hS_ hb_
    · intro d a' w'
      refine ex_imp fun t61 => ex_imp fun t62 => ex_imp fun t63 => ex_imp fun t64 => ex_imp fun t65 => ex_imp fun t66 => ex_imp fun t67 => ex_imp fun t68 => ex_imp fun t69 => ex_imp fun t70 => ex_imp fun t18 => ex_imp fun t19 => ex_imp fun t20 => ex_imp fun t21 => ex_imp fun P10 => ex_imp fun p10 => ex_imp fun P40 => ex_imp fun p40 => ex_imp fun P70 => ex_imp fun p70 => ex_imp fun P90 => ex_imp fun p90 => ex_imp fun g4 => ex_imp fun g5 => ex_imp fun g6 => ex_imp fun g7 => fun hI hd hcl hdep K hK => ?_
      have ha := hI.1
      have hF := hI.2.1
      have hH := hI.2.2
      clear hI
      have h_ := hH.out
      refine norm_if (a' := ?_) (ha.trans ?_) ?_
      rotate_left
      · simp only [putAll, Act.put, List.setIfInBounds_toArray, List.set_cons_zero, List.set_cons_succ]
        rfl
      have hb_ := h_.blks (w.heap.size, #[.int .i64 a0_0, .slice A0_1 l0_1.length c0_1, .slice A0_2 l0_2.length c0_2], 25) (List.mem_append_right _ (List.mem_append_right _ (List.mem_append_right _ (List.mem_append_right _ XM0_.out))))
      have c00_ : w'.cell? ⟨w.heap.size, 0, none⟩ = some (.int .i64 a0_0) := (blk_cell hb_ 0).trans rfl
      have c01_ : w'.cell? ⟨w.heap.size, 1, none⟩ = some (.slice A0_1 l0_1.length c0_1) := (blk_cell hb_ 1).trans rfl
      have c02_ : w'.cell? ⟨w.heap.size, 2, none⟩ = some (.slice A0_2 l0_2.length c0_2) := (blk_cell hb_ 2).trans rfl
      clear hb_
      refine value_ (w1 := ?_) (v := ?_) (by rfl) rfl ?_ ?_
      rotate_left 2
      · go_simp
        constructor
        · rfl
        · rfl
      refine hK _ _ ⟨_, _, _, _, _, _, _, _, _, _, _, _, _, _, P10, p10, P40, p40, P70, p70, P90, p90, g4, g5, g6, g7, by first | (simp only [putAll, Act.put, List.setIfInBounds_toArray, List.set_cons_zero, List.set_cons_succ]; done) | (simp only [putAll, Act.put, List.setIfInBounds_toArray, List.set_cons_zero, List.set_cons_succ]; rfl) | rfl, ⟨(kept 2 hF.out.1 rfl), (kept 2 hF.out.2.1 rfl), (fun _ => rfl), (kept 2 hF.out.2.2.2.1 rfl), (kept 2 hF.out.2.2.2.2.1 rfl), (kept 2 hF.out.2.2.2.2.2.1 rfl), (kept 2 hF.out.2.2.2.2.2.2.1 rfl), (kept 2 hF.out.2.2.2.2.2.2.2.1 rfl), (kept 2 hF.out.2.2.2.2.2.2.2.2.1 rfl), (kept 2 hF.out.2.2.2.2.2.2.2.2.2.1 rfl), (kept 2 hF.out.2.2.2.2.2.2.2.2.2.2.1 rfl), (kept 2 hF.out.2.2.2.2.2.2.2.2.2.2.2.1 rfl), (kept 2 hF.out.2.2.2.2.2.2.2.2.2.2.2.2.1 rfl), (kept 2 hF.out.2.2.2.2.2.2.2.2.2.2.2.2.2 rfl)⟩, ⟨?_⟩⟩
      exact hH.out
    · intro d a' w'
      refine ex_imp fun t61 => ex_imp fun t62 => ex_imp fun t63 => ex_imp fun t64 => ex_imp fun t65 => ex_imp fun t66 => ex_imp fun t67 => ex_imp fun t68 => ex_imp fun t69 => ex_imp fun t70 => ex_imp fun t18 => ex_imp fun t19 => ex_imp fun t20 => ex_imp fun t21 => ex_imp fun P10 => ex_imp fun p10 => ex_imp fun P40 => ex_imp fun p40 => ex_imp fun P70 => ex_imp fun p70 => ex_imp fun P90 => ex_imp fun p90 => ex_imp fun g4 => ex_imp fun g5 => ex_imp fun g6 => ex_imp fun g7 => fun hI hd hcl hdep K hK => ?_
      have ha := hI.1
      have hF := hI.2.1
      have hH := hI.2.2
      clear hI
      have h_ := hH.out
      refine norm_if (a' := ?_) (ha.trans ?_) ?_
      rotate_left
      · simp only [putAll, Act.put, List.setIfInBounds_toArray, List.set_cons_zero, List.set_cons_succ]
        rfl
      have hb_ := h_.blks (w.heap.size + 1, #[.int .i64 a1_0, .slice A1_1 l1_1.length c1_1, .slice A1_2 l1_2.length c1_2], 25) (List.mem_append_right _ (List.mem_append_right _ (List.mem_append_right _ (List.mem_append_right _ XM1_.out))))
      have c10_ : w'.cell? ⟨w.heap.size + 1, 0, none⟩ = some (.int .i64 a1_0) := (blk_cell hb_ 0).trans rfl
      have c11_ : w'.cell? ⟨w.heap.size + 1, 1, none⟩ = some (.slice A1_1 l1_1.length c1_1) := (blk_cell hb_ 1).trans rfl
      have c12_ : w'.cell? ⟨w.heap.size + 1, 2, none⟩ = some (.slice A1_2 l1_2.length c1_2) := (blk_cell hb_ 2).trans rfl
      clear hb_
      refine value_ (w1 := ?_) (v := ?_) (by rfl) rfl ?_ ?_
      rotate_left 2
      · go_simp
        constructor
        · rfl
        · rfl
      refine hK _ _ ⟨_, _, _, _, _, _, _, _, _, _, _, _, _, _, P10, p10, P40, p40, P70, p70, P90, p90, g4, g5, g6, g7, by first | (simp only [putAll, Act.put, List.setIfInBounds_toArray, List.set_cons_zero, List.set_cons_succ]; done) | (simp only [putAll, Act.put, List.setIfInBounds_toArray, List.set_cons_zero, List.set_cons_succ]; rfl) | rfl, ⟨(kept 3 hF.out.1 rfl), (kept 3 hF.out.2.1 rfl), (kept 3 hF.out.2.2.1 rfl), (fun _ => rfl), (kept 3 hF.out.2.2.2.2.1 rfl), (kept 3 hF.out.2.2.2.2.2.1 rfl), (kept 3 hF.out.2.2.2.2.2.2.1 rfl), (kept 3 hF.out.2.2.2.2.2.2.2.1 rfl), (kept 3 hF.out.2.2.2.2.2.2.2.2.1 rfl), (kept 3 hF.out.2.2.2.2.2.2.2.2.2.1 rfl), (kept 3 hF.out.2.2.2.2.2.2.2.2.2.2.1 rfl), (kept 3 hF.out.2.2.2.2.2.2.2.2.2.2.2.1 rfl), (kept 3 hF.out.2.2.2.2.2.2.2.2.2.2.2.2.1 rfl), (kept 3 hF.out.2.2.2.2.2.2.2.2.2.2.2.2.2 rfl)⟩, ⟨?_⟩⟩
      exact hH.out
    · intro d a' w'
      refine ex_imp fun t61 => ex_imp fun t62 => ex_imp fun t63 => ex_imp fun t64 => ex_imp fun t65 => ex_imp fun t66 => ex_imp fun t67 => ex_imp fun t68 => ex_imp fun t69 => ex_imp fun t70 => ex_imp fun t18 => ex_imp fun t19 => ex_imp fun t20 => ex_imp fun t21 => ex_imp fun P10 => ex_imp fun p10 => ex_imp fun P40 => ex_imp fun p40 => ex_imp fun P70 => ex_imp fun p70 => ex_imp fun P90 => ex_imp fun p90 => ex_imp fun g4 => ex_imp fun g5 => ex_imp fun g6 => ex_imp fun g7 => fun hI hd hcl hdep K hK => ?_
      have ha := hI.1
      have hF := hI.2.1
      have hH := hI.2.2
      clear hI
      have e2 := has_run hdep 2 rfl
      obtain rfl := hF.out.2.2.1 e2
      have e3 := has_run hdep 3 rfl
      obtain rfl := hF.out.2.2.2.1 e3
      have n7 := not_yet hcl 7 4 rfl rfl hd
      have n9 := not_yet hcl 9 7 rfl rfl n7
      have n15 := not_yet hcl 15 4 rfl rfl hd
      have h_ := hH.out
      simp only [hd, n7, n9, n15, optl, sel, cond_true, cond_false, List.nil_append, List.cons_append] at h_
      refine norm_if (a' := ?_) (ha.trans ?_) ?_
      rotate_left
      · simp only [putAll, Act.put, List.setIfInBounds_toArray, List.set_cons_zero, List.set_cons_succ]
        rfl
      refine goes_ Try.func33 (by kernel_rfl) rfl #[.agg #[.int .i64 a0_0, .slice A0_1 l0_1.length c0_1, .slice A0_2 l0_2.length c0_2], .agg #[.int .i64 a1_0, .slice A1_1 l1_1.length c1_1, .slice A1_2 l1_2.length c1_2]] (by rfl) rfl rfl (by simp only [List.map_toArray, List.map_cons, List.map_nil]; rfl) ?_
      with_reducible refine (caesuraref19_Join.calls a0_0 A0_1 c0_1 l0_1 A0_2 c0_2 l0_2 a1_0 A1_1 c1_1 l1_1 A1_2 c1_2 l1_2 x2 X2 y2 w' (Kd.C_below HR0_1.out h_.low) hc0_1 (Kd.C_below HR0_2.out h_.low) hc0_2 (Kd.C_below HR1_1.out h_.low) hc1_1 (Kd.C_below HR1_2.out h_.low) hc1_2 HS2.out).mono ?_
      rintro e wm ⟨v1_, rfl, hS_, hb_⟩
      obtain ⟨Q1_, q1_, rfl⟩ := Kd.S_slice hS_
      refine ⟨_, rfl, ?_⟩
      refine hK _ _ ⟨_, _, _, _, _, _, _, _, _, _, _, _, _, _, P10, p10, Q1_, q1_, P70, p70, P90, p90, g4, g5, g6, g7, by first | (simp only [putAll, Act.put, List.setIfInBounds_toArray, List.set_cons_zero, List.set_cons_succ]; done) | (simp only [putAll, Act.put, List.setIfInBounds_toArray, List.set_cons_zero, List.set_cons_succ]; rfl) | rfl, ⟨(kept 4 hF.out.1 rfl), (kept 4 hF.out.2.1 rfl), (kept 4 hF.out.2.2.1 rfl), (kept 4 hF.out.2.2.2.1 rfl), (fun _ => rfl), (kept 4 hF.out.2.2.2.2.2.1 rfl), (kept 4 hF.out.2.2.2.2.2.2.1 rfl), (kept 4 hF.out.2.2.2.2.2.2.2.1 rfl), (kept 4 hF.out.2.2.2.2.2.2.2.2.1 rfl), (kept 4 hF.out.2.2.2.2.2.2.2.2.2.1 rfl), (kept 4 hF.out.2.2.2.2.2.2.2.2.2.2.1 rfl), (kept 4 hF.out.2.2.2.2.2.2.2.2.2.2.2.1 rfl), (kept 4 hF.out.2.2.2.2.2.2.2.2.2.2.2.2.1 rfl), (kept 4 hF.out.2.2.2.2.2.2.2.2.2.2.2.2.2 rfl)⟩, ⟨?_⟩⟩
      rw [show also d 4 7 = false from n7, show also d 4 9 = false from n9, show also d 4 15 = false from n15]
      exact h_.net hS_ hb_
    · intro d a' w'
      refine ex_imp fun t61 => ex_imp fun t62 => ex_imp fun t63 => ex_imp fun t64 => ex_imp fun t65 => ex_imp fun t66 => ex_imp fun t67 => ex_imp fun t68 => ex_imp fun t69 => ex_imp fun t70 => ex_imp fun t18 => ex_imp fun t19 => ex_imp fun t20 => ex_imp fun t21 => ex_imp fun P10 => ex_imp fun p10 => ex_imp fun P40 => ex_imp fun p40 => ex_imp fun P70 => ex_imp fun p70 => ex_imp fun P90 => ex_imp fun p90 => ex_imp fun g4 => ex_imp fun g5 => ex_imp fun g6 => ex_imp fun g7 => fun hI hd hcl hdep K hK => ?_
      have ha := hI.1
      have hF := hI.2.1
      have hH := hI.2.2
      clear hI
      have h_ := hH.out
      refine norm_if (a' := ?_) (ha.trans ?_) ?_
      rotate_left
      · simp only [putAll, Act.put, List.setIfInBounds_toArray, List.set_cons_zero, List.set_cons_succ]
        rfl
      have hb_ := h_.blks (w.heap.size, #[.int .i64 a0_0, .slice A0_1 l0_1.length c0_1, .slice A0_2 l0_2.length c0_2], 25) (List.mem_append_right _ (List.mem_append_right _ (List.mem_append_right _ (List.mem_append_right _ XM0_.out))))
      have c00_ : w'.cell? ⟨w.heap.size, 0, none⟩ = some (.int .i64 a0_0) := (blk_cell hb_ 0).trans rfl
      have c01_ : w'.cell? ⟨w.heap.size, 1, none⟩ = some (.slice A0_1 l0_1.length c0_1) := (blk_cell hb_ 1).trans rfl
      have c02_ : w'.cell? ⟨w.heap.size, 2, none⟩ = some (.slice A0_2 l0_2.length c0_2) := (blk_cell hb_ 2).trans rfl
      clear hb_
      refine value_ (w1 := ?_) (v := ?_) (by rfl) rfl ?_ ?_
      rotate_left 2
      · go_simp
        constructor
        · rfl
        · rfl
      refine hK _ _ ⟨_, _, _, _, _, _, _, _, _, _, _, _, _, _, P10, p10, P40, p40, P70, p70, P90, p90, g4, g5, g6, g7, by first | (simp only [putAll, Act.put, List.setIfInBounds_toArray, List.set_cons_zero, List.set_cons_succ]; done) | (simp only [putAll, Act.put, List.setIfInBounds_toArray, List.set_cons_zero, List.set_cons_succ]; rfl) | rfl, ⟨(kept 5 hF.out.1 rfl), (kept 5 hF.out.2.1 rfl), (kept 5 hF.out.2.2.1 rfl), (kept 5 hF.out.2.2.2.1 rfl), (kept 5 hF.out.2.2.2.2.1 rfl), (fun _ => rfl), (kept 5 hF.out.2.2.2.2.2.2.1 rfl), (kept 5 hF.out.2.2.2.2.2.2.2.1 rfl), (kept 5 hF.out.2.2.2.2.2.2.2.2.1 rfl), (kept 5 hF.out.2.2.2.2.2.2.2.2.2.1 rfl), (kept 5 hF.out.2.2.2.2.2.2.2.2.2.2.1 rfl), (kept 5 hF.out.2.2.2.2.2.2.2.2.2.2.2.1 rfl), (kept 5 hF.out.2.2.2.2.2.2.2.2.2.2.2.2.1 rfl), (kept 5 hF.out.2.2.2.2.2.2.2.2.2.2.2.2.2 rfl)⟩, ⟨?_⟩⟩
      exact hH.out
    · intro d a' w'
      refine ex_imp fun t61 => ex_imp fun t62 => ex_imp fun t63 => ex_imp fun t64 => ex_imp fun t65 => ex_imp fun t66 => ex_imp fun t67 => ex_imp fun t68 => ex_imp fun t69 => ex_imp fun t70 => ex_imp fun t18 => ex_imp fun t19 => ex_imp fun t20 => ex_imp fun t21 => ex_imp fun P10 => ex_imp fun p10 => ex_imp fun P40 => ex_imp fun p40 => ex_imp fun P70 => ex_imp fun p70 => ex_imp fun P90 => ex_imp fun p90 => ex_imp fun g4 => ex_imp fun g5 => ex_imp fun g6 => ex_imp fun g7 => fun hI hd hcl hdep K hK => ?_
      have ha := hI.1
      have hF := hI.2.1
      have hH := hI.2.2
      clear hI
      have h_ := hH.out
      refine norm_if (a' := ?_) (ha.trans ?_) ?_
      rotate_left
      · simp only [putAll, Act.put, List.setIfInBounds_toArray, List.set_cons_zero, List.set_cons_succ]
        rfl
      have hb_ := h_.blks (w.heap.size + 1, #[.int .i64 a1_0, .slice A1_1 l1_1.length c1_1, .slice A1_2 l1_2.length c1_2], 25) (List.mem_append_right _ (List.mem_append_right _ (List.mem_append_right _ (List.mem_append_right _ XM1_.out))))
      have c10_ : w'.cell? ⟨w.heap.size + 1, 0, none⟩ = some (.int .i64 a1_0) := (blk_cell hb_ 0).trans rfl
      have c11_ : w'.cell? ⟨w.heap.size + 1, 1, none⟩ = some (.slice A1_1 l1_1.length c1_1) := (blk_cell hb_ 1).trans rfl
      have c12_ : w'.cell? ⟨w.heap.size + 1, 2, none⟩ = some (.slice A1_2 l1_2.length c1_2) := (blk_cell hb_ 2).trans rfl
      clear hb_
      refine value_ (w1 := ?_) (v := ?_) (by rfl) rfl ?_ ?_
      rotate_left 2
      · go_simp
        constructor
        · rfl
        · rfl
      refine hK _ _ ⟨_, _, _, _, _, _, _, _, _, _, _, _, _, _, P10, p10, P40, p40, P70, p70, P90, p90, g4, g5, g6, g7, by first | (simp only [putAll, Act.put, List.setIfInBounds_toArray, List.set_cons_zero, List.set_cons_succ]; done) | (simp only [putAll, Act.put, List.setIfInBounds_toArray, List.set_cons_zero, List.set_cons_succ]; rfl) | rfl, ⟨(kept 6 hF.out.1 rfl), (kept 6 hF.out.2.1 rfl), (kept 6 hF.out.2.2.1 rfl), (kept 6 hF.out.2.2.2.1 rfl), (kept 6 hF.out.2.2.2.2.1 rfl), (kept 6 hF.out.2.2.2.2.2.1 rfl), (fun _ => rfl), (kept 6 hF.out.2.2.2.2.2.2.2.1 rfl), (kept 6 hF.out.2.2.2.2.2.2.2.2.1 rfl), (kept 6 hF.out.2.2.2.2.2.2.2.2.2.1 rfl), (kept 6 hF.out.2.2.2.2.2.2.2.2.2.2.1 rfl), (kept 6 hF.out.2.2.2.2.2.2.2.2.2.2.2.1 rfl), (kept 6 hF.out.2.2.2.2.2.2.2.2.2.2.2.2.1 rfl), (kept 6 hF.out.2.2.2.2.2.2.2.2.2.2.2.2.2 rfl)⟩, ⟨?_⟩⟩
      exact hH.out
    · intro d a' w'
      refine ex_imp fun t61 => ex_imp fun t62 => ex_imp fun t63 => ex_imp fun t64 => ex_imp fun t65 => ex_imp fun t66 => ex_imp fun t67 => ex_imp fun t68 => ex_imp fun t69 => ex_imp fun t70 => ex_imp fun t18 => ex_imp fun t19 => ex_imp fun t20 => ex_imp fun t21 => ex_imp fun P10 => ex_imp fun p10 => ex_imp fun P40 => ex_imp fun p40 => ex_imp fun P70 => ex_imp fun p70 => ex_imp fun P90 => ex_imp fun p90 => ex_imp fun g4 => ex_imp fun g5 => ex_imp fun g6 => ex_imp fun g7 => fun hI hd hcl hdep K hK => ?_
      have ha := hI.1
      have hF := hI.2.1
      have hH := hI.2.2
      clear hI
      have e5 := has_run hdep 5 rfl
      obtain rfl := hF.out.2.2.2.2.2.1 e5
      have e6 := has_run hdep 6 rfl
      obtain rfl := hF.out.2.2.2.2.2.2.1 e6
      have n9 := not_yet hcl 9 7 rfl rfl hd
      have n16 := not_yet hcl 16 7 rfl rfl hd
      have h_ := hH.out
      simp only [hd, n9, n16, optl, sel, cond_true, cond_false, List.nil_append, List.cons_append] at h_
      refine norm_if (a' := ?_) (ha.trans ?_) ?_
      rotate_left
      · simp only [putAll, Act.put, List.setIfInBounds_toArray, List.set_cons_zero, List.set_cons_succ]
        rfl
      refine goes_ Try.func34 (by kernel_rfl) rfl #[.agg #[.int .i64 a0_0, .slice A0_1 l0_1.length c0_1, .slice A0_2 l0_2.length c0_2], .agg #[.int .i64 a1_0, .slice A1_1 l1_1.length c1_1, .slice A1_2 l1_2.length c1_2]] (by rfl) rfl rfl (by simp only [List.map_toArray, List.map_cons, List.map_nil]; rfl) ?_
      with_reducible refine (caesuraref19_Either.calls a0_0 A0_1 c0_1 l0_1 A0_2 c0_2 l0_2 a1_0 A1_1 c1_1 l1_1 A1_2 c1_2 l1_2 x3 X3 y3 w' (Kd.C_below HR0_1.out h_.low) hc0_1 (Kd.C_below HR0_2.out h_.low) hc0_2 (Kd.C_below HR1_1.out h_.low) hc1_1 (Kd.C_below HR1_2.out h_.low) hc1_2 HS3.out).mono ?_
      rintro e wm ⟨v1_, rfl, hS_, hb_⟩
      obtain ⟨Q1_, q1_, rfl⟩ := Kd.S_slice hS_
      refine ⟨_, rfl, ?_⟩
      refine hK _ _ ⟨_, _, _, _, _, _, _, _, _, _, _, _, _, _, P10, p10, P40, p40, Q1_, q1_, P90, p90, g4, g5, g6, g7, by first | (simp only [putAll, Act.put, List.setIfInBounds_toArray, List.set_cons_zero, List.set_cons_succ]; done) | (simp only [putAll, Act.put, List.setIfInBounds_toArray, List.set_cons_zero, List.set_cons_succ]; rfl) | rfl, ⟨(kept 7 hF.out.1 rfl), (kept 7 hF.out.2.1 rfl), (kept 7 hF.out.2.2.1 rfl), (kept 7 hF.out.2.2.2.1 rfl), (kept 7 hF.out.2.2.2.2.1 rfl), (kept 7 hF.out.2.2.2.2.2.1 rfl), (kept 7 hF.out.2.2.2.2.2.2.1 rfl), (fun _ => rfl), (kept 7 hF.out.2.2.2.2.2.2.2.2.1 rfl), (kept 7 hF.out.2.2.2.2.2.2.2.2.2.1 rfl), (kept 7 hF.out.2.2.2.2.2.2.2.2.2.2.1 rfl), (kept 7 hF.out.2.2.2.2.2.2.2.2.2.2.2.1 rfl), (kept 7 hF.out.2.2.2.2.2.2.2.2.2.2.2.2.1 rfl), (kept 7 hF.out.2.2.2.2.2.2.2.2.2.2.2.2.2 rfl)⟩, ⟨?_⟩⟩
      rw [show also d 7 9 = false from n9, show also d 7 16 = false from n16]
      exact h_.net hS_ hb_
    · intro d a' w'
      refine ex_imp fun t61 => ex_imp fun t62 => ex_imp fun t63 => ex_imp fun t64 => ex_imp fun t65 => ex_imp fun t66 => ex_imp fun t67 => ex_imp fun t68 => ex_imp fun t69 => ex_imp fun t70 => ex_imp fun t18 => ex_imp fun t19 => ex_imp fun t20 => ex_imp fun t21 => ex_imp fun P10 => ex_imp fun p10 => ex_imp fun P40 => ex_imp fun p40 => ex_imp fun P70 => ex_imp fun p70 => ex_imp fun P90 => ex_imp fun p90 => ex_imp fun g4 => ex_imp fun g5 => ex_imp fun g6 => ex_imp fun g7 => fun hI hd hcl hdep K hK => ?_
      have ha := hI.1
      have hF := hI.2.1
      have hH := hI.2.2
      clear hI
      have h_ := hH.out
      refine norm_if (a' := ?_) (ha.trans ?_) ?_
      rotate_left
      · simp only [putAll, Act.put, List.setIfInBounds_toArray, List.set_cons_zero, List.set_cons_succ]
        rfl
      have hb_ := h_.blks (w.heap.size, #[.int .i64 a0_0, .slice A0_1 l0_1.length c0_1, .slice A0_2 l0_2.length c0_2], 25) (List.mem_append_right _ (List.mem_append_right _ (List.mem_append_right _ (List.mem_append_right _ XM0_.out))))
      have c00_ : w'.cell? ⟨w.heap.size, 0, none⟩ = some (.int .i64 a0_0) := (blk_cell hb_ 0).trans rfl
      have c01_ : w'.cell? ⟨w.heap.size, 1, none⟩ = some (.slice A0_1 l0_1.length c0_1) := (blk_cell hb_ 1).trans rfl
      have c02_ : w'.cell? ⟨w.heap.size, 2, none⟩ = some (.slice A0_2 l0_2.length c0_2) := (blk_cell hb_ 2).trans rfl
      clear hb_
      refine value_ (w1 := ?_) (v := ?_) (by rfl) rfl ?_ ?_
      rotate_left 2
      · go_simp
        constructor
        · rfl
        · rfl
      refine hK _ _ ⟨_, _, _, _, _, _, _, _, _, _, _, _, _, _, P10, p10, P40, p40, P70, p70, P90, p90, g4, g5, g6, g7, by first | (simp only [putAll, Act.put, List.setIfInBounds_toArray, List.set_cons_zero, List.set_cons_succ]; done) | (simp only [putAll, Act.put, List.setIfInBounds_toArray, List.set_cons_zero, List.set_cons_succ]; rfl) | rfl, ⟨(kept 8 hF.out.1 rfl), (kept 8 hF.out.2.1 rfl), (kept 8 hF.out.2.2.1 rfl), (kept 8 hF.out.2.2.2.1 rfl), (kept 8 hF.out.2.2.2.2.1 rfl), (kept 8 hF.out.2.2.2.2.2.1 rfl), (kept 8 hF.out.2.2.2.2.2.2.1 rfl), (kept 8 hF.out.2.2.2.2.2.2.2.1 rfl), (fun _ => rfl), (kept 8 hF.out.2.2.2.2.2.2.2.2.2.1 rfl), (kept 8 hF.out.2.2.2.2.2.2.2.2.2.2.1 rfl), (kept 8 hF.out.2.2.2.2.2.2.2.2.2.2.2.1 rfl), (kept 8 hF.out.2.2.2.2.2.2.2.2.2.2.2.2.1 rfl), (kept 8 hF.out.2.2.2.2.2.2.2.2.2.2.2.2.2 rfl)⟩, ⟨?_⟩⟩
      exact hH.out
    · intro d a' w'
      refine ex_imp fun t61 => ex_imp fun t62 => ex_imp fun t63 => ex_imp fun t64 => ex_imp fun t65 => ex_imp fun t66 => ex_imp fun t67 => ex_imp fun t68 => ex_imp fun t69 => ex_imp fun t70 => ex_imp fun t18 => ex_imp fun t19 => ex_imp fun t20 => ex_imp fun t21 => ex_imp fun P10 => ex_imp fun p10 => ex_imp fun P40 => ex_imp fun p40 => ex_imp fun P70 => ex_imp fun p70 => ex_imp fun P90 => ex_imp fun p90 => ex_imp fun g4 => ex_imp fun g5 => ex_imp fun g6 => ex_imp fun g7 => fun hI hd hcl hdep K hK => ?_
      have ha := hI.1
      have hF := hI.2.1
      have hH := hI.2.2
      clear hI
      have e8 := has_run hdep 8 rfl
      obtain rfl := hF.out.2.2.2.2.2.2.2.2.1 e8
      have n17 := not_yet hcl 17 9 rfl rfl hd
      have h_ := hH.out
      simp only [hd, n17, optl, sel, cond_true, cond_false, List.nil_append, List.cons_append] at h_
      refine norm_if (a' := ?_) (ha.trans ?_) ?_
      rotate_left
      · simp only [putAll, Act.put, List.setIfInBounds_toArray, List.set_cons_zero, List.set_cons_succ]
        rfl
      refine goes_ Try.func35 (by kernel_rfl) rfl #[.agg #[.int .i64 a0_0, .slice A0_1 l0_1.length c0_1, .slice A0_2 l0_2.length c0_2]] (by rfl) rfl rfl (by simp only [List.map_toArray, List.map_cons, List.map_nil]; rfl) ?_
      with_reducible refine (caesuraref19_Again.calls a0_0 A0_1 c0_1 l0_1 A0_2 c0_2 l0_2 x4 X4 y4 w' (Kd.C_below HR0_1.out h_.low) hc0_1 (Kd.C_below HR0_2.out h_.low) hc0_2 HS4.out).mono ?_
      rintro e wm ⟨v1_, rfl, hS_, hb_⟩
      obtain ⟨Q1_, q1_, rfl⟩ := Kd.S_slice hS_
      refine ⟨_, rfl, ?_⟩
      refine hK _ _ ⟨_, _, _, _, _, _, _, _, _, _, _, _, _, _, P10, p10, P40, p40, P70, p70, Q1_, q1_, g4, g5, g6, g7, by first | (simp only [putAll, Act.put, List.setIfInBounds_toArray, List.set_cons_zero, List.set_cons_succ]; done) | (simp only [putAll, Act.put, List.setIfInBounds_toArray, List.set_cons_zero, List.set_cons_succ]; rfl) | rfl, ⟨(kept 9 hF.out.1 rfl), (kept 9 hF.out.2.1 rfl), (kept 9 hF.out.2.2.1 rfl), (kept 9 hF.out.2.2.2.1 rfl), (kept 9 hF.out.2.2.2.2.1 rfl), (kept 9 hF.out.2.2.2.2.2.1 rfl), (kept 9 hF.out.2.2.2.2.2.2.1 rfl), (kept 9 hF.out.2.2.2.2.2.2.2.1 rfl), (kept 9 hF.out.2.2.2.2.2.2.2.2.1 rfl), (fun _ => rfl), (kept 9 hF.out.2.2.2.2.2.2.2.2.2.2.1 rfl), (kept 9 hF.out.2.2.2.2.2.2.2.2.2.2.2.1 rfl), (kept 9 hF.out.2.2.2.2.2.2.2.2.2.2.2.2.1 rfl), (kept 9 hF.out.2.2.2.2.2.2.2.2.2.2.2.2.2 rfl)⟩, ⟨?_⟩⟩
      rw [show also d 9 17 = false from n17]
      exact h_.net hS_ hb_
    · intro d a' w'
      refine ex_imp fun t61 => ex_imp fun t62 => ex_imp fun t63 => ex_imp fun t64 => ex_imp fun t65 => ex_imp fun t66 => ex_imp fun t67 => ex_imp fun t68 => ex_imp fun t69 => ex_imp fun t70 => ex_imp fun t18 => ex_imp fun t19 => ex_imp fun t20 => ex_imp fun t21 => ex_imp fun P10 => ex_imp fun p10 => ex_imp fun P40 => ex_imp fun p40 => ex_imp fun P70 => ex_imp fun p70 => ex_imp fun P90 => ex_imp fun p90 => ex_imp fun g4 => ex_imp fun g5 => ex_imp fun g6 => ex_imp fun g7 => fun hI hd hcl hdep K hK => ?_
      have ha := hI.1
      have hF := hI.2.1
      have hH := hI.2.2
      clear hI
      have n14 := not_yet hcl 14 10 rfl rfl hd
      have h_ := hH.out
      simp only [hd, n14, optl, sel, cond_true, cond_false, List.nil_append, List.cons_append] at h_
      refine norm_if (a' := ?_) (ha.trans ?_) ?_
      rotate_left
      · simp only [putAll, Act.put, List.setIfInBounds_toArray, List.set_cons_zero, List.set_cons_succ]
        rfl
      refine value_ (w1 := ?_) (v := ?_) (by rfl) rfl ?_ ?_
      rotate_left 2
      · go_simp
        constructor
        · rfl
        · rfl
      refine hK _ _ ⟨_, _, _, _, _, _, _, _, _, _, _, _, _, _, P10, p10, P40, p40, P70, p70, P90, p90, w'.heap.size, g5, g6, g7, by first | (simp only [putAll, Act.put, List.setIfInBounds_toArray, List.set_cons_zero, List.set_cons_succ]; done) | (simp only [putAll, Act.put, List.setIfInBounds_toArray, List.set_cons_zero, List.set_cons_succ]; rfl) | rfl, ⟨(kept 10 hF.out.1 rfl), (kept 10 hF.out.2.1 rfl), (kept 10 hF.out.2.2.1 rfl), (kept 10 hF.out.2.2.2.1 rfl), (kept 10 hF.out.2.2.2.2.1 rfl), (kept 10 hF.out.2.2.2.2.2.1 rfl), (kept 10 hF.out.2.2.2.2.2.2.1 rfl), (kept 10 hF.out.2.2.2.2.2.2.2.1 rfl), (kept 10 hF.out.2.2.2.2.2.2.2.2.1 rfl), (kept 10 hF.out.2.2.2.2.2.2.2.2.2.1 rfl), (fun _ => rfl), (kept 10 hF.out.2.2.2.2.2.2.2.2.2.2.2.1 rfl), (kept 10 hF.out.2.2.2.2.2.2.2.2.2.2.2.2.1 rfl), (kept 10 hF.out.2.2.2.2.2.2.2.2.2.2.2.2.2 rfl)⟩, ⟨?_⟩⟩
      rw [show also d 10 14 = false from n14]
      exact Hold.alloc (b1 := []) h_ #[.int .i64 0, .slice none 0 0, .bool false] 38
    · intro d a' w'
      refine ex_imp fun t61 => ex_imp fun t62 => ex_imp fun t63 => ex_imp fun t64 => ex_imp fun t65 => ex_imp fun t66 => ex_imp fun t67 => ex_imp fun t68 => ex_imp fun t69 => ex_imp fun t70 => ex_imp fun t18 => ex_imp fun t19 => ex_imp fun t20 => ex_imp fun t21 => ex_imp fun P10 => ex_imp fun p10 => ex_imp fun P40 => ex_imp fun p40 => ex_imp fun P70 => ex_imp fun p70 => ex_imp fun P90 => ex_imp fun p90 => ex_imp fun g4 => ex_imp fun g5 => ex_imp fun g6 => ex_imp fun g7 => fun hI hd hcl hdep K hK => ?_
      have ha := hI.1
      have hF := hI.2.1
      have hH := hI.2.2
      clear hI
      have n15 := not_yet hcl 15 11 rfl rfl hd
      have h_ := hH.out
      simp only [hd, n15, optl, sel, cond_true, cond_false, List.nil_append, List.cons_append] at h_
      refine norm_if (a' := ?_) (ha.trans ?_) ?_
      rotate_left
      · simp only [putAll, Act.put, List.setIfInBounds_toArray, List.set_cons_zero, List.set_cons_succ]
        rfl
      refine value_ (w1 := ?_) (v := ?_) (by rfl) rfl ?_ ?_
      rotate_left 2
      · go_simp
        constructor
        · rfl
        · rfl
      refine hK _ _ ⟨_, _, _, _, _, _, _, _, _, _, _, _, _, _, P10, p10, P40, p40, P70, p70, P90, p90, g4, w'.heap.size, g6, g7, by first | (simp only [putAll, Act.put, List.setIfInBounds_toArray, List.set_cons_zero, List.set_cons_succ]; done) | (simp only [putAll, Act.put, List.setIfInBounds_toArray, List.set_cons_zero, List.set_cons_succ]; rfl) | rfl, ⟨(kept 11 hF.out.1 rfl), (kept 11 hF.out.2.1 rfl), (kept 11 hF.out.2.2.1 rfl), (kept 11 hF.out.2.2.2.1 rfl), (kept 11 hF.out.2.2.2.2.1 rfl), (kept 11 hF.out.2.2.2.2.2.1 rfl), (kept 11 hF.out.2.2.2.2.2.2.1 rfl), (kept 11 hF.out.2.2.2.2.2.2.2.1 rfl), (kept 11 hF.out.2.2.2.2.2.2.2.2.1 rfl), (kept 11 hF.out.2.2.2.2.2.2.2.2.2.1 rfl), (kept 11 hF.out.2.2.2.2.2.2.2.2.2.2.1 rfl), (fun _ => rfl), (kept 11 hF.out.2.2.2.2.2.2.2.2.2.2.2.2.1 rfl), (kept 11 hF.out.2.2.2.2.2.2.2.2.2.2.2.2.2 rfl)⟩, ⟨?_⟩⟩
      rw [show also d 11 15 = false from n15]
      exact Hold.alloc h_ #[.int .i64 0, .slice none 0 0, .bool false] 38
    · intro d a' w'
      refine ex_imp fun t61 => ex_imp fun t62 => ex_imp fun t63 => ex_imp fun t64 => ex_imp fun t65 => ex_imp fun t66 => ex_imp fun t67 => ex_imp fun t68 => ex_imp fun t69 => ex_imp fun t70 => ex_imp fun t18 => ex_imp fun t19 => ex_imp fun t20 => ex_imp fun t21 => ex_imp fun P10 => ex_imp fun p10 => ex_imp fun P40 => ex_imp fun p40 => ex_imp fun P70 => ex_imp fun p70 => ex_imp fun P90 => ex_imp fun p90 => ex_imp fun g4 => ex_imp fun g5 => ex_imp fun g6 => ex_imp fun g7 => fun hI hd hcl hdep K hK => ?_
      have ha := hI.1
      have hF := hI.2.1
      have hH := hI.2.2
      clear hI
      have n16 := not_yet hcl 16 12 rfl rfl hd
      have h_ := hH.out
      simp only [hd, n16, optl, sel, cond_true, cond_false, List.nil_append, List.cons_append] at h_
      refine norm_if (a' := ?_) (ha.trans ?_) ?_
      rotate_left
      · simp only [putAll, Act.put, List.setIfInBounds_toArray, List.set_cons_zero, List.set_cons_succ]
        rfl
      refine value_ (w1 := ?_) (v := ?_) (by rfl) rfl ?_ ?_
      rotate_left 2
      · go_simp
        constructor
        · rfl
        · rfl
      refine hK _ _ ⟨_, _, _, _, _, _, _, _, _, _, _, _, _, _, P10, p10, P40, p40, P70, p70, P90, p90, g4, g5, w'.heap.size, g7, by first | (simp only [putAll, Act.put, List.setIfInBounds_toArray, List.set_cons_zero, List.set_cons_succ]; done) | (simp only [putAll, Act.put, List.setIfInBounds_toArray, List.set_cons_zero, List.set_cons_succ]; rfl) | rfl, ⟨(kept 12 hF.out.1 rfl), (kept 12 hF.out.2.1 rfl), (kept 12 hF.out.2.2.1 rfl), (kept 12 hF.out.2.2.2.1 rfl), (kept 12 hF.out.2.2.2.2.1 rfl), (kept 12 hF.out.2.2.2.2.2.1 rfl), (kept 12 hF.out.2.2.2.2.2.2.1 rfl), (kept 12 hF.out.2.2.2.2.2.2.2.1 rfl), (kept 12 hF.out.2.2.2.2.2.2.2.2.1 rfl), (kept 12 hF.out.2.2.2.2.2.2.2.2.2.1 rfl), (kept 12 hF.out.2.2.2.2.2.2.2.2.2.2.1 rfl), (kept 12 hF.out.2.2.2.2.2.2.2.2.2.2.2.1 rfl), (fun _ => rfl), (kept 12 hF.out.2.2.2.2.2.2.2.2.2.2.2.2.2 rfl)⟩, ⟨?_⟩⟩
      rw [show also d 12 16 = false from n16]
      exact Hold.alloc2 h_ #[.int .i64 0, .slice none 0 0, .bool false] 38
    · intro d a' w'
      refine ex_imp fun t61 => ex_imp fun t62 => ex_imp fun t63 => ex_imp fun t64 => ex_imp fun t65 => ex_imp fun t66 => ex_imp fun t67 => ex_imp fun t68 => ex_imp fun t69 => ex_imp fun t70 => ex_imp fun t18 => ex_imp fun t19 => ex_imp fun t20 => ex_imp fun t21 => ex_imp fun P10 => ex_imp fun p10 => ex_imp fun P40 => ex_imp fun p40 => ex_imp fun P70 => ex_imp fun p70 => ex_imp fun P90 => ex_imp fun p90 => ex_imp fun g4 => ex_imp fun g5 => ex_imp fun g6 => ex_imp fun g7 => fun hI hd hcl hdep K hK => ?_
      have ha := hI.1
      have hF := hI.2.1
      have hH := hI.2.2
      clear hI
      have n17 := not_yet hcl 17 13 rfl rfl hd
      have h_ := hH.out
      simp only [hd, n17, optl, sel, cond_true, cond_false, List.nil_append, List.cons_append] at h_
      refine norm_if (a' := ?_) (ha.trans ?_) ?_
      rotate_left
      · simp only [putAll, Act.put, List.setIfInBounds_toArray, List.set_cons_zero, List.set_cons_succ]
        rfl
      refine value_ (w1 := ?_) (v := ?_) (by rfl) rfl ?_ ?_
      rotate_left 2
      · go_simp
        constructor
        · rfl
        · rfl
      refine hK _ _ ⟨_, _, _, _, _, _, _, _, _, _, _, _, _, _, P10, p10, P40, p40, P70, p70, P90, p90, g4, g5, g6, w'.heap.size, by first | (simp only [putAll, Act.put, List.setIfInBounds_toArray, List.set_cons_zero, List.set_cons_succ]; done) | (simp only [putAll, Act.put, List.setIfInBounds_toArray, List.set_cons_zero, List.set_cons_succ]; rfl) | rfl, ⟨(kept 13 hF.out.1 rfl), (kept 13 hF.out.2.1 rfl), (kept 13 hF.out.2.2.1 rfl), (kept 13 hF.out.2.2.2.1 rfl), (kept 13 hF.out.2.2.2.2.1 rfl), (kept 13 hF.out.2.2.2.2.2.1 rfl), (kept 13 hF.out.2.2.2.2.2.2.1 rfl), (kept 13 hF.out.2.2.2.2.2.2.2.1 rfl), (kept 13 hF.out.2.2.2.2.2.2.2.2.1 rfl), (kept 13 hF.out.2.2.2.2.2.2.2.2.2.1 rfl), (kept 13 hF.out.2.2.2.2.2.2.2.2.2.2.1 rfl), (kept 13 hF.out.2.2.2.2.2.2.2.2.2.2.2.1 rfl), (kept 13 hF.out.2.2.2.2.2.2.2.2.2.2.2.2.1 rfl), (fun _ => rfl)⟩, ⟨?_⟩⟩
      rw [show also d 13 17 = false from n17]
      exact Hold.alloc3 h_ #[.int .i64 0, .slice none 0 0, .bool false] 38
    · intro d a' w'
      refine ex_imp fun t61 => ex_imp fun t62 => ex_imp fun t63 => ex_imp fun t64 => ex_imp fun t65 => ex_imp fun t66 => ex_imp fun t67 => ex_imp fun t68 => ex_imp fun t69 => ex_imp fun t70 => ex_imp fun t18 => ex_imp fun t19 => ex_imp fun t20 => ex_imp fun t21 => ex_imp fun P10 => ex_imp fun p10 => ex_imp fun P40 => ex_imp fun p40 => ex_imp fun P70 => ex_imp fun p70 => ex_imp fun P90 => ex_imp fun p90 => ex_imp fun g4 => ex_imp fun g5 => ex_imp fun g6 => ex_imp fun g7 => fun hI hd hcl hdep K hK => ?_
      have ha := hI.1
      have hF := hI.2.1
      have hH := hI.2.2
      clear hI
      have e1 := has_run hdep 1 rfl
      obtain rfl := hF.out.2.1 e1
      have e10 := has_run hdep 10 rfl
      obtain rfl := hF.out.2.2.2.2.2.2.2.2.2.2.1 e10
      have e11 := has_run hdep 11 rfl
      have e12 := has_run hdep 12 rfl
      have e13 := has_run hdep 13 rfl
      have n15 := not_yet hcl 15 14 rfl rfl hd
      have n16 := not_yet hcl 16 14 rfl rfl hd
      have n17 := not_yet hcl 17 14 rfl rfl hd
      have h_ := hH.out
      simp only [hd, e10, e11, e12, e13, n15, n16, n17, optl, sel, cond_true, cond_false, List.nil_append, List.cons_append] at h_
      refine norm_if (a' := ?_) (ha.trans ?_) ?_
      rotate_left
      · simp only [putAll, Act.put, List.setIfInBounds_toArray, List.set_cons_zero, List.set_cons_succ]
        rfl
      have hb_ := h_.blks (g4, #[.int .i64 0, .slice none 0 0, .bool false], 38) (by simp)
      have hc0_ : w'.cell? ⟨g4, 0, none⟩ = some (.int .i64 0) := (blk_cell hb_ 0).trans rfl
      have hf0_ := blk_frozen hb_ 0
      have hc1_ : w'.cell? ⟨g4, 1, none⟩ = some (.slice none 0 0) := (blk_cell hb_ 1).trans rfl
      have hf1_ := blk_frozen hb_ 1
      have hc2_ : w'.cell? ⟨g4, 2, none⟩ = some (.bool false) := (blk_cell hb_ 2).trans rfl
      have hf2_ := blk_frozen hb_ 2
      clear hb_
      refine skip_ (w1 := ?_) (by rfl) rfl ?_ ?_
      rotate_left
      · go_simp
        rfl
      refine hK _ _ ⟨_, _, _, _, _, _, _, _, _, _, _, _, _, _, P10, p10, P40, p40, P70, p70, P90, p90, g4, g5, g6, g7, by first | (simp only [putAll, Act.put, List.setIfInBounds_toArray, List.set_cons_zero, List.set_cons_succ]; done) | (simp only [putAll, Act.put, List.setIfInBounds_toArray, List.set_cons_zero, List.set_cons_succ]; rfl) | rfl, ⟨(kept 14 hF.out.1 rfl), (kept 14 hF.out.2.1 rfl), (kept 14 hF.out.2.2.1 rfl), (kept 14 hF.out.2.2.2.1 rfl), (kept 14 hF.out.2.2.2.2.1 rfl), (kept 14 hF.out.2.2.2.2.2.1 rfl), (kept 14 hF.out.2.2.2.2.2.2.1 rfl), (kept 14 hF.out.2.2.2.2.2.2.2.1 rfl), (kept 14 hF.out.2.2.2.2.2.2.2.2.1 rfl), (kept 14 hF.out.2.2.2.2.2.2.2.2.2.1 rfl), (kept 14 hF.out.2.2.2.2.2.2.2.2.2.2.1 rfl), (kept 14 hF.out.2.2.2.2.2.2.2.2.2.2.2.1 rfl), (kept 14 hF.out.2.2.2.2.2.2.2.2.2.2.2.2.1 rfl), (kept 14 hF.out.2.2.2.2.2.2.2.2.2.2.2.2.2 rfl)⟩, ⟨?_⟩⟩
      rw [show also d 14 10 = true from e10, show also d 14 11 = true from e11, show also d 14 12 = true from e12, show also d 14 13 = true from e13, show also d 14 15 = false from n15, show also d 14 16 = false from n16, show also d 14 17 = false from n17]
      exact (Hold.put (b1 := []) (b2 := (g5, #[.int .i64 0, .slice none 0 0, .bool false], 38) :: (g6, #[.int .i64 0, .slice none 0 0, .bool false], 38) :: (g7, #[.int .i64 0, .slice none 0 0, .bool false], 38) :: B2) (Hold.put (b1 := []) (b2 := (g5, #[.int .i64 0, .slice none 0 0, .bool false], 38) :: (g6, #[.int .i64 0, .slice none 0 0, .bool false], 38) :: (g7, #[.int .i64 0, .slice none 0 0, .bool false], 38) :: B2) (Hold.put (b1 := []) (b2 := (g5, #[.int .i64 0, .slice none 0 0, .bool false], 38) :: (g6, #[.int .i64 0, .slice none 0 0, .bool false], 38) :: (g7, #[.int .i64 0, .slice none 0 0, .bool false], 38) :: B2) h_ 0 (.int .i64 x1) own38 rfl) 1 (.slice P10 X1.length p10) own38 rfl) 2 (.bool y1) own38 rfl)
    · intro d a' w'
      refine ex_imp fun t61 => ex_imp fun t62 => ex_imp fun t63 => ex_imp fun t64 => ex_imp fun t65 => ex_imp fun t66 => ex_imp fun t67 => ex_imp fun t68 => ex_imp fun t69 => ex_imp fun t70 => ex_imp fun t18 => ex_imp fun t19 => ex_imp fun t20 => ex_imp fun t21 => ex_imp fun P10 => ex_imp fun p10 => ex_imp fun P40 => ex_imp fun p40 => ex_imp fun P70 => ex_imp fun p70 => ex_imp fun P90 => ex_imp fun p90 => ex_imp fun g4 => ex_imp fun g5 => ex_imp fun g6 => ex_imp fun g7 => fun hI hd hcl hdep K hK => ?_
      have ha := hI.1
      have hF := hI.2.1
      have hH := hI.2.2
      clear hI
      have e4 := has_run hdep 4 rfl
      obtain rfl := hF.out.2.2.2.2.1 e4
      have e11 := has_run hdep 11 rfl
      obtain rfl := hF.out.2.2.2.2.2.2.2.2.2.2.2.1 e11
      have e10 := has_run hdep 10 rfl
      have e12 := has_run hdep 12 rfl
      have e13 := has_run hdep 13 rfl
      have e14 := has_run hdep 14 rfl
      have n16 := not_yet hcl 16 15 rfl rfl hd
      have n17 := not_yet hcl 17 15 rfl rfl hd
      have h_ := hH.out
      simp only [hd, e10, e11, e12, e13, e14, n16, n17, optl, sel, cond_true, cond_false, List.nil_append, List.cons_append] at h_
      refine norm_if (a' := ?_) (ha.trans ?_) ?_
      rotate_left
      · simp only [putAll, Act.put, List.setIfInBounds_toArray, List.set_cons_zero, List.set_cons_succ]
        rfl
      have hb_ := h_.blks (g5, #[.int .i64 0, .slice none 0 0, .bool false], 38) (by simp)
      have hc0_ : w'.cell? ⟨g5, 0, none⟩ = some (.int .i64 0) := (blk_cell hb_ 0).trans rfl
      have hf0_ := blk_frozen hb_ 0
      have hc1_ : w'.cell? ⟨g5, 1, none⟩ = some (.slice none 0 0) := (blk_cell hb_ 1).trans rfl
      have hf1_ := blk_frozen hb_ 1
      have hc2_ : w'.cell? ⟨g5, 2, none⟩ = some (.bool false) := (blk_cell hb_ 2).trans rfl
      have hf2_ := blk_frozen hb_ 2
      clear hb_
      refine skip_ (w1 := ?_) (by rfl) rfl ?_ ?_
      rotate_left
      · go_simp
        rfl
      refine hK _ _ ⟨_, _, _, _, _, _, _, _, _, _, _, _, _, _, P10, p10, P40, p40, P70, p70, P90, p90, g4, g5, g6, g7, by first | (simp only [putAll, Act.put, List.setIfInBounds_toArray, List.set_cons_zero, List.set_cons_succ]; done) | (simp only [putAll, Act.put, List.setIfInBounds_toArray, List.set_cons_zero, List.set_cons_succ]; rfl) | rfl, ⟨(kept 15 hF.out.1 rfl), (kept 15 hF.out.2.1 rfl), (kept 15 hF.out.2.2.1 rfl), (kept 15 hF.out.2.2.2.1 rfl), (kept 15 hF.out.2.2.2.2.1 rfl), (kept 15 hF.out.2.2.2.2.2.1 rfl), (kept 15 hF.out.2.2.2.2.2.2.1 rfl), (kept 15 hF.out.2.2.2.2.2.2.2.1 rfl), (kept 15 hF.out.2.2.2.2.2.2.2.2.1 rfl), (kept 15 hF.out.2.2.2.2.2.2.2.2.2.1 rfl), (kept 15 hF.out.2.2.2.2.2.2.2.2.2.2.1 rfl), (kept 15 hF.out.2.2.2.2.2.2.2.2.2.2.2.1 rfl), (kept 15 hF.out.2.2.2.2.2.2.2.2.2.2.2.2.1 rfl), (kept 15 hF.out.2.2.2.2.2.2.2.2.2.2.2.2.2 rfl)⟩, ⟨?_⟩⟩
      rw [show also d 15 10 = true from e10, show also d 15 11 = true from e11, show also d 15 12 = true from e12, show also d 15 13 = true from e13, show also d 15 14 = true from e14, show also d 15 16 = false from n16, show also d 15 17 = false from n17]
      exact (Hold.put (b1 := [(g4, #[.int .i64 x1, .slice P10 X1.length p10, .bool y1], 38)]) (b2 := (g6, #[.int .i64 0, .slice none 0 0, .bool false], 38) :: (g7, #[.int .i64 0, .slice none 0 0, .bool false], 38) :: B2) (Hold.put (b1 := [(g4, #[.int .i64 x1, .slice P10 X1.length p10, .bool y1], 38)]) (b2 := (g6, #[.int .i64 0, .slice none 0 0, .bool false], 38) :: (g7, #[.int .i64 0, .slice none 0 0, .bool false], 38) :: B2) (Hold.put (b1 := [(g4, #[.int .i64 x1, .slice P10 X1.length p10, .bool y1], 38)]) (b2 := (g6, #[.int .i64 0, .slice none 0 0, .bool false], 38) :: (g7, #[.int .i64 0, .slice none 0 0, .bool false], 38) :: B2) h_ 0 (.int .i64 x2) own38 rfl) 1 (.slice P40 X2.length p40) own38 rfl) 2 (.bool y2) own38 rfl)
    · intro d a' w'
      refine ex_imp fun t61 => ex_imp fun t62 => ex_imp fun t63 => ex_imp fun t64 => ex_imp fun t65 => ex_imp fun t66 => ex_imp fun t67 => ex_imp fun t68 => ex_imp fun t69 => ex_imp fun t70 => ex_imp fun t18 => ex_imp fun t19 => ex_imp fun t20 => ex_imp fun t21 => ex_imp fun P10 => ex_imp fun p10 => ex_imp fun P40 => ex_imp fun p40 => ex_imp fun P70 => ex_imp fun p70 => ex_imp fun P90 => ex_imp fun p90 => ex_imp fun g4 => ex_imp fun g5 => ex_imp fun g6 => ex_imp fun g7 => fun hI hd hcl hdep K hK => ?_
      have ha := hI.1
      have hF := hI.2.1
      have hH := hI.2.2
      clear hI
      have e7 := has_run hdep 7 rfl
      obtain rfl := hF.out.2.2.2.2.2.2.2.1 e7
      have e12 := has_run hdep 12 rfl
      obtain rfl := hF.out.2.2.2.2.2.2.2.2.2.2.2.2.1 e12
      have e10 := has_run hdep 10 rfl
      have e11 := has_run hdep 11 rfl
      have e13 := has_run hdep 13 rfl
      have e14 := has_run hdep 14 rfl
      have e15 := has_run hdep 15 rfl
      have n17 := not_yet hcl 17 16 rfl rfl hd
      have h_ := hH.out
      simp only [hd, e10, e11, e12, e13, e14, e15, n17, optl, sel, cond_true, cond_false, List.nil_append, List.cons_append] at h_
      refine norm_if (a' := ?_) (ha.trans ?_) ?_
      rotate_left
      · simp only [putAll, Act.put, List.setIfInBounds_toArray, List.set_cons_zero, List.set_cons_succ]
        rfl
      have hb_ := h_.blks (g6, #[.int .i64 0, .slice none 0 0, .bool false], 38) (by simp)
      have hc0_ : w'.cell? ⟨g6, 0, none⟩ = some (.int .i64 0) := (blk_cell hb_ 0).trans rfl
      have hf0_ := blk_frozen hb_ 0
      have hc1_ : w'.cell? ⟨g6, 1, none⟩ = some (.slice none 0 0) := (blk_cell hb_ 1).trans rfl
      have hf1_ := blk_frozen hb_ 1
      have hc2_ : w'.cell? ⟨g6, 2, none⟩ = some (.bool false) := (blk_cell hb_ 2).trans rfl
      have hf2_ := blk_frozen hb_ 2
      clear hb_
      refine skip_ (w1 := ?_) (by rfl) rfl ?_ ?_
      rotate_left
      · go_simp
        rfl
      refine hK _ _ ⟨_, _, _, _, _, _, _, _, _, _, _, _, _, _, P10, p10, P40, p40, P70, p70, P90, p90, g4, g5, g6, g7, by first | (simp only [putAll, Act.put, List.setIfInBounds_toArray, List.set_cons_zero, List.set_cons_succ]; done) | (simp only [putAll, Act.put, List.setIfInBounds_toArray, List.set_cons_zero, List.set_cons_succ]; rfl) | rfl, ⟨(kept 16 hF.out.1 rfl), (kept 16 hF.out.2.1 rfl), (kept 16 hF.out.2.2.1 rfl), (kept 16 hF.out.2.2.2.1 rfl), (kept 16 hF.out.2.2.2.2.1 rfl), (kept 16 hF.out.2.2.2.2.2.1 rfl), (kept 16 hF.out.2.2.2.2.2.2.1 rfl), (kept 16 hF.out.2.2.2.2.2.2.2.1 rfl), (kept 16 hF.out.2.2.2.2.2.2.2.2.1 rfl), (kept 16 hF.out.2.2.2.2.2.2.2.2.2.1 rfl), (kept 16 hF.out.2.2.2.2.2.2.2.2.2.2.1 rfl), (kept 16 hF.out.2.2.2.2.2.2.2.2.2.2.2.1 rfl), (kept 16 hF.out.2.2.2.2.2.2.2.2.2.2.2.2.1 rfl), (kept 16 hF.out.2.2.2.2.2.2.2.2.2.2.2.2.2 rfl)⟩, ⟨?_⟩⟩
      rw [show also d 16 10 = true from e10, show also d 16 11 = true from e11, show also d 16 12 = true from e12, show also d 16 13 = true from e13, show also d 16 14 = true from e14, show also d 16 15 = true from e15, show also d 16 17 = false from n17]
      exact (Hold.put (b1 := [(g4, #[.int .i64 x1, .slice P10 X1.length p10, .bool y1], 38), (g5, #[.int .i64 x2, .slice P40 X2.length p40, .bool y2], 38)]) (b2 := (g7, #[.int .i64 0, .slice none 0 0, .bool false], 38) :: B2) (Hold.put (b1 := [(g4, #[.int .i64 x1, .slice P10 X1.length p10, .bool y1], 38), (g5, #[.int .i64 x2, .slice P40 X2.length p40, .bool y2], 38)]) (b2 := (g7, #[.int .i64 0, .slice none 0 0, .bool false], 38) :: B2) (Hold.put (b1 := [(g4, #[.int .i64 x1, .slice P10 X1.length p10, .bool y1], 38), (g5, #[.int .i64 x2, .slice P40 X2.length p40, .bool y2], 38)]) (b2 := (g7, #[.int .i64 0, .slice none 0 0, .bool false], 38) :: B2) h_ 0 (.int .i64 x3) own38 rfl) 1 (.slice P70 X3.length p70) own38 rfl) 2 (.bool y3) own38 rfl)
    · intro d a' w'
      refine ex_imp fun t61 => ex_imp fun t62 => ex_imp fun t63 => ex_imp fun t64 => ex_imp fun t65 => ex_imp fun t66 => ex_imp fun t67 => ex_imp fun t68 => ex_imp fun t69 => ex_imp fun t70 => ex_imp fun t18 => ex_imp fun t19 => ex_imp fun t20 => ex_imp fun t21 => ex_imp fun P10 => ex_imp fun p10 => ex_imp fun P40 => ex_imp fun p40 => ex_imp fun P70 => ex_imp fun p70 => ex_imp fun P90 => ex_imp fun p90 => ex_imp fun g4 => ex_imp fun g5 => ex_imp fun g6 => ex_imp fun g7 => fun hI hd hcl hdep K hK => ?_
      have ha := hI.1
      have hF := hI.2.1
      have hH := hI.2.2
      clear hI
      have e9 := has_run hdep 9 rfl
      obtain rfl := hF.out.2.2.2.2.2.2.2.2.2.1 e9
      have e13 := has_run hdep 13 rfl
      obtain rfl := hF.out.2.2.2.2.2.2.2.2.2.2.2.2.2 e13
      have e10 := has_run hdep 10 rfl
      have e11 := has_run hdep 11 rfl
      have e12 := has_run hdep 12 rfl
      have e14 := has_run hdep 14 rfl
      have e15 := has_run hdep 15 rfl
      have e16 := has_run hdep 16 rfl
      have h_ := hH.out
      simp only [hd, e10, e11, e12, e13, e14, e15, e16, optl, sel, cond_true, cond_false, List.nil_append, List.cons_append] at h_
      refine norm_if (a' := ?_) (ha.trans ?_) ?_
      rotate_left
      · simp only [putAll, Act.put, List.setIfInBounds_toArray, List.set_cons_zero, List.set_cons_succ]
        rfl
      have hb_ := h_.blks (g7, #[.int .i64 0, .slice none 0 0, .bool false], 38) (by simp)
      have hc0_ : w'.cell? ⟨g7, 0, none⟩ = some (.int .i64 0) := (blk_cell hb_ 0).trans rfl
      have hf0_ := blk_frozen hb_ 0
      have hc1_ : w'.cell? ⟨g7, 1, none⟩ = some (.slice none 0 0) := (blk_cell hb_ 1).trans rfl
      have hf1_ := blk_frozen hb_ 1
      have hc2_ : w'.cell? ⟨g7, 2, none⟩ = some (.bool false) := (blk_cell hb_ 2).trans rfl
      have hf2_ := blk_frozen hb_ 2
      clear hb_
      refine skip_ (w1 := ?_) (by rfl) rfl ?_ ?_
      rotate_left
      · go_simp
        rfl
      refine hK _ _ ⟨_, _, _, _, _, _, _, _, _, _, _, _, _, _, P10, p10, P40, p40, P70, p70, P90, p90, g4, g5, g6, g7, by first | (simp only [putAll, Act.put, List.setIfInBounds_toArray, List.set_cons_zero, List.set_cons_succ]; done) | (simp only [putAll, Act.put, List.setIfInBounds_toArray, List.set_cons_zero, List.set_cons_succ]; rfl) | rfl, ⟨(kept 17 hF.out.1 rfl), (kept 17 hF.out.2.1 rfl), (kept 17 hF.out.2.2.1 rfl), (kept 17 hF.out.2.2.2.1 rfl), (kept 17 hF.out.2.2.2.2.1 rfl), (kept 17 hF.out.2.2.2.2.2.1 rfl), (kept 17 hF.out.2.2.2.2.2.2.1 rfl), (kept 17 hF.out.2.2.2.2.2.2.2.1 rfl), (kept 17 hF.out.2.2.2.2.2.2.2.2.1 rfl), (kept 17 hF.out.2.2.2.2.2.2.2.2.2.1 rfl), (kept 17 hF.out.2.2.2.2.2.2.2.2.2.2.1 rfl), (kept 17 hF.out.2.2.2.2.2.2.2.2.2.2.2.1 rfl), (kept 17 hF.out.2.2.2.2.2.2.2.2.2.2.2.2.1 rfl), (kept 17 hF.out.2.2.2.2.2.2.2.2.2.2.2.2.2 rfl)⟩, ⟨?_⟩⟩
      rw [show also d 17 10 = true from e10, show also d 17 11 = true from e11, show also d 17 12 = true from e12, show also d 17 13 = true from e13, show also d 17 14 = true from e14, show also d 17 15 = true from e15, show also d 17 16 = true from e16]
      exact (Hold.put (b1 := [(g4, #[.int .i64 x1, .slice P10 X1.length p10, .bool y1], 38), (g5, #[.int .i64 x2, .slice P40 X2.length p40, .bool y2], 38), (g6, #[.int .i64 x3, .slice P70 X3.length p70, .bool y3], 38)]) (b2 := B2) (Hold.put (b1 := [(g4, #[.int .i64 x1, .slice P10 X1.length p10, .bool y1], 38), (g5, #[.int .i64 x2, .slice P40 X2.length p40, .bool y2], 38), (g6, #[.int .i64 x3, .slice P70 X3.length p70, .bool y3], 38)]) (b2 := B2) (Hold.put (b1 := [(g4, #[.int .i64 x1, .slice P10 X1.length p10, .bool y1], 38), (g5, #[.int .i64 x2, .slice P40 X2.length p40, .bool y2], 38), (g6, #[.int .i64 x3, .slice P70 X3.length p70, .bool y3], 38)]) (b2 := B2) h_ 0 (.int .i64 x4) own38 rfl) 1 (.slice P90 X4.length p90) own38 rfl) 2 (.bool y4) own38 rfl)
  intro d a' wk8
  refine ex_imp fun t61 => ex_imp fun t62 => ex_imp fun t63 => ex_imp fun t64 => ex_imp fun t65 => ex_imp fun t66 => ex_imp fun t67 => ex_imp fun t68 => ex_imp fun t69 => ex_imp fun t70 => ex_imp fun t18 => ex_imp fun t19 => ex_imp fun t20 => ex_imp fun t21 => ex_imp fun P10 => ex_imp fun p10 => ex_imp fun P40 => ex_imp fun p40 => ex_imp fun P70 => ex_imp fun p70 => ex_imp fun P90 => ex_imp fun p90 => ex_imp fun g4 => ex_imp fun g5 => ex_imp fun g6 => ex_imp fun g7 => fun hI hall => ?_
  have ha := hI.1
  have hF := hI.2.1
  have hH := hI.2.2
  clear hI
  have e0 := hall 0 (by decide)
  have e1 := hall 1 (by decide)
  have e2 := hall 2 (by decide)
  have e3 := hall 3 (by decide)
  have e4 := hall 4 (by decide)
  have e5 := hall 5 (by decide)
  have e6 := hall 6 (by decide)
  have e7 := hall 7 (by decide)
  have e8 := hall 8 (by decide)
  have e9 := hall 9 (by decide)
  have e10 := hall 10 (by decide)
  have e11 := hall 11 (by decide)
  have e12 := hall 12 (by decide)
  have e13 := hall 13 (by decide)
  have e14 := hall 14 (by decide)
  have e15 := hall 15 (by decide)
  have e16 := hall 16 (by decide)
  have e17 := hall 17 (by decide)
  obtain rfl := hF.out.1 e0
  obtain rfl := hF.out.2.1 e1
  obtain rfl := hF.out.2.2.1 e2
  obtain rfl := hF.out.2.2.2.1 e3
  obtain rfl := hF.out.2.2.2.2.1 e4
  obtain rfl := hF.out.2.2.2.2.2.1 e5
  obtain rfl := hF.out.2.2.2.2.2.2.1 e6
  obtain rfl := hF.out.2.2.2.2.2.2.2.1 e7
  obtain rfl := hF.out.2.2.2.2.2.2.2.2.1 e8
  obtain rfl := hF.out.2.2.2.2.2.2.2.2.2.1 e9
  obtain rfl := hF.out.2.2.2.2.2.2.2.2.2.2.1 e10
  obtain rfl := hF.out.2.2.2.2.2.2.2.2.2.2.2.1 e11
  obtain rfl := hF.out.2.2.2.2.2.2.2.2.2.2.2.2.1 e12
  obtain rfl := hF.out.2.2.2.2.2.2.2.2.2.2.2.2.2 e13
  subst ha
  have h_ := hH.out
  clear hH hF
  simp only [e0, e1, e2, e3, e4, e5, e6, e7, e8, e9, e10, e11, e12, e13, e14, e15, e16, e17, optl, sel, cond_true, cond_false, List.nil_append, List.cons_append] at h_
  clear hall e0 e1 e2 e3 e4 e5 e6 e7 e8 e9 e10 e11 e12 e13 e14 e15 e16 e17
  simp only [putAll, Act.put, List.setIfInBounds_toArray, List.set_cons_zero, List.set_cons_succ]
  obtain ⟨B3, N3, h9_, hY1_, hY2_, hY3_, hY4_, hV1_, hV2_, hV3_, hV4_, zT1_, zT2_, zT3_, zT4_, zG1_, zG2_, zG3_, zM0_, zM1_, zM2_, zU1_, zU2_, zU3_, zU4_, zN5_⟩ : ∃ (B3 : List (Nat × Array Value × TypeId)) (N3 : List (Value × List (List S82))), Hold w wk8 B3 N3 R1 E1 ∧ (.slice P10 X1.length p10, X1) ∈ N3 ∧ (.slice P40 X2.length p40, X2) ∈ N3 ∧ (.slice P70 X3.length p70, X3) ∈ N3 ∧ (.slice P90 X4.length p90, X4) ∈ N3 ∧ (g4, #[.int .i64 x1, .slice P10 X1.length p10, .bool y1], 38) ∈ B3 ∧ (g5, #[.int .i64 x2, .slice P40 X2.length p40, .bool y2], 38) ∈ B3 ∧ (g6, #[.int .i64 x3, .slice P70 X3.length p70, .bool y3], 38) ∈ B3 ∧ (g7, #[.int .i64 x4, .slice P90 X4.length p90, .bool y4], 38) ∈ B3 ∧ (wa1.heap.size, #[.int .i64 x1, .slice U1 X1.length q1], 28) ∈ B3 ∧ (wa2.heap.size, #[.int .i64 x2, .slice U2 X2.length q2], 28) ∈ B3 ∧ (wa3.heap.size, #[.int .i64 x3, .slice U3 X3.length q3], 28) ∈ B3 ∧ (wa4.heap.size, #[.int .i64 x4, .slice U4 X4.length q4], 28) ∈ B3 ∧ (g1, #[.int .i64 a0_0, .slice P11 l0_1.length p11, .slice P12 l0_2.length p12], 25) ∈ B3 ∧ (g2, #[.int .i64 a1_0, .slice P31 l1_1.length p31, .slice P32 l1_2.length p32], 25) ∈ B3 ∧ (g3, #[.int .i64 a2_0, .slice P50 l2_1.length p50], 28) ∈ B3 ∧ (w.heap.size, #[.int .i64 a0_0, .slice A0_1 l0_1.length c0_1, .slice A0_2 l0_2.length c0_2], 25) ∈ B3 ∧ (w.heap.size + 1, #[.int .i64 a1_0, .slice A1_1 l1_1.length c1_1, .slice A1_2 l1_2.length c1_2], 25) ∈ B3 ∧ (w.heap.size + 1 + 1, #[.int .i64 a2_0, .slice A2_1 l2_1.length c2_1], 28) ∈ B3 ∧ (.slice U1 X1.length q1, X1) ∈ N3 ∧ (.slice U2 X2.length q2, X2) ∈ N3 ∧ (.slice U3 X3.length q3, X3) ∈ N3 ∧ (.slice U4 X4.length q4, X4) ∈ N3 ∧ (.slice P50 l2_1.length p50, l2_1) ∈ N3 := ⟨_, _, h_, by simp, by simp, by simp, by simp, by simp, by simp, by simp, by simp, by simp [XT1_.out], by simp [XT2_.out], by simp [XT3_.out], by simp [XT4_.out], by simp [XG1_.out], by simp [XG2_.out], by simp [XG3_.out], by simp [XM0_.out], by simp [XM1_.out], by simp [XM2_.out], by simp [XU1_.out], by simp [XU2_.out], by simp [XU3_.out], by simp [XU4_.out], by simp [XN5_.out]⟩
  clear h_ HH XT1_ XT2_ XT3_ XT4_ XG1_ XG2_ XG3_ XM0_ XM1_ XM2_ XU1_ XU2_ XU3_ XU4_ XN5_
  have XY1_ := Aside0.mk hY1_
  clear hY1_
  have XY2_ := Aside0.mk hY2_
  clear hY2_
  have XY3_ := Aside0.mk hY3_
  clear hY3_
  have XY4_ := Aside0.mk hY4_
  clear hY4_
  have XV1_ := Aside0.mk hV1_
  clear hV1_
  have XV2_ := Aside0.mk hV2_
  clear hV2_
  have XV3_ := Aside0.mk hV3_
  clear hV3_
  have XV4_ := Aside0.mk hV4_
  clear hV4_
  have XT1_ := Aside0.mk zT1_
  clear zT1_
  have XT2_ := Aside0.mk zT2_
  clear zT2_
  have XT3_ := Aside0.mk zT3_
  clear zT3_
  have XT4_ := Aside0.mk zT4_
  clear zT4_
  have XG1_ := Aside0.mk zG1_
  clear zG1_
  have XG2_ := Aside0.mk zG2_
  clear zG2_
  have XG3_ := Aside0.mk zG3_
  clear zG3_
  have XM0_ := Aside0.mk zM0_
  clear zM0_
  have XM1_ := Aside0.mk zM1_
  clear zM1_
  have XM2_ := Aside0.mk zM2_
  clear zM2_
  have XU1_ := Aside0.mk zU1_
  clear zU1_
  have XU2_ := Aside0.mk zU2_
  clear zU2_
  have XU3_ := Aside0.mk zU3_
  clear zU3_
  have XU4_ := Aside0.mk zU4_
  clear zU4_
  have XN5_ := Aside0.mk zN5_
  clear zN5_
  go_wp2
  refine start_ (n := 79) (S := fun w' => Hold w w' B3 N3 R1 E1) (ds := []) #[false, false, false, false, false, false, false, false, false, false, false, false, false, false, false, false, false, false, false, false, false, false, false, false, false, false, false, false, false, false, false, false, false, false, false, false, false, false, false, false, false, false, false, false, false, false, false, false, false, false, false, false, false, false, false, false, false, false, false, false, false, false, false, false, false, false, false, false, false, false, false, false, false, false, false, false, false, false, false] (by kernel_rfl) rfl rfl (h9_.drew) (fun hHeld => ?_)
  clear h9_
  generalize wk8.drew = w9 at hHeld ⊢
  refine with_tabW tells.tab9 tells.bits9 (fun HT_ HW_ => ?_)
  refine take_ (i := 0) (N := some 71) (v := ?_) (a' := ?_) #[true, false, false, false, false, false, false, false, false, false, false, false, false, false, false, false, false, false, false, false, false, false, false, false, false, false, false, false, false, false, false, false, false, false, false, false, false, false, false, false, false, false, false, false, false, false, false, false, false, false, false, false, false, false, false, false, false, false, false, false, false, false, false, false, false, false, false, false, false, false, false, false, false, false, false, false, false, false, false] rfl rfl (take_ofW HT_.out HW_.out (by kernel_rfl)) (fun _ _ _ h => h) (Or.inl ⟨by rfl, ?_⟩) hHeld ?_ ?_
  rotate_left
  · intro w' s0
    have b_ := s0.blks _ XG1_.out
    have c0_ : w'.cell? ⟨g1, 0, none⟩ = some (.int .i64 a0_0) := (blk_cell b_ 0).trans rfl
    have c1_ : w'.cell? ⟨g1, 1, none⟩ = some (.slice P11 l0_1.length p11) := (blk_cell b_ 1).trans rfl
    have c2_ : w'.cell? ⟨g1, 2, none⟩ = some (.slice P12 l0_2.length p12) := (blk_cell b_ 2).trans rfl
    clear b_ s0
    go_simp
    with_reducible rfl
  rotate_left
  · simp only [Act.put, List.setIfInBounds_toArray, List.set_cons_zero, List.set_cons_succ, i64_w, i32_w]
    rfl
  refine take_ (i := 2) (N := some 73) (v := ?_) (a' := ?_) #[true, false, true, false, false, false, false, false, false, false, false, false, false, false, false, false, false, false, false, false, false, false, false, false, false, false, false, false, false, false, false, false, false, false, false, false, false, false, false, false, false, false, false, false, false, false, false, false, false, false, false, false, false, false, false, false, false, false, false, false, false, false, false, false, false, false, false, false, false, false, false, false, false, false, false, false, false, false, false] rfl rfl (take_ofW HT_.out HW_.out (by kernel_rfl)) (fun _ _ _ h => h) (Or.inl ⟨by rfl, ?_⟩) hHeld ?_ ?_
  rotate_left
  · intro w' s0
    have b_ := s0.blks _ XM0_.out
    have c0_ : w'.cell? ⟨w.heap.size, 0, none⟩ = some (.int .i64 a0_0) := (blk_cell b_ 0).trans rfl
    have c1_ : w'.cell? ⟨w.heap.size, 1, none⟩ = some (.slice A0_1 l0_1.length c0_1) := (blk_cell b_ 1).trans rfl
    have c2_ : w'.cell? ⟨w.heap.size, 2, none⟩ = some (.slice A0_2 l0_2.length c0_2) := (blk_cell b_ 2).trans rfl
    clear b_ s0
    go_simp
    with_reducible rfl
  rotate_left
  · simp only [Act.put, List.setIfInBounds_toArray, List.set_cons_zero, List.set_cons_succ, i64_w, i32_w]
    rfl
  refine one_ (i := 1) (N := some 72) #[true, true, true, false, false, false, false, false, false, false, false, false, false, false, false, false, false, false, false, false, false, false, false, false, false, false, false, false, false, false, false, false, false, false, false, false, false, false, false, false, false, false, false, false, false, false, false, false, false, false, false, false, false, false, false, false, false, false, false, false, false, false, false, false, false, false, false, false, false, false, false, false, false, false, false, false, false, false, false] rfl rfl (one_of HT_.out (by kernel_rfl)) (by decide) (fun K hK => ?_)
  refine goes_ Try.func36 (by kernel_rfl) rfl #[.agg #[.int .i64 a0_0, .slice P11 l0_1.length p11, .slice P12 l0_2.length p12]] (by rfl) rfl rfl (by simp only [List.map_toArray, List.map_cons, List.map_nil]; rfl) ?_
  with_reducible refine (thompson_Good.calls a0_0 P11 p11 l0_1 P12 p12 l0_2 G0 w9 (hHeld.C_rows XR1_.out).2.2 (hHeld.C_rows XR1_.out).2.1 (hHeld.C_ends XE2_.out).2.2 (hHeld.C_ends XE2_.out).2.1 hg0.out).mono ?_
  rintro e u1 ⟨rfl, hb_⟩
  refine ⟨_, rfl, ?_⟩
  refine hK.out _ _ (hHeld.step hb_) (fun hHeld => ?_)
  clear hK K
  refine norm_ (a' := ?_) ?_ ?_
  rotate_left
  · show Act.put _ (some 72) _ = _
    simp only [Act.put, List.setIfInBounds_toArray, List.set_cons_zero, List.set_cons_succ, i64_w, i32_w]
    rfl
  refine one_ (i := 3) (N := some 74) #[true, true, true, true, false, false, false, false, false, false, false, false, false, false, false, false, false, false, false, false, false, false, false, false, false, false, false, false, false, false, false, false, false, false, false, false, false, false, false, false, false, false, false, false, false, false, false, false, false, false, false, false, false, false, false, false, false, false, false, false, false, false, false, false, false, false, false, false, false, false, false, false, false, false, false, false, false, false, false] rfl rfl (one_of HT_.out (by kernel_rfl)) (by decide) (fun K hK => ?_)
  refine goes_ Try.func37 (by kernel_rfl) rfl #[.agg #[.int .i64 a0_0, .slice A0_1 l0_1.length c0_1, .slice A0_2 l0_2.length c0_2]] (by rfl) rfl rfl (by simp only [List.map_toArray, List.map_cons, List.map_nil]; rfl) ?_
  with_reducible refine (caesuraref19_Good.calls kg a0_0 A0_1 c0_1 l0_1 A0_2 c0_2 l0_2 G0 u1 (Kd.C_below HR0_1.out hHeld.low) hc0_1 (Kd.C_below HR0_2.out hHeld.low) hc0_2 hg1.out).mono ?_
  rintro e u3 ⟨rfl, hb_⟩
  refine ⟨_, rfl, ?_⟩
  refine hK.out _ _ (hHeld.step hb_) (fun hHeld => ?_)
  clear hK K
  refine norm_ (a' := ?_) ?_ ?_
  rotate_left
  · show Act.put _ (some 74) _ = _
    simp only [Act.put, List.setIfInBounds_toArray, List.set_cons_zero, List.set_cons_succ, i64_w, i32_w]
    rfl
  refine pure_ (i := 4) (N := some 75) (v := ?_) (a' := ?_) #[true, true, true, true, true, false, false, false, false, false, false, false, false, false, false, false, false, false, false, false, false, false, false, false, false, false, false, false, false, false, false, false, false, false, false, false, false, false, false, false, false, false, false, false, false, false, false, false, false, false, false, false, false, false, false, false, false, false, false, false, false, false, false, false, false, false, false, false, false, false, false, false, false, false, false, false, false, false, false] rfl rfl (any_of HT_.out (by kernel_rfl)) (fun _ _ _ h => h) (Or.inl ⟨by rfl, ?_⟩) ?_ ?_
  rotate_left
  · intro w'
    go_simp
    with_reducible rfl
  rotate_left
  · simp only [Act.put, List.setIfInBounds_toArray, List.set_cons_zero, List.set_cons_succ, i64_w, i32_w]
    rfl
  refine pure_ (i := 5) (N := some 76) (v := ?_) (a' := ?_) #[true, true, true, true, true, true, false, false, false, false, false, false, false, false, false, false, false, false, false, false, false, false, false, false, false, false, false, false, false, false, false, false, false, false, false, false, false, false, false, false, false, false, false, false, false, false, false, false, false, false, false, false, false, false, false, false, false, false, false, false, false, false, false, false, false, false, false, false, false, false, false, false, false, false, false, false, false, false, false] rfl rfl (any_of HT_.out (by kernel_rfl)) (fun _ _ _ h => h) (Or.inl ⟨by rfl, ?_⟩) ?_ ?_
  rotate_left
  · intro w'
    go_simp
    with_reducible rfl
  rotate_left
  · simp only [Act.put, List.setIfInBounds_toArray, List.set_cons_zero, List.set_cons_succ, i64_w, i32_w]
    rfl
  refine take_ (i := 6) (N := some 77) (v := ?_) (a' := ?_) #[true, true, true, true, true, true, true, false, false, false, false, false, false, false, false, false, false, false, false, false, false, false, false, false, false, false, false, false, false, false, false, false, false, false, false, false, false, false, false, false, false, false, false, false, false, false, false, false, false, false, false, false, false, false, false, false, false, false, false, false, false, false, false, false, false, false, false, false, false, false, false, false, false, false, false, false, false, false, false] rfl rfl (take_ofW HT_.out HW_.out (by kernel_rfl)) (fun _ _ _ h => h) (Or.inl ⟨by rfl, ?_⟩) hHeld ?_ ?_
  rotate_left
  · intro w' s0
    have b_ := s0.blks _ XG3_.out
    have c0_ : w'.cell? ⟨g3, 0, none⟩ = some (.int .i64 a2_0) := (blk_cell b_ 0).trans rfl
    have c1_ : w'.cell? ⟨g3, 1, none⟩ = some (.slice P50 l2_1.length p50) := (blk_cell b_ 1).trans rfl
    clear b_ s0
    go_simp
    with_reducible rfl
  rotate_left
  · simp only [Act.put, List.setIfInBounds_toArray, List.set_cons_zero, List.set_cons_succ, i64_w, i32_w]
    rfl
  refine take_ (i := 8) (N := some 79) (v := ?_) (a' := ?_) #[true, true, true, true, true, true, true, false, true, false, false, false, false, false, false, false, false, false, false, false, false, false, false, false, false, false, false, false, false, false, false, false, false, false, false, false, false, false, false, false, false, false, false, false, false, false, false, false, false, false, false, false, false, false, false, false, false, false, false, false, false, false, false, false, false, false, false, false, false, false, false, false, false, false, false, false, false, false, false] rfl rfl (take_ofW HT_.out HW_.out (by kernel_rfl)) (fun _ _ _ h => h) (Or.inl ⟨by rfl, ?_⟩) hHeld ?_ ?_
  rotate_left
  · intro w' s0
    have b_ := s0.blks _ XM2_.out
    have c0_ : w'.cell? ⟨w.heap.size + 1 + 1, 0, none⟩ = some (.int .i64 a2_0) := (blk_cell b_ 0).trans rfl
    have c1_ : w'.cell? ⟨w.heap.size + 1 + 1, 1, none⟩ = some (.slice A2_1 l2_1.length c2_1) := (blk_cell b_ 1).trans rfl
    clear b_ s0
    go_simp
    with_reducible rfl
  rotate_left
  · simp only [Act.put, List.setIfInBounds_toArray, List.set_cons_zero, List.set_cons_succ, i64_w, i32_w]
    rfl
  refine one_ (i := 7) (N := some 78) #[true, true, true, true, true, true, true, true, true, false, false, false, false, false, false, false, false, false, false, false, false, false, false, false, false, false, false, false, false, false, false, false, false, false, false, false, false, false, false, false, false, false, false, false, false, false, false, false, false, false, false, false, false, false, false, false, false, false, false, false, false, false, false, false, false, false, false, false, false, false, false, false, false, false, false, false, false, false, false] rfl rfl (one_of HT_.out (by kernel_rfl)) (by decide) (fun K hK => ?_)
  refine goes_ Try.func38 (by kernel_rfl) rfl #[.agg #[.int .i64 a2_0, .slice P50 l2_1.length p50]] (by rfl) rfl rfl (by simp only [List.map_toArray, List.map_cons, List.map_nil]; rfl) ?_
  with_reducible refine (thompson_GoodNet.calls a2_0 P50 p50 l2_1 G2 u3 (hHeld.C_nets XN5_.out).2.2 (hHeld.C_nets XN5_.out).2.1 hg2.out).mono ?_
  rintro e u7 ⟨rfl, hb_⟩
  refine ⟨_, rfl, ?_⟩
  refine hK.out _ _ (hHeld.step hb_) (fun hHeld => ?_)
  clear hK K
  refine norm_ (a' := ?_) ?_ ?_
  rotate_left
  · show Act.put _ (some 78) _ = _
    simp only [Act.put, List.setIfInBounds_toArray, List.set_cons_zero, List.set_cons_succ, i64_w, i32_w]
    rfl
  refine one_ (i := 9) (N := some 80) #[true, true, true, true, true, true, true, true, true, true, false, false, false, false, false, false, false, false, false, false, false, false, false, false, false, false, false, false, false, false, false, false, false, false, false, false, false, false, false, false, false, false, false, false, false, false, false, false, false, false, false, false, false, false, false, false, false, false, false, false, false, false, false, false, false, false, false, false, false, false, false, false, false, false, false, false, false, false, false] rfl rfl (one_of HT_.out (by kernel_rfl)) (by decide) (fun K hK => ?_)
  refine goes_ Try.func39 (by kernel_rfl) rfl #[.agg #[.int .i64 a2_0, .slice A2_1 l2_1.length c2_1]] (by rfl) rfl rfl (by simp only [List.map_toArray, List.map_cons, List.map_nil]; rfl) ?_
  with_reducible refine (caesuraref19_GoodNet.calls kn a2_0 A2_1 c2_1 l2_1 G2 u7 (Kd.C_below HR2_1.out hHeld.low) hc2_1 hg3.out).mono ?_
  rintro e u9 ⟨rfl, hb_⟩
  refine ⟨_, rfl, ?_⟩
  refine hK.out _ _ (hHeld.step hb_) (fun hHeld => ?_)
  clear hK K
  refine norm_ (a' := ?_) ?_ ?_
  rotate_left
  · show Act.put _ (some 80) _ = _
    simp only [Act.put, List.setIfInBounds_toArray, List.set_cons_zero, List.set_cons_succ, i64_w, i32_w]
    rfl
  refine pure_ (i := 10) (N := some 81) (v := ?_) (a' := ?_) #[true, true, true, true, true, true, true, true, true, true, true, false, false, false, false, false, false, false, false, false, false, false, false, false, false, false, false, false, false, false, false, false, false, false, false, false, false, false, false, false, false, false, false, false, false, false, false, false, false, false, false, false, false, false, false, false, false, false, false, false, false, false, false, false, false, false, false, false, false, false, false, false, false, false, false, false, false, false, false] rfl rfl (any_of HT_.out (by kernel_rfl)) (fun _ _ _ h => h) (Or.inl ⟨by rfl, ?_⟩) ?_ ?_
  rotate_left
  · intro w'
    go_simp
    with_reducible rfl
  rotate_left
  · simp only [Act.put, List.setIfInBounds_toArray, List.set_cons_zero, List.set_cons_succ, i64_w, i32_w]
    rfl
  refine pure_ (i := 11) (N := some 82) (v := ?_) (a' := ?_) #[true, true, true, true, true, true, true, true, true, true, true, true, false, false, false, false, false, false, false, false, false, false, false, false, false, false, false, false, false, false, false, false, false, false, false, false, false, false, false, false, false, false, false, false, false, false, false, false, false, false, false, false, false, false, false, false, false, false, false, false, false, false, false, false, false, false, false, false, false, false, false, false, false, false, false, false, false, false, false] rfl rfl (any_of HT_.out (by kernel_rfl)) (fun _ _ _ h => h) (Or.inl ⟨by rfl, ?_⟩) ?_ ?_
  rotate_left
  · intro w'
    go_simp
    with_reducible rfl
  rotate_left
  · simp only [Act.put, List.setIfInBounds_toArray, List.set_cons_zero, List.set_cons_succ, i64_w, i32_w]
    rfl
  refine pure_ (i := 12) (N := some 83) (v := ?_) (a' := ?_) #[true, true, true, true, true, true, true, true, true, true, true, true, true, false, false, false, false, false, false, false, false, false, false, false, false, false, false, false, false, false, false, false, false, false, false, false, false, false, false, false, false, false, false, false, false, false, false, false, false, false, false, false, false, false, false, false, false, false, false, false, false, false, false, false, false, false, false, false, false, false, false, false, false, false, false, false, false, false, false] rfl rfl (any_of HT_.out (by kernel_rfl)) (fun _ _ _ h => h) (Or.inl ⟨by rfl, ?_⟩) ?_ ?_
  rotate_left
  · intro w'
    go_simp
    with_reducible rfl
  rotate_left
  · simp only [Act.put, List.setIfInBounds_toArray, List.set_cons_zero, List.set_cons_succ, i64_w, i32_w]
    rfl
  refine pure_ (i := 14) (N := some 85) (v := ?_) (a' := ?_) #[true, true, true, true, true, true, true, true, true, true, true, true, true, false, true, false, false, false, false, false, false, false, false, false, false, false, false, false, false, false, false, false, false, false, false, false, false, false, false, false, false, false, false, false, false, false, false, false, false, false, false, false, false, false, false, false, false, false, false, false, false, false, false, false, false, false, false, false, false, false, false, false, false, false, false, false, false, false, false] rfl rfl (any_of HT_.out (by kernel_rfl)) (fun _ _ _ h => h) (Or.inl ⟨by rfl, ?_⟩) ?_ ?_
  rotate_left
  · intro w'
    go_simp
    with_reducible rfl
  rotate_left
  · simp only [Act.put, List.setIfInBounds_toArray, List.set_cons_zero, List.set_cons_succ, i64_w, i32_w]
    rfl
  refine take_ (i := 13) (N := some 84) (v := ?_) (a' := ?_) #[true, true, true, true, true, true, true, true, true, true, true, true, true, true, true, false, false, false, false, false, false, false, false, false, false, false, false, false, false, false, false, false, false, false, false, false, false, false, false, false, false, false, false, false, false, false, false, false, false, false, false, false, false, false, false, false, false, false, false, false, false, false, false, false, false, false, false, false, false, false, false, false, false, false, false, false, false, false, false] rfl rfl (take_ofW HT_.out HW_.out (by kernel_rfl)) (fun _ _ _ h => h) (Or.inl ⟨by rfl, ?_⟩) hHeld ?_ ?_
  rotate_left
  · intro w' s0
    have b_ := s0.blks _ XT1_.out
    have c0_ : w'.cell? ⟨wa1.heap.size, 0, none⟩ = some (.int .i64 x1) := (blk_cell b_ 0).trans rfl
    have c1_ : w'.cell? ⟨wa1.heap.size, 1, none⟩ = some (.slice U1 X1.length q1) := (blk_cell b_ 1).trans rfl
    clear b_ s0
    go_simp
    with_reducible rfl
  rotate_left
  · simp only [Act.put, List.setIfInBounds_toArray, List.set_cons_zero, List.set_cons_succ, i64_w, i32_w]
    rfl
  refine take_ (i := 15) (N := some 86) (v := ?_) (a' := ?_) #[true, true, true, true, true, true, true, true, true, true, true, true, true, true, true, true, false, false, false, false, false, false, false, false, false, false, false, false, false, false, false, false, false, false, false, false, false, false, false, false, false, false, false, false, false, false, false, false, false, false, false, false, false, false, false, false, false, false, false, false, false, false, false, false, false, false, false, false, false, false, false, false, false, false, false, false, false, false, false] rfl rfl (take_ofW HT_.out HW_.out (by kernel_rfl)) (fun _ _ _ h => h) (Or.inl ⟨by rfl, ?_⟩) hHeld ?_ ?_
  rotate_left
  · intro w' s0
    have b_ := s0.blks _ XV1_.out
    have c0_ : w'.cell? ⟨g4, 0, none⟩ = some (.int .i64 x1) := (blk_cell b_ 0).trans rfl
    have c1_ : w'.cell? ⟨g4, 1, none⟩ = some (.slice P10 X1.length p10) := (blk_cell b_ 1).trans rfl
    have c2_ : w'.cell? ⟨g4, 2, none⟩ = some (.bool y1) := (blk_cell b_ 2).trans rfl
    clear b_ s0
    go_simp
    with_reducible rfl
  rotate_left
  · simp only [Act.put, List.setIfInBounds_toArray, List.set_cons_zero, List.set_cons_succ, i64_w, i32_w]
    rfl
  refine one_ (i := 16) (N := some 87) #[true, true, true, true, true, true, true, true, true, true, true, true, true, true, true, true, true, false, false, false, false, false, false, false, false, false, false, false, false, false, false, false, false, false, false, false, false, false, false, false, false, false, false, false, false, false, false, false, false, false, false, false, false, false, false, false, false, false, false, false, false, false, false, false, false, false, false, false, false, false, false, false, false, false, false, false, false, false, false] rfl rfl (one_of HT_.out (by kernel_rfl)) (by decide) (fun K hK => ?_)
  refine goes_ Try.func40 (by kernel_rfl) rfl #[.agg #[.int .i64 x1, .slice U1 X1.length q1], .agg #[.int .i64 x1, .slice P10 X1.length p10]] (by rfl) rfl rfl (by simp only [List.map_toArray, List.map_cons, List.map_nil]; rfl) ?_
  with_reducible refine (caesurakeep_Net.calls m1 x1 U1 q1 X1 x1 P10 p10 X1 true u9 (hHeld.C_nets XU1_.out).2.2 (hHeld.C_nets XU1_.out).2.1 (hHeld.C_nets XY1_.out).2.2 (hHeld.C_nets XY1_.out).2.1 hn1.out).mono ?_
  rintro e u16 ⟨rfl, hb_⟩
  refine ⟨_, rfl, ?_⟩
  refine hK.out _ _ (hHeld.step hb_) (fun hHeld => ?_)
  clear hK K
  refine norm_ (a' := ?_) ?_ ?_
  rotate_left
  · show Act.put _ (some 87) _ = _
    simp only [Act.put, List.setIfInBounds_toArray, List.set_cons_zero, List.set_cons_succ, i64_w, i32_w]
    rfl
  refine pure_ (i := 17) (N := some 88) (v := ?_) (a' := ?_) #[true, true, true, true, true, true, true, true, true, true, true, true, true, true, true, true, true, true, false, false, false, false, false, false, false, false, false, false, false, false, false, false, false, false, false, false, false, false, false, false, false, false, false, false, false, false, false, false, false, false, false, false, false, false, false, false, false, false, false, false, false, false, false, false, false, false, false, false, false, false, false, false, false, false, false, false, false, false, false] rfl rfl (any_of HT_.out (by kernel_rfl)) (fun _ _ _ h => h) (Or.inl ⟨by rfl, ?_⟩) ?_ ?_
  rotate_left
  · intro w'
    go_simp
    with_reducible rfl
  rotate_left
  · simp only [Act.put, List.setIfInBounds_toArray, List.set_cons_zero, List.set_cons_succ, i64_w, i32_w]
    rfl
  refine pure_ (i := 18) (N := some 89) (v := ?_) (a' := ?_) #[true, true, true, true, true, true, true, true, true, true, true, true, true, true, true, true, true, true, true, false, false, false, false, false, false, false, false, false, false, false, false, false, false, false, false, false, false, false, false, false, false, false, false, false, false, false, false, false, false, false, false, false, false, false, false, false, false, false, false, false, false, false, false, false, false, false, false, false, false, false, false, false, false, false, false, false, false, false, false] rfl rfl (any_of HT_.out (by kernel_rfl)) (fun _ _ _ h => h) (Or.inl ⟨by rfl, ?_⟩) ?_ ?_
  rotate_left
  · intro w'
    go_simp
    with_reducible rfl
  rotate_left
  · simp only [Act.put, List.setIfInBounds_toArray, List.set_cons_zero, List.set_cons_succ, i64_w, i32_w]
    rfl
  refine pure_ (i := 19) (N := some 90) (v := ?_) (a' := ?_) #[true, true, true, true, true, true, true, true, true, true, true, true, true, true, true, true, true, true, true, true, false, false, false, false, false, false, false, false, false, false, false, false, false, false, false, false, false, false, false, false, false, false, false, false, false, false, false, false, false, false, false, false, false, false, false, false, false, false, false, false, false, false, false, false, false, false, false, false, false, false, false, false, false, false, false, false, false, false, false] rfl rfl (any_of HT_.out (by kernel_rfl)) (fun _ _ _ h => h) (Or.inl ⟨by rfl, ?_⟩) ?_ ?_
  rotate_left
  · intro w'
    go_simp
    with_reducible rfl
  rotate_left
  · simp only [Act.put, List.setIfInBounds_toArray, List.set_cons_zero, List.set_cons_succ, i64_w, i32_w]
    rfl
  refine pure_ (i := 20) (N := some 91) (v := ?_) (a' := ?_) #[true, true, true, true, true, true, true, true, true, true, true, true, true, true, true, true, true, true, true, true, true, false, false, false, false, false, false, false, false, false, false, false, false, false, false, false, false, false, false, false, false, false, false, false, false, false, false, false, false, false, false, false, false, false, false, false, false, false, false, false, false, false, false, false, false, false, false, false, false, false, false, false, false, false, false, false, false, false, false] rfl rfl (any_of HT_.out (by kernel_rfl)) (fun _ _ _ h => h) (Or.inl ⟨by rfl, ?_⟩) ?_ ?_
  rotate_left
  · intro w'
    go_simp
    with_reducible rfl
  rotate_left
  · simp only [Act.put, List.setIfInBounds_toArray, List.set_cons_zero, List.set_cons_succ, i64_w, i32_w]
    rfl
  refine take_ (i := 21) (N := some 92) (v := ?_) (a' := ?_) #[true, true, true, true, true, true, true, true, true, true, true, true, true, true, true, true, true, true, true, true, true, true, false, false, false, false, false, false, false, false, false, false, false, false, false, false, false, false, false, false, false, false, false, false, false, false, false, false, false, false, false, false, false, false, false, false, false, false, false, false, false, false, false, false, false, false, false, false, false, false, false, false, false, false, false, false, false, false, false] rfl rfl (take_ofW HT_.out HW_.out (by kernel_rfl)) (fun _ _ _ h => h) (Or.inl ⟨by rfl, ?_⟩) hHeld ?_ ?_
  rotate_left
  · intro w' s0
    have b_ := s0.blks _ XV1_.out
    have c0_ : w'.cell? ⟨g4, 0, none⟩ = some (.int .i64 x1) := (blk_cell b_ 0).trans rfl
    have c1_ : w'.cell? ⟨g4, 1, none⟩ = some (.slice P10 X1.length p10) := (blk_cell b_ 1).trans rfl
    have c2_ : w'.cell? ⟨g4, 2, none⟩ = some (.bool y1) := (blk_cell b_ 2).trans rfl
    clear b_ s0
    go_simp
    with_reducible rfl
  rotate_left
  · simp only [Act.put, List.setIfInBounds_toArray, List.set_cons_zero, List.set_cons_succ, i64_w, i32_w]
    rfl
  refine pure_ (i := 22) (N := some 93) (v := ?_) (a' := ?_) #[true, true, true, true, true, true, true, true, true, true, true, true, true, true, true, true, true, true, true, true, true, true, true, false, false, false, false, false, false, false, false, false, false, false, false, false, false, false, false, false, false, false, false, false, false, false, false, false, false, false, false, false, false, false, false, false, false, false, false, false, false, false, false, false, false, false, false, false, false, false, false, false, false, false, false, false, false, false, false] rfl rfl (any_of HT_.out (by kernel_rfl)) (fun _ _ _ h => h) (Or.inl ⟨by rfl, ?_⟩) ?_ ?_
  rotate_left
  · intro w'
    go_simp
    with_reducible rfl
  rotate_left
  · simp only [Act.put, List.setIfInBounds_toArray, List.set_cons_zero, List.set_cons_succ, i64_w, i32_w]
    rfl
  refine pure_ (i := 23) (N := some 94) (v := ?_) (a' := ?_) #[true, true, true, true, true, true, true, true, true, true, true, true, true, true, true, true, true, true, true, true, true, true, true, true, false, false, false, false, false, false, false, false, false, false, false, false, false, false, false, false, false, false, false, false, false, false, false, false, false, false, false, false, false, false, false, false, false, false, false, false, false, false, false, false, false, false, false, false, false, false, false, false, false, false, false, false, false, false, false] rfl rfl (any_of HT_.out (by kernel_rfl)) (fun _ _ _ h => h) (Or.inl ⟨by rfl, ?_⟩) ?_ ?_
  rotate_left
  · intro w'
    go_simp
    with_reducible rfl
  rotate_left
  · simp only [Act.put, List.setIfInBounds_toArray, List.set_cons_zero, List.set_cons_succ, i64_w, i32_w]
    rfl
  refine pure_ (i := 24) (N := some 95) (v := ?_) (a' := ?_) #[true, true, true, true, true, true, true, true, true, true, true, true, true, true, true, true, true, true, true, true, true, true, true, true, true, false, false, false, false, false, false, false, false, false, false, false, false, false, false, false, false, false, false, false, false, false, false, false, false, false, false, false, false, false, false, false, false, false, false, false, false, false, false, false, false, false, false, false, false, false, false, false, false, false, false, false, false, false, false] rfl rfl (any_of HT_.out (by kernel_rfl)) (fun _ _ _ h => h) (Or.inl ⟨by rfl, ?_⟩) ?_ ?_
  rotate_left
  · intro w'
    go_simp
    with_reducible rfl
  rotate_left
  · simp only [Act.put, List.setIfInBounds_toArray, List.set_cons_zero, List.set_cons_succ, i64_w, i32_w]
    rfl
  refine pure_ (i := 26) (N := some 97) (v := ?_) (a' := ?_) #[true, true, true, true, true, true, true, true, true, true, true, true, true, true, true, true, true, true, true, true, true, true, true, true, true, false, true, false, false, false, false, false, false, false, false, false, false, false, false, false, false, false, false, false, false, false, false, false, false, false, false, false, false, false, false, false, false, false, false, false, false, false, false, false, false, false, false, false, false, false, false, false, false, false, false, false, false, false, false] rfl rfl (any_of HT_.out (by kernel_rfl)) (fun _ _ _ h => h) (Or.inl ⟨by rfl, ?_⟩) ?_ ?_
  rotate_left
  · intro w'
    go_simp
    with_reducible rfl
  rotate_left
  · simp only [Act.put, List.setIfInBounds_toArray, List.set_cons_zero, List.set_cons_succ, i64_w, i32_w]
    rfl
  refine take_ (i := 25) (N := some 96) (v := ?_) (a' := ?_) #[true, true, true, true, true, true, true, true, true, true, true, true, true, true, true, true, true, true, true, true, true, true, true, true, true, true, true, false, false, false, false, false, false, false, false, false, false, false, false, false, false, false, false, false, false, false, false, false, false, false, false, false, false, false, false, false, false, false, false, false, false, false, false, false, false, false, false, false, false, false, false, false, false, false, false, false, false, false, false] rfl rfl (take_ofW HT_.out HW_.out (by kernel_rfl)) (fun _ _ _ h => h) (Or.inl ⟨by rfl, ?_⟩) hHeld ?_ ?_
  rotate_left
  · intro w' s0
    have b_ := s0.blks _ XT2_.out
    have c0_ : w'.cell? ⟨wa2.heap.size, 0, none⟩ = some (.int .i64 x2) := (blk_cell b_ 0).trans rfl
    have c1_ : w'.cell? ⟨wa2.heap.size, 1, none⟩ = some (.slice U2 X2.length q2) := (blk_cell b_ 1).trans rfl
    clear b_ s0
    go_simp
    with_reducible rfl
  rotate_left
  · simp only [Act.put, List.setIfInBounds_toArray, List.set_cons_zero, List.set_cons_succ, i64_w, i32_w]
    rfl
  refine take_ (i := 27) (N := some 98) (v := ?_) (a' := ?_) #[true, true, true, true, true, true, true, true, true, true, true, true, true, true, true, true, true, true, true, true, true, true, true, true, true, true, true, true, false, false, false, false, false, false, false, false, false, false, false, false, false, false, false, false, false, false, false, false, false, false, false, false, false, false, false, false, false, false, false, false, false, false, false, false, false, false, false, false, false, false, false, false, false, false, false, false, false, false, false] rfl rfl (take_ofW HT_.out HW_.out (by kernel_rfl)) (fun _ _ _ h => h) (Or.inl ⟨by rfl, ?_⟩) hHeld ?_ ?_
  rotate_left
  · intro w' s0
    have b_ := s0.blks _ XV2_.out
    have c0_ : w'.cell? ⟨g5, 0, none⟩ = some (.int .i64 x2) := (blk_cell b_ 0).trans rfl
    have c1_ : w'.cell? ⟨g5, 1, none⟩ = some (.slice P40 X2.length p40) := (blk_cell b_ 1).trans rfl
    have c2_ : w'.cell? ⟨g5, 2, none⟩ = some (.bool y2) := (blk_cell b_ 2).trans rfl
    clear b_ s0
    go_simp
    with_reducible rfl
  rotate_left
  · simp only [Act.put, List.setIfInBounds_toArray, List.set_cons_zero, List.set_cons_succ, i64_w, i32_w]
    rfl
  refine one_ (i := 28) (N := some 99) #[true, true, true, true, true, true, true, true, true, true, true, true, true, true, true, true, true, true, true, true, true, true, true, true, true, true, true, true, true, false, false, false, false, false, false, false, false, false, false, false, false, false, false, false, false, false, false, false, false, false, false, false, false, false, false, false, false, false, false, false, false, false, false, false, false, false, false, false, false, false, false, false, false, false, false, false, false, false, false] rfl rfl (one_of HT_.out (by kernel_rfl)) (by decide) (fun K hK => ?_)
  refine goes_ Try.func40 (by kernel_rfl) rfl #[.agg #[.int .i64 x2, .slice U2 X2.length q2], .agg #[.int .i64 x2, .slice P40 X2.length p40]] (by rfl) rfl rfl (by simp only [List.map_toArray, List.map_cons, List.map_nil]; rfl) ?_
  with_reducible refine (caesurakeep_Net.calls m2 x2 U2 q2 X2 x2 P40 p40 X2 true u16 (hHeld.C_nets XU2_.out).2.2 (hHeld.C_nets XU2_.out).2.1 (hHeld.C_nets XY2_.out).2.2 (hHeld.C_nets XY2_.out).2.1 hn2.out).mono ?_
  rintro e u28 ⟨rfl, hb_⟩
  refine ⟨_, rfl, ?_⟩
  refine hK.out _ _ (hHeld.step hb_) (fun hHeld => ?_)
  clear hK K
  refine norm_ (a' := ?_) ?_ ?_
  rotate_left
  · show Act.put _ (some 99) _ = _
    simp only [Act.put, List.setIfInBounds_toArray, List.set_cons_zero, List.set_cons_succ, i64_w, i32_w]
    rfl
  refine pure_ (i := 29) (N := some 100) (v := ?_) (a' := ?_) #[true, true, true, true, true, true, true, true, true, true, true, true, true, true, true, true, true, true, true, true, true, true, true, true, true, true, true, true, true, true, false, false, false, false, false, false, false, false, false, false, false, false, false, false, false, false, false, false, false, false, false, false, false, false, false, false, false, false, false, false, false, false, false, false, false, false, false, false, false, false, false, false, false, false, false, false, false, false, false] rfl rfl (any_of HT_.out (by kernel_rfl)) (fun _ _ _ h => h) (Or.inl ⟨by rfl, ?_⟩) ?_ ?_
  rotate_left
  · intro w'
    go_simp
    with_reducible rfl
  rotate_left
  · simp only [Act.put, List.setIfInBounds_toArray, List.set_cons_zero, List.set_cons_succ, i64_w, i32_w]
    rfl
  refine pure_ (i := 30) (N := some 101) (v := ?_) (a' := ?_) #[true, true, true, true, true, true, true, true, true, true, true, true, true, true, true, true, true, true, true, true, true, true, true, true, true, true, true, true, true, true, true, false, false, false, false, false, false, false, false, false, false, false, false, false, false, false, false, false, false, false, false, false, false, false, false, false, false, false, false, false, false, false, false, false, false, false, false, false, false, false, false, false, false, false, false, false, false, false, false] rfl rfl (any_of HT_.out (by kernel_rfl)) (fun _ _ _ h => h) (Or.inl ⟨by rfl, ?_⟩) ?_ ?_
  rotate_left
  · intro w'
    go_simp
    with_reducible rfl
  rotate_left
  · simp only [Act.put, List.setIfInBounds_toArray, List.set_cons_zero, List.set_cons_succ, i64_w, i32_w]
    rfl
  refine pure_ (i := 31) (N := some 102) (v := ?_) (a' := ?_) #[true, true, true, true, true, true, true, true, true, true, true, true, true, true, true, true, true, true, true, true, true, true, true, true, true, true, true, true, true, true, true, true, false, false, false, false, false, false, false, false, false, false, false, false, false, false, false, false, false, false, false, false, false, false, false, false, false, false, false, false, false, false, false, false, false, false, false, false, false, false, false, false, false, false, false, false, false, false, false] rfl rfl (any_of HT_.out (by kernel_rfl)) (fun _ _ _ h => h) (Or.inl ⟨by rfl, ?_⟩) ?_ ?_
  rotate_left
  · intro w'
    go_simp
    with_reducible rfl
  rotate_left
  · simp only [Act.put, List.setIfInBounds_toArray, List.set_cons_zero, List.set_cons_succ, i64_w, i32_w]
    rfl
  refine pure_ (i := 32) (N := some 103) (v := ?_) (a' := ?_) #[true, true, true, true, true, true, true, true, true, true, true, true, true, true, true, true, true, true, true, true, true, true, true, true, true, true, true, true, true, true, true, true, true, false, false, false, false, false, false, false, false, false, false, false, false, false, false, false, false, false, false, false, false, false, false, false, false, false, false, false, false, false, false, false, false, false, false, false, false, false, false, false, false, false, false, false, false, false, false] rfl rfl (any_of HT_.out (by kernel_rfl)) (fun _ _ _ h => h) (Or.inl ⟨by rfl, ?_⟩) ?_ ?_
  rotate_left
  · intro w'
    go_simp
    with_reducible rfl
  rotate_left
  · simp only [Act.put, List.setIfInBounds_toArray, List.set_cons_zero, List.set_cons_succ, i64_w, i32_w]
    rfl
  refine take_ (i := 33) (N := some 104) (v := ?_) (a' := ?_) #[true, true, true, true, true, true, true, true, true, true, true, true, true, true, true, true, true, true, true, true, true, true, true, true, true, true, true, true, true, true, true, true, true, true, false, false, false, false, false, false, false, false, false, false, false, false, false, false, false, false, false, false, false, false, false, false, false, false, false, false, false, false, false, false, false, false, false, false, false, false, false, false, false, false, false, false, false, false, false] rfl rfl (take_ofW HT_.out HW_.out (by kernel_rfl)) (fun _ _ _ h => h) (Or.inl ⟨by rfl, ?_⟩) hHeld ?_ ?_
  rotate_left
  · intro w' s0
    have b_ := s0.blks _ XV2_.out
    have c0_ : w'.cell? ⟨g5, 0, none⟩ = some (.int .i64 x2) := (blk_cell b_ 0).trans rfl
    have c1_ : w'.cell? ⟨g5, 1, none⟩ = some (.slice P40 X2.length p40) := (blk_cell b_ 1).trans rfl
    have c2_ : w'.cell? ⟨g5, 2, none⟩ = some (.bool y2) := (blk_cell b_ 2).trans rfl
    clear b_ s0
    go_simp
    with_reducible rfl
  rotate_left
  · simp only [Act.put, List.setIfInBounds_toArray, List.set_cons_zero, List.set_cons_succ, i64_w, i32_w]
    rfl
  refine pure_ (i := 34) (N := some 105) (v := ?_) (a' := ?_) #[true, true, true, true, true, true, true, true, true, true, true, true, true, true, true, true, true, true, true, true, true, true, true, true, true, true, true, true, true, true, true, true, true, true, true, false, false, false, false, false, false, false, false, false, false, false, false, false, false, false, false, false, false, false, false, false, false, false, false, false, false, false, false, false, false, false, false, false, false, false, false, false, false, false, false, false, false, false, false] rfl rfl (any_of HT_.out (by kernel_rfl)) (fun _ _ _ h => h) (Or.inl ⟨by rfl, ?_⟩) ?_ ?_
  rotate_left
  · intro w'
    go_simp
    with_reducible rfl
  rotate_left
  · simp only [Act.put, List.setIfInBounds_toArray, List.set_cons_zero, List.set_cons_succ, i64_w, i32_w]
    rfl
  refine pure_ (i := 35) (N := some 106) (v := ?_) (a' := ?_) #[true, true, true, true, true, true, true, true, true, true, true, true, true, true, true, true, true, true, true, true, true, true, true, true, true, true, true, true, true, true, true, true, true, true, true, true, false, false, false, false, false, false, false, false, false, false, false, false, false, false, false, false, false, false, false, false, false, false, false, false, false, false, false, false, false, false, false, false, false, false, false, false, false, false, false, false, false, false, false] rfl rfl (any_of HT_.out (by kernel_rfl)) (fun _ _ _ h => h) (Or.inl ⟨by rfl, ?_⟩) ?_ ?_
  rotate_left
  · intro w'
    go_simp
    with_reducible rfl
  rotate_left
  · simp only [Act.put, List.setIfInBounds_toArray, List.set_cons_zero, List.set_cons_succ, i64_w, i32_w]
    rfl
  refine pure_ (i := 36) (N := some 107) (v := ?_) (a' := ?_) #[true, true, true, true, true, true, true, true, true, true, true, true, true, true, true, true, true, true, true, true, true, true, true, true, true, true, true, true, true, true, true, true, true, true, true, true, true, false, false, false, false, false, false, false, false, false, false, false, false, false, false, false, false, false, false, false, false, false, false, false, false, false, false, false, false, false, false, false, false, false, false, false, false, false, false, false, false, false, false] rfl rfl (any_of HT_.out (by kernel_rfl)) (fun _ _ _ h => h) (Or.inl ⟨by rfl, ?_⟩) ?_ ?_
  rotate_left
  · intro w'
    go_simp
    with_reducible rfl
  rotate_left
  · simp only [Act.put, List.setIfInBounds_toArray, List.set_cons_zero, List.set_cons_succ, i64_w, i32_w]
    rfl
  refine pure_ (i := 38) (N := some 109) (v := ?_) (a' := ?_) #[true, true, true, true, true, true, true, true, true, true, true, true, true, true, true, true, true, true, true, true, true, true, true, true, true, true, true, true, true, true, true, true, true, true, true, true, true, false, true, false, false, false, false, false, false, false, false, false, false, false, false, false, false, false, false, false, false, false, false, false, false, false, false, false, false, false, false, false, false, false, false, false, false, false, false, false, false, false, false] rfl rfl (any_of HT_.out (by kernel_rfl)) (fun _ _ _ h => h) (Or.inl ⟨by rfl, ?_⟩) ?_ ?_
  rotate_left
  · intro w'
    go_simp
    with_reducible rfl
  rotate_left
  · simp only [Act.put, List.setIfInBounds_toArray, List.set_cons_zero, List.set_cons_succ, i64_w, i32_w]
    rfl
  refine take_ (i := 37) (N := some 108) (v := ?_) (a' := ?_) #[true, true, true, true, true, true, true, true, true, true, true, true, true, true, true, true, true, true, true, true, true, true, true, true, true, true, true, true, true, true, true, true, true, true, true, true, true, true, true, false, false, false, false, false, false, false, false, false, false, false, false, false, false, false, false, false, false, false, false, false, false, false, false, false, false, false, false, false, false, false, false, false, false, false, false, false, false, false, false] rfl rfl (take_ofW HT_.out HW_.out (by kernel_rfl)) (fun _ _ _ h => h) (Or.inl ⟨by rfl, ?_⟩) hHeld ?_ ?_
  rotate_left
  · intro w' s0
    have b_ := s0.blks _ XT3_.out
    have c0_ : w'.cell? ⟨wa3.heap.size, 0, none⟩ = some (.int .i64 x3) := (blk_cell b_ 0).trans rfl
    have c1_ : w'.cell? ⟨wa3.heap.size, 1, none⟩ = some (.slice U3 X3.length q3) := (blk_cell b_ 1).trans rfl
    clear b_ s0
    go_simp
    with_reducible rfl
  rotate_left
  · simp only [Act.put, List.setIfInBounds_toArray, List.set_cons_zero, List.set_cons_succ, i64_w, i32_w]
    rfl
  refine take_ (i := 39) (N := some 110) (v := ?_) (a' := ?_) #[true, true, true, true, true, true, true, true, true, true, true, true, true, true, true, true, true, true, true, true, true, true, true, true, true, true, true, true, true, true, true, true, true, true, true, true, true, true, true, true, false, false, false, false, false, false, false, false, false, false, false, false, false, false, false, false, false, false, false, false, false, false, false, false, false, false, false, false, false, false, false, false, false, false, false, false, false, false, false] rfl rfl (take_ofW HT_.out HW_.out (by kernel_rfl)) (fun _ _ _ h => h) (Or.inl ⟨by rfl, ?_⟩) hHeld ?_ ?_
  rotate_left
  · intro w' s0
    have b_ := s0.blks _ XV3_.out
    have c0_ : w'.cell? ⟨g6, 0, none⟩ = some (.int .i64 x3) := (blk_cell b_ 0).trans rfl
    have c1_ : w'.cell? ⟨g6, 1, none⟩ = some (.slice P70 X3.length p70) := (blk_cell b_ 1).trans rfl
    have c2_ : w'.cell? ⟨g6, 2, none⟩ = some (.bool y3) := (blk_cell b_ 2).trans rfl
    clear b_ s0
    go_simp
    with_reducible rfl
  rotate_left
  · simp only [Act.put, List.setIfInBounds_toArray, List.set_cons_zero, List.set_cons_succ, i64_w, i32_w]
    rfl
  refine one_ (i := 40) (N := some 111) #[true, true, true, true, true, true, true, true, true, true, true, true, true, true, true, true, true, true, true, true, true, true, true, true, true, true, true, true, true, true, true, true, true, true, true, true, true, true, true, true, true, false, false, false, false, false, false, false, false, false, false, false, false, false, false, false, false, false, false, false, false, false, false, false, false, false, false, false, false, false, false, false, false, false, false, false, false, false, false] rfl rfl (one_of HT_.out (by kernel_rfl)) (by decide) (fun K hK => ?_)
  refine goes_ Try.func40 (by kernel_rfl) rfl #[.agg #[.int .i64 x3, .slice U3 X3.length q3], .agg #[.int .i64 x3, .slice P70 X3.length p70]] (by rfl) rfl rfl (by simp only [List.map_toArray, List.map_cons, List.map_nil]; rfl) ?_
  with_reducible refine (caesurakeep_Net.calls m3 x3 U3 q3 X3 x3 P70 p70 X3 true u28 (hHeld.C_nets XU3_.out).2.2 (hHeld.C_nets XU3_.out).2.1 (hHeld.C_nets XY3_.out).2.2 (hHeld.C_nets XY3_.out).2.1 hn3.out).mono ?_
  rintro e u40 ⟨rfl, hb_⟩
  refine ⟨_, rfl, ?_⟩
  refine hK.out _ _ (hHeld.step hb_) (fun hHeld => ?_)
  clear hK K
  refine norm_ (a' := ?_) ?_ ?_
  rotate_left
  · show Act.put _ (some 111) _ = _
    simp only [Act.put, List.setIfInBounds_toArray, List.set_cons_zero, List.set_cons_succ, i64_w, i32_w]
    rfl
  refine pure_ (i := 41) (N := some 112) (v := ?_) (a' := ?_) #[true, true, true, true, true, true, true, true, true, true, true, true, true, true, true, true, true, true, true, true, true, true, true, true, true, true, true, true, true, true, true, true, true, true, true, true, true, true, true, true, true, true, false, false, false, false, false, false, false, false, false, false, false, false, false, false, false, false, false, false, false, false, false, false, false, false, false, false, false, false, false, false, false, false, false, false, false, false, false] rfl rfl (any_of HT_.out (by kernel_rfl)) (fun _ _ _ h => h) (Or.inl ⟨by rfl, ?_⟩) ?_ ?_
  rotate_left
  · intro w'
    go_simp
    with_reducible rfl
  rotate_left
  · simp only [Act.put, List.setIfInBounds_toArray, List.set_cons_zero, List.set_cons_succ, i64_w, i32_w]
    rfl
  refine pure_ (i := 42) (N := some 113) (v := ?_) (a' := ?_) #[true, true, true, true, true, true, true, true, true, true, true, true, true, true, true, true, true, true, true, true, true, true, true, true, true, true, true, true, true, true, true, true, true, true, true, true, true, true, true, true, true, true, true, false, false, false, false, false, false, false, false, false, false, false, false, false, false, false, false, false, false, false, false, false, false, false, false, false, false, false, false, false, false, false, false, false, false, false, false] rfl rfl (any_of HT_.out (by kernel_rfl)) (fun _ _ _ h => h) (Or.inl ⟨by rfl, ?_⟩) ?_ ?_
  rotate_left
  · intro w'
    go_simp
    with_reducible rfl
  rotate_left
  · simp only [Act.put, List.setIfInBounds_toArray, List.set_cons_zero, List.set_cons_succ, i64_w, i32_w]
    rfl
  refine pure_ (i := 43) (N := some 114) (v := ?_) (a' := ?_) #[true, true, true, true, true, true, true, true, true, true, true, true, true, true, true, true, true, true, true, true, true, true, true, true, true, true, true, true, true, true, true, true, true, true, true, true, true, true, true, true, true, true, true, true, false, false, false, false, false, false, false, false, false, false, false, false, false, false, false, false, false, false, false, false, false, false, false, false, false, false, false, false, false, false, false, false, false, false, false] rfl rfl (any_of HT_.out (by kernel_rfl)) (fun _ _ _ h => h) (Or.inl ⟨by rfl, ?_⟩) ?_ ?_
  rotate_left
  · intro w'
    go_simp
    with_reducible rfl
  rotate_left
  · simp only [Act.put, List.setIfInBounds_toArray, List.set_cons_zero, List.set_cons_succ, i64_w, i32_w]
    rfl
  refine pure_ (i := 44) (N := some 115) (v := ?_) (a' := ?_) #[true, true, true, true, true, true, true, true, true, true, true, true, true, true, true, true, true, true, true, true, true, true, true, true, true, true, true, true, true, true, true, true, true, true, true, true, true, true, true, true, true, true, true, true, true, false, false, false, false, false, false, false, false, false, false, false, false, false, false, false, false, false, false, false, false, false, false, false, false, false, false, false, false, false, false, false, false, false, false] rfl rfl (any_of HT_.out (by kernel_rfl)) (fun _ _ _ h => h) (Or.inl ⟨by rfl, ?_⟩) ?_ ?_
  rotate_left
  · intro w'
    go_simp
    with_reducible rfl
  rotate_left
  · simp only [Act.put, List.setIfInBounds_toArray, List.set_cons_zero, List.set_cons_succ, i64_w, i32_w]
    rfl
  refine take_ (i := 45) (N := some 116) (v := ?_) (a' := ?_) #[true, true, true, true, true, true, true, true, true, true, true, true, true, true, true, true, true, true, true, true, true, true, true, true, true, true, true, true, true, true, true, true, true, true, true, true, true, true, true, true, true, true, true, true, true, true, false, false, false, false, false, false, false, false, false, false, false, false, false, false, false, false, false, false, false, false, false, false, false, false, false, false, false, false, false, false, false, false, false] rfl rfl (take_ofW HT_.out HW_.out (by kernel_rfl)) (fun _ _ _ h => h) (Or.inl ⟨by rfl, ?_⟩) hHeld ?_ ?_
  rotate_left
  · intro w' s0
    have b_ := s0.blks _ XV3_.out
    have c0_ : w'.cell? ⟨g6, 0, none⟩ = some (.int .i64 x3) := (blk_cell b_ 0).trans rfl
    have c1_ : w'.cell? ⟨g6, 1, none⟩ = some (.slice P70 X3.length p70) := (blk_cell b_ 1).trans rfl
    have c2_ : w'.cell? ⟨g6, 2, none⟩ = some (.bool y3) := (blk_cell b_ 2).trans rfl
    clear b_ s0
    go_simp
    with_reducible rfl
  rotate_left
  · simp only [Act.put, List.setIfInBounds_toArray, List.set_cons_zero, List.set_cons_succ, i64_w, i32_w]
    rfl
  refine pure_ (i := 46) (N := some 117) (v := ?_) (a' := ?_) #[true, true, true, true, true, true, true, true, true, true, true, true, true, true, true, true, true, true, true, true, true, true, true, true, true, true, true, true, true, true, true, true, true, true, true, true, true, true, true, true, true, true, true, true, true, true, true, false, false, false, false, false, false, false, false, false, false, false, false, false, false, false, false, false, false, false, false, false, false, false, false, false, false, false, false, false, false, false, false] rfl rfl (any_of HT_.out (by kernel_rfl)) (fun _ _ _ h => h) (Or.inl ⟨by rfl, ?_⟩) ?_ ?_
  rotate_left
  · intro w'
    go_simp
    with_reducible rfl
  rotate_left
  · simp only [Act.put, List.setIfInBounds_toArray, List.set_cons_zero, List.set_cons_succ, i64_w, i32_w]
    rfl
  refine pure_ (i := 47) (N := some 118) (v := ?_) (a' := ?_) #[true, true, true, true, true, true, true, true, true, true, true, true, true, true, true, true, true, true, true, true, true, true, true, true, true, true, true, true, true, true, true, true, true, true, true, true, true, true, true, true, true, true, true, true, true, true, true, true, false, false, false, false, false, false, false, false, false, false, false, false, false, false, false, false, false, false, false, false, false, false, false, false, false, false, false, false, false, false, false] rfl rfl (any_of HT_.out (by kernel_rfl)) (fun _ _ _ h => h) (Or.inl ⟨by rfl, ?_⟩) ?_ ?_
  rotate_left
  · intro w'
    go_simp
    with_reducible rfl
  rotate_left
  · simp only [Act.put, List.setIfInBounds_toArray, List.set_cons_zero, List.set_cons_succ, i64_w, i32_w]
    rfl
  refine pure_ (i := 48) (N := some 119) (v := ?_) (a' := ?_) #[true, true, true, true, true, true, true, true, true, true, true, true, true, true, true, true, true, true, true, true, true, true, true, true, true, true, true, true, true, true, true, true, true, true, true, true, true, true, true, true, true, true, true, true, true, true, true, true, true, false, false, false, false, false, false, false, false, false, false, false, false, false, false, false, false, false, false, false, false, false, false, false, false, false, false, false, false, false, false] rfl rfl (any_of HT_.out (by kernel_rfl)) (fun _ _ _ h => h) (Or.inl ⟨by rfl, ?_⟩) ?_ ?_
  rotate_left
  · intro w'
    go_simp
    with_reducible rfl
  rotate_left
  · simp only [Act.put, List.setIfInBounds_toArray, List.set_cons_zero, List.set_cons_succ, i64_w, i32_w]
    rfl
  refine pure_ (i := 50) (N := some 121) (v := ?_) (a' := ?_) #[true, true, true, true, true, true, true, true, true, true, true, true, true, true, true, true, true, true, true, true, true, true, true, true, true, true, true, true, true, true, true, true, true, true, true, true, true, true, true, true, true, true, true, true, true, true, true, true, true, false, true, false, false, false, false, false, false, false, false, false, false, false, false, false, false, false, false, false, false, false, false, false, false, false, false, false, false, false, false] rfl rfl (any_of HT_.out (by kernel_rfl)) (fun _ _ _ h => h) (Or.inl ⟨by rfl, ?_⟩) ?_ ?_
  rotate_left
  · intro w'
    go_simp
    with_reducible rfl
  rotate_left
  · simp only [Act.put, List.setIfInBounds_toArray, List.set_cons_zero, List.set_cons_succ, i64_w, i32_w]
    rfl
  refine take_ (i := 49) (N := some 120) (v := ?_) (a' := ?_) #[true, true, true, true, true, true, true, true, true, true, true, true, true, true, true, true, true, true, true, true, true, true, true, true, true, true, true, true, true, true, true, true, true, true, true, true, true, true, true, true, true, true, true, true, true, true, true, true, true, true, true, false, false, false, false, false, false, false, false, false, false, false, false, false, false, false, false, false, false, false, false, false, false, false, false, false, false, false, false] rfl rfl (take_ofW HT_.out HW_.out (by kernel_rfl)) (fun _ _ _ h => h) (Or.inl ⟨by rfl, ?_⟩) hHeld ?_ ?_
  rotate_left
  · intro w' s0
    have b_ := s0.blks _ XT4_.out
    have c0_ : w'.cell? ⟨wa4.heap.size, 0, none⟩ = some (.int .i64 x4) := (blk_cell b_ 0).trans rfl
    have c1_ : w'.cell? ⟨wa4.heap.size, 1, none⟩ = some (.slice U4 X4.length q4) := (blk_cell b_ 1).trans rfl
    clear b_ s0
    go_simp
    with_reducible rfl
  rotate_left
  · simp only [Act.put, List.setIfInBounds_toArray, List.set_cons_zero, List.set_cons_succ, i64_w, i32_w]
    rfl
  refine take_ (i := 51) (N := some 122) (v := ?_) (a' := ?_) #[true, true, true, true, true, true, true, true, true, true, true, true, true, true, true, true, true, true, true, true, true, true, true, true, true, true, true, true, true, true, true, true, true, true, true, true, true, true, true, true, true, true, true, true, true, true, true, true, true, true, true, true, false, false, false, false, false, false, false, false, false, false, false, false, false, false, false, false, false, false, false, false, false, false, false, false, false, false, false] rfl rfl (take_ofW HT_.out HW_.out (by kernel_rfl)) (fun _ _ _ h => h) (Or.inl ⟨by rfl, ?_⟩) hHeld ?_ ?_
  rotate_left
  · intro w' s0
    have b_ := s0.blks _ XV4_.out
    have c0_ : w'.cell? ⟨g7, 0, none⟩ = some (.int .i64 x4) := (blk_cell b_ 0).trans rfl
    have c1_ : w'.cell? ⟨g7, 1, none⟩ = some (.slice P90 X4.length p90) := (blk_cell b_ 1).trans rfl
    have c2_ : w'.cell? ⟨g7, 2, none⟩ = some (.bool y4) := (blk_cell b_ 2).trans rfl
    clear b_ s0
    go_simp
    with_reducible rfl
  rotate_left
  · simp only [Act.put, List.setIfInBounds_toArray, List.set_cons_zero, List.set_cons_succ, i64_w, i32_w]
    rfl
  refine one_ (i := 52) (N := some 123) #[true, true, true, true, true, true, true, true, true, true, true, true, true, true, true, true, true, true, true, true, true, true, true, true, true, true, true, true, true, true, true, true, true, true, true, true, true, true, true, true, true, true, true, true, true, true, true, true, true, true, true, true, true, false, false, false, false, false, false, false, false, false, false, false, false, false, false, false, false, false, false, false, false, false, false, false, false, false, false] rfl rfl (one_of HT_.out (by kernel_rfl)) (by decide) (fun K hK => ?_)
  refine goes_ Try.func40 (by kernel_rfl) rfl #[.agg #[.int .i64 x4, .slice U4 X4.length q4], .agg #[.int .i64 x4, .slice P90 X4.length p90]] (by rfl) rfl rfl (by simp only [List.map_toArray, List.map_cons, List.map_nil]; rfl) ?_
  with_reducible refine (caesurakeep_Net.calls m4 x4 U4 q4 X4 x4 P90 p90 X4 true u40 (hHeld.C_nets XU4_.out).2.2 (hHeld.C_nets XU4_.out).2.1 (hHeld.C_nets XY4_.out).2.2 (hHeld.C_nets XY4_.out).2.1 hn4.out).mono ?_
  rintro e u52 ⟨rfl, hb_⟩
  refine ⟨_, rfl, ?_⟩
  refine hK.out _ _ (hHeld.step hb_) (fun hHeld => ?_)
  clear hK K
  refine norm_ (a' := ?_) ?_ ?_
  rotate_left
  · show Act.put _ (some 123) _ = _
    simp only [Act.put, List.setIfInBounds_toArray, List.set_cons_zero, List.set_cons_succ, i64_w, i32_w]
    rfl
  refine pure_ (i := 53) (N := some 124) (v := ?_) (a' := ?_) #[true, true, true, true, true, true, true, true, true, true, true, true, true, true, true, true, true, true, true, true, true, true, true, true, true, true, true, true, true, true, true, true, true, true, true, true, true, true, true, true, true, true, true, true, true, true, true, true, true, true, true, true, true, true, false, false, false, false, false, false, false, false, false, false, false, false, false, false, false, false, false, false, false, false, false, false, false, false, false] rfl rfl (any_of HT_.out (by kernel_rfl)) (fun _ _ _ h => h) (Or.inl ⟨by rfl, ?_⟩) ?_ ?_
  rotate_left
  · intro w'
    go_simp
    with_reducible rfl
  rotate_left
  · simp only [Act.put, List.setIfInBounds_toArray, List.set_cons_zero, List.set_cons_succ, i64_w, i32_w]
    rfl
  refine pure_ (i := 54) (N := some 125) (v := ?_) (a' := ?_) #[true, true, true, true, true, true, true, true, true, true, true, true, true, true, true, true, true, true, true, true, true, true, true, true, true, true, true, true, true, true, true, true, true, true, true, true, true, true, true, true, true, true, true, true, true, true, true, true, true, true, true, true, true, true, true, false, false, false, false, false, false, false, false, false, false, false, false, false, false, false, false, false, false, false, false, false, false, false, false] rfl rfl (any_of HT_.out (by kernel_rfl)) (fun _ _ _ h => h) (Or.inl ⟨by rfl, ?_⟩) ?_ ?_
  rotate_left
  · intro w'
    go_simp
    with_reducible rfl
  rotate_left
  · simp only [Act.put, List.setIfInBounds_toArray, List.set_cons_zero, List.set_cons_succ, i64_w, i32_w]
    rfl
  refine pure_ (i := 55) (N := some 126) (v := ?_) (a' := ?_) #[true, true, true, true, true, true, true, true, true, true, true, true, true, true, true, true, true, true, true, true, true, true, true, true, true, true, true, true, true, true, true, true, true, true, true, true, true, true, true, true, true, true, true, true, true, true, true, true, true, true, true, true, true, true, true, true, false, false, false, false, false, false, false, false, false, false, false, false, false, false, false, false, false, false, false, false, false, false, false] rfl rfl (any_of HT_.out (by kernel_rfl)) (fun _ _ _ h => h) (Or.inl ⟨by rfl, ?_⟩) ?_ ?_
  rotate_left
  · intro w'
    go_simp
    with_reducible rfl
  rotate_left
  · simp only [Act.put, List.setIfInBounds_toArray, List.set_cons_zero, List.set_cons_succ, i64_w, i32_w]
    rfl
  refine pure_ (i := 56) (N := some 127) (v := ?_) (a' := ?_) #[true, true, true, true, true, true, true, true, true, true, true, true, true, true, true, true, true, true, true, true, true, true, true, true, true, true, true, true, true, true, true, true, true, true, true, true, true, true, true, true, true, true, true, true, true, true, true, true, true, true, true, true, true, true, true, true, true, false, false, false, false, false, false, false, false, false, false, false, false, false, false, false, false, false, false, false, false, false, false] rfl rfl (any_of HT_.out (by kernel_rfl)) (fun _ _ _ h => h) (Or.inl ⟨by rfl, ?_⟩) ?_ ?_
  rotate_left
  · intro w'
    go_simp
    with_reducible rfl
  rotate_left
  · simp only [Act.put, List.setIfInBounds_toArray, List.set_cons_zero, List.set_cons_succ, i64_w, i32_w]
    rfl
  refine take_ (i := 57) (N := some 128) (v := ?_) (a' := ?_) #[true, true, true, true, true, true, true, true, true, true, true, true, true, true, true, true, true, true, true, true, true, true, true, true, true, true, true, true, true, true, true, true, true, true, true, true, true, true, true, true, true, true, true, true, true, true, true, true, true, true, true, true, true, true, true, true, true, true, false, false, false, false, false, false, false, false, false, false, false, false, false, false, false, false, false, false, false, false, false] rfl rfl (take_ofW HT_.out HW_.out (by kernel_rfl)) (fun _ _ _ h => h) (Or.inl ⟨by rfl, ?_⟩) hHeld ?_ ?_
  rotate_left
  · intro w' s0
    have b_ := s0.blks _ XV4_.out
    have c0_ : w'.cell? ⟨g7, 0, none⟩ = some (.int .i64 x4) := (blk_cell b_ 0).trans rfl
    have c1_ : w'.cell? ⟨g7, 1, none⟩ = some (.slice P90 X4.length p90) := (blk_cell b_ 1).trans rfl
    have c2_ : w'.cell? ⟨g7, 2, none⟩ = some (.bool y4) := (blk_cell b_ 2).trans rfl
    clear b_ s0
    go_simp
    with_reducible rfl
  rotate_left
  · simp only [Act.put, List.setIfInBounds_toArray, List.set_cons_zero, List.set_cons_succ, i64_w, i32_w]
    rfl
  refine pure_ (i := 58) (N := some 129) (v := ?_) (a' := ?_) #[true, true, true, true, true, true, true, true, true, true, true, true, true, true, true, true, true, true, true, true, true, true, true, true, true, true, true, true, true, true, true, true, true, true, true, true, true, true, true, true, true, true, true, true, true, true, true, true, true, true, true, true, true, true, true, true, true, true, true, false, false, false, false, false, false, false, false, false, false, false, false, false, false, false, false, false, false, false, false] rfl rfl (any_of HT_.out (by kernel_rfl)) (fun _ _ _ h => h) (Or.inl ⟨by rfl, ?_⟩) ?_ ?_
  rotate_left
  · intro w'
    go_simp
    with_reducible rfl
  rotate_left
  · simp only [Act.put, List.setIfInBounds_toArray, List.set_cons_zero, List.set_cons_succ, i64_w, i32_w]
    rfl
  refine pure_ (i := 59) (N := some 130) (v := ?_) (a' := ?_) #[true, true, true, true, true, true, true, true, true, true, true, true, true, true, true, true, true, true, true, true, true, true, true, true, true, true, true, true, true, true, true, true, true, true, true, true, true, true, true, true, true, true, true, true, true, true, true, true, true, true, true, true, true, true, true, true, true, true, true, true, false, false, false, false, false, false, false, false, false, false, false, false, false, false, false, false, false, false, false] rfl rfl (any_of HT_.out (by kernel_rfl)) (fun _ _ _ h => h) (Or.inl ⟨by rfl, ?_⟩) ?_ ?_
  rotate_left
  · intro w'
    go_simp
    with_reducible rfl
  rotate_left
  · simp only [Act.put, List.setIfInBounds_toArray, List.set_cons_zero, List.set_cons_succ, i64_w, i32_w]
    rfl
  refine pure_ (i := 60) (N := some 131) (v := ?_) (a' := ?_) #[true, true, true, true, true, true, true, true, true, true, true, true, true, true, true, true, true, true, true, true, true, true, true, true, true, true, true, true, true, true, true, true, true, true, true, true, true, true, true, true, true, true, true, true, true, true, true, true, true, true, true, true, true, true, true, true, true, true, true, true, true, false, false, false, false, false, false, false, false, false, false, false, false, false, false, false, false, false, false] rfl rfl (any_of HT_.out (by kernel_rfl)) (fun _ _ _ h => h) (Or.inl ⟨by rfl, ?_⟩) ?_ ?_
  rotate_left
  · intro w'
    go_simp
    with_reducible rfl
  rotate_left
  · simp only [Act.put, List.setIfInBounds_toArray, List.set_cons_zero, List.set_cons_succ, i64_w, i32_w]
    rfl
  refine take_ (i := 61) (N := some 132) (v := ?_) (a' := ?_) #[true, true, true, true, true, true, true, true, true, true, true, true, true, true, true, true, true, true, true, true, true, true, true, true, true, true, true, true, true, true, true, true, true, true, true, true, true, true, true, true, true, true, true, true, true, true, true, true, true, true, true, true, true, true, true, true, true, true, true, true, true, true, false, false, false, false, false, false, false, false, false, false, false, false, false, false, false, false, false] rfl rfl (take_ofW HT_.out HW_.out (by kernel_rfl)) (fun _ _ _ h => h) (Or.inl ⟨by rfl, ?_⟩) hHeld ?_ ?_
  rotate_left
  · intro w' s0
    have b_ := s0.blks _ XG1_.out
    have c0_ : w'.cell? ⟨g1, 0, none⟩ = some (.int .i64 a0_0) := (blk_cell b_ 0).trans rfl
    have c1_ : w'.cell? ⟨g1, 1, none⟩ = some (.slice P11 l0_1.length p11) := (blk_cell b_ 1).trans rfl
    have c2_ : w'.cell? ⟨g1, 2, none⟩ = some (.slice P12 l0_2.length p12) := (blk_cell b_ 2).trans rfl
    clear b_ s0
    go_simp
    with_reducible rfl
  rotate_left
  · simp only [Act.put, List.setIfInBounds_toArray, List.set_cons_zero, List.set_cons_succ, i64_w, i32_w]
    rfl
  refine take_ (i := 62) (N := some 133) (v := ?_) (a' := ?_) #[true, true, true, true, true, true, true, true, true, true, true, true, true, true, true, true, true, true, true, true, true, true, true, true, true, true, true, true, true, true, true, true, true, true, true, true, true, true, true, true, true, true, true, true, true, true, true, true, true, true, true, true, true, true, true, true, true, true, true, true, true, true, true, false, false, false, false, false, false, false, false, false, false, false, false, false, false, false, false] rfl rfl (take_ofW HT_.out HW_.out (by kernel_rfl)) (fun _ _ _ h => h) (Or.inl ⟨by rfl, ?_⟩) hHeld ?_ ?_
  rotate_left
  · intro w' s0
    have b_ := s0.blks _ XM0_.out
    have c0_ : w'.cell? ⟨w.heap.size, 0, none⟩ = some (.int .i64 a0_0) := (blk_cell b_ 0).trans rfl
    have c1_ : w'.cell? ⟨w.heap.size, 1, none⟩ = some (.slice A0_1 l0_1.length c0_1) := (blk_cell b_ 1).trans rfl
    have c2_ : w'.cell? ⟨w.heap.size, 2, none⟩ = some (.slice A0_2 l0_2.length c0_2) := (blk_cell b_ 2).trans rfl
    clear b_ s0
    go_simp
    with_reducible rfl
  rotate_left
  · simp only [Act.put, List.setIfInBounds_toArray, List.set_cons_zero, List.set_cons_succ, i64_w, i32_w]
    rfl
  refine one_ (i := 63) (N := some 134) #[true, true, true, true, true, true, true, true, true, true, true, true, true, true, true, true, true, true, true, true, true, true, true, true, true, true, true, true, true, true, true, true, true, true, true, true, true, true, true, true, true, true, true, true, true, true, true, true, true, true, true, true, true, true, true, true, true, true, true, true, true, true, true, true, false, false, false, false, false, false, false, false, false, false, false, false, false, false, false] rfl rfl (one_of HT_.out (by kernel_rfl)) (by decide) (fun K hK => ?_)
  refine goes_ Try.func41 (by kernel_rfl) rfl #[.agg #[.int .i64 a0_0, .slice P11 l0_1.length p11, .slice P12 l0_2.length p12], .agg #[.int .i64 a0_0, .slice A0_1 l0_1.length c0_1, .slice A0_2 l0_2.length c0_2]] (by rfl) rfl rfl (by simp only [List.map_toArray, List.map_cons, List.map_nil]; rfl) ?_
  with_reducible refine (caesurakeep_Automaton.calls m6 a0_0 P11 p11 l0_1 P12 p12 l0_2 a0_0 A0_1 c0_1 l0_1 A0_2 c0_2 l0_2 true u52 (hHeld.C_rows XR1_.out).2.2 (hHeld.C_rows XR1_.out).2.1 (hHeld.C_ends XE2_.out).2.2 (hHeld.C_ends XE2_.out).2.1 (Kd.C_below HR0_1.out hHeld.low) hc0_1 (Kd.C_below HR0_2.out hHeld.low) hc0_2 ha0.out).mono ?_
  rintro e u63 ⟨rfl, hb_⟩
  refine ⟨_, rfl, ?_⟩
  refine hK.out _ _ (hHeld.step hb_) (fun hHeld => ?_)
  clear hK K
  refine norm_ (a' := ?_) ?_ ?_
  rotate_left
  · show Act.put _ (some 134) _ = _
    simp only [Act.put, List.setIfInBounds_toArray, List.set_cons_zero, List.set_cons_succ, i64_w, i32_w]
    rfl
  refine pure_ (i := 64) (N := some 135) (v := ?_) (a' := ?_) #[true, true, true, true, true, true, true, true, true, true, true, true, true, true, true, true, true, true, true, true, true, true, true, true, true, true, true, true, true, true, true, true, true, true, true, true, true, true, true, true, true, true, true, true, true, true, true, true, true, true, true, true, true, true, true, true, true, true, true, true, true, true, true, true, true, false, false, false, false, false, false, false, false, false, false, false, false, false, false] rfl rfl (any_of HT_.out (by kernel_rfl)) (fun _ _ _ h => h) (Or.inl ⟨by rfl, ?_⟩) ?_ ?_
  rotate_left
  · intro w'
    go_simp
    with_reducible rfl
  rotate_left
  · simp only [Act.put, List.setIfInBounds_toArray, List.set_cons_zero, List.set_cons_succ, i64_w, i32_w]
    rfl
  refine pure_ (i := 65) (N := some 136) (v := ?_) (a' := ?_) #[true, true, true, true, true, true, true, true, true, true, true, true, true, true, true, true, true, true, true, true, true, true, true, true, true, true, true, true, true, true, true, true, true, true, true, true, true, true, true, true, true, true, true, true, true, true, true, true, true, true, true, true, true, true, true, true, true, true, true, true, true, true, true, true, true, true, false, false, false, false, false, false, false, false, false, false, false, false, false] rfl rfl (any_of HT_.out (by kernel_rfl)) (fun _ _ _ h => h) (Or.inl ⟨by rfl, ?_⟩) ?_ ?_
  rotate_left
  · intro w'
    go_simp
    with_reducible rfl
  rotate_left
  · simp only [Act.put, List.setIfInBounds_toArray, List.set_cons_zero, List.set_cons_succ, i64_w, i32_w]
    rfl
  refine take_ (i := 66) (N := some 137) (v := ?_) (a' := ?_) #[true, true, true, true, true, true, true, true, true, true, true, true, true, true, true, true, true, true, true, true, true, true, true, true, true, true, true, true, true, true, true, true, true, true, true, true, true, true, true, true, true, true, true, true, true, true, true, true, true, true, true, true, true, true, true, true, true, true, true, true, true, true, true, true, true, true, true, false, false, false, false, false, false, false, false, false, false, false, false] rfl rfl (take_ofW HT_.out HW_.out (by kernel_rfl)) (fun _ _ _ h => h) (Or.inl ⟨by rfl, ?_⟩) hHeld ?_ ?_
  rotate_left
  · intro w' s0
    have b_ := s0.blks _ XG2_.out
    have c0_ : w'.cell? ⟨g2, 0, none⟩ = some (.int .i64 a1_0) := (blk_cell b_ 0).trans rfl
    have c1_ : w'.cell? ⟨g2, 1, none⟩ = some (.slice P31 l1_1.length p31) := (blk_cell b_ 1).trans rfl
    have c2_ : w'.cell? ⟨g2, 2, none⟩ = some (.slice P32 l1_2.length p32) := (blk_cell b_ 2).trans rfl
    clear b_ s0
    go_simp
    with_reducible rfl
  rotate_left
  · simp only [Act.put, List.setIfInBounds_toArray, List.set_cons_zero, List.set_cons_succ, i64_w, i32_w]
    rfl
  refine take_ (i := 67) (N := some 138) (v := ?_) (a' := ?_) #[true, true, true, true, true, true, true, true, true, true, true, true, true, true, true, true, true, true, true, true, true, true, true, true, true, true, true, true, true, true, true, true, true, true, true, true, true, true, true, true, true, true, true, true, true, true, true, true, true, true, true, true, true, true, true, true, true, true, true, true, true, true, true, true, true, true, true, true, false, false, false, false, false, false, false, false, false, false, false] rfl rfl (take_ofW HT_.out HW_.out (by kernel_rfl)) (fun _ _ _ h => h) (Or.inl ⟨by rfl, ?_⟩) hHeld ?_ ?_
  rotate_left
  · intro w' s0
    have b_ := s0.blks _ XM1_.out
    have c0_ : w'.cell? ⟨w.heap.size + 1, 0, none⟩ = some (.int .i64 a1_0) := (blk_cell b_ 0).trans rfl
    have c1_ : w'.cell? ⟨w.heap.size + 1, 1, none⟩ = some (.slice A1_1 l1_1.length c1_1) := (blk_cell b_ 1).trans rfl
    have c2_ : w'.cell? ⟨w.heap.size + 1, 2, none⟩ = some (.slice A1_2 l1_2.length c1_2) := (blk_cell b_ 2).trans rfl
    clear b_ s0
    go_simp
    with_reducible rfl
  rotate_left
  · simp only [Act.put, List.setIfInBounds_toArray, List.set_cons_zero, List.set_cons_succ, i64_w, i32_w]
    rfl
  refine one_ (i := 68) (N := some 139) #[true, true, true, true, true, true, true, true, true, true, true, true, true, true, true, true, true, true, true, true, true, true, true, true, true, true, true, true, true, true, true, true, true, true, true, true, true, true, true, true, true, true, true, true, true, true, true, true, true, true, true, true, true, true, true, true, true, true, true, true, true, true, true, true, true, true, true, true, true, false, false, false, false, false, false, false, false, false, false] rfl rfl (one_of HT_.out (by kernel_rfl)) (by decide) (fun K hK => ?_)
  refine goes_ Try.func41 (by kernel_rfl) rfl #[.agg #[.int .i64 a1_0, .slice P31 l1_1.length p31, .slice P32 l1_2.length p32], .agg #[.int .i64 a1_0, .slice A1_1 l1_1.length c1_1, .slice A1_2 l1_2.length c1_2]] (by rfl) rfl rfl (by simp only [List.map_toArray, List.map_cons, List.map_nil]; rfl) ?_
  with_reducible refine (caesurakeep_Automaton.calls m7 a1_0 P31 p31 l1_1 P32 p32 l1_2 a1_0 A1_1 c1_1 l1_1 A1_2 c1_2 l1_2 true u63 (hHeld.C_rows XR3_.out).2.2 (hHeld.C_rows XR3_.out).2.1 (hHeld.C_ends XE4_.out).2.2 (hHeld.C_ends XE4_.out).2.1 (Kd.C_below HR1_1.out hHeld.low) hc1_1 (Kd.C_below HR1_2.out hHeld.low) hc1_2 ha1.out).mono ?_
  rintro e u68 ⟨rfl, hb_⟩
  refine ⟨_, rfl, ?_⟩
  refine hK.out _ _ (hHeld.step hb_) (fun hHeld => ?_)
  clear hK K
  refine norm_ (a' := ?_) ?_ ?_
  rotate_left
  · show Act.put _ (some 139) _ = _
    simp only [Act.put, List.setIfInBounds_toArray, List.set_cons_zero, List.set_cons_succ, i64_w, i32_w]
    rfl
  refine pure_ (i := 69) (N := some 140) (v := ?_) (a' := ?_) #[true, true, true, true, true, true, true, true, true, true, true, true, true, true, true, true, true, true, true, true, true, true, true, true, true, true, true, true, true, true, true, true, true, true, true, true, true, true, true, true, true, true, true, true, true, true, true, true, true, true, true, true, true, true, true, true, true, true, true, true, true, true, true, true, true, true, true, true, true, true, false, false, false, false, false, false, false, false, false] rfl rfl (any_of HT_.out (by kernel_rfl)) (fun _ _ _ h => h) (Or.inl ⟨by rfl, ?_⟩) ?_ ?_
  rotate_left
  · intro w'
    go_simp
    with_reducible rfl
  rotate_left
  · simp only [Act.put, List.setIfInBounds_toArray, List.set_cons_zero, List.set_cons_succ, i64_w, i32_w]
    rfl
  refine pure_ (i := 70) (N := some 141) (v := ?_) (a' := ?_) #[true, true, true, true, true, true, true, true, true, true, true, true, true, true, true, true, true, true, true, true, true, true, true, true, true, true, true, true, true, true, true, true, true, true, true, true, true, true, true, true, true, true, true, true, true, true, true, true, true, true, true, true, true, true, true, true, true, true, true, true, true, true, true, true, true, true, true, true, true, true, true, false, false, false, false, false, false, false, false] rfl rfl (any_of HT_.out (by kernel_rfl)) (fun _ _ _ h => h) (Or.inl ⟨by rfl, ?_⟩) ?_ ?_
  rotate_left
  · intro w'
    go_simp
    with_reducible rfl
  rotate_left
  · simp only [Act.put, List.setIfInBounds_toArray, List.set_cons_zero, List.set_cons_succ, i64_w, i32_w]
    rfl
  refine take_ (i := 71) (N := some 142) (v := ?_) (a' := ?_) #[true, true, true, true, true, true, true, true, true, true, true, true, true, true, true, true, true, true, true, true, true, true, true, true, true, true, true, true, true, true, true, true, true, true, true, true, true, true, true, true, true, true, true, true, true, true, true, true, true, true, true, true, true, true, true, true, true, true, true, true, true, true, true, true, true, true, true, true, true, true, true, true, false, false, false, false, false, false, false] rfl rfl (take_ofW HT_.out HW_.out (by kernel_rfl)) (fun _ _ _ h => h) (Or.inl ⟨by rfl, ?_⟩) hHeld ?_ ?_
  rotate_left
  · intro w' s0
    have b_ := s0.blks _ XG3_.out
    have c0_ : w'.cell? ⟨g3, 0, none⟩ = some (.int .i64 a2_0) := (blk_cell b_ 0).trans rfl
    have c1_ : w'.cell? ⟨g3, 1, none⟩ = some (.slice P50 l2_1.length p50) := (blk_cell b_ 1).trans rfl
    clear b_ s0
    go_simp
    with_reducible rfl
  rotate_left
  · simp only [Act.put, List.setIfInBounds_toArray, List.set_cons_zero, List.set_cons_succ, i64_w, i32_w]
    rfl
  refine take_ (i := 72) (N := some 143) (v := ?_) (a' := ?_) #[true, true, true, true, true, true, true, true, true, true, true, true, true, true, true, true, true, true, true, true, true, true, true, true, true, true, true, true, true, true, true, true, true, true, true, true, true, true, true, true, true, true, true, true, true, true, true, true, true, true, true, true, true, true, true, true, true, true, true, true, true, true, true, true, true, true, true, true, true, true, true, true, true, false, false, false, false, false, false] rfl rfl (take_ofW HT_.out HW_.out (by kernel_rfl)) (fun _ _ _ h => h) (Or.inl ⟨by rfl, ?_⟩) hHeld ?_ ?_
  rotate_left
  · intro w' s0
    have b_ := s0.blks _ XM2_.out
    have c0_ : w'.cell? ⟨w.heap.size + 1 + 1, 0, none⟩ = some (.int .i64 a2_0) := (blk_cell b_ 0).trans rfl
    have c1_ : w'.cell? ⟨w.heap.size + 1 + 1, 1, none⟩ = some (.slice A2_1 l2_1.length c2_1) := (blk_cell b_ 1).trans rfl
    clear b_ s0
    go_simp
    with_reducible rfl
  rotate_left
  · simp only [Act.put, List.setIfInBounds_toArray, List.set_cons_zero, List.set_cons_succ, i64_w, i32_w]
    rfl
  refine one_ (i := 73) (N := some 144) #[true, true, true, true, true, true, true, true, true, true, true, true, true, true, true, true, true, true, true, true, true, true, true, true, true, true, true, true, true, true, true, true, true, true, true, true, true, true, true, true, true, true, true, true, true, true, true, true, true, true, true, true, true, true, true, true, true, true, true, true, true, true, true, true, true, true, true, true, true, true, true, true, true, true, false, false, false, false, false] rfl rfl (one_of HT_.out (by kernel_rfl)) (by decide) (fun K hK => ?_)
  refine goes_ Try.func40 (by kernel_rfl) rfl #[.agg #[.int .i64 a2_0, .slice P50 l2_1.length p50], .agg #[.int .i64 a2_0, .slice A2_1 l2_1.length c2_1]] (by rfl) rfl rfl (by simp only [List.map_toArray, List.map_cons, List.map_nil]; rfl) ?_
  with_reducible refine (caesurakeep_Net.calls m5 a2_0 P50 p50 l2_1 a2_0 A2_1 c2_1 l2_1 true u68 (hHeld.C_nets XN5_.out).2.2 (hHeld.C_nets XN5_.out).2.1 (Kd.C_below HR2_1.out hHeld.low) hc2_1 hn5.out).mono ?_
  rintro e u73 ⟨rfl, hb_⟩
  refine ⟨_, rfl, ?_⟩
  refine hK.out _ _ (hHeld.step hb_) (fun hHeld => ?_)
  clear hK K
  refine norm_ (a' := ?_) ?_ ?_
  rotate_left
  · show Act.put _ (some 144) _ = _
    simp only [Act.put, List.setIfInBounds_toArray, List.set_cons_zero, List.set_cons_succ, i64_w, i32_w]
    rfl
  refine pure_ (i := 74) (N := some 145) (v := ?_) (a' := ?_) #[true, true, true, true, true, true, true, true, true, true, true, true, true, true, true, true, true, true, true, true, true, true, true, true, true, true, true, true, true, true, true, true, true, true, true, true, true, true, true, true, true, true, true, true, true, true, true, true, true, true, true, true, true, true, true, true, true, true, true, true, true, true, true, true, true, true, true, true, true, true, true, true, true, true, true, false, false, false, false] rfl rfl (any_of HT_.out (by kernel_rfl)) (fun _ _ _ h => h) (Or.inl ⟨by rfl, ?_⟩) ?_ ?_
  rotate_left
  · intro w'
    go_simp
    with_reducible rfl
  rotate_left
  · simp only [Act.put, List.setIfInBounds_toArray, List.set_cons_zero, List.set_cons_succ, i64_w, i32_w]
    rfl
  refine pure_ (i := 75) (N := some 146) (v := ?_) (a' := ?_) #[true, true, true, true, true, true, true, true, true, true, true, true, true, true, true, true, true, true, true, true, true, true, true, true, true, true, true, true, true, true, true, true, true, true, true, true, true, true, true, true, true, true, true, true, true, true, true, true, true, true, true, true, true, true, true, true, true, true, true, true, true, true, true, true, true, true, true, true, true, true, true, true, true, true, true, true, false, false, false] rfl rfl (any_of HT_.out (by kernel_rfl)) (fun _ _ _ h => h) (Or.inl ⟨by rfl, ?_⟩) ?_ ?_
  rotate_left
  · intro w'
    go_simp
    with_reducible rfl
  rotate_left
  · simp only [Act.put, List.setIfInBounds_toArray, List.set_cons_zero, List.set_cons_succ, i64_w, i32_w]
    rfl
  refine one_ (i := 76) (N := some 147) #[true, true, true, true, true, true, true, true, true, true, true, true, true, true, true, true, true, true, true, true, true, true, true, true, true, true, true, true, true, true, true, true, true, true, true, true, true, true, true, true, true, true, true, true, true, true, true, true, true, true, true, true, true, true, true, true, true, true, true, true, true, true, true, true, true, true, true, true, true, true, true, true, true, true, true, true, true, false, false] rfl rfl (one_of HT_.out (by kernel_rfl)) (by decide) (fun K hK => ?_)
  refine goes_ Try.func25 (by kernel_rfl) rfl #[] (by rfl) rfl rfl (by simp only [List.map_toArray, List.map_cons, List.map_nil]) ?_
  with_reducible refine (caesuralaw19_wakes.calls kw true u73 HKW.out).mono ?_
  rintro e u76 ⟨rfl, hb_⟩
  refine ⟨_, rfl, ?_⟩
  refine hK.out _ _ (hHeld.step hb_) (fun hHeld => ?_)
  clear hK K
  refine norm_ (a' := ?_) ?_ ?_
  rotate_left
  · show Act.put _ (some 147) _ = _
    simp only [Act.put, List.setIfInBounds_toArray, List.set_cons_zero, List.set_cons_succ, i64_w, i32_w]
    rfl
  refine pure_ (i := 77) (N := some 148) (v := ?_) (a' := ?_) #[true, true, true, true, true, true, true, true, true, true, true, true, true, true, true, true, true, true, true, true, true, true, true, true, true, true, true, true, true, true, true, true, true, true, true, true, true, true, true, true, true, true, true, true, true, true, true, true, true, true, true, true, true, true, true, true, true, true, true, true, true, true, true, true, true, true, true, true, true, true, true, true, true, true, true, true, true, true, false] rfl rfl (any_of HT_.out (by kernel_rfl)) (fun _ _ _ h => h) (Or.inl ⟨by rfl, ?_⟩) ?_ ?_
  rotate_left
  · intro w'
    go_simp
    with_reducible rfl
  rotate_left
  · simp only [Act.put, List.setIfInBounds_toArray, List.set_cons_zero, List.set_cons_succ, i64_w, i32_w]
    rfl
  refine pure_ (i := 78) (N := some 6) (v := ?_) (a' := ?_) #[true, true, true, true, true, true, true, true, true, true, true, true, true, true, true, true, true, true, true, true, true, true, true, true, true, true, true, true, true, true, true, true, true, true, true, true, true, true, true, true, true, true, true, true, true, true, true, true, true, true, true, true, true, true, true, true, true, true, true, true, true, true, true, true, true, true, true, true, true, true, true, true, true, true, true, true, true, true, true] rfl rfl (any_of HT_.out (by kernel_rfl)) (fun _ _ _ h => h) (Or.inl ⟨by rfl, ?_⟩) ?_ ?_
  rotate_left
  · intro w'
    go_simp
    with_reducible rfl
  rotate_left
  · simp only [Act.put, List.setIfInBounds_toArray, List.set_cons_zero, List.set_cons_succ, i64_w, i32_w]
    rfl
  refine done_ (done_of HT_.out (by kernel_rfl)) ?_
  try go_wp2
  go_ret
  exact ⟨rfl, hHeld.low⟩

end Go.Proofs.Ytelkjbacdpmnfaa.A
