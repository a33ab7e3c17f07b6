/- By a program, out of the translation (wip/myprint.py). -/
import Derived.Test.YtelkjbacdpmnfaaA0
import Derived.Test.YtelkjbacdpmnfaaACaesuralaw19Takes
import Derived.Test.YtelkjbacdpmnfaaACaesuralaw19Wakes
import Derived.Test.YtelkjbacdpmnfaaACaesuraref19Good
import Derived.Test.YtelkjbacdpmnfaaAHolds
import Derived.Test.YtelkjbacdpmnfaaAPlainGood
import Derived.Test.YtelkjbacdpmnfaaAPlainNets
import Derived.Test.YtelkjbacdpmnfaaAPlainOne
import Derived.Test.YtelkjbacdpmnfaaAPlainRef
import Derived.Test.YtelkjbacdpmnfaaATakesDefs
import Derived.Test.YtelkjbacdpmnfaaATakesMain
import Derived.Test.YtelkjbacdpmnfaaAThompsonGood
import Derived.Test.YtelkjbacdpmnfaaAThompsonNets
namespace Go.Proofs.Ytelkjbacdpmnfaa.A
open Go.RowKit Go.Proofs.YtelkjbacdpmnfaaW.PrintWords Go.Proofs.YtelkjbacdpmnfaaW.PrintLast Go.Proofs.YtelkjbacdpmnfaaW.PrintMore
attribute [local go_sem] max2_int min2_int max_two min_two max_three min_three max_four min_four   -- for this text's walks alone
set_option linter.unusedVariables false
set_option linter.unusedSimpArgs false

/-! the law ThompsonTakes: where something is not good and small; all ways together (printed by gen_law.py) -/
set_option maxHeartbeats 8000000 in
set_option maxRecDepth 100000 in
theorem takes_bad0 (a0_0 : Int) (A0_1 : Option Addr) (c0_1 : Nat) (l0_1 : List (List Int)) (A0_2 : Option Addr) (c0_2 : Nat) (l0_2 : List Bool) (a1_0 : Int) (A1_1 : Option Addr) (c1_1 : Nat) (l1_1 : List (List Int)) (A1_2 : Option Addr) (c1_2 : Nat) (l1_2 : List Bool) (A2 : Option Addr) (c2 : Nat) (l2 : List Int) (w : World) (hr0_1 : Kd.C (Kd.slice 3 (Kd.int .i64)) w A0_1 l0_1.length l0_1) (hc0_1 : l0_1.length ≤ c0_1) (hr0_2 : Kd.C Kd.bool w A0_2 l0_2.length l0_2) (hc0_2 : l0_2.length ≤ c0_2) (hr1_1 : Kd.C (Kd.slice 3 (Kd.int .i64)) w A1_1 l1_1.length l1_1) (hc1_1 : l1_1.length ≤ c1_1) (hr1_2 : Kd.C Kd.bool w A1_2 l1_2.length l1_2) (hc1_2 : l1_2.length ≤ c1_2) (hr2 : Kd.C (Kd.int .u8) w A2 l2.length l2) (hc2 : l2.length ≤ c2) (kg0 kg1 kw : Nat) (hkw : caesuralaw19_wakes.f kw = some true) (h0 : caesuraref19_Good.f kg0 a0_0 l0_1 l0_2 = some false) :
    Calls Try.prog 4 #[.agg #[.int .i64 a0_0, .slice A0_1 l0_1.length c0_1, .slice A0_2 l0_2.length c0_2], .agg #[.int .i64 a1_0, .slice A1_1 l1_1.length c1_1, .slice A1_2 l1_2.length c1_2], .slice A2 l2.length c2] w fun e w' => e = .returned (.bool true) ∧ Below w.heap.size w w' := by
  have hu25 := Try.underlying25
  have HR0_1 := Aside0.mk hr0_1
  have HR0_2 := Aside0.mk hr0_2
  clear hr0_1 hr0_2
  have HR1_1 := Aside0.mk hr1_1
  have HR1_2 := Aside0.mk hr1_2
  clear hr1_1 hr1_2
  have HR2 := Aside0.mk hr2
  clear hr2
  have HKW := Aside0.mk hkw
  clear hkw
  have HG0 := Aside0.mk h0
  clear h0
  have HH := Aside0.mk (Hold.alloc (b1 := []) (Hold.alloc (b1 := []) (b2 := []) (Hold.refl w) #[.int .i64 a0_0, .slice A0_1 l0_1.length c0_1, .slice A0_2 l0_2.length c0_2] 25) #[.int .i64 a1_0, .slice A1_1 l1_1.length c1_1, .slice A1_2 l1_2.length c1_2] 25)
  simp only [List.nil_append, heap_size_alloc'] at HH
  go_enter Try.func4, Try.ntmps4
  have c00_ : ((w.alloc (Obj.cells #[.int .i64 a0_0, .slice A0_1 l0_1.length c0_1, .slice A0_2 l0_2.length c0_2] 25)).alloc (Obj.cells #[.int .i64 a1_0, .slice A1_1 l1_1.length c1_1, .slice A1_2 l1_2.length c1_2] 25)).cell? ⟨w.heap.size, 0, none⟩ = some (.int .i64 a0_0) := (blk_cell (HH.out.blks (w.heap.size, #[.int .i64 a0_0, .slice A0_1 l0_1.length c0_1, .slice A0_2 l0_2.length c0_2], 25) (by simp)) 0).trans rfl
  have c01_ : ((w.alloc (Obj.cells #[.int .i64 a0_0, .slice A0_1 l0_1.length c0_1, .slice A0_2 l0_2.length c0_2] 25)).alloc (Obj.cells #[.int .i64 a1_0, .slice A1_1 l1_1.length c1_1, .slice A1_2 l1_2.length c1_2] 25)).cell? ⟨w.heap.size, 1, none⟩ = some (.slice A0_1 l0_1.length c0_1) := (blk_cell (HH.out.blks (w.heap.size, #[.int .i64 a0_0, .slice A0_1 l0_1.length c0_1, .slice A0_2 l0_2.length c0_2], 25) (by simp)) 1).trans rfl
  have c02_ : ((w.alloc (Obj.cells #[.int .i64 a0_0, .slice A0_1 l0_1.length c0_1, .slice A0_2 l0_2.length c0_2] 25)).alloc (Obj.cells #[.int .i64 a1_0, .slice A1_1 l1_1.length c1_1, .slice A1_2 l1_2.length c1_2] 25)).cell? ⟨w.heap.size, 2, none⟩ = some (.slice A0_2 l0_2.length c0_2) := (blk_cell (HH.out.blks (w.heap.size, #[.int .i64 a0_0, .slice A0_1 l0_1.length c0_1, .slice A0_2 l0_2.length c0_2], 25) (by simp)) 2).trans rfl
  have c10_ : ((w.alloc (Obj.cells #[.int .i64 a0_0, .slice A0_1 l0_1.length c0_1, .slice A0_2 l0_2.length c0_2] 25)).alloc (Obj.cells #[.int .i64 a1_0, .slice A1_1 l1_1.length c1_1, .slice A1_2 l1_2.length c1_2] 25)).cell? ⟨w.heap.size + 1, 0, none⟩ = some (.int .i64 a1_0) := (blk_cell (HH.out.blks (w.heap.size + 1, #[.int .i64 a1_0, .slice A1_1 l1_1.length c1_1, .slice A1_2 l1_2.length c1_2], 25) (by simp)) 0).trans rfl
  have c11_ : ((w.alloc (Obj.cells #[.int .i64 a0_0, .slice A0_1 l0_1.length c0_1, .slice A0_2 l0_2.length c0_2] 25)).alloc (Obj.cells #[.int .i64 a1_0, .slice A1_1 l1_1.length c1_1, .slice A1_2 l1_2.length c1_2] 25)).cell? ⟨w.heap.size + 1, 1, none⟩ = some (.slice A1_1 l1_1.length c1_1) := (blk_cell (HH.out.blks (w.heap.size + 1, #[.int .i64 a1_0, .slice A1_1 l1_1.length c1_1, .slice A1_2 l1_2.length c1_2], 25) (by simp)) 1).trans rfl
  have c12_ : ((w.alloc (Obj.cells #[.int .i64 a0_0, .slice A0_1 l0_1.length c0_1, .slice A0_2 l0_2.length c0_2] 25)).alloc (Obj.cells #[.int .i64 a1_0, .slice A1_1 l1_1.length c1_1, .slice A1_2 l1_2.length c1_2] 25)).cell? ⟨w.heap.size + 1, 2, none⟩ = some (.slice A1_2 l1_2.length c1_2) := (blk_cell (HH.out.blks (w.heap.size + 1, #[.int .i64 a1_0, .slice A1_1 l1_1.length c1_1, .slice A1_2 l1_2.length c1_2], 25) (by simp)) 2).trans rfl
  go_wp2_with (first | (go_at_call 37; have hF_ := HG0.out; refine (caesuraref19_Good.calls kg0 a0_0 A0_1 c0_1 l0_1 A0_2 c0_2 l0_2 false _ (Kd.C_below HR0_1.out HH.out.low) hc0_1 (Kd.C_below HR0_2.out HH.out.low) hc0_2 hF_).mono ?_; clear hF_ HG0; rintro e wl ⟨rfl, hb⟩; have m0_ := Aside0.mk (HH.out.step hb); clear HH hb; have HH := m0_; clear m0_; (try clear c00_ c01_ c02_ c10_ c11_ c12_); have c00_ : wl.cell? ⟨w.heap.size, 0, none⟩ = some (.int .i64 a0_0) := (blk_cell (HH.out.blks (w.heap.size, #[.int .i64 a0_0, .slice A0_1 l0_1.length c0_1, .slice A0_2 l0_2.length c0_2], 25) (by simp)) 0).trans rfl; have c01_ : wl.cell? ⟨w.heap.size, 1, none⟩ = some (.slice A0_1 l0_1.length c0_1) := (blk_cell (HH.out.blks (w.heap.size, #[.int .i64 a0_0, .slice A0_1 l0_1.length c0_1, .slice A0_2 l0_2.length c0_2], 25) (by simp)) 1).trans rfl; have c02_ : wl.cell? ⟨w.heap.size, 2, none⟩ = some (.slice A0_2 l0_2.length c0_2) := (blk_cell (HH.out.blks (w.heap.size, #[.int .i64 a0_0, .slice A0_1 l0_1.length c0_1, .slice A0_2 l0_2.length c0_2], 25) (by simp)) 2).trans rfl; have c10_ : wl.cell? ⟨w.heap.size + 1, 0, none⟩ = some (.int .i64 a1_0) := (blk_cell (HH.out.blks (w.heap.size + 1, #[.int .i64 a1_0, .slice A1_1 l1_1.length c1_1, .slice A1_2 l1_2.length c1_2], 25) (by simp)) 0).trans rfl; have c11_ : wl.cell? ⟨w.heap.size + 1, 1, none⟩ = some (.slice A1_1 l1_1.length c1_1) := (blk_cell (HH.out.blks (w.heap.size + 1, #[.int .i64 a1_0, .slice A1_1 l1_1.length c1_1, .slice A1_2 l1_2.length c1_2], 25) (by simp)) 1).trans rfl; have c12_ : wl.cell? ⟨w.heap.size + 1, 2, none⟩ = some (.slice A1_2 l1_2.length c1_2) := (blk_cell (HH.out.blks (w.heap.size + 1, #[.int .i64 a1_0, .slice A1_1 l1_1.length c1_1, .slice A1_2 l1_2.length c1_2], 25) (by simp)) 2).trans rfl) | (go_at_call 25; refine (caesuralaw19_wakes.calls kw true _ HKW.out).mono ?_; rintro e wz ⟨rfl, hb⟩; have m0_ := Aside0.mk (HH.out.step hb); clear HH hb; have HH := m0_; clear m0_))
  try go_ret
  exact ⟨rfl, HH.out.low⟩
set_option maxHeartbeats 8000000 in
set_option maxRecDepth 100000 in
theorem takes_bad1 (a0_0 : Int) (A0_1 : Option Addr) (c0_1 : Nat) (l0_1 : List (List Int)) (A0_2 : Option Addr) (c0_2 : Nat) (l0_2 : List Bool) (a1_0 : Int) (A1_1 : Option Addr) (c1_1 : Nat) (l1_1 : List (List Int)) (A1_2 : Option Addr) (c1_2 : Nat) (l1_2 : List Bool) (A2 : Option Addr) (c2 : Nat) (l2 : List Int) (w : World) (hr0_1 : Kd.C (Kd.slice 3 (Kd.int .i64)) w A0_1 l0_1.length l0_1) (hc0_1 : l0_1.length ≤ c0_1) (hr0_2 : Kd.C Kd.bool w A0_2 l0_2.length l0_2) (hc0_2 : l0_2.length ≤ c0_2) (hr1_1 : Kd.C (Kd.slice 3 (Kd.int .i64)) w A1_1 l1_1.length l1_1) (hc1_1 : l1_1.length ≤ c1_1) (hr1_2 : Kd.C Kd.bool w A1_2 l1_2.length l1_2) (hc1_2 : l1_2.length ≤ c1_2) (hr2 : Kd.C (Kd.int .u8) w A2 l2.length l2) (hc2 : l2.length ≤ c2) (kg0 kg1 kw : Nat) (hkw : caesuralaw19_wakes.f kw = some true) (h0 : caesuraref19_Good.f kg0 a0_0 l0_1 l0_2 = some true) (h1 : caesuraref19_Good.f kg1 a1_0 l1_1 l1_2 = some false) :
    Calls Try.prog 4 #[.agg #[.int .i64 a0_0, .slice A0_1 l0_1.length c0_1, .slice A0_2 l0_2.length c0_2], .agg #[.int .i64 a1_0, .slice A1_1 l1_1.length c1_1, .slice A1_2 l1_2.length c1_2], .slice A2 l2.length c2] w fun e w' => e = .returned (.bool true) ∧ Below w.heap.size w w' := by
  have hu25 := Try.underlying25
  have HR0_1 := Aside0.mk hr0_1
  have HR0_2 := Aside0.mk hr0_2
  clear hr0_1 hr0_2
  have HR1_1 := Aside0.mk hr1_1
  have HR1_2 := Aside0.mk hr1_2
  clear hr1_1 hr1_2
  have HR2 := Aside0.mk hr2
  clear hr2
  have HKW := Aside0.mk hkw
  clear hkw
  have HG0 := Aside0.mk h0
  clear h0
  have HG1 := Aside0.mk h1
  clear h1
  have HH := Aside0.mk (Hold.alloc (b1 := []) (Hold.alloc (b1 := []) (b2 := []) (Hold.refl w) #[.int .i64 a0_0, .slice A0_1 l0_1.length c0_1, .slice A0_2 l0_2.length c0_2] 25) #[.int .i64 a1_0, .slice A1_1 l1_1.length c1_1, .slice A1_2 l1_2.length c1_2] 25)
  simp only [List.nil_append, heap_size_alloc'] at HH
  go_enter Try.func4, Try.ntmps4
  have c00_ : ((w.alloc (Obj.cells #[.int .i64 a0_0, .slice A0_1 l0_1.length c0_1, .slice A0_2 l0_2.length c0_2] 25)).alloc (Obj.cells #[.int .i64 a1_0, .slice A1_1 l1_1.length c1_1, .slice A1_2 l1_2.length c1_2] 25)).cell? ⟨w.heap.size, 0, none⟩ = some (.int .i64 a0_0) := (blk_cell (HH.out.blks (w.heap.size, #[.int .i64 a0_0, .slice A0_1 l0_1.length c0_1, .slice A0_2 l0_2.length c0_2], 25) (by simp)) 0).trans rfl
  have c01_ : ((w.alloc (Obj.cells #[.int .i64 a0_0, .slice A0_1 l0_1.length c0_1, .slice A0_2 l0_2.length c0_2] 25)).alloc (Obj.cells #[.int .i64 a1_0, .slice A1_1 l1_1.length c1_1, .slice A1_2 l1_2.length c1_2] 25)).cell? ⟨w.heap.size, 1, none⟩ = some (.slice A0_1 l0_1.length c0_1) := (blk_cell (HH.out.blks (w.heap.size, #[.int .i64 a0_0, .slice A0_1 l0_1.length c0_1, .slice A0_2 l0_2.length c0_2], 25) (by simp)) 1).trans rfl
  have c02_ : ((w.alloc (Obj.cells #[.int .i64 a0_0, .slice A0_1 l0_1.length c0_1, .slice A0_2 l0_2.length c0_2] 25)).alloc (Obj.cells #[.int .i64 a1_0, .slice A1_1 l1_1.length c1_1, .slice A1_2 l1_2.length c1_2] 25)).cell? ⟨w.heap.size, 2, none⟩ = some (.slice A0_2 l0_2.length c0_2) := (blk_cell (HH.out.blks (w.heap.size, #[.int .i64 a0_0, .slice A0_1 l0_1.length c0_1, .slice A0_2 l0_2.length c0_2], 25) (by simp)) 2).trans rfl
  have c10_ : ((w.alloc (Obj.cells #[.int .i64 a0_0, .slice A0_1 l0_1.length c0_1, .slice A0_2 l0_2.length c0_2] 25)).alloc (Obj.cells #[.int .i64 a1_0, .slice A1_1 l1_1.length c1_1, .slice A1_2 l1_2.length c1_2] 25)).cell? ⟨w.heap.size + 1, 0, none⟩ = some (.int .i64 a1_0) := (blk_cell (HH.out.blks (w.heap.size + 1, #[.int .i64 a1_0, .slice A1_1 l1_1.length c1_1, .slice A1_2 l1_2.length c1_2], 25) (by simp)) 0).trans rfl
  have c11_ : ((w.alloc (Obj.cells #[.int .i64 a0_0, .slice A0_1 l0_1.length c0_1, .slice A0_2 l0_2.length c0_2] 25)).alloc (Obj.cells #[.int .i64 a1_0, .slice A1_1 l1_1.length c1_1, .slice A1_2 l1_2.length c1_2] 25)).cell? ⟨w.heap.size + 1, 1, none⟩ = some (.slice A1_1 l1_1.length c1_1) := (blk_cell (HH.out.blks (w.heap.size + 1, #[.int .i64 a1_0, .slice A1_1 l1_1.length c1_1, .slice A1_2 l1_2.length c1_2], 25) (by simp)) 1).trans rfl
  have c12_ : ((w.alloc (Obj.cells #[.int .i64 a0_0, .slice A0_1 l0_1.length c0_1, .slice A0_2 l0_2.length c0_2] 25)).alloc (Obj.cells #[.int .i64 a1_0, .slice A1_1 l1_1.length c1_1, .slice A1_2 l1_2.length c1_2] 25)).cell? ⟨w.heap.size + 1, 2, none⟩ = some (.slice A1_2 l1_2.length c1_2) := (blk_cell (HH.out.blks (w.heap.size + 1, #[.int .i64 a1_0, .slice A1_1 l1_1.length c1_1, .slice A1_2 l1_2.length c1_2], 25) (by simp)) 2).trans rfl
  go_wp2_with (first | (go_at_call 37; have hF_ := HG0.out; refine (caesuraref19_Good.calls kg0 a0_0 A0_1 c0_1 l0_1 A0_2 c0_2 l0_2 true _ (Kd.C_below HR0_1.out HH.out.low) hc0_1 (Kd.C_below HR0_2.out HH.out.low) hc0_2 hF_).mono ?_; clear hF_ HG0; rintro e wl ⟨rfl, hb⟩; have m0_ := Aside0.mk (HH.out.step hb); clear HH hb; have HH := m0_; clear m0_; (try clear c00_ c01_ c02_ c10_ c11_ c12_); have c00_ : wl.cell? ⟨w.heap.size, 0, none⟩ = some (.int .i64 a0_0) := (blk_cell (HH.out.blks (w.heap.size, #[.int .i64 a0_0, .slice A0_1 l0_1.length c0_1, .slice A0_2 l0_2.length c0_2], 25) (by simp)) 0).trans rfl; have c01_ : wl.cell? ⟨w.heap.size, 1, none⟩ = some (.slice A0_1 l0_1.length c0_1) := (blk_cell (HH.out.blks (w.heap.size, #[.int .i64 a0_0, .slice A0_1 l0_1.length c0_1, .slice A0_2 l0_2.length c0_2], 25) (by simp)) 1).trans rfl; have c02_ : wl.cell? ⟨w.heap.size, 2, none⟩ = some (.slice A0_2 l0_2.length c0_2) := (blk_cell (HH.out.blks (w.heap.size, #[.int .i64 a0_0, .slice A0_1 l0_1.length c0_1, .slice A0_2 l0_2.length c0_2], 25) (by simp)) 2).trans rfl; have c10_ : wl.cell? ⟨w.heap.size + 1, 0, none⟩ = some (.int .i64 a1_0) := (blk_cell (HH.out.blks (w.heap.size + 1, #[.int .i64 a1_0, .slice A1_1 l1_1.length c1_1, .slice A1_2 l1_2.length c1_2], 25) (by simp)) 0).trans rfl; have c11_ : wl.cell? ⟨w.heap.size + 1, 1, none⟩ = some (.slice A1_1 l1_1.length c1_1) := (blk_cell (HH.out.blks (w.heap.size + 1, #[.int .i64 a1_0, .slice A1_1 l1_1.length c1_1, .slice A1_2 l1_2.length c1_2], 25) (by simp)) 1).trans rfl; have c12_ : wl.cell? ⟨w.heap.size + 1, 2, none⟩ = some (.slice A1_2 l1_2.length c1_2) := (blk_cell (HH.out.blks (w.heap.size + 1, #[.int .i64 a1_0, .slice A1_1 l1_1.length c1_1, .slice A1_2 l1_2.length c1_2], 25) (by simp)) 2).trans rfl) | (go_at_call 37; have hF_ := HG1.out; refine (caesuraref19_Good.calls kg1 a1_0 A1_1 c1_1 l1_1 A1_2 c1_2 l1_2 false _ (Kd.C_below HR1_1.out HH.out.low) hc1_1 (Kd.C_below HR1_2.out HH.out.low) hc1_2 hF_).mono ?_; clear hF_ HG1; rintro e wl ⟨rfl, hb⟩; have m0_ := Aside0.mk (HH.out.step hb); clear HH hb; have HH := m0_; clear m0_; (try clear c00_ c01_ c02_ c10_ c11_ c12_); have c00_ : wl.cell? ⟨w.heap.size, 0, none⟩ = some (.int .i64 a0_0) := (blk_cell (HH.out.blks (w.heap.size, #[.int .i64 a0_0, .slice A0_1 l0_1.length c0_1, .slice A0_2 l0_2.length c0_2], 25) (by simp)) 0).trans rfl; have c01_ : wl.cell? ⟨w.heap.size, 1, none⟩ = some (.slice A0_1 l0_1.length c0_1) := (blk_cell (HH.out.blks (w.heap.size, #[.int .i64 a0_0, .slice A0_1 l0_1.length c0_1, .slice A0_2 l0_2.length c0_2], 25) (by simp)) 1).trans rfl; have c02_ : wl.cell? ⟨w.heap.size, 2, none⟩ = some (.slice A0_2 l0_2.length c0_2) := (blk_cell (HH.out.blks (w.heap.size, #[.int .i64 a0_0, .slice A0_1 l0_1.length c0_1, .slice A0_2 l0_2.length c0_2], 25) (by simp)) 2).trans rfl; have c10_ : wl.cell? ⟨w.heap.size + 1, 0, none⟩ = some (.int .i64 a1_0) := (blk_cell (HH.out.blks (w.heap.size + 1, #[.int .i64 a1_0, .slice A1_1 l1_1.length c1_1, .slice A1_2 l1_2.length c1_2], 25) (by simp)) 0).trans rfl; have c11_ : wl.cell? ⟨w.heap.size + 1, 1, none⟩ = some (.slice A1_1 l1_1.length c1_1) := (blk_cell (HH.out.blks (w.heap.size + 1, #[.int .i64 a1_0, .slice A1_1 l1_1.length c1_1, .slice A1_2 l1_2.length c1_2], 25) (by simp)) 1).trans rfl; have c12_ : wl.cell? ⟨w.heap.size + 1, 2, none⟩ = some (.slice A1_2 l1_2.length c1_2) := (blk_cell (HH.out.blks (w.heap.size + 1, #[.int .i64 a1_0, .slice A1_1 l1_1.length c1_1, .slice A1_2 l1_2.length c1_2], 25) (by simp)) 2).trans rfl) | (go_at_call 25; refine (caesuralaw19_wakes.calls kw true _ HKW.out).mono ?_; rintro e wz ⟨rfl, hb⟩; have m0_ := Aside0.mk (HH.out.step hb); clear HH hb; have HH := m0_; clear m0_))
  try go_ret
  exact ⟨rfl, HH.out.low⟩
set_option maxHeartbeats 8000000 in
set_option maxRecDepth 100000 in
theorem takes_unlike (a0_0 : Int) (A0_1 : Option Addr) (c0_1 : Nat) (l0_1 : List (List Int)) (A0_2 : Option Addr) (c0_2 : Nat) (l0_2 : List Bool) (a1_0 : Int) (A1_1 : Option Addr) (c1_1 : Nat) (l1_1 : List (List Int)) (A1_2 : Option Addr) (c1_2 : Nat) (l1_2 : List Bool) (A2 : Option Addr) (c2 : Nat) (l2 : List Int) (w : World) (hr0_1 : Kd.C (Kd.slice 3 (Kd.int .i64)) w A0_1 l0_1.length l0_1) (hc0_1 : l0_1.length ≤ c0_1) (hr0_2 : Kd.C Kd.bool w A0_2 l0_2.length l0_2) (hc0_2 : l0_2.length ≤ c0_2) (hr1_1 : Kd.C (Kd.slice 3 (Kd.int .i64)) w A1_1 l1_1.length l1_1) (hc1_1 : l1_1.length ≤ c1_1) (hr1_2 : Kd.C Kd.bool w A1_2 l1_2.length l1_2) (hc1_2 : l1_2.length ≤ c1_2) (hr2 : Kd.C (Kd.int .u8) w A2 l2.length l2) (hc2 : l2.length ≤ c2) (kg0 kg1 kw : Nat) (hkw : caesuralaw19_wakes.f kw = some true) (h0 : caesuraref19_Good.f kg0 a0_0 l0_1 l0_2 = some true) (h1 : caesuraref19_Good.f kg1 a1_0 l1_1 l1_2 = some true) (hne : a0_0 ≠ a1_0) :
    Calls Try.prog 4 #[.agg #[.int .i64 a0_0, .slice A0_1 l0_1.length c0_1, .slice A0_2 l0_2.length c0_2], .agg #[.int .i64 a1_0, .slice A1_1 l1_1.length c1_1, .slice A1_2 l1_2.length c1_2], .slice A2 l2.length c2] w fun e w' => e = .returned (.bool true) ∧ Below w.heap.size w w' := by
  have hu25 := Try.underlying25
  have HR0_1 := Aside0.mk hr0_1
  have HR0_2 := Aside0.mk hr0_2
  clear hr0_1 hr0_2
  have HR1_1 := Aside0.mk hr1_1
  have HR1_2 := Aside0.mk hr1_2
  clear hr1_1 hr1_2
  have HR2 := Aside0.mk hr2
  clear hr2
  have HKW := Aside0.mk hkw
  clear hkw
  have HG0 := Aside0.mk h0
  clear h0
  have HG1 := Aside0.mk h1
  clear h1
  have HH := Aside0.mk (Hold.alloc (b1 := []) (Hold.alloc (b1 := []) (b2 := []) (Hold.refl w) #[.int .i64 a0_0, .slice A0_1 l0_1.length c0_1, .slice A0_2 l0_2.length c0_2] 25) #[.int .i64 a1_0, .slice A1_1 l1_1.length c1_1, .slice A1_2 l1_2.length c1_2] 25)
  simp only [List.nil_append, heap_size_alloc'] at HH
  have n3_ : (a0_0 != a1_0) = true := by simpa using hne
  clear hne
  go_enter Try.func4, Try.ntmps4
  have c00_ : ((w.alloc (Obj.cells #[.int .i64 a0_0, .slice A0_1 l0_1.length c0_1, .slice A0_2 l0_2.length c0_2] 25)).alloc (Obj.cells #[.int .i64 a1_0, .slice A1_1 l1_1.length c1_1, .slice A1_2 l1_2.length c1_2] 25)).cell? ⟨w.heap.size, 0, none⟩ = some (.int .i64 a0_0) := (blk_cell (HH.out.blks (w.heap.size, #[.int .i64 a0_0, .slice A0_1 l0_1.length c0_1, .slice A0_2 l0_2.length c0_2], 25) (by simp)) 0).trans rfl
  have c01_ : ((w.alloc (Obj.cells #[.int .i64 a0_0, .slice A0_1 l0_1.length c0_1, .slice A0_2 l0_2.length c0_2] 25)).alloc (Obj.cells #[.int .i64 a1_0, .slice A1_1 l1_1.length c1_1, .slice A1_2 l1_2.length c1_2] 25)).cell? ⟨w.heap.size, 1, none⟩ = some (.slice A0_1 l0_1.length c0_1) := (blk_cell (HH.out.blks (w.heap.size, #[.int .i64 a0_0, .slice A0_1 l0_1.length c0_1, .slice A0_2 l0_2.length c0_2], 25) (by simp)) 1).trans rfl
  have c02_ : ((w.alloc (Obj.cells #[.int .i64 a0_0, .slice A0_1 l0_1.length c0_1, .slice A0_2 l0_2.length c0_2] 25)).alloc (Obj.cells #[.int .i64 a1_0, .slice A1_1 l1_1.length c1_1, .slice A1_2 l1_2.length c1_2] 25)).cell? ⟨w.heap.size, 2, none⟩ = some (.slice A0_2 l0_2.length c0_2) := (blk_cell (HH.out.blks (w.heap.size, #[.int .i64 a0_0, .slice A0_1 l0_1.length c0_1, .slice A0_2 l0_2.length c0_2], 25) (by simp)) 2).trans rfl
  have c10_ : ((w.alloc (Obj.cells #[.int .i64 a0_0, .slice A0_1 l0_1.length c0_1, .slice A0_2 l0_2.length c0_2] 25)).alloc (Obj.cells #[.int .i64 a1_0, .slice A1_1 l1_1.length c1_1, .slice A1_2 l1_2.length c1_2] 25)).cell? ⟨w.heap.size + 1, 0, none⟩ = some (.int .i64 a1_0) := (blk_cell (HH.out.blks (w.heap.size + 1, #[.int .i64 a1_0, .slice A1_1 l1_1.length c1_1, .slice A1_2 l1_2.length c1_2], 25) (by simp)) 0).trans rfl
  have c11_ : ((w.alloc (Obj.cells #[.int .i64 a0_0, .slice A0_1 l0_1.length c0_1, .slice A0_2 l0_2.length c0_2] 25)).alloc (Obj.cells #[.int .i64 a1_0, .slice A1_1 l1_1.length c1_1, .slice A1_2 l1_2.length c1_2] 25)).cell? ⟨w.heap.size + 1, 1, none⟩ = some (.slice A1_1 l1_1.length c1_1) := (blk_cell (HH.out.blks (w.heap.size + 1, #[.int .i64 a1_0, .slice A1_1 l1_1.length c1_1, .slice A1_2 l1_2.length c1_2], 25) (by simp)) 1).trans rfl
  have c12_ : ((w.alloc (Obj.cells #[.int .i64 a0_0, .slice A0_1 l0_1.length c0_1, .slice A0_2 l0_2.length c0_2] 25)).alloc (Obj.cells #[.int .i64 a1_0, .slice A1_1 l1_1.length c1_1, .slice A1_2 l1_2.length c1_2] 25)).cell? ⟨w.heap.size + 1, 2, none⟩ = some (.slice A1_2 l1_2.length c1_2) := (blk_cell (HH.out.blks (w.heap.size + 1, #[.int .i64 a1_0, .slice A1_1 l1_1.length c1_1, .slice A1_2 l1_2.length c1_2], 25) (by simp)) 2).trans rfl
  go_wp2_with (first | (go_at_call 37; have hF_ := HG0.out; refine (caesuraref19_Good.calls kg0 a0_0 A0_1 c0_1 l0_1 A0_2 c0_2 l0_2 true _ (Kd.C_below HR0_1.out HH.out.low) hc0_1 (Kd.C_below HR0_2.out HH.out.low) hc0_2 hF_).mono ?_; clear hF_ HG0; rintro e wl ⟨rfl, hb⟩; have m0_ := Aside0.mk (HH.out.step hb); clear HH hb; have HH := m0_; clear m0_; (try clear c00_ c01_ c02_ c10_ c11_ c12_); have c00_ : wl.cell? ⟨w.heap.size, 0, none⟩ = some (.int .i64 a0_0) := (blk_cell (HH.out.blks (w.heap.size, #[.int .i64 a0_0, .slice A0_1 l0_1.length c0_1, .slice A0_2 l0_2.length c0_2], 25) (by simp)) 0).trans rfl; have c01_ : wl.cell? ⟨w.heap.size, 1, none⟩ = some (.slice A0_1 l0_1.length c0_1) := (blk_cell (HH.out.blks (w.heap.size, #[.int .i64 a0_0, .slice A0_1 l0_1.length c0_1, .slice A0_2 l0_2.length c0_2], 25) (by simp)) 1).trans rfl; have c02_ : wl.cell? ⟨w.heap.size, 2, none⟩ = some (.slice A0_2 l0_2.length c0_2) := (blk_cell (HH.out.blks (w.heap.size, #[.int .i64 a0_0, .slice A0_1 l0_1.length c0_1, .slice A0_2 l0_2.length c0_2], 25) (by simp)) 2).trans rfl; have c10_ : wl.cell? ⟨w.heap.size + 1, 0, none⟩ = some (.int .i64 a1_0) := (blk_cell (HH.out.blks (w.heap.size + 1, #[.int .i64 a1_0, .slice A1_1 l1_1.length c1_1, .slice A1_2 l1_2.length c1_2], 25) (by simp)) 0).trans rfl; have c11_ : wl.cell? ⟨w.heap.size + 1, 1, none⟩ = some (.slice A1_1 l1_1.length c1_1) := (blk_cell (HH.out.blks (w.heap.size + 1, #[.int .i64 a1_0, .slice A1_1 l1_1.length c1_1, .slice A1_2 l1_2.length c1_2], 25) (by simp)) 1).trans rfl; have c12_ : wl.cell? ⟨w.heap.size + 1, 2, none⟩ = some (.slice A1_2 l1_2.length c1_2) := (blk_cell (HH.out.blks (w.heap.size + 1, #[.int .i64 a1_0, .slice A1_1 l1_1.length c1_1, .slice A1_2 l1_2.length c1_2], 25) (by simp)) 2).trans rfl) | (go_at_call 37; have hF_ := HG1.out; refine (caesuraref19_Good.calls kg1 a1_0 A1_1 c1_1 l1_1 A1_2 c1_2 l1_2 true _ (Kd.C_below HR1_1.out HH.out.low) hc1_1 (Kd.C_below HR1_2.out HH.out.low) hc1_2 hF_).mono ?_; clear hF_ HG1; rintro e wl ⟨rfl, hb⟩; have m0_ := Aside0.mk (HH.out.step hb); clear HH hb; have HH := m0_; clear m0_; (try clear c00_ c01_ c02_ c10_ c11_ c12_); have c00_ : wl.cell? ⟨w.heap.size, 0, none⟩ = some (.int .i64 a0_0) := (blk_cell (HH.out.blks (w.heap.size, #[.int .i64 a0_0, .slice A0_1 l0_1.length c0_1, .slice A0_2 l0_2.length c0_2], 25) (by simp)) 0).trans rfl; have c01_ : wl.cell? ⟨w.heap.size, 1, none⟩ = some (.slice A0_1 l0_1.length c0_1) := (blk_cell (HH.out.blks (w.heap.size, #[.int .i64 a0_0, .slice A0_1 l0_1.length c0_1, .slice A0_2 l0_2.length c0_2], 25) (by simp)) 1).trans rfl; have c02_ : wl.cell? ⟨w.heap.size, 2, none⟩ = some (.slice A0_2 l0_2.length c0_2) := (blk_cell (HH.out.blks (w.heap.size, #[.int .i64 a0_0, .slice A0_1 l0_1.length c0_1, .slice A0_2 l0_2.length c0_2], 25) (by simp)) 2).trans rfl; have c10_ : wl.cell? ⟨w.heap.size + 1, 0, none⟩ = some (.int .i64 a1_0) := (blk_cell (HH.out.blks (w.heap.size + 1, #[.int .i64 a1_0, .slice A1_1 l1_1.length c1_1, .slice A1_2 l1_2.length c1_2], 25) (by simp)) 0).trans rfl; have c11_ : wl.cell? ⟨w.heap.size + 1, 1, none⟩ = some (.slice A1_1 l1_1.length c1_1) := (blk_cell (HH.out.blks (w.heap.size + 1, #[.int .i64 a1_0, .slice A1_1 l1_1.length c1_1, .slice A1_2 l1_2.length c1_2], 25) (by simp)) 1).trans rfl; have c12_ : wl.cell? ⟨w.heap.size + 1, 2, none⟩ = some (.slice A1_2 l1_2.length c1_2) := (blk_cell (HH.out.blks (w.heap.size + 1, #[.int .i64 a1_0, .slice A1_1 l1_1.length c1_1, .slice A1_2 l1_2.length c1_2], 25) (by simp)) 2).trans rfl) | (go_at_call 25; refine (caesuralaw19_wakes.calls kw true _ HKW.out).mono ?_; rintro e wz ⟨rfl, hb⟩; have m0_ := Aside0.mk (HH.out.step hb); clear HH hb; have HH := m0_; clear m0_))
  try go_ret
  exact ⟨rfl, HH.out.low⟩
set_option maxHeartbeats 8000000 in
set_option maxRecDepth 100000 in
theorem takes_long0 (a0_0 : Int) (A0_1 : Option Addr) (c0_1 : Nat) (l0_1 : List (List Int)) (A0_2 : Option Addr) (c0_2 : Nat) (l0_2 : List Bool) (a1_0 : Int) (A1_1 : Option Addr) (c1_1 : Nat) (l1_1 : List (List Int)) (A1_2 : Option Addr) (c1_2 : Nat) (l1_2 : List Bool) (A2 : Option Addr) (c2 : Nat) (l2 : List Int) (w : World) (hr0_1 : Kd.C (Kd.slice 3 (Kd.int .i64)) w A0_1 l0_1.length l0_1) (hc0_1 : l0_1.length ≤ c0_1) (hr0_2 : Kd.C Kd.bool w A0_2 l0_2.length l0_2) (hc0_2 : l0_2.length ≤ c0_2) (hr1_1 : Kd.C (Kd.slice 3 (Kd.int .i64)) w A1_1 l1_1.length l1_1) (hc1_1 : l1_1.length ≤ c1_1) (hr1_2 : Kd.C Kd.bool w A1_2 l1_2.length l1_2) (hc1_2 : l1_2.length ≤ c1_2) (hr2 : Kd.C (Kd.int .u8) w A2 l2.length l2) (hc2 : l2.length ≤ c2) (kg0 kg1 kw : Nat) (hkw : caesuralaw19_wakes.f kw = some true) (h0 : caesuraref19_Good.f kg0 a0_0 l0_1 l0_2 = some true) (h1 : caesuraref19_Good.f kg1 a1_0 l1_1 l1_2 = some true) (ha : a0_0 = a1_0) (hn0 : 20 < l0_1.length) :
    Calls Try.prog 4 #[.agg #[.int .i64 a0_0, .slice A0_1 l0_1.length c0_1, .slice A0_2 l0_2.length c0_2], .agg #[.int .i64 a1_0, .slice A1_1 l1_1.length c1_1, .slice A1_2 l1_2.length c1_2], .slice A2 l2.length c2] w fun e w' => e = .returned (.bool true) ∧ Below w.heap.size w w' := by
  have hu25 := Try.underlying25
  have HR0_1 := Aside0.mk hr0_1
  have HR0_2 := Aside0.mk hr0_2
  clear hr0_1 hr0_2
  have HR1_1 := Aside0.mk hr1_1
  have HR1_2 := Aside0.mk hr1_2
  clear hr1_1 hr1_2
  have HR2 := Aside0.mk hr2
  clear hr2
  have HKW := Aside0.mk hkw
  clear hkw
  have HG0 := Aside0.mk h0
  clear h0
  have HG1 := Aside0.mk h1
  clear h1
  have HH := Aside0.mk (Hold.alloc (b1 := []) (Hold.alloc (b1 := []) (b2 := []) (Hold.refl w) #[.int .i64 a0_0, .slice A0_1 l0_1.length c0_1, .slice A0_2 l0_2.length c0_2] 25) #[.int .i64 a1_0, .slice A1_1 l1_1.length c1_1, .slice A1_2 l1_2.length c1_2] 25)
  simp only [List.nil_append, heap_size_alloc'] at HH
  have n3_ : (a0_0 != a1_0) = false := by rw [ha]; simp
  have n0_ : ((l0_1.length : Int) > 20) = True := eq_true (by omega)
  clear ha
  clear hn0
  go_enter Try.func4, Try.ntmps4
  have c00_ : ((w.alloc (Obj.cells #[.int .i64 a0_0, .slice A0_1 l0_1.length c0_1, .slice A0_2 l0_2.length c0_2] 25)).alloc (Obj.cells #[.int .i64 a1_0, .slice A1_1 l1_1.length c1_1, .slice A1_2 l1_2.length c1_2] 25)).cell? ⟨w.heap.size, 0, none⟩ = some (.int .i64 a0_0) := (blk_cell (HH.out.blks (w.heap.size, #[.int .i64 a0_0, .slice A0_1 l0_1.length c0_1, .slice A0_2 l0_2.length c0_2], 25) (by simp)) 0).trans rfl
  have c01_ : ((w.alloc (Obj.cells #[.int .i64 a0_0, .slice A0_1 l0_1.length c0_1, .slice A0_2 l0_2.length c0_2] 25)).alloc (Obj.cells #[.int .i64 a1_0, .slice A1_1 l1_1.length c1_1, .slice A1_2 l1_2.length c1_2] 25)).cell? ⟨w.heap.size, 1, none⟩ = some (.slice A0_1 l0_1.length c0_1) := (blk_cell (HH.out.blks (w.heap.size, #[.int .i64 a0_0, .slice A0_1 l0_1.length c0_1, .slice A0_2 l0_2.length c0_2], 25) (by simp)) 1).trans rfl
  have c02_ : ((w.alloc (Obj.cells #[.int .i64 a0_0, .slice A0_1 l0_1.length c0_1, .slice A0_2 l0_2.length c0_2] 25)).alloc (Obj.cells #[.int .i64 a1_0, .slice A1_1 l1_1.length c1_1, .slice A1_2 l1_2.length c1_2] 25)).cell? ⟨w.heap.size, 2, none⟩ = some (.slice A0_2 l0_2.length c0_2) := (blk_cell (HH.out.blks (w.heap.size, #[.int .i64 a0_0, .slice A0_1 l0_1.length c0_1, .slice A0_2 l0_2.length c0_2], 25) (by simp)) 2).trans rfl
  have c10_ : ((w.alloc (Obj.cells #[.int .i64 a0_0, .slice A0_1 l0_1.length c0_1, .slice A0_2 l0_2.length c0_2] 25)).alloc (Obj.cells #[.int .i64 a1_0, .slice A1_1 l1_1.length c1_1, .slice A1_2 l1_2.length c1_2] 25)).cell? ⟨w.heap.size + 1, 0, none⟩ = some (.int .i64 a1_0) := (blk_cell (HH.out.blks (w.heap.size + 1, #[.int .i64 a1_0, .slice A1_1 l1_1.length c1_1, .slice A1_2 l1_2.length c1_2], 25) (by simp)) 0).trans rfl
  have c11_ : ((w.alloc (Obj.cells #[.int .i64 a0_0, .slice A0_1 l0_1.length c0_1, .slice A0_2 l0_2.length c0_2] 25)).alloc (Obj.cells #[.int .i64 a1_0, .slice A1_1 l1_1.length c1_1, .slice A1_2 l1_2.length c1_2] 25)).cell? ⟨w.heap.size + 1, 1, none⟩ = some (.slice A1_1 l1_1.length c1_1) := (blk_cell (HH.out.blks (w.heap.size + 1, #[.int .i64 a1_0, .slice A1_1 l1_1.length c1_1, .slice A1_2 l1_2.length c1_2], 25) (by simp)) 1).trans rfl
  have c12_ : ((w.alloc (Obj.cells #[.int .i64 a0_0, .slice A0_1 l0_1.length c0_1, .slice A0_2 l0_2.length c0_2] 25)).alloc (Obj.cells #[.int .i64 a1_0, .slice A1_1 l1_1.length c1_1, .slice A1_2 l1_2.length c1_2] 25)).cell? ⟨w.heap.size + 1, 2, none⟩ = some (.slice A1_2 l1_2.length c1_2) := (blk_cell (HH.out.blks (w.heap.size + 1, #[.int .i64 a1_0, .slice A1_1 l1_1.length c1_1, .slice A1_2 l1_2.length c1_2], 25) (by simp)) 2).trans rfl
  go_wp2_with (first | (go_at_call 37; have hF_ := HG0.out; refine (caesuraref19_Good.calls kg0 a0_0 A0_1 c0_1 l0_1 A0_2 c0_2 l0_2 true _ (Kd.C_below HR0_1.out HH.out.low) hc0_1 (Kd.C_below HR0_2.out HH.out.low) hc0_2 hF_).mono ?_; clear hF_ HG0; rintro e wl ⟨rfl, hb⟩; have m0_ := Aside0.mk (HH.out.step hb); clear HH hb; have HH := m0_; clear m0_; (try clear c00_ c01_ c02_ c10_ c11_ c12_); have c00_ : wl.cell? ⟨w.heap.size, 0, none⟩ = some (.int .i64 a0_0) := (blk_cell (HH.out.blks (w.heap.size, #[.int .i64 a0_0, .slice A0_1 l0_1.length c0_1, .slice A0_2 l0_2.length c0_2], 25) (by simp)) 0).trans rfl; have c01_ : wl.cell? ⟨w.heap.size, 1, none⟩ = some (.slice A0_1 l0_1.length c0_1) := (blk_cell (HH.out.blks (w.heap.size, #[.int .i64 a0_0, .slice A0_1 l0_1.length c0_1, .slice A0_2 l0_2.length c0_2], 25) (by simp)) 1).trans rfl; have c02_ : wl.cell? ⟨w.heap.size, 2, none⟩ = some (.slice A0_2 l0_2.length c0_2) := (blk_cell (HH.out.blks (w.heap.size, #[.int .i64 a0_0, .slice A0_1 l0_1.length c0_1, .slice A0_2 l0_2.length c0_2], 25) (by simp)) 2).trans rfl; have c10_ : wl.cell? ⟨w.heap.size + 1, 0, none⟩ = some (.int .i64 a1_0) := (blk_cell (HH.out.blks (w.heap.size + 1, #[.int .i64 a1_0, .slice A1_1 l1_1.length c1_1, .slice A1_2 l1_2.length c1_2], 25) (by simp)) 0).trans rfl; have c11_ : wl.cell? ⟨w.heap.size + 1, 1, none⟩ = some (.slice A1_1 l1_1.length c1_1) := (blk_cell (HH.out.blks (w.heap.size + 1, #[.int .i64 a1_0, .slice A1_1 l1_1.length c1_1, .slice A1_2 l1_2.length c1_2], 25) (by simp)) 1).trans rfl; have c12_ : wl.cell? ⟨w.heap.size + 1, 2, none⟩ = some (.slice A1_2 l1_2.length c1_2) := (blk_cell (HH.out.blks (w.heap.size + 1, #[.int .i64 a1_0, .slice A1_1 l1_1.length c1_1, .slice A1_2 l1_2.length c1_2], 25) (by simp)) 2).trans rfl) | (go_at_call 37; have hF_ := HG1.out; refine (caesuraref19_Good.calls kg1 a1_0 A1_1 c1_1 l1_1 A1_2 c1_2 l1_2 true _ (Kd.C_below HR1_1.out HH.out.low) hc1_1 (Kd.C_below HR1_2.out HH.out.low) hc1_2 hF_).mono ?_; clear hF_ HG1; rintro e wl ⟨rfl, hb⟩; have m0_ := Aside0.mk (HH.out.step hb); clear HH hb; have HH := m0_; clear m0_; (try clear c00_ c01_ c02_ c10_ c11_ c12_); have c00_ : wl.cell? ⟨w.heap.size, 0, none⟩ = some (.int .i64 a0_0) := (blk_cell (HH.out.blks (w.heap.size, #[.int .i64 a0_0, .slice A0_1 l0_1.length c0_1, .slice A0_2 l0_2.length c0_2], 25) (by simp)) 0).trans rfl; have c01_ : wl.cell? ⟨w.heap.size, 1, none⟩ = some (.slice A0_1 l0_1.length c0_1) := (blk_cell (HH.out.blks (w.heap.size, #[.int .i64 a0_0, .slice A0_1 l0_1.length c0_1, .slice A0_2 l0_2.length c0_2], 25) (by simp)) 1).trans rfl; have c02_ : wl.cell? ⟨w.heap.size, 2, none⟩ = some (.slice A0_2 l0_2.length c0_2) := (blk_cell (HH.out.blks (w.heap.size, #[.int .i64 a0_0, .slice A0_1 l0_1.length c0_1, .slice A0_2 l0_2.length c0_2], 25) (by simp)) 2).trans rfl; have c10_ : wl.cell? ⟨w.heap.size + 1, 0, none⟩ = some (.int .i64 a1_0) := (blk_cell (HH.out.blks (w.heap.size + 1, #[.int .i64 a1_0, .slice A1_1 l1_1.length c1_1, .slice A1_2 l1_2.length c1_2], 25) (by simp)) 0).trans rfl; have c11_ : wl.cell? ⟨w.heap.size + 1, 1, none⟩ = some (.slice A1_1 l1_1.length c1_1) := (blk_cell (HH.out.blks (w.heap.size + 1, #[.int .i64 a1_0, .slice A1_1 l1_1.length c1_1, .slice A1_2 l1_2.length c1_2], 25) (by simp)) 1).trans rfl; have c12_ : wl.cell? ⟨w.heap.size + 1, 2, none⟩ = some (.slice A1_2 l1_2.length c1_2) := (blk_cell (HH.out.blks (w.heap.size + 1, #[.int .i64 a1_0, .slice A1_1 l1_1.length c1_1, .slice A1_2 l1_2.length c1_2], 25) (by simp)) 2).trans rfl) | (go_at_call 25; refine (caesuralaw19_wakes.calls kw true _ HKW.out).mono ?_; rintro e wz ⟨rfl, hb⟩; have m0_ := Aside0.mk (HH.out.step hb); clear HH hb; have HH := m0_; clear m0_))
  try go_ret
  exact ⟨rfl, HH.out.low⟩
set_option maxHeartbeats 8000000 in
set_option maxRecDepth 100000 in
theorem takes_long1 (a0_0 : Int) (A0_1 : Option Addr) (c0_1 : Nat) (l0_1 : List (List Int)) (A0_2 : Option Addr) (c0_2 : Nat) (l0_2 : List Bool) (a1_0 : Int) (A1_1 : Option Addr) (c1_1 : Nat) (l1_1 : List (List Int)) (A1_2 : Option Addr) (c1_2 : Nat) (l1_2 : List Bool) (A2 : Option Addr) (c2 : Nat) (l2 : List Int) (w : World) (hr0_1 : Kd.C (Kd.slice 3 (Kd.int .i64)) w A0_1 l0_1.length l0_1) (hc0_1 : l0_1.length ≤ c0_1) (hr0_2 : Kd.C Kd.bool w A0_2 l0_2.length l0_2) (hc0_2 : l0_2.length ≤ c0_2) (hr1_1 : Kd.C (Kd.slice 3 (Kd.int .i64)) w A1_1 l1_1.length l1_1) (hc1_1 : l1_1.length ≤ c1_1) (hr1_2 : Kd.C Kd.bool w A1_2 l1_2.length l1_2) (hc1_2 : l1_2.length ≤ c1_2) (hr2 : Kd.C (Kd.int .u8) w A2 l2.length l2) (hc2 : l2.length ≤ c2) (kg0 kg1 kw : Nat) (hkw : caesuralaw19_wakes.f kw = some true) (h0 : caesuraref19_Good.f kg0 a0_0 l0_1 l0_2 = some true) (h1 : caesuraref19_Good.f kg1 a1_0 l1_1 l1_2 = some true) (ha : a0_0 = a1_0) (hn0 : l0_1.length ≤ 20) (hn1 : 20 < l1_1.length) :
    Calls Try.prog 4 #[.agg #[.int .i64 a0_0, .slice A0_1 l0_1.length c0_1, .slice A0_2 l0_2.length c0_2], .agg #[.int .i64 a1_0, .slice A1_1 l1_1.length c1_1, .slice A1_2 l1_2.length c1_2], .slice A2 l2.length c2] w fun e w' => e = .returned (.bool true) ∧ Below w.heap.size w w' := by
  have hu25 := Try.underlying25
  have HR0_1 := Aside0.mk hr0_1
  have HR0_2 := Aside0.mk hr0_2
  clear hr0_1 hr0_2
  have HR1_1 := Aside0.mk hr1_1
  have HR1_2 := Aside0.mk hr1_2
  clear hr1_1 hr1_2
  have HR2 := Aside0.mk hr2
  clear hr2
  have HKW := Aside0.mk hkw
  clear hkw
  have HG0 := Aside0.mk h0
  clear h0
  have HG1 := Aside0.mk h1
  clear h1
  have HH := Aside0.mk (Hold.alloc (b1 := []) (Hold.alloc (b1 := []) (b2 := []) (Hold.refl w) #[.int .i64 a0_0, .slice A0_1 l0_1.length c0_1, .slice A0_2 l0_2.length c0_2] 25) #[.int .i64 a1_0, .slice A1_1 l1_1.length c1_1, .slice A1_2 l1_2.length c1_2] 25)
  simp only [List.nil_append, heap_size_alloc'] at HH
  have n3_ : (a0_0 != a1_0) = false := by rw [ha]; simp
  have n0_ : ((l0_1.length : Int) > 20) = False := eq_false (by omega)
  have n1_ : ((l1_1.length : Int) > 20) = True := eq_true (by omega)
  clear ha
  clear hn0
  clear hn1
  go_enter Try.func4, Try.ntmps4
  have c00_ : ((w.alloc (Obj.cells #[.int .i64 a0_0, .slice A0_1 l0_1.length c0_1, .slice A0_2 l0_2.length c0_2] 25)).alloc (Obj.cells #[.int .i64 a1_0, .slice A1_1 l1_1.length c1_1, .slice A1_2 l1_2.length c1_2] 25)).cell? ⟨w.heap.size, 0, none⟩ = some (.int .i64 a0_0) := (blk_cell (HH.out.blks (w.heap.size, #[.int .i64 a0_0, .slice A0_1 l0_1.length c0_1, .slice A0_2 l0_2.length c0_2], 25) (by simp)) 0).trans rfl
  have c01_ : ((w.alloc (Obj.cells #[.int .i64 a0_0, .slice A0_1 l0_1.length c0_1, .slice A0_2 l0_2.length c0_2] 25)).alloc (Obj.cells #[.int .i64 a1_0, .slice A1_1 l1_1.length c1_1, .slice A1_2 l1_2.length c1_2] 25)).cell? ⟨w.heap.size, 1, none⟩ = some (.slice A0_1 l0_1.length c0_1) := (blk_cell (HH.out.blks (w.heap.size, #[.int .i64 a0_0, .slice A0_1 l0_1.length c0_1, .slice A0_2 l0_2.length c0_2], 25) (by simp)) 1).trans rfl
  have c02_ : ((w.alloc (Obj.cells #[.int .i64 a0_0, .slice A0_1 l0_1.length c0_1, .slice A0_2 l0_2.length c0_2] 25)).alloc (Obj.cells #[.int .i64 a1_0, .slice A1_1 l1_1.length c1_1, .slice A1_2 l1_2.length c1_2] 25)).cell? ⟨w.heap.size, 2, none⟩ = some (.slice A0_2 l0_2.length c0_2) := (blk_cell (HH.out.blks (w.heap.size, #[.int .i64 a0_0, .slice A0_1 l0_1.length c0_1, .slice A0_2 l0_2.length c0_2], 25) (by simp)) 2).trans rfl
  have c10_ : ((w.alloc (Obj.cells #[.int .i64 a0_0, .slice A0_1 l0_1.length c0_1, .slice A0_2 l0_2.length c0_2] 25)).alloc (Obj.cells #[.int .i64 a1_0, .slice A1_1 l1_1.length c1_1, .slice A1_2 l1_2.length c1_2] 25)).cell? ⟨w.heap.size + 1, 0, none⟩ = some (.int .i64 a1_0) := (blk_cell (HH.out.blks (w.heap.size + 1, #[.int .i64 a1_0, .slice A1_1 l1_1.length c1_1, .slice A1_2 l1_2.length c1_2], 25) (by simp)) 0).trans rfl
  have c11_ : ((w.alloc (Obj.cells #[.int .i64 a0_0, .slice A0_1 l0_1.length c0_1, .slice A0_2 l0_2.length c0_2] 25)).alloc (Obj.cells #[.int .i64 a1_0, .slice A1_1 l1_1.length c1_1, .slice A1_2 l1_2.length c1_2] 25)).cell? ⟨w.heap.size + 1, 1, none⟩ = some (.slice A1_1 l1_1.length c1_1) := (blk_cell (HH.out.blks (w.heap.size + 1, #[.int .i64 a1_0, .slice A1_1 l1_1.length c1_1, .slice A1_2 l1_2.length c1_2], 25) (by simp)) 1).trans rfl
  have c12_ : ((w.alloc (Obj.cells #[.int .i64 a0_0, .slice A0_1 l0_1.length c0_1, .slice A0_2 l0_2.length c0_2] 25)).alloc (Obj.cells #[.int .i64 a1_0, .slice A1_1 l1_1.length c1_1, .slice A1_2 l1_2.length c1_2] 25)).cell? ⟨w.heap.size + 1, 2, none⟩ = some (.slice A1_2 l1_2.length c1_2) := (blk_cell (HH.out.blks (w.heap.size + 1, #[.int .i64 a1_0, .slice A1_1 l1_1.length c1_1, .slice A1_2 l1_2.length c1_2], 25) (by simp)) 2).trans rfl
  go_wp2_with (first | (go_at_call 37; have hF_ := HG0.out; refine (caesuraref19_Good.calls kg0 a0_0 A0_1 c0_1 l0_1 A0_2 c0_2 l0_2 true _ (Kd.C_below HR0_1.out HH.out.low) hc0_1 (Kd.C_below HR0_2.out HH.out.low) hc0_2 hF_).mono ?_; clear hF_ HG0; rintro e wl ⟨rfl, hb⟩; have m0_ := Aside0.mk (HH.out.step hb); clear HH hb; have HH := m0_; clear m0_; (try clear c00_ c01_ c02_ c10_ c11_ c12_); have c00_ : wl.cell? ⟨w.heap.size, 0, none⟩ = some (.int .i64 a0_0) := (blk_cell (HH.out.blks (w.heap.size, #[.int .i64 a0_0, .slice A0_1 l0_1.length c0_1, .slice A0_2 l0_2.length c0_2], 25) (by simp)) 0).trans rfl; have c01_ : wl.cell? ⟨w.heap.size, 1, none⟩ = some (.slice A0_1 l0_1.length c0_1) := (blk_cell (HH.out.blks (w.heap.size, #[.int .i64 a0_0, .slice A0_1 l0_1.length c0_1, .slice A0_2 l0_2.length c0_2], 25) (by simp)) 1).trans rfl; have c02_ : wl.cell? ⟨w.heap.size, 2, none⟩ = some (.slice A0_2 l0_2.length c0_2) := (blk_cell (HH.out.blks (w.heap.size, #[.int .i64 a0_0, .slice A0_1 l0_1.length c0_1, .slice A0_2 l0_2.length c0_2], 25) (by simp)) 2).trans rfl; have c10_ : wl.cell? ⟨w.heap.size + 1, 0, none⟩ = some (.int .i64 a1_0) := (blk_cell (HH.out.blks (w.heap.size + 1, #[.int .i64 a1_0, .slice A1_1 l1_1.length c1_1, .slice A1_2 l1_2.length c1_2], 25) (by simp)) 0).trans rfl; have c11_ : wl.cell? ⟨w.heap.size + 1, 1, none⟩ = some (.slice A1_1 l1_1.length c1_1) := (blk_cell (HH.out.blks (w.heap.size + 1, #[.int .i64 a1_0, .slice A1_1 l1_1.length c1_1, .slice A1_2 l1_2.length c1_2], 25) (by simp)) 1).trans rfl; have c12_ : wl.cell? ⟨w.heap.size + 1, 2, none⟩ = some (.slice A1_2 l1_2.length c1_2) := (blk_cell (HH.out.blks (w.heap.size + 1, #[.int .i64 a1_0, .slice A1_1 l1_1.length c1_1, .slice A1_2 l1_2.length c1_2], 25) (by simp)) 2).trans rfl) | (go_at_call 37; have hF_ := HG1.out; refine (caesuraref19_Good.calls kg1 a1_0 A1_1 c1_1 l1_1 A1_2 c1_2 l1_2 true _ (Kd.C_below HR1_1.out HH.out.low) hc1_1 (Kd.C_below HR1_2.out HH.out.low) hc1_2 hF_).mono ?_; clear hF_ HG1; rintro e wl ⟨rfl, hb⟩; have m0_ := Aside0.mk (HH.out.step hb); clear HH hb; have HH := m0_; clear m0_; (try clear c00_ c01_ c02_ c10_ c11_ c12_); have c00_ : wl.cell? ⟨w.heap.size, 0, none⟩ = some (.int .i64 a0_0) := (blk_cell (HH.out.blks (w.heap.size, #[.int .i64 a0_0, .slice A0_1 l0_1.length c0_1, .slice A0_2 l0_2.length c0_2], 25) (by simp)) 0).trans rfl; have c01_ : wl.cell? ⟨w.heap.size, 1, none⟩ = some (.slice A0_1 l0_1.length c0_1) := (blk_cell (HH.out.blks (w.heap.size, #[.int .i64 a0_0, .slice A0_1 l0_1.length c0_1, .slice A0_2 l0_2.length c0_2], 25) (by simp)) 1).trans rfl; have c02_ : wl.cell? ⟨w.heap.size, 2, none⟩ = some (.slice A0_2 l0_2.length c0_2) := (blk_cell (HH.out.blks (w.heap.size, #[.int .i64 a0_0, .slice A0_1 l0_1.length c0_1, .slice A0_2 l0_2.length c0_2], 25) (by simp)) 2).trans rfl; have c10_ : wl.cell? ⟨w.heap.size + 1, 0, none⟩ = some (.int .i64 a1_0) := (blk_cell (HH.out.blks (w.heap.size + 1, #[.int .i64 a1_0, .slice A1_1 l1_1.length c1_1, .slice A1_2 l1_2.length c1_2], 25) (by simp)) 0).trans rfl; have c11_ : wl.cell? ⟨w.heap.size + 1, 1, none⟩ = some (.slice A1_1 l1_1.length c1_1) := (blk_cell (HH.out.blks (w.heap.size + 1, #[.int .i64 a1_0, .slice A1_1 l1_1.length c1_1, .slice A1_2 l1_2.length c1_2], 25) (by simp)) 1).trans rfl; have c12_ : wl.cell? ⟨w.heap.size + 1, 2, none⟩ = some (.slice A1_2 l1_2.length c1_2) := (blk_cell (HH.out.blks (w.heap.size + 1, #[.int .i64 a1_0, .slice A1_1 l1_1.length c1_1, .slice A1_2 l1_2.length c1_2], 25) (by simp)) 2).trans rfl) | (go_at_call 25; refine (caesuralaw19_wakes.calls kw true _ HKW.out).mono ?_; rintro e wz ⟨rfl, hb⟩; have m0_ := Aside0.mk (HH.out.step hb); clear HH hb; have HH := m0_; clear m0_))
  try go_ret
  exact ⟨rfl, HH.out.low⟩
set_option maxHeartbeats 8000000 in
set_option maxRecDepth 100000 in
theorem takes_long2 (a0_0 : Int) (A0_1 : Option Addr) (c0_1 : Nat) (l0_1 : List (List Int)) (A0_2 : Option Addr) (c0_2 : Nat) (l0_2 : List Bool) (a1_0 : Int) (A1_1 : Option Addr) (c1_1 : Nat) (l1_1 : List (List Int)) (A1_2 : Option Addr) (c1_2 : Nat) (l1_2 : List Bool) (A2 : Option Addr) (c2 : Nat) (l2 : List Int) (w : World) (hr0_1 : Kd.C (Kd.slice 3 (Kd.int .i64)) w A0_1 l0_1.length l0_1) (hc0_1 : l0_1.length ≤ c0_1) (hr0_2 : Kd.C Kd.bool w A0_2 l0_2.length l0_2) (hc0_2 : l0_2.length ≤ c0_2) (hr1_1 : Kd.C (Kd.slice 3 (Kd.int .i64)) w A1_1 l1_1.length l1_1) (hc1_1 : l1_1.length ≤ c1_1) (hr1_2 : Kd.C Kd.bool w A1_2 l1_2.length l1_2) (hc1_2 : l1_2.length ≤ c1_2) (hr2 : Kd.C (Kd.int .u8) w A2 l2.length l2) (hc2 : l2.length ≤ c2) (kg0 kg1 kw : Nat) (hkw : caesuralaw19_wakes.f kw = some true) (h0 : caesuraref19_Good.f kg0 a0_0 l0_1 l0_2 = some true) (h1 : caesuraref19_Good.f kg1 a1_0 l1_1 l1_2 = some true) (ha : a0_0 = a1_0) (hn0 : l0_1.length ≤ 20) (hn1 : l1_1.length ≤ 20) (hn2 : 8 < l2.length) :
    Calls Try.prog 4 #[.agg #[.int .i64 a0_0, .slice A0_1 l0_1.length c0_1, .slice A0_2 l0_2.length c0_2], .agg #[.int .i64 a1_0, .slice A1_1 l1_1.length c1_1, .slice A1_2 l1_2.length c1_2], .slice A2 l2.length c2] w fun e w' => e = .returned (.bool true) ∧ Below w.heap.size w w' := by
  have hu25 := Try.underlying25
  have HR0_1 := Aside0.mk hr0_1
  have HR0_2 := Aside0.mk hr0_2
  clear hr0_1 hr0_2
  have HR1_1 := Aside0.mk hr1_1
  have HR1_2 := Aside0.mk hr1_2
  clear hr1_1 hr1_2
  have HR2 := Aside0.mk hr2
  clear hr2
  have HKW := Aside0.mk hkw
  clear hkw
  have HG0 := Aside0.mk h0
  clear h0
  have HG1 := Aside0.mk h1
  clear h1
  have HH := Aside0.mk (Hold.alloc (b1 := []) (Hold.alloc (b1 := []) (b2 := []) (Hold.refl w) #[.int .i64 a0_0, .slice A0_1 l0_1.length c0_1, .slice A0_2 l0_2.length c0_2] 25) #[.int .i64 a1_0, .slice A1_1 l1_1.length c1_1, .slice A1_2 l1_2.length c1_2] 25)
  simp only [List.nil_append, heap_size_alloc'] at HH
  have n3_ : (a0_0 != a1_0) = false := by rw [ha]; simp
  have n0_ : ((l0_1.length : Int) > 20) = False := eq_false (by omega)
  have n1_ : ((l1_1.length : Int) > 20) = False := eq_false (by omega)
  have n2_ : ((l2.length : Int) > 8) = True := eq_true (by omega)
  clear ha
  clear hn0
  clear hn1
  clear hn2
  go_enter Try.func4, Try.ntmps4
  have c00_ : ((w.alloc (Obj.cells #[.int .i64 a0_0, .slice A0_1 l0_1.length c0_1, .slice A0_2 l0_2.length c0_2] 25)).alloc (Obj.cells #[.int .i64 a1_0, .slice A1_1 l1_1.length c1_1, .slice A1_2 l1_2.length c1_2] 25)).cell? ⟨w.heap.size, 0, none⟩ = some (.int .i64 a0_0) := (blk_cell (HH.out.blks (w.heap.size, #[.int .i64 a0_0, .slice A0_1 l0_1.length c0_1, .slice A0_2 l0_2.length c0_2], 25) (by simp)) 0).trans rfl
  have c01_ : ((w.alloc (Obj.cells #[.int .i64 a0_0, .slice A0_1 l0_1.length c0_1, .slice A0_2 l0_2.length c0_2] 25)).alloc (Obj.cells #[.int .i64 a1_0, .slice A1_1 l1_1.length c1_1, .slice A1_2 l1_2.length c1_2] 25)).cell? ⟨w.heap.size, 1, none⟩ = some (.slice A0_1 l0_1.length c0_1) := (blk_cell (HH.out.blks (w.heap.size, #[.int .i64 a0_0, .slice A0_1 l0_1.length c0_1, .slice A0_2 l0_2.length c0_2], 25) (by simp)) 1).trans rfl
  have c02_ : ((w.alloc (Obj.cells #[.int .i64 a0_0, .slice A0_1 l0_1.length c0_1, .slice A0_2 l0_2.length c0_2] 25)).alloc (Obj.cells #[.int .i64 a1_0, .slice A1_1 l1_1.length c1_1, .slice A1_2 l1_2.length c1_2] 25)).cell? ⟨w.heap.size, 2, none⟩ = some (.slice A0_2 l0_2.length c0_2) := (blk_cell (HH.out.blks (w.heap.size, #[.int .i64 a0_0, .slice A0_1 l0_1.length c0_1, .slice A0_2 l0_2.length c0_2], 25) (by simp)) 2).trans rfl
  have c10_ : ((w.alloc (Obj.cells #[.int .i64 a0_0, .slice A0_1 l0_1.length c0_1, .slice A0_2 l0_2.length c0_2] 25)).alloc (Obj.cells #[.int .i64 a1_0, .slice A1_1 l1_1.length c1_1, .slice A1_2 l1_2.length c1_2] 25)).cell? ⟨w.heap.size + 1, 0, none⟩ = some (.int .i64 a1_0) := (blk_cell (HH.out.blks (w.heap.size + 1, #[.int .i64 a1_0, .slice A1_1 l1_1.length c1_1, .slice A1_2 l1_2.length c1_2], 25) (by simp)) 0).trans rfl
  have c11_ : ((w.alloc (Obj.cells #[.int .i64 a0_0, .slice A0_1 l0_1.length c0_1, .slice A0_2 l0_2.length c0_2] 25)).alloc (Obj.cells #[.int .i64 a1_0, .slice A1_1 l1_1.length c1_1, .slice A1_2 l1_2.length c1_2] 25)).cell? ⟨w.heap.size + 1, 1, none⟩ = some (.slice A1_1 l1_1.length c1_1) := (blk_cell (HH.out.blks (w.heap.size + 1, #[.int .i64 a1_0, .slice A1_1 l1_1.length c1_1, .slice A1_2 l1_2.length c1_2], 25) (by simp)) 1).trans rfl
  have c12_ : ((w.alloc (Obj.cells #[.int .i64 a0_0, .slice A0_1 l0_1.length c0_1, .slice A0_2 l0_2.length c0_2] 25)).alloc (Obj.cells #[.int .i64 a1_0, .slice A1_1 l1_1.length c1_1, .slice A1_2 l1_2.length c1_2] 25)).cell? ⟨w.heap.size + 1, 2, none⟩ = some (.slice A1_2 l1_2.length c1_2) := (blk_cell (HH.out.blks (w.heap.size + 1, #[.int .i64 a1_0, .slice A1_1 l1_1.length c1_1, .slice A1_2 l1_2.length c1_2], 25) (by simp)) 2).trans rfl
  go_wp2_with (first | (go_at_call 37; have hF_ := HG0.out; refine (caesuraref19_Good.calls kg0 a0_0 A0_1 c0_1 l0_1 A0_2 c0_2 l0_2 true _ (Kd.C_below HR0_1.out HH.out.low) hc0_1 (Kd.C_below HR0_2.out HH.out.low) hc0_2 hF_).mono ?_; clear hF_ HG0; rintro e wl ⟨rfl, hb⟩; have m0_ := Aside0.mk (HH.out.step hb); clear HH hb; have HH := m0_; clear m0_; (try clear c00_ c01_ c02_ c10_ c11_ c12_); have c00_ : wl.cell? ⟨w.heap.size, 0, none⟩ = some (.int .i64 a0_0) := (blk_cell (HH.out.blks (w.heap.size, #[.int .i64 a0_0, .slice A0_1 l0_1.length c0_1, .slice A0_2 l0_2.length c0_2], 25) (by simp)) 0).trans rfl; have c01_ : wl.cell? ⟨w.heap.size, 1, none⟩ = some (.slice A0_1 l0_1.length c0_1) := (blk_cell (HH.out.blks (w.heap.size, #[.int .i64 a0_0, .slice A0_1 l0_1.length c0_1, .slice A0_2 l0_2.length c0_2], 25) (by simp)) 1).trans rfl; have c02_ : wl.cell? ⟨w.heap.size, 2, none⟩ = some (.slice A0_2 l0_2.length c0_2) := (blk_cell (HH.out.blks (w.heap.size, #[.int .i64 a0_0, .slice A0_1 l0_1.length c0_1, .slice A0_2 l0_2.length c0_2], 25) (by simp)) 2).trans rfl; have c10_ : wl.cell? ⟨w.heap.size + 1, 0, none⟩ = some (.int .i64 a1_0) := (blk_cell (HH.out.blks (w.heap.size + 1, #[.int .i64 a1_0, .slice A1_1 l1_1.length c1_1, .slice A1_2 l1_2.length c1_2], 25) (by simp)) 0).trans rfl; have c11_ : wl.cell? ⟨w.heap.size + 1, 1, none⟩ = some (.slice A1_1 l1_1.length c1_1) := (blk_cell (HH.out.blks (w.heap.size + 1, #[.int .i64 a1_0, .slice A1_1 l1_1.length c1_1, .slice A1_2 l1_2.length c1_2], 25) (by simp)) 1).trans rfl; have c12_ : wl.cell? ⟨w.heap.size + 1, 2, none⟩ = some (.slice A1_2 l1_2.length c1_2) := (blk_cell (HH.out.blks (w.heap.size + 1, #[.int .i64 a1_0, .slice A1_1 l1_1.length c1_1, .slice A1_2 l1_2.length c1_2], 25) (by simp)) 2).trans rfl) | (go_at_call 37; have hF_ := HG1.out; refine (caesuraref19_Good.calls kg1 a1_0 A1_1 c1_1 l1_1 A1_2 c1_2 l1_2 true _ (Kd.C_below HR1_1.out HH.out.low) hc1_1 (Kd.C_below HR1_2.out HH.out.low) hc1_2 hF_).mono ?_; clear hF_ HG1; rintro e wl ⟨rfl, hb⟩; have m0_ := Aside0.mk (HH.out.step hb); clear HH hb; have HH := m0_; clear m0_; (try clear c00_ c01_ c02_ c10_ c11_ c12_); have c00_ : wl.cell? ⟨w.heap.size, 0, none⟩ = some (.int .i64 a0_0) := (blk_cell (HH.out.blks (w.heap.size, #[.int .i64 a0_0, .slice A0_1 l0_1.length c0_1, .slice A0_2 l0_2.length c0_2], 25) (by simp)) 0).trans rfl; have c01_ : wl.cell? ⟨w.heap.size, 1, none⟩ = some (.slice A0_1 l0_1.length c0_1) := (blk_cell (HH.out.blks (w.heap.size, #[.int .i64 a0_0, .slice A0_1 l0_1.length c0_1, .slice A0_2 l0_2.length c0_2], 25) (by simp)) 1).trans rfl; have c02_ : wl.cell? ⟨w.heap.size, 2, none⟩ = some (.slice A0_2 l0_2.length c0_2) := (blk_cell (HH.out.blks (w.heap.size, #[.int .i64 a0_0, .slice A0_1 l0_1.length c0_1, .slice A0_2 l0_2.length c0_2], 25) (by simp)) 2).trans rfl; have c10_ : wl.cell? ⟨w.heap.size + 1, 0, none⟩ = some (.int .i64 a1_0) := (blk_cell (HH.out.blks (w.heap.size + 1, #[.int .i64 a1_0, .slice A1_1 l1_1.length c1_1, .slice A1_2 l1_2.length c1_2], 25) (by simp)) 0).trans rfl; have c11_ : wl.cell? ⟨w.heap.size + 1, 1, none⟩ = some (.slice A1_1 l1_1.length c1_1) := (blk_cell (HH.out.blks (w.heap.size + 1, #[.int .i64 a1_0, .slice A1_1 l1_1.length c1_1, .slice A1_2 l1_2.length c1_2], 25) (by simp)) 1).trans rfl; have c12_ : wl.cell? ⟨w.heap.size + 1, 2, none⟩ = some (.slice A1_2 l1_2.length c1_2) := (blk_cell (HH.out.blks (w.heap.size + 1, #[.int .i64 a1_0, .slice A1_1 l1_1.length c1_1, .slice A1_2 l1_2.length c1_2], 25) (by simp)) 2).trans rfl) | (go_at_call 25; refine (caesuralaw19_wakes.calls kw true _ HKW.out).mono ?_; rintro e wz ⟨rfl, hb⟩; have m0_ := Aside0.mk (HH.out.step hb); clear HH hb; have HH := m0_; clear m0_))
  try go_ret
  exact ⟨rfl, HH.out.low⟩
theorem caesuralaw19_ThompsonTakes.told (a0_0 : Int) (A0_1 : Option Addr) (c0_1 : Nat) (l0_1 : List (List Int)) (A0_2 : Option Addr) (c0_2 : Nat) (l0_2 : List Bool) (a1_0 : Int) (A1_1 : Option Addr) (c1_1 : Nat) (l1_1 : List (List Int)) (A1_2 : Option Addr) (c1_2 : Nat) (l1_2 : List Bool) (A2 : Option Addr) (c2 : Nat) (l2 : List Int) (w : World) (hr0_1 : Kd.C (Kd.slice 3 (Kd.int .i64)) w A0_1 l0_1.length l0_1) (hc0_1 : l0_1.length ≤ c0_1) (hr0_2 : Kd.C Kd.bool w A0_2 l0_2.length l0_2) (hc0_2 : l0_2.length ≤ c0_2) (hr1_1 : Kd.C (Kd.slice 3 (Kd.int .i64)) w A1_1 l1_1.length l1_1) (hc1_1 : l1_1.length ≤ c1_1) (hr1_2 : Kd.C Kd.bool w A1_2 l1_2.length l1_2) (hc1_2 : l1_2.length ≤ c1_2) (hr2 : Kd.C (Kd.int .u8) w A2 l2.length l2) (hc2 : l2.length ≤ c2) (wl : ∀ x ∈ l2, (Lit.int .u8 x).wf = true) :
    Calls Try.prog 4 #[.agg #[.int .i64 a0_0, .slice A0_1 l0_1.length c0_1, .slice A0_2 l0_2.length c0_2], .agg #[.int .i64 a1_0, .slice A1_1 l1_1.length c1_1, .slice A1_2 l1_2.length c1_2], .slice A2 l2.length c2] w fun e w' => e = .returned (.bool true) ∧ Below w.heap.size w w' := by
  obtain ⟨kw, hkw⟩ := ev_wakes19.rounds
  obtain ⟨kg0, h0⟩ := (ev_refGood a0_0 l0_1 l0_2).rounds
  obtain ⟨kg1, h1⟩ := (ev_refGood a1_0 l1_1 l1_2).rounds
  by_cases hg0 : goodB a0_0 l0_1 l0_2 = true
  case neg =>
    rw [Bool.not_eq_true] at hg0
    rw [hg0] at h0
    exact takes_bad0 a0_0 A0_1 c0_1 l0_1 A0_2 c0_2 l0_2 a1_0 A1_1 c1_1 l1_1 A1_2 c1_2 l1_2 A2 c2 l2 w hr0_1 hc0_1 hr0_2 hc0_2 hr1_1 hc1_1 hr1_2 hc1_2 hr2 hc2 kg0 0 kw hkw h0
  rw [hg0] at h0
  by_cases hg1 : goodB a1_0 l1_1 l1_2 = true
  case neg =>
    rw [Bool.not_eq_true] at hg1
    rw [hg1] at h1
    exact takes_bad1 a0_0 A0_1 c0_1 l0_1 A0_2 c0_2 l0_2 a1_0 A1_1 c1_1 l1_1 A1_2 c1_2 l1_2 A2 c2 l2 w hr0_1 hc0_1 hr0_2 hc0_2 hr1_1 hc1_1 hr1_2 hc1_2 hr2 hc2 kg0 kg1 kw hkw h0 h1
  rw [hg1] at h1
  by_cases ha : a0_0 = a1_0
  case neg => exact takes_unlike a0_0 A0_1 c0_1 l0_1 A0_2 c0_2 l0_2 a1_0 A1_1 c1_1 l1_1 A1_2 c1_2 l1_2 A2 c2 l2 w hr0_1 hc0_1 hr0_2 hc0_2 hr1_1 hc1_1 hr1_2 hc1_2 hr2 hc2 kg0 kg1 kw hkw h0 h1 ha
  by_cases hn0 : l0_1.length ≤ 20
  case neg => exact takes_long0 a0_0 A0_1 c0_1 l0_1 A0_2 c0_2 l0_2 a1_0 A1_1 c1_1 l1_1 A1_2 c1_2 l1_2 A2 c2 l2 w hr0_1 hc0_1 hr0_2 hc0_2 hr1_1 hc1_1 hr1_2 hc1_2 hr2 hc2 kg0 kg1 kw hkw h0 h1 ha (by omega)
  by_cases hn1 : l1_1.length ≤ 20
  case neg => exact takes_long1 a0_0 A0_1 c0_1 l0_1 A0_2 c0_2 l0_2 a1_0 A1_1 c1_1 l1_1 A1_2 c1_2 l1_2 A2 c2 l2 w hr0_1 hc0_1 hr0_2 hc0_2 hr1_1 hc1_1 hr1_2 hc1_2 hr2 hc2 kg0 kg1 kw hkw h0 h1 ha hn0 (by omega)
  by_cases hn2 : l2.length ≤ 8
  case neg => exact takes_long2 a0_0 A0_1 c0_1 l0_1 A0_2 c0_2 l0_2 a1_0 A1_1 c1_1 l1_1 A1_2 c1_2 l1_2 A2 c2 l2 w hr0_1 hc0_1 hr0_2 hc0_2 hr1_1 hc1_1 hr1_2 hc1_2 hr2 hc2 kg0 kg1 kw hkw h0 h1 ha hn0 hn1 (by omega)
  have hx : ∀ x ∈ l2, 0 ≤ x ∧ x ≤ 255 := fun x hx => by
    have h2 := wl x hx
    simp only [Lit.wf, Bool.and_eq_true, decide_eq_true_eq] at h2
    exact h2
  have hg1' : goodB a0_0 l1_1 l1_2 = true := by rw [ha]; exact hg1
  have hpos := (goodB_elim hg0).1
  obtain ⟨L, hLL⟩ : ∃ L, L = l2.map (fun x => Int.tmod (wrap64 x) a0_0) := ⟨_, rfl⟩
  have hL : ∀ x ∈ L, 0 ≤ x ∧ x < a0_0 := by
    intro y hy
    rw [hLL] at hy
    obtain ⟨x, hx1, rfl⟩ := List.mem_map.1 hy
    have h3 := hx x hx1
    have h4 : wrap64 x = x := by unfold wrap64; omega
    show 0 ≤ Int.tmod (wrap64 x) a0_0 ∧ Int.tmod (wrap64 x) a0_0 < a0_0
    rw [h4]
    exact ⟨Int.tmod_nonneg a0_0 h3.1, Int.tmod_lt_of_pos x (by omega)⟩
  have hlen : L.length ≤ 1000000 := by rw [hLL, List.length_map]; omega
  have hbb : bothB a0_0 l0_1 l0_2 a1_0 l1_1 l1_2 = true := by unfold bothB; rw [hg0, hg1]; simp [ha]
  have f1 := ev_Of a0_0 l0_1 l0_2
  have f2 := ev_Join a0_0 l0_1 l0_2 a1_0 l1_1 l1_2
  have f3 := ev_Either a0_0 l0_1 l0_2 a1_0 l1_1 l1_2
  have f4 := ev_Again a0_0 l0_1 l0_2
  rw [if_pos hg0] at f1 f4
  rw [if_pos hbb] at f2 f3
  obtain ⟨t1, ht1⟩ := f1.rounds
  obtain ⟨t2, ht2⟩ := f2.rounds
  obtain ⟨t3, ht3⟩ := f3.rounds
  obtain ⟨t4, ht4⟩ := f4.rounds
  obtain ⟨⟨gn1, ok1⟩, b1⟩ := net_Of hg0
  obtain ⟨⟨gn2, ok2⟩, b2, b2'⟩ := net_Join hg0 hg1'
  obtain ⟨⟨gn3, ok3⟩, b3, b3'⟩ := net_Either hg0 hg1'
  obtain ⟨⟨gn4, ok4⟩, b4⟩ := net_Again hg0
  obtain ⟨n1, hs1⟩ := (ev_refGoodNet a0_0 (netOf l0_1 l0_2) ok1.deg).rounds
  rw [gn1] at hs1
  obtain ⟨r1, hat1, hk1⟩ := ev_goes (a := a0_0) (L := L) ok1 hlen
  obtain ⟨e1, he1⟩ := hk1.rounds
  obtain ⟨n2, hs2⟩ := (ev_refGoodNet a0_0 (netJoin l0_1 l0_2 l1_1 l1_2) ok2.deg).rounds
  rw [gn2] at hs2
  obtain ⟨r2, hat2, hk2⟩ := ev_goes (a := a0_0) (L := L) ok2 hlen
  obtain ⟨e2, he2⟩ := hk2.rounds
  obtain ⟨n3, hs3⟩ := (ev_refGoodNet a0_0 (netEither l0_1 l0_2 l1_1 l1_2) ok3.deg).rounds
  rw [gn3] at hs3
  obtain ⟨r3, hat3, hk3⟩ := ev_goes (a := a0_0) (L := L) ok3 hlen
  obtain ⟨e3, he3⟩ := hk3.rounds
  obtain ⟨n4, hs4⟩ := (ev_refGoodNet a0_0 (netAgain l0_1 l0_2) ok4.deg).rounds
  rw [gn4] at hs4
  obtain ⟨r4, hat4, hk4⟩ := ev_goes (a := a0_0) (L := L) ok4 hlen
  obtain ⟨e4, he4⟩ := hk4.rounds
  have e1_ : r1 = Ta l0_1 l0_2 L 0 L.length := by
    rw [Bool.eq_iff_iff, hat1]
    exact at_Of hg0 hL b1 rfl rfl
  have e2_ : r2 = catB (Ta l0_1 l0_2 L) (Ta l1_1 l1_2 L) L.length (L.length + 1) := by
    rw [Bool.eq_iff_iff, hat2, catB_iff]
    exact at_Join hg0 hg1' hL b2 b2' rfl rfl
  have e3_ : r3 = (Ta l0_1 l0_2 L 0 L.length || Ta l1_1 l1_2 L 0 L.length) := by
    rw [Bool.eq_iff_iff, hat3]
    exact at_Either hg0 hg1' hL b3 b3' (by unfold netEither; simp) rfl
  have e4_ : r4 = (agains (Ta l0_1 l0_2 L) L.length (L.length + 1)).getD L.length false := by
    rw [Bool.eq_iff_iff, hat4, agains_iff (Ta l0_1 l0_2 L) L.length (L.length + 1) (Nat.le_refl _) L.length (Nat.le_refl _), at_Again hg0 hL b4 rfl rfl]
    exact ⟨fun h => ⟨Or.inl (by omega), h⟩, fun h => h.2⟩
  rw [e1_] at he1
  rw [e2_] at he2
  rw [e3_] at he3
  rw [e4_] at he4
  have hTA : ∀ i j, ∃ m, caesuralaw19_takes.f m a0_0 l0_1 l0_2 ((L.take j).drop i) = some (Ta l0_1 l0_2 L i j) := fun i j => (ev_takes hg0 (fun x hx => hL x (List.mem_of_mem_take (List.mem_of_mem_drop hx))) (by rw [List.length_drop, List.length_take]; omega)).rounds
  have hTB : ∀ i j, ∃ m, caesuralaw19_takes.f m a1_0 l1_1 l1_2 ((L.take j).drop i) = some (Ta l1_1 l1_2 L i j) := fun i j => (ev_takes hg1 (fun x hx => by rw [← ha]; exact hL x (List.mem_of_mem_take (List.mem_of_mem_drop hx))) (by rw [List.length_drop, List.length_take]; omega)).rounds
  exact takes_main a0_0 A0_1 c0_1 l0_1 A0_2 c0_2 l0_2 a1_0 A1_1 c1_1 l1_1 A1_2 c1_2 l1_2 A2 c2 l2 w hr0_1 hc0_1 hr0_2 hc0_2 hr1_1 hc1_1 hr1_2 hc1_2 hr2 hc2 kg0 kg1 h0 h1 ha (by omega) hn0 hn1 hn2 L hLL a0_0 (netOf l0_1 l0_2) t1 n1 a0_0 (netJoin l0_1 l0_2 l1_1 l1_2) t2 n2 a0_0 (netEither l0_1 l0_2 l1_1 l1_2) t3 n3 a0_0 (netAgain l0_1 l0_2) t4 n4 ht1 ht2 ht3 ht4 hs1 hs2 hs3 hs4 (Ta l0_1 l0_2 L) (Ta l1_1 l1_2 L) hTA hTB kw hkw e1 e2 e3 e4 he1 he2 he3 he4

end Go.Proofs.Ytelkjbacdpmnfaa.A
