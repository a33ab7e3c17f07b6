/- By a program, out of the translation (wip/myprint.py). -/
import Derived.Test.YtelkjbacdpmnfaaA0
import Derived.Test.YtelkjbacdpmnfaaACaesuralaw19Large
import Derived.Test.YtelkjbacdpmnfaaACaesuralaw19LargeNet
import Derived.Test.YtelkjbacdpmnfaaACaesuralaw19Wakes
import Derived.Test.YtelkjbacdpmnfaaAHolds
import Derived.Test.YtelkjbacdpmnfaaAThompsonNets
namespace Go.Proofs.Ytelkjbacdpmnfaa.A
open Go.RowKit Go.Proofs.YtelkjbacdpmnfaaW.PrintWords Go.Proofs.YtelkjbacdpmnfaaW.PrintLast Go.Proofs.YtelkjbacdpmnfaaW.PrintMore
attribute [local go_sem] max2_int min2_int max_two min_two max_three min_three max_four min_four   -- for this text's walks alone
set_option linter.unusedVariables false
set_option linter.unusedSimpArgs false

/-! the law ThompsonTells, where something is large (printed by gen_tells.py) -/
set_option maxHeartbeats 8000000 in
set_option maxRecDepth 100000 in
theorem tells_large0 (a0_0 : Int) (A0_1 : Option Addr) (c0_1 : Nat) (l0_1 : List (List Int)) (A0_2 : Option Addr) (c0_2 : Nat) (l0_2 : List Bool) (a1_0 : Int) (A1_1 : Option Addr) (c1_1 : Nat) (l1_1 : List (List Int)) (A1_2 : Option Addr) (c1_2 : Nat) (l1_2 : List Bool) (a2_0 : Int) (A2_1 : Option Addr) (c2_1 : Nat) (l2_1 : List (List (S82))) (w : World) (hr0_1 : Kd.C (Kd.slice 3 (Kd.int .i64)) w A0_1 l0_1.length l0_1) (hc0_1 : l0_1.length ≤ c0_1) (hr0_2 : Kd.C Kd.bool w A0_2 l0_2.length l0_2) (hc0_2 : l0_2.length ≤ c0_2) (hr1_1 : Kd.C (Kd.slice 3 (Kd.int .i64)) w A1_1 l1_1.length l1_1) (hc1_1 : l1_1.length ≤ c1_1) (hr1_2 : Kd.C Kd.bool w A1_2 l1_2.length l1_2) (hc1_2 : l1_2.length ≤ c1_2) (hr2_1 : Kd.C (Kd.slice 82 k82) w A2_1 l2_1.length l2_1) (hc2_1 : l2_1.length ≤ c2_1) (kw k0 k1 k2 : Nat) (hkw : caesuralaw19_wakes.f kw = some true) (h0 : caesuralaw19_Large.f k0 a0_0 l0_1 l0_2 = some true) :
    Calls Try.prog 3 #[.agg #[.int .i64 a0_0, .slice A0_1 l0_1.length c0_1, .slice A0_2 l0_2.length c0_2], .agg #[.int .i64 a1_0, .slice A1_1 l1_1.length c1_1, .slice A1_2 l1_2.length c1_2], .agg #[.int .i64 a2_0, .slice A2_1 l2_1.length c2_1]] w fun e w' => e = .returned (.bool true) ∧ Below w.heap.size w w' := by
  have hu25 := Try.underlying25
  have hu28 := Try.underlying28
  have hu38 := Try.underlying38
  have HR0_1 := Aside0.mk hr0_1
  have HR0_2 := Aside0.mk hr0_2
  clear hr0_1 hr0_2
  have HR1_1 := Aside0.mk hr1_1
  have HR1_2 := Aside0.mk hr1_2
  clear hr1_1 hr1_2
  have HR2_1 := Aside0.mk hr2_1
  clear hr2_1
  have HH := Aside0.mk (Hold.alloc (b1 := []) (Hold.alloc (b1 := []) (Hold.alloc (b1 := []) (b2 := []) (Hold.refl w) #[.int .i64 a0_0, .slice A0_1 l0_1.length c0_1, .slice A0_2 l0_2.length c0_2] 25) #[.int .i64 a1_0, .slice A1_1 l1_1.length c1_1, .slice A1_2 l1_2.length c1_2] 25) #[.int .i64 a2_0, .slice A2_1 l2_1.length c2_1] 28)
  simp only [List.nil_append, heap_size_alloc'] at HH
  have HBX : Aside0 (Boxes3 w.heap.size (#[.int .i64 a0_0, .slice A0_1 l0_1.length c0_1, .slice A0_2 l0_2.length c0_2]) (#[.int .i64 a1_0, .slice A1_1 l1_1.length c1_1, .slice A1_2 l1_2.length c1_2]) (#[.int .i64 a2_0, .slice A2_1 l2_1.length c2_1]) (((w.alloc (.cells #[.int .i64 a0_0, .slice A0_1 l0_1.length c0_1, .slice A0_2 l0_2.length c0_2] 25)).alloc (.cells #[.int .i64 a1_0, .slice A1_1 l1_1.length c1_1, .slice A1_2 l1_2.length c1_2] 25)).alloc (.cells #[.int .i64 a2_0, .slice A2_1 l2_1.length c2_1] 28))) := ⟨HH.out.blks (w.heap.size, _, _) (by simp), HH.out.blks (w.heap.size + 1, _, _) (by simp), HH.out.blks (w.heap.size + 1 + 1, _, _) (by simp)⟩
  have HL0 := Aside0.mk (fun (W : World) (hb : Below w.heap.size w W) => caesuralaw19_Large.calls k0 a0_0 A0_1 c0_1 l0_1 A0_2 c0_2 l0_2 true W (Kd.C_below HR0_1.out hb) hc0_1 (Kd.C_below HR0_2.out hb) hc0_2 h0)
  clear h0
  have HKW := Aside0.mk hkw
  clear hkw
  go_enter Try.func3, Try.ntmps3
  go_wp2_with (first | (go_at_call 23; refine (HL0.out _ HH.out.low).mono ?_; rintro e wl ⟨rfl, hb⟩; clear HL0; have m0_ := Aside0.mk (HH.out.step hb); have m1_ := Aside0.mk (HBX.out.step hb); (try clear c00_ c01_ c02_ c10_ c11_ c12_ c20_ c21_); clear HH HBX hb; have HH := m0_; have HBX := m1_; clear m0_ m1_; have c00_ : wl.cell? ⟨w.heap.size, 0, none⟩ = some (.int .i64 a0_0) := (blk_cell HBX.out.1 0).trans rfl; have c01_ : wl.cell? ⟨w.heap.size, 1, none⟩ = some (.slice A0_1 l0_1.length c0_1) := (blk_cell HBX.out.1 1).trans rfl; have c02_ : wl.cell? ⟨w.heap.size, 2, none⟩ = some (.slice A0_2 l0_2.length c0_2) := (blk_cell HBX.out.1 2).trans rfl; have c10_ : wl.cell? ⟨w.heap.size + 1, 0, none⟩ = some (.int .i64 a1_0) := (blk_cell HBX.out.2.1 0).trans rfl; have c11_ : wl.cell? ⟨w.heap.size + 1, 1, none⟩ = some (.slice A1_1 l1_1.length c1_1) := (blk_cell HBX.out.2.1 1).trans rfl; have c12_ : wl.cell? ⟨w.heap.size + 1, 2, none⟩ = some (.slice A1_2 l1_2.length c1_2) := (blk_cell HBX.out.2.1 2).trans rfl; have c20_ : wl.cell? ⟨w.heap.size + 1 + 1, 0, none⟩ = some (.int .i64 a2_0) := (blk_cell HBX.out.2.2 0).trans rfl; have c21_ : wl.cell? ⟨w.heap.size + 1 + 1, 1, none⟩ = some (.slice A2_1 l2_1.length c2_1) := (blk_cell HBX.out.2.2 1).trans rfl) | (go_at_call 25; refine (caesuralaw19_wakes.calls kw true _ HKW.out).mono ?_; rintro e wz ⟨rfl, hb⟩; have m0_ := Aside0.mk (HH.out.step hb); clear HH hb; have HH := m0_; clear m0_))
  try go_ret
  exact ⟨rfl, HH.out.low⟩
set_option maxHeartbeats 8000000 in
set_option maxRecDepth 100000 in
theorem tells_large1 (a0_0 : Int) (A0_1 : Option Addr) (c0_1 : Nat) (l0_1 : List (List Int)) (A0_2 : Option Addr) (c0_2 : Nat) (l0_2 : List Bool) (a1_0 : Int) (A1_1 : Option Addr) (c1_1 : Nat) (l1_1 : List (List Int)) (A1_2 : Option Addr) (c1_2 : Nat) (l1_2 : List Bool) (a2_0 : Int) (A2_1 : Option Addr) (c2_1 : Nat) (l2_1 : List (List (S82))) (w : World) (hr0_1 : Kd.C (Kd.slice 3 (Kd.int .i64)) w A0_1 l0_1.length l0_1) (hc0_1 : l0_1.length ≤ c0_1) (hr0_2 : Kd.C Kd.bool w A0_2 l0_2.length l0_2) (hc0_2 : l0_2.length ≤ c0_2) (hr1_1 : Kd.C (Kd.slice 3 (Kd.int .i64)) w A1_1 l1_1.length l1_1) (hc1_1 : l1_1.length ≤ c1_1) (hr1_2 : Kd.C Kd.bool w A1_2 l1_2.length l1_2) (hc1_2 : l1_2.length ≤ c1_2) (hr2_1 : Kd.C (Kd.slice 82 k82) w A2_1 l2_1.length l2_1) (hc2_1 : l2_1.length ≤ c2_1) (kw k0 k1 k2 : Nat) (hkw : caesuralaw19_wakes.f kw = some true) (h0 : caesuralaw19_Large.f k0 a0_0 l0_1 l0_2 = some false) (h1 : caesuralaw19_Large.f k1 a1_0 l1_1 l1_2 = some true) :
    Calls Try.prog 3 #[.agg #[.int .i64 a0_0, .slice A0_1 l0_1.length c0_1, .slice A0_2 l0_2.length c0_2], .agg #[.int .i64 a1_0, .slice A1_1 l1_1.length c1_1, .slice A1_2 l1_2.length c1_2], .agg #[.int .i64 a2_0, .slice A2_1 l2_1.length c2_1]] w fun e w' => e = .returned (.bool true) ∧ Below w.heap.size w w' := by
  have hu25 := Try.underlying25
  have hu28 := Try.underlying28
  have hu38 := Try.underlying38
  have HR0_1 := Aside0.mk hr0_1
  have HR0_2 := Aside0.mk hr0_2
  clear hr0_1 hr0_2
  have HR1_1 := Aside0.mk hr1_1
  have HR1_2 := Aside0.mk hr1_2
  clear hr1_1 hr1_2
  have HR2_1 := Aside0.mk hr2_1
  clear hr2_1
  have HH := Aside0.mk (Hold.alloc (b1 := []) (Hold.alloc (b1 := []) (Hold.alloc (b1 := []) (b2 := []) (Hold.refl w) #[.int .i64 a0_0, .slice A0_1 l0_1.length c0_1, .slice A0_2 l0_2.length c0_2] 25) #[.int .i64 a1_0, .slice A1_1 l1_1.length c1_1, .slice A1_2 l1_2.length c1_2] 25) #[.int .i64 a2_0, .slice A2_1 l2_1.length c2_1] 28)
  simp only [List.nil_append, heap_size_alloc'] at HH
  have HBX : Aside0 (Boxes3 w.heap.size (#[.int .i64 a0_0, .slice A0_1 l0_1.length c0_1, .slice A0_2 l0_2.length c0_2]) (#[.int .i64 a1_0, .slice A1_1 l1_1.length c1_1, .slice A1_2 l1_2.length c1_2]) (#[.int .i64 a2_0, .slice A2_1 l2_1.length c2_1]) (((w.alloc (.cells #[.int .i64 a0_0, .slice A0_1 l0_1.length c0_1, .slice A0_2 l0_2.length c0_2] 25)).alloc (.cells #[.int .i64 a1_0, .slice A1_1 l1_1.length c1_1, .slice A1_2 l1_2.length c1_2] 25)).alloc (.cells #[.int .i64 a2_0, .slice A2_1 l2_1.length c2_1] 28))) := ⟨HH.out.blks (w.heap.size, _, _) (by simp), HH.out.blks (w.heap.size + 1, _, _) (by simp), HH.out.blks (w.heap.size + 1 + 1, _, _) (by simp)⟩
  have HL0 := Aside0.mk (fun (W : World) (hb : Below w.heap.size w W) => caesuralaw19_Large.calls k0 a0_0 A0_1 c0_1 l0_1 A0_2 c0_2 l0_2 false W (Kd.C_below HR0_1.out hb) hc0_1 (Kd.C_below HR0_2.out hb) hc0_2 h0)
  clear h0
  have HL1 := Aside0.mk (fun (W : World) (hb : Below w.heap.size w W) => caesuralaw19_Large.calls k1 a1_0 A1_1 c1_1 l1_1 A1_2 c1_2 l1_2 true W (Kd.C_below HR1_1.out hb) hc1_1 (Kd.C_below HR1_2.out hb) hc1_2 h1)
  clear h1
  have HKW := Aside0.mk hkw
  clear hkw
  go_enter Try.func3, Try.ntmps3
  go_wp2_with (first | (go_at_call 23; refine (HL0.out _ HH.out.low).mono ?_; rintro e wl ⟨rfl, hb⟩; clear HL0; have m0_ := Aside0.mk (HH.out.step hb); have m1_ := Aside0.mk (HBX.out.step hb); (try clear c00_ c01_ c02_ c10_ c11_ c12_ c20_ c21_); clear HH HBX hb; have HH := m0_; have HBX := m1_; clear m0_ m1_; have c00_ : wl.cell? ⟨w.heap.size, 0, none⟩ = some (.int .i64 a0_0) := (blk_cell HBX.out.1 0).trans rfl; have c01_ : wl.cell? ⟨w.heap.size, 1, none⟩ = some (.slice A0_1 l0_1.length c0_1) := (blk_cell HBX.out.1 1).trans rfl; have c02_ : wl.cell? ⟨w.heap.size, 2, none⟩ = some (.slice A0_2 l0_2.length c0_2) := (blk_cell HBX.out.1 2).trans rfl; have c10_ : wl.cell? ⟨w.heap.size + 1, 0, none⟩ = some (.int .i64 a1_0) := (blk_cell HBX.out.2.1 0).trans rfl; have c11_ : wl.cell? ⟨w.heap.size + 1, 1, none⟩ = some (.slice A1_1 l1_1.length c1_1) := (blk_cell HBX.out.2.1 1).trans rfl; have c12_ : wl.cell? ⟨w.heap.size + 1, 2, none⟩ = some (.slice A1_2 l1_2.length c1_2) := (blk_cell HBX.out.2.1 2).trans rfl; have c20_ : wl.cell? ⟨w.heap.size + 1 + 1, 0, none⟩ = some (.int .i64 a2_0) := (blk_cell HBX.out.2.2 0).trans rfl; have c21_ : wl.cell? ⟨w.heap.size + 1 + 1, 1, none⟩ = some (.slice A2_1 l2_1.length c2_1) := (blk_cell HBX.out.2.2 1).trans rfl) | (go_at_call 23; refine (HL1.out _ HH.out.low).mono ?_; rintro e wl ⟨rfl, hb⟩; clear HL1; have m0_ := Aside0.mk (HH.out.step hb); have m1_ := Aside0.mk (HBX.out.step hb); (try clear c00_ c01_ c02_ c10_ c11_ c12_ c20_ c21_); clear HH HBX hb; have HH := m0_; have HBX := m1_; clear m0_ m1_; have c00_ : wl.cell? ⟨w.heap.size, 0, none⟩ = some (.int .i64 a0_0) := (blk_cell HBX.out.1 0).trans rfl; have c01_ : wl.cell? ⟨w.heap.size, 1, none⟩ = some (.slice A0_1 l0_1.length c0_1) := (blk_cell HBX.out.1 1).trans rfl; have c02_ : wl.cell? ⟨w.heap.size, 2, none⟩ = some (.slice A0_2 l0_2.length c0_2) := (blk_cell HBX.out.1 2).trans rfl; have c10_ : wl.cell? ⟨w.heap.size + 1, 0, none⟩ = some (.int .i64 a1_0) := (blk_cell HBX.out.2.1 0).trans rfl; have c11_ : wl.cell? ⟨w.heap.size + 1, 1, none⟩ = some (.slice A1_1 l1_1.length c1_1) := (blk_cell HBX.out.2.1 1).trans rfl; have c12_ : wl.cell? ⟨w.heap.size + 1, 2, none⟩ = some (.slice A1_2 l1_2.length c1_2) := (blk_cell HBX.out.2.1 2).trans rfl; have c20_ : wl.cell? ⟨w.heap.size + 1 + 1, 0, none⟩ = some (.int .i64 a2_0) := (blk_cell HBX.out.2.2 0).trans rfl; have c21_ : wl.cell? ⟨w.heap.size + 1 + 1, 1, none⟩ = some (.slice A2_1 l2_1.length c2_1) := (blk_cell HBX.out.2.2 1).trans rfl) | (go_at_call 25; refine (caesuralaw19_wakes.calls kw true _ HKW.out).mono ?_; rintro e wz ⟨rfl, hb⟩; have m0_ := Aside0.mk (HH.out.step hb); clear HH hb; have HH := m0_; clear m0_))
  try go_ret
  exact ⟨rfl, HH.out.low⟩
set_option maxHeartbeats 8000000 in
set_option maxRecDepth 100000 in
theorem tells_large2 (a0_0 : Int) (A0_1 : Option Addr) (c0_1 : Nat) (l0_1 : List (List Int)) (A0_2 : Option Addr) (c0_2 : Nat) (l0_2 : List Bool) (a1_0 : Int) (A1_1 : Option Addr) (c1_1 : Nat) (l1_1 : List (List Int)) (A1_2 : Option Addr) (c1_2 : Nat) (l1_2 : List Bool) (a2_0 : Int) (A2_1 : Option Addr) (c2_1 : Nat) (l2_1 : List (List (S82))) (w : World) (hr0_1 : Kd.C (Kd.slice 3 (Kd.int .i64)) w A0_1 l0_1.length l0_1) (hc0_1 : l0_1.length ≤ c0_1) (hr0_2 : Kd.C Kd.bool w A0_2 l0_2.length l0_2) (hc0_2 : l0_2.length ≤ c0_2) (hr1_1 : Kd.C (Kd.slice 3 (Kd.int .i64)) w A1_1 l1_1.length l1_1) (hc1_1 : l1_1.length ≤ c1_1) (hr1_2 : Kd.C Kd.bool w A1_2 l1_2.length l1_2) (hc1_2 : l1_2.length ≤ c1_2) (hr2_1 : Kd.C (Kd.slice 82 k82) w A2_1 l2_1.length l2_1) (hc2_1 : l2_1.length ≤ c2_1) (kw k0 k1 k2 : Nat) (hkw : caesuralaw19_wakes.f kw = some true) (h0 : caesuralaw19_Large.f k0 a0_0 l0_1 l0_2 = some false) (h1 : caesuralaw19_Large.f k1 a1_0 l1_1 l1_2 = some false) (h2 : caesuralaw19_LargeNet.f k2 a2_0 l2_1 = some true) :
    Calls Try.prog 3 #[.agg #[.int .i64 a0_0, .slice A0_1 l0_1.length c0_1, .slice A0_2 l0_2.length c0_2], .agg #[.int .i64 a1_0, .slice A1_1 l1_1.length c1_1, .slice A1_2 l1_2.length c1_2], .agg #[.int .i64 a2_0, .slice A2_1 l2_1.length c2_1]] w fun e w' => e = .returned (.bool true) ∧ Below w.heap.size w w' := by
  have hu25 := Try.underlying25
  have hu28 := Try.underlying28
  have hu38 := Try.underlying38
  have HR0_1 := Aside0.mk hr0_1
  have HR0_2 := Aside0.mk hr0_2
  clear hr0_1 hr0_2
  have HR1_1 := Aside0.mk hr1_1
  have HR1_2 := Aside0.mk hr1_2
  clear hr1_1 hr1_2
  have HR2_1 := Aside0.mk hr2_1
  clear hr2_1
  have HH := Aside0.mk (Hold.alloc (b1 := []) (Hold.alloc (b1 := []) (Hold.alloc (b1 := []) (b2 := []) (Hold.refl w) #[.int .i64 a0_0, .slice A0_1 l0_1.length c0_1, .slice A0_2 l0_2.length c0_2] 25) #[.int .i64 a1_0, .slice A1_1 l1_1.length c1_1, .slice A1_2 l1_2.length c1_2] 25) #[.int .i64 a2_0, .slice A2_1 l2_1.length c2_1] 28)
  simp only [List.nil_append, heap_size_alloc'] at HH
  have HBX : Aside0 (Boxes3 w.heap.size (#[.int .i64 a0_0, .slice A0_1 l0_1.length c0_1, .slice A0_2 l0_2.length c0_2]) (#[.int .i64 a1_0, .slice A1_1 l1_1.length c1_1, .slice A1_2 l1_2.length c1_2]) (#[.int .i64 a2_0, .slice A2_1 l2_1.length c2_1]) (((w.alloc (.cells #[.int .i64 a0_0, .slice A0_1 l0_1.length c0_1, .slice A0_2 l0_2.length c0_2] 25)).alloc (.cells #[.int .i64 a1_0, .slice A1_1 l1_1.length c1_1, .slice A1_2 l1_2.length c1_2] 25)).alloc (.cells #[.int .i64 a2_0, .slice A2_1 l2_1.length c2_1] 28))) := ⟨HH.out.blks (w.heap.size, _, _) (by simp), HH.out.blks (w.heap.size + 1, _, _) (by simp), HH.out.blks (w.heap.size + 1 + 1, _, _) (by simp)⟩
  have HL0 := Aside0.mk (fun (W : World) (hb : Below w.heap.size w W) => caesuralaw19_Large.calls k0 a0_0 A0_1 c0_1 l0_1 A0_2 c0_2 l0_2 false W (Kd.C_below HR0_1.out hb) hc0_1 (Kd.C_below HR0_2.out hb) hc0_2 h0)
  clear h0
  have HL1 := Aside0.mk (fun (W : World) (hb : Below w.heap.size w W) => caesuralaw19_Large.calls k1 a1_0 A1_1 c1_1 l1_1 A1_2 c1_2 l1_2 false W (Kd.C_below HR1_1.out hb) hc1_1 (Kd.C_below HR1_2.out hb) hc1_2 h1)
  clear h1
  have HL2 := Aside0.mk (fun (W : World) (hb : Below w.heap.size w W) => caesuralaw19_LargeNet.calls k2 a2_0 A2_1 c2_1 l2_1 true W (Kd.C_below HR2_1.out hb) hc2_1 h2)
  clear h2
  have HKW := Aside0.mk hkw
  clear hkw
  go_enter Try.func3, Try.ntmps3
  go_wp2_with (first | (go_at_call 24; refine (HL2.out _ HH.out.low).mono ?_; rintro e wl ⟨rfl, hb⟩; clear HL2; have m0_ := Aside0.mk (HH.out.step hb); have m1_ := Aside0.mk (HBX.out.step hb); (try clear c00_ c01_ c02_ c10_ c11_ c12_ c20_ c21_); clear HH HBX hb; have HH := m0_; have HBX := m1_; clear m0_ m1_; have c00_ : wl.cell? ⟨w.heap.size, 0, none⟩ = some (.int .i64 a0_0) := (blk_cell HBX.out.1 0).trans rfl; have c01_ : wl.cell? ⟨w.heap.size, 1, none⟩ = some (.slice A0_1 l0_1.length c0_1) := (blk_cell HBX.out.1 1).trans rfl; have c02_ : wl.cell? ⟨w.heap.size, 2, none⟩ = some (.slice A0_2 l0_2.length c0_2) := (blk_cell HBX.out.1 2).trans rfl; have c10_ : wl.cell? ⟨w.heap.size + 1, 0, none⟩ = some (.int .i64 a1_0) := (blk_cell HBX.out.2.1 0).trans rfl; have c11_ : wl.cell? ⟨w.heap.size + 1, 1, none⟩ = some (.slice A1_1 l1_1.length c1_1) := (blk_cell HBX.out.2.1 1).trans rfl; have c12_ : wl.cell? ⟨w.heap.size + 1, 2, none⟩ = some (.slice A1_2 l1_2.length c1_2) := (blk_cell HBX.out.2.1 2).trans rfl; have c20_ : wl.cell? ⟨w.heap.size + 1 + 1, 0, none⟩ = some (.int .i64 a2_0) := (blk_cell HBX.out.2.2 0).trans rfl; have c21_ : wl.cell? ⟨w.heap.size + 1 + 1, 1, none⟩ = some (.slice A2_1 l2_1.length c2_1) := (blk_cell HBX.out.2.2 1).trans rfl) | (go_at_call 23; refine (HL0.out _ HH.out.low).mono ?_; rintro e wl ⟨rfl, hb⟩; clear HL0; have m0_ := Aside0.mk (HH.out.step hb); have m1_ := Aside0.mk (HBX.out.step hb); (try clear c00_ c01_ c02_ c10_ c11_ c12_ c20_ c21_); clear HH HBX hb; have HH := m0_; have HBX := m1_; clear m0_ m1_; have c00_ : wl.cell? ⟨w.heap.size, 0, none⟩ = some (.int .i64 a0_0) := (blk_cell HBX.out.1 0).trans rfl; have c01_ : wl.cell? ⟨w.heap.size, 1, none⟩ = some (.slice A0_1 l0_1.length c0_1) := (blk_cell HBX.out.1 1).trans rfl; have c02_ : wl.cell? ⟨w.heap.size, 2, none⟩ = some (.slice A0_2 l0_2.length c0_2) := (blk_cell HBX.out.1 2).trans rfl; have c10_ : wl.cell? ⟨w.heap.size + 1, 0, none⟩ = some (.int .i64 a1_0) := (blk_cell HBX.out.2.1 0).trans rfl; have c11_ : wl.cell? ⟨w.heap.size + 1, 1, none⟩ = some (.slice A1_1 l1_1.length c1_1) := (blk_cell HBX.out.2.1 1).trans rfl; have c12_ : wl.cell? ⟨w.heap.size + 1, 2, none⟩ = some (.slice A1_2 l1_2.length c1_2) := (blk_cell HBX.out.2.1 2).trans rfl; have c20_ : wl.cell? ⟨w.heap.size + 1 + 1, 0, none⟩ = some (.int .i64 a2_0) := (blk_cell HBX.out.2.2 0).trans rfl; have c21_ : wl.cell? ⟨w.heap.size + 1 + 1, 1, none⟩ = some (.slice A2_1 l2_1.length c2_1) := (blk_cell HBX.out.2.2 1).trans rfl) | (go_at_call 23; refine (HL1.out _ HH.out.low).mono ?_; rintro e wl ⟨rfl, hb⟩; clear HL1; have m0_ := Aside0.mk (HH.out.step hb); have m1_ := Aside0.mk (HBX.out.step hb); (try clear c00_ c01_ c02_ c10_ c11_ c12_ c20_ c21_); clear HH HBX hb; have HH := m0_; have HBX := m1_; clear m0_ m1_; have c00_ : wl.cell? ⟨w.heap.size, 0, none⟩ = some (.int .i64 a0_0) := (blk_cell HBX.out.1 0).trans rfl; have c01_ : wl.cell? ⟨w.heap.size, 1, none⟩ = some (.slice A0_1 l0_1.length c0_1) := (blk_cell HBX.out.1 1).trans rfl; have c02_ : wl.cell? ⟨w.heap.size, 2, none⟩ = some (.slice A0_2 l0_2.length c0_2) := (blk_cell HBX.out.1 2).trans rfl; have c10_ : wl.cell? ⟨w.heap.size + 1, 0, none⟩ = some (.int .i64 a1_0) := (blk_cell HBX.out.2.1 0).trans rfl; have c11_ : wl.cell? ⟨w.heap.size + 1, 1, none⟩ = some (.slice A1_1 l1_1.length c1_1) := (blk_cell HBX.out.2.1 1).trans rfl; have c12_ : wl.cell? ⟨w.heap.size + 1, 2, none⟩ = some (.slice A1_2 l1_2.length c1_2) := (blk_cell HBX.out.2.1 2).trans rfl; have c20_ : wl.cell? ⟨w.heap.size + 1 + 1, 0, none⟩ = some (.int .i64 a2_0) := (blk_cell HBX.out.2.2 0).trans rfl; have c21_ : wl.cell? ⟨w.heap.size + 1 + 1, 1, none⟩ = some (.slice A2_1 l2_1.length c2_1) := (blk_cell HBX.out.2.2 1).trans rfl) | (go_at_call 25; refine (caesuralaw19_wakes.calls kw true _ HKW.out).mono ?_; rintro e wz ⟨rfl, hb⟩; have m0_ := Aside0.mk (HH.out.step hb); clear HH hb; have HH := m0_; clear m0_))
  try go_ret
  exact ⟨rfl, HH.out.low⟩

end Go.Proofs.Ytelkjbacdpmnfaa.A
