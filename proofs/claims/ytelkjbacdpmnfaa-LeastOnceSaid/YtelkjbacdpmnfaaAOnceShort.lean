/- By a program, out of the translation (wip/myprint.py). -/
import Derived.Test.YtelkjbacdpmnfaaA0
import Derived.Test.YtelkjbacdpmnfaaACaesuralaw21Light
import Derived.Test.YtelkjbacdpmnfaaACaesuralaw21Wakes
import Derived.Test.YtelkjbacdpmnfaaACaesuraref19Good
namespace Go.Proofs.Ytelkjbacdpmnfaa.A
open Go.RowKit Go.Proofs.YtelkjbacdpmnfaaW.PrintWords Go.Proofs.YtelkjbacdpmnfaaW.PrintLast Go.Proofs.YtelkjbacdpmnfaaW.PrintMore
attribute [local go_sem] max2_int min2_int max_two min_two max_three min_three max_four min_four   -- for this text's walks alone
set_option linter.unusedVariables false
set_option linter.unusedSimpArgs false

/-! the short ways of LeastOnce -/
set_option maxHeartbeats 4000000 in
set_option maxRecDepth 100000 in
theorem once_large (k : Nat) (a : Int) (A1 : Option Addr) (c1 : Nat) (nx : List (List Int)) (A2 : Option Addr) (c2 : Nat) (ac : List Bool) (en : Bool) (w : World) (hr1 : Kd.C (Kd.slice 3 (Kd.int .i64)) w A1 nx.length nx) (hc1 : nx.length ≤ c1) (hr2 : Kd.C Kd.bool w A2 ac.length ac) (hc2 : ac.length ≤ c2) (hl : caesuralaw21_Light.f k a nx ac = some false) (h6 : caesuralaw21_wakes.f k = some true) :
    Calls Try.prog 9 #[.agg #[.int .i64 a, .slice A1 nx.length c1, .slice A2 ac.length c2], .bool en] w fun e w' => e = .returned (.bool true) ∧ Below w.heap.size w w' := by
  have hu25 := Try.underlying25
  have hu22 := Try.underlying22
  have Z6 := Aside0.mk h6
  clear h6
  have Zl := Aside0.mk hl
  clear hl
  have E1 : Aside0 (∀ W : World, Below ((w.alloc (Obj.cells #[.int .i64 a, .slice A1 nx.length c1, .slice A2 ac.length c2] 25))).heap.size ((w.alloc (Obj.cells #[.int .i64 a, .slice A1 nx.length c1, .slice A2 ac.length c2] 25))) W → (Below w.heap.size w W) ∧ (W.heap[w.heap.size]? = some (.cells #[.int .i64 a, .slice A1 nx.length c1, .slice A2 ac.length c2] 25 (0, 0))) ∧ (Kd.C (Kd.slice 3 (Kd.int .i64)) W A1 nx.length nx) ∧ (Kd.C Kd.bool W A2 ac.length ac)) := ⟨fun W hb => ⟨below_step (below_alloc (Below.refl w.heap.size w) (.cells #[.int .i64 a, .slice A1 nx.length c1, .slice A2 ac.length c2] 25)) hb, blk_below (blk_new w (.cells #[.int .i64 a, .slice A1 nx.length c1, .slice A2 ac.length c2] 25)) hb, Kd.C_below (Kd.C_below hr1 (below_alloc (Below.refl w.heap.size w) (.cells #[.int .i64 a, .slice A1 nx.length c1, .slice A2 ac.length c2] 25))) hb, Kd.C_below (Kd.C_below hr2 (below_alloc (Below.refl w.heap.size w) (.cells #[.int .i64 a, .slice A1 nx.length c1, .slice A2 ac.length c2] 25))) hb⟩⟩
  clear hr1 hr2
  go_enter Try.func9, Try.ntmps9
  go_wp2_with (first | (go_at_call 46; have hF_ := Zl.out; refine (caesuralaw21_Light.calls k a A1 c1 nx A2 c2 ac false _ ((E1.out _ (Below.refl _ _)).2.2.1) hc1 ((E1.out _ (Below.refl _ _)).2.2.2) hc2 hF_).mono ?_; clear hF_ Zl; rintro e wa ⟨rfl, hb_⟩; have E2 : Aside0 (∀ W : World, Below (wa).heap.size (wa) W → (Below w.heap.size w W) ∧ (W.heap[w.heap.size]? = some (.cells #[.int .i64 a, .slice A1 nx.length c1, .slice A2 ac.length c2] 25 (0, 0))) ∧ (Kd.C (Kd.slice 3 (Kd.int .i64)) W A1 nx.length nx) ∧ (Kd.C Kd.bool W A2 ac.length ac)) := ⟨fun W hb => have e_ := E1.out W (below_step (hb_) hb); ⟨e_.1, e_.2.1, e_.2.2.1, e_.2.2.2⟩⟩; clear E1; clear hb_; (try clear c0_ c1_ c2_); have c0_ : wa.cell? ⟨w.heap.size, 0, none⟩ = some (.int .i64 a) := (blk_cell ((E2.out _ (Below.refl _ _)).2.1) 0).trans rfl; have c1_ : wa.cell? ⟨w.heap.size, 1, none⟩ = some (.slice A1 nx.length c1) := (blk_cell ((E2.out _ (Below.refl _ _)).2.1) 1).trans rfl; have c2_ : wa.cell? ⟨w.heap.size, 2, none⟩ = some (.slice A2 ac.length c2) := (blk_cell ((E2.out _ (Below.refl _ _)).2.1) 2).trans rfl) | (go_at_call 47; have hF_ := Z6.out; refine (caesuralaw21_wakes.calls k true _ hF_).mono ?_; clear hF_ Z6; rintro e wn ⟨rfl, hb_⟩; have HBN := Aside0.mk (below_step ((E2.out _ (Below.refl _ _)).1) hb_); clear hb_))
  go_ret
  exact ⟨rfl, HBN.out⟩
set_option maxHeartbeats 4000000 in
set_option maxRecDepth 100000 in
theorem once_bad (k : Nat) (a : Int) (A1 : Option Addr) (c1 : Nat) (nx : List (List Int)) (A2 : Option Addr) (c2 : Nat) (ac : List Bool) (en : Bool) (w : World) (hr1 : Kd.C (Kd.slice 3 (Kd.int .i64)) w A1 nx.length nx) (hc1 : nx.length ≤ c1) (hr2 : Kd.C Kd.bool w A2 ac.length ac) (hc2 : ac.length ≤ c2) (hl : caesuralaw21_Light.f k a nx ac = some true) (hg : caesuraref19_Good.f k a nx ac = some false) (h6 : caesuralaw21_wakes.f k = some true) :
    Calls Try.prog 9 #[.agg #[.int .i64 a, .slice A1 nx.length c1, .slice A2 ac.length c2], .bool en] w fun e w' => e = .returned (.bool true) ∧ Below w.heap.size w w' := by
  have hu25 := Try.underlying25
  have hu22 := Try.underlying22
  have Z6 := Aside0.mk h6
  clear h6
  have Zl := Aside0.mk hl
  have Zg := Aside0.mk hg
  clear hl hg
  have E1 : Aside0 (∀ W : World, Below ((w.alloc (Obj.cells #[.int .i64 a, .slice A1 nx.length c1, .slice A2 ac.length c2] 25))).heap.size ((w.alloc (Obj.cells #[.int .i64 a, .slice A1 nx.length c1, .slice A2 ac.length c2] 25))) W → (Below w.heap.size w W) ∧ (W.heap[w.heap.size]? = some (.cells #[.int .i64 a, .slice A1 nx.length c1, .slice A2 ac.length c2] 25 (0, 0))) ∧ (Kd.C (Kd.slice 3 (Kd.int .i64)) W A1 nx.length nx) ∧ (Kd.C Kd.bool W A2 ac.length ac)) := ⟨fun W hb => ⟨below_step (below_alloc (Below.refl w.heap.size w) (.cells #[.int .i64 a, .slice A1 nx.length c1, .slice A2 ac.length c2] 25)) hb, blk_below (blk_new w (.cells #[.int .i64 a, .slice A1 nx.length c1, .slice A2 ac.length c2] 25)) hb, Kd.C_below (Kd.C_below hr1 (below_alloc (Below.refl w.heap.size w) (.cells #[.int .i64 a, .slice A1 nx.length c1, .slice A2 ac.length c2] 25))) hb, Kd.C_below (Kd.C_below hr2 (below_alloc (Below.refl w.heap.size w) (.cells #[.int .i64 a, .slice A1 nx.length c1, .slice A2 ac.length c2] 25))) hb⟩⟩
  clear hr1 hr2
  go_enter Try.func9, Try.ntmps9
  go_wp2_with (first | (go_at_call 46; have hF_ := Zl.out; refine (caesuralaw21_Light.calls k a A1 c1 nx A2 c2 ac true _ ((E1.out _ (Below.refl _ _)).2.2.1) hc1 ((E1.out _ (Below.refl _ _)).2.2.2) hc2 hF_).mono ?_; clear hF_ Zl; rintro e wa ⟨rfl, hb_⟩; have E2 : Aside0 (∀ W : World, Below (wa).heap.size (wa) W → (Below w.heap.size w W) ∧ (W.heap[w.heap.size]? = some (.cells #[.int .i64 a, .slice A1 nx.length c1, .slice A2 ac.length c2] 25 (0, 0))) ∧ (Kd.C (Kd.slice 3 (Kd.int .i64)) W A1 nx.length nx) ∧ (Kd.C Kd.bool W A2 ac.length ac)) := ⟨fun W hb => have e_ := E1.out W (below_step (hb_) hb); ⟨e_.1, e_.2.1, e_.2.2.1, e_.2.2.2⟩⟩; clear E1; clear hb_; (try clear c0_ c1_ c2_); have c0_ : wa.cell? ⟨w.heap.size, 0, none⟩ = some (.int .i64 a) := (blk_cell ((E2.out _ (Below.refl _ _)).2.1) 0).trans rfl; have c1_ : wa.cell? ⟨w.heap.size, 1, none⟩ = some (.slice A1 nx.length c1) := (blk_cell ((E2.out _ (Below.refl _ _)).2.1) 1).trans rfl; have c2_ : wa.cell? ⟨w.heap.size, 2, none⟩ = some (.slice A2 ac.length c2) := (blk_cell ((E2.out _ (Below.refl _ _)).2.1) 2).trans rfl) | (go_at_call 37; have hF_ := Zg.out; refine (caesuraref19_Good.calls k a A1 c1 nx A2 c2 ac false _ ((E2.out _ (Below.refl _ _)).2.2.1) hc1 ((E2.out _ (Below.refl _ _)).2.2.2) hc2 hF_).mono ?_; clear hF_ Zg; rintro e wb ⟨rfl, hb_⟩; have E3 : Aside0 (∀ W : World, Below (wb).heap.size (wb) W → (Below w.heap.size w W) ∧ (W.heap[w.heap.size]? = some (.cells #[.int .i64 a, .slice A1 nx.length c1, .slice A2 ac.length c2] 25 (0, 0))) ∧ (Kd.C (Kd.slice 3 (Kd.int .i64)) W A1 nx.length nx) ∧ (Kd.C Kd.bool W A2 ac.length ac)) := ⟨fun W hb => have e_ := E2.out W (below_step (hb_) hb); ⟨e_.1, e_.2.1, e_.2.2.1, e_.2.2.2⟩⟩; clear E2; clear hb_; (try clear c0_ c1_ c2_); have c0_ : wb.cell? ⟨w.heap.size, 0, none⟩ = some (.int .i64 a) := (blk_cell ((E3.out _ (Below.refl _ _)).2.1) 0).trans rfl; have c1_ : wb.cell? ⟨w.heap.size, 1, none⟩ = some (.slice A1 nx.length c1) := (blk_cell ((E3.out _ (Below.refl _ _)).2.1) 1).trans rfl; have c2_ : wb.cell? ⟨w.heap.size, 2, none⟩ = some (.slice A2 ac.length c2) := (blk_cell ((E3.out _ (Below.refl _ _)).2.1) 2).trans rfl) | (go_at_call 47; have hF_ := Z6.out; refine (caesuralaw21_wakes.calls k true _ hF_).mono ?_; clear hF_ Z6; rintro e wn ⟨rfl, hb_⟩; have HBN := Aside0.mk (below_step ((E3.out _ (Below.refl _ _)).1) hb_); clear hb_))
  go_ret
  exact ⟨rfl, HBN.out⟩
set_option maxHeartbeats 4000000 in
set_option maxRecDepth 100000 in
theorem once_long (k : Nat) (a : Int) (A1 : Option Addr) (c1 : Nat) (nx : List (List Int)) (A2 : Option Addr) (c2 : Nat) (ac : List Bool) (en : Bool) (w : World) (hr1 : Kd.C (Kd.slice 3 (Kd.int .i64)) w A1 nx.length nx) (hc1 : nx.length ≤ c1) (hr2 : Kd.C Kd.bool w A2 ac.length ac) (hc2 : ac.length ≤ c2) (hl : caesuralaw21_Light.f k a nx ac = some true) (hg : caesuraref19_Good.f k a nx ac = some true) (hn : 40 < nx.length) (h6 : caesuralaw21_wakes.f k = some true) :
    Calls Try.prog 9 #[.agg #[.int .i64 a, .slice A1 nx.length c1, .slice A2 ac.length c2], .bool en] w fun e w' => e = .returned (.bool true) ∧ Below w.heap.size w w' := by
  have hu25 := Try.underlying25
  have hu22 := Try.underlying22
  have Z6 := Aside0.mk h6
  clear h6
  have Zl := Aside0.mk hl
  have Zg := Aside0.mk hg
  have n0_ : ((nx.length : Int) > 40) = True := eq_true (by omega)
  have n1_ : (40 < nx.length) = True := eq_true hn
  clear hl hg hn
  have E1 : Aside0 (∀ W : World, Below ((w.alloc (Obj.cells #[.int .i64 a, .slice A1 nx.length c1, .slice A2 ac.length c2] 25))).heap.size ((w.alloc (Obj.cells #[.int .i64 a, .slice A1 nx.length c1, .slice A2 ac.length c2] 25))) W → (Below w.heap.size w W) ∧ (W.heap[w.heap.size]? = some (.cells #[.int .i64 a, .slice A1 nx.length c1, .slice A2 ac.length c2] 25 (0, 0))) ∧ (Kd.C (Kd.slice 3 (Kd.int .i64)) W A1 nx.length nx) ∧ (Kd.C Kd.bool W A2 ac.length ac)) := ⟨fun W hb => ⟨below_step (below_alloc (Below.refl w.heap.size w) (.cells #[.int .i64 a, .slice A1 nx.length c1, .slice A2 ac.length c2] 25)) hb, blk_below (blk_new w (.cells #[.int .i64 a, .slice A1 nx.length c1, .slice A2 ac.length c2] 25)) hb, Kd.C_below (Kd.C_below hr1 (below_alloc (Below.refl w.heap.size w) (.cells #[.int .i64 a, .slice A1 nx.length c1, .slice A2 ac.length c2] 25))) hb, Kd.C_below (Kd.C_below hr2 (below_alloc (Below.refl w.heap.size w) (.cells #[.int .i64 a, .slice A1 nx.length c1, .slice A2 ac.length c2] 25))) hb⟩⟩
  clear hr1 hr2
  go_enter Try.func9, Try.ntmps9
  go_wp2_with (first | (go_at_call 46; have hF_ := Zl.out; refine (caesuralaw21_Light.calls k a A1 c1 nx A2 c2 ac true _ ((E1.out _ (Below.refl _ _)).2.2.1) hc1 ((E1.out _ (Below.refl _ _)).2.2.2) hc2 hF_).mono ?_; clear hF_ Zl; rintro e wa ⟨rfl, hb_⟩; have E2 : Aside0 (∀ W : World, Below (wa).heap.size (wa) W → (Below w.heap.size w W) ∧ (W.heap[w.heap.size]? = some (.cells #[.int .i64 a, .slice A1 nx.length c1, .slice A2 ac.length c2] 25 (0, 0))) ∧ (Kd.C (Kd.slice 3 (Kd.int .i64)) W A1 nx.length nx) ∧ (Kd.C Kd.bool W A2 ac.length ac)) := ⟨fun W hb => have e_ := E1.out W (below_step (hb_) hb); ⟨e_.1, e_.2.1, e_.2.2.1, e_.2.2.2⟩⟩; clear E1; clear hb_; (try clear c0_ c1_ c2_); have c0_ : wa.cell? ⟨w.heap.size, 0, none⟩ = some (.int .i64 a) := (blk_cell ((E2.out _ (Below.refl _ _)).2.1) 0).trans rfl; have c1_ : wa.cell? ⟨w.heap.size, 1, none⟩ = some (.slice A1 nx.length c1) := (blk_cell ((E2.out _ (Below.refl _ _)).2.1) 1).trans rfl; have c2_ : wa.cell? ⟨w.heap.size, 2, none⟩ = some (.slice A2 ac.length c2) := (blk_cell ((E2.out _ (Below.refl _ _)).2.1) 2).trans rfl) | (go_at_call 37; have hF_ := Zg.out; refine (caesuraref19_Good.calls k a A1 c1 nx A2 c2 ac true _ ((E2.out _ (Below.refl _ _)).2.2.1) hc1 ((E2.out _ (Below.refl _ _)).2.2.2) hc2 hF_).mono ?_; clear hF_ Zg; rintro e wb ⟨rfl, hb_⟩; have E3 : Aside0 (∀ W : World, Below (wb).heap.size (wb) W → (Below w.heap.size w W) ∧ (W.heap[w.heap.size]? = some (.cells #[.int .i64 a, .slice A1 nx.length c1, .slice A2 ac.length c2] 25 (0, 0))) ∧ (Kd.C (Kd.slice 3 (Kd.int .i64)) W A1 nx.length nx) ∧ (Kd.C Kd.bool W A2 ac.length ac)) := ⟨fun W hb => have e_ := E2.out W (below_step (hb_) hb); ⟨e_.1, e_.2.1, e_.2.2.1, e_.2.2.2⟩⟩; clear E2; clear hb_; (try clear c0_ c1_ c2_); have c0_ : wb.cell? ⟨w.heap.size, 0, none⟩ = some (.int .i64 a) := (blk_cell ((E3.out _ (Below.refl _ _)).2.1) 0).trans rfl; have c1_ : wb.cell? ⟨w.heap.size, 1, none⟩ = some (.slice A1 nx.length c1) := (blk_cell ((E3.out _ (Below.refl _ _)).2.1) 1).trans rfl; have c2_ : wb.cell? ⟨w.heap.size, 2, none⟩ = some (.slice A2 ac.length c2) := (blk_cell ((E3.out _ (Below.refl _ _)).2.1) 2).trans rfl) | (go_at_call 47; have hF_ := Z6.out; refine (caesuralaw21_wakes.calls k true _ hF_).mono ?_; clear hF_ Z6; rintro e wn ⟨rfl, hb_⟩; have HBN := Aside0.mk (below_step ((E3.out _ (Below.refl _ _)).1) hb_); clear hb_))
  go_ret
  exact ⟨rfl, HBN.out⟩

end Go.Proofs.Ytelkjbacdpmnfaa.A
