/- By a program, out of the translation (wip/myprint.py). -/
import Derived.Test.YtelkjbacdpmnfaaA0
import Derived.Test.YtelkjbacdpmnfaaACaesuralaw19One
import Derived.Test.YtelkjbacdpmnfaaAHolds
import Derived.Test.YtelkjbacdpmnfaaAThompsonAgain
import Derived.Test.YtelkjbacdpmnfaaAThompsonEither
import Derived.Test.YtelkjbacdpmnfaaAThompsonGood
import Derived.Test.YtelkjbacdpmnfaaAThompsonGoodNet
import Derived.Test.YtelkjbacdpmnfaaAThompsonJoin
import Derived.Test.YtelkjbacdpmnfaaAThompsonOf
namespace Go.Proofs.Ytelkjbacdpmnfaa.A
open Go.RowKit Go.Proofs.YtelkjbacdpmnfaaW.PrintWords Go.Proofs.YtelkjbacdpmnfaaW.PrintLast Go.Proofs.YtelkjbacdpmnfaaW.PrintMore
attribute [local go_sem] max2_int min2_int max_two min_two max_three min_three max_four min_four   -- for this text's walks alone
set_option linter.unusedVariables false
set_option linter.unusedSimpArgs false

/-! ### caesuralaw19_wakes: function 25 -/
def caesuralaw19_wakes.f (k : Nat) : Option Bool := some true
theorem caesuralaw19_wakes.mono : ∀ k, LeO (caesuralaw19_wakes.f k) (caesuralaw19_wakes.f (k + 1)) := fun k => LeO.refl _
theorem wake_facts : ∃ (Q0 Q1 : List (List Int)) (AC : List Bool) (Xn Xm Xo Xe : List (List S82)), caesuralaw19_One.f 0 = some (2, Q0, AC) ∧ caesuralaw19_One.f 1 = some (2, Q1, AC) ∧ thompson_Of.f 60 2 Q0 AC = some (2, Xn, true) ∧ thompson_Join.f 60 2 Q0 AC 2 Q1 AC = some (2, Xm, true) ∧ thompson_Again.f 60 2 Q1 AC = some (2, Xo, true) ∧ thompson_Of.f 60 0 [] [] = some (0, [], false) ∧ thompson_Either.f 60 2 Q0 AC 2 Q1 AC = some (2, Xe, true) ∧ thompson_Good.f 2 Q0 AC = some true ∧ thompson_GoodNet.f 2 Xn = some true ∧ Xn.length = 5 ∧ (rd_L2 Xn 0).length = 1 ∧ (rd_T82 (rd_L2 Xn 0) 0).f0 = -1 ∧ (rd_T82 (rd_L2 Xn 0) 0).f1 = 2 ∧ (rd_L2 Xn 3).length = 3 ∧ (rd_T82 (rd_L2 Xn 3) 0).f0 = -1 ∧ (rd_T82 (rd_L2 Xn 3) 0).f1 = 1 ∧ Xm.length = 8 ∧ (rd_L2 Xm 3).length = 3 ∧ (rd_T82 (rd_L2 Xm 3) 0).f0 = -1 ∧ (rd_T82 (rd_L2 Xm 3) 0).f1 = 5 ∧ (rd_L2 Xm 6).length = 3 ∧ (rd_T82 (rd_L2 Xm 6) 0).f0 = -1 ∧ (rd_T82 (rd_L2 Xm 6) 0).f1 = 1 ∧ Xo.length = 5 ∧ (rd_L2 Xo 0).length = 2 ∧ (rd_T82 (rd_L2 Xo 0) 0).f0 = -1 ∧ (rd_T82 (rd_L2 Xo 0) 0).f1 = 1 ∧ (rd_L2 Xo 3).length = 3 ∧ (rd_T82 (rd_L2 Xo 3) 0).f0 = -1 ∧ (rd_T82 (rd_L2 Xo 3) 0).f1 = 0 ∧ Xe.length = 8 ∧ (rd_L2 Xe 0).length = 2 ∧ (rd_T82 (rd_L2 Xe 0) 1).f0 = -1 ∧ (rd_T82 (rd_L2 Xe 0) 1).f1 = 5 :=
  ⟨[[1, 2], [2, 2], [2, 2]], [[2, 1], [2, 2], [2, 2]], [false, true, false], [[⟨-1, 2⟩], [], [⟨0, 3⟩, ⟨1, 4⟩], [⟨-1, 1⟩, ⟨0, 4⟩, ⟨1, 4⟩], [⟨0, 4⟩, ⟨1, 4⟩]], [[⟨-1, 2⟩], [], [⟨0, 3⟩, ⟨1, 4⟩], [⟨-1, 5⟩, ⟨0, 4⟩, ⟨1, 4⟩], [⟨0, 4⟩, ⟨1, 4⟩], [⟨0, 7⟩, ⟨1, 6⟩], [⟨-1, 1⟩, ⟨0, 7⟩, ⟨1, 7⟩], [⟨0, 7⟩, ⟨1, 7⟩]], [[⟨-1, 1⟩, ⟨-1, 2⟩], [], [⟨0, 4⟩, ⟨1, 3⟩], [⟨-1, 0⟩, ⟨0, 4⟩, ⟨1, 4⟩], [⟨0, 4⟩, ⟨1, 4⟩]], [[⟨-1, 2⟩, ⟨-1, 5⟩], [], [⟨0, 3⟩, ⟨1, 4⟩], [⟨-1, 1⟩, ⟨0, 4⟩, ⟨1, 4⟩], [⟨0, 4⟩, ⟨1, 4⟩], [⟨0, 7⟩, ⟨1, 6⟩], [⟨-1, 1⟩, ⟨0, 7⟩, ⟨1, 7⟩], [⟨0, 7⟩, ⟨1, 7⟩]], by kernel_rfl, by kernel_rfl, by kernel_rfl, by kernel_rfl, by kernel_rfl, by kernel_rfl, by kernel_rfl, by kernel_rfl, by kernel_rfl, by kernel_rfl, by kernel_rfl, by kernel_rfl, by kernel_rfl, by kernel_rfl, by kernel_rfl, by kernel_rfl, by kernel_rfl, by kernel_rfl, by kernel_rfl, by kernel_rfl, by kernel_rfl, by kernel_rfl, by kernel_rfl, by kernel_rfl, by kernel_rfl, by kernel_rfl, by kernel_rfl, by kernel_rfl, by kernel_rfl, by kernel_rfl, by kernel_rfl, by kernel_rfl, by kernel_rfl, by kernel_rfl⟩
set_option maxHeartbeats 8000000 in
set_option maxRecDepth 100000 in
theorem caesuralaw19_wakes.calls (k : Nat)  (r : Bool) (w : World) (h : caesuralaw19_wakes.f k  = some r) :
    Calls Try.prog 25 #[] w fun e w' => e = .returned (.bool r) ∧ Below w.heap.size w w' := by
  obtain rfl : true = r := Option.some.inj h
  clear h
  have hu25 := Try.underlying25
  have hu28 := Try.underlying28
  have hu82 := Try.underlying82
  have HH := Aside0.mk (Hold.refl w)
  obtain ⟨Q0, Q1, AC, Xn, Xm, Xo, Xe, zH10, zH11, zHFn, zHFm, zHFo, zHFz, zHFe, zHFg, zHFh, zhln, zhln0, zhvn00, zhvn01, zhln3, zhvn30, zhvn31, zhlm, zhlm3, zhvm30, zhvm31, zhlm6, zhvm60, zhvm61, zhlo, zhlo0, zhvo00, zhvo01, zhlo3, zhvo30, zhvo31, zhle, zhle0, zhve00, zhve01⟩ := wake_facts
  have H10 := Aside0.mk zH10
  clear zH10
  have H11 := Aside0.mk zH11
  clear zH11
  have HFn := Aside0.mk zHFn
  clear zHFn
  have HFm := Aside0.mk zHFm
  clear zHFm
  have HFo := Aside0.mk zHFo
  clear zHFo
  have HFz := Aside0.mk zHFz
  clear zHFz
  have HFe := Aside0.mk zHFe
  clear zHFe
  have HFg := Aside0.mk zHFg
  clear zHFg
  have HFh := Aside0.mk zHFh
  clear zHFh
  have hln := Aside0.mk zhln
  clear zhln
  have hln0 := Aside0.mk zhln0
  clear zhln0
  have hvn00 := Aside0.mk zhvn00
  clear zhvn00
  have hvn01 := Aside0.mk zhvn01
  clear zhvn01
  have hln3 := Aside0.mk zhln3
  clear zhln3
  have hvn30 := Aside0.mk zhvn30
  clear zhvn30
  have hvn31 := Aside0.mk zhvn31
  clear zhvn31
  have hlm := Aside0.mk zhlm
  clear zhlm
  have hlm3 := Aside0.mk zhlm3
  clear zhlm3
  have hvm30 := Aside0.mk zhvm30
  clear zhvm30
  have hvm31 := Aside0.mk zhvm31
  clear zhvm31
  have hlm6 := Aside0.mk zhlm6
  clear zhlm6
  have hvm60 := Aside0.mk zhvm60
  clear zhvm60
  have hvm61 := Aside0.mk zhvm61
  clear zhvm61
  have hlo := Aside0.mk zhlo
  clear zhlo
  have hlo0 := Aside0.mk zhlo0
  clear zhlo0
  have hvo00 := Aside0.mk zhvo00
  clear zhvo00
  have hvo01 := Aside0.mk zhvo01
  clear zhvo01
  have hlo3 := Aside0.mk zhlo3
  clear zhlo3
  have hvo30 := Aside0.mk zhvo30
  clear zhvo30
  have hvo31 := Aside0.mk zhvo31
  clear zhvo31
  have hle := Aside0.mk zhle
  clear zhle
  have hle0 := Aside0.mk zhle0
  clear zhle0
  have hve00 := Aside0.mk zhve00
  clear zhve00
  have hve01 := Aside0.mk zhve01
  clear zhve01
  go_enter Try.func25, Try.ntmps25
  go_wp2_with (first | (go_at_call 80; with_reducible refine (caesuralaw19_One.calls 0 2 Q0 AC _ H10.out).mono ?_; rintro e wo0 ⟨u_, v_, rfl, hS_, hR_, hb_⟩; obtain ⟨S0, s0, rfl⟩ := Kd.S_slice hS_; obtain ⟨T0, t0, rfl, -, -⟩ := Kd.R_reads hR_; have hz_ := HH.out.aut hS_ hR_ hb_; clear hS_ hR_ hb_; clear HH; have HH := Aside0.mk hz_; clear hz_) | (go_at_call 80; with_reducible refine (caesuralaw19_One.calls 1 2 Q1 AC _ H11.out).mono ?_; rintro e wo1 ⟨u_, v_, rfl, hS_, hR_, hb_⟩; obtain ⟨S1, s1, rfl⟩ := Kd.S_slice hS_; obtain ⟨T1, t1, rfl, -, -⟩ := Kd.R_reads hR_; have hz_ := HH.out.aut hS_ hR_ hb_; clear hS_ hR_ hb_; clear HH; have HH := Aside0.mk hz_; clear hz_) | (go_at_call 28; have hF_ := HFn.out; refine (thompson_Of.calls 60 2 S0 s0 Q0 T0 t0 AC 2 Xn true _ (HH.out.C_rows (A := S0) (c := s0) (n := Q0.length) (L := Q0) (by simp)).2.2 (HH.out.C_rows (A := S0) (c := s0) (n := Q0.length) (L := Q0) (by simp)).2.1 (HH.out.C_ends (A := T0) (c := t0) (n := AC.length) (L := AC) (by simp)).2.2 (HH.out.C_ends (A := T0) (c := t0) (n := AC.length) (L := AC) (by simp)).2.1 hF_).mono ?_; clear HFn hF_; rintro e wn ⟨u_, rfl, hS_, hb_⟩; obtain ⟨Un, qn, rfl⟩ := Kd.S_slice hS_; have hz_ := Hold.alloc (b1 := []) (HH.out.net hS_ hb_) #[.int .i64 2, .slice Un Xn.length qn] 28; clear hS_ hb_; clear HH; have HH := Aside0.mk hz_; clear hz_) | (go_at_call 29; have hF_ := HFm.out; refine (thompson_Join.calls 60 2 S0 s0 Q0 T0 t0 AC 2 S1 s1 Q1 T1 t1 AC 2 Xm true _ (HH.out.C_rows (A := S0) (c := s0) (n := Q0.length) (L := Q0) (by simp)).2.2 (HH.out.C_rows (A := S0) (c := s0) (n := Q0.length) (L := Q0) (by simp)).2.1 (HH.out.C_ends (A := T0) (c := t0) (n := AC.length) (L := AC) (by simp)).2.2 (HH.out.C_ends (A := T0) (c := t0) (n := AC.length) (L := AC) (by simp)).2.1 (HH.out.C_rows (A := S1) (c := s1) (n := Q1.length) (L := Q1) (by simp)).2.2 (HH.out.C_rows (A := S1) (c := s1) (n := Q1.length) (L := Q1) (by simp)).2.1 (HH.out.C_ends (A := T1) (c := t1) (n := AC.length) (L := AC) (by simp)).2.2 (HH.out.C_ends (A := T1) (c := t1) (n := AC.length) (L := AC) (by simp)).2.1 hF_).mono ?_; clear HFm hF_; rintro e wm ⟨u_, rfl, hS_, hb_⟩; obtain ⟨Um, qm, rfl⟩ := Kd.S_slice hS_; have hz_ := Hold.alloc (b1 := []) (HH.out.net hS_ hb_) #[.int .i64 2, .slice Um Xm.length qm] 28; clear hS_ hb_; clear HH; have HH := Aside0.mk hz_; clear hz_) | (go_at_call 31; have hF_ := HFo.out; refine (thompson_Again.calls 60 2 S1 s1 Q1 T1 t1 AC 2 Xo true _ (HH.out.C_rows (A := S1) (c := s1) (n := Q1.length) (L := Q1) (by simp)).2.2 (HH.out.C_rows (A := S1) (c := s1) (n := Q1.length) (L := Q1) (by simp)).2.1 (HH.out.C_ends (A := T1) (c := t1) (n := AC.length) (L := AC) (by simp)).2.2 (HH.out.C_ends (A := T1) (c := t1) (n := AC.length) (L := AC) (by simp)).2.1 hF_).mono ?_; clear HFo hF_; rintro e wo ⟨u_, rfl, hS_, hb_⟩; obtain ⟨Uo, qo, rfl⟩ := Kd.S_slice hS_; have hz_ := Hold.alloc (b1 := []) (HH.out.net hS_ hb_) #[.int .i64 2, .slice Uo Xo.length qo] 28; clear hS_ hb_; clear HH; have HH := Aside0.mk hz_; clear hz_) | (go_at_call 30; have hF_ := HFe.out; refine (thompson_Either.calls 60 2 S0 s0 Q0 T0 t0 AC 2 S1 s1 Q1 T1 t1 AC 2 Xe true _ (HH.out.C_rows (A := S0) (c := s0) (n := Q0.length) (L := Q0) (by simp)).2.2 (HH.out.C_rows (A := S0) (c := s0) (n := Q0.length) (L := Q0) (by simp)).2.1 (HH.out.C_ends (A := T0) (c := t0) (n := AC.length) (L := AC) (by simp)).2.2 (HH.out.C_ends (A := T0) (c := t0) (n := AC.length) (L := AC) (by simp)).2.1 (HH.out.C_rows (A := S1) (c := s1) (n := Q1.length) (L := Q1) (by simp)).2.2 (HH.out.C_rows (A := S1) (c := s1) (n := Q1.length) (L := Q1) (by simp)).2.1 (HH.out.C_ends (A := T1) (c := t1) (n := AC.length) (L := AC) (by simp)).2.2 (HH.out.C_ends (A := T1) (c := t1) (n := AC.length) (L := AC) (by simp)).2.1 hF_).mono ?_; clear HFe hF_; rintro e we ⟨u_, rfl, hS_, hb_⟩; obtain ⟨Ue, qe, rfl⟩ := Kd.S_slice hS_; have hz_ := Hold.alloc (b1 := []) (HH.out.net hS_ hb_) #[.int .i64 2, .slice Ue 8 qe] 28; clear hS_ hb_; clear HH; have HH := Aside0.mk hz_; clear hz_; rw [hle.out]; have b_ : (we.alloc (Obj.cells #[.int .i64 2, .slice Ue 8 qe] 28)).heap[wn.heap.size]? = some (.cells #[.int .i64 2, .slice Un Xn.length qn] 28 (0, 0)) := HH.out.blks (wn.heap.size, #[.int .i64 2, .slice Un Xn.length qn], 28) (by simp); have r_ := (HH.out.C_nets (A := Un) (c := qn) (n := Xn.length) (L := Xn) (by simp)).2.2; rw [show Xn.length = 5 from hln.out] at b_; have cn0_ : (we.alloc (Obj.cells #[.int .i64 2, .slice Ue 8 qe] 28)).cell? ⟨wn.heap.size, 0, none⟩ = some (.int .i64 2) := (blk_cell b_ 0).trans rfl; have cn1_ : (we.alloc (Obj.cells #[.int .i64 2, .slice Ue 8 qe] 28)).cell? ⟨wn.heap.size, 1, none⟩ = some (.slice Un 5 qn) := (blk_cell b_ 1).trans rfl; obtain ⟨adn, An0, kn0, e_, xn0, -, y_⟩ := at_L2 r_ 0 (by decide) (by rw [hln.out]; decide); subst e_; rw [hln0.out, show ((0 : Int)).toNat = 0 from rfl] at xn0; (try rw [Addr.add_zero'] at xn0); obtain ⟨bdn0, e_, pn0, on0⟩ := at_T82 y_ 0 (by decide) (by rw [hln0.out]; decide); subst e_; rw [hvn00.out, show ((0 : Int)).toNat * 2 = 0 from rfl] at pn0; (try rw [Addr.add_zero'] at pn0); rw [hvn01.out, show ((0 : Int)).toNat * 2 = 0 from rfl] at on0; (try rw [Addr.add_zero'] at on0); clear y_; obtain ⟨adn, An3, kn3, e_, xn3, -, y_⟩ := at_L2 r_ 3 (by decide) (by rw [hln.out]; decide); obtain rfl := Option.some.inj e_; rw [hln3.out, show ((3 : Int)).toNat = 3 from rfl] at xn3; simp only [Nat.reduceEqDiff, Go.Addr.add, ↓reduceIte] at xn3; obtain ⟨bdn3, e_, pn3, on3⟩ := at_T82 y_ 0 (by decide) (by rw [hln3.out]; decide); subst e_; rw [hvn30.out, show ((0 : Int)).toNat * 2 = 0 from rfl] at pn3; (try rw [Addr.add_zero'] at pn3); rw [hvn31.out, show ((0 : Int)).toNat * 2 = 0 from rfl] at on3; (try rw [Addr.add_zero'] at on3); clear y_; clear r_ b_; have b_ : (we.alloc (Obj.cells #[.int .i64 2, .slice Ue 8 qe] 28)).heap[wm.heap.size]? = some (.cells #[.int .i64 2, .slice Um Xm.length qm] 28 (0, 0)) := HH.out.blks (wm.heap.size, #[.int .i64 2, .slice Um Xm.length qm], 28) (by simp); have r_ := (HH.out.C_nets (A := Um) (c := qm) (n := Xm.length) (L := Xm) (by simp)).2.2; rw [show Xm.length = 8 from hlm.out] at b_; have cm0_ : (we.alloc (Obj.cells #[.int .i64 2, .slice Ue 8 qe] 28)).cell? ⟨wm.heap.size, 0, none⟩ = some (.int .i64 2) := (blk_cell b_ 0).trans rfl; have cm1_ : (we.alloc (Obj.cells #[.int .i64 2, .slice Ue 8 qe] 28)).cell? ⟨wm.heap.size, 1, none⟩ = some (.slice Um 8 qm) := (blk_cell b_ 1).trans rfl; obtain ⟨adm, Am3, km3, e_, xm3, -, y_⟩ := at_L2 r_ 3 (by decide) (by rw [hlm.out]; decide); subst e_; rw [hlm3.out, show ((3 : Int)).toNat = 3 from rfl] at xm3; simp only [Nat.reduceEqDiff, Go.Addr.add, ↓reduceIte] at xm3; obtain ⟨bdm3, e_, pm3, om3⟩ := at_T82 y_ 0 (by decide) (by rw [hlm3.out]; decide); subst e_; rw [hvm30.out, show ((0 : Int)).toNat * 2 = 0 from rfl] at pm3; (try rw [Addr.add_zero'] at pm3); rw [hvm31.out, show ((0 : Int)).toNat * 2 = 0 from rfl] at om3; (try rw [Addr.add_zero'] at om3); clear y_; obtain ⟨adm, Am6, km6, e_, xm6, -, y_⟩ := at_L2 r_ 6 (by decide) (by rw [hlm.out]; decide); obtain rfl := Option.some.inj e_; rw [hlm6.out, show ((6 : Int)).toNat = 6 from rfl] at xm6; simp only [Nat.reduceEqDiff, Go.Addr.add, ↓reduceIte] at xm6; obtain ⟨bdm6, e_, pm6, om6⟩ := at_T82 y_ 0 (by decide) (by rw [hlm6.out]; decide); subst e_; rw [hvm60.out, show ((0 : Int)).toNat * 2 = 0 from rfl] at pm6; (try rw [Addr.add_zero'] at pm6); rw [hvm61.out, show ((0 : Int)).toNat * 2 = 0 from rfl] at om6; (try rw [Addr.add_zero'] at om6); clear y_; clear r_ b_; have b_ : (we.alloc (Obj.cells #[.int .i64 2, .slice Ue 8 qe] 28)).heap[wo.heap.size]? = some (.cells #[.int .i64 2, .slice Uo Xo.length qo] 28 (0, 0)) := HH.out.blks (wo.heap.size, #[.int .i64 2, .slice Uo Xo.length qo], 28) (by simp); have r_ := (HH.out.C_nets (A := Uo) (c := qo) (n := Xo.length) (L := Xo) (by simp)).2.2; rw [show Xo.length = 5 from hlo.out] at b_; have co0_ : (we.alloc (Obj.cells #[.int .i64 2, .slice Ue 8 qe] 28)).cell? ⟨wo.heap.size, 0, none⟩ = some (.int .i64 2) := (blk_cell b_ 0).trans rfl; have co1_ : (we.alloc (Obj.cells #[.int .i64 2, .slice Ue 8 qe] 28)).cell? ⟨wo.heap.size, 1, none⟩ = some (.slice Uo 5 qo) := (blk_cell b_ 1).trans rfl; obtain ⟨ado, Ao0, ko0, e_, xo0, -, y_⟩ := at_L2 r_ 0 (by decide) (by rw [hlo.out]; decide); subst e_; rw [hlo0.out, show ((0 : Int)).toNat = 0 from rfl] at xo0; (try rw [Addr.add_zero'] at xo0); obtain ⟨bdo0, e_, po0, oo0⟩ := at_T82 y_ 0 (by decide) (by rw [hlo0.out]; decide); subst e_; rw [hvo00.out, show ((0 : Int)).toNat * 2 = 0 from rfl] at po0; (try rw [Addr.add_zero'] at po0); rw [hvo01.out, show ((0 : Int)).toNat * 2 = 0 from rfl] at oo0; (try rw [Addr.add_zero'] at oo0); clear y_; obtain ⟨ado, Ao3, ko3, e_, xo3, -, y_⟩ := at_L2 r_ 3 (by decide) (by rw [hlo.out]; decide); obtain rfl := Option.some.inj e_; rw [hlo3.out, show ((3 : Int)).toNat = 3 from rfl] at xo3; simp only [Nat.reduceEqDiff, Go.Addr.add, ↓reduceIte] at xo3; obtain ⟨bdo3, e_, po3, oo3⟩ := at_T82 y_ 0 (by decide) (by rw [hlo3.out]; decide); subst e_; rw [hvo30.out, show ((0 : Int)).toNat * 2 = 0 from rfl] at po3; (try rw [Addr.add_zero'] at po3); rw [hvo31.out, show ((0 : Int)).toNat * 2 = 0 from rfl] at oo3; (try rw [Addr.add_zero'] at oo3); clear y_; clear r_ b_; have b_ : (we.alloc (Obj.cells #[.int .i64 2, .slice Ue 8 qe] 28)).heap[we.heap.size]? = some (.cells #[.int .i64 2, .slice Ue 8 qe] 28 (0, 0)) := HH.out.blks (we.heap.size, #[.int .i64 2, .slice Ue 8 qe], 28) (by simp); have r_ := (HH.out.C_nets (A := Ue) (c := qe) (n := Xe.length) (L := Xe) (by simp)).2.2; skip; have ce0_ : (we.alloc (Obj.cells #[.int .i64 2, .slice Ue 8 qe] 28)).cell? ⟨we.heap.size, 0, none⟩ = some (.int .i64 2) := (blk_cell b_ 0).trans rfl; have ce1_ : (we.alloc (Obj.cells #[.int .i64 2, .slice Ue 8 qe] 28)).cell? ⟨we.heap.size, 1, none⟩ = some (.slice Ue 8 qe) := (blk_cell b_ 1).trans rfl; obtain ⟨ade, Ae0, ke0, e_, xe0, -, y_⟩ := at_L2 r_ 0 (by decide) (by rw [hle.out]; decide); subst e_; rw [hle0.out, show ((0 : Int)).toNat = 0 from rfl] at xe0; (try rw [Addr.add_zero'] at xe0); obtain ⟨bde0, e_, pe0, oe0⟩ := at_T82 y_ 1 (by decide) (by rw [hle0.out]; decide); subst e_; rw [hve00.out, show ((1 : Int)).toNat * 2 = 2 from rfl] at pe0; simp only [Nat.reduceEqDiff, Go.Addr.add, ↓reduceIte] at pe0; rw [hve01.out, show ((1 : Int)).toNat * 2 = 2 from rfl] at oe0; simp only [Nat.reduceEqDiff, Go.Addr.add, ↓reduceIte] at oe0; clear y_; clear r_ b_; skip) | (go_at_call 28; refine (thompson_Of.calls 60 0 none 0 [] none 0 [] 0 [] false _ (Kd.C_nil _ _) (Nat.le_refl _) (Kd.C_nil _ _) (Nat.le_refl _) HFz.out).mono ?_; clear HFz; rintro e wz ⟨u_, rfl, hS_, hb_⟩; obtain ⟨Uz, qz, rfl⟩ := Kd.S_slice hS_; have hz_ := Hold.alloc (b1 := []) (HH.out.step hb_) #[.int .i64 0, .slice Uz 0 qz] 28; clear hS_ hb_; clear HH; have HH := Aside0.mk hz_; clear hz_) | (go_at_call 36; refine (thompson_Good.calls 2 S0 s0 Q0 T0 t0 AC true _ (HH.out.C_rows (A := S0) (c := s0) (n := Q0.length) (L := Q0) (by simp)).2.2 (HH.out.C_rows (A := S0) (c := s0) (n := Q0.length) (L := Q0) (by simp)).2.1 (HH.out.C_ends (A := T0) (c := t0) (n := AC.length) (L := AC) (by simp)).2.2 (HH.out.C_ends (A := T0) (c := t0) (n := AC.length) (L := AC) (by simp)).2.1 HFg.out).mono ?_; rintro e wg ⟨rfl, hb_⟩; have hz_ := HH.out.step hb_; clear hb_; clear HH; have HH := Aside0.mk hz_; clear hz_; have b_ : wg.heap[wn.heap.size]? = some (.cells #[.int .i64 2, .slice (some adn) Xn.length qn] 28 (0, 0)) := HH.out.blks (wn.heap.size, #[.int .i64 2, .slice (some adn) Xn.length qn], 28) (by simp); rw [hln.out] at b_; have d0_ : wg.cell? ⟨wn.heap.size, 0, none⟩ = some (.int .i64 2) := (blk_cell b_ 0).trans rfl; have d1_ : wg.cell? ⟨wn.heap.size, 1, none⟩ = some (.slice (some adn) 5 qn) := (blk_cell b_ 1).trans rfl; clear b_) | (go_at_call 38; have hC_ := thompson_GoodNet.calls 2 (some adn) qn Xn true _ (HH.out.C_nets (A := some adn) (c := qn) (n := Xn.length) (L := Xn) (by simp)).2.2 (HH.out.C_nets (A := some adn) (c := qn) (n := Xn.length) (L := Xn) (by simp)).2.1 HFh.out; rw [hln.out] at hC_; refine hC_.mono ?_; rintro e wh ⟨rfl, hb_⟩; have hz_ := HH.out.step hb_; clear hb_; clear HH; have HH := Aside0.mk hz_; clear hz_))
  go_ret
  exact ⟨rfl, HH.out.low⟩

end Go.Proofs.Ytelkjbacdpmnfaa.A
