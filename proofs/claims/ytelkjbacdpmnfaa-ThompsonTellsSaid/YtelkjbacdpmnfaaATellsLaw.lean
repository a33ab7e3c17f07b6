/- By a program, out of the translation (wip/myprint.py). -/
import Derived.Test.YtelkjbacdpmnfaaA0
import Derived.Test.YtelkjbacdpmnfaaAPlainGood
import Derived.Test.YtelkjbacdpmnfaaAPlainOne
import Derived.Test.YtelkjbacdpmnfaaAPlainSame
import Derived.Test.YtelkjbacdpmnfaaAPlainTells
import Derived.Test.YtelkjbacdpmnfaaAPlainTold
import Derived.Test.YtelkjbacdpmnfaaATellsLarge
import Derived.Test.YtelkjbacdpmnfaaATellsMain
import Derived.Test.YtelkjbacdpmnfaaAThompsonGood
import Derived.Test.YtelkjbacdpmnfaaAThompsonGoodNet
namespace Go.Proofs.Ytelkjbacdpmnfaa.A
open Go.RowKit Go.Proofs.YtelkjbacdpmnfaaW.PrintWords Go.Proofs.YtelkjbacdpmnfaaW.PrintLast Go.Proofs.YtelkjbacdpmnfaaW.PrintMore
attribute [local go_sem] max2_int min2_int max_two min_two max_three min_three max_four min_four   -- for this text's walks alone
set_option linter.unusedVariables false
set_option linter.unusedSimpArgs false

/-! the law ThompsonTells (printed by gen_tells.py) -/
theorem caesuralaw19_ThompsonTells.told (a0_0 : Int) (A0_1 : Option Addr) (c0_1 : Nat) (l0_1 : List (List Int)) (A0_2 : Option Addr) (c0_2 : Nat) (l0_2 : List Bool) (a1_0 : Int) (A1_1 : Option Addr) (c1_1 : Nat) (l1_1 : List (List Int)) (A1_2 : Option Addr) (c1_2 : Nat) (l1_2 : List Bool) (a2_0 : Int) (A2_1 : Option Addr) (c2_1 : Nat) (l2_1 : List (List (S82))) (w : World) (hr0_1 : Kd.C (Kd.slice 3 (Kd.int .i64)) w A0_1 l0_1.length l0_1) (hc0_1 : l0_1.length ≤ c0_1) (hr0_2 : Kd.C Kd.bool w A0_2 l0_2.length l0_2) (hc0_2 : l0_2.length ≤ c0_2) (hr1_1 : Kd.C (Kd.slice 3 (Kd.int .i64)) w A1_1 l1_1.length l1_1) (hc1_1 : l1_1.length ≤ c1_1) (hr1_2 : Kd.C Kd.bool w A1_2 l1_2.length l1_2) (hc1_2 : l1_2.length ≤ c1_2) (hr2_1 : Kd.C (Kd.slice 82 k82) w A2_1 l2_1.length l2_1) (hc2_1 : l2_1.length ≤ c2_1) :
    Calls Try.prog 3 #[.agg #[.int .i64 a0_0, .slice A0_1 l0_1.length c0_1, .slice A0_2 l0_2.length c0_2], .agg #[.int .i64 a1_0, .slice A1_1 l1_1.length c1_1, .slice A1_2 l1_2.length c1_2], .agg #[.int .i64 a2_0, .slice A2_1 l2_1.length c2_1]] w fun e w' => e = .returned (.bool true) ∧ Below w.heap.size w w' := by
  obtain ⟨kw, hkw⟩ := ev_wakes19.rounds
  obtain ⟨k0, h0⟩ := (ev_Large a0_0 l0_1 l0_2).rounds
  obtain ⟨k1, h1⟩ := (ev_Large a1_0 l1_1 l1_2).rounds
  obtain ⟨b2, e2, s2⟩ := ev_LargeNet a2_0 l2_1
  obtain ⟨k2, h2⟩ := e2.rounds
  cases hb0 : largeB l0_1 l0_2 with
  | true =>
    rw [hb0] at h0
    exact tells_large0 a0_0 A0_1 c0_1 l0_1 A0_2 c0_2 l0_2 a1_0 A1_1 c1_1 l1_1 A1_2 c1_2 l1_2 a2_0 A2_1 c2_1 l2_1 w hr0_1 hc0_1 hr0_2 hc0_2 hr1_1 hc1_1 hr1_2 hc1_2 hr2_1 hc2_1 kw k0 0 0 hkw h0
  | false =>
    rw [hb0] at h0
    cases hb1 : largeB l1_1 l1_2 with
    | true =>
      rw [hb1] at h1
      exact tells_large1 a0_0 A0_1 c0_1 l0_1 A0_2 c0_2 l0_2 a1_0 A1_1 c1_1 l1_1 A1_2 c1_2 l1_2 a2_0 A2_1 c2_1 l2_1 w hr0_1 hc0_1 hr0_2 hc0_2 hr1_1 hc1_1 hr1_2 hc1_2 hr2_1 hc2_1 kw k0 k1 0 hkw h0 h1
    | false =>
      rw [hb1] at h1
      cases b2 with
      | true => exact tells_large2 a0_0 A0_1 c0_1 l0_1 A0_2 c0_2 l0_2 a1_0 A1_1 c1_1 l1_1 A1_2 c1_2 l1_2 a2_0 A2_1 c2_1 l2_1 w hr0_1 hc0_1 hr0_2 hc0_2 hr1_1 hc1_1 hr1_2 hc1_2 hr2_1 hc2_1 kw k0 k1 k2 hkw h0 h1 h2
      | false =>
        obtain ⟨p0, q0, t0⟩ := small_aut hb0
        obtain ⟨p1, q1, t1⟩ := small_aut hb1
        obtain ⟨p2, q2⟩ := s2 rfl
        obtain ⟨o0, ho0⟩ := (ev_OwnAutomaton a0_0 l0_1 l0_2 p0 q0 t0).rounds
        obtain ⟨o1, ho1⟩ := (ev_OwnAutomaton a1_0 l1_1 l1_2 p1 q1 t1).rounds
        obtain ⟨o2, ho2⟩ := (ev_OwnNet a2_0 l2_1 p2 q2).rounds
        obtain ⟨⟨x1, X1, y1⟩, hs1, ht1, hz1⟩ := both_Of a0_0 l0_1 l0_2
        obtain ⟨t11, ht1⟩ := ht1.rounds
        obtain ⟨m1, hn1⟩ := (ev_Net_same x1 X1 hz1.1 hz1.2).rounds
        obtain ⟨⟨x2, X2, y2⟩, hs2, ht2, hz2⟩ := both_Join a0_0 l0_1 l0_2 a1_0 l1_1 l1_2
        obtain ⟨t12, ht2⟩ := ht2.rounds
        obtain ⟨m2, hn2⟩ := (ev_Net_same x2 X2 hz2.1 hz2.2).rounds
        obtain ⟨⟨x3, X3, y3⟩, hs3, ht3, hz3⟩ := both_Either a0_0 l0_1 l0_2 a1_0 l1_1 l1_2
        obtain ⟨t13, ht3⟩ := ht3.rounds
        obtain ⟨m3, hn3⟩ := (ev_Net_same x3 X3 hz3.1 hz3.2).rounds
        obtain ⟨⟨x4, X4, y4⟩, hs4, ht4, hz4⟩ := both_Again a0_0 l0_1 l0_2
        obtain ⟨t14, ht4⟩ := ht4.rounds
        obtain ⟨m4, hn4⟩ := (ev_Net_same x4 X4 hz4.1 hz4.2).rounds
        obtain ⟨m5, hn5⟩ := (ev_Net_same a2_0 l2_1 p2 q2).rounds
        obtain ⟨m6, ha0⟩ := (ev_Automaton_same a0_0 l0_1 l0_2 p0 q0 t0).rounds
        obtain ⟨m7, ha1⟩ := (ev_Automaton_same a1_0 l1_1 l1_2 p1 q1 t1).rounds
        obtain ⟨kg, hg1⟩ := (ev_refGood a0_0 l0_1 l0_2).rounds
        obtain ⟨kn, hg3⟩ := (ev_refGoodNet a2_0 l2_1 q2).rounds
        exact tells_main a0_0 A0_1 c0_1 l0_1 A0_2 c0_2 l0_2 a1_0 A1_1 c1_1 l1_1 A1_2 c1_2 l1_2 a2_0 A2_1 c2_1 l2_1 w hr0_1 hc0_1 hr0_2 hc0_2 hr1_1 hc1_1 hr1_2 hc1_2 hr2_1 hc2_1 kw k0 k1 k2 o0 o1 o2 x1 X1 y1 x2 X2 y2 x3 X3 y3 x4 X4 y4 t11 t12 t13 t14 ht1 ht2 ht3 ht4 hs1 hs2 hs3 hs4 hkw h0 h1 h2 ho0 ho1 ho2 (goodB a0_0 l0_1 l0_2) (goodNetB a2_0 l2_1) kg kn m1 m2 m3 m4 m5 m6 m7 ⟨rfl⟩ ⟨hg1⟩ ⟨rfl⟩ ⟨hg3⟩ ⟨hn1⟩ ⟨hn2⟩ ⟨hn3⟩ ⟨hn4⟩ ⟨hn5⟩ ⟨ha0⟩ ⟨ha1⟩

end Go.Proofs.Ytelkjbacdpmnfaa.A
