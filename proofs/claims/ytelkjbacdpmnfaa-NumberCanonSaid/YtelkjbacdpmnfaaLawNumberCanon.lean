/- The statement NumberCanon: for every input the law returns true and leaves its arguments as they were: its row, out of the walk's contract and the plain law in YtelkjbacdpmnfaaPureNumberCanon.lean. No conditions. -/
import Derived.Test.YtelkjbacdpmnfaaRows
import Derived.Test.YtelkjbacdpmnfaaPureNumberCanon
import Derived.Test.YtelkjbacdpmnfaaAOpens
import Derived.Test.YtelkjbacdpmnfaaAFacts
import Derived.WalkKit
import Derived.ProofKit
import Derived.OpenShut
import Derived.ShutString
import Derived.ChangeOld
import Derived.Below
import Derived.SizedLaws
namespace Go.Proofs.Ytelkjbacdpmnfaa.A.numberCanon
open Go.ChangeShapes Go.WideShapes Go.ChangeAt Go.RowKit
open Go.Proofs.YtelkjbacdpmnfaaW.PrintWords Go.Proofs.YtelkjbacdpmnfaaW.PrintLast
set_option linter.unusedVariables false
set_option maxRecDepth 100000 in
theorem lifted (os : Os) (started : os.Started) (H : Type) (enc : TypeId × Value → H) :
    ReturnsInHanded {} Try.checked os 18 .any (Rows.numberCanonSpec.pre6 enc Try.prog Try.f18 Rows.numberCanonRow.domain false) (Rows.numberCanonSpec.post enc Try.prog Try.f18 false true false false) := by
  refine returnsInHanded_of_change_sized (C := Try.checked) ownKnob_none started (by kernel_rfl) Try.func18
    (ChangeSpec.witness6 (enc := enc) (C := Try.checked) false ⟨#[], #[.agg #[.int .i64 0, .slice none 0 0, .slice none 0 0], .slice none 0 0, .slice none 0 0], []⟩ 8 (by kernel_rfl) (by kernel_rfl) (by kernel_rfl) (by kernel_rfl)) ?_
  intro W base args ds gs before hval0 hW hcnd hsz0 _
  have hval : ∀ (j : Nat) t v, Try.f18.params[j]? = some t → args[j]? = some v → Value.okWide Try.prog W .any base t v := hval0
  have hW' := hW
  obtain ⟨p, q, hA0, hV, rfl, hfz, hnd⟩ := hW
  have hA : DataW.TrodAll enc Try.prog W 0 (fun _ => true) true Try.f18.params.toList args.toList ds p := hA0
  rw [Try.params18] at hA hval
  obtain ⟨v0, vs0, d0, ds0, p0, q0, hargs, rfl, rfl, h0, r0⟩ := trodAll_cons hA
  obtain ⟨v1, vs1, d1, ds1, p1, q1, rfl, rfl, rfl, h1, r1⟩ := trodAll_cons r0
  obtain ⟨v2, vs2, d2, ds2, p2, q2, rfl, rfl, rfl, h2, r2⟩ := trodAll_cons r1
  obtain ⟨rfl, rfl, rfl⟩ := trodAll_nil r2
  obtain rfl : args = #[v0, v1, v2] := by cases args; simp_all
  obtain ⟨rfl, rfl⟩ := trodVars_none hV
  have k0 := h0
  have lt0 : ∀ x ∈ p0, x.block < W.heap.size := by obtain ⟨m, hm⟩ := k0; exact DataW.trod_lt m _ _ _ hm
  obtain ⟨a0_0, A0_1, c0_1, l0_1, A0_2, c0_2, l0_2, rfl, wa0, R0_1, C0_1, R0_2, C0_2, wl0⟩ := open_aut (hval 0 25 v0 rfl rfl) h0
  have k1 := h1
  have lt1 : ∀ x ∈ p1, x.block < W.heap.size := by obtain ⟨m, hm⟩ := k1; exact DataW.trod_lt m _ _ _ hm
  obtain ⟨A1, c1, l1, rfl, R1, C1, wl1⟩ := open_u8s (hval 1 44 v1 rfl rfl) h1
  have k2 := h2
  have lt2 : ∀ x ∈ p2, x.block < W.heap.size := by obtain ⟨m, hm⟩ := k2; exact DataW.trod_lt m _ _ _ hm
  obtain ⟨A2, c2, l2, rfl, R2, C2, wl2⟩ := open_u8s (hval 2 44 v2 rfl rfl) h2
  clear hA0 hval0 hsz0
  refine (caesuralaw22_NumberCanon.told a0_0 A0_1 c0_1 l0_1 A0_2 c0_2 l0_2 A1 c1 l1 A2 c2 l2 W R0_1 C0_1 R0_2 C0_2 R1 C1 R2 C2 wl1 wl2).mono fun e W' ⟨he, bel⟩ => ?_
  subst he
  exact ⟨_, rfl, _, _, _, [], _, [], hW', trodAll_mk1 (shut_bool Try.underlying4 _), (trodAll_cons_mk (Below.trod laidOut (by kernel_rfl) (of_decide_eq_true (by kernel_rfl)) k0 bel lt0) (trodAll_cons_mk (Below.trod laidOut (by kernel_rfl) (of_decide_eq_true (by kernel_rfl)) k1 bel lt1) (trodAll_cons_mk (Below.trod laidOut (by kernel_rfl) (of_decide_eq_true (by kernel_rfl)) k2 bel lt2) trodAll_mk0))), rfl, bel.frame _, fun h => by cases h⟩
theorem c0 : Rows.numberCanonRow.wf (OpenSpec.ofChange Rows.numberCanonSpec) = true := by kernel_rfl
theorem c3 : (Rows.numberCanonRow.named == Try.pinned.checked.prog.varsNamed 18) = true := by kernel_rfl
theorem c4 : (Rows.numberCanonRow.inPlace == Try.pinned.checked.prog.inPlace 18) = true := by kernel_rfl
theorem c5 : (Rows.numberCanonRow.unfollowed == Try.pinned.checked.prog.unfollowed 18) = true := by kernel_rfl
theorem c6 : (Rows.numberCanonRow.recurses == Try.pinned.checked.prog.recurses 18) = true := by kernel_rfl
theorem e3 : (Rows.numberCanonRow.lifted == Try.pinned.checked.prog.liftsFinal) = true := fact_lifted
theorem e4 : (Try.pinned.checked.prog.make == some Rows.numberCanonRow.make) = true := fact_make
theorem e6 : (Rows.numberCanonRow.plainKeys == Try.pinned.checked.prog.plainKeys) = true := fact_plain
set_option maxRecDepth 100000 in
set_option maxHeartbeats 4000000 in
theorem closed : joinedFacts Try.pinned.checked.prog 18 Try.f18 Rows.numberCanonSpec Rows.numberCanonRow = true := by
  unfold joinedFacts
  rw [c0, fact_laid, fact_maps, c3, c4, c5, c6, e3, e4, e6, fact_heard, fact_enter]
  repeat' (with_reducible refine band ?_ ?_)
  all_goals (first | with_reducible rfl | (as_aux_lemma => kernel_rfl))
theorem named : Try.pinned.checked.prog.funcNamed Rows.numberCanonRow.func = some 18 := by kernel_rfl
theorem wrap : Try.f18.isWrapper Try.pinned.checked.prog Rows.numberCanonRow.wrapper Rows.numberCanonRow.mainSum := by unfold Func.isWrapper; first | (rw [if_pos (by decide +kernel)]; kernel_rfl) | (rw [if_neg (by decide +kernel)]; exact ⟨rfl, rfl⟩)
theorem over : Rows.numberCanonRow.holds Try.pinned (OpenSpec.ofChange Rows.numberCanonSpec) :=
  OpenClaim.holds_of_wide 18 Try.f18 rfl rfl rfl rfl rfl rfl rfl ⟨rfl, rfl, rfl, rfl, rfl⟩ rfl rfl rfl rfl rfl named Try.func18 closed
    (of_decide_eq_true (by kernel_rfl)) wrap
    (fun os started H enc _ => lifted os started H enc)
end Go.Proofs.Ytelkjbacdpmnfaa.A.numberCanon
namespace Go.Proofs.Ytelkjbacdpmnfaa
/-- The row, under a short name, for the claim. -/
theorem numberCanon_holds : Rows.NumberCanonSaid := A.numberCanon.over
#print axioms numberCanon_holds
end Go.Proofs.Ytelkjbacdpmnfaa
