/- The statement SubsetTakes: for every input of no more than so much the law returns true and leaves its arguments as they were: its row, out of the walk's contract and the plain law in YtelkjbacdpmnfaaPureSubsetTakes.lean. No conditions. -/
import Derived.Test.YtelkjbacdpmnfaaRows
import Derived.Test.YtelkjbacdpmnfaaBCaesuralaw20SubsetTakes
import Derived.Test.YtelkjbacdpmnfaaBOpens
import Derived.Test.YtelkjbacdpmnfaaBFacts
import Derived.Test.YtelkjbacdpmnfaaBPureSubsetTakes
import Derived.WalkKit
import Derived.ProofKit
import Derived.OpenShut
import Derived.ShutString
import Derived.ChangeOld
import Derived.Below
import Derived.SizedLaws
import Derived.JoinedCond
import Derived.Test.YtelkjbacdpmnfaaBOpensNet













namespace Go.Proofs.Ytelkjbacdpmnfaa.A.subsetTakes
open Go.ChangeShapes Go.WideShapes Go.ChangeAt Go.RowKit
open Go.W_.PrintWords Go.W_.PrintLast
set_option linter.unusedVariables false
set_option maxRecDepth 100000 in
theorem lifted (os : Os) (started : os.Started) (H : Type) (enc : TypeId × Value → H) (F : Stop.Interp) :
  ReturnsInHanded {} Try.checked os 12 .any ((Rows.OpenSpec.upto Rows.subsetTakesSpec).pre6 enc Try.prog Try.f12 Rows.subsetTakesUptoRow.domain false) (((Rows.OpenSpec.upto Rows.subsetTakesSpec).at F).post enc Try.prog Try.f12 false true false false) := by
 refine returnsInHanded_of_cond (C := Try.checked) (s := Rows.OpenSpec.upto Rows.subsetTakesSpec) (k := Rows.uptoSmall) rfl ownKnob_none started (by kernel_rfl) Try.func12
  (OpenSpec.witness (enc := enc) (C := Try.checked) (s := Rows.OpenSpec.upto Rows.subsetTakesSpec) (k := Rows.uptoSmall) rfl false ⟨#[], #[.agg #[.int .i64 0, .slice none 0 0], .slice none 0 0], []⟩ 8 (by kernel_rfl) (by kernel_rfl) (by kernel_rfl)
   (x := ([.agg [.lit (.int .i64 0), .nil], .nil], [], [])) (by kernel_rfl) rfl (by kernel_rfl)) ?_
 intro W base args ds gs before hval0 hW _ hk _
 have hval : ∀ (j : Nat) t v, Try.f12.params[j]? = some t → args[j]? = some v → Value.okWide Try.prog W .any base t v := hval0
 have hW' := hW
 obtain ⟨p, q, hA0, hV, rfl, hfz, hnd⟩ := hW
 have hA : DataW.TrodAll enc Try.prog W 0 (fun _ => true) true Try.f12.params.toList args.toList ds p := hA0
 rw [Try.params12] at hA hval
 obtain ⟨v0, vs0, d0, ds0, p0, q0, hargs, rfl, rfl, h0, r0⟩ := trodAll_cons hA
 obtain ⟨v1, vs1, d1, ds1, p1, q1, rfl, rfl, rfl, h1, r1⟩ := trodAll_cons r0
 obtain ⟨rfl, rfl, rfl⟩ := trodAll_nil r1
 obtain rfl : args = #[v0, v1] := by cases args; simp_all
 obtain ⟨rfl, rfl⟩ := trodVars_none hV
 have k0 := h0
 have lt0 : ∀ x ∈ p0, x.block < W.heap.size := by obtain ⟨m, hm⟩ := k0; exact DataW.trod_lt m _ _ _ hm
 obtain ⟨a0_0, A0_1, c0_1, l0_1, rfl, wa0, R0_1, C0_1, wl0, wb0⟩ := open_netB (hval 0 28 v0 rfl rfl) h0
 have k1 := h1
 have lt1 : ∀ x ∈ p1, x.block < W.heap.size := by obtain ⟨m, hm⟩ := k1; exact DataW.trod_lt m _ _ _ hm
 obtain ⟨A1, c1, l1, rfl, R1, C1, wl1⟩ := open_u8s (hval 1 44 v1 rfl rfl) h1
 have hkb : Rows.uptoBulk d0 ≤ 1048576 := by
  have h_ := of_decide_eq_true hk
  simp only [List.append_nil, Rows.uptoBulkAll] at h_
  omega
 clear hA0 hval0
 obtain ⟨kk, hf⟩ := subsetTakes_pure a0_0 l0_1 l1 wa0 wl0 wl1 (fun r_ hr_ => by have h_ := wb0 r_ hr_; omega)
 refine (cl20_SubsetTakes.calls kk a0_0 A0_1 c0_1 l0_1 A1 c1 l1 true W R0_1 C0_1 R1 C1 hf).mono fun e W' ⟨he, bel⟩ => ?_
 subst he
 exact ⟨_, rfl, _, _, _, [], _, [], hW', trodAll_mk1 (shut_bool Try.underlying4 _), (trodAll_cons_mk (Below.trod laidOut (by kernel_rfl) (of_decide_eq_true (by kernel_rfl)) k0 bel lt0) (trodAll_cons_mk (Below.trod laidOut (by kernel_rfl) (of_decide_eq_true (by kernel_rfl)) k1 bel lt1) trodAll_mk0)), rfl, bel.frame _, fun h => by cases h⟩
theorem c0 : Rows.subsetTakesUptoRow.wf (OpenSpec.ofChange Rows.subsetTakesSpec) = true := by kernel_rfl
theorem c3 : (Rows.subsetTakesUptoRow.named == Try.pinned.checked.prog.varsNamed 12) = true := by kernel_rfl
theorem c4 : (Rows.subsetTakesUptoRow.inPlace == Try.pinned.checked.prog.inPlace 12) = true := by kernel_rfl
theorem c5 : (Rows.subsetTakesUptoRow.unfollowed == Try.pinned.checked.prog.unfollowed 12) = true := by kernel_rfl
theorem c6 : (Rows.subsetTakesUptoRow.recurses == Try.pinned.checked.prog.recurses 12) = true := by kernel_rfl
theorem e3 : (Rows.subsetTakesUptoRow.lifted == Try.pinned.checked.prog.liftsFinal) = true := fact_lifted
theorem e4 : (Try.pinned.checked.prog.make == some Rows.subsetTakesUptoRow.make) = true := fact_make
theorem e6 : (Rows.subsetTakesUptoRow.plainKeys == Try.pinned.checked.prog.plainKeys) = true := fact_plain
set_option maxRecDepth 100000 in
set_option maxHeartbeats 4000000 in
theorem closed : joinedFacts Try.pinned.checked.prog 12 Try.f12 Rows.subsetTakesSpec Rows.subsetTakesUptoRow = true := by
 unfold joinedFacts
 rw [c0, fact_laid, fact_maps, c3, c4, c5, c6, e3, e4, e6, fact_heard, fact_enter]
 repeat' (with_reducible refine band ?_ ?_)
 all_goals (first | with_reducible rfl | (as_aux_lemma => kernel_rfl))
theorem named : Try.pinned.checked.prog.funcNamed Rows.subsetTakesUptoRow.func = some 12 := by kernel_rfl
theorem wrap : Try.f12.isWrapper Try.pinned.checked.prog Rows.subsetTakesUptoRow.wrapper Rows.subsetTakesUptoRow.mainSum := by unfold Func.isWrapper; first | (rw [if_pos (by decide +kernel)]; kernel_rfl) | (rw [if_neg (by decide +kernel)]; exact ⟨rfl, rfl⟩)
theorem over : Rows.subsetTakesUptoRow.holds Try.pinned (Rows.OpenSpec.upto Rows.subsetTakesSpec) :=
 OpenClaim.holds_of_cond 12 Try.f12 rfl rfl rfl rfl rfl rfl rfl ⟨rfl, rfl, rfl, rfl, rfl⟩ rfl rfl rfl rfl rfl named Try.func12 closed
  (of_decide_eq_true (by kernel_rfl)) wrap
  (fun os started H enc _ F => lifted os started H enc F)
end Go.Proofs.Ytelkjbacdpmnfaa.A.subsetTakes
namespace Go.Proofs.Ytelkjbacdpmnfaa
/-- The row, under a short name, for the claim. -/
theorem subsetTakesUpto_holds : Rows.SubsetTakesUptoSaid := A.subsetTakes.over
#print axioms subsetTakesUpto_holds
end Go.Proofs.Ytelkjbacdpmnfaa
