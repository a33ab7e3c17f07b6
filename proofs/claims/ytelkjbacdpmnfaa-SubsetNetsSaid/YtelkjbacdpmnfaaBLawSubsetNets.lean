/- The statement SubsetNets: for every input the law returns true and leaves its arguments as they were: its row, out of the walk's contract and the plain law in YtelkjbacdpmnfaaPureSubsetNets.lean. No conditions. -/
import Derived.Test.YtelkjbacdpmnfaaRows
import Derived.Test.YtelkjbacdpmnfaaBCaesuralaw20SubsetNets
import Derived.Test.YtelkjbacdpmnfaaBOpens
import Derived.Test.YtelkjbacdpmnfaaBFacts
import Derived.Test.YtelkjbacdpmnfaaBPureSubsetNets
import Derived.WalkKit
import Derived.ProofKit
import Derived.OpenShut
import Derived.ShutString
import Derived.ChangeOld
import Derived.Below
import Derived.SizedLaws











namespace Go.Proofs.Ytelkjbacdpmnfaa.A.subsetNets
open Go.ChangeShapes Go.WideShapes Go.ChangeAt Go.RowKit
open Go.W_.PrintWords Go.W_.PrintLast
set_option linter.unusedVariables false
set_option maxRecDepth 100000 in
theorem lifted (os : Os) (started : os.Started) (H : Type) (enc : TypeId × Value → H) :
  ReturnsInHanded {} Try.checked os 13 .any (Rows.subsetNetsSpec.pre6 enc Try.prog Try.f13 Rows.subsetNetsRow.domain false) (Rows.subsetNetsSpec.post enc Try.prog Try.f13 false true false false) := by
 refine returnsInHanded_of_change_sized (C := Try.checked) ownKnob_none started (by kernel_rfl) Try.func13
  (ChangeSpec.witness6 (enc := enc) (C := Try.checked) false ⟨#[], #[.agg #[.int .i64 0, .slice none 0 0, .slice none 0 0], .slice none 0 0], []⟩ 8 (by kernel_rfl) (by kernel_rfl) (by kernel_rfl) (by kernel_rfl)) ?_
 intro W base args ds gs before hval0 hW hcnd hsz0 _
 have hval : ∀ (j : Nat) t v, Try.f13.params[j]? = some t → args[j]? = some v → Value.okWide Try.prog W .any base t v := hval0
 have hW' := hW
 obtain ⟨p, q, hA0, hV, rfl, hfz, hnd⟩ := hW
 have hA : DataW.TrodAll enc Try.prog W 0 (fun _ => true) true Try.f13.params.toList args.toList ds p := hA0
 rw [Try.params13] at hA hval
 obtain ⟨v0, vs0, d0, ds0, p0, q0, hargs, rfl, rfl, h0, r0⟩ := trodAll_cons hA
 obtain ⟨v1, vs1, d1, ds1, p1, q1, rfl, rfl, rfl, h1, r1⟩ := trodAll_cons r0
 obtain ⟨rfl, rfl, rfl⟩ := trodAll_nil r1
 obtain rfl : args = #[v0, v1] := by cases args; simp_all
 obtain ⟨rfl, rfl⟩ := trodVars_none hV
 have k0 := h0
 have lt0 : ∀ x ∈ p0, x.block < W.heap.size := by obtain ⟨m, hm⟩ := k0; exact DataW.trod_lt m _ _ _ hm
 obtain ⟨a0_0, A0_1, c0_1, l0_1, A0_2, c0_2, l0_2, rfl, wa0, R0_1, C0_1, R0_2, C0_2, wl0⟩ := open_aut (hval 0 25 v0 rfl rfl) h0
 have k1 := h1
 have lt1 : ∀ x ∈ p1, x.block < W.heap.size := by obtain ⟨m, hm⟩ := k1; exact DataW.trod_lt m _ _ _ hm
 obtain ⟨A1, c1, l1, rfl, R1, C1, wl1⟩ := open_u8s (hval 1 44 v1 rfl rfl) h1
 clear hA0 hval0 hsz0
 obtain ⟨kk, hf⟩ := subsetNets_pure a0_0 l0_1 l0_2 l1 wa0 wl0 R0_1.2.1 wl1
 refine (cl20_SubsetNets.calls kk a0_0 A0_1 c0_1 l0_1 A0_2 c0_2 l0_2 A1 c1 l1 true W R0_1 C0_1 R0_2 C0_2 R1 C1 hf).mono fun e W' ⟨he, bel⟩ => ?_
 subst he
 exact ⟨_, rfl, _, _, _, [], _, [], hW', trodAll_mk1 (shut_bool Try.underlying4 _), (trodAll_cons_mk (Below.trod laidOut (by kernel_rfl) (of_decide_eq_true (by kernel_rfl)) k0 bel lt0) (trodAll_cons_mk (Below.trod laidOut (by kernel_rfl) (of_decide_eq_true (by kernel_rfl)) k1 bel lt1) trodAll_mk0)), rfl, bel.frame _, fun h => by cases h⟩
theorem c0 : Rows.subsetNetsRow.wf (OpenSpec.ofChange Rows.subsetNetsSpec) = true := by kernel_rfl
theorem c3 : (Rows.subsetNetsRow.named == Try.pinned.checked.prog.varsNamed 13) = true := by kernel_rfl
theorem c4 : (Rows.subsetNetsRow.inPlace == Try.pinned.checked.prog.inPlace 13) = true := by kernel_rfl
theorem c5 : (Rows.subsetNetsRow.unfollowed == Try.pinned.checked.prog.unfollowed 13) = true := by kernel_rfl
theorem c6 : (Rows.subsetNetsRow.recurses == Try.pinned.checked.prog.recurses 13) = true := by kernel_rfl
theorem e3 : (Rows.subsetNetsRow.lifted == Try.pinned.checked.prog.liftsFinal) = true := fact_lifted
theorem e4 : (Try.pinned.checked.prog.make == some Rows.subsetNetsRow.make) = true := fact_make
theorem e6 : (Rows.subsetNetsRow.plainKeys == Try.pinned.checked.prog.plainKeys) = true := fact_plain
set_option maxRecDepth 100000 in
set_option maxHeartbeats 4000000 in
theorem closed : joinedFacts Try.pinned.checked.prog 13 Try.f13 Rows.subsetNetsSpec Rows.subsetNetsRow = true := by
 unfold joinedFacts
 rw [c0, fact_laid, fact_maps, c3, c4, c5, c6, e3, e4, e6, fact_heard, fact_enter]
 repeat' (with_reducible refine band ?_ ?_)
 all_goals (first | with_reducible rfl | (as_aux_lemma => kernel_rfl))
theorem named : Try.pinned.checked.prog.funcNamed Rows.subsetNetsRow.func = some 13 := by kernel_rfl
theorem wrap : Try.f13.isWrapper Try.pinned.checked.prog Rows.subsetNetsRow.wrapper Rows.subsetNetsRow.mainSum := by unfold Func.isWrapper; first | (rw [if_pos (by decide +kernel)]; kernel_rfl) | (rw [if_neg (by decide +kernel)]; exact ⟨rfl, rfl⟩)
theorem over : Rows.subsetNetsRow.holds Try.pinned (OpenSpec.ofChange Rows.subsetNetsSpec) :=
 OpenClaim.holds_of_wide 13 Try.f13 rfl rfl rfl rfl rfl rfl rfl ⟨rfl, rfl, rfl, rfl, rfl⟩ rfl rfl rfl rfl rfl named Try.func13 closed
  (of_decide_eq_true (by kernel_rfl)) wrap
  (fun os started H enc _ => lifted os started H enc)
end Go.Proofs.Ytelkjbacdpmnfaa.A.subsetNets
namespace Go.Proofs.Ytelkjbacdpmnfaa
/-- The row, under a short name, for the claim. -/
theorem subsetNets_holds : Rows.SubsetNetsSaid := A.subsetNets.over
#print axioms subsetNets_holds
end Go.Proofs.Ytelkjbacdpmnfaa
