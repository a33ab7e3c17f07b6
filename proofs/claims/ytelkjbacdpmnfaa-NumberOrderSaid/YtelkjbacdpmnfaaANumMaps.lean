/- By a program, out of the translation (wip/myprint.py). -/
import Derived.Test.YtelkjbacdpmnfaaA0
import Derived.Maps.OwnSet
namespace Go.Proofs.Ytelkjbacdpmnfaa.A
open Go.RowKit Go.Proofs.YtelkjbacdpmnfaaW.PrintWords Go.Proofs.YtelkjbacdpmnfaaW.PrintLast Go.Proofs.YtelkjbacdpmnfaaW.PrintMore
attribute [local go_sem] max2_int min2_int max_two min_two max_three min_three max_four min_four   -- for this text's walks alone
set_option linter.unusedVariables false
set_option linter.unusedSimpArgs false

/-! a map of ours from things to the numbers by which they were met -/
section
open Go.Maps
variable {α : Type} [BEq α] [LawfulBEq α]
/-- What such a map's data are: the things met, each with its number. -/
def NumData (key : α → Lit) (ok : α → Prop) (D : DataW Unit) (M : List α) : Prop :=
  Tidy D ∧ Maps.size D = M.length ∧ ∀ x, ok x → Maps.has D (key x) = M.contains x ∧ D.atKey (key x) (.lit (.int .i64 0)) = .lit (.int .i64 (if x ∈ M then ((M.idxOf x : Nat) : Int) else 0))
theorem NumData.nil (key : α → Lit) (ok : α → Prop) : NumData key ok (.map []) [] :=
  ⟨tidy_empty, rfl, fun x _ => ⟨rfl, by simp; exact atKey_of_not_has rfl _⟩⟩
theorem NumData.put {key : α → Lit} {ok : α → Prop} {D : DataW Unit} {M : List α} (h : NumData key ok D M) (hinj : ∀ x y, ok x → ok y → key x = key y → x = y) {x : α} (hx : ok x) (hk : WideAt.IsKeyLit (key x)) (hn : x ∉ M) : NumData key ok (D.put (key x) (.lit (.int .i64 ((M.length : Nat) : Int)))) (M ++ [x]) := by
  obtain ⟨hT, hz, hf⟩ := h
  have hh : Maps.has D (key x) = false := by rw [(hf x hx).1]; simpa using hn
  refine ⟨hT.put hk _, ?_, fun y hy => ?_⟩
  · rw [size_put hT, hh]
    simp [hz]
  · by_cases he : y = x
    · subst he
      refine ⟨by rw [has_put_same hT.isMap hk]; simp, ?_⟩
      rw [atKey_put_same hT.isMap hk, if_pos (by simp), List.idxOf_append, if_neg hn]
      simp
    · have hne : key y ≠ key x := fun e => he (hinj y x hy hx e)
      refine ⟨?_, ?_⟩
      · rw [has_put_other hne, (hf y hy).1]
        simp [List.contains_append, he]
      · rw [atKey_put_other hne, (hf y hy).2]
        by_cases hm : y ∈ M
        · rw [if_pos hm, if_pos (by simp [hm]), List.idxOf_append, if_pos hm]
        · rw [if_neg hm, if_neg (by simp [hm, he])]
theorem keyed3 : Keyed Try.prog 3 := int_keyed Try.underlying3
theorem under99 : Try.prog.underlying 99 = some (.map 3 3) := by kernel_rfl
def intLit (x : Int) : Lit := .int .i64 x
theorem int_key {x : Int} (h : (Lit.int .i64 x).wf = true) : keyOf Try.prog 3 (.int .i64 x) = some (intLit x) := keyOf_int_mk Try.underlying3 h
def IntMap (W : World) (b n : Nat) (M : List Int) : Prop :=
  ∃ D : DataW Unit, W.ownsMap Try.prog 3 (plainElem Try.prog 3) b n D ∧ NumData intLit (fun x => (Lit.int .i64 x).wf = true) D M
theorem IntMap.made (W : World) : IntMap (W.alloc (.map #[] 0)) W.heap.size 0 [] :=
  ⟨.map [], World.ownsMap_made W Try.prog 3 (plainElem Try.prog 3), NumData.nil _ _⟩
theorem IntMap.below {W W' : World} {b n : Nat} {M : List Int} (h : IntMap W b n M) (hb : Below W.heap.size W W') : IntMap W' b n M := by
  obtain ⟨D, h1, h2⟩ := h
  exact ⟨D, h1.kept (row := none) ⟨hb.os, hb.tape, hb.output, hb.size, fun i hi _ => hb.block i hi⟩ (by simp), h2⟩
theorem intLit_put {D : DataW Unit} {M : List Int} (h : NumData intLit (fun x => (Lit.int .i64 x).wf = true) D M) {x : Int} (hx : (Lit.int .i64 x).wf = true) (hn : x ∉ M) : NumData intLit (fun x => (Lit.int .i64 x).wf = true) (D.put (intLit x) (.lit (.int .i64 ((M.length : Nat) : Int)))) (M ++ [x]) :=
  h.put (fun x y _ _ e => by unfold intLit at e; injection e) hx (keyed3.key (keyOf_int_mk Try.underlying3 hx)) hn
end

end Go.Proofs.Ytelkjbacdpmnfaa.A
