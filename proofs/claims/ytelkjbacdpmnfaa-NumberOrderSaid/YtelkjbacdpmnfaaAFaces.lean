/- By a program, out of the translation (wip/myprint.py). -/
import Derived.Test.YtelkjbacdpmnfaaA0
import Derived.Test.YtelkjbacdpmnfaaAOpens
import Derived.Maps.OwnSet
import Derived.DeepKeys5
namespace Go.Proofs.Ytelkjbacdpmnfaa.A
open Go.RowKit Go.Proofs.YtelkjbacdpmnfaaW.PrintWords Go.Proofs.YtelkjbacdpmnfaaW.PrintLast Go.Proofs.YtelkjbacdpmnfaaW.PrintMore
attribute [local go_sem] max2_int min2_int max_two min_two max_three min_three max_four min_four   -- for this text's walks alone
set_option linter.unusedVariables false
set_option linter.unusedSimpArgs false

/-! faces of states as a map's keys (layer 21's split) -/
section
open Go.Maps
theorem keyed143 : Keyed Try.prog 143 := Keyed.of_law (deep_law_laid laidOut (m := 20) (by decide) (of_decide_eq_true (by kernel_rfl)) (by kernel_rfl) (by kernel_rfl))
theorem under141 : Try.prog.underlying 141 = some (.map 143 3) := by kernel_rfl
theorem zero3 (w : World) : (zeroValue 3).run Try.prog w = .ok (.int .i64 0) w := by kernel_rfl
def faceLit (a b : Int) : Lit := .string (keyBytes [.int .i64 a, .int .i64 b])
theorem face_lits (d : Nat) (a b : Int) (ha : (Lit.int .i64 a).wf = true) (hb : (Lit.int .i64 b).wf = true) : Try.prog.keyLits (d + 1 + 1) 143 [.int .i64 a, .int .i64 b] = some [.int .i64 a, .int .i64 b] := by
  have c1 : Try.prog.cellsOf 143 = 2 := by kernel_rfl
  have c2 : Try.prog.cellsOf 3 = 1 := by kernel_rfl
  have e1 : ∀ n, (Lit.int .i64 n).wf = true → Try.prog.keyLits (d + 1) 3 [.int .i64 n] = some [.int .i64 n] := fun n hn => by
    unfold Program.keyLits
    simp only [Try.underlying3]
    simp [hn]
  unfold Program.keyLits
  simp only [Try.underlying143]
  simp [c1, c2, e1 a ha, e1 b hb]
theorem face_key (a b : Int) (ha : (Lit.int .i64 a).wf = true) (hb : (Lit.int .i64 b).wf = true) : keyOf Try.prog 143 (.agg #[.int .i64 a, .int .i64 b]) = some (faceLit a b) := by
  have h3 : Try.prog.keyType 143 = true := by kernel_rfl
  have c1 : Try.prog.cellsOf 143 = 2 := by kernel_rfl
  have h5 : Try.prog.types.size + 1 = 160 + 1 + 1 := by kernel_rfl
  have h4 := face_lits 160 a b ha hb
  rw [← h5] at h4
  have hf : Value.formed Try.prog 143 (.agg #[.int .i64 a, .int .i64 b]) = true := by
    simp [Value.formed, Try.underlying143, c1]
  simp only [keyOf, Try.underlying143, h3, hf, Bool.and_self, if_true]
  show Option.map _ (Try.prog.keyLits (Try.prog.types.size + 1) 143 [.int .i64 a, .int .i64 b]) = _
  rw [h4]
  rfl
theorem faceLit_inj {p q p' q' : Int} (hp : (Lit.int .i64 p).wf = true) (hq : (Lit.int .i64 q).wf = true) (hp' : (Lit.int .i64 p').wf = true) (hq' : (Lit.int .i64 q').wf = true) (h : faceLit p q = faceLit p' q') : (p, q) = (p', q') := by
  have h1 := face_key p q hp hq
  rw [h] at h1
  have := keyed143.inj h1 (face_key p' q' hp' hq')
  simp at this
  simp [this.1, this.2]
/-- A map of ours: the faces that were met, each with its number. -/
def FaceMap (W : World) (b n : Nat) (M : List (Int × Int)) : Prop :=
  ∃ D : DataW Unit, W.ownsMap Try.prog 143 (plainElem Try.prog 3) b n D ∧ Tidy D ∧ Maps.size D = M.length ∧
    ∀ p q : Int, (Lit.int .i64 p).wf = true → (Lit.int .i64 q).wf = true → Maps.has D (faceLit p q) = M.contains (p, q) ∧ ((p, q) ∈ M → D.atKey (faceLit p q) (.lit (.int .i64 0)) = .lit (.int .i64 ((M.idxOf (p, q) : Nat) : Int)))
theorem FaceMap.made (W : World) : FaceMap (W.alloc (.map #[] 0)) W.heap.size 0 [] :=
  ⟨.map [], World.ownsMap_made W Try.prog 143 (plainElem Try.prog 3), tidy_empty, rfl, fun p q _ _ => ⟨rfl, fun h => by simp at h⟩⟩
theorem FaceMap.new {W W' : World} {b n : Nat} {M : List (Int × Int)} {D : DataW Unit} (hT : Tidy D) (hz : Maps.size D = M.length)
    (hf : ∀ p q : Int, (Lit.int .i64 p).wf = true → (Lit.int .i64 q).wf = true → Maps.has D (faceLit p q) = M.contains (p, q) ∧ ((p, q) ∈ M → D.atKey (faceLit p q) (.lit (.int .i64 0)) = .lit (.int .i64 ((M.idxOf (p, q) : Nat) : Int))))
    {p q : Int} (hp : (Lit.int .i64 p).wf = true) (hq : (Lit.int .i64 q).wf = true) (hn : (p, q) ∉ M) (ho : W'.ownsMap Try.prog 143 (plainElem Try.prog 3) b n (D.put (faceLit p q) (.lit (.int .i64 ((M.length : Nat) : Int))))) :
    FaceMap W' b n (M ++ [(p, q)]) := by
  have hk : WideAt.IsKeyLit (faceLit p q) := keyed143.key (face_key p q hp hq)
  have hh : Maps.has D (faceLit p q) = false := by rw [(hf p q hp hq).1]; simpa using hn
  refine ⟨_, ho, hT.put hk _, ?_, fun p' q' hp' hq' => ?_⟩
  · rw [size_put hT, hh]
    simp [hz]
  · by_cases he : (p', q') = (p, q)
    · cases he
      refine ⟨by rw [has_put_same hT.isMap hk]; simp, fun _ => ?_⟩
      rw [atKey_put_same hT.isMap hk, List.idxOf_append, if_neg hn]
      simp
    · have hne : faceLit p' q' ≠ faceLit p q := fun h => he (faceLit_inj hp' hq' hp hq h)
      refine ⟨?_, fun h => ?_⟩
      · rw [has_put_other hne, (hf p' q' hp' hq').1]
        have : ¬ (p' = p ∧ q' = q) := fun h => he (by rw [h.1, h.2])
        simp [List.contains_append, this]
      · have hm : (p', q') ∈ M := by
          rcases List.mem_append.1 h with h | h
          · exact h
          · exact absurd (List.mem_singleton.1 h) he
        rw [atKey_put_other hne, (hf p' q' hp' hq').2 hm, List.idxOf_append, if_pos hm]
end

end Go.Proofs.Ytelkjbacdpmnfaa.A
