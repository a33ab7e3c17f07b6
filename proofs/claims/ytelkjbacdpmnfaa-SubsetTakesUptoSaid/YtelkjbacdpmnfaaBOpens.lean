/- Contracts. -/
import Derived.Test.YtelkjbacdpmnfaaB0
import Derived.WalkKit
import Derived.ProofKit
import Derived.OpenShut
import Derived.ShutString
import Derived.ChangeOld
import Derived.SizedLaws
import Derived.Deep.Slices
import Derived.Lib.SmallJoins








namespace Go.Proofs.Ytelkjbacdpmnfaa.A
open Go.RowKit Go.W_.PrintWords Go.W_.PrintLast Go.W_.PrintMore
attribute [local go_sem] max2_int min2_int max_two min_two max_three min_three max_four min_four
set_option linter.unusedVariables false
set_option linter.unusedSimpArgs false

section
open Go.ChangeShapes Go.WideShapes Go.ChangeAt
variable {H : Type} {enc : TypeId × Value → H} {W : World} {base : Nat} {held : Bool} {α β : Type}

/-- What is read as data of a type is a value of a kind. -/
def Opens (enc : TypeId × Value → H) (W : World) (base : Nat) (held : Bool) (D : Kd α) (Wf : α → Prop) (t : TypeId) : Prop :=
 ∀ (fuel : Nat) (cs : List Value) (x : DataW H × List MemPlace), DataW.trod enc Try.prog W base (fun _ => true) held fuel t cs = some x → ∃ a, D.K W a cs ∧ Wf a

theorem opens_int {t : TypeId} {k : IntKind} (ht : Try.prog.underlying t = some (.int k)) : Opens enc W base held (Kd.int k) (fun n => (Lit.int k n).wf = true) t := by
 intro fuel cs x h
 obtain ⟨n, rfl, _, hw⟩ := DataW.trod_int ht h
 exact ⟨n, rfl, hw⟩
theorem opens_slice {t e : TypeId} {D : Kd α} {Wf : α → Prop} (z : α) (ht : Try.prog.underlying t = some (.slice e)) (hc : Try.prog.cellsOf e = D.sz) (hD : Opens enc W base held D Wf e) :
  Opens enc W base held (Kd.slice e D) (fun l => ∀ x ∈ l, Wf x) t := by
 intro fuel cs x h
 haveI : Inhabited α := ⟨z⟩
 rcases Go.Deep.open_slice ht h with ⟨rfl, _⟩ | ⟨a, len, cap, m, n, Dd, Pl, rfl, hb, hl, hm, hmm, _, hx⟩
 ·exact ⟨[], ⟨none, 0, rfl, Nat.le_refl _, Kd.C_nil D W⟩, by simp⟩
 ·simp only [if_true] at hmm
  have key : ∀ i, i < len → ∃ y : α, (∃ c : List Value, c.length = D.sz ∧ D.K W y c ∧ ∀ j u, c[j]? = some u → W.cell? (a.add (i * D.sz + j)) = some u) ∧ Wf y := by
   intro i hi
   obtain ⟨cs', h1, h2⟩ := hx i (by omega)
   obtain ⟨y, hK, hW⟩ := hD _ _ _ h2
   obtain ⟨_, hlen, hcell⟩ := World.cells?_some h1
   refine ⟨y, ⟨cs', by rw [hlen, hc], hK, fun j u hu => ?_⟩, hW⟩
   have hj : j < cs'.length := (List.getElem?_eq_some_iff.1 hu).1
   rw [← hu, ← hcell j (by omega), hc, Addr.add_add]
  obtain ⟨f, hf⟩ := Go.Deep.choose_lt key
  have hlm : len ≤ 9223372036854775807 := by simp only [maxLen] at hm; omega
  refine ⟨(List.range len).map f, ⟨some a, cap, by simp, by simpa using hl, by simp, by simpa using hlm, fun _ => ⟨a, rfl, fun j p hp => ?_⟩⟩, fun y hy => ?_⟩
  ·rw [List.getElem?_map] at hp
   obtain ⟨j', hj', rfl⟩ := Option.map_eq_some_iff.1 hp
   obtain ⟨hjl, hje⟩ := List.getElem?_eq_some_iff.1 hj'
   simp at hjl hje
   subst hje
   exact (hf _ hjl).1
  ·obtain ⟨i, hi, rfl⟩ := List.mem_map.1 hy
   exact (hf i (by simpa using hi)).2

set_option maxRecDepth 100000 in
theorem open_u8s {r : Reach} {b0 : Nat} {v : Value} {d : DataW H} {p : List MemPlace} (hv : Value.okWide Try.prog W r b0 44 v) (h : DataW.Trod enc Try.prog W base (fun _ => true) held 44 v d p) :
  ∃ (A : Option Addr) (c : Nat) (l : List Int), v = .slice A l.length c ∧ Kd.C (Kd.int .u8) W A l.length l ∧ l.length ≤ c ∧ (∀ x ∈ l, (Lit.int .u8 x).wf = true) := by
 obtain ⟨a, len, cap, rfl⟩ := okWide_slice Try.underlying44 hv
 obtain ⟨fuel, hf⟩ := h
 obtain ⟨l, ⟨A, c, e, hl, hr⟩, hw⟩ := opens_slice (0 : Int) Try.underlying44 (by kernel_rfl) (opens_int Try.underlying5) _ _ _ hf
 simp [Value.cells] at e
 obtain ⟨rfl, rfl, rfl⟩ := e
 exact ⟨_, _, l, rfl, hr, hl, hw⟩
end
theorem laidOut : laidOutB Try.prog = true := by kernel_rfl
theorem ownKnob_none : ownKnob Try.prog.godebug = none := by kernel_rfl

end Go.Proofs.Ytelkjbacdpmnfaa.A
