/- Contracts. -/
import Derived.Test.YtelkjbacdpmnfaaB0
import Derived.WalkKit
import Derived.ProofKit
import Derived.OpenShut
import Derived.ShutString
import Derived.ChangeOld
import Derived.SizedLaws
import Derived.Deep.Slices
import Derived.Lib.SmallJoins
import Derived.Test.YtelkjbacdpmnfaaRows









namespace Go.Proofs.Ytelkjbacdpmnfaa.A
open Go.RowKit Go.W_.PrintWords Go.W_.PrintLast Go.W_.PrintMore
attribute [local go_sem] max2_int min2_int max_two min_two max_three min_three max_four min_four
set_option linter.unusedVariables false
set_option linter.unusedSimpArgs false

section
open Go.ChangeShapes Go.WideShapes Go.ChangeAt _root_.Go.Proofs.Ytelkjbacdpmnfaa.Rows
variable {H : Type} {enc : TypeId × Value → H} {W : World} {base : Nat} {held : Bool} {α β : Type}
theorem bulk_one (d : DataW H) : 1 ≤ uptoBulk d := by
 cases d with
 | lit l => cases l <;> simp [uptoBulk]
 | nil => simp [uptoBulk]
 | ptr d => simp [uptoBulk]
 | slice elems spare => simp [uptoBulk]
 | agg parts => simp [uptoBulk]
 | iface t d => simp [uptoBulk]
 | map entries => simp [uptoBulk]
 | held h => simp [uptoBulk]
theorem bulk_part {d : DataW H} {l : List (DataW H)} (h : d ∈ l) : uptoBulk d ≤ uptoBulkAll l := by
 induction l with
 | nil => cases h
 | cons x r ih =>
  simp only [uptoBulkAll]
  cases List.mem_cons.1 h with
  | inl e => subst e; omega
  | inr e => have := ih e; omega
theorem bulk_many {m : Nat} {l : List (DataW H)} (h : ∀ d ∈ l, m ≤ uptoBulk d) : l.length * m ≤ uptoBulkAll l := by
 induction l with
 | nil => simp
 | cons x r ih =>
  simp only [uptoBulkAll, List.length_cons]
  have h1 := h x (by simp)
  have h2 := ih (fun d hd => h d (by simp [hd]))
  rw [Nat.succ_mul]
  omega
def OpensB (enc : TypeId × Value → H) (W : World) (base : Nat) (held : Bool) (D : Kd α) (Wf : α → DataW H → Prop) (t : TypeId) : Prop :=
 ∀ (fuel : Nat) (cs : List Value) (x : DataW H × List MemPlace), DataW.trod enc Try.prog W base (fun _ => true) held fuel t cs = some x → ∃ a, D.K W a cs ∧ Wf a x.1
set_option maxRecDepth 100000 in
theorem opens_edgeB : OpensB enc W base held k82 (fun e d => ((Lit.int .i64 e.f0).wf = true ∧ (Lit.int .i64 e.f1).wf = true) ∧ 3 ≤ uptoBulk d) 82 := by
 intro fuel cs x h
 obtain ⟨y0, y1, n, hx, hl, h0, h1⟩ := trod_struct2 Try.underlying82 h
 have hc : Try.prog.cellsOf 82 = 2 := by kernel_rfl
 have hc3 : Try.prog.cellsOf 3 = 1 := by kernel_rfl
 rw [hc] at hl
 obtain ⟨a, b, rfl⟩ : ∃ a b, cs = [a, b] := by
  match cs, hl with
  | [a, b], _ => exact ⟨a, b, rfl⟩
 rw [hc3] at h0 h1
 obtain ⟨n0, e0, _, w0⟩ := DataW.trod_int Try.underlying3 h0
 obtain ⟨n1, e1, _, w1⟩ := DataW.trod_int Try.underlying3 h1
 simp at e0 e1
 subst e0; subst e1
 refine ⟨⟨n0, n1⟩, k82_mk W ⟨n0, n1⟩, ⟨w0, w1⟩, ?_⟩
 rw [hx]
 have b0 := bulk_one y0.1
 have b1 := bulk_one y1.1
 simp only [uptoBulk, uptoBulkAll]
 omega
theorem opens_sliceB {t e : TypeId} {D : Kd α} {Wf : α → DataW H → Prop} (z : α) (m : Nat) (ht : Try.prog.underlying t = some (.slice e)) (hc : Try.prog.cellsOf e = D.sz) (hD : OpensB enc W base held D Wf e) (hm : ∀ y d, Wf y d → m ≤ uptoBulk d) :
  OpensB enc W base held (Kd.slice e D) (fun l d => (∀ x ∈ l, ∃ dx, Wf x dx ∧ uptoBulk dx ≤ uptoBulk d) ∧ l.length * m ≤ uptoBulk d) t := by
 intro fuel cs x h
 haveI : Inhabited α := ⟨z⟩
 rcases Go.Deep.open_slice ht h with ⟨rfl, _⟩ | ⟨a, len, cap, m', n, Dd, Pl, rfl, hb, hl, hmx, hmm, hxe, hx⟩
 ·exact ⟨[], ⟨none, 0, rfl, Nat.le_refl _, Kd.C_nil D W⟩, by simp, by simp⟩
 ·simp only [if_true] at hmm
  have key : ∀ i, i < len → ∃ y : α, (∃ c : List Value, c.length = D.sz ∧ D.K W y c ∧ ∀ j u, c[j]? = some u → W.cell? (a.add (i * D.sz + j)) = some u) ∧ Wf y (Dd i) := by
   intro i hi
   obtain ⟨cs', h1, h2⟩ := hx i (by omega)
   obtain ⟨y, hK, hW⟩ := hD _ _ _ h2
   obtain ⟨_, hlen, hcell⟩ := World.cells?_some h1
   refine ⟨y, ⟨cs', by rw [hlen, hc], hK, fun j u hu => ?_⟩, hW⟩
   have hj : j < cs'.length := (List.getElem?_eq_some_iff.1 hu).1
   rw [← hu, ← hcell j (by omega), hc, Addr.add_add]
  obtain ⟨f, hf⟩ := Go.Deep.choose_lt key
  have hlm : len ≤ 9223372036854775807 := by simp only [maxLen] at hmx; omega
  have hbx : uptoBulkAll ((List.range len).map Dd) + 1 ≤ uptoBulk x.1 := by
   rw [hxe]
   simp only [uptoBulk]
   omega
  refine ⟨(List.range len).map f, ⟨some a, cap, by simp, by simpa using hl, by simp, by simpa using hlm, fun _ => ⟨a, rfl, fun j p hp => ?_⟩⟩, fun y hy => ?_, ?_⟩
  ·rw [List.getElem?_map] at hp
   obtain ⟨j', hj', rfl⟩ := Option.map_eq_some_iff.1 hp
   obtain ⟨hjl, hje⟩ := List.getElem?_eq_some_iff.1 hj'
   simp at hjl hje
   subst hje
   exact (hf _ hjl).1
  ·obtain ⟨i, hi, rfl⟩ := List.mem_map.1 hy
   have hi := List.mem_range.1 hi
   have h1 := bulk_part (d := Dd i) (l := (List.range len).map Dd) (List.mem_map.2 ⟨i, List.mem_range.2 hi, rfl⟩)
   exact ⟨Dd i, (hf i hi).2, by omega⟩
  ·have h1 := bulk_many (m := m) (l := (List.range len).map Dd) (fun d hd => by
    obtain ⟨i, hi, rfl⟩ := List.mem_map.1 hd
    exact hm _ _ (hf i (List.mem_range.1 hi)).2)
   simp only [List.length_map, List.length_range] at h1 ⊢
   omega
theorem opens_edgesB : OpensB enc W base held (Kd.slice 79 (Kd.slice 82 k82)) (fun l d => ∀ x ∈ l, (∀ e ∈ x, (Lit.int .i64 e.f0).wf = true ∧ (Lit.int .i64 e.f1).wf = true) ∧ x.length * 3 ≤ uptoBulk d) 26 := by
 intro fuel cs x h
 obtain ⟨l, hK, h1, _⟩ := opens_sliceB [] 1 Try.underlying26 (by kernel_rfl) (opens_sliceB z82 3 Try.underlying79 (by kernel_rfl) opens_edgeB (fun _ _ h => h.2)) (fun _ d _ => bulk_one d) fuel cs x h
 refine ⟨l, hK, fun r hr => ?_⟩
 obtain ⟨dx, ⟨h2, h3⟩, h4⟩ := h1 r hr
 refine ⟨fun e he => ?_, by omega⟩
 obtain ⟨de, h5, _⟩ := h2 e he
 exact h5.1
set_option maxRecDepth 100000 in
theorem open_netB {r : Reach} {b0 : Nat} {v : Value} {d : DataW H} {p : List MemPlace} (hv : Value.okWide Try.prog W r b0 28 v) (h : DataW.Trod enc Try.prog W base (fun _ => true) held 28 v d p) :
  ∃ (k : Int) (A1 : Option Addr) (c1 : Nat) (es : List (List S82)), v = .agg #[.int .i64 k, .slice A1 es.length c1] ∧
   (Lit.int .i64 k).wf = true ∧ Kd.C (Kd.slice 82 k82) W A1 es.length es ∧ es.length ≤ c1 ∧ (∀ x ∈ es, ∀ e ∈ x, (Lit.int .i64 e.f0).wf = true ∧ (Lit.int .i64 e.f1).wf = true) ∧ ∀ x ∈ es, x.length * 3 ≤ uptoBulk d := by
 obtain ⟨v0, v1, y0, y1, n, rfl, hd, _, h0, h1⟩ := Go.Joins.open_agg2 Try.underlying28 (by kernel_rfl) (by kernel_rfl) hv h
 obtain ⟨k, e0, _, w0⟩ := DataW.trod_int Try.underlying3 h0
 obtain ⟨es, ⟨A1, c1, e1, l1, r1⟩, w1⟩ := opens_edgesB _ _ _ h1
 simp at e0 e1
 subst e0; subst e1
 refine ⟨k, A1, c1, es, rfl, w0, r1, l1, fun x hx => (w1 x hx).1, fun x hx => Nat.le_trans (w1 x hx).2 ?_⟩
 rw [hd]
 simp only [uptoBulk, uptoBulkAll]
 omega
end

end Go.Proofs.Ytelkjbacdpmnfaa.A
