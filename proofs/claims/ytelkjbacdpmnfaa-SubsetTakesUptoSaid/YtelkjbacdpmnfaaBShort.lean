/- Contracts. -/
import Derived.Test.YtelkjbacdpmnfaaB0
import Derived.Test.YtelkjbacdpmnfaaBWordsB

namespace Go.Proofs.Ytelkjbacdpmnfaa.A
open Go.RowKit Go.W_.PrintWords Go.W_.PrintLast Go.W_.PrintMore
attribute [local go_sem] max2_int min2_int max_two min_two max_three min_three max_four min_four
set_option linter.unusedVariables false
set_option linter.unusedSimpArgs false

theorem qb {P Q : Prop} (h : P) (k : P → Q := by intro h_; (with_reducible repeat (first | refine bN ?_ _ | refine bd ?_ | refine bA ?_ _)); exact h_) : Q := k h
theorem qB {P Q : Prop} (h : P) (k : P → Q := by intro h_; repeat (first | (with_reducible first | exact h_ | apply ba | apply pN | apply bD | refine bS ?_ (Q0z.out (by assumption))) | exact h_)) : Q := k h
theorem qd {p : Prop} {i : Decidable p} (h : decide p = true := by first | (with_reducible assumption) | assumption) : p := of_decide_eq_true h
theorem froz3 {W : World} {g t : Nat} {cs : Array Value} (h : W.heap[g]? = some (.cells cs t (0, 0))) : W.frozen? ⟨g, 0, none⟩ = false ∧ W.frozen? ⟨g, 1, none⟩ = false ∧ W.frozen? ⟨g, 2, none⟩ = false := ⟨bf h 0, bf h 1, bf h 2⟩
/-- A region's operations that have run, as bits. -/
def mk (n m : Nat) : Array Bool := ((List.range n).map fun i => m.testBit i).toArray
section
variable {P : Program} {ops : Array Oper} {md : Region.Mode} {Q : Exit → Act → World → Prop} {S : World → Prop} {ds : List Nat} {T : Bool × List (List Nat × List Nat)} {B : List Nat}
theorem tz (i : Nat) (N : Option Tmp) {oi : Oper} {v : Value} {fuel : Nat} {l : Array Bool} {a a' : Act} {w : World} (l' : Array Bool) (hT : rtab md ops = T) (hB : waitsOk T.2 B = true) (hS : S w) (h : wpAnyLast P md ops Q S ds fuel l' a' w)
  (hi : ops[i]? = some oi := by rfl) (hN : oi.dst = N := by rfl) (hc : takeW T B ds l.toList l'.toList i = true := by kernel_rfl) (hQ : ∀ c a w, Q (.panic c) (a.put oi.dst v) w → Q (.panic c) a w := by exact fun _ _ _ h => h)
  (hy : YieldsIf P ops S oi v a := by exact Or.inl ⟨by rfl, by intro w'; (try simp only [and_imp]); intros; go_simp; with_reducible rfl⟩) (ha : a.put N v = a' := by (simp only [Act.put, sA, sB, sC, i64_w, i32_w]; try rfl)) : wpAnyLast P md ops Q S ds (fuel + 1) l a w :=
 take_ l' hi hN (take_ofW hT hB hc) hQ hy hS ha h
theorem pz (i : Nat) (N : Option Tmp) {oi : Oper} {v : Value} {fuel : Nat} {l : Array Bool} {a a' : Act} {w : World} (l' : Array Bool) (hT : rtab md ops = T) (h : wpAnyLast P md ops Q S ds fuel l' a' w)
  (hi : ops[i]? = some oi := by rfl) (hN : oi.dst = N := by rfl) (hc : anyT T l.toList l'.toList i = true := by kernel_rfl) (hQ : ∀ c a w, Q (.panic c) (a.put oi.dst v) w → Q (.panic c) a w := by exact fun _ _ _ h => h)
  (hy : Yields P ops oi v a := by exact Or.inl ⟨by rfl, by intro w'; go_simp; with_reducible rfl⟩) (ha : a.put N v = a' := by (simp only [Act.put, sA, sB, sC, i64_w, i32_w]; try rfl)) : wpAnyLast P md ops Q S ds (fuel + 1) l a w :=
 pure_ l' hi hN (any_of hT hc) hQ hy ha h
theorem oz (i : Nat) (N : Option Tmp) {oi : Oper} {fuel : Nat} {l : Array Bool} {a : Act} {w : World} (l' : Array Bool) (hT : rtab md ops = T)
  (h : ∀ K : Act → World → Prop, Shut (∀ a' w', S w' → (S w' → wpAnyLast P md ops Q S ds fuel l' a' w') → K a' w') → if Region.wanted oi (yielded ops a.tmps) = true then Oper.wp P oi a w K Q else K (a.put N undef) w)
  (hi : ops[i]? = some oi := by rfl) (hN : oi.dst = N := by rfl) (hc : (readyT T.2 l.toList == [i] && l.toList.set i true == l'.toList) = true := by kernel_rfl) (hd : i ∉ ds := by decide) : wpAnyLast P md ops Q S ds (fuel + 1) l a w :=
 one_ l' hi hN (one_of hT hc) hd h
theorem nz {fuel : Nat} {l : Array Bool} {a a' : Act} {w : World} (h : wpAnyLast P md ops Q S ds fuel l a' w) (ha : a = a' := by (show Act.put _ _ _ = _; simp only [Act.put, sA, sB, sC, i64_w, i32_w]; try rfl)) : wpAnyLast P md ops Q S ds fuel l a w := norm_ ha h
theorem gz {oi : Oper} {N : Option Tmp} {a : Act} {w : World} {K : Act → World → Prop} {f : FuncId} {fn : Func} {ars : Array Operand} {ts : Array TypeId} {args : Array Value} (hf : P.funcs[f]? = some fn) (h : Calls P f args w fun e w' => ∃ v, e = .returned v ∧ K (a.put N v) w') (hname : (fn.name == "runtime.NumGoroutine") = false := by kernel_rfl) (hb : fn.body.isSome = true := by rfl)
  (hw : Region.wanted oi (yielded ops a.tmps) = true := by rfl) (hN : oi.dst = N := by rfl) (hop : oi.op = .call { callee := .value (.func f), args := ars, argTypes := ts } := by rfl) (hargs : ars.map a.eval = args := by (simp only [List.map_toArray, List.map_cons, List.map_nil]; rfl)) : if Region.wanted oi (yielded ops a.tmps) = true then Oper.wp P oi a w K Q else K (a.put N undef) w :=
 goes_ hf hname hb args hw hN hop hargs h
end
end Go.Proofs.Ytelkjbacdpmnfaa.A
