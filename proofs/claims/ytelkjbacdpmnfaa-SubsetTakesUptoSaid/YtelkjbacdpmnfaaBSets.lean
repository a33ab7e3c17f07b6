/- Sets of states: what subset's functions do, by hand. -/
import Derived.Test.YtelkjbacdpmnfaaB0
import Derived.Laws.Rows
import Derived.Test.YtelkjbacdpmnfaaBShort
import Derived.Maps.Range
import Derived.Test.YtelkjbacdpmnfaaBPlainAut
import Derived.Test.YtelkjbacdpmnfaaBPlainBase
import Derived.Test.YtelkjbacdpmnfaaBWordsA
import Derived.Test.YtelkjbacdpmnfaaBWordsB
import Derived.Deep.WholeRow
import Derived.Test.YtelkjbacdpmnfaaBPlainGood
import Derived.Test.YtelkjbacdpmnfaaBSubsetTo
import Derived.Test.YtelkjbacdpmnfaaBOpens
import Derived.DeepKeys5
import Derived.Maps.OwnSet
import Derived.Test.YtelkjbacdpmnfaaBProdF
import Derived.Test.YtelkjbacdpmnfaaBThompsonGoodNet
namespace Go.Proofs.Ytelkjbacdpmnfaa.A
open Go.RowKit Go.W_.PrintWords Go.W_.PrintLast Go.W_.PrintMore
attribute [local go_sem] max2_int min2_int max_two min_two max_three min_three max_four min_four
set_option linter.unusedVariables false
set_option linter.unusedSimpArgs false

theorem field38 (a : Int) (A : Option Addr) (n c : Nat) (b : Bool) (W : World) : (Instr.field 38 (.agg #[.int .i64 a, .slice A n c, .bool b]) 0).run Try.prog W = .ok (.agg #[.int .i64 a, .slice A n c]) W := by kernel_rfl

end Go.Proofs.Ytelkjbacdpmnfaa.A
namespace Go.Proofs.Ytelkjbacdpmnfaa.A
open Go.RowKit Go.W_.PrintWords Go.W_.PrintLast Go.W_.PrintMore
attribute [local go_sem] max2_int min2_int max_two min_two max_three min_three max_four min_four
set_option linter.unusedVariables false
set_option linter.unusedSimpArgs false

/-- From x along edges by nothing to y. -/
inductive Leads (nt : Nat → List Nat) : Nat → Nat → Prop
 | here (x : Nat) : Leads nt x x
 | on {x y z : Nat} : Leads nt x y → z ∈ nt y → Leads nt x z
/-- M is all that the states of Q lead to, each once. -/
def Closure (nt : Nat → List Nat) (N : Nat) (Q M : List Nat) : Prop := M.Nodup ∧ (∀ x ∈ M, x < N) ∧ ∀ y, y ∈ M ↔ ∃ x ∈ Q, Leads nt x y
/-- What is still to be gone through, at most. -/
def potE (nt : Nat → List Nat) (M : List Nat) : Nat → Nat
 | 0 => 0
 | n + 1 => potE nt M n + if n ∈ M then 0 else (nt n).length
theorem potE_new {nt : Nat → List Nat} {M : List Nat} {x : Nat} (hx : x ∉ M) : ∀ n, x < n → potE nt (M ++ [x]) n + (nt x).length = potE nt M n
 | 0, h => by omega
 | n + 1, h => by
  by_cases e : x = n
  ·subst e
   have h1 : ∀ m, m ≤ x → potE nt (M ++ [x]) m = potE nt M m := by
    intro m
    induction m with
    | zero => intro _; rfl
    | succ m ih =>
     intro hm
     have h2 := ih (by omega)
     simp only [potE, h2]
     have : (m ∈ M ++ [x]) ↔ m ∈ M := by simp; omega
     simp only [this]
   simp only [potE, h1 x (Nat.le_refl _)]
   have : x ∈ M ++ [x] := by simp
   rw [if_pos this, if_neg hx]
   omega
  ·have h1 := potE_new (nt := nt) hx n (by omega)
   simp only [potE]
   have : (n ∈ M ++ [x]) ↔ n ∈ M := by simp; omega
   simp only [this]
   omega
/-- What stands while the queue is gone through. -/
structure CloseInv (nt : Nat → List Nat) (N : Nat) (Q0 M Q : List Nat) : Prop where
 nodup : M.Nodup
 low : ∀ x ∈ M, x < N
 lowQ : ∀ x ∈ Q, x < N
 from0 : ∀ y, y ∈ M ∨ y ∈ Q → ∃ x ∈ Q0, Leads nt x y
 has : ∀ x ∈ Q0, x ∈ M ∨ x ∈ Q
 shut : ∀ x ∈ M, ∀ y ∈ nt x, y ∈ M ∨ y ∈ Q
theorem CloseInv.start {nt : Nat → List Nat} {N : Nat} {Q0 : List Nat} (h : ∀ x ∈ Q0, x < N) : CloseInv nt N Q0 [] Q0 :=
 ⟨List.nodup_nil, by simp, h, fun y hy => ⟨y, by simpa using hy, .here y⟩, fun x hx => .inr hx, by simp⟩
theorem CloseInv.skip {nt : Nat → List Nat} {N x : Nat} {Q0 M Q : List Nat} (h : CloseInv nt N Q0 M (x :: Q)) (hx : x ∈ M) : CloseInv nt N Q0 M Q := by
 refine ⟨h.nodup, h.low, fun y hy => h.lowQ y (by simp [hy]), fun y hy => h.from0 y (hy.imp id (fun h => by simp [h])), fun y hy => ?_, fun u hu y hy => ?_⟩
 ·rcases h.has y hy with h1 | h1
  ·exact .inl h1
  ·rcases List.mem_cons.1 h1 with rfl | h1
   ·exact .inl hx
   ·exact .inr h1
 ·rcases h.shut u hu y hy with h1 | h1
  ·exact .inl h1
  ·rcases List.mem_cons.1 h1 with rfl | h1
   ·exact .inl hx
   ·exact .inr h1
theorem CloseInv.new {nt : Nat → List Nat} {N x : Nat} {Q0 M Q : List Nat} (h : CloseInv nt N Q0 M (x :: Q)) (hx : x ∉ M) (hnt : ∀ y ∈ nt x, y < N) : CloseInv nt N Q0 (M ++ [x]) (Q ++ nt x) := by
 have hxN : x < N := h.lowQ x (by simp)
 refine ⟨?_, ?_, ?_, ?_, ?_, ?_⟩
 ·rw [List.nodup_append]
  refine ⟨h.nodup, by simp, ?_⟩
  intro a ha b hb
  rw [List.mem_singleton] at hb
  subst hb
  exact fun e => hx (e ▸ ha)
 ·intro y hy
  rcases List.mem_append.1 hy with h1 | h1
  ·exact h.low y h1
  ·rw [List.mem_singleton] at h1
   exact h1 ▸ hxN
 ·intro y hy
  rcases List.mem_append.1 hy with h1 | h1
  ·exact h.lowQ y (by simp [h1])
  ·exact hnt y h1
 ·intro y hy
  simp only [List.mem_append, List.mem_singleton] at hy
  rcases hy with (h1 | rfl) | (h1 | h1)
  ·exact h.from0 y (.inl h1)
  ·exact h.from0 y (.inr (by simp))
  ·exact h.from0 y (.inr (by simp [h1]))
  ·obtain ⟨z, hz, hp⟩ := h.from0 x (.inr (by simp))
   exact ⟨z, hz, .on hp h1⟩
 ·intro y hy
  simp only [List.mem_append, List.mem_singleton]
  rcases h.has y hy with h1 | h1
  ·exact .inl (.inl h1)
  ·rcases List.mem_cons.1 h1 with rfl | h1
   ·exact .inl (.inr rfl)
   ·exact .inr (.inl h1)
 ·intro u hu y hy
  simp only [List.mem_append, List.mem_singleton] at hu ⊢
  rcases hu with h1 | rfl
  ·rcases h.shut u h1 y hy with h2 | h2
   ·exact .inl (.inl h2)
   ·rcases List.mem_cons.1 h2 with rfl | h2
    ·exact .inl (.inr rfl)
    ·exact .inr (.inl h2)
  ·exact .inr (.inr hy)
theorem CloseInv.done {nt : Nat → List Nat} {N : Nat} {Q0 M : List Nat} (h : CloseInv nt N Q0 M []) : Closure nt N Q0 M := by
 refine ⟨h.nodup, h.low, fun y => ⟨fun hy => h.from0 y (.inl hy), ?_⟩⟩
 rintro ⟨x, hx, hp⟩
 induction hp with
 | here => simpa using h.has x hx
 | on h1 h2 ih => simpa using h.shut _ ih _ h2
/-- The states that a row's edges by a letter lead to. -/
def byL (c : Int) (r : List S82) : List Nat := (r.filter (fun e => decide (e.f0 = c))).map fun e => e.f1.toNat
def ntL (L : List (List S82)) (x : Nat) : List Nat := byL (-1) (L.getD x [])
/-- All edges lead to states. -/
def netShut (L : List (List S82)) : Prop := ∀ r ∈ L, ∀ e ∈ r, 0 ≤ e.f1 ∧ e.f1 < (L.length : Int)
theorem byL_snoc (c : Int) (r : List S82) (e : S82) : byL c (r ++ [e]) = byL c r ++ if e.f0 = c then [e.f1.toNat] else [] := by
 unfold byL
 rw [List.filter_append, List.map_append]
 by_cases h : e.f0 = c
 ·rw [if_pos h]; simp [h]
 ·rw [if_neg h]; simp [h]
theorem byL_low {L : List (List S82)} (h : netShut L) {r : List S82} (hr : r ∈ L) (c : Int) : ∀ y ∈ byL c r, y < L.length := by
 intro y hy
 unfold byL at hy
 obtain ⟨e, he, rfl⟩ := List.mem_map.1 hy
 have := h r hr e ((List.mem_filter.1 he).1)
 omega
theorem ntL_low {L : List (List S82)} (h : netShut L) (x : Nat) : ∀ y ∈ ntL L x, y < L.length := by
 intro y hy
 unfold ntL at hy
 by_cases hx : x < L.length
 ·refine byL_low h ?_ _ y hy
  rw [List.getD_eq_getElem?_getD, List.getElem?_eq_getElem hx]
  exact List.getElem_mem hx
 ·rw [List.getD_eq_getElem?_getD, List.getElem?_eq_none (by omega)] at hy
  simp [byL] at hy

end Go.Proofs.Ytelkjbacdpmnfaa.A
namespace Go.Proofs.Ytelkjbacdpmnfaa.A
open Go.RowKit Go.W_.PrintWords Go.W_.PrintLast Go.W_.PrintMore
attribute [local go_sem] max2_int min2_int max_two min_two max_three min_three max_four min_four
set_option linter.unusedVariables false
set_option linter.unusedSimpArgs false

def wsum (f : Nat → Bool) : Nat → Nat
 | 0 => 0
 | n + 1 => wsum f n + if f n = true then 2 ^ n else 0
theorem wsum_lt (f : Nat → Bool) : ∀ n, wsum f n < 2 ^ n
 | 0 => by simp [wsum]
 | n + 1 => by
  have h := wsum_lt f n
  show wsum f n + (if f n = true then 2 ^ n else 0) < 2 ^ (n + 1)
  rw [Nat.pow_succ]
  split <;> omega
theorem wsum_bit (f : Nat → Bool) (i : Nat) : ∀ n, (wsum f n).testBit i = (decide (i < n) && f i)
 | 0 => by simp [wsum]
 | n + 1 => by
  have h := wsum_bit f i n
  have hl := wsum_lt f n
  show (wsum f n + (if f n = true then 2 ^ n else 0)).testBit i = _
  by_cases hf : f n = true
  ·rw [if_pos hf, Nat.add_comm]
   by_cases e : i = n
   ·subst e
    rw [Nat.testBit_two_pow_add_eq, Nat.testBit_lt_two_pow hl]
    simp [hf]
   ·by_cases hi : i < n
    ·rw [Nat.testBit_two_pow_add_gt hi, h]
     have : i < n + 1 := by omega
     simp [hi, this]
    ·rw [Nat.testBit_lt_two_pow (Nat.lt_of_lt_of_le (show 2 ^ n + wsum f n < 2 ^ (n + 1) by rw [Nat.pow_succ]; omega) (Nat.pow_le_pow_right (by decide) (by omega)))]
     have : ¬ i < n + 1 := by omega
     simp [this]
  ·rw [if_neg hf, Nat.add_zero, h]
   by_cases e : i = n
   ·subst e
    simp [hf]
   ·by_cases hi : i < n
    ·have : i < n + 1 := by omega
     simp [hi, this]
    ·have : ¬ i < n + 1 := by omega
     simp [hi, this]
/-- A set's word. -/
def wordM (M : List Nat) (i : Nat) : Nat := wsum (fun b => decide (64 * i + b ∈ M)) 64
theorem wordM_lt (M : List Nat) (i : Nat) : wordM M i < 18446744073709551616 := wsum_lt _ 64
theorem wordM_bit (M : List Nat) (x : Nat) : (wordM M (x / 64)).testBit (x % 64) = decide (x ∈ M) := by
 unfold wordM
 rw [wsum_bit]
 have h : x % 64 < 64 := Nat.mod_lt _ (by decide)
 rw [decide_eq_true h, Bool.true_and, Nat.div_add_mod]
theorem wordM_odd (M : List Nat) (x : Nat) : (wordM M (x / 64) / 2 ^ (x % 64) % 2 = 1) = (x ∈ M) := by
 have h := wordM_bit M x
 rw [Nat.testBit_eq_decide_div_mod_eq] at h
 simpa using h
theorem wordM_snoc (M : List Nat) (x : Nat) : wordM (M ++ [x]) (x / 64) = wordM M (x / 64) ||| 2 ^ (x % 64) := by
 apply Nat.eq_of_testBit_eq
 intro b
 rw [Nat.testBit_or, Nat.testBit_two_pow]
 unfold wordM
 rw [wsum_bit, wsum_bit]
 by_cases hb : b < 64
 ·rw [decide_eq_true hb, Bool.true_and, Bool.true_and, Bool.eq_iff_iff]
  simp only [List.mem_append, List.mem_singleton, decide_eq_true_eq, Bool.or_eq_true]
  have e : 64 * (x / 64) + b = x ↔ x % 64 = b := by omega
  rw [e]
 ·rw [decide_eq_false hb, Bool.false_and, Bool.false_and, Bool.false_or, decide_eq_false (by omega)]
theorem wordM_other (M : List Nat) (x i : Nat) (h : i ≠ x / 64) : wordM (M ++ [x]) i = wordM M i := by
 apply Nat.eq_of_testBit_eq
 intro b
 unfold wordM
 rw [wsum_bit, wsum_bit]
 by_cases hb : b < 64
 ·rw [decide_eq_true hb, Bool.true_and, Bool.true_and, Bool.eq_iff_iff]
  simp only [List.mem_append, List.mem_singleton, decide_eq_true_eq]
  have e : ¬ 64 * i + b = x := by omega
  simp [e]
 ·rw [decide_eq_false hb, Bool.false_and, Bool.false_and]
def setL (M : List Nat) : List Value := (List.range 63).map fun i => .int .u64 ((wordM M i : Nat) : Int)
def setC (M : List Nat) : Array Value := (setL M).toArray
theorem setC_size (M : List Nat) : (setC M).size = 63 := by simp [setC, setL]
theorem setC_at (M : List Nat) {i : Nat} (h : i < 63) : (setC M)[i]? = some (.int .u64 ((wordM M i : Nat) : Int)) := by
 simp only [setC, List.getElem?_toArray]
 unfold setL
 rw [List.getElem?_map, List.getElem?_range h]
 rfl
theorem setC_add (M : List Nat) {x : Nat} (h : x < 4032) : (setC M).setIfInBounds (x / 64) (.int .u64 ((wordM M (x / 64) ||| 2 ^ (x % 64) : Nat) : Int)) = setC (M ++ [x]) := by
 apply Array.ext_getElem?
 intro i
 rw [Array.getElem?_setIfInBounds]
 by_cases e : x / 64 = i
 ·subst e
  rw [if_pos rfl, if_pos (by rw [setC_size]; omega), setC_at _ (by omega), wordM_snoc]
 ·rw [if_neg e]
  by_cases hi : i < 63
  ·rw [setC_at _ hi, setC_at _ hi, wordM_other _ _ _ (fun h => e h.symm)]
  ·rw [Array.getElem?_eq_none (by rw [setC_size]; omega), Array.getElem?_eq_none (by rw [setC_size]; omega)]
/-- Two sets whose words are alike have the same members. -/
theorem setC_inj {M N : List Nat} (h : setC M = setC N) {x : Nat} (hx : x < 4032) : x ∈ M ↔ x ∈ N := by
 have h1 := setC_at M (show x / 64 < 63 by omega)
 rw [h, setC_at N (show x / 64 < 63 by omega)] at h1
 have h2 : wordM N (x / 64) = wordM M (x / 64) := by
  have h3 : ((wordM N (x / 64) : Nat) : Int) = ((wordM M (x / 64) : Nat) : Int) := by simpa using h1
  omega
 rw [← wordM_odd M x, ← wordM_odd N x, h2]
end Go.Proofs.Ytelkjbacdpmnfaa.A
namespace Go.Proofs.Ytelkjbacdpmnfaa.A
open Go.RowKit Go.W_.PrintWords Go.W_.PrintLast Go.W_.PrintMore
attribute [local go_sem] max2_int min2_int max_two min_two max_three min_three max_four min_four
set_option linter.unusedVariables false
set_option linter.unusedSimpArgs false

theorem under113 : Try.prog.underlying 113 = some (.array 63 111) := by kernel_rfl
theorem wraps_i64 (n : Int) (h₀ : 0 ≤ n) (h₁ : n < 2 ^ 63) : IntKind.i64.wrap n = n := by rw [IntKind.wrap_i64]; omega
theorem wraps_u64 (n : Int) (h₀ : 0 ≤ n) (h₁ : n < 2 ^ 64) : IntKind.u64.wrap n = n := by
 have e : IntKind.u64.wrap n = n % 18446744073709551616 := by simp [IntKind.wrap, IntKind.bits, IntKind.signed]
 rw [e]
 omega
theorem bits_one (n : Nat) (h : n < 18446744073709551616) : bits .and .u64 (n : Int) 1 = ((n % 2 : Nat) : Int) := by
 have h1 := bits_mask .u64 64 (by decide) wraps_u64 1 (by decide) (n : Int) (by omega) (by omega)
 exact h1
theorem bits_63 (n : Nat) (h : n < 4611686018427387904) : bits .and .i64 (n : Int) 63 = ((n % 64 : Nat) : Int) := by
 have h1 := bits_mask .i64 63 (by decide) wraps_i64 6 (by decide) (n : Int) (by omega) (by omega)
 exact h1
theorem bits_or64 (a b : Nat) (ha : a < 2 ^ 64) (hb : b < 2 ^ 64) : bits .or .u64 (a : Int) (b : Int) = ((a ||| b : Nat) : Int) := (bits_nat .u64 64 (by decide) wraps_u64 a b ha hb).2
theorem shr_word (n j : Nat) (h : j < 64) : Op.shift .shr .u64 (n : Int) .i64 (j : Int) = pure (.int .u64 ((n / 2 ^ j : Nat) : Int)) := by
 rw [shift_shr .u64 .i64 (n : Int) (j : Int) (by omega) (by show (j : Int) ≤ 64; omega), Int.toNat_natCast]
 congr 2
theorem shl_one (j : Nat) (h : j < 64) : Op.shift .shl .u64 1 .i64 (j : Int) = pure (.int .u64 ((2 ^ j : Nat) : Int)) := by
 rw [shift_shl .u64 .i64 1 (j : Int) (by omega) (by show (j : Int) ≤ 64; omega), Int.toNat_natCast]
 have h1 : (2 : Nat) ^ j < 2 ^ 64 := Nat.pow_lt_pow_right (by decide) h
 congr 2
 rw [Int.one_mul]
 exact wraps_u64 _ (Int.pow_nonneg (by decide)) (by exact_mod_cast h1)
set_option maxHeartbeats 8000000 in
set_option maxRecDepth 100000 in
theorem set_has (g : Nat) (M : List Nat) (x : Nat) (hx : x < 4032) (w : World) (hb : w.heap[g]? = some (.cells (setC M) 113 (0, 0))) :
  Calls Try.prog 104 #[.pointer (some ⟨g, 0, none⟩), .int .i64 (x : Int)] w fun e w' => e = .returned (.bool (decide (x ∈ M))) ∧ w' = w := by
 have hu113 := under113
 obtain ⟨q, hq⟩ : ∃ q, q = x / 64 := ⟨_, rfl⟩
 obtain ⟨j, hj⟩ : ∃ j, j = x % 64 := ⟨_, rfl⟩
 obtain ⟨n0, hn0⟩ : ∃ n, n = wordM M q := ⟨_, rfl⟩
 obtain ⟨n1, hn1⟩ : ∃ n, n = n0 / 2 ^ j := ⟨_, rfl⟩
 obtain ⟨n2, hn2⟩ : ∃ n, n = n1 % 2 := ⟨_, rfl⟩
 obtain ⟨t, ht⟩ : ∃ t, t = decide (x ∈ M) := ⟨_, rfl⟩
 have hl : n0 < 18446744073709551616 := by rw [hn0]; exact wordM_lt _ _
 have hl1 : n1 < 18446744073709551616 := by rw [hn1]; exact Nat.lt_of_le_of_lt (Nat.div_le_self _ _) hl
 have hc : w.cell? ⟨g, q, none⟩ = some (.int .u64 (n0 : Int)) := by
  rw [hn0]
  exact (bcz hb q).trans (setC_at M (by omega))
 have f0 : (x : Int) / 64 = (q : Int) := by omega
 have f0b : x / 64 = q := hq.symm
 have f1 : bits .and .i64 (x : Int) 63 = (j : Int) := by rw [hj]; exact bits_63 x (by omega)
 have f2 : Op.shift .shr .u64 (n0 : Int) .i64 (j : Int) = pure (.int .u64 (n1 : Int)) := by rw [hn1]; exact shr_word n0 j (by omega)
 have f3 : bits .and .u64 (n1 : Int) 1 = (n2 : Int) := by rw [hn2]; exact bits_one n1 hl1
 have f4 : ((n2 : Int) == 1) = t := by
  rw [ht, Bool.eq_iff_iff, decide_eq_true_eq, beq_iff_eq, ← wordM_odd M x, ← hq, ← hj, ← hn0, ← hn1, ← hn2]
  omega
 have f5 : ((n2 : Int) = 1) = (t = true) := by rw [← f4]; simp
 have f6 : decide ((n2 : Int) = 1) = t := by rw [← f4]; rfl
 rw [← ht]
 clear hb hq hj hn0 hn1 hn2 ht
 go_enter Try.func104, Try.ntmps104
 go_wp2
 go_ret
 exact ⟨rfl, rfl⟩

end Go.Proofs.Ytelkjbacdpmnfaa.A
namespace Go.Proofs.Ytelkjbacdpmnfaa.A
open Go.RowKit Go.W_.PrintWords Go.W_.PrintLast Go.W_.PrintMore
attribute [local go_sem] max2_int min2_int max_two min_two max_three min_three max_four min_four
set_option linter.unusedVariables false
set_option linter.unusedSimpArgs false

def addM (M : List Nat) (x : Nat) : List Nat := if x ∈ M then M else M ++ [x]
theorem grownBy_at (W : World) (b i : Nat) (v : Value) : W.grownBy (W.setCell ⟨b, i, none⟩ v) (some b) := ⟨rfl, rfl, rfl, ((Below.refl 0 W).setCell (p := ⟨b, i, none⟩) (Nat.zero_le _) v).size, fun k _ hk => Below.heap_setCell _ _ _ k (fun e => hk (by rw [e]))⟩
def set_add.T3 : Bool × List (List Nat × List Nat) := (true, [([], []), ([], []), ([1], [1]), ([0], [0]), ([3, 2], [2, 3]), ([4], [4]), ([], []), ([6], [6]), ([7], [7]), ([5, 8], [5, 8]), ([0], [0]), ([10, 2, 0, 1, 2, 3, 4, 5, 6, 7, 8, 9], [2, 10]), ([11, 9, 0, 1, 2, 3, 4, 5, 6, 7, 8, 9], [9, 11])])
def set_add.B3 : List Nat := [0, 0, 2, 1, 15, 31, 0, 64, 192, 511, 1, 2047, 4095]
theorem set_add.tab3 : rtab .any (opsOf Try.f121 3) = set_add.T3 := by kernel_rfl
theorem set_add.bits3 : waitsOk set_add.T3.2 set_add.B3 = true := by kernel_rfl
set_option maxHeartbeats 8000000 in
set_option maxRecDepth 100000 in
theorem set_add (g : Nat) (M : List Nat) (x : Nat) (hx : x < 4032) (w : World) (hb : w.heap[g]? = some (.cells (setC M) 113 (0, 0))) :
  Calls Try.prog 121 #[.pointer (some ⟨g, 0, none⟩), .int .i64 (x : Int)] w fun e w' => e = .returned (.bool (!decide (x ∈ M))) ∧ w.grownBy w' (some g) ∧ w'.heap[g]? = some (.cells (setC (addM M x)) 113 (0, 0)) := by
 have hu113 := under113
 have ZH := Q0z.mk (set_has g M x hx w hb)
 by_cases hm : x ∈ M
 ·have hres : addM M x = M := if_pos hm
  rw [hres]
  rw [decide_eq_true hm] at ZH ⊢
  have HB := Q0z.mk hb
  clear hb hres hm
  go_enter Try.func121, Try.ntmps121
  go_wp2_with (first | (go_at_call 104; refine (ZH.1).mono ?_; clear ZH; rintro e w1 ⟨rfl, rfl⟩))
  go_ret
  exact ⟨rfl, World.grownBy.refl _ _, HB.1⟩
 ·have hres : addM M x = M ++ [x] := if_neg hm
  rw [hres]
  rw [decide_eq_false hm] at ZH ⊢
  have hadd := setC_add M hx
  obtain ⟨q, hq⟩ : ∃ q, q = x / 64 := ⟨_, rfl⟩
  obtain ⟨j, hj⟩ : ∃ j, j = x % 64 := ⟨_, rfl⟩
  rw [← hq, ← hj] at hadd
  have hn0l := wordM_lt M q
  have hc : w.cell? ⟨g, q, none⟩ = some (.int .u64 ((wordM M q : Nat) : Int)) := (bcz hb q).trans (setC_at M (by omega))
  generalize wordM M q = n0 at hadd hn0l hc
  obtain ⟨n1, hn1⟩ : ∃ n, n = 2 ^ j := ⟨_, rfl⟩
  obtain ⟨n2, hn2⟩ : ∃ n, n = n0 ||| n1 := ⟨_, rfl⟩
  rw [← hn1, ← hn2] at hadd
  have hn1l : n1 < 2 ^ 64 := by rw [hn1]; exact Nat.pow_lt_pow_right (by decide) (by omega)
  have f0 : (x : Int) / 64 = (q : Int) := by omega
  have f0b : x / 64 = q := hq.symm
  have f1 : bits .and .i64 (x : Int) 63 = (j : Int) := by rw [hj]; exact bits_63 x (by omega)
  have f2 : Op.shift .shl .u64 1 .i64 (j : Int) = pure (.int .u64 (n1 : Int)) := by rw [hn1]; exact shl_one j (by omega)
  have f3 : bits .or .u64 (n0 : Int) (n1 : Int) = (n2 : Int) := by rw [hn2]; exact bits_or64 n0 n1 hn0l hn1l
  have g0 : ((0 : Int) ≤ (q : Int)) = True := eq_true (by omega)
  have g1 : ((q : Int) < 63) = True := eq_true (by omega)
  have HB := Q0z.mk hb
  have HC := Q0z.mk hc
  have HADD := Q0z.mk hadd
  clear hb hc hadd hq hj hn1 hn2 hm hres hn0l hn1l
  go_enter Try.func121, Try.ntmps121
  go_wp2_with (first | (go_at_call 104; refine (ZH.1).mono ?_; clear ZH; rintro e w1 ⟨rfl, rfl⟩))
  refine start_ (n := 13) (S := fun w' => w'.cell? ⟨g, q, none⟩ = some (.int .u64 (n0 : Int))) (ds := [12]) (mk 13 0) (by kernel_rfl) rfl (by kernel_rfl) (HC.1) (fun hHeld => ?_)
  refine with_tabW set_add.tab3 set_add.bits3 (fun HT_ HW_ => ?_)
  have HBd := Q0z.mk (bd HB.1)
  have HCd := Q0z.mk hHeld
  obtain ⟨wd, hwd⟩ : ∃ x, x = w1.drew := ⟨_, rfl⟩
  have HGd : Q0z (w1.grownBy wd (some g)) := ⟨by rw [hwd]; exact ⟨rfl, rfl, rfl, Nat.le_refl _, fun _ _ _ => rfl⟩⟩
  rw [← hwd] at HBd HCd hHeld ⊢
  clear hwd HC
  refine pz 0 (some 8) (mk 13 1) HT_.1 ?_
  refine pz 1 (some 9) (mk 13 3) HT_.1 ?_
  refine pz 2 (some 10) (mk 13 7) HT_.1 ?_
  refine pz 3 (some 11) (mk 13 15) HT_.1 ?_
  refine pz 4 (some 12) (mk 13 31) HT_.1 ?_
  refine pz 6 (some 14) (mk 13 95) HT_.1 ?_
  refine pz 7 (some 15) (mk 13 223) HT_.1 ?_
  refine pz 8 (some 16) (mk 13 479) HT_.1 ?_
  refine pz 10 (some 18) (mk 13 1503) HT_.1 ?_
  refine tz 5 (some 13) (mk 13 1535) HT_.1 HW_.1 hHeld ?_
  refine pz 9 (some 17) (mk 13 2047) HT_.1 ?_
  refine pz 11 (some 19) (mk 13 4095) HT_.1 ?_
  refine last_ (i := 12) (N := none) (mk 13 8191) rfl rfl (one_of HT_.1 (by kernel_rfl)) (by decide) (fun K hK => ?_)
  have hf_ := bf HBd.1 q
  have hc_ := HCd.1
  clear hHeld
  refine skip_ (w1 := ?_) (by rfl) rfl ?_ ?_
  rotate_left
  ·go_simp
   rfl
  refine hK.out _ _ ?_
  clear hK K
  refine done_ (done_of HT_.1 (by kernel_rfl)) ?_
  go_wp2
  go_ret
  exact ⟨rfl, HGd.1.andThen (grownBy_at wd g q _) (fun _ h_ => .inr h_), bp (cs' := setC (M ++ [x])) HBd.1 q _ HADD.1⟩

end Go.Proofs.Ytelkjbacdpmnfaa.A
namespace Go.Proofs.Ytelkjbacdpmnfaa.A
open Go.RowKit Go.W_.PrintWords Go.W_.PrintLast Go.W_.PrintMore
attribute [local go_sem] max2_int min2_int max_two min_two max_three min_three max_four min_four
set_option linter.unusedVariables false
set_option linter.unusedSimpArgs false

theorem info113 : (Try.prog.info? 113).map (fun i => (i.zero, i.size)) = some (some (.agg (setC [])), 63) := by kernel_rfl
theorem setC_one (M : List Nat) : (setC M).all (·.oneCell') = true := by
  rw [Array.all_eq_true_iff_forall_mem]
  intro v hv
  simp only [setC, setL, List.mem_toArray, List.mem_map] at hv
  obtain ⟨i, hi, rfl⟩ := hv
  rfl
theorem grownBy_row (W : World) (g : Nat) (cs : Array Value) : W.grownBy (W.setRow g cs) (some g) := ⟨rfl, rfl, rfl, by simp [World.setRow], fun k _ hne => by
  have h : g ≠ k := fun e => hne (by rw [e])
  simp [World.setRow, Array.getElem?_modify, h]⟩
theorem blk_row {W : World} {g t : Nat} {old : Array Value} (h : W.heap[g]? = some (.cells old t (0, 0))) (cs : Array Value) : (W.setRow g cs).heap[g]? = some (.cells cs t (0, 0)) := by
  simp [World.setRow, Array.getElem?_modify, h]
theorem castQ_slice {W : World} {base : Nat} {ok : Nat → Prop} {v : Value} {Q : List Nat} (h : Kd.Q (Kd.int .i64) 3 W base ok v (castL Q)) : ∃ A c, v = .slice A Q.length c := by
  obtain ⟨A, c, rfl, _⟩ := Kd.Q_slice h
  exact ⟨A, c, by rw [castL_length]⟩
theorem castR_slice {W : World} {base : Nat} {ok : Nat → Prop} {v : Value} {Q : List Nat} (h : Kd.R (Kd.int .i64) 3 W base ok v (castL Q)) : ∃ A c, v = .slice A Q.length c := by
  obtain ⟨A, c, rfl⟩ := Kd.R_slice h
  exact ⟨A, c, by rw [castL_length]⟩
theorem Q_after {α : Type} {d : Kd α} {e base : Nat} {ok : Nat → Prop} {W w1 : World} {u v v1 : Value} {xs : List α} (h : d.Q e W base (fun k => ok k ∧ some k ≠ v.ownBlock) u xs) (hg : W.grownBy w1 v.ownBlock) (hat : v1.ownBlock = v.ownBlock ∨ ∃ b, v1.ownBlock = some b ∧ W.heap.size ≤ b) : d.Q e w1 base (fun k => ok k ∧ some k ≠ v1.ownBlock) u xs := by
  refine Kd.Q_mono (Kd.Q_move (Kd.Q_bound h) (fun k hk => hg.block k hk.2.2.1 hk.1.2)) (fun k hk => ⟨hk.1.1, ?_⟩)
  rcases hat with hat | ⟨b, hb, hle⟩
  · rw [hat]; exact hk.1.2
  · rw [hb]
    intro he
    injection he with he
    have := hk.2.2.1
    omega
theorem own_cut (ad : Addr) (c n m k : Nat) : (Value.slice (if c = 1 then some ad else (some ad).map (·.add (1 * 1))) n m).ownBlock = (Value.slice (some ad) k c).ownBlock := by
  split
  · rfl
  · simp only [Option.map_some, Value.ownBlock]
    unfold Addr.add
    split <;> rfl
theorem Q_fresh {W : World} {base : Nat} {ok : Nat → Prop} {v : Value} {xs : List Int} (h : Kd.Q (Kd.int .i64) 3 W base ok v xs) : ∀ k, W.heap.size ≤ k → some k ≠ v.ownBlock := by
  intro k hk e
  obtain ⟨cells, hc⟩ := Kd.Q_typed h k e.symm
  have := blk_lt hc
  omega
theorem byL_take_le (c : Int) (R : List S82) (i : Nat) : (byL c (R.take i)).length ≤ (byL c R).length := by
  unfold byL
  rw [List.length_map, List.length_map]
  exact ((List.take_sublist i R).filter _).length_le
set_option maxHeartbeats 8000000 in
set_option maxRecDepth 100000 in
theorem subset_closed (C : Nat) (a : Int) (A : Option Addr) (c : Nat) (L : List (List S82)) (v1 : Value) (Q0 : List Nat) (w0 w : World) (hr : Kd.C (Kd.slice 82 k82) w0 A L.length L) (hc : L.length ≤ c) (hw : Below w0.heap.size w0 w) (hQ : Kd.Q (Kd.int .i64) 3 w w0.heap.size (fun _ => True) v1 (castL Q0)) (hs : netShut L) (hN : L.length ≤ 4000) (hq0 : ∀ x ∈ Q0, x < L.length) (hC : Q0.length + potE (ntL L) [] L.length ≤ C) (hC2 : C ≤ 17592186044415) :
  Calls Try.prog 103 #[.agg #[.int .i64 a, .slice A L.length c], v1] w fun e w' => ∃ (M : List Nat) (v2 : Value), e = .returned (.tuple #[.agg (setC M), v2]) ∧ Closure (ntL L) L.length Q0 M ∧ Kd.R (Kd.int .i64) 3 w' w0.heap.size (fun _ => True) v2 (castL M) ∧ Below w0.heap.size w0 w' := by
 have hu28 := Try.underlying28
 have hu45 := Try.underlying45
 have hu26 := Try.underlying26
 have hu79 := Try.underlying79
 have hu82 := Try.underlying82
 have hz113 := (zero_of_info info113).1
 have HR := Q0z.mk hr
 have HW := Q0z.mk hw
 have HQ0 := Q0z.mk hQ
 have HSN := Q0z.mk hs
 have HCC := Q0z.mk hC
 have HZ := Q0z.mk (below_size hw)
 have HI0 := Q0z.mk (CloseInv.start (nt := ntL L) hq0)
 clear hr hw hQ hs hC hq0
 go_enter Try.func103, Try.ntmps103
 go_wp2
 have HB : Q0z (Below w0.heap.size w0 (((w.alloc (.cells #[.int .i64 a, .slice A L.length c] 28)).alloc (.cells (setC []) 113)).alloc (.cells (setC []) 113))) := ⟨bsz HW.1 (ba (ba (ba (Below.refl _ _) _) _) _)⟩
 have H2 : Q0z ((((w.alloc (.cells #[.int .i64 a, .slice A L.length c] 28)).alloc (.cells (setC []) 113)).alloc (.cells (setC []) 113)).heap[w.heap.size]? = some (.cells #[.int .i64 a, .slice A L.length c] 28 (0, 0))) := ⟨bA (bA (bn w _) _) _⟩
 have H4 : Q0z ((((w.alloc (.cells #[.int .i64 a, .slice A L.length c] 28)).alloc (.cells (setC []) 113)).alloc (.cells (setC []) 113)).heap[w.heap.size + 1]? = some (.cells (setC []) 113 (0, 0))) := ⟨bA (new_at _ (by simp)) _⟩
 have H6 : Q0z ((((w.alloc (.cells #[.int .i64 a, .slice A L.length c] 28)).alloc (.cells (setC []) 113)).alloc (.cells (setC []) 113)).heap[w.heap.size + 1 + 1]? = some (.cells (setC []) 113 (0, 0))) := ⟨new_at _ (by simp)⟩
 have HQ : Q0z (Kd.Q (Kd.int .i64) 3 (((w.alloc (.cells #[.int .i64 a, .slice A L.length c] 28)).alloc (.cells (setC []) 113)).alloc (.cells (setC []) 113)) w0.heap.size (fun _ => True) v1 (castL Q0)) := ⟨Kd.Q_alloc (Kd.Q_alloc (Kd.Q_alloc HQ0.1 _) _) _⟩
 generalize (((w.alloc (.cells #[.int .i64 a, .slice A L.length c] 28)).alloc (.cells (setC []) 113)).alloc (.cells (setC []) 113)) = W3 at HB H2 H4 H6 HQ ⊢
 go_loopg [1, 7] C (fun kq v1 v7 wr => ∃ (M Q : List Nat), Q0z (CloseInv (ntL L) L.length Q0 M Q) ∧ Q0z (Q.length + potE (ntL L) M L.length ≤ kq) ∧ Q0z (kq ≤ C) ∧ Q0z (Kd.Q (Kd.int .i64) 3 wr w0.heap.size (fun k => some k ≠ (v7 : Value).ownBlock) v1 (castL Q)) ∧ Q0z (Kd.R (Kd.int .i64) 3 wr w0.heap.size (fun k => some k ≠ (v1 : Value).ownBlock) v7 (castL M)) ∧ Q0z (wr.heap[w.heap.size]? = some (.cells #[.int .i64 a, .slice A L.length c] 28 (0, 0))) ∧ Q0z (wr.heap[w.heap.size + 1]? = some (.cells (setC []) 113 (0, 0))) ∧ Q0z (wr.heap[w.heap.size + 1 + 1]? = some (.cells (setC M) 113 (0, 0))) ∧ Q0z (Below w0.heap.size w0 wr))
 case atStart => exact ⟨[], Q0, HI0, HCC, ⟨Nat.le_refl _⟩, ⟨Kd.Q_mono HQ.1 (fun _ _ => by simp [Value.ownBlock])⟩, ⟨Kd.R_nil _ _ _ _ _⟩, H2, H4, H6, HB⟩
 case round =>
  clear HQ0 HI0 HCC HQ H2 H4 H6 HB
  obtain ⟨M, Q, HI, HP, HK, HQ, HM, H2, H4, H6, HB⟩ := hrel
  obtain ⟨wq, rfl⟩ : ∃ wq, wq = wr := ⟨wr, rfl⟩
  obtain ⟨A1, c1, rfl⟩ := castQ_slice HQ.1
  obtain ⟨A7, c7, rfl⟩ := castR_slice HM.1
  have HZ2 : Q0z (w.heap.size ≤ wq.heap.size) := ⟨by have h_ := blk_lt H2.1; omega⟩
  cases Q with
  | nil =>
   have q1_ : (([] : List Nat).length : Int) = 0 := rfl
   go_wp2_with (first | ((with_reducible refine gate_dst (N := 45) rfl ?_); refine wpList_load_row rfl 113 (.tmp 6) rfl (w.heap.size + 1 + 1) rfl 113 (setC M) (0, 0) _ H6.1 under113 rfl (by rw [setC_size]; exact (zero_of_info info113).2) ?_) | ((with_reducible refine gate_store (t := 113) (p := 4) rfl ?_); refine wpList_store_row rfl 113 (.tmp 4) (.tmp 45) rfl (w.heap.size + 1) (setC M) rfl rfl 113 (setC []) H4.1 (by rw [setC_size]; exact (zero_of_info info113).2) (by rw [setC_size, setC_size]) (setC_one M) ?_))
   have hrow := blk_row H4.1 (setC M)
   refine bodyPost_ret (results_ct (by rfl) _ _ (w.heap.size + 1) 113 (setC M) (0, 0) _ (by rfl) hrow under113 (by rfl) (by rw [setC_size]; exact (zero_of_info info113).2)) (by rfl) ?_
   exact ⟨M, _, rfl, HI.1.done, Kd.R_mono (Kd.R_over' (v := .slice (some ⟨w.heap.size + 1, 0, none⟩) 0 0) HM.1 (fun k hk => by cases hk; exact ⟨_, H4.1⟩) (by decide) (grownBy_row _ _ _)) (fun _ _ => trivial), Below.grown HB.1 (grownBy_row wq (w.heap.size + 1) (setC M)) (below_size HB.1) (fun k_ e_ => by cases e_; have h_ := HZ.1; omega)⟩
  | cons x Q =>
   have hxN : x < L.length := HI.1.lowQ x (by simp)
   have hx4 : x < 4032 := by omega
   obtain ⟨ad1, e_, hx_⟩ := Kd.at_int (Kd.Q_reads' HQ.1).2.2 0 (by omega) (by simp [castL])
   cases e_
   rw [show rd (castL (x :: Q)) 0 = (x : Int) from rfl, show (0 : Int).toNat = 0 from rfl, Addr.add_zero'] at hx_
   obtain ⟨A2, hA2⟩ : ∃ A2, A2 = (if c1 = 1 then some ad1 else (some ad1).map (·.add (1 * 1))) := ⟨_, rfl⟩
   obtain ⟨i03, hi03, _, hsz3, _⟩ := info_parts info3
   have hdr := Kd.Q_drop (k := 1) HQ.1 (by simp [castL])
   have hdr2 : Kd.Q (Kd.int .i64) 3 wq w0.heap.size (fun k => some k ≠ (Value.slice A7 M.length c7).ownBlock) (.slice A2 Q.length (c1 - 1)) (castL Q) := by rw [hA2]; exact hdr
   have hcut := cut_from (P := Try.prog) 45 3 .i64 Try.underlying45 hi03 1 hsz3 (some ad1) (x :: Q).length c1 1 (by omega) (by simp only [List.length_cons]; omega)
   have hcut2 : ∀ W : World, (Instr.slice 45 (.slice (some ad1) (x :: Q).length c1) (some (.int .i64 1)) none none).run Try.prog W = .ok (.slice A2 Q.length (c1 - 1)) W := by intro W; rw [hA2]; exact hcut W
   clear hcut hdr hi03 hsz3
   have HQ2 := Q0z.mk hdr2
   clear hdr2
   have HNE : Q0z (∀ k, some k ≠ (Value.slice (some ad1) (x :: Q).length c1).ownBlock → some k ≠ (Value.slice A2 Q.length (c1 - 1)).ownBlock) := ⟨fun k_ h_ e_ => h_ (e_.trans (by rw [hA2]; exact own_cut ad1 c1 _ _ _))⟩
   clear hA2
   obtain ⟨n1, hn1⟩ : ∃ n, n = (x :: Q).length := ⟨_, rfl⟩
   have hn1p : 0 < n1 := by rw [hn1]; simp
   rw [← hn1] at hcut2 ⊢
   have HN1 := Q0z.mk hn1
   clear hn1
   have q1_ : ((n1 : Int) > 0) = True := eq_true (by omega)
   have q2_ : decide ((n1 : Int) > 0) = true := decide_eq_true (by omega)
   have q3_ : ((0 : Int) < (n1 : Int)) = True := eq_true (by omega)
   have q4_ : decide ((0 : Int) < (n1 : Int)) = true := decide_eq_true (by omega)
   have q5_ : (0 < n1) = True := eq_true hn1p
   have ZA := Q0z.mk (set_add (w.heap.size + 1 + 1) M x hx4 wq H6.1)
   by_cases hm : x ∈ M
   ·have hd : decide (x ∈ M) = true := decide_eq_true hm
    rw [hd] at ZA
    have hres : addM M x = M := if_pos hm
    have HRES := Q0z.mk hres
    have HM_ := Q0z.mk hm
    clear hd hm hres
    go_wp2_with (first | (go_at_call 121; have hF_ := ZA.1; clear ZA; (try clear hx_); refine hF_.mono ?_; clear hF_; rintro e w1 ⟨rfl, hg_, hb_⟩; have H6a := Q0z.mk hb_; have HG1 := Q0z.mk hg_; clear hb_ hg_))
    rw [HRES.1] at H6a
    have HQ3 := Q0z.mk (Kd.Q_over' (v := .slice (some ⟨w.heap.size + 1 + 1, 0, none⟩) 0 0) HQ2.1 (fun k hk => by cases hk; exact ⟨_, H6.1⟩) (by decide) HG1.1)
    have HM3 := Q0z.mk (Kd.R_over' (v := .slice (some ⟨w.heap.size + 1 + 1, 0, none⟩) 0 0) HM.1 (fun k hk => by cases hk; exact ⟨_, H6.1⟩) (by decide) HG1.1)
    have H2a := Q0z.mk (bG H2.1 HG1.1 (by simp; omega))
    have H4a := Q0z.mk (bG H4.1 HG1.1 (by simp))
    have HB3 := Q0z.mk (Below.grown HB.1 HG1.1 (below_size HB.1) (fun k_ e_ => by cases e_; have h_ := HZ.1; omega))
    have HZ3 : Q0z (w.heap.size ≤ w1.heap.size) := ⟨by have h_ := HZ2.1; have h2_ := HG1.1.size; omega⟩
    go_roundg (gk - 1)
    case measure => have h_ := HP.1; simp only [List.length_cons] at h_; omega
    case rel => exact ⟨M, Q, ⟨HI.1.skip HM_.1⟩, ⟨by have h_ := HP.1; simp only [List.length_cons] at h_; omega⟩, ⟨by have h_ := HK.1; omega⟩, HQ3, ⟨Kd.R_mono HM3.1 (fun k_ hk_ => HNE.1 k_ hk_)⟩, H2a, H4a, H6a, HB3⟩
   ·have hd : decide (x ∈ M) = false := decide_eq_false hm
    rw [hd] at ZA
    have hres : addM M x = M ++ [x] := if_neg hm
    have HRES := Q0z.mk hres
    have HM_ := Q0z.mk hm
    clear hd hm hres
    have HML : Q0z (M.length ≤ 4000) := ⟨Nat.le_trans (nodup_bound L.length M HI.1.nodup HI.1.low) hN⟩
    obtain ⟨adL, Ar, cr, e_, hxr_, hrc_, hCr_⟩ := at_L2 HR.1 (x : Int) (by omega) (by omega)
    cases e_
    obtain ⟨R, hR⟩ : ∃ R, R = L.getD x [] := ⟨_, rfl⟩
    rw [show rd_L2 L (x : Int) = R by rw [hR]; rfl, Int.toNat_natCast] at hxr_
    rw [show rd_L2 L (x : Int) = R by rw [hR]; rfl] at hCr_ hrc_
    have HXR := Q0z.mk hxr_
    have HCR := Q0z.mk hCr_
    have hRm : R ∈ L := by rw [hR, List.getD_eq_getElem?_getD, List.getElem?_eq_getElem hxN]; exact List.getElem_mem hxN
    have HNT : Q0z (ntL L x = byL (-1) R) := ⟨by rw [hR]; rfl⟩
    have HRM := Q0z.mk hRm
    have hRl : R.length ≤ 9223372036854775807 := hCr_.2.1
    clear hxr_ hCr_ hrc_ hR hRm
    have z1_ : ((0 : Int) ≤ (x : Int)) = True := eq_true (by omega)
    have z2_ : ((x : Int) < (L.length : Int)) = True := eq_true (by omega)
    have HPE : Q0z ((ntL L x).length + potE (ntL L) (M ++ [x]) L.length = potE (ntL L) M L.length) := ⟨by have h_ := potE_new (nt := ntL L) HM_.1 L.length hxN; omega⟩
    go_wp2_with (first | (go_at_call 121; have hF_ := ZA.1; clear ZA; (try clear hx_); refine hF_.mono ?_; clear hF_; rintro e w1 ⟨rfl, hg_, hb_⟩; have H6a := Q0z.mk hb_; have HG1 := Q0z.mk hg_; clear hb_ hg_; rw [HRES.1] at H6a; have HQ3 := Q0z.mk (Kd.Q_over' (v := .slice (some ⟨w.heap.size + 1 + 1, 0, none⟩) 0 0) HQ2.1 (fun k hk => by cases hk; exact ⟨_, H6.1⟩) (by decide) HG1.1); have HM3 := Q0z.mk (Kd.R_over' (v := .slice (some ⟨w.heap.size + 1 + 1, 0, none⟩) 0 0) HM.1 (fun k hk => by cases hk; exact ⟨_, H6.1⟩) (by decide) HG1.1); have H2a := Q0z.mk (bG H2.1 HG1.1 (by simp; omega)); have H4a := Q0z.mk (bG H4.1 HG1.1 (by simp)); have HB3 := Q0z.mk (Below.grown HB.1 HG1.1 (below_size HB.1) (fun k_ e_ => by cases e_; have h_ := HZ.1; omega)); have HZ3 : Q0z (w.heap.size ≤ w1.heap.size) := ⟨by have h_ := HZ2.1; have h2_ := HG1.1.size; omega⟩) | ((with_reducible refine gate_builtin (b := .append) (xs := #[.tmp 22, .tmp 24]) rfl ?_); at_builtin; refine Kd.R_append (Kd.int .i64) (w0 := w0) w0.heap.size rfl (.tmp 22) (.tmp 24) 45 3 (.int .i64 0) 8 rfl Try.underlying45 info3 rfl (by decide) (by omega) (.slice A7 M.length c7) (castL M) (x : Int) [.int .i64 (x : Int)] (fun k => some k ≠ (Value.slice A2 Q.length (c1 - 1)).ownBlock) (fun _ => False) rfl rfl ?aP (fun _ hk => hk.elim) ?aF ?aO ?aB ?aS ?aL ?_; (case aP => exact rfl); (case aB => exact HB3.1); (case aF => exact Q_fresh HQ3.1); (case aO => exact Kd.R_mono HM3.1 (fun k_ hk_ => HNE.1 k_ hk_)); (case aS => exact below_size HB3.1); (case aL => have h_ := HML.1; rw [castL_length]; omega); intro v7 w2 ho hb hg hat; rw [← castL_snoc] at ho; have HM4 := Q0z.mk ho; have HB4 := Q0z.mk hb; have HQ4 := Q0z.mk (Q_after (ok := fun _ => True) (Kd.Q_mono HQ3.1 (fun _ h_ => ⟨trivial, h_⟩)) hg hat); have H2b := Q0z.mk (bG H2a.1 hg (Kd.R_ne HM3.1 H2a.1 (by decide))); have H4b := Q0z.mk (bG H4a.1 hg (Kd.R_ne HM3.1 H4a.1 (by decide))); have H6b := Q0z.mk (bG H6a.1 hg (Kd.R_ne HM3.1 H6a.1 (by decide))); clear ho hb hg hat; have c2_ : w2.cell? ⟨w.heap.size, 1, none⟩ = some (.slice (some adL) L.length c) := (cells2 H2b.1).2; have cr_ := (HB4.1.cell (World.block_lt_of_cell? _ _ HXR.1)).trans HXR.1))
    clear c2_ cr_ z1_ z2_ hcut2 q1_ q2_ q3_ q4_ q5_
    go_loopw [1, 32] (fun v1 v32 wr => ∃ i : Nat, i ≤ R.length ∧ v32 = .int .i64 (i : Int) ∧ Q0z (Kd.Q (Kd.int .i64) 3 wr w0.heap.size (fun k => some k ≠ (v7 : Value).ownBlock) v1 (castL (Q ++ byL (-1) (R.take i)))) ∧ Q0z (Kd.R (Kd.int .i64) 3 wr w0.heap.size (fun k => some k ≠ (v1 : Value).ownBlock) v7 (castL (M ++ [x]))) ∧ Q0z (wr.heap[w.heap.size]? = some (.cells #[.int .i64 a, .slice (some adL) L.length c] 28 (0, 0))) ∧ Q0z (wr.heap[w.heap.size + 1]? = some (.cells (setC []) 113 (0, 0))) ∧ Q0z (wr.heap[w.heap.size + 1 + 1]? = some (.cells (setC (M ++ [x])) 113 (0, 0))) ∧ Q0z (Below w0.heap.size w0 wr)) (fun _ v32 _ => R.length - (intOf v32).toNat)
    case atStart => exact ⟨0, Nat.zero_le _, rfl, ⟨by rw [List.take_zero, show byL (-1) [] = [] from rfl, List.append_nil]; exact Kd.Q_mono HQ4.1 (fun _ h_ => h_.2)⟩, HM4, H2b, H4b, H6b, HB4⟩
    case round =>
     clear HQ4 HM4 H2b H4b H6b HB4
     obtain ⟨i, hi, rfl, HQ4, HM4, H2b, H4b, H6b, HB4⟩ := hrel
     obtain ⟨wk, rfl⟩ : ∃ wk, wk = wr := ⟨wr, rfl⟩
     obtain ⟨QQ, hQQ⟩ : ∃ q, q = Q ++ byL (-1) (R.take i) := ⟨_, rfl⟩
     rw [← hQQ] at HQ4
     have HQL : Q0z (QQ.length ≤ 17592186044414) := ⟨by have h1_ := HP.1; have h2_ := HPE.1; have h3_ := HK.1; have h4_ := byL_take_le (-1) R i; rw [HNT.1] at h2_; rw [hQQ, List.length_append]; simp only [List.length_cons] at h1_; omega⟩
     have HQQ := Q0z.mk hQQ
     clear hQQ
     obtain ⟨A3, c3, rfl⟩ := castQ_slice HQ4.1
     by_cases hlt : i < R.length
     ·obtain ⟨adE, e_, hx0_, hx1_⟩ := at_T82 HCR.1 (i : Int) (by omega) (by omega)
      cases e_
      rw [Int.toNat_natCast] at hx0_ hx1_
      obtain ⟨e, he⟩ : ∃ e, R[i]? = some e := ⟨_, List.getElem?_eq_getElem hlt⟩
      have hrd : rd_T82 R (i : Int) = e := by unfold rd_T82; rw [Int.toNat_natCast, List.getD_eq_getElem?_getD, he]; rfl
      rw [hrd] at hx0_ hx1_
      have hsn := HSN.1 R HRM.1 e (List.mem_of_getElem? he)
      obtain ⟨t, ht⟩ : ∃ t : Nat, e.f1 = (t : Int) := ⟨e.f1.toNat, by omega⟩
      rw [ht] at hx1_
      have HTK : Q0z (byL (-1) (R.take (i + 1)) = byL (-1) (R.take i) ++ if e.f0 = -1 then [t] else []) := ⟨by rw [List.take_add_one, he, show (some e).toList = [e] from rfl, byL_snoc, ht, Int.toNat_natCast]⟩
      obtain ⟨f, hf⟩ : ∃ f, f = e.f0 := ⟨_, rfl⟩
      rw [← hf] at hx0_ HTK
      clear hf he hrd hsn ht
      have hx0 := (HB4.1.cell (World.block_lt_of_cell? _ _ hx0_)).trans hx0_
      have hx1 := (HB4.1.cell (World.block_lt_of_cell? _ _ hx1_)).trans hx1_
      clear hx0_ hx1_
      have z1_ : ((0 : Int) ≤ (i : Int)) = True := eq_true (by omega)
      have z2_ : ((i : Int) < (R.length : Int)) = True := eq_true (by omega)
      have z3_ : decide ((i : Int) < (R.length : Int)) = true := decide_eq_true (by omega)
      by_cases hf : f = -1
      ·subst hf
       have HQ5 := Q0z.mk (Kd.Q_alloc HQ4.1 (.cells #[.int .i64 (-1), .int .i64 (t : Int)] 82))
       have HM5 := Q0z.mk (Kd.R_alloc HM4.1 (.cells #[.int .i64 (-1), .int .i64 (t : Int)] 82))
       have H2c := Q0z.mk (bA H2b.1 (.cells #[.int .i64 (-1), .int .i64 (t : Int)] 82))
       have H4c := Q0z.mk (bA H4b.1 (.cells #[.int .i64 (-1), .int .i64 (t : Int)] 82))
       have H6c := Q0z.mk (bA H6b.1 (.cells #[.int .i64 (-1), .int .i64 (t : Int)] 82))
       have HB5 := Q0z.mk (ba HB4.1 (.cells #[.int .i64 (-1), .int .i64 (t : Int)] 82))
       obtain ⟨n0_, n1_⟩ := cells2 (bn wk (.cells #[.int .i64 (-1), .int .i64 (t : Int)] 82))
       go_wp2_with (first | ((with_reducible refine gate_builtin (b := .append) (xs := #[.tmp 39, .tmp 42]) rfl ?_); at_builtin; refine Kd.Q_append (Kd.int .i64) (w0 := w0) w0.heap.size rfl (.tmp 39) (.tmp 42) 45 3 (.int .i64 0) 8 rfl Try.underlying45 info3 rfl (by decide) (by omega) (.slice A3 QQ.length c3) (castL QQ) (t : Int) [.int .i64 (t : Int)] (fun k => some k ≠ (v7 : Value).ownBlock) (fun _ => False) rfl (by first | rfl | (rw [World.size_alloc]; rfl)) ?aP (fun _ hk => hk.elim) ?aF ?aO ?aB ?aS ?aL ?_; (case aP => exact rfl); (case aB => exact HB5.1); (case aF => exact (fun k_ hk_ => Kd.fresh' (Kd.R_lt HM5.1) k_ hk_)); (case aO => exact HQ5.1); (case aS => exact below_size HB5.1); (case aL => have h_ := HQL.1; rw [castL_length]; omega); intro v1n w9 ho hb hg hat; rw [← castL_snoc] at ho; have HQ6 := Q0z.mk ho; have HB6 := Q0z.mk hb; have HM6 := Q0z.mk (Kd.R_after (ok := fun _ => True) (Kd.R_mono HM5.1 (fun _ h_ => ⟨trivial, h_⟩)) hg hat); have H2d := Q0z.mk (bG H2c.1 hg (Kd.Q_ne HQ5.1 H2c.1 (by decide))); have H4d := Q0z.mk (bG H4c.1 hg (Kd.Q_ne HQ5.1 H4c.1 (by decide))); have H6d := Q0z.mk (bG H6c.1 hg (Kd.Q_ne HQ5.1 H6c.1 (by decide))); clear ho hb hg hat n0_ n1_))
       go_roundw
       case rel => exact ⟨i + 1, by omega, by go_num, ⟨by rw [HTK.1, if_pos rfl, ← List.append_assoc, ← HQQ.1]; exact HQ6.1⟩, ⟨Kd.R_mono HM6.1 (fun _ h_ => h_.2)⟩, H2d, H4d, H6d, HB6⟩
       case measure => simp [intOf]; omega
      ·have e0_ : (f == -1) = false := beq_eq_false_iff_ne.mpr hf
       have e1_ : (f = -1) = False := eq_false hf
       have HF := Q0z.mk hf
       clear hf
       have HQ5 := Q0z.mk (Kd.Q_alloc HQ4.1 (.cells #[.int .i64 f, .int .i64 (t : Int)] 82))
       have HM5 := Q0z.mk (Kd.R_alloc HM4.1 (.cells #[.int .i64 f, .int .i64 (t : Int)] 82))
       have H2c := Q0z.mk (bA H2b.1 (.cells #[.int .i64 f, .int .i64 (t : Int)] 82))
       have H4c := Q0z.mk (bA H4b.1 (.cells #[.int .i64 f, .int .i64 (t : Int)] 82))
       have H6c := Q0z.mk (bA H6b.1 (.cells #[.int .i64 f, .int .i64 (t : Int)] 82))
       have HB5 := Q0z.mk (ba HB4.1 (.cells #[.int .i64 f, .int .i64 (t : Int)] 82))
       obtain ⟨n0_, n1_⟩ := cells2 (bn wk (.cells #[.int .i64 f, .int .i64 (t : Int)] 82))
       go_wp2
       go_roundw
       case rel => exact ⟨i + 1, by omega, by go_num, ⟨by rw [HTK.1, if_neg HF.1, List.append_nil, ← HQQ.1]; exact HQ5.1⟩, HM5, H2c, H4c, H6c, HB5⟩
       case measure => simp [intOf]; omega
     ·have z3_ : decide ((i : Int) < (R.length : Int)) = false := decide_eq_false (by omega)
      have z4_ : (i < R.length) = False := eq_false (by omega)
      have hiR : i = R.length := by omega
      have hQF : QQ = Q ++ ntL L x := by rw [HQQ.1, HNT.1, hiR, List.take_length]
      have HQF := Q0z.mk hQF
      clear hQF
      have HIR := Q0z.mk hiR
      clear hiR
      go_wp2
      go_roundg (gk - 1)
      case measure => have h_ := HP.1; simp only [List.length_cons] at h_; omega
      case rel => exact ⟨M ++ [x], QQ, ⟨by rw [HQF.1]; exact HI.1.new HM_.1 (ntL_low HSN.1 x)⟩, ⟨by have h_ := HP.1; have h2_ := HPE.1; rw [HQF.1, List.length_append]; simp only [List.length_cons] at h_; omega⟩, ⟨by have h_ := HK.1; omega⟩, HQ4, HM4, H2b, H4b, H6b, HB4⟩

end Go.Proofs.Ytelkjbacdpmnfaa.A
namespace Go.Proofs.Ytelkjbacdpmnfaa.A
open Go.RowKit Go.W_.PrintWords Go.W_.PrintLast Go.W_.PrintMore
attribute [local go_sem] max2_int min2_int max_two min_two max_three min_three max_four min_four
set_option linter.unusedVariables false
set_option linter.unusedSimpArgs false

def toL (L : List (List S82)) (xs : List Nat) (c : Int) : List Nat := xs.flatMap fun x => byL c (L.getD x [])
theorem ev_to_row {L : List (List S82)} {xs : List Nat} {c a : Int} {acc : List Nat} {i x : Nat} {R : List S82} (hs : ∀ e ∈ R, 0 ≤ e.f1) (hR : R.length ≤ 4000000000000000000) (hb : acc.length + (byL c R).length ≤ 17592186044414)
  {r : List Int} (hnext : Ev (fun k => subset_to.l0 k c (castL (acc ++ byL c R)) (castL xs) (xs.length : Int) (wrap64 ((i : Int) + 1)) a L) r) :
  ∀ (d j : Nat), j + d = R.length → Ev (fun k => subset_to.l1 k c (castL (acc ++ byL c (R.take j))) (castL xs) (xs.length : Int) (i : Int) R (R.length : Int) (j : Int) a L) r := by
 intro d
 induction d with
 | zero =>
  intro j hj
  obtain rfl : j = R.length := by omega
  rw [List.take_length]
  refine Ev.step (fun k => ?_) hnext
  simp only [subset_to.l1]
  rw [if_neg (by omega)]
 | succ d ih =>
  intro j hj
  have hih := ih (j + 1) (by omega)
  have hjl : j < R.length := by omega
  obtain ⟨e, he⟩ : ∃ e, R[j]? = some e := ⟨_, List.getElem?_eq_getElem hjl⟩
  have h0 := hs e (List.mem_of_getElem? he)
  have hl := byL_take_le c R j
  have hrd : rd_T82 R (j : Int) = e := by unfold rd_T82; rw [Int.toNat_natCast, List.getD_eq_getElem?_getD, he]; rfl
  rw [List.take_add_one, he, show (some e).toList = [e] from rfl, byL_snoc] at hih
  refine Ev.step (fun k => ?_) hih
  simp only [subset_to.l1, hrd]
  rw [if_pos (by omega), if_pos (by omega), if_pos (by omega)]
  by_cases hc : e.f0 = c
  ·rw [if_pos hc, if_pos (by rw [castL_length, List.length_append]; omega), if_pos hc, ← List.append_assoc, castL_snoc, wadd (by omega) (by omega), Int.toNat_of_nonneg h0]
   rfl
  ·rw [if_neg hc, if_neg hc, List.append_nil, wadd (by omega) (by omega)]
   rfl
theorem toL_snoc (L : List (List S82)) (xs : List Nat) (x : Nat) (c : Int) : toL L (xs ++ [x]) c = toL L xs c ++ byL c (L.getD x []) := by
 unfold toL
 rw [List.flatMap_append]
 simp
theorem mem_toL {L : List (List S82)} {xs : List Nat} {c : Int} {y : Nat} : y ∈ toL L xs c ↔ ∃ x ∈ xs, y ∈ byL c (L.getD x []) := by
 unfold toL
 rw [List.mem_flatMap]
theorem ev_to {L : List (List S82)} {xs : List Nat} {c a : Int} (hs : netShut L) (hR : ∀ r ∈ L, r.length ≤ 4000000000000000000) (hx : ∀ x ∈ xs, x < L.length) (hl : xs.length ≤ 1000000) (hL : L.length ≤ 1000000) (hb : (toL L xs c).length ≤ 17592186044414) : Ev (fun k => subset_to.f k a L (castL xs) c) (castL (toL L xs c)) := by
 have key : ∀ (d i : Nat), i + d = xs.length → Ev (fun k => subset_to.l0 k c (castL (toL L (xs.take i) c)) (castL xs) (xs.length : Int) (i : Int) a L) (castL (toL L xs c)) := by
  intro d
  induction d with
  | zero =>
   intro i hi
   obtain rfl : i = xs.length := by omega
   rw [List.take_length]
   refine ⟨1, fun k hk => ?_⟩
   obtain ⟨k, rfl⟩ : ∃ q, k = q + 1 := ⟨k - 1, by omega⟩
   simp only [subset_to.l0]
   rw [if_neg (by omega)]
  | succ d ih =>
   intro i hi
   have hil : i < xs.length := by omega
   have hih := ih (i + 1) (by omega)
   obtain ⟨x, hxe⟩ : ∃ x, xs[i]? = some x := ⟨_, List.getElem?_eq_getElem hil⟩
   have hxL := hx x (List.mem_of_getElem? hxe)
   have htk : xs.take (i + 1) = xs.take i ++ [x] := by rw [List.take_add_one, hxe]; rfl
   have hlen : (toL L (xs.take (i + 1)) c).length ≤ (toL L xs c).length := by
    have e : toL L xs c = toL L (xs.take (i + 1)) c ++ toL L (xs.drop (i + 1)) c := by
     conv => lhs; rw [← List.take_append_drop (i + 1) xs]
     unfold toL
     rw [List.flatMap_append]
    rw [e, List.length_append]
    omega
   rw [htk, toL_snoc] at hih hlen
   rw [List.length_append] at hlen
   have hRm : L.getD x [] ∈ L := by
    rw [List.getD_eq_getElem?_getD, List.getElem?_eq_getElem hxL]
    exact List.getElem_mem hxL
   have hrow := ev_to_row (L := L) (xs := xs) (c := c) (a := a) (acc := toL L (xs.take i) c) (i := i) (x := x) (R := L.getD x []) (fun e he => (hs _ hRm e he).1) (hR _ hRm) (by omega) (r := castL (toL L xs c)) (by rw [wadd (by omega) (by omega), nat_succ_cast]; exact hih) (L.getD x []).length 0 (by omega)
   rw [List.take_zero, show byL c [] = [] from rfl, List.append_nil] at hrow
   refine Ev.step (fun k => ?_) hrow
   have hrd : rd (castL xs) (i : Int) = (x : Int) := by rw [rd_nat, castL_getD hil, List.getD_eq_getElem?_getD, hxe]; rfl
   simp only [subset_to.l0, hrd, castL_length]
   rw [if_pos (by omega), if_pos (by omega), if_pos (by omega), if_pos (by omega), if_pos (by omega), show rd_L2 L (x : Int) = L.getD x [] from by unfold rd_L2; rw [Int.toNat_natCast]]
   rfl
 have h := key xs.length 0 (by omega)
 unfold subset_to.f
 rw [castL_length]
 exact h

end Go.Proofs.Ytelkjbacdpmnfaa.A
namespace Go.Proofs.Ytelkjbacdpmnfaa.A
open Go.RowKit Go.W_.PrintWords Go.W_.PrintLast Go.W_.PrintMore
attribute [local go_sem] max2_int min2_int max_two min_two max_three min_three max_four min_four
set_option linter.unusedVariables false
set_option linter.unusedSimpArgs false

theorem mapM_some {α β : Type} {f : α → Option β} {g : α → β} : ∀ {l : List α}, (∀ x ∈ l, f x = some (g x)) → l.mapM f = some (l.map g)
 | [], _ => rfl
 | x :: l, h => by
  rw [List.mapM_cons, h x (by simp), mapM_some (fun y hy => h y (by simp [hy]))]
  rfl
theorem flatten_ones {α β : Type} (g : α → β) : ∀ l : List α, (l.map fun x => [g x]).flatten = l.map g
 | [] => rfl
 | x :: l => by
  rw [List.map_cons, List.flatten_cons, flatten_ones g l]
  rfl
section
open Go.Maps
theorem keyed113 : Keyed Try.prog 113 := Keyed.of_law (deep_law_laid laidOut (m := 20) (by decide) (of_decide_eq_true (by kernel_rfl)) (by kernel_rfl) (by kernel_rfl))
theorem under103 : Try.prog.underlying 103 = some (.map 113 3) := by kernel_rfl
theorem under111 : Try.prog.underlying 111 = some (.int .u64) := by kernel_rfl
def setLits (M : List Nat) : List Lit := (List.range 63).map fun i => .int .u64 ((wordM M i : Nat) : Int)
def setKey (M : List Nat) : Lit := .string (keyBytes (setLits M))
theorem word_wf (M : List Nat) (i : Nat) : (Lit.int .u64 ((wordM M i : Nat) : Int)).wf = true := by
 have h := wordM_lt M i
 simp only [Lit.wf, Bool.and_eq_true, decide_eq_true_eq]
 exact ⟨by show (0 : Int) ≤ _; omega, by show _ ≤ (18446744073709551615 : Int); omega⟩
theorem set_lits (d : Nat) (M : List Nat) : Try.prog.keyLits (d + 1 + 1) 113 (setL M) = some (setLits M) := by
 have c1 : Try.prog.cellsOf 113 = 63 := by kernel_rfl
 have c2 : Try.prog.cellsOf 111 = 1 := by kernel_rfl
 have e1 : ∀ i ∈ List.range 63, Try.prog.keyLits (d + 1) 111 (((setL M).drop (i * 1)).take 1) = some [.int .u64 ((wordM M i : Nat) : Int)] := fun i hi => by
  have hi := List.mem_range.1 hi
  have hl : (setL M).length = 63 := by simp [setL]
  have hg : (setL M)[i]? = some (.int .u64 ((wordM M i : Nat) : Int)) := by
   have := setC_at M hi
   simpa [setC] using this
  have e : ((setL M).drop (i * 1)).take 1 = [.int .u64 ((wordM M i : Nat) : Int)] := by
   rw [Nat.mul_one, List.drop_eq_getElem_cons (by omega), List.take_succ_cons, List.take_zero]
   rw [List.getElem?_eq_getElem (by omega)] at hg
   rw [Option.some.inj hg]
  rw [e]
  unfold Program.keyLits
  simp only [under111]
  simp [word_wf M i]
 unfold Program.keyLits
 simp only [under113]
 rw [if_pos (by rw [c1]; simp [setL]), c2, mapM_some e1]
 show some _ = _
 rw [flatten_ones]
 rfl
theorem set_key (M : List Nat) : keyOf Try.prog 113 (.agg (setC M)) = some (setKey M) := by
 have h3 : Try.prog.keyType 113 = true := by kernel_rfl
 have c1 : Try.prog.cellsOf 113 = 63 := by kernel_rfl
 have h5 : Try.prog.types.size + 1 = 160 + 1 + 1 := by kernel_rfl
 have h4 := set_lits 160 M
 rw [← h5] at h4
 have hf : Value.formed Try.prog 113 (.agg (setC M)) = true := by
  simp [Value.formed, under113, c1, setC_size]
 simp only [keyOf, under113, h3, hf, Bool.and_self, if_true]
 show Option.map _ (Try.prog.keyLits (Try.prog.types.size + 1) 113 (setC M).toList) = _
 rw [show (setC M).toList = setL M from rfl, h4]
 rfl
theorem setKey_inj {M N : List Nat} (h : setKey M = setKey N) {x : Nat} (hx : x < 4032) : x ∈ M ↔ x ∈ N := by
 have h1 := set_key M
 rw [h] at h1
 have h2 := keyed113.inj h1 (set_key N)
 exact setC_inj (by simpa using h2) hx
end

end Go.Proofs.Ytelkjbacdpmnfaa.A
namespace Go.Proofs.Ytelkjbacdpmnfaa.A
open Go.RowKit Go.W_.PrintWords Go.W_.PrintLast Go.W_.PrintMore
attribute [local go_sem] max2_int min2_int max_two min_two max_three min_three max_four min_four
set_option linter.unusedVariables false
set_option linter.unusedSimpArgs false

def vecOf (N : Nat) (M : List Nat) : List Bool := (List.range N).map fun x => decide (x ∈ M)
def ofVec (V : List Bool) : List Nat := (List.range V.length).filter fun x => V.getD x false
theorem vecOf_length (N : Nat) (M : List Nat) : (vecOf N M).length = N := by simp [vecOf]
theorem vecOf_getD {N x : Nat} (M : List Nat) (h : x < N) : (vecOf N M).getD x false = decide (x ∈ M) := by
 unfold vecOf
 rw [List.getD_eq_getElem?_getD, List.getElem?_map, List.getElem?_range h]
 rfl
theorem mem_ofVec {V : List Bool} {x : Nat} : x ∈ ofVec V ↔ x < V.length ∧ V.getD x false = true := by
 unfold ofVec
 rw [List.mem_filter, List.mem_range]
theorem mem_ofVec_vecOf {N x : Nat} {M : List Nat} (hM : ∀ y ∈ M, y < N) : x ∈ ofVec (vecOf N M) ↔ x ∈ M := by
 rw [mem_ofVec, vecOf_length]
 constructor
 ·rintro ⟨h, h2⟩
  rw [vecOf_getD M h] at h2
  simpa using h2
 ·intro h
  exact ⟨hM x h, by rw [vecOf_getD M (hM x h)]; simpa using h⟩
theorem vecOf_ext {N : Nat} {M M' : List Nat} (h : ∀ x, x < N → (x ∈ M ↔ x ∈ M')) : vecOf N M = vecOf N M' := by
 unfold vecOf
 refine List.map_congr_left fun x hx => ?_
 rw [Bool.eq_iff_iff, decide_eq_true_eq, decide_eq_true_eq]
 exact h x (List.mem_range.1 hx)
def vecKey (V : List Bool) : Lit := setKey (ofVec V)
theorem vec_key {N : Nat} {M : List Nat} (hM : ∀ y ∈ M, y < N) : keyOf Try.prog 113 (.agg (setC M)) = some (vecKey (vecOf N M)) := by
 rw [set_key M]
 show some (setKey M) = some (setKey (ofVec (vecOf N M)))
 have e : setLits M = setLits (ofVec (vecOf N M)) := by
  have h : wordM M = wordM (ofVec (vecOf N M)) := by
   funext i
   unfold wordM
   congr 1
   funext b
   rw [Bool.eq_iff_iff, decide_eq_true_eq, decide_eq_true_eq]
   exact (mem_ofVec_vecOf hM).symm
  unfold setLits
  rw [h]
 unfold setKey
 rw [e]
theorem vecKey_inj {N : Nat} {V V' : List Bool} (h1 : V.length = N) (h2 : V'.length = N) (hN : N ≤ 4000) (h : vecKey V = vecKey V') : V = V' := by
 apply List.ext_getElem?
 intro x
 by_cases hx : x < N
 ·have h3 := setKey_inj h (x := x) (by omega)
  rw [mem_ofVec, mem_ofVec] at h3
  have h4 : V.getD x false = V'.getD x false := by
   rw [Bool.eq_iff_iff]
   constructor
   ·intro h5; exact (h3.1 ⟨by omega, h5⟩).2
   ·intro h5; exact (h3.2 ⟨by omega, h5⟩).2
  rw [List.getD_eq_getElem?_getD, List.getD_eq_getElem?_getD, List.getElem?_eq_getElem (by omega), List.getElem?_eq_getElem (by omega)] at h4
  rw [List.getElem?_eq_getElem (by omega), List.getElem?_eq_getElem (by omega)]
  simpa using h4
 ·rw [List.getElem?_eq_none (by omega), List.getElem?_eq_none (by omega)]
/-- A map of ours: the sets that were met (rows of N bools), each with its number. -/
def SetMap (N : Nat) (W : World) (b n : Nat) (M : List (List Bool)) : Prop := ∃ D : DataW Unit, W.ownsMap Try.prog 113 (plainElem Try.prog 3) b n D ∧ NumData vecKey (fun V => V.length = N) D M
theorem SetMap.grown {N : Nat} {W W' : World} {b n : Nat} {M : List (List Bool)} {row : Option Nat} (h : SetMap N W b n M) (hg : W.grownBy W' row) (hne : some b ≠ row) : SetMap N W' b n M := by
 obtain ⟨D, h1, h2⟩ := h
 exact ⟨D, h1.kept hg hne, h2⟩
theorem SetMap.below {N : Nat} {W W' : World} {b n : Nat} {M : List (List Bool)} (h : SetMap N W b n M) (hb : Below W.heap.size W W') : SetMap N W' b n M := h.grown (row := none) ⟨hb.os, hb.tape, hb.output, hb.size, fun i hi _ => hb.block i hi⟩ (by simp)
theorem SetMap.set {N : Nat} {W : World} {b n : Nat} {M : List (List Bool)} (h : SetMap N W b n M) {p : Addr} (hp : b ≠ p.block) (u : Value) : SetMap N (W.setCell p u) b n M := by
 obtain ⟨D, h1, h2⟩ := h
 exact ⟨D, h1.setCell hp u, h2⟩
theorem SetMap.lt {N : Nat} {W : World} {b n : Nat} {M : List (List Bool)} (h : SetMap N W b n M) : b < W.heap.size := by
 obtain ⟨D, h1, _⟩ := h
 exact h1.lt

end Go.Proofs.Ytelkjbacdpmnfaa.A
namespace Go.Proofs.Ytelkjbacdpmnfaa.A
open Go.RowKit Go.W_.PrintWords Go.W_.PrintLast Go.W_.PrintMore
attribute [local go_sem] max2_int min2_int max_two min_two max_three min_three max_four min_four
set_option linter.unusedVariables false
set_option linter.unusedSimpArgs false

theorem exec_load_row {P : Program} {o : Oper} {a : Act} {w : World} (ty : TypeId) (x : Operand) (ho : o.op = .load ty x)
  (g : Nat) (hx : a.eval x = .pointer (some ⟨g, 0, none⟩)) (t : TypeId) (cs : Array Value) (fr : Nat × Nat) (d : TypeDesc) (hg : w.heap[g]? = some (.cells cs t fr))
  (hu : P.underlying ty = some d) (hd : (match d with | .struct _ | .array _ _ => true | _ => false) = true) (hi : (P.info? ty).map (·.size) = some cs.size) : (execOp a.eval o).run P w = .ok (.value (.agg cs)) w := by
 unfold execOp
 simp only [ho, hx, Instr.loadAt, Instr.sureAddr, Sem.run_bind, Sem.run_pure, Result.andThen_ok, run_loadVar_row w g t ty cs fr d hg hu hd hi]
theorem exec_lookup_ok {P : Program} {o : Oper} {a : Act} {w : World} (t : TypeId) (m x : Operand) (hop : o.op = Op.lookup t m x true) {vm vx v : Value} (hm : a.eval m = vm) (hx : a.eval x = vx) (hrun : (Instr.lookup t vm vx true).run P w = .ok v w) : (execOp a.eval o).run P w = .ok (.value v) w := by
 simp [execOp, hop, hm, hx, hrun, Result.andThen]
abbrev KI3 : Kd (List Int) := Kd.slice 3 (Kd.int .i64)
def makerC (a : Int) (A : Option Addr) (n c gm : Nat) (vL vN vA : Value) : Array Value := #[.int .i64 a, .slice A n c, .map (some gm), vL, .int .i64 a, vN, vA]
def endOf (M : List Nat) : Bool := decide (1 ∈ M)
/-- What a maker's memory says: the lists of states that were met, each with its number. -/
structure Maker (b g gm : Nat) (a : Int) (A : Option Addr) (n c : Nat) (P : Nat → Prop) (W : World) (Ls : List (List Nat)) (X : List (List Int)) (vL vN vA : Value) : Prop where
 blk : W.heap[g]? = some (.cells (makerC a A n c gm vL vN vA) 105 (0, 0))
 map : SetMap n W gm Ls.length (Ls.map (vecOf n))
 lists : Kd.R KI3 45 W b (fun k => P k ∧ k ≠ gm) vL (Ls.map castL)
 acc : Kd.R Kd.bool 4 W b (fun k => P k ∧ k ≠ gm) vA (Ls.map endOf)
 next : Kd.S KI3 45 W b (fun k => ¬ P k) vN X
 own : P g ∧ P gm ∧ g ≠ gm ∧ b ≤ g ∧ b ≤ gm
 low : ∀ k, P k → k < W.heap.size
 sets : ∀ l ∈ Ls, l.Nodup ∧ ∀ x ∈ l, x < n
theorem Maker.below {b g gm : Nat} {a : Int} {A : Option Addr} {n c : Nat} {P : Nat → Prop} {W W' : World} {Ls : List (List Nat)} {X : List (List Int)} {vL vN vA : Value} (h : Maker b g gm a A n c P W Ls X vL vN vA) (hb : Below W.heap.size W W') : Maker b g gm a A n c P W' Ls X vL vN vA :=
 ⟨bbz h.blk hb, h.map.below hb, Kd.R_below h.lists hb, Kd.R_below h.acc hb, Kd.S_below h.next hb, h.own, fun k hk => Nat.lt_of_lt_of_le (h.low k hk) hb.size, h.sets⟩
/-- What stands but for the maker's own blocks. -/
structure Keeps (b : Nat) (P : Nat → Prop) (w0 W : World) : Prop where
 bel : Below b w0 W
 far : ∀ k, k < w0.heap.size → ¬ P k → W.heap[k]? = w0.heap[k]?
theorem Keeps.of_below {b : Nat} {P : Nat → Prop} {w0 W : World} (hb : b ≤ w0.heap.size) (h : Below w0.heap.size w0 W) : Keeps b P w0 W := ⟨Below.mono h hb, fun k hk _ => h.block k hk⟩
theorem Keeps.grown {b : Nat} {P : Nat → Prop} {w0 W W' : World} {row : Option Nat} (h : Keeps b P w0 W) (hg : W.grownBy W' row) (hr : ∀ k, row = some k → b ≤ k ∧ (P k ∨ w0.heap.size ≤ k)) (hs : b ≤ w0.heap.size) : Keeps b P w0 W' := by
 refine ⟨Below.grown h.bel hg (Nat.le_trans hs h.bel.size) (fun k hk => (hr k hk).1), fun k hk hP => ?_⟩
 rw [hg.block k (Nat.lt_of_lt_of_le hk h.bel.size) (fun e => ?_)]
 ·exact h.far k hk hP
 ·rcases (hr k e.symm).2 with h2 | h2
  ·exact hP h2
  ·omega
theorem Keeps.set {b : Nat} {P : Nat → Prop} {w0 W : World} (h : Keeps b P w0 W) {p : Addr} (hp : b ≤ p.block ∧ P p.block) (u : Value) : Keeps b P w0 (W.setCell p u) := by
 refine ⟨h.bel.setCell hp.1 u, fun k hk hP => ?_⟩
 rw [Below.heap_setCell _ _ _ k (fun e => hP (e ▸ hp.2))]
 exact h.far k hk hP
theorem castLs_slice {W : World} {base : Nat} {ok : Nat → Prop} {v : Value} {Ls : List (List Nat)} (h : Kd.R KI3 45 W base ok v (Ls.map castL)) : ∃ A c, v = .slice A Ls.length c := by
 obtain ⟨A, c, rfl⟩ := Kd.R_slice h
 exact ⟨A, c, by rw [List.length_map]⟩
theorem ends_slice {W : World} {base : Nat} {ok : Nat → Prop} {v : Value} {Ls : List (List Nat)} (h : Kd.R Kd.bool 4 W base ok v (Ls.map endOf)) : ∃ A c, v = .slice A Ls.length c := by
 obtain ⟨A, c, rfl⟩ := Kd.R_slice h
 exact ⟨A, c, by rw [List.length_map]⟩
theorem maker7 {W : World} {g gm n c : Nat} {a : Int} {A : Option Addr} {vL vN vA : Value} (h : W.heap[g]? = some (.cells (makerC a A n c gm vL vN vA) 105 (0, 0))) : W.cell? ⟨g, 0, none⟩ = some (.int .i64 a) ∧ W.cell? ⟨g, 1, none⟩ = some (.slice A n c) ∧ W.cell? ⟨g, 2, none⟩ = some (.map (some gm)) ∧ W.cell? ⟨g, 3, none⟩ = some vL ∧ W.cell? ⟨g, 4, none⟩ = some (.int .i64 a) ∧ W.cell? ⟨g, 5, none⟩ = some vN ∧ W.cell? ⟨g, 6, none⟩ = some vA :=
 ⟨(bcz h 0).trans rfl, (bcz h 1).trans rfl, (bcz h 2).trans rfl, (bcz h 3).trans rfl, (bcz h 4).trans rfl, (bcz h 5).trans rfl, (bcz h 6).trans rfl⟩
theorem exec_mapUpdate {P : Program} {o : Oper} {a : Act} {w : World} (t : TypeId) (m x v : Operand) (hop : o.op = Op.mapUpdate t m x v) {vm vx vv : Value} (hm : a.eval m = vm) (hx : a.eval x = vx) (hv : a.eval v = vv) {w' : World} (hrun : (Instr.mapUpdate t vm vx vv).run P w = .ok () w') : (execOp a.eval o).run P w = .ok .skip w' := by
 simp [execOp, hop, hm, hx, hv, hrun, Result.andThen]
/-- The maker's memory while a new list of states is let in. -/
structure Mid (b g gm n : Nat) (P : Nat → Prop) (w0 W : World) (k : Nat) (Mv : List (List Bool)) (Ls : List (List Nat)) (Ys : List Bool) (X : List (List Int)) (vL vN vA : Value) : Prop where
 map : SetMap n W gm k Mv
 lists : Kd.R KI3 45 W b (fun k => (P k ∨ w0.heap.size ≤ k) ∧ k ≠ gm) vL (Ls.map castL)
 acc : Kd.R Kd.bool 4 W b (fun k => (P k ∨ w0.heap.size ≤ k) ∧ k ≠ gm) vA Ys
 next : Kd.S KI3 45 W b (fun k => ¬ P k ∧ k < w0.heap.size) vN X
 keeps : Keeps b P w0 W
 own : P g ∧ P gm ∧ g ≠ gm ∧ b ≤ g ∧ b ≤ gm
 low : ∀ k, P k → k < w0.heap.size
 bs : b ≤ w0.heap.size
section
variable {b g gm n c k k' : Nat} {a : Int} {A : Option Addr} {P : Nat → Prop} {w0 W W' : World} {Mv Mv' : List (List Bool)} {Ls Ls' : List (List Nat)} {Ys Ys' : List Bool} {X : List (List Int)} {vL vL' vN vA vA' : Value}
theorem Mid.of (h : Maker b g gm a A n c P w0 Ls X vL vN vA) (hb : Below w0.heap.size w0 W) (hs : b ≤ w0.heap.size) : Mid b g gm n P w0 W Ls.length (Ls.map (vecOf n)) Ls (Ls.map endOf) X vL vN vA :=
 ⟨h.map.below hb, Kd.R_mono (Kd.R_below h.lists hb) (fun _ hk => ⟨.inl hk.1, hk.2⟩), Kd.R_mono (Kd.R_below h.acc hb) (fun _ hk => ⟨.inl hk.1, hk.2⟩), Kd.S_mono (Kd.S_below (Kd.S_bound h.next) hb) (fun _ hk => ⟨hk.1, hk.2.2.1⟩), Keeps.of_below hs hb, h.own, h.low, hs⟩
theorem Mid.gmlt (h : Mid b g gm n P w0 W k Mv Ls Ys X vL vN vA) : gm < w0.heap.size := h.low _ h.own.2.1
theorem Mid.glt (h : Mid b g gm n P w0 W k Mv Ls Ys X vL vN vA) : g < w0.heap.size := h.low _ h.own.1
theorem Mid.fresh (h : Mid b g gm n P w0 W k Mv Ls Ys X vL vN vA) : ∀ j, W.heap.size ≤ j → (P j ∨ w0.heap.size ≤ j) ∧ j ≠ gm := fun j hj => by
 have h1 := h.keeps.bel.size
 have h2 := h.gmlt
 exact ⟨.inr (by omega), by omega⟩
theorem Mid.upd (h : Mid b g gm n P w0 W k Mv Ls Ys X vL vN vA) (hg : W.grownBy W' (some gm)) (hm : SetMap n W' gm k' Mv') : Mid b g gm n P w0 W' k' Mv' Ls Ys X vL vN vA := by
 have hne : ∀ j, j ≠ gm → some j ≠ some gm := fun j hj e => hj (Option.some.inj e)
 refine ⟨hm, Kd.R_step h.lists (fun j hj hl => hg.block j hl (hne j hj.2)), Kd.R_step h.acc (fun j hj hl => hg.block j hl (hne j hj.2)), Kd.S_step h.next (fun j hj hl => hg.block j hl (hne j (fun e => hj.1 (e ▸ h.own.2.1)))), h.keeps.grown hg (fun j e => by cases e; exact ⟨h.own.2.2.2.2, .inl h.own.2.1⟩) h.bs, h.own, h.low, h.bs⟩
theorem Mid.list (h : Mid b g gm n P w0 W k Mv Ls Ys X vL vN vA) (hg : W.grownBy W' vL.ownBlock) (ho : Kd.R KI3 45 W' b (fun k => (P k ∨ w0.heap.size ≤ k) ∧ k ≠ gm) vL' (Ls'.map castL)) : Mid b g gm n P w0 W' k Mv Ls' Ys X vL' vN vA := by
 refine ⟨h.map.grown hg (fun e => (h.lists.1 gm e.symm).2 rfl), ho, Kd.R_over' h.acc (Kd.R_typed h.lists) (by decide) hg, Kd.S_step h.next (fun j hj hl => hg.block j hl (fun e => ?_)), h.keeps.grown hg (fun j e => ⟨Kd.R_base h.lists j e, (h.lists.1 j e).1⟩) h.bs, h.own, h.low, h.bs⟩
 rcases (h.lists.1 j e.symm).1 with h1 | h1
 ·exact hj.1 h1
 ·have := hj.2; omega
theorem Mid.ends (h : Mid b g gm n P w0 W k Mv Ls Ys X vL vN vA) (hg : W.grownBy W' vA.ownBlock) (ho : Kd.R Kd.bool 4 W' b (fun k => (P k ∨ w0.heap.size ≤ k) ∧ k ≠ gm) vA' Ys') : Mid b g gm n P w0 W' k Mv Ls Ys' X vL vN vA' := by
 refine ⟨h.map.grown hg (fun e => (h.acc.1 gm e.symm).2 rfl), Kd.R_over' h.lists (Kd.R_typed h.acc) (by decide) hg, ho, Kd.S_step h.next (fun j hj hl => hg.block j hl (fun e => ?_)), h.keeps.grown hg (fun j e => ⟨Kd.R_base h.acc j e, (h.acc.1 j e).1⟩) h.bs, h.own, h.low, h.bs⟩
 rcases (h.acc.1 j e.symm).1 with h1 | h1
 ·exact hj.1 h1
 ·have := hj.2; omega
theorem Mid.set (h : Mid b g gm n P w0 W k Mv Ls Ys X vL vN vA) {cs : Array Value} (hb : W.heap[g]? = some (.cells cs 105 (0, 0))) (j : Nat) (u : Value) : Mid b g gm n P w0 (W.setCell ⟨g, j, none⟩ u) k Mv Ls Ys X vL vN vA :=
 ⟨h.map.set (p := ⟨g, j, none⟩) h.own.2.2.1.symm u, Kd.R_set h.lists hb (by decide) j u, Kd.R_set h.acc hb (by decide) j u, Kd.S_mono (Kd.S_far (p := ⟨g, j, none⟩) (Kd.S_types h.next hb (by decide)) (fun _ hk => hk.2) u) (fun _ hk => hk.1), h.keeps.set (p := ⟨g, j, none⟩) ⟨h.own.2.2.2.1, h.own.1⟩ u, h.own, h.low, h.bs⟩
theorem Mid.below (h : Mid b g gm n P w0 W k Mv Ls Ys X vL vN vA) (hb : Below W.heap.size W W') : Mid b g gm n P w0 W' k Mv Ls Ys X vL vN vA :=
 ⟨h.map.below hb, Kd.R_below h.lists hb, Kd.R_below h.acc hb, Kd.S_below h.next hb, ⟨Below.trans h.keeps.bel (Below.mono hb (Nat.le_trans h.bs h.keeps.bel.size)), fun j hj hP => (hb.block j (Nat.lt_of_lt_of_le hj h.keeps.bel.size)).trans (h.keeps.far j hj hP)⟩, h.own, h.low, h.bs⟩
/-- What a maker's blocks are, behind. -/
def grownP (P : Nat → Prop) (w0 W : World) : Nat → Prop := fun k => (P k ∨ w0.heap.size ≤ k) ∧ k < W.heap.size
theorem Mid.done (h : Mid b g gm n P w0 W Ls.length (Ls.map (vecOf n)) Ls (Ls.map endOf) X vL vN vA) (hb : W.heap[g]? = some (.cells (makerC a A n c gm vL vN vA) 105 (0, 0))) (hs : ∀ l ∈ Ls, l.Nodup ∧ ∀ x ∈ l, x < n) : Maker b g gm a A n c (grownP P w0 W) W Ls X vL vN vA := by
 have hz := h.keeps.bel.size
 have hg := h.glt
 have hm := h.gmlt
 refine ⟨hb, h.map, Kd.R_mono (Kd.R_bound h.lists) (fun j hj => ⟨⟨hj.1.1, hj.2.2.1⟩, hj.1.2⟩), Kd.R_mono (Kd.R_bound h.acc) (fun j hj => ⟨⟨hj.1.1, hj.2.2.1⟩, hj.1.2⟩), Kd.S_mono h.next (fun j hj hP => ?_), ⟨⟨.inl h.own.1, by omega⟩, ⟨.inl h.own.2.1, by omega⟩, h.own.2.2⟩, fun j hj => hj.2, hs⟩
 rcases hP.1 with h1 | h1
 ·exact hj.1 h1
 ·have := hj.2; omega
end
section
variable {b g gm n c : Nat} {a : Int} {A : Option Addr} {P P' : Nat → Prop} {w0 W W' : World} {Ls Ls' : List (List Nat)} {X X' : List (List Int)} {vL vN vN' vA : Value}
theorem Maker.away (h : Maker b g gm a A n c P W Ls X vL vN vA) {row : Option Nat} (hg : W.grownBy W' row) (hr : ∀ k, row = some k → ¬ P k) (hn : Kd.S KI3 45 W' b (fun k => ¬ P k) vN' X') (hb : W'.heap[g]? = some (.cells (makerC a A n c gm vL vN' vA) 105 (0, 0)) ∨ vN' = vN) : Maker b g gm a A n c P W' Ls X' vL vN' vA := by
 have hne : ∀ j, P j → some j ≠ row := fun j hj e => hr j e.symm hj
 refine ⟨?_, h.map.grown hg (hne _ h.own.2.1), Kd.R_step h.lists (fun j hj hl => hg.block j hl (hne j hj.1)), Kd.R_step h.acc (fun j hj hl => hg.block j hl (hne j hj.1)), hn, h.own, fun k hk => Nat.lt_of_lt_of_le (h.low k hk) hg.size, h.sets⟩
 rcases hb with hb | rfl
 ·exact hb
 ·exact bG h.blk hg (hne g h.own.1)
theorem Maker.putN (h : Maker b g gm a A n c P W Ls X vL vN vA) {row : Option Nat} (hg : W.grownBy W' row) (hr : ∀ k, row = some k → ¬ P k) (hn : Kd.S KI3 45 W' b (fun k => ¬ P k) vN' X') : Maker b g gm a A n c P (W'.setCell ⟨g, 5, none⟩ vN') Ls X' vL vN' vA := by
 have hne : ∀ j, P j → some j ≠ row := fun j hj e => hr j e.symm hj
 have hb : W'.heap[g]? = some (.cells (makerC a A n c gm vL vN vA) 105 (0, 0)) := bG h.blk hg (hne g h.own.1)
 have h1 := Kd.R_step h.lists (w1 := W') (fun j hj hl => hg.block j hl (hne j hj.1))
 have h2 := Kd.R_step h.acc (w1 := W') (fun j hj hl => hg.block j hl (hne j hj.1))
 refine ⟨bp (cs' := makerC a A n c gm vL vN' vA) hb 5 vN' rfl, (h.map.grown hg (hne _ h.own.2.1)).set (p := ⟨g, 5, none⟩) h.own.2.2.1.symm _, Kd.R_set h1 hb (by decide) 5 _, Kd.R_set h2 hb (by decide) 5 _, Kd.S_mono (Kd.S_far (p := ⟨g, 5, none⟩) (Kd.S_types hn hb (by decide)) (fun _ hk => hk.2) _) (fun _ hk => hk.1), h.own, fun k hk => ?_, h.sets⟩
 have h3 := h.low k hk
 have h4 := hg.size
 simp
 omega
/-- Elder facts apart from a maker, behind its step. -/
theorem Keeps.S {d : Kd (List Int)} {e b0 gp : Nat} {v : Value} {xs : List (List Int)} (hk : Keeps b P w0 W) (h : Kd.S d e w0 b0 (fun k => ¬ P k ∧ k < gp) v xs) (hp : ∀ k, P' k → P k ∨ w0.heap.size ≤ k) (hgp : gp ≤ w0.heap.size) : Kd.S d e W b0 (fun k => ¬ P' k ∧ k < gp) v xs :=
 Kd.S_mono (Kd.S_step h (fun k hk1 hl => hk.far k hl hk1.1)) (fun k hk1 => ⟨fun hP => by
  rcases hp k hP with h1 | h1
  ·exact hk1.1 h1
  ·have := hk1.2; omega, hk1.2⟩)
theorem Keeps.R {gp b0 : Nat} {v : Value} {xs : List Int} (hk : Keeps b P w0 W) (h : Kd.R (Kd.int .i64) 3 w0 b0 (fun k => ¬ P k ∧ gp ≤ k) v xs) (hp : ∀ k, P' k → P k ∨ w0.heap.size ≤ k) : Kd.R (Kd.int .i64) 3 W b0 (fun k => ¬ P' k ∧ gp ≤ k) v xs :=
 Kd.R_mono (Kd.R_step (Kd.R_bound h) (fun k hk1 hl => hk.far k hl hk1.1.1)) (fun k hk1 => ⟨fun hP => by
  rcases hp k hP with h1 | h1
  ·exact hk1.1.1 h1
  ·have := hk1.2.2.1; omega, hk1.1.2⟩)
end
theorem SetMap.made (N : Nat) (W : World) : SetMap N (W.alloc (.map #[] 0)) W.heap.size 0 [] := ⟨_, World.ownsMap_made W Try.prog 113 (plainElem Try.prog 3), NumData.nil vecKey _⟩

end Go.Proofs.Ytelkjbacdpmnfaa.A
namespace Go.Proofs.Ytelkjbacdpmnfaa.A
open Go.RowKit Go.W_.PrintWords Go.W_.PrintLast Go.W_.PrintMore
attribute [local go_sem] max2_int min2_int max_two min_two max_three min_three max_four min_four
set_option linter.unusedVariables false
set_option linter.unusedSimpArgs false

def closeRun (nt : Nat → List Nat) : Nat → List Nat → List Nat → List Nat
 | 0, M, _ => M
 | _ + 1, M, [] => M
 | k + 1, M, x :: Q => if x ∈ M then closeRun nt k M Q else closeRun nt k (M ++ [x]) (Q ++ nt x)
theorem closeRun_done {nt : Nat → List Nat} {N : Nat} {Q0 : List Nat} (hs : ∀ x, ∀ y ∈ nt x, y < N) : ∀ (k : Nat) (M Q : List Nat), CloseInv nt N Q0 M Q → Q.length + potE nt M N ≤ k → Closure nt N Q0 (closeRun nt k M Q)
 | 0, M, Q, h, hk => by
  have : Q = [] := List.length_eq_zero_iff.1 (by omega)
  subst this
  exact h.done
 | k + 1, M, [], h, hk => h.done
 | k + 1, M, x :: Q, h, hk => by
  simp only [List.length_cons] at hk
  by_cases hx : x ∈ M
  ·simp only [closeRun, if_pos hx]
   exact closeRun_done hs k M Q (h.skip hx) (by omega)
  ·simp only [closeRun, if_neg hx]
   have hp := potE_new (nt := nt) hx N (h.lowQ x (by simp))
   refine closeRun_done hs k _ _ (h.new hx (hs x)) ?_
   rw [List.length_append]
   omega
theorem potE_mul {nt : Nat → List Nat} {B : Nat} (h : ∀ x, (nt x).length ≤ B) : ∀ n, potE nt [] n ≤ n * B
 | 0 => by simp [potE]
 | n + 1 => by
  have h1 := potE_mul h n
  have h2 := h n
  simp only [potE, List.not_mem_nil, if_false]
  rw [Nat.succ_mul]
  omega
/-- No row is too long. -/
def rowsOk (L : List (List S82)) : Prop := ∀ r ∈ L, r.length ≤ 1000000000
theorem rowsOk_getD {L : List (List S82)} (h : rowsOk L) (x : Nat) : (L.getD x []).length ≤ 1000000000 := by
 by_cases hx : x < L.length
 ·refine h _ ?_
  rw [List.getD_eq_getElem?_getD, List.getElem?_eq_getElem hx]
  exact List.getElem_mem hx
 ·rw [List.getD_eq_getElem?_getD, List.getElem?_eq_none (by omega)]
  exact Nat.zero_le _
theorem byL_le (c : Int) (R : List S82) : (byL c R).length ≤ R.length := by
 unfold byL
 rw [List.length_map]
 exact List.length_filter_le _ _
theorem potE_by {L : List (List S82)} (h : rowsOk L) (hL : L.length ≤ 4000) (c : Int) : potE (fun x => byL c (L.getD x [])) [] L.length ≤ 4000000000000 := by
 have h1 := potE_mul (nt := fun x => byL c (L.getD x [])) (B := 1000000000) (fun x => Nat.le_trans (byL_le c _) (rowsOk_getD h x)) L.length
 have h2 : L.length * 1000000000 ≤ 4000 * 1000000000 := Nat.mul_le_mul_right _ hL
 omega
theorem toL_pot {L : List (List S82)} {c : Int} : ∀ (n : Nat) (xs : List Nat), xs.length = n → xs.Nodup → (∀ x ∈ xs, x < L.length) → (toL L xs c).length + potE (fun x => byL c (L.getD x [])) xs L.length = potE (fun x => byL c (L.getD x [])) [] L.length
 | 0, xs, hn, _, _ => by
  obtain rfl := List.length_eq_zero_iff.1 hn
  simp [toL]
 | n + 1, xs, hn, hd, hl => by
  have hne : xs ≠ [] := fun e => by subst e; simp at hn
  obtain ⟨ys, y, rfl⟩ : ∃ ys y, xs = ys ++ [y] := ⟨xs.dropLast, xs.getLast hne, (List.dropLast_concat_getLast hne).symm⟩
  have hd' := List.nodup_append.1 hd
  have hy : y ∉ ys := fun hm => hd'.2.2 y hm y (by simp) rfl
  have ih := toL_pot (c := c) n ys (by simpa using hn) hd'.1 (fun x hx => hl x (by simp [hx]))
  have hp := potE_new (nt := fun x => byL c (L.getD x [])) hy L.length (hl y (by simp))
  rw [toL_snoc, List.length_append]
  omega
theorem toL_le {L : List (List S82)} {xs : List Nat} {c : Int} (h : rowsOk L) (hL : L.length ≤ 4000) (hd : xs.Nodup) (hl : ∀ x ∈ xs, x < L.length) : (toL L xs c).length ≤ 4000000000000 := by
 have h1 := toL_pot (c := c) xs.length xs rfl hd hl
 have h2 := potE_by h hL c
 omega
theorem toL_low {L : List (List S82)} (hs : netShut L) {xs : List Nat} (hl : ∀ x ∈ xs, x < L.length) (c : Int) : ∀ y ∈ toL L xs c, y < L.length := by
 intro y hy
 obtain ⟨x, hx, hy⟩ := mem_toL.1 hy
 refine byL_low hs ?_ c y hy
 rw [List.getD_eq_getElem?_getD, List.getElem?_eq_getElem (hl x hx)]
 exact List.getElem_mem _
/-- All that states lead to by nothing. -/
def clos (L : List (List S82)) (Q : List Nat) : List Nat := closeRun (ntL L) (Q.length + potE (ntL L) [] L.length) [] Q
theorem clos_is {L : List (List S82)} (hs : netShut L) {Q : List Nat} (hQ : ∀ x ∈ Q, x < L.length) : Closure (ntL L) L.length Q (clos L Q) := closeRun_done (ntL_low hs) _ _ _ (CloseInv.start hQ) (Nat.le_refl _)
theorem closure_vec {nt : Nat → List Nat} {N : Nat} {Q Q' M M' : List Nat} (h : Closure nt N Q M) (h' : Closure nt N Q' M') (e : ∀ x, x ∈ Q ↔ x ∈ Q') : vecOf N M = vecOf N M' := by
 refine vecOf_ext fun x _ => ?_
 rw [h.2.2, h'.2.2]
 simp only [e]
def stepV (L : List (List S82)) (V : List Bool) (c : Nat) : List Bool := vecOf L.length (clos L (toL L (ofVec V) (c : Int)))
def firstV (L : List (List S82)) : List Bool := vecOf L.length (clos L [0])
theorem ofVec_low (V : List Bool) : ∀ x ∈ ofVec V, x < V.length := fun x hx => (mem_ofVec.1 hx).1
theorem stepV_length (L : List (List S82)) (V : List Bool) (c : Nat) : (stepV L V c).length = L.length := vecOf_length _ _
theorem step_of {L : List (List S82)} (hs : netShut L) {xs M : List Nat} {c : Nat} (hl : ∀ x ∈ xs, x < L.length) (h : Closure (ntL L) L.length (toL L xs (c : Int)) M) : vecOf L.length M = stepV L (vecOf L.length xs) c := by
 refine closure_vec h (clos_is hs (toL_low hs (fun x hx => by rw [← vecOf_length L.length xs]; exact ofVec_low _ x hx) _)) fun x => ?_
 rw [mem_toL, mem_toL]
 simp only [mem_ofVec_vecOf hl]
theorem first_of {L : List (List S82)} (hs : netShut L) {M : List Nat} (h0 : 0 < L.length) (h : Closure (ntL L) L.length [0] M) : vecOf L.length M = firstV L :=
 closure_vec h (clos_is hs (by simpa using h0)) fun _ => Iff.rfl
theorem Closure.length_le {nt : Nat → List Nat} {N : Nat} {Q M : List Nat} (h : Closure nt N Q M) : M.length ≤ N := nodup_bound N M h.1 h.2.1

end Go.Proofs.Ytelkjbacdpmnfaa.A
namespace Go.Proofs.Ytelkjbacdpmnfaa.A
open Go.RowKit Go.W_.PrintWords Go.W_.PrintLast Go.W_.PrintMore
attribute [local go_sem] max2_int min2_int max_two min_two max_three min_three max_four min_four
set_option linter.unusedVariables false
set_option linter.unusedSimpArgs false

abbrev endV (V : List Bool) : Bool := V.getD 1 false
def subRes (a : Int) (L : List (List S82)) (m : Int) (M : List (List Bool)) : Int × List (List Int) × List Bool × Int := if (M.length : Int) > m then (0, [], [], 14) else (a, numNext a.toNat (stepV L) M, M.map endV, 0)
def subF (k : Nat) (a : Int) (L : List (List S82)) (most : Int) : Option (Int × List (List Int) × List Bool × Int) :=
 if goodNetB a L = true then (prodRun a.toNat (stepV L) (prodMost most) k [firstV L] 0).bind fun M => some (subRes a L (prodMost most) M) else some (0, [], [], 1)
structure NetOk (a : Int) (L : List (List S82)) : Prop where
 a1 : 1 ≤ a
 a2 : a ≤ 64
 n1 : 2 ≤ L.length
 n2 : L.length ≤ 4000
 shut : netShut L
 lets : ∀ r ∈ L, ∀ e ∈ r, -1 ≤ e.f0 ∧ e.f0 < a
theorem NetOk.of {a : Int} {L : List (List S82)} (h : goodNetB a L = true) : NetOk a L := by
 unfold goodNetB at h
 simp only [Bool.and_eq_true, decide_eq_true_eq, Bool.not_eq_true', List.any_eq_false] at h
 obtain ⟨⟨⟨⟨h1, h2⟩, h3⟩, h4⟩, h5⟩ := h
 have h6 : ∀ r ∈ L, ∀ e ∈ r, (-1 ≤ e.f0 ∧ e.f0 < a) ∧ 0 ≤ e.f1 ∧ e.f1 < (L.length : Int) := by
  intro r hr e he
  have h7 := h5 r hr
  unfold BadEdges at h7
  simp only [List.any_eq_true, not_exists, not_and, Bool.not_eq_true] at h7
  have h8 := h7 e he
  unfold BadEdge at h8
  simp at h8
  omega
 exact ⟨h1, h2, by omega, by omega, fun r hr e he => (h6 r hr e he).2, fun r hr e he => (h6 r hr e he).1⟩
theorem endOf_vec {N : Nat} (M : List Nat) (hN : 1 < N) : endV (vecOf N M) = endOf M := by
 unfold endV endOf
 rw [vecOf_getD M hN]
theorem ends_vec {N : Nat} (Ls : List (List Nat)) (hN : 1 < N) : (Ls.map (vecOf N)).map endV = Ls.map endOf := by
 rw [List.map_map]
 exact List.map_congr_left fun M _ => endOf_vec M hN
theorem idx_vec (M : List (List Bool)) (p : List Bool) : @List.idxOf (List Bool) List.instBEq p M = @List.idxOf (List Bool) instBEqOfDecidableEq p M := by
 have e : ∀ x : List Bool, (@BEq.beq _ List.instBEq x p) = decide (x = p) := fun x => by
  by_cases h : x = p
  ·rw [decide_eq_true h]
   exact beq_iff_eq.mpr h
  ·rw [decide_eq_false h]
   exact beq_eq_false_iff_ne.mpr h
 show M.findIdx _ = M.findIdx _
 congr 1
 funext x
 exact e x
def goesV (a : Int) (L : List (List S82)) : List Bool → List Int → Bool
 | V, [] => endV V
 | V, c :: l => if c < 0 ∨ a ≤ c then false else goesV a L (stepV L V c.toNat) l
def goesF (a : Int) (L : List (List S82)) (l : List Int) : Bool := if goodNetB a L = true then goesV a L (firstV L) l else false
def rowsOkB (L : List (List S82)) : Bool := L.all fun r => decide (r.length ≤ 1000000000)
theorem rowsOk_of {L : List (List S82)} (h : rowsOkB L = true) : rowsOk L := fun r hr => by
 unfold rowsOkB at h
 rw [List.all_eq_true] at h
 simpa using h r hr
theorem rowsOkB_of {L : List (List S82)} (h : rowsOk L) : rowsOkB L = true := by
 unfold rowsOkB
 rw [List.all_eq_true]
 exact fun r hr => by simpa using h r hr

end Go.Proofs.Ytelkjbacdpmnfaa.A
namespace Go.Proofs.Ytelkjbacdpmnfaa.A
open Go.RowKit Go.W_.PrintWords Go.W_.PrintLast Go.W_.PrintMore
attribute [local go_sem] max2_int min2_int max_two min_two max_three min_three max_four min_four
set_option linter.unusedVariables false
set_option linter.unusedSimpArgs false

theorem to_cast (a : Int) (A : Option Addr) (c : Nat) (L : List (List S82)) (A1 : Option Addr) (c1 : Nat) (M : List Nat) (x : Int) (w : World) (hr : Kd.C (Kd.slice 82 k82) w A L.length L) (hc : L.length ≤ c) (hr1 : Kd.C (Kd.int .i64) w A1 M.length (castL M)) (hc1 : M.length ≤ c1) (hs : netShut L) (hR : rowsOk L) (hN : L.length ≤ 4000) (hM : M.Nodup ∧ ∀ x ∈ M, x < L.length) :
  Calls Try.prog 100 #[.agg #[.int .i64 a, .slice A L.length c], .slice A1 M.length c1, .int .i64 x] w fun e w' => ∃ v : Value, e = .returned v ∧ Kd.R (Kd.int .i64) 3 w' w.heap.size (fun _ => True) v (castL (toL L M x)) ∧ Below w.heap.size w w' := by
 have hl := toL_le (c := x) hR hN hM.1 hM.2
 have hm := nodup_bound L.length M hM.1 hM.2
 obtain ⟨k0, hk⟩ := ev_to (L := L) (xs := M) (c := x) (a := a) hs (fun r hr => by have := hR r hr; omega) hM.2 (by omega) (by omega) (by omega)
 have h := subset_to.calls k0 a A c L A1 c1 (castL M) x _ w hr hc (by rw [castL_length]; exact hr1) (by rw [castL_length]; exact hc1) (hk k0 (Nat.le_refl _))
 rw [castL_length] at h
 exact h
theorem exec_store_row {P : Program} {o : Oper} {a : Act} {w : World} (ty : TypeId) (x y : Operand) (ho : o.op = .store ty x y)
  (g : Nat) (cells : Array Value) (hx : a.eval x = .pointer (some ⟨g, 0, none⟩)) (hy : a.eval y = .agg cells)
  (t : TypeId) (old : Array Value) (hg : w.heap[g]? = some (.cells old t (0, 0))) (hi : (P.info? ty).map (·.size) = some cells.size)
  (hold : old.size = cells.size) (h1 : cells.all (·.oneCell') = true) : (execOp a.eval o).run P w = .ok .skip (w.setRow g cells) := by
 unfold execOp
 simp only [ho, hx, hy, Instr.storeAt, Instr.sureAddr, Sem.run_bind, Sem.run_pure, Result.andThen_ok, run_storeVar_row w g t ty old cells hg hi hold h1]

end Go.Proofs.Ytelkjbacdpmnfaa.A
namespace Go.Proofs.Ytelkjbacdpmnfaa.A
open Go.RowKit Go.W_.PrintWords Go.W_.PrintLast Go.W_.PrintMore
attribute [local go_sem] max2_int min2_int max_two min_two max_three min_three max_four min_four
set_option linter.unusedVariables false
set_option linter.unusedSimpArgs false

def subset_Goes.T9 : Bool × List (List Nat × List Nat) := (true, [([], []), ([], []), ([], []), ([], []), ([1, 2, 3], [1, 2, 3]), ([0, 4, 4], [0, 4]), ([5], [5]), ([6], [6]), ([6], [6]), ([7, 5, 0, 1, 2, 3, 4, 5, 6, 7], [7]), ([8, 9, 0, 1, 2, 3, 4, 5, 6, 7, 8, 9], [2, 8])])
def subset_Goes.B9 : List Nat := [0, 0, 0, 0, 14, 31, 63, 127, 127, 255, 1023]
theorem subset_Goes.tab9 : rtab .any (opsOf Try.f61 9) = subset_Goes.T9 := by kernel_rfl
theorem subset_Goes.bits9 : waitsOk subset_Goes.T9.2 subset_Goes.B9 = true := by kernel_rfl
set_option maxHeartbeats 16000000 in
set_option maxRecDepth 100000 in
theorem subset_Goes.bad (a : Int) (A : Option Addr) (c : Nat) (L : List (List S82)) (A1 : Option Addr) (c1 : Nat) (l : List Int) (w : World) (hr : Kd.C (Kd.slice 82 k82) w A L.length L) (hc : L.length ≤ c) (hr1 : Kd.C (Kd.int .i64) w A1 l.length l) (hc1 : l.length ≤ c1) (hg : goodNetB a L = false) :
  Calls Try.prog 61 #[.agg #[.int .i64 a, .slice A L.length c], .slice A1 l.length c1] w fun e w' => e = .returned (.bool false) ∧ Below w.heap.size w w' := by
 have hu28 := Try.underlying28
 have hu45 := Try.underlying45
 have hu3 := Try.underlying3
 have hu113 := under113
 have hz113 := (zero_of_info info113).1
 have HR := Q0z.mk hr
 clear hr
 have hl1_ : l.length ≤ 9223372036854775807 := hr1.2.1
 have HR1 := Q0z.mk hr1
 clear hr1
 have ZG : Q0z (thompson_GoodNet.f a L = some false) := ⟨by unfold thompson_GoodNet.f; rw [hg]⟩
 clear hg
 obtain ⟨c1_, c2_⟩ := cells2 (show (w.alloc (.cells #[.int .i64 a, .slice A L.length c] 28)).heap[w.heap.size]? = some (.cells #[.int .i64 a, .slice A L.length c] 28 (0, 0)) from new_at _ (by simp))
 go_enter Try.func61, Try.ntmps61
 go_wp2_with (first | (go_at_call 38; have hF_ := ZG.1; clear ZG; (try clear c1_ c2_); refine calls_new (v := w) (F := fun W => W.heap[w.heap.size]? = some (.cells #[.int .i64 a, .slice A L.length c] 28 (0, 0))) (ba (Below.refl _ _) (.cells #[.int .i64 a, .slice A L.length c] 28)) (new_at _ (by simp)) (fun w3_ b_ f_ => ?_); have S4_ := Q0z.mk b_; have K5_ := Q0z.mk f_; clear b_ f_; refine (thompson_GoodNet.calls a A c L   false _  (Kd.C_below HR.1 (S4_.1)) hc hF_).mono ?_; clear hF_; rintro e w6_ ⟨rfl, hb_⟩; have S7_ := Q0z.mk hb_; clear hb_))
 go_ret
 exact ⟨rfl, bsz (S4_.1) S7_.1⟩
set_option maxHeartbeats 16000000 in
set_option maxRecDepth 100000 in
theorem subset_Goes.main (a : Int) (A : Option Addr) (c : Nat) (L : List (List S82)) (A1 : Option Addr) (c1 : Nat) (l : List Int) (w : World) (hr : Kd.C (Kd.slice 82 k82) w A L.length L) (hc : L.length ≤ c) (hr1 : Kd.C (Kd.int .i64) w A1 l.length l) (hc1 : l.length ≤ c1) (hg : goodNetB a L = true) (hR : rowsOk L) (r : Bool) (hres : goesV a L (firstV L) l = r) :
  Calls Try.prog 61 #[.agg #[.int .i64 a, .slice A L.length c], .slice A1 l.length c1] w fun e w' => e = .returned (.bool r) ∧ Below w.heap.size w w' := by
 have hu28 := Try.underlying28
 have hu45 := Try.underlying45
 have hu3 := Try.underlying3
 have hu113 := under113
 have hz113 := (zero_of_info info113).1
 have HR := Q0z.mk hr
 clear hr
 have hl1_ : l.length ≤ 9223372036854775807 := hr1.2.1
 have HR1 := Q0z.mk hr1
 clear hr1
 have HOK := Q0z.mk (NetOk.of hg)
 have ZG : Q0z (thompson_GoodNet.f a L = some true) := ⟨by unfold thompson_GoodNet.f; rw [hg]⟩
 have HRES := Q0z.mk hres
 have HRO := Q0z.mk hR
 clear hres hg hR
 obtain ⟨c1_, c2_⟩ := cells2 (show (w.alloc (.cells #[.int .i64 a, .slice A L.length c] 28)).heap[w.heap.size]? = some (.cells #[.int .i64 a, .slice A L.length c] 28 (0, 0)) from new_at _ (by simp))
 go_enter Try.func61, Try.ntmps61
 go_wp2_with (first | (go_at_call 38; have hF_ := ZG.1; clear ZG; (try clear c1_ c2_); refine calls_new (v := w) (F := fun W => W.heap[w.heap.size]? = some (.cells #[.int .i64 a, .slice A L.length c] 28 (0, 0))) (ba (Below.refl _ _) (.cells #[.int .i64 a, .slice A L.length c] 28)) (new_at _ (by simp)) (fun w3_ b_ f_ => ?_); have S4_ := Q0z.mk b_; have K5_ := Q0z.mk f_; clear b_ f_; refine (thompson_GoodNet.calls a A c L   true _  (Kd.C_below HR.1 (S4_.1)) hc hF_).mono ?_; clear hF_; rintro e w6_ ⟨rfl, hb_⟩; have S7_ := Q0z.mk hb_; clear hb_; obtain ⟨c8_, c9_⟩ := cells2 (bbz K5_.1 (S7_.1))) | ((try clear c8_ c9_); (with_reducible refine gate_dst (N := 14) rfl ?_); refine Kd.R_lit (Kd.int .i64) _ 3 ?hg (N := 14) ?hd (xs := castL [0]) (inner := [.int .i64 0]) (ok := fun _ => True) (okp := fun _ => True) ?hr ?hp (fun _ hk => hk) trivial (Below.refl _ _) (Nat.le_refl _) (by simp [castL]) ?_; (case hd => rfl); (case hg => rfl); (case hr => first | (go_simp; done) | (go_simp; rfl)); (case hp => exact Reps.front (c := [.int .i64 0]) rfl rfl (Reps.none _ _) rfl); intro v14 w6 ho hb hg_ hnew_; have HQ6 := Q0z.mk ho; have HB6 := Q0z.mk hb; clear ho hb hg_ hnew_) | (go_at_call 103; refine (subset_closed 8000000000000 a A c L v14 [0] w6_ w6 (Kd.C_below HR.1 (bsz (bsz (S4_.1) S7_.1) (Below.refl _ _))) hc HB6.1 (Kd.Q_of_R HQ6.1) HOK.1.shut HOK.1.n2 (by simp; have h_ := HOK.1.n1; omega) (by have h_ := potE_by HRO.1 HOK.1.n2 (-1); have h2_ := (show [0].length ≤ 1 from Nat.le_refl _); show ([0]).length + potE (fun x => byL (-1) (L.getD x [])) [] L.length ≤ _; omega) (by decide)).mono ?_; rintro e w7 ⟨M0, v7, rfl, hcl_, hR_, hb_⟩; have HB7 := Q0z.mk hb_; have HR7 := Q0z.mk hR_; have HF0 : Q0z (vecOf L.length M0 = firstV L) := ⟨first_of HOK.1.shut (by have h_ := HOK.1.n1; omega) hcl_⟩; have HS0 : Q0z (M0.Nodup ∧ ∀ x ∈ M0, x < L.length) := ⟨⟨hcl_.1, hcl_.2.1⟩⟩; clear hcl_ hR_ hb_ HQ6 HB6) | ((with_reducible refine gate_store (t := 113) (p := 5) rfl ?_); refine wpList_store_row rfl 113 (.tmp 5) (.tmp 16) rfl w7.heap.size (setC M0) rfl rfl 113 (setC []) (new_at _ (by simp)) (by rw [setC_size]; exact (zero_of_info info113).2) (by rw [setC_size, setC_size]) (setC_one M0) ?_))
 have hblk_ : ((w7.alloc (.cells (setC []) 113)).setRow w7.heap.size (setC M0)).heap[w7.heap.size]? = some (.cells (setC M0) 113 (0, 0)) := blk_row (new_at _ (by simp)) (setC M0)
 have hb2_ : Below w7.heap.size w7 ((w7.alloc (.cells (setC []) 113)).setRow w7.heap.size (setC M0)) := Below.grown (ba (Below.refl _ _) (.cells (setC []) 113)) (grownBy_row _ _ _) (by simp) (fun k_ e_ => by cases e_; exact Nat.le_refl _)
 generalize ((w7.alloc (.cells (setC []) 113)).setRow w7.heap.size (setC M0)) = w8 at hblk_ hb2_ ⊢
 have HB8 := Q0z.mk (bsz HB7.1 hb2_)
 have HR8 := Q0z.mk (Kd.R_below HR7.1 hb2_)
 have HS8 := Q0z.mk hblk_
 have HZ : Q0z (w6_.heap.size ≤ w7.heap.size) := ⟨HB7.1.size⟩
 clear hblk_ hb2_ HB7 HR7
 go_loopw [6, 20] (fun v6 v20 wr => ∃ (i : Nat) (M : List Nat), i ≤ l.length ∧ v20 = .int .i64 (i : Int) ∧ Q0z (goesV a L (vecOf L.length M) (l.drop i) = r) ∧ Q0z (M.Nodup ∧ ∀ x ∈ M, x < L.length) ∧ Q0z (Kd.R (Kd.int .i64) 3 wr w6_.heap.size (fun _ => True) v6 (castL M)) ∧ Q0z (wr.heap[w7.heap.size]? = some (.cells (setC M) 113 (0, 0))) ∧ Q0z (Below w6_.heap.size w6_ wr)) (fun _ v20 _ => l.length - (intOf v20).toNat)
 case atStart => exact ⟨0, M0, Nat.zero_le _, rfl, ⟨by rw [HF0.1]; exact HRES.1⟩, HS0, HR8, HS8, HB8⟩
 case round =>
  clear HF0 HRES HS0 HR8 HS8 HB8
  obtain ⟨i, M, hi, rfl, HG, HS0, HR8, HS8, HB8⟩ := hrel
  obtain ⟨wz, rfl⟩ : ∃ wz, wz = wr := ⟨wr, rfl⟩
  obtain ⟨A7, c7, e_⟩ := castR_slice HR8.1
  subst e_
  by_cases hlt : i < l.length
  ·have q1b : decide ((i : Int) < (l.length : Int)) = true := decide_eq_true (by omega)
   obtain ⟨ad, e_, hx_⟩ := Kd.at_int HR1.1 (i : Int) (by omega) (by omega)
   cases e_
   rw [rd_nat, Int.toNat_natCast] at hx_
   obtain ⟨x, hx⟩ : ∃ x, x = l.getD i 0 := ⟨_, rfl⟩
   rw [← hx] at hx_
   have hdr : l.drop i = x :: l.drop (i + 1) := by rw [List.drop_eq_getElem_cons hlt, hx, List.getD_eq_getElem?_getD, List.getElem?_eq_getElem hlt]; rfl
   have hg_ := HG.1
   rw [hdr] at hg_
   have HG2 := Q0z.mk hg_
   have hx2_ := (Below.cell (bsz (bsz (S4_.1) S7_.1) (HB8.1)) (World.block_lt_of_cell? _ _ hx_)).trans hx_
   clear hx_ hx hdr hg_ HG
   have z1_ : ((0 : Int) ≤ (i : Int)) = True := eq_true (by omega)
   have z2_ : ((i : Int) < (l.length : Int)) = True := eq_true (by omega)
   have hz0_ : wz.cell? ⟨w.heap.size, 0, none⟩ = some (.int .i64 a) := (bcz (bbz K5_.1 (bsz (S7_.1) (HB8.1))) 0).trans (by rfl)
   by_cases hlow : x < 0
   ·have hr_ := HG2.1
    unfold goesV at hr_
    rw [if_pos (Or.inl hlow)] at hr_
    subst hr_
    have q3_ : (x < 0) = True := eq_true hlow
    have q4_ : decide (x < 0) = true := decide_eq_true hlow
    go_wp2
    go_ret
    exact ⟨rfl, bsz (bsz (S4_.1) S7_.1) (HB8.1)⟩
   ·have q3_ : (x < 0) = False := eq_false hlow
    have q4_ : decide (x < 0) = false := decide_eq_false hlow
    by_cases hhi : a ≤ x
    ·have hr_ := HG2.1
     unfold goesV at hr_
     rw [if_pos (Or.inr hhi)] at hr_
     subst hr_
     have q5_ : (a ≤ x) = True := eq_true hhi
     have q6_ : decide (a ≤ x) = true := decide_eq_true hhi
     have q7_ : decide (x ≥ a) = true := decide_eq_true hhi
     have q8_ : (x ≥ a) = True := eq_true hhi
     go_wp2
     go_ret
     exact ⟨rfl, bsz (bsz (S4_.1) S7_.1) (HB8.1)⟩
    ·have q5_ : (a ≤ x) = False := eq_false hhi
     have q6_ : decide (a ≤ x) = false := decide_eq_false hhi
     have q7_ : decide (x ≥ a) = false := decide_eq_false hhi
     have q8_ : (x ≥ a) = False := eq_false hhi
     have hr_ := HG2.1
     unfold goesV at hr_
     rw [if_neg (by omega)] at hr_
     have HG3 := Q0z.mk hr_
     clear hr_ HG2
     obtain ⟨cc, hcc⟩ : ∃ q : Nat, x = (q : Int) := ⟨x.toNat, by omega⟩
     subst hcc
     rw [Int.toNat_natCast] at HG3
     go_wp2
     clear hz0_ hx2_ q1b q3_ q4_ q5_ q6_ q7_ q8_ z1_ z2_
     refine start_ (n := 11) (S := fun w' => Below wz.heap.size wz w') (ds := [5, 9]) (mk 11 0) (by kernel_rfl) rfl (by kernel_rfl) (bD (Below.refl _ _)) (fun hHeld => ?_)
     refine with_tabW subset_Goes.tab9 subset_Goes.bits9 (fun HT_ HW_ => ?_)
     obtain ⟨wd, hwd⟩ : ∃ x, x = wz.drew := ⟨_, rfl⟩
     have hz_ : Below wz.heap.size wz wd := by rw [hwd]; exact bD (Below.refl _ _)
     have HRd := Q0z.mk (Kd.R_below HR8.1 hz_)
     have HSd := Q0z.mk (bbz HS8.1 hz_)
     have HBd := Q0z.mk (bsz HB8.1 hz_)
     rw [← hwd] at hHeld ⊢
     clear hwd
     refine pz 2 (some 35) (mk 11 4) HT_.1 ?_
     refine pz 3 (some 36) (mk 11 12) HT_.1 ?_
     refine tz 0 (some 33) (mk 11 13) HT_.1 HW_.1 hHeld ?_ (hy := Or.inl ⟨by rfl, fun w' s0 => by have c0_ : w'.cell? ⟨w.heap.size, 0, none⟩ = some (.int .i64 a) := (bcz (bbz K5_.1 (bsz (S7_.1) (bsz HB8.1 s0))) 0).trans (by rfl); have c1_ : w'.cell? ⟨w.heap.size, 1, none⟩ = some (.slice A L.length c) := (bcz (bbz K5_.1 (bsz (S7_.1) (bsz HB8.1 s0))) 1).trans (by rfl); clear s0; go_simp; with_reducible rfl⟩)
     refine tz 1 (some 34) (mk 11 15) HT_.1 HW_.1 hHeld ?_ (hy := Or.inl ⟨by rfl, fun w' s0 => by have c0_ : w'.cell? ⟨w.heap.size, 0, none⟩ = some (.int .i64 a) := (bcz (bbz K5_.1 (bsz (S7_.1) (bsz HB8.1 s0))) 0).trans (by rfl); have c1_ : w'.cell? ⟨w.heap.size, 1, none⟩ = some (.slice A L.length c) := (bcz (bbz K5_.1 (bsz (S7_.1) (bsz HB8.1 s0))) 1).trans (by rfl); clear s0; go_simp; with_reducible rfl⟩)
     refine oz 4 (some 37) (mk 11 31) HT_.1 (fun K hK => ?_)
     have hrd_ := (Kd.R_reads' HRd.1).2
     rw [castL_length] at hrd_
     have hc_ := to_cast a A c L A7 c7 M (cc : Int) wd (Kd.C_below HR.1 (bsz (bsz (S4_.1) S7_.1) (HBd.1))) hc hrd_.2 hrd_.1 HOK.1.shut HRO.1 HOK.1.n2 HS0.1
     clear hrd_
     refine gz Try.func100 ?_
     refine hc_.mono ?_
     clear hc_
     rintro e wt ⟨vt, rfl, ho_, hb_⟩
     refine ⟨_, rfl, ?_⟩
     have HQt := Q0z.mk ho_
     have HBt := Q0z.mk hb_
     clear ho_
     refine hK.out _ _ (bsz hHeld hb_) (fun hHeld => ?_)
     clear hK K
     refine nz ?_
     refine last_ (i := 5) (N := some 38) (mk 11 63) rfl rfl (one_of HT_.1 (by kernel_rfl)) (by decide) (fun K hK => ?_)
     have hc_ := subset_closed 8000000000000 a A c L vt (toL L M (cc : Int)) wd wt (Kd.C_below HR.1 (bsz (bsz (S4_.1) S7_.1) (HBd.1))) hc HBt.1 (Kd.Q_of_R HQt.1) HOK.1.shut HOK.1.n2 (toL_low HOK.1.shut HS0.1.2 _) (by have h_ := potE_by HRO.1 HOK.1.n2 (-1); have h2_ := toL_le (c := (cc : Int)) HRO.1 HOK.1.n2 HS0.1.1 HS0.1.2; show ((toL L M (cc : Int))).length + potE (fun x => byL (-1) (L.getD x [])) [] L.length ≤ _; omega) (by decide)
     refine gz Try.func103 ?_
     refine hc_.mono ?_
     clear hc_
     rintro e ws ⟨M2, v2, rfl, hcl_, hR_, hb_⟩
     refine ⟨_, rfl, ?_⟩
     have HVS : Q0z (vecOf L.length M2 = stepV L (vecOf L.length M) cc) := ⟨step_of HOK.1.shut HS0.1.2 hcl_⟩
     have HS2 : Q0z (M2.Nodup ∧ ∀ x ∈ M2, x < L.length) := ⟨⟨hcl_.1, hcl_.2.1⟩⟩
     have HRs := Q0z.mk (Kd.R_lower hR_ HBd.1.size)
     have HSs := Q0z.mk (bbz HSd.1 hb_)
     have HBs := Q0z.mk (bsz HBd.1 hb_)
     clear hcl_ hR_ hb_ HQt HBt
     refine hK.out _ _ ?_
     clear hK K
     refine nz ?_
     refine pz 6 (some 32) (mk 11 127) HT_.1 ?_
     refine pz 7 (some 39) (mk 11 255) HT_.1 ?_
     refine pz 8 (some 40) (mk 11 511) HT_.1 ?_
     refine last_ (i := 9) (N := none) (mk 11 1023) rfl rfl (one_of HT_.1 (by kernel_rfl)) (by decide) (fun K hK => ?_)
     refine skip_ (w1 := ws.setRow w7.heap.size (setC M2)) (by rfl) rfl ?_ ?_
     ·exact exec_store_row 113 (.tmp 5) (.tmp 39) rfl w7.heap.size (setC M2) rfl rfl 113 (setC M) HSs.1 (by rw [setC_size]; exact (zero_of_info info113).2) (by rw [setC_size, setC_size]) (setC_one M2)
     refine hK.out _ _ ?_
     clear hK K
     refine pz 10 (some 6) (mk 11 2047) HT_.1 ?_
     refine done_ (done_of HT_.1 (by kernel_rfl)) ?_
     go_wp2
     go_roundw
     case measure => simp [intOf]; omega
     case rel => exact ⟨i + 1, M2, hlt, by go_num, ⟨by rw [HVS.1]; exact HG3.1⟩, HS2, ⟨Kd.R_over' (v := .slice (some ⟨w7.heap.size, 0, none⟩) 0 0) HRs.1 (fun k hk => by cases hk; exact ⟨_, HSs.1⟩) (by decide) (grownBy_row _ _ _)⟩, ⟨blk_row HSs.1 (setC M2)⟩, ⟨Below.grown HBs.1 (grownBy_row ws (w7.heap.size) (setC M2)) HBs.1.size (fun k_ e_ => by cases e_; exact HZ.1)⟩⟩
  ·have q1b : decide ((i : Int) < (l.length : Int)) = false := decide_eq_false (by omega)
   have q1c : (i < l.length) = False := eq_false (by omega)
   obtain rfl : i = l.length := by omega
   have hr_ := HG.1
   rw [List.drop_length] at hr_
   unfold goesV at hr_
   rw [endOf_vec M HOK.1.n1] at hr_
   have HRR := Q0z.mk hr_
   clear hr_
   have ZH := Q0z.mk (set_has w7.heap.size M 1 (by decide) wz HS8.1)
   have hd_ : decide (1 ∈ M) = r := HRR.1
   rw [hd_] at ZH
   clear hd_
   go_wp2_with (first | (go_at_call 104; have hF_ := ZH.1; clear ZH; refine hF_.mono ?_; clear hF_; rintro e wx ⟨rfl, rfl⟩))
   go_ret
   exact ⟨rfl, bsz (bsz (S4_.1) S7_.1) (HB8.1)⟩
theorem subset_Goes.told (a : Int) (A : Option Addr) (c : Nat) (L : List (List S82)) (A1 : Option Addr) (c1 : Nat) (l : List Int) (w : World) (hr : Kd.C (Kd.slice 82 k82) w A L.length L) (hc : L.length ≤ c) (hr1 : Kd.C (Kd.int .i64) w A1 l.length l) (hc1 : l.length ≤ c1) (hR : rowsOk L) (r : Bool) (hres : goesF a L l = r) : Calls Try.prog 61 #[.agg #[.int .i64 a, .slice A L.length c], .slice A1 l.length c1] w fun e w' => e = .returned (.bool r) ∧ Below w.heap.size w w' := by
 unfold goesF at hres
 cases hg : goodNetB a L with
 | false =>
  rw [hg] at hres
  simp only [Bool.false_eq_true, if_false] at hres
  subst hres
  exact subset_Goes.bad a A c L A1 c1 l w hr hc hr1 hc1 hg
 | true =>
  rw [hg] at hres
  simp only [if_true] at hres
  exact subset_Goes.main a A c L A1 c1 l w hr hc hr1 hc1 hg hR r hres

end Go.Proofs.Ytelkjbacdpmnfaa.A
namespace Go.Proofs.Ytelkjbacdpmnfaa.A
open Go.RowKit Go.W_.PrintWords Go.W_.PrintLast Go.W_.PrintMore
attribute [local go_sem] max2_int min2_int max_two min_two max_three min_three max_four min_four
set_option linter.unusedVariables false
set_option linter.unusedSimpArgs false

def subset_Goes.f (a0_0 : Int) (l0_1 : List (List S82)) (l1 : List Int) : Option Bool := if rowsOkB l0_1 = true then some (goesF a0_0 l0_1 l1) else none
theorem subset_Goes.calls (a0_0 : Int) (A0_1 : Option Addr) (c0_1 : Nat) (l0_1 : List (List (S82))) (A1 : Option Addr) (c1 : Nat) (l1 : List Int) (r : Bool) (w : World) (hr0_1 : Kd.C (Kd.slice 82 k82) w A0_1 l0_1.length l0_1) (hc0_1 : l0_1.length ≤ c0_1) (hr1 : Kd.C (Kd.int .i64) w A1 l1.length l1) (hc1 : l1.length ≤ c1) (h : subset_Goes.f a0_0 l0_1 l1 = some r) :
  Calls Try.prog 61 #[.agg #[.int .i64 a0_0, .slice A0_1 l0_1.length c0_1], .slice A1 l1.length c1] w fun e w' => e = .returned (.bool r) ∧ Below w.heap.size w w' := by
 unfold subset_Goes.f at h
 split at h
 ·rename_i hk
  exact subset_Goes.told a0_0 A0_1 c0_1 l0_1 A1 c1 l1 w hr0_1 hc0_1 hr1 hc1 (rowsOk_of hk) r (Option.some.inj h)
 ·cases h

end Go.Proofs.Ytelkjbacdpmnfaa.A
namespace Go.Proofs.Ytelkjbacdpmnfaa.A
open Go.RowKit Go.W_.PrintWords Go.W_.PrintLast Go.W_.PrintMore
attribute [local go_sem] max2_int min2_int max_two min_two max_three min_three max_four min_four
set_option linter.unusedVariables false
set_option linter.unusedSimpArgs false

def subset_state.T2 : Bool × List (List Nat × List Nat) := (true, [([], []), ([0], [0]), ([1], [1]), ([2], [2]), ([], []), ([3, 4], [3, 4]), ([5], [5]), ([6], [6]), ([6], [6]), ([7, 0, 1, 2, 3, 4, 5, 6, 7], [7]), ([8, 9, 0, 1, 2, 3, 4, 5, 6, 7, 8, 9], [8])])
def subset_state.B2 : List Nat := [0, 1, 3, 7, 0, 31, 63, 127, 127, 255, 1023]
theorem subset_state.tab2 : rtab .any (opsOf Try.f99 2) = subset_state.T2 := by kernel_rfl
theorem subset_state.bits2 : waitsOk subset_state.T2.2 subset_state.B2 = true := by kernel_rfl
def subset_state.T7 : Bool × List (List Nat × List Nat) := (true, [([], []), ([], []), ([1], [1]), ([2], [2]), ([3], [3]), ([4], [4]), ([], []), ([6], [6]), ([5, 7, 6], [5, 7]), ([0, 0, 1, 2, 3, 4, 5, 6, 7, 8], [0]), ([9, 0, 1, 2, 3, 4, 5, 6, 7, 8], [9]), ([10, 0, 1, 2, 3, 4, 5, 6, 7, 8], [10]), ([11, 8, 8, 0, 1, 2, 3, 4, 5, 6, 7, 8], [8, 11])])
def subset_state.B7 : List Nat := [0, 0, 2, 6, 14, 30, 0, 64, 254, 511, 1023, 2047, 4095]
theorem subset_state.tab7 : rtab .any (opsOf Try.f99 7) = subset_state.T7 := by kernel_rfl
theorem subset_state.bits7 : waitsOk subset_state.T7.2 subset_state.B7 = true := by kernel_rfl
set_option maxHeartbeats 8000000 in
set_option maxRecDepth 100000 in
theorem subset_state (b g gm : Nat) (a : Int) (A : Option Addr) (c : Nat) (L : List (List S82)) (P : Nat → Prop) (Ls : List (List Nat)) (X : List (List Int)) (vL vN vA v1 : Value) (Q0 : List Nat) (w0 w : World) (hr : Kd.C (Kd.slice 82 k82) w0 A L.length L) (hc : L.length ≤ c) (hw : Below w0.heap.size w0 w) (hm : Maker b g gm a A L.length c P w0 Ls X vL vN vA) (hbz : b ≤ w0.heap.size) (hQ : Kd.Q (Kd.int .i64) 3 w w0.heap.size (fun _ => True) v1 (castL Q0)) (hs : netShut L) (hR : rowsOk L) (hN : L.length ≤ 4000) (hN1 : 1 < L.length) (hq0 : ∀ x ∈ Q0, x < L.length) (hq1 : Q0.length ≤ 4000000000000) (hLs : Ls.length ≤ 100000) :
  Calls Try.prog 99 #[.pointer (some ⟨g, 0, none⟩), v1] w fun e w' => ∃ (M : List Nat) (P' : Nat → Prop) (Ls' : List (List Nat)) (vL' vA' : Value), Closure (ntL L) L.length Q0 M ∧ e = .returned (.int .i64 ((((Ls.map (vecOf L.length)).idxOf (vecOf L.length M) : Nat)) : Int)) ∧ (Ls' = if vecOf L.length M ∈ Ls.map (vecOf L.length) then Ls else Ls ++ [M]) ∧ Maker b g gm a A L.length c P' w' Ls' X vL' vN vA' ∧ (∀ k, P k → P' k) ∧ (∀ k, P' k → P k ∨ w0.heap.size ≤ k) ∧ Keeps b P w0 w' := by
 have hu28 := Try.underlying28
 have hu45 := Try.underlying45
 have hu22 := Try.underlying22
 have hu23 := Try.underlying23
 have hu3 := Try.underlying3
 have hu113 := under113
 have hz113 := (zero_of_info info113).1
 have HBK := Q0z.mk hm.blk
 obtain ⟨i0_, i1_, i2_, i3_, i4_, i5_, i6_⟩ := maker7 (bbz HBK.1 hw)
 have HOWN := Q0z.mk hm.own
 have HM := Q0z.mk hm
 have ZC := Q0z.mk (subset_closed 8000000000000 a A c L v1 Q0 w0 w hr hc hw hQ hs hN hq0 (by have h_ := potE_by hR hN (-1); show Q0.length + potE (fun x => byL (-1) (L.getD x [])) [] L.length ≤ _; omega) (by decide))
 have HLS := Q0z.mk hLs
 have HBZ := Q0z.mk hbz
 have HN1 := Q0z.mk hN1
 clear hr hw hm hQ hs hR hq0 hq1 hLs hbz hN1
 go_enter Try.func99, Try.ntmps99
 go_wp2_with (first | (go_at_call 103; have hF_ := ZC.1; clear ZC i0_ i1_ i2_ i3_ i4_ i5_ i6_; refine hF_.mono ?_; clear hF_; rintro e w1 ⟨M, v2, rfl, hcl_, hR_, hb_⟩; obtain ⟨A7, c7, rfl⟩ := castR_slice hR_; have HCL := Q0z.mk hcl_; have HR2 := Q0z.mk hR_; have HB1 := Q0z.mk hb_; have HM1 := Q0z.mk (HM.1.below hb_); clear hcl_ hR_ hb_) | ((with_reducible refine gate_store (t := 113) (p := 5) rfl ?_); refine wpList_store_row rfl 113 (.tmp 5) (.tmp 16) rfl w1.heap.size (setC M) rfl rfl 113 (setC []) (new_at _ (by simp)) (by rw [setC_size]; exact (zero_of_info info113).2) (by rw [setC_size, setC_size]) (setC_one M) ?_))
 have hblk_ : ((w1.alloc (.cells (setC []) 113)).setRow w1.heap.size (setC M)).heap[w1.heap.size]? = some (.cells (setC M) 113 (0, 0)) := blk_row (new_at _ (by simp)) (setC M)
 have hb2_ : Below w1.heap.size w1 ((w1.alloc (.cells (setC []) 113)).setRow w1.heap.size (setC M)) := Below.grown (ba (Below.refl _ _) (.cells (setC []) 113)) (grownBy_row _ _ _) (by simp) (fun k_ e_ => by cases e_; exact Nat.le_refl _)
 generalize ((w1.alloc (.cells (setC []) 113)).setRow w1.heap.size (setC M)) = w2 at hblk_ hb2_ ⊢
 have HB2 := Q0z.mk (bsz HB1.1 hb2_)
 have HM2 := Q0z.mk (HM1.1.below hb2_)
 have HR3 := Q0z.mk (Kd.R_below HR2.1 hb2_)
 have HSB := Q0z.mk hblk_
 have HZ : Q0z (w0.heap.size ≤ w1.heap.size ∧ w1.heap.size < w2.heap.size) := ⟨⟨HB1.1.size, blk_lt hblk_⟩⟩
 clear hblk_ hb2_ HM1 HR2 HB1
 obtain ⟨wd, hwd⟩ : ∃ x, x = w2.drew := ⟨_, rfl⟩
 have HMd : Q0z (Maker b g gm a A L.length c P wd Ls X vL vN vA) := ⟨by rw [hwd]; exact HM2.1.below (bD (Below.refl _ _))⟩
 have HBd : Q0z (Below w0.heap.size w0 wd) := ⟨by rw [hwd]; exact bD HB2.1⟩
 have HRd : Q0z (Kd.R (Kd.int .i64) 3 wd w0.heap.size (fun _ => True) (.slice A7 M.length c7) (castL M)) := ⟨by rw [hwd]; exact Kd.R_drew HR3.1⟩
 have HSd : Q0z (wd.heap[w1.heap.size]? = some (.cells (setC M) 113 (0, 0))) := ⟨by rw [hwd]; exact bd HSB.1⟩
 have HZd : Q0z (w0.heap.size ≤ w1.heap.size ∧ w1.heap.size < wd.heap.size) := ⟨⟨HZ.1.1, blk_lt HSd.1⟩⟩
 obtain ⟨V, hV⟩ : ∃ V, V = vecOf L.length M := ⟨_, rfl⟩
 obtain ⟨D, hD, hND⟩ := HMd.1.map
 have HVl : Q0z (V.length = L.length) := ⟨by rw [hV]; exact vecOf_length _ _⟩
 have HKEY : Q0z (keyOf Try.prog 113 (.agg (setC M)) = some (vecKey V)) := ⟨by rw [hV]; exact vec_key HCL.1.2.1⟩
 have HV := Q0z.mk hV
 clear hV
 have HLK : Q0z (∃ v, (Instr.lookup 103 (.map (some gm)) (.agg (setC M)) true).run Try.prog wd = .ok v wd ∧ v = .tuple #[.int .i64 (if V ∈ Ls.map (vecOf L.length) then (((Ls.map (vecOf L.length)).idxOf V : Nat) : Int) else 0), .bool ((Ls.map (vecOf L.length)).contains V)]) := ⟨by
   obtain ⟨v_, ps_, hrun_, hv_⟩ := hD.look_ok keyed113 under103 (zero3' wd) (zd := .lit (.int .i64 0)) (zp := []) (plainElem_int Try.underlying3 (by decide)) HKEY.1
   obtain ⟨cv_, rfl, hc_, hwc_⟩ := plainElem_int_inv Try.underlying3 hv_
   refine ⟨_, hrun_, ?_⟩
   have h1_ := (hND.2.2 V HVl.1)
   have h2_ := (congrArg Prod.fst hc_).symm.trans h1_.2
   rw [h1_.1]
   congr 3
   split at h2_ <;> simp_all⟩
 have HD := Q0z.mk hD
 have HND := Q0z.mk hND
 clear hD hND
 obtain ⟨met, hmet⟩ : ∃ q, q = (Ls.map (vecOf L.length)).contains V := ⟨_, rfl⟩
 obtain ⟨kk, hkk⟩ : ∃ q, q = (if V ∈ Ls.map (vecOf L.length) then (((Ls.map (vecOf L.length)).idxOf V : Nat) : Int) else 0) := ⟨_, rfl⟩
 have hlk_ := HLK.1
 rw [← hmet, ← hkk] at hlk_
 obtain ⟨vl_, hrun_, hv_⟩ := hlk_
 have hLK : (Instr.lookup 103 (.map (some gm)) (.agg (setC M)) true).run Try.prog wd = .ok (.tuple #[.int .i64 kk, .bool met]) wd := by rw [← hv_]; exact hrun_
 clear hrun_ hv_ vl_ HLK
 have HLK := Q0z.mk hLK
 have HMET := Q0z.mk hmet
 have HKK := Q0z.mk hkk
 clear hLK hmet hkk
 obtain ⟨-, -, m2_, m3_, -, -, m6_⟩ := maker7 HMd.1.blk
 have C2 := Q0z.mk m2_
 have C3 := Q0z.mk m3_
 have C6 := Q0z.mk m6_
 clear m2_ m3_ m6_
 refine start_ (n := 11) (S := fun w' => w' = w2.drew) (ds := []) (mk 11 0) (by kernel_rfl) rfl (by kernel_rfl) (rfl) (fun hHeld => ?_)
 refine with_tabW subset_state.tab2 subset_state.bits2 (fun HT_ HW_ => ?_)
 clear hHeld
 rw [← hwd]
 clear hwd
 refine pz 0 (some 19) (mk 11 1) HT_.1 ?_
 refine pz 1 (some 20) (mk 11 3) HT_.1 ?_
 refine pz 2 (some 21) (mk 11 7) HT_.1 ?_
 refine tz 3 (some 22) (mk 11 15) HT_.1 HW_.1 rfl ?_ (hy := Or.inl ⟨by rfl, fun w' s0 => by have c_ := C2.1; subst s0; go_simp; with_reducible rfl⟩)
 refine tz 4 (some 23) (mk 11 31) HT_.1 HW_.1 rfl ?_ (hy := Or.inl ⟨by rfl, fun w' s0 => by subst s0; exact exec_load_row 113 (.tmp 5) rfl w1.heap.size rfl 113 (setC M) (0, 0) _ HSd.1 under113 rfl (by rw [setC_size]; exact (zero_of_info info113).2)⟩)
 refine tz 5 (some 24) (mk 11 63) HT_.1 HW_.1 rfl ?_ (hy := Or.inl ⟨by rfl, fun w' s0 => by subst s0; exact exec_lookup_ok 103 (.tmp 22) (.tmp 23) rfl rfl rfl HLK.1⟩)
 refine pz 6 (some 18) (mk 11 127) HT_.1 ?_
 refine pz 7 (some 25) (mk 11 255) HT_.1 ?_
 refine pz 8 (some 26) (mk 11 511) HT_.1 ?_
 refine pz 9 (some 7) (mk 11 1023) HT_.1 ?_
 refine pz 10 (some 8) (mk 11 2047) HT_.1 ?_
 refine done_ (done_of HT_.1 (by kernel_rfl)) ?_
 by_cases hmem : V ∈ Ls.map (vecOf L.length)
 ·have hmt : met = true := by rw [HMET.1]; simpa using hmem
  have hkt : kk = (((Ls.map (vecOf L.length)).idxOf V : Nat) : Int) := by rw [HKK.1, if_pos hmem]
  subst hmt
  subst hkt
  have HMEM := Q0z.mk hmem
  clear hmem
  go_wp2
  go_ret
  refine ⟨M, P, Ls, vL, vA, HCL.1, by rw [HV.1]; rfl, by rw [if_pos (by rw [← HV.1]; exact HMEM.1)], HMd.1, fun _ h_ => h_, fun _ h_ => .inl h_, Keeps.of_below HBZ.1 HBd.1⟩
 ·have hmt : met = false := by rw [HMET.1]; simpa using hmem
  subst hmt
  have HMEM := Q0z.mk hmem
  clear hmem HMET
  obtain ⟨AL, cL, e_⟩ := castLs_slice HMd.1.lists
  subst e_
  obtain ⟨AA, cA, e_⟩ := ends_slice HMd.1.acc
  subst e_
  have c3_ := C3.1
  go_wp2
  clear c3_
  obtain ⟨we, hwe⟩ : ∃ x, x = wd.drew := ⟨_, rfl⟩
  have hbd_ : Below wd.heap.size wd we := by rw [hwe]; exact bD (Below.refl _ _)
  have HBe := Q0z.mk (bsz HBd.1 hbd_)
  have HBK1 := Q0z.mk (bbz HMd.1.blk hbd_)
  have HMi := Q0z.mk (Mid.of HM.1 HBe.1 HBZ.1)
  have HRe := Q0z.mk (Kd.R_mono (ok' := fun k => w0.heap.size ≤ k) (Kd.R_bound (Kd.R_below HRd.1 hbd_)) (fun _ h_ => h_.2.1))
  have HSe := Q0z.mk (bbz HSd.1 hbd_)
  have HDe : Q0z (we.ownsMap Try.prog 113 (plainElem Try.prog 3) gm Ls.length D) := ⟨by rw [hwe]; exact HD.1.drew⟩
  have C2e : Q0z (we.cell? ⟨g, 2, none⟩ = some (.map (some gm))) := ⟨(maker7 HBK1.1).2.2.1⟩
  have HUP : Q0z (∃ wu, (Instr.mapUpdate 103 (.map (some gm)) (.agg (setC M)) (.int .i64 (Ls.length : Int))).run Try.prog we = .ok () wu ∧ we.grownBy wu (some gm) ∧ SetMap L.length wu gm (Ls.length + 1) (Ls.map (vecOf L.length) ++ [V])) := ⟨by
    have hl_ := HLS.1
    obtain ⟨wu, h1_, h2_, h3_⟩ := HDe.1.update keyed113 under103 (by unfold maxLen; omega) HKEY.1 (plainElem_int Try.underlying3 (small_wf (show Ls.length ≤ 1000000 by omega)))
    have h4_ := HND.1.put (fun x y hx hy => vecKey_inj hx hy hN) HVl.1 (keyed113.key HKEY.1) HMEM.1
    rw [List.length_map] at h4_
    exact ⟨wu, h1_, h3_, _, h2_, h4_⟩⟩
  obtain ⟨wu, hup_, hgu_, hmu_⟩ := HUP.1
  have HUQ := Q0z.mk hup_
  have HGU := Q0z.mk hgu_
  have HMu := Q0z.mk (HMi.1.upd hgu_ hmu_)
  have HBKu := Q0z.mk (bG HBK1.1 hgu_ (fun e_ => HOWN.1.2.2.1 (Option.some.inj e_)))
  have HRu := Q0z.mk (Kd.R_step HRe.1 (fun k_ hk_ hl_ => hgu_.block k_ hl_ (fun e_ => by have h1_ := Option.some.inj e_; have h2_ := HMi.1.gmlt; omega)))
  have HSu := Q0z.mk (bG HSe.1 hgu_ (fun e_ => by have h1_ := Option.some.inj e_; have h2_ := HMi.1.gmlt; have h3_ := HZd.1.1; omega))
  clear hup_ hgu_ hmu_ HUP hbd_ HBe HRd HSd HBd HD HND HMi
  refine start_ (n := 7) (S := fun w' => w' = wd.drew) (ds := [6]) (mk 7 0) (by kernel_rfl) rfl (by kernel_rfl) (rfl) (fun hHeld => ?_)
  clear hHeld
  rw [← hwe]
  clear hwe
  refine pure_ (i := 0) (N := some 34) (v := ?_) (a' := ?_) (mk 7 1) rfl rfl (by kernel_rfl) (fun _ _ _ h => h) (Or.inl ⟨by rfl, ?_⟩) ?_ ?_
  rotate_left
  ·intro w'
   go_simp
   with_reducible rfl
  rotate_left
  ·simp only [Act.put, sA, sB, sC, i64_w, i32_w]
   rfl
  refine pure_ (i := 1) (N := some 35) (v := ?_) (a' := ?_) (mk 7 3) rfl rfl (by kernel_rfl) (fun _ _ _ h => h) (Or.inl ⟨by rfl, ?_⟩) ?_ ?_
  rotate_left
  ·intro w'
   go_simp
   with_reducible rfl
  rotate_left
  ·simp only [Act.put, sA, sB, sC, i64_w, i32_w]
   rfl
  refine pure_ (i := 2) (N := some 36) (v := ?_) (a' := ?_) (mk 7 7) rfl rfl (by kernel_rfl) (fun _ _ _ h => h) (Or.inl ⟨by rfl, ?_⟩) ?_ ?_
  rotate_left
  ·intro w'
   go_simp
   with_reducible rfl
  rotate_left
  ·simp only [Act.put, sA, sB, sC, i64_w, i32_w]
   rfl
  refine pure_ (i := 5) (N := some 39) (v := ?_) (a' := ?_) (mk 7 39) rfl rfl (by kernel_rfl) (fun _ _ _ h => h) (Or.inl ⟨by rfl, ?_⟩) ?_ ?_
  rotate_left
  ·intro w'
   go_simp
   with_reducible rfl
  rotate_left
  ·simp only [Act.put, sA, sB, sC, i64_w, i32_w]
   rfl
  refine take_ (i := 3) (N := some 37) (v := ?_) (a' := ?_) (mk 7 47) rfl rfl (by kernel_rfl) (fun _ _ _ h => h) (Or.inl ⟨by rfl, ?_⟩) rfl ?_ ?_
  rotate_left
  ·intro w' s0
   have c_ := C2e.1
   subst s0
   go_simp
   with_reducible rfl
  rotate_left
  ·simp only [Act.put, sA, sB, sC, i64_w, i32_w]
   rfl
  refine take_ (i := 4) (N := some 38) (v := ?_) (a' := ?_) (mk 7 63) rfl rfl (by kernel_rfl) (fun _ _ _ h => h) (Or.inl ⟨by rfl, ?_⟩) rfl ?_ ?_
  rotate_left
  ·intro w' s0
   subst s0
   refine Eq.trans (exec_load_row 113 (.tmp 5) rfl w1.heap.size rfl 113 (setC M) (0, 0) _ HSe.1 under113 rfl (by rw [setC_size]; exact (zero_of_info info113).2)) ?_
   with_reducible rfl
  rotate_left
  ·simp only [Act.put, sA, sB, sC, i64_w, i32_w]
   rfl
  refine last_ (i := 6) (N := none) (mk 7 127) rfl rfl (by kernel_rfl) (by decide) (fun K hK => ?_)
  refine skip_ (w1 := wu) (by rfl) rfl ?_ ?_
  ·exact exec_mapUpdate 103 (.tmp 37) (.tmp 38) (.tmp 39) rfl (vm := .map (some gm)) (vx := .agg (setC M)) (vv := .int .i64 (Ls.length : Int)) rfl rfl rfl HUQ.1
  refine hK.out _ _ ?_
  clear hK K
  refine done_ (by kernel_rfl) ?_
  clear HUQ C2e C2 C3 C6 HSe HRe HDe HGU HBK1
  have c3_ : wu.cell? ⟨g, 3, none⟩ = some (.slice AL Ls.length cL) := (maker7 HBKu.1).2.2.2.1
  have HOB : Q0z (∀ k, w0.heap.size ≤ k → some k ≠ (Value.slice AL Ls.length cL).ownBlock) := ⟨fun k_ hk_ e_ => by have h1_ := HM.1.low k_ (HM.1.lists.1 k_ e_.symm).1; omega⟩
  have HLM : Q0z ((Ls.map castL).length = Ls.length) := ⟨by rw [List.length_map]⟩
  obtain ⟨L2, hL2⟩ : ∃ l, l = Ls ++ [M] := ⟨_, rfl⟩
  have HCM : Q0z (Ls.map castL ++ [castL M] = L2.map castL) := ⟨by rw [hL2]; simp⟩
  have HEM : Q0z (Ls.map endOf ++ [endOf M] = L2.map endOf) := ⟨by rw [hL2]; simp⟩
  have HL2 := Q0z.mk hL2
  clear hL2
  go_wp2_with (first | ((with_reducible refine gate_builtin (b := .append) (xs := #[.tmp 44, .tmp 46]) rfl ?_); at_builtin; refine Kd.R_append KI3 (w0 := w0) b rfl (.tmp 44) (.tmp 46) 22 45 (.slice none 0 0) 24 rfl Try.underlying22 info45 rfl (by decide) (by omega) (.slice AL Ls.length cL) (Ls.map castL) (castL M) [.slice A7 M.length c7] (fun k => (P k ∨ w0.heap.size ≤ k) ∧ k ≠ gm) (fun k => w0.heap.size ≤ k) rfl (by first | rfl | (rw [World.size_alloc]; rfl)) ?aP ?aK ?aF ?aO ?aB ?aS ?aL ?_; (case aP => exact Kd.M_row (Kd.R_lower HRu.1 HBZ.1)); (case aK => exact (fun k_ hk_ => ⟨⟨.inr hk_, by have h_ := HMu.1.gmlt; omega⟩, HOB.1 k_ hk_⟩)); (case aF => exact HMu.1.fresh); (case aO => exact HMu.1.lists); (case aB => exact HMu.1.keeps.bel); (case aS => exact Nat.le_trans HBZ.1 HMu.1.keeps.bel.size); (case aL => rw [HLM.1]; have h_ := HLS.1; omega); intro vL2 w6 ho hb hg hat; rw [HCM.1] at ho; obtain ⟨U3, e3, e_⟩ := castLs_slice ho; subst e_; have HM6 := Q0z.mk (HMu.1.list hg ho); have HBK6 := Q0z.mk (bG HBKu.1 hg (Kd.R_ne HMu.1.lists HBKu.1 (by decide))); have HS6 := Q0z.mk (bG HSu.1 hg (Kd.R_ne HMu.1.lists HSu.1 (by decide))); clear ho hb hg hat c3_; have zf_ := bf HBK6.1 3; have c3_ : w6.cell? ⟨g, 3, none⟩ = some (.slice AL Ls.length cL) := (maker7 HBK6.1).2.2.2.1))
  clear c3_ zf_
  have HBK7 : Q0z ((w6.setCell ⟨g, 3, none⟩ (.slice U3 L2.length e3)).heap[g]? = some (.cells (makerC a A L.length c gm (.slice U3 L2.length e3) vN (.slice AA Ls.length cA)) 105 (0, 0))) := ⟨bp (cs' := makerC a A L.length c gm (.slice U3 L2.length e3) vN (.slice AA Ls.length cA)) HBK6.1 3 (.slice U3 L2.length e3) rfl⟩
  have HM7 := Q0z.mk (HM6.1.set HBK6.1 3 (.slice U3 L2.length e3))
  have HS7 := Q0z.mk (bF (p := ⟨g, 3, none⟩) HS6.1 (by have h_ := HM6.1.glt; have h2_ := HZd.1.1; dsimp only; omega) (.slice U3 L2.length e3))
  generalize w6.setCell ⟨g, 3, none⟩ (.slice U3 L2.length e3) = w7 at HBK7 HM7 HS7 ⊢
  clear HM6 HBK6 HS6 HMu HBKu HSu HRu
  have C6 : Q0z (w7.cell? ⟨g, 6, none⟩ = some (.slice AA Ls.length cA)) := ⟨(maker7 HBK7.1).2.2.2.2.2.2⟩
  have HLE : Q0z ((Ls.map endOf).length = Ls.length) := ⟨by rw [List.length_map]⟩
  obtain ⟨xe, hxe⟩ : ∃ x, x = endOf M := ⟨_, rfl⟩
  have HXE := Q0z.mk hxe
  rw [← hxe] at HEM
  clear hxe
  refine start_ (n := 13) (S := fun w' => Below w7.heap.size w7 w') (ds := [8, 12]) (mk 13 0) (by kernel_rfl) rfl (by kernel_rfl) (bD (Below.refl _ _)) (fun hHeld => ?_)
  refine with_tabW subset_state.tab7 subset_state.bits7 (fun HT_ HW_ => ?_)
  obtain ⟨wf, hwf⟩ : ∃ x, x = w7.drew := ⟨_, rfl⟩
  have hbd_ : Below w7.heap.size w7 wf := by rw [hwf]; exact bD (Below.refl _ _)
  have HMf := Q0z.mk (HM7.1.below hbd_)
  have HBKf := Q0z.mk (bbz HBK7.1 hbd_)
  have HSf := Q0z.mk (bbz HS7.1 hbd_)
  clear hbd_
  rw [← hwf] at hHeld ⊢
  clear hwf
  refine pz 0 (some 50) (mk 13 1) HT_.1 ?_
  refine pz 1 (some 51) (mk 13 3) HT_.1 ?_
  refine pz 2 (some 52) (mk 13 7) HT_.1 ?_
  refine pz 3 (some 53) (mk 13 15) HT_.1 ?_
  refine pz 4 (some 54) (mk 13 31) HT_.1 ?_
  refine tz 5 (some 55) (mk 13 63) HT_.1 HW_.1 hHeld ?_ (hy := Or.inl ⟨by rfl, fun w' s0 => by have c_ := (Below.cell s0 (World.block_lt_of_cell? _ _ C6.1)).trans C6.1; clear s0; go_simp; with_reducible rfl⟩)
  refine oz 6 (some 56) (mk 13 127) HT_.1 (fun K hK => ?_)
  have hc_ := set_has w1.heap.size M 1 (by decide) wf HSf.1
  refine gz Try.func104 ?_
  refine hc_.mono ?_
  clear hc_
  rintro e wg ⟨rfl, rfl⟩
  refine ⟨_, rfl, ?_⟩
  have hb_ := Below.refl wg.heap.size wg
  rw [show decide (1 ∈ M) = xe from HXE.1.symm]
  refine hK.out _ _ (bsz hHeld hb_) (fun hHeld => ?_)
  clear hK K
  refine nz ?_
  refine oz 7 (some 57) (mk 13 255) HT_.1 (fun K hK => ?_)
  refine value_ (w1 := ?_) (v := ?_) (by rfl) rfl ?_ ?_
  rotate_left 2
  ·go_simp
   constructor
   ·rfl
   ·rfl
  refine hK.out _ _ (ba hHeld _) (fun hHeld => ?_)
  clear hK K
  refine nz ?_
  refine last_ (i := 8) (N := some 58) (mk 13 511) rfl rfl (one_of HT_.1 (by kernel_rfl)) (by decide) (fun K hK => ?_)
  refine Kd.R_append_step Kd.bool (w0 := w0) b (by rfl) (.tmp 55) (.tmp 57) 23 4 (.bool false) 1 rfl Try.underlying23 info4 rfl (by decide) (by omega) (.slice AA Ls.length cA) (Ls.map endOf) xe [.bool xe] (fun k => (P k ∨ w0.heap.size ≤ k) ∧ k ≠ gm) (fun _ => False) rfl (by first | rfl | (rw [World.size_alloc]; rfl)) ?aP (fun _ hk => hk.elim) ?aF ?aO ?aB ?aS ?aL ?_
  (case aP => exact rfl)
  (case aB => exact HMf.1.keeps.bel)
  (case aF => exact HMf.1.fresh)
  (case aO => exact HMf.1.acc)
  (case aS => exact Nat.le_trans HBZ.1 HMf.1.keeps.bel.size)
  (case aL => rw [HLE.1]; have h_ := HLS.1; omega)
  intro vA2 w8 ho hb hg hat
  rw [HEM.1] at ho
  obtain ⟨U5, e5, e_⟩ := ends_slice ho
  subst e_
  have HM8 := Q0z.mk (HMf.1.ends hg ho)
  have HBK8 := Q0z.mk (bG HBKf.1 hg (Kd.R_ne HMf.1.acc HBKf.1 (by decide)))
  clear ho hb hg hat
  have zf_ := bf HBK8.1 6
  have c6_ : w8.cell? ⟨g, 6, none⟩ = some (.slice AA Ls.length cA) := (maker7 HBK8.1).2.2.2.2.2.2
  refine hK.out _ _ ?_
  clear hK K
  refine nz ?_
  refine pz 9 (some 59) (mk 13 1023) HT_.1 ?_
  refine pz 10 (some 60) (mk 13 2047) HT_.1 ?_
  refine pz 11 (some 61) (mk 13 4095) HT_.1 ?_
  refine last_ (i := 12) (N := none) (mk 13 8191) rfl rfl (one_of HT_.1 (by kernel_rfl)) (by decide) (fun K hK => ?_)
  refine skip_ (w1 := ?_) (by rfl) rfl ?_ ?_
  rotate_left
  ·go_simp
   rfl
  refine hK.out _ _ ?_
  clear hK K
  refine done_ (done_of HT_.1 (by kernel_rfl)) ?_
  go_wp2
  go_ret
  have hb9_ : (w8.setCell ⟨g, 6, none⟩ (.slice U5 L2.length e5)).heap[g]? = some (.cells (makerC a A L.length c gm (.slice U3 L2.length e3) vN (.slice U5 L2.length e5)) 105 (0, 0)) := bp (cs' := makerC a A L.length c gm (.slice U3 L2.length e3) vN (.slice U5 L2.length e5)) HBK8.1 6 (.slice U5 L2.length e5) rfl
  have hm9_ := HM8.1.set HBK8.1 6 (.slice U5 L2.length e5)
  have hvm_ : Ls.map (vecOf L.length) ++ [V] = L2.map (vecOf L.length) := by rw [HV.1, HL2.1]; simp
  have hln_ : Ls.length + 1 = L2.length := by rw [HL2.1]; simp
  rw [hvm_, hln_] at hm9_
  have hmk_ := hm9_.done hb9_ (fun l_ hl_ => by
   rw [HL2.1] at hl_
   rcases List.mem_append.1 hl_ with h_ | h_
   ·exact HM.1.sets l_ h_
   ·rw [List.mem_singleton] at h_; subst h_; exact ⟨HCL.1.1, HCL.1.2.1⟩)
  have hni_ : vecOf L.length M ∉ Ls.map (vecOf L.length) := by rw [← HV.1]; exact HMEM.1
  refine ⟨M, _, L2, _, _, HCL.1, ?_, by rw [if_neg hni_, HL2.1], hmk_, fun k_ h_ => ⟨.inl h_, Nat.lt_of_lt_of_le (HM.1.low k_ h_) hm9_.keeps.bel.size⟩, fun k_ h_ => h_.1, hm9_.keeps⟩
  rw [List.idxOf_eq_length hni_, List.length_map]
  rfl

end Go.Proofs.Ytelkjbacdpmnfaa.A
namespace Go.Proofs.Ytelkjbacdpmnfaa.A
open Go.RowKit Go.W_.PrintWords Go.W_.PrintLast Go.W_.PrintMore
attribute [local go_sem] max2_int min2_int max_two min_two max_three min_three max_four min_four
set_option linter.unusedVariables false
set_option linter.unusedSimpArgs false

def subset_Of.T13 : Bool × List (List Nat × List Nat) := (true, [([], []), ([], []), ([], []), ([], []), ([3], [3]), ([4], [4]), ([5], [5]), ([], []), ([6, 7], [6, 7]), ([8], [8]), ([], []), ([2, 9, 10], [2, 9, 10]), ([1, 11, 11], [1, 11]), ([12], [12]), ([0, 13, 12], [0, 13]), ([14, 14, 0, 1, 2, 3, 4, 5, 6, 7, 8, 9, 10, 11, 12, 13, 14], [0, 14])])
def subset_Of.B13 : List Nat := [0, 0, 0, 0, 8, 24, 56, 0, 248, 504, 0, 2044, 4094, 8190, 16383, 32767]
theorem subset_Of.tab13 : rtab .any (opsOf Try.f58 13) = subset_Of.T13 := by kernel_rfl
theorem subset_Of.bits13 : waitsOk subset_Of.T13.2 subset_Of.B13 = true := by kernel_rfl
set_option maxHeartbeats 16000000 in
set_option maxRecDepth 100000 in
theorem subset_Of.bad (a : Int) (A : Option Addr) (c : Nat) (L : List (List S82)) (most : Int) (w : World) (hr : Kd.C (Kd.slice 82 k82) w A L.length L) (hc : L.length ≤ c) (hg : goodNetB a L = false) :
  Calls Try.prog 58 #[.agg #[.int .i64 a, .slice A L.length c], .int .i64 most] w fun e w' => ∃ v1_ v2_ : Value, e = .returned (.tuple #[.agg #[.int .i64 0, v1_, v2_], .int .i64 1]) ∧ Kd.S (Kd.slice 3 (Kd.int .i64)) 45 w' w.heap.size (fun _ => True) v1_ ([] : List (List Int)) ∧ Kd.R Kd.bool 4 w' w.heap.size (fun _ => True) v2_ ([] : List Bool) ∧ Below w.heap.size w w' := by
 have hu25 := Try.underlying25
 have hu28 := Try.underlying28
 have hu45 := Try.underlying45
 have hu22 := Try.underlying22
 have hu23 := Try.underlying23
 have HR := Q0z.mk hr
 clear hr
 have ZG : Q0z (thompson_GoodNet.f a L = some false) := ⟨by unfold thompson_GoodNet.f; rw [hg]⟩
 clear hg
 obtain ⟨c1_, c2_⟩ := cells2 (show ((w.alloc (.cells #[.int .i64 a, .slice A L.length c] 28)).alloc (.cells #[.int .i64 0, .slice none 0 0, .slice none 0 0] 25)).heap[w.heap.size]? = some (.cells #[.int .i64 a, .slice A L.length c] 28 (0, 0)) from bA (new_at _ (by simp)) _)
 go_enter Try.func58, Try.ntmps58
 go_wp2_with (first | (go_at_call 38; have hF_ := ZG.1; clear ZG; (try clear c1_ c2_); refine calls_new (v := w) (F := fun W => W.heap[w.heap.size]? = some (.cells #[.int .i64 a, .slice A L.length c] 28 (0, 0)) ∧ W.heap[w.heap.size + 1]? = some (.cells #[.int .i64 0, .slice none 0 0, .slice none 0 0] 25 (0, 0))) (ba (ba (Below.refl _ _) (.cells #[.int .i64 a, .slice A L.length c] 28)) (.cells #[.int .i64 0, .slice none 0 0, .slice none 0 0] 25)) (⟨bA (new_at _ (by simp)) _, new_at _ (by simp)⟩) (fun w3_ b_ f_ => ?_); have S4_ := Q0z.mk b_; have K5_ := Q0z.mk f_.1; have K6_ := Q0z.mk f_.2; clear b_ f_; refine (thompson_GoodNet.calls a A c L   false _  (Kd.C_below HR.1 (S4_.1)) hc hF_).mono ?_; clear hF_; rintro e w7_ ⟨rfl, hb_⟩; have S8_ := Q0z.mk hb_; clear hb_; have f9_ := bf (bbz K6_.1 (S8_.1)) 0; have f10_ := bf (bbz K6_.1 (S8_.1)) 1; have f11_ := bf (bbz K6_.1 (S8_.1)) 2; obtain ⟨c12_, c13_, c14_⟩ := cells3 (bbz K6_.1 (S8_.1))))
 have hb0_ := bp (cs' := #[.int .i64 0, .slice none 0 0, .slice none 0 0]) (bbz K6_.1 (S8_.1)) 0 (.int .i64 0) rfl
 have hb1_ := bp (cs' := #[.int .i64 0, .slice none 0 0, .slice none 0 0]) hb0_ 1 (.slice none 0 0) rfl
 have hb2_ := bp (cs' := #[.int .i64 0, .slice none 0 0, .slice none 0 0]) hb1_ 2 (.slice none 0 0) rfl
 refine bodyPost_ret (results_ct (by rfl) _ _ (w.heap.size + 1) 25 #[.int .i64 0, .slice none 0 0, .slice none 0 0] (0, 0) _ (by rfl) (by exact hb2_) Try.underlying25 (by rfl) (by kernel_rfl)) (by rfl) ?_
 exact ⟨_, _, rfl, Kd.S_nil _ _ _ _ _, Kd.R_nil _ _ _ _ _, Below.setCell (Below.setCell (Below.setCell (bsz (S4_.1) S8_.1) (p := ⟨w.heap.size + 1, 0, none⟩) (by (try dsimp only); omega) (.int .i64 0)) (p := ⟨w.heap.size + 1, 1, none⟩) (by (try dsimp only); omega) (.slice none 0 0)) (p := ⟨w.heap.size + 1, 2, none⟩) (by (try dsimp only); omega) (.slice none 0 0)⟩
set_option maxHeartbeats 16000000 in
set_option maxRecDepth 100000 in
theorem subset_Of.main (a : Int) (A : Option Addr) (c : Nat) (L : List (List S82)) (most : Int) (w : World) (hr : Kd.C (Kd.slice 82 k82) w A L.length L) (hc : L.length ≤ c) (hg : goodNetB a L = true) (hR : rowsOk L) (m : Int) (hm : m = prodMost most) (k : Nat) (MF : List (List Bool)) (hrun : prodRun a.toNat (stepV L) m k [firstV L] 0 = some MF) (r1 : Int) (r2 : List (List Int)) (r3 : List Bool) (r4 : Int) (hres : subRes a L m MF = (r1, r2, r3, r4)) :
  Calls Try.prog 58 #[.agg #[.int .i64 a, .slice A L.length c], .int .i64 most] w fun e w' => ∃ v1_ v2_ : Value, e = .returned (.tuple #[.agg #[.int .i64 r1, v1_, v2_], .int .i64 r4]) ∧ Kd.S (Kd.slice 3 (Kd.int .i64)) 45 w' w.heap.size (fun _ => True) v1_ r2 ∧ Kd.R Kd.bool 4 w' w.heap.size (fun _ => True) v2_ r3 ∧ Below w.heap.size w w' := by
 have hu25 := Try.underlying25
 have hu28 := Try.underlying28
 have hu45 := Try.underlying45
 have hu22 := Try.underlying22
 have hu23 := Try.underlying23
 have HR := Q0z.mk hr
 clear hr
 have hmm := @run_makeMap Try.prog
 have HOK := Q0z.mk (NetOk.of hg)
 have ZG : Q0z (thompson_GoodNet.f a L = some true) := ⟨by unfold thompson_GoodNet.f; rw [hg]⟩
 have HRUN := Q0z.mk hrun
 have HRES := Q0z.mk hres
 have HM0 := Q0z.mk hm
 have HRO := Q0z.mk hR
 clear hrun hres hm hg hR
 have hif_ : (if (1000 : Int) < most then (1000 : Int) else most) = m := HM0.1.symm
 obtain ⟨c1_, c2_⟩ := cells2 (show ((w.alloc (.cells #[.int .i64 a, .slice A L.length c] 28)).alloc (.cells #[.int .i64 0, .slice none 0 0, .slice none 0 0] 25)).heap[w.heap.size]? = some (.cells #[.int .i64 a, .slice A L.length c] 28 (0, 0)) from bA (new_at _ (by simp)) _)
 go_enter Try.func58, Try.ntmps58
 go_wp2_with (first | (go_at_call 38; have hF_ := ZG.1; clear ZG; (try clear c1_ c2_); refine calls_new (v := w) (F := fun W => W.heap[w.heap.size]? = some (.cells #[.int .i64 a, .slice A L.length c] 28 (0, 0)) ∧ W.heap[w.heap.size + 1]? = some (.cells #[.int .i64 0, .slice none 0 0, .slice none 0 0] 25 (0, 0))) (ba (ba (Below.refl _ _) (.cells #[.int .i64 a, .slice A L.length c] 28)) (.cells #[.int .i64 0, .slice none 0 0, .slice none 0 0] 25)) (⟨bA (new_at _ (by simp)) _, new_at _ (by simp)⟩) (fun w3_ b_ f_ => ?_); have S4_ := Q0z.mk b_; have K5_ := Q0z.mk f_.1; have K6_ := Q0z.mk f_.2; clear b_ f_; refine (thompson_GoodNet.calls a A c L   true _  (Kd.C_below HR.1 (S4_.1)) hc hF_).mono ?_; clear hF_; rintro e w7_ ⟨rfl, hb_⟩; have S8_ := Q0z.mk hb_; clear hb_; obtain ⟨c9_, c10_⟩ := cells2 (bbz K5_.1 (S8_.1)); have cz_ := (bcz (bA (bbz K5_.1 (S8_.1)) (.map #[] 0)) 0).trans (show _ = some (.int .i64 a) from rfl)) | ((try clear c9_ c10_ cz_); (with_reducible refine gate_dst (N := 24) rfl ?_); obtain ⟨w5, hw5⟩ : ∃ x, x = ((w7_.alloc (.map #[] 0)).alloc (.cells (makerC a A L.length c (w7_.heap.size) (.slice none 0 0) (.slice none 0 0) (.slice none 0 0)) 105)) := ⟨_, rfl⟩; have hw5' := hw5; unfold makerC at hw5'; rw [← hw5']; clear hw5'; have HB5 : Q0z (Below w7_.heap.size w7_ w5) := ⟨by rw [hw5]; exact ba (ba (Below.refl _ _) _) _⟩; have HM5 : Q0z (Maker (w7_.heap.size) (w7_.heap.size + 1) (w7_.heap.size) a A L.length c (fun k_ => w7_.heap.size ≤ k_ ∧ k_ < w7_.heap.size + 2) w5 [] [] (.slice none 0 0) (.slice none 0 0) (.slice none 0 0)) := ⟨by rw [hw5]; exact ⟨new_at _ (by simp), (SetMap.made _ _).below (ba (Below.refl _ _) _), Kd.R_nil _ _ _ _ _, Kd.R_nil _ _ _ _ _, Kd.S_nil _ _ _ _ _, ⟨⟨by omega, by omega⟩, ⟨by omega, by omega⟩, by omega, by omega, by omega⟩, fun k_ h_ => by simp; omega, by simp⟩⟩; have HS5 : Q0z (w5.heap.size = w7_.heap.size + 2) := ⟨by rw [hw5]; simp⟩; clear hw5; refine Kd.R_lit (Kd.int .i64) _ 3 ?hg (N := 24) ?hd (xs := castL [0]) (inner := [.int .i64 0]) (ok := fun _ => True) (okp := fun _ => True) ?hr ?hp (fun _ hk => hk) trivial (Below.refl _ _) (Nat.le_refl _) (by simp [castL]) ?_; (case hd => rfl); (case hg => rfl); (case hr => first | (go_simp; done) | (go_simp; rfl)); (case hp => exact Reps.front (c := [.int .i64 0]) rfl rfl (Reps.none _ _) rfl); intro v24 w6 ho hb hg_ hnew_; have HQ6 := Q0z.mk ho; have HB6 := Q0z.mk hb; clear ho hb hg_ hnew_) | (go_at_call 99; refine (subset_state (w7_.heap.size) (w7_.heap.size + 1) (w7_.heap.size) a A c L (fun k_ => w7_.heap.size ≤ k_ ∧ k_ < w7_.heap.size + 2) [] [] (.slice none 0 0) (.slice none 0 0) (.slice none 0 0) v24 [0] w5 w6 (Kd.C_below HR.1 (bsz (bsz (S4_.1) S8_.1) (HB5.1))) hc HB6.1 HM5.1 HB5.1.size (Kd.Q_of_R HQ6.1) HOK.1.shut HRO.1 HOK.1.n2 HOK.1.n1 (by simp; have h_ := HOK.1.n1; omega) (by simp) (by simp)).mono ?_; rintro e w7 ⟨M0, P, L0, vL, vA, hcl_, rfl, hL_, hmk_, -, -, hk_⟩; have HB7 : Q0z (Below (w7_.heap.size) w7_ w7) := ⟨Below.trans HB5.1 hk_.bel⟩; have hl_ : L0 = [M0] := (by rw [hL_]; simp); subst hl_; have HMK := Q0z.mk hmk_; have HF0 : Q0z (vecOf L.length M0 = firstV L) := ⟨first_of HOK.1.shut (by have h_ := HOK.1.n1; omega) hcl_⟩; clear hcl_ hL_ hmk_ hk_ HQ6 HB6 HM5))
 have HAL := HOK.1.a1
 have HAL2 := HOK.1.a2
 obtain ⟨La, rfl⟩ : ∃ q : Nat, a = (q : Int) := ⟨a.toNat, by omega⟩
 have HRUN' := HRUN.1
 have HRES' := HRES.1
 rw [Int.toNat_natCast] at HRUN'
 have hLs : La ≤ 64 := by omega
 clear HAL HAL2 HRUN HRES
 have HRUN := Q0z.mk HRUN'
 have HRES := Q0z.mk HRES'
 clear HRUN' HRES' hif_
 have hm1k : m ≤ 1000 := by rw [HM0.1]; unfold prodMost; split <;> omega
 have HM1K := Q0z.mk hm1k
 clear hm1k
 have HBA : Q0z (w.heap.size + 1 < w7_.heap.size) := ⟨by have h_ := blk_lt K6_.1; have h2_ := (bsz (S8_.1) (Below.refl _ _) : Below _ _ _).size; omega⟩
 go_loopw [7] (fun v7 wr => ∃ (i : Nat) (Ls : List (List Nat)) (kf : Nat) (P : Nat → Prop) (vL vN vA : Value), v7 = .int .i64 (i : Int) ∧ Q0z (prodRun La (stepV L) m kf (Ls.map (vecOf L.length)) i = some MF) ∧ Q0z (Wbfs La (stepV L) (firstV L) (fun V_ => V_.length = L.length) (Ls.map (vecOf L.length)) i 0) ∧ Q0z (Maker (w7_.heap.size) (w7_.heap.size + 1) (w7_.heap.size) (La : Int) A L.length c P wr Ls (numP La (stepV L) (Ls.map (vecOf L.length)) i) vL vN vA) ∧ Q0z (Below (w7_.heap.size) w7_ wr)) (fun v7 _ => 1000001 - (intOf v7).toNat)
 case atStart =>
  refine ⟨0, [M0], k, P, vL, .slice none 0 0, vA, rfl, ⟨?_⟩, ⟨?_⟩, ⟨?_⟩, HB7⟩
  ·rw [List.map_singleton, HF0.1]; exact HRUN.1
  ·rw [List.map_singleton, HF0.1]; exact Wbfs.start (vecOf_length _ _)
  ·exact HMK.1
 case round =>
  clear HF0 HMK HB7 HRUN
  clear vL vA P
  obtain ⟨i, Ls, kf, P, vL, vN, vA, rfl, HK, HW, HM, HB⟩ := hrel
  obtain ⟨wq, rfl⟩ : ∃ wq, wq = wr := ⟨wr, rfl⟩
  obtain ⟨AL, cL, e_⟩ := castLs_slice HM.1.lists
  subst e_
  have z3_ : wq.cell? ⟨w7_.heap.size + 1, 3, none⟩ = some (.slice AL Ls.length cL) := (maker7 HM.1.blk).2.2.2.1
  have HIL : Q0z (i ≤ Ls.length) := ⟨by have h_ := HW.1.at_; rw [List.length_map] at h_; exact h_⟩
  by_cases hlt : i < Ls.length
  ·by_cases hbg : (Ls.length : Int) ≤ m
   ·have q1b : decide ((i : Int) < (Ls.length : Int)) = true := decide_eq_true (by omega)
    have q2b : decide ((Ls.length : Int) ≤ m) = true := decide_eq_true hbg
    have q3b : ((Ls.length : Int) ≤ m) = True := eq_true hbg
    have p1_ : ((0 : Int) ≤ (i : Int)) = True := eq_true (by omega)
    have q1_ : ((i : Int) < (Ls.length : Int)) = True := eq_true (by omega)
    have HLL : Q0z (Ls.length ≤ 1000) := ⟨by have h_ := HM1K.1; omega⟩
    obtain ⟨Mi, hMi⟩ : ∃ q, Ls[i]? = some q := ⟨_, List.getElem?_eq_getElem hlt⟩
    obtain ⟨V, hV⟩ : ∃ q, q = vecOf L.length Mi := ⟨_, rfl⟩
    have HMI := Q0z.mk hMi
    have HVI : Q0z ((Ls.map (vecOf L.length))[i]? = some V) := ⟨by rw [List.getElem?_map, hMi, hV]; rfl⟩
    have HV := Q0z.mk hV
    clear hMi hV
    have hz0_ : wq.cell? ⟨w.heap.size, 0, none⟩ = some (.int .i64 (La : Int)) := (bcz (bbz K5_.1 (bsz (S8_.1) (HB.1))) 0).trans (by rfl)
    go_wp2
    clear hz0_ z3_ q1b q2b q3b p1_ q1_
    go_loopw [8, 46] (fun v8 v46 wr => ∃ (cc : Nat) (Lc : List (List Nat)) (N : List Int) (P : Nat → Prop) (vL vA : Value), cc ≤ La ∧ v46 = .int .i64 (cc : Int) ∧ Q0z (Lc.map (vecOf L.length) = growTo (stepV L) V (Ls.map (vecOf L.length)) cc) ∧ Q0z (N = rowP (stepV L) (Lc.map (vecOf L.length)) V cc) ∧ Q0z (Wbfs La (stepV L) (firstV L) (fun V_ => V_.length = L.length) (Lc.map (vecOf L.length)) i cc) ∧ Q0z (Lc[i]? = some Mi) ∧ Q0z (Maker (w7_.heap.size) (w7_.heap.size + 1) (w7_.heap.size) (La : Int) A L.length c P wr Lc (numP La (stepV L) (Lc.map (vecOf L.length)) i) vL vN vA) ∧ Q0z (Kd.S KI3 45 wr (w7_.heap.size) (fun k_ => ¬ P k_ ∧ k_ < wq.heap.size) vN (numP La (stepV L) (Lc.map (vecOf L.length)) i)) ∧ Q0z (Kd.R (Kd.int .i64) 3 wr (w7_.heap.size) (fun k_ => ¬ P k_ ∧ wq.heap.size ≤ k_) v8 N) ∧ Q0z (Below (w7_.heap.size) w7_ wr) ∧ Q0z (wq.heap.size ≤ wr.heap.size)) (fun _ v46 _ => La - (intOf v46).toNat)
    case atStart => exact ⟨0, Ls, [], P, _, _, Nat.zero_le _, rfl, ⟨rfl⟩, ⟨rfl⟩, HW, HMI, HM, ⟨Kd.S_mono (Kd.S_bound HM.1.next) (fun k_ hk_ => ⟨hk_.1, hk_.2.2.1⟩)⟩, ⟨Kd.R_nil _ _ _ _ _⟩, HB, ⟨Nat.le_refl _⟩⟩
    case round =>
     have HQS : Q0z (w7_.heap.size ≤ wq.heap.size) := ⟨HB.1.size⟩
     clear HM HB HW
     obtain ⟨cc, Lc, N, P2, vL2, vA2, hc2, rfl, HGR, HN, HW, HMI2, HM, HX, HNr, HB, HQZ⟩ := hrel
     obtain ⟨wz, rfl⟩ : ∃ wz, wz = wr := ⟨wr, rfl⟩
     obtain ⟨An, cn, e_⟩ := Kd.R_slice HNr.1
     subst e_
     have hNl : N.length = cc := by rw [HN.1]; exact rowP_length _
     have HNL := Q0z.mk hNl
     clear hNl
     have HLC : Q0z (Lc.length ≤ 1064) := ⟨by have h_ := growTo_length (st := stepV L) (l := Ls.map (vecOf L.length)) (s := V) cc; rw [← HGR.1, List.length_map, List.length_map] at h_; have h2_ := HLL.1; omega⟩
     by_cases hcl : cc < La
     ·have q1b : decide ((cc : Int) < (La : Int)) = true := decide_eq_true (by omega)
      obtain ⟨AL2, cL2, e_⟩ := castLs_slice HM.1.lists
      subst e_
      have C3 : Q0z (wz.cell? ⟨w7_.heap.size + 1, 3, none⟩ = some (.slice AL2 Lc.length cL2)) := ⟨(maker7 HM.1.blk).2.2.2.1⟩
      have hil : i < Lc.length := (List.getElem?_eq_some_iff.1 HMI2.1).1
      have HRD := Q0z.mk (Kd.R_reads' HM.1.lists).2.2
      obtain ⟨ad, Ai, ci, e_, hx_, hci_, hCi_⟩ := at_L5 HRD.1 (i : Int) (by omega) (by rw [List.length_map]; omega)
      cases e_
      have hrdi : rd_L5 (Lc.map castL) (i : Int) = castL Mi := by unfold rd_L5; rw [Int.toNat_natCast, List.getD_eq_getElem?_getD, List.getElem?_map, HMI2.1]; rfl
      rw [hrdi, castL_length, Int.toNat_natCast] at hx_
      rw [hrdi, castL_length] at hCi_ hci_
      have HXI := Q0z.mk hx_
      have HCI := Q0z.mk hCi_
      have HCC := Q0z.mk hci_
      clear hx_ hCi_ hci_ hrdi HRD
      have z1_ : ((0 : Int) ≤ (i : Int)) = True := eq_true (by omega)
      have z2_ : ((i : Int) < (Lc.length : Int)) = True := eq_true (by omega)
      go_wp2
      refine start_ (n := 16) (S := fun w' => Below wz.heap.size wz w') (ds := [12, 13, 14]) (mk 16 0) (by kernel_rfl) rfl (by kernel_rfl) (bD (Below.refl _ _)) (fun hHeld => ?_)
      refine with_tabW subset_Of.tab13 subset_Of.bits13 (fun HT_ HW_ => ?_)
      obtain ⟨wd, hwd⟩ : ∃ x, x = wz.drew := ⟨_, rfl⟩
      have hz_ : Below wz.heap.size wz wd := by rw [hwd]; exact bD (Below.refl _ _)
      have HDZ := Q0z.mk hz_
      have HMd := Q0z.mk (HM.1.below hz_)
      have HXd := Q0z.mk (Kd.S_below HX.1 hz_)
      have HNd := Q0z.mk (Kd.R_below HNr.1 hz_)
      have HBd := Q0z.mk (bsz HB.1 hz_)
      have HQD : Q0z (wq.heap.size ≤ wd.heap.size) := ⟨Nat.le_trans HQZ.1 hz_.size⟩
      rw [← hwd] at hHeld ⊢
      clear hwd hz_
      refine pz 0 (some 49) (mk 16 1) HT_.1 ?_
      refine pz 1 (some 50) (mk 16 3) HT_.1 ?_
      refine pz 3 (some 52) (mk 16 11) HT_.1 ?_
      refine pz 4 (some 53) (mk 16 27) HT_.1 ?_
      refine pz 5 (some 54) (mk 16 59) HT_.1 ?_
      refine pz 7 (some 56) (mk 16 187) HT_.1 ?_
      refine pz 10 (some 59) (mk 16 1211) HT_.1 ?_
      refine tz 2 (some 51) (mk 16 1215) HT_.1 HW_.1 hHeld ?_ (hy := Or.inl ⟨by rfl, fun w' s0 => by have c0_ : w'.cell? ⟨w.heap.size, 0, none⟩ = some (.int .i64 (La : Int)) := (bcz (bbz K5_.1 (bsz (S8_.1) (bsz HB.1 s0))) 0).trans (by rfl); have c1_ : w'.cell? ⟨w.heap.size, 1, none⟩ = some (.slice A L.length c) := (bcz (bbz K5_.1 (bsz (S8_.1) (bsz HB.1 s0))) 1).trans (by rfl); clear s0; go_simp; with_reducible rfl⟩)
      refine tz 6 (some 55) (mk 16 1279) HT_.1 HW_.1 hHeld ?_ (hy := Or.inl ⟨by rfl, fun w' s0 => by have c_ := (Below.cell s0 (World.block_lt_of_cell? _ _ C3.1)).trans C3.1; clear s0; go_simp; with_reducible rfl⟩)
      refine pz 8 (some 57) (mk 16 1535) HT_.1 ?_
      refine tz 9 (some 58) (mk 16 2047) HT_.1 HW_.1 hHeld ?_ (hy := Or.inl ⟨by rfl, fun w' s0 => by have c_ := (Below.cell s0 (World.block_lt_of_cell? _ _ HXI.1)).trans HXI.1; clear s0; go_simp; with_reducible rfl⟩)
      refine oz 11 (some 60) (mk 16 4095) HT_.1 (fun K hK => ?_)
      have hmi_ := HM.1.sets Mi (List.mem_of_getElem? HMI2.1)
      have hc_ := to_cast (La : Int) A c L Ai ci Mi (cc : Int) wd (Kd.C_below HR.1 (bsz (bsz (S4_.1) S8_.1) (HBd.1))) hc (Kd.C_below HCI.1 HDZ.1) HCC.1 HOK.1.shut HRO.1 HOK.1.n2 hmi_
      refine gz Try.func100 ?_
      refine hc_.mono ?_
      clear hc_ hmi_
      rintro e wt ⟨vt, rfl, ho_, hb_⟩
      refine ⟨_, rfl, ?_⟩
      have HQt := Q0z.mk ho_
      have HBt := Q0z.mk hb_
      clear ho_
      refine hK.out _ _ (bsz hHeld hb_) (fun hHeld => ?_)
      clear hK K
      refine nz ?_
      refine last_ (i := 12) (N := some 61) (mk 16 8191) rfl rfl (one_of HT_.1 (by kernel_rfl)) (by decide) (fun K hK => ?_)
      have hmi_ := HM.1.sets Mi (List.mem_of_getElem? HMI2.1)
      have hc_ := subset_state (w7_.heap.size) (w7_.heap.size + 1) (w7_.heap.size) (La : Int) A c L P2 Lc (numP La (stepV L) (Lc.map (vecOf L.length)) i) (.slice (some ad) Lc.length cL2) vN vA2 vt (toL L Mi (cc : Int)) wd wt (Kd.C_below HR.1 (bsz (bsz (S4_.1) S8_.1) (HBd.1))) hc HBt.1 HMd.1 HBd.1.size (Kd.Q_of_R HQt.1) HOK.1.shut HRO.1 HOK.1.n2 HOK.1.n1 (toL_low HOK.1.shut hmi_.2 _) (toL_le HRO.1 HOK.1.n2 hmi_.1 hmi_.2) (by have h_ := HLC.1; omega)
      refine gz Try.func99 ?_
      refine hc_.mono ?_
      clear hc_
      rintro e ws ⟨M2, P3, L3, vL3, vA3, hcl_, rfl, hL_, hmk_, hp1_, hp2_, hk_⟩
      refine ⟨_, rfl, ?_⟩
      have HVS : Q0z (vecOf L.length M2 = stepV L V cc) := ⟨by rw [HV.1]; exact step_of HOK.1.shut hmi_.2 hcl_⟩
      rw [HVS.1] at hL_ ⊢
      obtain ⟨kx, hkx⟩ : ∃ q : Nat, q = (Lc.map (vecOf L.length)).idxOf (stepV L V cc) := ⟨_, rfl⟩
      rw [← hkx]
      have HKX := Q0z.mk hkx
      have HL3 := Q0z.mk hL_
      have HMs := Q0z.mk hmk_
      have HXs := Q0z.mk (hk_.S HXd.1 hp2_ HQD.1)
      have HNs := Q0z.mk (hk_.R HNd.1 hp2_)
      have HBs := Q0z.mk (Below.trans HBd.1 hk_.bel)
      have HQs : Q0z (wq.heap.size ≤ ws.heap.size) := ⟨Nat.le_trans HQD.1 hk_.bel.size⟩
      clear hcl_ hL_ hmk_ hp1_ hp2_ hk_ hkx hmi_ HQt HBt HMd HXd HNd
      refine hK.out _ _ ?_
      clear hK K
      refine nz ?_
      refine last_ (i := 13) (N := some 62) (mk 16 16383) rfl rfl (one_of HT_.1 (by kernel_rfl)) (by decide) (fun K hK => ?_)
      refine value_ (w1 := ?_) (v := ?_) (by rfl) rfl ?_ ?_
      rotate_left 2
      ·go_simp
       constructor
       ·rfl
       ·rfl
      refine hK.out _ _ ?_
      clear hK K
      refine nz ?_
      refine last_ (i := 14) (N := some 63) (mk 16 32767) rfl rfl (one_of HT_.1 (by kernel_rfl)) (by decide) (fun K hK => ?_)
      refine Kd.R_append_step (Kd.int .i64) (w0 := w7_) (w7_.heap.size) (by rfl) (.tmp 49) (.tmp 62) 45 3 (.int .i64 0) 8 rfl Try.underlying45 info3 rfl (by decide) (by omega) (.slice An N.length cn) N (kx : Int) [.int .i64 (kx : Int)] (fun k_ => ¬ P3 k_ ∧ wq.heap.size ≤ k_) (fun _ => False) rfl (by first | rfl | (rw [World.size_alloc]; rfl)) ?aP (fun _ hk => hk.elim) ?aF ?aO ?aB ?aS ?aL ?_
      (case aP => exact rfl)
      (case aB => exact HBs.1)
      (case aF => exact (fun k_ hk_ => ⟨fun hP_ => by have h_ := HMs.1.low k_ hP_; omega, by have h_ := HQs.1; omega⟩))
      (case aO => exact HNs.1)
      (case aS => exact HBs.1.size)
      (case aL => have h_ := HNL.1; omega)
      intro v10 w10 ho hb hg hat
      have HN6 := Q0z.mk ho
      have HX6 := Q0z.mk (Kd.S_step HXs.1 (fun k_ ok_ hk_ => hg.block k_ hk_ (fun e_ => by have h1_ := (HNs.1.1 _ e_.symm).2; have h2_ := ok_.2; omega)))
      have HM6 := Q0z.mk (HMs.1.away hg (fun k_ e_ => (HNs.1.1 _ e_).1) (Kd.S_mono HX6.1 (fun _ h_ => h_.1)) (.inr rfl))
      have HB6 := Q0z.mk hb
      have HQ6 : Q0z (wq.heap.size ≤ w10.heap.size) := ⟨Nat.le_trans HQs.1 hg.size⟩
      clear ho hb hg hat HMs HXs HNs HBs
      refine hK.out _ _ ?_
      clear hK K
      refine nz ?_
      refine pz 15 (some 8) (mk 16 65535) HT_.1 ?_
      refine done_ (done_of HT_.1 (by kernel_rfl)) ?_
      go_wp2
      go_roundw
      case measure => simp [intOf]; omega
      case rel =>
       have hcur_ : (Lc.map (vecOf L.length))[i]? = some V := by rw [List.getElem?_map, HMI2.1, HV.1]; rfl
       by_cases hmem : stepV L V cc ∈ Lc.map (vecOf L.length)
       ·have hL_ := HL3.1
        rw [if_pos hmem] at hL_
        subst hL_
        exact ⟨cc + 1, L3, N ++ [(kx : Int)], P3, vL3, vA3, by omega, by go_num, ⟨by rw [HGR.1] at hmem; rw [growTo_old hmem]; exact HGR.1⟩, ⟨by rw [rowP_snoc, ← HN.1, HKX.1, idx_vec]⟩, ⟨HW.1.old hcur_ hmem⟩, HMI2, HM6, HX6, HN6, HB6, HQ6⟩
       ·have hL_ := HL3.1
        rw [if_neg hmem] at hL_
        have hmp_ : L3.map (vecOf L.length) = Lc.map (vecOf L.length) ++ [stepV L V cc] := by rw [hL_, List.map_append, List.map_singleton, HVS.1]
        have hnm_ : numP La (stepV L) (L3.map (vecOf L.length)) i = numP La (stepV L) (Lc.map (vecOf L.length)) i := by rw [hmp_]; exact numP_growAt HW.1 _
        have hnew_ := HW.1.new hcur_ hcl (stepV_length L V cc) hmem
        rw [← hmp_] at hnew_
        refine ⟨cc + 1, L3, N ++ [(kx : Int)], P3, vL3, vA3, by omega, by go_num, ⟨?_⟩, ⟨?_⟩, ⟨hnew_⟩, ⟨?_⟩, ⟨by rw [hnm_]; exact HM6.1⟩, ⟨by rw [hnm_]; exact HX6.1⟩, HN6, HB6, HQ6⟩
        ·rw [HGR.1] at hmem
         rw [growTo_new hmem, hmp_, HGR.1]
        ·rw [rowP_snoc, hmp_, rowP_grow (HW.1.now _ hcur_), ← HN.1, idxOf_snocP hmem, HKX.1, List.idxOf_eq_length hmem]
        ·rw [hL_, List.getElem?_append_left hil]; exact HMI2.1
     ·have q1b : decide ((cc : Int) < (La : Int)) = false := decide_eq_false (by omega)
      have hi_ : i < 1000 := by have h_ := HLL.1; omega
      have q1c : (cc < La) = False := eq_false (by omega)
      obtain rfl : cc = La := by omega
      obtain ⟨X1, hX1⟩ : ∃ q, q = numP cc (stepV L) (Lc.map (vecOf L.length)) i := ⟨_, rfl⟩
      rw [← hX1] at HM HX
      have HX1 := Q0z.mk hX1
      clear hX1
      obtain ⟨AN, eN, e_⟩ := Kd.S_slice HX.1
      subst e_
      have HXL : Q0z (X1.length ≤ 1064) := ⟨by rw [HX1.1, numP_length, List.length_map]; have h_ := HLC.1; omega⟩
      obtain ⟨Y1, hY1⟩ : ∃ q, q = X1 ++ [N] := ⟨_, rfl⟩
      have HY1 := Q0z.mk hY1
      clear hY1
      have z5_ : wz.cell? ⟨w7_.heap.size + 1, 5, none⟩ = some (.slice AN X1.length eN) := (maker7 HM.1.blk).2.2.2.2.2.1
      go_wp2_with (first | ((with_reducible refine gate_builtin (b := .append) (xs := #[.tmp 70, .tmp 72]) rfl ?_); at_builtin; (refine Kd.S_append KI3 (w0 := w7_) (w7_.heap.size) rfl (.tmp 70) (.tmp 72) 22 45 (.slice none 0 0) 24 rfl Try.underlying22 info45 rfl (by decide) (by omega) (.slice AN X1.length eN) X1 N [.slice An N.length cn] (fun k_ => ¬ P2 k_) (fun k_ => ¬ P2 k_ ∧ wq.heap.size ≤ k_) rfl (by first | rfl | (rw [World.size_alloc]; rfl)) ?aP ?aK ?aF ?aO ?aB ?aS ?aL ?_; (case aP => exact Kd.M_row HNr.1); (case aK => exact (fun k_ hk_ => ⟨hk_.1, fun e_ => by have h_ := ((Kd.S_R HX.1).1 k_ e_.symm).2; omega⟩)); (case aF => exact (fun k_ hk_ hP_ => by have h_ := HM.1.low k_ hP_; omega)); (case aO => exact Kd.S_mono HX.1 (fun k_ h_ => ⟨h_.1, fun h2_ => by have h3_ := h_.2; have h4_ := h2_.2; omega⟩)); (case aB => exact HB.1); (case aS => exact HB.1.size); (case aL => have h_ := HXL.1; omega); intro v24 w24 ho hb hg hat; rw [← HY1.1] at ho; obtain ⟨U3, e3, e_⟩ := Kd.S_slice ho; subst e_; have HM7 := Q0z.mk (HM.1.putN hg (fun k_ e_ => ((Kd.S_R HX.1).1 k_ e_).1) ho); have HBK := Q0z.mk (bG HM.1.blk hg (fun e_ => ((Kd.S_R HX.1).1 _ e_.symm).1 HM.1.own.1)); have HB7 := Q0z.mk hb; clear ho hb hg hat z5_; have z5_ : w24.cell? ⟨w7_.heap.size + 1, 5, none⟩ = some (.slice AN X1.length eN) := (maker7 HBK.1).2.2.2.2.2.1; have zf_ := bf HBK.1 5)))
      go_roundw
      case measure => simp [intOf]; omega
      case rel =>
       have hcur_ : (Lc.map (vecOf L.length))[i]? = some V := by rw [List.getElem?_map, HMI2.1, HV.1]; rfl
       obtain ⟨kf', hk_⟩ := prodRun_step HK.1 HVI.1 (by rw [List.length_map]; exact hbg)
       rw [← HGR.1] at hk_
       refine ⟨i + 1, Lc, kf', P2, vL2, .slice U3 Y1.length e3, vA2, by go_num, ⟨hk_⟩, ⟨HW.1.turn (List.getElem?_eq_some_iff.1 hcur_).1⟩, ⟨?_⟩, ⟨HB7.1.setCell (p := ⟨w7_.heap.size + 1, 5, none⟩) (by dsimp only; omega) _⟩⟩
       rw [numP_turn hcur_, ← HX1.1, ← HN.1, ← HY1.1]
       exact HM7.1
   ·have q1b : decide ((i : Int) < (Ls.length : Int)) = true := decide_eq_true (by omega)
    have HMF := prodRun_over HK.1 (by rw [List.length_map]; exact hbg)
    have m1_ : ((Ls.length : Int) ≤ m) = False := eq_false (by omega)
    have m2_ : decide ((Ls.length : Int) ≤ m) = false := decide_eq_false (by omega)
    have m3_ : ((Ls.length : Int) > m) = True := eq_true (by omega)
    have m4_ : decide ((Ls.length : Int) > m) = true := decide_eq_true (by omega)
    have m5_ : (m < (Ls.length : Int)) = True := eq_true (by omega)
    have m6_ : decide (m < (Ls.length : Int)) = true := decide_eq_true (by omega)
    have hr_ := HRES.1
    rw [HMF] at hr_
    unfold subRes at hr_
    rw [List.length_map, if_pos (by omega)] at hr_
    simp only [Prod.mk.injEq] at hr_
    obtain ⟨rfl, rfl, rfl, rfl⟩ := hr_
    clear HMF
    have hH_ := Q0z.mk (bbz K6_.1 (bsz (S8_.1) (HB.1)))
    have y0_ : wq.cell? ⟨w.heap.size + 1, 0, none⟩ = some (.int .i64 0) := (bcz hH_.1 0).trans rfl
    have y1_ : wq.cell? ⟨w.heap.size + 1, 1, none⟩ = some (.slice none 0 0) := (bcz hH_.1 1).trans rfl
    have y2_ : wq.cell? ⟨w.heap.size + 1, 2, none⟩ = some (.slice none 0 0) := (bcz hH_.1 2).trans rfl
    have zf0_ := bf hH_.1 0
    have zf1_ := bf hH_.1 1
    have zf2_ := bf hH_.1 2
    go_wp2
    have hb0_ := bp (cs' := #[.int .i64 0, .slice none 0 0, .slice none 0 0]) hH_.1 0 (.int .i64 0) rfl
    have hb1_ := bp (cs' := #[.int .i64 0, .slice none 0 0, .slice none 0 0]) hb0_ 1 (.slice none 0 0) rfl
    have hb2_ := bp (cs' := #[.int .i64 0, .slice none 0 0, .slice none 0 0]) hb1_ 2 (.slice none 0 0) rfl
    refine bodyPost_ret (results_ct (by rfl) _ _ (w.heap.size + 1) 25 #[.int .i64 0, .slice none 0 0, .slice none 0 0] (0, 0) _ (by rfl) (by exact hb2_) Try.underlying25 (by rfl) (by kernel_rfl)) (by rfl) ?_
    exact ⟨_, _, rfl, Kd.S_nil _ _ _ _ _, Kd.R_nil _ _ _ _ _, Below.setCell (Below.setCell (Below.setCell (bsz (bsz (S4_.1) S8_.1) (HB.1)) (p := ⟨w.heap.size + 1, 0, none⟩) (by (try dsimp only); omega) (.int .i64 0)) (p := ⟨w.heap.size + 1, 1, none⟩) (by (try dsimp only); omega) (.slice none 0 0)) (p := ⟨w.heap.size + 1, 2, none⟩) (by (try dsimp only); omega) (.slice none 0 0)⟩
  ·have q1b : decide ((i : Int) < (Ls.length : Int)) = false := decide_eq_false (by omega)
   have q1c : (i < Ls.length) = False := eq_false (by omega)
   have hil : i = Ls.length := by have h_ := HIL.1; omega
   by_cases hbg : (Ls.length : Int) > m
   ·have HMF := prodRun_end HK.1 (by rw [List.length_map]; omega)
    have m1_ : ((Ls.length : Int) ≤ m) = False := eq_false (by omega)
    have m2_ : decide ((Ls.length : Int) ≤ m) = false := decide_eq_false (by omega)
    have m3_ : ((Ls.length : Int) > m) = True := eq_true (by omega)
    have m4_ : decide ((Ls.length : Int) > m) = true := decide_eq_true (by omega)
    have m5_ : (m < (Ls.length : Int)) = True := eq_true (by omega)
    have m6_ : decide (m < (Ls.length : Int)) = true := decide_eq_true (by omega)
    have hr_ := HRES.1
    rw [HMF] at hr_
    unfold subRes at hr_
    rw [List.length_map, if_pos (by omega)] at hr_
    simp only [Prod.mk.injEq] at hr_
    obtain ⟨rfl, rfl, rfl, rfl⟩ := hr_
    clear HMF
    have hH_ := Q0z.mk (bbz K6_.1 (bsz (S8_.1) (HB.1)))
    have y0_ : wq.cell? ⟨w.heap.size + 1, 0, none⟩ = some (.int .i64 0) := (bcz hH_.1 0).trans rfl
    have y1_ : wq.cell? ⟨w.heap.size + 1, 1, none⟩ = some (.slice none 0 0) := (bcz hH_.1 1).trans rfl
    have y2_ : wq.cell? ⟨w.heap.size + 1, 2, none⟩ = some (.slice none 0 0) := (bcz hH_.1 2).trans rfl
    have zf0_ := bf hH_.1 0
    have zf1_ := bf hH_.1 1
    have zf2_ := bf hH_.1 2
    go_wp2
    have hb0_ := bp (cs' := #[.int .i64 0, .slice none 0 0, .slice none 0 0]) hH_.1 0 (.int .i64 0) rfl
    have hb1_ := bp (cs' := #[.int .i64 0, .slice none 0 0, .slice none 0 0]) hb0_ 1 (.slice none 0 0) rfl
    have hb2_ := bp (cs' := #[.int .i64 0, .slice none 0 0, .slice none 0 0]) hb1_ 2 (.slice none 0 0) rfl
    refine bodyPost_ret (results_ct (by rfl) _ _ (w.heap.size + 1) 25 #[.int .i64 0, .slice none 0 0, .slice none 0 0] (0, 0) _ (by rfl) (by exact hb2_) Try.underlying25 (by rfl) (by kernel_rfl)) (by rfl) ?_
    exact ⟨_, _, rfl, Kd.S_nil _ _ _ _ _, Kd.R_nil _ _ _ _ _, Below.setCell (Below.setCell (Below.setCell (bsz (bsz (S4_.1) S8_.1) (HB.1)) (p := ⟨w.heap.size + 1, 0, none⟩) (by (try dsimp only); omega) (.int .i64 0)) (p := ⟨w.heap.size + 1, 1, none⟩) (by (try dsimp only); omega) (.slice none 0 0)) (p := ⟨w.heap.size + 1, 2, none⟩) (by (try dsimp only); omega) (.slice none 0 0)⟩
   ·have HMF := prodRun_end HK.1 (by rw [List.length_map]; omega)
    have m3_ : ((Ls.length : Int) > m) = False := eq_false (by omega)
    have m4_ : decide ((Ls.length : Int) > m) = false := decide_eq_false (by omega)
    have m5_ : (m < (Ls.length : Int)) = False := eq_false (by omega)
    have m6_ : decide (m < (Ls.length : Int)) = false := decide_eq_false (by omega)
    have hr_ := HRES.1
    rw [HMF] at hr_
    unfold subRes at hr_
    rw [List.length_map, if_neg (by omega), Int.toNat_natCast, ends_vec Ls HOK.1.n1] at hr_
    simp only [Prod.mk.injEq] at hr_
    obtain ⟨rfl, rfl, rfl, rfl⟩ := hr_
    clear HMF
    have hall_ : numP La (stepV L) (Ls.map (vecOf L.length)) i = numNext La (stepV L) (Ls.map (vecOf L.length)) := by rw [hil, show Ls.length = (Ls.map (vecOf L.length)).length by rw [List.length_map], numP_all]
    rw [hall_] at HM
    clear hall_
    obtain ⟨X1, hX1⟩ : ∃ X, X = numNext La (stepV L) (Ls.map (vecOf L.length)) := ⟨_, rfl⟩
    obtain ⟨X2, hX2⟩ : ∃ X, X = Ls.map endOf := ⟨_, rfl⟩
    have HS := Q0z.mk HM.1.next
    have HE := Q0z.mk HM.1.acc
    have HBK := Q0z.mk HM.1.blk
    rw [← hX1] at HS
    rw [← hX2] at HE
    have HX1 := Q0z.mk hX1
    have HX2 := Q0z.mk hX2
    clear hX1 hX2 HM
    obtain ⟨U1, e1, e_⟩ := Kd.S_slice HS.1
    subst e_
    obtain ⟨U2, e2, e_⟩ := Kd.R_slice HE.1
    subst e_
    have hH_ := Q0z.mk (bbz K6_.1 (bsz (S8_.1) (HB.1)))
    have y0_ : wq.cell? ⟨w.heap.size + 1, 0, none⟩ = some (.int .i64 0) := (bcz hH_.1 0).trans rfl
    have y1_ : wq.cell? ⟨w.heap.size + 1, 1, none⟩ = some (.slice none 0 0) := (bcz hH_.1 1).trans rfl
    have y2_ : wq.cell? ⟨w.heap.size + 1, 2, none⟩ = some (.slice none 0 0) := (bcz hH_.1 2).trans rfl
    have zf0_ := bf hH_.1 0
    have zf1_ := bf hH_.1 1
    have zf2_ := bf hH_.1 2
    obtain ⟨-, -, -, -, x4_, x5_, x6_⟩ := maker7 HBK.1
    go_wp2
    have hb0_ := bp (cs' := #[.int .i64 (La : Int), .slice none 0 0, .slice none 0 0]) hH_.1 0 (.int .i64 (La : Int)) rfl
    have s0_ := Kd.S_mono (ok' := fun _ => True) (Kd.S_far (p := ⟨w.heap.size + 1, 0, none⟩) (Kd.S_types (HS.1) hH_.1 (by decide)) (fun _ hk => hk.2) (.int .i64 (La : Int))) (fun _ _ => trivial)
    have r0_ := Kd.R_set (HE.1) hH_.1 (by decide) 0 (.int .i64 (La : Int))
    have hb1_ := bp (cs' := #[.int .i64 (La : Int), .slice U1 X1.length e1, .slice none 0 0]) hb0_ 1 (.slice U1 X1.length e1) rfl
    have s1_ := Kd.S_mono (ok' := fun _ => True) (Kd.S_far (p := ⟨w.heap.size + 1, 1, none⟩) (Kd.S_types (s0_) hb0_ (by decide)) (fun _ hk => hk.2) (.slice U1 X1.length e1)) (fun _ _ => trivial)
    have r1_ := Kd.R_set (r0_) hb0_ (by decide) 1 (.slice U1 X1.length e1)
    have hb2_ := bp (cs' := #[.int .i64 (La : Int), .slice U1 X1.length e1, .slice U2 X2.length e2]) hb1_ 2 (.slice U2 X2.length e2) rfl
    have s2_ := Kd.S_mono (ok' := fun _ => True) (Kd.S_far (p := ⟨w.heap.size + 1, 2, none⟩) (Kd.S_types (s1_) hb1_ (by decide)) (fun _ hk => hk.2) (.slice U2 X2.length e2)) (fun _ _ => trivial)
    have r2_ := Kd.R_set (r1_) hb1_ (by decide) 2 (.slice U2 X2.length e2)
    refine bodyPost_ret (results_ct (by rfl) _ _ (w.heap.size + 1) 25 #[.int .i64 (La : Int), .slice U1 X1.length e1, .slice U2 X2.length e2] (0, 0) _ (by rfl) (by exact hb2_) Try.underlying25 (by rfl) (by kernel_rfl)) (by rfl) ?_
    rw [← HX1.1, ← HX2.1]
    exact ⟨_, _, rfl, Kd.S_lower s2_ ((bsz (bsz (S4_.1) S8_.1) (Below.refl _ _) : Below _ _ _).size), Kd.R_mono (Kd.R_lower r2_ ((bsz (bsz (S4_.1) S8_.1) (Below.refl _ _) : Below _ _ _).size)) (fun _ _ => trivial), Below.setCell (Below.setCell (Below.setCell (bsz (bsz (S4_.1) S8_.1) (HB.1)) (p := ⟨w.heap.size + 1, 0, none⟩) (by (try dsimp only); omega) (.int .i64 (La : Int))) (p := ⟨w.heap.size + 1, 1, none⟩) (by (try dsimp only); omega) (.slice U1 X1.length e1)) (p := ⟨w.heap.size + 1, 2, none⟩) (by (try dsimp only); omega) (.slice U2 X2.length e2)⟩
theorem subset_Of.told (k : Nat) (a : Int) (A : Option Addr) (c : Nat) (L : List (List S82)) (most : Int) (r1 : Int) (r2 : List (List Int)) (r3 : List Bool) (r4 : Int) (w : World) (hr : Kd.C (Kd.slice 82 k82) w A L.length L) (hc : L.length ≤ c) (hR : rowsOk L) (h : subF k a L most = some (r1, r2, r3, r4)) :
  Calls Try.prog 58 #[.agg #[.int .i64 a, .slice A L.length c], .int .i64 most] w fun e w' => ∃ v1_ v2_ : Value, e = .returned (.tuple #[.agg #[.int .i64 r1, v1_, v2_], .int .i64 r4]) ∧ Kd.S (Kd.slice 3 (Kd.int .i64)) 45 w' w.heap.size (fun _ => True) v1_ r2 ∧ Kd.R Kd.bool 4 w' w.heap.size (fun _ => True) v2_ r3 ∧ Below w.heap.size w w' := by
 unfold subF at h
 cases hg : goodNetB a L with
 | false =>
  simp only [hg, Bool.false_eq_true, if_false, Option.some.injEq, Prod.mk.injEq] at h
  obtain ⟨rfl, rfl, rfl, rfl⟩ := h
  exact subset_Of.bad a A c L most w hr hc hg
 | true =>
  simp only [hg, if_true] at h
  obtain ⟨MF, hM, h⟩ := Option.bind_eq_some_iff.mp h
  exact subset_Of.main a A c L most w hr hc hg hR _ rfl k MF hM r1 r2 r3 r4 (Option.some.inj h)

end Go.Proofs.Ytelkjbacdpmnfaa.A
namespace Go.Proofs.Ytelkjbacdpmnfaa.A
open Go.RowKit Go.W_.PrintWords Go.W_.PrintLast Go.W_.PrintMore
attribute [local go_sem] max2_int min2_int max_two min_two max_three min_three max_four min_four
set_option linter.unusedVariables false
set_option linter.unusedSimpArgs false

def subset_Of.f (k : Nat) (a0_0 : Int) (l0_1 : List (List S82)) (a1 : Int) : Option (Int × (List (List Int)) × List Bool × Int) := if rowsOkB l0_1 = true then subF k a0_0 l0_1 a1 else none
theorem subset_Of.mono : ∀ a0 a1 a2 k, LeO (subset_Of.f k a0 a1 a2) (subset_Of.f (k + 1) a0 a1 a2) := fun a0 a1 a2 k => by
 unfold subset_Of.f subF
 split
 ·split
  ·refine LeO.bind ?_ fun _ => LeO.refl _
   intro r hr
   exact prodRun_mono _ _ _ _ _ _ _ hr
  ·exact LeO.refl _
 ·exact LeO.refl _
theorem subset_Of.calls (k : Nat) (a0_0 : Int) (A0_1 : Option Addr) (c0_1 : Nat) (l0_1 : List (List (S82))) (a1 : Int) (r1 : Int) (r2 : List (List Int)) (r3 : List Bool) (r4 : Int) (w : World) (hr0_1 : Kd.C (Kd.slice 82 k82) w A0_1 l0_1.length l0_1) (hc0_1 : l0_1.length ≤ c0_1) (h : subset_Of.f k a0_0 l0_1 a1 = some (r1, r2, r3, r4)) :
  Calls Try.prog 58 #[.agg #[.int .i64 a0_0, .slice A0_1 l0_1.length c0_1], .int .i64 a1] w fun e w' => ∃ v1_ v2_ : Value, e = .returned (.tuple #[.agg #[.int .i64 r1, v1_, v2_], .int .i64 r4]) ∧ Kd.S (Kd.slice 3 (Kd.int .i64)) 45 w' w.heap.size (fun _ => True) v1_ r2 ∧ Kd.R Kd.bool 4 w' w.heap.size (fun _ => True) v2_ r3 ∧ Below w.heap.size w w' := by
 unfold subset_Of.f at h
 split at h
 ·rename_i hk
  exact subset_Of.told k a0_0 A0_1 c0_1 l0_1 a1 r1 r2 r3 r4 w hr0_1 hc0_1 (rowsOk_of hk) h
 ·cases h

end Go.Proofs.Ytelkjbacdpmnfaa.A
