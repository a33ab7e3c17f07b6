/- Contracts. -/
import Derived.Test.YtelkjbacdpmnfaaB0
import Derived.Test.YtelkjbacdpmnfaaBShort
import Derived.Test.YtelkjbacdpmnfaaBWordsB
import Derived.Shelf.Abstract



namespace Go.Proofs.Ytelkjbacdpmnfaa.A
open Go.RowKit Go.W_.PrintWords Go.W_.PrintLast Go.W_.PrintMore
attribute [local go_sem] max2_int min2_int max_two min_two max_three min_three max_four min_four
set_option linter.unusedVariables false
set_option linter.unusedSimpArgs false

theorem good91 (x n : Int) (B : Nat) (w : World) (hc : w.cell? ⟨B, 0, none⟩ = some (.int .i64 n)) :
  Calls Try.prog 91 #[.int .i64 x, .pointer (some ⟨B, 0, none⟩)] w fun e w' => e = .returned (.bool (decide (x < 0) || decide (n ≤ x))) ∧ w = w' := by
 by_cases h1 : x < 0
 ·have h1b : decide (x < 0) = true := decide_eq_true h1
  go_enter Try.func91, Try.ntmps91
  go_wp2
  go_ret
  exact ⟨by simp [h1], rfl⟩
 ·have h1b : decide (x < 0) = false := decide_eq_false h1
  go_enter Try.func91, Try.ntmps91
  go_wp2
  go_ret
  exact ⟨by simp [h1], rfl⟩

theorem enters91 : ∀ (args : Array Value) (w : World), (callFunc 91 args).run Try.prog w = .ok (.enter 91 args) w := enters_of Try.func91 (by kernel_rfl) rfl

theorem good91' (x n : Int) (B : Nat) (w : World) (b : Bool) (hb : (decide (x < 0) || decide (n ≤ x)) = b) (hc : w.cell? ⟨B, 0, none⟩ = some (.int .i64 n)) :
  Calls Try.prog 91 #[.int .i64 x, .pointer (some ⟨B, 0, none⟩)] w fun e w' => e = .returned (.bool b) ∧ w = w' := by
 subst hb
 exact good91 x n B w hc

def OutOf (n : Int) (x : Int) : Bool := decide (x < 0) || decide (n ≤ x)

/-- What a search tells: where it found something, or -1. -/
def Found (p : Bool) (w : World) (e : Ending) (w' : World) : Prop := ∃ i : Int, e = .returned (.int .i64 i) ∧ decide (0 ≤ i) = p ∧ w = w'

theorem any_take_succ {α : Type} (p : α → Bool) (l : List α) (d : α) (i : Nat) (h : i < l.length) : (l.take (i + 1)).any p = ((l.take i).any p || p (l.getD i d)) := by
 rw [List.take_succ_eq_append_getElem h, List.any_append]
 simp [List.getD_eq_getElem?_getD, List.getElem?_eq_getElem h]

set_option maxHeartbeats 400000 in
theorem idx116 (n : Int) (B : Nat) (A0 : Option Addr) (c0 : Nat) (l0 : List Int) (w : World) (hr0 : Kd.C (Kd.int .i64) w A0 l0.length l0) (hc0 : l0.length ≤ c0)
  (hc : w.cell? ⟨B, 0, none⟩ = some (.int .i64 n)) :
  Calls Try.prog 116 #[.slice A0 l0.length c0, .func (.func 91) #[] #[.pointer (some ⟨B, 0, none⟩)]] w (Found (l0.any (OutOf n)) w) := by
 have en := enters91
 have hm := hr0.2.1
 have HR0 := Q0z.mk hr0
 clear hr0
 go_enter Try.func116, Try.ntmps116
 go_wp2
 go_loop [5, 8] (fun v5 v8 => ∃ i : Nat, i ≤ l0.length ∧ v8 = .int .i64 i ∧ Q0z ((l0.take i).any (OutOf n) = false)) (fun _ v8 => l0.length - (intOf v8).toNat)
 case atStart => exact ⟨0, Nat.zero_le _, rfl, ⟨by simp⟩⟩
 case round =>
  obtain ⟨i, hi, rfl, HP⟩ := hrel
  by_cases hlt : i < l0.length
  ·obtain ⟨ad, ea, hx⟩ := Kd.at_int HR0.1 (i : Int) (by omega) (by omega)
   cases ea
   replace hx : w.cell? (ad.add i) = some (.int .i64 (rd l0 i)) := by simpa using hx
   cases hp : OutOf n (rd l0 i) with
   | true =>
    have HP2 := Q0z.mk hp
    clear hp
    go_wp2_with (go_at_fn 91; refine (good91' _ _ _ _ true HP2.1 hc).mono ?_; rintro e w' ⟨rfl, rfl⟩)
    go_ret
    refine ⟨_, rfl, ?_, rfl⟩
    rw [decide_eq_true (by omega)]
    symm
    rw [List.any_eq_true]
    exact ⟨rd l0 i, by simp [rd, List.getD_eq_getElem?_getD, List.getElem?_eq_getElem hlt], HP2.1⟩
   | false =>
    have HP2 := Q0z.mk hp
    clear hp
    go_wp2_with (go_at_fn 91; refine (good91' _ _ _ _ false HP2.1 hc).mono ?_; rintro e w' ⟨rfl, rfl⟩)
    go_round
    case rel => exact ⟨i + 1, by omega, by go_num, ⟨by rw [any_take_succ _ _ 0 _ hlt, HP.1]; exact HP2.1⟩⟩
    case measure => simp [intOf]; omega
  ·go_wp2
   go_ret
   refine ⟨_, rfl, ?_, rfl⟩
   have hh := HP.1
   rw [List.take_of_length_le (by omega)] at hh
   rw [hh]; rfl

theorem contains90 (n : Int) (B : Nat) (A0 : Option Addr) (c0 : Nat) (l0 : List Int) (w : World) (hr0 : Kd.C (Kd.int .i64) w A0 l0.length l0) (hc0 : l0.length ≤ c0)
  (hc : w.cell? ⟨B, 0, none⟩ = some (.int .i64 n)) :
  Calls Try.prog 90 #[.slice A0 l0.length c0, .func (.func 91) #[] #[.pointer (some ⟨B, 0, none⟩)]] w fun e w' => e = .returned (.bool (l0.any (OutOf n))) ∧ w = w' := by
 go_enter Try.func90, Try.ntmps90
 go_wp2_with (go_at_call 116; refine (idx116 n B A0 c0 l0 w hr0 hc0 hc).mono ?_; rintro e w' ⟨i, rfl, hi, rfl⟩; have HI := Q0z.mk hi; clear hi)
 go_ret
 exact ⟨by rw [← HI.1]; rfl, rfl⟩

/-- What thompson.Good asks of one row of Next. -/
def BadRow (k n : Int) (l : List Int) : Bool := !decide ((l.length : Int) = k) || l.any (OutOf n)

theorem good89 (k n : Int) (B1 B : Nat) (A0 : Option Addr) (c0 : Nat) (l0 : List Int) (w : World) (hr0 : Kd.C (Kd.int .i64) w A0 l0.length l0) (hc0 : l0.length ≤ c0)
  (hc1 : w.cell? ⟨B1, 0, none⟩ = some (.int .i64 k)) (hc : w.cell? ⟨B, 0, none⟩ = some (.int .i64 n)) :
  Calls Try.prog 89 #[.slice A0 l0.length c0, .pointer (some ⟨B1, 0, none⟩), .pointer (some ⟨B, 0, none⟩)] w fun e w' => e = .returned (.bool (BadRow k n l0)) ∧ w = w' := by
 have hm := hr0.2.1
 have HR0 := Q0z.mk hr0
 clear hr0
 by_cases h1 : (l0.length : Int) = k
 ·have h1b : ((l0.length : Int) != k) = false := by simp [h1]
  have H1 := Q0z.mk h1
  clear h1
  go_enter Try.func89, Try.ntmps89
  go_wp2_with (go_at_call 90; refine (contains90 n B A0 c0 l0 w HR0.1 hc0 hc).mono ?_; rintro e w' ⟨rfl, rfl⟩)
  go_ret
  exact ⟨by simp [BadRow, H1.1], rfl⟩
 ·have h1b : ((l0.length : Int) != k) = true := by simp [h1]
  have H1 := Q0z.mk h1
  clear h1
  go_enter Try.func89, Try.ntmps89
  go_wp2
  go_ret
  exact ⟨by simp [BadRow, H1.1], rfl⟩

theorem at_rows {α : Type} {e : TypeId} {D : Kd α} {w : World} {A : Option Addr} {n : Nat} {xs : List (List α)} (h : Kd.C (Kd.slice e D) w A n xs) (i : Nat) (h1 : i < n) :
  ∃ ad A0 c0, A = some ad ∧ w.cell? (ad.add i) = some (.slice A0 (xs.getD i []).length c0) ∧ (xs.getD i []).length ≤ c0 ∧ D.C w A0 (xs.getD i []).length (xs.getD i []) := by
 obtain ⟨ad, c, e, _, hK, hc0⟩ := Kd.C_get h ([] : List α) (i : Int) (by omega) (by omega)
 have hc : ∀ j u, c[j]? = some u → w.cell? (ad.add (i * 1 + j)) = some u := hc0
 obtain ⟨A0, c0, rfl, l0, g0⟩ := hK
 exact ⟨ad, A0, c0, e, by have hq := hc 0 _ rfl; rwa [Nat.mul_one, Nat.add_zero] at hq, l0, g0⟩

theorem enters89 : ∀ (args : Array Value) (w : World), (callFunc 89 args).run Try.prog w = .ok (.enter 89 args) w := enters_of Try.func89 (by kernel_rfl) rfl

theorem good89' (k n : Int) (B1 B : Nat) (A0 : Option Addr) (c0 : Nat) (l0 : List Int) (w : World) (b : Bool) (hb : BadRow k n l0 = b) (hr0 : Kd.C (Kd.int .i64) w A0 l0.length l0) (hc0 : l0.length ≤ c0)
  (hc1 : w.cell? ⟨B1, 0, none⟩ = some (.int .i64 k)) (hc : w.cell? ⟨B, 0, none⟩ = some (.int .i64 n)) :
  Calls Try.prog 89 #[.slice A0 l0.length c0, .pointer (some ⟨B1, 0, none⟩), .pointer (some ⟨B, 0, none⟩)] w fun e w' => e = .returned (.bool b) ∧ w = w' := by
 subst hb
 exact good89 k n B1 B A0 c0 l0 w hr0 hc0 hc1 hc

set_option maxHeartbeats 400000 in
theorem idx115 (k n : Int) (B1 B : Nat) (A0 : Option Addr) (c0 : Nat) (l0 : List (List Int)) (w : World) (hr0 : Kd.C (Kd.slice 3 (Kd.int .i64)) w A0 l0.length l0) (hc0 : l0.length ≤ c0)
  (hc1 : w.cell? ⟨B1, 0, none⟩ = some (.int .i64 k)) (hc : w.cell? ⟨B, 0, none⟩ = some (.int .i64 n)) :
  Calls Try.prog 115 #[.slice A0 l0.length c0, .func (.func 89) #[] #[.pointer (some ⟨B1, 0, none⟩), .pointer (some ⟨B, 0, none⟩)]] w (Found (l0.any (BadRow k n)) w) := by
 have en := enters89
 have hm := hr0.2.1
 have HR0 := Q0z.mk hr0
 clear hr0
 go_enter Try.func115, Try.ntmps115
 go_wp2
 go_loop [5, 8] (fun v5 v8 => ∃ i : Nat, i ≤ l0.length ∧ v8 = .int .i64 i ∧ Q0z ((l0.take i).any (BadRow k n) = false)) (fun _ v8 => l0.length - (intOf v8).toNat)
 case atStart => exact ⟨0, Nat.zero_le _, rfl, ⟨by simp⟩⟩
 case round =>
  obtain ⟨i, hi, rfl, HP⟩ := hrel
  by_cases hlt : i < l0.length
  ·obtain ⟨ad, A1, c1, ea, hx, hl1, hr1⟩ := at_rows HR0.1 i hlt
   cases ea
   have HR1 := Q0z.mk hr1
   clear hr1
   cases hp : BadRow k n (l0.getD i []) with
   | true =>
    have HP2 := Q0z.mk hp
    clear hp
    have hin : Q0z (l0.getD i [] ∈ l0) := ⟨by simp [List.getD_eq_getElem?_getD, List.getElem?_eq_getElem hlt]⟩
    generalize l0.getD i [] = l1 at *
    go_wp2_with (go_at_fn 89; refine (good89' k n B1 B A1 c1 l1 _ true HP2.1 HR1.1 hl1 hc1 hc).mono ?_; rintro e w' ⟨rfl, rfl⟩)
    go_ret
    refine ⟨_, rfl, ?_, rfl⟩
    rw [decide_eq_true (by omega)]
    symm
    rw [List.any_eq_true]
    exact ⟨l1, hin.1, HP2.1⟩
   | false =>
    have HP2 := Q0z.mk hp
    clear hp
    have hin := Q0z.mk (any_take_succ (BadRow k n) l0 [] i hlt)
    generalize l0.getD i [] = l1 at *
    go_wp2_with (go_at_fn 89; refine (good89' k n B1 B A1 c1 l1 _ false HP2.1 HR1.1 hl1 hc1 hc).mono ?_; rintro e w' ⟨rfl, rfl⟩)
    go_round
    case rel => exact ⟨i + 1, by omega, by go_num, ⟨by rw [hin.1, HP.1]; exact HP2.1⟩⟩
    case measure => simp [intOf]; omega
  ·go_wp2
   go_ret
   refine ⟨_, rfl, ?_, rfl⟩
   have hh := HP.1
   rw [List.take_of_length_le (by omega)] at hh
   rw [hh]; rfl

theorem contains88 (k n : Int) (B1 B : Nat) (A0 : Option Addr) (c0 : Nat) (l0 : List (List Int)) (w : World) (hr0 : Kd.C (Kd.slice 3 (Kd.int .i64)) w A0 l0.length l0) (hc0 : l0.length ≤ c0)
  (hc1 : w.cell? ⟨B1, 0, none⟩ = some (.int .i64 k)) (hc : w.cell? ⟨B, 0, none⟩ = some (.int .i64 n)) :
  Calls Try.prog 88 #[.slice A0 l0.length c0, .func (.func 89) #[] #[.pointer (some ⟨B1, 0, none⟩), .pointer (some ⟨B, 0, none⟩)]] w fun e w' => e = .returned (.bool (l0.any (BadRow k n))) ∧ w = w' := by
 have hm := hr0.2.1
 have HR0 := Q0z.mk hr0
 clear hr0
 go_enter Try.func88, Try.ntmps88
 go_wp2_with (go_at_call 115; refine (idx115 k n B1 B A0 c0 l0 w HR0.1 hc0 hc1 hc).mono ?_; rintro e w' ⟨i, rfl, hi, rfl⟩; have HI := Q0z.mk hi; clear hi)
 go_ret
 exact ⟨by rw [← HI.1]; rfl, rfl⟩

/-- thompson.Good, as a Bool. -/
def goodB (k : Int) (nx : List (List Int)) (ac : List Bool) : Bool :=
 decide (1 ≤ k) && decide (k ≤ 64) && decide (1 ≤ (nx.length : Int)) && decide ((nx.length : Int) ≤ 1000) && decide ((ac.length : Int) = nx.length) && !nx.any (BadRow k nx.length)

set_option maxHeartbeats 400000 in
set_option maxRecDepth 100000 in
theorem good36 (k : Int) (A1 : Option Addr) (c1 : Nat) (nx : List (List Int)) (A2 : Option Addr) (c2 : Nat) (ac : List Bool) (w : World)
  (hr1 : Kd.C (Kd.slice 3 (Kd.int .i64)) w A1 nx.length nx) (hc1 : nx.length ≤ c1) (hr2 : Kd.C Kd.bool w A2 ac.length ac) (hc2 : ac.length ≤ c2) :
  Calls Try.prog 36 #[.agg #[.int .i64 k, .slice A1 nx.length c1, .slice A2 ac.length c2]] w fun e w' => e = .returned (.bool (goodB k nx ac)) ∧ Below w.heap.size w w' := by
 have hu25 := Try.underlying25
 have hm1 := hr1.2.1
 have hm2 := hr2.2.1
 have HR1 := Q0z.mk hr1
 have HR2 := Q0z.mk hr2
 clear hr1 hr2
 have hC := fun (W : World) (hb : Below w.heap.size w W) (h1 : W.cell? ⟨w.heap.size, 0, none⟩ = some (.int .i64 k)) (h2 : W.cell? ⟨w.heap.size + 1, 0, none⟩ = some (.int .i64 nx.length)) => contains88 k nx.length w.heap.size (w.heap.size + 1) A1 c1 nx W (Kd.C_below HR1.1 hb) hc1 h1 h2
 have HC := Q0z.mk hC
 clear hC
 go_enter Try.func36, Try.ntmps36
 go_wp2_with (go_at_call 88; refine (HC.1 _ (ba (ba (Below.refl w.heap.size w) _) _) (by simp) (by simp)).mono ?_; rintro e w' ⟨rfl, rfl⟩)
 all_goals go_ret
 all_goals refine ⟨?_, ba (ba (Below.refl w.heap.size w) _) _⟩
 all_goals simp [goodB]
 all_goals intros
 all_goals try simp only [bne_iff_ne, ne_eq, bne_eq_false_iff_eq] at *
 all_goals first | omega | (exfalso; omega)

def thompson_Good.f (a0_0 : Int) (l0_1 : List (List Int)) (l0_2 : List Bool) : Option (Bool) := some (goodB a0_0 l0_1 l0_2)
theorem thompson_Good.calls (a0_0 : Int) (A0_1 : Option Addr) (c0_1 : Nat) (l0_1 : List (List Int)) (A0_2 : Option Addr) (c0_2 : Nat) (l0_2 : List Bool) (r : Bool) (w : World) (hr0_1 : Kd.C (Kd.slice 3 (Kd.int .i64)) w A0_1 l0_1.length l0_1) (hc0_1 : l0_1.length ≤ c0_1) (hr0_2 : Kd.C Kd.bool w A0_2 l0_2.length l0_2) (hc0_2 : l0_2.length ≤ c0_2) (h : thompson_Good.f a0_0 l0_1 l0_2 = some r) :
  Calls Try.prog 36 #[.agg #[.int .i64 a0_0, .slice A0_1 l0_1.length c0_1, .slice A0_2 l0_2.length c0_2]] w fun e w' => e = .returned (.bool r) ∧ Below w.heap.size w w' := by
 obtain rfl := Option.some.inj h
 exact good36 a0_0 A0_1 c0_1 l0_1 A0_2 c0_2 l0_2 w hr0_1 hc0_1 hr0_2 hc0_2

end Go.Proofs.Ytelkjbacdpmnfaa.A
