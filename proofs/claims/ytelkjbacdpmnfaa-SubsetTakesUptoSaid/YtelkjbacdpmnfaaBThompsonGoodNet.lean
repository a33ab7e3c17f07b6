/- Contracts. -/
import Derived.Test.YtelkjbacdpmnfaaB0
import Derived.Shelf.Abstract

namespace Go.Proofs.Ytelkjbacdpmnfaa.A
open Go.RowKit Go.W_.PrintWords Go.W_.PrintLast Go.W_.PrintMore
attribute [local go_sem] max2_int min2_int max_two min_two max_three min_three max_four min_four
set_option linter.unusedVariables false
set_option linter.unusedSimpArgs false

/-- An edge that no net of so many letters and states has. -/
def BadEdge (letters states : Int) (e : S82) : Bool := decide (e.f1 < 0) || decide (states ≤ e.f1) || (!decide (e.f0 = -1) && (decide (e.f0 < 0) || decide (letters ≤ e.f0)))

set_option maxHeartbeats 400000 in
set_option maxRecDepth 100000 in
theorem gnet95 (letters states : Int) (x : S82) (Bs Bn : Nat) (w : World) (hs : w.cell? ⟨Bs, 0, none⟩ = some (.int .i64 states)) (hn : w.cell? ⟨Bn, 0, none⟩ = some (.int .i64 letters)) (hsb : Bs < w.heap.size) (hnb : Bn < w.heap.size) :
  Calls Try.prog 95 #[.agg #[.int .i64 x.f0, .int .i64 x.f1], .pointer (some ⟨Bs, 0, none⟩), .pointer (some ⟨Bn, 0, none⟩)] w fun e w' => e = .returned (.bool (BadEdge letters states x)) ∧ Below w.heap.size w w' := by
 have hu82 := Try.underlying82
 have hu28 := Try.underlying28
 obtain ⟨a, b⟩ := x
 by_cases h1 : a = -1
 all_goals
  go_enter Try.func95, Try.ntmps95
  go_wp2
  all_goals go_ret
  all_goals refine ⟨?_, ba (Below.refl w.heap.size w) _⟩
 all_goals simp [BadEdge]
 all_goals first | omega | (simp [bne, h1]; done) | skip
 all_goals (rw [Bool.eq_iff_iff]; simp <;> omega)

theorem enters95 : ∀ (args : Array Value) (w : World), (callFunc 95 args).run Try.prog w = .ok (.enter 95 args) w := enters_of Try.func95 (by kernel_rfl) rfl

theorem gnet95' (letters states : Int) (x : S82) (Bs Bn : Nat) (w : World) (v : Bool) (hv : BadEdge letters states x = v) (hs : w.cell? ⟨Bs, 0, none⟩ = some (.int .i64 states)) (hn : w.cell? ⟨Bn, 0, none⟩ = some (.int .i64 letters)) (hsb : Bs < w.heap.size) (hnb : Bn < w.heap.size) :
  Calls Try.prog 95 #[.agg #[.int .i64 x.f0, .int .i64 x.f1], .pointer (some ⟨Bs, 0, none⟩), .pointer (some ⟨Bn, 0, none⟩)] w fun e w' => e = .returned (.bool v) ∧ Below w.heap.size w w' := by
 subst hv
 exact gnet95 letters states x Bs Bn w hs hn hsb hnb

/-- What a search tells whose predicate makes memory. -/
def FoundB (p : Bool) (w : World) (e : Ending) (w' : World) : Prop := ∃ i : Int, e = .returned (.int .i64 i) ∧ decide (0 ≤ i) = p ∧ Below w.heap.size w w'

theorem any_take_succ' {α : Type} (p : α → Bool) (l : List α) (d : α) (i : Nat) (h : i < l.length) : (l.take (i + 1)).any p = ((l.take i).any p || p (l.getD i d)) := by
 rw [List.take_succ_eq_append_getElem h, List.any_append]
 simp [List.getD_eq_getElem?_getD, List.getElem?_eq_getElem h]

theorem at_edge {w : World} {A : Option Addr} {n : Nat} {xs : List S82} (h : Kd.C k82 w A n xs) (i : Nat) (h1 : i < n) : ∃ ad , A = some ad ∧ w.cell? (ad.add (i * 2)) = some (.int .i64 (xs.getD i z82).f0) ∧ w.cell? ⟨(ad.add (i * 2)).block, (ad.add (i * 2)).off + 1, none⟩ = some (.int .i64 (xs.getD i z82).f1) := by
 obtain ⟨ad, h2, h3, h4⟩ := at_T82 h (i : Int) (by omega) (by omega)
 exact ⟨ad, h2, h3, h4⟩

set_option maxHeartbeats 400000 in
set_option maxRecDepth 100000 in
theorem idx118 (letters states : Int) (Bs Bn : Nat) (A0 : Option Addr) (c0 : Nat) (l0 : List S82) (w : World) (hr0 : Kd.C k82 w A0 l0.length l0) (hc0 : l0.length ≤ c0)
  (hs : w.cell? ⟨Bs, 0, none⟩ = some (.int .i64 states)) (hn : w.cell? ⟨Bn, 0, none⟩ = some (.int .i64 letters)) (hsb : Bs < w.heap.size) (hnb : Bn < w.heap.size) :
  Calls Try.prog 118 #[.slice A0 l0.length c0, .func (.func 95) #[] #[.pointer (some ⟨Bs, 0, none⟩), .pointer (some ⟨Bn, 0, none⟩)]] w (FoundB (l0.any (BadEdge letters states)) w) := by
 have en := enters95
 have hm := hr0.2.1
 have HR0 := Q0z.mk hr0
 have HS := Q0z.mk hs
 have HN := Q0z.mk hn
 clear hr0 hs hn
 go_enter Try.func118, Try.ntmps118
 go_wp2
 go_loopw [5, 8] (fun v5 v8 wr => ∃ i : Nat, i ≤ l0.length ∧ v8 = .int .i64 i ∧ Q0z ((l0.take i).any (BadEdge letters states) = false) ∧ Q0z (Below w.heap.size w wr)) (fun _ v8 _ => l0.length - (intOf v8).toNat)
 case atStart => exact ⟨0, Nat.zero_le _, rfl, ⟨by simp⟩, ⟨Below.refl _ _⟩⟩
 case round =>
  obtain ⟨i, hi, rfl, HP, HB⟩ := hrel
  have hz := HB.1.size
  by_cases hlt : i < l0.length
  ·obtain ⟨ad, ea, hx, hy⟩ := at_edge HR0.1 i hlt
   cases ea
   replace hx := (HB.1.cell (World.block_lt_of_cell? w _ hx)).trans hx
   replace hy := (HB.1.cell (World.block_lt_of_cell? w _ hy)).trans hy
   have hs' := Q0z.mk ((HB.1.cell (p := ⟨Bs, 0, none⟩) hsb).trans HS.1)
   have hn' := Q0z.mk ((HB.1.cell (p := ⟨Bn, 0, none⟩) hnb).trans HN.1)
   cases hp : BadEdge letters states (l0.getD i z82) with
   | true =>
    have HP2 := Q0z.mk hp
    clear hp
    have hin : Q0z (l0.getD i z82 ∈ l0) := ⟨by simp [List.getD_eq_getElem?_getD, List.getElem?_eq_getElem hlt]⟩
    generalize l0.getD i z82 = l1 at *
    go_wp2_with (go_at_fn 95; refine (gnet95' letters states l1 Bs Bn _ true HP2.1 hs'.1 hn'.1 (by omega) (by omega)).mono ?_; rintro e w' ⟨rfl, hb⟩; have HB2 := Q0z.mk hb; clear hb)
    go_ret
    refine ⟨_, rfl, ?_, below_then HB.1 hz HB2.1⟩
    rw [decide_eq_true (by omega)]
    symm
    rw [List.any_eq_true]
    exact ⟨l1, hin.1, HP2.1⟩
   | false =>
    have HP2 := Q0z.mk hp
    clear hp
    have hin := Q0z.mk (any_take_succ' (BadEdge letters states) l0 z82 i hlt)
    generalize l0.getD i z82 = l1 at *
    go_wp2_with (go_at_fn 95; refine (gnet95' letters states l1 Bs Bn _ false HP2.1 hs'.1 hn'.1 (by omega) (by omega)).mono ?_; rintro e w' ⟨rfl, hb⟩; have HB2 := Q0z.mk hb; clear hb)
    go_roundw
    case rel => exact ⟨i + 1, by omega, by go_num, ⟨by rw [hin.1, HP.1]; exact HP2.1⟩, ⟨below_then HB.1 hz HB2.1⟩⟩
    case measure => simp [intOf]; omega
  ·go_wp2
   go_ret
   refine ⟨_, rfl, ?_, HB.1⟩
   have hh := HP.1
   rw [List.take_of_length_le (by omega)] at hh
   rw [hh]; rfl

theorem contains94 (letters states : Int) (Bs Bn : Nat) (A0 : Option Addr) (c0 : Nat) (l0 : List S82) (w : World) (hr0 : Kd.C k82 w A0 l0.length l0) (hc0 : l0.length ≤ c0)
  (hs : w.cell? ⟨Bs, 0, none⟩ = some (.int .i64 states)) (hn : w.cell? ⟨Bn, 0, none⟩ = some (.int .i64 letters)) (hsb : Bs < w.heap.size) (hnb : Bn < w.heap.size) :
  Calls Try.prog 94 #[.slice A0 l0.length c0, .func (.func 95) #[] #[.pointer (some ⟨Bs, 0, none⟩), .pointer (some ⟨Bn, 0, none⟩)]] w fun e w' => e = .returned (.bool (l0.any (BadEdge letters states))) ∧ Below w.heap.size w w' := by
 have HR0 := Q0z.mk hr0
 have HS := Q0z.mk hs
 have HN := Q0z.mk hn
 clear hr0 hs hn
 go_enter Try.func94, Try.ntmps94
 go_wp2_with (go_at_call 118; refine (idx118 letters states Bs Bn A0 c0 l0 w HR0.1 hc0 HS.1 HN.1 hsb hnb).mono ?_; rintro e w' ⟨i, rfl, hi, hb⟩; have HI := Q0z.mk hi; have HB := Q0z.mk hb; clear hi hb)
 go_ret
 exact ⟨by rw [← HI.1]; rfl, HB.1⟩

theorem gnet93 (letters states : Int) (Bs Bn : Nat) (A0 : Option Addr) (c0 : Nat) (l0 : List S82) (w : World) (v : Bool) (hv : l0.any (BadEdge letters states) = v) (hr0 : Kd.C k82 w A0 l0.length l0) (hc0 : l0.length ≤ c0)
  (hs : w.cell? ⟨Bs, 0, none⟩ = some (.int .i64 states)) (hn : w.cell? ⟨Bn, 0, none⟩ = some (.int .i64 letters)) (hsb : Bs < w.heap.size) (hnb : Bn < w.heap.size) :
  Calls Try.prog 93 #[.slice A0 l0.length c0, .pointer (some ⟨Bs, 0, none⟩), .pointer (some ⟨Bn, 0, none⟩)] w fun e w' => e = .returned (.bool v) ∧ Below w.heap.size w w' := by
 subst hv
 have HR0 := Q0z.mk hr0
 have HS := Q0z.mk hs
 have HN := Q0z.mk hn
 clear hr0 hs hn
 go_enter Try.func93, Try.ntmps93
 go_wp2_with (go_at_call 94; refine (contains94 letters states Bs Bn A0 c0 l0 w HR0.1 hc0 HS.1 HN.1 hsb hnb).mono ?_; rintro e w' ⟨rfl, hb⟩; have HB := Q0z.mk hb; clear hb)
 go_ret
 exact ⟨rfl, HB.1⟩

theorem enters93 : ∀ (args : Array Value) (w : World), (callFunc 93 args).run Try.prog w = .ok (.enter 93 args) w := enters_of Try.func93 (by kernel_rfl) rfl

theorem at_rows' {α : Type} {e : TypeId} {D : Kd α} {w : World} {A : Option Addr} {n : Nat} {xs : List (List α)} (h : Kd.C (Kd.slice e D) w A n xs) (i : Nat) (h1 : i < n) :
  ∃ ad A0 c0, A = some ad ∧ w.cell? (ad.add i) = some (.slice A0 (xs.getD i []).length c0) ∧ (xs.getD i []).length ≤ c0 ∧ D.C w A0 (xs.getD i []).length (xs.getD i []) := by
 obtain ⟨ad, c, e, _, hK, hc0⟩ := Kd.C_get h ([] : List α) (i : Int) (by omega) (by omega)
 have hc : ∀ j u, c[j]? = some u → w.cell? (ad.add (i * 1 + j)) = some u := hc0
 obtain ⟨A0, c0, rfl, l0, g0⟩ := hK
 exact ⟨ad, A0, c0, e, by have hq := hc 0 _ rfl; rwa [Nat.mul_one, Nat.add_zero] at hq, l0, g0⟩

/-- What thompson.GoodNet asks of one row of edges. -/
def BadEdges (letters states : Int) (l : List S82) : Bool := l.any (BadEdge letters states)

set_option maxHeartbeats 400000 in
set_option maxRecDepth 100000 in
theorem idx117 (letters states : Int) (Bs Bn : Nat) (A0 : Option Addr) (c0 : Nat) (l0 : List (List S82)) (w : World) (hr0 : Kd.C (Kd.slice 82 k82) w A0 l0.length l0) (hc0 : l0.length ≤ c0)
  (hs : w.cell? ⟨Bs, 0, none⟩ = some (.int .i64 states)) (hn : w.cell? ⟨Bn, 0, none⟩ = some (.int .i64 letters)) (hsb : Bs < w.heap.size) (hnb : Bn < w.heap.size) :
  Calls Try.prog 117 #[.slice A0 l0.length c0, .func (.func 93) #[] #[.pointer (some ⟨Bs, 0, none⟩), .pointer (some ⟨Bn, 0, none⟩)]] w (FoundB (l0.any (BadEdges letters states)) w) := by
 have en := enters93
 have hm := hr0.2.1
 have HR0 := Q0z.mk hr0
 have HS := Q0z.mk hs
 have HN := Q0z.mk hn
 clear hr0 hs hn
 go_enter Try.func117, Try.ntmps117
 go_wp2
 go_loopw [5, 8] (fun v5 v8 wr => ∃ i : Nat, i ≤ l0.length ∧ v8 = .int .i64 i ∧ Q0z ((l0.take i).any (BadEdges letters states) = false) ∧ Q0z (Below w.heap.size w wr)) (fun _ v8 _ => l0.length - (intOf v8).toNat)
 case atStart => exact ⟨0, Nat.zero_le _, rfl, ⟨by simp⟩, ⟨Below.refl _ _⟩⟩
 case round =>
  obtain ⟨i, hi, rfl, HP, HB⟩ := hrel
  have hz := HB.1.size
  by_cases hlt : i < l0.length
  ·obtain ⟨ad, A1, c1, ea, hx, hl1, hr1⟩ := at_rows' HR0.1 i hlt
   cases ea
   replace hx := (HB.1.cell (World.block_lt_of_cell? w _ hx)).trans hx
   have HR1 := Q0z.mk (Kd.C_below hr1 (HB.1))
   clear hr1
   have hs' := Q0z.mk ((HB.1.cell (p := ⟨Bs, 0, none⟩) hsb).trans HS.1)
   have hn' := Q0z.mk ((HB.1.cell (p := ⟨Bn, 0, none⟩) hnb).trans HN.1)
   cases hp : BadEdges letters states (l0.getD i []) with
   | true =>
    have HP2 := Q0z.mk hp
    clear hp
    have hin : Q0z (l0.getD i [] ∈ l0) := ⟨by simp [List.getD_eq_getElem?_getD, List.getElem?_eq_getElem hlt]⟩
    generalize l0.getD i [] = l1 at *
    go_wp2_with (go_at_fn 93; refine (gnet93 letters states Bs Bn A1 c1 l1 _ true HP2.1 HR1.1 hl1 hs'.1 hn'.1 (by omega) (by omega)).mono ?_; rintro e w' ⟨rfl, hb⟩; have HB2 := Q0z.mk hb; clear hb)
    go_ret
    refine ⟨_, rfl, ?_, below_then HB.1 hz HB2.1⟩
    rw [decide_eq_true (by omega)]
    symm
    rw [List.any_eq_true]
    exact ⟨l1, hin.1, HP2.1⟩
   | false =>
    have HP2 := Q0z.mk hp
    clear hp
    have hin := Q0z.mk (any_take_succ' (BadEdges letters states) l0 [] i hlt)
    generalize l0.getD i [] = l1 at *
    go_wp2_with (go_at_fn 93; refine (gnet93 letters states Bs Bn A1 c1 l1 _ false HP2.1 HR1.1 hl1 hs'.1 hn'.1 (by omega) (by omega)).mono ?_; rintro e w' ⟨rfl, hb⟩; have HB2 := Q0z.mk hb; clear hb)
    go_roundw
    case rel => exact ⟨i + 1, by omega, by go_num, ⟨by rw [hin.1, HP.1]; exact HP2.1⟩, ⟨below_then HB.1 hz HB2.1⟩⟩
    case measure => simp [intOf]; omega
  ·go_wp2
   go_ret
   refine ⟨_, rfl, ?_, HB.1⟩
   have hh := HP.1
   rw [List.take_of_length_le (by omega)] at hh
   rw [hh]; rfl

theorem contains92 (letters states : Int) (Bs Bn : Nat) (A0 : Option Addr) (c0 : Nat) (l0 : List (List S82)) (w : World) (hr0 : Kd.C (Kd.slice 82 k82) w A0 l0.length l0) (hc0 : l0.length ≤ c0)
  (hs : w.cell? ⟨Bs, 0, none⟩ = some (.int .i64 states)) (hn : w.cell? ⟨Bn, 0, none⟩ = some (.int .i64 letters)) (hsb : Bs < w.heap.size) (hnb : Bn < w.heap.size) :
  Calls Try.prog 92 #[.slice A0 l0.length c0, .func (.func 93) #[] #[.pointer (some ⟨Bs, 0, none⟩), .pointer (some ⟨Bn, 0, none⟩)]] w fun e w' => e = .returned (.bool (l0.any (BadEdges letters states))) ∧ Below w.heap.size w w' := by
 have HR0 := Q0z.mk hr0
 have HS := Q0z.mk hs
 have HN := Q0z.mk hn
 clear hr0 hs hn
 go_enter Try.func92, Try.ntmps92
 go_wp2_with (go_at_call 117; refine (idx117 letters states Bs Bn A0 c0 l0 w HR0.1 hc0 HS.1 HN.1 hsb hnb).mono ?_; rintro e w' ⟨i, rfl, hi, hb⟩; have HI := Q0z.mk hi; have HB := Q0z.mk hb; clear hi hb)
 go_ret
 exact ⟨by rw [← HI.1]; rfl, HB.1⟩

/-- thompson.GoodNet, as a Bool. -/
def goodNetB (k : Int) (es : List (List S82)) : Bool :=
 decide (1 ≤ k) && decide (k ≤ 64) && decide (2 ≤ (es.length : Int)) && decide ((es.length : Int) ≤ 4000) && !es.any (BadEdges k es.length)

set_option maxHeartbeats 400000 in
set_option maxRecDepth 100000 in
theorem good38 (k : Int) (A1 : Option Addr) (c1 : Nat) (es : List (List S82)) (w : World)
  (hr1 : Kd.C (Kd.slice 82 k82) w A1 es.length es) (hc1 : es.length ≤ c1) :
  Calls Try.prog 38 #[.agg #[.int .i64 k, .slice A1 es.length c1]] w fun e w' => e = .returned (.bool (goodNetB k es)) ∧ Below w.heap.size w w' := by
 have hu28 := Try.underlying28
 have hm1 := hr1.2.1
 have HR1 := Q0z.mk hr1
 clear hr1
 have hC := fun (W : World) (hb : Below w.heap.size w W) (h1 : W.cell? ⟨w.heap.size, 0, none⟩ = some (.int .i64 k)) (h2 : W.cell? ⟨w.heap.size + 1, 0, none⟩ = some (.int .i64 es.length)) (hz : w.heap.size + 1 < W.heap.size) => contains92 k es.length (w.heap.size + 1) w.heap.size A1 c1 es W (Kd.C_below HR1.1 hb) hc1 h2 h1 hz (by omega)
 have HC := Q0z.mk hC
 clear hC
 go_enter Try.func38, Try.ntmps38
 go_wp2_with (go_at_call 92; refine (HC.1 _ (ba (ba (Below.refl w.heap.size w) _) _) (by simp) (by simp) (by simp)).mono ?_; rintro e w' ⟨rfl, hb⟩; have HB := Q0z.mk (below_then (ba (ba (Below.refl w.heap.size w) _) _) (by simp; omega) hb); clear hb)
 all_goals go_ret
 all_goals refine ⟨?_, by first | exact HB.1 | exact ba (ba (Below.refl w.heap.size w) _) _⟩
 all_goals simp [goodNetB]
 all_goals intros
 all_goals try simp only [bne_iff_ne, ne_eq, bne_eq_false_iff_eq] at *
 all_goals first | omega | (exfalso; omega)

def thompson_GoodNet.f (a0_0 : Int) (l0_1 : List (List S82)) : Option (Bool) := some (goodNetB a0_0 l0_1)
theorem thompson_GoodNet.calls (a0_0 : Int) (A0_1 : Option Addr) (c0_1 : Nat) (l0_1 : List (List (S82))) (r : Bool) (w : World) (hr0_1 : Kd.C (Kd.slice 82 k82) w A0_1 l0_1.length l0_1) (hc0_1 : l0_1.length ≤ c0_1) (h : thompson_GoodNet.f a0_0 l0_1 = some r) :
  Calls Try.prog 38 #[.agg #[.int .i64 a0_0, .slice A0_1 l0_1.length c0_1]] w fun e w' => e = .returned (.bool r) ∧ Below w.heap.size w w' := by
 obtain rfl := Option.some.inj h
 exact good38 a0_0 A0_1 c0_1 l0_1 w hr0_1 hc0_1

end Go.Proofs.Ytelkjbacdpmnfaa.A
