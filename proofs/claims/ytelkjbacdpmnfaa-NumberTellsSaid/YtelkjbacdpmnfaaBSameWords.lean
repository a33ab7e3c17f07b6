/- Contracts. -/
import Derived.Test.YtelkjbacdpmnfaaB0
import Derived.Test.YtelkjbacdpmnfaaBWordsB
import Derived.RangeFuncNested
import Derived.RangeFuncBound
import Derived.RangeFuncCalls
import Derived.RangeFuncLeaves
import Derived.Shelf.Abstract
import Derived.Shelf.RegionOpen
import Derived.WalkKit
import Derived.OwnWalkIn
import Derived.TacticsInMore
import Derived.LoopNIn
import Derived.LoopIn
import Derived.ChangeKeysEq
import Derived.Laws.CopyRow
import Derived.Maps.AppendAt
namespace Go.Proofs.Ytelkjbacdpmnfaa.A
open Go.RowKit Go.W_.PrintWords Go.W_.PrintLast Go.W_.PrintMore
attribute [local go_sem] max2_int min2_int max_two min_two max_three min_three max_four min_four
set_option linter.unusedVariables false
set_option linter.unusedSimpArgs false

section
open Go.Shelf
attribute [local go_sem] Oper.semAt_some
/-- The blocks from g on and below n₀ lie as they lay. -/
def KB (n₀ g : Nat) (W W' : World) : Prop := ∀ k, k < n₀ → g ≤ k → W'.heap[k]? = W.heap[k]?
theorem KB.refl (n₀ g : Nat) (W : World) : KB n₀ g W W := fun _ _ _ => rfl
theorem KB.trans {n₀ g : Nat} {A B C : World} (h : KB n₀ g A B) (k : KB n₀ g B C) : KB n₀ g A C := fun i h1 h2 => (k i h1 h2).trans (h i h1 h2)
theorem KB.cell {n₀ g : Nat} {A B : World} (h : KB n₀ g A B) {p : Addr} (h1 : p.block < n₀) (h2 : g ≤ p.block) : B.cell? p = A.cell? p := World.cell?_of_block (h p.block h1 h2)
def wide8 (len k : Nat) : Nat := min 8 (len - k * 8)
/-- What the iterator hands over: a part of the row. -/
def encC (ad : Addr) (len : Nat) (x : { k : Nat // k * 8 < len }) : Array Value := #[.slice (some (ad.add (x.1 * 8))) (wide8 len x.1) (wide8 len x.1)]
theorem cut_rest {ad : Addr} {cap len : Nat} (i : Nat) (hi : i < len) (hc : len ≤ cap) : ∀ W : World, (Instr.slice 45 (.slice (some ad) len cap) (some (.int .i64 (i : Int))) none none).run Try.prog W = .ok (.slice (some (ad.add i)) (len - i) (cap - i)) W := by
  obtain ⟨i0, hi0, _, hsz, _⟩ := info_parts info3
  intro W
  have h := cut_from (P := Try.prog) 45 3 .i64 Try.underlying45 hi0 1 hsz (some ad) len cap (i : Int) (by omega) (by omega) W
  rw [h]
  have hne : ¬ cap = i := by omega
  simp [hne]
theorem cut_eight {ad : Addr} {cap len : Nat} (i e : Nat) (he : 0 < e) (hi : i + e ≤ len) (hc : len ≤ cap) : ∀ W : World, (Instr.slice 45 (.slice (some ad) len cap) (some (.int .i64 (i : Int))) (some (.int .i64 ((i : Int) + (e : Int)))) (some (.int .i64 ((i : Int) + (e : Int))))).run Try.prog W = .ok (.slice (some (ad.add i)) e e) W := by
  obtain ⟨i0, hi0, _, hsz, _⟩ := info_parts info3
  intro W
  have hu := Try.underlying45
  go_simp
  have e1 : ((i : Int) + (e : Int)).toNat = i + e := by omega
  rw [if_pos (by omega), if_pos (by omega), if_pos (by omega), e1, if_neg (by omega), show i + e - i = e by omega]
theorem wrap_small {x : Int} (h0 : 0 ≤ x) (h : x < 4611686018427387904) : wrap64 x = x := by unfold wrap64; omega
/-- What has come when so many rounds are over. -/
def firstC (len : Nat) (pre : List { k : Nat // k * 8 < len }) (k : Nat) : Prop := pre.map (fun x => x.1) = List.range k
theorem firstC_snoc {len : Nat} {pre : List { k : Nat // k * 8 < len }} {k : Nat} (h : firstC len pre k) (hk : k * 8 < len) : firstC len (pre ++ [⟨k, hk⟩]) (k + 1) := by
  unfold firstC at h ⊢
  rw [List.map_append, h, List.range_succ]
  rfl
theorem firstC_length {len : Nat} {pre : List { k : Nat // k * 8 < len }} {k : Nat} (h : firstC len pre k) : pre.length = k := by
  have := congrArg List.length h
  simpa using this
set_option maxRecDepth 100000 in
set_option maxHeartbeats 4000000 in
theorem chunk123_in (n : Nat) (hn : 1 ≤ n) (l Bs Bn n₀ g len cap : Nat) (ad : Addr) (hlen : len ≤ 1000000) (hcap : len ≤ cap) (hBsn : Bs < n₀) (hBsg : g ≤ Bs) (hBnn : Bn < n₀) (hBng : g ≤ Bn) (J Jx : List { k : Nat // k * 8 < len } → World → Prop) (hJd : ∀ pre W q, J pre W → J pre (World.drewN W q))
    (hY : ∀ pre x W, J pre W → pre.length < len → YieldAt Fence.wide (n - 1) Try.prog l (encC ad len x) W fun e W' =>
      (e = .returned (.bool true) ∧ J (pre ++ [x]) W' ∧ KB n₀ g W W') ∨ (e = .returned (.bool false) ∧ Jx (pre ++ [x]) W'))
    (W : World) (hBs : W.cell? ⟨Bs, 0, none⟩ = some (.slice (some ad) len cap)) (hBn : W.cell? ⟨Bn, 0, none⟩ = some (.int .i64 8)) (h0 : J [] W) :
    CallsIn Fence.wide n Try.prog 123 #[.func (.yield l) #[] #[], .pointer (some ⟨Bs, 0, none⟩), .pointer (some ⟨Bn, 0, none⟩)] W fun e W' => (∃ v, e = .returned v) ∧
      ((∃ ys, (∃ k, firstC len ys k ∧ len ≤ k * 8) ∧ J ys W') ∨ (∃ pre, True ∧ Jx pre W')) := by
  have hu45 := Try.underlying45
  refine callsIn_of_wp Try.func123 rfl trivial ?_ rfl
  simp only [Try.ntmps123, List.size_toArray, List.length_cons, List.length_nil, Nat.reduceAdd, Nat.reduceSub, Array.replicate_succ, Array.replicate_zero, List.push_toArray, List.append_toArray, List.nil_append, List.cons_append]
  gi_wp2
  gi_loopw [4] (fun v wr => ∃ (k i : Nat) (pre : List { k : Nat // k * 8 < len }), Q0 (i = k * 8) ∧ i ≤ len + 8 ∧ v = .int .i64 (i : Int) ∧ firstC len pre k ∧ J pre wr ∧ KB n₀ g W wr)
    (fun v _ => len + 8 - (intOf v).toNat)
  case atStart => exact ⟨0, 0, [], ⟨rfl⟩, by omega, rfl, rfl, h0, KB.refl _ _ _⟩
  case round =>
    obtain ⟨k, i, pre, HI, hk, rfl, hpre, hJs, hnx⟩ := hrel
    have hcs : wr.cell? ⟨Bs, 0, none⟩ = some (.slice (some ad) len cap) := (hnx.cell (p := ⟨Bs, 0, none⟩) hBsn hBsg).trans hBs
    have hcn : wr.cell? ⟨Bn, 0, none⟩ = some (.int .i64 8) := (hnx.cell (p := ⟨Bn, 0, none⟩) hBnn hBng).trans hBn
    by_cases hlt : i < len
    · have hlt2 : k * 8 < len := by rw [← HI.1]; exact hlt
      have q1b : decide ((i : Int) < (len : Int)) = true := decide_eq_true (by omega)
      obtain ⟨e, he⟩ : ∃ e, e = wide8 len k := ⟨_, rfl⟩
      have HE0 := Q0.mk he
      unfold wide8 at he
      rw [← HI.1] at he
      have hcr := cut_rest (ad := ad) (cap := cap) i hlt hcap
      have hc8 := cut_eight (ad := ad) (cap := cap) i e (by omega) (by omega) hcap
      have hm1 : (if ((len - i : Nat) : Int) < 8 then ((len - i : Nat) : Int) else 8) = (e : Int) := by split <;> omega
      have hw1 : wrap64 ((i : Int) + (e : Int)) = (i : Int) + (e : Int) := wrap_small (by omega) (by omega)
      have HM1 := Q0.mk hm1
      clear he hm1
      gi_wp2
      refine wpIn_wide.2 ?_
      go_quiet (fail)
      rw [HM1.1]
      have hcs2 : (wr.drewN nq).cell? ⟨Bs, 0, none⟩ = some (.slice (some ad) len cap) := hcs
      have hcn2 : (wr.drewN nq).cell? ⟨Bn, 0, none⟩ = some (.int .i64 8) := hcn
      have hJ2 := hJd pre wr nq hJs
      have hnx2 : KB n₀ g W (wr.drewN nq) := hnx
      clear hcs hcn hJs hnx
      generalize wr.drewN nq = wq at hcs2 hcn2 hJ2 hnx2 ⊢
      obtain ⟨fn, tmps, assign, body, hy, hR⟩ := hY pre ⟨k, hlt2⟩ wq hJ2 (by rw [firstC_length hpre]; omega)
      have hy2 : (Instr.yield l #[.slice (some (ad.add i)) e e]).run Try.prog wq = .ok (.round l fn tmps assign body) wq := by
        have h_ := hy
        unfold encC at h_
        rw [HI.1, HE0.1]
        exact h_
      clear hy
      gi_wp2
      refine hR.mono ?_
      rintro e_ W3 (⟨rfl, hJ3, hk3⟩ | ⟨rfl, hJx3⟩)
      · have hcn3 : W3.cell? ⟨Bn, 0, none⟩ = some (.int .i64 8) := (hk3.cell (p := ⟨Bn, 0, none⟩) hBnn hBng).trans hcn2
        gi_wp2
        go_roundw
        case rel => exact ⟨k + 1, i + 8, _, ⟨by rw [HI.1]; omega⟩, Nat.add_le_add_right (Nat.le_of_lt hlt) 8, by go_num, firstC_snoc hpre hlt2, hJ3, hnx2.trans hk3⟩
        case measure => simp [intOf]; omega
      · gi_wp2
        refine bodyPost_ret (results_none rfl _ _ _) rfl ?_
        exact ⟨⟨_, rfl⟩, .inr ⟨_, trivial, hJx3⟩⟩
    · have q1b : decide ((i : Int) < (len : Int)) = false := decide_eq_false (by omega)
      gi_wp2
      go_end0
      exact ⟨⟨_, rfl⟩, .inl ⟨pre, ⟨k, hpre, by have h_ := HI.1; omega⟩, hJs⟩⟩
set_option maxRecDepth 100000 in
set_option maxHeartbeats 1000000 in
theorem chunk123_nil_in (n : Nat) (l Bs Bn cap : Nat) (A : Option Addr) (J : List { k : Nat // k * 8 < 0 } → World → Prop) (W : World) (hBs : W.cell? ⟨Bs, 0, none⟩ = some (.slice A 0 cap)) (h0 : J [] W) :
    CallsIn Fence.wide n Try.prog 123 #[.func (.yield l) #[] #[], .pointer (some ⟨Bs, 0, none⟩), .pointer (some ⟨Bn, 0, none⟩)] W fun e W' => (∃ v, e = .returned v) ∧ J [] W' := by
  have hu45 := Try.underlying45
  refine callsIn_of_wp Try.func123 rfl trivial ?_ rfl
  simp only [Try.ntmps123, List.size_toArray, List.length_cons, List.length_nil, Nat.reduceAdd, Nat.reduceSub, Array.replicate_succ, Array.replicate_zero, List.push_toArray, List.append_toArray, List.nil_append, List.cons_append]
  gi_wp2
  gi_loopw [4] (fun v wr => v = .int .i64 0 ∧ wr = W) (fun _ _ => 0)
  case atStart => exact ⟨rfl, rfl⟩
  case round =>
    obtain ⟨rfl, rfl⟩ := hrel
    gi_wp2
    go_end0
    exact ⟨⟨_, rfl⟩, h0⟩
set_option maxRecDepth 100000 in
set_option maxHeartbeats 1000000 in
theorem chunk122_in (n : Nat) (A : Option Addr) (len cap : Nat) (w : World) :
    CallsIn Fence.wide n Try.prog 122 #[.slice A len cap, .int .i64 8] w fun e w' => e = .returned (.func (.func 123) #[] #[.pointer (some ⟨w.heap.size, 0, none⟩), .pointer (some ⟨w.heap.size + 1, 0, none⟩)]) ∧ w' = (w.alloc (.cells #[.slice A len cap] 45)).alloc (.cells #[.int .i64 8] 3) := by
  have hu45 := Try.underlying45
  refine callsIn_of_wp Try.func122 rfl trivial ?_ rfl
  simp only [Try.ntmps122, List.size_toArray, List.length_cons, List.length_nil, Nat.reduceAdd, Nat.reduceSub, Array.replicate_succ, Array.replicate_zero, List.push_toArray, List.append_toArray, List.nil_append, List.cons_append]
  gi_wp2
  go_ret
  exact ⟨rfl, rfl⟩
/-- slices.Chunk hands back an iterator over the row's parts, eight by eight. -/
theorem chunk_stops (n : Nat) (hn : 1 ≤ n) (Bs Bn n₀ g len cap : Nat) (ad : Addr) (A : Option Addr) (hA : 0 < len → A = some ad) (hlen : len ≤ 1000000) (hcap : len ≤ cap) (hBsn : Bs < n₀) (hBsg : g ≤ Bs) (hBnn : Bn < n₀) (hBng : g ≤ Bn) (w : World) (hw : n₀ ≤ w.heap.size)
    (hBs : w.cell? ⟨Bs, 0, none⟩ = some (.slice A len cap)) (hBn : w.cell? ⟨Bn, 0, none⟩ = some (.int .i64 8)) :
    SeqStopsK Fence.wide n Try.prog 123 #[.pointer (some ⟨Bs, 0, none⟩), .pointer (some ⟨Bn, 0, none⟩)] (encC ad len) (KB n₀ g) (fun ys => ∃ k, firstC len ys k ∧ len ≤ k * 8) (fun _ => True) len w := fun l J Jx W hW hJ _ hY h0 => by
  have hBs' := (hW.cell (p := ⟨Bs, 0, none⟩) (Nat.lt_of_lt_of_le hBsn hw)).trans hBs
  have hBn' := (hW.cell (p := ⟨Bn, 0, none⟩) (Nat.lt_of_lt_of_le hBnn hw)).trans hBn
  rcases Nat.eq_zero_or_pos len with hz | hp
  · subst hz
    refine (chunk123_nil_in n l Bs Bn cap A J W hBs' h0).mono ?_
    rintro e W' ⟨he, hj⟩
    exact ⟨he, .inl ⟨[], ⟨0, rfl, Nat.le_refl _⟩, hj⟩⟩
  · have hA' := hA hp
    subst hA'
    exact chunk123_in n hn l Bs Bn n₀ g len cap ad hlen hcap hBsn hBsg hBnn hBng J Jx (fun pre W1 q hj => hJ pre W1 _ none hj ⟨rfl, rfl, rfl, Nat.le_refl _, fun _ _ _ => rfl⟩ (fun r e => by cases e)) hY W hBs' hBn' h0
end
section
def CellsAt (w : World) (ad : Addr) (xs : List Int) : Prop := ∀ j, j < xs.length → w.cell? (ad.add j) = some (.int .i64 (xs.getD j 0))
theorem under120 : Try.prog.underlying 120 = some (.array 8 3) := by kernel_rfl
theorem under118 : Try.prog.underlying 118 = some (.slice 120) := by kernel_rfl
def same8 (x0 x1 x2 x3 x4 x5 x6 x7 y0 y1 y2 y3 y4 y5 y6 y7 : Int) : Bool := decide ([x0, x1, x2, x3, x4, x5, x6, x7] = [y0, y1, y2, y3, y4, y5, y6, y7])
set_option maxRecDepth 100000 in
theorem eqA120 (d : Nat) (w : World) (x0 x1 x2 x3 x4 x5 x6 x7 y0 y1 y2 y3 y4 y5 y6 y7 : Int) :
    (Op.equalIn (d + 2) 120 (.agg #[.int .i64 x0, .int .i64 x1, .int .i64 x2, .int .i64 x3, .int .i64 x4, .int .i64 x5, .int .i64 x6, .int .i64 x7]) (.agg #[.int .i64 y0, .int .i64 y1, .int .i64 y2, .int .i64 y3, .int .i64 y4, .int .i64 y5, .int .i64 y6, .int .i64 y7])).run Try.prog w = .ok (same8 x0 x1 x2 x3 x4 x5 x6 x7 y0 y1 y2 y3 y4 y5 y6 y7) w := by
  have hi : ∃ i, Try.prog.info? 3 = some i := by
    cases h : Try.prog.info? 3 with
    | none => exact absurd h (by have h2 : (Try.prog.info? 3).isSome = true := by kernel_rfl
                                 intro h3; rw [h3] at h2; cases h2)
    | some i => exact ⟨i, rfl⟩
  obtain ⟨i, hi⟩ := hi
  rw [Go.run_equalIn_array (d := d + 1) (hu := under120) (hi := hi)]
  have hc : Try.prog.cellsOf 3 = 1 := by kernel_rfl
  have e : List.range 8 = [0, 1, 2, 3, 4, 5, 6, 7] := rfl
  rw [hc, e]
  simp only [Op.eqItems]
  go_simp
  unfold same8
  by_cases h0 : x0 = y0
  rotate_left
  · rw [if_neg h0, decide_eq_false (by intro h_; simp only [List.cons.injEq] at h_; exact h0 h_.1)]
  rw [if_pos h0]
  by_cases h1 : x1 = y1
  rotate_left
  · rw [if_neg h1, decide_eq_false (by intro h_; simp only [List.cons.injEq] at h_; exact h1 h_.2.1)]
  rw [if_pos h1]
  by_cases h2 : x2 = y2
  rotate_left
  · rw [if_neg h2, decide_eq_false (by intro h_; simp only [List.cons.injEq] at h_; exact h2 h_.2.2.1)]
  rw [if_pos h2]
  by_cases h3 : x3 = y3
  rotate_left
  · rw [if_neg h3, decide_eq_false (by intro h_; simp only [List.cons.injEq] at h_; exact h3 h_.2.2.2.1)]
  rw [if_pos h3]
  by_cases h4 : x4 = y4
  rotate_left
  · rw [if_neg h4, decide_eq_false (by intro h_; simp only [List.cons.injEq] at h_; exact h4 h_.2.2.2.2.1)]
  rw [if_pos h4]
  by_cases h5 : x5 = y5
  rotate_left
  · rw [if_neg h5, decide_eq_false (by intro h_; simp only [List.cons.injEq] at h_; exact h5 h_.2.2.2.2.2.1)]
  rw [if_pos h5]
  by_cases h6 : x6 = y6
  rotate_left
  · rw [if_neg h6, decide_eq_false (by intro h_; simp only [List.cons.injEq] at h_; exact h6 h_.2.2.2.2.2.2.1)]
  rw [if_pos h6]
  by_cases h7 : x7 = y7
  rotate_left
  · rw [if_neg h7, decide_eq_false (by intro h_; simp only [List.cons.injEq] at h_; exact h7 h_.2.2.2.2.2.2.2.1)]
  rw [if_pos h7]
  rw [decide_eq_true (by rw [h0, h1, h2, h3, h4, h5, h6, h7])]

theorem row_cells {w : World} {ad : Addr} {xs : List Int} {n : Nat} (h : CellsAt w ad xs) (hl : xs.length = n * 8) (i : Nat) (hi : i < n) : ∃ x0 x1 x2 x3 x4 x5 x6 x7, (xs.drop (i * 8)).take 8 = [x0, x1, x2, x3, x4, x5, x6, x7] ∧
    w.cell? (ad.add (i * 8)) = some (.int .i64 x0) ∧ w.cell? ⟨(ad.add (i * 8)).block, (ad.add (i * 8)).off + 1, none⟩ = some (.int .i64 x1) ∧ w.cell? ⟨(ad.add (i * 8)).block, (ad.add (i * 8)).off + 2, none⟩ = some (.int .i64 x2) ∧ w.cell? ⟨(ad.add (i * 8)).block, (ad.add (i * 8)).off + 3, none⟩ = some (.int .i64 x3) ∧ w.cell? ⟨(ad.add (i * 8)).block, (ad.add (i * 8)).off + 4, none⟩ = some (.int .i64 x4) ∧ w.cell? ⟨(ad.add (i * 8)).block, (ad.add (i * 8)).off + 5, none⟩ = some (.int .i64 x5) ∧ w.cell? ⟨(ad.add (i * 8)).block, (ad.add (i * 8)).off + 6, none⟩ = some (.int .i64 x6) ∧ w.cell? ⟨(ad.add (i * 8)).block, (ad.add (i * 8)).off + 7, none⟩ = some (.int .i64 x7) := by
  refine ⟨xs.getD (i * 8 + 0) 0, xs.getD (i * 8 + 1) 0, xs.getD (i * 8 + 2) 0, xs.getD (i * 8 + 3) 0, xs.getD (i * 8 + 4) 0, xs.getD (i * 8 + 5) 0, xs.getD (i * 8 + 6) 0, xs.getD (i * 8 + 7) 0, ?_, h (i * 8) (by omega), ?_, ?_, ?_, ?_, ?_, ?_, ?_⟩
  · apply List.ext_getElem
    · simp; omega
    · intro j h1 h2
      have h3 : j < 8 := h2
      rw [List.getElem_take, List.getElem_drop]
      have hq : ∀ k (hk : k < xs.length), xs[k] = xs.getD k 0 := fun k hk => by simp [List.getD_eq_getElem?_getD, List.getElem?_eq_getElem hk]
      rcases (by omega : j = 0 ∨ j = 1 ∨ j = 2 ∨ j = 3 ∨ j = 4 ∨ j = 5 ∨ j = 6 ∨ j = 7) with rfl | rfl | rfl | rfl | rfl | rfl | rfl | rfl <;> exact hq _ _
  all_goals
    refine Eq.trans (congrArg w.cell? ?_) (h _ (by omega))
    show (⟨(ad.add (i * 8)).block, (ad.add (i * 8)).off + _, none⟩ : Addr) = _
    unfold Addr.add
    by_cases h0 : i * 8 = 0 <;> simp [h0] <;> omega
theorem take_more {xs ys : List Int} {i n : Nat} (hx : xs.length = n * 8) (hi : i < n) (ht : xs.take (i * 8) = ys.take (i * 8)) (h8 : (xs.drop (i * 8)).take 8 = (ys.drop (i * 8)).take 8) : xs.take ((i + 1) * 8) = ys.take ((i + 1) * 8) := by
  rw [Nat.add_mul, Nat.one_mul, List.take_add, List.take_add, ht, h8]
set_option maxRecDepth 100000 in
set_option maxHeartbeats 4000000 in
attribute [local go_sem high] eqA120 in
theorem rows108 (ad bd : Addr) (n c d : Nat) (xs ys : List Int) (m : Nat) (w : World) (hx : xs.length = n * 8) (hy : ys.length = m * 8) (hn : n ≤ 1000000) (hA : CellsAt w ad xs) (hB : CellsAt w bd ys) :
    Calls Try.prog 108 #[.slice (some ad) n c, .slice (some bd) m d] w fun e w' => e = .returned (.bool (decide (xs = ys))) ∧ Drawn0 w w' := by
  have HA := Q0.mk hA
  have HB := Q0.mk hB
  have HX := Q0.mk hx
  have HY := Q0.mk hy
  clear hA hB hx hy
  have hu118 := under118
  have hu120 := under120
  by_cases hnm : n = m
  · subst hnm
    go_enter Try.func108, Try.ntmps108
    go_wp2
    repeat (go_quiet (fail); try go_wp2)
    go_loopw [13] (fun v wr => ∃ (i : Nat), i ≤ n ∧ v = .int .i64 (i : Int) ∧ Q0 (xs.take (i * 8) = ys.take (i * 8)) ∧ Drawn0 w wr) (fun v _ => n - (intOf v).toNat)
    case atStart => exact ⟨0, by omega, rfl, ⟨by simp⟩, by repeat (first | exact Drawn0.refl _ | apply Drawn0.step)⟩
    case round =>
      obtain ⟨i, hin, rfl, HT, ⟨m1, rfl⟩⟩ := hrel
      by_cases hlt : i < n
      · have q0 : decide ((i : Int) < (n : Int)) = true := decide_eq_true (by omega)
        obtain ⟨x0, x1, x2, x3, x4, x5, x6, x7, ex, a0, a1, a2, a3, a4, a5, a6, a7⟩ := row_cells HA.1 HX.1 i hlt
        obtain ⟨y0, y1, y2, y3, y4, y5, y6, y7, ey, b0, b1, b2, b3, b4, b5, b6, b7⟩ := row_cells HB.1 HY.1 i hlt
        have hw1 : wrap64 ((i : Int) + 1) = (i : Int) + 1 := by unfold wrap64; omega
        have HW1 := Q0.mk hw1
        clear hw1
        have EX := Q0.mk ex
        have EY := Q0.mk ey
        clear ex ey
        have hq : same8 x0 x1 x2 x3 x4 x5 x6 x7 y0 y1 y2 y3 y4 y5 y6 y7 = true ∨ same8 x0 x1 x2 x3 x4 x5 x6 x7 y0 y1 y2 y3 y4 y5 y6 y7 = false := by
          cases same8 x0 x1 x2 x3 x4 x5 x6 x7 y0 y1 y2 y3 y4 y5 y6 y7
          · exact .inr rfl
          · exact .inl rfl
        rcases hq with hq | hq
        · go_wp2
          repeat (go_quiet (fail); try go_wp2)
          go_roundw
          case rel => exact ⟨i + 1, hlt, rfl, ⟨take_more HX.1 hlt HT.1 (by rw [EX.1, EY.1]; exact of_decide_eq_true hq)⟩, by repeat (first | exact Drawn0.refl _ | apply Drawn0.step)⟩
          case measure => simp [intOf]; omega
        · go_wp2
          repeat (go_quiet (fail); try go_wp2)
          go_ret
          refine ⟨?_, by repeat (first | exact Drawn0.refl _ | apply Drawn0.step)⟩
          have he : decide (xs = ys) = false := decide_eq_false (fun he => by
            unfold same8 at hq
            rw [← EX.1, ← EY.1, he] at hq
            simp at hq)
          rw [he]
          rfl
      · have q0 : decide ((i : Int) < (n : Int)) = false := decide_eq_false (by omega)
        go_wp2
        repeat (go_quiet (fail); try go_wp2)
        go_ret
        refine ⟨?_, by repeat (first | exact Drawn0.refl _ | apply Drawn0.step)⟩
        have ht := HT.1
        have e : i = n := by omega
        rw [e, ← HX.1, List.take_length, HX.1, ← HY.1, List.take_length] at ht
        rw [decide_eq_true ht]
        rfl
  · have hne : ((n : Int) == (m : Int)) = false := beq_eq_false_iff_ne.mpr (by omega)
    have hne2 : ((n : Int) != (m : Int)) = true := bne_iff_ne.mpr (by omega)
    go_enter Try.func108, Try.ntmps108
    go_wp2
    repeat (go_quiet (fail); try go_wp2)
    go_ret
    refine ⟨?_, by repeat (first | exact Drawn0.refl _ | apply Drawn0.step)⟩
    rw [decide_eq_false (fun he => by
      rw [he] at HX
      have := HX.1.symm.trans HY.1
      omega)]
    rfl
end
section
open Go.Shelf
attribute [local go_sem] Oper.semAt_some
theorem info120 : (Try.prog.info? 120).map (fun i => (i.zero, i.size, i.bytes)) = some (some (.agg #[.int .i64 0, .int .i64 0, .int .i64 0, .int .i64 0, .int .i64 0, .int .i64 0, .int .i64 0, .int .i64 0]), 8, 64) := by kernel_rfl
/-- The numbers of a part, padded by zeros. -/
def pad8 (l : List Int) (k : Nat) : List Int := (List.range 8).map fun j => l.getD (k * 8 + j) 0
def head8 (n : Nat) : List Int := (n : Int) :: List.replicate 7 0
/-- What rows hands back, flat. -/
def rowsOver (l : List Int) (pre : List { k : Nat // k * 8 < l.length }) : List Int := head8 l.length ++ (pre.map fun x => pad8 l x.1).flatten
theorem rowsOver_snoc (l : List Int) (pre : List { k : Nat // k * 8 < l.length }) (x : { k : Nat // k * 8 < l.length }) : rowsOver l (pre ++ [x]) = rowsOver l pre ++ pad8 l x.1 := by
  simp [rowsOver]
theorem pad8_length (l : List Int) (k : Nat) : (pad8 l k).length = 8 := by simp [pad8]
theorem pad_part (zs : List Int) (k : Nat) : (zs.drop (k * 8)).take 8 ++ List.replicate (8 - wide8 zs.length k) 0 = pad8 zs k := by
  apply List.ext_getElem
  · simp [pad8_length, wide8]; omega
  · intro j h1 h2
    rw [pad8_length] at h2
    rw [List.getElem_append]
    split
    next h =>
      have h' : j < 8 ∧ j < zs.length - k * 8 := by
        have h2 := h
        rw [List.length_take, List.length_drop] at h2
        omega
      simp [pad8, List.getD_eq_getElem?_getD, List.getElem?_eq_getElem (show k * 8 + j < zs.length by omega)]
    next h =>
      have h' : ¬ (j < 8 ∧ j < zs.length - k * 8) := by
        have h2 := h
        rw [List.length_take, List.length_drop] at h2
        omega
      simp [pad8, List.getD_eq_getElem?_getD, List.getElem?_eq_none (show zs.length ≤ k * 8 + j by omega)]
set_option maxRecDepth 100000 in
theorem setRow_new (w : World) (t : TypeId) (old cs : Array Value) : (w.alloc (.cells old t)).setRow w.heap.size cs = w.alloc (.cells cs t) := by
  unfold World.setRow World.alloc
  congr 1
  apply Array.ext_getElem?
  intro i
  rw [Array.getElem?_modify]
  split
  next h => subst h; simp
  next h =>
    rw [Array.getElem?_push, Array.getElem?_push]
    split
    next h2 => exact absurd h2.symm h
    next h2 => rfl
theorem C_cells {zs : List Int} {W : World} {A : Option Addr} (h : Kd.C (Kd.int .i64) W A zs.length zs) (hp : 0 < zs.length) : ∃ ad, A = some ad ∧ ∀ j, j < zs.length → W.cell? (ad.add j) = some (.int .i64 (zs.getD j 0)) := by
  obtain ⟨ad, _, hA, _, _, _⟩ := Kd.C_get h 0 0 (by omega) (by omega)
  refine ⟨ad, hA, fun j hj => ?_⟩
  obtain ⟨ad', c, hA', hl, hK, hc⟩ := Kd.C_get h 0 (j : Int) (by omega) (by omega)
  rw [hA] at hA'
  cases hA'
  have hK' : c = [Value.int .i64 (zs.getD (j : Int).toNat 0)] := hK
  subst hK'
  have h2 := hc 0 _ rfl
  have e : (j : Int).toNat = j := by omega
  rw [e] at h2
  have hs : (Kd.int .i64).sz = 1 := rfl
  rw [hs] at h2
  simpa using h2
theorem cells_new (w : World) (cs : List Value) (t : TypeId) : ∀ j u, cs[j]? = some u → (w.alloc (.cells cs.toArray t)).cell? ((⟨w.heap.size, 0, none⟩ : Addr).add j) = some u := by
  intro j u hj
  have h : (w.alloc (.cells cs.toArray t)).heap[w.heap.size]? = _ := World.alloc_heap_new w _
  have e : (⟨w.heap.size, 0, none⟩ : Addr).add j = ⟨w.heap.size, j, none⟩ := by
    unfold Addr.add
    split
    next h0 => rw [h0]
    next h0 => simp
  rw [e]
  unfold World.cell?
  simp only
  rw [h]
  simpa using hj
theorem addr_add_block (ad : Addr) (k : Nat) : (ad.add k).block = ad.block := by unfold Addr.add; split <;> rfl
theorem addr_add_add (ad : Addr) (a b : Nat) : (ad.add a).add b = ad.add (a + b) := by
  unfold Addr.add
  by_cases ha : a = 0 <;> by_cases hb : b = 0 <;> simp [ha, hb, Nat.add_assoc]
set_option maxRecDepth 100000 in
theorem copy_part {W : World} {ad : Addr} {zs : List Int} (ty : TypeId) (k : Nat) (hk : k * 8 < zs.length) (hz : ∀ j, j < zs.length → W.cell? (ad.add j) = some (.int .i64 (zs.getD j 0))) (hlt : ad.block < W.heap.size) :
    (Builtin.copy_ #[45, 45] ty #[.slice (some ⟨W.heap.size, 0, none⟩) 8 8, .slice (some (ad.add (k * 8))) (wide8 zs.length k) (wide8 zs.length k)]).run Try.prog (W.alloc (.cells #[.int .i64 0, .int .i64 0, .int .i64 0, .int .i64 0, .int .i64 0, .int .i64 0, .int .i64 0, .int .i64 0] 120))
      = .ok (goInt (wide8 zs.length k)) (W.alloc (.cells ((pad8 zs k).map (Value.int .i64)).toArray 120)) := by
  obtain ⟨i3, hi3, _, hs3, _⟩ := info_parts info3
  have hcs : (((zs.drop (k * 8)).take 8).map (Value.int .i64)).length = wide8 zs.length k := by simp [wide8]
  have h := run_copy_row (P := Try.prog) (W.alloc (.cells #[.int .i64 0, .int .i64 0, .int .i64 0, .int .i64 0, .int .i64 0, .int .i64 0, .int .i64 0, .int .i64 0] 120)) 45 45 ty 3 W.heap.size 0 8 8 (ad.add (k * 8)) (wide8 zs.length k) (wide8 zs.length k) #[.int .i64 0, .int .i64 0, .int .i64 0, .int .i64 0, .int .i64 0, .int .i64 0, .int .i64 0, .int .i64 0] 120 (((zs.drop (k * 8)).take 8).map (Value.int .i64))
    Try.underlying45 (by rw [hi3]; simp [hs3]) (World.alloc_heap_new W _) (by rw [hcs]; exact (Nat.min_eq_left (by unfold wide8; omega)).symm)
    (fun j v hj => by
      have hj2 : j < ((zs.drop (k * 8)).take 8).length := by
        have := (List.getElem?_eq_some_iff.1 hj).1
        simpa using this
      have hj3 : j < 8 ∧ j < zs.length - k * 8 := by
        have h2 := hj2
        rw [List.length_take, List.length_drop] at h2
        omega
      rw [List.getElem?_map, List.getElem?_eq_getElem hj2] at hj
      have e : ((zs.drop (k * 8)).take 8)[j] = zs.getD (k * 8 + j) 0 := by
        simp [List.getD_eq_getElem?_getD, List.getElem?_eq_getElem (show k * 8 + j < zs.length by omega)]
      rw [e] at hj
      have hv : Value.int .i64 (zs.getD (k * 8 + j) 0) = v := by simpa using hj
      rw [World.cell?_of_block (Below.heap_alloc W _ _ (by rw [addr_add_block, addr_add_block]; exact hlt))]
      have e2 : (ad.add (k * 8)).add j = ad.add (k * 8 + j) := addr_add_add _ _ _
      rw [e2, hz _ (by omega), hv])
    (by rw [hcs]; simp [wide8]; omega) (by intro v hv; obtain ⟨x, _, rfl⟩ := List.mem_map.1 hv; rfl)
  rw [h, hcs, setRow_new]
  have e : (((#[.int .i64 0, .int .i64 0, .int .i64 0, .int .i64 0, .int .i64 0, .int .i64 0, .int .i64 0, .int .i64 0] : Array Value).toList.take 0 ++ ((zs.drop (k * 8)).take 8).map (Value.int .i64) ++ (#[.int .i64 0, .int .i64 0, .int .i64 0, .int .i64 0, .int .i64 0, .int .i64 0, .int .i64 0, .int .i64 0] : Array Value).toList.drop (0 + wide8 zs.length k)).toArray) = ((pad8 zs k).map (Value.int .i64)).toArray := by
    congr 1
    rw [← pad_part zs k, List.map_append, List.map_replicate]
    have : (#[.int .i64 0, .int .i64 0, .int .i64 0, .int .i64 0, .int .i64 0, .int .i64 0, .int .i64 0, .int .i64 0] : Array Value).toList = List.replicate 8 (Value.int .i64 0) := rfl
    rw [this, List.drop_replicate]
    simp
  rw [e]
/-- Blocks that lie in boxes lie as they lay. -/
theorem KB_boxes {W W' : World} {b : Nat} {t1 t2 : TypeId} {v1 v2 : Value} (h1 : Boxed W b t1 v1) (h2 : Boxed W (b + 1) t2 v2) (h1' : Boxed W' b t1 v1) (h2' : Boxed W' (b + 1) t2 v2) : KB (b + 2) b W W' := by
  intro k hk hb
  rcases (by omega : k = b ∨ k = b + 1) with rfl | rfl
  · exact h1'.trans h1.symm
  · exact h2'.trans h2.symm
theorem KB_put {n₀ g : Nat} {w : World} (hn : n₀ ≤ w.heap.size) (W : World) (l : Nat) (o o' : Obj) (hl : w.heap.size ≤ l) (_ : W.heap[l]? = some o) (_ : o.isCells = false) (_ : o.isWalk = false) : KB n₀ g W (W.putObj l o') :=
  fun k hk _ => World.putObj_heap_other (by omega)
/-- What stands between two rounds. -/
def Rows109 (w : World) (A : Option Addr) (cap : Nat) (zs : List Int) (pre : List { k : Nat // k * 8 < zs.length }) (W : World) : Prop :=
  ((∃ v, Boxed W (w.heap.size + 1) 118 v ∧ W.ownsRow w.heap.size 120 8 v (pre.length + 1) ((rowsOver zs pre).map (Value.int .i64)) ∧ True) ∧ (Boxed W (w.heap.size + 2) 45 (.slice A zs.length cap) ∧ Boxed W (w.heap.size + 3) 3 (.int .i64 8))) ∧ Below w.heap.size w W
theorem Rows109.own (w : World) (A : Option Addr) (cap : Nat) (zs : List Int) (B : Nat) (hB : w.heap.size ≤ B) : OwnFrom B (Rows109 w A cap zs) :=
  OwnFrom.and (OwnFrom.and (Own.from (holdsRow_own w.heap.size (w.heap.size + 1) 118 120 8 (fun pre => pre.length + 1) (fun pre => (rowsOver zs pre).map (Value.int .i64)) (fun _ _ => True)) _)
    (OwnFrom.and (Own.from (boxed_own _ _ _) _) (Own.from (boxed_own _ _ _) _))) (ownFrom_below (Nat.le_refl _) hB)
set_option maxRecDepth 100000 in
set_option maxHeartbeats 4000000 in
theorem rows109_in (A : Option Addr) (cap : Nat) (zs : List Int) (w : World) (hlen : zs.length ≤ 1000000) (hcap : zs.length ≤ cap) (hC : Kd.C (Kd.int .i64) w A zs.length zs) (hA : ∀ ad, A = some ad → 0 < zs.length → ad.block < w.heap.size) :
    CallsIn Fence.wide 5 Try.prog 109 #[.slice A zs.length cap] w fun e W' => ∃ v pre, e = .returned v ∧ (∃ k, firstC zs.length pre k ∧ zs.length ≤ k * 8) ∧ W'.ownsRow w.heap.size 120 8 v (pre.length + 1) ((rowsOver zs pre).map (Value.int .i64)) ∧ Below w.heap.size w W' := by
  have hu45 := Try.underlying45
  have hu118 := under118
  have hu120 := under120
  have h1 : (1 : Nat) ≤ 5 := by omega
  obtain ⟨i0, hi, hz0, hz1, hz2⟩ := info_parts info120
  refine callsIn_of_wp_marks Try.func109 rfl trivial ?_ rfl
  simp only [Try.ntmps109, List.size_toArray, List.length_cons, List.length_nil, Nat.reduceAdd, Nat.reduceSub, Array.replicate_succ, Array.replicate_zero, List.push_toArray, List.append_toArray, List.nil_append, List.cons_append]
  gi_wp2_with (refine ⟨trivial, ?_⟩; gi_at_call 122; refine (chunk122_in 4 _ _ _ _).mono ?_; rintro e w' ⟨rfl, rfl⟩)
  have hA2 : ∃ ad, 0 < zs.length → A = some ad := by
    by_cases hp : 0 < zs.length
    · obtain ⟨ad, e, _⟩ := C_cells hC hp
      exact ⟨ad, fun _ => e⟩
    · exact ⟨⟨0, 0, none⟩, fun h => absurd h hp⟩
  obtain ⟨ad, hA2⟩ := hA2
  obtain ⟨w2, hw2⟩ : ∃ w2, (w.alloc (.cells #[.int .i64 (zs.length : Int), .int .i64 0, .int .i64 0, .int .i64 0, .int .i64 0, .int .i64 0, .int .i64 0, .int .i64 0] 120)).alloc (.cells #[.slice (some ⟨w.heap.size, 0, none⟩) 1 1] 118) = w2 := ⟨_, rfl⟩
  have hs2 : w2.heap.size = w.heap.size + 2 := by rw [← hw2]; simp
  have hB2 : Below w.heap.size w w2 := by rw [← hw2]; exact ba (ba (Below.refl _ _) _) _
  have bO : Boxed w2 (w.heap.size + 1) 118 (.slice (some ⟨w.heap.size, 0, none⟩) 1 1) := by
    rw [← hw2]
    have h_ := Boxed.new (w.alloc (.cells #[.int .i64 (zs.length : Int), .int .i64 0, .int .i64 0, .int .i64 0, .int .i64 0, .int .i64 0, .int .i64 0, .int .i64 0] 120)) 118 (.slice (some ⟨w.heap.size, 0, none⟩) 1 1)
    rwa [World.size_alloc] at h_
  have hR0 : w2.ownsRow w.heap.size 120 8 (.slice (some ⟨w.heap.size, 0, none⟩) 1 1) 1 ((head8 zs.length).map (Value.int .i64)) := by
    rw [← hw2]
    have h_ := World.ownsRow_lit (base := w.heap.size) (e := 120) (size := 8) w #[.int .i64 (zs.length : Int), .int .i64 0, .int .i64 0, .int .i64 0, .int .i64 0, .int .i64 0, .int .i64 0, .int .i64 0] 1 (Nat.le_refl _) (by unfold maxLen; omega) rfl
    exact h_.alloc _
  rw [hw2]
  clear hw2
  have b2 := Boxed.new w2 45 (.slice A zs.length cap)
  have b3 := Boxed.new (w2.alloc (.cells #[.slice A zs.length cap] 45)) 3 (.int .i64 8)
  rw [World.size_alloc] at b3
  have b2' := b2.alloc (.cells #[.int .i64 8] 3)
  have bO' := (bO.alloc (.cells #[.slice A zs.length cap] 45)).alloc (.cells #[.int .i64 8] 3)
  have hR0' := (hR0.alloc (.cells #[.slice A zs.length cap] 45)).alloc (.cells #[.int .i64 8] 3)
  have hB3 : Below w.heap.size w ((w2.alloc (.cells #[.slice A zs.length cap] 45)).alloc (.cells #[.int .i64 8] 3)) := (hB2.alloc (by omega) _).alloc (by simp; omega) _
  have hs3 : ((w2.alloc (.cells #[.slice A zs.length cap] 45)).alloc (.cells #[.int .i64 8] 3)).heap.size = w.heap.size + 4 := by simp; omega
  rw [hs2] at b2' b3
  clear b2 bO hR0 hB2
  obtain ⟨w3, hw3⟩ : ∃ w3, (w2.alloc (.cells #[.slice A zs.length cap] 45)).alloc (.cells #[.int .i64 8] 3) = w3 := ⟨_, rfl⟩
  rw [hw3] at b2' b3 bO' hR0' hB3 hs3 ⊢
  clear hw3 hs2 w2
  have h0 : Rows109 w A cap zs [] w3 := ⟨⟨⟨_, bO', by simpa [rowsOver] using hR0', trivial⟩, b2', b3⟩, hB3⟩
  have hbz : ∀ j, j < zs.length → ∀ W, Below w.heap.size w W → W.cell? (ad.add j) = some (.int .i64 (zs.getD j 0)) := by
    intro j hj W hW
    obtain ⟨ad', e1, e2⟩ := C_cells hC (by omega)
    rw [hA2 (by omega)] at e1
    cases e1
    exact (hW.cell (p := ad.add j) (by rw [addr_add_block]; exact hA ad (hA2 (by omega)) (by omega))).trans (e2 j hj)
  have hbl : 0 < zs.length → ad.block < w.heap.size := fun h_ => hA ad (hA2 h_) h_
  have HC0 := Q0.mk hbz
  have HL0 := Q0.mk hbl
  have HN0 := Q0.mk hlen
  clear hbz hbl
  refine wpIn_rangeFunc_ownG rfl h1 (gf := 123) (lb := #[.pointer (some ⟨w.heap.size + 2, 0, none⟩), .pointer (some ⟨w.heap.size + 3, 0, none⟩)]) rfl trivial (enters_of Try.func123 (by kernel_rfl) rfl)
    (chunk_stops 4 (by omega) (w.heap.size + 2) (w.heap.size + 3) (w.heap.size + 4) (w.heap.size + 2) zs.length cap ad A hA2 hlen hcap (by omega) (by omega) (by omega) (by omega) w3 (by omega) b2'.cell b3.cell)
    KB.trans (KB_put (by omega)) (Below.refl _ _) (fun _ => rfl)
    (Rows109 w A cap zs) (fun _ _ _ => False) (Rows109.own w A cap zs _ (by omega)) (fun _ _ _ _ _ hs _ _ => hs) h0
    (fun x => { tmps := #[.slice A zs.length cap, undef, .slice none 0 0, .pointer (some ⟨w.heap.size + 1, 0, none⟩), .slice (some (ad.add (x.1 * 8))) (wide8 zs.length x.1) (wide8 zs.length x.1), undef, .slice A zs.length cap, .int .i64 (zs.length : Int), .agg #[.int .i64 (zs.length : Int), .int .i64 0, .int .i64 0, .int .i64 0, .int .i64 0, .int .i64 0, .int .i64 0, .int .i64 0], .slice (some ⟨w.heap.size, 0, none⟩) 1 1, .slice A zs.length cap, .func (.func 123) #[] #[.pointer (some ⟨w.heap.size + 1 + 1, 0, none⟩), .pointer (some ⟨w.heap.size + 1 + 1 + 1, 0, none⟩)], .slice (some (ad.add (x.1 * 8))) (wide8 zs.length x.1) (wide8 zs.length x.1), undef, undef, undef, undef, undef, undef, undef, undef], defers := [] }) ?assign ?body ?done ?stop
  case assign =>
    intro l x W K hK
    unfold encC
    gi_wp2
    exact hK
  case body =>
    rintro l pre ⟨k, hk⟩ W ⟨⟨⟨v, hv, hrow, _⟩, hc2, hc3⟩, hB⟩ hlt
    have hc := hv.cell
    obtain ⟨e, he⟩ : ∃ e, e = wide8 zs.length k := ⟨_, rfl⟩
    have hcp := fun ty => copy_part (W := W) (ad := ad) (zs := zs) ty k hk (fun j hj => HC0.1 j hj W hB) (Nat.lt_of_lt_of_le (HL0.1 (by omega)) hB.size)
    obtain ⟨p0, p1, p2, p3, p4, p5, p6, p7, hp⟩ : ∃ p0 p1 p2 p3 p4 p5 p6 p7, pad8 zs k = [p0, p1, p2, p3, p4, p5, p6, p7] := ⟨_, _, _, _, _, _, _, _, rfl⟩
    rw [hp] at hcp
    simp only [← he] at hcp ⊢
    simp only [List.map_cons, List.map_nil] at hcp
    have HE0 := Q0.mk he
    have HP0 := Q0.mk hp
    clear he hp
    have hpl : pre.length + 1 ≤ 1000001 := by have := HN0.1; omega
    obtain ⟨Wa, hWa⟩ : ∃ Wa, W.alloc (.cells #[.int .i64 p0, .int .i64 p1, .int .i64 p2, .int .i64 p3, .int .i64 p4, .int .i64 p5, .int .i64 p6, .int .i64 p7] 120) = Wa := ⟨_, rfl⟩
    have hnew := World.alloc_heap_new W (.cells #[.int .i64 p0, .int .i64 p1, .int .i64 p2, .int .i64 p3, .int .i64 p4, .int .i64 p5, .int .i64 p6, .int .i64 p7] 120)
    have hva := hv.alloc (.cells #[.int .i64 p0, .int .i64 p1, .int .i64 p2, .int .i64 p3, .int .i64 p4, .int .i64 p5, .int .i64 p6, .int .i64 p7] 120)
    have hra := hrow.alloc (.cells #[.int .i64 p0, .int .i64 p1, .int .i64 p2, .int .i64 p3, .int .i64 p4, .int .i64 p5, .int .i64 p6, .int .i64 p7] 120)
    have hc2a := hc2.alloc (.cells #[.int .i64 p0, .int .i64 p1, .int .i64 p2, .int .i64 p3, .int .i64 p4, .int .i64 p5, .int .i64 p6, .int .i64 p7] 120)
    have hc3a := hc3.alloc (.cells #[.int .i64 p0, .int .i64 p1, .int .i64 p2, .int .i64 p3, .int .i64 p4, .int .i64 p5, .int .i64 p6, .int .i64 p7] 120)
    have hBa := hB.alloc hB.size (.cells #[.int .i64 p0, .int .i64 p1, .int .i64 p2, .int .i64 p3, .int .i64 p4, .int .i64 p5, .int .i64 p6, .int .i64 p7] 120)
    have hKa := KeepsOthers.alloc W (.cells #[.int .i64 p0, .int .i64 p1, .int .i64 p2, .int .i64 p3, .int .i64 p4, .int .i64 p5, .int .i64 p6, .int .i64 p7] 120)
    rw [hWa] at hcp hnew hva hra hc2a hc3a hBa hKa
    have HC2 := Q0.mk (And.intro hc2 hc3)
    clear hWa hv hrow hB hc hc2 hc3
    have hca := hva.cell
    have a0 : Wa.cell? ⟨W.heap.size, 0, none⟩ = some (.int .i64 p0) := (bc hnew 0).trans rfl
    have a1 : Wa.cell? ⟨W.heap.size, 1, none⟩ = some (.int .i64 p1) := (bc hnew 1).trans rfl
    have a2 : Wa.cell? ⟨W.heap.size, 2, none⟩ = some (.int .i64 p2) := (bc hnew 2).trans rfl
    have a3 : Wa.cell? ⟨W.heap.size, 3, none⟩ = some (.int .i64 p3) := (bc hnew 3).trans rfl
    have a4 : Wa.cell? ⟨W.heap.size, 4, none⟩ = some (.int .i64 p4) := (bc hnew 4).trans rfl
    have a5 : Wa.cell? ⟨W.heap.size, 5, none⟩ = some (.int .i64 p5) := (bc hnew 5).trans rfl
    have a6 : Wa.cell? ⟨W.heap.size, 6, none⟩ = some (.int .i64 p6) := (bc hnew 6).trans rfl
    have a7 : Wa.cell? ⟨W.heap.size, 7, none⟩ = some (.int .i64 p7) := (bc hnew 7).trans rfl
    gi_wp2_with (gi_at_builtin; refine wpListIn_append_own _ rfl _ _ 118 rfl w.heap.size 120 i0 _ 8 64 hu118 hi hz0 hz1 hz2 rfl (by decide) _ _ _ rfl (hra.alloc _) ⟨Wa.heap.size, 0, none⟩ 1 1 [.int .i64 p0, .int .i64 p1, .int .i64 p2, .int .i64 p3, .int .i64 p4, .int .i64 p5, .int .i64 p6, .int .i64 p7] rfl rfl (cells_new Wa [.int .i64 p0, .int .i64 p1, .int .i64 p2, .int .i64 p3, .int .i64 p4, .int .i64 p5, .int .i64 p6, .int .i64 p7] 120) (by simp [Value.oneCell']) (by unfold maxLen; omega) (by omega) (by have := hBa.size; simp; omega) ?_; intro v' w1 hown' hgrow _; obtain ⟨g', cap', rfl⟩ := ownsRow_succ hown'; obtain ⟨hv1, hv2, hr2, hk2, hb2⟩ := hva.appended (by decide) hra hBa.size (by omega) hown' hgrow; have hc1 := hv1.cell; have hf1 := hv1.frozen)
    have b2f := (((hc2a.alloc (.cells #[.int .i64 p0, .int .i64 p1, .int .i64 p2, .int .i64 p3, .int .i64 p4, .int .i64 p5, .int .i64 p6, .int .i64 p7] 120)).kept hgrow (hc2a.not_row (by decide) hra)).other (B' := w.heap.size + 1) (by omega) (.slice (some ⟨g', 0, none⟩) (pre.length + 1 + 1) cap'))
    have b3f := (((hc3a.alloc (.cells #[.int .i64 p0, .int .i64 p1, .int .i64 p2, .int .i64 p3, .int .i64 p4, .int .i64 p5, .int .i64 p6, .int .i64 p7] 120)).kept hgrow (hc3a.not_row (by decide) hra)).other (B' := w.heap.size + 1) (by omega) (.slice (some ⟨g', 0, none⟩) (pre.length + 1 + 1) cap'))
    have hr3 : (w1.setCell ⟨w.heap.size + 1, 0, none⟩ (.slice (some ⟨g', 0, none⟩) (pre.length + 1 + 1) cap')).ownsRow w.heap.size 120 8 (.slice (some ⟨g', 0, none⟩) (pre.length + 1 + 1) cap') ((pre ++ [(⟨k, hk⟩ : { k : Nat // k * 8 < zs.length })]).length + 1) ((rowsOver zs (pre ++ [⟨k, hk⟩])).map (Value.int .i64)) := by
      rw [rowsOver_snoc, HP0.1, List.length_append, List.map_append]
      exact hr2
    exact ⟨(hKa.trans hk2).from _, KB_boxes HC2.1.1 HC2.1.2 b2f b3f, ⟨⟨⟨_, hv2, hr3, trivial⟩, b2f, b3f⟩, hBa.trans hb2⟩⟩
  case done =>
    rintro D ys W hD hS ⟨⟨⟨v, hv, hrow, _⟩, hc2, hc3⟩, hB⟩ hK
    have hc := hv.cell
    gi_wp2
    refine ⟨by simp, .inl ⟨_, _, rfl, run_takeDeferred hK, ?_⟩⟩
    exact ⟨_, results_tmp rfl _ _ _, v, ys, rfl, hS, ownsRow_putObj hrow _ hK rfl, hB.trans (belowK_b (w := w) (Nat.le_refl _) W D _ _ (by omega) hK rfl rfl)⟩
  case stop =>
    rintro D c pre W _ _ h _
    exact h.elim
end
section
theorem pads_flat (l : List Int) : ∀ k, ((List.range k).map (pad8 l)).flatten = (List.range (k * 8)).map fun j => l.getD j 0
  | 0 => rfl
  | k + 1 => by
    rw [List.range_succ, List.map_append, List.flatten_append, pads_flat l k, Nat.add_mul, Nat.one_mul, List.range_add, List.map_append]
    simp [pad8, Function.comp_def]
theorem rowsOver_flat {l : List Int} {pre : List { k : Nat // k * 8 < l.length }} {k : Nat} (h : firstC l.length pre k) : rowsOver l pre = head8 l.length ++ (List.range (k * 8)).map fun j => l.getD j 0 := by
  unfold firstC at h
  rw [← pads_flat, ← h, List.map_map]
  rfl
theorem first_upto {len k : Nat} {pre : List { k : Nat // k * 8 < len }} (h : firstC len pre k) (h2 : len ≤ k * 8) : k = (len + 7) / 8 := by
  unfold firstC at h
  cases k with
  | zero => omega
  | succ k =>
    have hm : k ∈ pre.map (fun x => x.1) := by rw [h]; simp
    obtain ⟨x, _, hx⟩ := List.mem_map.1 hm
    have := x.2
    omega
theorem rowsOver_inj {xs ys : List Int} {p : List { k : Nat // k * 8 < xs.length }} {q : List { k : Nat // k * 8 < ys.length }} (hp : ∃ k, firstC xs.length p k ∧ xs.length ≤ k * 8) (hq : ∃ k, firstC ys.length q k ∧ ys.length ≤ k * 8) :
    decide (rowsOver xs p = rowsOver ys q) = decide (xs = ys) := by
  obtain ⟨k, hp, hk⟩ := hp
  obtain ⟨m, hq, hm⟩ := hq
  rw [rowsOver_flat hp, rowsOver_flat hq, first_upto hp hk, first_upto hq hm]
  apply decide_eq_decide.2
  constructor
  · intro h
    have hl : xs.length = ys.length := by
      have := congrArg (fun l : List Int => l.getD 0 0) h
      simp only [head8, List.cons_append, List.getD_cons_zero] at this
      omega
    rw [hl] at h
    have h2 := List.append_cancel_left h
    apply List.ext_getElem hl
    intro j h3 h4
    have h5 := congrArg (fun l : List Int => l[j]?) h2
    simp only [List.getElem?_map] at h5
    rw [List.getElem?_range (by omega)] at h5
    simp only [Option.map_some, Option.some.injEq] at h5
    rwa [List.getD_eq_getElem?_getD, List.getD_eq_getElem?_getD, List.getElem?_eq_getElem h3, List.getElem?_eq_getElem h4] at h5
  · rintro rfl
    rfl
theorem cell_lt {w : World} {p : Addr} {v : Value} (h : w.cell? p = some v) : p.block < w.heap.size := by
  unfold World.cell? at h
  cases hb : w.heap[p.block]? with
  | none => rw [hb] at h; cases h
  | some o => exact (Array.getElem?_eq_some_iff.1 hb).1
theorem own_cells {W : World} {base n : Nat} {v : Value} {xs : List Int} (h : W.ownsRow base 120 8 v (n + 1) (xs.map (Value.int .i64))) : ∃ g c, v = .slice (some ⟨g, 0, none⟩) (n + 1) c ∧ CellsAt W ⟨g, 0, none⟩ xs ∧ xs.length = (n + 1) * 8 := by
  obtain ⟨hl, h | ⟨g, cap, cur, rfl, _, hg, _, _, hs, ht⟩⟩ := h
  · cases h.2
  · rw [List.length_map] at hl
    refine ⟨g, cap, rfl, fun j hj => ?_, hl⟩
    have e : (⟨g, 0, none⟩ : Addr).add j = ⟨g, j, none⟩ := by
      unfold Addr.add
      split
      next h0 => rw [h0]
      next h0 => simp
    rw [e]
    unfold World.cell?
    simp only
    rw [hg]
    have h1 : (cur.toList.take ((n + 1) * 8))[j]? = (xs.map (Value.int .i64))[j]? := by rw [ht]
    rw [List.getElem?_take_of_lt (by omega), List.getElem?_map, List.getElem?_eq_getElem hj] at h1
    simp only [Option.map_some] at h1
    rw [List.getD_eq_getElem?_getD, List.getElem?_eq_getElem hj, Option.getD_some]
    simpa using h1
theorem CellsAt.below {w W : World} {ad : Addr} {xs : List Int} (h : CellsAt w ad xs) (hb : Below w.heap.size w W) : CellsAt W ad xs := fun j hj => (hb.cell (cell_lt (h j hj))).trans (h j hj)
theorem rows109 (A : Option Addr) (cap : Nat) (zs : List Int) (w : World) (hlen : zs.length ≤ 1000000) (hcap : zs.length ≤ cap) (hC : Kd.C (Kd.int .i64) w A zs.length zs) :
    Calls Try.prog 109 #[.slice A zs.length cap] w fun e W' => ∃ g c n pre, e = .returned (.slice (some ⟨g, 0, none⟩) (n + 1) c) ∧ n ≤ 999999 ∧ (∃ k, firstC zs.length pre k ∧ zs.length ≤ k * 8) ∧ CellsAt W' ⟨g, 0, none⟩ (rowsOver zs pre) ∧ (rowsOver zs pre).length = (n + 1) * 8 ∧ Below w.heap.size w W' := by
  refine (callsIn_wide.1 (rows109_in A cap zs w hlen hcap hC (fun ad hA hp => ?_))).mono ?_
  · obtain ⟨ad', e, h⟩ := C_cells hC hp
    rw [hA] at e
    cases e
    exact cell_lt (h 0 hp)
  · rintro e W' ⟨v, pre, rfl, hpre, ho, hb⟩
    obtain ⟨g, c, rfl, hc, hl⟩ := own_cells ho
    refine ⟨g, c, pre.length, pre, rfl, ?_, hpre, hc, hl, hb⟩
    obtain ⟨k, hk, hk2⟩ := hpre
    rw [firstC_length hk, first_upto hk hk2]
    omega
set_option maxRecDepth 100000 in
set_option maxHeartbeats 4000000 in
theorem same107 (A B : Option Addr) (c d : Nat) (xs ys : List Int) (w : World) (hx : xs.length ≤ 1000000) (hy : ys.length ≤ 1000000) (hc : xs.length ≤ c) (hd : ys.length ≤ d) (hA : Kd.C (Kd.int .i64) w A xs.length xs) (hB : Kd.C (Kd.int .i64) w B ys.length ys) :
    Calls Try.prog 107 #[.slice A xs.length c, .slice B ys.length d] w fun e w' => e = .returned (.bool (decide (xs = ys))) ∧ Below w.heap.size w w' := by
  have HX := Q0.mk hx
  have HY := Q0.mk hy
  have HC := Q0.mk hc
  have HD := Q0.mk hd
  have HA := Q0.mk hA
  have HB := Q0.mk hB
  clear hx hy hc hd hA hB
  go_enter Try.func107, Try.ntmps107
  go_wp2_with (first | (go_at_call 109; with_reducible refine (rows109 A c xs w HX.1 HC.1 HA.1).mono ?_; rintro e w1 ⟨g1, c1, n1, p1, rfl, hn1, hp1, hx1, hl1, hb1⟩; have F1 := Q0.mk (And.intro hn1 (And.intro hp1 (And.intro hx1 (And.intro hl1 hb1)))); clear hn1 hp1 hx1 hl1 hb1) | (go_at_call 109; with_reducible refine (rows109 B d ys w1 HY.1 HD.1 (Kd.C_below HB.1 F1.1.2.2.2.2)).mono ?_; rintro e w2 ⟨g2, c2, n2, p2, rfl, hn2, hp2, hx2, hl2, hb2⟩; have F2 := Q0.mk (And.intro hn2 (And.intro hp2 (And.intro hx2 (And.intro hl2 hb2)))); clear hn2 hp2 hx2 hl2 hb2) | (go_at_call 108; refine (rows108 ⟨g1, 0, none⟩ ⟨g2, 0, none⟩ (n1 + 1) c1 c2 (rowsOver xs p1) (rowsOver ys p2) (n2 + 1) w2 F1.1.2.2.2.1 F2.1.2.2.2.1 (by have := F1.1.1; omega) (CellsAt.below F1.1.2.2.1 F2.1.2.2.2.2) F2.1.2.2.1).mono ?_; rintro e w3 ⟨rfl, hdr⟩))
  go_ret
  exact ⟨by rw [rowsOver_inj F1.1.2.1 F2.1.2.1]; rfl, bsz F1.1.2.2.2.2 (bsz F2.1.2.2.2.2 hdr.below)⟩
end

end Go.Proofs.Ytelkjbacdpmnfaa.A
