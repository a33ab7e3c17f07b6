/- By a program, out of the translation (wip/myprint.py). -/
import Derived.Test.YtelkjbacdpmnfaaA0
import Derived.RangeFuncNested
import Derived.RangeFuncBound
import Derived.RangeFuncCalls
import Derived.RangeFuncLeaves
import Derived.Shelf.Abstract
import Derived.Shelf.RegionOpen
import Derived.WalkKit
import Derived.OwnWalkIn
import Derived.TacticsInMore
import Derived.LoopNIn
import Derived.LoopIn
namespace Go.Proofs.Ytelkjbacdpmnfaa.A
open Go.RowKit Go.Proofs.YtelkjbacdpmnfaaW.PrintWords Go.Proofs.YtelkjbacdpmnfaaW.PrintLast Go.Proofs.YtelkjbacdpmnfaaW.PrintMore
attribute [local go_sem] max2_int min2_int max_two min_two max_three min_three max_four min_four   -- for this text's walks alone
set_option linter.unusedVariables false
set_option linter.unusedSimpArgs false

/-! slices.Chunk over whole numbers, eight by eight: its iterator's contract -/
section
open Go.Shelf
attribute [local go_sem] Oper.semAt_some
/-- The blocks from g on and below n₀ lie as they lay. -/
def KB (n₀ g : Nat) (W W' : World) : Prop := ∀ k, k < n₀ → g ≤ k → W'.heap[k]? = W.heap[k]?
theorem KB.refl (n₀ g : Nat) (W : World) : KB n₀ g W W := fun _ _ _ => rfl
theorem KB.trans {n₀ g : Nat} {A B C : World} (h : KB n₀ g A B) (k : KB n₀ g B C) : KB n₀ g A C := fun i h1 h2 => (k i h1 h2).trans (h i h1 h2)
theorem KB.cell {n₀ g : Nat} {A B : World} (h : KB n₀ g A B) {p : Addr} (h1 : p.block < n₀) (h2 : g ≤ p.block) : B.cell? p = A.cell? p := World.cell?_of_block (h p.block h1 h2)
def wide8 (len k : Nat) : Nat := min 8 (len - k * 8)
/-- What the iterator hands over: a part of the row. -/
def encC (ad : Addr) (len : Nat) (x : { k : Nat // k * 8 < len }) : Array Value := #[.slice (some (ad.add (x.1 * 8))) (wide8 len x.1) (wide8 len x.1)]
theorem cut_rest {ad : Addr} {cap len : Nat} (i : Nat) (hi : i < len) (hc : len ≤ cap) : ∀ W : World, (Instr.slice 45 (.slice (some ad) len cap) (some (.int .i64 (i : Int))) none none).run Try.prog W = .ok (.slice (some (ad.add i)) (len - i) (cap - i)) W := by
  obtain ⟨i0, hi0, _, hsz, _⟩ := info_parts info3
  intro W
  have h := cut_from (P := Try.prog) 45 3 .i64 Try.underlying45 hi0 1 hsz (some ad) len cap (i : Int) (by omega) (by omega) W
  rw [h]
  have hne : ¬ cap = i := by omega
  simp [hne]
theorem cut_eight {ad : Addr} {cap len : Nat} (i e : Nat) (he : 0 < e) (hi : i + e ≤ len) (hc : len ≤ cap) : ∀ W : World, (Instr.slice 45 (.slice (some ad) len cap) (some (.int .i64 (i : Int))) (some (.int .i64 ((i : Int) + (e : Int)))) (some (.int .i64 ((i : Int) + (e : Int))))).run Try.prog W = .ok (.slice (some (ad.add i)) e e) W := by
  obtain ⟨i0, hi0, _, hsz, _⟩ := info_parts info3
  intro W
  have hu := Try.underlying45
  go_simp
  have e1 : ((i : Int) + (e : Int)).toNat = i + e := by omega
  rw [if_pos (by omega), if_pos (by omega), if_pos (by omega), e1, if_neg (by omega), show i + e - i = e by omega]
theorem wrap_small {x : Int} (h0 : 0 ≤ x) (h : x < 4611686018427387904) : wrap64 x = x := by unfold wrap64; omega
theorem wrap_nat8 (i : Nat) (h : i ≤ 1000008) : wrap64 ((i : Int) + 8) = (i : Int) + 8 := wrap_small (by omega) (by omega)
/-- What has come when so many rounds are over. -/
def firstC (len : Nat) (pre : List { k : Nat // k * 8 < len }) (k : Nat) : Prop := pre.map (fun x => x.1) = List.range k
theorem firstC_snoc {len : Nat} {pre : List { k : Nat // k * 8 < len }} {k : Nat} (h : firstC len pre k) (hk : k * 8 < len) : firstC len (pre ++ [⟨k, hk⟩]) (k + 1) := by
  unfold firstC at h ⊢
  rw [List.map_append, h, List.range_succ]
  rfl
theorem firstC_length {len : Nat} {pre : List { k : Nat // k * 8 < len }} {k : Nat} (h : firstC len pre k) : pre.length = k := by
  have := congrArg List.length h
  simpa using this
set_option maxRecDepth 100000 in
set_option maxHeartbeats 4000000 in
theorem chunk123_in (n : Nat) (hn : 1 ≤ n) (l Bs Bn n₀ g len cap : Nat) (ad : Addr) (hlen : len ≤ 1000000) (hcap : len ≤ cap) (hBsn : Bs < n₀) (hBsg : g ≤ Bs) (hBnn : Bn < n₀) (hBng : g ≤ Bn) (J Jx : List { k : Nat // k * 8 < len } → World → Prop) (hJd : ∀ pre W q, J pre W → J pre (World.drewN W q))
    (hY : ∀ pre x W, J pre W → pre.length < len → YieldAt Fence.wide (n - 1) Try.prog l (encC ad len x) W fun e W' =>
      (e = .returned (.bool true) ∧ J (pre ++ [x]) W' ∧ KB n₀ g W W') ∨ (e = .returned (.bool false) ∧ Jx (pre ++ [x]) W'))
    (W : World) (hBs : W.cell? ⟨Bs, 0, none⟩ = some (.slice (some ad) len cap)) (hBn : W.cell? ⟨Bn, 0, none⟩ = some (.int .i64 8)) (h0 : J [] W) :
    CallsIn Fence.wide n Try.prog 123 #[.func (.yield l) #[] #[], .pointer (some ⟨Bs, 0, none⟩), .pointer (some ⟨Bn, 0, none⟩)] W fun e W' => (∃ v, e = .returned v) ∧
      ((∃ ys, (∃ k, firstC len ys k ∧ len ≤ k * 8) ∧ J ys W') ∨ (∃ pre, True ∧ Jx pre W')) := by
  have hu45 := Try.underlying45
  refine callsIn_of_wp Try.func123 rfl trivial ?_ rfl
  simp only [Try.ntmps123, List.size_toArray, List.length_cons, List.length_nil, Nat.reduceAdd, Nat.reduceSub, Array.replicate_succ, Array.replicate_zero, List.push_toArray, List.append_toArray, List.nil_append, List.cons_append]
  gi_wp2
  gi_loopw [4] (fun v wr => ∃ (k i : Nat) (pre : List { k : Nat // k * 8 < len }), Aside0 (i = k * 8) ∧ i ≤ len + 8 ∧ v = .int .i64 (i : Int) ∧ firstC len pre k ∧ J pre wr ∧ KB n₀ g W wr)
    (fun v _ => len + 8 - (intOf v).toNat)
  case atStart => exact ⟨0, 0, [], ⟨rfl⟩, by omega, rfl, rfl, h0, KB.refl _ _ _⟩
  case round =>
    obtain ⟨k, i, pre, HI, hk, rfl, hpre, hJs, hnx⟩ := hrel
    have hcs : wr.cell? ⟨Bs, 0, none⟩ = some (.slice (some ad) len cap) := (hnx.cell (p := ⟨Bs, 0, none⟩) hBsn hBsg).trans hBs
    have hcn : wr.cell? ⟨Bn, 0, none⟩ = some (.int .i64 8) := (hnx.cell (p := ⟨Bn, 0, none⟩) hBnn hBng).trans hBn
    by_cases hlt : i < len
    · have hlt2 : k * 8 < len := by rw [← HI.out]; exact hlt
      have q1b : decide ((i : Int) < (len : Int)) = true := decide_eq_true (by omega)
      obtain ⟨e, he⟩ : ∃ e, e = wide8 len k := ⟨_, rfl⟩
      have HE0 := Aside0.mk he
      unfold wide8 at he
      rw [← HI.out] at he
      have hcr := cut_rest (ad := ad) (cap := cap) i hlt hcap
      have hc8 := cut_eight (ad := ad) (cap := cap) i e (by omega) (by omega) hcap
      have hm1 : (if ((len - i : Nat) : Int) < 8 then ((len - i : Nat) : Int) else 8) = (e : Int) := by split <;> omega
      have hw1 : wrap64 ((i : Int) + (e : Int)) = (i : Int) + (e : Int) := wrap_small (by omega) (by omega)
      have HM1 := Aside0.mk hm1
      clear he hm1
      gi_wp2
      refine wpIn_wide.2 ?_
      go_quiet (fail)
      rw [HM1.out]
      have hcs2 : (wr.drewN nq).cell? ⟨Bs, 0, none⟩ = some (.slice (some ad) len cap) := hcs
      have hcn2 : (wr.drewN nq).cell? ⟨Bn, 0, none⟩ = some (.int .i64 8) := hcn
      have hJ2 := hJd pre wr nq hJs
      have hnx2 : KB n₀ g W (wr.drewN nq) := hnx
      clear hcs hcn hJs hnx
      generalize wr.drewN nq = wq at hcs2 hcn2 hJ2 hnx2 ⊢
      obtain ⟨fn, tmps, assign, body, hy, hR⟩ := hY pre ⟨k, hlt2⟩ wq hJ2 (by rw [firstC_length hpre]; omega)
      have hy2 : (Instr.yield l #[.slice (some (ad.add i)) e e]).run Try.prog wq = .ok (.round l fn tmps assign body) wq := by
        have h_ := hy
        unfold encC at h_
        rw [HI.out, HE0.out]
        exact h_
      clear hy
      gi_wp2
      refine hR.mono ?_
      rintro e_ W3 (⟨rfl, hJ3, hk3⟩ | ⟨rfl, hJx3⟩)
      · have hcn3 : W3.cell? ⟨Bn, 0, none⟩ = some (.int .i64 8) := (hk3.cell (p := ⟨Bn, 0, none⟩) hBnn hBng).trans hcn2
        gi_wp2
        go_roundw
        case rel => exact ⟨k + 1, i + 8, _, ⟨by rw [HI.out]; omega⟩, Nat.add_le_add_right (Nat.le_of_lt hlt) 8, by go_num, firstC_snoc hpre hlt2, hJ3, hnx2.trans hk3⟩
        case measure => simp [intOf]; omega
      · gi_wp2
        refine bodyPost_ret (results_none rfl _ _ _) rfl ?_
        exact ⟨⟨_, rfl⟩, .inr ⟨_, trivial, hJx3⟩⟩
    · have q1b : decide ((i : Int) < (len : Int)) = false := decide_eq_false (by omega)
      gi_wp2
      go_end0
      exact ⟨⟨_, rfl⟩, .inl ⟨pre, ⟨k, hpre, by have h_ := HI.out; omega⟩, hJs⟩⟩
set_option maxRecDepth 100000 in
set_option maxHeartbeats 1000000 in
/-- .. at an empty row: no round. -/
theorem chunk123_nil_in (n : Nat) (l Bs Bn cap : Nat) (A : Option Addr) (J : List { k : Nat // k * 8 < 0 } → World → Prop) (W : World) (hBs : W.cell? ⟨Bs, 0, none⟩ = some (.slice A 0 cap)) (h0 : J [] W) :
    CallsIn Fence.wide n Try.prog 123 #[.func (.yield l) #[] #[], .pointer (some ⟨Bs, 0, none⟩), .pointer (some ⟨Bn, 0, none⟩)] W fun e W' => (∃ v, e = .returned v) ∧ J [] W' := by
  have hu45 := Try.underlying45
  refine callsIn_of_wp Try.func123 rfl trivial ?_ rfl
  simp only [Try.ntmps123, List.size_toArray, List.length_cons, List.length_nil, Nat.reduceAdd, Nat.reduceSub, Array.replicate_succ, Array.replicate_zero, List.push_toArray, List.append_toArray, List.nil_append, List.cons_append]
  gi_wp2
  gi_loopw [4] (fun v wr => v = .int .i64 0 ∧ wr = W) (fun _ _ => 0)
  case atStart => exact ⟨rfl, rfl⟩
  case round =>
    obtain ⟨rfl, rfl⟩ := hrel
    gi_wp2
    go_end0
    exact ⟨⟨_, rfl⟩, h0⟩
set_option maxRecDepth 100000 in
set_option maxHeartbeats 1000000 in
/-- slices.Chunk(s, 8): the row and the width are boxed. -/
theorem chunk122_in (n : Nat) (A : Option Addr) (len cap : Nat) (w : World) :
    CallsIn Fence.wide n Try.prog 122 #[.slice A len cap, .int .i64 8] w fun e w' => e = .returned (.func (.func 123) #[] #[.pointer (some ⟨w.heap.size, 0, none⟩), .pointer (some ⟨w.heap.size + 1, 0, none⟩)]) ∧ w' = (w.alloc (.cells #[.slice A len cap] 45)).alloc (.cells #[.int .i64 8] 3) := by
  have hu45 := Try.underlying45
  refine callsIn_of_wp Try.func122 rfl trivial ?_ rfl
  simp only [Try.ntmps122, List.size_toArray, List.length_cons, List.length_nil, Nat.reduceAdd, Nat.reduceSub, Array.replicate_succ, Array.replicate_zero, List.push_toArray, List.append_toArray, List.nil_append, List.cons_append]
  gi_wp2
  go_ret
  exact ⟨rfl, rfl⟩
/-- slices.Chunk hands back an iterator over the row's parts, eight by eight. -/
theorem chunk_stops (n : Nat) (hn : 1 ≤ n) (Bs Bn n₀ g len cap : Nat) (ad : Addr) (A : Option Addr) (hA : 0 < len → A = some ad) (hlen : len ≤ 1000000) (hcap : len ≤ cap) (hBsn : Bs < n₀) (hBsg : g ≤ Bs) (hBnn : Bn < n₀) (hBng : g ≤ Bn) (w : World) (hw : n₀ ≤ w.heap.size)
    (hBs : w.cell? ⟨Bs, 0, none⟩ = some (.slice A len cap)) (hBn : w.cell? ⟨Bn, 0, none⟩ = some (.int .i64 8)) :
    SeqStopsK Fence.wide n Try.prog 123 #[.pointer (some ⟨Bs, 0, none⟩), .pointer (some ⟨Bn, 0, none⟩)] (encC ad len) (KB n₀ g) (fun ys => ∃ k, firstC len ys k ∧ len ≤ k * 8) (fun _ => True) len w := fun l J Jx W hW hJ _ hY h0 => by
  have hBs' := (hW.cell (p := ⟨Bs, 0, none⟩) (Nat.lt_of_lt_of_le hBsn hw)).trans hBs
  have hBn' := (hW.cell (p := ⟨Bn, 0, none⟩) (Nat.lt_of_lt_of_le hBnn hw)).trans hBn
  rcases Nat.eq_zero_or_pos len with hz | hp
  · subst hz
    refine (chunk123_nil_in n l Bs Bn cap A J W hBs' h0).mono ?_
    rintro e W' ⟨he, hj⟩
    exact ⟨he, .inl ⟨[], ⟨0, rfl, Nat.le_refl _⟩, hj⟩⟩
  · have hA' := hA hp
    subst hA'
    exact chunk123_in n hn l Bs Bn n₀ g len cap ad hlen hcap hBsn hBsg hBnn hBng J Jx (fun pre W1 q hj => hJ pre W1 _ none hj ⟨rfl, rfl, rfl, Nat.le_refl _, fun _ _ _ => rfl⟩ (fun r e => by cases e)) hY W hBs' hBn' h0
end

end Go.Proofs.Ytelkjbacdpmnfaa.A
