/- By a program, out of the translation (wip/myprint.py). -/
import Derived.Test.YtelkjbacdpmnfaaA0
import Derived.Test.YtelkjbacdpmnfaaAChunk
import Derived.Test.YtelkjbacdpmnfaaARows108
import Derived.Test.YtelkjbacdpmnfaaARows109
namespace Go.Proofs.Ytelkjbacdpmnfaa.A
open Go.RowKit Go.Proofs.YtelkjbacdpmnfaaW.PrintWords Go.Proofs.YtelkjbacdpmnfaaW.PrintLast Go.Proofs.YtelkjbacdpmnfaaW.PrintMore
attribute [local go_sem] max2_int min2_int max_two min_two max_three min_three max_four min_four   -- for this text's walks alone
set_option linter.unusedVariables false
set_option linter.unusedSimpArgs false

/-! number.Same: rows are alike when their eights are -/
section
theorem pads_flat (l : List Int) : ∀ k, ((List.range k).map (pad8 l)).flatten = (List.range (k * 8)).map fun j => l.getD j 0
  | 0 => rfl
  | k + 1 => by
    rw [List.range_succ, List.map_append, List.flatten_append, pads_flat l k, Nat.add_mul, Nat.one_mul, List.range_add, List.map_append]
    simp [pad8, Function.comp_def]
theorem rowsOver_flat {l : List Int} {pre : List { k : Nat // k * 8 < l.length }} {k : Nat} (h : firstC l.length pre k) : rowsOver l pre = head8 l.length ++ (List.range (k * 8)).map fun j => l.getD j 0 := by
  unfold firstC at h
  rw [← pads_flat, ← h, List.map_map]
  rfl
theorem first_upto {len k : Nat} {pre : List { k : Nat // k * 8 < len }} (h : firstC len pre k) (h2 : len ≤ k * 8) : k = (len + 7) / 8 := by
  unfold firstC at h
  cases k with
  | zero => omega
  | succ k =>
    have hm : k ∈ pre.map (fun x => x.1) := by rw [h]; simp
    obtain ⟨x, _, hx⟩ := List.mem_map.1 hm
    have := x.2
    omega
theorem rowsOver_inj {xs ys : List Int} {p : List { k : Nat // k * 8 < xs.length }} {q : List { k : Nat // k * 8 < ys.length }} (hp : ∃ k, firstC xs.length p k ∧ xs.length ≤ k * 8) (hq : ∃ k, firstC ys.length q k ∧ ys.length ≤ k * 8) :
    decide (rowsOver xs p = rowsOver ys q) = decide (xs = ys) := by
  obtain ⟨k, hp, hk⟩ := hp
  obtain ⟨m, hq, hm⟩ := hq
  rw [rowsOver_flat hp, rowsOver_flat hq, first_upto hp hk, first_upto hq hm]
  apply decide_eq_decide.2
  constructor
  · intro h
    have hl : xs.length = ys.length := by
      have := congrArg (fun l : List Int => l.getD 0 0) h
      simp only [head8, List.cons_append, List.getD_cons_zero] at this
      omega
    rw [hl] at h
    have h2 := List.append_cancel_left h
    apply List.ext_getElem hl
    intro j h3 h4
    have h5 := congrArg (fun l : List Int => l[j]?) h2
    simp only [List.getElem?_map] at h5
    rw [List.getElem?_range (by omega)] at h5
    simp only [Option.map_some, Option.some.injEq] at h5
    rwa [List.getD_eq_getElem?_getD, List.getD_eq_getElem?_getD, List.getElem?_eq_getElem h3, List.getElem?_eq_getElem h4] at h5
  · rintro rfl
    rfl
theorem cell_lt {w : World} {p : Addr} {v : Value} (h : w.cell? p = some v) : p.block < w.heap.size := by
  unfold World.cell? at h
  cases hb : w.heap[p.block]? with
  | none => rw [hb] at h; cases h
  | some o => exact (Array.getElem?_eq_some_iff.1 hb).1
theorem own_cells {W : World} {base n : Nat} {v : Value} {xs : List Int} (h : W.ownsRow base 120 8 v (n + 1) (xs.map (Value.int .i64))) : ∃ g c, v = .slice (some ⟨g, 0, none⟩) (n + 1) c ∧ CellsAt W ⟨g, 0, none⟩ xs ∧ xs.length = (n + 1) * 8 := by
  obtain ⟨hl, h | ⟨g, cap, cur, rfl, _, hg, _, _, hs, ht⟩⟩ := h
  · cases h.2
  · rw [List.length_map] at hl
    refine ⟨g, cap, rfl, fun j hj => ?_, hl⟩
    have e : (⟨g, 0, none⟩ : Addr).add j = ⟨g, j, none⟩ := by
      unfold Addr.add
      split
      next h0 => rw [h0]
      next h0 => simp
    rw [e]
    unfold World.cell?
    simp only
    rw [hg]
    have h1 : (cur.toList.take ((n + 1) * 8))[j]? = (xs.map (Value.int .i64))[j]? := by rw [ht]
    rw [List.getElem?_take_of_lt (by omega), List.getElem?_map, List.getElem?_eq_getElem hj] at h1
    simp only [Option.map_some] at h1
    rw [List.getD_eq_getElem?_getD, List.getElem?_eq_getElem hj, Option.getD_some]
    simpa using h1
theorem CellsAt.below {w W : World} {ad : Addr} {xs : List Int} (h : CellsAt w ad xs) (hb : Below w.heap.size w W) : CellsAt W ad xs := fun j hj => (hb.cell (cell_lt (h j hj))).trans (h j hj)
theorem rows109 (A : Option Addr) (cap : Nat) (zs : List Int) (w : World) (hlen : zs.length ≤ 1000000) (hcap : zs.length ≤ cap) (hC : Kd.C (Kd.int .i64) w A zs.length zs) :
    Calls Try.prog 109 #[.slice A zs.length cap] w fun e W' => ∃ g c n pre, e = .returned (.slice (some ⟨g, 0, none⟩) (n + 1) c) ∧ n ≤ 999999 ∧ (∃ k, firstC zs.length pre k ∧ zs.length ≤ k * 8) ∧ CellsAt W' ⟨g, 0, none⟩ (rowsOver zs pre) ∧ (rowsOver zs pre).length = (n + 1) * 8 ∧ Below w.heap.size w W' := by
  refine (callsIn_wide.1 (rows109_in A cap zs w hlen hcap hC (fun ad hA hp => ?_))).mono ?_
  · obtain ⟨ad', e, h⟩ := C_cells hC hp
    rw [hA] at e
    cases e
    exact cell_lt (h 0 hp)
  · rintro e W' ⟨v, pre, rfl, hpre, ho, hb⟩
    obtain ⟨g, c, rfl, hc, hl⟩ := own_cells ho
    refine ⟨g, c, pre.length, pre, rfl, ?_, hpre, hc, hl, hb⟩
    obtain ⟨k, hk, hk2⟩ := hpre
    rw [firstC_length hk, first_upto hk hk2]
    omega
set_option maxRecDepth 100000 in
set_option maxHeartbeats 4000000 in
/-- One row and another. -/
theorem same107 (A B : Option Addr) (c d : Nat) (xs ys : List Int) (w : World) (hx : xs.length ≤ 1000000) (hy : ys.length ≤ 1000000) (hc : xs.length ≤ c) (hd : ys.length ≤ d) (hA : Kd.C (Kd.int .i64) w A xs.length xs) (hB : Kd.C (Kd.int .i64) w B ys.length ys) :
    Calls Try.prog 107 #[.slice A xs.length c, .slice B ys.length d] w fun e w' => e = .returned (.bool (decide (xs = ys))) ∧ Below w.heap.size w w' := by
  have HX := Aside0.mk hx
  have HY := Aside0.mk hy
  have HC := Aside0.mk hc
  have HD := Aside0.mk hd
  have HA := Aside0.mk hA
  have HB := Aside0.mk hB
  clear hx hy hc hd hA hB
  go_enter Try.func107, Try.ntmps107
  go_wp2_with (first | (go_at_call 109; with_reducible refine (rows109 A c xs w HX.out HC.out HA.out).mono ?_; rintro e w1 ⟨g1, c1, n1, p1, rfl, hn1, hp1, hx1, hl1, hb1⟩; have F1 := Aside0.mk (And.intro hn1 (And.intro hp1 (And.intro hx1 (And.intro hl1 hb1)))); clear hn1 hp1 hx1 hl1 hb1) | (go_at_call 109; with_reducible refine (rows109 B d ys w1 HY.out HD.out (Kd.C_below HB.out F1.out.2.2.2.2)).mono ?_; rintro e w2 ⟨g2, c2, n2, p2, rfl, hn2, hp2, hx2, hl2, hb2⟩; have F2 := Aside0.mk (And.intro hn2 (And.intro hp2 (And.intro hx2 (And.intro hl2 hb2)))); clear hn2 hp2 hx2 hl2 hb2) | (go_at_call 108; refine (rows108 ⟨g1, 0, none⟩ ⟨g2, 0, none⟩ (n1 + 1) c1 c2 (rowsOver xs p1) (rowsOver ys p2) (n2 + 1) w2 F1.out.2.2.2.1 F2.out.2.2.2.1 (by have := F1.out.1; omega) (CellsAt.below F1.out.2.2.1 F2.out.2.2.2.2) F2.out.2.2.1).mono ?_; rintro e w3 ⟨rfl, hdr⟩))
  go_ret
  exact ⟨by rw [rowsOver_inj F1.out.2.1 F2.out.2.1]; rfl, below_step F1.out.2.2.2.2 (below_step F2.out.2.2.2.2 hdr.below)⟩
end

end Go.Proofs.Ytelkjbacdpmnfaa.A
