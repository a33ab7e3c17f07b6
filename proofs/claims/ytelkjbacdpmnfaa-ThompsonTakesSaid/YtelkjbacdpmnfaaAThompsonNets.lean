/- By a program, out of the translation (wip/myprint.py). -/
import Derived.Test.YtelkjbacdpmnfaaA0
import Derived.Test.YtelkjbacdpmnfaaAThompsonBoth
import Derived.Test.YtelkjbacdpmnfaaAThompsonGood
import Derived.Test.YtelkjbacdpmnfaaAThompsonRows
namespace Go.Proofs.Ytelkjbacdpmnfaa.A
open Go.RowKit Go.Proofs.YtelkjbacdpmnfaaW.PrintWords Go.Proofs.YtelkjbacdpmnfaaW.PrintLast Go.Proofs.YtelkjbacdpmnfaaW.PrintMore
attribute [local go_sem] max2_int min2_int max_two min_two max_three min_three max_four min_four   -- for this text's walks alone
set_option linter.unusedVariables false
set_option linter.unusedSimpArgs false

theorem heap_size_alloc' (w : World) (o : Obj) : (w.alloc o).heap.size = w.heap.size + 1 := by simp
theorem goodB_len {k : Int} {nx : List (List Int)} {ac : List Bool} (h : goodB k nx ac = true) : (nx.length : Int) ≤ 1000 := by
  unfold goodB at h
  simp only [Bool.and_eq_true, decide_eq_true_eq] at h
  omega
theorem goodB_pos {k : Int} {nx : List (List Int)} {ac : List Bool} (h : goodB k nx ac = true) : 1 ≤ (nx.length : Int) := by
  unfold goodB at h
  simp only [Bool.and_eq_true, decide_eq_true_eq] at h
  omega
/-- Two automata that may be, of the same letters. -/
def bothB (k : Int) (nx : List (List Int)) (ac : List Bool) (k' : Int) (nx' : List (List Int)) (ac' : List Bool) : Bool := goodB k nx ac && goodB k' nx' ac' && (k == k')
theorem both_len {k : Int} {nx : List (List Int)} {ac : List Bool} {k' : Int} {nx' : List (List Int)} {ac' : List Bool} (h : bothB k nx ac k' nx' ac' = true) : (nx.length : Int) ≤ 1000 := by
  unfold bothB at h
  simp only [Bool.and_eq_true] at h
  exact goodB_len h.1.1
theorem both_pos {k : Int} {nx : List (List Int)} {ac : List Bool} {k' : Int} {nx' : List (List Int)} {ac' : List Bool} (h : bothB k nx ac k' nx' ac' = true) : 1 ≤ (nx.length : Int) := by
  unfold bothB at h
  simp only [Bool.and_eq_true] at h
  exact goodB_pos h.1.1
theorem starts_C {W : World} {g : Nat} {ls : List Int} (hb : W.heap[g]? = some (.cells (ls.map (Value.int .i64)).toArray 3 (0, 0))) (hm : ls.length ≤ 9223372036854775807 := by simp) : Kd.C (Kd.int .i64) W (some ⟨g, 0, none⟩) ls.length ls :=
  C_of_blk rfl hb hm (fun j x hx => ⟨.int .i64 x, by simp [hx], rfl⟩)
theorem alls_C {W : World} {g base A c n : _} {hs : List Hdr} (hb : W.heap[g]? = some (.cells #[.slice A n c] 26 (0, 0))) (h : hdrK.R 79 W base (fun _ => True) (.slice A n c) hs) : Kd.C (Kd.slice 79 hdrK) W (some ⟨g, 0, none⟩) [hs].length [hs] := by
  obtain ⟨rfl, hc, hC⟩ := Kd.R_reads' h
  refine C_of_blk (xs := [hs]) rfl hb (by simp) (fun j x hx => ?_)
  rcases j with _ | j
  · simp at hx
    subst hx
    exact ⟨_, rfl, A, c, rfl, hc, hC⟩
  · simp at hx
theorem alls_C2 {W : World} {g base A c n A' c' n' : _} {hs hs' : List Hdr} (hb : W.heap[g]? = some (.cells #[.slice A n c, .slice A' n' c'] 26 (0, 0))) (h : hdrK.R 79 W base (fun _ => True) (.slice A n c) hs) (h' : hdrK.R 79 W base (fun _ => True) (.slice A' n' c') hs') : Kd.C (Kd.slice 79 hdrK) W (some ⟨g, 0, none⟩) [hs, hs'].length [hs, hs'] := by
  obtain ⟨rfl, hc, hC⟩ := Kd.R_reads' h
  obtain ⟨rfl, hc', hC'⟩ := Kd.R_reads' h'
  refine C_of_blk (xs := [hs, hs']) rfl hb (by simp) (fun j x hx => ?_)
  rcases j with _ | _ | j
  · simp at hx
    subst hx
    exact ⟨_, rfl, A, c, rfl, hc, hC⟩
  · simp at hx
    subst hx
    exact ⟨_, rfl, A', c', rfl, hc', hC'⟩
  · simp at hx
theorem both_eq {k : Int} {nx : List (List Int)} {ac : List Bool} {k' : Int} {nx' : List (List Int)} {ac' : List Bool} {b : Bool} (h : bothB k nx ac k' nx' ac' = b) : thompson_both.f k nx ac k' nx' ac' = some b := by
  subst h
  unfold thompson_both.f thompson_Good.f bothB
  simp only [Option.bind_some]
  cases goodB k nx ac <;> cases goodB k' nx' ac' <;> simp

end Go.Proofs.Ytelkjbacdpmnfaa.A
