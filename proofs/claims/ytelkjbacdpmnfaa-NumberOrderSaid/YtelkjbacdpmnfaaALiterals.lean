/- By a program, out of the translation (wip/myprint.py). -/
import Derived.Test.YtelkjbacdpmnfaaA0
import Derived.Test.YtelkjbacdpmnfaaAIntRows
import Derived.Test.YtelkjbacdpmnfaaAThompsonRows
namespace Go.Proofs.Ytelkjbacdpmnfaa.A
open Go.RowKit Go.Proofs.YtelkjbacdpmnfaaW.PrintWords Go.Proofs.YtelkjbacdpmnfaaW.PrintLast Go.Proofs.YtelkjbacdpmnfaaW.PrintMore
attribute [local go_sem] max2_int min2_int max_two min_two max_three min_three max_four min_four   -- for this text's walks alone
set_option linter.unusedVariables false
set_option linter.unusedSimpArgs false

/-! rows of numbers that are written out -/
theorem rows_lit {W : World} {base : Nat} : ∀ (bl : List (Nat × List Int)), (∀ b ∈ bl, base ≤ b.1 ∧ b.2.length ≤ maxLen ∧ W.heap[b.1]? = some (.cells (b.2.map fun x => .int .i64 x).toArray 3 (0, 0))) → bl.Pairwise (fun a b => a.1 ≠ b.1) → RowsI W base (bl.map fun b => (some ⟨b.1, 0, none⟩, b.2.length, b.2.length)) (bl.map fun b => b.2)
  | [], _, _ => RowsI.nil W base
  | b :: bl, h, hp => by
    have hp := List.pairwise_cons.1 hp
    obtain ⟨h1, h2, h3⟩ := h b (by simp)
    refine RowsI.cons (scalar_blk (xs := b.2) h3 h1 trivial h2) (rows_lit bl (fun x hx => h x (by simp [hx])) hp.2) ?_
    intro y hy
    obtain ⟨x, hx, rfl⟩ := List.mem_map.1 hy
    have := hp.1 x hx
    simp [encH, Value.ownBlock]
    omega
theorem S_lit {W : World} {base : Nat} (h : Nat) (bl : List (Nat × List Int)) (hb : ∀ b ∈ bl, base ≤ b.1 ∧ b.2.length ≤ maxLen ∧ W.heap[b.1]? = some (.cells (b.2.map fun x => .int .i64 x).toArray 3 (0, 0))) (hp : bl.Pairwise (fun a b => a.1 ≠ b.1)) (hh : base ≤ h) (hl : bl.length ≤ maxLen)
    (hc : W.heap[h]? = some (.cells (bl.map fun b => Value.slice (some ⟨b.1, 0, none⟩) b.2.length b.2.length).toArray 45 (0, 0))) : Kd.S (Kd.slice 3 (Kd.int .i64)) 45 W base (fun _ => True) (.slice (some ⟨h, 0, none⟩) (bl.map fun b => b.2).length (bl.map fun b => b.2).length) (bl.map fun b => b.2) := by
  obtain ⟨hs, hhs⟩ : ∃ hs : List Hdr, hs = bl.map fun b => (some ⟨b.1, 0, none⟩, b.2.length, b.2.length) := ⟨_, rfl⟩
  have e : (bl.map fun b => b.2).length = hs.length := by rw [hhs]; simp
  have hR := rows_lit bl hb hp
  rw [← hhs] at hR
  have hc2 : W.heap[h]? = some (.cells (hs.map encH).toArray 45 (0, 0)) := by
    rw [hhs, List.map_map]
    exact hc
  have hH := scalar_blk (enc := encH) (h1 := encH_one) (ok := fun _ => True) (base := base) hc2 hh trivial (by rw [← e]; simpa using hl)
  have := S_of_hdrsI hH hR
  rwa [← e] at this
theorem C_lit {W : World} (h : Nat) (bl : List (Nat × List Int)) (hb : ∀ b ∈ bl, b.2.length ≤ maxLen ∧ W.heap[b.1]? = some (.cells (b.2.map fun x => .int .i64 x).toArray 3 (0, 0))) (hp : bl.Pairwise (fun a b => a.1 ≠ b.1)) (hl : bl.length ≤ maxLen)
    (hc : W.heap[h]? = some (.cells (bl.map fun b => Value.slice (some ⟨b.1, 0, none⟩) b.2.length b.2.length).toArray 45 (0, 0))) : Kd.C (Kd.slice 3 (Kd.int .i64)) W (some ⟨h, 0, none⟩) (bl.map fun b => b.2).length (bl.map fun b => b.2) :=
  (Kd.R_reads' (Kd.S_R (S_lit (base := 0) h bl (fun b hm => ⟨Nat.zero_le _, hb b hm⟩) hp (Nat.zero_le _) hl hc))).2.2
theorem C_ints {W : World} (h : Nat) (xs : List Int) (hl : xs.length ≤ maxLen) (hc : W.heap[h]? = some (.cells (xs.map fun x => .int .i64 x).toArray 3 (0, 0))) : Kd.C (Kd.int .i64) W (some ⟨h, 0, none⟩) xs.length xs :=
  (Kd.R_reads' (scalar_blk (W := W) (base := 0) (ok := fun _ => True) (e := 3) (xs := xs) hc (Nat.zero_le _) trivial hl : (Kd.int .i64).R 3 W 0 (fun _ => True) (.slice (some ⟨h, 0, none⟩) xs.length xs.length) xs)).2.2
theorem C_bools {W : World} (h : Nat) (xs : List Bool) (hl : xs.length ≤ maxLen) (hc : W.heap[h]? = some (.cells (xs.map fun x => .bool x).toArray 4 (0, 0))) : Kd.C Kd.bool W (some ⟨h, 0, none⟩) xs.length xs :=
  (Kd.R_reads' (scalar_blk (W := W) (base := 0) (ok := fun _ => True) (e := 4) (xs := xs) hc (Nat.zero_le _) trivial hl : Kd.bool.R 4 W 0 (fun _ => True) (.slice (some ⟨h, 0, none⟩) xs.length xs.length) xs)).2.2
theorem new_at {W : World} (o : Obj) {g : Nat} (h : W.heap.size = g) : (W.alloc o).heap[g]? = some o := by
  subst h
  exact blk_new W o

end Go.Proofs.Ytelkjbacdpmnfaa.A
