/- By a program, out of the translation (wip/myprint.py). -/
import Derived.Test.YtelkjbacdpmnfaaB0
import Derived.Test.YtelkjbacdpmnfaaBPlainBase
import Derived.Test.YtelkjbacdpmnfaaBWordsA
namespace Go.Proofs.Ytelkjbacdpmnfaa.A
open Go.RowKit Go.W_.PrintWords Go.W_.PrintLast Go.W_.PrintMore
attribute [local go_sem] max2_int min2_int max_two min_two max_three min_three max_four min_four
set_option linter.unusedVariables false
set_option linter.unusedSimpArgs false

/-- The numbers of the pairs that are met, and 1; 0 for the others. -/
def AtOk (n1 n2 : Nat) (M : List (Nat × Nat)) (T : List Int) : Prop := T.length = n1 * n2 ∧ ∀ p, inP n1 n2 p → T.getD (p.1 * n2 + p.2) 0 = if p ∈ M then ((M.idxOf p : Nat) : Int) + 1 else 0
theorem AtOk.put {n1 n2 : Nat} {M : List (Nat × Nat)} {T : List Int} (h : AtOk n1 n2 M T) {p : Nat × Nat} (hp : inP n1 n2 p) (hn : p ∉ M) : AtOk n1 n2 (M ++ [p]) (T.set (p.1 * n2 + p.2) (((M ++ [p]).length : Nat) : Int)) := by
  refine ⟨by rw [List.length_set]; exact h.1, fun q hq => ?_⟩
  by_cases hqp : q = p
  · subst hqp
    rw [List.getD_eq_getElem?_getD, List.getElem?_set_self (by rw [h.1]; exact code_lt hp), if_pos (by simp), List.idxOf_append, if_neg hn]
    simp
  · have hne : p.1 * n2 + p.2 ≠ q.1 * n2 + q.2 := fun e => hqp (code_inj hq hp e.symm)
    rw [List.getD_eq_getElem?_getD, List.getElem?_set_ne hne, ← List.getD_eq_getElem?_getD, h.2 q hq]
    by_cases hm : q ∈ M
    · rw [if_pos hm, if_pos (by simp [hm]), List.idxOf_append, if_pos hm]
    · rw [if_neg hm, if_neg (by simp [hm, hqp])]
theorem AtOk.start {n1 n2 : Nat} (h1 : 0 < n1) (h2 : 0 < n2) : AtOk n1 n2 [(0, 0)] ((List.replicate (n1 * n2) (0 : Int)).set 0 1) := by
  have h := AtOk.put (n1 := n1) (n2 := n2) (M := []) (T := List.replicate (n1 * n2) 0) ⟨by simp, fun q hq => by
    rw [List.getD_eq_getElem?_getD, List.getElem?_replicate]
    split <;> simp⟩ (p := (0, 0)) ⟨h1, h2⟩ (by simp)
  simpa using h
def AtBlk (W : World) (base g N c n1 n2 : Nat) (M : List (Nat × Nat)) : Prop := ∃ T : List Int, AtOk n1 n2 M T ∧ (Kd.int .i64).R 3 W base (fun k => k = g) (.slice (some ⟨g, 0, none⟩) N c) T
section
variable {W W' : World} {base g N c n1 n2 : Nat} {M : List (Nat × Nat)}
theorem AtBlk.grown {row : Option Nat} (h : AtBlk W base g N c n1 n2 M) (hg : W.grownBy W' row) (hne : some g ≠ row) : AtBlk W' base g N c n1 n2 M := by
  obtain ⟨T, h1, h2⟩ := h
  exact ⟨T, h1, Kd.R_step h2 (fun k hk hl => hg.block k hl (by rw [hk]; exact hne))⟩
theorem AtBlk.below (h : AtBlk W base g N c n1 n2 M) (hb : Below W.heap.size W W') : AtBlk W' base g N c n1 n2 M := by
  obtain ⟨T, h1, h2⟩ := h
  exact ⟨T, h1, Kd.R_below h2 hb⟩
theorem AtBlk.set (h : AtBlk W base g N c n1 n2 M) {p : Addr} (hp : g ≠ p.block) (u : Value) : AtBlk (W.setCell p u) base g N c n1 n2 M := by
  obtain ⟨T, h1, h2⟩ := h
  exact ⟨T, h1, Kd.R_far h2 (fun k hk => by rw [hk]; exact hp) u⟩
theorem AtBlk.lt (h : AtBlk W base g N c n1 n2 M) : g < W.heap.size := by
  obtain ⟨T, h1, h2⟩ := h
  obtain ⟨cells, hc⟩ := Kd.R_typed h2 g (by simp [Value.ownBlock])
  exact blk_lt hc
theorem AtBlk.size (h : AtBlk W base g N c n1 n2 M) : N = n1 * n2 := by
  obtain ⟨T, h1, h2⟩ := h
  have h3 := (Kd.R_reads' h2).1
  rw [h3, h1.1]
theorem AtBlk.drew (h : AtBlk W base g N c n1 n2 M) : AtBlk W.drew base g N c n1 n2 M := by
  obtain ⟨T, h1, h2⟩ := h
  exact ⟨T, h1, Kd.R_drew h2⟩
theorem AtBlk.cell (h : AtBlk W base g N c n1 n2 M) {p : Nat × Nat} (hp : inP n1 n2 p) {K : Nat} (hK : K = p.1 * n2 + p.2) : W.cell? ⟨g, K, none⟩ = some (.int .i64 (if p ∈ M then ((M.idxOf p : Nat) : Int) + 1 else 0)) ∧ W.frozen? ⟨g, K, none⟩ = false := by
  have hN := h.size
  obtain ⟨T, h1, h2⟩ := h
  have hl := code_lt hp
  obtain ⟨y, z⟩ := Kd.R_celln 0 h2 (K : Int) (by omega) (by omega)
  rw [Int.toNat_natCast] at y z
  refine ⟨y.trans ?_, z⟩
  rw [← h1.2 p hp, ← hK]
  show some (Value.int .i64 (rdOf 0 T (K : Int))) = _
  unfold rdOf
  rw [Int.toNat_natCast]
theorem AtBlk.put (h : AtBlk W base g N c n1 n2 M) {p : Nat × Nat} (hp : inP n1 n2 p) (hn : p ∉ M) {K : Nat} (hK : K = p.1 * n2 + p.2) : AtBlk (W.setCell ⟨g, K, none⟩ (.int .i64 (((M ++ [p]).length : Nat) : Int))) base g N c n1 n2 (M ++ [p]) := by
  obtain ⟨T, h1, h2⟩ := h
  have h3 := (Kd.R_putg h2 (K : Int) (((M ++ [p]).length : Nat) : Int)).1
  rw [Int.toNat_natCast] at h3
  refine ⟨_, h1.put hp hn, ?_⟩
  rw [← hK]
  exact h3
theorem AtBlk.start {ok : Nat → Prop} (h : (Kd.int .i64).R 3 W base ok (.slice (some ⟨g, 0, none⟩) N c) (List.replicate N 0)) (hN : N = n1 * n2) (p1 : 0 < n1) (p2 : 0 < n2) : AtBlk (W.setCell ⟨g, 0, none⟩ (.int .i64 1)) base g N c n1 n2 [(0, 0)] := by
  subst hN
  have h0 : (Kd.int .i64).R 3 W base (fun k => k = g) (.slice (some ⟨g, 0, none⟩) (n1 * n2) c) (List.replicate (n1 * n2) 0) := ⟨fun k hk => by
    have : g = k := by simpa [Value.ownBlock] using hk
    exact this.symm, h.2⟩
  have h3 := (Kd.R_putg h0 (0 : Int) 1).1
  exact ⟨_, AtOk.start p1 p2, h3⟩
end
theorem R_pairsE {e : Nat} {W : World} {base : Nat} {ok : Nat → Prop} {v : Value} {M : List (Nat × Nat)} (h : Kd.R k60 e W base ok v (castQ M)) : ∃ A c, v = .slice A M.length c := by
  obtain ⟨A, c, h1⟩ := Kd.R_slice h
  exact ⟨A, c, by rw [h1, castQ_length]⟩
theorem pairs_atE {e : Nat} {W : World} {base : Nat} {ok : Nat → Prop} {A : Option Addr} {n c : Nat} {M : List (Nat × Nat)} (h : Kd.R k60 e W base ok (.slice A n c) (castQ M)) {i : Nat} {p : Nat × Nat} (hp : M[i]? = some p) : ∃ ad, A = some ad ∧ W.cell? (ad.add (i * 2)) = some (.int .i64 (p.1 : Int)) ∧ W.cell? ⟨(ad.add (i * 2)).block, (ad.add (i * 2)).off + 1, none⟩ = some (.int .i64 (p.2 : Int)) := by
  have hi : i < M.length := (List.getElem?_eq_some_iff.1 hp).1
  have hr := (Kd.R_reads' h)
  obtain ⟨ad, e, h0, h1⟩ := at_T60 hr.2.2 (i : Int) (by omega) (by have h2 := castQ_length M; omega)
  rw [castQ_at hp, Int.toNat_natCast] at h0 h1
  exact ⟨ad, e, h0, h1⟩

end Go.Proofs.Ytelkjbacdpmnfaa.A
