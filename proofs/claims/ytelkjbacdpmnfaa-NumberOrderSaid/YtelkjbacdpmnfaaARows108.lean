/- By a program, out of the translation (wip/myprint.py). -/
import Derived.Test.YtelkjbacdpmnfaaA0
import Derived.ChangeKeysEq
namespace Go.Proofs.Ytelkjbacdpmnfaa.A
open Go.RowKit Go.Proofs.YtelkjbacdpmnfaaW.PrintWords Go.Proofs.YtelkjbacdpmnfaaW.PrintLast Go.Proofs.YtelkjbacdpmnfaaW.PrintMore
attribute [local go_sem] max2_int min2_int max_two min_two max_three min_three max_four min_four   -- for this text's walks alone
set_option linter.unusedVariables false
set_option linter.unusedSimpArgs false

/-! slices.Equal over rows of eight whole numbers -/
section
def CellsAt (w : World) (ad : Addr) (xs : List Int) : Prop := ∀ j, j < xs.length → w.cell? (ad.add j) = some (.int .i64 (xs.getD j 0))
theorem under120 : Try.prog.underlying 120 = some (.array 8 3) := by kernel_rfl
theorem under118 : Try.prog.underlying 118 = some (.slice 120) := by kernel_rfl
def same8 (x0 x1 x2 x3 x4 x5 x6 x7 y0 y1 y2 y3 y4 y5 y6 y7 : Int) : Bool := decide ([x0, x1, x2, x3, x4, x5, x6, x7] = [y0, y1, y2, y3, y4, y5, y6, y7])
set_option maxRecDepth 100000 in
theorem eqA120 (d : Nat) (w : World) (x0 x1 x2 x3 x4 x5 x6 x7 y0 y1 y2 y3 y4 y5 y6 y7 : Int) :
    (Op.equalIn (d + 2) 120 (.agg #[.int .i64 x0, .int .i64 x1, .int .i64 x2, .int .i64 x3, .int .i64 x4, .int .i64 x5, .int .i64 x6, .int .i64 x7]) (.agg #[.int .i64 y0, .int .i64 y1, .int .i64 y2, .int .i64 y3, .int .i64 y4, .int .i64 y5, .int .i64 y6, .int .i64 y7])).run Try.prog w = .ok (same8 x0 x1 x2 x3 x4 x5 x6 x7 y0 y1 y2 y3 y4 y5 y6 y7) w := by
  have hi : ∃ i, Try.prog.info? 3 = some i := by
    cases h : Try.prog.info? 3 with
    | none => exact absurd h (by have h2 : (Try.prog.info? 3).isSome = true := by kernel_rfl
                                 intro h3; rw [h3] at h2; cases h2)
    | some i => exact ⟨i, rfl⟩
  obtain ⟨i, hi⟩ := hi
  rw [Go.run_equalIn_array (d := d + 1) (hu := under120) (hi := hi)]
  have hc : Try.prog.cellsOf 3 = 1 := by kernel_rfl
  have e : List.range 8 = [0, 1, 2, 3, 4, 5, 6, 7] := rfl
  rw [hc, e]
  simp only [Op.eqItems]
  go_simp
  unfold same8
  by_cases h0 : x0 = y0
  rotate_left
  · rw [if_neg h0, decide_eq_false (by intro h_; simp only [List.cons.injEq] at h_; exact h0 h_.1)]
  rw [if_pos h0]
  by_cases h1 : x1 = y1
  rotate_left
  · rw [if_neg h1, decide_eq_false (by intro h_; simp only [List.cons.injEq] at h_; exact h1 h_.2.1)]
  rw [if_pos h1]
  by_cases h2 : x2 = y2
  rotate_left
  · rw [if_neg h2, decide_eq_false (by intro h_; simp only [List.cons.injEq] at h_; exact h2 h_.2.2.1)]
  rw [if_pos h2]
  by_cases h3 : x3 = y3
  rotate_left
  · rw [if_neg h3, decide_eq_false (by intro h_; simp only [List.cons.injEq] at h_; exact h3 h_.2.2.2.1)]
  rw [if_pos h3]
  by_cases h4 : x4 = y4
  rotate_left
  · rw [if_neg h4, decide_eq_false (by intro h_; simp only [List.cons.injEq] at h_; exact h4 h_.2.2.2.2.1)]
  rw [if_pos h4]
  by_cases h5 : x5 = y5
  rotate_left
  · rw [if_neg h5, decide_eq_false (by intro h_; simp only [List.cons.injEq] at h_; exact h5 h_.2.2.2.2.2.1)]
  rw [if_pos h5]
  by_cases h6 : x6 = y6
  rotate_left
  · rw [if_neg h6, decide_eq_false (by intro h_; simp only [List.cons.injEq] at h_; exact h6 h_.2.2.2.2.2.2.1)]
  rw [if_pos h6]
  by_cases h7 : x7 = y7
  rotate_left
  · rw [if_neg h7, decide_eq_false (by intro h_; simp only [List.cons.injEq] at h_; exact h7 h_.2.2.2.2.2.2.2.1)]
  rw [if_pos h7]
  rw [decide_eq_true (by rw [h0, h1, h2, h3, h4, h5, h6, h7])]

theorem row_cells {w : World} {ad : Addr} {xs : List Int} {n : Nat} (h : CellsAt w ad xs) (hl : xs.length = n * 8) (i : Nat) (hi : i < n) : ∃ x0 x1 x2 x3 x4 x5 x6 x7, (xs.drop (i * 8)).take 8 = [x0, x1, x2, x3, x4, x5, x6, x7] ∧
    w.cell? (ad.add (i * 8)) = some (.int .i64 x0) ∧ w.cell? ⟨(ad.add (i * 8)).block, (ad.add (i * 8)).off + 1, none⟩ = some (.int .i64 x1) ∧ w.cell? ⟨(ad.add (i * 8)).block, (ad.add (i * 8)).off + 2, none⟩ = some (.int .i64 x2) ∧ w.cell? ⟨(ad.add (i * 8)).block, (ad.add (i * 8)).off + 3, none⟩ = some (.int .i64 x3) ∧ w.cell? ⟨(ad.add (i * 8)).block, (ad.add (i * 8)).off + 4, none⟩ = some (.int .i64 x4) ∧ w.cell? ⟨(ad.add (i * 8)).block, (ad.add (i * 8)).off + 5, none⟩ = some (.int .i64 x5) ∧ w.cell? ⟨(ad.add (i * 8)).block, (ad.add (i * 8)).off + 6, none⟩ = some (.int .i64 x6) ∧ w.cell? ⟨(ad.add (i * 8)).block, (ad.add (i * 8)).off + 7, none⟩ = some (.int .i64 x7) := by
  refine ⟨xs.getD (i * 8 + 0) 0, xs.getD (i * 8 + 1) 0, xs.getD (i * 8 + 2) 0, xs.getD (i * 8 + 3) 0, xs.getD (i * 8 + 4) 0, xs.getD (i * 8 + 5) 0, xs.getD (i * 8 + 6) 0, xs.getD (i * 8 + 7) 0, ?_, h (i * 8) (by omega), ?_, ?_, ?_, ?_, ?_, ?_, ?_⟩
  · apply List.ext_getElem
    · simp; omega
    · intro j h1 h2
      have h3 : j < 8 := h2
      rw [List.getElem_take, List.getElem_drop]
      have hq : ∀ k (hk : k < xs.length), xs[k] = xs.getD k 0 := fun k hk => by simp [List.getD_eq_getElem?_getD, List.getElem?_eq_getElem hk]
      rcases (by omega : j = 0 ∨ j = 1 ∨ j = 2 ∨ j = 3 ∨ j = 4 ∨ j = 5 ∨ j = 6 ∨ j = 7) with rfl | rfl | rfl | rfl | rfl | rfl | rfl | rfl <;> exact hq _ _
  all_goals
    refine Eq.trans (congrArg w.cell? ?_) (h _ (by omega))
    show (⟨(ad.add (i * 8)).block, (ad.add (i * 8)).off + _, none⟩ : Addr) = _
    unfold Addr.add
    by_cases h0 : i * 8 = 0 <;> simp [h0] <;> omega
theorem take_more {xs ys : List Int} {i n : Nat} (hx : xs.length = n * 8) (hi : i < n) (ht : xs.take (i * 8) = ys.take (i * 8)) (h8 : (xs.drop (i * 8)).take 8 = (ys.drop (i * 8)).take 8) : xs.take ((i + 1) * 8) = ys.take ((i + 1) * 8) := by
  rw [Nat.add_mul, Nat.one_mul, List.take_add, List.take_add, ht, h8]
set_option maxRecDepth 100000 in
set_option maxHeartbeats 4000000 in
attribute [local go_sem high] eqA120 in
/-- slices.Equal over rows of eight. -/
theorem rows108 (ad bd : Addr) (n c d : Nat) (xs ys : List Int) (m : Nat) (w : World) (hx : xs.length = n * 8) (hy : ys.length = m * 8) (hn : n ≤ 1000000) (hA : CellsAt w ad xs) (hB : CellsAt w bd ys) :
    Calls Try.prog 108 #[.slice (some ad) n c, .slice (some bd) m d] w fun e w' => e = .returned (.bool (decide (xs = ys))) ∧ Drawn0 w w' := by
  have HA := Aside0.mk hA
  have HB := Aside0.mk hB
  have HX := Aside0.mk hx
  have HY := Aside0.mk hy
  clear hA hB hx hy
  have hu118 := under118
  have hu120 := under120
  by_cases hnm : n = m
  · subst hnm
    go_enter Try.func108, Try.ntmps108
    go_wp2
    repeat (go_quiet (fail); try go_wp2)
    go_loopw [13] (fun v wr => ∃ (i : Nat), i ≤ n ∧ v = .int .i64 (i : Int) ∧ Aside0 (xs.take (i * 8) = ys.take (i * 8)) ∧ Drawn0 w wr) (fun v _ => n - (intOf v).toNat)
    case atStart => exact ⟨0, by omega, rfl, ⟨by simp⟩, by repeat (first | exact Drawn0.refl _ | apply Drawn0.step)⟩
    case round =>
      obtain ⟨i, hin, rfl, HT, ⟨m1, rfl⟩⟩ := hrel
      by_cases hlt : i < n
      · have q0 : decide ((i : Int) < (n : Int)) = true := decide_eq_true (by omega)
        obtain ⟨x0, x1, x2, x3, x4, x5, x6, x7, ex, a0, a1, a2, a3, a4, a5, a6, a7⟩ := row_cells HA.out HX.out i hlt
        obtain ⟨y0, y1, y2, y3, y4, y5, y6, y7, ey, b0, b1, b2, b3, b4, b5, b6, b7⟩ := row_cells HB.out HY.out i hlt
        have hw1 : wrap64 ((i : Int) + 1) = (i : Int) + 1 := by unfold wrap64; omega
        have HW1 := Aside0.mk hw1
        clear hw1
        have EX := Aside0.mk ex
        have EY := Aside0.mk ey
        clear ex ey
        have hq : same8 x0 x1 x2 x3 x4 x5 x6 x7 y0 y1 y2 y3 y4 y5 y6 y7 = true ∨ same8 x0 x1 x2 x3 x4 x5 x6 x7 y0 y1 y2 y3 y4 y5 y6 y7 = false := by
          cases same8 x0 x1 x2 x3 x4 x5 x6 x7 y0 y1 y2 y3 y4 y5 y6 y7
          · exact .inr rfl
          · exact .inl rfl
        rcases hq with hq | hq
        · go_wp2
          repeat (go_quiet (fail); try go_wp2)
          go_roundw
          case rel => exact ⟨i + 1, hlt, rfl, ⟨take_more HX.out hlt HT.out (by rw [EX.out, EY.out]; exact of_decide_eq_true hq)⟩, by repeat (first | exact Drawn0.refl _ | apply Drawn0.step)⟩
          case measure => simp [intOf]; omega
        · go_wp2
          repeat (go_quiet (fail); try go_wp2)
          go_ret
          refine ⟨?_, by repeat (first | exact Drawn0.refl _ | apply Drawn0.step)⟩
          have he : decide (xs = ys) = false := decide_eq_false (fun he => by
            unfold same8 at hq
            rw [← EX.out, ← EY.out, he] at hq
            simp at hq)
          rw [he]
          rfl
      · have q0 : decide ((i : Int) < (n : Int)) = false := decide_eq_false (by omega)
        go_wp2
        repeat (go_quiet (fail); try go_wp2)
        go_ret
        refine ⟨?_, by repeat (first | exact Drawn0.refl _ | apply Drawn0.step)⟩
        have ht := HT.out
        have e : i = n := by omega
        rw [e, ← HX.out, List.take_length, HX.out, ← HY.out, List.take_length] at ht
        rw [decide_eq_true ht]
        rfl
  · have hne : ((n : Int) == (m : Int)) = false := beq_eq_false_iff_ne.mpr (by omega)
    have hne2 : ((n : Int) != (m : Int)) = true := bne_iff_ne.mpr (by omega)
    go_enter Try.func108, Try.ntmps108
    go_wp2
    repeat (go_quiet (fail); try go_wp2)
    go_ret
    refine ⟨?_, by repeat (first | exact Drawn0.refl _ | apply Drawn0.step)⟩
    rw [decide_eq_false (fun he => by
      rw [he] at HX
      have := HX.out.symm.trans HY.out
      omega)]
    rfl
end

end Go.Proofs.Ytelkjbacdpmnfaa.A
