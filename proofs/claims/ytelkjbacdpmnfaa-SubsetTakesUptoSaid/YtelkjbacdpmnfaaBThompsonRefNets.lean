/- Contracts. -/
import Derived.Test.YtelkjbacdpmnfaaB0
import Derived.Test.YtelkjbacdpmnfaaBWordsA

namespace Go.Proofs.Ytelkjbacdpmnfaa.A
open Go.RowKit Go.W_.PrintWords Go.W_.PrintLast Go.W_.PrintMore
attribute [local go_sem] max2_int min2_int max_two min_two max_three min_three max_four min_four
set_option linter.unusedVariables false
set_option linter.unusedSimpArgs false

theorem nets_pick {v : Value} {W : World} {base : Nat} (h : Kd.S (Kd.slice 82 k82) 79 W base (fun _ => True) v [[], []]) :
  ∃ (ge ce : Nat) (x0 x1 : Hdr), v = .slice (some ⟨ge, 0, none⟩) 2 ce ∧ hdrK.R 79 W base (fun _ => True) v [x0, x1] ∧ RowsOK W base [x0, x1] [[], []] := by
 obtain ⟨hs, hH, hRo⟩ := S_hdrs h
 have hl := hRo.1
 obtain ⟨x0, x1, rfl⟩ : ∃ x0 x1, hs = [x0, x1] := by
  match hs, hl with
  | [x0, x1], _ => exact ⟨x0, x1, rfl⟩
 obtain ⟨A, c, rfl⟩ := Kd.R_slice hH
 obtain ⟨ad, e, _⟩ := (Kd.R_reads' hH).2.2.2.2 (by simp)
 subst e
 obtain ⟨g, rfl⟩ := Kd.R_head hH
 exact ⟨g, c, x0, x1, rfl, hH, hRo⟩
theorem ref_ne {W : World} {g g' : Nat} {cs cs' : Array Value} {t t' : TypeId} (h : W.heap[g]? = some (.cells cs t (0, 0))) (h' : W.heap[g']? = some (.cells cs' t' (0, 0))) (ht : t ≠ t') : g ≠ g' := by
 rintro rfl
 rw [h] at h'
 injection h' with h2
 injection h2 with _ h3
 exact ht h3
theorem nets_put {W : World} {base gx n c : Nat} {x0 x1 : Hdr} {l : List S82} (h : RowsOK W base [x0, x1] [[], []]) (hx : k82.R 82 W base (fun _ => True) (.slice (some ⟨gx, 0, none⟩) n c) l) (hne : (encH x1).ownBlock ≠ some gx) : RowsOK W base [(some ⟨gx, 0, none⟩, n, c), x1] [l, []] := by
 refine ⟨rfl, fun j y z hy hz => ?_, fun i j y y' k hy hy' hk hk' => ?_⟩
 ·rcases j with _ | _ | j
  ·simp at hy hz
   subst hy; subst hz
   exact Kd.R_tight rfl hx
  ·simp at hy hz
   subst hy; subst hz
   exact h.2.1 1 x1 [] rfl rfl
  ·simp at hy
 ·rcases i with _ | _ | i
  ·rcases j with _ | _ | j
   ·rfl
   ·simp at hy hy'
    subst hy; subst hy'
    have : gx = k := by simpa [encH, Value.ownBlock] using hk
    subst this
    exact absurd hk' hne
   ·simp at hy'
  ·rcases j with _ | _ | j
   ·simp at hy hy'
    subst hy; subst hy'
    have : gx = k := by simpa [encH, Value.ownBlock] using hk'
    subst this
    exact absurd hk hne
   ·rfl
   ·simp at hy'
  ·simp at hy
theorem edges_blk2 {W : World} {base gx : Nat} (s t : Int) (hb : W.heap[gx]? = some (.cells #[.int .i64 (-1), .int .i64 s, .int .i64 (-1), .int .i64 t] 82 (0, 0))) (hg : base ≤ gx) : k82.R 82 W base (fun _ => True) (.slice (some ⟨gx, 0, none⟩) 2 2) [noth s, noth t] := by
 refine ⟨fun _ _ => trivial, [.int .i64 (-1), .int .i64 s, .int .i64 (-1), .int .i64 t], ⟨rfl, .inr ⟨gx, 2, _, rfl, hg, hb, Nat.le_refl _, by simp [maxLen], rfl, rfl⟩⟩, rfl, ?_⟩
 intro j p hp
 rcases j with _ | _ | j
 ·simp at hp
  subst hp
  exact k82_mkM W base _ (noth s)
 ·simp at hp
  subst hp
  exact k82_mkM W base _ (noth t)
 ·simp at hp

end Go.Proofs.Ytelkjbacdpmnfaa.A
