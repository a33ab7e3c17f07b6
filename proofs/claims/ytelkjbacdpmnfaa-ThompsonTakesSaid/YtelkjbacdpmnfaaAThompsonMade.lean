/- By a program, out of the translation (wip/myprint.py). -/
import Derived.Test.YtelkjbacdpmnfaaA0
import Derived.Test.YtelkjbacdpmnfaaAThompsonNothing
import Derived.Test.YtelkjbacdpmnfaaAThompsonRows
import Derived.Shelf.Abstract
namespace Go.Proofs.Ytelkjbacdpmnfaa.A
open Go.RowKit Go.Proofs.YtelkjbacdpmnfaaW.PrintWords Go.Proofs.YtelkjbacdpmnfaaW.PrintLast Go.Proofs.YtelkjbacdpmnfaaW.PrintMore
attribute [local go_sem] max2_int min2_int max_two min_two max_three min_three max_four min_four   -- for this text's walks alone
set_option linter.unusedVariables false
set_option linter.unusedSimpArgs false


theorem noth_last {W : World} {base : Nat} {ok : Nat → Prop} {A0 : Option Addr} {j c0 : Nat} {l : List Int} (h : k82.R 82 W base ok (.slice A0 (j + 1) c0) (l.map noth)) (hl : l.length = j + 1) :
    ∃ gb, A0 = some ⟨gb, 0, none⟩ ∧ W.cell? ⟨gb, j * 2, none⟩ = some (.int .i64 (-1)) ∧ W.cell? ⟨gb, j * 2 + 1, none⟩ = some (.int .i64 (l.getD j 0)) := by
  have hc := (Kd.R_reads' h).2.2
  rw [List.length_map, hl] at hc
  obtain ⟨ad, rfl, h0, h1⟩ := at_T82 hc (j : Int) (by omega) (by omega)
  obtain ⟨gb, rfl⟩ := Kd.R_head h
  have he : rd_T82 (l.map noth) (j : Int) = noth (l.getD j 0) := by
    unfold rd_T82
    simp [List.getD_eq_getElem?_getD, List.getElem?_eq_getElem (show j < l.length by omega)]
  rw [he, Int.toNat_natCast, add_plain] at h0 h1
  exact ⟨gb, rfl, h0, h1⟩

theorem map_take_snoc (ls : List Int) (i : Nat) (h : i < ls.length) : (ls.take (i + 1)).map noth = (ls.take i).map noth ++ [noth (ls.getD i 0)] := by
  rw [List.take_succ_eq_append_getElem h, List.map_append]
  simp [List.getD_eq_getElem?_getD, List.getElem?_eq_getElem h]

theorem hdr_two {W : World} {base ge : Nat} {ok : Nat → Prop} {h0 h1 : Hdr} (hb : W.heap[ge]? = some (.cells #[encH h0, encH h1] 79 (0, 0))) (hg : base ≤ ge) (hok : ok ge) : hdrK.R 79 W base ok (.slice (some ⟨ge, 0, none⟩) 2 2) [h0, h1] := by
  refine Kd.R_of_own ⟨rfl, .inr ⟨ge, 2, _, rfl, hg, hb, by simp, by simp [maxLen], rfl, rfl⟩⟩ (fun k hk => ?_)
  have : ge = k := by simpa [Value.ownBlock] using hk
  subst this
  exact hok

theorem flatten_take_succ {α : Type} (l : List (List α)) (j : Nat) (h : j < l.length) : (l.take (j + 1)).flatten = (l.take j).flatten ++ l.getD j [] := by
  rw [List.take_succ_eq_append_getElem h, List.flatten_append]
  simp [List.getD_eq_getElem?_getD, List.getElem?_eq_getElem h]
theorem flatten_take_le {α : Type} (l : List (List α)) (j : Nat) : (l.take j).flatten.length ≤ l.flatten.length := by
  conv => rhs; rw [← List.take_append_drop j l, List.flatten_append, List.length_append]
  omega

/-- What thompson.made tells: the new row of headers (the first two rows are its own), the first row itself. -/
def MadePost (letters : Int) (ls : List Int) (all : List (List Hdr)) (w : World) (e : Ending) (w' : World) : Prop :=
  ∃ (ve : Value) (h0 : Hdr), e = .returned (.tuple #[.agg #[.int .i64 letters, ve], .bool (decide (((2 + all.flatten.length : Nat) : Int) ≤ 4000))]) ∧
    hdrK.R 79 w' w.heap.size (fun _ => True) ve ([h0, (none, 0, 0)] ++ all.flatten) ∧ k82.R 82 w' w.heap.size (fun _ => True) (encH h0) (ls.map noth) ∧ Below w.heap.size w w'

theorem take_getD (l : List Int) (j : Nat) (h : j < l.length) : (l.take (j + 1)).getD j 0 = l.getD j 0 := by
  simp [List.getD_eq_getElem?_getD, List.getElem?_take]

theorem at_rowsM {α : Type} {e : TypeId} {D : Kd α} {w : World} {A : Option Addr} {n : Nat} {xs : List (List α)} (h : Kd.C (Kd.slice e D) w A n xs) (i : Nat) (h1 : i < n) :
    ∃ ad A0 c0, A = some ad ∧ w.cell? (ad.add i) = some (.slice A0 (xs.getD i []).length c0) ∧ (xs.getD i []).length ≤ c0 ∧ D.C w A0 (xs.getD i []).length (xs.getD i []) := by
  obtain ⟨ad, c, e, _, hK, hc0⟩ := Kd.C_get h ([] : List α) (i : Int) (by omega) (by omega)
  have hc : ∀ j u, c[j]? = some u → w.cell? (ad.add (i * 1 + j)) = some u := hc0
  obtain ⟨A0, c0, rfl, l0, g0⟩ := hK
  exact ⟨ad, A0, c0, e, by have hq := hc 0 _ rfl; rwa [Nat.mul_one, Nat.add_zero] at hq, l0, g0⟩

set_option maxHeartbeats 1600000 in
set_option maxRecDepth 100000 in
theorem made82 (letters : Int) (A1 : Option Addr) (c1 : Nat) (ls : List Int) (A2 : Option Addr) (c2 : Nat) (all : List (List Hdr)) (w : World)
    (hr1 : Kd.C (Kd.int .i64) w A1 ls.length ls) (hc1 : ls.length ≤ c1) (hr2 : Kd.C (Kd.slice 79 hdrK) w A2 all.length all) (hc2 : all.length ≤ c2)
    (hne : ∀ i, i + 1 < ls.length → ls.getD i 0 ≠ ls.getD (i + 1) 0) (hb1 : ls.length < 1000) (hb2 : all.flatten.length < 10000) :
    Calls Try.prog 82 #[.int .i64 letters, .slice A1 ls.length c1, .slice A2 all.length c2] w (MadePost letters ls all w) := by
  have hu28 := Try.underlying28
  have hu26 := Try.underlying26
  have hu79 := Try.underlying79
  have hu82 := Try.underlying82
  have hm1 := hr1.2.1
  have hm2 := hr2.2.1
  have HR1 := Aside0.mk hr1
  have HR2 := Aside0.mk hr2
  have HNE := Aside0.mk hne
  clear hr1 hr2 hne
  have hmk : ∀ W : World, (Instr.makeSlice 26 (.int .i64 2) (.int .i64 2)).run Try.prog W = .ok (.slice (some ⟨W.heap.size, 0, none⟩) 2 2) (W.alloc (.cells #[.slice none 0 0, .slice none 0 0] 79)) := fun W => by kernel_rfl
  go_enter Try.func82, Try.ntmps82
  go_wp2
  clear hmk
  go_loopw [19] (fun v19 wr => ∃ (i : Nat) (A0 : Option Addr) (c0 : Nat), i ≤ ls.length ∧ v19 = .int .i64 i ∧
    Aside0 (k82.R 82 wr w.heap.size (fun _ => True) (.slice A0 i c0) ((ls.take i).map noth)) ∧
    Aside0 (wr.heap[w.heap.size + 1]? = some (.cells #[.slice A0 i c0, .slice none 0 0] 79 (0, 0))) ∧
    Aside0 (wr.heap[w.heap.size + 1 + 1]? = some (.cells #[.int .i64 letters, .slice (some ⟨w.heap.size + 1, 0, none⟩) 2 2] 28 (0, 0))) ∧
    Aside0 (wr.heap[w.heap.size]? = some (.cells #[.int .i64 0, .slice none 0 0] 28 (0, 0))) ∧
    Aside0 (Below w.heap.size w wr)) (fun v19 _ => ls.length - (intOf v19).toNat)
  case atStart =>
    refine ⟨0, none, 0, Nat.zero_le _, rfl, ⟨Kd.R_nil _ _ _ _ _⟩, ⟨?_⟩, ⟨?_⟩, ⟨?_⟩, ⟨below_alloc (below_alloc (below_alloc (Below.refl _ _) _) _) _⟩⟩
    · exact blk_alloc (by simpa using blk_new (w.alloc (Obj.cells #[Value.int IntKind.i64 0, Value.slice none 0 0] 28)) (Obj.cells #[Value.slice none 0 0, Value.slice none 0 0] 79)) _
    · simpa using blk_new ((w.alloc (Obj.cells #[Value.int IntKind.i64 0, Value.slice none 0 0] 28)).alloc (Obj.cells #[Value.slice none 0 0, Value.slice none 0 0] 79)) (Obj.cells #[Value.int IntKind.i64 letters, Value.slice (some ⟨w.heap.size + 1, 0, none⟩) 2 2] 28)
    · exact blk_alloc (blk_alloc (blk_new w _) _) _
  case round =>
    obtain ⟨i, A0, c0, hi, rfl, HQ, BE, BN, BR, HB⟩ := hrel
    by_cases hlt : i < ls.length
    · obtain ⟨ad, ea, hx⟩ := Kd.at_int HR1.out (i : Int) (by omega) (by omega)
      cases ea
      replace hx : w.cell? (ad.add i) = some (.int .i64 (ls.getD i 0)) := hx
      replace hx := (HB.out.cell (World.block_lt_of_cell? w _ hx)).trans hx
      obtain ⟨xi, hxi⟩ : ∃ x, x = ls.getD i 0 := ⟨_, rfl⟩
      rw [← hxi] at hx
      have HXI := Aside0.mk hxi
      clear hxi
      have HN := fun (W : World) => thompson_nothing.calls xi (-1) xi W rfl
      have HNC := Aside0.mk HN
      clear HN
      have hz := HB.out.size
      go_wp2_with (go_at_call 114; refine (HNC.out _).mono ?_; rintro e w' ⟨rfl, hb⟩; have HB2 := Aside0.mk hb; clear hb)
      have n0_ := Aside0.mk (Kd.R_alloc (Kd.R_below HQ.out HB2.out) (Obj.cells #[Value.int IntKind.i64 (-1), Value.int IntKind.i64 xi] 82))
      have n1_ := Aside0.mk (blk_alloc (blk_below BE.out HB2.out) (Obj.cells #[Value.int IntKind.i64 (-1), Value.int IntKind.i64 xi] 82))
      have n2_ := Aside0.mk (blk_alloc (blk_below BN.out HB2.out) (Obj.cells #[Value.int IntKind.i64 (-1), Value.int IntKind.i64 xi] 82))
      have n3_ := Aside0.mk (blk_alloc (blk_below BR.out HB2.out) (Obj.cells #[Value.int IntKind.i64 (-1), Value.int IntKind.i64 xi] 82))
      have n4_ := Aside0.mk (blk_new w' (Obj.cells #[Value.int IntKind.i64 (-1), Value.int IntKind.i64 xi] 82))
      have n5_ := Aside0.mk (below_alloc (below_step HB.out HB2.out) (Obj.cells #[Value.int IntKind.i64 (-1), Value.int IntKind.i64 xi] 82))
      have HQ0 := Aside0.mk (Kd.R_below HQ.out HB2.out)
      have hgx : w.heap.size ≤ w'.heap.size := Nat.le_trans hz HB2.out.size
      clear HQ BE BN BR HB HB2
      have HQ := n0_
      have BE := n1_
      have BN := n2_
      have BR := n3_
      have BX := n4_
      have HB := n5_
      clear n0_ n1_ n2_ n3_ n4_ n5_
      obtain ⟨gx, hgx2⟩ : ∃ g, g = w'.heap.size := ⟨_, rfl⟩
      rw [← hgx2] at BX hgx
      simp only [← hgx2]
      have HGX := Aside0.mk (fun k (hk : (Value.slice A0 i c0).ownBlock = some k) => Nat.ne_of_lt (Kd.R_lt HQ0.out k hk))
      simp only [← hgx2] at HGX
      clear HQ0
      generalize w'.alloc (Obj.cells #[Value.int IntKind.i64 (-1), Value.int IntKind.i64 xi] 82) = W2 at HQ BE BN BR BX HB ⊢
      clear hgx2
      by_cases h0 : i = 0
      · subst h0
        simp only [Int.natCast_zero, Int.ofNat_zero] at *
        refine start_ (n := 22) (S := fun w' => w'.cell? ⟨w.heap.size + 1 + 1, 1, none⟩ = some (.slice (some ⟨w.heap.size + 1, 0, none⟩) 2 2) ∧ w'.cell? ⟨w.heap.size + 1, 0, none⟩ = some (.slice A0 0 c0)) (ds := []) #[false, false, false, false, false, false, false, false, false, false, false, false, false, false, false, false, false, false, false, false, false, false] (by kernel_rfl) rfl rfl ⟨(blk_cell (blk_drew BN.out) 1).trans rfl, (blk_cell (blk_drew BE.out) 0).trans rfl⟩ (fun hHeld => ?_)
        have n0_ := Aside0.mk (Kd.R_drew HQ.out)
        have n1_ := Aside0.mk (blk_drew BE.out)
        have n2_ := Aside0.mk (blk_drew BN.out)
        have n3_ := Aside0.mk (blk_drew BR.out)
        have n4_ := Aside0.mk (blk_drew BX.out)
        have n5_ := Aside0.mk (below_drew HB.out)
        clear HQ BE BN BR BX HB
        have HQ := n0_
        have BE := n1_
        have BN := n2_
        have BR := n3_
        have BX := n4_
        have HB := n5_
        clear n0_ n1_ n2_ n3_ n4_ n5_
        generalize W2.drew = W3 at HQ BE BN BR BX HB hHeld ⊢
        refine pure_ (i := 0) (N := some 25) (v := ?_) (a' := ?_) #[true, false, false, false, false, false, false, false, false, false, false, false, false, false, false, false, false, false, false, false, false, false] rfl rfl (by kernel_rfl) (fun _ _ _ h => h) (Or.inl ⟨by rfl, ?_⟩) ?_ ?_
        rotate_left
        · intro w'
          go_simp
          with_reducible rfl
        rotate_left
        · simp only [Act.put, List.setIfInBounds_toArray, List.set_cons_zero, List.set_cons_succ, i64_w, i32_w]
          rfl
        refine take_ (i := 1) (N := some 26) (v := ?_) (a' := ?_) #[true, true, false, false, false, false, false, false, false, false, false, false, false, false, false, false, false, false, false, false, false, false] rfl rfl (by kernel_rfl) (fun _ _ _ h => h) (Or.inl ⟨by rfl, ?_⟩) hHeld ?_ ?_
        rotate_left
        · rintro w' ⟨s0, s1⟩
          go_simp
          with_reducible rfl
        rotate_left
        · simp only [Act.put, List.setIfInBounds_toArray, List.set_cons_zero, List.set_cons_succ, i64_w, i32_w]
          rfl
        refine pure_ (i := 2) (N := some 27) (v := ?_) (a' := ?_) #[true, true, true, false, false, false, false, false, false, false, false, false, false, false, false, false, false, false, false, false, false, false] rfl rfl (by kernel_rfl) (fun _ _ _ h => h) (Or.inl ⟨by rfl, ?_⟩) ?_ ?_
        rotate_left
        · intro w'
          go_simp
          with_reducible rfl
        rotate_left
        · simp only [Act.put, List.setIfInBounds_toArray, List.set_cons_zero, List.set_cons_succ, i64_w, i32_w]
          rfl
        refine take_ (i := 3) (N := some 28) (v := ?_) (a' := ?_) #[true, true, true, true, false, false, false, false, false, false, false, false, false, false, false, false, false, false, false, false, false, false] rfl rfl (by kernel_rfl) (fun _ _ _ h => h) (Or.inl ⟨by rfl, ?_⟩) hHeld ?_ ?_
        rotate_left
        · rintro w' ⟨s0, s1⟩
          go_simp
          with_reducible rfl
        rotate_left
        · simp only [Act.put, List.setIfInBounds_toArray, List.set_cons_zero, List.set_cons_succ, i64_w, i32_w]
          rfl
        refine pure_ (i := 4) (N := some 29) (v := ?_) (a' := ?_) #[true, true, true, true, true, false, false, false, false, false, false, false, false, false, false, false, false, false, false, false, false, false] rfl rfl (by kernel_rfl) (fun _ _ _ h => h) (Or.inl ⟨by rfl, ?_⟩) ?_ ?_
        rotate_left
        · intro w'
          go_simp
          with_reducible rfl
        rotate_left
        · simp only [Act.put, List.setIfInBounds_toArray, List.set_cons_zero, List.set_cons_succ, i64_w, i32_w]
          rfl
        refine pure_ (i := 5) (N := some 30) (v := ?_) (a' := ?_) #[true, true, true, true, true, true, false, false, false, false, false, false, false, false, false, false, false, false, false, false, false, false] rfl rfl (by kernel_rfl) (fun _ _ _ h => h) (Or.inl ⟨by rfl, ?_⟩) ?_ ?_
        rotate_left
        · intro w'
          go_simp
          with_reducible rfl
        rotate_left
        · simp only [Act.put, List.setIfInBounds_toArray, List.set_cons_zero, List.set_cons_succ, i64_w, i32_w]
          rfl
        refine pure_ (i := 6) (N := some 31) (v := ?_) (a' := ?_) #[true, true, true, true, true, true, true, false, false, false, false, false, false, false, false, false, false, false, false, false, false, false] rfl rfl (by kernel_rfl) (fun _ _ _ h => h) (Or.inl ⟨by rfl, ?_⟩) ?_ ?_
        rotate_left
        · intro w'
          go_simp
          with_reducible rfl
        rotate_left
        · simp only [Act.put, List.setIfInBounds_toArray, List.set_cons_zero, List.set_cons_succ, i64_w, i32_w]
          rfl
        refine pure_ (i := 7) (N := some 32) (v := undef) (a' := ?_) #[true, true, true, true, true, true, true, true, false, false, false, false, false, false, false, false, false, false, false, false, false, false] rfl rfl (by kernel_rfl) (fun _ _ _ h => h) (Or.inr ⟨by rfl, rfl⟩) ?_ ?_
        rotate_left
        · simp only [Act.put, List.setIfInBounds_toArray, List.set_cons_zero, List.set_cons_succ, i64_w, i32_w]
          rfl
        refine pure_ (i := 8) (N := some 33) (v := undef) (a' := ?_) #[true, true, true, true, true, true, true, true, true, false, false, false, false, false, false, false, false, false, false, false, false, false] rfl rfl (by kernel_rfl) (fun _ _ _ h => h) (Or.inr ⟨by rfl, rfl⟩) ?_ ?_
        rotate_left
        · simp only [Act.put, List.setIfInBounds_toArray, List.set_cons_zero, List.set_cons_succ, i64_w, i32_w]
          rfl
        refine pure_ (i := 9) (N := some 34) (v := undef) (a' := ?_) #[true, true, true, true, true, true, true, true, true, true, false, false, false, false, false, false, false, false, false, false, false, false] rfl rfl (by kernel_rfl) (fun _ _ _ h => h) (Or.inr ⟨by rfl, rfl⟩) ?_ ?_
        rotate_left
        · simp only [Act.put, List.setIfInBounds_toArray, List.set_cons_zero, List.set_cons_succ, i64_w, i32_w]
          rfl
        refine pure_ (i := 10) (N := some 35) (v := undef) (a' := ?_) #[true, true, true, true, true, true, true, true, true, true, true, false, false, false, false, false, false, false, false, false, false, false] rfl rfl (by kernel_rfl) (fun _ _ _ h => h) (Or.inr ⟨by rfl, rfl⟩) ?_ ?_
        rotate_left
        · simp only [Act.put, List.setIfInBounds_toArray, List.set_cons_zero, List.set_cons_succ, i64_w, i32_w]
          rfl
        refine pure_ (i := 11) (N := some 36) (v := undef) (a' := ?_) #[true, true, true, true, true, true, true, true, true, true, true, true, false, false, false, false, false, false, false, false, false, false] rfl rfl (by kernel_rfl) (fun _ _ _ h => h) (Or.inr ⟨by rfl, rfl⟩) ?_ ?_
        rotate_left
        · simp only [Act.put, List.setIfInBounds_toArray, List.set_cons_zero, List.set_cons_succ, i64_w, i32_w]
          rfl
        refine pure_ (i := 12) (N := some 37) (v := undef) (a' := ?_) #[true, true, true, true, true, true, true, true, true, true, true, true, true, false, false, false, false, false, false, false, false, false] rfl rfl (by kernel_rfl) (fun _ _ _ h => h) (Or.inr ⟨by rfl, rfl⟩) ?_ ?_
        rotate_left
        · simp only [Act.put, List.setIfInBounds_toArray, List.set_cons_zero, List.set_cons_succ, i64_w, i32_w]
          rfl
        refine pure_ (i := 13) (N := some 38) (v := undef) (a' := ?_) #[true, true, true, true, true, true, true, true, true, true, true, true, true, true, false, false, false, false, false, false, false, false] rfl rfl (by kernel_rfl) (fun _ _ _ h => h) (Or.inr ⟨by rfl, rfl⟩) ?_ ?_
        rotate_left
        · simp only [Act.put, List.setIfInBounds_toArray, List.set_cons_zero, List.set_cons_succ, i64_w, i32_w]
          rfl
        refine pure_ (i := 14) (N := some 39) (v := undef) (a' := ?_) #[true, true, true, true, true, true, true, true, true, true, true, true, true, true, true, false, false, false, false, false, false, false] rfl rfl (by kernel_rfl) (fun _ _ _ h => h) (Or.inr ⟨by rfl, rfl⟩) ?_ ?_
        rotate_left
        · simp only [Act.put, List.setIfInBounds_toArray, List.set_cons_zero, List.set_cons_succ, i64_w, i32_w]
          rfl
        refine pure_ (i := 15) (N := some 40) (v := undef) (a' := ?_) #[true, true, true, true, true, true, true, true, true, true, true, true, true, true, true, true, false, false, false, false, false, false] rfl rfl (by kernel_rfl) (fun _ _ _ h => h) (Or.inr ⟨by rfl, rfl⟩) ?_ ?_
        rotate_left
        · simp only [Act.put, List.setIfInBounds_toArray, List.set_cons_zero, List.set_cons_succ, i64_w, i32_w]
          rfl
        refine pure_ (i := 16) (N := some 41) (v := undef) (a' := ?_) #[true, true, true, true, true, true, true, true, true, true, true, true, true, true, true, true, true, false, false, false, false, false] rfl rfl (by kernel_rfl) (fun _ _ _ h => h) (Or.inr ⟨by rfl, rfl⟩) ?_ ?_
        rotate_left
        · simp only [Act.put, List.setIfInBounds_toArray, List.set_cons_zero, List.set_cons_succ, i64_w, i32_w]
          rfl
        refine pure_ (i := 17) (N := some 42) (v := undef) (a' := ?_) #[true, true, true, true, true, true, true, true, true, true, true, true, true, true, true, true, true, true, false, false, false, false] rfl rfl (by kernel_rfl) (fun _ _ _ h => h) (Or.inr ⟨by rfl, rfl⟩) ?_ ?_
        rotate_left
        · simp only [Act.put, List.setIfInBounds_toArray, List.set_cons_zero, List.set_cons_succ, i64_w, i32_w]
          rfl
        refine pure_ (i := 18) (N := some 43) (v := undef) (a' := ?_) #[true, true, true, true, true, true, true, true, true, true, true, true, true, true, true, true, true, true, true, false, false, false] rfl rfl (by kernel_rfl) (fun _ _ _ h => h) (Or.inr ⟨by rfl, rfl⟩) ?_ ?_
        rotate_left
        · simp only [Act.put, List.setIfInBounds_toArray, List.set_cons_zero, List.set_cons_succ, i64_w, i32_w]
          rfl
        refine pure_ (i := 19) (N := some 44) (v := undef) (a' := ?_) #[true, true, true, true, true, true, true, true, true, true, true, true, true, true, true, true, true, true, true, true, false, false] rfl rfl (by kernel_rfl) (fun _ _ _ h => h) (Or.inr ⟨by rfl, rfl⟩) ?_ ?_
        rotate_left
        · simp only [Act.put, List.setIfInBounds_toArray, List.set_cons_zero, List.set_cons_succ, i64_w, i32_w]
          rfl
        refine pure_ (i := 20) (N := some 45) (v := undef) (a' := ?_) #[true, true, true, true, true, true, true, true, true, true, true, true, true, true, true, true, true, true, true, true, true, false] rfl rfl (by kernel_rfl) (fun _ _ _ h => h) (Or.inr ⟨by rfl, rfl⟩) ?_ ?_
        rotate_left
        · simp only [Act.put, List.setIfInBounds_toArray, List.set_cons_zero, List.set_cons_succ, i64_w, i32_w]
          rfl
        refine pure_ (i := 21) (N := some 46) (v := ?_) (a' := ?_) #[true, true, true, true, true, true, true, true, true, true, true, true, true, true, true, true, true, true, true, true, true, true] rfl rfl (by kernel_rfl) (fun _ _ _ h => h) (Or.inl ⟨by rfl, ?_⟩) ?_ ?_
        rotate_left
        · intro w'
          go_simp
          with_reducible rfl
        rotate_left
        · simp only [Act.put, List.setIfInBounds_toArray, List.set_cons_zero, List.set_cons_succ, i64_w, i32_w]
          rfl
        refine done_ (by kernel_rfl) ?_
        go_wp2
        refine start_ (n := 11) (S := fun w' => w'.cell? ⟨w.heap.size + 1 + 1, 1, none⟩ = some (.slice (some ⟨w.heap.size + 1, 0, none⟩) 2 2) ∧ w'.cell? ⟨w.heap.size + 1, 0, none⟩ = some (.slice A0 0 c0) ∧ w'.cell? ⟨gx, 0, none⟩ = some (.int .i64 (-1)) ∧ w'.cell? ⟨gx, 1, none⟩ = some (.int .i64 xi)) (ds := [10]) #[false, false, false, false, false, false, false, false, false, false, false] (by kernel_rfl) rfl rfl ⟨(blk_cell (blk_drew BN.out) 1).trans rfl, (blk_cell (blk_drew BE.out) 0).trans rfl, (blk_cell (blk_drew BX.out) 0).trans rfl, (blk_cell (blk_drew BX.out) 1).trans rfl⟩ (fun hHeld => ?_)
        have n0_ := Aside0.mk (Kd.R_drew HQ.out)
        have n1_ := Aside0.mk (blk_drew BE.out)
        have n2_ := Aside0.mk (blk_drew BN.out)
        have n3_ := Aside0.mk (blk_drew BR.out)
        have n4_ := Aside0.mk (blk_drew BX.out)
        have n5_ := Aside0.mk (below_drew HB.out)
        clear HQ BE BN BR BX HB
        have HQ := n0_
        have BE := n1_
        have BN := n2_
        have BR := n3_
        have BX := n4_
        have HB := n5_
        clear n0_ n1_ n2_ n3_ n4_ n5_
        generalize W3.drew = W4 at HQ BE BN BR BX HB hHeld ⊢
        refine pure_ (i := 0) (N := some 47) (v := ?_) (a' := ?_) #[true, false, false, false, false, false, false, false, false, false, false] rfl rfl (by kernel_rfl) (fun _ _ _ h => h) (Or.inl ⟨by rfl, ?_⟩) ?_ ?_
        rotate_left
        · intro w'
          go_simp
          with_reducible rfl
        rotate_left
        · simp only [Act.put, List.setIfInBounds_toArray, List.set_cons_zero, List.set_cons_succ, i64_w, i32_w]
          rfl
        refine pure_ (i := 2) (N := some 49) (v := ?_) (a' := ?_) #[true, false, true, false, false, false, false, false, false, false, false] rfl rfl (by kernel_rfl) (fun _ _ _ h => h) (Or.inl ⟨by rfl, ?_⟩) ?_ ?_
        rotate_left
        · intro w'
          go_simp
          with_reducible rfl
        rotate_left
        · simp only [Act.put, List.setIfInBounds_toArray, List.set_cons_zero, List.set_cons_succ, i64_w, i32_w]
          rfl
        refine take_ (i := 1) (N := some 48) (v := ?_) (a' := ?_) #[true, true, true, false, false, false, false, false, false, false, false] rfl rfl (by kernel_rfl) (fun _ _ _ h => h) (Or.inl ⟨by rfl, ?_⟩) hHeld ?_ ?_
        rotate_left
        · rintro w' ⟨s0, s1, s2, s3⟩
          go_simp
          with_reducible rfl
        rotate_left
        · simp only [Act.put, List.setIfInBounds_toArray, List.set_cons_zero, List.set_cons_succ, i64_w, i32_w]
          rfl
        refine take_ (i := 3) (N := some 50) (v := ?_) (a' := ?_) #[true, true, true, true, false, false, false, false, false, false, false] rfl rfl (by kernel_rfl) (fun _ _ _ h => h) (Or.inl ⟨by rfl, ?_⟩) hHeld ?_ ?_
        rotate_left
        · rintro w' ⟨s0, s1, s2, s3⟩
          go_simp
          with_reducible rfl
        rotate_left
        · simp only [Act.put, List.setIfInBounds_toArray, List.set_cons_zero, List.set_cons_succ, i64_w, i32_w]
          rfl
        refine pure_ (i := 4) (N := some 51) (v := ?_) (a' := ?_) #[true, true, true, true, true, false, false, false, false, false, false] rfl rfl (by kernel_rfl) (fun _ _ _ h => h) (Or.inl ⟨by rfl, ?_⟩) ?_ ?_
        rotate_left
        · intro w'
          go_simp
          with_reducible rfl
        rotate_left
        · simp only [Act.put, List.setIfInBounds_toArray, List.set_cons_zero, List.set_cons_succ, i64_w, i32_w]
          rfl
        refine take_ (i := 5) (N := some 52) (v := ?_) (a' := ?_) #[true, true, true, true, true, true, false, false, false, false, false] rfl rfl (by kernel_rfl) (fun _ _ _ h => h) (Or.inl ⟨by rfl, ?_⟩) hHeld ?_ ?_
        rotate_left
        · rintro w' ⟨s0, s1, s2, s3⟩
          go_simp
          with_reducible rfl
        rotate_left
        · simp only [Act.put, List.setIfInBounds_toArray, List.set_cons_zero, List.set_cons_succ, i64_w, i32_w]
          rfl
        refine take_ (i := 6) (N := some 53) (v := ?_) (a' := ?_) #[true, true, true, true, true, true, true, false, false, false, false] rfl rfl (by kernel_rfl) (fun _ _ _ h => h) (Or.inl ⟨by rfl, ?_⟩) hHeld ?_ ?_
        rotate_left
        · rintro w' ⟨s0, s1, s2, s3⟩
          go_simp
          with_reducible rfl
        rotate_left
        · simp only [Act.put, List.setIfInBounds_toArray, List.set_cons_zero, List.set_cons_succ, i64_w, i32_w]
          rfl
        refine one_ (i := 7) (N := some 54) #[true, true, true, true, true, true, true, true, false, false, false] rfl rfl (by kernel_rfl) (by decide) (fun K hK => ?_)
        refine value_ (w1 := ?_) (v := ?_) (by rfl) rfl ?_ ?_
        rotate_left 2
        · go_simp
          constructor
          · rfl
          · rfl
        have n0_ := Aside0.mk (Kd.R_alloc HQ.out (.cells #[.int .i64 (-1), .int .i64 xi] 82))
        have n1_ := Aside0.mk (blk_alloc BE.out (.cells #[.int .i64 (-1), .int .i64 xi] 82))
        have n2_ := Aside0.mk (blk_alloc BN.out (.cells #[.int .i64 (-1), .int .i64 xi] 82))
        have n3_ := Aside0.mk (blk_alloc BR.out (.cells #[.int .i64 (-1), .int .i64 xi] 82))
        have n4_ := Aside0.mk (blk_alloc BX.out (.cells #[.int .i64 (-1), .int .i64 xi] 82))
        have n5_ := Aside0.mk (below_alloc HB.out (.cells #[.int .i64 (-1), .int .i64 xi] 82))
        refine hK.out _ _ ⟨(blk_cell n2_.out 1).trans rfl, (blk_cell n1_.out 0).trans rfl, (blk_cell n4_.out 0).trans rfl, (blk_cell n4_.out 1).trans rfl⟩ (fun hHeld => ?_)
        clear hK K
        refine norm_ (a' := ?_) ?_ ?_
        rotate_left
        · show Act.put _ (some 54) _ = _
          simp only [Act.put, List.setIfInBounds_toArray, List.set_cons_zero, List.set_cons_succ, i64_w, i32_w]
          rfl
        refine one_ (i := 8) (N := some 55) #[true, true, true, true, true, true, true, true, true, false, false] rfl rfl (by kernel_rfl) (by decide) (fun K hK => ?_)
        refine Kd.R_append_step k82 (w0 := w) w.heap.size (by rfl) (.tmp 52) (.tmp 54) 79 82 (.agg #[.int .i64 0, .int .i64 0]) 16 rfl hu79 info82 rfl (by decide) (by decide) (.slice A0 0 c0) ((ls.take 0).map noth) (noth xi) [.int .i64 (-1), .int .i64 xi] (fun _ => True) (fun _ => False) rfl rfl ?aP (fun _ h => h.elim) (fun _ _ => trivial) HQ.out HB.out HB.out.size ?aL ?_
        (case aP => exact k82_mkM _ w.heap.size (fun _ => False) (noth xi))
        (case aL => simp only [List.length_map, List.length_take]; omega)
        intro v1 w1 HR1 HB1 hg hat
        have HQ1 := Aside0.mk HR1
        have BE1 := Aside0.mk (blk_grown BE.out hg (Kd.R_ne HQ.out BE.out (by decide)))
        have BN1 := Aside0.mk (blk_grown BN.out hg (Kd.R_ne HQ.out BN.out (by decide)))
        have BR1 := Aside0.mk (blk_grown BR.out hg (Kd.R_ne HQ.out BR.out (by decide)))
        have BX1 := Aside0.mk (blk_grown BX.out hg (fun e_ => HGX.out gx e_.symm rfl))
        have HB3 := Aside0.mk HB1
        obtain ⟨A9, c9, ev9, hl9, hr9⟩ := Kd.R_reads HR1
        have hn9 : ((ls.take 0).map noth ++ [noth xi]).length = 0 + 1 := by simp only [List.length_append, List.length_map, List.length_take, List.length_singleton]; omega
        rw [hn9] at ev9
        subst ev9
        clear HR1 HB1 hg hat hl9 hr9 HQ BE BN BR BX HB n0_ n1_ n2_ n3_ n4_ n5_ hn9
        refine hK.out _ _ ⟨(blk_cell BN1.out 1).trans rfl, (blk_cell BE1.out 0).trans rfl, (blk_cell BX1.out 0).trans rfl, (blk_cell BX1.out 1).trans rfl⟩ (fun hHeld => ?_)
        clear hK K
        refine norm_ (a' := ?_) ?_ ?_
        rotate_left
        · show Act.put _ (some 55) _ = _
          simp only [Act.put, List.setIfInBounds_toArray, List.set_cons_zero, List.set_cons_succ, i64_w, i32_w]
          rfl
        refine pure_ (i := 9) (N := some 56) (v := ?_) (a' := ?_) #[true, true, true, true, true, true, true, true, true, true, false] rfl rfl (by kernel_rfl) (fun _ _ _ h => h) (Or.inl ⟨by rfl, ?_⟩) ?_ ?_
        rotate_left
        · intro w'
          go_simp
          with_reducible rfl
        rotate_left
        · simp only [Act.put, List.setIfInBounds_toArray, List.set_cons_zero, List.set_cons_succ, i64_w, i32_w]
          rfl
        refine last_ (i := 10) (N := none) #[true, true, true, true, true, true, true, true, true, true, true] rfl rfl (by kernel_rfl) (by decide) (fun K hK => ?_)
        have hs_ := (blk_cell BE1.out 0).trans rfl
        have hfs_ := blk_frozen BE1.out 0
        refine skip_ (w1 := ?_) (by rfl) rfl ?_ ?_
        rotate_left
        · go_simp
          rfl
        refine hK.out _ _ ?_
        clear hK K
        refine done_ (by kernel_rfl) ?_
        go_wp2
        go_roundw
        case rel =>
          refine ⟨1, A9, c9, by omega, by go_num, ⟨?_⟩, ⟨?_⟩, ⟨?_⟩, ⟨?_⟩, ⟨?_⟩⟩
          · rw [map_take_snoc ls 0 hlt, ← HXI.out]
            exact Kd.R_set HQ1.out BE1.out (by decide) 0 _
          · exact blk_put BE1.out 0 _ rfl
          · exact blk_far BN1.out (by simp) _
          · exact blk_far BR1.out (by simp) _
          · exact HB3.out.setCell (by simp) _
        case measure => simp [intOf]; omega
      · obtain ⟨j, rfl⟩ : ∃ j, i = j + 1 := ⟨i - 1, by omega⟩
        obtain ⟨gb, rfl, hy0, hy1⟩ := noth_last (j := j) HQ.out (by simp only [List.length_take]; omega)
        rw [take_getD ls j (by omega)] at hy1
        obtain ⟨xp, hxp⟩ : ∃ x, x = ls.getD j 0 := ⟨_, rfl⟩
        rw [← hxp] at hy1
        have hxne : xp ≠ xi := by rw [hxp, HXI.out]; exact HNE.out j (by omega)
        have hwj : wrap64 ((j : Nat) : Int) = j := by unfold wrap64; omega
        have hjlt : ((j : Nat) : Int) < (j : Int) + 1 := by omega
        have hxb : (xp == xi) = false := by simpa using hxne
        clear hxp hxne
        have HL0 := Aside0.mk hy0
        have HL1 := Aside0.mk hy1
        clear hy0 hy1
        refine start_ (n := 22) (S := fun w' => w'.cell? ⟨w.heap.size + 1 + 1, 1, none⟩ = some (.slice (some ⟨w.heap.size + 1, 0, none⟩) 2 2) ∧ w'.cell? ⟨w.heap.size + 1, 0, none⟩ = some (.slice (some ⟨gb, 0, none⟩) (j + 1) c0) ∧ w'.cell? ⟨gb, j * 2, none⟩ = some (.int .i64 (-1)) ∧ w'.cell? ⟨gb, j * 2 + 1, none⟩ = some (.int .i64 xp) ∧ w'.cell? ⟨gx, 0, none⟩ = some (.int .i64 (-1)) ∧ w'.cell? ⟨gx, 1, none⟩ = some (.int .i64 xi)) (ds := []) #[false, false, false, false, false, false, false, false, false, false, false, false, false, false, false, false, false, false, false, false, false, false] (by kernel_rfl) rfl rfl ⟨(blk_cell (blk_drew BN.out) 1).trans rfl, (blk_cell (blk_drew BE.out) 0).trans rfl, HL0.out, HL1.out, (blk_cell (blk_drew BX.out) 0).trans rfl, (blk_cell (blk_drew BX.out) 1).trans rfl⟩ (fun hHeld => ?_)
        have n0_ := Aside0.mk (Kd.R_drew HQ.out)
        have n1_ := Aside0.mk (blk_drew BE.out)
        have n2_ := Aside0.mk (blk_drew BN.out)
        have n3_ := Aside0.mk (blk_drew BR.out)
        have n4_ := Aside0.mk (blk_drew BX.out)
        have n5_ := Aside0.mk (below_drew HB.out)
        clear HQ BE BN BR BX HB
        have HQ := n0_
        have BE := n1_
        have BN := n2_
        have BR := n3_
        have BX := n4_
        have HB := n5_
        clear n0_ n1_ n2_ n3_ n4_ n5_
        generalize W2.drew = W3 at HQ BE BN BR BX HB hHeld ⊢
        refine pure_ (i := 0) (N := some 25) (v := ?_) (a' := ?_) #[true, false, false, false, false, false, false, false, false, false, false, false, false, false, false, false, false, false, false, false, false, false] rfl rfl (by kernel_rfl) (fun _ _ _ h => h) (Or.inl ⟨by rfl, ?_⟩) ?_ ?_
        rotate_left
        · intro w'
          go_simp
          with_reducible rfl
        rotate_left
        · simp only [Act.put, List.setIfInBounds_toArray, List.set_cons_zero, List.set_cons_succ, i64_w, i32_w]
          rfl
        refine take_ (i := 1) (N := some 26) (v := ?_) (a' := ?_) #[true, true, false, false, false, false, false, false, false, false, false, false, false, false, false, false, false, false, false, false, false, false] rfl rfl (by kernel_rfl) (fun _ _ _ h => h) (Or.inl ⟨by rfl, ?_⟩) hHeld ?_ ?_
        rotate_left
        · rintro w' ⟨s0, s1, s2, s3, s4, s5⟩
          go_simp
          with_reducible rfl
        rotate_left
        · simp only [Act.put, List.setIfInBounds_toArray, List.set_cons_zero, List.set_cons_succ, i64_w, i32_w]
          rfl
        refine pure_ (i := 2) (N := some 27) (v := ?_) (a' := ?_) #[true, true, true, false, false, false, false, false, false, false, false, false, false, false, false, false, false, false, false, false, false, false] rfl rfl (by kernel_rfl) (fun _ _ _ h => h) (Or.inl ⟨by rfl, ?_⟩) ?_ ?_
        rotate_left
        · intro w'
          go_simp
          with_reducible rfl
        rotate_left
        · simp only [Act.put, List.setIfInBounds_toArray, List.set_cons_zero, List.set_cons_succ, i64_w, i32_w]
          rfl
        refine take_ (i := 3) (N := some 28) (v := ?_) (a' := ?_) #[true, true, true, true, false, false, false, false, false, false, false, false, false, false, false, false, false, false, false, false, false, false] rfl rfl (by kernel_rfl) (fun _ _ _ h => h) (Or.inl ⟨by rfl, ?_⟩) hHeld ?_ ?_
        rotate_left
        · rintro w' ⟨s0, s1, s2, s3, s4, s5⟩
          go_simp
          with_reducible rfl
        rotate_left
        · simp only [Act.put, List.setIfInBounds_toArray, List.set_cons_zero, List.set_cons_succ, i64_w, i32_w]
          rfl
        refine pure_ (i := 4) (N := some 29) (v := ?_) (a' := ?_) #[true, true, true, true, true, false, false, false, false, false, false, false, false, false, false, false, false, false, false, false, false, false] rfl rfl (by kernel_rfl) (fun _ _ _ h => h) (Or.inl ⟨by rfl, ?_⟩) ?_ ?_
        rotate_left
        · intro w'
          go_simp
          with_reducible rfl
        rotate_left
        · simp only [Act.put, List.setIfInBounds_toArray, List.set_cons_zero, List.set_cons_succ, i64_w, i32_w]
          rfl
        refine pure_ (i := 5) (N := some 30) (v := ?_) (a' := ?_) #[true, true, true, true, true, true, false, false, false, false, false, false, false, false, false, false, false, false, false, false, false, false] rfl rfl (by kernel_rfl) (fun _ _ _ h => h) (Or.inl ⟨by rfl, ?_⟩) ?_ ?_
        rotate_left
        · intro w'
          go_simp
          with_reducible rfl
        rotate_left
        · simp only [Act.put, List.setIfInBounds_toArray, List.set_cons_zero, List.set_cons_succ, i64_w, i32_w]
          rfl
        refine pure_ (i := 6) (N := some 31) (v := ?_) (a' := ?_) #[true, true, true, true, true, true, true, false, false, false, false, false, false, false, false, false, false, false, false, false, false, false] rfl rfl (by kernel_rfl) (fun _ _ _ h => h) (Or.inl ⟨by rfl, ?_⟩) ?_ ?_
        rotate_left
        · intro w'
          go_simp
          with_reducible rfl
        rotate_left
        · simp only [Act.put, List.setIfInBounds_toArray, List.set_cons_zero, List.set_cons_succ, i64_w, i32_w]
          rfl
        refine pure_ (i := 7) (N := some 32) (v := ?_) (a' := ?_) #[true, true, true, true, true, true, true, true, false, false, false, false, false, false, false, false, false, false, false, false, false, false] rfl rfl (by kernel_rfl) (fun _ _ _ h => h) (Or.inl ⟨by rfl, ?_⟩) ?_ ?_
        rotate_left
        · intro w'
          go_simp
          with_reducible rfl
        rotate_left
        · simp only [Act.put, List.setIfInBounds_toArray, List.set_cons_zero, List.set_cons_succ, i64_w, i32_w]
          rfl
        refine pure_ (i := 11) (N := some 36) (v := ?_) (a' := ?_) #[true, true, true, true, true, true, true, true, false, false, false, true, false, false, false, false, false, false, false, false, false, false] rfl rfl (by kernel_rfl) (fun _ _ _ h => h) (Or.inl ⟨by rfl, ?_⟩) ?_ ?_
        rotate_left
        · intro w'
          go_simp
          with_reducible rfl
        rotate_left
        · simp only [Act.put, List.setIfInBounds_toArray, List.set_cons_zero, List.set_cons_succ, i64_w, i32_w]
          rfl
        refine take_ (i := 8) (N := some 33) (v := ?_) (a' := ?_) #[true, true, true, true, true, true, true, true, true, false, false, true, false, false, false, false, false, false, false, false, false, false] rfl rfl (by kernel_rfl) (fun _ _ _ h => h) (Or.inl ⟨by rfl, ?_⟩) hHeld ?_ ?_
        rotate_left
        · rintro w' ⟨s0, s1, s2, s3, s4, s5⟩
          go_simp
          with_reducible rfl
        rotate_left
        · simp only [Act.put, List.setIfInBounds_toArray, List.set_cons_zero, List.set_cons_succ, i64_w, i32_w]
          rfl
        refine pure_ (i := 9) (N := some 34) (v := ?_) (a' := ?_) #[true, true, true, true, true, true, true, true, true, true, false, true, false, false, false, false, false, false, false, false, false, false] rfl rfl (by kernel_rfl) (fun _ _ _ h => h) (Or.inl ⟨by rfl, ?_⟩) ?_ ?_
        rotate_left
        · intro w'
          go_simp
          with_reducible rfl
        rotate_left
        · simp only [Act.put, List.setIfInBounds_toArray, List.set_cons_zero, List.set_cons_succ, i64_w, i32_w]
          rfl
        refine take_ (i := 10) (N := some 35) (v := ?_) (a' := ?_) #[true, true, true, true, true, true, true, true, true, true, true, true, false, false, false, false, false, false, false, false, false, false] rfl rfl (by kernel_rfl) (fun _ _ _ h => h) (Or.inl ⟨by rfl, ?_⟩) hHeld ?_ ?_
        rotate_left
        · rintro w' ⟨s0, s1, s2, s3, s4, s5⟩
          go_simp
          with_reducible rfl
        rotate_left
        · simp only [Act.put, List.setIfInBounds_toArray, List.set_cons_zero, List.set_cons_succ, i64_w, i32_w]
          rfl
        refine take_ (i := 12) (N := some 37) (v := ?_) (a' := ?_) #[true, true, true, true, true, true, true, true, true, true, true, true, true, false, false, false, false, false, false, false, false, false] rfl rfl (by kernel_rfl) (fun _ _ _ h => h) (Or.inl ⟨by rfl, ?_⟩) hHeld ?_ ?_
        rotate_left
        · rintro w' ⟨s0, s1, s2, s3, s4, s5⟩
          go_simp
          with_reducible rfl
        rotate_left
        · simp only [Act.put, List.setIfInBounds_toArray, List.set_cons_zero, List.set_cons_succ, i64_w, i32_w]
          rfl
        refine pure_ (i := 13) (N := some 38) (v := ?_) (a' := ?_) #[true, true, true, true, true, true, true, true, true, true, true, true, true, true, false, false, false, false, false, false, false, false] rfl rfl (by kernel_rfl) (fun _ _ _ h => h) (Or.inl ⟨by rfl, ?_⟩) ?_ ?_
        rotate_left
        · intro w'
          go_simp
          with_reducible rfl
        rotate_left
        · simp only [Act.put, List.setIfInBounds_toArray, List.set_cons_zero, List.set_cons_succ, i64_w, i32_w]
          rfl
        refine take_ (i := 14) (N := some 39) (v := ?_) (a' := ?_) #[true, true, true, true, true, true, true, true, true, true, true, true, true, true, true, false, false, false, false, false, false, false] rfl rfl (by kernel_rfl) (fun _ _ _ h => h) (Or.inl ⟨by rfl, ?_⟩) hHeld ?_ ?_
        rotate_left
        · rintro w' ⟨s0, s1, s2, s3, s4, s5⟩
          go_simp
          with_reducible rfl
        rotate_left
        · simp only [Act.put, List.setIfInBounds_toArray, List.set_cons_zero, List.set_cons_succ, i64_w, i32_w]
          rfl
        refine pure_ (i := 15) (N := some 40) (v := ?_) (a' := ?_) #[true, true, true, true, true, true, true, true, true, true, true, true, true, true, true, true, false, false, false, false, false, false] rfl rfl (by kernel_rfl) (fun _ _ _ h => h) (Or.inl ⟨by rfl, ?_⟩) ?_ ?_
        rotate_left
        · intro w'
          go_simp
          with_reducible rfl
        rotate_left
        · simp only [Act.put, List.setIfInBounds_toArray, List.set_cons_zero, List.set_cons_succ, i64_w, i32_w]
          rfl
        refine pure_ (i := 16) (N := some 41) (v := ?_) (a' := ?_) #[true, true, true, true, true, true, true, true, true, true, true, true, true, true, true, true, true, false, false, false, false, false] rfl rfl (by kernel_rfl) (fun _ _ _ h => h) (Or.inl ⟨by rfl, ?_⟩) ?_ ?_
        rotate_left
        · intro w'
          go_simp
          with_reducible rfl
        rotate_left
        · simp only [Act.put, List.setIfInBounds_toArray, List.set_cons_zero, List.set_cons_succ, i64_w, i32_w]
          rfl
        refine pure_ (i := 17) (N := some 42) (v := ?_) (a' := ?_) #[true, true, true, true, true, true, true, true, true, true, true, true, true, true, true, true, true, true, false, false, false, false] rfl rfl (by kernel_rfl) (fun _ _ _ h => h) (Or.inl ⟨by rfl, ?_⟩) ?_ ?_
        rotate_left
        · intro w'
          go_simp
          with_reducible rfl
        rotate_left
        · simp only [Act.put, List.setIfInBounds_toArray, List.set_cons_zero, List.set_cons_succ, i64_w, i32_w]
          rfl
        refine take_ (i := 18) (N := some 43) (v := ?_) (a' := ?_) #[true, true, true, true, true, true, true, true, true, true, true, true, true, true, true, true, true, true, true, false, false, false] rfl rfl (by kernel_rfl) (fun _ _ _ h => h) (Or.inl ⟨by rfl, ?_⟩) hHeld ?_ ?_
        rotate_left
        · rintro w' ⟨s0, s1, s2, s3, s4, s5⟩
          go_simp
          with_reducible rfl
        rotate_left
        · simp only [Act.put, List.setIfInBounds_toArray, List.set_cons_zero, List.set_cons_succ, i64_w, i32_w]
          rfl
        refine take_ (i := 19) (N := some 44) (v := ?_) (a' := ?_) #[true, true, true, true, true, true, true, true, true, true, true, true, true, true, true, true, true, true, true, true, false, false] rfl rfl (by kernel_rfl) (fun _ _ _ h => h) (Or.inl ⟨by rfl, ?_⟩) hHeld ?_ ?_
        rotate_left
        · rintro w' ⟨s0, s1, s2, s3, s4, s5⟩
          go_simp
          with_reducible rfl
        rotate_left
        · simp only [Act.put, List.setIfInBounds_toArray, List.set_cons_zero, List.set_cons_succ, i64_w, i32_w]
          rfl
        refine pure_ (i := 20) (N := some 45) (v := ?_) (a' := ?_) #[true, true, true, true, true, true, true, true, true, true, true, true, true, true, true, true, true, true, true, true, true, false] rfl rfl (by kernel_rfl) (fun _ _ _ h => h) (Or.inl ⟨by rfl, ?_⟩) ?_ ?_
        rotate_left
        · intro w'
          go_simp
          with_reducible rfl
        rotate_left
        · simp only [Act.put, List.setIfInBounds_toArray, List.set_cons_zero, List.set_cons_succ, i64_w, i32_w]
          rfl
        refine pure_ (i := 21) (N := some 46) (v := ?_) (a' := ?_) #[true, true, true, true, true, true, true, true, true, true, true, true, true, true, true, true, true, true, true, true, true, true] rfl rfl (by kernel_rfl) (fun _ _ _ h => h) (Or.inl ⟨by rfl, ?_⟩) ?_ ?_
        rotate_left
        · intro w'
          go_simp
          with_reducible rfl
        rotate_left
        · simp only [Act.put, List.setIfInBounds_toArray, List.set_cons_zero, List.set_cons_succ, i64_w, i32_w]
          rfl
        refine done_ (by kernel_rfl) ?_
        go_wp2
        refine start_ (n := 11) (S := fun w' => w'.cell? ⟨w.heap.size + 1 + 1, 1, none⟩ = some (.slice (some ⟨w.heap.size + 1, 0, none⟩) 2 2) ∧ w'.cell? ⟨w.heap.size + 1, 0, none⟩ = some (.slice (some ⟨gb, 0, none⟩) (j + 1) c0) ∧ w'.cell? ⟨gx, 0, none⟩ = some (.int .i64 (-1)) ∧ w'.cell? ⟨gx, 1, none⟩ = some (.int .i64 xi)) (ds := [10]) #[false, false, false, false, false, false, false, false, false, false, false] (by kernel_rfl) rfl rfl ⟨(blk_cell (blk_drew BN.out) 1).trans rfl, (blk_cell (blk_drew BE.out) 0).trans rfl, (blk_cell (blk_drew BX.out) 0).trans rfl, (blk_cell (blk_drew BX.out) 1).trans rfl⟩ (fun hHeld => ?_)
        have n0_ := Aside0.mk (Kd.R_drew HQ.out)
        have n1_ := Aside0.mk (blk_drew BE.out)
        have n2_ := Aside0.mk (blk_drew BN.out)
        have n3_ := Aside0.mk (blk_drew BR.out)
        have n4_ := Aside0.mk (blk_drew BX.out)
        have n5_ := Aside0.mk (below_drew HB.out)
        clear HQ BE BN BR BX HB
        have HQ := n0_
        have BE := n1_
        have BN := n2_
        have BR := n3_
        have BX := n4_
        have HB := n5_
        clear n0_ n1_ n2_ n3_ n4_ n5_
        generalize W3.drew = W4 at HQ BE BN BR BX HB hHeld ⊢
        refine pure_ (i := 0) (N := some 47) (v := ?_) (a' := ?_) #[true, false, false, false, false, false, false, false, false, false, false] rfl rfl (by kernel_rfl) (fun _ _ _ h => h) (Or.inl ⟨by rfl, ?_⟩) ?_ ?_
        rotate_left
        · intro w'
          go_simp
          with_reducible rfl
        rotate_left
        · simp only [Act.put, List.setIfInBounds_toArray, List.set_cons_zero, List.set_cons_succ, i64_w, i32_w]
          rfl
        refine pure_ (i := 2) (N := some 49) (v := ?_) (a' := ?_) #[true, false, true, false, false, false, false, false, false, false, false] rfl rfl (by kernel_rfl) (fun _ _ _ h => h) (Or.inl ⟨by rfl, ?_⟩) ?_ ?_
        rotate_left
        · intro w'
          go_simp
          with_reducible rfl
        rotate_left
        · simp only [Act.put, List.setIfInBounds_toArray, List.set_cons_zero, List.set_cons_succ, i64_w, i32_w]
          rfl
        refine take_ (i := 1) (N := some 48) (v := ?_) (a' := ?_) #[true, true, true, false, false, false, false, false, false, false, false] rfl rfl (by kernel_rfl) (fun _ _ _ h => h) (Or.inl ⟨by rfl, ?_⟩) hHeld ?_ ?_
        rotate_left
        · rintro w' ⟨s0, s1, s2, s3⟩
          go_simp
          with_reducible rfl
        rotate_left
        · simp only [Act.put, List.setIfInBounds_toArray, List.set_cons_zero, List.set_cons_succ, i64_w, i32_w]
          rfl
        refine take_ (i := 3) (N := some 50) (v := ?_) (a' := ?_) #[true, true, true, true, false, false, false, false, false, false, false] rfl rfl (by kernel_rfl) (fun _ _ _ h => h) (Or.inl ⟨by rfl, ?_⟩) hHeld ?_ ?_
        rotate_left
        · rintro w' ⟨s0, s1, s2, s3⟩
          go_simp
          with_reducible rfl
        rotate_left
        · simp only [Act.put, List.setIfInBounds_toArray, List.set_cons_zero, List.set_cons_succ, i64_w, i32_w]
          rfl
        refine pure_ (i := 4) (N := some 51) (v := ?_) (a' := ?_) #[true, true, true, true, true, false, false, false, false, false, false] rfl rfl (by kernel_rfl) (fun _ _ _ h => h) (Or.inl ⟨by rfl, ?_⟩) ?_ ?_
        rotate_left
        · intro w'
          go_simp
          with_reducible rfl
        rotate_left
        · simp only [Act.put, List.setIfInBounds_toArray, List.set_cons_zero, List.set_cons_succ, i64_w, i32_w]
          rfl
        refine take_ (i := 5) (N := some 52) (v := ?_) (a' := ?_) #[true, true, true, true, true, true, false, false, false, false, false] rfl rfl (by kernel_rfl) (fun _ _ _ h => h) (Or.inl ⟨by rfl, ?_⟩) hHeld ?_ ?_
        rotate_left
        · rintro w' ⟨s0, s1, s2, s3⟩
          go_simp
          with_reducible rfl
        rotate_left
        · simp only [Act.put, List.setIfInBounds_toArray, List.set_cons_zero, List.set_cons_succ, i64_w, i32_w]
          rfl
        refine take_ (i := 6) (N := some 53) (v := ?_) (a' := ?_) #[true, true, true, true, true, true, true, false, false, false, false] rfl rfl (by kernel_rfl) (fun _ _ _ h => h) (Or.inl ⟨by rfl, ?_⟩) hHeld ?_ ?_
        rotate_left
        · rintro w' ⟨s0, s1, s2, s3⟩
          go_simp
          with_reducible rfl
        rotate_left
        · simp only [Act.put, List.setIfInBounds_toArray, List.set_cons_zero, List.set_cons_succ, i64_w, i32_w]
          rfl
        refine one_ (i := 7) (N := some 54) #[true, true, true, true, true, true, true, true, false, false, false] rfl rfl (by kernel_rfl) (by decide) (fun K hK => ?_)
        refine value_ (w1 := ?_) (v := ?_) (by rfl) rfl ?_ ?_
        rotate_left 2
        · go_simp
          constructor
          · rfl
          · rfl
        have n0_ := Aside0.mk (Kd.R_alloc HQ.out (.cells #[.int .i64 (-1), .int .i64 xi] 82))
        have n1_ := Aside0.mk (blk_alloc BE.out (.cells #[.int .i64 (-1), .int .i64 xi] 82))
        have n2_ := Aside0.mk (blk_alloc BN.out (.cells #[.int .i64 (-1), .int .i64 xi] 82))
        have n3_ := Aside0.mk (blk_alloc BR.out (.cells #[.int .i64 (-1), .int .i64 xi] 82))
        have n4_ := Aside0.mk (blk_alloc BX.out (.cells #[.int .i64 (-1), .int .i64 xi] 82))
        have n5_ := Aside0.mk (below_alloc HB.out (.cells #[.int .i64 (-1), .int .i64 xi] 82))
        refine hK.out _ _ ⟨(blk_cell n2_.out 1).trans rfl, (blk_cell n1_.out 0).trans rfl, (blk_cell n4_.out 0).trans rfl, (blk_cell n4_.out 1).trans rfl⟩ (fun hHeld => ?_)
        clear hK K
        refine norm_ (a' := ?_) ?_ ?_
        rotate_left
        · show Act.put _ (some 54) _ = _
          simp only [Act.put, List.setIfInBounds_toArray, List.set_cons_zero, List.set_cons_succ, i64_w, i32_w]
          rfl
        refine one_ (i := 8) (N := some 55) #[true, true, true, true, true, true, true, true, true, false, false] rfl rfl (by kernel_rfl) (by decide) (fun K hK => ?_)
        refine Kd.R_append_step k82 (w0 := w) w.heap.size (by rfl) (.tmp 52) (.tmp 54) 79 82 (.agg #[.int .i64 0, .int .i64 0]) 16 rfl hu79 info82 rfl (by decide) (by decide) (.slice (some ⟨gb, 0, none⟩) (j + 1) c0) ((ls.take (j + 1)).map noth) (noth xi) [.int .i64 (-1), .int .i64 xi] (fun _ => True) (fun _ => False) rfl rfl ?aP (fun _ h => h.elim) (fun _ _ => trivial) HQ.out HB.out HB.out.size ?aL ?_
        (case aP => exact k82_mkM _ w.heap.size (fun _ => False) (noth xi))
        (case aL => simp only [List.length_map, List.length_take]; omega)
        intro v1 w1 HR1 HB1 hg hat
        have HQ1 := Aside0.mk HR1
        have BE1 := Aside0.mk (blk_grown BE.out hg (Kd.R_ne HQ.out BE.out (by decide)))
        have BN1 := Aside0.mk (blk_grown BN.out hg (Kd.R_ne HQ.out BN.out (by decide)))
        have BR1 := Aside0.mk (blk_grown BR.out hg (Kd.R_ne HQ.out BR.out (by decide)))
        have BX1 := Aside0.mk (blk_grown BX.out hg (fun e_ => HGX.out gx e_.symm rfl))
        have HB3 := Aside0.mk HB1
        obtain ⟨A9, c9, ev9, hl9, hr9⟩ := Kd.R_reads HR1
        have hn9 : ((ls.take (j + 1)).map noth ++ [noth xi]).length = (j + 1) + 1 := by simp only [List.length_append, List.length_map, List.length_take, List.length_singleton]; omega
        rw [hn9] at ev9
        subst ev9
        clear HR1 HB1 hg hat hl9 hr9 HQ BE BN BR BX HB n0_ n1_ n2_ n3_ n4_ n5_ hn9
        refine hK.out _ _ ⟨(blk_cell BN1.out 1).trans rfl, (blk_cell BE1.out 0).trans rfl, (blk_cell BX1.out 0).trans rfl, (blk_cell BX1.out 1).trans rfl⟩ (fun hHeld => ?_)
        clear hK K
        refine norm_ (a' := ?_) ?_ ?_
        rotate_left
        · show Act.put _ (some 55) _ = _
          simp only [Act.put, List.setIfInBounds_toArray, List.set_cons_zero, List.set_cons_succ, i64_w, i32_w]
          rfl
        refine pure_ (i := 9) (N := some 56) (v := ?_) (a' := ?_) #[true, true, true, true, true, true, true, true, true, true, false] rfl rfl (by kernel_rfl) (fun _ _ _ h => h) (Or.inl ⟨by rfl, ?_⟩) ?_ ?_
        rotate_left
        · intro w'
          go_simp
          with_reducible rfl
        rotate_left
        · simp only [Act.put, List.setIfInBounds_toArray, List.set_cons_zero, List.set_cons_succ, i64_w, i32_w]
          rfl
        refine last_ (i := 10) (N := none) #[true, true, true, true, true, true, true, true, true, true, true] rfl rfl (by kernel_rfl) (by decide) (fun K hK => ?_)
        have hs_ := (blk_cell BE1.out 0).trans rfl
        have hfs_ := blk_frozen BE1.out 0
        refine skip_ (w1 := ?_) (by rfl) rfl ?_ ?_
        rotate_left
        · go_simp
          rfl
        refine hK.out _ _ ?_
        clear hK K
        refine done_ (by kernel_rfl) ?_
        go_wp2
        go_roundw
        case rel =>
          refine ⟨j + 1 + 1, A9, c9, by omega, by go_num, ⟨?_⟩, ⟨?_⟩, ⟨?_⟩, ⟨?_⟩, ⟨?_⟩⟩
          · rw [map_take_snoc ls (j + 1) hlt, ← HXI.out]
            exact Kd.R_set HQ1.out BE1.out (by decide) 0 _
          · exact blk_put BE1.out 0 _ rfl
          · exact blk_far BN1.out (by simp) _
          · exact blk_far BR1.out (by simp) _
          · exact HB3.out.setCell (by simp) _
        case measure => simp [intOf]; omega
    · obtain rfl : i = ls.length := by omega
      have n0_ := Aside0.mk HQ.out
      rw [List.take_length] at n0_
      have HO := Aside0.mk (hdr_two (h0 := (A0, ls.length, c0)) (h1 := (none, 0, 0)) (ok := fun _ => True) BE.out (by omega : w.heap.size ≤ w.heap.size + 1) trivial)
      clear HQ BE
      have HQ := n0_
      clear n0_ hi hlt
      go_wp2
      obtain ⟨wo, hwo⟩ : ∃ wo : World, wo = wr := ⟨_, rfl⟩
      clear hwo
      go_loopw [60] (fun v60 wq => ∃ (j : Nat) (ve : Value), j ≤ all.length ∧ v60 = .int .i64 j ∧
        Aside0 (hdrK.R 79 wq w.heap.size (fun _ => True) ve ([(A0, ls.length, c0), (none, 0, 0)] ++ (all.take j).flatten)) ∧
        Aside0 (k82.R 82 wq w.heap.size (fun _ => True) (.slice A0 ls.length c0) (ls.map noth)) ∧
        Aside0 (wq.heap[w.heap.size + 1 + 1]? = some (.cells #[.int .i64 letters, ve] 28 (0, 0))) ∧
        Aside0 (wq.heap[w.heap.size]? = some (.cells #[.int .i64 0, .slice none 0 0] 28 (0, 0))) ∧
        Aside0 (Below w.heap.size w wq)) (fun v60 _ => all.length - (intOf v60).toNat)
      case atStart => exact ⟨0, _, Nat.zero_le _, rfl, ⟨by simpa using HO.out⟩, HQ, BN, BR, HB⟩
      case round =>
        clear HO HQ BN BR HB
        obtain ⟨j, ve, hj, rfl, HO, HQ, BN, BR, HB⟩ := hrel
        by_cases hlt : j < all.length
        · obtain ⟨ad, A3, c3, ea, hx, hl3, hr3⟩ := at_rowsM HR2.out j hlt
          cases ea
          replace hx := (HB.out.cell (World.block_lt_of_cell? w _ hx)).trans hx
          replace hr3 := Kd.C_below hr3 HB.out
          have hft := flatten_take_succ all j hlt
          have hfl := flatten_take_le all (j + 1)
          rw [hft, List.length_append] at hfl
          have HFT := Aside0.mk hft
          have HFL := Aside0.mk hfl
          clear hft hfl
          generalize all.getD j [] = hs at *
          have HR3 := Aside0.mk hr3
          clear hr3
          obtain ⟨A7, c7, hv7⟩ := Kd.R_slice HO.out
          subst hv7
          generalize hxs : [(A0, ls.length, c0), (none, 0, 0)] ++ (all.take j).flatten = xs at *
          have HXS := Aside0.mk hxs
          clear hxs
          have hcn1 : wr.cell? ⟨w.heap.size + 1 + 1, 1, none⟩ = some (.slice A7 xs.length c7) := (blk_cell BN.out 1).trans rfl
          have hfn1 := blk_frozen BN.out 1
          have hz := HB.out.size
          go_wp2_with ((with_reducible refine gate_builtin (b := .append) (xs := #[.tmp 65, .tmp 66]) rfl ?_); at_builtin; refine Kd.R_append_rows hdrK (w0 := w) w.heap.size rfl (.tmp 65) (.tmp 66) 26 79 (.slice none 0 0) 24 rfl hu26 info79 rfl (by decide) (by omega) (.slice A7 xs.length c7) xs hs _ _ _ (fun _ => True) (fun _ => False) rfl rfl HO.out HR3.out (fun _ _ h => h) (fun _ h => h.elim) (fun _ _ => trivial) HB.out HB.out.size ?aL ?_; (case aL => have := HFL.out; rw [← HXS.out, List.length_append]; simp only [List.length_cons, List.length_nil]; omega); intro v1 w1 HR1_ HB1 hg hat; have n0_ := Aside0.mk HR1_; have n1_ := Aside0.mk (Kd.R_over' HQ.out (Kd.R_typed HO.out) (by decide) hg); have n2_ := Aside0.mk (blk_grown BN.out hg (Kd.R_ne HO.out BN.out (by decide))); have n3_ := Aside0.mk (blk_grown BR.out hg (Kd.R_ne HO.out BR.out (by decide))); have n4_ := Aside0.mk HB1; clear HR1_ HB1 hg hat HO HQ BN BR HB hcn1 hfn1; have HO := n0_; have HQ := n1_; have BN := n2_; have BR := n3_; have HB := n4_; clear n0_ n1_ n2_ n3_ n4_; obtain ⟨A8, c8, hv8⟩ := Kd.R_slice HO.out; rw [List.length_append] at hv8; subst hv8; have hcn1 : w1.cell? ⟨w.heap.size + 1 + 1, 1, none⟩ = some (.slice A7 xs.length c7) := (blk_cell BN.out 1).trans rfl; have hfn1 := blk_frozen BN.out 1)
          go_roundw
          case rel =>
            refine ⟨j + 1, .slice A8 (xs.length + hs.length) c8, by omega, by go_num, ⟨?_⟩, ⟨?_⟩, ⟨?_⟩, ⟨?_⟩, ⟨?_⟩⟩
            · rw [HFT.out, ← List.append_assoc, HXS.out]
              exact Kd.R_set HO.out BN.out (by decide) 1 _
            · exact Kd.R_set HQ.out BN.out (by decide) 1 _
            · exact blk_put BN.out 1 _ rfl
            · exact blk_far BR.out (by show w.heap.size ≠ w.heap.size + 1 + 1; omega) _
            · exact HB.out.setCell (by show w.heap.size ≤ w.heap.size + 1 + 1; omega) _
          case measure => simp [intOf]; omega
        · obtain rfl : j = all.length := by omega
          rw [List.take_length] at HO
          obtain ⟨A7, c7, hv7⟩ := Kd.R_slice HO.out
          subst hv7
          have hlen : ([(A0, ls.length, c0), (none, 0, 0)] ++ all.flatten).length = 2 + all.flatten.length := by simp; omega
          rw [hlen] at HO BN
          generalize hn : 2 + all.flatten.length = nn at *
          have HNN := Aside0.mk hn
          clear hn hlen
          go_wp2
          refine start_ (n := 7) (S := fun w' => w'.cell? ⟨w.heap.size + 1 + 1, 0, none⟩ = some (.int .i64 letters) ∧ w'.cell? ⟨w.heap.size + 1 + 1, 1, none⟩ = some (.slice A7 nn c7)) (ds := []) #[false, false, false, false, false, false, false] (by kernel_rfl) rfl rfl ⟨(blk_cell (blk_drew BN.out) 0).trans rfl, (blk_cell (blk_drew BN.out) 1).trans rfl⟩ (fun hHeld => ?_)
          have n0_ := Aside0.mk (Kd.R_drew HO.out)
          have n1_ := Aside0.mk (Kd.R_drew HQ.out)
          have n2_ := Aside0.mk (blk_drew BN.out)
          have n3_ := Aside0.mk (blk_drew BR.out)
          have n4_ := Aside0.mk (below_drew HB.out)
          clear HO HQ BN BR HB
          have HO := n0_
          have HQ := n1_
          have BN := n2_
          have BR := n3_
          have HB := n4_
          clear n0_ n1_ n2_ n3_ n4_
          generalize wr.drew = W5 at HO HQ BN BR HB hHeld ⊢
          refine pure_ (i := 1) (N := some 71) (v := ?_) (a' := ?_) #[false, true, false, false, false, false, false] rfl rfl (by kernel_rfl) (fun _ _ _ h => h) (Or.inl ⟨by rfl, ?_⟩) ?_ ?_
          rotate_left
          · intro w'
            go_simp
            with_reducible rfl
          rotate_left
          · simp only [Act.put, List.setIfInBounds_toArray, List.set_cons_zero, List.set_cons_succ, i64_w, i32_w]
            rfl
          refine take_ (i := 0) (N := some 70) (v := ?_) (a' := ?_) #[true, true, false, false, false, false, false] rfl rfl (by kernel_rfl) (fun _ _ _ h => h) (Or.inl ⟨by rfl, ?_⟩) hHeld ?_ ?_
          rotate_left
          · rintro w' ⟨s0, s1⟩
            go_simp
            with_reducible rfl
          rotate_left
          · simp only [Act.put, List.setIfInBounds_toArray, List.set_cons_zero, List.set_cons_succ, i64_w, i32_w]
            rfl
          refine take_ (i := 2) (N := some 72) (v := ?_) (a' := ?_) #[true, true, true, false, false, false, false] rfl rfl (by kernel_rfl) (fun _ _ _ h => h) (Or.inl ⟨by rfl, ?_⟩) hHeld ?_ ?_
          rotate_left
          · rintro w' ⟨s0, s1⟩
            go_simp
            with_reducible rfl
          rotate_left
          · simp only [Act.put, List.setIfInBounds_toArray, List.set_cons_zero, List.set_cons_succ, i64_w, i32_w]
            rfl
          refine pure_ (i := 3) (N := some 73) (v := ?_) (a' := ?_) #[true, true, true, true, false, false, false] rfl rfl (by kernel_rfl) (fun _ _ _ h => h) (Or.inl ⟨by rfl, ?_⟩) ?_ ?_
          rotate_left
          · intro w'
            go_simp
            with_reducible rfl
          rotate_left
          · simp only [Act.put, List.setIfInBounds_toArray, List.set_cons_zero, List.set_cons_succ, i64_w, i32_w]
            rfl
          refine pure_ (i := 4) (N := some 74) (v := ?_) (a' := ?_) #[true, true, true, true, true, false, false] rfl rfl (by kernel_rfl) (fun _ _ _ h => h) (Or.inl ⟨by rfl, ?_⟩) ?_ ?_
          rotate_left
          · intro w'
            go_simp
            with_reducible rfl
          rotate_left
          · simp only [Act.put, List.setIfInBounds_toArray, List.set_cons_zero, List.set_cons_succ, i64_w, i32_w]
            rfl
          refine one_ (i := 5) (N := none) #[true, true, true, true, true, true, false] rfl rfl (by kernel_rfl) (by decide) (fun K hK => ?_)
          have hs0_ : W5.cell? ⟨w.heap.size, 0, none⟩ = some (.int .i64 0) := (blk_cell BR.out 0).trans rfl
          have hs1_ : W5.cell? ⟨w.heap.size, 1, none⟩ = some (.slice none 0 0) := (blk_cell BR.out 1).trans rfl
          have hf0_ := blk_frozen BR.out 0
          have hf1_ := blk_frozen BR.out 1
          have hgne : w.heap.size + 1 + 1 ≠ w.heap.size := by omega
          refine skip_ (w1 := ?_) (by rfl) rfl ?_ ?_
          rotate_left
          · go_simp
            rfl
          refine hK.out _ _ ⟨((cell_far (p := ⟨w.heap.size, _, none⟩) hgne _).trans (((cell_far (p := ⟨w.heap.size, _, none⟩) hgne _).trans (hHeld.1)))), ((cell_far (p := ⟨w.heap.size, _, none⟩) hgne _).trans (((cell_far (p := ⟨w.heap.size, _, none⟩) hgne _).trans (hHeld.2))))⟩ (fun hHeld => ?_)
          clear hK K
          refine pure_ (i := 6) (N := some 7) (v := ?_) (a' := ?_) #[true, true, true, true, true, true, true] rfl rfl (by kernel_rfl) (fun _ _ _ h => h) (Or.inl ⟨by rfl, ?_⟩) ?_ ?_
          rotate_left
          · intro w'
            go_simp
            with_reducible rfl
          rotate_left
          · simp only [Act.put, List.setIfInBounds_toArray, List.set_cons_zero, List.set_cons_succ, i64_w, i32_w]
            rfl
          refine done_ (by kernel_rfl) ?_
          go_wp2
          refine bodyPost_ret (results_ct rfl _ _ w.heap.size 28 #[.int .i64 letters, .slice A7 nn c7] (0, 0) _ rfl (blk_put (blk_put BR.out 0 (.int .i64 letters) rfl) 1 (.slice A7 nn c7) rfl) Try.underlying28 rfl (by kernel_rfl)) rfl ?_
          refine ⟨.slice A7 nn c7, (A0, ls.length, c0), ?_, ?_, ?_, ?_⟩
          · rw [HNN.out]; rfl
          · exact Kd.R_mono (Kd.R_far (p := ⟨w.heap.size, 1, none⟩) (Kd.R_far (p := ⟨w.heap.size, 0, none⟩) (Kd.R_types HO.out BR.out (by decide)) (fun _ hk => hk.2) _) (fun _ hk => hk.2) _) (fun _ hk => trivial)
          · exact Kd.R_mono (Kd.R_far (p := ⟨w.heap.size, 1, none⟩) (Kd.R_far (p := ⟨w.heap.size, 0, none⟩) (Kd.R_types HQ.out BR.out (by decide)) (fun _ hk => hk.2) _) (fun _ hk => hk.2) _) (fun _ hk => trivial)
          · exact (HB.out.setCell (Nat.le_refl _) _).setCell (Nat.le_refl _) _

end Go.Proofs.Ytelkjbacdpmnfaa.A
