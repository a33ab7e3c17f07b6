/- By a program, out of the translation (wip/myprint.py). -/
import Derived.Test.YtelkjbacdpmnfaaA0
import Derived.Test.YtelkjbacdpmnfaaAPlainBase
import Derived.Test.YtelkjbacdpmnfaaAWordsA
import Derived.Maps.OwnSet
import Derived.DeepKeys5
namespace Go.Proofs.Ytelkjbacdpmnfaa.A
open Go.RowKit Go.Proofs.YtelkjbacdpmnfaaW.PrintWords Go.Proofs.YtelkjbacdpmnfaaW.PrintLast Go.Proofs.YtelkjbacdpmnfaaW.PrintMore
attribute [local go_sem] max2_int min2_int max_two min_two max_three min_three max_four min_four   -- for this text's walks alone
set_option linter.unusedVariables false
set_option linter.unusedSimpArgs false

/-! ### least_split: function 119 -/
/-- What a split asks of its arguments. -/
def splitOk (nx : List (List Int)) (B : List Int) (c : Int) : Bool := decide (0 ≤ c) && decide (nx.length = B.length) && decide (B.length ≤ 1000) && nx.all (fun r => decide (c < r.length) && decide (0 ≤ r.getD c.toNat 0) && decide (r.getD c.toNat 0 < B.length)) && B.all (fun x => (Lit.int .i64 x).wf)
def least_split.f (a0_0 : Int) (l0_1 : List (List Int)) (l0_2 : List Bool) (l1 : List Int) (a2 : Int) : Option (List Int × Int) := if splitOk l0_1 l1 a2 = true then some (splitTo l0_1 l1 a2.toNat l1.length, (((facesMet l0_1 l1 a2.toNat l1.length).length : Nat) : Int)) else none
def least_split.T6 : Bool × List (List Nat × List Nat) := (true, [([], []), ([], []), ([0, 1], [0, 1]), ([2], [2]), ([], []), ([], []), ([5], [5]), ([], []), ([6, 7], [6, 7]), ([8], [8]), ([], []), ([9, 10], [9, 10]), ([11], [11]), ([4, 12], [4, 12]), ([13], [13]), ([3, 14], [3, 14]), ([], []), ([16, 15, 0, 1, 2, 3, 4, 5, 6, 7, 8, 9, 10, 11, 12, 13, 14, 15, 16], [15, 16])])
def least_split.B6 : List Nat := [0, 0, 3, 7, 0, 0, 32, 0, 224, 480, 0, 2016, 4064, 8176, 16368, 32767, 0, 131071]
theorem least_split.tab6 : rtab .any (opsOf Try.f119 6) = least_split.T6 := by kernel_rfl
theorem least_split.bits6 : waitsOk least_split.T6.2 least_split.B6 = true := by kernel_rfl
set_option maxHeartbeats 8000000 in
set_option maxRecDepth 100000 in
theorem least_split.told (a : Int) (A1 : Option Addr) (c1 : Nat) (nx : List (List Int)) (A2 : Option Addr) (c2 : Nat) (ac : List Bool) (A3 : Option Addr) (c3 : Nat) (B : List Int) (c : Nat) (w : World) (hr1 : Kd.C (Kd.slice 3 (Kd.int .i64)) w A1 nx.length nx) (hr3 : Kd.C (Kd.int .i64) w A3 B.length B) (hn : nx.length = B.length) (hl : B.length ≤ 1000) (hrow : ∀ k, k < nx.length → c < (nx.getD k []).length ∧ 0 ≤ (nx.getD k []).getD c 0 ∧ (nx.getD k []).getD c 0 < B.length) (hwf : ∀ x ∈ B, (Lit.int .i64 x).wf = true) :
    Calls Try.prog 119 #[.agg #[.int .i64 a, .slice A1 nx.length c1, .slice A2 ac.length c2], .slice A3 B.length c3, .int .i64 (c : Int)] w fun e w' => ∃ v : Value, e = .returned (.tuple #[v, .int .i64 (((facesMet nx B c B.length).length : Nat) : Int)]) ∧ Kd.R (Kd.int .i64) 3 w' w.heap.size (fun _ => True) v (splitTo nx B c B.length) ∧ Below w.heap.size w w' := by
  have hmm := @run_makeMap Try.prog
  have hu25 := Try.underlying25
  have hu143 := Try.underlying143
  have HR1 := Aside0.mk hr1
  clear hr1
  have HR3 := Aside0.mk hr3
  clear hr3
  have HROW := Aside0.mk hrow
  clear hrow
  have HWF := Aside0.mk hwf
  clear hwf
  have HN := Aside0.mk hn
  clear hn
  go_enter Try.func119, Try.ntmps119
  go_wp2_with (first | ((with_reducible refine gate_dst (N := 17) rfl ?_); refine Kd.R_make (Kd.int .i64) _ 3 rfl (N := 17) rfl 45 _ _ rfl (B.length : Int) rfl rfl Try.underlying45 (.int .i64 0) 8 info3 rfl (by decide) (by omega) 0 (ok := fun k_ => k_ ≠ w.heap.size + 1) (okp := fun _ => False) rfl (fun _ hk => hk.elim) ?fresh (by omega) (by omega) (Below.refl _ _) (Nat.le_refl _) ?_; (case fresh => (simp; done)); intro v9 w11 ho hb hg hnew_; clear hnew_))
  have hb2 : Below ((w.alloc (Obj.cells #[.int .i64 a, .slice A1 nx.length c1, .slice A2 ac.length c2] 25)).alloc (Obj.map #[] 0)).heap.size ((w.alloc (Obj.cells #[.int .i64 a, .slice A1 nx.length c1, .slice A2 ac.length c2] 25)).alloc (Obj.map #[] 0)) w11 := hb
  have HB := Aside0.mk (below_step (w := w) (below_alloc (below_alloc (Below.refl w.heap.size w) (.cells #[.int .i64 a, .slice A1 nx.length c1, .slice A2 ac.length c2] 25)) (.map #[] 0)) hb2)
  have HP := Aside0.mk (Kd.R_lower ho (base' := w.heap.size) (by simp; omega))
  have HBX := Aside0.mk (blk_below (blk_below (blk_new w (.cells #[.int .i64 a, .slice A1 nx.length c1, .slice A2 ac.length c2] 25)) (below_alloc (Below.refl _ _) (.map #[] 0))) hb2)
  have HM : Aside0 (FaceMap w11 (w.heap.size + 1) 0 []) := by
    obtain ⟨D, h1, h2, h3, h4⟩ := FaceMap.made (w.alloc (.cells #[.int .i64 a, .slice A1 nx.length c1, .slice A2 ac.length c2] 25))
    have e : (w.alloc (.cells #[.int .i64 a, .slice A1 nx.length c1, .slice A2 ac.length c2] 25)).heap.size = w.heap.size + 1 := by simp
    rw [e] at h1
    exact ⟨⟨D, h1.kept hg (by simp), h2, h3, h4⟩⟩
  rw [Int.toNat_natCast] at HP
  clear ho hb hb2 hg
  go_loopw [20] (fun v20 wr => ∃ k : Nat, k ≤ B.length ∧ v20 = .int .i64 (k : Int) ∧ Aside0 (Kd.R (Kd.int .i64) 3 wr w.heap.size (fun k_ => k_ ≠ w.heap.size + 1) v9 (splitTo nx B c k)) ∧ Aside0 (wr.heap[w.heap.size]? = some (.cells #[.int .i64 a, .slice A1 nx.length c1, .slice A2 ac.length c2] 25 (0, 0))) ∧ Aside0 (FaceMap wr (w.heap.size + 1) k (facesMet nx B c k)) ∧ Aside0 (Below w.heap.size w wr)) (fun v20 _ => B.length - (intOf v20).toNat)
  case atStart => exact ⟨0, Nat.zero_le _, rfl, ⟨by simpa [splitTo, List.map_const'] using HP.out⟩, HBX, HM, HB⟩
  case round =>
    clear HP HBX HM HB
    obtain ⟨k, hk, rfl, HP, HBX, HM, HB⟩ := hrel
    by_cases hlt : k < B.length
    · have q1b : decide ((k : Int) < (B.length : Int)) = true := decide_eq_true (by omega)
      obtain ⟨hrc, hr0, hrb⟩ := HROW.out k (by rw [HN.out]; omega)
      have p1 : (0 : Int) ≤ (k : Int) := by omega
      have q1 : (k : Int) < (B.length : Int) := by omega
      have q2 : (k : Int) < (nx.length : Int) := by rw [HN.out]; omega
      obtain ⟨ad3, ea3, hxk⟩ := Kd.at_int HR3.out (k : Int) p1 q1
      obtain ⟨ad1, Ar, cr, ea1, hxr, -, hCr⟩ := at_L5 HR1.out (k : Int) p1 q2
      have el : rd_L5 nx (k : Int) = nx.getD k [] := by unfold rd_L5; rw [Int.toNat_natCast]
      rw [el] at hxr hCr
      obtain ⟨R_, hR_⟩ : ∃ R_, R_ = nx.getD k [] := ⟨_, rfl⟩
      rw [← hR_] at hrc hr0 hrb hxr hCr
      obtain ⟨tN, htN⟩ : ∃ tN : Nat, R_.getD c 0 = (tN : Int) := ⟨(R_.getD c 0).toNat, by omega⟩
      have p3 : (0 : Int) ≤ (c : Int) := by omega
      have q3 : (c : Int) < (R_.length : Int) := by omega
      obtain ⟨adr, ear, hxe⟩ := Kd.at_int hCr (c : Int) p3 q3
      have e5 : rd R_ (c : Int) = (tN : Int) := by unfold rd; rw [Int.toNat_natCast, htN]
      rw [e5] at hxe
      have p4 : (0 : Int) ≤ (tN : Int) := by omega
      have q4 : (tN : Int) < (B.length : Int) := by omega
      obtain ⟨ad4, ea4, hxt⟩ := Kd.at_int HR3.out (tN : Int) p4 q4
      replace hxk := Aside0.mk ((HB.out.cell (World.block_lt_of_cell? _ _ hxk)).trans hxk)
      replace hxr := Aside0.mk ((HB.out.cell (World.block_lt_of_cell? _ _ hxr)).trans hxr)
      replace hxe := Aside0.mk ((HB.out.cell (World.block_lt_of_cell? _ _ hxe)).trans hxe)
      replace hxt := Aside0.mk ((HB.out.cell (World.block_lt_of_cell? _ _ hxt)).trans hxt)
      subst ea3
      subst ea1
      subst ear
      obtain rfl := Option.some.inj ea4
      have HR_ := Aside0.mk hR_
      have HTN := Aside0.mk htN
      clear hR_ htN hrc hr0 hrb el e5 hCr
      replace p1 := eq_true p1
      replace p3 := eq_true p3
      replace p4 := eq_true p4
      replace q1 := eq_true q1
      replace q2 := eq_true q2
      replace q3 := eq_true q3
      replace q4 := eq_true q4
      go_wp2
      refine start_ (n := 18) (S := fun w' => w'.heap[w.heap.size]? = some (.cells #[.int .i64 a, .slice (some ad1) nx.length c1, .slice A2 ac.length c2] 25 (0, 0)) ∧ w'.cell? (ad3.add (k : Int).toNat) = some (.int .i64 (rd B (k : Int))) ∧ w'.cell? (ad1.add (k : Int).toNat) = some (.slice (some adr) R_.length cr) ∧ w'.cell? (adr.add (c : Int).toNat) = some (.int .i64 (tN : Int)) ∧ w'.cell? (ad3.add (tN : Int).toNat) = some (.int .i64 (rd B (tN : Int)))) (ds := [17]) #[false, false, false, false, false, false, false, false, false, false, false, false, false, false, false, false, false, false] (by kernel_rfl) rfl rfl ⟨blk_drew HBX.out, ((below_drew1 (Below.refl _ _)).cell (World.block_lt_of_cell? _ _ hxk.out)).trans hxk.out, ((below_drew1 (Below.refl _ _)).cell (World.block_lt_of_cell? _ _ hxr.out)).trans hxr.out, ((below_drew1 (Below.refl _ _)).cell (World.block_lt_of_cell? _ _ hxe.out)).trans hxe.out, ((below_drew1 (Below.refl _ _)).cell (World.block_lt_of_cell? _ _ hxt.out)).trans hxt.out⟩ (fun hHeld => ?_)
      refine with_tabW least_split.tab6 least_split.bits6 (fun HT_ HW_ => ?_)
      have HPd := Aside0.mk (Kd.R_drew HP.out)
      have HBd := Aside0.mk (below_drew1 HB.out)
      have HMd : Aside0 (FaceMap wr.drew (w.heap.size + 1) k (facesMet nx B c k)) := HM
      clear HP HB HM HBX
      generalize wr.drew = wq at HPd HBd HMd hHeld ⊢
      have HBq := Aside0.mk hHeld.1
      refine pure_ (i := 0) (N := some 23) (v := ?_) (a' := ?_) #[true, false, false, false, false, false, false, false, false, false, false, false, false, false, false, false, false, false] rfl rfl (any_of HT_.out (by kernel_rfl)) (fun _ _ _ h => h) (Or.inl ⟨by rfl, ?_⟩) ?_ ?_
      rotate_left
      · intro w'
        go_simp
        with_reducible rfl
      rotate_left
      · simp only [Act.put, List.setIfInBounds_toArray, List.set_cons_zero, List.set_cons_succ, i64_w, i32_w]
        rfl
      refine pure_ (i := 1) (N := some 24) (v := ?_) (a' := ?_) #[true, true, false, false, false, false, false, false, false, false, false, false, false, false, false, false, false, false] rfl rfl (any_of HT_.out (by kernel_rfl)) (fun _ _ _ h => h) (Or.inl ⟨by rfl, ?_⟩) ?_ ?_
      rotate_left
      · intro w'
        go_simp
        with_reducible rfl
      rotate_left
      · simp only [Act.put, List.setIfInBounds_toArray, List.set_cons_zero, List.set_cons_succ, i64_w, i32_w]
        rfl
      refine pure_ (i := 2) (N := some 25) (v := ?_) (a' := ?_) #[true, true, true, false, false, false, false, false, false, false, false, false, false, false, false, false, false, false] rfl rfl (any_of HT_.out (by kernel_rfl)) (fun _ _ _ h => h) (Or.inl ⟨by rfl, ?_⟩) ?_ ?_
      rotate_left
      · intro w'
        go_simp
        with_reducible rfl
      rotate_left
      · simp only [Act.put, List.setIfInBounds_toArray, List.set_cons_zero, List.set_cons_succ, i64_w, i32_w]
        rfl
      refine pure_ (i := 4) (N := some 27) (v := ?_) (a' := ?_) #[true, true, true, false, true, false, false, false, false, false, false, false, false, false, false, false, false, false] rfl rfl (any_of HT_.out (by kernel_rfl)) (fun _ _ _ h => h) (Or.inl ⟨by rfl, ?_⟩) ?_ ?_
      rotate_left
      · intro w'
        go_simp
        with_reducible rfl
      rotate_left
      · simp only [Act.put, List.setIfInBounds_toArray, List.set_cons_zero, List.set_cons_succ, i64_w, i32_w]
        rfl
      refine pure_ (i := 5) (N := some 28) (v := ?_) (a' := ?_) #[true, true, true, false, true, true, false, false, false, false, false, false, false, false, false, false, false, false] rfl rfl (any_of HT_.out (by kernel_rfl)) (fun _ _ _ h => h) (Or.inl ⟨by rfl, ?_⟩) ?_ ?_
      rotate_left
      · intro w'
        go_simp
        with_reducible rfl
      rotate_left
      · simp only [Act.put, List.setIfInBounds_toArray, List.set_cons_zero, List.set_cons_succ, i64_w, i32_w]
        rfl
      refine pure_ (i := 7) (N := some 30) (v := ?_) (a' := ?_) #[true, true, true, false, true, true, false, true, false, false, false, false, false, false, false, false, false, false] rfl rfl (any_of HT_.out (by kernel_rfl)) (fun _ _ _ h => h) (Or.inl ⟨by rfl, ?_⟩) ?_ ?_
      rotate_left
      · intro w'
        go_simp
        with_reducible rfl
      rotate_left
      · simp only [Act.put, List.setIfInBounds_toArray, List.set_cons_zero, List.set_cons_succ, i64_w, i32_w]
        rfl
      refine pure_ (i := 10) (N := some 33) (v := ?_) (a' := ?_) #[true, true, true, false, true, true, false, true, false, false, true, false, false, false, false, false, false, false] rfl rfl (any_of HT_.out (by kernel_rfl)) (fun _ _ _ h => h) (Or.inl ⟨by rfl, ?_⟩) ?_ ?_
      rotate_left
      · intro w'
        go_simp
        with_reducible rfl
      rotate_left
      · simp only [Act.put, List.setIfInBounds_toArray, List.set_cons_zero, List.set_cons_succ, i64_w, i32_w]
        rfl
      refine take_ (i := 3) (N := some 26) (v := ?_) (a' := ?_) #[true, true, true, true, true, true, false, true, false, false, true, false, false, false, false, false, false, false] rfl rfl (take_ofW HT_.out HW_.out (by kernel_rfl)) (fun _ _ _ h => h) (Or.inl ⟨by rfl, ?_⟩) hHeld ?_ ?_
      rotate_left
      · rintro w' ⟨s0, s1, s2, s3, s4⟩
        have c0_ : w'.cell? ⟨w.heap.size, 0, none⟩ = some (.int .i64 a) := (blk_cell s0 0).trans rfl
        have c1_ : w'.cell? ⟨w.heap.size, 1, none⟩ = some (.slice (some ad1) nx.length c1) := (blk_cell s0 1).trans rfl
        (try simp only [Go.IntWalk.toNatUp] at s1 s2 s3 s4)
        clear s0
        go_simp
        with_reducible rfl
      rotate_left
      · simp only [Act.put, List.setIfInBounds_toArray, List.set_cons_zero, List.set_cons_succ, i64_w, i32_w]
        rfl
      refine take_ (i := 6) (N := some 29) (v := ?_) (a' := ?_) #[true, true, true, true, true, true, true, true, false, false, true, false, false, false, false, false, false, false] rfl rfl (take_ofW HT_.out HW_.out (by kernel_rfl)) (fun _ _ _ h => h) (Or.inl ⟨by rfl, ?_⟩) hHeld ?_ ?_
      rotate_left
      · rintro w' ⟨s0, s1, s2, s3, s4⟩
        have c0_ : w'.cell? ⟨w.heap.size, 0, none⟩ = some (.int .i64 a) := (blk_cell s0 0).trans rfl
        have c1_ : w'.cell? ⟨w.heap.size, 1, none⟩ = some (.slice (some ad1) nx.length c1) := (blk_cell s0 1).trans rfl
        (try simp only [Go.IntWalk.toNatUp] at s1 s2 s3 s4)
        clear s0
        go_simp
        with_reducible rfl
      rotate_left
      · simp only [Act.put, List.setIfInBounds_toArray, List.set_cons_zero, List.set_cons_succ, i64_w, i32_w]
        rfl
      refine pure_ (i := 8) (N := some 31) (v := ?_) (a' := ?_) #[true, true, true, true, true, true, true, true, true, false, true, false, false, false, false, false, false, false] rfl rfl (any_of HT_.out (by kernel_rfl)) (fun _ _ _ h => h) (Or.inl ⟨by rfl, ?_⟩) ?_ ?_
      rotate_left
      · intro w'
        go_simp
        with_reducible rfl
      rotate_left
      · simp only [Act.put, List.setIfInBounds_toArray, List.set_cons_zero, List.set_cons_succ, i64_w, i32_w]
        rfl
      refine take_ (i := 9) (N := some 32) (v := ?_) (a' := ?_) #[true, true, true, true, true, true, true, true, true, true, true, false, false, false, false, false, false, false] rfl rfl (take_ofW HT_.out HW_.out (by kernel_rfl)) (fun _ _ _ h => h) (Or.inl ⟨by rfl, ?_⟩) hHeld ?_ ?_
      rotate_left
      · rintro w' ⟨s0, s1, s2, s3, s4⟩
        have c0_ : w'.cell? ⟨w.heap.size, 0, none⟩ = some (.int .i64 a) := (blk_cell s0 0).trans rfl
        have c1_ : w'.cell? ⟨w.heap.size, 1, none⟩ = some (.slice (some ad1) nx.length c1) := (blk_cell s0 1).trans rfl
        (try simp only [Go.IntWalk.toNatUp] at s1 s2 s3 s4)
        clear s0
        go_simp
        with_reducible rfl
      rotate_left
      · simp only [Act.put, List.setIfInBounds_toArray, List.set_cons_zero, List.set_cons_succ, i64_w, i32_w]
        rfl
      refine pure_ (i := 11) (N := some 34) (v := ?_) (a' := ?_) #[true, true, true, true, true, true, true, true, true, true, true, true, false, false, false, false, false, false] rfl rfl (any_of HT_.out (by kernel_rfl)) (fun _ _ _ h => h) (Or.inl ⟨by rfl, ?_⟩) ?_ ?_
      rotate_left
      · intro w'
        go_simp
        with_reducible rfl
      rotate_left
      · simp only [Act.put, List.setIfInBounds_toArray, List.set_cons_zero, List.set_cons_succ, i64_w, i32_w]
        rfl
      refine take_ (i := 12) (N := some 35) (v := ?_) (a' := ?_) #[true, true, true, true, true, true, true, true, true, true, true, true, true, false, false, false, false, false] rfl rfl (take_ofW HT_.out HW_.out (by kernel_rfl)) (fun _ _ _ h => h) (Or.inl ⟨by rfl, ?_⟩) hHeld ?_ ?_
      rotate_left
      · rintro w' ⟨s0, s1, s2, s3, s4⟩
        have c0_ : w'.cell? ⟨w.heap.size, 0, none⟩ = some (.int .i64 a) := (blk_cell s0 0).trans rfl
        have c1_ : w'.cell? ⟨w.heap.size, 1, none⟩ = some (.slice (some ad1) nx.length c1) := (blk_cell s0 1).trans rfl
        (try simp only [Go.IntWalk.toNatUp] at s1 s2 s3 s4)
        clear s0
        go_simp
        with_reducible rfl
      rotate_left
      · simp only [Act.put, List.setIfInBounds_toArray, List.set_cons_zero, List.set_cons_succ, i64_w, i32_w]
        rfl
      refine pure_ (i := 13) (N := some 36) (v := ?_) (a' := ?_) #[true, true, true, true, true, true, true, true, true, true, true, true, true, true, false, false, false, false] rfl rfl (any_of HT_.out (by kernel_rfl)) (fun _ _ _ h => h) (Or.inl ⟨by rfl, ?_⟩) ?_ ?_
      rotate_left
      · intro w'
        go_simp
        with_reducible rfl
      rotate_left
      · simp only [Act.put, List.setIfInBounds_toArray, List.set_cons_zero, List.set_cons_succ, i64_w, i32_w]
        rfl
      refine take_ (i := 14) (N := some 37) (v := ?_) (a' := ?_) #[true, true, true, true, true, true, true, true, true, true, true, true, true, true, true, false, false, false] rfl rfl (take_ofW HT_.out HW_.out (by kernel_rfl)) (fun _ _ _ h => h) (Or.inl ⟨by rfl, ?_⟩) hHeld ?_ ?_
      rotate_left
      · rintro w' ⟨s0, s1, s2, s3, s4⟩
        have c0_ : w'.cell? ⟨w.heap.size, 0, none⟩ = some (.int .i64 a) := (blk_cell s0 0).trans rfl
        have c1_ : w'.cell? ⟨w.heap.size, 1, none⟩ = some (.slice (some ad1) nx.length c1) := (blk_cell s0 1).trans rfl
        (try simp only [Go.IntWalk.toNatUp] at s1 s2 s3 s4)
        clear s0
        go_simp
        with_reducible rfl
      rotate_left
      · simp only [Act.put, List.setIfInBounds_toArray, List.set_cons_zero, List.set_cons_succ, i64_w, i32_w]
        rfl
      refine pure_ (i := 15) (N := some 38) (v := ?_) (a' := ?_) #[true, true, true, true, true, true, true, true, true, true, true, true, true, true, true, true, false, false] rfl rfl (any_of HT_.out (by kernel_rfl)) (fun _ _ _ h => h) (Or.inl ⟨by rfl, ?_⟩) ?_ ?_
      rotate_left
      · intro w'
        go_simp
        with_reducible rfl
      rotate_left
      · simp only [Act.put, List.setIfInBounds_toArray, List.set_cons_zero, List.set_cons_succ, i64_w, i32_w]
        rfl
      refine one_ (i := 16) (N := some 11) #[true, true, true, true, true, true, true, true, true, true, true, true, true, true, true, true, true, false] rfl rfl (one_of HT_.out (by kernel_rfl)) (by decide) (fun K hK => ?_)
      refine value_ (w1 := ?_) (v := ?_) (by rfl) rfl ?_ ?_
      rotate_left 2
      · go_simp
        constructor
        · rfl
        · rfl
      refine hK.out _ _ ⟨blk_alloc hHeld.1 _, ((below_alloc (Below.refl _ _) _).cell (World.block_lt_of_cell? _ _ hHeld.2.1)).trans hHeld.2.1, ((below_alloc (Below.refl _ _) _).cell (World.block_lt_of_cell? _ _ hHeld.2.2.1)).trans hHeld.2.2.1, ((below_alloc (Below.refl _ _) _).cell (World.block_lt_of_cell? _ _ hHeld.2.2.2.1)).trans hHeld.2.2.2.1, ((below_alloc (Below.refl _ _) _).cell (World.block_lt_of_cell? _ _ hHeld.2.2.2.2)).trans hHeld.2.2.2.2⟩ (fun hHeld => ?_)
      clear hK K
      refine norm_ (a' := ?_) ?_ ?_
      rotate_left
      · show Act.put _ (some 11) _ = _
        simp only [Act.put, List.setIfInBounds_toArray, List.set_cons_zero, List.set_cons_succ, i64_w, i32_w]
        rfl
      refine last_ (i := 17) (N := none) #[true, true, true, true, true, true, true, true, true, true, true, true, true, true, true, true, true, true] rfl rfl (one_of HT_.out (by kernel_rfl)) (by decide) (fun K hK => ?_)
      have hb_ := blk_new wq (.cells #[.int .i64 0, .int .i64 0] 143)
      have hc0_ : (wq.alloc (.cells #[.int .i64 0, .int .i64 0] 143)).cell? ⟨wq.heap.size, 0, none⟩ = some (.int .i64 0) := (blk_cell hb_ 0).trans rfl
      have hc1_ : (wq.alloc (.cells #[.int .i64 0, .int .i64 0] 143)).cell? ⟨wq.heap.size, 1, none⟩ = some (.int .i64 0) := (blk_cell hb_ 1).trans rfl
      clear hHeld
      refine skip_ (w1 := ?_) (by rfl) rfl ?_ ?_
      rotate_left
      · go_simp
        rfl
      refine hK.out _ _ ?_
      clear hK K
      refine done_ (done_of HT_.out (by kernel_rfl)) ?_
      obtain ⟨D, hD, hT, hz, hf⟩ := HMd.out
      have w0 : (Lit.int .i64 (rd B (k : Int))).wf = true := HWF.out _ (by unfold rd; rw [Int.toNat_natCast, List.getD_eq_getElem?_getD, List.getElem?_eq_getElem hlt]; simp)
      have w1 : (Lit.int .i64 (rd B (tN : Int))).wf = true := HWF.out _ (by have h_ := of_eq_true q4; unfold rd; rw [Int.toNat_natCast, List.getD_eq_getElem?_getD, List.getElem?_eq_getElem (show tN < B.length by omega)]; simp)
      have hkey := Aside0.mk (face_key _ _ w0 w1)
      have hown := Aside0.mk (hD.alloc (.cells #[.int .i64 (rd B (k : Int)), .int .i64 (rd B (tN : Int))] 143))
      have hff := Aside0.mk (hf _ _ w0 w1)
      have W0 := Aside0.mk w0
      have W1 := Aside0.mk w1
      have HT := Aside0.mk hT
      have HZ := Aside0.mk hz
      have HF := Aside0.mk hf
      clear hD hT hz hf w0 w1 HMd
      have el9 : (splitTo nx B c k).length = B.length := by simp [splitTo]
      obtain ⟨g, cg, ev9, hgb, -, -⟩ := Kd.R_form HPd.out (by rw [el9]; omega)
      rw [el9] at ev9
      subst ev9
      have HPa := Aside0.mk (Kd.R_alloc HPd.out (.cells #[.int .i64 (rd B (k : Int)), .int .i64 (rd B (tN : Int))] 143))
      obtain ⟨y9_, z9_⟩ := Kd.R_celln 0 HPa.out (k : Int) (by omega) (by omega)
      rw [Int.toNat_natCast] at y9_ z9_
      clear el9
      have bq_ := blk_new wq (.cells #[.int .i64 (rd B (k : Int)), .int .i64 (rd B (tN : Int))] 143)
      have hc0_ : (wq.alloc (.cells #[.int .i64 (rd B (k : Int)), .int .i64 (rd B (tN : Int))] 143)).cell? ⟨wq.heap.size, 0, none⟩ = some (.int .i64 (rd B (k : Int))) := (blk_cell bq_ 0).trans rfl
      have hc1_ : (wq.alloc (.cells #[.int .i64 (rd B (k : Int)), .int .i64 (rd B (tN : Int))] 143)).cell? ⟨wq.heap.size, 1, none⟩ = some (.int .i64 (rd B (tN : Int))) := (blk_cell bq_ 1).trans rfl
      clear bq_
      have hml : Aside0 ((facesMet nx B c k).length ≤ k) := ⟨facesMet_le nx B c k⟩
      have HWL : Aside0 ((Lit.int .i64 (((facesMet nx B c k).length : Nat) : Int)).wf = true) := ⟨by have h_ := hml.out; simp only [Lit.wf, Bool.and_eq_true, decide_eq_true_eq]; exact ⟨by show (-9223372036854775808 : Int) ≤ _; omega, by show _ ≤ (9223372036854775807 : Int); omega⟩⟩
      go_wp2_with (first | (at_lookup; refine wpList_lookup_own_ok_int _ rfl _ _ 141 rfl 143 3 .i64 keyed143 under141 Try.underlying3 (zero3 _) (w.heap.size + 1) k D rfl hown.out _ (faceLit (rd B (k : Int)) (rd B (tN : Int))) rfl hkey.out ?_; intro cv hat hwc; have HAT := Aside0.mk hat; clear hat hwc; rw [hff.out.1]; generalize hmm_ : (facesMet nx B c k).contains (rd B (k : Int), rd B (tN : Int)) = met; have HMET := Aside0.mk hmm_; clear hmm_) | (at_len; refine wpList_len_own _ rfl _ 141 rfl 143 3 under141 (plainElem Try.prog 3) (w.heap.size + 1) k D rfl hown.out ?_; rw [HZ.out]) | (at_mapUpdate; refine wpList_mapUpdate_own _ rfl _ _ _ 141 rfl 143 3 keyed143 under141 _ (w.heap.size + 1) k D rfl hown.out (by unfold maxLen; omega) _ _ (faceLit (rd B (k : Int)) (rd B (tN : Int))) rfl rfl hkey.out _ [] (plainElem_int Try.underlying3 HWL.out) ?_; intro w5 hown5 hgrow5; have HOWN5 := Aside0.mk hown5; have HG5 := Aside0.mk hgrow5; clear hown5 hgrow5; have HPb := Aside0.mk (Kd.R_step HPa.out (fun k_ ok_ hk_ => HG5.out.block k_ hk_ (by simpa using ok_))); obtain ⟨y8_, z8_⟩ := Kd.R_celln 0 HPb.out (k : Int) (by omega) (by omega); rw [Int.toNat_natCast] at y8_ z8_))
      all_goals (have hface : faceOf nx B c k = (rd B (k : Int), rd B (tN : Int)) := by unfold faceOf rd; rw [← HR_.out, HTN.out]; simp only [Int.toNat_natCast])
      all_goals go_roundw
      case rel =>
        rename_i hm_
        have hmet : met = false := by simpa using hm_
        have hn_ : faceOf nx B c k ∉ facesMet nx B c k := by rw [hface]; have h_ := HMET.out; rw [hmet] at h_; simpa using h_
        have hgb_ : some w.heap.size ≠ some g := Kd.R_ne HPd.out HBq.out (by decide)
        have hgm_ : w.heap.size + 1 ≠ g := fun e_ => HPd.out.1 g rfl e_.symm
        refine ⟨k + 1, by omega, by go_num, ⟨?_⟩, ⟨?_⟩, ⟨?_⟩, ⟨?_⟩⟩
        · rw [splitTo_succ _ _ _ _ hlt, facesMet_new hn_, List.idxOf_append, if_neg hn_]
          have h_ := Kd.R_putg HPb.out (k : Int) (((facesMet nx B c k).length : Nat) : Int)
          rw [Int.toNat_natCast] at h_
          rw [show [faceOf nx B c k].idxOf (faceOf nx B c k) + (facesMet nx B c k).length = (facesMet nx B c k).length by simp]
          exact h_.1
        · exact blk_far (blk_grown (blk_alloc HBq.out _) HG5.out (by simp)) (by simpa using hgb_) _
        · rw [facesMet_new hn_, hface]
          rw [hface] at hn_
          exact FaceMap.new (W := w5) HT.out HZ.out HF.out W0.out W1.out hn_ (HOWN5.out.setCell hgm_ _)
        · exact (Below.grown (below_alloc HBd.out _) HG5.out (by have h_ := HBd.out.size; simp; omega) (fun k_ e_ => by cases e_; omega)).setCell hgb _
      case measure => simp [intOf]; omega
      case rel =>
        rename_i hm_
        have hmet : met = true := by simpa using hm_
        have hi_ : (rd B (k : Int), rd B (tN : Int)) ∈ facesMet nx B c k := by have h_ := HMET.out; rw [hmet] at h_; simpa using h_
        have hcv : (((facesMet nx B c k).idxOf (rd B (k : Int), rd B (tN : Int)) : Nat) : Int) = cv := by have h_ := (hff.out.2 hi_).symm.trans HAT.out; simpa using h_
        have hn_ : faceOf nx B c k ∈ facesMet nx B c k := by rw [hface]; exact hi_
        have hgb_ : some w.heap.size ≠ some g := Kd.R_ne HPd.out HBq.out (by decide)
        have hgm_ : w.heap.size + 1 ≠ g := fun e_ => HPd.out.1 g rfl e_.symm
        refine ⟨k + 1, by omega, by go_num, ⟨?_⟩, ⟨?_⟩, ⟨?_⟩, ⟨?_⟩⟩
        · rw [splitTo_succ _ _ _ _ hlt, facesMet_old hn_, hface, hcv]
          have h_ := Kd.R_putg HPa.out (k : Int) cv
          rw [Int.toNat_natCast] at h_
          exact h_.1
        · exact blk_far (blk_alloc HBq.out _) (by simpa using hgb_) _
        · rw [facesMet_old hn_]
          exact ⟨D, (hown.out.setCell hgm_ _).mono (Nat.le_succ k), HT.out, HZ.out, HF.out⟩
        · exact (below_alloc HBd.out _).setCell hgb _
      case measure => simp [intOf]; omega
    · have q1b : decide ((k : Int) < (B.length : Int)) = false := decide_eq_false (by omega)
      obtain rfl : k = B.length := by omega
      obtain ⟨D, hD, hT, hz, hf⟩ := HM.out
      have HOWN := Aside0.mk hD
      have HZ := Aside0.mk hz
      clear hD hT hz hf HM
      go_wp2_with (first | (at_len; refine wpList_len_own _ rfl _ 141 rfl 143 3 under141 (plainElem Try.prog 3) (w.heap.size + 1) B.length D rfl HOWN.out ?_; rw [HZ.out]))
      go_ret2
      exact ⟨_, rfl, Kd.R_mono HP.out (fun _ _ => trivial), HB.out⟩
theorem least_split.calls (a0_0 : Int) (A0_1 : Option Addr) (c0_1 : Nat) (l0_1 : List (List Int)) (A0_2 : Option Addr) (c0_2 : Nat) (l0_2 : List Bool) (A1 : Option Addr) (c1 : Nat) (l1 : List Int) (a2 : Int) (r1 : List Int) (r2 : Int) (w : World) (hr0_1 : Kd.C (Kd.slice 3 (Kd.int .i64)) w A0_1 l0_1.length l0_1) (hc0_1 : l0_1.length ≤ c0_1) (hr0_2 : Kd.C Kd.bool w A0_2 l0_2.length l0_2) (hc0_2 : l0_2.length ≤ c0_2) (hr1 : Kd.C (Kd.int .i64) w A1 l1.length l1) (hc1 : l1.length ≤ c1) (h : least_split.f a0_0 l0_1 l0_2 l1 a2 = some (r1, r2)) :
    Calls Try.prog 119 #[.agg #[.int .i64 a0_0, .slice A0_1 l0_1.length c0_1, .slice A0_2 l0_2.length c0_2], .slice A1 l1.length c1, .int .i64 a2] w fun e w' => ∃ v1_ : Value, e = .returned (.tuple #[v1_, .int .i64 r2]) ∧ Kd.R (Kd.int .i64) 3 w' w.heap.size (fun _ => True) v1_ r1 ∧ Below w.heap.size w w' := by
  unfold least_split.f at h
  by_cases hk : splitOk l0_1 l1 a2 = true
  · rw [if_pos hk] at h
    obtain ⟨rfl, rfl⟩ := Prod.mk.inj (Option.some.inj h)
    unfold splitOk at hk
    simp only [Bool.and_eq_true, decide_eq_true_eq, List.all_eq_true] at hk
    obtain ⟨⟨⟨⟨h1, h2⟩, h3⟩, h4⟩, h5⟩ := hk
    obtain ⟨c, rfl⟩ : ∃ c : Nat, a2 = (c : Int) := ⟨a2.toNat, by omega⟩
    rw [Int.toNat_natCast]
    refine least_split.told a0_0 A0_1 c0_1 l0_1 A0_2 c0_2 l0_2 A1 c1 l1 c w hr0_1 hr1 h2 h3 (fun k hk => ?_) h5
    have h6 := h4 (l0_1.getD k []) (by rw [List.getD_eq_getElem?_getD, List.getElem?_eq_getElem hk]; exact List.getElem_mem hk)
    rw [Int.toNat_natCast] at h6
    exact ⟨by omega, h6.1.2, h6.2⟩
  · rw [if_neg hk] at h
    cases h

end Go.Proofs.Ytelkjbacdpmnfaa.A
