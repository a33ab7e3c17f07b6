/- Contracts. -/
import Derived.Test.YtelkjbacdpmnfaaB0
import Derived.Test.YtelkjbacdpmnfaaBWordsA

namespace Go.Proofs.Ytelkjbacdpmnfaa.A
open Go.RowKit Go.W_.PrintWords Go.W_.PrintLast Go.W_.PrintMore
attribute [local go_sem] max2_int min2_int max_two min_two max_three min_three max_four min_four
set_option linter.unusedVariables false
set_option linter.unusedSimpArgs false

/-- Elder blocks stay, but for one, and a row's. -/
def Kep (w wr : World) (gn : Nat) (v0 : Value) : Prop := ∀ k, k < w.heap.size → k ≠ gn → some k ≠ v0.ownBlock → wr.heap[k]? = w.heap[k]?
theorem Kep.refl (w : World) (gn : Nat) (v0 : Value) : Kep w w gn v0 := fun _ _ _ _ => rfl
theorem Kep.below {w wr w1 : World} {gn : Nat} {v0 : Value} (h : Kep w wr gn v0) (hz : w.heap.size ≤ wr.heap.size) (hb : Below wr.heap.size wr w1) : Kep w w1 gn v0 :=
 fun k h1 h2 h3 => (hb.block k (Nat.lt_of_lt_of_le h1 hz)).trans (h k h1 h2 h3)
theorem Kep.grown {w wr w1 : World} {gn : Nat} {v0 : Value} (h : Kep w wr gn v0) (hz : w.heap.size ≤ wr.heap.size) {row : Option Nat} (hg : wr.grownBy w1 row) (hr : row = v0.ownBlock ∨ ∀ k, row = some k → w.heap.size ≤ k) : Kep w w1 gn v0 := by
 intro k h1 h2 h3
 refine (hg.block k (Nat.lt_of_lt_of_le h1 hz) ?_).trans (h k h1 h2 h3)
 rcases hr with rfl | hr
 ·exact h3
 ·intro e
  have := hr k e.symm
  omega
theorem Kep.set {w wr : World} {gn : Nat} {v0 : Value} (h : Kep w wr gn v0) (j : Nat) (u : Value) : Kep w (wr.setCell ⟨gn, j, none⟩ u) gn v0 :=
 fun k h1 h2 h3 => (Below.heap_setCell wr ⟨gn, j, none⟩ u k h2).trans (h k h1 h2 h3)
theorem laidFrom_snoc (frm : Int) (l : List Int) : ∀ (d i : Nat), i < l.length → laidFrom frm d (l.take (i + 1)) = laidFrom frm d (l.take i) ++ [⟨((d + i : Nat) : Int), frm + l.getD i 0⟩] := by
 induction l with
 | nil => intro d i h; simp at h
 | cons x l ih =>
  intro d i h
  cases i with
  | zero => simp [laidFrom]
  | succ i =>
   rw [List.take_succ_cons, List.take_succ_cons]
   simp only [laidFrom]
   rw [ih (d + 1) i (by simpa using h)]
   simp [List.getD_cons_succ, show d + 1 + i = d + (i + 1) by omega]
theorem zipWith_take_snoc (frm to_ : Int) (nx : List (List Int)) (ac : List Bool) (i : Nat) (h : i < nx.length) (h2 : ac.length = nx.length) :
  (List.zipWith (laidRow frm to_) nx ac).take (i + 1) = (List.zipWith (laidRow frm to_) nx ac).take i ++ [laidRow frm to_ (nx.getD i []) (ac.getD i false)] := by
 have hz : i < (List.zipWith (laidRow frm to_) nx ac).length := by simp; omega
 rw [List.take_succ_eq_append_getElem hz]
 simp [List.getD_eq_getElem?_getD, List.getElem?_eq_getElem h, List.getElem?_eq_getElem (show i < ac.length by omega)]
theorem at_rowsL {α : Type} {e : TypeId} {D : Kd α} {w : World} {A : Option Addr} {n : Nat} {xs : List (List α)} (h : Kd.C (Kd.slice e D) w A n xs) (i : Nat) (h1 : i < n) :
  ∃ ad A0 c0, A = some ad ∧ w.cell? (ad.add i) = some (.slice A0 (xs.getD i []).length c0) ∧ (xs.getD i []).length ≤ c0 ∧ D.C w A0 (xs.getD i []).length (xs.getD i []) := by
 obtain ⟨ad, c, e, _, hK, hc0⟩ := Kd.C_get h ([] : List α) (i : Int) (by omega) (by omega)
 have hc : ∀ j u, c[j]? = some u → w.cell? (ad.add (i * 1 + j)) = some u := hc0
 obtain ⟨A0, c0, rfl, l0, g0⟩ := hK
 exact ⟨ad, A0, c0, e, by have hq := hc 0 _ rfl; rwa [Nat.mul_one, Nat.add_zero] at hq, l0, g0⟩

theorem below_grown0 {w0 w w1 : World} (h : Below w0.heap.size w0 w) {row : Option Nat} (hg : w.grownBy w1 row) (hr : ∀ k, row = some k → w0.heap.size ≤ k) : Below w0.heap.size w0 w1 := h.grown hg h.size hr

theorem lay_types {W : World} {b b' : Nat} {ok ok' : Nat → Prop} {u v : Value} {l : List S82} {L : List (List S82)} (h : k82.R 82 W b ok u l) (h' : Kd.S (Kd.slice 82 k82) 79 W b' ok' v L) (k : Nat) (hk : u.ownBlock = some k) (hk' : v.ownBlock = some k) : False := by
 obtain ⟨c1, h1⟩ := Kd.R_typed h k hk
 obtain ⟨c2, h2⟩ := Kd.S_typed h' k hk'
 rw [h1] at h2
 injection h2 with h2
 injection h2 with _ h2
 exact absurd h2 (by decide)
theorem lay_ne {W : World} {b' g t : Nat} {ok' : Nat → Prop} {v : Value} {L : List (List S82)} {cs : Array Value} (h' : Kd.S (Kd.slice 82 k82) 79 W b' ok' v L) (hb : W.heap[g]? = some (.cells cs t (0, 0))) (ht : (79 : Nat) ≠ t) : some g ≠ v.ownBlock := by
 intro e
 obtain ⟨c2, h2⟩ := Kd.S_typed h' g e.symm
 rw [hb] at h2
 injection h2 with h2
 injection h2 with _ h2
 exact ht h2.symm
theorem lay_own {w W : World} {v v0 v1 : Value} (hv : v.ownBlock = v0.ownBlock ∨ ∀ k, v.ownBlock = some k → w.heap.size ≤ k) (hz : w.heap.size ≤ W.heap.size) (hat : v1.ownBlock = v.ownBlock ∨ ∃ b, v1.ownBlock = some b ∧ W.heap.size ≤ b) : v1.ownBlock = v0.ownBlock ∨ ∀ k, v1.ownBlock = some k → w.heap.size ≤ k := by
 rcases hat with h | ⟨b, h, hb⟩
 ·rw [h]; exact hv
 ·right
  intro k hk
  rw [h] at hk
  injection hk with hk
  omega

/-- What the reference's lay leaves. -/
def LayPost (w0 w : World) (gn : Nat) (kk : Int) (v0 : Value) (L : List (List S82)) (e : Ending) (w' : World) : Prop :=
 ∃ v1, e = .returned (.tuple #[]) ∧ w'.heap[gn]? = some (.cells #[.int .i64 kk, v1] 28 (0, 0)) ∧ Kd.S (Kd.slice 82 k82) 79 w' w0.heap.size (fun _ => True) v1 L ∧ Below w0.heap.size w0 w' ∧ Kep w w' gn v0 ∧ w.heap.size ≤ w'.heap.size ∧
  (v1.ownBlock = v0.ownBlock ∨ ∀ k, v1.ownBlock = some k → w.heap.size ≤ k)

set_option maxHeartbeats 3000000 in
set_option maxRecDepth 100000 in
theorem lay87 (a : Int) (A1 : Option Addr) (c1 : Nat) (nx : List (List Int)) (A2 : Option Addr) (c2 : Nat) (ac : List Bool) (to_ : Int) (w0 w : World) (gn : Nat) (kk : Int) (v0 : Value) (L0 : List (List S82))
  (hr1 : Kd.C (Kd.slice 3 (Kd.int .i64)) w0 A1 nx.length nx) (hc1 : nx.length ≤ c1) (hr2 : Kd.C Kd.bool w0 A2 ac.length ac) (hc2 : ac.length ≤ c2)
  (ha1 : 1 ≤ a) (ha2 : a ≤ 64) (hn2 : nx.length ≤ 1000) (hac : ac.length = nx.length) (hrow : ∀ l ∈ nx, (l.length : Int) = a ∧ ∀ x ∈ l, 0 ≤ x ∧ x < nx.length) (hL0 : L0.length ≤ 10000)
  (hB : Below w0.heap.size w0 w) (hgn : w0.heap.size ≤ gn) (hN : w.heap[gn]? = some (.cells #[.int .i64 kk, v0] 28 (0, 0))) (hS : Kd.S (Kd.slice 82 k82) 79 w w0.heap.size (fun _ => True) v0 L0) :
  Calls Try.prog 87 #[.pointer (some ⟨gn, 0, none⟩), .agg #[.int .i64 a, .slice A1 nx.length c1, .slice A2 ac.length c2], .int .i64 to_] w (LayPost w0 w gn kk v0 (L0 ++ List.zipWith (laidRow (L0.length : Int) to_) nx ac)) := by
 have hu25 := Try.underlying25
 have hu28 := Try.underlying28
 have hu26 := Try.underlying26
 have hu79 := Try.underlying79
 have hu82 := Try.underlying82
 have HR1 := Q0z.mk hr1
 have HR2 := Q0z.mk hr2
 have HW := Q0z.mk hrow
 have HAC := Q0z.mk hac
 clear hr1 hr2 hrow hac
 have hz0 := hB.size
 obtain ⟨A9, c9, hv9⟩ := Kd.S_slice hS
 have hgnlt := blk_lt hN
 have HN0 := Q0z.mk hN
 have HO0 := Q0z.mk hS
 have HV0 := Q0z.mk hv9
 have HB0 := Q0z.mk hB
 clear hN hS hB hv9
 have hcn : w.cell? ⟨gn, 1, none⟩ = some (.slice A9 L0.length c9) := by rw [← HV0.1]; exact (bcz HN0.1 1).trans rfl
 go_enter Try.func87, Try.ntmps87
 go_wp2
 clear hcn
 go_loopw [7] (fun v7 wr => ∃ (s : Nat) (v : Value), s ≤ nx.length ∧ v7 = .int .i64 s ∧
  Q0z (Kd.S (Kd.slice 82 k82) 79 wr w0.heap.size (fun _ => True) v (L0 ++ (List.zipWith (laidRow (L0.length : Int) to_) nx ac).take s)) ∧
  Q0z (wr.heap[gn]? = some (.cells #[.int .i64 kk, v] 28 (0, 0))) ∧
  Q0z (wr.heap[w.heap.size]? = some (.cells #[.int .i64 a, .slice A1 nx.length c1, .slice A2 ac.length c2] 25 (0, 0))) ∧
  Q0z (Below w0.heap.size w0 wr) ∧ Q0z (Kep w wr gn v0) ∧ Q0z (w.heap.size ≤ wr.heap.size) ∧
  Q0z (v.ownBlock = v0.ownBlock ∨ ∀ k, v.ownBlock = some k → w.heap.size ≤ k)) (fun v7 _ => nx.length - (intOf v7).toNat)
 case atStart => 
  refine ⟨0, v0, Nat.zero_le _, rfl, ⟨?_⟩, ⟨bA HN0.1 _⟩, ⟨bn _ _⟩, ⟨ba HB0.1 _⟩, ⟨(Kep.refl w gn v0).below (Nat.le_refl _) (ba (Below.refl _ _) _)⟩, ⟨by simp⟩, ⟨.inl rfl⟩⟩
  rw [List.take_zero, List.append_nil]
  exact Kd.S_alloc HO0.1 _
 case round =>
  obtain ⟨s, v, hs, rfl, HO, HN, BB, HB, HK, HZ, HV⟩ := hrel
  have hq0 : wr.cell? ⟨w.heap.size, 0, none⟩ = some (.int .i64 a) := (bcz BB.1 0).trans rfl
  have hq1 : wr.cell? ⟨w.heap.size, 1, none⟩ = some (.slice A1 nx.length c1) := (bcz BB.1 1).trans rfl
  have hq2 : wr.cell? ⟨w.heap.size, 2, none⟩ = some (.slice A2 ac.length c2) := (bcz BB.1 2).trans rfl
  by_cases hlt : s < nx.length
  ·obtain ⟨ad1, A3, c3, ea, hx, hl3, hr3⟩ := at_rowsL HR1.1 s hlt
   cases ea
   have hx0 := hx
   replace hx := (HB.1.cell (World.block_lt_of_cell? w0 _ hx)).trans hx
   have hsa : s < ac.length := by have := HAC.1; omega
   obtain ⟨ad2, ea, hy⟩ := Kd.at_bool HR2.1 (s : Int) (by omega) (by omega)
   cases ea
   replace hy : w0.cell? (ad2.add s) = some (.bool (ac.getD s false)) := hy
   replace hy := (HB.1.cell (World.block_lt_of_cell? w0 _ hy)).trans hy
   have hrl := HW.1 (nx.getD s []) (by rw [List.getD_eq_getElem?_getD, List.getElem?_eq_getElem hlt]; simp)
   have HRL := Q0z.mk hrl
   clear hrl
   have HT := Q0z.mk (zipWith_take_snoc (L0.length : Int) to_ nx ac s hlt HAC.1)
   have hLL : (L0 ++ (List.zipWith (laidRow (L0.length : Int) to_) nx ac).take s).length ≤ 11000 := by simp only [List.length_append, List.length_take, List.length_zipWith]; omega
   obtain ⟨L, hLe⟩ : ∃ L, L = L0 ++ (List.zipWith (laidRow (L0.length : Int) to_) nx ac).take s := ⟨_, rfl⟩
   rw [← hLe] at HO hLL
   have HLE := Q0z.mk hLe
   clear hLe
   obtain ⟨row, hre⟩ : ∃ r, r = nx.getD s [] := ⟨_, rfl⟩
   obtain ⟨en, hee⟩ : ∃ r, r = ac.getD s false := ⟨_, rfl⟩
   rw [← hre] at HRL HT hx hx0 hl3 hr3
   rw [← hee] at HT hy
   have HR3 := Q0z.mk hr3
   have hxw0 := Q0z.mk hx0
   clear hre hee hr3 hx0
   obtain ⟨A8, c8, hv8⟩ := Kd.S_slice HO.1
   have HV8 := Q0z.mk hv8
   clear hv8
   have n0_ := Q0z.mk (Kd.S_mono HO.1 (ok' := fun k => True ∧ some k ≠ (Value.slice none 0 0 : Value).ownBlock) (fun k _ => ⟨trivial, by simp [Value.ownBlock]⟩))
   clear HO
   have HO := n0_
   clear n0_
   go_upto_if 26 with (fail)
   go_cut [8] (fun v8 wc => ∃ (l : List S82), Q0z (l = if en = true then [noth to_] else []) ∧ Q0z (k82.R 82 wc w.heap.size (fun _ => True) v8 l) ∧
    Q0z (Kd.S (Kd.slice 82 k82) 79 wc w0.heap.size (fun k => True ∧ some k ≠ (v8 : Value).ownBlock) v L) ∧
    Q0z (wc.heap[gn]? = some (.cells #[.int .i64 kk, v] 28 (0, 0))) ∧
    Q0z (wc.heap[w.heap.size]? = some (.cells #[.int .i64 a, .slice (some ad1) nx.length c1, .slice (some ad2) ac.length c2] 25 (0, 0))) ∧
    Q0z (Below w0.heap.size w0 wc) ∧ Q0z (Kep w wc gn v0) ∧ Q0z (w.heap.size ≤ wc.heap.size) ∧ Q0z (Below w.heap.size wr wc))
   case first =>
    have hzz := HZ.1
    have HQ := Q0z.mk (Kd.R_nil k82 82 wr w.heap.size (fun _ => True))
    have n0_ := Q0z.mk (Below.refl w.heap.size wr)
    have HBW := n0_
    clear n0_
    cases en with
    | true =>
     go_wp2_with ((with_reducible refine gate_builtin (b := .append) (xs := #[.tmp 27, .tmp 30]) rfl ?_); at_builtin; refine Kd.R_append k82 (w0 := wr) w.heap.size rfl (.tmp 27) (.tmp 30) 79 82 (.agg #[.int .i64 0, .int .i64 0]) 16 rfl hu79 info82 rfl (by decide) (by decide) (.slice none 0 0) [] (noth to_) [.int .i64 (-1), .int .i64 to_] (fun _ => True) (fun _ => False) rfl rfl ?aP (fun _ h => h.elim) (fun _ _ => trivial) HQ.1 HBW.1 HZ.1 ?aL ?_; (case aP => exact k82_mkM _ w.heap.size (fun _ => False) (noth to_)); (case aL => simp); intro v1_ w1_ hq_ hb_ hg_ hat_; have m0_ := Q0z.mk (Kd.S_after HO.1 hg_ hat_); have m1_ := Q0z.mk (bG HN.1 hg_ (Kd.R_ne HQ.1 HN.1 (by decide))); have m2_ := Q0z.mk (bG BB.1 hg_ (Kd.R_ne HQ.1 BB.1 (by decide))); have m3_ := Q0z.mk (below_grown0 HB.1 hg_ (fun k hk => Nat.le_trans hz0 (Kd.R_base HQ.1 k hk))); have m4_ := Q0z.mk (Kep.grown HK.1 HZ.1 hg_ (.inr (Kd.R_base HQ.1))); have m5_ := Q0z.mk (Nat.le_trans HZ.1 hg_.size); have m6_ := Q0z.mk hb_; have m7_ := Q0z.mk hq_; clear HO HN BB HB HK HZ HBW HQ hq_ hb_ hg_ hat_; have HO := m0_; have HN := m1_; have BB := m2_; have HB := m3_; have HK := m4_; have HZ := m5_; have HBW := m6_; have HQ := m7_; clear m0_ m1_ m2_ m3_ m4_ m5_ m6_ m7_; obtain ⟨A7, c7, hv7_⟩ := Kd.R_slice HQ.1; subst hv7_)
     go_meet
     case rel => exact ⟨[noth to_], ⟨rfl⟩, ⟨HQ.1⟩, ⟨HO.1⟩, HN, BB, HB, HK, HZ, HBW⟩
    | false =>
     go_wp2
     go_meet
     case rel => exact ⟨[], ⟨rfl⟩, ⟨HQ.1⟩, ⟨HO.1⟩, HN, BB, HB, HK, HZ, HBW⟩
   case rest =>
    clear hq0 hq1 hq2 hy hx HO HN BB HB HK HZ
    obtain ⟨l0, HL0, HQ, HO, HN, BB, HB, HK, HZ, HBW⟩ := hcut
    go_wp2
    obtain ⟨wo, hwo⟩ : ∃ wo : World, wo = wr := ⟨_, rfl⟩
    rw [← hwo] at HBW
    clear hwo
    go_loopw [8, 9] (fun v8 v9 wq => ∃ (c : Nat), c ≤ row.length ∧ v9 = .int .i64 c ∧ Q0z (k82.R 82 wq w.heap.size (fun _ => True) v8 (l0 ++ laidFrom (L0.length : Int) 0 (row.take c))) ∧
     Q0z (Kd.S (Kd.slice 82 k82) 79 wq w0.heap.size (fun k => True ∧ some k ≠ (v8 : Value).ownBlock) v L) ∧
     Q0z (wq.heap[gn]? = some (.cells #[.int .i64 kk, v] 28 (0, 0))) ∧
     Q0z (wq.heap[w.heap.size]? = some (.cells #[.int .i64 a, .slice (some ad1) nx.length c1, .slice (some ad2) ac.length c2] 25 (0, 0))) ∧
     Q0z (Below w0.heap.size w0 wq) ∧ Q0z (Kep w wq gn v0) ∧ Q0z (w.heap.size ≤ wq.heap.size) ∧ Q0z (Below w.heap.size wo wq)) (fun _ v9 _ => row.length - (intOf v9).toNat)
    case atStart => exact ⟨0, Nat.zero_le _, rfl, ⟨by simpa [laidFrom] using HQ.1⟩, HO, HN, BB, HB, HK, HZ, HBW⟩
    case round =>
     clear HQ HO HN BB HB HK HZ HBW
     obtain ⟨c, hc, rfl, HQ, HO, HN, BB, HB, HK, HZ, HBW⟩ := hrel
     have hq0 : wr.cell? ⟨w.heap.size, 0, none⟩ = some (.int .i64 a) := (bcz BB.1 0).trans rfl
     have hq1 : wr.cell? ⟨w.heap.size, 1, none⟩ = some (.slice (some ad1) nx.length c1) := (bcz BB.1 1).trans rfl
     have hrl := HRL.1.1
     obtain ⟨A6, c6, hv6⟩ := Kd.R_slice HQ.1
     subst hv6
     generalize hls : l0 ++ laidFrom (L0.length : Int) 0 (row.take c) = ls at *
     have HLS := Q0z.mk hls
     clear hls
     by_cases hlt2 : c < row.length
     ·have hca : (c : Int) < a := by omega
      obtain ⟨ad3, ea, hx3⟩ := Kd.at_int HR3.1 (c : Int) (by omega) (by omega)
      cases ea
      replace hx3 : w0.cell? (ad3.add c) = some (.int .i64 (row.getD c 0)) := hx3
      replace hx3 := (HB.1.cell (World.block_lt_of_cell? w0 _ hx3)).trans hx3
      have hxw := (HB.1.cell (World.block_lt_of_cell? w0 _ hxw0.1)).trans hxw0.1
      obtain ⟨xc, hxc⟩ : ∃ x, x = row.getD c 0 := ⟨_, rfl⟩
      have hxb := HRL.1.2 (row.getD c 0) (by rw [List.getD_eq_getElem?_getD, List.getElem?_eq_getElem hlt2]; simp)
      rw [← hxc] at hx3 hxb
      have hlsn : ls.length ≤ 100 := by
       rw [← HLS.1, List.length_append, laidFrom_length, List.length_take]
       have := HL0.1
       rw [this]
       split <;> simp <;> omega
      have hsum : wrap64 ((L0.length : Int) + xc) = (L0.length : Int) + xc := by unfold wrap64; omega
      have HXC := Q0z.mk hxc
      have HSN := Q0z.mk (laidFrom_snoc (L0.length : Int) row 0 c hlt2)
      clear hxc hrl
      go_wp2_with ((with_reducible refine gate_builtin (b := .append) (xs := #[.tmp 38, .tmp 51]) rfl ?_); at_builtin; refine Kd.R_append k82 (w0 := wo) w.heap.size rfl (.tmp 38) (.tmp 51) 79 82 (.agg #[.int .i64 0, .int .i64 0]) 16 rfl hu79 info82 rfl (by decide) (by decide) (.slice A6 ls.length c6) ls (⟨(c : Int), (L0.length : Int) + xc⟩ : S82) [.int .i64 (c : Int), .int .i64 ((L0.length : Int) + xc)] (fun _ => True) (fun _ => False) rfl rfl ?aP (fun _ h => h.elim) (fun _ _ => trivial) HQ.1 HBW.1 HZ.1 ?aL ?_; (case aP => exact k82_mkM _ w.heap.size (fun _ => False) (⟨(c : Int), (L0.length : Int) + xc⟩ : S82)); (case aL => omega); intro v1_ w1_ hq_ hb_ hg_ hat_; have m0_ := Q0z.mk (Kd.S_after HO.1 hg_ hat_); have m1_ := Q0z.mk (bG HN.1 hg_ (Kd.R_ne HQ.1 HN.1 (by decide))); have m2_ := Q0z.mk (bG BB.1 hg_ (Kd.R_ne HQ.1 BB.1 (by decide))); have m3_ := Q0z.mk (below_grown0 HB.1 hg_ (fun k hk => Nat.le_trans hz0 (Kd.R_base HQ.1 k hk))); have m4_ := Q0z.mk (Kep.grown HK.1 HZ.1 hg_ (.inr (Kd.R_base HQ.1))); have m5_ := Q0z.mk (Nat.le_trans HZ.1 hg_.size); have m6_ := Q0z.mk hb_; have m7_ := Q0z.mk hq_; clear HO HN BB HB HK HZ HBW HQ hq_ hb_ hg_ hat_; have HO := m0_; have HN := m1_; have BB := m2_; have HB := m3_; have HK := m4_; have HZ := m5_; have HBW := m6_; have HQ := m7_; clear m0_ m1_ m2_ m3_ m4_ m5_ m6_ m7_; obtain ⟨A7, c7, hv7_⟩ := Kd.R_slice HQ.1; subst hv7_)
      go_roundw
      case rel => 
       rw [show (ls ++ [(⟨(c : Int), (L0.length : Int) + xc⟩ : S82)]).length = ls.length + 1 by simp] at HO HQ
       refine ⟨c + 1, by omega, by go_num, ⟨?_⟩, HO, HN, BB, HB, HK, HZ, HBW⟩
       rw [HSN.1, ← List.append_assoc, HLS.1, ← HXC.1, Nat.zero_add]
       simpa using HQ.1
      case measure => simp [intOf]; omega
     ·have hca : a ≤ (c : Int) := by omega
      obtain rfl : c = row.length := by omega
      have hcn : wr.cell? ⟨gn, 1, none⟩ = some v := (bcz HN.1 1).trans rfl
      have hfn := bf HN.1 1
      clear hrl
      go_wp2_with ((with_reducible refine gate_builtin (b := .append) (xs := #[.tmp 57, .tmp 59]) rfl ?_); at_builtin; refine Kd.S_append (Kd.slice 82 k82) (w0 := w0) w0.heap.size rfl (.tmp 57) (.tmp 59) 26 79 (.slice none 0 0) 24 rfl hu26 info79 rfl (by decide) (by decide) v L ls [.slice A6 ls.length c6] (fun _ => True) (fun k => some k = (.slice A6 ls.length c6 : Value).ownBlock) rfl rfl ?aP ?aK (fun _ _ => trivial) ?aO HB.1 HB.1.size ?aL ?_; (case aP => exact Kd.M_row (Kd.R_lower (Kd.R_tight rfl HQ.1) hz0)); (case aK => exact fun k hk => ⟨trivial, fun e => lay_types HQ.1 HO.1 k hk.symm e.symm⟩); (case aO => exact HO.1); (case aL => omega); intro v1_ w1_ hS_ hb_ hg_ hat_; have m0_ := Q0z.mk hS_; have m1_ := Q0z.mk (bG HN.1 hg_ (lay_ne HO.1 HN.1 (by decide))); have m2_ := Q0z.mk (bG BB.1 hg_ (lay_ne HO.1 BB.1 (by decide))); have m3_ := Q0z.mk hb_; have m4_ := Q0z.mk (Kep.grown HK.1 HZ.1 hg_ HV.1); have m5_ := Q0z.mk (Nat.le_trans HZ.1 hg_.size); have m6_ := Q0z.mk (lay_own HV.1 HZ.1 hat_); clear HO HN BB HB HK HZ HBW hcn hfn hS_ hb_ hg_ hat_; have HO := m0_; have HN := m1_; have BB := m2_; have HB := m3_; have HK := m4_; have HZ := m5_; have HV1 := m6_; clear m0_ m1_ m2_ m3_ m4_ m5_ m6_; obtain ⟨A7, c7, hv7_⟩ := Kd.S_slice HO.1; subst hv7_; have hcn : w1_.cell? ⟨gn, 1, none⟩ = some v := (bcz HN.1 1).trans rfl; have hfn := bf HN.1 1)
      go_roundw
      case rel =>
       have hll : (L ++ [ls]).length = L.length + 1 := by simp
       rw [hll] at HO HV1
       refine ⟨s + 1, .slice A7 (L.length + 1) c7, by omega, by go_num, ⟨?_⟩, ⟨?_⟩, ⟨?_⟩, ⟨?_⟩, ⟨?_⟩, ⟨?_⟩, HV1⟩
       ·have e : L0 ++ (List.zipWith (laidRow (L0.length : Int) to_) nx ac).take (s + 1) = L ++ [ls] := by
         rw [HT.1, ← List.append_assoc, ← HLE.1, ← HLS.1, HL0.1, List.take_length]
         rfl
        rw [e]
        exact Kd.S_mono (Kd.S_far (p := ⟨gn, 1, none⟩) (Kd.S_types HO.1 HN.1 (by decide)) (fun _ hk => hk.2) _) (fun _ hk => hk.1)
       ·exact bp HN.1 1 _ rfl
       ·exact bF BB.1 (by show w.heap.size ≠ gn; omega) _
       ·exact HB.1.setCell hgn _
       ·exact Kep.set HK.1 1 _
       ·simpa using HZ.1
      case measure => simp [intOf]; omega
  ·go_wp2
   first | go_end0 | ((try simp only [Exit.inBlock, Exit.then]); refine bodyPost_ret (results_none rfl _ _ _) rfl ?_)
   obtain rfl : s = nx.length := by omega
   have hzl : (List.zipWith (laidRow (L0.length : Int) to_) nx ac).length = nx.length := by have := HAC.1; simp; omega
   rw [List.take_of_length_le (by omega)] at HO
   exact ⟨v, rfl, HN.1, HO.1, HB.1, HK.1, HZ.1, HV.1⟩

end Go.Proofs.Ytelkjbacdpmnfaa.A
