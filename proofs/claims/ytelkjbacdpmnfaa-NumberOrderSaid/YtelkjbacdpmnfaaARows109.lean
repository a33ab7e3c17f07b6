/- By a program, out of the translation (wip/myprint.py). -/
import Derived.Test.YtelkjbacdpmnfaaA0
import Derived.Test.YtelkjbacdpmnfaaAAnyOrder
import Derived.Test.YtelkjbacdpmnfaaAChunk
import Derived.Test.YtelkjbacdpmnfaaARows108
import Derived.Laws.CopyRow
import Derived.RangeFuncNested
import Derived.RangeFuncBound
import Derived.RangeFuncCalls
import Derived.RangeFuncLeaves
import Derived.Shelf.Abstract
import Derived.Shelf.RegionOpen
import Derived.WalkKit
import Derived.OwnWalkIn
import Derived.TacticsInMore
import Derived.LoopNIn
import Derived.LoopIn
import Derived.Maps.AppendAt
namespace Go.Proofs.Ytelkjbacdpmnfaa.A
open Go.RowKit Go.Proofs.YtelkjbacdpmnfaaW.PrintWords Go.Proofs.YtelkjbacdpmnfaaW.PrintLast Go.Proofs.YtelkjbacdpmnfaaW.PrintMore
attribute [local go_sem] max2_int min2_int max_two min_two max_three min_three max_four min_four   -- for this text's walks alone
set_option linter.unusedVariables false
set_option linter.unusedSimpArgs false

/-! number.rows: a row's numbers, eight by eight -/
section
open Go.Shelf
attribute [local go_sem] Oper.semAt_some
theorem info120 : (Try.prog.info? 120).map (fun i => (i.zero, i.size, i.bytes)) = some (some (.agg #[.int .i64 0, .int .i64 0, .int .i64 0, .int .i64 0, .int .i64 0, .int .i64 0, .int .i64 0, .int .i64 0]), 8, 64) := by kernel_rfl
/-- The numbers of a part, padded by zeros. -/
def pad8 (l : List Int) (k : Nat) : List Int := (List.range 8).map fun j => l.getD (k * 8 + j) 0
def head8 (n : Nat) : List Int := (n : Int) :: List.replicate 7 0
/-- What rows hands back, flat. -/
def rowsOver (l : List Int) (pre : List { k : Nat // k * 8 < l.length }) : List Int := head8 l.length ++ (pre.map fun x => pad8 l x.1).flatten
theorem rowsOver_snoc (l : List Int) (pre : List { k : Nat // k * 8 < l.length }) (x : { k : Nat // k * 8 < l.length }) : rowsOver l (pre ++ [x]) = rowsOver l pre ++ pad8 l x.1 := by
  simp [rowsOver]
theorem pad8_length (l : List Int) (k : Nat) : (pad8 l k).length = 8 := by simp [pad8]
theorem pad_part (zs : List Int) (k : Nat) : (zs.drop (k * 8)).take 8 ++ List.replicate (8 - wide8 zs.length k) 0 = pad8 zs k := by
  apply List.ext_getElem
  · simp [pad8_length, wide8]; omega
  · intro j h1 h2
    rw [pad8_length] at h2
    rw [List.getElem_append]
    split
    next h =>
      have h' : j < 8 ∧ j < zs.length - k * 8 := by
        have h2 := h
        rw [List.length_take, List.length_drop] at h2
        omega
      simp [pad8, List.getD_eq_getElem?_getD, List.getElem?_eq_getElem (show k * 8 + j < zs.length by omega)]
    next h =>
      have h' : ¬ (j < 8 ∧ j < zs.length - k * 8) := by
        have h2 := h
        rw [List.length_take, List.length_drop] at h2
        omega
      simp [pad8, List.getD_eq_getElem?_getD, List.getElem?_eq_none (show zs.length ≤ k * 8 + j by omega)]
set_option maxRecDepth 100000 in
theorem setRow_new (w : World) (t : TypeId) (old cs : Array Value) : (w.alloc (.cells old t)).setRow w.heap.size cs = w.alloc (.cells cs t) := by
  unfold World.setRow World.alloc
  congr 1
  apply Array.ext_getElem?
  intro i
  rw [Array.getElem?_modify]
  split
  next h => subst h; simp
  next h =>
    rw [Array.getElem?_push, Array.getElem?_push]
    split
    next h2 => exact absurd h2.symm h
    next h2 => rfl
theorem C_cells {zs : List Int} {W : World} {A : Option Addr} (h : Kd.C (Kd.int .i64) W A zs.length zs) (hp : 0 < zs.length) : ∃ ad, A = some ad ∧ ∀ j, j < zs.length → W.cell? (ad.add j) = some (.int .i64 (zs.getD j 0)) := by
  obtain ⟨ad, _, hA, _, _, _⟩ := Kd.C_get h 0 0 (by omega) (by omega)
  refine ⟨ad, hA, fun j hj => ?_⟩
  obtain ⟨ad', c, hA', hl, hK, hc⟩ := Kd.C_get h 0 (j : Int) (by omega) (by omega)
  rw [hA] at hA'
  cases hA'
  have hK' : c = [Value.int .i64 (zs.getD (j : Int).toNat 0)] := hK
  subst hK'
  have h2 := hc 0 _ rfl
  have e : (j : Int).toNat = j := by omega
  rw [e] at h2
  have hs : (Kd.int .i64).sz = 1 := rfl
  rw [hs] at h2
  simpa using h2
theorem cells_new (w : World) (cs : List Value) (t : TypeId) : ∀ j u, cs[j]? = some u → (w.alloc (.cells cs.toArray t)).cell? ((⟨w.heap.size, 0, none⟩ : Addr).add j) = some u := by
  intro j u hj
  have h : (w.alloc (.cells cs.toArray t)).heap[w.heap.size]? = _ := World.alloc_heap_new w _
  have e : (⟨w.heap.size, 0, none⟩ : Addr).add j = ⟨w.heap.size, j, none⟩ := by
    unfold Addr.add
    split
    next h0 => rw [h0]
    next h0 => simp
  rw [e]
  unfold World.cell?
  simp only
  rw [h]
  simpa using hj
theorem addr_add_block (ad : Addr) (k : Nat) : (ad.add k).block = ad.block := by unfold Addr.add; split <;> rfl
theorem addr_add_add (ad : Addr) (a b : Nat) : (ad.add a).add b = ad.add (a + b) := by
  unfold Addr.add
  by_cases ha : a = 0 <;> by_cases hb : b = 0 <;> simp [ha, hb, Nat.add_assoc]
set_option maxRecDepth 100000 in
theorem copy_part {W : World} {ad : Addr} {zs : List Int} (ty : TypeId) (k : Nat) (hk : k * 8 < zs.length) (hz : ∀ j, j < zs.length → W.cell? (ad.add j) = some (.int .i64 (zs.getD j 0))) (hlt : ad.block < W.heap.size) :
    (Builtin.copy_ #[45, 45] ty #[.slice (some ⟨W.heap.size, 0, none⟩) 8 8, .slice (some (ad.add (k * 8))) (wide8 zs.length k) (wide8 zs.length k)]).run Try.prog (W.alloc (.cells #[.int .i64 0, .int .i64 0, .int .i64 0, .int .i64 0, .int .i64 0, .int .i64 0, .int .i64 0, .int .i64 0] 120))
      = .ok (goInt (wide8 zs.length k)) (W.alloc (.cells ((pad8 zs k).map (Value.int .i64)).toArray 120)) := by
  obtain ⟨i3, hi3, _, hs3, _⟩ := info_parts info3
  have hcs : (((zs.drop (k * 8)).take 8).map (Value.int .i64)).length = wide8 zs.length k := by simp [wide8]
  have h := run_copy_row (P := Try.prog) (W.alloc (.cells #[.int .i64 0, .int .i64 0, .int .i64 0, .int .i64 0, .int .i64 0, .int .i64 0, .int .i64 0, .int .i64 0] 120)) 45 45 ty 3 W.heap.size 0 8 8 (ad.add (k * 8)) (wide8 zs.length k) (wide8 zs.length k) #[.int .i64 0, .int .i64 0, .int .i64 0, .int .i64 0, .int .i64 0, .int .i64 0, .int .i64 0, .int .i64 0] 120 (((zs.drop (k * 8)).take 8).map (Value.int .i64))
    Try.underlying45 (by rw [hi3]; simp [hs3]) (World.alloc_heap_new W _) (by rw [hcs]; exact (Nat.min_eq_left (by unfold wide8; omega)).symm)
    (fun j v hj => by
      have hj2 : j < ((zs.drop (k * 8)).take 8).length := by
        have := (List.getElem?_eq_some_iff.1 hj).1
        simpa using this
      have hj3 : j < 8 ∧ j < zs.length - k * 8 := by
        have h2 := hj2
        rw [List.length_take, List.length_drop] at h2
        omega
      rw [List.getElem?_map, List.getElem?_eq_getElem hj2] at hj
      have e : ((zs.drop (k * 8)).take 8)[j] = zs.getD (k * 8 + j) 0 := by
        simp [List.getD_eq_getElem?_getD, List.getElem?_eq_getElem (show k * 8 + j < zs.length by omega)]
      rw [e] at hj
      have hv : Value.int .i64 (zs.getD (k * 8 + j) 0) = v := by simpa using hj
      rw [World.cell?_of_block (Below.heap_alloc W _ _ (by rw [addr_add_block, addr_add_block]; exact hlt))]
      have e2 : (ad.add (k * 8)).add j = ad.add (k * 8 + j) := addr_add_add _ _ _
      rw [e2, hz _ (by omega), hv])
    (by rw [hcs]; simp [wide8]; omega) (by intro v hv; obtain ⟨x, _, rfl⟩ := List.mem_map.1 hv; rfl)
  rw [h, hcs, setRow_new]
  have e : (((#[.int .i64 0, .int .i64 0, .int .i64 0, .int .i64 0, .int .i64 0, .int .i64 0, .int .i64 0, .int .i64 0] : Array Value).toList.take 0 ++ ((zs.drop (k * 8)).take 8).map (Value.int .i64) ++ (#[.int .i64 0, .int .i64 0, .int .i64 0, .int .i64 0, .int .i64 0, .int .i64 0, .int .i64 0, .int .i64 0] : Array Value).toList.drop (0 + wide8 zs.length k)).toArray) = ((pad8 zs k).map (Value.int .i64)).toArray := by
    congr 1
    rw [← pad_part zs k, List.map_append, List.map_replicate]
    have : (#[.int .i64 0, .int .i64 0, .int .i64 0, .int .i64 0, .int .i64 0, .int .i64 0, .int .i64 0, .int .i64 0] : Array Value).toList = List.replicate 8 (Value.int .i64 0) := rfl
    rw [this, List.drop_replicate]
    simp
  rw [e]
/-- Blocks that lie in boxes lie as they lay. -/
theorem KB_boxes {W W' : World} {b : Nat} {t1 t2 : TypeId} {v1 v2 : Value} (h1 : Boxed W b t1 v1) (h2 : Boxed W (b + 1) t2 v2) (h1' : Boxed W' b t1 v1) (h2' : Boxed W' (b + 1) t2 v2) : KB (b + 2) b W W' := by
  intro k hk hb
  rcases (by omega : k = b ∨ k = b + 1) with rfl | rfl
  · exact h1'.trans h1.symm
  · exact h2'.trans h2.symm
theorem KB_put {n₀ g : Nat} {w : World} (hn : n₀ ≤ w.heap.size) (W : World) (l : Nat) (o o' : Obj) (hl : w.heap.size ≤ l) (_ : W.heap[l]? = some o) (_ : o.isCells = false) (_ : o.isWalk = false) : KB n₀ g W (W.putObj l o') :=
  fun k hk _ => World.putObj_heap_other (by omega)
/-- What stands between two rounds. -/
def Rows109 (w : World) (A : Option Addr) (cap : Nat) (zs : List Int) (pre : List { k : Nat // k * 8 < zs.length }) (W : World) : Prop :=
  ((∃ v, Boxed W (w.heap.size + 1) 118 v ∧ W.ownsRow w.heap.size 120 8 v (pre.length + 1) ((rowsOver zs pre).map (Value.int .i64)) ∧ True) ∧ (Boxed W (w.heap.size + 2) 45 (.slice A zs.length cap) ∧ Boxed W (w.heap.size + 3) 3 (.int .i64 8))) ∧ Below w.heap.size w W
theorem Rows109.own (w : World) (A : Option Addr) (cap : Nat) (zs : List Int) (B : Nat) (hB : w.heap.size ≤ B) : OwnFrom B (Rows109 w A cap zs) :=
  OwnFrom.and (OwnFrom.and (Own.from (holdsRow_own w.heap.size (w.heap.size + 1) 118 120 8 (fun pre => pre.length + 1) (fun pre => (rowsOver zs pre).map (Value.int .i64)) (fun _ _ => True)) _)
    (OwnFrom.and (Own.from (boxed_own _ _ _) _) (Own.from (boxed_own _ _ _) _))) (ownFrom_below (Nat.le_refl _) hB)
set_option maxRecDepth 100000 in
set_option maxHeartbeats 4000000 in
theorem rows109_in (A : Option Addr) (cap : Nat) (zs : List Int) (w : World) (hlen : zs.length ≤ 1000000) (hcap : zs.length ≤ cap) (hC : Kd.C (Kd.int .i64) w A zs.length zs) (hA : ∀ ad, A = some ad → 0 < zs.length → ad.block < w.heap.size) :
    CallsIn Fence.wide 5 Try.prog 109 #[.slice A zs.length cap] w fun e W' => ∃ v pre, e = .returned v ∧ (∃ k, firstC zs.length pre k ∧ zs.length ≤ k * 8) ∧ W'.ownsRow w.heap.size 120 8 v (pre.length + 1) ((rowsOver zs pre).map (Value.int .i64)) ∧ Below w.heap.size w W' := by
  have hu45 := Try.underlying45
  have hu118 := under118
  have hu120 := under120
  have h1 : (1 : Nat) ≤ 5 := by omega
  obtain ⟨i0, hi, hz0, hz1, hz2⟩ := info_parts info120
  refine callsIn_of_wp_marks Try.func109 rfl trivial ?_ rfl
  simp only [Try.ntmps109, List.size_toArray, List.length_cons, List.length_nil, Nat.reduceAdd, Nat.reduceSub, Array.replicate_succ, Array.replicate_zero, List.push_toArray, List.append_toArray, List.nil_append, List.cons_append]
  gi_wp2_with (refine ⟨trivial, ?_⟩; gi_at_call 122; refine (chunk122_in 4 _ _ _ _).mono ?_; rintro e w' ⟨rfl, rfl⟩)
  have hA2 : ∃ ad, 0 < zs.length → A = some ad := by
    by_cases hp : 0 < zs.length
    · obtain ⟨ad, e, _⟩ := C_cells hC hp
      exact ⟨ad, fun _ => e⟩
    · exact ⟨⟨0, 0, none⟩, fun h => absurd h hp⟩
  obtain ⟨ad, hA2⟩ := hA2
  obtain ⟨w2, hw2⟩ : ∃ w2, (w.alloc (.cells #[.int .i64 (zs.length : Int), .int .i64 0, .int .i64 0, .int .i64 0, .int .i64 0, .int .i64 0, .int .i64 0, .int .i64 0] 120)).alloc (.cells #[.slice (some ⟨w.heap.size, 0, none⟩) 1 1] 118) = w2 := ⟨_, rfl⟩
  have hs2 : w2.heap.size = w.heap.size + 2 := by rw [← hw2]; simp
  have hB2 : Below w.heap.size w w2 := by rw [← hw2]; exact below_alloc (below_alloc (Below.refl _ _) _) _
  have bO : Boxed w2 (w.heap.size + 1) 118 (.slice (some ⟨w.heap.size, 0, none⟩) 1 1) := by
    rw [← hw2]
    have h_ := Boxed.new (w.alloc (.cells #[.int .i64 (zs.length : Int), .int .i64 0, .int .i64 0, .int .i64 0, .int .i64 0, .int .i64 0, .int .i64 0, .int .i64 0] 120)) 118 (.slice (some ⟨w.heap.size, 0, none⟩) 1 1)
    rwa [World.size_alloc] at h_
  have hR0 : w2.ownsRow w.heap.size 120 8 (.slice (some ⟨w.heap.size, 0, none⟩) 1 1) 1 ((head8 zs.length).map (Value.int .i64)) := by
    rw [← hw2]
    have h_ := World.ownsRow_lit (base := w.heap.size) (e := 120) (size := 8) w #[.int .i64 (zs.length : Int), .int .i64 0, .int .i64 0, .int .i64 0, .int .i64 0, .int .i64 0, .int .i64 0, .int .i64 0] 1 (Nat.le_refl _) (by unfold maxLen; omega) rfl
    exact h_.alloc _
  rw [hw2]
  clear hw2
  have b2 := Boxed.new w2 45 (.slice A zs.length cap)
  have b3 := Boxed.new (w2.alloc (.cells #[.slice A zs.length cap] 45)) 3 (.int .i64 8)
  rw [World.size_alloc] at b3
  have b2' := b2.alloc (.cells #[.int .i64 8] 3)
  have bO' := (bO.alloc (.cells #[.slice A zs.length cap] 45)).alloc (.cells #[.int .i64 8] 3)
  have hR0' := (hR0.alloc (.cells #[.slice A zs.length cap] 45)).alloc (.cells #[.int .i64 8] 3)
  have hB3 : Below w.heap.size w ((w2.alloc (.cells #[.slice A zs.length cap] 45)).alloc (.cells #[.int .i64 8] 3)) := (hB2.alloc (by omega) _).alloc (by simp; omega) _
  have hs3 : ((w2.alloc (.cells #[.slice A zs.length cap] 45)).alloc (.cells #[.int .i64 8] 3)).heap.size = w.heap.size + 4 := by simp; omega
  rw [hs2] at b2' b3
  clear b2 bO hR0 hB2
  obtain ⟨w3, hw3⟩ : ∃ w3, (w2.alloc (.cells #[.slice A zs.length cap] 45)).alloc (.cells #[.int .i64 8] 3) = w3 := ⟨_, rfl⟩
  rw [hw3] at b2' b3 bO' hR0' hB3 hs3 ⊢
  clear hw3 hs2 w2
  have h0 : Rows109 w A cap zs [] w3 := ⟨⟨⟨_, bO', by simpa [rowsOver] using hR0', trivial⟩, b2', b3⟩, hB3⟩
  have hbz : ∀ j, j < zs.length → ∀ W, Below w.heap.size w W → W.cell? (ad.add j) = some (.int .i64 (zs.getD j 0)) := by
    intro j hj W hW
    obtain ⟨ad', e1, e2⟩ := C_cells hC (by omega)
    rw [hA2 (by omega)] at e1
    cases e1
    exact (hW.cell (p := ad.add j) (by rw [addr_add_block]; exact hA ad (hA2 (by omega)) (by omega))).trans (e2 j hj)
  have hbl : 0 < zs.length → ad.block < w.heap.size := fun h_ => hA ad (hA2 h_) h_
  have HC0 := Aside0.mk hbz
  have HL0 := Aside0.mk hbl
  have HN0 := Aside0.mk hlen
  clear hbz hbl
  refine wpIn_rangeFunc_ownG rfl h1 (gf := 123) (lb := #[.pointer (some ⟨w.heap.size + 2, 0, none⟩), .pointer (some ⟨w.heap.size + 3, 0, none⟩)]) rfl trivial (enters_of Try.func123 (by kernel_rfl) rfl)
    (chunk_stops 4 (by omega) (w.heap.size + 2) (w.heap.size + 3) (w.heap.size + 4) (w.heap.size + 2) zs.length cap ad A hA2 hlen hcap (by omega) (by omega) (by omega) (by omega) w3 (by omega) b2'.cell b3.cell)
    KB.trans (KB_put (by omega)) (Below.refl _ _) (fun _ => rfl)
    (Rows109 w A cap zs) (fun _ _ _ => False) (Rows109.own w A cap zs _ (by omega)) (fun _ _ _ _ _ hs _ _ => hs) h0
    (fun x => { tmps := #[.slice A zs.length cap, undef, .slice none 0 0, .pointer (some ⟨w.heap.size + 1, 0, none⟩), .slice (some (ad.add (x.1 * 8))) (wide8 zs.length x.1) (wide8 zs.length x.1), undef, .slice A zs.length cap, .int .i64 (zs.length : Int), .agg #[.int .i64 (zs.length : Int), .int .i64 0, .int .i64 0, .int .i64 0, .int .i64 0, .int .i64 0, .int .i64 0, .int .i64 0], .slice (some ⟨w.heap.size, 0, none⟩) 1 1, .slice A zs.length cap, .func (.func 123) #[] #[.pointer (some ⟨w.heap.size + 1 + 1, 0, none⟩), .pointer (some ⟨w.heap.size + 1 + 1 + 1, 0, none⟩)], .slice (some (ad.add (x.1 * 8))) (wide8 zs.length x.1) (wide8 zs.length x.1), undef, undef, undef, undef, undef, undef, undef, undef], defers := [] }) ?assign ?body ?done ?stop
  case assign =>
    intro l x W K hK
    unfold encC
    gi_wp2
    exact hK
  case body =>
    rintro l pre ⟨k, hk⟩ W ⟨⟨⟨v, hv, hrow, _⟩, hc2, hc3⟩, hB⟩ hlt
    have hc := hv.cell
    obtain ⟨e, he⟩ : ∃ e, e = wide8 zs.length k := ⟨_, rfl⟩
    have hcp := fun ty => copy_part (W := W) (ad := ad) (zs := zs) ty k hk (fun j hj => HC0.out j hj W hB) (Nat.lt_of_lt_of_le (HL0.out (by omega)) hB.size)
    obtain ⟨p0, p1, p2, p3, p4, p5, p6, p7, hp⟩ : ∃ p0 p1 p2 p3 p4 p5 p6 p7, pad8 zs k = [p0, p1, p2, p3, p4, p5, p6, p7] := ⟨_, _, _, _, _, _, _, _, rfl⟩
    rw [hp] at hcp
    simp only [← he] at hcp ⊢
    simp only [List.map_cons, List.map_nil] at hcp
    have HE0 := Aside0.mk he
    have HP0 := Aside0.mk hp
    clear he hp
    have hpl : pre.length + 1 ≤ 1000001 := by have := HN0.out; omega
    obtain ⟨Wa, hWa⟩ : ∃ Wa, W.alloc (.cells #[.int .i64 p0, .int .i64 p1, .int .i64 p2, .int .i64 p3, .int .i64 p4, .int .i64 p5, .int .i64 p6, .int .i64 p7] 120) = Wa := ⟨_, rfl⟩
    have hnew := World.alloc_heap_new W (.cells #[.int .i64 p0, .int .i64 p1, .int .i64 p2, .int .i64 p3, .int .i64 p4, .int .i64 p5, .int .i64 p6, .int .i64 p7] 120)
    have hva := hv.alloc (.cells #[.int .i64 p0, .int .i64 p1, .int .i64 p2, .int .i64 p3, .int .i64 p4, .int .i64 p5, .int .i64 p6, .int .i64 p7] 120)
    have hra := hrow.alloc (.cells #[.int .i64 p0, .int .i64 p1, .int .i64 p2, .int .i64 p3, .int .i64 p4, .int .i64 p5, .int .i64 p6, .int .i64 p7] 120)
    have hc2a := hc2.alloc (.cells #[.int .i64 p0, .int .i64 p1, .int .i64 p2, .int .i64 p3, .int .i64 p4, .int .i64 p5, .int .i64 p6, .int .i64 p7] 120)
    have hc3a := hc3.alloc (.cells #[.int .i64 p0, .int .i64 p1, .int .i64 p2, .int .i64 p3, .int .i64 p4, .int .i64 p5, .int .i64 p6, .int .i64 p7] 120)
    have hBa := hB.alloc hB.size (.cells #[.int .i64 p0, .int .i64 p1, .int .i64 p2, .int .i64 p3, .int .i64 p4, .int .i64 p5, .int .i64 p6, .int .i64 p7] 120)
    have hKa := KeepsOthers.alloc W (.cells #[.int .i64 p0, .int .i64 p1, .int .i64 p2, .int .i64 p3, .int .i64 p4, .int .i64 p5, .int .i64 p6, .int .i64 p7] 120)
    rw [hWa] at hcp hnew hva hra hc2a hc3a hBa hKa
    have HC2 := Aside0.mk (And.intro hc2 hc3)
    clear hWa hv hrow hB hc hc2 hc3
    have hca := hva.cell
    have a0 : Wa.cell? ⟨W.heap.size, 0, none⟩ = some (.int .i64 p0) := (blk_cell hnew 0).trans rfl
    have a1 : Wa.cell? ⟨W.heap.size, 1, none⟩ = some (.int .i64 p1) := (blk_cell hnew 1).trans rfl
    have a2 : Wa.cell? ⟨W.heap.size, 2, none⟩ = some (.int .i64 p2) := (blk_cell hnew 2).trans rfl
    have a3 : Wa.cell? ⟨W.heap.size, 3, none⟩ = some (.int .i64 p3) := (blk_cell hnew 3).trans rfl
    have a4 : Wa.cell? ⟨W.heap.size, 4, none⟩ = some (.int .i64 p4) := (blk_cell hnew 4).trans rfl
    have a5 : Wa.cell? ⟨W.heap.size, 5, none⟩ = some (.int .i64 p5) := (blk_cell hnew 5).trans rfl
    have a6 : Wa.cell? ⟨W.heap.size, 6, none⟩ = some (.int .i64 p6) := (blk_cell hnew 6).trans rfl
    have a7 : Wa.cell? ⟨W.heap.size, 7, none⟩ = some (.int .i64 p7) := (blk_cell hnew 7).trans rfl
    gi_wp2_with (gi_at_builtin; refine wpListIn_append_own _ rfl _ _ 118 rfl w.heap.size 120 i0 _ 8 64 hu118 hi hz0 hz1 hz2 rfl (by decide) _ _ _ rfl (hra.alloc _) ⟨Wa.heap.size, 0, none⟩ 1 1 [.int .i64 p0, .int .i64 p1, .int .i64 p2, .int .i64 p3, .int .i64 p4, .int .i64 p5, .int .i64 p6, .int .i64 p7] rfl rfl (cells_new Wa [.int .i64 p0, .int .i64 p1, .int .i64 p2, .int .i64 p3, .int .i64 p4, .int .i64 p5, .int .i64 p6, .int .i64 p7] 120) (by simp [Value.oneCell']) (by unfold maxLen; omega) (by omega) (by have := hBa.size; simp; omega) ?_; intro v' w1 hown' hgrow _; obtain ⟨g', cap', rfl⟩ := ownsRow_succ hown'; obtain ⟨hv1, hv2, hr2, hk2, hb2⟩ := hva.appended (by decide) hra hBa.size (by omega) hown' hgrow; have hc1 := hv1.cell; have hf1 := hv1.frozen)
    have b2f := (((hc2a.alloc (.cells #[.int .i64 p0, .int .i64 p1, .int .i64 p2, .int .i64 p3, .int .i64 p4, .int .i64 p5, .int .i64 p6, .int .i64 p7] 120)).kept hgrow (hc2a.not_row (by decide) hra)).other (B' := w.heap.size + 1) (by omega) (.slice (some ⟨g', 0, none⟩) (pre.length + 1 + 1) cap'))
    have b3f := (((hc3a.alloc (.cells #[.int .i64 p0, .int .i64 p1, .int .i64 p2, .int .i64 p3, .int .i64 p4, .int .i64 p5, .int .i64 p6, .int .i64 p7] 120)).kept hgrow (hc3a.not_row (by decide) hra)).other (B' := w.heap.size + 1) (by omega) (.slice (some ⟨g', 0, none⟩) (pre.length + 1 + 1) cap'))
    have hr3 : (w1.setCell ⟨w.heap.size + 1, 0, none⟩ (.slice (some ⟨g', 0, none⟩) (pre.length + 1 + 1) cap')).ownsRow w.heap.size 120 8 (.slice (some ⟨g', 0, none⟩) (pre.length + 1 + 1) cap') ((pre ++ [(⟨k, hk⟩ : { k : Nat // k * 8 < zs.length })]).length + 1) ((rowsOver zs (pre ++ [⟨k, hk⟩])).map (Value.int .i64)) := by
      rw [rowsOver_snoc, HP0.out, List.length_append, List.map_append]
      exact hr2
    exact ⟨(hKa.trans hk2).from _, KB_boxes HC2.out.1 HC2.out.2 b2f b3f, ⟨⟨⟨_, hv2, hr3, trivial⟩, b2f, b3f⟩, hBa.trans hb2⟩⟩
  case done =>
    rintro D ys W hD hS ⟨⟨⟨v, hv, hrow, _⟩, hc2, hc3⟩, hB⟩ hK
    have hc := hv.cell
    gi_wp2
    refine ⟨by simp, .inl ⟨_, _, rfl, run_takeDeferred hK, ?_⟩⟩
    exact ⟨_, results_tmp rfl _ _ _, v, ys, rfl, hS, ownsRow_putObj hrow _ hK rfl, hB.trans (belowK_b (w := w) (Nat.le_refl _) W D _ _ (by omega) hK rfl rfl)⟩
  case stop =>
    rintro D c pre W _ _ h _
    exact h.elim
end

end Go.Proofs.Ytelkjbacdpmnfaa.A
