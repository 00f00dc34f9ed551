/-
  New piles, new pools.
-/
import Derived.Test.YtadelkancmbanaaGreatBClock
namespace Go.Proofs.YtadelkancmbanaaGreat
open Go.RowKit
attribute [local go_sem ↓] Go.wp_at_zero Go.wp_at_succ

/-- The places' words, k of them laid. -/
def nextTo (k i : Nat) : Nat := if 1 ≤ i ∧ i < k then i + 1 else 0
theorem nextTo_step (k : Nat) (h : 1 ≤ k) : nextTo (k + 1) = upd (nextTo k) k (k + 1) := by
  funext i; unfold nextTo upd
  by_cases e : i = k
  · subst e; rw [if_pos rfl, if_pos (by omega)]
  · rw [if_neg e]
    show _ = (if 1 ≤ i ∧ i < k then i + 1 else 0)
    by_cases h2 : 1 ≤ i ∧ i < k
    · rw [if_pos h2, if_pos (by omega)]
    · rw [if_neg h2, if_neg (by omega)]

/-- A pile of n places in blocks q, x. -/
structure PileMem (q x n : Nat) (next : Nat → Nat) (head : Int) (w : World) : Prop where
  ne : q ≠ x
  qh : CellIs w q 0 (.int .i64 head)
  qx : CellIs w q 1 (.slice (some ⟨x, 0, none⟩) (n + 1) (n + 1))
  nx : ∀ i, i ≤ n → CellIs w x i (.int .i64 (next i : Nat))

theorem PileMem.set {q x n k v : Nat} {next : Nat → Nat} {head : Int} {w : World} (h : PileMem q x n next head w) (hk : k ≤ n) : PileMem q x n (upd next k v) head (w.setCell ⟨x, k, none⟩ (.int .i64 (v : Nat))) :=
  ⟨h.ne, h.qh.other (.inl h.ne), h.qx.other (.inl h.ne), fun i hi => by
    by_cases e : i = k
    · subst e; rw [upd_same]; exact (h.nx i hi).set
    · rw [upd_other _ _ _ _ e]; exact (h.nx i hi).other (.inr e)⟩
theorem PileMem.of_blocks {q x n : Nat} {next : Nat → Nat} {head : Int} {w w' : World} (h : PileMem q x n next head w) (hq : w'.heap[q]? = w.heap[q]?) (hx : w'.heap[x]? = w.heap[x]?) : PileMem q x n next head w' :=
  ⟨h.ne, h.qh.of_block hq, h.qx.of_block hq, fun i hi => (h.nx i hi).of_block hx⟩

def QNewEnd (n : Nat) (w : World) (e : Ending) (w' : World) : Prop := ∃ q x, e = .returned (.tuple #[.pointer (some ⟨q, 0, none⟩), .int .i64 0]) ∧ PileMem q x n (nextTo n) 1099511627776 w' ∧ Below w.heap.size w w' ∧ w.heap.size ≤ q ∧ w.heap.size ≤ x

set_option maxRecDepth 100000 in
set_option maxHeartbeats 1600000 in
theorem qnew_any (n : Nat) (w : World) (h1 : 1 ≤ n) (h2 : n ≤ 4096) : Calls Tryz.prog 53 #[.int .i64 n, .int .i64 0] w (QNewEnd n w) := by
  obtain ⟨ia, hia, za0, za1, za2⟩ := info_parts infoA64
  obtain ⟨w1, hrun, hown, hgrow⟩ := run_make_full (P := Tryz.prog) w w.heap.size 73 72 ia _ 1 Tryz.underlying73 hia za0 za1 .i64 .i64 (n + 1) (by rw [za2]; omega) (by unfold maxLen; omega) (Nat.le_refl _)
  have hb1 : Below w.heap.size w w1 := (Below.refl _ _).grown hgrow (Nat.le_refl _) (fun k hk => by cases hk)
  have hsz : w.heap.size < w1.heap.size := (hown.lt w.heap.size rfl).2
  have d1 : decide ((n : Int) < 1) = false := by simp; omega
  have d2 : decide ((4096 : Int) < (n : Int)) = false := by simp; omega
  have hls : ∀ i, i < n + 1 → CellIs w1 w.heap.size i (.int .i64 0) := fun i hi => by
    refine ⟨?_, hown.frozenAt i⟩
    rw [hown.cellAt i (by omega)]
    have e : (madeCells (Value.agg #[.int .i64 0]).cells ((n + 1) * 1)).toList = List.replicate ((n + 1) * 1) (.int .i64 0) := toList_madeCells_one _ _
    rw [e, List.getElem?_replicate, if_pos (by omega)]
  obtain ⟨W, hW⟩ : ∃ W, W = w1.alloc (.cells #[.int .i64 0, .slice (some ⟨w.heap.size, 0, none⟩) (n + 1) (n + 1)] 182) := ⟨_, rfl⟩
  have gW : W.heap[w1.heap.size]? = some (.cells #[.int .i64 0, .slice (some ⟨w.heap.size, 0, none⟩) (n + 1) (n + 1)] 182 (0, 0)) := by rw [hW]; exact heap_alloc_new _ _
  have e0 : CellIs W w1.heap.size 0 (.int .i64 0) := ⟨by simp [World.cell?, gW], by simp [World.frozen?, gW]⟩
  have e1 : CellIs W w1.heap.size 1 (.slice (some ⟨w.heap.size, 0, none⟩) (n + 1) (n + 1)) := ⟨by simp [World.cell?, gW], by simp [World.frozen?, gW]⟩
  have hm : PileMem w1.heap.size w.heap.size n (nextTo 1) 1099511627776 (W.setCell ⟨w1.heap.size, 0, none⟩ (.int .i64 1099511627776)) := by
    refine ⟨by omega, e0.set, e1.other (.inr (by decide)), fun i hi => ?_⟩
    have e : nextTo 1 i = 0 := by unfold nextTo; rw [if_neg (by omega)]
    rw [e]
    refine CellIs.other ?_ (.inl (by omega))
    rw [hW]; exact (hls i (by omega)).of_block (Below.heap_alloc _ _ _ hsz)
  have kW : Below w.heap.size w (W.setCell ⟨w1.heap.size, 0, none⟩ (.int .i64 1099511627776)) := by
    rw [hW]; exact (hb1.alloc (by omega) _).setCell (by show w.heap.size ≤ w1.heap.size; omega) _
  have e0c := e0.cell
  have e0f := e0.frz
  have HM := Lib.hid hm
  have KW := Lib.hid kW
  have HW := Lib.hid hW
  have hpk : ∀ w, Calls Tryz.prog 87 #[.int .i64 1, .int .i64 0] w fun e w' => e = .returned (.tuple #[.int .i64 1099511627776, .int .i64 0]) ∧ w = w' := fun w => pack_word 1 0 w (by decide) (by decide) (by decide) (by decide)
  have Hpk := Lib.hid hpk
  clear hown hgrow hls hb1 gW e0 e1 hm kW hW hpk
  have hn1 : ((n + 1 : Nat) : Int) = (n : Int) + 1 := by omega
  rw [hn1] at hrun
  go_enter Tryz.func53, Tryz.ntmps53
  go_wp2_with (first | (go_at_call 87; ((with_reducible refine (Hpk.out _).mono ?_); rintro e w' ⟨rfl, rfl⟩)))
  rw [← HW.out]
  go_wp2_with (first | (go_at_call 23; ((with_reducible refine (i64store _ _ _ _ _ e0c e0f).mono ?_); rintro e w' ⟨rfl, rfl⟩)))
  go_loopw [9] (fun iv wr => ∃ i : Nat, iv = .int .i64 (i : Int) ∧ 1 ≤ i ∧ (i ≤ n ∨ i = 1) ∧ PileMem w1.heap.size w.heap.size n (nextTo i) 1099511627776 wr ∧ Below w.heap.size w wr) (fun i _ => n - (intOf i).toNat)
  case atStart => exact ⟨1, rfl, Nat.le_refl _, .inr rfl, HM.out, KW.out⟩
  case round =>
    clear HM KW
    obtain ⟨i, rfl, hi1, hi, hm, hk⟩ := hrel
    have Hm := Lib.hid hm
    have Hk := Lib.hid hk
    have q1 := hm.qx.cell
    clear hk
    by_cases hil : i < n
    · have hst := hm.set (k := i) (v := i + 1) (by omega)
      rw [← nextTo_step i hi1] at hst
      have Hst := Lib.hid hst
      have c0 := hm.nx i (by omega)
      have c0c := c0.cell
      have c0f := c0.frz
      have b0 : (0 : Int) ≤ (i : Int) := by omega
      have b1 : (i : Int) < (n : Int) + 1 := by omega
      generalize nextTo i i = y at *
      clear hm hst c0
      go_wp2_with (first | (go_at_call 23; ((with_reducible refine (i64store _ _ _ _ _ c0c c0f).mono ?_); rintro e w' ⟨rfl, rfl⟩)))
      go_roundw
      case rel => exact ⟨i + 1, by go_num, by omega, .inl (by omega), Hst.out, Hk.out.setCell (Nat.le_refl _) _⟩
      case measure => simp [intOf]; omega
    · have hin : i = n := by omega
      clear hm
      go_wp2
      go_ret2
      have hm2 := Hm.out
      rw [hin] at hm2
      exact ⟨_, _, rfl, hm2, Hk.out, by omega, Nat.le_refl _⟩

theorem infoSlot : (Tryz.prog.info? 175).map (fun i => (i.zero, i.size, i.bytes)) = some (some (.agg #[.int .i64 0, .int .i64 0, .int .i64 0, .int .i64 0, .int .i64 0, .int .i64 0, .int .i64 0]), 7, 56) := by kernel_rfl

theorem zero_slot (n j : Nat) (h : j < n) : (madeCells (Value.agg #[.int .i64 0, .int .i64 0, .int .i64 0, .int .i64 0, .int .i64 0, .int .i64 0, .int .i64 0]).cells n).toList[j]? = some (.int .i64 0) := by
  have hj : j % 7 = 0 ∨ j % 7 = 1 ∨ j % 7 = 2 ∨ j % 7 = 3 ∨ j % 7 = 4 ∨ j % 7 = 5 ∨ j % 7 = 6 := by omega
  have e : (Value.agg #[.int .i64 0, .int .i64 0, .int .i64 0, .int .i64 0, .int .i64 0, .int .i64 0, .int .i64 0]).cells = #[.int .i64 0, .int .i64 0, .int .i64 0, .int .i64 0, .int .i64 0, .int .i64 0, .int .i64 0] := rfl
  rw [e]
  unfold madeCells
  rw [Array.getElem?_toList, Array.getElem?_map]
  simp only [Array.getElem?_range, h, if_true, Option.map_some]
  show some (#[Value.int .i64 0, .int .i64 0, .int .i64 0, .int .i64 0, .int .i64 0, .int .i64 0, .int .i64 0][j % 7]!) = _
  rcases hj with e | e | e | e | e | e | e <;> rw [e] <;> rfl

def slot0 : Slot := ⟨0, 0, 0, 0, 0, 0, 0⟩

def PNewEnd (n : Nat) (w : World) (e : Ending) (w' : World) : Prop := ∃ K : PB, e = .returned (.tuple #[.pointer (some ⟨K.p, 0, none⟩), .int .i64 0]) ∧ PoolMem K n (fun _ => slot0) (nextTo n) 1099511627776 w' ∧ Below w.heap.size w w' ∧ ∀ k, K.has k → w.heap.size ≤ k

set_option maxRecDepth 100000 in
set_option maxHeartbeats 1600000 in
theorem pnew_any (n : Nat) (w : World) (h1 : 1 ≤ n) (h2 : n ≤ 4096) : Calls Tryz.prog 16 #[.int .i64 n] w (PNewEnd n w) := by
  obtain ⟨ia, hia, za0, za1, za2⟩ := info_parts infoSlot
  have hq := qnew_any n w h1 h2
  have Hq := Lib.hid hq
  clear hq
  go_enter Tryz.func16, Tryz.ntmps16
  go_wp2_with fail
  refine Hq.out.mono ?_
  rintro e w1 ⟨q, x, rfl, hm, hb, hq1, hx1⟩
  have hs1 := hb.size
  have hqlt := hm.qh.lt
  have hxlt := (hm.nx 0 (Nat.zero_le _)).lt
  obtain ⟨w2, hrun, hown, hgrow⟩ := run_make_full (P := Tryz.prog) w1 w1.heap.size 84 175 ia _ 7 Tryz.underlying84 hia za0 za1 .i64 .i64 (n + 1) (by rw [za2]; omega) (by unfold maxLen; omega) (Nat.le_refl _)
  have hn1 : ((n + 1 : Nat) : Int) = (n : Int) + 1 := by omega
  rw [hn1] at hrun
  have hb2 : Below w.heap.size w w2 := hb.grown hgrow hs1 (fun k hk => by cases hk)
  have hsz : w1.heap.size < w2.heap.size := (hown.lt w1.heap.size rfl).2
  have hsl : ∀ i, i ≤ n → ∀ j, j < 7 → CellIs w2 w1.heap.size (i * 7 + j) (.int .i64 0) := fun i hi j hj => by
    refine ⟨?_, hown.frozenAt _⟩
    rw [hown.cellAt _ (by omega)]
    exact zero_slot _ _ (by omega)
  have hm2 : PileMem q x n (nextTo n) 1099511627776 w2 := hm.of_blocks (hgrow.block q hqlt (fun e => by cases e)) (hgrow.block x hxlt (fun e => by cases e))
  obtain ⟨W, hW⟩ : ∃ W, W = w2.alloc (.cells #[.slice (some ⟨w1.heap.size, 0, none⟩) (n + 1) (n + 1), .pointer (some ⟨q, 0, none⟩), .int .i64 0] 87) := ⟨_, rfl⟩
  have gW : W.heap[w2.heap.size]? = some (.cells #[.slice (some ⟨w1.heap.size, 0, none⟩) (n + 1) (n + 1), .pointer (some ⟨q, 0, none⟩), .int .i64 0] 87 (0, 0)) := by rw [hW]; exact heap_alloc_new _ _
  have oW : ∀ k, k < w2.heap.size → W.heap[k]? = w2.heap[k]? := fun k hk => by rw [hW]; exact Below.heap_alloc _ _ _ hk
  have hbW : Below w.heap.size w W := by rw [hW]; exact hb2.alloc (by have := hb2.size; omega) _
  have hmW := hm2.of_blocks (oW q (by omega)) (oW x (by omega))
  have hpool : PoolMem ⟨w2.heap.size, w1.heap.size, q, x⟩ n (fun _ => slot0) (nextTo n) 1099511627776 W := by
    refine ⟨⟨by show w2.heap.size ≠ w1.heap.size; omega, by show w2.heap.size ≠ q; omega, by show w2.heap.size ≠ x; omega, by show w1.heap.size ≠ q; omega, by show w1.heap.size ≠ x; omega, hm.ne⟩, ⟨h1, h2⟩, ?_, ?_, ?_, fun i hi j hj => ?_, hmW.qh, hmW.qx, hmW.nx, fun i hi => ?_, by omega⟩
    · exact ⟨by simp [World.cell?, gW], by simp [World.frozen?, gW]⟩
    · exact ⟨by simp [World.cell?, gW], by simp [World.frozen?, gW]⟩
    · exact ⟨by simp [World.cell?, gW], by simp [World.frozen?, gW]⟩
    · have e : slot0.cells j = 0 := by
        match j, hj with
        | 0, _ | 1, _ | 2, _ | 3, _ | 4, _ | 5, _ | 6, _ => rfl
      show CellIs W w1.heap.size (i * 7 + j) (.int .i64 (slot0.cells j))
      rw [e]
      exact (hsl i hi j hj).of_block (oW _ hsz)
    · unfold nextTo; split <;> omega
  have Hpool := Lib.hid hpool
  have HbW := Lib.hid hbW
  have HW := Lib.hid hW
  clear hm hb hown hgrow hb2 hsl hm2 hW gW oW hbW hmW hpool Hq
  go_wp2_with fail
  rw [← HW.out]
  go_ret2
  refine ⟨⟨w2.heap.size, w1.heap.size, q, x⟩, rfl, Hpool.out, HbW.out, fun k hk => ?_⟩
  rcases hk with e | e | e | e
  · have e : k = w2.heap.size := e
    omega
  · have e : k = w1.heap.size := e
    omega
  · have e : k = q := e
    omega
  · have e : k = x := e
    omega
end Go.Proofs.YtadelkancmbanaaGreat
