/-
  slices.Delete of one entry of what waits.
-/
import Derived.Test.YtadelkancmbanaaGreatBEpoch2
import Derived.Deep.DeepAppendRoom
import Derived.Lib.SliceRun
namespace Go.Proofs.YtadelkancmbanaaGreat
open Go.RowKit
attribute [local go_sem ↓] Go.wp_at_zero Go.wp_at_succ

theorem run_clear_one (w : World) (ty : TypeId) (b o c : Nat) (hc : ∀ j, j < 2 → (w.cell? ⟨b, o + j, none⟩).isSome = true) (hf : ∀ j, j < 2 → w.frozen? ⟨b, o + j, none⟩ = false) :
    (Builtin.clear_ #[130] ty #[.slice (some ⟨b, o, none⟩) 1 c]).run Tryz.prog w = .ok (.tuple #[]) (w.setCells b o [.int .i64 0, .int .i64 0]) := by
  obtain ⟨ie, hie, ze0, ze1, ze2⟩ := info_parts infoW
  have hv : ∀ w, (zeroValue 160).run Tryz.prog w = .ok (.agg #[.int .i64 0, .int .i64 0]) w := fun w => by kernel_rfl
  have hst := run_storeCells_cells (P := Tryz.prog) b o [.int .i64 0, .int .i64 0] 0 w (by simpa using hc) (by simpa using hf) (by intro v hv'; simp at hv'; rw [hv']; rfl)
  simp only [Nat.add_zero] at hst
  have hzc : (Builtin.zeroCells (Value.agg #[.int .i64 0, .int .i64 0]).cells 1).toList = [.int .i64 0, .int .i64 0] := by simp [Builtin.zeroCells, Value.cells]; rfl
  simp [Builtin.clear_, run_underlying Tryz.underlying130, hv, hzc, hst]

theorem addr_add (b o j : Nat) : (⟨b, o, none⟩ : Addr).add j = ⟨b, o + j, none⟩ := by unfold Addr.add; split <;> simp_all

theorem wCells_take (ws : List (Int × Int)) : ∀ i, wCells (ws.take i) = (wCells ws).take (i * 2) := by
  induction ws with
  | nil => intro i; simp [wCells]
  | cons e r ih =>
    intro i
    cases i with
    | zero => simp [wCells]
    | succ i => rw [show (i + 1) * 2 = i * 2 + 2 by omega]; simp [wCells, ih]
theorem wCells_drop (ws : List (Int × Int)) : ∀ i, wCells (ws.drop i) = (wCells ws).drop (i * 2) := by
  induction ws with
  | nil => intro i; simp [wCells]
  | cons e r ih =>
    intro i
    cases i with
    | zero => simp [wCells]
    | succ i => rw [show (i + 1) * 2 = i * 2 + 2 by omega]; simp [wCells, ih]
theorem wCells_one (ws : List (Int × Int)) : ∀ u ∈ wCells ws, u.oneCell' = true := by
  induction ws with
  | nil => intro u hu; simp [wCells] at hu
  | cons e r ih =>
    intro u hu
    simp only [wCells, List.mem_cons] at hu
    rcases hu with rfl | rfl | hu
    · rfl
    · rfl
    · exact ih u hu

def DelEnd (B g cap i : Nat) (ws : List (Int × Int)) (w : World) (e : Ending) (w' : World) : Prop :=
  e = .returned (.slice (some ⟨g, 0, none⟩) (ws.length - 1) cap) ∧ WRow B (.slice (some ⟨g, 0, none⟩) (ws.eraseIdx i).length cap) (ws.eraseIdx i) w' ∧ Keep (fun k => k = g) w.heap.size w w'

theorem row_blk {B g n cap : Nat} {xs : List Value} {w : World} (h : w.ownsRow B 160 2 (.slice (some ⟨g, 0, none⟩) n cap) n xs) : ∃ cur, B ≤ g ∧ w.heap[g]? = some (.cells cur 160 (0, 0)) ∧ n ≤ cap ∧ cap ≤ maxLen ∧ cur.size = cap * 2 ∧ cur.toList.take (n * 2) = xs := by
  rcases h.2 with ⟨e, _⟩ | ⟨g', cap', cur, e, h1, h2, h3, h4, h5, h6⟩
  · cases e
  · cases e; exact ⟨cur, h1, h2, h3, h4, h5, h6⟩

theorem WRow.blk {B g cap : Nat} {ws : List (Int × Int)} {w : World} (h : WRow B (.slice (some ⟨g, 0, none⟩) ws.length cap) ws w) : ∃ cur, B ≤ g ∧ w.heap[g]? = some (.cells cur 160 (0, 0)) ∧ ws.length ≤ cap ∧ cap ≤ maxLen ∧ cur.size = cap * 2 ∧ cur.toList.take (ws.length * 2) = wCells ws := by
  rcases h.2 with ⟨e, _⟩ | ⟨g', cap', cur, e, h1, h2, h3, h4, h5, h6⟩
  · cases e
  · cases e; exact ⟨cur, h1, h2, h3, h4, h5, h6⟩

set_option maxRecDepth 100000 in
set_option maxHeartbeats 1600000 in
theorem del_any (B g cap i : Nat) (ws : List (Int × Int)) (w : World) (hr : WRow B (.slice (some ⟨g, 0, none⟩) ws.length cap) ws w) (hi : i < ws.length) (hl : ws.length ≤ 100000) :
    Calls Tryz.prog 72 #[.slice (some ⟨g, 0, none⟩) ws.length cap, .int .i64 i, .int .i64 (i + 1 : Nat)] w (DelEnd B g cap i ws w) := by
  obtain ⟨ie, hie, ze0, ze1, ze2⟩ := info_parts infoW
  obtain ⟨cur, hB, hg, hlc, hcm, hcs, hct⟩ := hr.blk
  have hgl : g < w.heap.size := (Array.getElem?_eq_some_iff.1 hg).1
  have hpre : w.drew.ownsRow B 160 2 (.slice (some ⟨g, 0, none⟩) i cap) i (wCells (ws.take i)) := by
    refine ⟨by rw [wCells_length, List.length_take]; omega, .inr ⟨g, cap, cur, rfl, hB, hg, by omega, hcm, hcs, ?_⟩⟩
    rw [wCells_take, ← hct, List.take_take, Nat.min_eq_left (by omega)]
  have hnews : ∀ j u, (wCells (ws.drop (i + 1)))[j]? = some u → w.drew.cell? ((⟨g, (i + 1) * 2, none⟩ : Addr).add j) = some u := fun j u hj => by
    rw [wCells_drop, List.getElem?_drop] at hj
    rw [addr_add]
    show w.cell? ⟨g, (i + 1) * 2 + j, none⟩ = some u
    have hlt : (i + 1) * 2 + j < ws.length * 2 := by
      have := (List.getElem?_eq_some_iff.1 hj).1
      rwa [wCells_length] at this
    rw [World.ownsRow.cellAt (base := B) (e := 160) hr _ hlt]
    exact hj
  have Hpre := Lib.hid hpre
  have Hnews := Lib.hid hnews
  have t1 : ((i : Int) + 1).toNat = i + 1 := by omega
  have b0 : (0 : Int) ≤ (i : Int) := by omega
  have b1 : (i : Int) < (ws.length : Int) := by omega
  have b2 : (i : Int) + 1 ≤ (ws.length : Int) := by omega
  have b3 : (ws.length : Int) ≤ (cap : Int) := by omega
  have b5 : (i : Int) ≤ (cap : Int) := by omega
  have b6 : (0 : Int) ≤ (i : Int) + 1 := by omega
  have b7 : (i : Int) + 1 ≤ (cap : Int) := by omega
  have b4 : ((i : Int) == (i : Int) + 1) = false := by rw [beq_eq_false_iff_ne]; omega
  clear hr hpre hnews hct
  go_enter Tryz.func72, Tryz.ntmps72
  go_wp2_with fail
  refine wp_region_still_tail 6 (by kernel_rfl) (by kernel_rfl) ?_
  simp only [List.take_succ_cons, List.take_zero, List.drop_succ_cons, List.drop_zero]
  change wpStill _ _ (World.drew _) _ _ _
  repeat (first | (refine wpStill_step (fun K hK => ?_); go_simp; refine hK _ ?_; clear hK K))
  refine wpStill_nil ?_
  change wpList _ _ _ _ _ (World.drew _)
  rw [show (if cap = i + 1 then some (⟨g, 0, none⟩ : Addr) else some ⟨g, (i + 1) * 2, none⟩) = some (if cap = i + 1 then ⟨g, 0, none⟩ else ⟨g, (i + 1) * 2, none⟩) from by split <;> rfl]
  have hnews2 : ∀ j u, (wCells (ws.drop (i + 1)))[j]? = some u → w.drew.cell? ((if cap = i + 1 then (⟨g, 0, none⟩ : Addr) else ⟨g, (i + 1) * 2, none⟩).add j) = some u := fun j u hj => by
    by_cases e : cap = i + 1
    · have : ws.drop (i + 1) = [] := List.drop_eq_nil_of_le (by omega)
      rw [this] at hj
      simp [wCells] at hj
    · rw [if_neg e]; exact Hnews.out j u hj
  have Hnews2 := Lib.hid hnews2
  obtain ⟨m, hmm⟩ : ∃ m, m = i + (ws.length - (i + 1)) := ⟨_, rfl⟩
  have Hmm := Lib.hid hmm
  have hm1 : ws.length - m = 1 := by omega
  have hm2 : m ≤ ws.length := by omega
  have b8 : (m : Int) ≤ (ws.length : Int) := by omega
  have b9 : (0 : Int) ≤ (m : Int) := by omega
  clear hmm
  clear hnews2
  generalize (if cap = i + 1 then (⟨g, 0, none⟩ : Addr) else ⟨g, (i + 1) * 2, none⟩) = ad at *
  go_wp2_with (at_builtin; go_loud (refine wpList_append_own_spare _ rfl (.tmp 22) (.tmp 25) 130 rfl B 160 ie 2 Tryz.underlying130 hie ze1 g i cap (wCells (ws.take i)) rfl Hpre.out ad (ws.length - (i + 1)) (cap - (i + 1)) (wCells (ws.drop (i + 1))) rfl (by rw [wCells_length, List.length_drop]) Hnews2.out (wCells_one _) (by omega) ?_; intro w1 hown hgrow; rw [← Hmm.out] at hown ⊢; obtain ⟨cur1, q1, q2, q3, q4, q5, q6⟩ := row_blk hown; have hclr := fun ty => run_clear_one w1 ty g (m * 2) (cap - m) (fun j hj => by simp [World.cell?, q2]; omega) (fun j hj => by simp [World.frozen?, q2]); have Q2 := Lib.hid q2; have Q := Lib.hid (And.intro q4 (And.intro q5 q6)); have Hown := Lib.hid hown; have Hgrow := Lib.hid hgrow; clear hown hgrow q1 q2 q3 q4 q5 q6))
  go_ret
  have hml : m = ws.length - 1 := by omega
  have hel : (ws.eraseIdx i).length = m := by rw [List.length_eraseIdx, if_pos hi]; omega
  have hgrow := Hgrow.out
  refine ⟨by rw [hml]; rfl, ?_, ?_⟩
  · unfold WRow
    rw [hel]
    refine ⟨by rw [wCells_length, hel], .inr ⟨g, cap, _, rfl, hB, heap_setCell_same _ _ _ _ _ _ (heap_setCell_same _ _ _ _ _ _ Q2.out), by omega, Q.out.1, by simpa using Q.out.2.1, ?_⟩⟩
    rw [Array.toList_setIfInBounds, Array.toList_setIfInBounds, List.take_set_of_le (by omega), List.take_set_of_le (by omega), Q.out.2.2, List.eraseIdx_eq_take_drop_succ, wCells_append]
  · have k1 : Keep (fun k => k = g) w.heap.size w w1 := (Keep.refl _ _ _).drew.trans ⟨hgrow.os, hgrow.tape, hgrow.output, hgrow.size, fun k hk hs => hgrow.block k hk (fun e => hs (by injection e))⟩
    exact (k1.setCell (p := ⟨g, m * 2, none⟩) (.inl rfl) _).setCell (p := ⟨g, m * 2 + 1, none⟩) (.inl rfl) _
end Go.Proofs.YtadelkancmbanaaGreat
