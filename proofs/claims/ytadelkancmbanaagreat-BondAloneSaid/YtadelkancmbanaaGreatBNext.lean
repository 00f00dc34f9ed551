/-
  bond.Cells: the next descriptor.
-/
import Derived.Test.YtadelkancmbanaaGreatBTrim
namespace Go.Proofs.YtadelkancmbanaaGreat
open Go.RowKit
attribute [local go_sem ↓] Go.wp_at_zero Go.wp_at_succ

structure NextEnd (Z : Fix) (S : St) (cv : Value) (w : World) (d : Nat) (w' : World) : Prop where
  next : Next Z S w { S with made := S.made + 1, db := upd S.db S.made d, st := upd S.st S.made 0, tag := upd S.tag d (10 + S.made) } w'
  new : w.heap.size ≤ d
  c1 : CellIs w' d 1 cv
  c2 : CellIs w' d 2 (.slice none 0 0)

theorem CellIs.setc {w : World} {b o b' o' : Nat} {u v : Value} (h : CellIs w b o u) (hne : b ≠ b' ∨ o ≠ o') : CellIs (w.setCell ⟨b', o', none⟩ v) b o u := h.other hne

/-- Behind next: the new descriptor lies at w.heap.size. -/
theorem next_end (Z : Fix) (S : St) (cv : Value) (m : Nat) (w wc : World) (hm : Mem Z S w) (hmm : m = S.made) (hmade : m ≤ 999)
    (hc : wc = (((w.setCell ⟨Z.X.x, 8196, none⟩ (.int .i64 ((m : Int) + 1))).alloc (.cells #[.int .i64 0, cv, .slice none 0 0] 123)).drew).setCell ⟨Z.X.x, 4 + 8 * m, none⟩ (.pointer (some ⟨w.heap.size, 0, none⟩))) :
    NextEnd Z S cv w w.heap.size wc := by
  have t := hm.tags
  obtain ⟨lx, lh, ld⟩ := hm.bond.lt
  have hs : wc.heap.size = w.heap.size + 1 := by rw [hc]; simp [World.setCell]
  have hblk : ∀ k, k < w.heap.size → k ≠ Z.X.x → wc.heap[k]? = w.heap[k]? := fun k hk hne => by
    rw [hc, Below.heap_setCell _ _ _ _ hne]
    show ((w.setCell _ _).alloc _).heap[k]? = _
    rw [Below.heap_alloc _ _ _ (by simpa [World.setCell] using hk), Below.heap_setCell _ _ _ _ hne]
  have keep : Keep (fun k => k = Z.X.x) w.heap.size w wc := by
    rw [hc]
    exact ((((Keep.refl (fun k => k = Z.X.x) w.heap.size w).setCell (p := ⟨Z.X.x, 8196, none⟩) (.inl rfl) _).alloc (by simp [World.setCell]) _).drew).setCell (p := ⟨Z.X.x, 4 + 8 * m, none⟩) (.inl rfl) _
  have hnew : wc.heap[w.heap.size]? = some (.cells #[.int .i64 0, cv, .slice none 0 0] 123 (0, 0)) := by
    rw [hc, Below.heap_setCell _ _ _ _ (by show w.heap.size ≠ Z.X.x; omega)]
    have h1 := heap_alloc_new (w.setCell ⟨Z.X.x, 8196, none⟩ (.int .i64 ((m : Int) + 1))) (.cells #[.int .i64 0, cv, .slice none 0 0] 123)
    have e : (w.setCell ⟨Z.X.x, 8196, none⟩ (.int .i64 ((m : Int) + 1))).heap.size = w.heap.size := by simp [World.setCell]
    rw [e] at h1
    exact h1
  -- cells of the block of the cells
  have hmid : ∀ o u, CellIs (w.setCell ⟨Z.X.x, 8196, none⟩ (.int .i64 ((m : Int) + 1))) Z.X.x o u → CellIs (((w.setCell ⟨Z.X.x, 8196, none⟩ (.int .i64 ((m : Int) + 1))).alloc (.cells #[.int .i64 0, cv, .slice none 0 0] 123)).drew) Z.X.x o u := fun o u h => by
    refine h.of_block (w' := ((w.setCell ⟨Z.X.x, 8196, none⟩ (.int .i64 ((m : Int) + 1))).alloc (.cells #[.int .i64 0, cv, .slice none 0 0] 123)).drew) ?_
    show ((w.setCell _ _).alloc _).heap[Z.X.x]? = _
    rw [Below.heap_alloc _ _ _ (by simpa [World.setCell] using lx)]
  have hx : ∀ o u, CellIs w Z.X.x o u → o ≠ 8196 → o ≠ 4 + 8 * m → CellIs wc Z.X.x o u := fun o u h h1 h2 => by
    rw [hc]; exact (hmid o u (h.setc (.inr h1))).setc (.inr h2)
  have hxc : ∀ o, o ≠ 8196 → o ≠ 4 + 8 * m → wc.cell? ⟨Z.X.x, o, none⟩ = w.cell? ⟨Z.X.x, o, none⟩ := fun o h1 h2 => by
    rw [hc, World.cell?_setCell_other _ _ _ _ (by intro e; injection e with e1 e2; exact h2 e2.symm), World.cell?_drew, World.cell?_alloc_lt _ _ _ (by simpa [World.setCell] using lx), World.cell?_setCell_other _ _ _ _ (by intro e; injection e with e1 e2; exact h1 e2.symm)]
  have hd : ∀ j, j ≠ m → upd S.db S.made w.heap.size j = S.db j := fun j hj => upd_other _ _ _ _ (by rw [← hmm]; exact hj)
  have hd' : ∀ j, j ≠ m → upd S.st S.made (0 : Int) j = S.st j := fun j hj => upd_other _ _ _ _ (by rw [← hmm]; exact hj)
  have hdm : upd S.db S.made w.heap.size m = w.heap.size := by rw [← hmm]; exact upd_same _ _ _
  have hsm : upd S.st S.made (0 : Int) m = 0 := by rw [← hmm]; exact upd_same _ _ _
  have hB : BondMem Z.X S.heads (S.made + 1) (upd S.db S.made w.heap.size) (upd S.st S.made 0) wc := by
    refine ⟨hm.bond.ne, (hxc 0 (by decide) (by omega)).trans hm.bond.c0, (hxc 1 (by decide) (by omega)).trans hm.bond.c1, (hxc 2 (by decide) (by omega)).trans hm.bond.c2, (hxc 3 (by decide) (by omega)).trans hm.bond.hd, fun i hi => (hm.bond.head i hi).of_block (hblk _ lh hm.bond.ne.symm), fun d hd0 => ?_, ?_, fun j hj => ?_, fun j hj => ?_, hm.bond.few, by omega⟩
    · obtain ⟨u, hu⟩ := hm.bond.all d hd0
      by_cases e : d = 8 * m
      · subst e
        refine ⟨.pointer (some ⟨w.heap.size, 0, none⟩), ?_⟩
        rw [hc]; exact (hmid _ _ (hu.setc (.inr (by omega)))).set
      · exact ⟨u, hx _ _ hu (by omega) (by omega)⟩
    · have h1 : CellIs (w.setCell ⟨Z.X.x, 8196, none⟩ (.int .i64 ((m : Int) + 1))) Z.X.x 8196 (.int .i64 ((m : Int) + 1)) := hm.bond.mkd.set
      rw [hc, ← hmm]
      have h2 := (hmid _ _ h1).setc (b' := Z.X.x) (o' := 4 + 8 * m) (v := .pointer (some ⟨w.heap.size, 0, none⟩)) (.inr (by omega))
      exact h2
    · by_cases e : j = m
      · subst e
        rw [hdm, hsm]
        refine ⟨?_, ?_, ?_, ?_⟩
        · obtain ⟨u, hu⟩ := hm.bond.all (8 * j) (by omega)
          rw [hc]; exact (hmid _ _ (hu.setc (.inr (by omega)))).set.cell
        · simp [World.shape?, hnew]
        · simp [World.cell?, hnew]
        · simp [World.frozen?, hnew]
      · obtain ⟨q1, q2, q3⟩ := hm.bond.desc j (by omega)
        have l := ld j (by omega)
        have ne := (hm.bond.sep j (by omega)).1
        rw [hd j e, hd' j e]
        exact ⟨(hxc _ (by omega) (by omega)).trans q1, (shape_of_block (hblk _ l ne)).trans q2, q3.of_block (hblk _ l ne)⟩
    · by_cases e : j = m
      · subst e; rw [hdm]; exact ⟨by omega, by omega⟩
      · rw [hd j e]; exact hm.bond.sep j (by omega)
  have hu : ∀ k, S.tag k ≠ 0 → upd S.tag w.heap.size (10 + S.made) k = S.tag k := fun k hk => upd_other _ _ _ _ (by have := hm.taglt hk; omega)
  have hb : ∀ k, S.tag k ≠ 0 → S.tag k ≠ 2 → wc.heap[k]? = w.heap[k]? := fun k h0 h1 => hblk k (hm.taglt h0) fun e => h1 (by rw [e]; exact t.tX.1)
  refine ⟨⟨⟨hB, hm.pool.of_blocks fun k hk => hb k ?_ ?_, hm.ep.of_block (hb _ ?_ ?_), hm.row.of_block fun g hg => hb g ?_ ?_, hm.ck.of_block2 (hb _ ?_ ?_) (hb _ ?_ ?_), hm.xp,
    ⟨fun k hk => (hu k (by rw [t.tK k hk]; decide)).trans (t.tK k hk), ⟨(hu _ (by rw [t.tX.1]; decide)).trans t.tX.1, (hu _ (by rw [t.tX.2]; decide)).trans t.tX.2⟩, fun j hj => ?_, (hu _ (by rw [t.tE]; decide)).trans t.tE, ⟨(hu _ (by rw [t.tC.1]; decide)).trans t.tC.1, (hu _ (by rw [t.tC.2]; decide)).trans t.tC.2⟩, fun q hq => (hu _ (by rw [t.tV q hq]; decide)).trans (t.tV q hq), fun k hk' => ?_⟩, by have := hm.bB; omega⟩,
    keep.weaken fun k _ e => by show S.tag k ≠ 0; rw [e, t.tX.1]; decide, fun k hk => upd_other _ _ _ _ (by omega)⟩, Nat.le_refl _, ⟨?_, ?_⟩, ⟨?_, ?_⟩⟩
  · rw [t.tK k hk]; decide
  · rw [t.tK k hk]; decide
  · rw [t.tE]; decide
  · rw [t.tE]; decide
  · rw [t.tV g hg]; decide
  · rw [t.tV g hg]; decide
  · rw [t.tC.1]; decide
  · rw [t.tC.1]; decide
  · rw [t.tC.2]; decide
  · rw [t.tC.2]; decide
  · show upd S.tag w.heap.size (10 + S.made) (upd S.db S.made w.heap.size j) = 10 + j
    by_cases e : j = m
    · rw [e, hdm, upd_same, hmm]
    · have hj2 : j < S.made := by have : j < S.made + 1 := hj; omega
      rw [hd j e, hu _ (by rw [t.tD j hj2]; omega)]; exact t.tD j hj2
  · show upd S.tag w.heap.size (10 + S.made) k = 0
    rw [hs] at hk'
    rw [upd_other _ _ _ _ (by omega)]; exact t.new k (by omega)
  · simp [World.cell?, hnew]
  · simp [World.frozen?, hnew]
  · simp [World.cell?, hnew]
  · simp [World.frozen?, hnew]

set_option maxRecDepth 100000 in
set_option maxHeartbeats 1600000 in
theorem bnext_any (Z : Fix) (S : St) (g n : Nat) (w : World) (hm : Mem Z S w) (hmade : S.made ≤ 999) :
    Calls Tryz.prog 106 #[.pointer (some ⟨Z.X.x, 0, none⟩), .pointer none, .slice (some ⟨g, 0, none⟩) n n] w fun e w' => ∃ d, e = .returned (.tuple #[.pointer (some ⟨d, 0, none⟩), .int .i64 ((8 * S.made + 1 : Nat) : Int)]) ∧ NextEnd Z S (.slice (some ⟨g, 0, none⟩) n n) w d w' := by
  have hmk := hm.bond.mkd
  obtain ⟨u0, hu0⟩ := hm.bond.all (8 * S.made) (by omega)
  have hxl := hm.bond.lt.1
  have hmkc := hmk.cell
  have hmkf := hmk.frz
  obtain ⟨m, hmm⟩ : ∃ m, m = S.made := ⟨_, rfl⟩
  rw [← hmm] at hmk hmkc hu0 hmade ⊢
  have hw1 : IntKind.i64.wrap ((m : Int) + 1) = (m : Int) + 1 := by rw [IntKind.wrap_i64]; omega
  have hw2 : IntKind.i64.wrap (8 * (m : Int)) = 8 * (m : Int) := by rw [IntKind.wrap_i64]; omega
  have hw3 : IntKind.i64.wrap (8 * (m : Int) + 1) = 8 * (m : Int) + 1 := by rw [IntKind.wrap_i64]; omega
  have hw4 : ((m : Int) == 1024) = false := by rw [beq_eq_false_iff_ne]; omega
  have hw5 : (8 * (m : Int)) < 8192 := by omega
  have hw6 : 0 ≤ (8 * (m : Int)) := by omega
  have hw7 : (8 * (m : Int)).toNat = 8 * m := by omega
  have Hm := Lib.hid hm
  have Hmm := Lib.hid hmm
  have Hmk := Lib.hid hmk
  have Hu0 := Lib.hid hu0
  have Hxl := Lib.hid hxl
  clear hm hmm hmk hu0 hxl
  go_enter Tryz.func106, Tryz.ntmps106
  go_wp2_with (first | (go_at_call 83; ((with_reducible refine (number_nil _).mono ?_); rintro e w' ⟨rfl, rfl⟩)))
  refine wp_region_still_tail 10 (by kernel_rfl) (by kernel_rfl) ?_
  simp only [List.take_succ_cons, List.take_zero, List.drop_succ_cons, List.drop_zero]
  change wpStill _ _ (World.drew _) _ _ _
  repeat (first | (refine wpStill_step (fun K hK => ?_); go_simp; refine hK _ ?_; clear hK K))
  refine wpStill_nil ?_
  change wpList _ _ _ _ _ (World.drew _)
  go_wp2_with fail
  have hps : Calls Tryz.prog 122 #[.pointer (some ⟨Z.X.x, 4 + 8 * m, none⟩), .pointer (some ⟨w.heap.size, 0, none⟩)] ((w.setCell ⟨Z.X.x, 8196, none⟩ (.int .i64 ((m : Int) + 1))).alloc (.cells #[.int .i64 0, .slice (some ⟨g, 0, none⟩) n n, .slice none 0 0] 123)).drew fun e w' => e = .returned (.tuple #[]) ∧ NextEnd Z S (.slice (some ⟨g, 0, none⟩) n n) w w.heap.size w' := by
    have hs : (w.setCell ⟨Z.X.x, 8196, none⟩ (.int .i64 ((m : Int) + 1))).heap.size = w.heap.size := by simp [World.setCell]
    have hc := (Hu0.out.setc (b' := Z.X.x) (o' := 8196) (v := .int .i64 ((m : Int) + 1)) (.inr (by omega)))
    have hc2 : CellIs (((w.setCell ⟨Z.X.x, 8196, none⟩ (.int .i64 ((m : Int) + 1))).alloc (.cells #[.int .i64 0, .slice (some ⟨g, 0, none⟩) n n, .slice none 0 0] 123)).drew) Z.X.x (4 + 8 * m) u0 := by
      refine hc.of_block (w' := ((w.setCell ⟨Z.X.x, 8196, none⟩ (.int .i64 ((m : Int) + 1))).alloc (.cells #[.int .i64 0, .slice (some ⟨g, 0, none⟩) n n, .slice none 0 0] 123)).drew) ?_
      show ((w.setCell _ _).alloc _).heap[Z.X.x]? = _
      rw [Below.heap_alloc _ _ _ (by rw [hs]; exact Hxl.out)]
    have hg : (((w.setCell ⟨Z.X.x, 8196, none⟩ (.int .i64 ((m : Int) + 1))).alloc (.cells #[.int .i64 0, .slice (some ⟨g, 0, none⟩) n n, .slice none 0 0] 123)).drew).heap[w.heap.size]? = some (.cells #[.int .i64 0, .slice (some ⟨g, 0, none⟩) n n, .slice none 0 0] 123 (0, 0)) := by
      have h1 := heap_alloc_new (w.setCell ⟨Z.X.x, 8196, none⟩ (.int .i64 ((m : Int) + 1))) (.cells #[.int .i64 0, .slice (some ⟨g, 0, none⟩) n n, .slice none 0 0] 123)
      rw [hs] at h1
      exact h1
    refine (pstore Z.X.x (4 + 8 * m) w.heap.size u0 _ hc2.cell hc2.frz (by simp only [World.shape?, hg]; rfl)).mono ?_
    rintro e w' ⟨rfl, rfl⟩
    exact ⟨rfl, next_end Z S _ m w _ Hm.out Hmm.out hmade rfl⟩
  refine hps.mono ?_
  rintro e w' ⟨rfl, hn⟩
  clear hps
  go_wp2
  go_ret2
  refine ⟨w.heap.size, ?_, hn⟩
  rfl
end Go.Proofs.YtadelkancmbanaaGreat
