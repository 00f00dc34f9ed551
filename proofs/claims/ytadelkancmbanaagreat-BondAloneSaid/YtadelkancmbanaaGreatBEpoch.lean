/-
  An epoch: within, out; what waits.
-/
import Derived.Test.YtadelkancmbanaaGreatBNew
namespace Go.Proofs.YtadelkancmbanaaGreat
open Go.RowKit
attribute [local go_sem ↓] Go.wp_at_zero Go.wp_at_succ

def wCells : List (Int × Int) → List Value
  | [] => []
  | x :: r => .int .i64 x.1 :: .int .i64 x.2 :: wCells r
theorem wCells_append (l m : List (Int × Int)) : wCells (l ++ m) = wCells l ++ wCells m := by
  induction l with
  | nil => rfl
  | cons e r ih => simp [wCells, ih]
theorem wCells_length (l : List (Int × Int)) : (wCells l).length = l.length * 2 := by
  induction l with
  | nil => rfl
  | cons e r ih => simp [wCells, ih]; omega

/-- An epoch in block b, of one worker; what waits: the row v. -/
structure EpochMem (b p : Nat) (now at0 deep : Int) (v : Value) (w : World) : Prop where
  pp : w.cell? ⟨b, 0, none⟩ = some (.pointer (some ⟨p, 0, none⟩))
  wk : w.cell? ⟨b, 1, none⟩ = some (.int .i64 1)
  nw : CellIs w b 2 (.int .i64 now)
  at_ : CellIs w b 3 (.int .i64 at0)
  dp : CellIs w b 11 (.int .i64 deep)
  ls : CellIs w b 12 v
  now0 : 1 ≤ now ∧ now ≤ 1000000

theorem EpochMem.lt {b p : Nat} {now at0 deep : Int} {v : Value} {w : World} (h : EpochMem b p now at0 deep v w) : b < w.heap.size := h.nw.lt
theorem EpochMem.of_block {b p : Nat} {now at0 deep : Int} {v : Value} {w w' : World} (h : EpochMem b p now at0 deep v w) (hb : w'.heap[b]? = w.heap[b]?) : EpochMem b p now at0 deep v w' :=
  ⟨(World.cell?_of_block (w := w) hb).trans h.pp, (World.cell?_of_block (w := w) hb).trans h.wk, h.nw.of_block hb, h.at_.of_block hb, h.dp.of_block hb, h.ls.of_block hb, h.now0⟩
theorem cell_far {w : World} {b o o' : Nat} {u v : Value} (h : w.cell? ⟨b, o, none⟩ = some u) (hne : o' ≠ o) : (w.setCell ⟨b, o', none⟩ v).cell? ⟨b, o, none⟩ = some u :=
  (World.cell?_setCell_other _ _ _ _ (by intro e; injection e with _ e; exact hne e)).trans h
theorem EpochMem.setAt {b p : Nat} {now at0 deep y : Int} {v : Value} {w : World} (h : EpochMem b p now at0 deep v w) : EpochMem b p now y deep v (w.setCell ⟨b, 3, none⟩ (.int .i64 y)) :=
  ⟨cell_far h.pp (by decide), cell_far h.wk (by decide), h.nw.other (.inr (by decide)), h.at_.set, h.dp.other (.inr (by decide)), h.ls.other (.inr (by decide)), h.now0⟩
theorem EpochMem.setDeep {b p : Nat} {now at0 deep y : Int} {v : Value} {w : World} (h : EpochMem b p now at0 deep v w) : EpochMem b p now at0 y v (w.setCell ⟨b, 11, none⟩ (.int .i64 y)) :=
  ⟨cell_far h.pp (by decide), cell_far h.wk (by decide), h.nw.other (.inr (by decide)), h.at_.other (.inr (by decide)), h.dp.set, h.ls.other (.inr (by decide)), h.now0⟩
theorem EpochMem.setNow {b p : Nat} {now at0 deep y : Int} {v : Value} {w : World} (h : EpochMem b p now at0 deep v w) (hy : 1 ≤ y ∧ y ≤ 1000000) : EpochMem b p y at0 deep v (w.setCell ⟨b, 2, none⟩ (.int .i64 y)) :=
  ⟨cell_far h.pp (by decide), cell_far h.wk (by decide), h.nw.set, h.at_.other (.inr (by decide)), h.dp.other (.inr (by decide)), h.ls.other (.inr (by decide)), hy⟩
theorem EpochMem.setList {b p : Nat} {now at0 deep : Int} {v y : Value} {w : World} (h : EpochMem b p now at0 deep v w) : EpochMem b p now at0 deep y (w.setCell ⟨b, 12, none⟩ y) :=
  ⟨cell_far h.pp (by decide), cell_far h.wk (by decide), h.nw.other (.inr (by decide)), h.at_.other (.inr (by decide)), h.dp.other (.inr (by decide)), h.ls.set, h.now0⟩

set_option maxRecDepth 100000 in
theorem mine_any (b p : Nat) (now at0 deep : Int) (v : Value) (w : World) (h : EpochMem b p now at0 deep v w) : Calls Tryz.prog 66 #[.pointer (some ⟨b, 0, none⟩), .pointer none] w fun e w' => e = .returned (.pointer (some ⟨b, 11, none⟩)) ∧ w = w' := by
  have c1 := h.wk
  clear h
  go_enter Tryz.func66, Tryz.ntmps66
  go_wp2_with (first | (go_at_call 83; ((with_reducible refine (number_nil _).mono ?_); rintro e w' ⟨rfl, rfl⟩)))
  go_ret
  exact ⟨rfl, rfl⟩

set_option maxRecDepth 100000 in
set_option maxHeartbeats 800000 in
theorem enter_any (b p : Nat) (now : Int) (v : Value) (w : World) (h : EpochMem b p now 0 0 v w) : Calls Tryz.prog 45 #[.pointer (some ⟨b, 0, none⟩), .pointer none] w fun e w' => e = .returned (.int .i64 0) ∧ EpochMem b p now now 1 v w' ∧ Keep (fun k => k = b) w.heap.size w w' := by
  have hm := mine_any b p now 0 0 v w h
  have c2 := h.nw.cell
  have c3 := h.at_
  have c11 := h.dp
  have h2 := ((h.of_block (w' := w.drew) rfl).setAt (y := now)).setDeep (y := 1)
  have c3d : CellIs w.drew b 3 (.int .i64 0) := c3.of_block rfl
  have c3c := c3d.cell
  have c3f := c3d.frz
  have c11c := c11.cell
  have c11f := c11.frz
  have hnum := flipped (number_nil w.drew)
  have Hm := Lib.hid hm
  have H2 := Lib.hid h2
  have Hnum := Lib.hid hnum
  clear h hm c3 c3d c11 h2 hnum
  go_enter Tryz.func45, Tryz.ntmps45
  go_wp2_with (first | (go_at_call 66; ((with_reducible refine (Hm.out).mono ?_); rintro e w' ⟨rfl, rfl⟩)) | (go_at_call 22; ((with_reducible refine (step_nil _).mono ?_); rintro e w' ⟨rfl, rfl⟩)) | (go_at_call 31; ((with_reducible refine (i64load _ _ _ _ c2).mono ?_); rintro e w' ⟨rfl, rfl⟩)))
  refine wp_region_still_tail 7 (by kernel_rfl) (by kernel_rfl) ?_
  simp only [List.take_succ_cons, List.take_zero, List.drop_succ_cons, List.drop_zero]
  change wpStill _ _ (World.drew _) _ _ _
  repeat (first | (refine wpStill_step (fun K hK => ?_); go_simp; refine hK _ ?_; clear hK K) | (refine wpStill_step (fun K hK => ?_); go_simp; refine ⟨_, Hnum.out, hK _ ?_⟩; clear hK K))
  refine wpStill_nil ?_
  change wpList _ _ _ _ _ (World.drew _)
  go_wp2_with (first | (go_at_call 23; ((with_reducible refine (i64store _ _ _ _ _ c3c c3f).mono ?_); rintro e w' ⟨rfl, rfl⟩)))
  go_ret
  exact ⟨rfl, H2.out, (((Keep.refl (fun k => k = b) _ _).setCell (p := ⟨b, 3, none⟩) (.inl rfl) _).setCell (p := ⟨b, 11, none⟩) (.inl rfl) _).drew⟩

set_option maxRecDepth 100000 in
set_option maxHeartbeats 800000 in
theorem leave_any (b p : Nat) (now at0 : Int) (v : Value) (w : World) (h : EpochMem b p now at0 1 v w) : Calls Tryz.prog 46 #[.pointer (some ⟨b, 0, none⟩), .pointer none] w fun e w' => e = .returned (.int .i64 0) ∧ EpochMem b p now 0 0 v w' ∧ Keep (fun k => k = b) w.heap.size w w' := by
  have hm := mine_any b p now at0 1 v w h
  have c3 := h.at_
  have c11 := h.dp
  have h2 := ((h.of_block (w' := w.drew) rfl).setAt (y := 0)).setDeep (y := 0)
  have c3d : CellIs w.drew b 3 (.int .i64 at0) := c3.of_block rfl
  have c3c := c3d.cell
  have c3f := c3d.frz
  have c11c := c11.cell
  have c11f := c11.frz
  have hnum := flipped (number_nil w.drew)
  have Hm := Lib.hid hm
  have H2 := Lib.hid h2
  have Hnum := Lib.hid hnum
  clear h hm c3 c3d c11 h2 hnum
  go_enter Tryz.func46, Tryz.ntmps46
  go_wp2_with (first | (go_at_call 66; ((with_reducible refine (Hm.out).mono ?_); rintro e w' ⟨rfl, rfl⟩)) | (go_at_call 22; ((with_reducible refine (step_nil _).mono ?_); rintro e w' ⟨rfl, rfl⟩)))
  refine wp_region_still_tail 6 (by kernel_rfl) (by kernel_rfl) ?_
  simp only [List.take_succ_cons, List.take_zero, List.drop_succ_cons, List.drop_zero]
  change wpStill _ _ (World.drew _) _ _ _
  repeat (first | (refine wpStill_step (fun K hK => ?_); go_simp; refine hK _ ?_; clear hK K) | (refine wpStill_step (fun K hK => ?_); go_simp; refine ⟨_, Hnum.out, hK _ ?_⟩; clear hK K))
  refine wpStill_nil ?_
  change wpList _ _ _ _ _ (World.drew _)
  go_wp2_with (first | (go_at_call 23; ((with_reducible refine (i64store _ _ _ _ _ c3c c3f).mono ?_); rintro e w' ⟨rfl, rfl⟩)))
  go_ret
  exact ⟨rfl, H2.out, (((Keep.refl (fun k => k = b) _ _).setCell (p := ⟨b, 3, none⟩) (.inl rfl) _).setCell (p := ⟨b, 11, none⟩) (.inl rfl) _).drew⟩

theorem callAdvance1 (cap : Array Value) : ∀ w, (callFunc 68 cap).run Tryz.prog w = .ok (.enter 68 cap) w := fun w => by kernel_rfl

set_option maxRecDepth 100000 in
theorem advance1_any (q : Nat) (w : World) : Calls Tryz.prog 68 #[.int .i64 0, .int .i64 0, .pointer (some ⟨q, 0, none⟩)] w fun e w' => e = .returned (.bool true) ∧ w = w' := by
  go_enter Tryz.func68, Tryz.ntmps68
  go_wp2
  go_ret
  exact ⟨rfl, rfl⟩

set_option maxRecDepth 100000 in
set_option maxHeartbeats 800000 in
theorem others_any (b p q : Nat) (now deep : Int) (v : Value) (w : World) (h : EpochMem b p now 0 deep v w) : Calls Tryz.prog 67 #[.pointer (some ⟨b, 0, none⟩), .pointer none, .func (.func 68) #[] #[.pointer (some ⟨q, 0, none⟩)]] w fun e w' => e = .returned (.bool true) ∧ w = w' := by
  have c1 := h.wk
  have c3 := h.at_.cell
  have hcall := callAdvance1
  clear h
  go_enter Tryz.func67, Tryz.ntmps67
  go_wp2
  go_loopw [12] (fun iv wr => ∃ i : Nat, iv = .int .i64 (i : Int) ∧ i ≤ 1 ∧ w = wr) (fun i _ => 1 - (intOf i).toNat)
  case atStart => exact ⟨0, rfl, by omega, rfl⟩
  case round =>
    obtain ⟨i, rfl, hi, hwr⟩ := hrel
    subst hwr
    have hi2 : i = 0 ∨ i = 1 := by omega
    rcases hi2 with rfl | rfl
    · go_wp2_with (first | (go_at_call 22; ((with_reducible refine (step_nil _).mono ?_); rintro e w' ⟨rfl, rfl⟩)) | (go_at_call 31; ((with_reducible refine (i64load _ _ _ _ c3).mono ?_); rintro e w' ⟨rfl, rfl⟩)) | (go_at_call 68; refine (advance1_any q _).mono ?_; rintro e w' ⟨rfl, rfl⟩))
      go_roundw
      case rel => exact ⟨1, by go_num, by omega, trivial⟩
      case measure => simp [intOf]
    · go_wp2
      go_ret
      exact ⟨rfl, rfl⟩

set_option maxRecDepth 100000 in
set_option maxHeartbeats 800000 in
theorem advance_any (b p : Nat) (now : Int) (v : Value) (w : World) (h : EpochMem b p now 0 0 v w) (hn : now ≤ 999999) : Calls Tryz.prog 29 #[.pointer (some ⟨b, 0, none⟩), .pointer none] w fun e w' => e = .returned (.bool true) ∧ EpochMem b p (now + 1) 0 0 v w' ∧ Keep (fun k => k = b) w.heap.size w w' := by
  have hm := mine_any b p now 0 0 v w h
  have c2 := h.nw.cell
  have hlt := h.lt
  obtain ⟨now0, _⟩ := h.now0
  obtain ⟨W, hW⟩ : ∃ W, W = w.alloc (.cells #[.int .i64 now] 2) := ⟨_, rfl⟩
  have hmW : EpochMem b p now 0 0 v W := by rw [hW]; exact h.of_block (Below.heap_alloc _ _ _ hlt)
  have cW : W.cell? ⟨w.heap.size, 0, none⟩ = some (.int .i64 now) := by rw [hW]; exact new_cell _ _ _ _ rfl
  have kW : Keep (fun k => k = b) w.heap.size w W := by rw [hW]; exact (Keep.refl _ _ _).alloc (Nat.le_refl _) _
  have ho := others_any b p w.heap.size now 0 v W hmW
  have c2d : CellIs W.drew b 2 (.int .i64 now) := hmW.nw.of_block rfl
  have h2 := (hmW.of_block (w' := W.drew) rfl).setNow (y := now + 1) (by omega)
  have c2c := c2d.cell
  have c2f := c2d.frz
  have Hm := Lib.hid hm
  have Ho := Lib.hid ho
  have HW := Lib.hid hW
  have H2 := Lib.hid h2
  have KW := Lib.hid kW
  clear h hm hmW kW ho c2d h2 hW
  go_enter Tryz.func29, Tryz.ntmps29
  go_wp2_with (first | (go_at_call 66; ((with_reducible refine (Hm.out).mono ?_); rintro e w' ⟨rfl, rfl⟩)) | (go_at_call 22; ((with_reducible refine (step_nil _).mono ?_); rintro e w' ⟨rfl, rfl⟩)) | (go_at_call 31; ((with_reducible refine (i64load _ _ _ _ c2).mono ?_); rintro e w' ⟨rfl, rfl⟩)))
  rw [← HW.out]
  refine Ho.out.mono ?_
  rintro e w' ⟨rfl, rfl⟩
  go_wp2_with (first | (go_at_call 22; ((with_reducible refine (step_nil _).mono ?_); rintro e w' ⟨rfl, rfl⟩)))
  refine wp_region_still_tail 6 (by kernel_rfl) (by kernel_rfl) ?_
  simp only [List.take_succ_cons, List.take_zero, List.drop_succ_cons, List.drop_zero]
  change wpStill _ _ (World.drew _) _ _ _
  repeat (first | (refine wpStill_step (fun K hK => ?_); go_simp; refine hK _ ?_; clear hK K))
  refine wpStill_nil ?_
  change wpList _ _ _ _ _ (World.drew _)
  go_wp2_with (first | (go_at_call 24; ((with_reducible refine (i64cas _ _ _ _ _ c2c c2f).mono ?_); rintro e w' ⟨rfl, rfl⟩)))
  go_ret
  exact ⟨rfl, H2.out, ((KW.out.setCell (p := ⟨b, 2, none⟩) (.inl rfl) _).drew)⟩
end Go.Proofs.YtadelkancmbanaaGreat
