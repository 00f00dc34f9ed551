/-
  A new epoch.
-/
import Derived.Test.YtadelkancmbanaaGreatBCollect
namespace Go.Proofs.YtadelkancmbanaaGreat
open Go.RowKit
attribute [local go_sem ↓] Go.wp_at_zero Go.wp_at_succ

def ENewEnd (p : Nat) (w : World) (e : Ending) (w' : World) : Prop := ∃ b, e = .returned (.pointer (some ⟨b, 0, none⟩)) ∧ EpochMem b p 1 0 0 (.slice none 0 0) w' ∧ Below w.heap.size w w' ∧ w.heap.size ≤ b

set_option maxRecDepth 100000 in
set_option maxHeartbeats 1600000 in
theorem enew_any (p : Nat) (w : World) : Calls Tryz.prog 18 #[.pointer (some ⟨p, 0, none⟩), .int .i64 1] w (ENewEnd p w) := by
  obtain ⟨W, hW⟩ : ∃ W, W = w.alloc (.cells #[.pointer (some ⟨p, 0, none⟩), .int .i64 1, .int .i64 0, .int .i64 0, .int .i64 0, .int .i64 0, .int .i64 0, .int .i64 0, .int .i64 0, .int .i64 0, .int .i64 0, .int .i64 0, .slice none 0 0, .int .i64 0, .slice none 0 0, .int .i64 0, .slice none 0 0, .int .i64 0, .slice none 0 0, .int .i64 0, .slice none 0 0, .int .i64 0, .slice none 0 0, .int .i64 0, .slice none 0 0, .int .i64 0, .slice none 0 0] 135) := ⟨_, rfl⟩
  have gW : W.heap[w.heap.size]? = some (.cells #[.pointer (some ⟨p, 0, none⟩), .int .i64 1, .int .i64 0, .int .i64 0, .int .i64 0, .int .i64 0, .int .i64 0, .int .i64 0, .int .i64 0, .int .i64 0, .int .i64 0, .int .i64 0, .slice none 0 0, .int .i64 0, .slice none 0 0, .int .i64 0, .slice none 0 0, .int .i64 0, .slice none 0 0, .int .i64 0, .slice none 0 0, .int .i64 0, .slice none 0 0, .int .i64 0, .slice none 0 0, .int .i64 0, .slice none 0 0] 135 (0, 0)) := by rw [hW]; exact heap_alloc_new _ _
  have hc : ∀ o v, (#[.pointer (some ⟨p, 0, none⟩), .int .i64 1, .int .i64 0, .int .i64 0, .int .i64 0, .int .i64 0, .int .i64 0, .int .i64 0, .int .i64 0, .int .i64 0, .int .i64 0, .int .i64 0, .slice none 0 0, .int .i64 0, .slice none 0 0, .int .i64 0, .slice none 0 0, .int .i64 0, .slice none 0 0, .int .i64 0, .slice none 0 0, .int .i64 0, .slice none 0 0, .int .i64 0, .slice none 0 0, .int .i64 0, .slice none 0 0] : Array Value)[o]? = some v → CellIs W w.heap.size o v := fun o v hv => ⟨by simp only [World.cell?, gW]; exact hv, by simp [World.frozen?, gW]⟩
  have e2 := hc 2 (.int .i64 0) rfl
  have hm : EpochMem w.heap.size p 1 0 0 (.slice none 0 0) (W.setCell ⟨w.heap.size, 2, none⟩ (.int .i64 1)) :=
    ⟨cell_far (hc 0 _ rfl).cell (by decide), cell_far (hc 1 _ rfl).cell (by decide), e2.set, (hc 3 _ rfl).other (.inr (by decide)), (hc 11 _ rfl).other (.inr (by decide)), (hc 12 _ rfl).other (.inr (by decide)), by omega⟩
  have kW : Below w.heap.size w (W.setCell ⟨w.heap.size, 2, none⟩ (.int .i64 1)) := by rw [hW]; exact ((Below.refl _ _).alloc (Nat.le_refl _) _).setCell (Nat.le_refl _) _
  have e2c := e2.cell
  have e2f := e2.frz
  have HM := Lib.hid hm
  have KW := Lib.hid kW
  have HW := Lib.hid hW
  clear hc gW e2 hm kW hW
  go_enter Tryz.func18, Tryz.ntmps18
  go_wp2_with fail
  rw [← HW.out]
  refine (i64store _ _ _ _ _ e2c e2f).mono ?_
  rintro e w' ⟨rfl, rfl⟩
  go_wp2
  go_ret
  exact ⟨_, rfl, HM.out, KW.out, Nat.le_refl _⟩
end Go.Proofs.YtadelkancmbanaaGreat
