/-
  The law's changes with no entries; does, a Change; does, whatever it is.
-/
import Derived.Test.YtadelkancmbanaaJChg2
namespace Go.Proofs.Ytadelkancmbanaa
open Go.RowKit
attribute [local go_sem ↓] Go.wp_at_zero Go.wp_at_succ

set_option maxRecDepth 100000 in
set_option maxHeartbeats 4000000 in
theorem changes_nil (b c p cap made cap2 : Nat) (k x y z : Int) (ws : List Int) (w : World) (h : Both b c p made ws w) :
    Calls Try.prog 20 #[.pointer (some ⟨b, 0, none⟩), .slice (some ⟨p, 0, none⟩) ws.length cap, opVal k x y z (.slice none 0 cap2)] w (DoesEnd b c p made ws w) := by
  have hbc := (opBox_cell k x y z (.slice none 0 cap2) w).2.2.2.2
  have H := Lib.hid h
  unfold opVal
  unfold opBox at hbc
  have hch := change_zero b c made 0 none ws (w.alloc (.cells #[.int .i64 k, .int .i64 x, .int .i64 y, .int .i64 z, .slice none 0 cap2] 31)) (h.raw.alloc _)
  have Hch := Lib.hid hch
  have Hbc := Lib.hid hbc
  clear h hbc hch
  go_enter Try.func20, Try.ntmps20
  go_wp2_with fail
  refine Hch.out.mono ?_
  rintro e w1 ⟨v, ws', made', hwant, rfl, hraw, hmade, hyes, hno, hkeep⟩
  have hv : v = 261 := by
    rcases hwant with e | e | e | e | e
    · exact e.1
    all_goals (have := e.2.1.1; simp at this)
  subst hv
  have hbox : w1.cell? ⟨w.heap.size, 4, none⟩ = some (.slice none 0 cap2) := (hkeep.cell (p := ⟨w.heap.size, 4, none⟩) (by simp) (show ¬ (w.heap.size = b ∨ w.heap.size = c) from by have := H.out.raw.lt; omega)).trans Hbc.out
  have hw := hno (by decide)
  subst hw
  have Hk := Lib.hid (show Keep (fun k => k = b ∨ k = c) w.heap.size w w1 from (((Keep.refl (fun _ => False) w.heap.size w).alloc (Nat.le_refl _) _).weaken (fun _ _ h => h.elim)).trans (hkeep.mono (by simp)))
  have Hraw := Lib.hid hraw
  have Hmade := Lib.hid hmade
  clear hraw hkeep hwant hyes hno hmade Hch Hbc
  go_wp2
  refine wp_loop_rounds 1 ?_
  rw [rounds_succ]
  go_wp2
  refine wp_loop_rounds 1 ?_
  rw [rounds_succ]
  go_wp2
  refine wp_loop_rounds 1 ?_
  rw [rounds_succ]
  go_wp2
  refine wp_loop_rounds 1 ?_
  rw [rounds_succ]
  go_wp2
  go_ret
  exact ⟨rfl, ⟨_, made', ⟨Hraw.out, H.out.words, H.out.row.of_block (Hk.out.block p H.out.lt (fun e => by rcases e with e | e; exact H.out.ne.1 e; exact H.out.ne.2 e)), H.out.ne, by have := Hk.out.size; have := H.out.lt; omega⟩, rfl, Hmade.out⟩, Hk.out.weaken fun _ _ e => by rcases e with e | e; exact .inl e; exact .inr (.inl e)⟩

set_option maxRecDepth 100000 in
set_option maxHeartbeats 4000000 in
theorem changes_zero (b c p cap made cap2 : Nat) (a : Addr) (k x y z : Int) (ws : List Int) (w : World) (h : Both b c p made ws w) :
    Calls Try.prog 20 #[.pointer (some ⟨b, 0, none⟩), .slice (some ⟨p, 0, none⟩) ws.length cap, opVal k x y z (.slice (some a) 0 cap2)] w (DoesEnd b c p made ws w) := by
  have hbc := (opBox_cell k x y z (.slice (some a) 0 cap2) w).2.2.2.2
  have H := Lib.hid h
  unfold opVal
  unfold opBox at hbc
  have hch := change_zero b c made 0 none ws (w.alloc (.cells #[.int .i64 k, .int .i64 x, .int .i64 y, .int .i64 z, .slice (some a) 0 cap2] 31)) (h.raw.alloc _)
  have Hch := Lib.hid hch
  have Hbc := Lib.hid hbc
  clear h hbc hch
  go_enter Try.func20, Try.ntmps20
  go_wp2_with fail
  refine Hch.out.mono ?_
  rintro e w1 ⟨v, ws', made', hwant, rfl, hraw, hmade, hyes, hno, hkeep⟩
  have hv : v = 261 := by
    rcases hwant with e | e | e | e | e
    · exact e.1
    all_goals (have := e.2.1.1; simp at this)
  subst hv
  have hbox : w1.cell? ⟨w.heap.size, 4, none⟩ = some (.slice (some a) 0 cap2) := (hkeep.cell (p := ⟨w.heap.size, 4, none⟩) (by simp) (show ¬ (w.heap.size = b ∨ w.heap.size = c) from by have := H.out.raw.lt; omega)).trans Hbc.out
  have hw := hno (by decide)
  subst hw
  have Hk := Lib.hid (show Keep (fun k => k = b ∨ k = c) w.heap.size w w1 from (((Keep.refl (fun _ => False) w.heap.size w).alloc (Nat.le_refl _) _).weaken (fun _ _ h => h.elim)).trans (hkeep.mono (by simp)))
  have Hraw := Lib.hid hraw
  have Hmade := Lib.hid hmade
  clear hraw hkeep hwant hyes hno hmade Hch Hbc
  go_wp2
  refine wp_loop_rounds 1 ?_
  rw [rounds_succ]
  go_wp2
  refine wp_loop_rounds 1 ?_
  rw [rounds_succ]
  go_wp2
  refine wp_loop_rounds 1 ?_
  rw [rounds_succ]
  go_wp2
  refine wp_loop_rounds 1 ?_
  rw [rounds_succ]
  go_wp2
  go_ret
  exact ⟨rfl, ⟨_, made', ⟨Hraw.out, H.out.words, H.out.row.of_block (Hk.out.block p H.out.lt (fun e => by rcases e with e | e; exact H.out.ne.1 e; exact H.out.ne.2 e)), H.out.ne, by have := Hk.out.size; have := H.out.lt; omega⟩, rfl, Hmade.out⟩, Hk.out.weaken fun _ _ e => by rcases e with e | e; exact .inl e; exact .inr (.inl e)⟩

theorem changes_none (b c p cap made cap2 : Nat) (a : Option Addr) (k x y z : Int) (ws : List Int) (w : World) (h : Both b c p made ws w) :
    Calls Try.prog 20 #[.pointer (some ⟨b, 0, none⟩), .slice (some ⟨p, 0, none⟩) ws.length cap, opVal k x y z (.slice a 0 cap2)] w (DoesEnd b c p made ws w) := by
  rcases a with _ | a
  · exact changes_nil b c p cap made cap2 k x y z ws w h
  · exact changes_zero b c p cap made cap2 a k x y z ws w h

/-- A script's entries: none, or some that lie elsewhere. -/
def LVal (b c p : Nat) (lv : Value) (w : World) : Prop := (∃ a cap, lv = .slice a 0 cap) ∨ (∃ s o cap es, lv = .slice (some ⟨s, o, none⟩) es.length cap ∧ 1 ≤ es.length ∧ es.length ≤ 100 ∧ AEntsAt s o es w ∧ s < w.heap.size ∧ s ≠ b ∧ s ≠ c ∧ s ≠ p)

theorem changes_any (b c p cap made : Nat) (k x y z : Int) (lv : Value) (ws : List Int) (w : World) (h : Both b c p made ws w) (hm : made < 1024) (hl : LVal b c p lv w) :
    Calls Try.prog 20 #[.pointer (some ⟨b, 0, none⟩), .slice (some ⟨p, 0, none⟩) ws.length cap, opVal k x y z lv] w (DoesEnd b c p made ws w) := by
  rcases hl with ⟨a, cap2, rfl⟩ | ⟨s, o, cap2, es, rfl, h1, h2, he, hs, hne⟩
  · exact changes_none b c p cap made cap2 a k x y z ws w h
  · exact changes_some b c p cap made s o cap2 k x y z ws es w h hm he hs hne h1 h2

theorem LVal.boxed {b c p : Nat} {lv : Value} {w : World} (h : LVal b c p lv w) (o : Obj) : LVal b c p lv (w.alloc o) := by
  rcases h with h | ⟨s, o', cap2, es, rfl, h1, h2, he, hs, hne⟩
  · exact .inl h
  · exact .inr ⟨s, o', cap2, es, rfl, h1, h2, he.of_block (Below.heap_alloc _ _ _ hs), by simp; omega, hne⟩

set_option maxRecDepth 100000 in
set_option maxHeartbeats 3200000 in
theorem does_change (b c p cap made : Nat) (x y z : Int) (lv : Value) (ws : List Int) (w : World) (h : Both b c p made ws w) (hm : made < 1024) (hl : LVal b c p lv w) :
    Calls Try.prog 7 #[.pointer (some ⟨b, 0, none⟩), .slice (some ⟨p, 0, none⟩) ws.length cap, opVal 2 x y z lv] w (DoesEnd b c p made ws w) := by
  have hch := changes_any b c p cap made 2 x y z lv ws (opBox 2 x y z lv w) (h.boxed 2 x y z lv) hm (hl.boxed _)
  have hbc := opBox_cell 2 x y z lv w
  unfold opVal opBox at *
  obtain ⟨q0, q1, q2, q3, q4⟩ := hbc
  have Hch := Lib.hid hch
  clear h hch hl
  go_enter Try.func7, Try.ntmps7
  go_wp2_with fail
  refine Hch.out.mono ?_
  rintro e w1 ⟨rfl, hB, hk⟩
  have HB := Lib.hid hB
  have Hk := Lib.hid hk
  clear hB hk Hch
  go_wp2
  go_ret
  exact ⟨rfl, HB.out, (((Keep.refl (fun _ => False) w.heap.size w).alloc (Nat.le_refl _) _).weaken (fun _ _ h => h.elim)).trans (Hk.out.mono (by simp))⟩

/-- Whatever a script's call is. -/
theorem does_any (b c p cap made : Nat) (k x y z : Int) (lv : Value) (ws : List Int) (w : World) (h : Both b c p made ws w) (hm : made < 1024) (hl : LVal b c p lv w) :
    Calls Try.prog 7 #[.pointer (some ⟨b, 0, none⟩), .slice (some ⟨p, 0, none⟩) ws.length cap, opVal k x y z lv] w (DoesEnd b c p made ws w) := by
  by_cases k1 : k = 1
  · subst k1; exact does_read b c p cap made x y z lv ws w h
  · by_cases k2 : k = 2
    · subst k2; exact does_change b c p cap made x y z lv ws w h hm hl
    · by_cases k3 : k = 3
      · subst k3
        refine does_move b c p cap made x y z lv ws w h hm ?_
        rcases hl with ⟨a, cap2, rfl⟩ | ⟨s, o, cap2, es, rfl, _⟩ <;> rfl
      · by_cases k4 : k = 4
        · subst k4; exact does_look b c p cap made x y z lv ws w h hm
        · exact does_other b c p cap made k x y z lv ws w h ⟨k1, k2, k3, k4⟩
end Go.Proofs.Ytadelkancmbanaa
