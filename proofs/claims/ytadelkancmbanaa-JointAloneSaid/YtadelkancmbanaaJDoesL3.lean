/-
  The law's does: a Look; none; and all of a Read's or a Move's ends in one.
-/
import Derived.Test.YtadelkancmbanaaJDoesL2
namespace Go.Proofs.Ytadelkancmbanaa
open Go.RowKit
attribute [local go_sem ↓] Go.wp_at_zero Go.wp_at_succ

set_option maxRecDepth 100000 in
set_option maxHeartbeats 3200000 in
theorem does_look (b c p cap made : Nat) (x y z : Int) (lv : Value) (ws : List Int) (w : World) (h : Both b c p made ws w) (hm : made < 1024) :
    Calls Try.prog 7 #[.pointer (some ⟨b, 0, none⟩), .slice (some ⟨p, 0, none⟩) ws.length cap, opVal 4 x y z lv] w (DoesEnd b c p made ws w) := by
  have hB := h.boxed 4 x y z lv
  have hlk := look_any b c made ws _ hB.raw hB.words hm
  unfold opVal
  unfold opBox at hlk
  have Hlk := Lib.hid hlk
  have H := Lib.hid h
  have HB := Lib.hid hB
  have hln := nums_length ws
  have few := h.raw.few
  clear hlk h hB
  go_enter Try.func7, Try.ntmps7
  go_wp2_with fail
  refine Hlk.out.mono ?_
  rintro e w' ⟨ov, rfl, hown, hj, hk⟩
  obtain ⟨g, gc, rfl, hg1, hg2⟩ := hown.form (by omega)
  have hrow : LRow p (nums ws) w' := HB.out.row.of_block (hk.block p HB.out.lt (fun e => by rcases e with e | e; exact H.out.ne.1 e; exact H.out.ne.2 e))
  have hsz := hk.size
  have hpl : p < w'.heap.size := by have := HB.out.lt; unfold opBox at this; omega
  have hi1 : IntsAt g 0 (nums ws) w' := fun i hi => by
    rw [Nat.zero_add, hown.cellAt i (by omega)]
    simp [List.getD_eq_getElem?_getD, hi]
  have hi2 : IntsAt p 0 (nums ws) w' := fun i hi => by rw [Nat.zero_add]; exact (hrow i hi).1
  have hin := ints_yes g 0 gc p 0 cap (nums ws) w' hi1 hi2 hg2 hpl (by omega)
  rw [hln] at hin
  have Hin := Lib.hid hin
  have Hrow := Lib.hid hrow
  have Hj := Lib.hid hj
  have Hk := Lib.hid hk
  clear hrow hj hk hi1 hi2 hin hown
  go_wp2_with (go_at_call 9; refine Hin.out.mono ?_; rintro e w2 ⟨rfl, hb2⟩; have Hb2 := Lib.hid hb2; clear hb2)
  go_ret
  have hl := HB.out.lt
  unfold opBox at hl
  have hjl := Hj.out.lt
  have hb2 := Hb2.out.size
  refine ⟨rfl, ⟨looked ws, made + 1, ⟨Hj.out.of_blocks (Hb2.out.block b hjl.1) (Hb2.out.block c hjl.2), looked_words ws H.out.words, ?_, H.out.ne, by omega⟩, looked_length ws, Nat.le_refl _⟩, ?_⟩
  · rw [looked_nums ws H.out.words]
    exact Hrow.out.of_block (Hb2.out.block p hpl)
  · simp only [World.size_alloc] at hsz
    exact (((Keep.refl _ _ _).alloc (Nat.le_refl _) _).trans ((Hk.out.mono (by simp)).weaken (fun _ _ e => by rcases e with e | e; exact .inl e; exact .inr (.inl e)))).trans ((Keep.of_below Hb2.out).mono (by omega))

set_option maxRecDepth 100000 in
set_option maxHeartbeats 3200000 in
theorem does_other (b c p cap made : Nat) (k x y z : Int) (lv : Value) (ws : List Int) (w : World) (h : Both b c p made ws w) (hk : k ≠ 1 ∧ k ≠ 2 ∧ k ≠ 3 ∧ k ≠ 4) :
    Calls Try.prog 7 #[.pointer (some ⟨b, 0, none⟩), .slice (some ⟨p, 0, none⟩) ws.length cap, opVal k x y z lv] w (DoesEnd b c p made ws w) := by
  have HB := Lib.hid (h.boxed k x y z lv)
  obtain ⟨k1, k2, k3, k4⟩ := hk
  have e1 : (k == 1) = false := by rw [beq_eq_false_iff_ne]; exact k1
  have e2 : (k == 2) = false := by rw [beq_eq_false_iff_ne]; exact k2
  have e3 : (k == 3) = false := by rw [beq_eq_false_iff_ne]; exact k3
  have e4 : (k == 4) = false := by rw [beq_eq_false_iff_ne]; exact k4
  unfold opVal
  clear h k1 k2 k3 k4
  go_enter Try.func7, Try.ntmps7
  go_wp2
  go_ret
  exact ⟨rfl, ⟨ws, made, HB.out, rfl, Nat.le_succ _⟩, (Keep.refl _ _ _).alloc (Nat.le_refl _) _⟩

/-- Whatever is read. -/
theorem does_read (b c p cap made : Nat) (x y z : Int) (lv : Value) (ws : List Int) (w : World) (h : Both b c p made ws w) :
    Calls Try.prog 7 #[.pointer (some ⟨b, 0, none⟩), .slice (some ⟨p, 0, none⟩) ws.length cap, opVal 1 x y z lv] w (DoesEnd b c p made ws w) := by
  by_cases hx : 0 ≤ x ∧ x < (ws.length : Int)
  · obtain ⟨i, rfl⟩ := Int.eq_ofNat_of_zero_le hx.1
    exact does_read_in b c p cap made i y z lv ws w h (by omega)
  · exact does_read_out b c p cap made x y z lv ws w h (by omega)

/-- Whatever is moved. -/
theorem does_move (b c p cap made : Nat) (x y z : Int) (lv : Value) (ws : List Int) (w : World) (h : Both b c p made ws w) (hm : made < 1024) (hlv : lv.oneCell' = true) :
    Calls Try.prog 7 #[.pointer (some ⟨b, 0, none⟩), .slice (some ⟨p, 0, none⟩) ws.length cap, opVal 3 x y z lv] w (DoesEnd b c p made ws w) := by
  by_cases hx : 0 ≤ x ∧ x < (ws.length : Int)
  · obtain ⟨f, rfl⟩ := Int.eq_ofNat_of_zero_le hx.1
    have hf : f < ws.length := by omega
    by_cases hy : 0 ≤ y ∧ y < (ws.length : Int)
    · obtain ⟨t, rfl⟩ := Int.eq_ofNat_of_zero_le hy.1
      have ht : t < ws.length := by omega
      by_cases hft : f = t
      · subst hft; exact does_move_c3 b c p cap made f z lv ws w h hf
      · by_cases hz : 0 ≤ z ∧ z ≤ 1048575
        · by_cases h1 : num (wd ws f) < z
          · exact does_move_less b c p cap made f t z lv ws w h hm hf ht hft hz.1 hz.2 h1
          · by_cases h2 : 1048575 < num (wd ws t) + z
            · exact does_move_over b c p cap made f t z lv ws w h hm hf ht hft hz.1 hz.2 (by omega) h2
            · exact does_move_yes b c p cap made f t z lv ws w h hm hf ht hft hz.1 (by omega) (by omega) hlv
        · exact does_move_value b c p cap made f t z lv ws w h hf ht hft (by omega)
    · exact does_move_c2 b c p cap made f y z lv ws w h hf (by omega)
  · exact does_move_c1 b c p cap made x y z lv ws w h (by omega)
end Go.Proofs.Ytadelkancmbanaa
