/-
  The law's does: Reads, Moves that are refused.
-/
import Derived.Test.YtadelkancmbanaaJDoesL
namespace Go.Proofs.Ytadelkancmbanaa
open Go.RowKit
attribute [local go_sem ↓] Go.wp_at_zero Go.wp_at_succ

set_option maxRecDepth 100000 in
set_option maxHeartbeats 3200000 in
theorem does_move_c1 (b c p cap made : Nat) (x y z : Int) (lv : Value) (ws : List Int) (w : World) (h : Both b c p made ws w) (hx : x < 0 ∨ (ws.length : Int) ≤ x) :
    Calls Try.prog 7 #[.pointer (some ⟨b, 0, none⟩), .slice (some ⟨p, 0, none⟩) ws.length cap, opVal 3 x y z lv] w (DoesEnd b c p made ws w) := by
  have hB := h.boxed 3 x y z lv
  have hmv : Calls Try.prog 11 #[.pointer (some ⟨b, 0, none⟩), .pointer none, .int .i64 x, .int .i64 y, .int .i64 z] (opBox 3 x y z lv w) (Refused b c made 262 ws (opBox 3 x y z lv w)) := move_cell1 b c made x y z ws _ hB.raw hx
  unfold opVal
  have hbc := opBox_cell 3 x y z lv w
  unfold opBox at hmv hbc
  have Hmv := Lib.hid hmv
  have H := Lib.hid h
  have HB := Lib.hid hB
  have Hbc := Lib.hid hbc
  have hln := nums_length ws
  have Hx := Lib.hid hx
  clear hx
  clear hmv h hB hbc
  go_enter Try.func7, Try.ntmps7
  go_wp2_with fail
  refine Hmv.out.mono ?_
  rintro e w' ⟨rfl, hj, hk⟩
  have hNb : w.heap.size ≠ b := by have := H.out.raw.lt; omega
  have hNc : w.heap.size ≠ c := by have := H.out.raw.lt; omega
  have hN : ¬ (w.heap.size = b ∨ w.heap.size = c) := fun e => by rcases e with e | e; exact hNb e; exact hNc e
  have q1 := (hk.cell (p := ⟨w.heap.size, 1, none⟩) (by simp) hN).trans Hbc.out.2.1
  have q2 := (hk.cell (p := ⟨w.heap.size, 2, none⟩) (by simp) hN).trans Hbc.out.2.2.1
  have q3 := (hk.cell (p := ⟨w.heap.size, 3, none⟩) (by simp) hN).trans Hbc.out.2.2.2.1
  have hrow : LRow p (nums ws) w' := HB.out.row.of_block (hk.block p HB.out.lt (fun e => by rcases e with e | e; exact H.out.ne.1 e; exact H.out.ne.2 e))

  have Hrow := Lib.hid hrow
  have Hj := Lib.hid hj
  have Hk := Lib.hid hk
  clear hrow hj hk
  go_wp2_with (first | (go_at_call 19; ((with_reducible refine (lin_no _ _ _ x _ Hx.out).mono ?_); rintro e w' ⟨rfl, rfl⟩)))
  go_ret
  refine ⟨rfl, ⟨ws, made, ⟨Hj.out.of_blocks rfl rfl, H.out.words, Hrow.out.of_block rfl, H.out.ne, ?_⟩, rfl, Nat.le_succ _⟩, ?_⟩
  · have h1 := Hk.out.size
    have h2 := H.out.lt
    simp only [World.size_alloc] at h1
    first | omega | (simp only [World.size_drew]; omega)
  · exact (((Keep.refl _ _ _).alloc (Nat.le_refl _) _).trans ((Hk.out.mono (by simp)).weaken (fun _ _ e => by rcases e with e | e; exact .inl e; exact .inr (.inl e)))).trans ⟨rfl, rfl, rfl, Nat.le_refl _, fun _ _ _ => rfl⟩

set_option maxRecDepth 100000 in
set_option maxHeartbeats 3200000 in
theorem does_move_c2 (b c p cap made : Nat) (f : Nat) (y z : Int) (lv : Value) (ws : List Int) (w : World) (h : Both b c p made ws w) (hf : f < ws.length) (hy : y < 0 ∨ (ws.length : Int) ≤ y) :
    Calls Try.prog 7 #[.pointer (some ⟨b, 0, none⟩), .slice (some ⟨p, 0, none⟩) ws.length cap, opVal 3 f y z lv] w (DoesEnd b c p made ws w) := by
  have hB := h.boxed 3 f y z lv
  have hmv : Calls Try.prog 11 #[.pointer (some ⟨b, 0, none⟩), .pointer none, .int .i64 f, .int .i64 y, .int .i64 z] (opBox 3 f y z lv w) (Refused b c made 262 ws (opBox 3 f y z lv w)) := move_cell2 b c made f y z ws _ hB.raw hf hy
  unfold opVal
  have hbc := opBox_cell 3 f y z lv w
  unfold opBox at hmv hbc
  have Hmv := Lib.hid hmv
  have H := Lib.hid h
  have HB := Lib.hid hB
  have Hbc := Lib.hid hbc
  have hln := nums_length ws
  have Hy := Lib.hid hy
  clear hy
  clear hmv h hB hbc
  go_enter Try.func7, Try.ntmps7
  go_wp2_with fail
  refine Hmv.out.mono ?_
  rintro e w' ⟨rfl, hj, hk⟩
  have hNb : w.heap.size ≠ b := by have := H.out.raw.lt; omega
  have hNc : w.heap.size ≠ c := by have := H.out.raw.lt; omega
  have hN : ¬ (w.heap.size = b ∨ w.heap.size = c) := fun e => by rcases e with e | e; exact hNb e; exact hNc e
  have q1 := (hk.cell (p := ⟨w.heap.size, 1, none⟩) (by simp) hN).trans Hbc.out.2.1
  have q2 := (hk.cell (p := ⟨w.heap.size, 2, none⟩) (by simp) hN).trans Hbc.out.2.2.1
  have q3 := (hk.cell (p := ⟨w.heap.size, 3, none⟩) (by simp) hN).trans Hbc.out.2.2.2.1
  have hrow : LRow p (nums ws) w' := HB.out.row.of_block (hk.block p HB.out.lt (fun e => by rcases e with e | e; exact H.out.ne.1 e; exact H.out.ne.2 e))

  have Hrow := Lib.hid hrow
  have Hj := Lib.hid hj
  have Hk := Lib.hid hk
  clear hrow hj hk
  go_wp2_with (first | (go_at_call 19; ((with_reducible refine (lin_yes _ _ _ f _ hf).mono ?_); rintro e w' ⟨rfl, rfl⟩)) | (go_at_call 19; ((with_reducible refine (lin_no _ _ _ y _ Hy.out).mono ?_); rintro e w' ⟨rfl, rfl⟩)))
  go_ret
  refine ⟨rfl, ⟨ws, made, ⟨Hj.out.of_blocks rfl rfl, H.out.words, Hrow.out.of_block rfl, H.out.ne, ?_⟩, rfl, Nat.le_succ _⟩, ?_⟩
  · have h1 := Hk.out.size
    have h2 := H.out.lt
    simp only [World.size_alloc] at h1
    first | omega | (simp only [World.size_drew]; omega)
  · exact (((Keep.refl _ _ _).alloc (Nat.le_refl _) _).trans ((Hk.out.mono (by simp)).weaken (fun _ _ e => by rcases e with e | e; exact .inl e; exact .inr (.inl e)))).trans ⟨rfl, rfl, rfl, Nat.le_refl _, fun _ _ _ => rfl⟩

set_option maxRecDepth 100000 in
set_option maxHeartbeats 3200000 in
theorem does_move_c3 (b c p cap made : Nat) (f : Nat) (z : Int) (lv : Value) (ws : List Int) (w : World) (h : Both b c p made ws w) (hf : f < ws.length) :
    Calls Try.prog 7 #[.pointer (some ⟨b, 0, none⟩), .slice (some ⟨p, 0, none⟩) ws.length cap, opVal 3 f f z lv] w (DoesEnd b c p made ws w) := by
  have hB := h.boxed 3 f f z lv
  have hmv : Calls Try.prog 11 #[.pointer (some ⟨b, 0, none⟩), .pointer none, .int .i64 f, .int .i64 f, .int .i64 z] (opBox 3 f f z lv w) (Refused b c made 262 ws (opBox 3 f f z lv w)) := move_cell3 b c made f z ws _ hB.raw hf
  unfold opVal
  have hbc := opBox_cell 3 f f z lv w
  unfold opBox at hmv hbc
  have Hmv := Lib.hid hmv
  have H := Lib.hid h
  have HB := Lib.hid hB
  have Hbc := Lib.hid hbc
  have hln := nums_length ws

  clear hmv h hB hbc
  go_enter Try.func7, Try.ntmps7
  go_wp2_with fail
  refine Hmv.out.mono ?_
  rintro e w' ⟨rfl, hj, hk⟩
  have hNb : w.heap.size ≠ b := by have := H.out.raw.lt; omega
  have hNc : w.heap.size ≠ c := by have := H.out.raw.lt; omega
  have hN : ¬ (w.heap.size = b ∨ w.heap.size = c) := fun e => by rcases e with e | e; exact hNb e; exact hNc e
  have q1 := (hk.cell (p := ⟨w.heap.size, 1, none⟩) (by simp) hN).trans Hbc.out.2.1
  have q2 := (hk.cell (p := ⟨w.heap.size, 2, none⟩) (by simp) hN).trans Hbc.out.2.2.1
  have q3 := (hk.cell (p := ⟨w.heap.size, 3, none⟩) (by simp) hN).trans Hbc.out.2.2.2.1
  have hrow : LRow p (nums ws) w' := HB.out.row.of_block (hk.block p HB.out.lt (fun e => by rcases e with e | e; exact H.out.ne.1 e; exact H.out.ne.2 e))

  have Hrow := Lib.hid hrow
  have Hj := Lib.hid hj
  have Hk := Lib.hid hk
  clear hrow hj hk
  go_wp2_with (first | (go_at_call 19; ((with_reducible refine (lin_yes _ _ _ f _ hf).mono ?_); rintro e w' ⟨rfl, rfl⟩)))
  go_ret
  refine ⟨rfl, ⟨ws, made, ⟨Hj.out.of_blocks rfl rfl, H.out.words, Hrow.out.of_block rfl, H.out.ne, ?_⟩, rfl, Nat.le_succ _⟩, ?_⟩
  · have h1 := Hk.out.size
    have h2 := H.out.lt
    simp only [World.size_alloc] at h1
    first | omega | (simp only [World.size_drew]; omega)
  · exact (((Keep.refl _ _ _).alloc (Nat.le_refl _) _).trans ((Hk.out.mono (by simp)).weaken (fun _ _ e => by rcases e with e | e; exact .inl e; exact .inr (.inl e)))).trans ⟨rfl, rfl, rfl, Nat.le_refl _, fun _ _ _ => rfl⟩

set_option maxRecDepth 100000 in
set_option maxHeartbeats 3200000 in
theorem does_move_value (b c p cap made : Nat) (f t : Nat) (z : Int) (lv : Value) (ws : List Int) (w : World) (h : Both b c p made ws w) (hf : f < ws.length) (ht : t < ws.length) (hft : f ≠ t) (hz : z < 0 ∨ 1048575 < z) :
    Calls Try.prog 7 #[.pointer (some ⟨b, 0, none⟩), .slice (some ⟨p, 0, none⟩) ws.length cap, opVal 3 f t z lv] w (DoesEnd b c p made ws w) := by
  have hB := h.boxed 3 f t z lv
  have hmv : Calls Try.prog 11 #[.pointer (some ⟨b, 0, none⟩), .pointer none, .int .i64 f, .int .i64 t, .int .i64 z] (opBox 3 f t z lv w) (Refused b c made 263 ws (opBox 3 f t z lv w)) := move_value b c made f t z ws _ hB.raw hf ht hft hz
  unfold opVal
  have hbc := opBox_cell 3 f t z lv w
  unfold opBox at hmv hbc
  have Hmv := Lib.hid hmv
  have H := Lib.hid h
  have HB := Lib.hid hB
  have Hbc := Lib.hid hbc
  have hln := nums_length ws
  have hq : ((f : Int) == t) = false := by rw [beq_eq_false_iff_ne]; omega
  have Hz := Lib.hid hz
  clear hz
  clear hmv h hB hbc
  go_enter Try.func7, Try.ntmps7
  go_wp2_with fail
  refine Hmv.out.mono ?_
  rintro e w' ⟨rfl, hj, hk⟩
  have hNb : w.heap.size ≠ b := by have := H.out.raw.lt; omega
  have hNc : w.heap.size ≠ c := by have := H.out.raw.lt; omega
  have hN : ¬ (w.heap.size = b ∨ w.heap.size = c) := fun e => by rcases e with e | e; exact hNb e; exact hNc e
  have q1 := (hk.cell (p := ⟨w.heap.size, 1, none⟩) (by simp) hN).trans Hbc.out.2.1
  have q2 := (hk.cell (p := ⟨w.heap.size, 2, none⟩) (by simp) hN).trans Hbc.out.2.2.1
  have q3 := (hk.cell (p := ⟨w.heap.size, 3, none⟩) (by simp) hN).trans Hbc.out.2.2.2.1
  have hrow : LRow p (nums ws) w' := HB.out.row.of_block (hk.block p HB.out.lt (fun e => by rcases e with e | e; exact H.out.ne.1 e; exact H.out.ne.2 e))

  have Hrow := Lib.hid hrow
  have Hj := Lib.hid hj
  have Hk := Lib.hid hk
  clear hrow hj hk
  go_wp2_with (first | (go_at_call 19; ((with_reducible refine (lin_yes _ _ _ f _ hf).mono ?_); rintro e w' ⟨rfl, rfl⟩)) | (go_at_call 19; ((with_reducible refine (lin_yes _ _ _ t _ ht).mono ?_); rintro e w' ⟨rfl, rfl⟩)) | (go_at_call 21; ((with_reducible refine (lis_no _ _ Hz.out).mono ?_); rintro e w' ⟨rfl, rfl⟩)))
  go_ret
  refine ⟨rfl, ⟨ws, made, ⟨Hj.out.of_blocks rfl rfl, H.out.words, Hrow.out.of_block rfl, H.out.ne, ?_⟩, rfl, Nat.le_succ _⟩, ?_⟩
  · have h1 := Hk.out.size
    have h2 := H.out.lt
    simp only [World.size_alloc] at h1
    first | omega | (simp only [World.size_drew]; omega)
  · exact (((Keep.refl _ _ _).alloc (Nat.le_refl _) _).trans ((Hk.out.mono (by simp)).weaken (fun _ _ e => by rcases e with e | e; exact .inl e; exact .inr (.inl e)))).trans ⟨rfl, rfl, rfl, Nat.le_refl _, fun _ _ _ => rfl⟩

set_option maxRecDepth 100000 in
set_option maxHeartbeats 3200000 in
theorem does_move_less (b c p cap made : Nat) (f t : Nat) (n : Int) (lv : Value) (ws : List Int) (w : World) (h : Both b c p made ws w) (hm : made < 1024) (hf : f < ws.length) (ht : t < ws.length) (hft : f ≠ t) (h0 : 0 ≤ n) (h1 : n ≤ 1048575) (hl : num (wd ws f) < n) :
    Calls Try.prog 7 #[.pointer (some ⟨b, 0, none⟩), .slice (some ⟨p, 0, none⟩) ws.length cap, opVal 3 f t n lv] w (DoesEnd b c p made ws w) := by
  have hB := h.boxed 3 f t n lv
  have hmv : Calls Try.prog 11 #[.pointer (some ⟨b, 0, none⟩), .pointer none, .int .i64 f, .int .i64 t, .int .i64 n] (opBox 3 f t n lv w) (Refused b c made 265 ws (opBox 3 f t n lv w)) := (move_any b c made f t n ws _ hB.raw hB.words hm hf ht hft h0 h1).mono (fun e w2 hE => hE.less hl)
  unfold opVal
  have hbc := opBox_cell 3 f t n lv w
  unfold opBox at hmv hbc
  have Hmv := Lib.hid hmv
  have H := Lib.hid h
  have HB := Lib.hid hB
  have Hbc := Lib.hid hbc
  have hln := nums_length ws
  have hq : ((f : Int) == t) = false := by rw [beq_eq_false_iff_ne]; omega

  clear hmv h hB hbc
  go_enter Try.func7, Try.ntmps7
  go_wp2_with fail
  refine Hmv.out.mono ?_
  rintro e w' ⟨rfl, hj, hk⟩
  have hNb : w.heap.size ≠ b := by have := H.out.raw.lt; omega
  have hNc : w.heap.size ≠ c := by have := H.out.raw.lt; omega
  have hN : ¬ (w.heap.size = b ∨ w.heap.size = c) := fun e => by rcases e with e | e; exact hNb e; exact hNc e
  have q1 := (hk.cell (p := ⟨w.heap.size, 1, none⟩) (by simp) hN).trans Hbc.out.2.1
  have q2 := (hk.cell (p := ⟨w.heap.size, 2, none⟩) (by simp) hN).trans Hbc.out.2.2.1
  have q3 := (hk.cell (p := ⟨w.heap.size, 3, none⟩) (by simp) hN).trans Hbc.out.2.2.2.1
  have hrow : LRow p (nums ws) w' := HB.out.row.of_block (hk.block p HB.out.lt (fun e => by rcases e with e | e; exact H.out.ne.1 e; exact H.out.ne.2 e))
  obtain ⟨r1, r1F⟩ := hrow f (by omega)
  obtain ⟨r2, r2F⟩ := hrow t (by omega)
  rw [nums_get _ _ hf] at r1
  rw [nums_get _ _ ht] at r2
  have e1 : num (ws.getD f 0) = num (wd ws f) := rfl
  have e2 : num (ws.getD t 0) = num (wd ws t) := rfl
  rw [e1] at r1
  rw [e2] at r2
  have hnf := num_bd (wd ws f) (H.out.words f hf).1 (H.out.words f hf).2
  have hnt := num_bd (wd ws t) (H.out.words t ht).1 (H.out.words t ht).2
  clear e1 e2
  generalize num (wd ws f) = x at *
  generalize num (wd ws t) = y at *

  have Hrow := Lib.hid hrow
  have Hj := Lib.hid hj
  have Hk := Lib.hid hk
  clear hrow hj hk
  have hdx : decide (x < n) = true := by simpa using hl
  go_wp2_with (first | (go_at_call 19; ((with_reducible refine (lin_yes _ _ _ f _ hf).mono ?_); rintro e w' ⟨rfl, rfl⟩)) | (go_at_call 19; ((with_reducible refine (lin_yes _ _ _ t _ ht).mono ?_); rintro e w' ⟨rfl, rfl⟩)) | (go_at_call 21; ((with_reducible refine (lis_yes _ _ h0 h1).mono ?_); rintro e w' ⟨rfl, rfl⟩)))
  refine wp_region_still_tail 8 (by kernel_rfl) (by kernel_rfl) ?_
  simp only [List.take_succ_cons, List.take_zero, List.drop_succ_cons, List.drop_zero]
  change wpStill _ _ (World.drew _) _ _ _
  repeat (first | (refine wpStill_step (fun K hK => ?_); go_simp; refine hK _ ?_; clear hK K))
  refine wpStill_nil ?_
  change wpList _ _ _ _ _ (World.drew _)
  go_wp2
  go_ret
  refine ⟨rfl, ⟨ws, made, ⟨Hj.out.of_blocks rfl rfl, H.out.words, Hrow.out.of_block rfl, H.out.ne, ?_⟩, rfl, Nat.le_succ _⟩, ?_⟩
  · have h1 := Hk.out.size
    have h2 := H.out.lt
    simp only [World.size_alloc] at h1
    first | omega | (simp only [World.size_drew]; omega)
  · exact (((Keep.refl _ _ _).alloc (Nat.le_refl _) _).trans ((Hk.out.mono (by simp)).weaken (fun _ _ e => by rcases e with e | e; exact .inl e; exact .inr (.inl e)))).trans ⟨rfl, rfl, rfl, Nat.le_refl _, fun _ _ _ => rfl⟩

set_option maxRecDepth 100000 in
set_option maxHeartbeats 3200000 in
theorem does_move_over (b c p cap made : Nat) (f t : Nat) (n : Int) (lv : Value) (ws : List Int) (w : World) (h : Both b c p made ws w) (hm : made < 1024) (hf : f < ws.length) (ht : t < ws.length) (hft : f ≠ t) (h0 : 0 ≤ n) (h1 : n ≤ 1048575) (hl : n ≤ num (wd ws f)) (ho : 1048575 < num (wd ws t) + n) :
    Calls Try.prog 7 #[.pointer (some ⟨b, 0, none⟩), .slice (some ⟨p, 0, none⟩) ws.length cap, opVal 3 f t n lv] w (DoesEnd b c p made ws w) := by
  have hB := h.boxed 3 f t n lv
  have hmv : Calls Try.prog 11 #[.pointer (some ⟨b, 0, none⟩), .pointer none, .int .i64 f, .int .i64 t, .int .i64 n] (opBox 3 f t n lv w) (Refused b c made 263 ws (opBox 3 f t n lv w)) := (move_any b c made f t n ws _ hB.raw hB.words hm hf ht hft h0 h1).mono (fun e w2 hE => hE.over hl ho)
  unfold opVal
  have hbc := opBox_cell 3 f t n lv w
  unfold opBox at hmv hbc
  have Hmv := Lib.hid hmv
  have H := Lib.hid h
  have HB := Lib.hid hB
  have Hbc := Lib.hid hbc
  have hln := nums_length ws
  have hq : ((f : Int) == t) = false := by rw [beq_eq_false_iff_ne]; omega

  clear hmv h hB hbc
  go_enter Try.func7, Try.ntmps7
  go_wp2_with fail
  refine Hmv.out.mono ?_
  rintro e w' ⟨rfl, hj, hk⟩
  have hNb : w.heap.size ≠ b := by have := H.out.raw.lt; omega
  have hNc : w.heap.size ≠ c := by have := H.out.raw.lt; omega
  have hN : ¬ (w.heap.size = b ∨ w.heap.size = c) := fun e => by rcases e with e | e; exact hNb e; exact hNc e
  have q1 := (hk.cell (p := ⟨w.heap.size, 1, none⟩) (by simp) hN).trans Hbc.out.2.1
  have q2 := (hk.cell (p := ⟨w.heap.size, 2, none⟩) (by simp) hN).trans Hbc.out.2.2.1
  have q3 := (hk.cell (p := ⟨w.heap.size, 3, none⟩) (by simp) hN).trans Hbc.out.2.2.2.1
  have hrow : LRow p (nums ws) w' := HB.out.row.of_block (hk.block p HB.out.lt (fun e => by rcases e with e | e; exact H.out.ne.1 e; exact H.out.ne.2 e))
  obtain ⟨r1, r1F⟩ := hrow f (by omega)
  obtain ⟨r2, r2F⟩ := hrow t (by omega)
  rw [nums_get _ _ hf] at r1
  rw [nums_get _ _ ht] at r2
  have e1 : num (ws.getD f 0) = num (wd ws f) := rfl
  have e2 : num (ws.getD t 0) = num (wd ws t) := rfl
  rw [e1] at r1
  rw [e2] at r2
  have hnf := num_bd (wd ws f) (H.out.words f hf).1 (H.out.words f hf).2
  have hnt := num_bd (wd ws t) (H.out.words t ht).1 (H.out.words t ht).2
  clear e1 e2
  generalize num (wd ws f) = x at *
  generalize num (wd ws t) = y at *

  have Hrow := Lib.hid hrow
  have Hj := Lib.hid hj
  have Hk := Lib.hid hk
  clear hrow hj hk
  have hdx : decide (x < n) = false := by simp; omega
  have hdy : decide (1048575 < y + n) = true := by simpa using ho
  have hwy : IntKind.i64.wrap (y + n) = y + n := by rw [IntKind.wrap_i64]; omega
  go_wp2_with (first | (go_at_call 19; ((with_reducible refine (lin_yes _ _ _ f _ hf).mono ?_); rintro e w' ⟨rfl, rfl⟩)) | (go_at_call 19; ((with_reducible refine (lin_yes _ _ _ t _ ht).mono ?_); rintro e w' ⟨rfl, rfl⟩)) | (go_at_call 21; ((with_reducible refine (lis_yes _ _ h0 h1).mono ?_); rintro e w' ⟨rfl, rfl⟩)))
  refine wp_region_still_tail 8 (by kernel_rfl) (by kernel_rfl) ?_
  simp only [List.take_succ_cons, List.take_zero, List.drop_succ_cons, List.drop_zero]
  change wpStill _ _ (World.drew _) _ _ _
  repeat (first | (refine wpStill_step (fun K hK => ?_); go_simp; refine hK _ ?_; clear hK K))
  refine wpStill_nil ?_
  change wpList _ _ _ _ _ (World.drew _)
  go_wp2
  refine wp_region_still_tail 9 (by kernel_rfl) (by kernel_rfl) ?_
  simp only [List.take_succ_cons, List.take_zero, List.drop_succ_cons, List.drop_zero]
  change wpStill _ _ (World.drew _) _ _ _
  repeat (first | (refine wpStill_step (fun K hK => ?_); go_simp; refine hK _ ?_; clear hK K))
  refine wpStill_nil ?_
  change wpList _ _ _ _ _ (World.drew _)
  go_wp2
  go_ret
  refine ⟨rfl, ⟨ws, made, ⟨Hj.out.of_blocks rfl rfl, H.out.words, Hrow.out.of_block rfl, H.out.ne, ?_⟩, rfl, Nat.le_succ _⟩, ?_⟩
  · have h1 := Hk.out.size
    have h2 := H.out.lt
    simp only [World.size_alloc] at h1
    first | omega | (simp only [World.size_drew]; omega)
  · exact (((Keep.refl _ _ _).alloc (Nat.le_refl _) _).trans ((Hk.out.mono (by simp)).weaken (fun _ _ e => by rcases e with e | e; exact .inl e; exact .inr (.inl e)))).trans ⟨rfl, rfl, rfl, Nat.le_refl _, fun _ _ _ => rfl⟩

set_option maxRecDepth 100000 in
set_option maxHeartbeats 3200000 in
theorem does_read_in (b c p cap made : Nat) (i : Nat) (y z : Int) (lv : Value) (ws : List Int) (w : World) (h : Both b c p made ws w) (hi : i < ws.length) :
    Calls Try.prog 7 #[.pointer (some ⟨b, 0, none⟩), .slice (some ⟨p, 0, none⟩) ws.length cap, opVal 1 i y z lv] w (DoesEnd b c p made ws w) := by
  have hB := h.boxed 1 i y z lv
  have hrd := read_yes b c i made ws (wd ws i) _ hB.raw hB.words hi rfl
  unfold opVal
  have hln := nums_length ws
  obtain ⟨r1, r1F⟩ := hB.row i (by omega)
  rw [nums_get _ _ hi] at r1
  unfold num opBox at r1
  unfold wd at hrd
  generalize ws.getD i 0 / 1099511627776 = v at *
  have H := Lib.hid h
  have HB := Lib.hid hB
  unfold opBox at hrd
  have Hrd := Lib.hid hrd
  clear hrd h hB
  go_enter Try.func7, Try.ntmps7
  go_wp2_with (first | (go_at_call 13; ((with_reducible refine (Hrd.out).mono ?_); rintro e w' ⟨rfl, rfl⟩)) | (go_at_call 19; ((with_reducible refine (lin_yes _ _ _ i _ hi).mono ?_); rintro e w' ⟨rfl, rfl⟩)))
  go_ret
  refine ⟨rfl, ⟨ws, made, HB.out, rfl, Nat.le_succ _⟩, (Keep.refl _ _ _).alloc (Nat.le_refl _) _⟩

set_option maxRecDepth 100000 in
set_option maxHeartbeats 3200000 in
theorem does_read_out (b c p cap made : Nat) (x : Int) (y z : Int) (lv : Value) (ws : List Int) (w : World) (h : Both b c p made ws w) (hx : x < 0 ∨ (ws.length : Int) ≤ x) :
    Calls Try.prog 7 #[.pointer (some ⟨b, 0, none⟩), .slice (some ⟨p, 0, none⟩) ws.length cap, opVal 1 x y z lv] w (DoesEnd b c p made ws w) := by
  have hB := h.boxed 1 x y z lv
  have hrd := read_no b c made x ws _ hB.raw hx
  unfold opVal
  have hln := nums_length ws
  have Hx := Lib.hid hx
  clear hx
  have H := Lib.hid h
  have HB := Lib.hid hB
  unfold opBox at hrd
  have Hrd := Lib.hid hrd
  clear hrd h hB
  go_enter Try.func7, Try.ntmps7
  go_wp2_with (first | (go_at_call 13; ((with_reducible refine (Hrd.out).mono ?_); rintro e w' ⟨rfl, rfl⟩)) | (go_at_call 19; ((with_reducible refine (lin_no _ _ _ x _ Hx.out).mono ?_); rintro e w' ⟨rfl, rfl⟩)))
  go_ret
  refine ⟨rfl, ⟨ws, made, HB.out, rfl, Nat.le_succ _⟩, (Keep.refl _ _ _).alloc (Nat.le_refl _) _⟩

end Go.Proofs.Ytadelkancmbanaa
