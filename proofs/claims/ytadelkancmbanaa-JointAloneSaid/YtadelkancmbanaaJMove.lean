/-
  Move, alone.
-/
import Derived.Test.YtadelkancmbanaaJLook2
namespace Go.Proofs.Ytadelkancmbanaa
open Go.RowKit
attribute [local go_sem ↓] Go.wp_at_zero Go.wp_at_succ

/-- What Move's function finds in what it captured. -/
structure MoveBoxes (b fb tb q r nb : Nat) (f t n : Int) (w : World) : Prop where
  f : w.cell? ⟨fb, 0, none⟩ = some (.int .i64 f)
  t : w.cell? ⟨tb, 0, none⟩ = some (.int .i64 t)
  q : w.cell? ⟨q, 0, none⟩ = some (.pointer (some ⟨b, 0, none⟩))
  r : w.cell? ⟨r, 0, none⟩ = some (.pointer none)
  n : w.cell? ⟨nb, 0, none⟩ = some (.int .i64 n)

/-- The words behind a Move. -/
def moved (ws : List Int) (f t : Nat) (n : Int) : List Int := (ws.set f (nextWord (wd ws f) (num (wd ws f) - n))).set t (nextWord (wd ws t) (num (wd ws t) + n))

/-- How a Move ends. -/
structure MoveEnd (b c f t made : Nat) (n : Int) (ws : List Int) (w : World) (e : Ending) (w' : World) : Prop where
  less : num (wd ws f) < n → e = .returned (.tuple #[.bool false, .int .i64 265]) ∧ JRaw b c ws made w' ∧ Keep (fun k => k = b ∨ k = c) w.heap.size w w'
  over : n ≤ num (wd ws f) → 1048575 < num (wd ws t) + n → e = .returned (.tuple #[.bool false, .int .i64 263]) ∧ JRaw b c ws made w' ∧ Keep (fun k => k = b ∨ k = c) w.heap.size w w'
  yes : n ≤ num (wd ws f) → num (wd ws t) + n ≤ 1048575 → e = .returned (.tuple #[.bool true, .int .i64 0]) ∧ JRaw b c (moved ws f t n) (made + 1) w' ∧ Keep (fun k => k = b ∨ k = c) w.heap.size w w'

theorem ents2 {W : World} {s : Nat} {e1 e2 : Ent} (h0 : W.cell? ⟨s, 0, none⟩ = some (.int .i64 e1.cell)) (h1 : W.cell? ⟨s, 1, none⟩ = some (.int .i64 e1.old)) (h2 : W.cell? ⟨s, 2, none⟩ = some (.int .i64 e1.nxt))
    (h3 : W.cell? ⟨s, 3, none⟩ = some (.int .i64 e2.cell)) (h4 : W.cell? ⟨s, 4, none⟩ = some (.int .i64 e2.old)) (h5 : W.cell? ⟨s, 5, none⟩ = some (.int .i64 e2.nxt)) : EntsAt s 0 [e1, e2] W :=
  ⟨fun k hk => match k, hk with
    | 0, _ => ⟨h0, h1, h2⟩
    | 1, _ => ⟨h3, h4, h5⟩⟩

theorem fits2 {ws : List Int} {i j : Nat} (hij : i < j) (hj : j < ws.length) (a b : Int) : Fits [⟨i, wd ws i, a⟩, ⟨j, wd ws j, b⟩] ws :=
  ⟨fun k hk => match k, hk with
    | 0, _ => by show i < _; omega
    | 1, _ => hj,
   fun k l hkl hl => by
    have hl' : l < 2 := hl
    obtain ⟨rfl, rfl⟩ : k = 0 ∧ l = 1 := by omega
    show i ≠ j; omega,
   fun k hk => match k, hk with
    | 0, _ => rfl
    | 1, _ => rfl⟩

theorem good2 {i j : Nat} {x y a b : Int} (hx : 0 ≤ x ∧ x ≤ 1152921504606846975) (hy : 0 ≤ y ∧ y ≤ 1152921504606846975) (ha : 0 ≤ a ∧ a ≤ 1048575) (hb : 0 ≤ b ∧ b ≤ 1048575) : Good [⟨i, x, a⟩, ⟨j, y, b⟩] :=
  fun k hk => match k, hk with
    | 0, _ => ⟨hx.1, hx.2, ha.1, ha.2⟩
    | 1, _ => ⟨hy.1, hy.2, hb.1, hb.2⟩

set_option maxRecDepth 100000 in
set_option maxHeartbeats 3200000 in
theorem move1_up (b c fb tb q r nb f t made : Nat) (n x y : Int) (ws : List Int) (w : World) (h : JRaw b c ws made w) (hb : Words ws) (hm : made < 1024) (hbox : MoveBoxes b fb tb q r nb f t n w)
    (hft : f < t) (hfl : f < ws.length) (ht : t < ws.length) (hx : ws.getD f 0 = x) (hy : ws.getD t 0 = y) (hn : 0 ≤ n) (hn' : n ≤ 1048575) :
    Calls Try.prog 29 #[.pointer (some ⟨fb, 0, none⟩), .pointer (some ⟨tb, 0, none⟩), .pointer (some ⟨q, 0, none⟩), .pointer (some ⟨r, 0, none⟩), .pointer (some ⟨nb, 0, none⟩)] w (MoveEnd b c f t made n ws w) := by
  obtain ⟨b1, b2, b3, b4, b5⟩ := hbox
  have Hx := Lib.hid hx
  have Hy := Lib.hid hy
  have H := Lib.hid h
  have Hb := Lib.hid hb
  obtain ⟨gx0, gx1⟩ := hb f hfl
  obtain ⟨gy0, gy1⟩ := hb t ht
  rw [hx] at gx0 gx1
  rw [hy] at gy0 gy1
  have hwx : wd ws f = x := hx
  have hwy : wd ws t = y := hy
  have Hwx := Lib.hid hwx
  have Hwy := Lib.hid hwy
  have hnx := num_bd x gx0 gx1
  have hny := num_bd y gy0 gy1
  unfold num at hnx hny
  clear hx hy h hb hwx hwy
  go_enter Try.func29, Try.ntmps29
  go_wp2
  refine wp_loop_rounds 3 ?_
  rw [rounds_succ]
  go_wp2
  have bq : ∀ o, (w.alloc o).cell? ⟨q, 0, none⟩ = some (.pointer (some ⟨b, 0, none⟩)) := fun o => (old_cell w o _ (World.block_lt_of_cell? w _ b3)).trans b3
  have br : ∀ o, (w.alloc o).cell? ⟨r, 0, none⟩ = some (.pointer none) := fun o => (old_cell w o _ (World.block_lt_of_cell? w _ b4)).trans b4
  have nf := World.new_ne w _ b1
  have nt := World.new_ne w _ b2
  have nq := World.new_ne w _ b3
  have nr := World.new_ne w _ b4
  have nn := World.new_ne w _ b5
  refine Reg.start (fun w' => w'.cell? ⟨q, 0, none⟩ = some (.pointer (some ⟨b, 0, none⟩)) ∧ w'.cell? ⟨r, 0, none⟩ = some (.pointer none) ∧ w'.cell? ⟨w.heap.size, 0, none⟩ = some (.int .i64 f)) [12] (by kernel_rfl) ?_ (fun hHeld => ?_)
  · first | trivial | ((try dsimp only); (refine ⟨?_, ?_, ?_⟩ <;> simp [*, World.cell?_alloc_some]))
  refine Reg.takeP (i := 0) (v := ?v29x5_0) rfl (by kernel_rfl) (by kernel_rfl) (by kernel_rfl) (by kernel_rfl) (fun _ _ _ h => h) (Or.inl ⟨by rfl, ?h29x5_0⟩) (fun _ => hHeld) ?r29x5_0
  case h29x5_0 => (intro wS hSw; (try dsimp only at hSw); go_simp; all_goals with_reducible rfl)
  try simp only [Act.put, List.setIfInBounds_toArray, List.set_cons_zero, List.set_cons_succ]
  refine Reg.takeP (i := 1) (v := ?v29x5_1) rfl (by kernel_rfl) (by kernel_rfl) (by kernel_rfl) (by kernel_rfl) (fun _ _ _ h => h) (Or.inl ⟨by rfl, ?h29x5_1⟩) (fun _ => hHeld) ?r29x5_1
  case h29x5_1 => (intro wS hSw; (try dsimp only at hSw); go_simp; all_goals with_reducible rfl)
  try simp only [Act.put, List.setIfInBounds_toArray, List.set_cons_zero, List.set_cons_succ]
  refine Reg.take (i := 2) (v := ?v29x5_2) rfl (by kernel_rfl) (by kernel_rfl) (by kernel_rfl) (by kernel_rfl) (fun _ _ _ h => h) (Or.inl ⟨by rfl, ?h29x5_2⟩) hHeld ?r29x5_2
  case h29x5_2 => (intro wS hSw; (try dsimp only at hSw); go_simp; all_goals with_reducible rfl)
  try simp only [Act.put, List.setIfInBounds_toArray, List.set_cons_zero, List.set_cons_succ]
  refine Reg.take (i := 3) (v := ?v29x5_3) rfl (by kernel_rfl) (by kernel_rfl) (by kernel_rfl) (by kernel_rfl) (fun _ _ _ h => h) (Or.inl ⟨by rfl, ?h29x5_3⟩) hHeld ?r29x5_3
  case h29x5_3 => (intro wS hSw; (try dsimp only at hSw); go_simp; all_goals with_reducible rfl)
  try simp only [Act.put, List.setIfInBounds_toArray, List.set_cons_zero, List.set_cons_succ]
  refine Reg.takeP (i := 4) (v := ?v29x5_4) rfl (by kernel_rfl) (by kernel_rfl) (by kernel_rfl) (by kernel_rfl) (fun _ _ _ h => h) (Or.inl ⟨by rfl, ?h29x5_4⟩) (fun _ => hHeld) ?r29x5_4
  case h29x5_4 => (intro wS hSw; (try dsimp only at hSw); go_simp; all_goals with_reducible rfl)
  try simp only [Act.put, List.setIfInBounds_toArray, List.set_cons_zero, List.set_cons_succ]
  refine Reg.takeP (i := 5) (v := ?v29x5_5) rfl (by kernel_rfl) (by kernel_rfl) (by kernel_rfl) (by kernel_rfl) (fun _ _ _ h => h) (Or.inl ⟨by rfl, ?h29x5_5⟩) (fun _ => hHeld) ?r29x5_5
  case h29x5_5 => (intro wS hSw; (try dsimp only at hSw); go_simp; all_goals with_reducible rfl)
  try simp only [Act.put, List.setIfInBounds_toArray, List.set_cons_zero, List.set_cons_succ]
  refine Reg.takeP (i := 6) (v := ?v29x5_6) rfl (by kernel_rfl) (by kernel_rfl) (by kernel_rfl) (by kernel_rfl) (fun _ _ _ h => h) (Or.inl ⟨by rfl, ?h29x5_6⟩) (fun _ => hHeld) ?r29x5_6
  case h29x5_6 => (intro wS hSw; (try dsimp only at hSw); go_simp; all_goals with_reducible rfl)
  try simp only [Act.put, List.setIfInBounds_toArray, List.set_cons_zero, List.set_cons_succ]
  refine Reg.takeP (i := 7) (v := ?v29x5_7) rfl (by kernel_rfl) (by kernel_rfl) (by kernel_rfl) (by kernel_rfl) (fun _ _ _ h => h) (Or.inl ⟨by rfl, ?h29x5_7⟩) (fun _ => hHeld) ?r29x5_7
  case h29x5_7 => (intro wS hSw; (try dsimp only at hSw); go_simp; all_goals with_reducible rfl)
  try simp only [Act.put, List.setIfInBounds_toArray, List.set_cons_zero, List.set_cons_succ]
  refine Reg.take (i := 8) (v := ?v29x5_8) rfl (by kernel_rfl) (by kernel_rfl) (by kernel_rfl) (by kernel_rfl) (fun _ _ _ h => h) (Or.inl ⟨by rfl, ?h29x5_8⟩) hHeld ?r29x5_8
  case h29x5_8 => (intro wS hSw; (try dsimp only at hSw); go_simp; all_goals with_reducible rfl)
  try simp only [Act.put, List.setIfInBounds_toArray, List.set_cons_zero, List.set_cons_succ]
  refine Reg.one (i := 9) rfl (by kernel_rfl) (fun K hK => ?_)
  (go_simp; refine (load_at b c f made ws x _ (H.out.alloc _).drew Hb.out hfl Hx.out).mono ?_; rintro e w' ⟨rfl, rfl⟩; dsimp only)
  refine hK.out _ _ (fun _ => ?_) (fun hHeld => ?_)
  · first | trivial | ((try dsimp only); (refine ⟨?_, ?_, ?_⟩ <;> simp [*, World.cell?_alloc_some]))
  replace hHeld := hHeld (by decide)
  clear hK K
  try simp only [Act.put, List.setIfInBounds_toArray, List.set_cons_zero, List.set_cons_succ]
  refine Reg.takeP (i := 10) (v := ?v29x5_10) rfl (by kernel_rfl) (by kernel_rfl) (by kernel_rfl) (by kernel_rfl) (fun _ _ _ h => h) (Or.inl ⟨by rfl, ?h29x5_10⟩) (fun _ => hHeld) ?r29x5_10
  case h29x5_10 => (intro wS hSw; (try dsimp only at hSw); go_simp; all_goals with_reducible rfl)
  try simp only [Act.put, List.setIfInBounds_toArray, List.set_cons_zero, List.set_cons_succ]
  refine Reg.takeP (i := 11) (v := ?v29x5_11) rfl (by kernel_rfl) (by kernel_rfl) (by kernel_rfl) (by kernel_rfl) (fun _ _ _ h => h) (Or.inl ⟨by rfl, ?h29x5_11⟩) (fun _ => hHeld) ?r29x5_11
  case h29x5_11 => (intro wS hSw; (try dsimp only at hSw); go_simp; all_goals with_reducible rfl)
  try simp only [Act.put, List.setIfInBounds_toArray, List.set_cons_zero, List.set_cons_succ]
  refine Reg.one (i := 12) rfl (by kernel_rfl) (fun K hK => ?_)
  go_simp
  refine hK.out _ _ (fun hF => absurd hF (by decide)) (fun _ => ?_)
  clear hK K
  try simp only [Act.put, List.setIfInBounds_toArray, List.set_cons_zero, List.set_cons_succ]
  refine Reg.done (by kernel_rfl) ?_ _
  go_wp2_with (first | (go_at_call 25; refine (hvalue_word _ _ gx0 gx1).mono ?_; rintro e w' ⟨rfl, rfl⟩))
  rw [rounds_succ]
  go_wp2
  refine Reg.start (fun w' => w'.cell? ⟨q, 0, none⟩ = some (.pointer (some ⟨b, 0, none⟩)) ∧ w'.cell? ⟨r, 0, none⟩ = some (.pointer none) ∧ w'.cell? ⟨w.heap.size, 3, none⟩ = some (.int .i64 t)) [12] (by kernel_rfl) ?_ (fun hHeld => ?_)
  · first | trivial | ((try dsimp only); (refine ⟨?_, ?_, ?_⟩ <;> simp [*, World.cell?_alloc_some]))
  refine Reg.takeP (i := 0) (v := ?vb_0) rfl (by kernel_rfl) (by kernel_rfl) (by kernel_rfl) (by kernel_rfl) (fun _ _ _ h => h) (Or.inl ⟨by rfl, ?hb_0⟩) (fun _ => hHeld) ?rb_0
  case hb_0 => (intro wS hSw; (try dsimp only at hSw); go_simp; all_goals with_reducible rfl)
  try simp only [Act.put, List.setIfInBounds_toArray, List.set_cons_zero, List.set_cons_succ]
  refine Reg.takeP (i := 1) (v := ?vb_1) rfl (by kernel_rfl) (by kernel_rfl) (by kernel_rfl) (by kernel_rfl) (fun _ _ _ h => h) (Or.inl ⟨by rfl, ?hb_1⟩) (fun _ => hHeld) ?rb_1
  case hb_1 => (intro wS hSw; (try dsimp only at hSw); go_simp; all_goals with_reducible rfl)
  try simp only [Act.put, List.setIfInBounds_toArray, List.set_cons_zero, List.set_cons_succ]
  refine Reg.take (i := 2) (v := ?vb_2) rfl (by kernel_rfl) (by kernel_rfl) (by kernel_rfl) (by kernel_rfl) (fun _ _ _ h => h) (Or.inl ⟨by rfl, ?hb_2⟩) hHeld ?rb_2
  case hb_2 => (intro wS hSw; (try dsimp only at hSw); go_simp; all_goals with_reducible rfl)
  try simp only [Act.put, List.setIfInBounds_toArray, List.set_cons_zero, List.set_cons_succ]
  refine Reg.take (i := 3) (v := ?vb_3) rfl (by kernel_rfl) (by kernel_rfl) (by kernel_rfl) (by kernel_rfl) (fun _ _ _ h => h) (Or.inl ⟨by rfl, ?hb_3⟩) hHeld ?rb_3
  case hb_3 => (intro wS hSw; (try dsimp only at hSw); go_simp; all_goals with_reducible rfl)
  try simp only [Act.put, List.setIfInBounds_toArray, List.set_cons_zero, List.set_cons_succ]
  refine Reg.takeP (i := 4) (v := ?vb_4) rfl (by kernel_rfl) (by kernel_rfl) (by kernel_rfl) (by kernel_rfl) (fun _ _ _ h => h) (Or.inl ⟨by rfl, ?hb_4⟩) (fun _ => hHeld) ?rb_4
  case hb_4 => (intro wS hSw; (try dsimp only at hSw); go_simp; all_goals with_reducible rfl)
  try simp only [Act.put, List.setIfInBounds_toArray, List.set_cons_zero, List.set_cons_succ]
  refine Reg.takeP (i := 5) (v := ?vb_5) rfl (by kernel_rfl) (by kernel_rfl) (by kernel_rfl) (by kernel_rfl) (fun _ _ _ h => h) (Or.inl ⟨by rfl, ?hb_5⟩) (fun _ => hHeld) ?rb_5
  case hb_5 => (intro wS hSw; (try dsimp only at hSw); go_simp; all_goals with_reducible rfl)
  try simp only [Act.put, List.setIfInBounds_toArray, List.set_cons_zero, List.set_cons_succ]
  refine Reg.takeP (i := 6) (v := ?vb_6) rfl (by kernel_rfl) (by kernel_rfl) (by kernel_rfl) (by kernel_rfl) (fun _ _ _ h => h) (Or.inl ⟨by rfl, ?hb_6⟩) (fun _ => hHeld) ?rb_6
  case hb_6 => (intro wS hSw; (try dsimp only at hSw); go_simp; all_goals with_reducible rfl)
  try simp only [Act.put, List.setIfInBounds_toArray, List.set_cons_zero, List.set_cons_succ]
  refine Reg.takeP (i := 7) (v := ?vb_7) rfl (by kernel_rfl) (by kernel_rfl) (by kernel_rfl) (by kernel_rfl) (fun _ _ _ h => h) (Or.inl ⟨by rfl, ?hb_7⟩) (fun _ => hHeld) ?rb_7
  case hb_7 => (intro wS hSw; (try dsimp only at hSw); go_simp; all_goals with_reducible rfl)
  try simp only [Act.put, List.setIfInBounds_toArray, List.set_cons_zero, List.set_cons_succ]
  refine Reg.take (i := 8) (v := ?vb_8) rfl (by kernel_rfl) (by kernel_rfl) (by kernel_rfl) (by kernel_rfl) (fun _ _ _ h => h) (Or.inl ⟨by rfl, ?hb_8⟩) hHeld ?rb_8
  case hb_8 => (intro wS hSw; (try dsimp only at hSw); go_simp; all_goals with_reducible rfl)
  try simp only [Act.put, List.setIfInBounds_toArray, List.set_cons_zero, List.set_cons_succ]
  refine Reg.one (i := 9) rfl (by kernel_rfl) (fun K hK => ?_)
  (go_simp; refine (load_at b c t made ws y _ (H.out.alloc _).drew.drew Hb.out ht Hy.out).mono ?_; rintro e w' ⟨rfl, rfl⟩; dsimp only)
  refine hK.out _ _ (fun _ => ?_) (fun hHeld => ?_)
  · first | trivial | ((try dsimp only); (refine ⟨?_, ?_, ?_⟩ <;> simp [*, World.cell?_alloc_some]))
  replace hHeld := hHeld (by decide)
  clear hK K
  try simp only [Act.put, List.setIfInBounds_toArray, List.set_cons_zero, List.set_cons_succ]
  refine Reg.takeP (i := 10) (v := ?vb_10) rfl (by kernel_rfl) (by kernel_rfl) (by kernel_rfl) (by kernel_rfl) (fun _ _ _ h => h) (Or.inl ⟨by rfl, ?hb_10⟩) (fun _ => hHeld) ?rb_10
  case hb_10 => (intro wS hSw; (try dsimp only at hSw); go_simp; all_goals with_reducible rfl)
  try simp only [Act.put, List.setIfInBounds_toArray, List.set_cons_zero, List.set_cons_succ]
  refine Reg.takeP (i := 11) (v := ?vb_11) rfl (by kernel_rfl) (by kernel_rfl) (by kernel_rfl) (by kernel_rfl) (fun _ _ _ h => h) (Or.inl ⟨by rfl, ?hb_11⟩) (fun _ => hHeld) ?rb_11
  case hb_11 => (intro wS hSw; (try dsimp only at hSw); go_simp; all_goals with_reducible rfl)
  try simp only [Act.put, List.setIfInBounds_toArray, List.set_cons_zero, List.set_cons_succ]
  refine Reg.one (i := 12) rfl (by kernel_rfl) (fun K hK => ?_)
  go_simp
  refine hK.out _ _ (fun hF => absurd hF (by decide)) (fun _ => ?_)
  clear hK K
  try simp only [Act.put, List.setIfInBounds_toArray, List.set_cons_zero, List.set_cons_succ]
  refine Reg.done (by kernel_rfl) ?_ _
  go_wp2_with (first | (go_at_call 25; refine (hvalue_word _ _ gy0 gy1).mono ?_; rintro e w' ⟨rfl, rfl⟩))
  rw [rounds_succ]
  go_wp2
  refine Reg.start (fun _ => True) [] (by kernel_rfl) ?_ (fun hHeld => ?_)
  · first | trivial | ((try dsimp only); trivial)
  refine Reg.takeP (i := 0) (v := ?v29x8_0) rfl (by kernel_rfl) (by kernel_rfl) (by kernel_rfl) (by kernel_rfl) (fun _ _ _ h => h) (Or.inl ⟨by rfl, ?h29x8_0⟩) (fun _ => hHeld) ?r29x8_0
  case h29x8_0 => (intro wS hSw; (try dsimp only at hSw); go_simp; all_goals with_reducible rfl)
  try simp only [Act.put, List.setIfInBounds_toArray, List.set_cons_zero, List.set_cons_succ]
  refine Reg.takeP (i := 1) (v := ?v29x8_1) rfl (by kernel_rfl) (by kernel_rfl) (by kernel_rfl) (by kernel_rfl) (fun _ _ _ h => h) (Or.inl ⟨by rfl, ?h29x8_1⟩) (fun _ => hHeld) ?r29x8_1
  case h29x8_1 => (intro wS hSw; (try dsimp only at hSw); go_simp; all_goals with_reducible rfl)
  try simp only [Act.put, List.setIfInBounds_toArray, List.set_cons_zero, List.set_cons_succ]
  refine Reg.takeP (i := 2) (v := ?v29x8_2) rfl (by kernel_rfl) (by kernel_rfl) (by kernel_rfl) (by kernel_rfl) (fun _ _ _ h => h) (Or.inl ⟨by rfl, ?h29x8_2⟩) (fun _ => hHeld) ?r29x8_2
  case h29x8_2 => (intro wS hSw; (try dsimp only at hSw); go_simp; all_goals with_reducible rfl)
  try simp only [Act.put, List.setIfInBounds_toArray, List.set_cons_zero, List.set_cons_succ]
  refine Reg.takeP (i := 3) (v := ?v29x8_3) rfl (by kernel_rfl) (by kernel_rfl) (by kernel_rfl) (by kernel_rfl) (fun _ _ _ h => h) (Or.inl ⟨by rfl, ?h29x8_3⟩) (fun _ => hHeld) ?r29x8_3
  case h29x8_3 => (intro wS hSw; (try dsimp only at hSw); go_simp; all_goals with_reducible rfl)
  try simp only [Act.put, List.setIfInBounds_toArray, List.set_cons_zero, List.set_cons_succ]
  refine Reg.takeP (i := 4) (v := ?v29x8_4) rfl (by kernel_rfl) (by kernel_rfl) (by kernel_rfl) (by kernel_rfl) (fun _ _ _ h => h) (Or.inl ⟨by rfl, ?h29x8_4⟩) (fun _ => hHeld) ?r29x8_4
  case h29x8_4 => (intro wS hSw; (try dsimp only at hSw); go_simp; all_goals with_reducible rfl)
  try simp only [Act.put, List.setIfInBounds_toArray, List.set_cons_zero, List.set_cons_succ]
  refine Reg.takeP (i := 5) (v := ?v29x8_5) rfl (by kernel_rfl) (by kernel_rfl) (by kernel_rfl) (by kernel_rfl) (fun _ _ _ h => h) (Or.inl ⟨by rfl, ?h29x8_5⟩) (fun _ => hHeld) ?r29x8_5
  case h29x8_5 => (intro wS hSw; (try dsimp only at hSw); go_simp; all_goals with_reducible rfl)
  try simp only [Act.put, List.setIfInBounds_toArray, List.set_cons_zero, List.set_cons_succ]
  refine Reg.done (by kernel_rfl) ?_ _
  go_wp2
  refine Reg.start (fun w' => w'.cell? ⟨w.heap.size, 0, none⟩ = some (.int .i64 f) ∧ w'.cell? ⟨fb, 0, none⟩ = some (.int .i64 f)) [] (by kernel_rfl) ?_ (fun hHeld => ?_)
  · first | trivial | ((try dsimp only); (refine ⟨?_, ?_⟩ <;> simp [*, World.cell?_alloc_some]))
  refine Reg.takeP (i := 0) (v := ?v29x9_0) rfl (by kernel_rfl) (by kernel_rfl) (by kernel_rfl) (by kernel_rfl) (fun _ _ _ h => h) (Or.inl ⟨by rfl, ?h29x9_0⟩) (fun _ => hHeld) ?r29x9_0
  case h29x9_0 => (intro wS hSw; (try dsimp only at hSw); go_simp; all_goals with_reducible rfl)
  try simp only [Act.put, List.setIfInBounds_toArray, List.set_cons_zero, List.set_cons_succ]
  refine Reg.takeP (i := 1) (v := ?v29x9_1) rfl (by kernel_rfl) (by kernel_rfl) (by kernel_rfl) (by kernel_rfl) (fun _ _ _ h => h) (Or.inl ⟨by rfl, ?h29x9_1⟩) (fun _ => hHeld) ?r29x9_1
  case h29x9_1 => (intro wS hSw; (try dsimp only at hSw); go_simp; all_goals with_reducible rfl)
  try simp only [Act.put, List.setIfInBounds_toArray, List.set_cons_zero, List.set_cons_succ]
  refine Reg.takeP (i := 2) (v := ?v29x9_2) rfl (by kernel_rfl) (by kernel_rfl) (by kernel_rfl) (by kernel_rfl) (fun _ _ _ h => h) (Or.inl ⟨by rfl, ?h29x9_2⟩) (fun _ => hHeld) ?r29x9_2
  case h29x9_2 => (intro wS hSw; (try dsimp only at hSw); go_simp; all_goals with_reducible rfl)
  try simp only [Act.put, List.setIfInBounds_toArray, List.set_cons_zero, List.set_cons_succ]
  refine Reg.take (i := 3) (v := ?v29x9_3) rfl (by kernel_rfl) (by kernel_rfl) (by kernel_rfl) (by kernel_rfl) (fun _ _ _ h => h) (Or.inl ⟨by rfl, ?h29x9_3⟩) hHeld ?r29x9_3
  case h29x9_3 => (intro wS hSw; (try dsimp only at hSw); go_simp; all_goals with_reducible rfl)
  try simp only [Act.put, List.setIfInBounds_toArray, List.set_cons_zero, List.set_cons_succ]
  refine Reg.take (i := 4) (v := ?v29x9_4) rfl (by kernel_rfl) (by kernel_rfl) (by kernel_rfl) (by kernel_rfl) (fun _ _ _ h => h) (Or.inl ⟨by rfl, ?h29x9_4⟩) hHeld ?r29x9_4
  case h29x9_4 => (intro wS hSw; (try dsimp only at hSw); go_simp; all_goals with_reducible rfl)
  try simp only [Act.put, List.setIfInBounds_toArray, List.set_cons_zero, List.set_cons_succ]
  refine Reg.takeP (i := 5) (v := ?v29x9_5) rfl (by kernel_rfl) (by kernel_rfl) (by kernel_rfl) (by kernel_rfl) (fun _ _ _ h => h) (Or.inl ⟨by rfl, ?h29x9_5⟩) (fun _ => hHeld) ?r29x9_5
  case h29x9_5 => (intro wS hSw; (try dsimp only at hSw); go_simp; all_goals with_reducible rfl)
  try simp only [Act.put, List.setIfInBounds_toArray, List.set_cons_zero, List.set_cons_succ]
  refine Reg.done (by kernel_rfl) ?_ _
  go_wp2
  refine Reg.start (fun w' => w'.cell? ⟨w.heap.size, 2, none⟩ = some (.int .i64 (x / 1099511627776)) ∧ w'.cell? ⟨nb, 0, none⟩ = some (.int .i64 n)) [8] (by kernel_rfl) ?_ (fun hHeld => ?_)
  · first | trivial | ((try dsimp only); (refine ⟨?_, ?_⟩ <;> simp [*, World.cell?_alloc_some]))
  refine Reg.takeP (i := 0) (v := ?v29x11_0) rfl (by kernel_rfl) (by kernel_rfl) (by kernel_rfl) (by kernel_rfl) (fun _ _ _ h => h) (Or.inl ⟨by rfl, ?h29x11_0⟩) (fun _ => hHeld) ?r29x11_0
  case h29x11_0 => (intro wS hSw; (try dsimp only at hSw); go_simp; all_goals with_reducible rfl)
  try simp only [Act.put, List.setIfInBounds_toArray, List.set_cons_zero, List.set_cons_succ]
  refine Reg.takeP (i := 1) (v := ?v29x11_1) rfl (by kernel_rfl) (by kernel_rfl) (by kernel_rfl) (by kernel_rfl) (fun _ _ _ h => h) (Or.inl ⟨by rfl, ?h29x11_1⟩) (fun _ => hHeld) ?r29x11_1
  case h29x11_1 => (intro wS hSw; (try dsimp only at hSw); go_simp; all_goals with_reducible rfl)
  try simp only [Act.put, List.setIfInBounds_toArray, List.set_cons_zero, List.set_cons_succ]
  refine Reg.takeP (i := 2) (v := ?v29x11_2) rfl (by kernel_rfl) (by kernel_rfl) (by kernel_rfl) (by kernel_rfl) (fun _ _ _ h => h) (Or.inl ⟨by rfl, ?h29x11_2⟩) (fun _ => hHeld) ?r29x11_2
  case h29x11_2 => (intro wS hSw; (try dsimp only at hSw); go_simp; all_goals with_reducible rfl)
  try simp only [Act.put, List.setIfInBounds_toArray, List.set_cons_zero, List.set_cons_succ]
  refine Reg.take (i := 3) (v := ?v29x11_3) rfl (by kernel_rfl) (by kernel_rfl) (by kernel_rfl) (by kernel_rfl) (fun _ _ _ h => h) (Or.inl ⟨by rfl, ?h29x11_3⟩) hHeld ?r29x11_3
  case h29x11_3 => (intro wS hSw; (try dsimp only at hSw); go_simp; all_goals with_reducible rfl)
  try simp only [Act.put, List.setIfInBounds_toArray, List.set_cons_zero, List.set_cons_succ]
  refine Reg.take (i := 4) (v := ?v29x11_4) rfl (by kernel_rfl) (by kernel_rfl) (by kernel_rfl) (by kernel_rfl) (fun _ _ _ h => h) (Or.inl ⟨by rfl, ?h29x11_4⟩) hHeld ?r29x11_4
  case h29x11_4 => (intro wS hSw; (try dsimp only at hSw); go_simp; all_goals with_reducible rfl)
  try simp only [Act.put, List.setIfInBounds_toArray, List.set_cons_zero, List.set_cons_succ]
  refine Reg.takeP (i := 5) (v := ?v29x11_5) rfl (by kernel_rfl) (by kernel_rfl) (by kernel_rfl) (by kernel_rfl) (fun _ _ _ h => h) (Or.inl ⟨by rfl, ?h29x11_5⟩) (fun _ => hHeld) ?r29x11_5
  case h29x11_5 => (intro wS hSw; (try dsimp only at hSw); go_simp; all_goals with_reducible rfl)
  try simp only [Act.put, List.setIfInBounds_toArray, List.set_cons_zero, List.set_cons_succ]
  refine Reg.takeP (i := 6) (v := ?v29x11_6) rfl (by kernel_rfl) (by kernel_rfl) (by kernel_rfl) (by kernel_rfl) (fun _ _ _ h => h) (Or.inl ⟨by rfl, ?h29x11_6⟩) (fun _ => hHeld) ?r29x11_6
  case h29x11_6 => (intro wS hSw; (try dsimp only at hSw); go_simp; all_goals with_reducible rfl)
  try simp only [Act.put, List.setIfInBounds_toArray, List.set_cons_zero, List.set_cons_succ]
  refine Reg.takeP (i := 7) (v := ?v29x11_7) rfl (by kernel_rfl) (by kernel_rfl) (by kernel_rfl) (by kernel_rfl) (fun _ _ _ h => h) (Or.inl ⟨by rfl, ?h29x11_7⟩) (fun _ => hHeld) ?r29x11_7
  case h29x11_7 => (intro wS hSw; (try dsimp only at hSw); go_simp; all_goals with_reducible rfl)
  try simp only [Act.put, List.setIfInBounds_toArray, List.set_cons_zero, List.set_cons_succ]
  refine Reg.one (i := 8) rfl (by kernel_rfl) (fun K hK => ?_)
  go_simp
  refine hK.out _ _ (fun hF => absurd hF (by decide)) (fun _ => ?_)
  clear hK K
  try simp only [Act.put, List.setIfInBounds_toArray, List.set_cons_zero, List.set_cons_succ]
  refine Reg.done (by kernel_rfl) ?_ _
  go_wp2
  refine Reg.start (fun w' => w'.cell? ⟨w.heap.size, 5, none⟩ = some (.int .i64 (y / 1099511627776)) ∧ w'.cell? ⟨nb, 0, none⟩ = some (.int .i64 n)) [8] (by kernel_rfl) ?_ (fun hHeld => ?_)
  · first | trivial | ((try dsimp only); (refine ⟨?_, ?_⟩ <;> simp [*, World.cell?_alloc_some]))
  refine Reg.takeP (i := 0) (v := ?v29x12_0) rfl (by kernel_rfl) (by kernel_rfl) (by kernel_rfl) (by kernel_rfl) (fun _ _ _ h => h) (Or.inl ⟨by rfl, ?h29x12_0⟩) (fun _ => hHeld) ?r29x12_0
  case h29x12_0 => (intro wS hSw; (try dsimp only at hSw); go_simp; all_goals with_reducible rfl)
  try simp only [Act.put, List.setIfInBounds_toArray, List.set_cons_zero, List.set_cons_succ]
  refine Reg.takeP (i := 1) (v := ?v29x12_1) rfl (by kernel_rfl) (by kernel_rfl) (by kernel_rfl) (by kernel_rfl) (fun _ _ _ h => h) (Or.inl ⟨by rfl, ?h29x12_1⟩) (fun _ => hHeld) ?r29x12_1
  case h29x12_1 => (intro wS hSw; (try dsimp only at hSw); go_simp; all_goals with_reducible rfl)
  try simp only [Act.put, List.setIfInBounds_toArray, List.set_cons_zero, List.set_cons_succ]
  refine Reg.takeP (i := 2) (v := ?v29x12_2) rfl (by kernel_rfl) (by kernel_rfl) (by kernel_rfl) (by kernel_rfl) (fun _ _ _ h => h) (Or.inl ⟨by rfl, ?h29x12_2⟩) (fun _ => hHeld) ?r29x12_2
  case h29x12_2 => (intro wS hSw; (try dsimp only at hSw); go_simp; all_goals with_reducible rfl)
  try simp only [Act.put, List.setIfInBounds_toArray, List.set_cons_zero, List.set_cons_succ]
  refine Reg.take (i := 3) (v := ?v29x12_3) rfl (by kernel_rfl) (by kernel_rfl) (by kernel_rfl) (by kernel_rfl) (fun _ _ _ h => h) (Or.inl ⟨by rfl, ?h29x12_3⟩) hHeld ?r29x12_3
  case h29x12_3 => (intro wS hSw; (try dsimp only at hSw); go_simp; all_goals with_reducible rfl)
  try simp only [Act.put, List.setIfInBounds_toArray, List.set_cons_zero, List.set_cons_succ]
  refine Reg.take (i := 4) (v := ?v29x12_4) rfl (by kernel_rfl) (by kernel_rfl) (by kernel_rfl) (by kernel_rfl) (fun _ _ _ h => h) (Or.inl ⟨by rfl, ?h29x12_4⟩) hHeld ?r29x12_4
  case h29x12_4 => (intro wS hSw; (try dsimp only at hSw); go_simp; all_goals with_reducible rfl)
  try simp only [Act.put, List.setIfInBounds_toArray, List.set_cons_zero, List.set_cons_succ]
  refine Reg.takeP (i := 5) (v := ?v29x12_5) rfl (by kernel_rfl) (by kernel_rfl) (by kernel_rfl) (by kernel_rfl) (fun _ _ _ h => h) (Or.inl ⟨by rfl, ?h29x12_5⟩) (fun _ => hHeld) ?r29x12_5
  case h29x12_5 => (intro wS hSw; (try dsimp only at hSw); go_simp; all_goals with_reducible rfl)
  try simp only [Act.put, List.setIfInBounds_toArray, List.set_cons_zero, List.set_cons_succ]
  refine Reg.takeP (i := 6) (v := ?v29x12_6) rfl (by kernel_rfl) (by kernel_rfl) (by kernel_rfl) (by kernel_rfl) (fun _ _ _ h => h) (Or.inl ⟨by rfl, ?h29x12_6⟩) (fun _ => hHeld) ?r29x12_6
  case h29x12_6 => (intro wS hSw; (try dsimp only at hSw); go_simp; all_goals with_reducible rfl)
  try simp only [Act.put, List.setIfInBounds_toArray, List.set_cons_zero, List.set_cons_succ]
  refine Reg.takeP (i := 7) (v := ?v29x12_7) rfl (by kernel_rfl) (by kernel_rfl) (by kernel_rfl) (by kernel_rfl) (fun _ _ _ h => h) (Or.inl ⟨by rfl, ?h29x12_7⟩) (fun _ => hHeld) ?r29x12_7
  case h29x12_7 => (intro wS hSw; (try dsimp only at hSw); go_simp; all_goals with_reducible rfl)
  try simp only [Act.put, List.setIfInBounds_toArray, List.set_cons_zero, List.set_cons_succ]
  refine Reg.one (i := 8) rfl (by kernel_rfl) (fun K hK => ?_)
  go_simp
  refine hK.out _ _ (fun hF => absurd hF (by decide)) (fun _ => ?_)
  clear hK K
  try simp only [Act.put, List.setIfInBounds_toArray, List.set_cons_zero, List.set_cons_succ]
  refine Reg.done (by kernel_rfl) ?_ _
  have hkeep0 : ∀ (o : Obj), Keep (fun k => k = b ∨ k = c) w.heap.size w (w.alloc o) := fun o => (Keep.refl _ _ _).alloc (Nat.le_refl _) _
  have Hk := Lib.hid hkeep0
  clear hkeep0
  by_cases hless : x / 1099511627776 < n
  · have hd : decide (x / 1099511627776 - n < 0) = true := by simp; omega
    go_wp2
    go_ret2
    refine ⟨fun _ => ⟨rfl, ?_, ?_⟩, fun h => ?_, fun h => ?_⟩
    · exact H.out.of_blocks (Below.heap_alloc _ _ _ H.out.lt.1) (Below.heap_alloc _ _ _ H.out.lt.2)
    · exact (Hk.out _).trans ⟨rfl, rfl, rfl, Nat.le_refl _, fun _ _ _ => rfl⟩
    · rw [Hwx.out] at h; unfold num at h; omega
    · rw [Hwx.out] at h; unfold num at h; omega
  · have hd : decide (x / 1099511627776 - n < 0) = false := by simp; omega
    by_cases hover : 1048575 < y / 1099511627776 + n
    · go_wp2_with (first | (go_at_call 16; refine (lies_no _ _ (.inr hover)).mono ?_; rintro e w' ⟨rfl, rfl⟩))
      go_ret2
      refine ⟨fun h => ?_, fun _ _ => ⟨rfl, ?_, ?_⟩, fun _ h => ?_⟩
      · rw [Hwx.out] at h; unfold num at h; omega
      · exact H.out.of_blocks (Below.heap_alloc _ _ _ H.out.lt.1) (Below.heap_alloc _ _ _ H.out.lt.2)
      · exact (Hk.out _).trans ⟨rfl, rfl, rfl, Nat.le_refl _, fun _ _ _ => rfl⟩
      · rw [Hwy.out] at h; unfold num at h; omega
    · have hgood : Good [⟨f, x, x / 1099511627776 - n⟩, ⟨t, y, y / 1099511627776 + n⟩] := good2 ⟨gx0, gx1⟩ ⟨gy0, gy1⟩ (by omega) (by omega)
      have hfits : Fits [⟨f, x, x / 1099511627776 - n⟩, ⟨t, y, y / 1099511627776 + n⟩] ws := by
        have := fits2 hft ht (x / 1099511627776 - n) (y / 1099511627776 + n)
        rw [Hwx.out, Hwy.out] at this
        exact this
      have Hgood := Lib.hid hgood
      have Hfits := Lib.hid hfits
      clear hgood hfits
      have hlt := H.out.lt
      go_wp2_with (first | (go_at_call 16; refine (lies_yes _ _ (by omega) (by omega)).mono ?_; rintro e w' ⟨rfl, rfl⟩))
      refine (jdoes_any b c w.heap.size 0 2 made [⟨f, x, x / 1099511627776 - n⟩, ⟨t, y, y / 1099511627776 + n⟩] ws _ (by exact H.out.of_blocks (Below.heap_alloc _ _ _ H.out.lt.1) (Below.heap_alloc _ _ _ H.out.lt.2)) hm (ents2 (by simp) (by simp) (by simp) (by simp) (by simp) (by simp)) (by omega) (by simp) (by simp) Hfits.out Hgood.out).mono ?_
      rintro e w' ⟨rfl, hj, hk⟩
      have hj' : JRaw b c (moved ws f t n) (made + 1) w' := by
        have e : fin [⟨f, x, x / 1099511627776 - n⟩, ⟨t, y, y / 1099511627776 + n⟩] ws 2 = moved ws f t n := by
          unfold moved num
          rw [Hwx.out, Hwy.out]
          exact rfl
        rw [← e]; exact hj
      have hk1 := hk.mono (B' := w.heap.size) (by simp)
      have hk' : Keep (fun k => k = b ∨ k = c) w.heap.size w w' := by
        refine Keep.trans ?_ hk1
        exact (Hk.out _).trans ⟨rfl, rfl, rfl, Nat.le_refl _, fun _ _ _ => rfl⟩
      have Hj := Lib.hid hj'
      have Hkk := Lib.hid hk'
      clear hj hk hj' hk'
      go_wp2
      go_ret2
      refine ⟨fun h => ?_, fun _ h => ?_, fun _ _ => ⟨rfl, Hj.out, Hkk.out⟩⟩
      · rw [Hwx.out] at h; unfold num at h; omega
      · rw [Hwy.out] at h; unfold num at h; omega

end Go.Proofs.Ytadelkancmbanaa
