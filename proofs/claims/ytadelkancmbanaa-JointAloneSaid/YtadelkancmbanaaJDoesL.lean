/-
  The law's does: a Read, a Move.
-/
import Derived.Test.YtadelkancmbanaaJLaw
namespace Go.Proofs.Ytadelkancmbanaa
open Go.RowKit
attribute [local go_sem ↓] Go.wp_at_zero Go.wp_at_succ

/-- A plain list in block p. -/
def LRow (p : Nat) (l : List Int) (w : World) : Prop := ∀ i, i < l.length → w.cell? ⟨p, i, none⟩ = some (.int .i64 (l.getD i 0)) ∧ w.frozen? ⟨p, i, none⟩ = false

theorem LRow.of_block {p : Nat} {l : List Int} {w w' : World} (h : LRow p l w) (hb : w'.heap[p]? = w.heap[p]?) : LRow p l w' := fun i hi => by
  rw [World.cell?_of_block (w := w) (w' := w') hb, World.frozen?_of_block (w := w) (w' := w') hb]; exact h i hi

theorem LRow.set {p i : Nat} {l : List Int} {w : World} {x : Int} (h : LRow p l w) (hi : i < l.length) : LRow p (l.set i x) (w.setCell ⟨p, i, none⟩ (.int .i64 x)) := fun j hj => by
  simp only [List.length_set] at hj
  rw [World.frozen?_setCell, getD_set_eq _ _ _ _ hi]
  refine ⟨?_, (h j hj).2⟩
  by_cases e : i = j
  · subst e; rw [if_pos rfl]; exact World.cell?_setCell_same _ _ _ (h i hi).1
  · rw [if_neg e, World.cell?_setCell_other _ _ _ _ (fun (k : (⟨p, i, none⟩ : Addr) = ⟨p, j, none⟩) => e (by cases k; rfl))]; exact (h j hj).1

/-- The cells and the list beside them: they hold the same. -/
structure Both (b c p made : Nat) (ws : List Int) (w : World) : Prop where
  raw : JRaw b c ws made w
  words : Words ws
  row : LRow p (nums ws) w
  ne : p ≠ b ∧ p ≠ c
  lt : p < w.heap.size

def DoesEnd (b c p made : Nat) (ws : List Int) (w : World) (e : Ending) (w' : World) : Prop :=
  e = .returned (.bool true) ∧ (∃ ws' made', Both b c p made' ws' w' ∧ ws'.length = ws.length ∧ made' ≤ made + 1) ∧ Keep (fun k => k = b ∨ k = c ∨ k = p) w.heap.size w w'

/-- An Op's value. -/
def opVal (k x y z : Int) (lv : Value) : Value := .agg #[.int .i64 k, .int .i64 x, .int .i64 y, .int .i64 z, lv]

theorem Both.same {b c p made : Nat} {ws : List Int} {w w' : World} (h : Both b c p made ws w) (hk : Keep (fun k => k = b ∨ k = c) w.heap.size w w') (hr : JRaw b c ws made w') : Both b c p made ws w' :=
  ⟨hr, h.words, h.row.of_block (hk.block p h.lt (fun e => by rcases e with e | e; exact h.ne.1 e; exact h.ne.2 e)), h.ne, by have := hk.size; have := h.lt; omega⟩

theorem nums_length (ws : List Int) : (nums ws).length = ws.length := by simp [nums]

/-- The world with the parameter boxed. -/
def opBox (k x y z : Int) (lv : Value) (w : World) : World := w.alloc (.cells #[.int .i64 k, .int .i64 x, .int .i64 y, .int .i64 z, lv] 31)

theorem opBox_cell (k x y z : Int) (lv : Value) (w : World) : (opBox k x y z lv w).cell? ⟨w.heap.size, 0, none⟩ = some (.int .i64 k) ∧ (opBox k x y z lv w).cell? ⟨w.heap.size, 1, none⟩ = some (.int .i64 x) ∧ (opBox k x y z lv w).cell? ⟨w.heap.size, 2, none⟩ = some (.int .i64 y) ∧ (opBox k x y z lv w).cell? ⟨w.heap.size, 3, none⟩ = some (.int .i64 z) ∧ (opBox k x y z lv w).cell? ⟨w.heap.size, 4, none⟩ = some lv := by
  unfold opBox
  refine ⟨?_, ?_, ?_, ?_, ?_⟩ <;> (rw [World.cell?_alloc_new]; rfl)

theorem Both.boxed {b c p made : Nat} {ws : List Int} {w : World} (h : Both b c p made ws w) (k x y z : Int) (lv : Value) : Both b c p made ws (opBox k x y z lv w) :=
  ⟨h.raw.alloc _, h.words, h.row.of_block (Below.heap_alloc _ _ _ h.lt), h.ne, by unfold opBox; simp; have := h.lt; omega⟩

set_option maxRecDepth 100000 in
set_option maxHeartbeats 3200000 in
theorem does_move_yes (b c p cap made f t : Nat) (n : Int) (lv : Value) (ws : List Int) (w : World) (h : Both b c p made ws w) (hm : made < 1024) (hf : f < ws.length) (ht : t < ws.length) (hft : f ≠ t) (h0 : 0 ≤ n) (h1 : n ≤ num (wd ws f)) (h2 : num (wd ws t) + n ≤ 1048575) (hlv : lv.oneCell' = true) :
    Calls Try.prog 7 #[.pointer (some ⟨b, 0, none⟩), .slice (some ⟨p, 0, none⟩) ws.length cap, opVal 3 f t n lv] w (DoesEnd b c p made ws w) := by
  have hB := h.boxed 3 f t n lv
  have hnf := num_bd (wd ws f) (h.words f hf).1 (h.words f hf).2
  have hmv := move_any b c made f t n ws _ hB.raw hB.words hm hf ht hft h0 (by omega)
  unfold opVal
  have hbc := opBox_cell 3 f t n lv w
  unfold opBox at hmv hbc
  have Hmv := Lib.hid hmv
  have H := Lib.hid h
  have HB := Lib.hid hB
  have Hbc := Lib.hid hbc
  clear hmv h hB hbc
  go_enter Try.func7, Try.ntmps7
  go_wp2_with fail
  refine Hmv.out.mono ?_
  rintro e w' hE
  obtain ⟨rfl, hj, hk⟩ := hE.yes h1 h2
  have hNb : w.heap.size ≠ b := by have := H.out.raw.lt; omega
  have hNc : w.heap.size ≠ c := by have := H.out.raw.lt; omega
  have hN : ¬ (w.heap.size = b ∨ w.heap.size = c) := fun e => by rcases e with e | e; exact hNb e; exact hNc e
  have q1 := (hk.cell (p := ⟨w.heap.size, 1, none⟩) (by simp) hN).trans Hbc.out.2.1
  have q2 := (hk.cell (p := ⟨w.heap.size, 2, none⟩) (by simp) hN).trans Hbc.out.2.2.1
  have q3 := (hk.cell (p := ⟨w.heap.size, 3, none⟩) (by simp) hN).trans Hbc.out.2.2.2.1
  have hb2 : Both b c p (made + 1) (moved ws f t n) w' → True := fun _ => trivial
  have hrow : LRow p (nums ws) w' := HB.out.row.of_block (hk.block p HB.out.lt (fun e => by rcases e with e | e; exact H.out.ne.1 e; exact H.out.ne.2 e))
  have hln := nums_length ws
  obtain ⟨r1, r1F⟩ := hrow f (by omega)
  obtain ⟨r2, r2F⟩ := hrow t (by omega)
  rw [nums_get _ _ hf] at r1
  rw [nums_get _ _ ht] at r2
  have e1 : num (ws.getD f 0) = num (wd ws f) := rfl
  have e2 : num (ws.getD t 0) = num (wd ws t) := rfl
  rw [e1] at r1
  rw [e2] at r2
  have Hrow := Lib.hid hrow
  have Hj := Lib.hid hj
  have Hk := Lib.hid hk
  have hnt := num_bd (wd ws t) (H.out.words t ht).1 (H.out.words t ht).2
  have Hx1 : Hid (num (wd ws f) = (nums ws).getD f 0) := Lib.hid (by rw [nums_get _ _ hf]; rfl)
  have Hx2 : Hid (num (wd ws t) = (nums ws).getD t 0) := Lib.hid (by rw [nums_get _ _ ht]; rfl)
  have Hmn := Lib.hid (moved_nums ws f t n H.out.words hf ht hft h0 h1 h2)
  have Hmw := Lib.hid (moved_words ws f t n H.out.words hf ht hft h0 h1 h2)
  clear hrow hj hk hE hb2 e1 e2
  generalize num (wd ws f) = x at *
  generalize num (wd ws t) = y at *
  have hdx : decide (x < n) = false := by simp; omega
  have hdy : decide (1048575 < y + n) = false := by simp; omega
  have hwx : IntKind.i64.wrap (x - n) = x - n := by rw [IntKind.wrap_i64]; omega
  have hwy : IntKind.i64.wrap (y + n) = y + n := by rw [IntKind.wrap_i64]; omega
  have hq : ((f : Int) == t) = false := by rw [beq_eq_false_iff_ne]; omega
  go_wp2_with (first | (go_at_call 19; ((with_reducible refine (lin_yes _ _ _ f _ hf).mono ?_); rintro e w' ⟨rfl, rfl⟩)) | (go_at_call 19; ((with_reducible refine (lin_yes _ _ _ t _ ht).mono ?_); rintro e w' ⟨rfl, rfl⟩)) | (go_at_call 21; ((with_reducible refine (lis_yes _ _ h0 (by omega)).mono ?_); rintro e w' ⟨rfl, rfl⟩)))
  refine wp_region_still_tail 8 (by kernel_rfl) (by kernel_rfl) ?_
  simp only [List.take_succ_cons, List.take_zero, List.drop_succ_cons, List.drop_zero]
  change wpStill _ _ (World.drew _) _ _ _
  repeat (first | (refine wpStill_step (fun K hK => ?_); go_simp; refine hK _ ?_; clear hK K))
  refine wpStill_nil ?_
  change wpList _ _ _ _ _ (World.drew _)
  go_wp2
  refine wp_region_still_tail 9 (by kernel_rfl) (by kernel_rfl) ?_
  simp only [List.take_succ_cons, List.take_zero, List.drop_succ_cons, List.drop_zero]
  change wpStill _ _ (World.drew _) _ _ _
  repeat (first | (refine wpStill_step (fun K hK => ?_); go_simp; refine hK _ ?_; clear hK K))
  refine wpStill_nil ?_
  change wpList _ _ _ _ _ (World.drew _)
  go_wp2
  refine wp_region_still_tail 12 (by kernel_rfl) (by kernel_rfl) ?_
  simp only [List.take_succ_cons, List.take_zero, List.drop_succ_cons, List.drop_zero]
  change wpStill _ _ (World.drew _) _ _ _
  repeat (first | (refine wpStill_step (fun K hK => ?_); go_simp; refine hK _ ?_; clear hK K))
  refine wpStill_nil ?_
  change wpList _ _ _ _ _ (World.drew _)
  have hpN : p ≠ w.heap.size := by have := H.out.lt; omega
  have s2 : ∀ v, (w'.setCell ⟨p, f, none⟩ v).cell? ⟨w.heap.size, 2, none⟩ = some (.int .i64 t) := fun v => (World.cell?_setCell_other _ _ _ _ (by intro e; injection e with e; exact hpN e)).trans q2
  have s3 : ∀ v, (w'.setCell ⟨p, f, none⟩ v).cell? ⟨w.heap.size, 3, none⟩ = some (.int .i64 n) := fun v => (World.cell?_setCell_other _ _ _ _ (by intro e; injection e with e; exact hpN e)).trans q3
  have s4 : ∀ v, (w'.setCell ⟨p, f, none⟩ v).cell? ⟨p, t, none⟩ = some (.int .i64 y) := fun v => (World.cell?_setCell_other _ _ _ _ (by intro e; injection e with _ e; exact hft e)).trans r2
  go_wp2
  refine wp_region_still_tail 12 (by kernel_rfl) (by kernel_rfl) ?_
  simp only [List.take_succ_cons, List.take_zero, List.drop_succ_cons, List.drop_zero]
  change wpStill _ _ (World.drew _) _ _ _
  repeat (first | (refine wpStill_step (fun K hK => ?_); go_simp; refine hK _ ?_; clear hK K))
  refine wpStill_nil ?_
  change wpList _ _ _ _ _ (World.drew _)
  go_wp2
  go_ret
  refine ⟨rfl, ⟨_, made + 1, ⟨((Hj.out.other H.out.ne.1 H.out.ne.2 _).other H.out.ne.1 H.out.ne.2 _).of_blocks rfl rfl, Hmw.out, ?_, H.out.ne, ?_⟩, moved_length _ _ _ _, Nat.le_refl _⟩, ?_⟩
  · rw [Hmn.out]
    unfold movedL
    rw [← Hx1.out, ← Hx2.out]
    exact ((Hrow.out.set (by omega)).set (by rw [List.length_set]; omega)).of_block rfl
  · have h1 := Hk.out.size
    have h2 := H.out.lt
    simp only [World.size_alloc] at h1
    simp [World.setCell]
    omega
  · exact (((((Keep.refl _ _ _).alloc (Nat.le_refl _) _).trans ((Hk.out.mono (by simp)).weaken (fun _ _ e => by rcases e with e | e; exact .inl e; exact .inr (.inl e)))).setCell (.inl (.inr (.inr rfl))) _).setCell (.inl (.inr (.inr rfl))) _).drewN (n := 0) |>.trans ⟨rfl, rfl, rfl, Nat.le_refl _, fun _ _ _ => rfl⟩
end Go.Proofs.Ytadelkancmbanaa
