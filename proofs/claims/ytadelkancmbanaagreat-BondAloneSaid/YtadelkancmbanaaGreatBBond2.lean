/-
  bond.Cells in memory; a version looked at.
-/
import Derived.Test.YtadelkancmbanaaGreatBENew
namespace Go.Proofs.YtadelkancmbanaaGreat
open Go.RowKit
attribute [local go_sem ↓] Go.wp_at_zero Go.wp_at_succ

/-- The blocks that a bond stands on: its own, its heads'; pool, epoch, clock. -/
structure XB where
  x : Nat
  h : Nat
  p : Nat
  e : Nat
  c : Nat

/-- bond.Cells: the heads, how many descriptors worker 0 has made, where they lie, what they say. -/
structure BondMem (X : XB) (heads : List Int) (made : Nat) (db : Nat → Nat) (st : Nat → Int) (w : World) : Prop where
  ne : X.x ≠ X.h
  c0 : w.cell? ⟨X.x, 0, none⟩ = some (.pointer (some ⟨X.p, 0, none⟩))
  c1 : w.cell? ⟨X.x, 1, none⟩ = some (.pointer (some ⟨X.e, 0, none⟩))
  c2 : w.cell? ⟨X.x, 2, none⟩ = some (.pointer (some ⟨X.c, 0, none⟩))
  hd : w.cell? ⟨X.x, 3, none⟩ = some (.slice (some ⟨X.h, 0, none⟩) heads.length heads.length)
  head : ∀ i, i < heads.length → CellIs w X.h i (.int .i64 (heads.getD i 0))
  all : ∀ d, d < 8192 → ∃ u, CellIs w X.x (4 + d) u
  mkd : CellIs w X.x 8196 (.int .i64 made)
  desc : ∀ j, j < made → w.cell? ⟨X.x, 4 + 8 * j, none⟩ = some (.pointer (some ⟨db j, 0, none⟩)) ∧ w.shape? (db j) = some (123, 3) ∧ CellIs w (db j) 0 (.int .i64 (st j))
  sep : ∀ j, j < made → db j ≠ X.x ∧ db j ≠ X.h
  few : 1 ≤ heads.length ∧ heads.length ≤ 16
  madeB : made ≤ 1000

def BondHas (X : XB) (made : Nat) (db : Nat → Nat) (k : Nat) : Prop := k = X.x ∨ k = X.h ∨ ∃ j, j < made ∧ k = db j

theorem BondMem.lt {X : XB} {heads : List Int} {made : Nat} {db : Nat → Nat} {st : Nat → Int} {w : World} (h : BondMem X heads made db st w) : X.x < w.heap.size ∧ X.h < w.heap.size ∧ ∀ j, j < made → db j < w.heap.size :=
  ⟨h.mkd.lt, (h.head 0 (by have := h.few; omega)).lt, fun j hj => (h.desc j hj).2.2.lt⟩

theorem shape_of_block {w w' : World} {b : Nat} (hb : w'.heap[b]? = w.heap[b]?) : w'.shape? b = w.shape? b := by
  unfold World.shape?; rw [hb]

theorem BondMem.of_blocks {X : XB} {heads : List Int} {made : Nat} {db : Nat → Nat} {st : Nat → Int} {w w' : World} (h : BondMem X heads made db st w) (hb : ∀ k, BondHas X made db k → w'.heap[k]? = w.heap[k]?) : BondMem X heads made db st w' := by
  have b1 := hb X.x (.inl rfl)
  have b2 := hb X.h (.inr (.inl rfl))
  have e : ∀ o, w'.cell? ⟨X.x, o, none⟩ = w.cell? ⟨X.x, o, none⟩ := fun o => World.cell?_of_block b1
  refine ⟨h.ne, (e _).trans h.c0, (e _).trans h.c1, (e _).trans h.c2, (e _).trans h.hd, fun i hi => (h.head i hi).of_block b2, fun d hd => ?_, h.mkd.of_block b1, fun j hj => ?_, h.sep, h.few, h.madeB⟩
  · obtain ⟨u, hu⟩ := h.all d hd
    exact ⟨u, hu.of_block b1⟩
  · obtain ⟨q1, q2, q3⟩ := h.desc j hj
    have b3 := hb (db j) (.inr (.inr ⟨j, hj, rfl⟩))
    exact ⟨(e _).trans q1, (shape_of_block b3).trans q2, q3.of_block b3⟩
theorem BondMem.below {X : XB} {heads : List Int} {made : Nat} {db : Nat → Nat} {st : Nat → Int} {w w' : World} (h : BondMem X heads made db st w) (hb : Below w.heap.size w w') : BondMem X heads made db st w' :=
  h.of_blocks fun k hk => hb.block k (by obtain ⟨l1, l2, l3⟩ := h.lt; rcases hk with rfl | rfl | ⟨j, hj, rfl⟩; exact l1; exact l2; exact l3 j hj)
theorem BondMem.alloc {X : XB} {heads : List Int} {made : Nat} {db : Nat → Nat} {st : Nat → Int} {w : World} (h : BondMem X heads made db st w) (o : Obj) : BondMem X heads made db st (w.alloc o) :=
  h.below ((Below.refl _ _).alloc (Nat.le_refl _) _)
theorem BondMem.drew {X : XB} {heads : List Int} {made : Nat} {db : Nat → Nat} {st : Nat → Int} {w : World} (h : BondMem X heads made db st w) : BondMem X heads made db st w.drew := h.of_blocks fun _ _ => rfl
theorem PoolMem.below {K : PB} {n : Nat} {tbl : Nat → Slot} {next : Nat → Nat} {head : Int} {w w' : World} (h : PoolMem K n tbl next head w) (hb : Below w.heap.size w w') : PoolMem K n tbl next head w' :=
  h.of_blocks fun k hk => hb.block k (by have := h.lt; rcases hk with e | e | e | e <;> omega)

/-- A version: its slot, its generation, its value, its descriptor's number, its state's word. -/
structure Ver where
  i : Nat
  g : Int
  v : Int
  b : Int
  s : Int
instance : Inhabited Ver := ⟨⟨0, 0, 0, 0, 0⟩⟩
def verVal (x : Ver) : Value := .agg #[.int .i64 (hnd x.i x.g), .int .i64 x.v, .int .i64 x.s]
def verCells (x : Ver) : Array Value := #[.int .i64 (hnd x.i x.g), .int .i64 x.v, .int .i64 x.s]

/-- It lies in its slot. -/
structure VerAt (n made : Nat) (tbl : Nat → Slot) (st : Nat → Int) (x : Ver) : Prop where
  held : Held n tbl x.i x.g
  val : (tbl x.i).a = x.v
  num : (tbl x.i).b = x.b
  state : (x.b = 0 ∧ x.s = 2) ∨ ∃ j, j < made ∧ x.b = ((8 * j + 1 : Nat) : Int) ∧ x.s = st j
  sB : 2 ≤ x.s ∧ x.s ≤ 1000001

set_option maxRecDepth 100000 in
set_option maxHeartbeats 1600000 in
theorem looks_first (X : XB) (K : PB) (n made : Nat) (heads : List Int) (db : Nat → Nat) (st : Nat → Int) (tbl : Nat → Slot) (next : Nat → Nat) (head : Int) (x : Ver) (w : World) (hb : BondMem X heads made db st w) (hp : PoolMem K n tbl next head w) (hX : X.p = K.p)
    (hv : VerAt n made tbl st x) (h0 : x.b = 0) :
    Calls Tryz.prog 78 #[.pointer (some ⟨X.x, 0, none⟩), .pointer none, .int .i64 (hnd x.i x.g)] w fun e w' => e = .returned (.tuple #[verVal x, .int .i64 0]) ∧ Below w.heap.size w w' := by
  obtain ⟨W, hW⟩ : ∃ W, W = w.alloc (.cells #[.int .i64 0, .int .i64 0, .int .i64 0] 97) := ⟨_, rfl⟩
  have hbW : Below w.heap.size w W := by rw [hW]; exact (Below.refl _ _).alloc (Nat.le_refl _) _
  have gW : W.heap[w.heap.size]? = some (.cells #[.int .i64 0, .int .i64 0, .int .i64 0] 97 (0, 0)) := by rw [hW]; exact heap_alloc_new _ _
  have sW : w.heap.size < W.heap.size := by rw [hW]; simp
  have hrd := pread_any K n x.i x.g tbl next head W (hp.below hbW) hv.held
  rw [hv.val, hv.num, h0] at hrd
  have c0 := (hb.below hbW).c0
  rw [hX, hW] at c0
  have hs2 : x.s = 2 := by
    rcases hv.state with e | ⟨j, _, e, _⟩
    · exact e.2
    · rw [h0] at e; omega
  have Hs2 := Lib.hid hs2
  have Hrd := Lib.hid hrd
  have HbW := Lib.hid hbW
  have GW := Lib.hid gW
  have HW := Lib.hid hW
  clear hb hp hX hv hrd hbW gW hW h0 hs2
  unfold nodeVal at Hrd
  unfold verVal
  rw [Hs2.out]
  generalize hnd x.i x.g = hh at *
  generalize x.v = v at *
  generalize (tbl x.i).c = nc at *
  generalize (tbl x.i).d = nd at *
  go_enter Tryz.func78, Tryz.ntmps78
  go_wp2_with fail
  rw [← HW.out]
  refine Hrd.out.mono ?_
  rintro e w1 ⟨rfl, hb1⟩
  have g1 := (hb1.block _ sW).trans GW.out
  have hs1 := hb1.size
  have hN : w.heap.size < w1.heap.size := by omega
  have up : ∀ (y : World) (cs : Array Value), y.heap.size = w1.heap.size → y.heap[w.heap.size]? = some (.cells cs 97 (0, 0)) → ∀ o o', ((y.alloc o).alloc o').heap[w.heap.size]? = some (.cells cs 97 (0, 0)) := fun y cs hy hg o o' => by
    rw [Below.heap_alloc _ _ _ (by simp; omega), Below.heap_alloc _ _ _ (by omega)]; exact hg
  have ss : ∀ (y : World) p u, (y.setCell p u).heap.size = y.heap.size := fun y p u => by simp [World.setCell]
  have gA := fun u => heap_setCell_same _ _ 0 _ _ u g1
  have gB := fun u u' => heap_setCell_same _ _ 1 _ _ u' (gA u)
  have gC := fun u u' u'' => heap_setCell_same _ _ 2 _ _ u'' (gB u u')
  have e0 : ∀ o o', ((w1.alloc o).alloc o').cell? ⟨w.heap.size, 0, none⟩ = some (.int .i64 0) := fun o o' => by simp [World.cell?, up _ _ rfl g1 o o']
  have f0 : ∀ o o', ((w1.alloc o).alloc o').frozen? ⟨w.heap.size, 0, none⟩ = false := fun o o' => by simp [World.frozen?, up _ _ rfl g1 o o']
  have e1 : ∀ u o o', (((w1.setCell ⟨w.heap.size, 0, none⟩ u).alloc o).alloc o').cell? ⟨w.heap.size, 1, none⟩ = some (.int .i64 0) := fun u o o' => by simp [World.cell?, up _ _ (ss _ _ _) (gA u) o o']
  have f1 : ∀ u o o', (((w1.setCell ⟨w.heap.size, 0, none⟩ u).alloc o).alloc o').frozen? ⟨w.heap.size, 1, none⟩ = false := fun u o o' => by simp [World.frozen?, up _ _ (ss _ _ _) (gA u) o o']
  have e2 : ∀ u u' o o', ((((w1.setCell ⟨w.heap.size, 0, none⟩ u).setCell ⟨w.heap.size, 1, none⟩ u').alloc o).alloc o').cell? ⟨w.heap.size, 2, none⟩ = some (.int .i64 0) := fun u u' o o' => by simp [World.cell?, up _ _ ((ss _ _ _).trans (ss _ _ _)) (gB u u') o o']
  have f2 : ∀ u u' o o', ((((w1.setCell ⟨w.heap.size, 0, none⟩ u).setCell ⟨w.heap.size, 1, none⟩ u').alloc o).alloc o').frozen? ⟨w.heap.size, 2, none⟩ = false := fun u u' o o' => by simp [World.frozen?, up _ _ ((ss _ _ _).trans (ss _ _ _)) (gB u u') o o']
  have hgF : ∀ o o', (((((w1.setCell ⟨w.heap.size, 0, none⟩ (.int .i64 hh)).setCell ⟨w.heap.size, 1, none⟩ (.int .i64 v)).setCell ⟨w.heap.size, 2, none⟩ (.int .i64 2)).alloc o).alloc o').heap[w.heap.size]? = some (.cells #[.int .i64 hh, .int .i64 v, .int .i64 2] 97 (0, 0)) := fun o o' =>
    up _ _ ((ss _ _ _).trans ((ss _ _ _).trans (ss _ _ _))) (gC _ _ _) o o'
  have Hb1 := Lib.hid hb1
  have HgF := Lib.hid hgF
  clear hb1 g1 hgF up ss gA gB gC
  go_wp2
  refine bodyPost_ret (results_row_tmp (P := Tryz.prog) (ty := 97) rfl _ _ w.heap.size 97 #[.int .i64 hh, .int .i64 v, .int .i64 2] (0, 0) _ _ rfl rfl (HgF.out _ _) Tryz.underlying97 rfl (by kernel_rfl)) rfl ?_
  refine ⟨rfl, ?_⟩
  have hw1 : Below w.heap.size w w1 := HbW.out.trans (Hb1.out.mono (Nat.le_of_lt sW))
  have hss : (((w1.setCell ⟨w.heap.size, 0, none⟩ (.int .i64 hh)).setCell ⟨w.heap.size, 1, none⟩ (.int .i64 v)).setCell ⟨w.heap.size, 2, none⟩ (.int .i64 2)).heap.size = w1.heap.size := by simp [World.setCell]
  exact ((((hw1.setCell (Nat.le_refl _) _).setCell (Nat.le_refl _) _).setCell (Nat.le_refl _) _).alloc (by omega) _).alloc (by simp; omega) _
set_option maxRecDepth 100000 in
set_option maxHeartbeats 1600000 in
theorem looks_done (X : XB) (K : PB) (n made : Nat) (heads : List Int) (db : Nat → Nat) (st : Nat → Int) (tbl : Nat → Slot) (next : Nat → Nat) (head : Int) (x : Ver) (w : World) (hb : BondMem X heads made db st w) (hp : PoolMem K n tbl next head w) (hX : X.p = K.p)
    (hv : VerAt n made tbl st x) (h0 : ¬ x.b = 0) :
    Calls Tryz.prog 78 #[.pointer (some ⟨X.x, 0, none⟩), .pointer none, .int .i64 (hnd x.i x.g)] w fun e w' => e = .returned (.tuple #[verVal x, .int .i64 0]) ∧ Below w.heap.size w w' := by
  obtain ⟨W, hW⟩ : ∃ W, W = w.alloc (.cells #[.int .i64 0, .int .i64 0, .int .i64 0] 97) := ⟨_, rfl⟩
  have hbW : Below w.heap.size w W := by rw [hW]; exact (Below.refl _ _).alloc (Nat.le_refl _) _
  have gW : W.heap[w.heap.size]? = some (.cells #[.int .i64 0, .int .i64 0, .int .i64 0] 97 (0, 0)) := by rw [hW]; exact heap_alloc_new _ _
  have sW : w.heap.size < W.heap.size := by rw [hW]; simp
  have hrd := pread_any K n x.i x.g tbl next head W (hp.below hbW) hv.held
  rw [hv.val, hv.num] at hrd
  have c0 := (hb.below hbW).c0
  rw [hX, hW] at c0
  obtain ⟨j, hj, hbj, hsj⟩ : ∃ j, j < made ∧ x.b = ((8 * j + 1 : Nat) : Int) ∧ x.s = st j := by
    rcases hv.state with e | e
    · exact absurd e.1 h0
    · exact e
  have hmB := hb.madeB
  have hst := hv.sB
  obtain ⟨d, hd⟩ : ∃ d, d = 8 * j := ⟨_, rfl⟩
  have hbd : x.b - 1 = (d : Int) := by omega
  have hd8 : d < 8192 := by omega
  have hwd : IntKind.i64.wrap (d : Int) = (d : Int) := by rw [IntKind.wrap_i64]; omega
  have hd0 : (0 : Int) ≤ (d : Int) := by omega
  have hd1 : (d : Int) < 8192 := by omega
  have HB := Lib.hid hb
  have Hd := Lib.hid hd
  have Hsj := Lib.hid hsj
  have Hj := Lib.hid hj
  have hb0 : (x.b == 0) = false := by rw [beq_eq_false_iff_ne]; exact h0
  have hs0 : (x.s == 0) = false := by rw [beq_eq_false_iff_ne]; omega
  have Hrd := Lib.hid hrd
  have HbW := Lib.hid hbW
  have GW := Lib.hid gW
  have HW := Lib.hid hW
  clear hb hp hX hv hrd hbW gW hW h0 hd hsj hj hbj
  unfold nodeVal at Hrd
  unfold verVal
  generalize hnd x.i x.g = hh at *
  generalize x.v = v at *
  generalize x.b = bI at *
  generalize x.s = sI at *
  generalize (tbl x.i).c = nc at *
  generalize (tbl x.i).d = nd at *
  go_enter Tryz.func78, Tryz.ntmps78
  go_wp2_with fail
  rw [← HW.out]
  refine Hrd.out.mono ?_
  rintro e w1 ⟨rfl, hb1⟩
  have g1 := (hb1.block _ sW).trans GW.out
  have hs1 := hb1.size
  have hN : w.heap.size < w1.heap.size := by omega
  have up : ∀ (y : World) (cs : Array Value), y.heap.size = w1.heap.size → y.heap[w.heap.size]? = some (.cells cs 97 (0, 0)) → ∀ o o', ((y.alloc o).alloc o').heap[w.heap.size]? = some (.cells cs 97 (0, 0)) := fun y cs hy hg o o' => by
    rw [Below.heap_alloc _ _ _ (by simp; omega), Below.heap_alloc _ _ _ (by omega)]; exact hg
  have ss : ∀ (y : World) p u, (y.setCell p u).heap.size = y.heap.size := fun y p u => by simp [World.setCell]
  have gA := fun u => heap_setCell_same _ _ 0 _ _ u g1
  have gB := fun u u' => heap_setCell_same _ _ 1 _ _ u' (gA u)
  have gC := fun u u' u'' => heap_setCell_same _ _ 2 _ _ u'' (gB u u')
  have e0 : ∀ o o', ((w1.alloc o).alloc o').cell? ⟨w.heap.size, 0, none⟩ = some (.int .i64 0) := fun o o' => by simp [World.cell?, up _ _ rfl g1 o o']
  have f0 : ∀ o o', ((w1.alloc o).alloc o').frozen? ⟨w.heap.size, 0, none⟩ = false := fun o o' => by simp [World.frozen?, up _ _ rfl g1 o o']
  have e1 : ∀ u o o', (((w1.setCell ⟨w.heap.size, 0, none⟩ u).alloc o).alloc o').cell? ⟨w.heap.size, 1, none⟩ = some (.int .i64 0) := fun u o o' => by simp [World.cell?, up _ _ (ss _ _ _) (gA u) o o']
  have f1 : ∀ u o o', (((w1.setCell ⟨w.heap.size, 0, none⟩ u).alloc o).alloc o').frozen? ⟨w.heap.size, 1, none⟩ = false := fun u o o' => by simp [World.frozen?, up _ _ (ss _ _ _) (gA u) o o']
  have e2 : ∀ u u' o o', ((((w1.setCell ⟨w.heap.size, 0, none⟩ u).setCell ⟨w.heap.size, 1, none⟩ u').alloc o).alloc o').cell? ⟨w.heap.size, 2, none⟩ = some (.int .i64 0) := fun u u' o o' => by simp [World.cell?, up _ _ ((ss _ _ _).trans (ss _ _ _)) (gB u u') o o']
  have f2 : ∀ u u' o o', ((((w1.setCell ⟨w.heap.size, 0, none⟩ u).setCell ⟨w.heap.size, 1, none⟩ u').alloc o).alloc o').frozen? ⟨w.heap.size, 2, none⟩ = false := fun u u' o o' => by simp [World.frozen?, up _ _ ((ss _ _ _).trans (ss _ _ _)) (gB u u') o o']
  have hgF : ∀ o o', (((((w1.setCell ⟨w.heap.size, 0, none⟩ (.int .i64 hh)).setCell ⟨w.heap.size, 1, none⟩ (.int .i64 v)).setCell ⟨w.heap.size, 2, none⟩ (.int .i64 sI)).alloc o).alloc o').heap[w.heap.size]? = some (.cells #[.int .i64 hh, .int .i64 v, .int .i64 sI] 97 (0, 0)) := fun o o' =>
    up _ _ ((ss _ _ _).trans ((ss _ _ _).trans (ss _ _ _))) (gC _ _ _) o o'
  have hB1 := HB.out.below (HbW.out.trans (hb1.mono (Nat.le_of_lt sW)))
  obtain ⟨q1, q2, q3⟩ := hB1.desc j Hj.out
  rw [← Hd.out] at q1
  rw [← Hsj.out] at q3
  have hxl := hB1.lt.1
  have hdl := hB1.lt.2.2 j Hj.out
  have hpl : ∀ o o', Calls Tryz.prog 51 #[.pointer (some ⟨X.x, 4 + d, none⟩)] ((w1.alloc o).alloc o').drew fun e w' => e = .returned (.pointer (some ⟨db j, 0, none⟩)) ∧ ((w1.alloc o).alloc o').drew = w' := fun o o' => by
    have hbb : ∀ k, k < w1.heap.size → ((w1.alloc o).alloc o').drew.heap[k]? = w1.heap[k]? := fun k hk => by
      show ((w1.alloc o).alloc o').heap[k]? = _
      rw [Below.heap_alloc _ _ _ (by simp; omega), Below.heap_alloc _ _ _ hk]
    exact pload X.x (4 + d) (db j) _ ((World.cell?_of_block (w := w1) (hbb _ hxl)).trans q1) ((shape_of_block (hbb _ hdl)).trans q2)
  have q3a : ∀ o o', ((w1.alloc o).alloc o').cell? ⟨db j, 0, none⟩ = some (.int .i64 sI) := fun o o' => by
    rw [old_cell _ _ _ (by simp; omega), old_cell _ _ _ hdl]; exact q3.cell
  have hld : ∀ o o', Calls Tryz.prog 31 #[.pointer (some ⟨db j, 0, none⟩)] ((w1.alloc o).alloc o').drew fun e w' => e = .returned (.int .i64 sI) ∧ ((w1.alloc o).alloc o').drew = w' := fun o o' => i64load _ _ _ _ (q3a o o')
  have Hpl := Lib.hid hpl
  have Hld := Lib.hid hld
  clear hpl hld q3a q1 q2 q3 hB1
  have Hb1 := Lib.hid hb1
  have HgF := Lib.hid hgF
  clear hb1 g1 hgF up ss gA gB gC
  go_wp2_with fail
  refine wp_region_still_tail 7 (by kernel_rfl) (by kernel_rfl) ?_
  simp only [List.take_succ_cons, List.take_zero, List.drop_succ_cons, List.drop_zero]
  change wpStill _ _ (World.drew _) _ _ _
  repeat (first | (refine wpStill_step (fun K hK => ?_); go_simp; refine hK _ ?_; clear hK K))
  refine wpStill_nil ?_
  change wpList _ _ _ _ _ (World.drew _)
  go_wp2_with (first | (go_at_call 51; ((with_reducible refine (Hpl.out _ _).mono ?_); rintro e w' ⟨rfl, rfl⟩)) | (go_at_call 22; ((with_reducible refine (step_nil _).mono ?_); rintro e w' ⟨rfl, rfl⟩)) | (go_at_call 31; ((with_reducible refine (Hld.out _ _).mono ?_); rintro e w' ⟨rfl, rfl⟩)))
  refine bodyPost_ret (results_row_tmp (P := Tryz.prog) (ty := 97) rfl _ _ w.heap.size 97 #[.int .i64 hh, .int .i64 v, .int .i64 sI] (0, 0) _ _ rfl rfl (HgF.out _ _) Tryz.underlying97 rfl (by kernel_rfl)) rfl ?_
  refine ⟨rfl, ?_⟩
  have hw1 : Below w.heap.size w w1 := HbW.out.trans (Hb1.out.mono (Nat.le_of_lt sW))
  have hss : (((w1.setCell ⟨w.heap.size, 0, none⟩ (.int .i64 hh)).setCell ⟨w.heap.size, 1, none⟩ (.int .i64 v)).setCell ⟨w.heap.size, 2, none⟩ (.int .i64 sI)).heap.size = w1.heap.size := by simp [World.setCell]
  exact (((((hw1.setCell (Nat.le_refl _) _).setCell (Nat.le_refl _) _).setCell (Nat.le_refl _) _).alloc (by omega) _).alloc (by simp; omega) _).drew

theorem looks_any (X : XB) (K : PB) (n made : Nat) (heads : List Int) (db : Nat → Nat) (st : Nat → Int) (tbl : Nat → Slot) (next : Nat → Nat) (head : Int) (x : Ver) (w : World) (hb : BondMem X heads made db st w) (hp : PoolMem K n tbl next head w) (hX : X.p = K.p)
    (hv : VerAt n made tbl st x) :
    Calls Tryz.prog 78 #[.pointer (some ⟨X.x, 0, none⟩), .pointer none, .int .i64 (hnd x.i x.g)] w fun e w' => e = .returned (.tuple #[verVal x, .int .i64 0]) ∧ Below w.heap.size w w' := by
  by_cases h0 : x.b = 0
  · exact looks_first X K n made heads db st tbl next head x w hb hp hX hv h0
  · exact looks_done X K n made heads db st tbl next head x w hb hp hX hv h0
end Go.Proofs.YtadelkancmbanaaGreat

/-
  bond.Cells: a cell's newest version; from a version to the newest one that is as it must be.
-/
namespace Go.Proofs.YtadelkancmbanaaGreat
open Go.RowKit
attribute [local go_sem ↓] Go.wp_at_zero Go.wp_at_succ

theorem bis_any (X : XB) (heads : List Int) (made : Nat) (db : Nat → Nat) (st : Nat → Int) (i : Int) (w : World) (h : BondMem X heads made db st w) : Calls Tryz.prog 37 #[.pointer (some ⟨X.x, 0, none⟩), .int .i64 i] w fun e w' => e = .returned (.bool (decide (0 ≤ i ∧ i < (heads.length : Int)))) ∧ w = w' := by
  have c1 := h.hd
  have few := h.few
  clear h
  by_cases h0 : 0 ≤ i
  · have d0 : decide (0 ≤ i) = true := by simpa using h0
    by_cases h1 : i < (heads.length : Int)
    · have d1 : decide (i < (heads.length : Int)) = true := by simpa using h1
      have e : decide (0 ≤ i ∧ i < (heads.length : Int)) = true := decide_eq_true ⟨h0, h1⟩
      rw [e]
      clear e
      go_enter Tryz.func37, Tryz.ntmps37
      go_wp2
      go_ret
      exact ⟨rfl, rfl⟩
    · have d1 : decide (i < (heads.length : Int)) = false := by simpa using h1
      have e : decide (0 ≤ i ∧ i < (heads.length : Int)) = false := decide_eq_false (fun k => h1 k.2)
      rw [e]
      clear e
      go_enter Tryz.func37, Tryz.ntmps37
      go_wp2
      go_ret
      exact ⟨rfl, rfl⟩
  · have d0 : decide (0 ≤ i) = false := by simpa using h0
    have e : decide (0 ≤ i ∧ i < (heads.length : Int)) = false := decide_eq_false (fun k => h0 k.1)
    rw [e]
    clear e
    go_enter Tryz.func37, Tryz.ntmps37
    go_wp2
    go_ret
    exact ⟨rfl, rfl⟩

set_option maxRecDepth 100000 in
set_option maxHeartbeats 1600000 in
theorem tops_any (X : XB) (K : PB) (n made c : Nat) (heads : List Int) (db : Nat → Nat) (st : Nat → Int) (tbl : Nat → Slot) (next : Nat → Nat) (head : Int) (x : Ver) (w : World) (hb : BondMem X heads made db st w) (hp : PoolMem K n tbl next head w) (hX : X.p = K.p)
    (hv : VerAt n made tbl st x) (hc : c < heads.length) (hh : heads.getD c 0 = hnd x.i x.g) :
    Calls Tryz.prog 40 #[.pointer (some ⟨X.x, 0, none⟩), .pointer none, .int .i64 c] w fun e w' => e = .returned (.tuple #[verVal x, .int .i64 0]) ∧ Below w.heap.size w w' := by
  obtain ⟨W, hW⟩ : ∃ W, W = w.alloc (.cells #[.int .i64 0, .int .i64 0, .int .i64 0] 97) := ⟨_, rfl⟩
  have hbW : Below w.heap.size w W := by rw [hW]; exact (Below.refl _ _).alloc (Nat.le_refl _) _
  have gW : W.heap[w.heap.size]? = some (.cells #[.int .i64 0, .int .i64 0, .int .i64 0] 97 (0, 0)) := by rw [hW]; exact heap_alloc_new _ _
  have sW : w.heap.size < W.heap.size := by rw [hW]; simp
  have hbm := hb.below hbW
  have hlk := looks_any X K n made heads db st tbl next head x W hbm (hp.below hbW) hX hv
  have c3 := hbm.hd
  have c4 := (hbm.head c hc).cell
  rw [hh] at c4
  rw [hW] at c3 c4
  have few := hb.few
  have Hlk := Lib.hid hlk
  have HbW := Lib.hid hbW
  have GW := Lib.hid gW
  have HW := Lib.hid hW
  have b0 : (0 : Int) ≤ (c : Int) := by omega
  have b1 : (c : Int) < (heads.length : Int) := by omega
  clear hb hp hX hv hlk hbW gW hW hbm hh
  unfold verVal at *
  generalize hnd x.i x.g = hh at *
  generalize x.v = v at *
  generalize x.s = s at *
  go_enter Tryz.func40, Tryz.ntmps40
  go_wp2_with (first | (go_at_call 22; ((with_reducible refine (step_nil _).mono ?_); rintro e w' ⟨rfl, rfl⟩)) | (go_at_call 31; ((with_reducible refine (i64load _ _ _ _ c4).mono ?_); rintro e w' ⟨rfl, rfl⟩)))
  rw [← HW.out]
  refine Hlk.out.mono ?_
  rintro e w1 ⟨rfl, hb1⟩
  have g1 := (hb1.block _ sW).trans GW.out
  have e0 : w1.cell? ⟨w.heap.size, 0, none⟩ = some (.int .i64 0) := by simp [World.cell?, g1]
  have e1 : w1.cell? ⟨w.heap.size, 1, none⟩ = some (.int .i64 0) := by simp [World.cell?, g1]
  have e2 : w1.cell? ⟨w.heap.size, 2, none⟩ = some (.int .i64 0) := by simp [World.cell?, g1]
  have f0 : ∀ j, w1.frozen? ⟨w.heap.size, j, none⟩ = false := fun j => by simp [World.frozen?, g1]
  have hgF := heap_setCell_same _ _ 2 _ _ (.int .i64 s) (heap_setCell_same _ _ 1 _ _ (.int .i64 v) (heap_setCell_same _ _ 0 _ _ (.int .i64 hh) g1))
  have Hb1 := Lib.hid hb1
  have HgF := Lib.hid hgF
  clear hb1 g1 hgF
  go_wp2
  refine bodyPost_ret (results_row_tmp (P := Tryz.prog) (ty := 97) rfl _ _ w.heap.size 97 #[.int .i64 hh, .int .i64 v, .int .i64 s] (0, 0) _ _ rfl rfl HgF.out Tryz.underlying97 rfl (by kernel_rfl)) rfl ?_
  refine ⟨rfl, ?_⟩
  have hw1 : Below w.heap.size w w1 := HbW.out.trans (Hb1.out.mono (Nat.le_of_lt sW))
  exact ((hw1.setCell (Nat.le_refl _) _).setCell (Nat.le_refl _) _).setCell (Nat.le_refl _) _

/-- Versions from a handle on, the newest first. -/
def ChainAt (n made : Nat) (tbl : Nat → Slot) (st : Nat → Int) : Int → List Ver → Prop
  | h, [] => h = 0
  | h, x :: r => h = hnd x.i x.g ∧ VerAt n made tbl st x ∧ ChainAt n made tbl st (tbl x.i).link r

def verOr : Option Ver → Value
  | none => .agg #[.int .i64 0, .int .i64 0, .int .i64 0]
  | some x => verVal x
end Go.Proofs.YtadelkancmbanaaGreat
