/-
  What calls leave as it was.
-/
import Derived.Test.YtadelkancmbanaaGreatBLeaf
import Derived.Test.YtadelkancmbanaaGreatReg
import Derived.Lib.Hide
import Derived.BigQuiet
import Derived.Deep.QuietTactic
import Derived.Deep.DrawnRows
import Derived.Deep.AppendLies
import Derived.Deep.DeepCutAuto
import Derived.Deep.CutBlock
import Derived.StillTailTactics
import Derived.OwnWalk
import Derived.OwnWalkIn
import Derived.Laws.Pointers
import Derived.Laws.IdiomCopy
import Derived.RangeFuncNested
import Derived.RangeFuncBound
import Derived.RangeFuncCalls
import Derived.RangeFuncLeaves
import Derived.RangeFuncBox
import Derived.Shelf.Abstract
import Derived.Shelf.RegionOpen
import Derived.TacticsInMore
import Derived.LoopNIn
import Derived.LoopIn
namespace Go.Proofs.YtadelkancmbanaaGreat
open Go.RowKit

/-- Below block number B all is as it was, but for the blocks of S; the streams are as they were; no block has gone. -/
structure Keep (S : Nat → Prop) (B : Nat) (w w' : World) : Prop where
  os : w'.os = w.os
  tape : w'.tape = w.tape
  output : w'.output = w.output
  size : w.heap.size ≤ w'.heap.size
  block : ∀ k, k < B → ¬ S k → w'.heap[k]? = w.heap[k]?

theorem Keep.refl (S : Nat → Prop) (B : Nat) (w : World) : Keep S B w w := ⟨rfl, rfl, rfl, Nat.le_refl _, fun _ _ _ => rfl⟩
theorem Keep.trans {S : Nat → Prop} {B : Nat} {a b c : World} (h : Keep S B a b) (k : Keep S B b c) : Keep S B a c :=
  ⟨k.os.trans h.os, k.tape.trans h.tape, k.output.trans h.output, Nat.le_trans h.size k.size, fun i hi hs => (k.block i hi hs).trans (h.block i hi hs)⟩
theorem Keep.mono {S : Nat → Prop} {B B' : Nat} {w w' : World} (h : Keep S B w w') (hB : B' ≤ B) : Keep S B' w w' :=
  ⟨h.os, h.tape, h.output, h.size, fun k hk => h.block k (Nat.lt_of_lt_of_le hk hB)⟩
theorem Keep.weaken {S S' : Nat → Prop} {B : Nat} {w w' : World} (h : Keep S B w w') (hS : ∀ k, k < B → S k → S' k) : Keep S' B w w' :=
  ⟨h.os, h.tape, h.output, h.size, fun k hk hs => h.block k hk (fun e => hs (hS k hk e))⟩
theorem Keep.drew {S : Nat → Prop} {B : Nat} {a w : World} (h : Keep S B a w) : Keep S B a w.drew := ⟨h.os, h.tape, h.output, h.size, h.block⟩
theorem Keep.drewN {S : Nat → Prop} {B n : Nat} {a w : World} (h : Keep S B a w) : Keep S B a (w.drewN n) := ⟨h.os, h.tape, h.output, h.size, h.block⟩
theorem Keep.alloc {S : Nat → Prop} {B : Nat} {a w : World} (h : Keep S B a w) (hB : B ≤ w.heap.size) (o : Obj) : Keep S B a (w.alloc o) :=
  h.trans ⟨rfl, rfl, rfl, by simp, fun k hk _ => Below.heap_alloc _ _ _ (by omega)⟩
theorem Keep.setCell {S : Nat → Prop} {B : Nat} {a w : World} (h : Keep S B a w) {p : Addr} (hp : S p.block ∨ B ≤ p.block) (u : Value) : Keep S B a (w.setCell p u) :=
  h.trans ⟨rfl, rfl, rfl, by simp [World.setCell], fun k hk hs => Below.heap_setCell _ _ _ _ (fun e => by subst e; rcases hp with h | h; exact hs h; omega)⟩
theorem Keep.of_below {S : Nat → Prop} {B : Nat} {w w' : World} (h : Below B w w') : Keep S B w w' := ⟨h.os, h.tape, h.output, h.size, fun k hk _ => h.block k hk⟩
theorem Keep.below {B : Nat} {w w' : World} (h : Keep (fun _ => False) B w w') : Below B w w' := ⟨h.os, h.tape, h.output, h.size, fun k hk => h.block k hk id⟩
theorem Keep.cell {S : Nat → Prop} {B : Nat} {w w' : World} (h : Keep S B w w') {p : Addr} (hp : p.block < B) (hs : ¬ S p.block) : w'.cell? p = w.cell? p := World.cell?_of_block (w := w) (h.block p.block hp hs)
theorem Keep.frozen {S : Nat → Prop} {B : Nat} {w w' : World} (h : Keep S B w w') {p : Addr} (hp : p.block < B) (hs : ¬ S p.block) : w'.frozen? p = w.frozen? p := World.frozen?_of_block (w := w) (h.block p.block hp hs)

/-! ### A world with new blocks of one cell -/
theorem new_cell (w : World) (v : Value) (t : TypeId) (n : Nat) (hn : n = w.heap.size) : (w.alloc (.cells #[v] t)).cell? ⟨n, 0, none⟩ = some v := by
  subst hn; rw [World.cell?_alloc_new]; rfl
theorem new_frozen (w : World) (v : Value) (t : TypeId) (n : Nat) (hn : n = w.heap.size) : (w.alloc (.cells #[v] t)).frozen? ⟨n, 0, none⟩ = false := by
  subst hn; exact World.frozen?_alloc_new _ _ _ _
theorem old_cell (w : World) (o : Obj) (p : Addr) (h : p.block < w.heap.size) : (w.alloc o).cell? p = w.cell? p := World.cell?_alloc_lt _ _ _ h
theorem old_frozen (w : World) (o : Obj) (p : Addr) (h : p.block < w.heap.size) : (w.alloc o).frozen? p = w.frozen? p := World.frozen?_alloc_old _ _ _ (by omega)

theorem Keep.grown {S : Nat → Prop} {B : Nat} {a w w' : World} {row : Option Nat} (h : Keep S B a w) (hg : w.grownBy w' row) (hB : B ≤ w.heap.size) (hr : ∀ k, row = some k → B ≤ k) : Keep S B a w' :=
  h.trans ⟨hg.os, hg.tape, hg.output, hg.size, fun k hk _ => hg.block k (by omega) (fun e => by have := hr k e.symm; omega)⟩

theorem getD_set_eq (l : List Int) (i j : Nat) (y : Int) (hi : i < l.length) : (l.set i y).getD j 0 = if i = j then y else l.getD j 0 := by
  simp only [List.getD_eq_getElem?_getD, List.getElem?_set]
  split <;> simp_all

/-- Cell o of block b holds x, and may be written. -/
structure CellIs (w : World) (b o : Nat) (v : Value) : Prop where
  cell : w.cell? ⟨b, o, none⟩ = some v
  frz : w.frozen? ⟨b, o, none⟩ = false

theorem CellIs.of_block {w w' : World} {b o : Nat} {v : Value} (h : CellIs w b o v) (hb : w'.heap[b]? = w.heap[b]?) : CellIs w' b o v := ⟨(World.cell?_of_block (w := w) hb).trans h.cell, (World.frozen?_of_block (w := w) hb).trans h.frz⟩
theorem CellIs.set {w : World} {b o : Nat} {u v : Value} (h : CellIs w b o u) : CellIs (w.setCell ⟨b, o, none⟩ v) b o v := ⟨World.cell?_setCell_same _ _ _ h.cell, by rw [World.frozen?_setCell]; exact h.frz⟩
theorem CellIs.other {w : World} {b o b' o' : Nat} {u v : Value} (h : CellIs w b o u) (hne : b ≠ b' ∨ o ≠ o') : CellIs (w.setCell ⟨b', o', none⟩ v) b o u :=
  ⟨(World.cell?_setCell_other _ _ _ _ (by intro e; injection e with e1 e2; rcases hne with h | h; exact h e1.symm; exact h e2.symm)).trans h.cell, by rw [World.frozen?_setCell]; exact h.frz⟩
theorem CellIs.lt {w : World} {b o : Nat} {v : Value} (h : CellIs w b o v) : b < w.heap.size := World.block_lt_of_cell? w _ h.cell
end Go.Proofs.YtadelkancmbanaaGreat
