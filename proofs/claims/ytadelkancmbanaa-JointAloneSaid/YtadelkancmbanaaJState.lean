/-
  What a joint.Cells looks like in memory, and what its calls leave as it was.
-/
import Derived.Test.YtadelkancmbanaaJLeaf
namespace Go.Proofs.Ytadelkancmbanaa
open Go.RowKit

/-- Below block number B all is as it was, but for the blocks of S; the streams are as they were; no block has gone. -/
structure Keep (S : Nat → Prop) (B : Nat) (w w' : World) : Prop where
  os : w'.os = w.os
  tape : w'.tape = w.tape
  output : w'.output = w.output
  size : w.heap.size ≤ w'.heap.size
  block : ∀ k, k < B → ¬ S k → w'.heap[k]? = w.heap[k]?

theorem Keep.refl (S : Nat → Prop) (B : Nat) (w : World) : Keep S B w w := ⟨rfl, rfl, rfl, Nat.le_refl _, fun _ _ _ => rfl⟩
theorem Keep.trans {S : Nat → Prop} {B : Nat} {a b c : World} (h : Keep S B a b) (k : Keep S B b c) : Keep S B a c :=
  ⟨k.os.trans h.os, k.tape.trans h.tape, k.output.trans h.output, Nat.le_trans h.size k.size, fun i hi hs => (k.block i hi hs).trans (h.block i hi hs)⟩
theorem Keep.mono {S : Nat → Prop} {B B' : Nat} {w w' : World} (h : Keep S B w w') (hB : B' ≤ B) : Keep S B' w w' :=
  ⟨h.os, h.tape, h.output, h.size, fun k hk => h.block k (Nat.lt_of_lt_of_le hk hB)⟩
theorem Keep.weaken {S S' : Nat → Prop} {B : Nat} {w w' : World} (h : Keep S B w w') (hS : ∀ k, k < B → S k → S' k) : Keep S' B w w' :=
  ⟨h.os, h.tape, h.output, h.size, fun k hk hs => h.block k hk (fun e => hs (hS k hk e))⟩
theorem Keep.drew {S : Nat → Prop} {B : Nat} {a w : World} (h : Keep S B a w) : Keep S B a w.drew := ⟨h.os, h.tape, h.output, h.size, h.block⟩
theorem Keep.drewN {S : Nat → Prop} {B n : Nat} {a w : World} (h : Keep S B a w) : Keep S B a (w.drewN n) := ⟨h.os, h.tape, h.output, h.size, h.block⟩
theorem Keep.alloc {S : Nat → Prop} {B : Nat} {a w : World} (h : Keep S B a w) (hB : B ≤ w.heap.size) (o : Obj) : Keep S B a (w.alloc o) :=
  h.trans ⟨rfl, rfl, rfl, by simp, fun k hk _ => Below.heap_alloc _ _ _ (by omega)⟩
theorem Keep.setCell {S : Nat → Prop} {B : Nat} {a w : World} (h : Keep S B a w) {p : Addr} (hp : S p.block ∨ B ≤ p.block) (u : Value) : Keep S B a (w.setCell p u) :=
  h.trans ⟨rfl, rfl, rfl, by simp [World.setCell], fun k hk hs => Below.heap_setCell _ _ _ _ (fun e => by subst e; rcases hp with h | h; exact hs h; omega)⟩
theorem Keep.of_below {S : Nat → Prop} {B : Nat} {w w' : World} (h : Below B w w') : Keep S B w w' := ⟨h.os, h.tape, h.output, h.size, fun k hk _ => h.block k hk⟩
theorem Keep.below {B : Nat} {w w' : World} (h : Keep (fun _ => False) B w w') : Below B w w' := ⟨h.os, h.tape, h.output, h.size, fun k hk => h.block k hk id⟩
theorem Keep.cell {S : Nat → Prop} {B : Nat} {w w' : World} (h : Keep S B w w') {p : Addr} (hp : p.block < B) (hs : ¬ S p.block) : w'.cell? p = w.cell? p := World.cell?_of_block (w := w) (h.block p.block hp hs)
theorem Keep.frozen {S : Nat → Prop} {B : Nat} {w w' : World} (h : Keep S B w w') {p : Addr} (hp : p.block < B) (hs : ¬ S p.block) : w'.frozen? p = w.frozen? p := World.frozen?_of_block (w := w) (h.block p.block hp hs)

/-! ### A world with new blocks of one cell -/
theorem new_cell (w : World) (v : Value) (t : TypeId) (n : Nat) (hn : n = w.heap.size) : (w.alloc (.cells #[v] t)).cell? ⟨n, 0, none⟩ = some v := by
  subst hn; rw [World.cell?_alloc_new]; rfl
theorem new_frozen (w : World) (v : Value) (t : TypeId) (n : Nat) (hn : n = w.heap.size) : (w.alloc (.cells #[v] t)).frozen? ⟨n, 0, none⟩ = false := by
  subst hn; exact World.frozen?_alloc_new _ _ _ _
theorem old_cell (w : World) (o : Obj) (p : Addr) (h : p.block < w.heap.size) : (w.alloc o).cell? p = w.cell? p := World.cell?_alloc_lt _ _ _ h
theorem old_frozen (w : World) (o : Obj) (p : Addr) (h : p.block < w.heap.size) : (w.alloc o).frozen? p = w.frozen? p := World.frozen?_alloc_old _ _ _ (by omega)

/-- A joint.Cells in block b, its words in block c: the words, how many descriptors worker 0 has made. -/
structure JRaw (b c : Nat) (ws : List Int) (made : Nat) (w : World) : Prop where
  ne : b ≠ c
  hdr : w.cell? ⟨b, 0, none⟩ = some (.slice (some ⟨c, 0, none⟩) ws.length ws.length)
  word : ∀ i, i < ws.length → w.cell? ⟨c, i, none⟩ = some (.int .i64 (ws.getD i 0)) ∧ w.frozen? ⟨c, i, none⟩ = false
  all : ∀ d, d < 8192 → w.frozen? ⟨b, 1 + d, none⟩ = false ∧ ∃ u, w.cell? ⟨b, 1 + d, none⟩ = some u
  made : w.cell? ⟨b, 8193, none⟩ = some (.int .i64 made)
  madeF : w.frozen? ⟨b, 8193, none⟩ = false
  few : 1 ≤ ws.length ∧ ws.length ≤ 64

/-- .. no change is under way. -/
def Words (ws : List Int) : Prop := ∀ i, i < ws.length → 0 ≤ ws.getD i 0 ∧ ws.getD i 0 ≤ 1152921504606846975

theorem JRaw.lt {b c made : Nat} {ws : List Int} {w : World} (h : JRaw b c ws made w) : b < w.heap.size ∧ c < w.heap.size := by
  have h1 := h.hdr
  have h2 := (h.word 0 (by have := h.few; omega)).1
  exact ⟨World.block_lt_of_cell? w _ h1, World.block_lt_of_cell? w _ h2⟩

theorem load_any (b c i made : Nat) (ws : List Int) (w : World) (h : JRaw b c ws made w) (hb : Words ws) (hi : i < ws.length) : Calls Try.prog 24 #[.pointer (some ⟨b, 0, none⟩), .pointer none, .int .i64 i] w fun e w' => e = .returned (.int .i64 (ws.getD i 0)) ∧ w = w' := by
  have hh := h.hdr
  have hw := (h.word i hi).1
  obtain ⟨hb0, hb1⟩ := hb i hi
  have hf := h.few
  clear h hb
  generalize ws.getD i 0 = x at *
  generalize ws.length = n at *
  go_enter Try.func24, Try.ntmps24
  go_wp2
  refine wp_loop_rounds 1 ?_
  rw [rounds_succ]
  go_wp2_with (first | (go_at_call 28; refine (step_nil _).mono ?_; rintro e w' ⟨rfl, rfl⟩) | (go_at_call 40; refine (i64load _ _ _ _ hw).mono ?_; rintro e w' ⟨rfl, rfl⟩) | (go_at_call 41; refine (hdesc_word _ _ hb0 hb1).mono ?_; rintro e w' ⟨rfl, rfl⟩))
  go_ret
  exact ⟨rfl, rfl⟩

theorem cas_hit (b c i made : Nat) (ws : List Int) (y : Int) (w : World) (h : JRaw b c ws made w) (hi : i < ws.length) : Calls Try.prog 60 #[.pointer (some ⟨b, 0, none⟩), .pointer none, .int .i64 i, .int .i64 (ws.getD i 0), .int .i64 y] w fun e w' => e = .returned (.bool true) ∧ w.setCell ⟨c, i, none⟩ (.int .i64 y) = w' := by
  have hh := h.hdr
  obtain ⟨hw, hz⟩ := h.word i hi
  have hf := h.few
  clear h
  generalize ws.getD i 0 = x at *
  generalize ws.length = n at *
  go_enter Try.func60, Try.ntmps60
  go_wp2_with (first | (go_at_call 28; refine (step_nil _).mono ?_; rintro e w' ⟨rfl, rfl⟩) | (go_at_call 71; refine (i64cas _ _ _ _ _ hw hz).mono ?_; rintro e w' ⟨rfl, rfl⟩))
  go_ret
  exact ⟨rfl, rfl⟩

theorem getD_set_eq (l : List Int) (i j : Nat) (y : Int) (hi : i < l.length) : (l.set i y).getD j 0 = if i = j then y else l.getD j 0 := by
  simp only [List.getD_eq_getElem?_getD, List.getElem?_set]
  split <;> simp_all

theorem JRaw.set {b c i made : Nat} {ws : List Int} {y : Int} {w : World} (h : JRaw b c ws made w) (hi : i < ws.length) : JRaw b c (ws.set i y) made (w.setCell ⟨c, i, none⟩ (.int .i64 y)) := by
  obtain ⟨hne, h1, h2, h3, h4, h5, h6⟩ := h
  have ne1 : ∀ o, (⟨c, i, none⟩ : Addr) ≠ ⟨b, o, none⟩ := fun o e => hne (by cases e; rfl)
  refine ⟨hne, ?_, ?_, ?_, ?_, ?_, by simpa using h6⟩
  · rw [World.cell?_setCell_other _ _ _ _ (ne1 _)]; simpa using h1
  · intro j hj
    simp only [List.length_set] at hj
    rw [World.frozen?_setCell]
    refine ⟨?_, (h2 j hj).2⟩
    rw [getD_set_eq _ _ _ _ hi]
    by_cases e : i = j
    · subst e; rw [if_pos rfl]; exact World.cell?_setCell_same _ _ _ (h2 i hi).1
    · rw [if_neg e, World.cell?_setCell_other _ _ _ _ (fun (k : (⟨c, i, none⟩ : Addr) = ⟨c, j, none⟩) => e (by cases k; rfl))]; exact (h2 j hj).1
  · intro d hd
    rw [World.frozen?_setCell, World.cell?_setCell_other _ _ _ _ (ne1 _)]; exact h3 d hd
  · rw [World.cell?_setCell_other _ _ _ _ (ne1 _)]; exact h4
  · rw [World.frozen?_setCell]; exact h5

/-- A Cells stays where neither of its blocks is touched. -/
theorem JRaw.of_blocks {b c made : Nat} {ws : List Int} {w w' : World} (h : JRaw b c ws made w) (hb : w'.heap[b]? = w.heap[b]?) (hc : w'.heap[c]? = w.heap[c]?) : JRaw b c ws made w' := by
  obtain ⟨hne, h1, h2, h3, h4, h5, h6⟩ := h
  have kb : ∀ o, w'.cell? ⟨b, o, none⟩ = w.cell? ⟨b, o, none⟩ := fun o => World.cell?_of_block hb
  have kc : ∀ o, w'.cell? ⟨c, o, none⟩ = w.cell? ⟨c, o, none⟩ := fun o => World.cell?_of_block hc
  have fb : ∀ o, w'.frozen? ⟨b, o, none⟩ = w.frozen? ⟨b, o, none⟩ := fun o => World.frozen?_of_block hb
  have fc : ∀ o, w'.frozen? ⟨c, o, none⟩ = w.frozen? ⟨c, o, none⟩ := fun o => World.frozen?_of_block hc
  exact ⟨hne, by rw [kb]; exact h1, fun i hi => by rw [kc, fc]; exact h2 i hi, fun d hd => by rw [kb, fb]; exact h3 d hd, by rw [kb]; exact h4, by rw [fb]; exact h5, h6⟩

theorem JRaw.keep {b c made B : Nat} {S : Nat → Prop} {ws : List Int} {w w' : World} (h : JRaw b c ws made w) (hk : Keep S B w w') (hB : w.heap.size ≤ B) (hb : ¬ S b) (hc : ¬ S c) : JRaw b c ws made w' :=
  h.of_blocks (hk.block b (by have := h.lt; omega) hb) (hk.block c (by have := h.lt; omega) hc)

theorem JRaw.drew {b c made : Nat} {ws : List Int} {w : World} (h : JRaw b c ws made w) : JRaw b c ws made w.drew := h.of_blocks rfl rfl
theorem JRaw.drewN {b c made n : Nat} {ws : List Int} {w : World} (h : JRaw b c ws made w) : JRaw b c ws made (w.drewN n) := h.of_blocks rfl rfl
theorem JRaw.alloc {b c made : Nat} {ws : List Int} {w : World} (h : JRaw b c ws made w) (o : Obj) : JRaw b c ws made (w.alloc o) :=
  h.of_blocks (Below.heap_alloc _ _ _ h.lt.1) (Below.heap_alloc _ _ _ h.lt.2)
theorem JRaw.grown {b c made : Nat} {ws : List Int} {w w' : World} {row : Option Nat} (h : JRaw b c ws made w) (hg : w.grownBy w' row) (hb : some b ≠ row) (hc : some c ≠ row) : JRaw b c ws made w' :=
  h.of_blocks (hg.block b h.lt.1 hb) (hg.block c h.lt.2 hc)
theorem Keep.grown {S : Nat → Prop} {B : Nat} {a w w' : World} {row : Option Nat} (h : Keep S B a w) (hg : w.grownBy w' row) (hB : B ≤ w.heap.size) (hr : ∀ k, row = some k → B ≤ k) : Keep S B a w' :=
  h.trans ⟨hg.os, hg.tape, hg.output, hg.size, fun k hk _ => hg.block k (by omega) (fun e => by have := hr k e.symm; omega)⟩
theorem JRaw.other {b c made : Nat} {ws : List Int} {w : World} (h : JRaw b c ws made w) {p : Addr} (hb : p.block ≠ b) (hc : p.block ≠ c) (u : Value) : JRaw b c ws made (w.setCell p u) :=
  h.of_blocks (Below.heap_setCell _ _ _ _ (Ne.symm hb)) (Below.heap_setCell _ _ _ _ (Ne.symm hc))
end Go.Proofs.Ytadelkancmbanaa
