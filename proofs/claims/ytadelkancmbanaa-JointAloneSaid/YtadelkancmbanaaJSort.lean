/-
  The comparison; two entries exchanged.
-/
import Derived.Test.YtadelkancmbanaaJSeq
namespace Go.Proofs.Ytadelkancmbanaa
open Go.RowKit
attribute [local go_sem ↓] Go.wp_at_zero Go.wp_at_succ

theorem isNaN_int (x : Int) (w : World) : Calls Try.prog 51 #[.int .i64 x] w fun e w' => e = .returned (.bool false) ∧ w = w' := by
  go_enter Try.func51, Try.ntmps51
  go_wp2
  go_ret
  exact ⟨rfl, rfl⟩

/-- What cmp.Compare answers. -/
def cmpI (a b : Int) : Int := if a < b then -1 else if b < a then 1 else 0

theorem compare_int (a b : Int) (w : World) : Calls Try.prog 33 #[.int .i64 a, .int .i64 b] w fun e w' => e = .returned (.int .i64 (cmpI a b)) ∧ w = w' := by
  by_cases h1 : a < b
  · have e : cmpI a b = -1 := by unfold cmpI; rw [if_pos h1]
    rw [e]
    clear e
    have hd : decide (a < b) = true := by simpa using h1
    go_enter Try.func33, Try.ntmps33
    go_wp2_with (first | (go_at_call 51; ((with_reducible refine (isNaN_int _ _).mono ?_); rintro e w' ⟨rfl, rfl⟩)))
    go_ret
    exact ⟨rfl, rfl⟩
  · by_cases h2 : b < a
    · have e : cmpI a b = 1 := by unfold cmpI; rw [if_neg h1, if_pos h2]
      rw [e]
      clear e
      have hd : decide (a < b) = false := by simpa using h1
      have hd2 : decide (b < a) = true := by simpa using h2
      go_enter Try.func33, Try.ntmps33
      go_wp2_with (first | (go_at_call 51; ((with_reducible refine (isNaN_int _ _).mono ?_); rintro e w' ⟨rfl, rfl⟩)))
      go_ret
      exact ⟨rfl, rfl⟩
    · have e : cmpI a b = 0 := by unfold cmpI; rw [if_neg h1, if_neg h2]
      rw [e]
      clear e
      have hd : decide (a < b) = false := by simpa using h1
      have hd2 : decide (b < a) = false := by simpa using h2
      go_enter Try.func33, Try.ntmps33
      go_wp2_with (first | (go_at_call 51; ((with_reducible refine (isNaN_int _ _).mono ?_); rintro e w' ⟨rfl, rfl⟩)))
      go_ret
      exact ⟨rfl, rfl⟩

/-- The world in which the comparison has laid its two entries. -/
def laid2 (x y : AEnt) (w : World) : World := (w.alloc (.cells #[.int .i64 x.c, .int .i64 x.o, .int .i64 x.n] 43)).alloc (.cells #[.int .i64 y.c, .int .i64 y.o, .int .i64 y.n] 43)

theorem cmp_ents (x y : AEnt) (w : World) : Calls Try.prog 32 #[aVal x, aVal y] w fun e w' => e = .returned (.int .i64 (cmpI x.c y.c)) ∧ laid2 x y w = w' := by
  unfold aVal laid2
  go_enter Try.func32, Try.ntmps32
  go_wp2_with (first | (go_at_call 33; ((with_reducible refine (compare_int _ _ _).mono ?_); rintro e w' ⟨rfl, rfl⟩)))
  go_ret
  exact ⟨rfl, rfl⟩

theorem callCmp (cap : Array Value) : ∀ w, (callFunc 32 cap).run Try.prog w = .ok (.enter 32 cap) w := fun w => by kernel_rfl

/-- Entries lie in block g, and may be written. -/
structure ERow (g : Nat) (es : List AEnt) (w : World) : Prop where
  ent : AEntsAt g 0 es w
  frz : ∀ i, i < es.length * 3 → w.frozen? ⟨g, i, none⟩ = false

theorem ERow.of_block {g : Nat} {es : List AEnt} {w w' : World} (h : ERow g es w) (hb : w'.heap[g]? = w.heap[g]?) : ERow g es w' :=
  ⟨h.ent.of_block hb, fun i hi => (World.frozen?_of_block (w := w) hb).trans (h.frz i hi)⟩

theorem ERow.lt {g : Nat} {es : List AEnt} {w : World} (h : ERow g es w) (hn : 0 < es.length) : g < w.heap.size := World.block_lt_of_cell? w _ (h.ent 0 hn).1

/-- An entry is written over the i-th one. -/
def putE (g i : Nat) (x : AEnt) (w : World) : World :=
  ((w.setCell ⟨g, i * 3, none⟩ (.int .i64 x.c)).setCell ⟨g, i * 3 + 1, none⟩ (.int .i64 x.o)).setCell ⟨g, i * 3 + 2, none⟩ (.int .i64 x.n)

theorem getElem!_set (es : List AEnt) (i k : Nat) (x : AEnt) (hi : i < es.length) : (es.set i x)[k]! = if i = k then x else es[k]! := by
  simp only [List.getElem!_eq_getElem?_getD, List.getElem?_set]
  split
  · subst_vars; simp [hi]
  · rfl

theorem ERow.put {g i : Nat} {es : List AEnt} {w : World} {x : AEnt} (h : ERow g es w) (hi : i < es.length) : ERow g (es.set i x) (putE g i x w) := by
  have ne : ∀ p q : Nat, p ≠ q → (⟨g, p, none⟩ : Addr) ≠ ⟨g, q, none⟩ := fun p q hpq e => hpq (by cases e; rfl)
  refine ⟨fun k hk => ?_, fun j hj => ?_⟩
  · rw [List.length_set] at hk
    obtain ⟨a, b, c⟩ := h.ent k hk
    obtain ⟨a', b', c'⟩ := h.ent i hi
    simp only [Nat.zero_add] at a b c a' b' c' ⊢
    rw [getElem!_set _ _ _ _ hi]
    unfold putE
    by_cases e : i = k
    · subst e
      rw [if_pos rfl]
      refine ⟨?_, ?_, ?_⟩
      · rw [World.cell?_setCell_other _ _ _ _ (ne _ _ (by omega)), World.cell?_setCell_other _ _ _ _ (ne _ _ (by omega))]; exact World.cell?_setCell_same _ _ _ a
      · rw [World.cell?_setCell_other _ _ _ _ (ne _ _ (by omega))]; exact World.cell?_setCell_same _ _ _ ((World.cell?_setCell_other _ _ _ _ (ne _ _ (by omega))).trans b)
      · exact World.cell?_setCell_same _ _ _ ((World.cell?_setCell_other _ _ _ _ (ne _ _ (by omega))).trans ((World.cell?_setCell_other _ _ _ _ (ne _ _ (by omega))).trans c))
    · rw [if_neg e]
      refine ⟨?_, ?_, ?_⟩ <;> rw [World.cell?_setCell_other _ _ _ _ (ne _ _ (by omega)), World.cell?_setCell_other _ _ _ _ (ne _ _ (by omega)), World.cell?_setCell_other _ _ _ _ (ne _ _ (by omega))] <;> assumption
  · rw [List.length_set] at hj
    unfold putE
    rw [World.frozen?_setCell, World.frozen?_setCell, World.frozen?_setCell]; exact h.frz j hj

theorem Keep.putE {g i : Nat} {x : AEnt} {B : Nat} {a w : World} (h : Keep (· = g) B a w) : Keep (· = g) B a (putE g i x w) :=
  ((h.setCell (.inl rfl) _).setCell (.inl rfl) _).setCell (.inl rfl) _
end Go.Proofs.Ytadelkancmbanaa
