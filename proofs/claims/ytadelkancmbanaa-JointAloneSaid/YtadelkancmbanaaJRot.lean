/-
  Sorting: two entries exchanged, two ranges exchanged, a rotation: where each entry came from.
-/
import Derived.Test.YtadelkancmbanaaJStable
namespace Go.Proofs.Ytadelkancmbanaa
open Go.RowKit
attribute [local go_sem ↓] Go.wp_at_zero Go.wp_at_succ

/-- Entries i and j exchanged. -/
def swap2 (es : List AEnt) (i j : Nat) : List AEnt := (es.set i (es[j]!)).set j (es[i]!)
theorem swap2_length (es : List AEnt) (i j : Nat) : (swap2 es i j).length = es.length := by simp [swap2]
theorem swap2_get (es : List AEnt) (i j p : Nat) (hi : i < es.length) (hj : j < es.length) : (swap2 es i j)[p]! = if p = j then es[i]! else if p = i then es[j]! else es[p]! := by
  rw [swap2, getElem!_set _ _ _ _ (by simpa using hj), getElem!_set _ _ _ _ hi]
  by_cases e : p = j
  · subst e; simp
  · rw [if_neg (Ne.symm e), if_neg e]
    by_cases e2 : p = i
    · subst e2; simp
    · rw [if_neg (Ne.symm e2), if_neg e2]
theorem swap2_perm (es : List AEnt) (i j : Nat) (hi : i < es.length) (hj : j < es.length) : (swap2 es i j).Perm es := by
  have h1 : es[i]! = es[i] := by simp [hi]
  have h2 : es[j]! = es[j] := by simp [hj]
  unfold swap2
  rw [h1, h2]
  exact List.set_set_perm hi hj

theorem ERow.swap {g i j : Nat} {es : List AEnt} {w : World} {x y : AEnt} (h : ERow g es w) (hi : i < es.length) (hj : j < es.length) (hx : es[i]! = x) (hy : es[j]! = y) : ERow g (swap2 es i j) (putE g j x (putE g i y w)) := by
  unfold swap2
  rw [hx, hy]
  exact (h.put (i := i) (x := y) hi).put (i := j) (x := x) (by rw [List.length_set]; exact hj)

/-- Where the entry at q came from: the ranges of n from a and from b on exchanged. -/
def swapI (a b n q : Nat) : Nat := if a ≤ q ∧ q < a + n then q - a + b else if b ≤ q ∧ q < b + n then q - b + a else q
/-- .. [s, m) and [m, e) exchanged. -/
def rotI (s m e q : Nat) : Nat := if s ≤ q ∧ q < s + (e - m) then q - s + m else if s + (e - m) ≤ q ∧ q < e then q - (e - m) else q

theorem rot_gt (m i j q : Nat) (h1 : j < i) (h2 : i ≤ m) : swapI (m - i) m j (rotI (m - (i - j)) m (m + j) q) = rotI (m - i) m (m + j) q := by
  unfold swapI rotI
  repeat' split
  all_goals omega
theorem rot_lt (m i j q : Nat) (h1 : i < j) (h2 : i ≤ m) : swapI (m - i) (m + j - i) i (rotI (m - i) m (m + (j - i)) q) = rotI (m - i) m (m + j) q := by
  unfold swapI rotI
  repeat' split
  all_goals omega
theorem rot_eq (m i q : Nat) (h2 : i ≤ m) : swapI (m - i) m i q = rotI (m - i) m (m + i) q := by
  unfold swapI rotI
  repeat' split
  all_goals omega

/-- The entries in another order: es' holds at q what es held at f q. -/
structure Turned (g : Nat) (f : Nat → Nat) (es : List AEnt) (w : World) (es' : List AEnt) (w' : World) : Prop where
  row : ERow g es' w'
  perm : es'.Perm es
  came : ∀ q, es'[q]! = es[f q]!
  keep : Keep (· = g) w.heap.size w w'

theorem Turned.refl {g : Nat} {es : List AEnt} {w : World} (h : ERow g es w) : Turned g (fun q => q) es w es w := ⟨h, List.Perm.refl _, fun _ => rfl, Keep.refl _ _ _⟩
theorem Turned.cast {g : Nat} {f f' : Nat → Nat} {es es' : List AEnt} {w w' : World} (h : Turned g f es w es' w') (hf : ∀ q, f q = f' q) : Turned g f' es w es' w' := ⟨h.row, h.perm, fun q => by rw [h.came, hf], h.keep⟩
theorem Turned.trans {g : Nat} {f f' : Nat → Nat} {es es1 es2 : List AEnt} {w w1 w2 : World} (h : Turned g f es w es1 w1) (k : Turned g f' es1 w1 es2 w2) : Turned g (fun q => f (f' q)) es w es2 w2 :=
  ⟨k.row, k.perm.trans h.perm, fun q => by rw [k.came, h.came], h.keep.trans (k.keep.mono h.keep.size)⟩
theorem Turned.length {g : Nat} {f : Nat → Nat} {es es' : List AEnt} {w w' : World} (h : Turned g f es w es' w') : es'.length = es.length := h.perm.length_eq

theorem swapI_zero (a b q : Nat) : swapI a b 0 q = q := by
  unfold swapI
  repeat' split
  all_goals omega
theorem swapI_step (a b k q : Nat) (h : a + k < b) : swapI a b (k + 1) q = if q = b + k then a + k else if q = a + k then b + k else swapI a b k q := by
  unfold swapI
  repeat' split
  all_goals omega
theorem swapI_a (a b k : Nat) (h : a + k < b) : swapI a b k (a + k) = a + k := by
  unfold swapI
  repeat' split
  all_goals omega
theorem swapI_b (a b k : Nat) : swapI a b k (b + k) = b + k ∨ b + k < a + k := by
  unfold swapI
  repeat' split
  all_goals omega

/-- A part that is another order of itself holds nothing else. -/
theorem part_from {es es' : List AEnt} {a b : Nat} (hp : es'.Perm es) (hs : SameOut es es' a b) (hab : a ≤ b) (hb : b ≤ es.length) (p : Nat) (h1 : a ≤ p) (h2 : p < b) : ∃ q, a ≤ q ∧ q < b ∧ es'[p]! = es[q]! := by
  have hl := hs.1
  have e1 : es'.take a = es.take a := List.ext_getElem (by simp [hl]) fun i hi hi' => by
    simp only [List.length_take] at hi hi'
    have := hs.2 i (.inl (by omega))
    rw [getElem!_pos es' i (by omega), getElem!_pos es i (by omega)] at this
    simpa using this
  have e2 : es'.drop b = es.drop b := List.ext_getElem (by simp [hl]) fun i hi hi' => by
    simp only [List.length_drop] at hi hi'
    have := hs.2 (b + i) (.inr (by omega))
    rw [getElem!_pos es' (b + i) (by omega), getElem!_pos es (b + i) (by omega)] at this
    simpa using this
  have sp : ∀ l : List AEnt, l = l.take a ++ ((l.drop a).take (b - a) ++ l.drop b) := fun l => by
    have h1 : l.drop b = (l.drop a).drop (b - a) := by rw [List.drop_drop]; congr 1; omega
    rw [h1, List.take_append_drop, List.take_append_drop]
  have hp2 := hp
  rw [sp es, sp es', e1, e2] at hp2
  have hp3 := (List.perm_append_right_iff _).1 ((List.perm_append_left_iff _).1 hp2)
  have hmem : es'[p]! ∈ (es'.drop a).take (b - a) := by
    rw [getElem!_pos es' p (by omega), List.mem_take_iff_getElem]
    exact ⟨p - a, by simp; omega, by simp; congr 1; omega⟩
  have hm2 := hp3.mem_iff.1 hmem
  rw [List.mem_take_iff_getElem] at hm2
  obtain ⟨i, hi, he⟩ := hm2
  simp only [List.length_drop] at hi
  refine ⟨a + i, by omega, by omega, ?_⟩
  rw [← he, getElem!_pos es (a + i) (by omega)]
  simp
end Go.Proofs.Ytadelkancmbanaa
