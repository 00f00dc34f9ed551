/-
  Insertion sort of a part of a slice of entries.
-/
import Derived.Test.YtadelkancmbanaaJSort
namespace Go.Proofs.Ytadelkancmbanaa
open Go.RowKit
attribute [local go_sem ↓] Go.wp_at_zero Go.wp_at_succ

def key (es : List AEnt) (p : Nat) : Int := (es[p]!).c
def SortedOn (es : List AEnt) (a b : Nat) : Prop := ∀ p q, a ≤ p → p < q → q < b → key es p ≤ key es q
def SameOut (es es' : List AEnt) (a b : Nat) : Prop := es'.length = es.length ∧ ∀ p, (p < a ∨ b ≤ p) → es'[p]! = es[p]!

/-- Entries j and j + 1 exchanged. -/
def swapE (es : List AEnt) (j : Nat) : List AEnt := (es.set (j + 1) (es[j]!)).set j (es[j + 1]!)

theorem swapE_length (es : List AEnt) (j : Nat) : (swapE es j).length = es.length := by simp [swapE]
theorem swapE_get (es : List AEnt) (j p : Nat) (hj : j + 1 < es.length) : (swapE es j)[p]! = if p = j then es[j + 1]! else if p = j + 1 then es[j]! else es[p]! := by
  rw [swapE, getElem!_set _ _ _ _ (by simp; omega), getElem!_set _ _ _ _ hj]
  by_cases e : p = j
  · subst e; rw [if_pos rfl, if_pos rfl]
  · rw [if_neg (Ne.symm e), if_neg e]
    by_cases e2 : p = j + 1
    · subst e2; simp
    · rw [if_neg (Ne.symm e2), if_neg e2]
theorem swapE_perm (es : List AEnt) (j : Nat) (hj : j + 1 < es.length) : (swapE es j).Perm es := by
  have h1 : es[j]! = es[j] := by simp [show j < es.length by omega]
  have h2 : es[j + 1]! = es[j + 1] := by simp [hj]
  unfold swapE
  rw [h1, h2]
  exact List.set_set_perm (by omega) (by omega)

/-- Between two rounds of the inner loop: all but number j stands in order. -/
def Nearly (es : List AEnt) (a i j : Nat) : Prop := ∀ p q, a ≤ p → p < q → q ≤ i → q ≠ j → key es p ≤ key es q

theorem nearly_start {es : List AEnt} {a i : Nat} (h : SortedOn es a i) : Nearly es a i i := fun p q h1 h2 h3 h4 => h p q h1 h2 (by omega)

theorem key_swap0 (es : List AEnt) (j : Nat) (hj : j + 1 < es.length) : key (swapE es j) j = key es (j + 1) := by
  unfold key; rw [swapE_get _ _ _ hj, if_pos rfl]
theorem key_swap1 (es : List AEnt) (j : Nat) (hj : j + 1 < es.length) : key (swapE es j) (j + 1) = key es j := by
  unfold key; rw [swapE_get _ _ _ hj, if_neg (by omega), if_pos rfl]
theorem key_swap2 (es : List AEnt) (j p : Nat) (hj : j + 1 < es.length) (h1 : p ≠ j) (h2 : p ≠ j + 1) : key (swapE es j) p = key es p := by
  unfold key; rw [swapE_get _ _ _ hj, if_neg h1, if_neg h2]

theorem nearly_swap {es : List AEnt} {a i j : Nat} (h : Nearly es a i (j + 1)) (hj : a ≤ j) (hji : j + 1 ≤ i) (hi : i < es.length) (hlt : key es (j + 1) < key es j) : Nearly (swapE es j) a i j := by
  intro p q h1 h2 h3 h4
  have hl : j + 1 < es.length := by omega
  by_cases hq : q = j + 1
  · subst hq
    rw [key_swap1 _ _ hl]
    by_cases hp : p = j
    · subst hp; rw [key_swap0 _ _ hl]; omega
    · rw [key_swap2 _ _ _ hl hp (by omega)]; exact h p j h1 (by omega) (by omega) (by omega)
  · rw [key_swap2 _ _ _ hl h4 hq]
    by_cases hp : p = j
    · subst hp; rw [key_swap0 _ _ hl]
      exact h (p + 1) q (by omega) (by omega) h3 hq
    · by_cases hp2 : p = j + 1
      · subst hp2; rw [key_swap1 _ _ hl]; exact h j q hj (by omega) h3 hq
      · rw [key_swap2 _ _ _ hl hp hp2]; exact h p q h1 h2 h3 hq

theorem nearly_end {es : List AEnt} {a i j : Nat} (h : Nearly es a i j) (hj : j = a ∨ ∃ m, j = m + 1 ∧ a ≤ m ∧ key es m ≤ key es j) : SortedOn es a (i + 1) := by
  intro p q h1 h2 h3
  by_cases hq : q = j
  · subst hq
    rcases hj with rfl | ⟨m, rfl, hm, hk⟩
    · omega
    · by_cases hp : p = m
      · subst hp; exact hk
      · have := h p m h1 (by omega) (by omega) (by omega)
        omega
  · exact h p q h1 h2 (by omega) hq

/-- What a part of a sort leaves. -/
structure Part (g a b : Nat) (es : List AEnt) (w : World) (es' : List AEnt) (w' : World) : Prop where
  row : ERow g es' w'
  perm : es'.Perm es
  same : SameOut es es' a b
  keep : Keep (· = g) w.heap.size w w'

theorem SameOut.refl (es : List AEnt) (a b : Nat) : SameOut es es a b := ⟨rfl, fun _ _ => rfl⟩
theorem SameOut.swap {es es' : List AEnt} {a b j : Nat} (h : SameOut es es' a b) (hj : a ≤ j) (hb : j + 1 < b) (hl : b ≤ es.length) : SameOut es (swapE es' j) a b :=
  ⟨by rw [swapE_length]; exact h.1, fun p hp => by rw [swapE_get _ _ _ (by rw [h.1]; omega), if_neg (by omega), if_neg (by omega)]; exact h.2 p hp⟩

def InsEnd (g a b : Nat) (es : List AEnt) (w : World) (e : Ending) (w' : World) : Prop := e = .returned (.tuple #[]) ∧ ∃ es', Part g a b es w es' w' ∧ SortedOn es' a b

set_option maxRecDepth 100000 in
set_option maxHeartbeats 4000000 in
theorem insertion_any (g cap a b : Nat) (es : List AEnt) (w : World) (h : ERow g es w) (hab : a ≤ b) (hb : b ≤ es.length) (hl : es.length ≤ 1000) (hg : g < w.heap.size) :
    Calls Try.prog 72 #[.slice (some ⟨g, 0, none⟩) es.length cap, .int .i64 a, .int .i64 b, .func (.func 32) #[] #[]] w (InsEnd g a b es w) := by
  have H := Lib.hid h
  have hcall := callCmp
  clear h
  go_enter Try.func72, Try.ntmps72
  go_wp2
  go_loopw [8] (fun i wr => ∃ k es', i = .int .i64 ((k : Nat) : Int) ∧ a + 1 ≤ k ∧ (k ≤ b ∨ k = a + 1) ∧ Part g a b es w es' wr ∧ SortedOn es' a k) (fun i _ => b - (intOf i).toNat)
  case atStart => exact ⟨a + 1, es, by go_num, Nat.le_refl _, .inr rfl, ⟨H.out, List.Perm.refl _, SameOut.refl _ _ _, Keep.refl _ _ _⟩, fun p q h1 h2 h3 => by omega⟩
  case round =>
    obtain ⟨k, es', rfl, hka, hkb, hpart, hsort⟩ := hrel
    by_cases hlt : k < b
    · obtain ⟨wo, rfl⟩ : ∃ wo : World, wo = wr := ⟨_, rfl⟩
      have Hp := Lib.hid hpart
      have Hs := Lib.hid hsort
      clear hpart hsort
      go_wp2
      go_loopw [9] (fun jv wi => ∃ j es2, jv = .int .i64 ((j : Nat) : Int) ∧ a ≤ j ∧ j ≤ k ∧ Part g a b es w es2 wi ∧ Nearly es2 a k j) (fun j _ => (intOf j).toNat)
      case atStart => exact ⟨k, es', rfl, by omega, Nat.le_refl _, Hp.out, nearly_start Hs.out⟩
      case round =>
        clear Hp Hs
        obtain ⟨j, es2, rfl, hja, hjk, hp2, hn2⟩ := hrel
        have hl2 := hp2.same.1
        by_cases hj : a < j
        · obtain ⟨m, rfl⟩ : ∃ m, j = m + 1 := ⟨j - 1, by omega⟩
          obtain ⟨x0, x1, x2⟩ := hp2.row.ent (m + 1) (by omega)
          obtain ⟨y0, y1, y2⟩ := hp2.row.ent m (by omega)
          simp only [Nat.zero_add] at x0 x1 x2 y0 y1 y2
          generalize hx : es2[m + 1]! = x at *
          generalize hy : es2[m]! = y at *
          obtain ⟨xc, xo, xn⟩ := x
          obtain ⟨yc, yo, yn⟩ := y
          dsimp only at x0 x1 x2 y0 y1 y2
          have Hx := Lib.hid hx
          have Hy := Lib.hid hy
          have Hp2 := Lib.hid hp2
          have Hn2 := Lib.hid hn2
          have Hl2 := Lib.hid hl2
          clear hx hy hp2 hn2 hl2
          have hd : decide ((a : Int) < (m : Int) + 1) = true := by simp; omega
          have b0 : (0 : Int) ≤ (m : Int) := by omega
          have b2 : (0 : Int) ≤ (m : Int) + 1 := by omega
          have b1 : (m : Int) + 1 < (es.length : Int) := by omega
          have b3 : (m : Int) < (es.length : Int) := by omega
          have hwm : IntKind.i64.wrap (m : Int) = m := by rw [IntKind.wrap_i64]; omega
          have hgi : g < wr.heap.size := by have := Hp2.out.keep.size; omega
          go_wp2_with fail
          by_cases hxy : xc < yc
          all_goals
            have hcm : decide (cmpI xc yc < 0) = decide (xc < yc) := by
              unfold cmpI
              by_cases h1 : xc < yc
              · rw [if_pos h1]; simp [h1]
              · rw [if_neg h1]
                by_cases h2 : yc < xc
                · rw [if_pos h2]; simp [h1]; 
                · rw [if_neg h2]; simp [h1]
          · have hxy' : decide (xc < yc) = true := by simpa using hxy
            rw [hxy'] at hcm
            refine Reg.start (fun w' => w'.cell? ⟨g, (m + 1) * 3, none⟩ = some (.int .i64 xc) ∧ w'.cell? ⟨g, (m + 1) * 3 + 1, none⟩ = some (.int .i64 xo) ∧ w'.cell? ⟨g, (m + 1) * 3 + 2, none⟩ = some (.int .i64 xn) ∧ w'.cell? ⟨g, m * 3, none⟩ = some (.int .i64 yc) ∧ w'.cell? ⟨g, m * 3 + 1, none⟩ = some (.int .i64 yo) ∧ w'.cell? ⟨g, m * 3 + 2, none⟩ = some (.int .i64 yn)) [14] (by kernel_rfl) ?_ (fun hHeld => ?_)
            · first | trivial | ((try dsimp only); exact ⟨x0, x1, x2, y0, y1, y2⟩)
            refine Reg.takeP (i := 0) (v := ?v72x4_0) rfl (by kernel_rfl) (by kernel_rfl) (by kernel_rfl) (by kernel_rfl) (fun _ _ _ h => h) (Or.inl ⟨by rfl, ?h72x4_0⟩) (fun _ => hHeld) ?r72x4_0
            case h72x4_0 => (intro wS hSw; (try dsimp only at hSw); go_simp; all_goals with_reducible rfl)
            try simp only [Act.put, List.setIfInBounds_toArray, List.set_cons_zero, List.set_cons_succ]
            refine Reg.takeP (i := 1) (v := ?v72x4_1) rfl (by kernel_rfl) (by kernel_rfl) (by kernel_rfl) (by kernel_rfl) (fun _ _ _ h => h) (Or.inl ⟨by rfl, ?h72x4_1⟩) (fun _ => hHeld) ?r72x4_1
            case h72x4_1 => (intro wS hSw; (try dsimp only at hSw); go_simp; all_goals with_reducible rfl)
            try simp only [Act.put, List.setIfInBounds_toArray, List.set_cons_zero, List.set_cons_succ]
            refine Reg.takeP (i := 2) (v := ?v72x4_2) rfl (by kernel_rfl) (by kernel_rfl) (by kernel_rfl) (by kernel_rfl) (fun _ _ _ h => h) (Or.inl ⟨by rfl, ?h72x4_2⟩) (fun _ => hHeld) ?r72x4_2
            case h72x4_2 => (intro wS hSw; (try dsimp only at hSw); go_simp; all_goals with_reducible rfl)
            try simp only [Act.put, List.setIfInBounds_toArray, List.set_cons_zero, List.set_cons_succ]
            refine Reg.takeP (i := 3) (v := ?v72x4_3) rfl (by kernel_rfl) (by kernel_rfl) (by kernel_rfl) (by kernel_rfl) (fun _ _ _ h => h) (Or.inl ⟨by rfl, ?h72x4_3⟩) (fun _ => hHeld) ?r72x4_3
            case h72x4_3 => (intro wS hSw; (try dsimp only at hSw); go_simp; all_goals with_reducible rfl)
            try simp only [Act.put, List.setIfInBounds_toArray, List.set_cons_zero, List.set_cons_succ]
            refine Reg.takeP (i := 4) (v := ?v72x4_4) rfl (by kernel_rfl) (by kernel_rfl) (by kernel_rfl) (by kernel_rfl) (fun _ _ _ h => h) (Or.inl ⟨by rfl, ?h72x4_4⟩) (fun _ => hHeld) ?r72x4_4
            case h72x4_4 => (intro wS hSw; (try dsimp only at hSw); go_simp; all_goals with_reducible rfl)
            try simp only [Act.put, List.setIfInBounds_toArray, List.set_cons_zero, List.set_cons_succ]
            refine Reg.takeP (i := 5) (v := ?v72x4_5) rfl (by kernel_rfl) (by kernel_rfl) (by kernel_rfl) (by kernel_rfl) (fun _ _ _ h => h) (Or.inl ⟨by rfl, ?h72x4_5⟩) (fun _ => hHeld) ?r72x4_5
            case h72x4_5 => (intro wS hSw; (try dsimp only at hSw); go_simp; all_goals with_reducible rfl)
            try simp only [Act.put, List.setIfInBounds_toArray, List.set_cons_zero, List.set_cons_succ]
            refine Reg.takeP (i := 6) (v := ?v72x4_6) rfl (by kernel_rfl) (by kernel_rfl) (by kernel_rfl) (by kernel_rfl) (fun _ _ _ h => h) (Or.inl ⟨by rfl, ?h72x4_6⟩) (fun _ => hHeld) ?r72x4_6
            case h72x4_6 => (intro wS hSw; (try dsimp only at hSw); go_simp; all_goals with_reducible rfl)
            try simp only [Act.put, List.setIfInBounds_toArray, List.set_cons_zero, List.set_cons_succ]
            refine Reg.takeP (i := 7) (v := ?v72x4_7) rfl (by kernel_rfl) (by kernel_rfl) (by kernel_rfl) (by kernel_rfl) (fun _ _ _ h => h) (Or.inl ⟨by rfl, ?h72x4_7⟩) (fun _ => hHeld) ?r72x4_7
            case h72x4_7 => (intro wS hSw; (try dsimp only at hSw); go_simp; all_goals with_reducible rfl)
            try simp only [Act.put, List.setIfInBounds_toArray, List.set_cons_zero, List.set_cons_succ]
            refine Reg.take (i := 8) (v := ?v72x4_8) rfl (by kernel_rfl) (by kernel_rfl) (by kernel_rfl) (by kernel_rfl) (fun _ _ _ h => h) (Or.inl ⟨by rfl, ?h72x4_8⟩) hHeld ?r72x4_8
            case h72x4_8 => (intro wS hSw; (try dsimp only at hSw); go_simp; all_goals with_reducible rfl)
            try simp only [Act.put, List.setIfInBounds_toArray, List.set_cons_zero, List.set_cons_succ]
            refine Reg.takeP (i := 9) (v := ?v72x4_9) rfl (by kernel_rfl) (by kernel_rfl) (by kernel_rfl) (by kernel_rfl) (fun _ _ _ h => h) (Or.inl ⟨by rfl, ?h72x4_9⟩) (fun _ => hHeld) ?r72x4_9
            case h72x4_9 => (intro wS hSw; (try dsimp only at hSw); go_simp; all_goals with_reducible rfl)
            try simp only [Act.put, List.setIfInBounds_toArray, List.set_cons_zero, List.set_cons_succ]
            refine Reg.takeP (i := 10) (v := ?v72x4_10) rfl (by kernel_rfl) (by kernel_rfl) (by kernel_rfl) (by kernel_rfl) (fun _ _ _ h => h) (Or.inl ⟨by rfl, ?h72x4_10⟩) (fun _ => hHeld) ?r72x4_10
            case h72x4_10 => (intro wS hSw; (try dsimp only at hSw); go_simp; all_goals with_reducible rfl)
            try simp only [Act.put, List.setIfInBounds_toArray, List.set_cons_zero, List.set_cons_succ]
            refine Reg.takeP (i := 11) (v := ?v72x4_11) rfl (by kernel_rfl) (by kernel_rfl) (by kernel_rfl) (by kernel_rfl) (fun _ _ _ h => h) (Or.inl ⟨by rfl, ?h72x4_11⟩) (fun _ => hHeld) ?r72x4_11
            case h72x4_11 => (intro wS hSw; (try dsimp only at hSw); go_simp; all_goals with_reducible rfl)
            try simp only [Act.put, List.setIfInBounds_toArray, List.set_cons_zero, List.set_cons_succ]
            refine Reg.takeP (i := 12) (v := ?v72x4_12) rfl (by kernel_rfl) (by kernel_rfl) (by kernel_rfl) (by kernel_rfl) (fun _ _ _ h => h) (Or.inl ⟨by rfl, ?h72x4_12⟩) (fun _ => hHeld) ?r72x4_12
            case h72x4_12 => (intro wS hSw; (try dsimp only at hSw); go_simp; all_goals with_reducible rfl)
            try simp only [Act.put, List.setIfInBounds_toArray, List.set_cons_zero, List.set_cons_succ]
            refine Reg.take (i := 13) (v := ?v72x4_13) rfl (by kernel_rfl) (by kernel_rfl) (by kernel_rfl) (by kernel_rfl) (fun _ _ _ h => h) (Or.inl ⟨by rfl, ?h72x4_13⟩) hHeld ?r72x4_13
            case h72x4_13 => (intro wS hSw; (try dsimp only at hSw); go_simp; all_goals with_reducible rfl)
            try simp only [Act.put, List.setIfInBounds_toArray, List.set_cons_zero, List.set_cons_succ]
            refine Reg.one (i := 14) rfl (by kernel_rfl) (fun K hK => ?_)
            (go_simp; refine (cmp_ents ⟨xc, xo, xn⟩ ⟨yc, yo, yn⟩ _).mono ?_; rintro e w4 ⟨rfl, hw4⟩; have Hw4 := Lib.hid hw4; clear hw4; dsimp only)
            refine hK.out _ _ (fun hF => absurd hF (by decide)) (fun _ => ?_)
            clear hK K
            try simp only [Act.put, List.setIfInBounds_toArray, List.set_cons_zero, List.set_cons_succ]
            refine Reg.takeP (i := 15) (v := ?v72x4_15) rfl (by kernel_rfl) (by kernel_rfl) (by kernel_rfl) (by kernel_rfl) (fun _ _ _ h => h) (Or.inl ⟨by rfl, ?h72x4_15⟩) (fun hF => absurd hF (by decide)) ?r72x4_15
            case h72x4_15 => (intro wS hSw; (try dsimp only at hSw); go_simp; all_goals with_reducible rfl)
            try simp only [Act.put, List.setIfInBounds_toArray, List.set_cons_zero, List.set_cons_succ]
            refine Reg.takeP (i := 16) (v := ?v72x4_16) rfl (by kernel_rfl) (by kernel_rfl) (by kernel_rfl) (by kernel_rfl) (fun _ _ _ h => h) (Or.inl ⟨by rfl, ?h72x4_16⟩) (fun hF => absurd hF (by decide)) ?r72x4_16
            case h72x4_16 => (intro wS hSw; (try dsimp only at hSw); go_simp; all_goals with_reducible rfl)
            try simp only [Act.put, List.setIfInBounds_toArray, List.set_cons_zero, List.set_cons_succ]
            refine Reg.done (by kernel_rfl) ?_ _
            go_wp2
            have e4 : w4.heap[g]? = wr.heap[g]? := by
              rw [← Hw4.out]; unfold laid2
              rw [Below.heap_alloc _ _ _ (by simp; omega), Below.heap_alloc _ _ _ (by simp; omega)]; rfl
            have row4 := Hp2.out.row.of_block e4
            have keep4 : Keep (· = g) w.heap.size w w4 := by
              rw [← Hw4.out]; unfold laid2
              have hz := Hp2.out.keep.size
              exact (Hp2.out.keep.drew.alloc (by simp; omega) _).alloc (by simp; omega) _
            obtain ⟨x0', x1', x2'⟩ := row4.ent (m + 1) (by rw [Hl2.out]; omega)
            obtain ⟨y0', y1', y2'⟩ := row4.ent m (by rw [Hl2.out]; omega)
            rw [Hx.out] at x0' x1' x2'
            rw [Hy.out] at y0' y1' y2'
            simp only [Nat.zero_add] at x0' x1' x2' y0' y1' y2'
            have f0 := row4.frz ((m + 1) * 3) (by rw [Hl2.out]; omega)
            have f1 := row4.frz ((m + 1) * 3 + 1) (by rw [Hl2.out]; omega)
            have f2 := row4.frz ((m + 1) * 3 + 2) (by rw [Hl2.out]; omega)
            have f3 := row4.frz (m * 3) (by rw [Hl2.out]; omega)
            have f4 := row4.frz (m * 3 + 1) (by rw [Hl2.out]; omega)
            have f5 := row4.frz (m * 3 + 2) (by rw [Hl2.out]; omega)
            have Hrow4 := Lib.hid row4
            have Hkeep4 := Lib.hid keep4
            clear row4 keep4 e4 x0 x1 x2 y0 y1 y2 hcm hHeld
            refine Reg.start (fun w' => w'.cell? ⟨g, (m + 1) * 3, none⟩ = some (.int .i64 xc) ∧ w'.cell? ⟨g, (m + 1) * 3 + 1, none⟩ = some (.int .i64 xo) ∧ w'.cell? ⟨g, (m + 1) * 3 + 2, none⟩ = some (.int .i64 xn) ∧ w'.cell? ⟨g, m * 3, none⟩ = some (.int .i64 yc) ∧ w'.cell? ⟨g, m * 3 + 1, none⟩ = some (.int .i64 yo) ∧ w'.cell? ⟨g, m * 3 + 2, none⟩ = some (.int .i64 yn)) [15, 17] (by kernel_rfl) ?_ (fun hHeld => ?_)
            · first | trivial | ((try dsimp only); exact ⟨x0', x1', x2', y0', y1', y2'⟩)
            refine Reg.takeP (i := 0) (v := ?v72x6_0) rfl (by kernel_rfl) (by kernel_rfl) (by kernel_rfl) (by kernel_rfl) (fun _ _ _ h => h) (Or.inl ⟨by rfl, ?h72x6_0⟩) (fun _ => hHeld) ?r72x6_0
            case h72x6_0 => (intro wS hSw; (try dsimp only at hSw); go_simp; all_goals with_reducible rfl)
            try simp only [Act.put, List.setIfInBounds_toArray, List.set_cons_zero, List.set_cons_succ]
            refine Reg.takeP (i := 1) (v := ?v72x6_1) rfl (by kernel_rfl) (by kernel_rfl) (by kernel_rfl) (by kernel_rfl) (fun _ _ _ h => h) (Or.inl ⟨by rfl, ?h72x6_1⟩) (fun _ => hHeld) ?r72x6_1
            case h72x6_1 => (intro wS hSw; (try dsimp only at hSw); go_simp; all_goals with_reducible rfl)
            try simp only [Act.put, List.setIfInBounds_toArray, List.set_cons_zero, List.set_cons_succ]
            refine Reg.takeP (i := 2) (v := ?v72x6_2) rfl (by kernel_rfl) (by kernel_rfl) (by kernel_rfl) (by kernel_rfl) (fun _ _ _ h => h) (Or.inl ⟨by rfl, ?h72x6_2⟩) (fun _ => hHeld) ?r72x6_2
            case h72x6_2 => (intro wS hSw; (try dsimp only at hSw); go_simp; all_goals with_reducible rfl)
            try simp only [Act.put, List.setIfInBounds_toArray, List.set_cons_zero, List.set_cons_succ]
            refine Reg.takeP (i := 3) (v := ?v72x6_3) rfl (by kernel_rfl) (by kernel_rfl) (by kernel_rfl) (by kernel_rfl) (fun _ _ _ h => h) (Or.inl ⟨by rfl, ?h72x6_3⟩) (fun _ => hHeld) ?r72x6_3
            case h72x6_3 => (intro wS hSw; (try dsimp only at hSw); go_simp; all_goals with_reducible rfl)
            try simp only [Act.put, List.setIfInBounds_toArray, List.set_cons_zero, List.set_cons_succ]
            refine Reg.takeP (i := 4) (v := ?v72x6_4) rfl (by kernel_rfl) (by kernel_rfl) (by kernel_rfl) (by kernel_rfl) (fun _ _ _ h => h) (Or.inl ⟨by rfl, ?h72x6_4⟩) (fun _ => hHeld) ?r72x6_4
            case h72x6_4 => (intro wS hSw; (try dsimp only at hSw); go_simp; all_goals with_reducible rfl)
            try simp only [Act.put, List.setIfInBounds_toArray, List.set_cons_zero, List.set_cons_succ]
            refine Reg.takeP (i := 5) (v := ?v72x6_5) rfl (by kernel_rfl) (by kernel_rfl) (by kernel_rfl) (by kernel_rfl) (fun _ _ _ h => h) (Or.inl ⟨by rfl, ?h72x6_5⟩) (fun _ => hHeld) ?r72x6_5
            case h72x6_5 => (intro wS hSw; (try dsimp only at hSw); go_simp; all_goals with_reducible rfl)
            try simp only [Act.put, List.setIfInBounds_toArray, List.set_cons_zero, List.set_cons_succ]
            refine Reg.takeP (i := 6) (v := ?v72x6_6) rfl (by kernel_rfl) (by kernel_rfl) (by kernel_rfl) (by kernel_rfl) (fun _ _ _ h => h) (Or.inl ⟨by rfl, ?h72x6_6⟩) (fun _ => hHeld) ?r72x6_6
            case h72x6_6 => (intro wS hSw; (try dsimp only at hSw); go_simp; all_goals with_reducible rfl)
            try simp only [Act.put, List.setIfInBounds_toArray, List.set_cons_zero, List.set_cons_succ]
            refine Reg.takeP (i := 7) (v := ?v72x6_7) rfl (by kernel_rfl) (by kernel_rfl) (by kernel_rfl) (by kernel_rfl) (fun _ _ _ h => h) (Or.inl ⟨by rfl, ?h72x6_7⟩) (fun _ => hHeld) ?r72x6_7
            case h72x6_7 => (intro wS hSw; (try dsimp only at hSw); go_simp; all_goals with_reducible rfl)
            try simp only [Act.put, List.setIfInBounds_toArray, List.set_cons_zero, List.set_cons_succ]
            refine Reg.takeP (i := 8) (v := ?v72x6_8) rfl (by kernel_rfl) (by kernel_rfl) (by kernel_rfl) (by kernel_rfl) (fun _ _ _ h => h) (Or.inl ⟨by rfl, ?h72x6_8⟩) (fun _ => hHeld) ?r72x6_8
            case h72x6_8 => (intro wS hSw; (try dsimp only at hSw); go_simp; all_goals with_reducible rfl)
            try simp only [Act.put, List.setIfInBounds_toArray, List.set_cons_zero, List.set_cons_succ]
            refine Reg.take (i := 9) (v := ?v72x6_9) rfl (by kernel_rfl) (by kernel_rfl) (by kernel_rfl) (by kernel_rfl) (fun _ _ _ h => h) (Or.inl ⟨by rfl, ?h72x6_9⟩) hHeld ?r72x6_9
            case h72x6_9 => (intro wS hSw; (try dsimp only at hSw); go_simp; all_goals with_reducible rfl)
            try simp only [Act.put, List.setIfInBounds_toArray, List.set_cons_zero, List.set_cons_succ]
            refine Reg.takeP (i := 10) (v := ?v72x6_10) rfl (by kernel_rfl) (by kernel_rfl) (by kernel_rfl) (by kernel_rfl) (fun _ _ _ h => h) (Or.inl ⟨by rfl, ?h72x6_10⟩) (fun _ => hHeld) ?r72x6_10
            case h72x6_10 => (intro wS hSw; (try dsimp only at hSw); go_simp; all_goals with_reducible rfl)
            try simp only [Act.put, List.setIfInBounds_toArray, List.set_cons_zero, List.set_cons_succ]
            refine Reg.takeP (i := 11) (v := ?v72x6_11) rfl (by kernel_rfl) (by kernel_rfl) (by kernel_rfl) (by kernel_rfl) (fun _ _ _ h => h) (Or.inl ⟨by rfl, ?h72x6_11⟩) (fun _ => hHeld) ?r72x6_11
            case h72x6_11 => (intro wS hSw; (try dsimp only at hSw); go_simp; all_goals with_reducible rfl)
            try simp only [Act.put, List.setIfInBounds_toArray, List.set_cons_zero, List.set_cons_succ]
            refine Reg.takeP (i := 12) (v := ?v72x6_12) rfl (by kernel_rfl) (by kernel_rfl) (by kernel_rfl) (by kernel_rfl) (fun _ _ _ h => h) (Or.inl ⟨by rfl, ?h72x6_12⟩) (fun _ => hHeld) ?r72x6_12
            case h72x6_12 => (intro wS hSw; (try dsimp only at hSw); go_simp; all_goals with_reducible rfl)
            try simp only [Act.put, List.setIfInBounds_toArray, List.set_cons_zero, List.set_cons_succ]
            refine Reg.take (i := 13) (v := ?v72x6_13) rfl (by kernel_rfl) (by kernel_rfl) (by kernel_rfl) (by kernel_rfl) (fun _ _ _ h => h) (Or.inl ⟨by rfl, ?h72x6_13⟩) hHeld ?r72x6_13
            case h72x6_13 => (intro wS hSw; (try dsimp only at hSw); go_simp; all_goals with_reducible rfl)
            try simp only [Act.put, List.setIfInBounds_toArray, List.set_cons_zero, List.set_cons_succ]
            refine Reg.takeP (i := 14) (v := ?v72x6_14) rfl (by kernel_rfl) (by kernel_rfl) (by kernel_rfl) (by kernel_rfl) (fun _ _ _ h => h) (Or.inl ⟨by rfl, ?h72x6_14⟩) (fun _ => hHeld) ?r72x6_14
            case h72x6_14 => (intro wS hSw; (try dsimp only at hSw); go_simp; all_goals with_reducible rfl)
            try simp only [Act.put, List.setIfInBounds_toArray, List.set_cons_zero, List.set_cons_succ]
            refine Reg.one (i := 15) rfl (by kernel_rfl) (fun K hK => ?_)
            go_simp
            refine hK.out _ _ (fun hF => absurd hF (by decide)) (fun _ => ?_)
            clear hK K
            try simp only [Act.put, List.setIfInBounds_toArray, List.set_cons_zero, List.set_cons_succ]
            refine Reg.takeP (i := 16) (v := ?v72x6_16) rfl (by kernel_rfl) (by kernel_rfl) (by kernel_rfl) (by kernel_rfl) (fun _ _ _ h => h) (Or.inl ⟨by rfl, ?h72x6_16⟩) (fun hF => absurd hF (by decide)) ?r72x6_16
            case h72x6_16 => (intro wS hSw; (try dsimp only at hSw); go_simp; all_goals with_reducible rfl)
            try simp only [Act.put, List.setIfInBounds_toArray, List.set_cons_zero, List.set_cons_succ]
            refine Reg.one (i := 17) rfl (by kernel_rfl) (fun K hK => ?_)
            go_simp
            refine hK.out _ _ (fun hF => absurd hF (by decide)) (fun _ => ?_)
            clear hK K
            try simp only [Act.put, List.setIfInBounds_toArray, List.set_cons_zero, List.set_cons_succ]
            refine Reg.done (by kernel_rfl) ?_ _
            go_wp2
            go_roundw
            case rel =>
              have hlx : (es2[m + 1]!) = ⟨xc, xo, xn⟩ := Hx.out
              have hly : (es2[m]!) = ⟨yc, yo, yn⟩ := Hy.out
              have hsw : swapE es2 m = (es2.set (m + 1) ⟨yc, yo, yn⟩).set m ⟨xc, xo, xn⟩ := by unfold swapE; rw [hlx, hly]
              have hl2 := Hl2.out
              refine ⟨m, swapE es2 m, rfl, by omega, by omega, ⟨?_, (swapE_perm _ _ (by omega)).trans Hp2.out.perm, Hp2.out.same.swap (by omega) (by omega) hb, ?_⟩, nearly_swap Hn2.out (by omega) (by omega) (by omega) (by unfold key; rw [hlx, hly]; exact hxy)⟩
              · rw [hsw]
                have h1 := Hrow4.out.put (i := m + 1) (x := ⟨yc, yo, yn⟩) (by omega)
                have h2 := h1.put (i := m) (x := ⟨xc, xo, xn⟩) (by rw [List.length_set]; omega)
                show ERow g _ (World.drew (putE g m ⟨xc, xo, xn⟩ (putE g (m + 1) ⟨yc, yo, yn⟩ w4)))
                generalize putE g m ⟨xc, xo, xn⟩ (putE g (m + 1) ⟨yc, yo, yn⟩ w4) = w5 at h2 ⊢
                exact h2.of_block rfl
              · have k5 := (Hkeep4.out.putE (i := m + 1) (x := ⟨yc, yo, yn⟩)).putE (i := m) (x := ⟨xc, xo, xn⟩)
                show Keep _ _ _ (World.drew (putE g m ⟨xc, xo, xn⟩ (putE g (m + 1) ⟨yc, yo, yn⟩ w4)))
                exact k5.drew
            case measure => simp [intOf]
          · have hxy' : decide (xc < yc) = false := by simpa using hxy
            rw [hxy'] at hcm
            refine Reg.start (fun w' => w'.cell? ⟨g, (m + 1) * 3, none⟩ = some (.int .i64 xc) ∧ w'.cell? ⟨g, (m + 1) * 3 + 1, none⟩ = some (.int .i64 xo) ∧ w'.cell? ⟨g, (m + 1) * 3 + 2, none⟩ = some (.int .i64 xn) ∧ w'.cell? ⟨g, m * 3, none⟩ = some (.int .i64 yc) ∧ w'.cell? ⟨g, m * 3 + 1, none⟩ = some (.int .i64 yo) ∧ w'.cell? ⟨g, m * 3 + 2, none⟩ = some (.int .i64 yn)) [14] (by kernel_rfl) ?_ (fun hHeld => ?_)
            · first | trivial | ((try dsimp only); exact ⟨x0, x1, x2, y0, y1, y2⟩)
            refine Reg.takeP (i := 0) (v := ?vb_0) rfl (by kernel_rfl) (by kernel_rfl) (by kernel_rfl) (by kernel_rfl) (fun _ _ _ h => h) (Or.inl ⟨by rfl, ?hb_0⟩) (fun _ => hHeld) ?rb_0
            case hb_0 => (intro wS hSw; (try dsimp only at hSw); go_simp; all_goals with_reducible rfl)
            try simp only [Act.put, List.setIfInBounds_toArray, List.set_cons_zero, List.set_cons_succ]
            refine Reg.takeP (i := 1) (v := ?vb_1) rfl (by kernel_rfl) (by kernel_rfl) (by kernel_rfl) (by kernel_rfl) (fun _ _ _ h => h) (Or.inl ⟨by rfl, ?hb_1⟩) (fun _ => hHeld) ?rb_1
            case hb_1 => (intro wS hSw; (try dsimp only at hSw); go_simp; all_goals with_reducible rfl)
            try simp only [Act.put, List.setIfInBounds_toArray, List.set_cons_zero, List.set_cons_succ]
            refine Reg.takeP (i := 2) (v := ?vb_2) rfl (by kernel_rfl) (by kernel_rfl) (by kernel_rfl) (by kernel_rfl) (fun _ _ _ h => h) (Or.inl ⟨by rfl, ?hb_2⟩) (fun _ => hHeld) ?rb_2
            case hb_2 => (intro wS hSw; (try dsimp only at hSw); go_simp; all_goals with_reducible rfl)
            try simp only [Act.put, List.setIfInBounds_toArray, List.set_cons_zero, List.set_cons_succ]
            refine Reg.takeP (i := 3) (v := ?vb_3) rfl (by kernel_rfl) (by kernel_rfl) (by kernel_rfl) (by kernel_rfl) (fun _ _ _ h => h) (Or.inl ⟨by rfl, ?hb_3⟩) (fun _ => hHeld) ?rb_3
            case hb_3 => (intro wS hSw; (try dsimp only at hSw); go_simp; all_goals with_reducible rfl)
            try simp only [Act.put, List.setIfInBounds_toArray, List.set_cons_zero, List.set_cons_succ]
            refine Reg.takeP (i := 4) (v := ?vb_4) rfl (by kernel_rfl) (by kernel_rfl) (by kernel_rfl) (by kernel_rfl) (fun _ _ _ h => h) (Or.inl ⟨by rfl, ?hb_4⟩) (fun _ => hHeld) ?rb_4
            case hb_4 => (intro wS hSw; (try dsimp only at hSw); go_simp; all_goals with_reducible rfl)
            try simp only [Act.put, List.setIfInBounds_toArray, List.set_cons_zero, List.set_cons_succ]
            refine Reg.takeP (i := 5) (v := ?vb_5) rfl (by kernel_rfl) (by kernel_rfl) (by kernel_rfl) (by kernel_rfl) (fun _ _ _ h => h) (Or.inl ⟨by rfl, ?hb_5⟩) (fun _ => hHeld) ?rb_5
            case hb_5 => (intro wS hSw; (try dsimp only at hSw); go_simp; all_goals with_reducible rfl)
            try simp only [Act.put, List.setIfInBounds_toArray, List.set_cons_zero, List.set_cons_succ]
            refine Reg.takeP (i := 6) (v := ?vb_6) rfl (by kernel_rfl) (by kernel_rfl) (by kernel_rfl) (by kernel_rfl) (fun _ _ _ h => h) (Or.inl ⟨by rfl, ?hb_6⟩) (fun _ => hHeld) ?rb_6
            case hb_6 => (intro wS hSw; (try dsimp only at hSw); go_simp; all_goals with_reducible rfl)
            try simp only [Act.put, List.setIfInBounds_toArray, List.set_cons_zero, List.set_cons_succ]
            refine Reg.takeP (i := 7) (v := ?vb_7) rfl (by kernel_rfl) (by kernel_rfl) (by kernel_rfl) (by kernel_rfl) (fun _ _ _ h => h) (Or.inl ⟨by rfl, ?hb_7⟩) (fun _ => hHeld) ?rb_7
            case hb_7 => (intro wS hSw; (try dsimp only at hSw); go_simp; all_goals with_reducible rfl)
            try simp only [Act.put, List.setIfInBounds_toArray, List.set_cons_zero, List.set_cons_succ]
            refine Reg.take (i := 8) (v := ?vb_8) rfl (by kernel_rfl) (by kernel_rfl) (by kernel_rfl) (by kernel_rfl) (fun _ _ _ h => h) (Or.inl ⟨by rfl, ?hb_8⟩) hHeld ?rb_8
            case hb_8 => (intro wS hSw; (try dsimp only at hSw); go_simp; all_goals with_reducible rfl)
            try simp only [Act.put, List.setIfInBounds_toArray, List.set_cons_zero, List.set_cons_succ]
            refine Reg.takeP (i := 9) (v := ?vb_9) rfl (by kernel_rfl) (by kernel_rfl) (by kernel_rfl) (by kernel_rfl) (fun _ _ _ h => h) (Or.inl ⟨by rfl, ?hb_9⟩) (fun _ => hHeld) ?rb_9
            case hb_9 => (intro wS hSw; (try dsimp only at hSw); go_simp; all_goals with_reducible rfl)
            try simp only [Act.put, List.setIfInBounds_toArray, List.set_cons_zero, List.set_cons_succ]
            refine Reg.takeP (i := 10) (v := ?vb_10) rfl (by kernel_rfl) (by kernel_rfl) (by kernel_rfl) (by kernel_rfl) (fun _ _ _ h => h) (Or.inl ⟨by rfl, ?hb_10⟩) (fun _ => hHeld) ?rb_10
            case hb_10 => (intro wS hSw; (try dsimp only at hSw); go_simp; all_goals with_reducible rfl)
            try simp only [Act.put, List.setIfInBounds_toArray, List.set_cons_zero, List.set_cons_succ]
            refine Reg.takeP (i := 11) (v := ?vb_11) rfl (by kernel_rfl) (by kernel_rfl) (by kernel_rfl) (by kernel_rfl) (fun _ _ _ h => h) (Or.inl ⟨by rfl, ?hb_11⟩) (fun _ => hHeld) ?rb_11
            case hb_11 => (intro wS hSw; (try dsimp only at hSw); go_simp; all_goals with_reducible rfl)
            try simp only [Act.put, List.setIfInBounds_toArray, List.set_cons_zero, List.set_cons_succ]
            refine Reg.takeP (i := 12) (v := ?vb_12) rfl (by kernel_rfl) (by kernel_rfl) (by kernel_rfl) (by kernel_rfl) (fun _ _ _ h => h) (Or.inl ⟨by rfl, ?hb_12⟩) (fun _ => hHeld) ?rb_12
            case hb_12 => (intro wS hSw; (try dsimp only at hSw); go_simp; all_goals with_reducible rfl)
            try simp only [Act.put, List.setIfInBounds_toArray, List.set_cons_zero, List.set_cons_succ]
            refine Reg.take (i := 13) (v := ?vb_13) rfl (by kernel_rfl) (by kernel_rfl) (by kernel_rfl) (by kernel_rfl) (fun _ _ _ h => h) (Or.inl ⟨by rfl, ?hb_13⟩) hHeld ?rb_13
            case hb_13 => (intro wS hSw; (try dsimp only at hSw); go_simp; all_goals with_reducible rfl)
            try simp only [Act.put, List.setIfInBounds_toArray, List.set_cons_zero, List.set_cons_succ]
            refine Reg.one (i := 14) rfl (by kernel_rfl) (fun K hK => ?_)
            (go_simp; refine (cmp_ents ⟨xc, xo, xn⟩ ⟨yc, yo, yn⟩ _).mono ?_; rintro e w4 ⟨rfl, hw4⟩; have Hw4 := Lib.hid hw4; clear hw4; dsimp only)
            refine hK.out _ _ (fun hF => absurd hF (by decide)) (fun _ => ?_)
            clear hK K
            try simp only [Act.put, List.setIfInBounds_toArray, List.set_cons_zero, List.set_cons_succ]
            refine Reg.takeP (i := 15) (v := ?vb_15) rfl (by kernel_rfl) (by kernel_rfl) (by kernel_rfl) (by kernel_rfl) (fun _ _ _ h => h) (Or.inl ⟨by rfl, ?hb_15⟩) (fun hF => absurd hF (by decide)) ?rb_15
            case hb_15 => (intro wS hSw; (try dsimp only at hSw); go_simp; all_goals with_reducible rfl)
            try simp only [Act.put, List.setIfInBounds_toArray, List.set_cons_zero, List.set_cons_succ]
            refine Reg.takeP (i := 16) (v := ?vb_16) rfl (by kernel_rfl) (by kernel_rfl) (by kernel_rfl) (by kernel_rfl) (fun _ _ _ h => h) (Or.inl ⟨by rfl, ?hb_16⟩) (fun hF => absurd hF (by decide)) ?rb_16
            case hb_16 => (intro wS hSw; (try dsimp only at hSw); go_simp; all_goals with_reducible rfl)
            try simp only [Act.put, List.setIfInBounds_toArray, List.set_cons_zero, List.set_cons_succ]
            refine Reg.done (by kernel_rfl) ?_ _
            go_wp2
            go_roundw
            case rel =>
              have hlx : (es2[m + 1]!) = ⟨xc, xo, xn⟩ := Hx.out
              have hly : (es2[m]!) = ⟨yc, yo, yn⟩ := Hy.out
              refine ⟨k + 1, es2, by go_num, by omega, .inl (by omega), ⟨?_, Hp2.out.perm, Hp2.out.same, ?_⟩, nearly_end Hn2.out (.inr ⟨m, rfl, by omega, by unfold key; rw [hlx, hly]; dsimp only; omega⟩)⟩
              · refine Hp2.out.row.of_block ?_
                rw [← Hw4.out]; unfold laid2
                rw [Below.heap_alloc _ _ _ (by simp; omega), Below.heap_alloc _ _ _ (by simp; omega)]; rfl
              · rw [← Hw4.out]; unfold laid2
                have hz := Hp2.out.keep.size
                exact (Hp2.out.keep.drew.alloc (by simp; omega) _).alloc (by simp; omega) _
            case measure => simp [intOf]; omega
        · obtain rfl : j = a := by omega
          have Hp2 := Lib.hid hp2
          have Hn2 := Lib.hid hn2
          clear hp2 hn2 hl2
          go_wp2_with fail
          refine Reg.start (fun _ => True) [] (by kernel_rfl) ?_ (fun hHeld => ?_)
          · first | trivial | ((try dsimp only); trivial)
          refine Reg.takeP (i := 0) (v := ?vc_0) rfl (by kernel_rfl) (by kernel_rfl) (by kernel_rfl) (by kernel_rfl) (fun _ _ _ h => h) (Or.inl ⟨by rfl, ?hc_0⟩) (fun _ => hHeld) ?rc_0
          case hc_0 => (intro wS hSw; (try dsimp only at hSw); go_simp; all_goals with_reducible rfl)
          try simp only [Act.put, List.setIfInBounds_toArray, List.set_cons_zero, List.set_cons_succ]
          refine Reg.takeP (i := 1) (v := ?vc_1) rfl (by kernel_rfl) (by kernel_rfl) (by kernel_rfl) (by kernel_rfl) (fun _ _ _ h => h) (Or.inl ⟨by rfl, ?hc_1⟩) (fun _ => hHeld) ?rc_1
          case hc_1 => (intro wS hSw; (try dsimp only at hSw); go_simp; all_goals with_reducible rfl)
          try simp only [Act.put, List.setIfInBounds_toArray, List.set_cons_zero, List.set_cons_succ]
          refine Reg.takeP (i := 2) (v := ?vc_2) rfl (by kernel_rfl) (by kernel_rfl) (by kernel_rfl) (by kernel_rfl) (fun _ _ _ h => h) (Or.inl ⟨by rfl, ?hc_2⟩) (fun _ => hHeld) ?rc_2
          case hc_2 => (intro wS hSw; (try dsimp only at hSw); go_simp; all_goals with_reducible rfl)
          try simp only [Act.put, List.setIfInBounds_toArray, List.set_cons_zero, List.set_cons_succ]
          refine Reg.takeP (i := 3) (v := ?vc_3) rfl (by kernel_rfl) (by kernel_rfl) (by kernel_rfl) (by kernel_rfl) (fun _ _ _ h => h) (Or.inl ⟨by rfl, ?hc_3⟩) (fun _ => hHeld) ?rc_3
          case hc_3 => (intro wS hSw; (try dsimp only at hSw); go_simp; all_goals with_reducible rfl)
          try simp only [Act.put, List.setIfInBounds_toArray, List.set_cons_zero, List.set_cons_succ]
          refine Reg.takeP (i := 4) (v := undef) rfl (by kernel_rfl) (by kernel_rfl) (by kernel_rfl) (by kernel_rfl) (fun _ _ _ h => h) (Or.inr ⟨by rfl, rfl⟩) (fun _ => hHeld) ?rc_4
          try simp only [Act.put, List.setIfInBounds_toArray, List.set_cons_zero, List.set_cons_succ]
          refine Reg.takeP (i := 5) (v := undef) rfl (by kernel_rfl) (by kernel_rfl) (by kernel_rfl) (by kernel_rfl) (fun _ _ _ h => h) (Or.inr ⟨by rfl, rfl⟩) (fun _ => hHeld) ?rc_5
          try simp only [Act.put, List.setIfInBounds_toArray, List.set_cons_zero, List.set_cons_succ]
          refine Reg.takeP (i := 6) (v := undef) rfl (by kernel_rfl) (by kernel_rfl) (by kernel_rfl) (by kernel_rfl) (fun _ _ _ h => h) (Or.inr ⟨by rfl, rfl⟩) (fun _ => hHeld) ?rc_6
          try simp only [Act.put, List.setIfInBounds_toArray, List.set_cons_zero, List.set_cons_succ]
          refine Reg.takeP (i := 7) (v := undef) rfl (by kernel_rfl) (by kernel_rfl) (by kernel_rfl) (by kernel_rfl) (fun _ _ _ h => h) (Or.inr ⟨by rfl, rfl⟩) (fun _ => hHeld) ?rc_7
          try simp only [Act.put, List.setIfInBounds_toArray, List.set_cons_zero, List.set_cons_succ]
          refine Reg.takeP (i := 8) (v := undef) rfl (by kernel_rfl) (by kernel_rfl) (by kernel_rfl) (by kernel_rfl) (fun _ _ _ h => h) (Or.inr ⟨by rfl, rfl⟩) (fun _ => hHeld) ?rc_8
          try simp only [Act.put, List.setIfInBounds_toArray, List.set_cons_zero, List.set_cons_succ]
          refine Reg.takeP (i := 9) (v := undef) rfl (by kernel_rfl) (by kernel_rfl) (by kernel_rfl) (by kernel_rfl) (fun _ _ _ h => h) (Or.inr ⟨by rfl, rfl⟩) (fun _ => hHeld) ?rc_9
          try simp only [Act.put, List.setIfInBounds_toArray, List.set_cons_zero, List.set_cons_succ]
          refine Reg.takeP (i := 10) (v := undef) rfl (by kernel_rfl) (by kernel_rfl) (by kernel_rfl) (by kernel_rfl) (fun _ _ _ h => h) (Or.inr ⟨by rfl, rfl⟩) (fun _ => hHeld) ?rc_10
          try simp only [Act.put, List.setIfInBounds_toArray, List.set_cons_zero, List.set_cons_succ]
          refine Reg.takeP (i := 11) (v := undef) rfl (by kernel_rfl) (by kernel_rfl) (by kernel_rfl) (by kernel_rfl) (fun _ _ _ h => h) (Or.inr ⟨by rfl, rfl⟩) (fun _ => hHeld) ?rc_11
          try simp only [Act.put, List.setIfInBounds_toArray, List.set_cons_zero, List.set_cons_succ]
          refine Reg.takeP (i := 12) (v := undef) rfl (by kernel_rfl) (by kernel_rfl) (by kernel_rfl) (by kernel_rfl) (fun _ _ _ h => h) (Or.inr ⟨by rfl, rfl⟩) (fun _ => hHeld) ?rc_12
          try simp only [Act.put, List.setIfInBounds_toArray, List.set_cons_zero, List.set_cons_succ]
          refine Reg.takeP (i := 13) (v := undef) rfl (by kernel_rfl) (by kernel_rfl) (by kernel_rfl) (by kernel_rfl) (fun _ _ _ h => h) (Or.inr ⟨by rfl, rfl⟩) (fun _ => hHeld) ?rc_13
          try simp only [Act.put, List.setIfInBounds_toArray, List.set_cons_zero, List.set_cons_succ]
          refine Reg.takeP (i := 14) (v := undef) rfl (by kernel_rfl) (by kernel_rfl) (by kernel_rfl) (by kernel_rfl) (fun _ _ _ h => h) (Or.inr ⟨by rfl, rfl⟩) (fun _ => hHeld) ?rc_14
          try simp only [Act.put, List.setIfInBounds_toArray, List.set_cons_zero, List.set_cons_succ]
          refine Reg.takeP (i := 15) (v := undef) rfl (by kernel_rfl) (by kernel_rfl) (by kernel_rfl) (by kernel_rfl) (fun _ _ _ h => h) (Or.inr ⟨by rfl, rfl⟩) (fun _ => hHeld) ?rc_15
          try simp only [Act.put, List.setIfInBounds_toArray, List.set_cons_zero, List.set_cons_succ]
          refine Reg.takeP (i := 16) (v := ?vc_16) rfl (by kernel_rfl) (by kernel_rfl) (by kernel_rfl) (by kernel_rfl) (fun _ _ _ h => h) (Or.inl ⟨by rfl, ?hc_16⟩) (fun _ => hHeld) ?rc_16
          case hc_16 => (intro wS hSw; (try dsimp only at hSw); go_simp; all_goals with_reducible rfl)
          try simp only [Act.put, List.setIfInBounds_toArray, List.set_cons_zero, List.set_cons_succ]
          refine Reg.done (by kernel_rfl) ?_ _
          go_wp2
          go_roundw
          case rel => exact ⟨k + 1, es2, by go_num, by omega, .inl (by omega), ⟨Hp2.out.row.of_block rfl, Hp2.out.perm, Hp2.out.same, Hp2.out.keep.drew⟩, nearly_end Hn2.out (.inl rfl)⟩
          case measure => simp [intOf]; omega
    · go_wp2
      refine bodyPost_end (results_none rfl _ _ _) rfl ?_
      exact ⟨rfl, es', hpart, fun p q h1 h2 h3 => hsort p q h1 h2 (by omega)⟩
end Go.Proofs.Ytadelkancmbanaa
