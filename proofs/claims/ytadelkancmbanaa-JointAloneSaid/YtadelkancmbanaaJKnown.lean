/-
  The law's known cases.
-/
import Derived.Test.YtadelkancmbanaaJDoesL3
namespace Go.Proofs.Ytadelkancmbanaa
open Go.RowKit
attribute [local go_sem ↓] Go.wp_at_zero Go.wp_at_succ

theorem ints2 (w : World) (x y : Int) (t : TypeId) (n : Nat) (hn : n = w.heap.size) : IntsAt n 0 [x, y] (w.alloc (.cells #[.int .i64 x, .int .i64 y] t)) := by
  subst hn
  intro i hi
  rw [World.cell?_alloc_new]
  match i, hi with
  | 0, _ => rfl
  | 1, _ => rfl

theorem aents (w : World) (es : List AEnt) (cs : Array Value) (t : TypeId) (n : Nat) (hn : n = w.heap.size) (hc : cs.toList = aCells es) : AEntsAt n 0 es (w.alloc (.cells cs t)) := by
  subst hn
  intro k hk
  obtain ⟨a, b, c⟩ := aCells_get es k hk
  rw [← hc] at a b c
  rw [World.cell?_alloc_new, World.cell?_alloc_new, World.cell?_alloc_new]
  simp only [Nat.zero_add]
  rw [Array.getElem?_toList] at a b c
  exact ⟨a, b, c⟩

theorem keep_own {b c B : Nat} {a w w' : World} (h : Keep (fun _ => False) B a w) (hk : Keep (fun k => k = b ∨ k = c) w.heap.size w w') (hB : B ≤ w.heap.size) (hb : B ≤ b) (hc : B ≤ c) : Keep (fun _ => False) B a w' :=
  h.trans ((hk.mono hB).weaken fun k hk' e => by rcases e with e | e <;> omega)

set_option maxRecDepth 100000 in
set_option maxHeartbeats 3200000 in
theorem known_any (w : World) : Calls Try.prog 5 #[] w fun e w' => e = .returned (.bool true) ∧ Below w.heap.size w w' := by
  have hnew := new_yes w.heap.size 0 2 [5, 7] (w.alloc (.cells #[.int .i64 5, .int .i64 7] 3)) (ints2 w 5 7 _ _ rfl) (by decide) (by decide) (by decide) (by simp)
  have Hnew := Lib.hid hnew
  clear hnew
  go_enter Try.func5, Try.ntmps5
  go_wp2_with fail
  refine Hnew.out.mono ?_
  rintro e w1 ⟨b, c, rfl, hj1, hb1, hgb, hgc⟩
  have k1 : Keep (fun _ => False) w.heap.size w w1 := ((Keep.refl _ _ _).alloc (Nat.le_refl _) _).trans ((Keep.of_below hb1).mono (by simp))
  simp only [World.size_alloc] at hgb hgc
  have hw1 : Words (newW [5, 7]) := newW_words _ (by
    intro i hi
    match i, hi with
    | 0, _ => exact ⟨by decide, by decide⟩
    | 1, _ => exact ⟨by decide, by decide⟩)
  have n1 : nums (newW [5, 7]) = [5, 7] := newW_nums' _
  have l1 : (newW [5, 7]).length = 2 := newW_length _
  generalize newW [5, 7] = ws1 at *
  have a0 : num (wd ws1 0) = 5 := by have := nums_get ws1 0 (by omega); rw [n1] at this; exact this.symm
  have a1 : num (wd ws1 1) = 7 := by have := nums_get ws1 1 (by omega); rw [n1] at this; exact this.symm
  have hmv := (move_any b c 0 0 1 2 ws1 w1 hj1 hw1 (by decide) (by omega) (by omega) (by decide) (by decide) (by decide)).mono (fun e w' hE => hE.yes (by rw [a0]; decide) (by rw [a1]; decide))
  have hw2 := moved_words ws1 0 1 2 hw1 (by omega) (by omega) (by decide) (by decide) (by rw [a0]; decide) (by rw [a1]; decide)
  have n2 : nums (moved ws1 0 1 2) = [3, 9] := by rw [moved_nums ws1 0 1 2 hw1 (by omega) (by omega) (by decide) (by decide) (by rw [a0]; decide) (by rw [a1]; decide), n1]; rfl
  have l2 : (moved ws1 0 1 2).length = 2 := by rw [moved_length]; exact l1
  have Hmv := Lib.hid hmv
  have K1 := Lib.hid k1
  clear hmv k1 hj1 hb1
  go_wp2_with fail
  refine Hmv.out.mono ?_
  rintro e w2 ⟨rfl, hj2, hk2⟩
  have k2 := keep_own K1.out hk2 K1.out.size (by omega) (by omega)
  generalize moved ws1 0 1 2 = ws2 at *
  have hlk := look_any b c 1 ws2 w2 hj2 hw2 (by decide)
  have Hlk := Lib.hid hlk
  have K2 := Lib.hid k2
  have Hlt2 := Lib.hid hj2.lt
  clear hlk k2 hj2 hk2
  go_wp2_with fail
  refine Hlk.out.mono ?_
  rintro e w3 ⟨ov, rfl, hown, hj3, hk3⟩
  have k3 := keep_own K2.out hk3 K2.out.size (by omega) (by omega)
  obtain ⟨g, gc, rfl, hg1, hg2⟩ := hown.form (by omega)
  rw [l2, n2] at hown
  have hi3 : IntsAt g 0 [3, 9] w3 := fun i hi => by
    rw [Nat.zero_add, hown.cellAt i (by simp at hi; omega)]
    match i, hi with
    | 0, _ => rfl
    | 1, _ => rfl
  have hw3 := looked_words ws2 hw2
  have n3 : nums (looked ws2) = [3, 9] := by rw [looked_nums ws2 hw2, n2]
  have l3 : (looked ws2).length = 2 := by rw [looked_length]; exact l2
  generalize looked ws2 = ws3 at *
  have hch := change_any b c 2 w3.heap.size 0 2 ws3 [⟨0, 3, 1⟩, ⟨1, 9, 1⟩] (w3.alloc (.cells #[.int .i64 0, .int .i64 3, .int .i64 1, .int .i64 1, .int .i64 9, .int .i64 1] 43)) (hj3.alloc _) hw3 (by decide) (aents w3 _ _ _ _ rfl rfl) (by simp) (by decide) (by decide) (sortOk_small 2 (by decide))
  have Hch := Lib.hid hch
  have K3 := Lib.hid k3
  have Hi3 := Lib.hid hi3
  clear hch k3 hj3 hk3 hown hi3
  go_wp2_with fail
  refine Hch.out.mono ?_
  rintro e w4 hE
  have gc1 : goodCells [⟨0, 3, 1⟩, ⟨1, 9, 1⟩] ws3.length := by rw [l3]; exact ⟨by simp, by simp⟩
  have gl1 : allLies [⟨0, 3, 1⟩, ⟨1, 9, 1⟩] := by simp [allLies, AEnt.lies, Lies]
  have b0 : num (wd ws3 0) = 3 := by have := nums_get ws3 0 (by omega); rw [n3] at this; exact this.symm
  have b1 : num (wd ws3 1) = 9 := by have := nums_get ws3 1 (by omega); rw [n3] at this; exact this.symm
  have gf1 : allFit ws3 [⟨0, 3, 1⟩, ⟨1, 9, 1⟩] := by
    intro x hx
    simp only [List.mem_cons, List.not_mem_nil, or_false] at hx
    rcases hx with rfl | rfl
    · exact b0
    · exact b1
  obtain ⟨rfl, ws4, hC, hj4⟩ := hE.yes gc1 gl1 gf1
  have hk4 := hE.keep
  have hs3 := K3.out.size
  have k4 := keep_own (K3.out.alloc hs3 _) hk4 (by simp; omega) (by omega) (by omega)
  have l4 : ws4.length = 2 := by rw [hC.length]; exact l3
  have c0 : num (wd ws4 0) = 1 := hC.at_ ⟨0, 3, 1⟩ (by simp)
  have c1 : num (wd ws4 1) = 1 := hC.at_ ⟨1, 9, 1⟩ (by simp)
  have hw4 := hC.words
  have hch2 := change_any b c 3 w4.heap.size 0 1 ws4 [⟨0, 3, 4⟩] (w4.alloc (.cells #[.int .i64 0, .int .i64 3, .int .i64 4] 43)) (hj4.alloc _) hw4 (by decide) (aents w4 _ _ _ _ rfl rfl) (by simp) (by decide) (by decide) (sortOk_small 1 (by decide))
  have Hch2 := Lib.hid hch2
  have K4 := Lib.hid k4
  have Hk4 := Lib.hid hk4
  have hlt4 := hj4.lt
  clear hch2 k4 hk4 hj4 hE gc1 gl1 gf1 hC
  go_wp2_with fail
  refine Hch2.out.mono ?_
  rintro e w5 hE
  have gc1 : goodCells [⟨0, 3, 4⟩] ws4.length := by rw [l4]; exact ⟨by simp, by simp⟩
  have gl1 : allLies [⟨0, 3, 4⟩] := by simp [allLies, AEnt.lies, Lies]
  have gf1 : ¬ allFit ws4 [⟨0, 3, 4⟩] := fun h => by
    have h1 : num (wd ws4 0) = 3 := h ⟨0, 3, 4⟩ (by simp)
    omega
  obtain ⟨rfl, hj5⟩ := hE.other gc1 gl1 gf1
  have hk5 := hE.keep
  have hs4 := K4.out.size
  have k5 := keep_own (K4.out.alloc hs4 _) hk5 (by simp; omega) (by omega) (by omega)
  have hs34 := Hk4.out.size
  have hs45 := hk5.size
  simp only [World.size_alloc] at hs34 hs45
  have hgne : g ≠ b ∧ g ≠ c := by have := Hlt2.out; omega
  have hi5 : IntsAt g 0 [3, 9] w5 := fun i hi => by
    rw [World.cell?_of_block (w := w3) ?_]
    · exact Hi3.out i hi
    · have e1 := hk5.block g (by simp; omega) (fun e => by rcases e with e | e; exact hgne.1 e; exact hgne.2 e)
      have e2 := Hk4.out.block g (by simp; omega) (fun e => by rcases e with e | e; exact hgne.1 e; exact hgne.2 e)
      rw [e1, Below.heap_alloc _ _ _ (by omega), e2, Below.heap_alloc _ _ _ (by omega)]
  have hin := ints_yes g 0 gc w5.heap.size 0 2 [3, 9] (w5.alloc (.cells #[.int .i64 3, .int .i64 9] 3)) (fun i hi => (old_cell _ _ _ (by show g < _; omega)).trans (hi5 i hi)) (ints2 w5 3 9 _ _ rfl) (by simp; omega) (by simp) (by decide)
  have Hin := Lib.hid hin
  have K5 := Lib.hid k5
  have Hj5 := Lib.hid hj5
  clear hin k5 hk5 hj5 hE gc1 gl1 gf1 hi5
  go_wp2_with fail
  refine Hin.out.mono ?_
  rintro e w6 ⟨rfl, hb6⟩
  have hs5 := K5.out.size
  have k6 : Keep (fun _ => False) w.heap.size w w6 := (K5.out.alloc hs5 _).trans ((Keep.of_below hb6).mono (by simp; omega))
  have hj6 : JRaw b c ws4 3 w6 := (Hj5.out.alloc _).of_blocks (hb6.block b (by have := Hj5.out.lt; simp; omega)) (hb6.block c (by have := Hj5.out.lt; simp; omega))
  have hrd := read_yes b c 1 3 ws4 (wd ws4 1) w6 hj6 hw4 (by omega) rfl
  unfold num at c1
  rw [c1] at hrd
  have hmv2 := (move_any b c 3 0 1 2 ws4 w6 hj6 hw4 (by decide) (by omega) (by omega) (by decide) (by decide) (by decide)).mono (fun e w' hE => hE.less (by rw [c0]; decide))
  have Hrd := Lib.hid hrd
  have Hmv2 := Lib.hid hmv2
  have K6 := Lib.hid k6
  clear hrd hmv2 k6 hj6 hb6
  go_wp2_with fail
  refine Hrd.out.mono ?_
  rintro e w' ⟨rfl, rfl⟩
  go_wp2_with fail
  refine Hmv2.out.mono ?_
  rintro e w7 ⟨rfl, hj7, hk7⟩
  have k7 := Lib.hid (keep_own K6.out hk7 K6.out.size (by omega) (by omega))
  clear hj7 hk7
  go_wp2
  go_ret
  exact ⟨rfl, k7.out.below⟩
end Go.Proofs.Ytadelkancmbanaa
