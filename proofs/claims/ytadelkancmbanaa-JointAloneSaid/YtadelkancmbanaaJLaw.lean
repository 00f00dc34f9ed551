/-
  The law's helpers: Ints, Next, in, is; the cells' numbers behind a New, a Move.
-/
import Derived.Test.YtadelkancmbanaaJChange2
namespace Go.Proofs.Ytadelkancmbanaa
open Go.RowKit
attribute [local go_sem ↓] Go.wp_at_zero Go.wp_at_succ

theorem lnext (n : Int) (w : World) (h0 : 0 ≤ n) (h1 : n < 2147483648) : Calls Try.prog 10 #[.int .i64 n] w fun e w' => e = .returned (.int .i64 ((n * 1103515245 + 12345) % 2147483648)) ∧ w = w' := by
  have h2 : 0 ≤ n * 1103515245 + 12345 := by omega
  have ht : (n * 1103515245 + 12345).tmod 2147483648 = (n * 1103515245 + 12345) % 2147483648 := Int.tmod_eq_emod_of_nonneg h2
  go_enter Try.func10, Try.ntmps10
  go_wp2
  go_ret
  exact ⟨by first | rfl | (rw [ht]; rfl) | (simp [ht]), rfl⟩

theorem lin_yes (a : Option Addr) (n cap : Nat) (i : Nat) (w : World) (h : i < n) : Calls Try.prog 19 #[.slice a n cap, .int .i64 i] w fun e w' => e = .returned (.bool true) ∧ w = w' := by
  have hd : decide (i < n) = true := by simpa using h
  go_enter Try.func19, Try.ntmps19
  go_wp2
  go_ret
  exact ⟨rfl, rfl⟩

theorem lin_no (a : Option Addr) (n cap : Nat) (i : Int) (w : World) (h : i < 0 ∨ (n : Int) ≤ i) : Calls Try.prog 19 #[.slice a n cap, .int .i64 i] w fun e w' => e = .returned (.bool false) ∧ w = w' := by
  by_cases h0 : 0 ≤ i
  · have hd : decide (i < (n : Int)) = false := by simp; omega
    have hd1 : decide (0 ≤ i) = true := by simpa using h0
    clear h
    go_enter Try.func19, Try.ntmps19
    go_wp2
    go_ret
    exact ⟨rfl, rfl⟩
  · have hd1 : decide (0 ≤ i) = false := by simpa using h0
    clear h
    go_enter Try.func19, Try.ntmps19
    go_wp2
    go_ret
    exact ⟨rfl, rfl⟩

theorem lis_yes (v : Int) (w : World) (h0 : 0 ≤ v) (h1 : v ≤ 1048575) : Calls Try.prog 21 #[.int .i64 v] w fun e w' => e = .returned (.bool true) ∧ w = w' := by
  go_enter Try.func21, Try.ntmps21
  go_wp2
  go_ret
  exact ⟨rfl, rfl⟩

theorem lis_no (v : Int) (w : World) (h : v < 0 ∨ 1048575 < v) : Calls Try.prog 21 #[.int .i64 v] w fun e w' => e = .returned (.bool false) ∧ w = w' := by
  by_cases h0 : 0 ≤ v
  · have hd : decide (v ≤ 1048575) = false := by simp; omega
    have hd1 : decide (0 ≤ v) = true := by simpa using h0
    clear h
    go_enter Try.func21, Try.ntmps21
    go_wp2
    go_ret
    exact ⟨rfl, rfl⟩
  · have hd1 : decide (0 ≤ v) = false := by simpa using h0
    clear h
    go_enter Try.func21, Try.ntmps21
    go_wp2
    go_ret
    exact ⟨rfl, rfl⟩

set_option maxRecDepth 100000 in
set_option maxHeartbeats 400000 in
theorem ints_yes (s o cap t p cap' : Nat) (l : List Int) (w : World) (h1 : IntsAt s o l w) (h2 : IntsAt t p l w) (hs : s < w.heap.size) (ht : t < w.heap.size) (hl : l.length ≤ 1000) :
    Calls Try.prog 9 #[.slice (some ⟨s, o, none⟩) l.length cap, .slice (some ⟨t, p, none⟩) l.length cap'] w fun e w' => e = .returned (.bool true) ∧ Below w.heap.size w w' := by
  have H1 := Lib.hid h1
  have H2 := Lib.hid h2
  clear h1 h2
  go_enter Try.func9, Try.ntmps9
  go_wp2
  go_loopw [5] (fun i wr => ∃ k : Nat, k ≤ l.length ∧ i = .int .i64 k ∧ Below w.heap.size w wr) (fun i _ => l.length - (intOf i).toNat)
  case atStart => exact ⟨0, Nat.zero_le _, rfl, Below.refl _ _⟩
  case round =>
    obtain ⟨k, hk, rfl, hbel⟩ := hrel
    have Hbel := Lib.hid hbel
    by_cases hlt : k < l.length
    · have c0 := (hbel.cell (p := ⟨s, o + k, none⟩) hs).trans (H1.out k hlt)
      have c1 := (hbel.cell (p := ⟨t, p + k, none⟩) ht).trans (H2.out k hlt)
      generalize l.getD k 0 = x at c0 c1
      clear hbel
      go_wp2_with fail
      refine wp_region_still_tail 8 (by kernel_rfl) (by kernel_rfl) ?_
      simp only [List.take_succ_cons, List.take_zero, List.drop_succ_cons, List.drop_zero]
      change wpStill _ _ (World.drew _) _ _ _
      repeat (first | (refine wpStill_step (fun K hK => ?_); go_simp; refine hK _ ?_; clear hK K))
      refine wpStill_nil ?_
      change wpList _ _ _ _ _ (World.drew _)
      go_wp2
      go_roundw
      case rel => exact ⟨k + 1, by omega, by go_num, Hbel.out.drew⟩
      case measure => simp [intOf]; omega
    · have : k = l.length := by omega
      subst this
      clear hbel
      go_wp2
      go_ret
      exact ⟨rfl, Hbel.out⟩

theorem newW_nums' (zs : List Int) : nums (newW zs) = zs := by
  refine list_ext_getD (by simp [nums, newW_length]) fun i hi => ?_
  have hi' : i < zs.length := by simpa [nums, newW_length] using hi
  rw [nums_get _ _ (by rw [newW_length]; exact hi'), newW_get _ _ hi']
  unfold num; omega

theorem moved_length (ws : List Int) (f t : Nat) (n : Int) : (moved ws f t n).length = ws.length := by simp [moved]

theorem moved_get (ws : List Int) (f t i : Nat) (n : Int) (hf : f < ws.length) (ht : t < ws.length) : (moved ws f t n).getD i 0 = if t = i then nextWord (wd ws t) (num (wd ws t) + n) else if f = i then nextWord (wd ws f) (num (wd ws f) - n) else ws.getD i 0 := by
  unfold moved
  rw [getD_set_eq _ _ _ _ (by simpa using ht), getD_set_eq _ _ _ _ hf]

theorem moved_words (ws : List Int) (f t : Nat) (n : Int) (hw : Words ws) (hf : f < ws.length) (ht : t < ws.length) (hft : f ≠ t) (h0 : 0 ≤ n) (h1 : n ≤ num (wd ws f)) (h2 : num (wd ws t) + n ≤ 1048575) : Words (moved ws f t n) := by
  intro i hi
  rw [moved_length] at hi
  rw [moved_get ws f t i n hf ht]
  have hnf := num_bd (wd ws f) (hw f hf).1 (hw f hf).2
  have hnt := num_bd (wd ws t) (hw t ht).1 (hw t ht).2
  split
  · exact ⟨(nextWord_bd _ _ (by omega) h2).1, (nextWord_bd _ _ (by omega) h2).2.1⟩
  · split
    · exact ⟨(nextWord_bd _ _ (by omega) (by omega)).1, (nextWord_bd _ _ (by omega) (by omega)).2.1⟩
    · exact hw i hi

/-- A list of numbers behind a Move. -/
def movedL (l : List Int) (f t : Nat) (n : Int) : List Int := (l.set f (l.getD f 0 - n)).set t (l.getD t 0 + n)

theorem moved_nums (ws : List Int) (f t : Nat) (n : Int) (hw : Words ws) (hf : f < ws.length) (ht : t < ws.length) (hft : f ≠ t) (h0 : 0 ≤ n) (h1 : n ≤ num (wd ws f)) (h2 : num (wd ws t) + n ≤ 1048575) : nums (moved ws f t n) = movedL (nums ws) f t n := by
  have hln : (nums ws).length = ws.length := by simp [nums]
  have hnf := num_bd (wd ws f) (hw f hf).1 (hw f hf).2
  have hnt := num_bd (wd ws t) (hw t ht).1 (hw t ht).2
  refine list_ext_getD (by simp [nums, moved_length, movedL]) fun i hi => ?_
  have hi' : i < ws.length := by simpa [nums, moved_length] using hi
  rw [nums_get _ _ (by rw [moved_length]; exact hi'), moved_get ws f t i n hf ht]
  unfold movedL
  rw [getD_set_eq _ _ _ _ (by simp [nums]; exact ht), getD_set_eq _ _ _ _ (by rw [hln]; exact hf), nums_get _ _ hf, nums_get _ _ ht, nums_get _ _ hi']
  split
  · exact (nextWord_bd _ _ (by omega) h2).2.2
  · split
    · exact (nextWord_bd _ _ (by omega) (by omega)).2.2
    · rfl
end Go.Proofs.Ytadelkancmbanaa
