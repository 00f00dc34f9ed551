/-
  New: whole.
-/
import Derived.Test.YtadelkancmbanaaJNew
namespace Go.Proofs.Ytadelkancmbanaa
open Go.RowKit

theorem infoA : (Try.prog.info? 63).map (fun i => (i.zero, i.size, i.bytes)) = some (some (.agg #[.int .i64 0]), 1, 8) := by kernel_rfl

/-- A new Cells' own cells. -/
noncomputable def cellsObj (s : Value) : Array Value := Try.zeroCells59.setIfInBounds 0 s
theorem cellsObj_size (s : Value) : (cellsObj s).size = 8201 := by rw [cellsObj, Array.size_setIfInBounds]; exact Try.zeroCells59_size
theorem zero_made : Try.zeroCells59[8193]? = some (.int .i64 0) := by kernel_rfl
theorem cellsObj_head (s : Value) : (cellsObj s)[0]? = some s := by
  rw [cellsObj, Array.getElem?_setIfInBounds, if_pos rfl, if_pos (by rw [Try.zeroCells59_size]; omega)]
theorem cellsObj_made (s : Value) : (cellsObj s)[8193]? = some (.int .i64 0) := by
  rw [cellsObj, Array.getElem?_setIfInBounds, if_neg (by omega)]; exact zero_made
theorem cellsObj_some (s : Value) (i : Nat) (hi : i < 8201) : ∃ u, (cellsObj s)[i]? = some u :=
  ⟨_, Array.getElem?_eq_getElem (by rw [cellsObj_size]; exact hi)⟩

/-- The words as they are filled in. -/
def fillW (zs : List Int) : Nat → List Int
  | 0 => List.replicate zs.length 0
  | k + 1 => (fillW zs k).set k (zs.getD k 0 * 1099511627776)
theorem fillW_length (zs : List Int) (k : Nat) : (fillW zs k).length = zs.length := by
  induction k with
  | zero => simp [fillW]
  | succ k ih => simp [fillW, ih]
theorem fillW_get (zs : List Int) (k i : Nat) (hk : k ≤ zs.length) (hi : i < zs.length) : (fillW zs k).getD i 0 = if i < k then zs.getD i 0 * 1099511627776 else 0 := by
  induction k with
  | zero => simp [fillW, List.getD_eq_getElem?_getD, List.getElem?_replicate, hi]
  | succ k ih =>
    rw [fillW, getD_set_eq _ _ _ _ (by rw [fillW_length]; omega), ih (by omega)]
    by_cases e : k = i
    · subst e; rw [if_pos rfl, if_pos (by omega)]
    · rw [if_neg e]
      by_cases h : i < k
      · rw [if_pos h, if_pos (by omega)]
      · rw [if_neg h, if_neg (by omega)]

/-- The words of new cells. -/
def newW (zs : List Int) : List Int := fillW zs zs.length
theorem newW_length (zs : List Int) : (newW zs).length = zs.length := fillW_length _ _
theorem newW_get (zs : List Int) (i : Nat) (hi : i < zs.length) : (newW zs).getD i 0 = zs.getD i 0 * 1099511627776 := by
  rw [newW, fillW_get _ _ _ (Nat.le_refl _) hi, if_pos hi]
theorem newW_words (zs : List Int) (h : ∀ i, i < zs.length → Lies (zs.getD i 0)) : Words (newW zs) := by
  intro i hi
  rw [newW_length] at hi
  rw [newW_get _ _ hi]
  obtain ⟨a, b⟩ := h i hi
  omega
theorem newW_nums (zs : List Int) (h : ∀ i, i < zs.length → Lies (zs.getD i 0)) : nums (newW zs) = zs := by
  refine list_ext_getD (by simp [nums, newW_length]) fun i hi => ?_
  have hi' : i < zs.length := by simpa [nums, newW_length] using hi
  rw [nums_get _ _ (by rw [newW_length]; exact hi'), newW_get _ _ hi']
  unfold num
  omega

def NewEnd (zs : List Int) (w : World) (e : Ending) (w' : World) : Prop :=
  ∃ b c, e = .returned (.tuple #[.pointer (some ⟨b, 0, none⟩), .int .i64 0]) ∧ JRaw b c (newW zs) 0 w' ∧ Below w.heap.size w w' ∧ w.heap.size ≤ b ∧ w.heap.size ≤ c

theorem new_few (a : Option Addr) (cap : Nat) (w : World) : Calls Try.prog 6 #[.slice a 0 cap] w fun e w' => e = .returned (.tuple #[.pointer none, .int .i64 261]) ∧ w = w' := by
  go_enter Try.func6, Try.ntmps6
  go_wp2
  go_ret2
  exact ⟨rfl, rfl⟩

theorem new_many (a : Option Addr) (n cap : Nat) (w : World) (_h : 64 < n) (h2 : n ≤ 1000) : Calls Try.prog 6 #[.slice a n cap] w fun e w' => e = .returned (.tuple #[.pointer none, .int .i64 261]) ∧ w = w' := by
  have h1 : ((n : Int) == 0) = false := by rw [beq_eq_false_iff_ne]; omega
  have h3 : decide (64 < (n : Int)) = true := by simp; omega
  go_enter Try.func6, Try.ntmps6
  go_wp2
  go_ret2
  exact ⟨rfl, rfl⟩

theorem new_value (s o cap : Nat) (zs : List Int) (w : World) (h : IntsAt s o zs w) (h1 : 1 ≤ zs.length) (h2 : zs.length ≤ 64) (hb : allLie zs = false) : Calls Try.prog 6 #[.slice (some ⟨s, o, none⟩) zs.length cap] w fun e w' => e = .returned (.tuple #[.pointer none, .int .i64 263]) ∧ w = w' := by
  have h3 : ((zs.length : Int) == 0) = false := by rw [beq_eq_false_iff_ne]; omega
  have h4 : decide (64 < (zs.length : Int)) = false := by simp; omega
  have hc := contains_ints s o cap zs w h (by omega)
  rw [hb] at hc
  have Hc := Lib.hid hc
  clear h hb hc
  go_enter Try.func6, Try.ntmps6
  go_wp2_with (go_at_call 14; refine Hc.out.mono ?_; rintro e w' ⟨rfl, rfl⟩)
  go_ret2
  exact ⟨rfl, rfl⟩

set_option maxRecDepth 100000 in
set_option maxHeartbeats 1000000 in
theorem new_yes (s o cap : Nat) (zs : List Int) (w : World) (h : IntsAt s o zs w) (h1 : 1 ≤ zs.length) (h2 : zs.length ≤ 64) (hb : allLie zs = true) (hs : s < w.heap.size) : Calls Try.prog 6 #[.slice (some ⟨s, o, none⟩) zs.length cap] w (NewEnd zs w) := by
  have h3 : ((zs.length : Int) == 0) = false := by rw [beq_eq_false_iff_ne]; omega
  have h4 : decide (64 < (zs.length : Int)) = false := by simp; omega
  have hc := contains_ints s o cap zs w h (by omega)
  have hl := (allLie_iff zs).1 hb
  rw [hb] at hc
  obtain ⟨ia, hia, za0, za1, za2⟩ := info_parts infoA
  obtain ⟨w1, hrun, hown, hgrow⟩ := run_make_full (P := Try.prog) w w.heap.size 48 63 ia _ 1 Try.underlying48 hia za0 za1 .i64 .i64 zs.length (by rw [za2]; omega) (by unfold maxLen; omega) (Nat.le_refl _)
  have hb1 : Below w.heap.size w w1 := (Below.refl _ _).grown hgrow (Nat.le_refl _) (fun k hk => by cases hk)
  have hsz : w.heap.size < w1.heap.size := (hown.lt w.heap.size rfl).2
  have hi1 : IntsAt s o zs w1 := fun i hi => (hb1.cell (p := ⟨s, o + i, none⟩) hs).trans (h i hi)
  obtain ⟨W, hW⟩ : ∃ W, W = w1.alloc (.cells (Try.zeroCells59.setIfInBounds 0 (.slice (some ⟨w.heap.size, 0, none⟩) zs.length zs.length)) 59) := ⟨_, rfl⟩
  have bW : W.heap[w1.heap.size]? = some (.cells (cellsObj (.slice (some ⟨w.heap.size, 0, none⟩) zs.length zs.length)) 59 (0, 0)) := by
    rw [hW]
    show (w1.heap.push _)[w1.heap.size]? = _
    rw [Array.getElem?_push, if_pos rfl]
    rfl
  have cW : ∀ i, W.cell? ⟨w1.heap.size, i, none⟩ = (cellsObj (.slice (some ⟨w.heap.size, 0, none⟩) zs.length zs.length))[i]? := fun i => by
    simp [World.cell?, bW]
  have fW : ∀ i, W.frozen? ⟨w1.heap.size, i, none⟩ = false := fun i => by simp [World.frozen?, bW]
  have kW : Below w.heap.size w W := by rw [hW]; exact hb1.alloc (by omega) _
  have iW : IntsAt s o zs W := fun i hi => by rw [hW, old_cell _ _ _ (by show s < _; omega)]; exact hi1 i hi
  have jW : JRaw w1.heap.size w.heap.size (fillW zs 0) 0 W := by
    refine ⟨by omega, ?_, fun i hi => ?_, fun d hd => ⟨fW _, by rw [cW]; exact cellsObj_some _ _ (by omega)⟩, ?_, fW _, ?_⟩
    · rw [fillW_length, cW]; exact cellsObj_head _
    · rw [fillW_length] at hi
      rw [fillW_get _ _ _ (Nat.zero_le _) hi, if_neg (by omega), hW, old_cell _ _ _ hsz, old_frozen _ _ _ hsz]
      refine ⟨?_, hown.frozenAt i⟩
      rw [hown.cellAt i (by omega)]
      have e : (madeCells (Value.agg #[.int .i64 0]).cells (zs.length * 1)).toList = List.replicate (zs.length * 1) (.int .i64 0) := toList_madeCells_one _ _
      rw [e, List.getElem?_replicate, if_pos (by omega)]
    · rw [cW]; exact cellsObj_made _
    · rw [fillW_length]; exact ⟨h1, h2⟩
  have HW := Lib.hid jW
  have Hc := Lib.hid hc
  have HkW := Lib.hid kW
  have HiW := Lib.hid iW
  have Hl := Lib.hid hl
  have HWe := Lib.hid hW
  have Hi := Lib.hid h
  clear h hb hc hl hown hgrow hb1 hi1 bW cW fW kW iW jW hW
  go_enter Try.func6, Try.ntmps6
  go_wp2_with (go_at_call 14; refine Hc.out.mono ?_; rintro e w' ⟨rfl, rfl⟩)

  rw [← HWe.out]
  go_loopw [28] (fun i wr => ∃ k : Nat, k ≤ zs.length ∧ i = .int .i64 k ∧ JRaw w1.heap.size w.heap.size (fillW zs k) 0 wr ∧ Below w.heap.size w wr) (fun i _ => zs.length - (intOf i).toNat)
  case atStart => exact ⟨0, Nat.zero_le _, rfl, HW.out, HkW.out⟩
  case round =>
    obtain ⟨k, hk, rfl, hj, hkp⟩ := hrel
    by_cases hlt : k < zs.length
    · have hc := (hkp.cell (p := ⟨s, o + k, none⟩) hs).trans (Hi.out k hlt)
      obtain ⟨g0, g1⟩ := Hl.out k hlt
      generalize hz : zs.getD k 0 = z at *
      have hlf : k < (fillW zs k).length := by rw [fillW_length]; exact hlt
      have hdr := hj.hdr
      rw [fillW_length] at hdr
      obtain ⟨hck, hfk⟩ := hj.word k hlf
      have Hset := Lib.hid (hj.set (y := z * 1099511627776) hlf)
      have Hz := Lib.hid hz
      have Hj := Lib.hid hj
      have Hkp := Lib.hid hkp
      have Hck := Lib.hid hck
      clear hj hkp hlf hz hck
      go_wp2_with (first | (go_at_call 17; ((with_reducible refine (pack_zero _ _ g0 g1).mono ?_); rintro e w' ⟨rfl, rfl⟩)) | (go_at_call 18; refine (i64store _ _ _ _ _ Hck.out hfk).mono ?_; rintro e w' ⟨rfl, rfl⟩))
      go_roundw
      case rel =>
        refine ⟨k + 1, by omega, by go_num, ?_, Hkp.out.setCell (Nat.le_refl _) _⟩
        have := Hset.out
        rw [← Hz.out] at this ⊢
        exact this
      case measure => simp [intOf]; omega
    · have : k = zs.length := by omega
      subst this
      go_wp2
      go_ret2
      exact ⟨_, _, rfl, hj, hkp, by omega, Nat.le_refl _⟩
end Go.Proofs.Ytadelkancmbanaa
