/-
  New.
-/
import Derived.Test.YtadelkancmbanaaJMove2
namespace Go.Proofs.Ytadelkancmbanaa
open Go.RowKit

/-- A slice of numbers lies in block s, from o on. -/
def IntsAt (s o : Nat) (zs : List Int) (w : World) : Prop := ∀ i, i < zs.length → w.cell? ⟨s, o + i, none⟩ = some (.int .i64 (zs.getD i 0))
/-- What a cell can hold. -/
def Lies (z : Int) : Prop := 0 ≤ z ∧ z ≤ 1048575

theorem new1_good (z : Int) (w : World) (h : Lies z) : Calls Try.prog 15 #[.int .i64 z] w fun e w' => e = .returned (.bool false) ∧ w = w' := by
  obtain ⟨h0, h1⟩ := h
  go_enter Try.func15, Try.ntmps15
  go_wp2_with (first | (go_at_call 16; ((with_reducible refine (lies_yes _ _ h0 h1).mono ?_); rintro e w' ⟨rfl, rfl⟩)))
  go_ret
  exact ⟨rfl, rfl⟩

theorem new1_bad (z : Int) (w : World) (h : ¬ Lies z) : Calls Try.prog 15 #[.int .i64 z] w fun e w' => e = .returned (.bool true) ∧ w = w' := by
  have hh : z < 0 ∨ 1048575 < z := by unfold Lies at h; omega
  have H := Lib.hid hh
  clear h hh
  go_enter Try.func15, Try.ntmps15
  go_wp2_with (first | (go_at_call 16; ((with_reducible refine (lies_no _ _ H.out).mono ?_); rintro e w' ⟨rfl, rfl⟩)))
  go_ret
  exact ⟨rfl, rfl⟩

theorem callNew1 (cap : Array Value) : ∀ w, (callFunc 15 cap).run Try.prog w = .ok (.enter 15 cap) w := fun w => by kernel_rfl

/-- The place of the first number that no cell can hold, from -1 on where there is none. -/
def badAt (zs : List Int) (r : Int) : Prop := (r = -1 ∧ ∀ i, i < zs.length → Lies (zs.getD i 0)) ∨ (∃ k : Nat, r = k ∧ k < zs.length ∧ ¬ Lies (zs.getD k 0))
def IndexEnd (zs : List Int) (w : World) (e : Ending) (w' : World) : Prop := ∃ r : Int, e = .returned (.int .i64 r) ∧ badAt zs r ∧ w = w'

set_option maxHeartbeats 400000 in
theorem index_ints (s o cap : Nat) (zs : List Int) (w : World) (h : IntsAt s o zs w) (hn : zs.length ≤ 1000) : Calls Try.prog 36 #[.slice (some ⟨s, o, none⟩) zs.length cap, .func (.func 15) #[] #[]] w (IndexEnd zs w) := by
  have H := Lib.hid h
  clear h
  have hcall := callNew1
  go_enter Try.func36, Try.ntmps36
  go_wp2
  go_loop [8] (fun i => ∃ k : Nat, k ≤ zs.length ∧ i = .int .i64 k ∧ ∀ j, j < k → Lies (zs.getD j 0)) (fun i => zs.length - (intOf i).toNat)
  case atStart => exact ⟨0, Nat.zero_le _, rfl, fun j hj => by omega⟩
  case round =>
    obtain ⟨k, hk, rfl, hgood⟩ := hrel
    have Hg := Lib.hid hgood
    clear hgood
    by_cases hlt : k < zs.length
    · have hc := H.out k hlt
      generalize hz : zs.getD k 0 = z at hc
      have Hz := Lib.hid hz
      clear hz
      by_cases hl : Lies z
      · have Hl := Lib.hid hl
        clear hl
        go_wp2_with (first | (go_at_call 15; ((with_reducible refine (new1_good _ _ Hl.out).mono ?_); rintro e w' ⟨rfl, rfl⟩)))
        go_round
        case rel => exact ⟨k + 1, by omega, by go_num, fun j hj => by
          by_cases e : j = k
          · subst e; rw [Hz.out]; exact Hl.out
          · exact Hg.out j (by omega)⟩
        case measure => simp [intOf]; omega
      · have Hl := Lib.hid hl
        clear hl
        go_wp2_with (first | (go_at_call 15; ((with_reducible refine (new1_bad _ _ Hl.out).mono ?_); rintro e w' ⟨rfl, rfl⟩)))
        go_ret
        exact ⟨k, rfl, .inr ⟨k, rfl, hlt, by rw [Hz.out]; exact Hl.out⟩, rfl⟩
    · go_wp2
      go_ret
      exact ⟨-1, rfl, .inl ⟨rfl, fun i hi => Hg.out i (by omega)⟩, rfl⟩

/-- Are all of them such as cells can hold? -/
def allLie (zs : List Int) : Bool := zs.all fun z => decide (0 ≤ z ∧ z ≤ 1048575)

theorem allLie_iff (zs : List Int) : allLie zs = true ↔ ∀ i, i < zs.length → Lies (zs.getD i 0) := by
  unfold allLie Lies
  rw [List.all_eq_true]
  constructor
  · intro h i hi
    have := h (zs[i]) (List.getElem_mem hi)
    simpa [List.getD_eq_getElem?_getD, hi] using this
  · intro h z hz
    obtain ⟨i, hi, rfl⟩ := List.getElem_of_mem hz
    have := h i hi
    simpa [List.getD_eq_getElem?_getD, hi] using this

theorem contains_ints (s o cap : Nat) (zs : List Int) (w : World) (h : IntsAt s o zs w) (hn : zs.length ≤ 1000) : Calls Try.prog 14 #[.slice (some ⟨s, o, none⟩) zs.length cap, .func (.func 15) #[] #[]] w fun e w' => e = .returned (.bool (!allLie zs)) ∧ w = w' := by
  have H := Lib.hid h
  clear h
  go_enter Try.func14, Try.ntmps14
  go_wp2_with fail
  refine (index_ints s o cap zs w H.out hn).mono ?_
  rintro e w' ⟨r, rfl, hb, rfl⟩
  have hd : decide (0 ≤ r) = !allLie zs := by
    rcases hb with ⟨rfl, hg⟩ | ⟨k, rfl, hk, hg⟩
    · rw [(allLie_iff zs).2 hg]; rfl
    · have : allLie zs = false := by
        rw [Bool.eq_false_iff]
        exact fun e => hg ((allLie_iff zs).1 e k hk)
      rw [this]; simp
  have Hd := Lib.hid hd
  clear hd hb
  go_wp2
  go_ret
  exact ⟨by rw [← Hd.out]; rfl, rfl⟩
end Go.Proofs.Ytadelkancmbanaa
