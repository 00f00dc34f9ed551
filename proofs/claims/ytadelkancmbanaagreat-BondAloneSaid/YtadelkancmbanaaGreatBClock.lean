/-
  A clock: the stamp that is now, the leases.
-/
import Derived.Test.YtadelkancmbanaaGreatBPool6
namespace Go.Proofs.YtadelkancmbanaaGreat
open Go.RowKit
attribute [local go_sem ↓] Go.wp_at_zero Go.wp_at_succ

/-- A clock in block b, its leases in block c. -/
structure ClockMem (b c : Nat) (now : Int) (ls : List Int) (w : World) : Prop where
  ne : b ≠ c
  nw : CellIs w b 0 (.int .i64 now)
  hd : w.cell? ⟨b, 1, none⟩ = some (.slice (some ⟨c, 0, none⟩) ls.length ls.length)
  lw : ∀ i, i < ls.length → CellIs w c i (.int .i64 (ls.getD i 0))
  few : 1 ≤ ls.length ∧ ls.length ≤ 64
  now0 : 1 ≤ now ∧ now ≤ 1000000
  lsB : ∀ i, i < ls.length → 0 ≤ ls.getD i 0 ∧ ls.getD i 0 ≤ 1000001

theorem ClockMem.lt {b c : Nat} {now : Int} {ls : List Int} {w : World} (h : ClockMem b c now ls w) : b < w.heap.size ∧ c < w.heap.size := ⟨h.nw.lt, (h.lw 0 (by have := h.few; omega)).lt⟩
theorem ClockMem.of_blocks {b c : Nat} {now : Int} {ls : List Int} {w w' : World} (h : ClockMem b c now ls w) (hb : w'.heap[b]? = w.heap[b]?) (hc : w'.heap[c]? = w.heap[c]?) : ClockMem b c now ls w' :=
  ⟨h.ne, h.nw.of_block hb, (World.cell?_of_block (w := w) hb).trans h.hd, fun i hi => (h.lw i hi).of_block hc, h.few, h.now0, h.lsB⟩
theorem ClockMem.alloc {b c : Nat} {now : Int} {ls : List Int} {w : World} (h : ClockMem b c now ls w) (o : Obj) : ClockMem b c now ls (w.alloc o) :=
  h.of_blocks (Below.heap_alloc _ _ _ h.lt.1) (Below.heap_alloc _ _ _ h.lt.2)
theorem ClockMem.drew {b c : Nat} {now : Int} {ls : List Int} {w : World} (h : ClockMem b c now ls w) : ClockMem b c now ls w.drew := h.of_blocks rfl rfl
theorem ClockMem.setNow {b c : Nat} {now y : Int} {ls : List Int} {w : World} (h : ClockMem b c now ls w) (hy : 1 ≤ y ∧ y ≤ 1000000) : ClockMem b c y ls (w.setCell ⟨b, 0, none⟩ (.int .i64 y)) :=
  ⟨h.ne, h.nw.set, (World.cell?_setCell_other _ _ _ _ (by intro e; injection e with _ e; cases e)).trans h.hd, fun i hi => (h.lw i hi).other (.inl (Ne.symm h.ne)), h.few, hy, h.lsB⟩
theorem ClockMem.setLs {b c i : Nat} {now y : Int} {ls : List Int} {w : World} (h : ClockMem b c now ls w) (hi : i < ls.length) (hy : 0 ≤ y ∧ y ≤ 1000001) : ClockMem b c now (ls.set i y) (w.setCell ⟨c, i, none⟩ (.int .i64 y)) := by
  refine ⟨h.ne, h.nw.other (.inl h.ne), ?_, fun j hj => ?_, by simpa using h.few, h.now0, fun j hj => ?_⟩
  · rw [List.length_set]; exact (World.cell?_setCell_other _ _ _ _ (by intro e; injection e with e; exact h.ne e.symm)).trans h.hd
  · rw [List.length_set] at hj
    rw [getD_set_eq _ _ _ _ hi]
    by_cases e : i = j
    · subst e; rw [if_pos rfl]; exact (h.lw i hi).set
    · rw [if_neg e]; exact (h.lw j hj).other (.inr (Ne.symm e))
  · rw [List.length_set] at hj
    rw [getD_set_eq _ _ _ _ hi]
    split
    · exact hy
    · exact h.lsB j hj

theorem cnow_any (b c : Nat) (now : Int) (ls : List Int) (w : World) (h : ClockMem b c now ls w) : Calls Tryz.prog 21 #[.pointer (some ⟨b, 0, none⟩), .pointer none] w fun e w' => e = .returned (.int .i64 now) ∧ w = w' := by
  have c0 := h.nw.cell
  clear h
  go_enter Tryz.func21, Tryz.ntmps21
  go_wp2_with (first | (go_at_call 22; ((with_reducible refine (step_nil _).mono ?_); rintro e w' ⟨rfl, rfl⟩)) | (go_at_call 31; ((with_reducible refine (i64load _ _ _ _ c0).mono ?_); rintro e w' ⟨rfl, rfl⟩)))
  go_ret
  exact ⟨rfl, rfl⟩

/-- The first lease that is free, if one is. -/
def BeginsEnd (b c : Nat) (now : Int) (ls : List Int) (w : World) (e : Ending) (w' : World) : Prop :=
  (∃ i : Nat, e = .returned (.int .i64 i) ∧ i < ls.length ∧ ls.getD i 0 = 0 ∧ w' = w.setCell ⟨c, i, none⟩ (.int .i64 1)) ∨
  (e = .returned (.int .i64 (-1)) ∧ (∀ i, i < ls.length → ls.getD i 0 ≠ 0) ∧ w' = w)

set_option maxHeartbeats 800000 in
theorem begins_any (b c : Nat) (now : Int) (ls : List Int) (w : World) (h : ClockMem b c now ls w) : Calls Tryz.prog 20 #[.pointer (some ⟨b, 0, none⟩), .pointer none] w (BeginsEnd b c now ls w) := by
  have c1 := h.hd
  have few := h.few
  have H := Lib.hid h
  clear h
  go_enter Tryz.func20, Tryz.ntmps20
  go_wp2
  go_loopw [11] (fun iv wr => ∃ i : Nat, iv = .int .i64 (i : Int) ∧ i ≤ ls.length ∧ (∀ j, j < i → ls.getD j 0 ≠ 0) ∧ w = wr) (fun i _ => ls.length - (intOf i).toNat)
  case atStart => exact ⟨0, rfl, Nat.zero_le _, fun j hj => by omega, rfl⟩
  case round =>
    obtain ⟨i, rfl, hi, hj, hwr⟩ := hrel
    subst hwr
    have Hj := Lib.hid hj
    clear hj
    by_cases hil : i < ls.length
    · have c2 := H.out.lw i hil
      have c2c := c2.cell
      have c2f := c2.frz
      obtain ⟨v, hv⟩ : ∃ v, v = ls.getD i 0 := ⟨_, rfl⟩
      rw [← hv] at c2c
      have Hv := Lib.hid hv
      have b0 : (0 : Int) ≤ (i : Int) := by omega
      have b1 : (i : Int) < (ls.length : Int) := by omega
      clear hv c2
      by_cases hv0 : v = 0
      · subst hv0
        go_wp2_with (first | (go_at_call 22; ((with_reducible refine (step_nil _).mono ?_); rintro e w' ⟨rfl, rfl⟩)) | (go_at_call 24; ((with_reducible refine (i64cas _ _ _ _ _ c2c c2f).mono ?_); rintro e w' ⟨rfl, rfl⟩)))
        go_ret
        exact .inl ⟨i, rfl, hil, Hv.out.symm, rfl⟩
      · have Hv0 := Lib.hid hv0
        go_wp2_with (first | (go_at_call 22; ((with_reducible refine (step_nil _).mono ?_); rintro e w' ⟨rfl, rfl⟩)) | (go_at_call 24; ((with_reducible refine (i64miss _ _ _ _ _ _ c2c c2f hv0).mono ?_); rintro e w' ⟨rfl, rfl⟩)))
        go_roundw
        case rel =>
          refine ⟨i + 1, by go_num, by omega, fun j hj => ?_, trivial⟩
          by_cases e : j = i
          · subst e; rw [← Hv.out]; exact Hv0.out
          · exact Hj.out j (by omega)
        case measure => simp [intOf]; omega
    · obtain rfl : i = ls.length := by omega
      go_wp2
      go_ret
      exact .inr ⟨rfl, Hj.out, rfl⟩

def snapVal (l s : Int) : Value := .agg #[.int .i64 l, .int .i64 s]

/-- A lease taken; or none. -/
structure CTakeEnd (b c : Nat) (now : Int) (ls : List Int) (w : World) (e : Ending) (w' : World) : Prop where
  none : (∀ i, i < ls.length → ls.getD i 0 ≠ 0) → e = .returned (.tuple #[snapVal 0 0, .int .i64 132]) ∧ ClockMem b c now ls w'
  some : ¬ (∀ i, i < ls.length → ls.getD i 0 ≠ 0) → ∃ i : Nat, i < ls.length ∧ ls.getD i 0 = 0 ∧ e = .returned (.tuple #[snapVal i now, .int .i64 0]) ∧ ClockMem b c (now + 1) (ls.set i (now + 1)) w'
  keep : Keep (fun k => k = b ∨ k = c) w.heap.size w w'

set_option maxRecDepth 100000 in
set_option maxHeartbeats 1600000 in
theorem ctake_any (b c : Nat) (now : Int) (ls : List Int) (w : World) (h : ClockMem b c now ls w) (hn : now ≤ 999999) : Calls Tryz.prog 6 #[.pointer (some ⟨b, 0, none⟩), .pointer none] w (CTakeEnd b c now ls w) := by
  obtain ⟨W, hW⟩ : ∃ W, W = w.alloc (.cells #[.int .i64 0, .int .i64 0] 39) := ⟨_, rfl⟩
  have hm : ClockMem b c now ls W := by rw [hW]; exact h.alloc _
  have gW : W.heap[w.heap.size]? = some (.cells #[.int .i64 0, .int .i64 0] 39 (0, 0)) := by rw [hW]; exact heap_alloc_new _ _
  have kW : Keep (fun k => k = b ∨ k = c) w.heap.size w W := by rw [hW]; exact (Keep.refl _ _ _).alloc (Nat.le_refl _) _
  have sW : W.heap.size = w.heap.size + 1 := by rw [hW]; simp
  have hlt := h.lt
  have hb := begins_any b c now ls W hm
  have HW := Lib.hid hW
  have HM := Lib.hid hm
  have GW := Lib.hid gW
  have KW := Lib.hid kW
  have SW := Lib.hid sW
  have few := h.few
  obtain ⟨now0, _⟩ := h.now0
  clear hW hm gW kW sW h
  have Hb := Lib.hid hb
  clear hb
  go_enter Tryz.func6, Tryz.ntmps6
  go_wp2
  go_step3
  go_wp2_with fail
  rw [← HW.out]
  refine Hb.out.mono ?_
  have hNb : w.heap.size ≠ b := by omega
  have hNc : w.heap.size ≠ c := by omega
  rintro e w1 (⟨i, rfl, hi, hz, hw1⟩ | ⟨rfl, hno, hw1⟩)
  · have hm1 : ClockMem b c now (ls.set i 1) w1 := by rw [hw1]; exact HM.out.setLs hi (by omega)
    have hm2 := hm1.setLs (i := i) (y := now + 1) (by rw [List.length_set]; exact hi) (by omega)
    rw [List.set_set] at hm2
    have hm3 := hm2.setNow (y := now + 1) (by omega)
    have g1 : w1.heap[w.heap.size]? = some (.cells #[.int .i64 0, .int .i64 0] 39 (0, 0)) := by rw [hw1, Below.heap_setCell _ _ _ _ hNc]; exact GW.out
    have k1 : Keep (fun k => k = b ∨ k = c) w.heap.size w w1 := by rw [hw1]; exact KW.out.setCell (.inl (.inr rfl)) _
    have c1 := hm1.lw i (by rw [List.length_set]; exact hi)
    rw [getD_set_eq _ _ _ _ hi, if_pos rfl] at c1
    have c1c := c1.cell
    have c1f := c1.frz
    have c2 := hm1.hd
    have nw1 := hm1.nw.cell
    have nw2 := hm2.nw
    have nw2c := nw2.cell
    have nw2f := nw2.frz
    rw [List.length_set] at c2
    have g2 := heap_setCell_same _ _ 1 _ _ (.int .i64 now) (heap_setCell_same _ _ 0 _ _ (.int .i64 (i : Nat)) (((Below.heap_setCell (w1.setCell ⟨c, i, none⟩ (.int .i64 (now + 1))) ⟨b, 0, none⟩ (.int .i64 (now + 1)) _ hNb).trans (Below.heap_setCell w1 ⟨c, i, none⟩ (.int .i64 (now + 1)) _ hNc)).trans g1))
    have e0 : w1.cell? ⟨w.heap.size, 0, none⟩ = some (.int .i64 0) := by simp [World.cell?, g1]
    have e1 : w1.cell? ⟨w.heap.size, 1, none⟩ = some (.int .i64 0) := by simp [World.cell?, g1]
    have f0 : ∀ j, w1.frozen? ⟨w.heap.size, j, none⟩ = false := fun j => by simp [World.frozen?, g1]
    have b0 : (0 : Int) ≤ (i : Int) := by omega
    have b1 : (i : Int) < (ls.length : Int) := by omega
    have b2 : decide ((i : Int) < 0) = false := by simp
    have hnn : (now != now) = false := by simp
    have HM3 := Lib.hid hm3
    have HM1 := Lib.hid hm1
    have HM2 := Lib.hid hm2
    have K1 := Lib.hid k1
    have G2 := Lib.hid g2
    have Hz := Lib.hid hz
    clear hm1 hm2 hm3 g1 k1 c1 nw2 g2 hw1 hz HM GW KW Hb
    go_wp2_with (first | (go_at_call 21; ((with_reducible refine (cnow_any _ _ _ _ _ HM1.out).mono ?_); rintro e w' ⟨rfl, rfl⟩)) | (go_at_call 21; ((with_reducible refine (cnow_any _ _ _ _ _ HM2.out).mono ?_); rintro e w' ⟨rfl, rfl⟩)) | (go_at_call 22; ((with_reducible refine (step_nil _).mono ?_); rintro e w' ⟨rfl, rfl⟩)) | (go_at_call 23; ((with_reducible refine (i64store _ _ _ _ _ c1c c1f).mono ?_); rintro e w' ⟨rfl, rfl⟩)) | (go_at_call 24; ((with_reducible refine (i64cas _ _ _ _ _ nw2c nw2f).mono ?_); rintro e w' ⟨rfl, rfl⟩)))
    go_step3
    go_wp2_with (first | (go_at_call 21; ((with_reducible refine (cnow_any _ _ _ _ _ HM1.out).mono ?_); rintro e w' ⟨rfl, rfl⟩)) | (go_at_call 21; ((with_reducible refine (cnow_any _ _ _ _ _ HM2.out).mono ?_); rintro e w' ⟨rfl, rfl⟩)) | (go_at_call 22; ((with_reducible refine (step_nil _).mono ?_); rintro e w' ⟨rfl, rfl⟩)) | (go_at_call 23; ((with_reducible refine (i64store _ _ _ _ _ c1c c1f).mono ?_); rintro e w' ⟨rfl, rfl⟩)) | (go_at_call 24; ((with_reducible refine (i64cas _ _ _ _ _ nw2c nw2f).mono ?_); rintro e w' ⟨rfl, rfl⟩)))
    rw [Exit.noGoto_ret]
    refine bodyPost_ret (results_row_tmp (P := Tryz.prog) (ty := 39) rfl _ _ w.heap.size 39 #[.int .i64 (i : Nat), .int .i64 now] (0, 0) _ _ rfl rfl G2.out Tryz.underlying39 rfl (by kernel_rfl)) rfl ?_
    refine ⟨fun h => absurd Hz.out (h i hi), fun _ => ⟨i, hi, Hz.out, rfl, ?_⟩, ?_⟩
    · exact (HM3.out.of_blocks (Below.heap_setCell _ _ _ _ (Ne.symm hNb)) (Below.heap_setCell _ _ _ _ (Ne.symm hNc))).of_blocks (Below.heap_setCell _ _ _ _ (Ne.symm hNb)) (Below.heap_setCell _ _ _ _ (Ne.symm hNc))
    · exact (((K1.out.setCell (.inl (.inr rfl)) _).setCell (.inl (.inl rfl)) _).setCell (.inr (Nat.le_refl _)) _).setCell (.inr (Nat.le_refl _)) _
  · have g1 : w1.heap[w.heap.size]? = some (.cells #[.int .i64 0, .int .i64 0] 39 (0, 0)) := by rw [hw1]; exact GW.out
    have hm1 : ClockMem b c now ls w1 := by rw [hw1]; exact HM.out
    have k1 : Keep (fun k => k = b ∨ k = c) w.heap.size w w1 := by rw [hw1]; exact KW.out
    have g2 := heap_setCell_same _ _ 1 _ _ (.int .i64 0) (heap_setCell_same _ _ 0 _ _ (.int .i64 0) g1)
    have e0 : w1.cell? ⟨w.heap.size, 0, none⟩ = some (.int .i64 0) := by simp [World.cell?, g1]
    have e1 : w1.cell? ⟨w.heap.size, 1, none⟩ = some (.int .i64 0) := by simp [World.cell?, g1]
    have f0 : ∀ j, w1.frozen? ⟨w.heap.size, j, none⟩ = false := fun j => by simp [World.frozen?, g1]
    have HM1 := Lib.hid hm1
    have K1 := Lib.hid k1
    have G2 := Lib.hid g2
    have Hno := Lib.hid hno
    clear hm1 g1 k1 g2 hw1 hno HM GW KW Hb
    go_wp2
    rw [Exit.noGoto_ret]
    refine bodyPost_ret (results_row_tmp (P := Tryz.prog) (ty := 39) rfl _ _ w.heap.size 39 #[.int .i64 0, .int .i64 0] (0, 0) _ _ rfl rfl G2.out Tryz.underlying39 rfl (by kernel_rfl)) rfl ?_
    refine ⟨fun _ => ⟨rfl, (HM1.out.of_blocks (Below.heap_setCell _ _ _ _ (Ne.symm hNb)) (Below.heap_setCell _ _ _ _ (Ne.symm hNc))).of_blocks (Below.heap_setCell _ _ _ _ (Ne.symm hNb)) (Below.heap_setCell _ _ _ _ (Ne.symm hNc))⟩, fun h => absurd Hno.out h, (K1.out.setCell (.inr (Nat.le_refl _)) _).setCell (.inr (Nat.le_refl _)) _⟩

theorem cis_yes (b c : Nat) (now : Int) (ls : List Int) (i : Nat) (w : World) (h : ClockMem b c now ls w) (hi : i < ls.length) : Calls Tryz.prog 25 #[.pointer (some ⟨b, 0, none⟩), .int .i64 i] w fun e w' => e = .returned (.bool true) ∧ w = w' := by
  have c1 := h.hd
  have few := h.few
  have d1 : decide ((i : Int) < (ls.length : Int)) = true := by simpa using hi
  have d0 : decide ((0 : Int) ≤ (i : Int)) = true := by simp
  clear h
  go_enter Tryz.func25, Tryz.ntmps25
  go_wp2
  go_ret
  exact ⟨rfl, rfl⟩

set_option maxHeartbeats 800000 in
theorem crelease_any (b c : Nat) (now : Int) (ls : List Int) (i : Nat) (w : World) (h : ClockMem b c now ls w) (hi : i < ls.length) (hz : ls.getD i 0 ≠ 0) : Calls Tryz.prog 7 #[.pointer (some ⟨b, 0, none⟩), .pointer none, .int .i64 i] w fun e w' => e = .returned (.int .i64 0) ∧ ClockMem b c now (ls.set i 0) w' ∧ Keep (fun k => k = b ∨ k = c) w.heap.size w w' := by
  have c1 := h.hd
  have c2 := h.lw i hi
  have c2c := c2.cell
  have c2f := c2.frz
  have few := h.few
  have hs := h.setLs (i := i) (y := 0) hi (by omega)
  have Hs := Lib.hid hs
  have H := Lib.hid h
  generalize ls.getD i 0 = v at *
  have hv : (v == 0) = false := by rw [beq_eq_false_iff_ne]; exact hz
  have b0 : (0 : Int) ≤ (i : Int) := by omega
  have b1 : (i : Int) < (ls.length : Int) := by omega
  clear h hs c2
  go_enter Tryz.func7, Tryz.ntmps7
  go_wp2_with (first | (go_at_call 22; ((with_reducible refine (step_nil _).mono ?_); rintro e w' ⟨rfl, rfl⟩)) | (go_at_call 25; ((with_reducible refine (cis_yes _ _ _ _ _ _ H.out hi).mono ?_); rintro e w' ⟨rfl, rfl⟩)) | (go_at_call 26; ((with_reducible refine (i64swap _ _ _ _ _ c2c c2f).mono ?_); rintro e w' ⟨rfl, rfl⟩)))
  go_ret
  exact ⟨rfl, Hs.out, (Keep.refl _ _ _).setCell (.inl (.inr rfl)) _⟩

/-- The least stamp that is held, or now. -/
def leastOf (now : Int) : List Int → Int
  | [] => now
  | x :: r => if x = 0 then leastOf now r else min (leastOf now r) (x - 1)

/-- .. of the first k leases, as it is reckoned. -/
def leastTo (now : Int) (ls : List Int) : Nat → Int
  | 0 => now
  | k + 1 => if ls.getD k 0 = 0 then leastTo now ls k else min (leastTo now ls k) (ls.getD k 0 - 1)

set_option maxHeartbeats 1600000 in
theorem cleast_any (b c : Nat) (now : Int) (ls : List Int) (w : World) (h : ClockMem b c now ls w) : Calls Tryz.prog 63 #[.pointer (some ⟨b, 0, none⟩), .pointer none] w fun e w' => e = .returned (.int .i64 (leastTo now ls ls.length)) ∧ w = w' := by
  have c1 := h.hd
  have few := h.few
  have H := Lib.hid h
  clear h
  go_enter Tryz.func63, Tryz.ntmps63
  go_wp2_with (first | (go_at_call 21; ((with_reducible refine (cnow_any _ _ _ _ _ H.out).mono ?_); rintro e w' ⟨rfl, rfl⟩)))
  go_loopw [5, 16] (fun mv iv wr => ∃ i : Nat, mv = .int .i64 (leastTo now ls i) ∧ iv = .int .i64 (i : Int) ∧ i ≤ ls.length ∧ w = wr) (fun _ i _ => ls.length - (intOf i).toNat)
  case atStart => exact ⟨0, rfl, rfl, Nat.zero_le _, rfl⟩
  case round =>
    obtain ⟨i, rfl, rfl, hi, hwr⟩ := hrel
    subst hwr
    by_cases hil : i < ls.length
    · have c2 := (H.out.lw i hil).cell
      have hstep : leastTo now ls (i + 1) = if ls.getD i 0 = 0 then leastTo now ls i else min (leastTo now ls i) (ls.getD i 0 - 1) := rfl
      obtain ⟨lb0, lb1⟩ := H.out.lsB i hil
      generalize ls.getD i 0 = v at *
      have Hstep := Lib.hid hstep
      have b0 : (0 : Int) ≤ (i : Int) := by omega
      have b1 : (i : Int) < (ls.length : Int) := by omega
      clear hstep
      generalize leastTo now ls i = m at *
      by_cases hv : v = 0
      · have hv0 : (v == 0) = true := by rw [beq_iff_eq]; exact hv
        have Hv := Lib.hid hv
        clear hv
        go_wp2_with (first | (go_at_call 22; ((with_reducible refine (step_nil _).mono ?_); rintro e w' ⟨rfl, rfl⟩)) | (go_at_call 31; ((with_reducible refine (i64load _ _ _ _ c2).mono ?_); rintro e w' ⟨rfl, rfl⟩)))
        go_roundw
        case rel => exact ⟨i + 1, by rw [Hstep.out, if_pos Hv.out], by go_num, by omega, trivial⟩
        case measure => simp [intOf]; omega
      · have hv0 : (v == 0) = false := by rw [beq_eq_false_iff_ne]; exact hv
        have Hv := Lib.hid hv
        go_wp2_with (first | (go_at_call 22; ((with_reducible refine (step_nil _).mono ?_); rintro e w' ⟨rfl, rfl⟩)) | (go_at_call 31; ((with_reducible refine (i64load _ _ _ _ c2).mono ?_); rintro e w' ⟨rfl, rfl⟩)))
        go_roundw
        case rel =>
          refine ⟨i + 1, ?_, by go_num, by omega, trivial⟩
          rw [Hstep.out, if_neg Hv.out, Int.min_def]
          congr 1
          split <;> split <;> omega
        case measure => simp [intOf]; omega
    · obtain rfl : i = ls.length := by omega
      go_wp2
      go_ret
      exact ⟨rfl, rfl⟩

theorem cis_any (b c : Nat) (now : Int) (ls : List Int) (i : Int) (w : World) (h : ClockMem b c now ls w) : Calls Tryz.prog 25 #[.pointer (some ⟨b, 0, none⟩), .int .i64 i] w fun e w' => e = .returned (.bool (decide (0 ≤ i ∧ i < (ls.length : Int)))) ∧ w = w' := by
  have c1 := h.hd
  have few := h.few
  clear h
  by_cases h0 : 0 ≤ i
  · have d0 : decide (0 ≤ i) = true := by simpa using h0
    by_cases h1 : i < (ls.length : Int)
    · have d1 : decide (i < (ls.length : Int)) = true := by simpa using h1
      have e : decide (0 ≤ i ∧ i < (ls.length : Int)) = true := decide_eq_true ⟨h0, h1⟩
      rw [e]
      clear e
      go_enter Tryz.func25, Tryz.ntmps25
      go_wp2
      go_ret
      exact ⟨rfl, rfl⟩
    · have d1 : decide (i < (ls.length : Int)) = false := by simpa using h1
      have e : decide (0 ≤ i ∧ i < (ls.length : Int)) = false := decide_eq_false (fun k => h1 k.2)
      rw [e]
      clear e
      go_enter Tryz.func25, Tryz.ntmps25
      go_wp2
      go_ret
      exact ⟨rfl, rfl⟩
  · have d0 : decide (0 ≤ i) = false := by simpa using h0
    have e : decide (0 ≤ i ∧ i < (ls.length : Int)) = false := decide_eq_false (fun k => h0 k.1)
    rw [e]
    clear e
    go_enter Tryz.func25, Tryz.ntmps25
    go_wp2
    go_ret
    exact ⟨rfl, rfl⟩

set_option maxRecDepth 100000 in
set_option maxHeartbeats 1600000 in
/-- A snapshot's lease, of a stamp that was given. -/
theorem choldsq_any (b c : Nat) (now st : Int) (ls : List Int) (i : Nat) (w : World) (h : ClockMem b c now ls w) (hi : i < ls.length) (h1 : 1 ≤ st) : Calls Tryz.prog 43 #[.pointer (some ⟨b, 0, none⟩), .pointer none, snapVal i st] w fun e w' => e = .returned (.bool (ls.getD i 0 - 1 == st)) ∧ Below w.heap.size w w' := by
  obtain ⟨W, hW⟩ : ∃ W, W = w.alloc (.cells #[.int .i64 (i : Nat), .int .i64 st] 39) := ⟨_, rfl⟩
  have hm : ClockMem b c now ls W := by rw [hW]; exact h.alloc _
  have kW : Below w.heap.size w W := by rw [hW]; exact (Below.refl _ _).alloc (Nat.le_refl _) _
  have gW : W.heap[w.heap.size]? = some (.cells #[.int .i64 (i : Nat), .int .i64 st] 39 (0, 0)) := by rw [hW]; exact heap_alloc_new _ _
  have e0 : W.cell? ⟨w.heap.size, 0, none⟩ = some (.int .i64 (i : Nat)) := by simp [World.cell?, gW]
  have e1 : W.cell? ⟨w.heap.size, 1, none⟩ = some (.int .i64 st) := by simp [World.cell?, gW]
  have c1 := hm.hd
  have c2 := (hm.lw i hi).cell
  have few := h.few
  obtain ⟨lb0, lb1⟩ := hm.lsB i hi
  have hcis := flipped (cis_yes b c now ls i W.drew hm.drew hi)
  have HM := Lib.hid hm
  have HW := Lib.hid hW
  have KW := Lib.hid kW
  have Hcis := Lib.hid hcis
  generalize ls.getD i 0 = v at *
  have hld : Calls Tryz.prog 31 #[.pointer (some ⟨c, i, none⟩)] W.drew fun e w' => e = .returned (.int .i64 v) ∧ w' = W.drew := flipped (i64load c i v W.drew c2)
  have Hld := Lib.hid hld
  have d1 : decide ((1 : Int) ≤ st) = true := by simpa using h1
  have b0 : (0 : Int) ≤ (i : Int) := by omega
  have b1 : (i : Int) < (ls.length : Int) := by omega
  have hwv : IntKind.i64.wrap (v - 1) = v - 1 := by rw [IntKind.wrap_i64]; omega
  unfold snapVal
  clear h hm kW gW hcis hld hW
  go_enter Tryz.func43, Tryz.ntmps43
  go_wp2_with (first | (go_at_call 22; ((with_reducible refine (step_nil _).mono ?_); rintro e w' ⟨rfl, rfl⟩)))
  rw [← HW.out]
  refine wp_region_still_tail 23 (by kernel_rfl) (by kernel_rfl) ?_
  simp only [List.take_succ_cons, List.take_zero, List.drop_succ_cons, List.drop_zero]
  change wpStill _ _ (World.drew _) _ _ _
  repeat (first | (refine wpStill_step (fun K hK => ?_); go_simp; refine hK _ ?_; clear hK K) | (refine wpStill_step (fun K hK => ?_); go_simp; refine ⟨_, Hcis.out, hK _ ?_⟩; clear hK K) | (refine wpStill_step (fun K hK => ?_); go_simp; refine ⟨_, Hld.out, hK _ ?_⟩; clear hK K))
  refine wpStill_nil ?_
  change wpList _ _ _ _ _ (World.drew _)
  go_wp2
  go_ret
  exact ⟨rfl, KW.out.drew⟩

theorem infoA64 : (Tryz.prog.info? 72).map (fun i => (i.zero, i.size, i.bytes)) = some (some (.agg #[.int .i64 0]), 1, 8) := by kernel_rfl
theorem info_parts {t : TypeId} {z : Value} {s b : Nat} (h : (Tryz.prog.info? t).map (fun i => (i.zero, i.size, i.bytes)) = some (some z, s, b)) : ∃ i, Tryz.prog.info? t = some i ∧ i.zero = some z ∧ i.size = s ∧ i.bytes = b := by
  obtain ⟨i, h1, h2⟩ := Option.map_eq_some_iff.1 h
  simp only [Prod.mk.injEq] at h2
  exact ⟨i, h1, h2.1, h2.2.1, h2.2.2⟩

def CNewEnd (n : Nat) (w : World) (e : Ending) (w' : World) : Prop := ∃ b c, e = .returned (.tuple #[.pointer (some ⟨b, 0, none⟩), .int .i64 0]) ∧ ClockMem b c 1 (List.replicate n 0) w' ∧ Below w.heap.size w w' ∧ w.heap.size ≤ b ∧ w.heap.size ≤ c

set_option maxRecDepth 100000 in
set_option maxHeartbeats 1600000 in
theorem cnew_any (n : Nat) (w : World) (h1 : 1 ≤ n) (h2 : n ≤ 64) : Calls Tryz.prog 17 #[.int .i64 n] w (CNewEnd n w) := by
  obtain ⟨ia, hia, za0, za1, za2⟩ := info_parts infoA64
  obtain ⟨w1, hrun, hown, hgrow⟩ := run_make_full (P := Tryz.prog) w w.heap.size 73 72 ia _ 1 Tryz.underlying73 hia za0 za1 .i64 .i64 n (by rw [za2]; omega) (by unfold maxLen; omega) (Nat.le_refl _)
  have hb1 : Below w.heap.size w w1 := (Below.refl _ _).grown hgrow (Nat.le_refl _) (fun k hk => by cases hk)
  have hsz : w.heap.size < w1.heap.size := (hown.lt w.heap.size rfl).2
  have d1 : decide ((n : Int) < 1) = false := by simp; omega
  have d2 : decide ((64 : Int) < (n : Int)) = false := by simp; omega
  have hls : ∀ i, i < n → CellIs w1 w.heap.size i (.int .i64 0) := fun i hi => by
    refine ⟨?_, hown.frozenAt i⟩
    rw [hown.cellAt i (by omega)]
    have e : (madeCells (Value.agg #[.int .i64 0]).cells (n * 1)).toList = List.replicate (n * 1) (.int .i64 0) := toList_madeCells_one _ _
    rw [e, List.getElem?_replicate, if_pos (by omega)]
  obtain ⟨W, hW⟩ : ∃ W, W = w1.alloc (.cells #[.int .i64 0, .slice (some ⟨w.heap.size, 0, none⟩) n n] 75) := ⟨_, rfl⟩
  have gW : W.heap[w1.heap.size]? = some (.cells #[.int .i64 0, .slice (some ⟨w.heap.size, 0, none⟩) n n] 75 (0, 0)) := by rw [hW]; exact heap_alloc_new _ _
  have e0 : CellIs W w1.heap.size 0 (.int .i64 0) := ⟨by simp [World.cell?, gW], by simp [World.frozen?, gW]⟩
  have e1 : W.cell? ⟨w1.heap.size, 1, none⟩ = some (.slice (some ⟨w.heap.size, 0, none⟩) n n) := by simp [World.cell?, gW]
  have hm : ClockMem w1.heap.size w.heap.size 1 (List.replicate n 0) (W.setCell ⟨w1.heap.size, 0, none⟩ (.int .i64 1)) := by
    refine ⟨by omega, e0.set, ?_, fun i hi => ?_, by simp; omega, by omega, fun i hi => ?_⟩
    · rw [List.length_replicate]
      exact (World.cell?_setCell_other _ _ _ _ (by intro e; injection e with _ e; cases e)).trans e1
    · rw [List.length_replicate] at hi
      have e : (List.replicate n (0 : Int)).getD i 0 = 0 := by simp [List.getD_eq_getElem?_getD, List.getElem?_replicate, hi]
      rw [e]
      refine CellIs.other ?_ (.inl (by omega))
      rw [hW]; exact (hls i hi).of_block (Below.heap_alloc _ _ _ hsz)
    · rw [List.length_replicate] at hi
      have e : (List.replicate n (0 : Int)).getD i 0 = 0 := by simp [List.getD_eq_getElem?_getD, List.getElem?_replicate, hi]
      rw [e]; omega
  have kW : Below w.heap.size w (W.setCell ⟨w1.heap.size, 0, none⟩ (.int .i64 1)) := by
    rw [hW]; exact (hb1.alloc (by omega) _).setCell (by show w.heap.size ≤ w1.heap.size; omega) _
  have e0c := e0.cell
  have e0f := e0.frz
  have HM := Lib.hid hm
  have KW := Lib.hid kW
  have HW := Lib.hid hW
  clear hown hgrow hls hb1 gW e0 e1 hm kW hW
  go_enter Tryz.func17, Tryz.ntmps17
  go_wp2_with fail
  rw [← HW.out]
  refine (i64store _ _ _ _ _ e0c e0f).mono ?_
  rintro e w' ⟨rfl, rfl⟩
  go_wp2
  go_ret2
  exact ⟨_, _, rfl, HM.out, KW.out, by omega, Nat.le_refl _⟩
end Go.Proofs.YtadelkancmbanaaGreat
