/-
  right: whole.
-/
import Derived.Test.YtadelkancmbanaaJRight
namespace Go.Proofs.Ytadelkancmbanaa
open Go.RowKit
attribute [local go_sem ↓] Go.wp_at_zero Go.wp_at_succ

/-- A cell that is there, and not the one ahead. -/
def okCell (es : List AEnt) (n k : Nat) : Prop := 0 ≤ key es k ∧ key es k < n ∧ ∀ m, k = m + 1 → key es m ≠ key es k

structure RightEnd (es : List AEnt) (n : Nat) (w : World) (e : Ending) (w' : World) : Prop where
  below : Below w.heap.size w w'
  cell : ∀ k, k < es.length → ¬ okCell es n k → e = .returned (.int .i64 262)
  value : (∀ k, k < es.length → okCell es n k) → ∀ k, k < es.length → ¬ (es[k]!).lies → e = .returned (.int .i64 263)
  ok : (∀ k, k < es.length → okCell es n k) → (∀ k, k < es.length → (es[k]!).lies) → e = .returned (.int .i64 0)

theorem right_few (b c made cap : Nat) (a : Option Addr) (ws : List Int) (w : World) (_h : JRaw b c ws made w) : Calls Try.prog 34 #[.pointer (some ⟨b, 0, none⟩), .slice a 0 cap] w fun e w' => e = .returned (.int .i64 261) ∧ w = w' := by
  go_enter Try.func34, Try.ntmps34
  go_wp2
  go_ret
  exact ⟨rfl, rfl⟩

theorem right_many (b c made n cap : Nat) (a : Option Addr) (ws : List Int) (w : World) (_h : JRaw b c ws made w) (h1 : 64 < n) (h2 : n ≤ 1000) : Calls Try.prog 34 #[.pointer (some ⟨b, 0, none⟩), .slice a n cap] w fun e w' => e = .returned (.int .i64 261) ∧ w = w' := by
  have h3 : ((n : Int) == 0) = false := by rw [beq_eq_false_iff_ne]; omega
  have h4 : decide (64 < (n : Int)) = true := by simp; omega
  go_enter Try.func34, Try.ntmps34
  go_wp2
  go_ret
  exact ⟨rfl, rfl⟩

set_option maxRecDepth 100000 in
set_option maxHeartbeats 4000000 in
theorem right_any (b c made s cap : Nat) (es : List AEnt) (ws : List Int) (w : World) (h : JRaw b c ws made w) (he : AEntsAt s 0 es w) (h1 : 1 ≤ es.length) (h2 : es.length ≤ 64) (hs : s < w.heap.size) :
    Calls Try.prog 34 #[.pointer (some ⟨b, 0, none⟩), .slice (some ⟨s, 0, none⟩) es.length cap] w (RightEnd es ws.length w) := by
  have h3 : ((es.length : Int) == 0) = false := by rw [beq_eq_false_iff_ne]; omega
  have h4 : decide (64 < (es.length : Int)) = false := by simp; omega
  have H := Lib.hid h
  have He := Lib.hid he
  clear h he
  go_enter Try.func34, Try.ntmps34
  go_wp2
  go_loopw [17] (fun i wr => ∃ k : Nat, k ≤ es.length ∧ i = .int .i64 k ∧ (∀ j, j < k → okCell es ws.length j) ∧ Below w.heap.size w wr) (fun i _ => es.length - (intOf i).toNat)
  case atStart => exact ⟨0, Nat.zero_le _, rfl, fun j hj => by omega, Below.refl _ _⟩
  case round =>
    obtain ⟨k, hk, rfl, hgood, hbel⟩ := hrel
    have Hg := Lib.hid hgood
    have Hbel := Lib.hid hbel
    have hbs := hbel.size
    by_cases hlt : k < es.length
    · obtain ⟨c0, c1, c2⟩ := He.out k hlt
      simp only [Nat.zero_add] at c0 c1 c2
      have c0 := (hbel.cell (p := ⟨s, k * 3, none⟩) hs).trans c0
      have c1 := (hbel.cell (p := ⟨s, k * 3 + 1, none⟩) hs).trans c1
      have c2 := (hbel.cell (p := ⟨s, k * 3 + 2, none⟩) hs).trans c2
      have Hj : Hid (∀ o, JRaw b c ws made (wr.alloc o).drew) := fun o => ((H.out.of_blocks (hbel.block b H.out.lt.1) (hbel.block c H.out.lt.2)).alloc o).drew
      generalize hz : es[k]! = z at c0 c1 c2
      have Hz := Lib.hid hz
      clear hz hgood hbel
      obtain ⟨zc, zo, zn⟩ := z
      dsimp only at c0 c1 c2
      have hkey : key es k = zc := by unfold key; rw [Hz.out]
      have Hkey := Lib.hid hkey
      clear hkey
      by_cases hr : 0 ≤ zc ∧ zc < (ws.length : Int)
      · obtain ⟨hr0, hr1⟩ := hr
        obtain ⟨zn', rfl⟩ := Int.eq_ofNat_of_zero_le hr0
        have hzl : zn' < ws.length := by omega
        by_cases hk0 : k = 0
        · subst hk0
          go_wp2_with fail
          refine Reg.start (fun w' => w'.cell? ⟨wr.heap.size, 0, none⟩ = some (.int .i64 zn')) [] (by kernel_rfl) ?_ (fun hHeld => ?_)
          · first | trivial | ((try dsimp only); simp [*])
          refine Reg.takeP (i := 0) (v := ?va_0) rfl (by kernel_rfl) (by kernel_rfl) (by kernel_rfl) (by kernel_rfl) (fun _ _ _ h => h) (Or.inl ⟨by rfl, ?ha_0⟩) (fun _ => hHeld) ?ra_0
          case ha_0 => (intro wS hSw; (try dsimp only at hSw); go_simp; all_goals with_reducible rfl)
          try simp only [Act.put, List.setIfInBounds_toArray, List.set_cons_zero, List.set_cons_succ]
          refine Reg.takeP (i := 1) (v := ?va_1) rfl (by kernel_rfl) (by kernel_rfl) (by kernel_rfl) (by kernel_rfl) (fun _ _ _ h => h) (Or.inl ⟨by rfl, ?ha_1⟩) (fun _ => hHeld) ?ra_1
          case ha_1 => (intro wS hSw; (try dsimp only at hSw); go_simp; all_goals with_reducible rfl)
          try simp only [Act.put, List.setIfInBounds_toArray, List.set_cons_zero, List.set_cons_succ]
          refine Reg.take (i := 2) (v := ?va_2) rfl (by kernel_rfl) (by kernel_rfl) (by kernel_rfl) (by kernel_rfl) (fun _ _ _ h => h) (Or.inl ⟨by rfl, ?ha_2⟩) hHeld ?ra_2
          case ha_2 => (intro wS hSw; (try dsimp only at hSw); go_simp; all_goals with_reducible rfl)
          try simp only [Act.put, List.setIfInBounds_toArray, List.set_cons_zero, List.set_cons_succ]
          refine Reg.one (i := 3) rfl (by kernel_rfl) (fun K hK => ?_)
          (go_simp; refine (is_yes b c zn' made ws _ (Hj.out _) hzl).mono ?_; rintro e w' ⟨rfl, rfl⟩; dsimp only)
          refine hK.out _ _ (fun _ => ?_) (fun hHeld => ?_)
          · first | trivial | ((try dsimp only); simp [*])
          replace hHeld := hHeld (by decide)
          clear hK K
          try simp only [Act.put, List.setIfInBounds_toArray, List.set_cons_zero, List.set_cons_succ]
          refine Reg.takeP (i := 4) (v := ?va_4) rfl (by kernel_rfl) (by kernel_rfl) (by kernel_rfl) (by kernel_rfl) (fun _ _ _ h => h) (Or.inl ⟨by rfl, ?ha_4⟩) (fun _ => hHeld) ?ra_4
          case ha_4 => (intro wS hSw; (try dsimp only at hSw); go_simp; all_goals with_reducible rfl)
          try simp only [Act.put, List.setIfInBounds_toArray, List.set_cons_zero, List.set_cons_succ]
          refine Reg.takeP (i := 5) (v := ?va_5) rfl (by kernel_rfl) (by kernel_rfl) (by kernel_rfl) (by kernel_rfl) (fun _ _ _ h => h) (Or.inl ⟨by rfl, ?ha_5⟩) (fun _ => hHeld) ?ra_5
          case ha_5 => (intro wS hSw; (try dsimp only at hSw); go_simp; all_goals with_reducible rfl)
          try simp only [Act.put, List.setIfInBounds_toArray, List.set_cons_zero, List.set_cons_succ]
          refine Reg.takeP (i := 6) (v := ?va_6) rfl (by kernel_rfl) (by kernel_rfl) (by kernel_rfl) (by kernel_rfl) (fun _ _ _ h => h) (Or.inl ⟨by rfl, ?ha_6⟩) (fun _ => hHeld) ?ra_6
          case ha_6 => (intro wS hSw; (try dsimp only at hSw); go_simp; all_goals with_reducible rfl)
          try simp only [Act.put, List.setIfInBounds_toArray, List.set_cons_zero, List.set_cons_succ]
          refine Reg.takeP (i := 7) (v := ?va_7) rfl (by kernel_rfl) (by kernel_rfl) (by kernel_rfl) (by kernel_rfl) (fun _ _ _ h => h) (Or.inl ⟨by rfl, ?ha_7⟩) (fun _ => hHeld) ?ra_7
          case ha_7 => (intro wS hSw; (try dsimp only at hSw); go_simp; all_goals with_reducible rfl)
          try simp only [Act.put, List.setIfInBounds_toArray, List.set_cons_zero, List.set_cons_succ]
          refine Reg.takeP (i := 8) (v := ?va_8) rfl (by kernel_rfl) (by kernel_rfl) (by kernel_rfl) (by kernel_rfl) (fun _ _ _ h => h) (Or.inl ⟨by rfl, ?ha_8⟩) (fun _ => hHeld) ?ra_8
          case ha_8 => (intro wS hSw; (try dsimp only at hSw); go_simp; all_goals with_reducible rfl)
          try simp only [Act.put, List.setIfInBounds_toArray, List.set_cons_zero, List.set_cons_succ]
          refine Reg.takeP (i := 9) (v := undef) rfl (by kernel_rfl) (by kernel_rfl) (by kernel_rfl) (by kernel_rfl) (fun _ _ _ h => h) (Or.inr ⟨by rfl, rfl⟩) (fun _ => hHeld) ?ra_9
          try simp only [Act.put, List.setIfInBounds_toArray, List.set_cons_zero, List.set_cons_succ]
          refine Reg.takeP (i := 10) (v := undef) rfl (by kernel_rfl) (by kernel_rfl) (by kernel_rfl) (by kernel_rfl) (fun _ _ _ h => h) (Or.inr ⟨by rfl, rfl⟩) (fun _ => hHeld) ?ra_10
          try simp only [Act.put, List.setIfInBounds_toArray, List.set_cons_zero, List.set_cons_succ]
          refine Reg.takeP (i := 11) (v := undef) rfl (by kernel_rfl) (by kernel_rfl) (by kernel_rfl) (by kernel_rfl) (fun _ _ _ h => h) (Or.inr ⟨by rfl, rfl⟩) (fun _ => hHeld) ?ra_11
          try simp only [Act.put, List.setIfInBounds_toArray, List.set_cons_zero, List.set_cons_succ]
          refine Reg.takeP (i := 12) (v := undef) rfl (by kernel_rfl) (by kernel_rfl) (by kernel_rfl) (by kernel_rfl) (fun _ _ _ h => h) (Or.inr ⟨by rfl, rfl⟩) (fun _ => hHeld) ?ra_12
          try simp only [Act.put, List.setIfInBounds_toArray, List.set_cons_zero, List.set_cons_succ]
          refine Reg.takeP (i := 13) (v := undef) rfl (by kernel_rfl) (by kernel_rfl) (by kernel_rfl) (by kernel_rfl) (fun _ _ _ h => h) (Or.inr ⟨by rfl, rfl⟩) (fun _ => hHeld) ?ra_13
          try simp only [Act.put, List.setIfInBounds_toArray, List.set_cons_zero, List.set_cons_succ]
          refine Reg.takeP (i := 14) (v := undef) rfl (by kernel_rfl) (by kernel_rfl) (by kernel_rfl) (by kernel_rfl) (fun _ _ _ h => h) (Or.inr ⟨by rfl, rfl⟩) (fun _ => hHeld) ?ra_14
          try simp only [Act.put, List.setIfInBounds_toArray, List.set_cons_zero, List.set_cons_succ]
          refine Reg.takeP (i := 15) (v := undef) rfl (by kernel_rfl) (by kernel_rfl) (by kernel_rfl) (by kernel_rfl) (fun _ _ _ h => h) (Or.inr ⟨by rfl, rfl⟩) (fun _ => hHeld) ?ra_15
          try simp only [Act.put, List.setIfInBounds_toArray, List.set_cons_zero, List.set_cons_succ]
          refine Reg.takeP (i := 16) (v := undef) rfl (by kernel_rfl) (by kernel_rfl) (by kernel_rfl) (by kernel_rfl) (fun _ _ _ h => h) (Or.inr ⟨by rfl, rfl⟩) (fun _ => hHeld) ?ra_16
          try simp only [Act.put, List.setIfInBounds_toArray, List.set_cons_zero, List.set_cons_succ]
          refine Reg.takeP (i := 17) (v := undef) rfl (by kernel_rfl) (by kernel_rfl) (by kernel_rfl) (by kernel_rfl) (fun _ _ _ h => h) (Or.inr ⟨by rfl, rfl⟩) (fun _ => hHeld) ?ra_17
          try simp only [Act.put, List.setIfInBounds_toArray, List.set_cons_zero, List.set_cons_succ]
          refine Reg.takeP (i := 18) (v := ?va_18) rfl (by kernel_rfl) (by kernel_rfl) (by kernel_rfl) (by kernel_rfl) (fun _ _ _ h => h) (Or.inl ⟨by rfl, ?ha_18⟩) (fun _ => hHeld) ?ra_18
          case ha_18 => (intro wS hSw; (try dsimp only at hSw); go_simp; all_goals with_reducible rfl)
          try simp only [Act.put, List.setIfInBounds_toArray, List.set_cons_zero, List.set_cons_succ]
          refine Reg.takeP (i := 19) (v := ?va_19) rfl (by kernel_rfl) (by kernel_rfl) (by kernel_rfl) (by kernel_rfl) (fun _ _ _ h => h) (Or.inl ⟨by rfl, ?ha_19⟩) (fun _ => hHeld) ?ra_19
          case ha_19 => (intro wS hSw; (try dsimp only at hSw); go_simp; all_goals with_reducible rfl)
          try simp only [Act.put, List.setIfInBounds_toArray, List.set_cons_zero, List.set_cons_succ]
          refine Reg.done (by kernel_rfl) ?_ _
          go_wp2
          go_roundw
          case rel => exact ⟨1, by omega, by go_num, fun j hj => by
            obtain rfl : j = 0 := by omega
            exact ⟨by rw [Hkey.out]; exact hr0, by rw [Hkey.out]; exact hr1, fun m hm => by omega⟩, (Hbel.out.alloc hbs _).drew⟩
          case measure => (simp [intOf] <;> omega)
        · obtain ⟨m, rfl⟩ : ∃ m, k = m + 1 := ⟨k - 1, by omega⟩
          obtain ⟨d0, _, _⟩ := He.out m (by omega)
          simp only [Nat.zero_add] at d0
          have d0 := (Hbel.out.cell (p := ⟨s, m * 3, none⟩) hs).trans d0
          have hpl := World.new_ne wr _ d0
          generalize hy : (es[m]!).c = yc at d0
          have Hy := Lib.hid (show key es m = yc from hy)
          clear hy
          have b0 : (0 : Int) ≤ (m : Int) := by omega
          have b1 : (m : Int) < (es.length : Int) := by omega
          have b2 : (m : Int) + 1 < (es.length : Int) := by omega
          have b3 : (0 : Int) ≤ (m : Int) + 1 := by omega
          have hgt : decide ((0 : Int) < (m : Int) + 1) = true := by simp <;> omega
          have hwm : IntKind.i64.wrap (m : Int) = m := by rw [IntKind.wrap_i64]; omega
          by_cases hyz : yc = (zn' : Int)
          · have hq : (yc == (zn' : Int)) = true := by rw [beq_iff_eq]; exact hyz
            have Hyz := Lib.hid hyz
            clear hyz
            go_wp2_with fail
            refine Reg.start (fun w' => w'.cell? ⟨wr.heap.size, 0, none⟩ = some (.int .i64 zn') ∧ w'.cell? ⟨s, m * 3, none⟩ = some (.int .i64 yc)) [] (by kernel_rfl) ?_ (fun hHeld => ?_)
            · first | trivial | ((try dsimp only); (refine ⟨?_, ?_⟩ <;> simp [*, World.cell?_alloc_some]))
            refine Reg.takeP (i := 0) (v := ?vb_0) rfl (by kernel_rfl) (by kernel_rfl) (by kernel_rfl) (by kernel_rfl) (fun _ _ _ h => h) (Or.inl ⟨by rfl, ?hb_0⟩) (fun _ => hHeld) ?rb_0
            case hb_0 => (intro wS hSw; (try dsimp only at hSw); go_simp; all_goals with_reducible rfl)
            try simp only [Act.put, List.setIfInBounds_toArray, List.set_cons_zero, List.set_cons_succ]
            refine Reg.takeP (i := 1) (v := ?vb_1) rfl (by kernel_rfl) (by kernel_rfl) (by kernel_rfl) (by kernel_rfl) (fun _ _ _ h => h) (Or.inl ⟨by rfl, ?hb_1⟩) (fun _ => hHeld) ?rb_1
            case hb_1 => (intro wS hSw; (try dsimp only at hSw); go_simp; all_goals with_reducible rfl)
            try simp only [Act.put, List.setIfInBounds_toArray, List.set_cons_zero, List.set_cons_succ]
            refine Reg.take (i := 2) (v := ?vb_2) rfl (by kernel_rfl) (by kernel_rfl) (by kernel_rfl) (by kernel_rfl) (fun _ _ _ h => h) (Or.inl ⟨by rfl, ?hb_2⟩) hHeld ?rb_2
            case hb_2 => (intro wS hSw; (try dsimp only at hSw); go_simp; all_goals with_reducible rfl)
            try simp only [Act.put, List.setIfInBounds_toArray, List.set_cons_zero, List.set_cons_succ]
            refine Reg.one (i := 3) rfl (by kernel_rfl) (fun K hK => ?_)
            (go_simp; refine (is_yes b c zn' made ws _ (Hj.out _) hzl).mono ?_; rintro e w' ⟨rfl, rfl⟩; dsimp only)
            refine hK.out _ _ (fun _ => ?_) (fun hHeld => ?_)
            · first | trivial | ((try dsimp only); (refine ⟨?_, ?_⟩ <;> simp [*, World.cell?_alloc_some]))
            replace hHeld := hHeld (by decide)
            clear hK K
            try simp only [Act.put, List.setIfInBounds_toArray, List.set_cons_zero, List.set_cons_succ]
            refine Reg.takeP (i := 4) (v := ?vb_4) rfl (by kernel_rfl) (by kernel_rfl) (by kernel_rfl) (by kernel_rfl) (fun _ _ _ h => h) (Or.inl ⟨by rfl, ?hb_4⟩) (fun _ => hHeld) ?rb_4
            case hb_4 => (intro wS hSw; (try dsimp only at hSw); go_simp; all_goals with_reducible rfl)
            try simp only [Act.put, List.setIfInBounds_toArray, List.set_cons_zero, List.set_cons_succ]
            refine Reg.takeP (i := 5) (v := ?vb_5) rfl (by kernel_rfl) (by kernel_rfl) (by kernel_rfl) (by kernel_rfl) (fun _ _ _ h => h) (Or.inl ⟨by rfl, ?hb_5⟩) (fun _ => hHeld) ?rb_5
            case hb_5 => (intro wS hSw; (try dsimp only at hSw); go_simp; all_goals with_reducible rfl)
            try simp only [Act.put, List.setIfInBounds_toArray, List.set_cons_zero, List.set_cons_succ]
            refine Reg.takeP (i := 6) (v := ?vb_6) rfl (by kernel_rfl) (by kernel_rfl) (by kernel_rfl) (by kernel_rfl) (fun _ _ _ h => h) (Or.inl ⟨by rfl, ?hb_6⟩) (fun _ => hHeld) ?rb_6
            case hb_6 => (intro wS hSw; (try dsimp only at hSw); go_simp; all_goals with_reducible rfl)
            try simp only [Act.put, List.setIfInBounds_toArray, List.set_cons_zero, List.set_cons_succ]
            refine Reg.takeP (i := 7) (v := ?vb_7) rfl (by kernel_rfl) (by kernel_rfl) (by kernel_rfl) (by kernel_rfl) (fun _ _ _ h => h) (Or.inl ⟨by rfl, ?hb_7⟩) (fun _ => hHeld) ?rb_7
            case hb_7 => (intro wS hSw; (try dsimp only at hSw); go_simp; all_goals with_reducible rfl)
            try simp only [Act.put, List.setIfInBounds_toArray, List.set_cons_zero, List.set_cons_succ]
            refine Reg.takeP (i := 8) (v := ?vb_8) rfl (by kernel_rfl) (by kernel_rfl) (by kernel_rfl) (by kernel_rfl) (fun _ _ _ h => h) (Or.inl ⟨by rfl, ?hb_8⟩) (fun _ => hHeld) ?rb_8
            case hb_8 => (intro wS hSw; (try dsimp only at hSw); go_simp; all_goals with_reducible rfl)
            try simp only [Act.put, List.setIfInBounds_toArray, List.set_cons_zero, List.set_cons_succ]
            refine Reg.takeP (i := 9) (v := ?vb_9) rfl (by kernel_rfl) (by kernel_rfl) (by kernel_rfl) (by kernel_rfl) (fun _ _ _ h => h) (Or.inl ⟨by rfl, ?hb_9⟩) (fun _ => hHeld) ?rb_9
            case hb_9 => (intro wS hSw; (try dsimp only at hSw); go_simp; all_goals with_reducible rfl)
            try simp only [Act.put, List.setIfInBounds_toArray, List.set_cons_zero, List.set_cons_succ]
            refine Reg.takeP (i := 10) (v := ?vb_10) rfl (by kernel_rfl) (by kernel_rfl) (by kernel_rfl) (by kernel_rfl) (fun _ _ _ h => h) (Or.inl ⟨by rfl, ?hb_10⟩) (fun _ => hHeld) ?rb_10
            case hb_10 => (intro wS hSw; (try dsimp only at hSw); go_simp; all_goals with_reducible rfl)
            try simp only [Act.put, List.setIfInBounds_toArray, List.set_cons_zero, List.set_cons_succ]
            refine Reg.takeP (i := 11) (v := ?vb_11) rfl (by kernel_rfl) (by kernel_rfl) (by kernel_rfl) (by kernel_rfl) (fun _ _ _ h => h) (Or.inl ⟨by rfl, ?hb_11⟩) (fun _ => hHeld) ?rb_11
            case hb_11 => (intro wS hSw; (try dsimp only at hSw); go_simp; all_goals with_reducible rfl)
            try simp only [Act.put, List.setIfInBounds_toArray, List.set_cons_zero, List.set_cons_succ]
            refine Reg.takeP (i := 12) (v := ?vb_12) rfl (by kernel_rfl) (by kernel_rfl) (by kernel_rfl) (by kernel_rfl) (fun _ _ _ h => h) (Or.inl ⟨by rfl, ?hb_12⟩) (fun _ => hHeld) ?rb_12
            case hb_12 => (intro wS hSw; (try dsimp only at hSw); go_simp; all_goals with_reducible rfl)
            try simp only [Act.put, List.setIfInBounds_toArray, List.set_cons_zero, List.set_cons_succ]
            refine Reg.takeP (i := 13) (v := ?vb_13) rfl (by kernel_rfl) (by kernel_rfl) (by kernel_rfl) (by kernel_rfl) (fun _ _ _ h => h) (Or.inl ⟨by rfl, ?hb_13⟩) (fun _ => hHeld) ?rb_13
            case hb_13 => (intro wS hSw; (try dsimp only at hSw); go_simp; all_goals with_reducible rfl)
            try simp only [Act.put, List.setIfInBounds_toArray, List.set_cons_zero, List.set_cons_succ]
            refine Reg.take (i := 14) (v := ?vb_14) rfl (by kernel_rfl) (by kernel_rfl) (by kernel_rfl) (by kernel_rfl) (fun _ _ _ h => h) (Or.inl ⟨by rfl, ?hb_14⟩) hHeld ?rb_14
            case hb_14 => (intro wS hSw; (try dsimp only at hSw); go_simp; all_goals with_reducible rfl)
            try simp only [Act.put, List.setIfInBounds_toArray, List.set_cons_zero, List.set_cons_succ]
            refine Reg.takeP (i := 15) (v := ?vb_15) rfl (by kernel_rfl) (by kernel_rfl) (by kernel_rfl) (by kernel_rfl) (fun _ _ _ h => h) (Or.inl ⟨by rfl, ?hb_15⟩) (fun _ => hHeld) ?rb_15
            case hb_15 => (intro wS hSw; (try dsimp only at hSw); go_simp; all_goals with_reducible rfl)
            try simp only [Act.put, List.setIfInBounds_toArray, List.set_cons_zero, List.set_cons_succ]
            refine Reg.take (i := 16) (v := ?vb_16) rfl (by kernel_rfl) (by kernel_rfl) (by kernel_rfl) (by kernel_rfl) (fun _ _ _ h => h) (Or.inl ⟨by rfl, ?hb_16⟩) hHeld ?rb_16
            case hb_16 => (intro wS hSw; (try dsimp only at hSw); go_simp; all_goals with_reducible rfl)
            try simp only [Act.put, List.setIfInBounds_toArray, List.set_cons_zero, List.set_cons_succ]
            refine Reg.takeP (i := 17) (v := ?vb_17) rfl (by kernel_rfl) (by kernel_rfl) (by kernel_rfl) (by kernel_rfl) (fun _ _ _ h => h) (Or.inl ⟨by rfl, ?hb_17⟩) (fun _ => hHeld) ?rb_17
            case hb_17 => (intro wS hSw; (try dsimp only at hSw); go_simp; all_goals with_reducible rfl)
            try simp only [Act.put, List.setIfInBounds_toArray, List.set_cons_zero, List.set_cons_succ]
            refine Reg.takeP (i := 18) (v := ?vb_18) rfl (by kernel_rfl) (by kernel_rfl) (by kernel_rfl) (by kernel_rfl) (fun _ _ _ h => h) (Or.inl ⟨by rfl, ?hb_18⟩) (fun _ => hHeld) ?rb_18
            case hb_18 => (intro wS hSw; (try dsimp only at hSw); go_simp; all_goals with_reducible rfl)
            try simp only [Act.put, List.setIfInBounds_toArray, List.set_cons_zero, List.set_cons_succ]
            refine Reg.takeP (i := 19) (v := ?vb_19) rfl (by kernel_rfl) (by kernel_rfl) (by kernel_rfl) (by kernel_rfl) (fun _ _ _ h => h) (Or.inl ⟨by rfl, ?hb_19⟩) (fun _ => hHeld) ?rb_19
            case hb_19 => (intro wS hSw; (try dsimp only at hSw); go_simp; all_goals with_reducible rfl)
            try simp only [Act.put, List.setIfInBounds_toArray, List.set_cons_zero, List.set_cons_succ]
            refine Reg.done (by kernel_rfl) ?_ _
            go_wp2
            go_ret
            have hbad : ¬ okCell es ws.length (m + 1) := fun h => by
              have := h.2.2 m rfl
              rw [Hy.out, Hkey.out, Hyz.out] at this
              exact this rfl
            exact ⟨(Hbel.out.alloc hbs _).drew, fun _ _ _ => rfl, fun h => absurd (h _ hlt) hbad, fun h => absurd (h _ hlt) hbad⟩
          · have hq : (yc == (zn' : Int)) = false := by rw [beq_eq_false_iff_ne]; exact hyz
            have Hyz := Lib.hid hyz
            clear hyz
            go_wp2_with fail
            refine Reg.start (fun w' => w'.cell? ⟨wr.heap.size, 0, none⟩ = some (.int .i64 zn') ∧ w'.cell? ⟨s, m * 3, none⟩ = some (.int .i64 yc)) [] (by kernel_rfl) ?_ (fun hHeld => ?_)
            · first | trivial | ((try dsimp only); (refine ⟨?_, ?_⟩ <;> simp [*, World.cell?_alloc_some]))
            refine Reg.takeP (i := 0) (v := ?vc_0) rfl (by kernel_rfl) (by kernel_rfl) (by kernel_rfl) (by kernel_rfl) (fun _ _ _ h => h) (Or.inl ⟨by rfl, ?hc_0⟩) (fun _ => hHeld) ?rc_0
            case hc_0 => (intro wS hSw; (try dsimp only at hSw); go_simp; all_goals with_reducible rfl)
            try simp only [Act.put, List.setIfInBounds_toArray, List.set_cons_zero, List.set_cons_succ]
            refine Reg.takeP (i := 1) (v := ?vc_1) rfl (by kernel_rfl) (by kernel_rfl) (by kernel_rfl) (by kernel_rfl) (fun _ _ _ h => h) (Or.inl ⟨by rfl, ?hc_1⟩) (fun _ => hHeld) ?rc_1
            case hc_1 => (intro wS hSw; (try dsimp only at hSw); go_simp; all_goals with_reducible rfl)
            try simp only [Act.put, List.setIfInBounds_toArray, List.set_cons_zero, List.set_cons_succ]
            refine Reg.take (i := 2) (v := ?vc_2) rfl (by kernel_rfl) (by kernel_rfl) (by kernel_rfl) (by kernel_rfl) (fun _ _ _ h => h) (Or.inl ⟨by rfl, ?hc_2⟩) hHeld ?rc_2
            case hc_2 => (intro wS hSw; (try dsimp only at hSw); go_simp; all_goals with_reducible rfl)
            try simp only [Act.put, List.setIfInBounds_toArray, List.set_cons_zero, List.set_cons_succ]
            refine Reg.one (i := 3) rfl (by kernel_rfl) (fun K hK => ?_)
            (go_simp; refine (is_yes b c zn' made ws _ (Hj.out _) hzl).mono ?_; rintro e w' ⟨rfl, rfl⟩; dsimp only)
            refine hK.out _ _ (fun _ => ?_) (fun hHeld => ?_)
            · first | trivial | ((try dsimp only); (refine ⟨?_, ?_⟩ <;> simp [*, World.cell?_alloc_some]))
            replace hHeld := hHeld (by decide)
            clear hK K
            try simp only [Act.put, List.setIfInBounds_toArray, List.set_cons_zero, List.set_cons_succ]
            refine Reg.takeP (i := 4) (v := ?vc_4) rfl (by kernel_rfl) (by kernel_rfl) (by kernel_rfl) (by kernel_rfl) (fun _ _ _ h => h) (Or.inl ⟨by rfl, ?hc_4⟩) (fun _ => hHeld) ?rc_4
            case hc_4 => (intro wS hSw; (try dsimp only at hSw); go_simp; all_goals with_reducible rfl)
            try simp only [Act.put, List.setIfInBounds_toArray, List.set_cons_zero, List.set_cons_succ]
            refine Reg.takeP (i := 5) (v := ?vc_5) rfl (by kernel_rfl) (by kernel_rfl) (by kernel_rfl) (by kernel_rfl) (fun _ _ _ h => h) (Or.inl ⟨by rfl, ?hc_5⟩) (fun _ => hHeld) ?rc_5
            case hc_5 => (intro wS hSw; (try dsimp only at hSw); go_simp; all_goals with_reducible rfl)
            try simp only [Act.put, List.setIfInBounds_toArray, List.set_cons_zero, List.set_cons_succ]
            refine Reg.takeP (i := 6) (v := ?vc_6) rfl (by kernel_rfl) (by kernel_rfl) (by kernel_rfl) (by kernel_rfl) (fun _ _ _ h => h) (Or.inl ⟨by rfl, ?hc_6⟩) (fun _ => hHeld) ?rc_6
            case hc_6 => (intro wS hSw; (try dsimp only at hSw); go_simp; all_goals with_reducible rfl)
            try simp only [Act.put, List.setIfInBounds_toArray, List.set_cons_zero, List.set_cons_succ]
            refine Reg.takeP (i := 7) (v := ?vc_7) rfl (by kernel_rfl) (by kernel_rfl) (by kernel_rfl) (by kernel_rfl) (fun _ _ _ h => h) (Or.inl ⟨by rfl, ?hc_7⟩) (fun _ => hHeld) ?rc_7
            case hc_7 => (intro wS hSw; (try dsimp only at hSw); go_simp; all_goals with_reducible rfl)
            try simp only [Act.put, List.setIfInBounds_toArray, List.set_cons_zero, List.set_cons_succ]
            refine Reg.takeP (i := 8) (v := ?vc_8) rfl (by kernel_rfl) (by kernel_rfl) (by kernel_rfl) (by kernel_rfl) (fun _ _ _ h => h) (Or.inl ⟨by rfl, ?hc_8⟩) (fun _ => hHeld) ?rc_8
            case hc_8 => (intro wS hSw; (try dsimp only at hSw); go_simp; all_goals with_reducible rfl)
            try simp only [Act.put, List.setIfInBounds_toArray, List.set_cons_zero, List.set_cons_succ]
            refine Reg.takeP (i := 9) (v := ?vc_9) rfl (by kernel_rfl) (by kernel_rfl) (by kernel_rfl) (by kernel_rfl) (fun _ _ _ h => h) (Or.inl ⟨by rfl, ?hc_9⟩) (fun _ => hHeld) ?rc_9
            case hc_9 => (intro wS hSw; (try dsimp only at hSw); go_simp; all_goals with_reducible rfl)
            try simp only [Act.put, List.setIfInBounds_toArray, List.set_cons_zero, List.set_cons_succ]
            refine Reg.takeP (i := 10) (v := ?vc_10) rfl (by kernel_rfl) (by kernel_rfl) (by kernel_rfl) (by kernel_rfl) (fun _ _ _ h => h) (Or.inl ⟨by rfl, ?hc_10⟩) (fun _ => hHeld) ?rc_10
            case hc_10 => (intro wS hSw; (try dsimp only at hSw); go_simp; all_goals with_reducible rfl)
            try simp only [Act.put, List.setIfInBounds_toArray, List.set_cons_zero, List.set_cons_succ]
            refine Reg.takeP (i := 11) (v := ?vc_11) rfl (by kernel_rfl) (by kernel_rfl) (by kernel_rfl) (by kernel_rfl) (fun _ _ _ h => h) (Or.inl ⟨by rfl, ?hc_11⟩) (fun _ => hHeld) ?rc_11
            case hc_11 => (intro wS hSw; (try dsimp only at hSw); go_simp; all_goals with_reducible rfl)
            try simp only [Act.put, List.setIfInBounds_toArray, List.set_cons_zero, List.set_cons_succ]
            refine Reg.takeP (i := 12) (v := ?vc_12) rfl (by kernel_rfl) (by kernel_rfl) (by kernel_rfl) (by kernel_rfl) (fun _ _ _ h => h) (Or.inl ⟨by rfl, ?hc_12⟩) (fun _ => hHeld) ?rc_12
            case hc_12 => (intro wS hSw; (try dsimp only at hSw); go_simp; all_goals with_reducible rfl)
            try simp only [Act.put, List.setIfInBounds_toArray, List.set_cons_zero, List.set_cons_succ]
            refine Reg.takeP (i := 13) (v := ?vc_13) rfl (by kernel_rfl) (by kernel_rfl) (by kernel_rfl) (by kernel_rfl) (fun _ _ _ h => h) (Or.inl ⟨by rfl, ?hc_13⟩) (fun _ => hHeld) ?rc_13
            case hc_13 => (intro wS hSw; (try dsimp only at hSw); go_simp; all_goals with_reducible rfl)
            try simp only [Act.put, List.setIfInBounds_toArray, List.set_cons_zero, List.set_cons_succ]
            refine Reg.take (i := 14) (v := ?vc_14) rfl (by kernel_rfl) (by kernel_rfl) (by kernel_rfl) (by kernel_rfl) (fun _ _ _ h => h) (Or.inl ⟨by rfl, ?hc_14⟩) hHeld ?rc_14
            case hc_14 => (intro wS hSw; (try dsimp only at hSw); go_simp; all_goals with_reducible rfl)
            try simp only [Act.put, List.setIfInBounds_toArray, List.set_cons_zero, List.set_cons_succ]
            refine Reg.takeP (i := 15) (v := ?vc_15) rfl (by kernel_rfl) (by kernel_rfl) (by kernel_rfl) (by kernel_rfl) (fun _ _ _ h => h) (Or.inl ⟨by rfl, ?hc_15⟩) (fun _ => hHeld) ?rc_15
            case hc_15 => (intro wS hSw; (try dsimp only at hSw); go_simp; all_goals with_reducible rfl)
            try simp only [Act.put, List.setIfInBounds_toArray, List.set_cons_zero, List.set_cons_succ]
            refine Reg.take (i := 16) (v := ?vc_16) rfl (by kernel_rfl) (by kernel_rfl) (by kernel_rfl) (by kernel_rfl) (fun _ _ _ h => h) (Or.inl ⟨by rfl, ?hc_16⟩) hHeld ?rc_16
            case hc_16 => (intro wS hSw; (try dsimp only at hSw); go_simp; all_goals with_reducible rfl)
            try simp only [Act.put, List.setIfInBounds_toArray, List.set_cons_zero, List.set_cons_succ]
            refine Reg.takeP (i := 17) (v := ?vc_17) rfl (by kernel_rfl) (by kernel_rfl) (by kernel_rfl) (by kernel_rfl) (fun _ _ _ h => h) (Or.inl ⟨by rfl, ?hc_17⟩) (fun _ => hHeld) ?rc_17
            case hc_17 => (intro wS hSw; (try dsimp only at hSw); go_simp; all_goals with_reducible rfl)
            try simp only [Act.put, List.setIfInBounds_toArray, List.set_cons_zero, List.set_cons_succ]
            refine Reg.takeP (i := 18) (v := ?vc_18) rfl (by kernel_rfl) (by kernel_rfl) (by kernel_rfl) (by kernel_rfl) (fun _ _ _ h => h) (Or.inl ⟨by rfl, ?hc_18⟩) (fun _ => hHeld) ?rc_18
            case hc_18 => (intro wS hSw; (try dsimp only at hSw); go_simp; all_goals with_reducible rfl)
            try simp only [Act.put, List.setIfInBounds_toArray, List.set_cons_zero, List.set_cons_succ]
            refine Reg.takeP (i := 19) (v := ?vc_19) rfl (by kernel_rfl) (by kernel_rfl) (by kernel_rfl) (by kernel_rfl) (fun _ _ _ h => h) (Or.inl ⟨by rfl, ?hc_19⟩) (fun _ => hHeld) ?rc_19
            case hc_19 => (intro wS hSw; (try dsimp only at hSw); go_simp; all_goals with_reducible rfl)
            try simp only [Act.put, List.setIfInBounds_toArray, List.set_cons_zero, List.set_cons_succ]
            refine Reg.done (by kernel_rfl) ?_ _
            go_wp2
            go_roundw
            case rel => exact ⟨m + 1 + 1, by omega, by go_num, fun j hj => by
              by_cases e : j = m + 1
              · subst e
                exact ⟨by rw [Hkey.out]; omega, by rw [Hkey.out]; omega, fun m' hm => by
                  obtain rfl : m' = m := by omega
                  rw [Hy.out, Hkey.out]; exact Hyz.out⟩
              · exact Hg.out j (by omega), (Hbel.out.alloc hbs _).drew⟩
            case measure => simp [intOf]; omega
      · have hr' : zc < 0 ∨ (ws.length : Int) ≤ zc := by omega
        have Hr' := Lib.hid hr'
        have hbad : ¬ okCell es ws.length k := fun h => by
          have h1 := h.1
          have h2 := h.2.1
          rw [Hkey.out] at h1 h2
          exact hr ⟨h1, h2⟩
        have Hbad := Lib.hid hbad
        clear hr hr' hbad
        go_wp2_with fail
        refine Reg.start (fun w' => w'.cell? ⟨wr.heap.size, 0, none⟩ = some (.int .i64 zc)) [] (by kernel_rfl) ?_ (fun hHeld => ?_)
        · first | trivial | ((try dsimp only); simp [*])
        refine Reg.takeP (i := 0) (v := ?vd_0) rfl (by kernel_rfl) (by kernel_rfl) (by kernel_rfl) (by kernel_rfl) (fun _ _ _ h => h) (Or.inl ⟨by rfl, ?hd_0⟩) (fun _ => hHeld) ?rd_0
        case hd_0 => (intro wS hSw; (try dsimp only at hSw); go_simp; all_goals with_reducible rfl)
        try simp only [Act.put, List.setIfInBounds_toArray, List.set_cons_zero, List.set_cons_succ]
        refine Reg.takeP (i := 1) (v := ?vd_1) rfl (by kernel_rfl) (by kernel_rfl) (by kernel_rfl) (by kernel_rfl) (fun _ _ _ h => h) (Or.inl ⟨by rfl, ?hd_1⟩) (fun _ => hHeld) ?rd_1
        case hd_1 => (intro wS hSw; (try dsimp only at hSw); go_simp; all_goals with_reducible rfl)
        try simp only [Act.put, List.setIfInBounds_toArray, List.set_cons_zero, List.set_cons_succ]
        refine Reg.take (i := 2) (v := ?vd_2) rfl (by kernel_rfl) (by kernel_rfl) (by kernel_rfl) (by kernel_rfl) (fun _ _ _ h => h) (Or.inl ⟨by rfl, ?hd_2⟩) hHeld ?rd_2
        case hd_2 => (intro wS hSw; (try dsimp only at hSw); go_simp; all_goals with_reducible rfl)
        try simp only [Act.put, List.setIfInBounds_toArray, List.set_cons_zero, List.set_cons_succ]
        refine Reg.one (i := 3) rfl (by kernel_rfl) (fun K hK => ?_)
        (go_simp; refine (is_no b c made zc ws _ (Hj.out _) Hr'.out).mono ?_; rintro e w' ⟨rfl, rfl⟩; dsimp only)
        refine hK.out _ _ (fun _ => ?_) (fun hHeld => ?_)
        · first | trivial | ((try dsimp only); simp [*])
        replace hHeld := hHeld (by decide)
        clear hK K
        try simp only [Act.put, List.setIfInBounds_toArray, List.set_cons_zero, List.set_cons_succ]
        refine Reg.takeP (i := 4) (v := ?vd_4) rfl (by kernel_rfl) (by kernel_rfl) (by kernel_rfl) (by kernel_rfl) (fun _ _ _ h => h) (Or.inl ⟨by rfl, ?hd_4⟩) (fun _ => hHeld) ?rd_4
        case hd_4 => (intro wS hSw; (try dsimp only at hSw); go_simp; all_goals with_reducible rfl)
        try simp only [Act.put, List.setIfInBounds_toArray, List.set_cons_zero, List.set_cons_succ]
        refine Reg.takeP (i := 5) (v := ?vd_5) rfl (by kernel_rfl) (by kernel_rfl) (by kernel_rfl) (by kernel_rfl) (fun _ _ _ h => h) (Or.inl ⟨by rfl, ?hd_5⟩) (fun _ => hHeld) ?rd_5
        case hd_5 => (intro wS hSw; (try dsimp only at hSw); go_simp; all_goals with_reducible rfl)
        try simp only [Act.put, List.setIfInBounds_toArray, List.set_cons_zero, List.set_cons_succ]
        refine Reg.takeP (i := 6) (v := undef) rfl (by kernel_rfl) (by kernel_rfl) (by kernel_rfl) (by kernel_rfl) (fun _ _ _ h => h) (Or.inr ⟨by rfl, rfl⟩) (fun _ => hHeld) ?rd_6
        try simp only [Act.put, List.setIfInBounds_toArray, List.set_cons_zero, List.set_cons_succ]
        refine Reg.takeP (i := 7) (v := undef) rfl (by kernel_rfl) (by kernel_rfl) (by kernel_rfl) (by kernel_rfl) (fun _ _ _ h => h) (Or.inr ⟨by rfl, rfl⟩) (fun _ => hHeld) ?rd_7
        try simp only [Act.put, List.setIfInBounds_toArray, List.set_cons_zero, List.set_cons_succ]
        refine Reg.takeP (i := 8) (v := undef) rfl (by kernel_rfl) (by kernel_rfl) (by kernel_rfl) (by kernel_rfl) (fun _ _ _ h => h) (Or.inr ⟨by rfl, rfl⟩) (fun _ => hHeld) ?rd_8
        try simp only [Act.put, List.setIfInBounds_toArray, List.set_cons_zero, List.set_cons_succ]
        refine Reg.takeP (i := 9) (v := undef) rfl (by kernel_rfl) (by kernel_rfl) (by kernel_rfl) (by kernel_rfl) (fun _ _ _ h => h) (Or.inr ⟨by rfl, rfl⟩) (fun _ => hHeld) ?rd_9
        try simp only [Act.put, List.setIfInBounds_toArray, List.set_cons_zero, List.set_cons_succ]
        refine Reg.takeP (i := 10) (v := undef) rfl (by kernel_rfl) (by kernel_rfl) (by kernel_rfl) (by kernel_rfl) (fun _ _ _ h => h) (Or.inr ⟨by rfl, rfl⟩) (fun _ => hHeld) ?rd_10
        try simp only [Act.put, List.setIfInBounds_toArray, List.set_cons_zero, List.set_cons_succ]
        refine Reg.takeP (i := 11) (v := undef) rfl (by kernel_rfl) (by kernel_rfl) (by kernel_rfl) (by kernel_rfl) (fun _ _ _ h => h) (Or.inr ⟨by rfl, rfl⟩) (fun _ => hHeld) ?rd_11
        try simp only [Act.put, List.setIfInBounds_toArray, List.set_cons_zero, List.set_cons_succ]
        refine Reg.takeP (i := 12) (v := undef) rfl (by kernel_rfl) (by kernel_rfl) (by kernel_rfl) (by kernel_rfl) (fun _ _ _ h => h) (Or.inr ⟨by rfl, rfl⟩) (fun _ => hHeld) ?rd_12
        try simp only [Act.put, List.setIfInBounds_toArray, List.set_cons_zero, List.set_cons_succ]
        refine Reg.takeP (i := 13) (v := undef) rfl (by kernel_rfl) (by kernel_rfl) (by kernel_rfl) (by kernel_rfl) (fun _ _ _ h => h) (Or.inr ⟨by rfl, rfl⟩) (fun _ => hHeld) ?rd_13
        try simp only [Act.put, List.setIfInBounds_toArray, List.set_cons_zero, List.set_cons_succ]
        refine Reg.takeP (i := 14) (v := undef) rfl (by kernel_rfl) (by kernel_rfl) (by kernel_rfl) (by kernel_rfl) (fun _ _ _ h => h) (Or.inr ⟨by rfl, rfl⟩) (fun _ => hHeld) ?rd_14
        try simp only [Act.put, List.setIfInBounds_toArray, List.set_cons_zero, List.set_cons_succ]
        refine Reg.takeP (i := 15) (v := undef) rfl (by kernel_rfl) (by kernel_rfl) (by kernel_rfl) (by kernel_rfl) (fun _ _ _ h => h) (Or.inr ⟨by rfl, rfl⟩) (fun _ => hHeld) ?rd_15
        try simp only [Act.put, List.setIfInBounds_toArray, List.set_cons_zero, List.set_cons_succ]
        refine Reg.takeP (i := 16) (v := undef) rfl (by kernel_rfl) (by kernel_rfl) (by kernel_rfl) (by kernel_rfl) (fun _ _ _ h => h) (Or.inr ⟨by rfl, rfl⟩) (fun _ => hHeld) ?rd_16
        try simp only [Act.put, List.setIfInBounds_toArray, List.set_cons_zero, List.set_cons_succ]
        refine Reg.takeP (i := 17) (v := undef) rfl (by kernel_rfl) (by kernel_rfl) (by kernel_rfl) (by kernel_rfl) (fun _ _ _ h => h) (Or.inr ⟨by rfl, rfl⟩) (fun _ => hHeld) ?rd_17
        try simp only [Act.put, List.setIfInBounds_toArray, List.set_cons_zero, List.set_cons_succ]
        refine Reg.takeP (i := 18) (v := undef) rfl (by kernel_rfl) (by kernel_rfl) (by kernel_rfl) (by kernel_rfl) (fun _ _ _ h => h) (Or.inr ⟨by rfl, rfl⟩) (fun _ => hHeld) ?rd_18
        try simp only [Act.put, List.setIfInBounds_toArray, List.set_cons_zero, List.set_cons_succ]
        refine Reg.takeP (i := 19) (v := ?vd_19) rfl (by kernel_rfl) (by kernel_rfl) (by kernel_rfl) (by kernel_rfl) (fun _ _ _ h => h) (Or.inl ⟨by rfl, ?hd_19⟩) (fun _ => hHeld) ?rd_19
        case hd_19 => (intro wS hSw; (try dsimp only at hSw); go_simp; all_goals with_reducible rfl)
        try simp only [Act.put, List.setIfInBounds_toArray, List.set_cons_zero, List.set_cons_succ]
        refine Reg.done (by kernel_rfl) ?_ _
        go_wp2
        go_ret
        exact ⟨(Hbel.out.alloc hbs _).drew, fun _ _ _ => rfl, fun h => absurd (h _ hlt) Hbad.out, fun h => absurd (h _ hlt) Hbad.out⟩
    · have hk' : k = es.length := by omega
      subst hk'
      have hgood' := hgood
      have he' : AEntsAt s 0 es wr := He.out.of_block (hbel.block s hs)
      clear hgood
      by_cases hv : ∀ i, i < es.length → (es[i]!).lies
      · have hc := contains_good s cap es wr he' (by omega) (by omega) hv
        have Hc := Lib.hid hc
        have Hv := Lib.hid hv
        clear he' hc hv hgood' hbel
        go_wp2_with (go_at_call 52; refine Hc.out.mono ?_; rintro e w' ⟨rfl, hb'⟩; have Hb' := Lib.hid hb'; clear hb')
        go_ret
        exact ⟨Hbel.out.trans (Hb'.out.mono hbs), fun k hk h => absurd (Hg.out k hk) h, fun _ k hk h => absurd (Hv.out k hk) h, fun _ _ => rfl⟩
      · obtain ⟨j, hj, hbad⟩ : ∃ j, j < es.length ∧ ¬ (es[j]!).lies := by
          refine Classical.byContradiction fun hne => hv fun i hi => ?_
          exact Classical.byContradiction fun hb => hne ⟨i, hi, hb⟩
        have hc := contains_bad s cap j es wr he' (by omega) (by omega) hj hbad
        have Hc := Lib.hid hc
        have Hv := Lib.hid hv
        clear he' hc hv hgood' hbel hbad
        go_wp2_with (go_at_call 52; refine Hc.out.mono ?_; rintro e w' ⟨rfl, hb'⟩; have Hb' := Lib.hid hb'; clear hb')
        go_ret
        exact ⟨Hbel.out.trans (Hb'.out.mono hbs), fun k hk h => absurd (Hg.out k hk) h, fun _ _ _ _ => rfl, fun _ h => absurd h Hv.out⟩
end Go.Proofs.Ytadelkancmbanaa
