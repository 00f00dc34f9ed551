/-
  Sorting: two ranges of entries exchanged; a rotation.
-/
import Derived.Test.YtadelkancmbanaaJRot
namespace Go.Proofs.Ytadelkancmbanaa
open Go.RowKit
attribute [local go_sem ↓] Go.wp_at_zero Go.wp_at_succ

def TurnEnd (g : Nat) (f : Nat → Nat) (es : List AEnt) (w : World) (e : Ending) (w' : World) : Prop := e = .returned (.tuple #[]) ∧ ∃ es', Turned g f es w es' w'

set_option maxRecDepth 100000 in
set_option maxHeartbeats 4000000 in
theorem swapRange_any (g cap a b n : Nat) (es : List AEnt) (w : World) (h : ERow g es w) (hab : a + n ≤ b) (hb : b + n ≤ es.length) (hl : es.length ≤ 1000) (hg : g < w.heap.size) :
    Calls Try.prog 77 #[.slice (some ⟨g, 0, none⟩) es.length cap, .int .i64 a, .int .i64 b, .int .i64 n, .func (.func 32) #[] #[]] w (TurnEnd g (swapI a b n) es w) := by
  have H := Lib.hid h
  clear h
  go_enter Try.func77, Try.ntmps77
  go_wp2
  go_loopw [10] (fun i wr => ∃ k es', i = .int .i64 ((k : Nat) : Int) ∧ k ≤ n ∧ Turned g (swapI a b k) es w es' wr) (fun i _ => n - (intOf i).toNat)
  case atStart => exact ⟨0, es, rfl, Nat.zero_le _, (Turned.refl H.out).cast fun q => (swapI_zero a b q).symm⟩
  case round =>
    obtain ⟨k, es', rfl, hk, ht⟩ := hrel
    by_cases hlt : k < n
    · have hl2 := ht.length
      obtain ⟨x0, x1, x2⟩ := ht.row.ent (a + k) (by omega)
      obtain ⟨y0, y1, y2⟩ := ht.row.ent (b + k) (by omega)
      simp only [Nat.zero_add] at x0 x1 x2 y0 y1 y2
      have f0 := ht.row.frz ((a + k) * 3) (by omega)
      have f1 := ht.row.frz ((a + k) * 3 + 1) (by omega)
      have f2 := ht.row.frz ((a + k) * 3 + 2) (by omega)
      have f3 := ht.row.frz ((b + k) * 3) (by omega)
      have f4 := ht.row.frz ((b + k) * 3 + 1) (by omega)
      have f5 := ht.row.frz ((b + k) * 3 + 2) (by omega)
      generalize hx : es'[a + k]! = x at *
      generalize hy : es'[b + k]! = y at *
      obtain ⟨xc, xo, xn⟩ := x
      obtain ⟨yc, yo, yn⟩ := y
      dsimp only at x0 x1 x2 y0 y1 y2
      have Hx := Lib.hid hx
      have Hy := Lib.hid hy
      have Ht := Lib.hid ht
      have Hl2 := Lib.hid hl2
      clear hx hy ht hl2
      have b0 : (0 : Int) ≤ (a : Int) + (k : Int) := by omega
      have b1 : (a : Int) + (k : Int) < (es.length : Int) := by omega
      have b2 : (0 : Int) ≤ (b : Int) + (k : Int) := by omega
      have b3 : (b : Int) + (k : Int) < (es.length : Int) := by omega
      have hwa : IntKind.i64.wrap ((a : Int) + (k : Int)) = (a : Int) + k := by rw [IntKind.wrap_i64]; omega
      have hwb : IntKind.i64.wrap ((b : Int) + (k : Int)) = (b : Int) + k := by rw [IntKind.wrap_i64]; omega
      have ta : ((a : Int) + (k : Int)).toNat = a + k := by omega
      have tb : ((b : Int) + (k : Int)).toNat = b + k := by omega
      have nab : a + k ≠ b + k := by omega
      go_wp2_with fail
      refine Reg.start (fun w' => w'.cell? ⟨g, (a + k) * 3, none⟩ = some (.int .i64 xc) ∧ w'.cell? ⟨g, (a + k) * 3 + 1, none⟩ = some (.int .i64 xo) ∧ w'.cell? ⟨g, (a + k) * 3 + 2, none⟩ = some (.int .i64 xn) ∧ w'.cell? ⟨g, (b + k) * 3, none⟩ = some (.int .i64 yc) ∧ w'.cell? ⟨g, (b + k) * 3 + 1, none⟩ = some (.int .i64 yo) ∧ w'.cell? ⟨g, (b + k) * 3 + 2, none⟩ = some (.int .i64 yn)) [21, 23] (by kernel_rfl) ?_ (fun hHeld => ?_)
      · first | trivial | ((try dsimp only); exact ⟨x0, x1, x2, y0, y1, y2⟩)
      refine Reg.takeP (i := 0) (v := ?v77x3_0) rfl (by kernel_rfl) (by kernel_rfl) (by kernel_rfl) (by kernel_rfl) (fun _ _ _ h => h) (Or.inl ⟨by rfl, ?h77x3_0⟩) (fun _ => hHeld) ?r77x3_0
      case h77x3_0 => (intro wS hSw; (try dsimp only at hSw); go_simp; all_goals with_reducible rfl)
      try simp only [Act.put, List.setIfInBounds_toArray, List.set_cons_zero, List.set_cons_succ]
      refine Reg.takeP (i := 1) (v := ?v77x3_1) rfl (by kernel_rfl) (by kernel_rfl) (by kernel_rfl) (by kernel_rfl) (fun _ _ _ h => h) (Or.inl ⟨by rfl, ?h77x3_1⟩) (fun _ => hHeld) ?r77x3_1
      case h77x3_1 => (intro wS hSw; (try dsimp only at hSw); go_simp; all_goals with_reducible rfl)
      try simp only [Act.put, List.setIfInBounds_toArray, List.set_cons_zero, List.set_cons_succ]
      refine Reg.takeP (i := 2) (v := ?v77x3_2) rfl (by kernel_rfl) (by kernel_rfl) (by kernel_rfl) (by kernel_rfl) (fun _ _ _ h => h) (Or.inl ⟨by rfl, ?h77x3_2⟩) (fun _ => hHeld) ?r77x3_2
      case h77x3_2 => (intro wS hSw; (try dsimp only at hSw); go_simp; all_goals with_reducible rfl)
      try simp only [Act.put, List.setIfInBounds_toArray, List.set_cons_zero, List.set_cons_succ]
      refine Reg.takeP (i := 3) (v := ?v77x3_3) rfl (by kernel_rfl) (by kernel_rfl) (by kernel_rfl) (by kernel_rfl) (fun _ _ _ h => h) (Or.inl ⟨by rfl, ?h77x3_3⟩) (fun _ => hHeld) ?r77x3_3
      case h77x3_3 => (intro wS hSw; (try dsimp only at hSw); go_simp; all_goals with_reducible rfl)
      try simp only [Act.put, List.setIfInBounds_toArray, List.set_cons_zero, List.set_cons_succ]
      refine Reg.takeP (i := 4) (v := ?v77x3_4) rfl (by kernel_rfl) (by kernel_rfl) (by kernel_rfl) (by kernel_rfl) (fun _ _ _ h => h) (Or.inl ⟨by rfl, ?h77x3_4⟩) (fun _ => hHeld) ?r77x3_4
      case h77x3_4 => (intro wS hSw; (try dsimp only at hSw); go_simp; all_goals with_reducible rfl)
      try simp only [Act.put, List.setIfInBounds_toArray, List.set_cons_zero, List.set_cons_succ]
      refine Reg.takeP (i := 5) (v := ?v77x3_5) rfl (by kernel_rfl) (by kernel_rfl) (by kernel_rfl) (by kernel_rfl) (fun _ _ _ h => h) (Or.inl ⟨by rfl, ?h77x3_5⟩) (fun _ => hHeld) ?r77x3_5
      case h77x3_5 => (intro wS hSw; (try dsimp only at hSw); go_simp; all_goals with_reducible rfl)
      try simp only [Act.put, List.setIfInBounds_toArray, List.set_cons_zero, List.set_cons_succ]
      refine Reg.takeP (i := 6) (v := ?v77x3_6) rfl (by kernel_rfl) (by kernel_rfl) (by kernel_rfl) (by kernel_rfl) (fun _ _ _ h => h) (Or.inl ⟨by rfl, ?h77x3_6⟩) (fun _ => hHeld) ?r77x3_6
      case h77x3_6 => (intro wS hSw; (try dsimp only at hSw); go_simp; all_goals with_reducible rfl)
      try simp only [Act.put, List.setIfInBounds_toArray, List.set_cons_zero, List.set_cons_succ]
      refine Reg.takeP (i := 7) (v := ?v77x3_7) rfl (by kernel_rfl) (by kernel_rfl) (by kernel_rfl) (by kernel_rfl) (fun _ _ _ h => h) (Or.inl ⟨by rfl, ?h77x3_7⟩) (fun _ => hHeld) ?r77x3_7
      case h77x3_7 => (intro wS hSw; (try dsimp only at hSw); go_simp; all_goals with_reducible rfl)
      try simp only [Act.put, List.setIfInBounds_toArray, List.set_cons_zero, List.set_cons_succ]
      refine Reg.takeP (i := 8) (v := ?v77x3_8) rfl (by kernel_rfl) (by kernel_rfl) (by kernel_rfl) (by kernel_rfl) (fun _ _ _ h => h) (Or.inl ⟨by rfl, ?h77x3_8⟩) (fun _ => hHeld) ?r77x3_8
      case h77x3_8 => (intro wS hSw; (try dsimp only at hSw); go_simp; all_goals with_reducible rfl)
      try simp only [Act.put, List.setIfInBounds_toArray, List.set_cons_zero, List.set_cons_succ]
      refine Reg.takeP (i := 9) (v := ?v77x3_9) rfl (by kernel_rfl) (by kernel_rfl) (by kernel_rfl) (by kernel_rfl) (fun _ _ _ h => h) (Or.inl ⟨by rfl, ?h77x3_9⟩) (fun _ => hHeld) ?r77x3_9
      case h77x3_9 => (intro wS hSw; (try dsimp only at hSw); go_simp; all_goals with_reducible rfl)
      try simp only [Act.put, List.setIfInBounds_toArray, List.set_cons_zero, List.set_cons_succ]
      refine Reg.takeP (i := 10) (v := ?v77x3_10) rfl (by kernel_rfl) (by kernel_rfl) (by kernel_rfl) (by kernel_rfl) (fun _ _ _ h => h) (Or.inl ⟨by rfl, ?h77x3_10⟩) (fun _ => hHeld) ?r77x3_10
      case h77x3_10 => (intro wS hSw; (try dsimp only at hSw); go_simp; all_goals with_reducible rfl)
      try simp only [Act.put, List.setIfInBounds_toArray, List.set_cons_zero, List.set_cons_succ]
      refine Reg.takeP (i := 11) (v := ?v77x3_11) rfl (by kernel_rfl) (by kernel_rfl) (by kernel_rfl) (by kernel_rfl) (fun _ _ _ h => h) (Or.inl ⟨by rfl, ?h77x3_11⟩) (fun _ => hHeld) ?r77x3_11
      case h77x3_11 => (intro wS hSw; (try dsimp only at hSw); go_simp; all_goals with_reducible rfl)
      try simp only [Act.put, List.setIfInBounds_toArray, List.set_cons_zero, List.set_cons_succ]
      refine Reg.takeP (i := 12) (v := ?v77x3_12) rfl (by kernel_rfl) (by kernel_rfl) (by kernel_rfl) (by kernel_rfl) (fun _ _ _ h => h) (Or.inl ⟨by rfl, ?h77x3_12⟩) (fun _ => hHeld) ?r77x3_12
      case h77x3_12 => (intro wS hSw; (try dsimp only at hSw); go_simp; all_goals with_reducible rfl)
      try simp only [Act.put, List.setIfInBounds_toArray, List.set_cons_zero, List.set_cons_succ]
      refine Reg.take (i := 13) (v := ?v77x3_13) rfl (by kernel_rfl) (by kernel_rfl) (by kernel_rfl) (by kernel_rfl) (fun _ _ _ h => h) (Or.inl ⟨by rfl, ?h77x3_13⟩) hHeld ?r77x3_13
      case h77x3_13 => (intro wS hSw; (try dsimp only at hSw); go_simp; all_goals with_reducible rfl)
      try simp only [Act.put, List.setIfInBounds_toArray, List.set_cons_zero, List.set_cons_succ]
      refine Reg.takeP (i := 14) (v := ?v77x3_14) rfl (by kernel_rfl) (by kernel_rfl) (by kernel_rfl) (by kernel_rfl) (fun _ _ _ h => h) (Or.inl ⟨by rfl, ?h77x3_14⟩) (fun _ => hHeld) ?r77x3_14
      case h77x3_14 => (intro wS hSw; (try dsimp only at hSw); go_simp; all_goals with_reducible rfl)
      try simp only [Act.put, List.setIfInBounds_toArray, List.set_cons_zero, List.set_cons_succ]
      refine Reg.takeP (i := 15) (v := ?v77x3_15) rfl (by kernel_rfl) (by kernel_rfl) (by kernel_rfl) (by kernel_rfl) (fun _ _ _ h => h) (Or.inl ⟨by rfl, ?h77x3_15⟩) (fun _ => hHeld) ?r77x3_15
      case h77x3_15 => (intro wS hSw; (try dsimp only at hSw); go_simp; all_goals with_reducible rfl)
      try simp only [Act.put, List.setIfInBounds_toArray, List.set_cons_zero, List.set_cons_succ]
      refine Reg.takeP (i := 16) (v := ?v77x3_16) rfl (by kernel_rfl) (by kernel_rfl) (by kernel_rfl) (by kernel_rfl) (fun _ _ _ h => h) (Or.inl ⟨by rfl, ?h77x3_16⟩) (fun _ => hHeld) ?r77x3_16
      case h77x3_16 => (intro wS hSw; (try dsimp only at hSw); go_simp; all_goals with_reducible rfl)
      try simp only [Act.put, List.setIfInBounds_toArray, List.set_cons_zero, List.set_cons_succ]
      refine Reg.takeP (i := 17) (v := ?v77x3_17) rfl (by kernel_rfl) (by kernel_rfl) (by kernel_rfl) (by kernel_rfl) (fun _ _ _ h => h) (Or.inl ⟨by rfl, ?h77x3_17⟩) (fun _ => hHeld) ?r77x3_17
      case h77x3_17 => (intro wS hSw; (try dsimp only at hSw); go_simp; all_goals with_reducible rfl)
      try simp only [Act.put, List.setIfInBounds_toArray, List.set_cons_zero, List.set_cons_succ]
      refine Reg.takeP (i := 18) (v := ?v77x3_18) rfl (by kernel_rfl) (by kernel_rfl) (by kernel_rfl) (by kernel_rfl) (fun _ _ _ h => h) (Or.inl ⟨by rfl, ?h77x3_18⟩) (fun _ => hHeld) ?r77x3_18
      case h77x3_18 => (intro wS hSw; (try dsimp only at hSw); go_simp; all_goals with_reducible rfl)
      try simp only [Act.put, List.setIfInBounds_toArray, List.set_cons_zero, List.set_cons_succ]
      refine Reg.take (i := 19) (v := ?v77x3_19) rfl (by kernel_rfl) (by kernel_rfl) (by kernel_rfl) (by kernel_rfl) (fun _ _ _ h => h) (Or.inl ⟨by rfl, ?h77x3_19⟩) hHeld ?r77x3_19
      case h77x3_19 => (intro wS hSw; (try dsimp only at hSw); go_simp; all_goals with_reducible rfl)
      try simp only [Act.put, List.setIfInBounds_toArray, List.set_cons_zero, List.set_cons_succ]
      refine Reg.takeP (i := 20) (v := ?v77x3_20) rfl (by kernel_rfl) (by kernel_rfl) (by kernel_rfl) (by kernel_rfl) (fun _ _ _ h => h) (Or.inl ⟨by rfl, ?h77x3_20⟩) (fun _ => hHeld) ?r77x3_20
      case h77x3_20 => (intro wS hSw; (try dsimp only at hSw); go_simp; all_goals with_reducible rfl)
      try simp only [Act.put, List.setIfInBounds_toArray, List.set_cons_zero, List.set_cons_succ]
      refine Reg.one (i := 21) rfl (by kernel_rfl) (fun K hK => ?_)
      go_simp
      refine hK.out _ _ (fun hF => absurd hF (by decide)) (fun _ => ?_)
      clear hK K
      try simp only [Act.put, List.setIfInBounds_toArray, List.set_cons_zero, List.set_cons_succ]
      refine Reg.takeP (i := 22) (v := ?v77x3_22) rfl (by kernel_rfl) (by kernel_rfl) (by kernel_rfl) (by kernel_rfl) (fun _ _ _ h => h) (Or.inl ⟨by rfl, ?h77x3_22⟩) (fun hF => absurd hF (by decide)) ?r77x3_22
      case h77x3_22 => (intro wS hSw; (try dsimp only at hSw); go_simp; all_goals with_reducible rfl)
      try simp only [Act.put, List.setIfInBounds_toArray, List.set_cons_zero, List.set_cons_succ]
      refine Reg.one (i := 23) rfl (by kernel_rfl) (fun K hK => ?_)
      go_simp
      refine hK.out _ _ (fun hF => absurd hF (by decide)) (fun _ => ?_)
      clear hK K
      try simp only [Act.put, List.setIfInBounds_toArray, List.set_cons_zero, List.set_cons_succ]
      refine Reg.done (by kernel_rfl) ?_ _
      go_wp2
      go_roundw
      case rel =>
        have hl2 := Hl2.out
        have hsw := Ht.out.row.swap (i := a + k) (j := b + k) (by omega) (by omega) Hx.out Hy.out
        refine ⟨k + 1, swap2 es' (a + k) (b + k), by go_num, by omega, ?_, (swap2_perm _ _ _ (by omega) (by omega)).trans Ht.out.perm, fun q => ?_, ?_⟩
        · show ERow g _ (World.drew (putE g (b + k) ⟨xc, xo, xn⟩ (putE g (a + k) ⟨yc, yo, yn⟩ wr)))
          generalize putE g (b + k) ⟨xc, xo, xn⟩ (putE g (a + k) ⟨yc, yo, yn⟩ wr) = w5 at hsw ⊢
          exact hsw.of_block rfl
        · rw [swap2_get _ _ _ _ (by omega) (by omega), swapI_step _ _ _ _ (by omega), Ht.out.came, Ht.out.came, Ht.out.came, swapI_a _ _ _ (by omega)]
          have hbk : swapI a b k (b + k) = b + k := by rcases swapI_b a b k with e | e <;> omega
          rw [hbk]
          split
          · rfl
          · split <;> rfl
        · have k5 := (Ht.out.keep.putE (i := a + k) (x := ⟨yc, yo, yn⟩)).putE (i := b + k) (x := ⟨xc, xo, xn⟩)
          show Keep _ _ _ (World.drew (putE g (b + k) ⟨xc, xo, xn⟩ (putE g (a + k) ⟨yc, yo, yn⟩ wr)))
          exact k5.drew
      case measure => simp [intOf]; omega
    · have : n = k := by omega
      subst this
      go_wp2
      refine bodyPost_end (results_none rfl _ _ _) rfl ?_
      exact ⟨rfl, es', ht⟩

set_option maxRecDepth 100000 in
set_option maxHeartbeats 4000000 in
theorem rotate_any (g cap s m e : Nat) (es : List AEnt) (w : World) (h : ERow g es w) (hsm : s < m) (hme : m < e) (he : e ≤ es.length) (hl : es.length ≤ 1000) (hg : g < w.heap.size) :
    Calls Try.prog 76 #[.slice (some ⟨g, 0, none⟩) es.length cap, .int .i64 s, .int .i64 m, .int .i64 e, .func (.func 32) #[] #[]] w (TurnEnd g (rotI s m e) es w) := by
  have H := Lib.hid h
  clear h
  have d0 : (m : Int) - (s : Int) = ((m - s : Nat) : Int) := by omega
  have d1 : (e : Int) - (m : Int) = ((e - m : Nat) : Int) := by omega
  go_enter Try.func76, Try.ntmps76
  go_wp2
  go_loopw [10, 11] (fun iv jv wr => ∃ i j cur, iv = .int .i64 ((i : Nat) : Int) ∧ jv = .int .i64 ((j : Nat) : Int) ∧ 1 ≤ i ∧ 1 ≤ j ∧ i ≤ m ∧ m + j ≤ es.length ∧ ERow g cur wr ∧ cur.Perm es ∧ (∀ q, cur[rotI (m - i) m (m + j) q]! = es[rotI s m e q]!) ∧ Keep (· = g) w.heap.size w wr) (fun i j _ => (intOf i).toNat + (intOf j).toNat)
  case atStart => 
    refine ⟨m - s, e - m, es, by go_num, by go_num, by omega, by omega, by omega, by omega, H.out, List.Perm.refl _, fun q => ?_, Keep.refl _ _ _⟩
    rw [show m - (m - s) = s by omega, show m + (e - m) = e by omega]
  case round =>
    clear d0 d1
    obtain ⟨i, j, cur, rfl, rfl, hi1, hj1, him, hmj, hr, hp, hq, hk⟩ := hrel
    have hcl := hp.length_eq
    have hgr : g < wr.heap.size := by have := hk.size; omega
    have Hr := Lib.hid hr
    have Hp := Lib.hid hp
    have Hq := Lib.hid hq
    have Hk := Lib.hid hk
    have Hcl := Lib.hid hcl
    clear hr hp hq hk hcl
    have e1 : (m : Int) - (i : Int) = ((m - i : Nat) : Int) := by omega
    by_cases hij : i = j
    · subst hij
      have hc := swapRange_any g cap (m - i) m i cur wr Hr.out (by omega) (by rw [Hcl.out]; omega) (by rw [Hcl.out]; omega) hgr
      rw [Hcl.out, ← e1] at hc
      have Hc := Lib.hid hc
      clear hc e1
      go_wp2_with fail
      refine Hc.out.mono ?_
      rintro e' w2 ⟨rfl, es2, ht⟩
      have Ht := Lib.hid ht
      clear ht
      go_wp2
      refine bodyPost_end (results_none rfl _ _ _) rfl ?_
      refine ⟨rfl, es2, Ht.out.row, Ht.out.perm.trans Hp.out, fun q => ?_, Hk.out.trans (Ht.out.keep.mono Hk.out.size)⟩
      rw [Ht.out.came, rot_eq m i q him, Hq.out]
    · have hne : ((i : Int) == (j : Int)) = false := by rw [beq_eq_false_iff_ne]; omega
      by_cases hgt : j < i
      · have hd : decide ((j : Int) < (i : Int)) = true := by simpa using hgt
        have hc := swapRange_any g cap (m - i) m j cur wr Hr.out (by omega) (by rw [Hcl.out]; omega) (by rw [Hcl.out]; omega) hgr
        rw [Hcl.out, ← e1] at hc
        have Hc := Lib.hid hc
        clear hc e1
        go_wp2_with fail
        refine Hc.out.mono ?_
        rintro e' w2 ⟨rfl, es2, ht⟩
        have Ht := Lib.hid ht
        clear ht
        go_wp2
        go_roundw
        case rel =>
          refine ⟨i - j, j, es2, by go_num, rfl, by omega, hj1, by omega, hmj, Ht.out.row, Ht.out.perm.trans Hp.out, fun q => ?_, Hk.out.trans (Ht.out.keep.mono Hk.out.size)⟩
          rw [Ht.out.came, rot_gt m i j q hgt him, Hq.out]
        case measure => simp [intOf]; omega
      · have hlt : i < j := by omega
        have hd : decide ((j : Int) < (i : Int)) = false := by simp; omega
        have hc := swapRange_any g cap (m - i) (m + j - i) i cur wr Hr.out (by omega) (by rw [Hcl.out]; omega) (by rw [Hcl.out]; omega) hgr
        have e2 : ((m + j - i : Nat) : Int) = (m : Int) + (j : Int) - (i : Int) := by omega
        rw [Hcl.out, ← e1, e2] at hc
        have Hc := Lib.hid hc
        clear hc e1 e2
        go_wp2_with fail
        refine Hc.out.mono ?_
        rintro e' w2 ⟨rfl, es2, ht⟩
        have Ht := Lib.hid ht
        clear ht
        go_wp2
        go_roundw
        case rel =>
          refine ⟨i, j - i, es2, rfl, by go_num, hi1, by omega, him, by omega, Ht.out.row, Ht.out.perm.trans Hp.out, fun q => ?_, Hk.out.trans (Ht.out.keep.mono Hk.out.size)⟩
          rw [Ht.out.came, rot_lt m i j q hlt him, Hq.out]
        case measure => simp [intOf]; omega
end Go.Proofs.Ytadelkancmbanaa
