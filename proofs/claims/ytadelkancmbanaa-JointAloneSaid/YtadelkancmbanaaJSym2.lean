/-
  The merge of two sorted ranges, the second one of one entry.
-/
import Derived.Test.YtadelkancmbanaaJSym1
namespace Go.Proofs.Ytadelkancmbanaa
open Go.RowKit
attribute [local go_sem ↓] Go.wp_at_zero Go.wp_at_succ

theorem rotI_down (j m q : Nat) (h : j + 1 ≤ m) : rotI j m (m + 1) q = if q = j then rotI (j + 1) m (m + 1) (j + 1) else if q = j + 1 then rotI (j + 1) m (m + 1) j else rotI (j + 1) m (m + 1) q := by
  unfold rotI
  repeat' split
  all_goals omega

set_option maxRecDepth 100000 in
set_option maxHeartbeats 4000000 in
theorem symMerge_last (g cap a m b : Nat) (es : List AEnt) (w : World) (h : ERow g es w) (ham : a < m) (hm : m ≠ a + 1) (hmb : b = m + 1) (hb : b ≤ es.length) (hl : es.length ≤ 1000) (hg : g < w.heap.size) (hs : SortedOn es a m) :
    Calls Try.prog 73 #[.slice (some ⟨g, 0, none⟩) es.length cap, .int .i64 a, .int .i64 m, .int .i64 b, .func (.func 32) #[] #[]] w (InsEnd g a b es w) := by
  have H := Lib.hid h
  have hcall := callCmp
  clear h
  have d0 : ((m : Int) - (a : Int) == 1) = false := by rw [beq_eq_false_iff_ne]; omega
  have d1 : (b : Int) - (m : Int) = 1 := by omega
  have Hm := Lib.hid hmb
  have hmb2 : m < b := by omega
  clear hmb hm
  go_enter Try.func73, Try.ntmps73
  go_wp2
  go_loopw [14, 15] (fun iv jv wr => ∃ i j, iv = .int .i64 ((i : Nat) : Int) ∧ jv = .int .i64 ((j : Nat) : Int) ∧ a ≤ i ∧ i ≤ j ∧ j ≤ m ∧ Seek g es w wr ∧ (i = a ∨ key es (i - 1) ≤ key es m) ∧ (j = m ∨ key es m ≤ key es j)) (fun i j _ => (intOf j).toNat - (intOf i).toNat)
  case atStart => exact ⟨a, m, rfl, rfl, Nat.le_refl _, by omega, Nat.le_refl _, ⟨H.out, Keep.refl _ _ _⟩, .inl rfl, .inl rfl⟩
  case round =>
    obtain ⟨i, j, rfl, rfl, hi, hij, hjb, hk, lo, hi2⟩ := hrel
    by_cases hlt : i < j
    · obtain ⟨t, ht⟩ : ∃ t : Nat, t = (i + j) / 2 := ⟨_, rfl⟩
      have hti : ((i : Int) + (j : Int)) / 2 = (t : Int) := by omega
      have Hti := Lib.hid hti
      have h1t : i ≤ t := by omega
      have h2t : t < j := by omega
      clear ht hti
      obtain ⟨x0, x1, x2⟩ := hk.row.ent m (by omega)
      obtain ⟨y0, y1, y2⟩ := hk.row.ent t (by omega)
      simp only [Nat.zero_add] at x0 x1 x2 y0 y1 y2
      generalize hx : es[m]! = x at *
      generalize hy : es[t]! = y at *
      obtain ⟨xc, xo, xn⟩ := x
      obtain ⟨yc, yo, yn⟩ := y
      dsimp only at x0 x1 x2 y0 y1 y2
      have Hx := Lib.hid hx
      have Hy := Lib.hid hy
      have Hk := Lib.hid hk
      have Hlo := Lib.hid lo
      have Hhi := Lib.hid hi2
      clear hx hy hk lo hi2
      have b0 : (0 : Int) ≤ (t : Int) := by omega
      have b1 : (t : Int) < (es.length : Int) := by omega
      have b2 : (0 : Int) ≤ (m : Int) := by omega
      have b3 : (m : Int) < (es.length : Int) := by omega
      go_wp2_with fail
      rw [Hti.out]
      by_cases hxy : xc < yc
      · have hd : decide (xc < yc) = true := by simpa using hxy
        have hcm := cmp_lt xc yc
        rw [hd] at hcm
        refine Reg.start (fun w' => w'.cell? ⟨g, m * 3, none⟩ = some (.int .i64 xc) ∧ w'.cell? ⟨g, m * 3 + 1, none⟩ = some (.int .i64 xo) ∧ w'.cell? ⟨g, m * 3 + 2, none⟩ = some (.int .i64 xn) ∧ w'.cell? ⟨g, t * 3, none⟩ = some (.int .i64 yc) ∧ w'.cell? ⟨g, t * 3 + 1, none⟩ = some (.int .i64 yo) ∧ w'.cell? ⟨g, t * 3 + 2, none⟩ = some (.int .i64 yn)) [9] (by kernel_rfl) ?_ (fun hHeld => ?_)
        · first | trivial | ((try dsimp only); exact ⟨x0, x1, x2, y0, y1, y2⟩)
        refine Reg.takeP (i := 0) (v := ?v73x17_0) rfl (by kernel_rfl) (by kernel_rfl) (by kernel_rfl) (by kernel_rfl) (fun _ _ _ h => h) (Or.inl ⟨by rfl, ?h73x17_0⟩) (fun _ => hHeld) ?r73x17_0
        case h73x17_0 => (intro wS hSw; (try dsimp only at hSw); go_simp; all_goals with_reducible rfl)
        try simp only [Act.put, List.setIfInBounds_toArray, List.set_cons_zero, List.set_cons_succ]
        refine Reg.takeP (i := 1) (v := ?v73x17_1) rfl (by kernel_rfl) (by kernel_rfl) (by kernel_rfl) (by kernel_rfl) (fun _ _ _ h => h) (Or.inl ⟨by rfl, ?h73x17_1⟩) (fun _ => hHeld) ?r73x17_1
        case h73x17_1 => (intro wS hSw; (try dsimp only at hSw); go_simp; all_goals with_reducible rfl)
        try simp only [Act.put, List.setIfInBounds_toArray, List.set_cons_zero, List.set_cons_succ]
        refine Reg.takeP (i := 2) (v := ?v73x17_2) rfl (by kernel_rfl) (by kernel_rfl) (by kernel_rfl) (by kernel_rfl) (fun _ _ _ h => h) (Or.inl ⟨by rfl, ?h73x17_2⟩) (fun _ => hHeld) ?r73x17_2
        case h73x17_2 => (intro wS hSw; (try dsimp only at hSw); go_simp; all_goals with_reducible rfl)
        try simp only [Act.put, List.setIfInBounds_toArray, List.set_cons_zero, List.set_cons_succ]
        refine Reg.takeP (i := 3) (v := ?v73x17_3) rfl (by kernel_rfl) (by kernel_rfl) (by kernel_rfl) (by kernel_rfl) (fun _ _ _ h => h) (Or.inl ⟨by rfl, ?h73x17_3⟩) (fun _ => hHeld) ?r73x17_3
        case h73x17_3 => (intro wS hSw; (try dsimp only at hSw); go_simp; all_goals with_reducible rfl)
        try simp only [Act.put, List.setIfInBounds_toArray, List.set_cons_zero, List.set_cons_succ]
        refine Reg.take (i := 4) (v := ?v73x17_4) rfl (by kernel_rfl) (by kernel_rfl) (by kernel_rfl) (by kernel_rfl) (fun _ _ _ h => h) (Or.inl ⟨by rfl, ?h73x17_4⟩) hHeld ?r73x17_4
        case h73x17_4 => (intro wS hSw; (try dsimp only at hSw); go_simp; all_goals with_reducible rfl)
        try simp only [Act.put, List.setIfInBounds_toArray, List.set_cons_zero, List.set_cons_succ]
        refine Reg.takeP (i := 5) (v := ?v73x17_5) rfl (by kernel_rfl) (by kernel_rfl) (by kernel_rfl) (by kernel_rfl) (fun _ _ _ h => h) (Or.inl ⟨by rfl, ?h73x17_5⟩) (fun _ => hHeld) ?r73x17_5
        case h73x17_5 => (intro wS hSw; (try dsimp only at hSw); go_simp; all_goals with_reducible rfl)
        try simp only [Act.put, List.setIfInBounds_toArray, List.set_cons_zero, List.set_cons_succ]
        refine Reg.takeP (i := 6) (v := ?v73x17_6) rfl (by kernel_rfl) (by kernel_rfl) (by kernel_rfl) (by kernel_rfl) (fun _ _ _ h => h) (Or.inl ⟨by rfl, ?h73x17_6⟩) (fun _ => hHeld) ?r73x17_6
        case h73x17_6 => (intro wS hSw; (try dsimp only at hSw); go_simp; all_goals with_reducible rfl)
        try simp only [Act.put, List.setIfInBounds_toArray, List.set_cons_zero, List.set_cons_succ]
        refine Reg.takeP (i := 7) (v := ?v73x17_7) rfl (by kernel_rfl) (by kernel_rfl) (by kernel_rfl) (by kernel_rfl) (fun _ _ _ h => h) (Or.inl ⟨by rfl, ?h73x17_7⟩) (fun _ => hHeld) ?r73x17_7
        case h73x17_7 => (intro wS hSw; (try dsimp only at hSw); go_simp; all_goals with_reducible rfl)
        try simp only [Act.put, List.setIfInBounds_toArray, List.set_cons_zero, List.set_cons_succ]
        refine Reg.take (i := 8) (v := ?v73x17_8) rfl (by kernel_rfl) (by kernel_rfl) (by kernel_rfl) (by kernel_rfl) (fun _ _ _ h => h) (Or.inl ⟨by rfl, ?h73x17_8⟩) hHeld ?r73x17_8
        case h73x17_8 => (intro wS hSw; (try dsimp only at hSw); go_simp; all_goals with_reducible rfl)
        try simp only [Act.put, List.setIfInBounds_toArray, List.set_cons_zero, List.set_cons_succ]
        refine Reg.one (i := 9) rfl (by kernel_rfl) (fun K hK => ?_)
        (go_simp; refine (cmp_ents ⟨xc, xo, xn⟩ ⟨yc, yo, yn⟩ _).mono ?_; rintro e w4 ⟨rfl, hw4⟩; have Hw4 := Lib.hid hw4; clear hw4; dsimp only)
        refine hK.out _ _ (fun hF => absurd hF (by decide)) (fun _ => ?_)
        clear hK K
        try simp only [Act.put, List.setIfInBounds_toArray, List.set_cons_zero, List.set_cons_succ]
        refine Reg.takeP (i := 10) (v := ?v73x17_10) rfl (by kernel_rfl) (by kernel_rfl) (by kernel_rfl) (by kernel_rfl) (fun _ _ _ h => h) (Or.inl ⟨by rfl, ?h73x17_10⟩) (fun hF => absurd hF (by decide)) ?r73x17_10
        case h73x17_10 => (intro wS hSw; (try dsimp only at hSw); go_simp; all_goals with_reducible rfl)
        try simp only [Act.put, List.setIfInBounds_toArray, List.set_cons_zero, List.set_cons_succ]
        refine Reg.takeP (i := 11) (v := ?v73x17_11) rfl (by kernel_rfl) (by kernel_rfl) (by kernel_rfl) (by kernel_rfl) (fun _ _ _ h => h) (Or.inl ⟨by rfl, ?h73x17_11⟩) (fun hF => absurd hF (by decide)) ?r73x17_11
        case h73x17_11 => (intro wS hSw; (try dsimp only at hSw); go_simp; all_goals with_reducible rfl)
        try simp only [Act.put, List.setIfInBounds_toArray, List.set_cons_zero, List.set_cons_succ]
        refine Reg.done (by kernel_rfl) ?_ _
        go_wp2
        go_roundw
        case rel => exact ⟨i, t, rfl, rfl, hi, h1t, by omega, Hk.out.laid hg Hw4.out, Hlo.out, .inr (by unfold key; rw [Hx.out, Hy.out]; dsimp only; omega)⟩
        case measure => simp [intOf]; omega
      · have hd : decide (xc < yc) = false := by simpa using hxy
        have hcm := cmp_lt xc yc
        rw [hd] at hcm
        refine Reg.start (fun w' => w'.cell? ⟨g, m * 3, none⟩ = some (.int .i64 xc) ∧ w'.cell? ⟨g, m * 3 + 1, none⟩ = some (.int .i64 xo) ∧ w'.cell? ⟨g, m * 3 + 2, none⟩ = some (.int .i64 xn) ∧ w'.cell? ⟨g, t * 3, none⟩ = some (.int .i64 yc) ∧ w'.cell? ⟨g, t * 3 + 1, none⟩ = some (.int .i64 yo) ∧ w'.cell? ⟨g, t * 3 + 2, none⟩ = some (.int .i64 yn)) [9] (by kernel_rfl) ?_ (fun hHeld => ?_)
        · first | trivial | ((try dsimp only); exact ⟨x0, x1, x2, y0, y1, y2⟩)
        refine Reg.takeP (i := 0) (v := ?vb_0) rfl (by kernel_rfl) (by kernel_rfl) (by kernel_rfl) (by kernel_rfl) (fun _ _ _ h => h) (Or.inl ⟨by rfl, ?hb_0⟩) (fun _ => hHeld) ?rb_0
        case hb_0 => (intro wS hSw; (try dsimp only at hSw); go_simp; all_goals with_reducible rfl)
        try simp only [Act.put, List.setIfInBounds_toArray, List.set_cons_zero, List.set_cons_succ]
        refine Reg.takeP (i := 1) (v := ?vb_1) rfl (by kernel_rfl) (by kernel_rfl) (by kernel_rfl) (by kernel_rfl) (fun _ _ _ h => h) (Or.inl ⟨by rfl, ?hb_1⟩) (fun _ => hHeld) ?rb_1
        case hb_1 => (intro wS hSw; (try dsimp only at hSw); go_simp; all_goals with_reducible rfl)
        try simp only [Act.put, List.setIfInBounds_toArray, List.set_cons_zero, List.set_cons_succ]
        refine Reg.takeP (i := 2) (v := ?vb_2) rfl (by kernel_rfl) (by kernel_rfl) (by kernel_rfl) (by kernel_rfl) (fun _ _ _ h => h) (Or.inl ⟨by rfl, ?hb_2⟩) (fun _ => hHeld) ?rb_2
        case hb_2 => (intro wS hSw; (try dsimp only at hSw); go_simp; all_goals with_reducible rfl)
        try simp only [Act.put, List.setIfInBounds_toArray, List.set_cons_zero, List.set_cons_succ]
        refine Reg.takeP (i := 3) (v := ?vb_3) rfl (by kernel_rfl) (by kernel_rfl) (by kernel_rfl) (by kernel_rfl) (fun _ _ _ h => h) (Or.inl ⟨by rfl, ?hb_3⟩) (fun _ => hHeld) ?rb_3
        case hb_3 => (intro wS hSw; (try dsimp only at hSw); go_simp; all_goals with_reducible rfl)
        try simp only [Act.put, List.setIfInBounds_toArray, List.set_cons_zero, List.set_cons_succ]
        refine Reg.take (i := 4) (v := ?vb_4) rfl (by kernel_rfl) (by kernel_rfl) (by kernel_rfl) (by kernel_rfl) (fun _ _ _ h => h) (Or.inl ⟨by rfl, ?hb_4⟩) hHeld ?rb_4
        case hb_4 => (intro wS hSw; (try dsimp only at hSw); go_simp; all_goals with_reducible rfl)
        try simp only [Act.put, List.setIfInBounds_toArray, List.set_cons_zero, List.set_cons_succ]
        refine Reg.takeP (i := 5) (v := ?vb_5) rfl (by kernel_rfl) (by kernel_rfl) (by kernel_rfl) (by kernel_rfl) (fun _ _ _ h => h) (Or.inl ⟨by rfl, ?hb_5⟩) (fun _ => hHeld) ?rb_5
        case hb_5 => (intro wS hSw; (try dsimp only at hSw); go_simp; all_goals with_reducible rfl)
        try simp only [Act.put, List.setIfInBounds_toArray, List.set_cons_zero, List.set_cons_succ]
        refine Reg.takeP (i := 6) (v := ?vb_6) rfl (by kernel_rfl) (by kernel_rfl) (by kernel_rfl) (by kernel_rfl) (fun _ _ _ h => h) (Or.inl ⟨by rfl, ?hb_6⟩) (fun _ => hHeld) ?rb_6
        case hb_6 => (intro wS hSw; (try dsimp only at hSw); go_simp; all_goals with_reducible rfl)
        try simp only [Act.put, List.setIfInBounds_toArray, List.set_cons_zero, List.set_cons_succ]
        refine Reg.takeP (i := 7) (v := ?vb_7) rfl (by kernel_rfl) (by kernel_rfl) (by kernel_rfl) (by kernel_rfl) (fun _ _ _ h => h) (Or.inl ⟨by rfl, ?hb_7⟩) (fun _ => hHeld) ?rb_7
        case hb_7 => (intro wS hSw; (try dsimp only at hSw); go_simp; all_goals with_reducible rfl)
        try simp only [Act.put, List.setIfInBounds_toArray, List.set_cons_zero, List.set_cons_succ]
        refine Reg.take (i := 8) (v := ?vb_8) rfl (by kernel_rfl) (by kernel_rfl) (by kernel_rfl) (by kernel_rfl) (fun _ _ _ h => h) (Or.inl ⟨by rfl, ?hb_8⟩) hHeld ?rb_8
        case hb_8 => (intro wS hSw; (try dsimp only at hSw); go_simp; all_goals with_reducible rfl)
        try simp only [Act.put, List.setIfInBounds_toArray, List.set_cons_zero, List.set_cons_succ]
        refine Reg.one (i := 9) rfl (by kernel_rfl) (fun K hK => ?_)
        (go_simp; refine (cmp_ents ⟨xc, xo, xn⟩ ⟨yc, yo, yn⟩ _).mono ?_; rintro e w4 ⟨rfl, hw4⟩; have Hw4 := Lib.hid hw4; clear hw4; dsimp only)
        refine hK.out _ _ (fun hF => absurd hF (by decide)) (fun _ => ?_)
        clear hK K
        try simp only [Act.put, List.setIfInBounds_toArray, List.set_cons_zero, List.set_cons_succ]
        refine Reg.takeP (i := 10) (v := ?vb_10) rfl (by kernel_rfl) (by kernel_rfl) (by kernel_rfl) (by kernel_rfl) (fun _ _ _ h => h) (Or.inl ⟨by rfl, ?hb_10⟩) (fun hF => absurd hF (by decide)) ?rb_10
        case hb_10 => (intro wS hSw; (try dsimp only at hSw); go_simp; all_goals with_reducible rfl)
        try simp only [Act.put, List.setIfInBounds_toArray, List.set_cons_zero, List.set_cons_succ]
        refine Reg.takeP (i := 11) (v := ?vb_11) rfl (by kernel_rfl) (by kernel_rfl) (by kernel_rfl) (by kernel_rfl) (fun _ _ _ h => h) (Or.inl ⟨by rfl, ?hb_11⟩) (fun hF => absurd hF (by decide)) ?rb_11
        case hb_11 => (intro wS hSw; (try dsimp only at hSw); go_simp; all_goals with_reducible rfl)
        try simp only [Act.put, List.setIfInBounds_toArray, List.set_cons_zero, List.set_cons_succ]
        refine Reg.done (by kernel_rfl) ?_ _
        go_wp2
        go_roundw
        case rel => exact ⟨t + 1, j, by go_num, rfl, by omega, by omega, hjb, Hk.out.laid hg Hw4.out, .inr (by unfold key; rw [Nat.add_sub_cancel, Hx.out, Hy.out]; dsimp only; omega), Hhi.out⟩
        case measure => simp [intOf]; omega
    · obtain rfl : i = j := by omega
      have Hk := Lib.hid hk
      have Hlo := Lib.hid lo
      have Hhi := Lib.hid hi2
      clear hk lo hi2
      go_wp2
      go_loopw [17] (fun kv wi => ∃ k es', kv = .int .i64 ((k : Nat) : Int) ∧ i ≤ k ∧ k ≤ m ∧ Turned g (rotI k m (m + 1)) es w es' wi) (fun kv _ => (intOf kv).toNat)
      case atStart => exact ⟨m, es, rfl, by omega, Nat.le_refl _, Hk.out.row, List.Perm.refl _, fun q => by rw [rotI_same (.inl rfl)], Hk.out.keep⟩
      case round =>
        obtain ⟨k, es', rfl, hik, hkm, ht⟩ := hrel
        have Ht := Lib.hid ht
        have Hl2 := Lib.hid ht.length
        by_cases hlt2 : i < k
        · obtain ⟨j, rfl⟩ : ∃ j, k = j + 1 := ⟨k - 1, by omega⟩
          obtain ⟨x0, x1, x2⟩ := ht.row.ent (j + 1) (by rw [Hl2.out]; omega)
          obtain ⟨y0, y1, y2⟩ := ht.row.ent j (by rw [Hl2.out]; omega)
          simp only [Nat.zero_add] at x0 x1 x2 y0 y1 y2
          have f0 := ht.row.frz ((j + 1) * 3) (by rw [Hl2.out]; omega)
          have f1 := ht.row.frz ((j + 1) * 3 + 1) (by rw [Hl2.out]; omega)
          have f2 := ht.row.frz ((j + 1) * 3 + 2) (by rw [Hl2.out]; omega)
          have f3 := ht.row.frz (j * 3) (by rw [Hl2.out]; omega)
          have f4 := ht.row.frz (j * 3 + 1) (by rw [Hl2.out]; omega)
          have f5 := ht.row.frz (j * 3 + 2) (by rw [Hl2.out]; omega)
          clear ht
          generalize hx : es'[j + 1]! = x at *
          generalize hy : es'[j]! = y at *
          obtain ⟨xc, xo, xn⟩ := x
          obtain ⟨yc, yo, yn⟩ := y
          dsimp only at x0 x1 x2 y0 y1 y2
          have Hx := Lib.hid hx
          have Hy := Lib.hid hy
          clear hx hy
          have hd : decide ((i : Int) < (j : Int) + 1) = true := by simp; omega
          have b0 : (0 : Int) ≤ (j : Int) := by omega
          have b1 : (j : Int) < (es.length : Int) := by omega
          have b2 : (0 : Int) ≤ (j : Int) + 1 := by omega
          have b3 : (j : Int) + 1 < (es.length : Int) := by omega
          have njj : j ≠ j + 1 := by omega
          have hwj : IntKind.i64.wrap (j : Int) = (j : Int) := by rw [IntKind.wrap_i64]; omega
          have tj : ((j : Int) + 1).toNat = j + 1 := by omega
          go_wp2_with fail
          refine Reg.start (fun w' => w'.cell? ⟨g, (j + 1) * 3, none⟩ = some (.int .i64 xc) ∧ w'.cell? ⟨g, (j + 1) * 3 + 1, none⟩ = some (.int .i64 xo) ∧ w'.cell? ⟨g, (j + 1) * 3 + 2, none⟩ = some (.int .i64 xn) ∧ w'.cell? ⟨g, j * 3, none⟩ = some (.int .i64 yc) ∧ w'.cell? ⟨g, j * 3 + 1, none⟩ = some (.int .i64 yo) ∧ w'.cell? ⟨g, j * 3 + 2, none⟩ = some (.int .i64 yn)) [15, 17] (by kernel_rfl) ?_ (fun hHeld => ?_)
          · first | trivial | ((try dsimp only); exact ⟨x0, x1, x2, y0, y1, y2⟩)
          refine Reg.takeP (i := 0) (v := ?v73x23_0) rfl (by kernel_rfl) (by kernel_rfl) (by kernel_rfl) (by kernel_rfl) (fun _ _ _ h => h) (Or.inl ⟨by rfl, ?h73x23_0⟩) (fun _ => hHeld) ?r73x23_0
          case h73x23_0 => (intro wS hSw; (try dsimp only at hSw); go_simp; all_goals with_reducible rfl)
          try simp only [Act.put, List.setIfInBounds_toArray, List.set_cons_zero, List.set_cons_succ]
          refine Reg.takeP (i := 1) (v := ?v73x23_1) rfl (by kernel_rfl) (by kernel_rfl) (by kernel_rfl) (by kernel_rfl) (fun _ _ _ h => h) (Or.inl ⟨by rfl, ?h73x23_1⟩) (fun _ => hHeld) ?r73x23_1
          case h73x23_1 => (intro wS hSw; (try dsimp only at hSw); go_simp; all_goals with_reducible rfl)
          try simp only [Act.put, List.setIfInBounds_toArray, List.set_cons_zero, List.set_cons_succ]
          refine Reg.takeP (i := 2) (v := ?v73x23_2) rfl (by kernel_rfl) (by kernel_rfl) (by kernel_rfl) (by kernel_rfl) (fun _ _ _ h => h) (Or.inl ⟨by rfl, ?h73x23_2⟩) (fun _ => hHeld) ?r73x23_2
          case h73x23_2 => (intro wS hSw; (try dsimp only at hSw); go_simp; all_goals with_reducible rfl)
          try simp only [Act.put, List.setIfInBounds_toArray, List.set_cons_zero, List.set_cons_succ]
          refine Reg.takeP (i := 3) (v := ?v73x23_3) rfl (by kernel_rfl) (by kernel_rfl) (by kernel_rfl) (by kernel_rfl) (fun _ _ _ h => h) (Or.inl ⟨by rfl, ?h73x23_3⟩) (fun _ => hHeld) ?r73x23_3
          case h73x23_3 => (intro wS hSw; (try dsimp only at hSw); go_simp; all_goals with_reducible rfl)
          try simp only [Act.put, List.setIfInBounds_toArray, List.set_cons_zero, List.set_cons_succ]
          refine Reg.takeP (i := 4) (v := ?v73x23_4) rfl (by kernel_rfl) (by kernel_rfl) (by kernel_rfl) (by kernel_rfl) (fun _ _ _ h => h) (Or.inl ⟨by rfl, ?h73x23_4⟩) (fun _ => hHeld) ?r73x23_4
          case h73x23_4 => (intro wS hSw; (try dsimp only at hSw); go_simp; all_goals with_reducible rfl)
          try simp only [Act.put, List.setIfInBounds_toArray, List.set_cons_zero, List.set_cons_succ]
          refine Reg.takeP (i := 5) (v := ?v73x23_5) rfl (by kernel_rfl) (by kernel_rfl) (by kernel_rfl) (by kernel_rfl) (fun _ _ _ h => h) (Or.inl ⟨by rfl, ?h73x23_5⟩) (fun _ => hHeld) ?r73x23_5
          case h73x23_5 => (intro wS hSw; (try dsimp only at hSw); go_simp; all_goals with_reducible rfl)
          try simp only [Act.put, List.setIfInBounds_toArray, List.set_cons_zero, List.set_cons_succ]
          refine Reg.takeP (i := 6) (v := ?v73x23_6) rfl (by kernel_rfl) (by kernel_rfl) (by kernel_rfl) (by kernel_rfl) (fun _ _ _ h => h) (Or.inl ⟨by rfl, ?h73x23_6⟩) (fun _ => hHeld) ?r73x23_6
          case h73x23_6 => (intro wS hSw; (try dsimp only at hSw); go_simp; all_goals with_reducible rfl)
          try simp only [Act.put, List.setIfInBounds_toArray, List.set_cons_zero, List.set_cons_succ]
          refine Reg.takeP (i := 7) (v := ?v73x23_7) rfl (by kernel_rfl) (by kernel_rfl) (by kernel_rfl) (by kernel_rfl) (fun _ _ _ h => h) (Or.inl ⟨by rfl, ?h73x23_7⟩) (fun _ => hHeld) ?r73x23_7
          case h73x23_7 => (intro wS hSw; (try dsimp only at hSw); go_simp; all_goals with_reducible rfl)
          try simp only [Act.put, List.setIfInBounds_toArray, List.set_cons_zero, List.set_cons_succ]
          refine Reg.takeP (i := 8) (v := ?v73x23_8) rfl (by kernel_rfl) (by kernel_rfl) (by kernel_rfl) (by kernel_rfl) (fun _ _ _ h => h) (Or.inl ⟨by rfl, ?h73x23_8⟩) (fun _ => hHeld) ?r73x23_8
          case h73x23_8 => (intro wS hSw; (try dsimp only at hSw); go_simp; all_goals with_reducible rfl)
          try simp only [Act.put, List.setIfInBounds_toArray, List.set_cons_zero, List.set_cons_succ]
          refine Reg.take (i := 9) (v := ?v73x23_9) rfl (by kernel_rfl) (by kernel_rfl) (by kernel_rfl) (by kernel_rfl) (fun _ _ _ h => h) (Or.inl ⟨by rfl, ?h73x23_9⟩) hHeld ?r73x23_9
          case h73x23_9 => (intro wS hSw; (try dsimp only at hSw); go_simp; all_goals with_reducible rfl)
          try simp only [Act.put, List.setIfInBounds_toArray, List.set_cons_zero, List.set_cons_succ]
          refine Reg.takeP (i := 10) (v := ?v73x23_10) rfl (by kernel_rfl) (by kernel_rfl) (by kernel_rfl) (by kernel_rfl) (fun _ _ _ h => h) (Or.inl ⟨by rfl, ?h73x23_10⟩) (fun _ => hHeld) ?r73x23_10
          case h73x23_10 => (intro wS hSw; (try dsimp only at hSw); go_simp; all_goals with_reducible rfl)
          try simp only [Act.put, List.setIfInBounds_toArray, List.set_cons_zero, List.set_cons_succ]
          refine Reg.takeP (i := 11) (v := ?v73x23_11) rfl (by kernel_rfl) (by kernel_rfl) (by kernel_rfl) (by kernel_rfl) (fun _ _ _ h => h) (Or.inl ⟨by rfl, ?h73x23_11⟩) (fun _ => hHeld) ?r73x23_11
          case h73x23_11 => (intro wS hSw; (try dsimp only at hSw); go_simp; all_goals with_reducible rfl)
          try simp only [Act.put, List.setIfInBounds_toArray, List.set_cons_zero, List.set_cons_succ]
          refine Reg.takeP (i := 12) (v := ?v73x23_12) rfl (by kernel_rfl) (by kernel_rfl) (by kernel_rfl) (by kernel_rfl) (fun _ _ _ h => h) (Or.inl ⟨by rfl, ?h73x23_12⟩) (fun _ => hHeld) ?r73x23_12
          case h73x23_12 => (intro wS hSw; (try dsimp only at hSw); go_simp; all_goals with_reducible rfl)
          try simp only [Act.put, List.setIfInBounds_toArray, List.set_cons_zero, List.set_cons_succ]
          refine Reg.take (i := 13) (v := ?v73x23_13) rfl (by kernel_rfl) (by kernel_rfl) (by kernel_rfl) (by kernel_rfl) (fun _ _ _ h => h) (Or.inl ⟨by rfl, ?h73x23_13⟩) hHeld ?r73x23_13
          case h73x23_13 => (intro wS hSw; (try dsimp only at hSw); go_simp; all_goals with_reducible rfl)
          try simp only [Act.put, List.setIfInBounds_toArray, List.set_cons_zero, List.set_cons_succ]
          refine Reg.takeP (i := 14) (v := ?v73x23_14) rfl (by kernel_rfl) (by kernel_rfl) (by kernel_rfl) (by kernel_rfl) (fun _ _ _ h => h) (Or.inl ⟨by rfl, ?h73x23_14⟩) (fun _ => hHeld) ?r73x23_14
          case h73x23_14 => (intro wS hSw; (try dsimp only at hSw); go_simp; all_goals with_reducible rfl)
          try simp only [Act.put, List.setIfInBounds_toArray, List.set_cons_zero, List.set_cons_succ]
          refine Reg.one (i := 15) rfl (by kernel_rfl) (fun K hK => ?_)
          go_simp
          refine hK.out _ _ (fun hF => absurd hF (by decide)) (fun _ => ?_)
          clear hK K
          try simp only [Act.put, List.setIfInBounds_toArray, List.set_cons_zero, List.set_cons_succ]
          refine Reg.takeP (i := 16) (v := ?v73x23_16) rfl (by kernel_rfl) (by kernel_rfl) (by kernel_rfl) (by kernel_rfl) (fun _ _ _ h => h) (Or.inl ⟨by rfl, ?h73x23_16⟩) (fun hF => absurd hF (by decide)) ?r73x23_16
          case h73x23_16 => (intro wS hSw; (try dsimp only at hSw); go_simp; all_goals with_reducible rfl)
          try simp only [Act.put, List.setIfInBounds_toArray, List.set_cons_zero, List.set_cons_succ]
          refine Reg.one (i := 17) rfl (by kernel_rfl) (fun K hK => ?_)
          go_simp
          refine hK.out _ _ (fun hF => absurd hF (by decide)) (fun _ => ?_)
          clear hK K
          try simp only [Act.put, List.setIfInBounds_toArray, List.set_cons_zero, List.set_cons_succ]
          refine Reg.done (by kernel_rfl) ?_ _
          go_wp2
          go_roundw
          case rel =>
            have hl2 := Hl2.out
            have hsw := Ht.out.row.swap (i := j + 1) (j := j) (by omega) (by omega) Hx.out Hy.out
            refine ⟨j, swap2 es' (j + 1) j, by go_num, by omega, by omega, ?_, (swap2_perm _ _ _ (by omega) (by omega)).trans Ht.out.perm, fun q => ?_, ?_⟩
            · show ERow g _ (World.drew (putE g j ⟨xc, xo, xn⟩ (putE g (j + 1) ⟨yc, yo, yn⟩ wr)))
              generalize putE g j ⟨xc, xo, xn⟩ (putE g (j + 1) ⟨yc, yo, yn⟩ wr) = w5 at hsw ⊢
              exact hsw.of_block rfl
            · rw [swap2_get _ _ _ _ (by omega) (by omega), rotI_down _ _ _ hkm, Ht.out.came, Ht.out.came, Ht.out.came]
              split
              · rfl
              · split <;> rfl
            · have k5 := (Ht.out.keep.putE (i := j + 1) (x := ⟨yc, yo, yn⟩)).putE (i := j) (x := ⟨xc, xo, xn⟩)
              show Keep _ _ _ (World.drew (putE g j ⟨xc, xo, xn⟩ (putE g (j + 1) ⟨yc, yo, yn⟩ wr)))
              exact k5.drew
          case measure => simp [intOf]
        · obtain rfl : i = k := by omega
          clear ht
          go_wp2
          refine bodyPost_end (results_none rfl _ _ _) rfl ?_
          have hm := Hm.out
          subst hm
          exact ⟨rfl, es', ⟨Ht.out.row, Ht.out.perm, turned_same Ht.out a _ hi (by omega) (by omega) (Nat.le_refl _), Ht.out.keep⟩, last_sorted Ht.out hs hi (by omega) Hlo.out Hhi.out⟩
end Go.Proofs.Ytadelkancmbanaa
