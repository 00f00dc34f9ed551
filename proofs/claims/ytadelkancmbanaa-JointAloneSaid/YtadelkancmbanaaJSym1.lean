/-
  The merge of two sorted ranges, the first one of one entry.
-/
import Derived.Test.YtadelkancmbanaaJSymL
namespace Go.Proofs.Ytadelkancmbanaa
open Go.RowKit
attribute [local go_sem ↓] Go.wp_at_zero Go.wp_at_succ

theorem rotI_up (a k q : Nat) (h : a ≤ k) : rotI a (a + 1) (k + 1 + 1) q = if q = k + 1 then rotI a (a + 1) (k + 1) k else if q = k then rotI a (a + 1) (k + 1) (k + 1) else rotI a (a + 1) (k + 1) q := by
  unfold rotI
  repeat' split
  all_goals omega

theorem cmp_lt (x y : Int) : decide (cmpI x y < 0) = decide (x < y) := by
  unfold cmpI
  by_cases h1 : x < y
  · rw [if_pos h1]; simp [h1]
  · rw [if_neg h1]
    by_cases h2 : y < x
    · rw [if_pos h2]; simp [h1]
    · rw [if_neg h2]; simp [h1]

/-- Between two steps of a search: the entries are what they were. -/
structure Seek (g : Nat) (es : List AEnt) (w w' : World) : Prop where
  row : ERow g es w'
  keep : Keep (· = g) w.heap.size w w'
theorem Seek.laid {g : Nat} {es : List AEnt} {w w' w4 : World} {x y : AEnt} (h : Seek g es w w') (hg : g < w.heap.size) (e : laid2 x y w'.drew = w4) : Seek g es w w4 := by
  have hz := h.keep.size
  refine ⟨h.row.of_block ?_, ?_⟩
  · rw [← e]; unfold laid2
    rw [Below.heap_alloc _ _ _ (by simp; omega), Below.heap_alloc _ _ _ (by simp; omega)]; rfl
  · rw [← e]; unfold laid2
    exact (h.keep.drew.alloc (by simp; omega) _).alloc (by simp; omega) _

set_option maxRecDepth 100000 in
set_option maxHeartbeats 4000000 in
theorem symMerge_first (g cap a m b : Nat) (es : List AEnt) (w : World) (h : ERow g es w) (hm : m = a + 1) (hab : m < b) (hb : b ≤ es.length) (hl : es.length ≤ 1000) (hg : g < w.heap.size) (hs : SortedOn es m b) :
    Calls Try.prog 73 #[.slice (some ⟨g, 0, none⟩) es.length cap, .int .i64 a, .int .i64 m, .int .i64 b, .func (.func 32) #[] #[]] w (InsEnd g a b es w) := by
  have H := Lib.hid h
  have hcall := callCmp
  clear h
  have d0 : (m : Int) - (a : Int) = 1 := by omega
  have Hm := Lib.hid hm
  clear hm
  go_enter Try.func73, Try.ntmps73
  go_wp2
  go_loopw [10, 11] (fun iv jv wr => ∃ i j, iv = .int .i64 ((i : Nat) : Int) ∧ jv = .int .i64 ((j : Nat) : Int) ∧ m ≤ i ∧ i ≤ j ∧ j ≤ b ∧ Seek g es w wr ∧ (i = m ∨ key es (i - 1) ≤ key es a) ∧ (j = b ∨ key es a ≤ key es j)) (fun i j _ => (intOf j).toNat - (intOf i).toNat)
  case atStart => exact ⟨m, b, rfl, rfl, Nat.le_refl _, by omega, Nat.le_refl _, ⟨H.out, Keep.refl _ _ _⟩, .inl rfl, .inl rfl⟩
  case round =>
    obtain ⟨i, j, rfl, rfl, hi, hij, hjb, hk, lo, hi2⟩ := hrel
    by_cases hlt : i < j
    · obtain ⟨t, ht⟩ : ∃ t : Nat, t = (i + j) / 2 := ⟨_, rfl⟩
      have hti : ((i : Int) + (j : Int)) / 2 = (t : Int) := by omega
      have Hti := Lib.hid hti
      have h1t : i ≤ t := by omega
      have h2t : t < j := by omega
      clear ht hti
      obtain ⟨x0, x1, x2⟩ := hk.row.ent t (by omega)
      obtain ⟨y0, y1, y2⟩ := hk.row.ent a (by omega)
      simp only [Nat.zero_add] at x0 x1 x2 y0 y1 y2
      generalize hx : es[t]! = x at *
      generalize hy : es[a]! = y at *
      obtain ⟨xc, xo, xn⟩ := x
      obtain ⟨yc, yo, yn⟩ := y
      dsimp only at x0 x1 x2 y0 y1 y2
      have Hx := Lib.hid hx
      have Hy := Lib.hid hy
      have Hk := Lib.hid hk
      have Hlo := Lib.hid lo
      have Hhi := Lib.hid hi2
      clear hx hy hk lo hi2
      have b0 : (0 : Int) ≤ (t : Int) := by omega
      have b1 : (t : Int) < (es.length : Int) := by omega
      have b2 : (0 : Int) ≤ (a : Int) := by omega
      have b3 : (a : Int) < (es.length : Int) := by omega
      go_wp2_with fail
      rw [Hti.out]
      by_cases hxy : xc < yc
      · have hd : decide (xc < yc) = true := by simpa using hxy
        have hcm := cmp_lt xc yc
        rw [hd] at hcm
        refine Reg.start (fun w' => w'.cell? ⟨g, t * 3, none⟩ = some (.int .i64 xc) ∧ w'.cell? ⟨g, t * 3 + 1, none⟩ = some (.int .i64 xo) ∧ w'.cell? ⟨g, t * 3 + 2, none⟩ = some (.int .i64 xn) ∧ w'.cell? ⟨g, a * 3, none⟩ = some (.int .i64 yc) ∧ w'.cell? ⟨g, a * 3 + 1, none⟩ = some (.int .i64 yo) ∧ w'.cell? ⟨g, a * 3 + 2, none⟩ = some (.int .i64 yn)) [9] (by kernel_rfl) ?_ (fun hHeld => ?_)
        · first | trivial | ((try dsimp only); exact ⟨x0, x1, x2, y0, y1, y2⟩)
        refine Reg.takeP (i := 0) (v := ?v73x5_0) rfl (by kernel_rfl) (by kernel_rfl) (by kernel_rfl) (by kernel_rfl) (fun _ _ _ h => h) (Or.inl ⟨by rfl, ?h73x5_0⟩) (fun _ => hHeld) ?r73x5_0
        case h73x5_0 => (intro wS hSw; (try dsimp only at hSw); go_simp; all_goals with_reducible rfl)
        try simp only [Act.put, List.setIfInBounds_toArray, List.set_cons_zero, List.set_cons_succ]
        refine Reg.takeP (i := 1) (v := ?v73x5_1) rfl (by kernel_rfl) (by kernel_rfl) (by kernel_rfl) (by kernel_rfl) (fun _ _ _ h => h) (Or.inl ⟨by rfl, ?h73x5_1⟩) (fun _ => hHeld) ?r73x5_1
        case h73x5_1 => (intro wS hSw; (try dsimp only at hSw); go_simp; all_goals with_reducible rfl)
        try simp only [Act.put, List.setIfInBounds_toArray, List.set_cons_zero, List.set_cons_succ]
        refine Reg.takeP (i := 2) (v := ?v73x5_2) rfl (by kernel_rfl) (by kernel_rfl) (by kernel_rfl) (by kernel_rfl) (fun _ _ _ h => h) (Or.inl ⟨by rfl, ?h73x5_2⟩) (fun _ => hHeld) ?r73x5_2
        case h73x5_2 => (intro wS hSw; (try dsimp only at hSw); go_simp; all_goals with_reducible rfl)
        try simp only [Act.put, List.setIfInBounds_toArray, List.set_cons_zero, List.set_cons_succ]
        refine Reg.takeP (i := 3) (v := ?v73x5_3) rfl (by kernel_rfl) (by kernel_rfl) (by kernel_rfl) (by kernel_rfl) (fun _ _ _ h => h) (Or.inl ⟨by rfl, ?h73x5_3⟩) (fun _ => hHeld) ?r73x5_3
        case h73x5_3 => (intro wS hSw; (try dsimp only at hSw); go_simp; all_goals with_reducible rfl)
        try simp only [Act.put, List.setIfInBounds_toArray, List.set_cons_zero, List.set_cons_succ]
        refine Reg.take (i := 4) (v := ?v73x5_4) rfl (by kernel_rfl) (by kernel_rfl) (by kernel_rfl) (by kernel_rfl) (fun _ _ _ h => h) (Or.inl ⟨by rfl, ?h73x5_4⟩) hHeld ?r73x5_4
        case h73x5_4 => (intro wS hSw; (try dsimp only at hSw); go_simp; all_goals with_reducible rfl)
        try simp only [Act.put, List.setIfInBounds_toArray, List.set_cons_zero, List.set_cons_succ]
        refine Reg.takeP (i := 5) (v := ?v73x5_5) rfl (by kernel_rfl) (by kernel_rfl) (by kernel_rfl) (by kernel_rfl) (fun _ _ _ h => h) (Or.inl ⟨by rfl, ?h73x5_5⟩) (fun _ => hHeld) ?r73x5_5
        case h73x5_5 => (intro wS hSw; (try dsimp only at hSw); go_simp; all_goals with_reducible rfl)
        try simp only [Act.put, List.setIfInBounds_toArray, List.set_cons_zero, List.set_cons_succ]
        refine Reg.takeP (i := 6) (v := ?v73x5_6) rfl (by kernel_rfl) (by kernel_rfl) (by kernel_rfl) (by kernel_rfl) (fun _ _ _ h => h) (Or.inl ⟨by rfl, ?h73x5_6⟩) (fun _ => hHeld) ?r73x5_6
        case h73x5_6 => (intro wS hSw; (try dsimp only at hSw); go_simp; all_goals with_reducible rfl)
        try simp only [Act.put, List.setIfInBounds_toArray, List.set_cons_zero, List.set_cons_succ]
        refine Reg.takeP (i := 7) (v := ?v73x5_7) rfl (by kernel_rfl) (by kernel_rfl) (by kernel_rfl) (by kernel_rfl) (fun _ _ _ h => h) (Or.inl ⟨by rfl, ?h73x5_7⟩) (fun _ => hHeld) ?r73x5_7
        case h73x5_7 => (intro wS hSw; (try dsimp only at hSw); go_simp; all_goals with_reducible rfl)
        try simp only [Act.put, List.setIfInBounds_toArray, List.set_cons_zero, List.set_cons_succ]
        refine Reg.take (i := 8) (v := ?v73x5_8) rfl (by kernel_rfl) (by kernel_rfl) (by kernel_rfl) (by kernel_rfl) (fun _ _ _ h => h) (Or.inl ⟨by rfl, ?h73x5_8⟩) hHeld ?r73x5_8
        case h73x5_8 => (intro wS hSw; (try dsimp only at hSw); go_simp; all_goals with_reducible rfl)
        try simp only [Act.put, List.setIfInBounds_toArray, List.set_cons_zero, List.set_cons_succ]
        refine Reg.one (i := 9) rfl (by kernel_rfl) (fun K hK => ?_)
        (go_simp; refine (cmp_ents ⟨xc, xo, xn⟩ ⟨yc, yo, yn⟩ _).mono ?_; rintro e w4 ⟨rfl, hw4⟩; have Hw4 := Lib.hid hw4; clear hw4; dsimp only)
        refine hK.out _ _ (fun hF => absurd hF (by decide)) (fun _ => ?_)
        clear hK K
        try simp only [Act.put, List.setIfInBounds_toArray, List.set_cons_zero, List.set_cons_succ]
        refine Reg.takeP (i := 10) (v := ?v73x5_10) rfl (by kernel_rfl) (by kernel_rfl) (by kernel_rfl) (by kernel_rfl) (fun _ _ _ h => h) (Or.inl ⟨by rfl, ?h73x5_10⟩) (fun hF => absurd hF (by decide)) ?r73x5_10
        case h73x5_10 => (intro wS hSw; (try dsimp only at hSw); go_simp; all_goals with_reducible rfl)
        try simp only [Act.put, List.setIfInBounds_toArray, List.set_cons_zero, List.set_cons_succ]
        refine Reg.done (by kernel_rfl) ?_ _
        go_wp2
        go_roundw
        case rel => exact ⟨t + 1, j, by go_num, rfl, by omega, by omega, hjb, Hk.out.laid hg Hw4.out, .inr (by unfold key; rw [Nat.add_sub_cancel, Hx.out, Hy.out]; dsimp only; omega), Hhi.out⟩
        case measure => simp [intOf]; omega
      · have hd : decide (xc < yc) = false := by simpa using hxy
        have hcm := cmp_lt xc yc
        rw [hd] at hcm
        refine Reg.start (fun w' => w'.cell? ⟨g, t * 3, none⟩ = some (.int .i64 xc) ∧ w'.cell? ⟨g, t * 3 + 1, none⟩ = some (.int .i64 xo) ∧ w'.cell? ⟨g, t * 3 + 2, none⟩ = some (.int .i64 xn) ∧ w'.cell? ⟨g, a * 3, none⟩ = some (.int .i64 yc) ∧ w'.cell? ⟨g, a * 3 + 1, none⟩ = some (.int .i64 yo) ∧ w'.cell? ⟨g, a * 3 + 2, none⟩ = some (.int .i64 yn)) [9] (by kernel_rfl) ?_ (fun hHeld => ?_)
        · first | trivial | ((try dsimp only); exact ⟨x0, x1, x2, y0, y1, y2⟩)
        refine Reg.takeP (i := 0) (v := ?vb_0) rfl (by kernel_rfl) (by kernel_rfl) (by kernel_rfl) (by kernel_rfl) (fun _ _ _ h => h) (Or.inl ⟨by rfl, ?hb_0⟩) (fun _ => hHeld) ?rb_0
        case hb_0 => (intro wS hSw; (try dsimp only at hSw); go_simp; all_goals with_reducible rfl)
        try simp only [Act.put, List.setIfInBounds_toArray, List.set_cons_zero, List.set_cons_succ]
        refine Reg.takeP (i := 1) (v := ?vb_1) rfl (by kernel_rfl) (by kernel_rfl) (by kernel_rfl) (by kernel_rfl) (fun _ _ _ h => h) (Or.inl ⟨by rfl, ?hb_1⟩) (fun _ => hHeld) ?rb_1
        case hb_1 => (intro wS hSw; (try dsimp only at hSw); go_simp; all_goals with_reducible rfl)
        try simp only [Act.put, List.setIfInBounds_toArray, List.set_cons_zero, List.set_cons_succ]
        refine Reg.takeP (i := 2) (v := ?vb_2) rfl (by kernel_rfl) (by kernel_rfl) (by kernel_rfl) (by kernel_rfl) (fun _ _ _ h => h) (Or.inl ⟨by rfl, ?hb_2⟩) (fun _ => hHeld) ?rb_2
        case hb_2 => (intro wS hSw; (try dsimp only at hSw); go_simp; all_goals with_reducible rfl)
        try simp only [Act.put, List.setIfInBounds_toArray, List.set_cons_zero, List.set_cons_succ]
        refine Reg.takeP (i := 3) (v := ?vb_3) rfl (by kernel_rfl) (by kernel_rfl) (by kernel_rfl) (by kernel_rfl) (fun _ _ _ h => h) (Or.inl ⟨by rfl, ?hb_3⟩) (fun _ => hHeld) ?rb_3
        case hb_3 => (intro wS hSw; (try dsimp only at hSw); go_simp; all_goals with_reducible rfl)
        try simp only [Act.put, List.setIfInBounds_toArray, List.set_cons_zero, List.set_cons_succ]
        refine Reg.take (i := 4) (v := ?vb_4) rfl (by kernel_rfl) (by kernel_rfl) (by kernel_rfl) (by kernel_rfl) (fun _ _ _ h => h) (Or.inl ⟨by rfl, ?hb_4⟩) hHeld ?rb_4
        case hb_4 => (intro wS hSw; (try dsimp only at hSw); go_simp; all_goals with_reducible rfl)
        try simp only [Act.put, List.setIfInBounds_toArray, List.set_cons_zero, List.set_cons_succ]
        refine Reg.takeP (i := 5) (v := ?vb_5) rfl (by kernel_rfl) (by kernel_rfl) (by kernel_rfl) (by kernel_rfl) (fun _ _ _ h => h) (Or.inl ⟨by rfl, ?hb_5⟩) (fun _ => hHeld) ?rb_5
        case hb_5 => (intro wS hSw; (try dsimp only at hSw); go_simp; all_goals with_reducible rfl)
        try simp only [Act.put, List.setIfInBounds_toArray, List.set_cons_zero, List.set_cons_succ]
        refine Reg.takeP (i := 6) (v := ?vb_6) rfl (by kernel_rfl) (by kernel_rfl) (by kernel_rfl) (by kernel_rfl) (fun _ _ _ h => h) (Or.inl ⟨by rfl, ?hb_6⟩) (fun _ => hHeld) ?rb_6
        case hb_6 => (intro wS hSw; (try dsimp only at hSw); go_simp; all_goals with_reducible rfl)
        try simp only [Act.put, List.setIfInBounds_toArray, List.set_cons_zero, List.set_cons_succ]
        refine Reg.takeP (i := 7) (v := ?vb_7) rfl (by kernel_rfl) (by kernel_rfl) (by kernel_rfl) (by kernel_rfl) (fun _ _ _ h => h) (Or.inl ⟨by rfl, ?hb_7⟩) (fun _ => hHeld) ?rb_7
        case hb_7 => (intro wS hSw; (try dsimp only at hSw); go_simp; all_goals with_reducible rfl)
        try simp only [Act.put, List.setIfInBounds_toArray, List.set_cons_zero, List.set_cons_succ]
        refine Reg.take (i := 8) (v := ?vb_8) rfl (by kernel_rfl) (by kernel_rfl) (by kernel_rfl) (by kernel_rfl) (fun _ _ _ h => h) (Or.inl ⟨by rfl, ?hb_8⟩) hHeld ?rb_8
        case hb_8 => (intro wS hSw; (try dsimp only at hSw); go_simp; all_goals with_reducible rfl)
        try simp only [Act.put, List.setIfInBounds_toArray, List.set_cons_zero, List.set_cons_succ]
        refine Reg.one (i := 9) rfl (by kernel_rfl) (fun K hK => ?_)
        (go_simp; refine (cmp_ents ⟨xc, xo, xn⟩ ⟨yc, yo, yn⟩ _).mono ?_; rintro e w4 ⟨rfl, hw4⟩; have Hw4 := Lib.hid hw4; clear hw4; dsimp only)
        refine hK.out _ _ (fun hF => absurd hF (by decide)) (fun _ => ?_)
        clear hK K
        try simp only [Act.put, List.setIfInBounds_toArray, List.set_cons_zero, List.set_cons_succ]
        refine Reg.takeP (i := 10) (v := ?vb_10) rfl (by kernel_rfl) (by kernel_rfl) (by kernel_rfl) (by kernel_rfl) (fun _ _ _ h => h) (Or.inl ⟨by rfl, ?hb_10⟩) (fun hF => absurd hF (by decide)) ?rb_10
        case hb_10 => (intro wS hSw; (try dsimp only at hSw); go_simp; all_goals with_reducible rfl)
        try simp only [Act.put, List.setIfInBounds_toArray, List.set_cons_zero, List.set_cons_succ]
        refine Reg.done (by kernel_rfl) ?_ _
        go_wp2
        go_roundw
        case rel => exact ⟨i, t, rfl, rfl, hi, h1t, by omega, Hk.out.laid hg Hw4.out, Hlo.out, .inr (by unfold key; rw [Hx.out, Hy.out]; dsimp only; omega)⟩
        case measure => simp [intOf]; omega
    · obtain rfl : i = j := by omega
      have Hk := Lib.hid hk
      have Hlo := Lib.hid lo
      have Hhi := Lib.hid hi2
      clear hk lo hi2
      go_wp2
      go_loopw [13] (fun kv wi => ∃ k es', kv = .int .i64 ((k : Nat) : Int) ∧ a ≤ k ∧ k < i ∧ Turned g (rotI a (a + 1) (k + 1)) es w es' wi) (fun kv _ => i - (intOf kv).toNat)
      case atStart => exact ⟨a, es, rfl, Nat.le_refl _, by have := Hm.out; omega, Hk.out.row, List.Perm.refl _, fun q => by rw [rotI_same (.inr rfl)], Hk.out.keep⟩
      case round =>
        obtain ⟨k, es', rfl, hak, hki, ht⟩ := hrel
        have Ht := Lib.hid ht
        have Hl2 := Lib.hid ht.length
        by_cases hlt2 : k + 1 < i
        · obtain ⟨x0, x1, x2⟩ := ht.row.ent k (by rw [Hl2.out]; omega)
          obtain ⟨y0, y1, y2⟩ := ht.row.ent (k + 1) (by rw [Hl2.out]; omega)
          simp only [Nat.zero_add] at x0 x1 x2 y0 y1 y2
          have f0 := ht.row.frz ((k + 1) * 3) (by rw [Hl2.out]; omega)
          have f1 := ht.row.frz ((k + 1) * 3 + 1) (by rw [Hl2.out]; omega)
          have f2 := ht.row.frz ((k + 1) * 3 + 2) (by rw [Hl2.out]; omega)
          have f3 := ht.row.frz (k * 3) (by rw [Hl2.out]; omega)
          have f4 := ht.row.frz (k * 3 + 1) (by rw [Hl2.out]; omega)
          have f5 := ht.row.frz (k * 3 + 2) (by rw [Hl2.out]; omega)
          clear ht
          generalize hx : es'[k]! = x at *
          generalize hy : es'[k + 1]! = y at *
          obtain ⟨xc, xo, xn⟩ := x
          obtain ⟨yc, yo, yn⟩ := y
          dsimp only at x0 x1 x2 y0 y1 y2
          have Hx := Lib.hid hx
          have Hy := Lib.hid hy
          clear hx hy
          have hd : decide ((k : Int) < (i : Int) - 1) = true := by simp; omega
          have b0 : (0 : Int) ≤ (k : Int) := by omega
          have b1 : (k : Int) < (es.length : Int) := by omega
          have b2 : (0 : Int) ≤ (k : Int) + 1 := by omega
          have b3 : (k : Int) + 1 < (es.length : Int) := by omega
          have nkk : k ≠ k + 1 := by omega
          have hwk : IntKind.i64.wrap ((k : Int) + 1) = (k : Int) + 1 := by rw [IntKind.wrap_i64]; omega
          have tk : ((k : Int) + 1).toNat = k + 1 := by omega
          go_wp2_with fail
          refine Reg.start (fun w' => w'.cell? ⟨g, k * 3, none⟩ = some (.int .i64 xc) ∧ w'.cell? ⟨g, k * 3 + 1, none⟩ = some (.int .i64 xo) ∧ w'.cell? ⟨g, k * 3 + 2, none⟩ = some (.int .i64 xn) ∧ w'.cell? ⟨g, (k + 1) * 3, none⟩ = some (.int .i64 yc) ∧ w'.cell? ⟨g, (k + 1) * 3 + 1, none⟩ = some (.int .i64 yo) ∧ w'.cell? ⟨g, (k + 1) * 3 + 2, none⟩ = some (.int .i64 yn)) [15, 17] (by kernel_rfl) ?_ (fun hHeld => ?_)
          · first | trivial | ((try dsimp only); exact ⟨x0, x1, x2, y0, y1, y2⟩)
          refine Reg.takeP (i := 0) (v := ?v73x11_0) rfl (by kernel_rfl) (by kernel_rfl) (by kernel_rfl) (by kernel_rfl) (fun _ _ _ h => h) (Or.inl ⟨by rfl, ?h73x11_0⟩) (fun _ => hHeld) ?r73x11_0
          case h73x11_0 => (intro wS hSw; (try dsimp only at hSw); go_simp; all_goals with_reducible rfl)
          try simp only [Act.put, List.setIfInBounds_toArray, List.set_cons_zero, List.set_cons_succ]
          refine Reg.takeP (i := 1) (v := ?v73x11_1) rfl (by kernel_rfl) (by kernel_rfl) (by kernel_rfl) (by kernel_rfl) (fun _ _ _ h => h) (Or.inl ⟨by rfl, ?h73x11_1⟩) (fun _ => hHeld) ?r73x11_1
          case h73x11_1 => (intro wS hSw; (try dsimp only at hSw); go_simp; all_goals with_reducible rfl)
          try simp only [Act.put, List.setIfInBounds_toArray, List.set_cons_zero, List.set_cons_succ]
          refine Reg.takeP (i := 2) (v := ?v73x11_2) rfl (by kernel_rfl) (by kernel_rfl) (by kernel_rfl) (by kernel_rfl) (fun _ _ _ h => h) (Or.inl ⟨by rfl, ?h73x11_2⟩) (fun _ => hHeld) ?r73x11_2
          case h73x11_2 => (intro wS hSw; (try dsimp only at hSw); go_simp; all_goals with_reducible rfl)
          try simp only [Act.put, List.setIfInBounds_toArray, List.set_cons_zero, List.set_cons_succ]
          refine Reg.takeP (i := 3) (v := ?v73x11_3) rfl (by kernel_rfl) (by kernel_rfl) (by kernel_rfl) (by kernel_rfl) (fun _ _ _ h => h) (Or.inl ⟨by rfl, ?h73x11_3⟩) (fun _ => hHeld) ?r73x11_3
          case h73x11_3 => (intro wS hSw; (try dsimp only at hSw); go_simp; all_goals with_reducible rfl)
          try simp only [Act.put, List.setIfInBounds_toArray, List.set_cons_zero, List.set_cons_succ]
          refine Reg.takeP (i := 4) (v := ?v73x11_4) rfl (by kernel_rfl) (by kernel_rfl) (by kernel_rfl) (by kernel_rfl) (fun _ _ _ h => h) (Or.inl ⟨by rfl, ?h73x11_4⟩) (fun _ => hHeld) ?r73x11_4
          case h73x11_4 => (intro wS hSw; (try dsimp only at hSw); go_simp; all_goals with_reducible rfl)
          try simp only [Act.put, List.setIfInBounds_toArray, List.set_cons_zero, List.set_cons_succ]
          refine Reg.takeP (i := 5) (v := ?v73x11_5) rfl (by kernel_rfl) (by kernel_rfl) (by kernel_rfl) (by kernel_rfl) (fun _ _ _ h => h) (Or.inl ⟨by rfl, ?h73x11_5⟩) (fun _ => hHeld) ?r73x11_5
          case h73x11_5 => (intro wS hSw; (try dsimp only at hSw); go_simp; all_goals with_reducible rfl)
          try simp only [Act.put, List.setIfInBounds_toArray, List.set_cons_zero, List.set_cons_succ]
          refine Reg.takeP (i := 6) (v := ?v73x11_6) rfl (by kernel_rfl) (by kernel_rfl) (by kernel_rfl) (by kernel_rfl) (fun _ _ _ h => h) (Or.inl ⟨by rfl, ?h73x11_6⟩) (fun _ => hHeld) ?r73x11_6
          case h73x11_6 => (intro wS hSw; (try dsimp only at hSw); go_simp; all_goals with_reducible rfl)
          try simp only [Act.put, List.setIfInBounds_toArray, List.set_cons_zero, List.set_cons_succ]
          refine Reg.takeP (i := 7) (v := ?v73x11_7) rfl (by kernel_rfl) (by kernel_rfl) (by kernel_rfl) (by kernel_rfl) (fun _ _ _ h => h) (Or.inl ⟨by rfl, ?h73x11_7⟩) (fun _ => hHeld) ?r73x11_7
          case h73x11_7 => (intro wS hSw; (try dsimp only at hSw); go_simp; all_goals with_reducible rfl)
          try simp only [Act.put, List.setIfInBounds_toArray, List.set_cons_zero, List.set_cons_succ]
          refine Reg.takeP (i := 8) (v := ?v73x11_8) rfl (by kernel_rfl) (by kernel_rfl) (by kernel_rfl) (by kernel_rfl) (fun _ _ _ h => h) (Or.inl ⟨by rfl, ?h73x11_8⟩) (fun _ => hHeld) ?r73x11_8
          case h73x11_8 => (intro wS hSw; (try dsimp only at hSw); go_simp; all_goals with_reducible rfl)
          try simp only [Act.put, List.setIfInBounds_toArray, List.set_cons_zero, List.set_cons_succ]
          refine Reg.take (i := 9) (v := ?v73x11_9) rfl (by kernel_rfl) (by kernel_rfl) (by kernel_rfl) (by kernel_rfl) (fun _ _ _ h => h) (Or.inl ⟨by rfl, ?h73x11_9⟩) hHeld ?r73x11_9
          case h73x11_9 => (intro wS hSw; (try dsimp only at hSw); go_simp; all_goals with_reducible rfl)
          try simp only [Act.put, List.setIfInBounds_toArray, List.set_cons_zero, List.set_cons_succ]
          refine Reg.takeP (i := 10) (v := ?v73x11_10) rfl (by kernel_rfl) (by kernel_rfl) (by kernel_rfl) (by kernel_rfl) (fun _ _ _ h => h) (Or.inl ⟨by rfl, ?h73x11_10⟩) (fun _ => hHeld) ?r73x11_10
          case h73x11_10 => (intro wS hSw; (try dsimp only at hSw); go_simp; all_goals with_reducible rfl)
          try simp only [Act.put, List.setIfInBounds_toArray, List.set_cons_zero, List.set_cons_succ]
          refine Reg.takeP (i := 11) (v := ?v73x11_11) rfl (by kernel_rfl) (by kernel_rfl) (by kernel_rfl) (by kernel_rfl) (fun _ _ _ h => h) (Or.inl ⟨by rfl, ?h73x11_11⟩) (fun _ => hHeld) ?r73x11_11
          case h73x11_11 => (intro wS hSw; (try dsimp only at hSw); go_simp; all_goals with_reducible rfl)
          try simp only [Act.put, List.setIfInBounds_toArray, List.set_cons_zero, List.set_cons_succ]
          refine Reg.takeP (i := 12) (v := ?v73x11_12) rfl (by kernel_rfl) (by kernel_rfl) (by kernel_rfl) (by kernel_rfl) (fun _ _ _ h => h) (Or.inl ⟨by rfl, ?h73x11_12⟩) (fun _ => hHeld) ?r73x11_12
          case h73x11_12 => (intro wS hSw; (try dsimp only at hSw); go_simp; all_goals with_reducible rfl)
          try simp only [Act.put, List.setIfInBounds_toArray, List.set_cons_zero, List.set_cons_succ]
          refine Reg.take (i := 13) (v := ?v73x11_13) rfl (by kernel_rfl) (by kernel_rfl) (by kernel_rfl) (by kernel_rfl) (fun _ _ _ h => h) (Or.inl ⟨by rfl, ?h73x11_13⟩) hHeld ?r73x11_13
          case h73x11_13 => (intro wS hSw; (try dsimp only at hSw); go_simp; all_goals with_reducible rfl)
          try simp only [Act.put, List.setIfInBounds_toArray, List.set_cons_zero, List.set_cons_succ]
          refine Reg.takeP (i := 14) (v := ?v73x11_14) rfl (by kernel_rfl) (by kernel_rfl) (by kernel_rfl) (by kernel_rfl) (fun _ _ _ h => h) (Or.inl ⟨by rfl, ?h73x11_14⟩) (fun _ => hHeld) ?r73x11_14
          case h73x11_14 => (intro wS hSw; (try dsimp only at hSw); go_simp; all_goals with_reducible rfl)
          try simp only [Act.put, List.setIfInBounds_toArray, List.set_cons_zero, List.set_cons_succ]
          refine Reg.one (i := 15) rfl (by kernel_rfl) (fun K hK => ?_)
          go_simp
          refine hK.out _ _ (fun hF => absurd hF (by decide)) (fun _ => ?_)
          clear hK K
          try simp only [Act.put, List.setIfInBounds_toArray, List.set_cons_zero, List.set_cons_succ]
          refine Reg.takeP (i := 16) (v := ?v73x11_16) rfl (by kernel_rfl) (by kernel_rfl) (by kernel_rfl) (by kernel_rfl) (fun _ _ _ h => h) (Or.inl ⟨by rfl, ?h73x11_16⟩) (fun hF => absurd hF (by decide)) ?r73x11_16
          case h73x11_16 => (intro wS hSw; (try dsimp only at hSw); go_simp; all_goals with_reducible rfl)
          try simp only [Act.put, List.setIfInBounds_toArray, List.set_cons_zero, List.set_cons_succ]
          refine Reg.one (i := 17) rfl (by kernel_rfl) (fun K hK => ?_)
          go_simp
          refine hK.out _ _ (fun hF => absurd hF (by decide)) (fun _ => ?_)
          clear hK K
          try simp only [Act.put, List.setIfInBounds_toArray, List.set_cons_zero, List.set_cons_succ]
          refine Reg.done (by kernel_rfl) ?_ _
          go_wp2
          go_roundw
          case rel =>
            have hl2 := Hl2.out
            have hsw := Ht.out.row.swap (i := k) (j := k + 1) (by omega) (by omega) Hx.out Hy.out
            refine ⟨k + 1, swap2 es' k (k + 1), by go_num, by omega, by omega, ?_, (swap2_perm _ _ _ (by omega) (by omega)).trans Ht.out.perm, fun q => ?_, ?_⟩
            · show ERow g _ (World.drew (putE g (k + 1) ⟨xc, xo, xn⟩ (putE g k ⟨yc, yo, yn⟩ wr)))
              generalize putE g (k + 1) ⟨xc, xo, xn⟩ (putE g k ⟨yc, yo, yn⟩ wr) = w5 at hsw ⊢
              exact hsw.of_block rfl
            · rw [swap2_get _ _ _ _ (by omega) (by omega), rotI_up _ _ _ hak, Ht.out.came, Ht.out.came, Ht.out.came]
              split
              · rfl
              · split <;> rfl
            · have k5 := (Ht.out.keep.putE (i := k) (x := ⟨yc, yo, yn⟩)).putE (i := k + 1) (x := ⟨xc, xo, xn⟩)
              show Keep _ _ _ (World.drew (putE g (k + 1) ⟨xc, xo, xn⟩ (putE g k ⟨yc, yo, yn⟩ wr)))
              exact k5.drew
          case measure => simp [intOf]; omega
        · obtain rfl : i = k + 1 := by omega
          clear ht
          go_wp2
          refine bodyPost_end (results_none rfl _ _ _) rfl ?_
          have hm := Hm.out
          subst hm
          exact ⟨rfl, es', ⟨Ht.out.row, Ht.out.perm, turned_same Ht.out a b (Nat.le_refl _) (by omega) (by omega) hjb, Ht.out.keep⟩, first_sorted Ht.out hs (by omega) hjb Hlo.out Hhi.out⟩
end Go.Proofs.Ytadelkancmbanaa
