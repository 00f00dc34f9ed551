/-
  bond.Cells: Versions.
-/
import Derived.Test.YtadelkancmbanaaGreatBSlots
namespace Go.Proofs.YtadelkancmbanaaGreat
open Go.RowKit
attribute [local go_sem ↓] Go.wp_at_zero Go.wp_at_succ

theorem infoABond : (Tryz.prog.info? 126).map (fun i => (i.zero, i.size, i.bytes)) = some (some (.agg #[.int .i64 0, .int .i64 0, .int .i64 0]), 3, 24) := by kernel_rfl

theorem btold_any (s : Int) (w : World) (h0 : 2 ≤ s) (h1 : s ≤ 1000001) : Calls Tryz.prog 52 #[.int .i64 s] w fun e w' => e = .returned (.int .i64 (s - 1)) ∧ w = w' := by
  have e0 : (s == 0) = false := by rw [beq_eq_false_iff_ne]; omega
  have e1 : (s == 1) = false := by rw [beq_eq_false_iff_ne]; omega
  go_enter Tryz.func52, Tryz.ntmps52
  go_wp2_with (first | (go_at_call 47; ((with_reducible refine (bstamp_any _ _ (by omega) (by omega)).mono ?_); rintro e w' ⟨rfl, rfl⟩)))
  go_ret
  exact ⟨rfl, rfl⟩

theorem bversions_out (Z : Fix) (S : St) (i : Int) (w : World) (hm : Mem Z S w) (hi : ¬ (0 ≤ i ∧ i < (S.heads.length : Int))) :
    Calls Tryz.prog 15 #[.pointer (some ⟨Z.X.x, 0, none⟩), .int .i64 i] w fun e w' => e = .returned (.slice none 0 0) ∧ w = w' := by
  have his := bis_any Z.X S.heads S.made S.db S.st i w hm.bond
  rw [decide_eq_false hi] at his
  have His := Lib.hid his
  clear hm hi his
  go_enter Tryz.func15, Tryz.ntmps15
  go_wp2_with (first | (go_at_call 37; ((with_reducible refine (His.out).mono ?_); rintro e w' ⟨rfl, rfl⟩)))
  go_ret
  exact ⟨rfl, rfl⟩

structure Vs (Z : Fix) (S : St) (N : Nat) (w1 wr : World) (k : Nat) (h : Int) (q : List Ver) (t : Nat) (vv : Value) : Prop where
  chain : ChainAt Z.n S.made S.tbl S.st h q
  len : q.length = k
  tot : t + k = N
  row : ∃ xs, wr.ownsRow w1.heap.size 126 3 vv t xs
  below : Below w1.heap.size w1 wr

set_option maxRecDepth 100000 in
set_option maxHeartbeats 6400000 in
theorem bversions_in (Z : Fix) (S : St) (c : Nat) (L : List Ver) (w : World) (hm : Mem Z S w) (hc : c < S.heads.length) (hch : CellChain Z.n S.made S.tbl S.st S.heads c L) (hlen : L.length ≤ Z.n) :
    Calls Tryz.prog 15 #[.pointer (some ⟨Z.X.x, 0, none⟩), .int .i64 c] w fun e w' => ∃ v xs B, e = .returned v ∧ w'.ownsRow B 126 3 v L.length xs ∧ Below w.heap.size w w' := by
  have his := bis_any Z.X S.heads S.made S.db S.st c w hm.bond
  rw [decide_eq_true (by omega)] at his
  have c0 := hm.bond.c0
  rw [hm.xp] at c0
  have hsl := pslots_any Z.K Z.n S.tbl S.next S.head w hm.pool
  have few := hm.pool.few
  have bfew := hm.bond.few
  have His := Lib.hid his
  have Hsl := Lib.hid hsl
  have Hm := Lib.hid hm
  have Hch := Lib.hid hch
  have Hlen := Lib.hid hlen
  obtain ⟨N, hN⟩ : ∃ N, S.heads.length = N := ⟨_, rfl⟩
  have HN := Lib.hid hN
  rw [hN] at hc bfew
  obtain ⟨T, hT⟩ : ∃ T, L.length = T := ⟨_, rfl⟩
  have HT := Lib.hid hT
  rw [hT] at hlen ⊢
  clear his hsl hm hch hN hT
  go_enter Tryz.func15, Tryz.ntmps15
  go_wp2_with (first | (go_at_call 37; ((with_reducible refine (His.out).mono ?_); rintro e w' ⟨rfl, rfl⟩)))
  refine Hsl.out.mono ?_
  rintro e w1 ⟨v, rfl, hrow, hb1⟩
  obtain ⟨gs, cs, rfl, hB1, hl1⟩ := hrow.form (by omega)
  have hm1 := Hm.out.below hb1
  have c3 : w1.cell? ⟨Z.X.x, 3, none⟩ = some (.slice (some ⟨Z.X.h, 0, none⟩) N N) := by rw [← HN.out]; exact hm1.bond.hd
  have ch := (hm1.bond.head c (by rw [HN.out]; exact hc)).cell
  obtain ⟨hh, hhh⟩ : ∃ a, S.heads.getD c 0 = a := ⟨_, rfl⟩
  rw [hhh] at ch
  have hch2 := Hch.out
  unfold CellChain at hch2
  rw [hhh] at hch2
  have hslot : ∀ m o, m < Z.n → o < 7 → w1.cell? ⟨gs, m * 7 + o, none⟩ = (slotVals (S.tbl (m + 1)))[o]? := fun m o h1 h2 => by
    rw [hrow.cellAt _ (by omega), slotRow_get _ _ _ h2 _ h1]
  have Hslot := Lib.hid hslot
  have Hm1 := Lib.hid hm1
  have Hb1 := Lib.hid hb1
  have Hl1 := Lib.hid hl1
  have Hch2 := Lib.hid hch2
  clear hslot hm1 hb1 hl1 hch2 hrow hB1 hhh Hsl c0
  go_wp2_with (first | (go_at_call 31; ((with_reducible refine (i64load _ _ _ _ ch).mono ?_); rintro e w' ⟨rfl, rfl⟩)))
  clear ch c3
  go_loopg [7, 5] T (fun k hv vv wr => ∃ h q t, hv = .int .i64 h ∧ Vs Z S T w1 wr k h q t vv)
  case atStart => exact ⟨hh, L, 0, rfl, Hch2.out, HT.out, by omega, ⟨[], World.ownsRow_nil _ _ _ _⟩, Below.refl _ _⟩
  case round =>
    obtain ⟨h, q, t, rfl, hV⟩ := hrel
    obtain ⟨xs, hrow⟩ := hV.row
    have htot := hV.tot
    rcases q with _ | ⟨x, r⟩
    · have hz : h = 0 := hV.chain
      have hk := hV.len
      have ht : t = T := by simp only [List.length_nil] at hk; omega
      rw [ht] at hrow
      have hend : ∃ v xs B, Ending.returned u5 = .returned v ∧ wr.ownsRow B 126 3 v T xs ∧ Below w.heap.size w wr := ⟨u5, xs, w1.heap.size, rfl, hrow, Hb1.out.trans (hV.below.mono Hb1.out.size)⟩
      have Hend := Lib.hid hend
      clear hV hrow hk ht hend htot
      subst hz
      go_wp2_with fail
      go_ret
      exact Hend.out
    · obtain ⟨hx, hv, hr⟩ := hV.chain
      have hlt : t < T := by have := hV.len; simp only [List.length_cons] at this; omega
      have hTn := Hlen.out
      have hw := hv.held.word few.2
      have hi1 := hv.held.lo
      have hi2 := hv.held.hi
      have hg := hv.held.gen
      obtain ⟨m, hm⟩ : ∃ m, x.i = m + 1 := ⟨x.i - 1, by omega⟩
      have hmn : m < Z.n := by omega
      have s0 := (hV.below.cell (p := ⟨gs, m * 7, none⟩) Hl1.out).trans (Hslot.out m 0 hmn (by omega))
      have s1 := (hV.below.cell (p := ⟨gs, m * 7 + 1, none⟩) Hl1.out).trans (Hslot.out m 1 hmn (by omega))
      have s2 := (hV.below.cell (p := ⟨gs, m * 7 + 1 + 1, none⟩) Hl1.out).trans (Hslot.out m 2 hmn (by omega))
      have s6 := (hV.below.cell (p := ⟨gs, m * 7 + 6, none⟩) Hl1.out).trans (Hslot.out m 6 hmn (by omega))
      rw [← hm] at s0 s1 s2 s6
      replace s0 : wr.cell? ⟨gs, m * 7, none⟩ = some (.int .i64 x.g) := by rw [s0, ← hg]; rfl
      replace s1 : wr.cell? ⟨gs, m * 7 + 1, none⟩ = some (.int .i64 x.v) := by rw [s1, ← hv.val]; rfl
      replace s2 : wr.cell? ⟨gs, m * 7 + 1 + 1, none⟩ = some (.int .i64 x.b) := by rw [s2, ← hv.num]; rfl
      replace s6 : wr.cell? ⟨gs, m * 7 + 6, none⟩ = some (.int .i64 (S.tbl x.i).link) := s6
      have hm1 := Hm1.out.below hV.below
      have hnew : ∀ (w5 : World) (v5 : Value) (ys : List Value), Below w1.heap.size w1 w5 → w5.ownsRow w1.heap.size 126 3 v5 (t + 1) ys → Vs Z S T w1 w5 r.length (S.tbl x.i).link r (t + 1) v5 := fun w5 v5 ys b1 b2 =>
        ⟨hr, rfl, by have := hV.len; simp only [List.length_cons] at this; have := hV.tot; omega, ⟨ys, b2⟩, b1⟩
      have hrl := hV.len
      simp only [List.length_cons] at hrl
      have hrow0 : ∃ p9 c9, u5 = .slice p9 t c9 := by
        rcases hrow.2 with ⟨e, h0⟩ | ⟨g9, c9, _, e, _⟩
        · exact ⟨none, 0, by rw [e, h0]⟩
        · exact ⟨some ⟨g9, 0, none⟩, c9, e⟩
      have hh0 : (h == 0) = false := by rw [beq_eq_false_iff_ne, hx]; unfold hnd; have := hv.held.g0; omega
      have hge1 : ¬ Z.n ≤ m := by omega
      have hge2 : decide ((Z.n : Int) ≤ (m : Int)) = false := decide_eq_false (by omega)
      have hh1 : ¬ h = 0 := by have h9 := hh0; rw [beq_eq_false_iff_ne] at h9; exact h9
      have hh2 : (h != 0) = true := by rw [bne_iff_ne]; exact hh1
      have htni : (t : Int) ≤ (Z.n : Int) := by omega
      have hidx : ∀ w', Calls Tryz.prog 49 #[.int .i64 h] w' fun e w'' => e = .returned (.int .i64 ((m : Int) + 1)) ∧ w' = w'' := fun w' => by
        have := index_word h w' (by rw [hx]; exact hw.1) (by rw [hx]; exact hw.2.1)
        have e1 : h / 1099511627776 = (m : Int) + 1 := by rw [hx, hw.2.2.1, hm]; omega
        rw [e1] at this
        exact this
      have htag : ∀ w', Calls Tryz.prog 50 #[.int .i64 h] w' fun e w'' => e = .returned (.int .i64 x.g) ∧ w' = w'' := fun w' => by
        have := tag_word h w' (by rw [hx]; exact hw.1) (by rw [hx]; exact hw.2.1)
        have e1 : h % 1099511627776 = x.g := by rw [hx, hw.2.2.2]
        rw [e1] at this
        exact this
      have hsB := hv.sB
      have htold := fun w' => btold_any x.s w' hsB.1 hsB.2
      obtain ⟨tv, htv⟩ : ∃ a, x.s - 1 = a := ⟨_, rfl⟩
      rw [htv] at htold
      clear htv
      have hstate := hv.state
      obtain ⟨xg, hxg⟩ : ∃ a, x.g = a := ⟨_, rfl⟩
      obtain ⟨xv, hxv⟩ : ∃ a, x.v = a := ⟨_, rfl⟩
      obtain ⟨xb, hxb⟩ : ∃ a, x.b = a := ⟨_, rfl⟩
      obtain ⟨xs2, hxs2⟩ : ∃ a, x.s = a := ⟨_, rfl⟩
      obtain ⟨xl, hxl⟩ : ∃ a, (S.tbl x.i).link = a := ⟨_, rfl⟩
      rw [hxg] at s0 htag
      rw [hxv] at s1
      rw [hxb] at s2 hstate
      have s2b : wr.cell? ⟨gs, m * 7 + 2, none⟩ = some (.int .i64 xb) := s2
      rw [hxs2] at hstate htold hsB
      rw [hxl] at s6 hnew
      have htn : t ≤ Z.n := by omega
      have hmi : (m : Int) < (Z.n : Int) := by omega
      have hwm : IntKind.i64.wrap (m : Int) = (m : Int) := by rw [IntKind.wrap_i64]; omega
      have hwm1 : IntKind.i64.wrap ((m : Int) + 1) = (m : Int) + 1 := by rw [IntKind.wrap_i64]; omega
      have Hidx := Lib.hid hidx
      have Htag := Lib.hid htag
      have Htold := Lib.hid htold
      have Hnew := Lib.hid hnew
      have HV := Lib.hid hV
      have Hrow := Lib.hid hrow
      have Hmm := Lib.hid hm1
      have Hrl := Lib.hid hrl
      clear hidx htag htold hnew hV hrow hm1 hrl hx hv hr hw hi1 hi2 hg hm hxg hxv hxb hxs2 hxl
      obtain ⟨p9, c9, rfl⟩ := hrow0
      by_cases hb0 : xb = 0
      · have hs2 : xs2 = 2 := by
          rcases hstate with e | ⟨j, _, e, _⟩
          · exact e.2
          · omega
        subst hb0
        subst hs2
        clear hstate
        go_wp2_with (first | (go_at_call 49; ((with_reducible refine (Hidx.out _).mono ?_); rintro e w' ⟨rfl, rfl⟩)))
        refine Reg.start (fun w' => w'.cell? ⟨gs, m * 7, none⟩ = some (.int .i64 xg)) [] (by kernel_rfl) ?_ (fun hHeld => ?_)
        · first | exact True.intro | ((try dsimp only); exact s0)
        refine Reg.takeP (i := 0) (v := ?va8_0) rfl (by kernel_rfl) (by kernel_rfl) (by kernel_rfl) (by kernel_rfl) (fun _ _ _ h => h) (Or.inl ⟨by rfl, ?ha8_0⟩) (fun _ => hHeld) ?ra8_0
        case ha8_0 => (intro wS hSw; (try dsimp only at hSw); go_simp; all_goals with_reducible rfl)
        try simp only [Act.put, List.setIfInBounds_toArray, List.set_cons_zero, List.set_cons_succ]
        refine Reg.takeP (i := 1) (v := ?va8_1) rfl (by kernel_rfl) (by kernel_rfl) (by kernel_rfl) (by kernel_rfl) (fun _ _ _ h => h) (Or.inl ⟨by rfl, ?ha8_1⟩) (fun _ => hHeld) ?ra8_1
        case ha8_1 => (intro wS hSw; (try dsimp only at hSw); go_simp; all_goals with_reducible rfl)
        try simp only [Act.put, List.setIfInBounds_toArray, List.set_cons_zero, List.set_cons_succ]
        refine Reg.takeP (i := 2) (v := ?va8_2) rfl (by kernel_rfl) (by kernel_rfl) (by kernel_rfl) (by kernel_rfl) (fun _ _ _ h => h) (Or.inl ⟨by rfl, ?ha8_2⟩) (fun _ => hHeld) ?ra8_2
        case ha8_2 => (intro wS hSw; (try dsimp only at hSw); go_simp; all_goals with_reducible rfl)
        try simp only [Act.put, List.setIfInBounds_toArray, List.set_cons_zero, List.set_cons_succ]
        refine Reg.takeP (i := 3) (v := ?va8_3) rfl (by kernel_rfl) (by kernel_rfl) (by kernel_rfl) (by kernel_rfl) (fun _ _ _ h => h) (Or.inl ⟨by rfl, ?ha8_3⟩) (fun _ => hHeld) ?ra8_3
        case ha8_3 => (intro wS hSw; (try dsimp only at hSw); go_simp; all_goals with_reducible rfl)
        try simp only [Act.put, List.setIfInBounds_toArray, List.set_cons_zero, List.set_cons_succ]
        refine Reg.takeP (i := 4) (v := ?va8_4) rfl (by kernel_rfl) (by kernel_rfl) (by kernel_rfl) (by kernel_rfl) (fun _ _ _ h => h) (Or.inl ⟨by rfl, ?ha8_4⟩) (fun _ => hHeld) ?ra8_4
        case ha8_4 => (intro wS hSw; (try dsimp only at hSw); go_simp; all_goals with_reducible rfl)
        try simp only [Act.put, List.setIfInBounds_toArray, List.set_cons_zero, List.set_cons_succ]
        refine Reg.takeP (i := 5) (v := ?va8_5) rfl (by kernel_rfl) (by kernel_rfl) (by kernel_rfl) (by kernel_rfl) (fun _ _ _ h => h) (Or.inl ⟨by rfl, ?ha8_5⟩) (fun _ => hHeld) ?ra8_5
        case ha8_5 => (intro wS hSw; (try dsimp only at hSw); go_simp; all_goals with_reducible rfl)
        try simp only [Act.put, List.setIfInBounds_toArray, List.set_cons_zero, List.set_cons_succ]
        refine Reg.takeP (i := 6) (v := ?va8_6) rfl (by kernel_rfl) (by kernel_rfl) (by kernel_rfl) (by kernel_rfl) (fun _ _ _ h => h) (Or.inl ⟨by rfl, ?ha8_6⟩) (fun _ => hHeld) ?ra8_6
        case ha8_6 => (intro wS hSw; (try dsimp only at hSw); go_simp; all_goals with_reducible rfl)
        try simp only [Act.put, List.setIfInBounds_toArray, List.set_cons_zero, List.set_cons_succ]
        refine Reg.takeP (i := 7) (v := ?va8_7) rfl (by kernel_rfl) (by kernel_rfl) (by kernel_rfl) (by kernel_rfl) (fun _ _ _ h => h) (Or.inl ⟨by rfl, ?ha8_7⟩) (fun _ => hHeld) ?ra8_7
        case ha8_7 => (intro wS hSw; (try dsimp only at hSw); go_simp; all_goals with_reducible rfl)
        try simp only [Act.put, List.setIfInBounds_toArray, List.set_cons_zero, List.set_cons_succ]
        refine Reg.takeP (i := 8) (v := ?va8_8) rfl (by kernel_rfl) (by kernel_rfl) (by kernel_rfl) (by kernel_rfl) (fun _ _ _ h => h) (Or.inl ⟨by rfl, ?ha8_8⟩) (fun _ => hHeld) ?ra8_8
        case ha8_8 => (intro wS hSw; (try dsimp only at hSw); go_simp; all_goals with_reducible rfl)
        try simp only [Act.put, List.setIfInBounds_toArray, List.set_cons_zero, List.set_cons_succ]
        refine Reg.takeP (i := 9) (v := ?va8_9) rfl (by kernel_rfl) (by kernel_rfl) (by kernel_rfl) (by kernel_rfl) (fun _ _ _ h => h) (Or.inl ⟨by rfl, ?ha8_9⟩) (fun _ => hHeld) ?ra8_9
        case ha8_9 => (intro wS hSw; (try dsimp only at hSw); go_simp; all_goals with_reducible rfl)
        try simp only [Act.put, List.setIfInBounds_toArray, List.set_cons_zero, List.set_cons_succ]
        refine Reg.takeP (i := 10) (v := ?va8_10) rfl (by kernel_rfl) (by kernel_rfl) (by kernel_rfl) (by kernel_rfl) (fun _ _ _ h => h) (Or.inl ⟨by rfl, ?ha8_10⟩) (fun _ => hHeld) ?ra8_10
        case ha8_10 => (intro wS hSw; (try dsimp only at hSw); go_simp; all_goals with_reducible rfl)
        try simp only [Act.put, List.setIfInBounds_toArray, List.set_cons_zero, List.set_cons_succ]
        refine Reg.takeP (i := 11) (v := ?va8_11) rfl (by kernel_rfl) (by kernel_rfl) (by kernel_rfl) (by kernel_rfl) (fun _ _ _ h => h) (Or.inl ⟨by rfl, ?ha8_11⟩) (fun _ => hHeld) ?ra8_11
        case ha8_11 => (intro wS hSw; (try dsimp only at hSw); go_simp; all_goals with_reducible rfl)
        try simp only [Act.put, List.setIfInBounds_toArray, List.set_cons_zero, List.set_cons_succ]
        refine Reg.takeP (i := 12) (v := ?va8_12) rfl (by kernel_rfl) (by kernel_rfl) (by kernel_rfl) (by kernel_rfl) (fun _ _ _ h => h) (Or.inl ⟨by rfl, ?ha8_12⟩) (fun _ => hHeld) ?ra8_12
        case ha8_12 => (intro wS hSw; (try dsimp only at hSw); go_simp; all_goals with_reducible rfl)
        try simp only [Act.put, List.setIfInBounds_toArray, List.set_cons_zero, List.set_cons_succ]
        refine Reg.take (i := 13) (v := ?va8_13) rfl (by kernel_rfl) (by kernel_rfl) (by kernel_rfl) (by kernel_rfl) (fun _ _ _ h => h) (Or.inl ⟨by rfl, ?ha8_13⟩) hHeld ?ra8_13
        case ha8_13 => (intro wS hSw; (try dsimp only at hSw); go_simp; all_goals with_reducible rfl)
        try simp only [Act.put, List.setIfInBounds_toArray, List.set_cons_zero, List.set_cons_succ]
        refine Reg.takeP (i := 14) (v := ?va8_14) rfl (by kernel_rfl) (by kernel_rfl) (by kernel_rfl) (by kernel_rfl) (fun _ _ _ h => h) (Or.inl ⟨by rfl, ?ha8_14⟩) (fun _ => hHeld) ?ra8_14
        case ha8_14 => (intro wS hSw; (try dsimp only at hSw); go_simp; all_goals with_reducible rfl)
        try simp only [Act.put, List.setIfInBounds_toArray, List.set_cons_zero, List.set_cons_succ]
        refine Reg.one (i := 15) rfl (by kernel_rfl) (fun K hK => ?_)
        (go_simp; refine (Htag.out _).mono ?_; rintro e w' ⟨rfl, rfl⟩; dsimp only)
        refine hK.out _ _ (fun _ => ?_) (fun hHeld => ?_)
        · first | exact True.intro | ((try dsimp only); exact s0)
        replace hHeld := hHeld (by decide)
        clear hK K
        try simp only [Act.put, List.setIfInBounds_toArray, List.set_cons_zero, List.set_cons_succ]
        refine Reg.takeP (i := 16) (v := ?va8_16) rfl (by kernel_rfl) (by kernel_rfl) (by kernel_rfl) (by kernel_rfl) (fun _ _ _ h => h) (Or.inl ⟨by rfl, ?ha8_16⟩) (fun _ => hHeld) ?ra8_16
        case ha8_16 => (intro wS hSw; (try dsimp only at hSw); go_simp; all_goals with_reducible rfl)
        try simp only [Act.put, List.setIfInBounds_toArray, List.set_cons_zero, List.set_cons_succ]
        refine Reg.takeP (i := 17) (v := ?va8_17) rfl (by kernel_rfl) (by kernel_rfl) (by kernel_rfl) (by kernel_rfl) (fun _ _ _ h => h) (Or.inl ⟨by rfl, ?ha8_17⟩) (fun _ => hHeld) ?ra8_17
        case ha8_17 => (intro wS hSw; (try dsimp only at hSw); go_simp; all_goals with_reducible rfl)
        try simp only [Act.put, List.setIfInBounds_toArray, List.set_cons_zero, List.set_cons_succ]
        refine Reg.done (by kernel_rfl) ?_ _
        go_wp2_with fail
        have HbX : Hid (w1.heap.size ≤ wr.drew.heap.size) := Lib.hid (HV.out.below.size)
        have HrX : Hid (wr.drew.drew.ownsRow w1.heap.size 126 3 (.slice p9 t c9) t xs) := Lib.hid Hrow.out.drew
        have q1 : wr.drew.drew.cell? ⟨gs, m * 7 + 1, none⟩ = some (.int .i64 xv) := s1
        have nq : some gs ≠ (Value.slice p9 t c9).ownBlock := fun e => by have h1 := (HrX.out.lt gs e.symm).1; have h2 := Hl1.out; omega
        obtain ⟨ii, hii, zi0, zi1, zi2⟩ := info_parts infoABond
        refine Reg.start (fun w' => w'.cell? ⟨gs, m * 7 + 1, none⟩ = some (.int .i64 xv)) [] (by kernel_rfl) ?_ (fun hHeld => ?_)
        · first | exact True.intro | ((try dsimp only); first | exact q1 | exact (old_cell _ _ _ (World.block_lt_of_cell? _ _ hHeld)).trans hHeld | exact hgrow5.cell hHeld nq)
        refine Reg.takeP (i := 0) (v := ?va13_0) rfl (by kernel_rfl) (by kernel_rfl) (by kernel_rfl) (by kernel_rfl) (fun _ _ _ h => h) (Or.inl ⟨by rfl, ?ha13_0⟩) (fun _ => hHeld) ?ra13_0
        case ha13_0 => (intro wS hSw; (try dsimp only at hSw); go_simp; all_goals with_reducible rfl)
        try simp only [Act.put, List.setIfInBounds_toArray, List.set_cons_zero, List.set_cons_succ]
        refine Reg.takeP (i := 1) (v := ?va13_1) rfl (by kernel_rfl) (by kernel_rfl) (by kernel_rfl) (by kernel_rfl) (fun _ _ _ h => h) (Or.inl ⟨by rfl, ?ha13_1⟩) (fun _ => hHeld) ?ra13_1
        case ha13_1 => (intro wS hSw; (try dsimp only at hSw); go_simp; all_goals with_reducible rfl)
        try simp only [Act.put, List.setIfInBounds_toArray, List.set_cons_zero, List.set_cons_succ]
        refine Reg.takeP (i := 2) (v := ?va13_2) rfl (by kernel_rfl) (by kernel_rfl) (by kernel_rfl) (by kernel_rfl) (fun _ _ _ h => h) (Or.inl ⟨by rfl, ?ha13_2⟩) (fun _ => hHeld) ?ra13_2
        case ha13_2 => (intro wS hSw; (try dsimp only at hSw); go_simp; all_goals with_reducible rfl)
        try simp only [Act.put, List.setIfInBounds_toArray, List.set_cons_zero, List.set_cons_succ]
        refine Reg.takeP (i := 3) (v := ?va13_3) rfl (by kernel_rfl) (by kernel_rfl) (by kernel_rfl) (by kernel_rfl) (fun _ _ _ h => h) (Or.inl ⟨by rfl, ?ha13_3⟩) (fun _ => hHeld) ?ra13_3
        case ha13_3 => (intro wS hSw; (try dsimp only at hSw); go_simp; all_goals with_reducible rfl)
        try simp only [Act.put, List.setIfInBounds_toArray, List.set_cons_zero, List.set_cons_succ]
        refine Reg.takeP (i := 4) (v := ?va13_4) rfl (by kernel_rfl) (by kernel_rfl) (by kernel_rfl) (by kernel_rfl) (fun _ _ _ h => h) (Or.inl ⟨by rfl, ?ha13_4⟩) (fun _ => hHeld) ?ra13_4
        case ha13_4 => (intro wS hSw; (try dsimp only at hSw); go_simp; all_goals with_reducible rfl)
        try simp only [Act.put, List.setIfInBounds_toArray, List.set_cons_zero, List.set_cons_succ]
        refine Reg.takeP (i := 5) (v := ?va13_5) rfl (by kernel_rfl) (by kernel_rfl) (by kernel_rfl) (by kernel_rfl) (fun _ _ _ h => h) (Or.inl ⟨by rfl, ?ha13_5⟩) (fun _ => hHeld) ?ra13_5
        case ha13_5 => (intro wS hSw; (try dsimp only at hSw); go_simp; all_goals with_reducible rfl)
        try simp only [Act.put, List.setIfInBounds_toArray, List.set_cons_zero, List.set_cons_succ]
        refine Reg.takeP (i := 6) (v := ?va13_6) rfl (by kernel_rfl) (by kernel_rfl) (by kernel_rfl) (by kernel_rfl) (fun _ _ _ h => h) (Or.inl ⟨by rfl, ?ha13_6⟩) (fun _ => hHeld) ?ra13_6
        case ha13_6 => (intro wS hSw; (try dsimp only at hSw); go_simp; all_goals with_reducible rfl)
        try simp only [Act.put, List.setIfInBounds_toArray, List.set_cons_zero, List.set_cons_succ]
        refine Reg.takeP (i := 7) (v := ?va13_7) rfl (by kernel_rfl) (by kernel_rfl) (by kernel_rfl) (by kernel_rfl) (fun _ _ _ h => h) (Or.inl ⟨by rfl, ?ha13_7⟩) (fun _ => hHeld) ?ra13_7
        case ha13_7 => (intro wS hSw; (try dsimp only at hSw); go_simp; all_goals with_reducible rfl)
        try simp only [Act.put, List.setIfInBounds_toArray, List.set_cons_zero, List.set_cons_succ]
        refine Reg.take (i := 8) (v := ?va13_8) rfl (by kernel_rfl) (by kernel_rfl) (by kernel_rfl) (by kernel_rfl) (fun _ _ _ h => h) (Or.inl ⟨by rfl, ?ha13_8⟩) hHeld ?ra13_8
        case ha13_8 => (intro wS hSw; (try dsimp only at hSw); go_simp; all_goals with_reducible rfl)
        try simp only [Act.put, List.setIfInBounds_toArray, List.set_cons_zero, List.set_cons_succ]
        refine Reg.takeP (i := 9) (v := ?va13_9) rfl (by kernel_rfl) (by kernel_rfl) (by kernel_rfl) (by kernel_rfl) (fun _ _ _ h => h) (Or.inl ⟨by rfl, ?ha13_9⟩) (fun _ => hHeld) ?ra13_9
        case ha13_9 => (intro wS hSw; (try dsimp only at hSw); go_simp; all_goals with_reducible rfl)
        try simp only [Act.put, List.setIfInBounds_toArray, List.set_cons_zero, List.set_cons_succ]
        refine Reg.one (i := 10) rfl (by kernel_rfl) (fun K hK => ?_)
        (go_simp; refine (Htold.out _).mono ?_; rintro e w' ⟨rfl, rfl⟩; dsimp only)
        refine hK.out _ _ (fun _ => ?_) (fun hHeld => ?_)
        · first | exact True.intro | ((try dsimp only); first | exact q1 | exact (old_cell _ _ _ (World.block_lt_of_cell? _ _ hHeld)).trans hHeld | exact hgrow5.cell hHeld nq)
        replace hHeld := hHeld (by decide)
        clear hK K
        try simp only [Act.put, List.setIfInBounds_toArray, List.set_cons_zero, List.set_cons_succ]
        refine Reg.takeP (i := 11) (v := ?va13_11) rfl (by kernel_rfl) (by kernel_rfl) (by kernel_rfl) (by kernel_rfl) (fun _ _ _ h => h) (Or.inl ⟨by rfl, ?ha13_11⟩) (fun _ => hHeld) ?ra13_11
        case ha13_11 => (intro wS hSw; (try dsimp only at hSw); go_simp; all_goals with_reducible rfl)
        try simp only [Act.put, List.setIfInBounds_toArray, List.set_cons_zero, List.set_cons_succ]
        refine Reg.one (i := 12) rfl (by kernel_rfl) (fun K hK => ?_)
        go_simp
        refine hK.out _ _ (fun _ => ?_) (fun hHeld => ?_)
        · first | exact True.intro | ((try dsimp only); first | exact q1 | exact (old_cell _ _ _ (World.block_lt_of_cell? _ _ hHeld)).trans hHeld | exact hgrow5.cell hHeld nq)
        replace hHeld := hHeld (by decide)
        clear hK K
        try simp only [Act.put, List.setIfInBounds_toArray, List.set_cons_zero, List.set_cons_succ]
        refine Reg.one (i := 13) rfl (by kernel_rfl) (fun K hK => ?_)
        (refine step_append_lies _ rfl (.tmp 75) (.tmp 87) 57 rfl w1.heap.size 126 ii _ 3 24 Tryz.underlying57 hii zi0 zi1 zi2 rfl (by decide) (.slice p9 t c9) t xs rfl (HrX.out.alloc _) ⟨wr.drew.drew.heap.size, 0, none⟩ 1 1 [.int .i64 ((m : Int) + 1), .int .i64 xv, .int .i64 tv] rfl rfl (World.news_of_block (cs := #[.int .i64 ((m : Int) + 1), .int .i64 xv, .int .i64 tv]) (t := 126) (fr := (0, 0)) (heap_alloc_new wr _)) (by simp [Value.oneCell']) (by decide) (by unfold maxLen; omega) (by omega) (by have h9 := HbX.out; simp at h9 ⊢; omega) _ rfl ?_; intro g5 c5 w5 hown5 hgrow5 hat5 hlt5)
        refine hK.out _ _ (fun _ => ?_) (fun hHeld => ?_)
        · first | exact True.intro | ((try dsimp only); first | exact q1 | exact (old_cell _ _ _ (World.block_lt_of_cell? _ _ hHeld)).trans hHeld | exact hgrow5.cell hHeld nq)
        replace hHeld := hHeld (by decide)
        clear hK K
        try simp only [Act.put, List.setIfInBounds_toArray, List.set_cons_zero, List.set_cons_succ]
        refine Reg.takeP (i := 14) (v := ?va13_14) rfl (by kernel_rfl) (by kernel_rfl) (by kernel_rfl) (by kernel_rfl) (fun _ _ _ h => h) (Or.inl ⟨by rfl, ?ha13_14⟩) (fun _ => hHeld) ?ra13_14
        case ha13_14 => (intro wS hSw; (try dsimp only at hSw); go_simp; all_goals with_reducible rfl)
        try simp only [Act.put, List.setIfInBounds_toArray, List.set_cons_zero, List.set_cons_succ]
        refine Reg.done (by kernel_rfl) ?_ _
        have s6b : w5.cell? ⟨gs, m * 7 + 6, none⟩ = some (.int .i64 xl) := hgrow5.cell ((old_cell wr _ _ (World.block_lt_of_cell? _ _ s6)).trans s6) nq
        have Hb5 : Hid (Below w1.heap.size w1 w5) := Lib.hid (((HV.out.below.alloc HV.out.below.size _).drew.drew).grown hgrow5 (by have h9 := HbX.out; simp at h9 ⊢; omega) (fun g hg => (HrX.out.lt g hg).1))
        clear s0 s1 s2 s2b s6 q1
        go_wp2_with fail
        go_roundg r.length
        case measure => have := Hrl.out; omega
        case rel => exact ⟨xl, r, t + 1, rfl, Hnew.out w5 _ _ Hb5.out hown5⟩
      · obtain ⟨j, hj, hbj, hsj⟩ : ∃ j, j < S.made ∧ xb = ((8 * j + 1 : Nat) : Int) ∧ xs2 = S.st j := by
          rcases hstate with e | e
          · exact absurd e.1 hb0
          · exact e
        have hmB := Hmm.out.bond.madeB
        obtain ⟨d, hd⟩ : ∃ d, d = 8 * j := ⟨_, rfl⟩
        have hbd : xb - 1 = (d : Int) := by omega
        have hd8 : d < 8192 := by omega
        have hwd : IntKind.i64.wrap (d : Int) = (d : Int) := by rw [IntKind.wrap_i64]; omega
        have hd0 : (0 : Int) ≤ (d : Int) := by omega
        have hd1 : (d : Int) < 8192 := by omega
        have hb1 : (xb == 0) = false := by rw [beq_eq_false_iff_ne]; exact hb0
        obtain ⟨q1, q2, q3⟩ := Hmm.out.bond.desc j hj
        rw [← hd] at q1
        rw [← hsj] at q3
        have hpl : Calls Tryz.prog 51 #[.pointer (some ⟨Z.X.x, 4 + d, none⟩)] wr.drew fun e w' => e = .returned (.pointer (some ⟨S.db j, 0, none⟩)) ∧ wr.drew = w' := pload Z.X.x (4 + d) (S.db j) wr.drew q1 q2
        have hld : Calls Tryz.prog 31 #[.pointer (some ⟨S.db j, 0, none⟩)] wr.drew fun e w' => e = .returned (.int .i64 xs2) ∧ wr.drew = w' := i64load _ _ _ wr.drew q3.cell
        have Hpl := Lib.hid hpl
        have Hld := Lib.hid hld
        clear hpl hld q1 q2 q3 hstate hd hsj hbj
        go_wp2_with (first | (go_at_call 49; ((with_reducible refine (Hidx.out _).mono ?_); rintro e w' ⟨rfl, rfl⟩)))
        refine Reg.start (fun w' => w'.cell? ⟨gs, m * 7, none⟩ = some (.int .i64 xg)) [] (by kernel_rfl) ?_ (fun hHeld => ?_)
        · first | exact True.intro | ((try dsimp only); exact s0)
        refine Reg.takeP (i := 0) (v := ?vb8_0) rfl (by kernel_rfl) (by kernel_rfl) (by kernel_rfl) (by kernel_rfl) (fun _ _ _ h => h) (Or.inl ⟨by rfl, ?hb8_0⟩) (fun _ => hHeld) ?rb8_0
        case hb8_0 => (intro wS hSw; (try dsimp only at hSw); go_simp; all_goals with_reducible rfl)
        try simp only [Act.put, List.setIfInBounds_toArray, List.set_cons_zero, List.set_cons_succ]
        refine Reg.takeP (i := 1) (v := ?vb8_1) rfl (by kernel_rfl) (by kernel_rfl) (by kernel_rfl) (by kernel_rfl) (fun _ _ _ h => h) (Or.inl ⟨by rfl, ?hb8_1⟩) (fun _ => hHeld) ?rb8_1
        case hb8_1 => (intro wS hSw; (try dsimp only at hSw); go_simp; all_goals with_reducible rfl)
        try simp only [Act.put, List.setIfInBounds_toArray, List.set_cons_zero, List.set_cons_succ]
        refine Reg.takeP (i := 2) (v := ?vb8_2) rfl (by kernel_rfl) (by kernel_rfl) (by kernel_rfl) (by kernel_rfl) (fun _ _ _ h => h) (Or.inl ⟨by rfl, ?hb8_2⟩) (fun _ => hHeld) ?rb8_2
        case hb8_2 => (intro wS hSw; (try dsimp only at hSw); go_simp; all_goals with_reducible rfl)
        try simp only [Act.put, List.setIfInBounds_toArray, List.set_cons_zero, List.set_cons_succ]
        refine Reg.takeP (i := 3) (v := ?vb8_3) rfl (by kernel_rfl) (by kernel_rfl) (by kernel_rfl) (by kernel_rfl) (fun _ _ _ h => h) (Or.inl ⟨by rfl, ?hb8_3⟩) (fun _ => hHeld) ?rb8_3
        case hb8_3 => (intro wS hSw; (try dsimp only at hSw); go_simp; all_goals with_reducible rfl)
        try simp only [Act.put, List.setIfInBounds_toArray, List.set_cons_zero, List.set_cons_succ]
        refine Reg.takeP (i := 4) (v := ?vb8_4) rfl (by kernel_rfl) (by kernel_rfl) (by kernel_rfl) (by kernel_rfl) (fun _ _ _ h => h) (Or.inl ⟨by rfl, ?hb8_4⟩) (fun _ => hHeld) ?rb8_4
        case hb8_4 => (intro wS hSw; (try dsimp only at hSw); go_simp; all_goals with_reducible rfl)
        try simp only [Act.put, List.setIfInBounds_toArray, List.set_cons_zero, List.set_cons_succ]
        refine Reg.takeP (i := 5) (v := ?vb8_5) rfl (by kernel_rfl) (by kernel_rfl) (by kernel_rfl) (by kernel_rfl) (fun _ _ _ h => h) (Or.inl ⟨by rfl, ?hb8_5⟩) (fun _ => hHeld) ?rb8_5
        case hb8_5 => (intro wS hSw; (try dsimp only at hSw); go_simp; all_goals with_reducible rfl)
        try simp only [Act.put, List.setIfInBounds_toArray, List.set_cons_zero, List.set_cons_succ]
        refine Reg.takeP (i := 6) (v := ?vb8_6) rfl (by kernel_rfl) (by kernel_rfl) (by kernel_rfl) (by kernel_rfl) (fun _ _ _ h => h) (Or.inl ⟨by rfl, ?hb8_6⟩) (fun _ => hHeld) ?rb8_6
        case hb8_6 => (intro wS hSw; (try dsimp only at hSw); go_simp; all_goals with_reducible rfl)
        try simp only [Act.put, List.setIfInBounds_toArray, List.set_cons_zero, List.set_cons_succ]
        refine Reg.takeP (i := 7) (v := ?vb8_7) rfl (by kernel_rfl) (by kernel_rfl) (by kernel_rfl) (by kernel_rfl) (fun _ _ _ h => h) (Or.inl ⟨by rfl, ?hb8_7⟩) (fun _ => hHeld) ?rb8_7
        case hb8_7 => (intro wS hSw; (try dsimp only at hSw); go_simp; all_goals with_reducible rfl)
        try simp only [Act.put, List.setIfInBounds_toArray, List.set_cons_zero, List.set_cons_succ]
        refine Reg.takeP (i := 8) (v := ?vb8_8) rfl (by kernel_rfl) (by kernel_rfl) (by kernel_rfl) (by kernel_rfl) (fun _ _ _ h => h) (Or.inl ⟨by rfl, ?hb8_8⟩) (fun _ => hHeld) ?rb8_8
        case hb8_8 => (intro wS hSw; (try dsimp only at hSw); go_simp; all_goals with_reducible rfl)
        try simp only [Act.put, List.setIfInBounds_toArray, List.set_cons_zero, List.set_cons_succ]
        refine Reg.takeP (i := 9) (v := ?vb8_9) rfl (by kernel_rfl) (by kernel_rfl) (by kernel_rfl) (by kernel_rfl) (fun _ _ _ h => h) (Or.inl ⟨by rfl, ?hb8_9⟩) (fun _ => hHeld) ?rb8_9
        case hb8_9 => (intro wS hSw; (try dsimp only at hSw); go_simp; all_goals with_reducible rfl)
        try simp only [Act.put, List.setIfInBounds_toArray, List.set_cons_zero, List.set_cons_succ]
        refine Reg.takeP (i := 10) (v := ?vb8_10) rfl (by kernel_rfl) (by kernel_rfl) (by kernel_rfl) (by kernel_rfl) (fun _ _ _ h => h) (Or.inl ⟨by rfl, ?hb8_10⟩) (fun _ => hHeld) ?rb8_10
        case hb8_10 => (intro wS hSw; (try dsimp only at hSw); go_simp; all_goals with_reducible rfl)
        try simp only [Act.put, List.setIfInBounds_toArray, List.set_cons_zero, List.set_cons_succ]
        refine Reg.takeP (i := 11) (v := ?vb8_11) rfl (by kernel_rfl) (by kernel_rfl) (by kernel_rfl) (by kernel_rfl) (fun _ _ _ h => h) (Or.inl ⟨by rfl, ?hb8_11⟩) (fun _ => hHeld) ?rb8_11
        case hb8_11 => (intro wS hSw; (try dsimp only at hSw); go_simp; all_goals with_reducible rfl)
        try simp only [Act.put, List.setIfInBounds_toArray, List.set_cons_zero, List.set_cons_succ]
        refine Reg.takeP (i := 12) (v := ?vb8_12) rfl (by kernel_rfl) (by kernel_rfl) (by kernel_rfl) (by kernel_rfl) (fun _ _ _ h => h) (Or.inl ⟨by rfl, ?hb8_12⟩) (fun _ => hHeld) ?rb8_12
        case hb8_12 => (intro wS hSw; (try dsimp only at hSw); go_simp; all_goals with_reducible rfl)
        try simp only [Act.put, List.setIfInBounds_toArray, List.set_cons_zero, List.set_cons_succ]
        refine Reg.take (i := 13) (v := ?vb8_13) rfl (by kernel_rfl) (by kernel_rfl) (by kernel_rfl) (by kernel_rfl) (fun _ _ _ h => h) (Or.inl ⟨by rfl, ?hb8_13⟩) hHeld ?rb8_13
        case hb8_13 => (intro wS hSw; (try dsimp only at hSw); go_simp; all_goals with_reducible rfl)
        try simp only [Act.put, List.setIfInBounds_toArray, List.set_cons_zero, List.set_cons_succ]
        refine Reg.takeP (i := 14) (v := ?vb8_14) rfl (by kernel_rfl) (by kernel_rfl) (by kernel_rfl) (by kernel_rfl) (fun _ _ _ h => h) (Or.inl ⟨by rfl, ?hb8_14⟩) (fun _ => hHeld) ?rb8_14
        case hb8_14 => (intro wS hSw; (try dsimp only at hSw); go_simp; all_goals with_reducible rfl)
        try simp only [Act.put, List.setIfInBounds_toArray, List.set_cons_zero, List.set_cons_succ]
        refine Reg.one (i := 15) rfl (by kernel_rfl) (fun K hK => ?_)
        (go_simp; refine (Htag.out _).mono ?_; rintro e w' ⟨rfl, rfl⟩; dsimp only)
        refine hK.out _ _ (fun _ => ?_) (fun hHeld => ?_)
        · first | exact True.intro | ((try dsimp only); exact s0)
        replace hHeld := hHeld (by decide)
        clear hK K
        try simp only [Act.put, List.setIfInBounds_toArray, List.set_cons_zero, List.set_cons_succ]
        refine Reg.takeP (i := 16) (v := ?vb8_16) rfl (by kernel_rfl) (by kernel_rfl) (by kernel_rfl) (by kernel_rfl) (fun _ _ _ h => h) (Or.inl ⟨by rfl, ?hb8_16⟩) (fun _ => hHeld) ?rb8_16
        case hb8_16 => (intro wS hSw; (try dsimp only at hSw); go_simp; all_goals with_reducible rfl)
        try simp only [Act.put, List.setIfInBounds_toArray, List.set_cons_zero, List.set_cons_succ]
        refine Reg.takeP (i := 17) (v := ?vb8_17) rfl (by kernel_rfl) (by kernel_rfl) (by kernel_rfl) (by kernel_rfl) (fun _ _ _ h => h) (Or.inl ⟨by rfl, ?hb8_17⟩) (fun _ => hHeld) ?rb8_17
        case hb8_17 => (intro wS hSw; (try dsimp only at hSw); go_simp; all_goals with_reducible rfl)
        try simp only [Act.put, List.setIfInBounds_toArray, List.set_cons_zero, List.set_cons_succ]
        refine Reg.done (by kernel_rfl) ?_ _
        go_wp2_with (first | (go_at_call 51; ((with_reducible refine (Hpl.out).mono ?_); rintro e w' ⟨rfl, rfl⟩)) | (go_at_call 31; ((with_reducible refine (Hld.out).mono ?_); rintro e w' ⟨rfl, rfl⟩)))
        have HbX : Hid (w1.heap.size ≤ wr.drew.heap.size) := Lib.hid (HV.out.below.size)
        have HrX : Hid (wr.drew.drew.ownsRow w1.heap.size 126 3 (.slice p9 t c9) t xs) := Lib.hid Hrow.out.drew
        have q1 : wr.drew.drew.cell? ⟨gs, m * 7 + 1, none⟩ = some (.int .i64 xv) := s1
        have nq : some gs ≠ (Value.slice p9 t c9).ownBlock := fun e => by have h1 := (HrX.out.lt gs e.symm).1; have h2 := Hl1.out; omega
        obtain ⟨ii, hii, zi0, zi1, zi2⟩ := info_parts infoABond
        refine Reg.start (fun w' => w'.cell? ⟨gs, m * 7 + 1, none⟩ = some (.int .i64 xv)) [] (by kernel_rfl) ?_ (fun hHeld => ?_)
        · first | exact True.intro | ((try dsimp only); first | exact q1 | exact (old_cell _ _ _ (World.block_lt_of_cell? _ _ hHeld)).trans hHeld | exact hgrow5.cell hHeld nq)
        refine Reg.takeP (i := 0) (v := ?vb13_0) rfl (by kernel_rfl) (by kernel_rfl) (by kernel_rfl) (by kernel_rfl) (fun _ _ _ h => h) (Or.inl ⟨by rfl, ?hb13_0⟩) (fun _ => hHeld) ?rb13_0
        case hb13_0 => (intro wS hSw; (try dsimp only at hSw); go_simp; all_goals with_reducible rfl)
        try simp only [Act.put, List.setIfInBounds_toArray, List.set_cons_zero, List.set_cons_succ]
        refine Reg.takeP (i := 1) (v := ?vb13_1) rfl (by kernel_rfl) (by kernel_rfl) (by kernel_rfl) (by kernel_rfl) (fun _ _ _ h => h) (Or.inl ⟨by rfl, ?hb13_1⟩) (fun _ => hHeld) ?rb13_1
        case hb13_1 => (intro wS hSw; (try dsimp only at hSw); go_simp; all_goals with_reducible rfl)
        try simp only [Act.put, List.setIfInBounds_toArray, List.set_cons_zero, List.set_cons_succ]
        refine Reg.takeP (i := 2) (v := ?vb13_2) rfl (by kernel_rfl) (by kernel_rfl) (by kernel_rfl) (by kernel_rfl) (fun _ _ _ h => h) (Or.inl ⟨by rfl, ?hb13_2⟩) (fun _ => hHeld) ?rb13_2
        case hb13_2 => (intro wS hSw; (try dsimp only at hSw); go_simp; all_goals with_reducible rfl)
        try simp only [Act.put, List.setIfInBounds_toArray, List.set_cons_zero, List.set_cons_succ]
        refine Reg.takeP (i := 3) (v := ?vb13_3) rfl (by kernel_rfl) (by kernel_rfl) (by kernel_rfl) (by kernel_rfl) (fun _ _ _ h => h) (Or.inl ⟨by rfl, ?hb13_3⟩) (fun _ => hHeld) ?rb13_3
        case hb13_3 => (intro wS hSw; (try dsimp only at hSw); go_simp; all_goals with_reducible rfl)
        try simp only [Act.put, List.setIfInBounds_toArray, List.set_cons_zero, List.set_cons_succ]
        refine Reg.takeP (i := 4) (v := ?vb13_4) rfl (by kernel_rfl) (by kernel_rfl) (by kernel_rfl) (by kernel_rfl) (fun _ _ _ h => h) (Or.inl ⟨by rfl, ?hb13_4⟩) (fun _ => hHeld) ?rb13_4
        case hb13_4 => (intro wS hSw; (try dsimp only at hSw); go_simp; all_goals with_reducible rfl)
        try simp only [Act.put, List.setIfInBounds_toArray, List.set_cons_zero, List.set_cons_succ]
        refine Reg.takeP (i := 5) (v := ?vb13_5) rfl (by kernel_rfl) (by kernel_rfl) (by kernel_rfl) (by kernel_rfl) (fun _ _ _ h => h) (Or.inl ⟨by rfl, ?hb13_5⟩) (fun _ => hHeld) ?rb13_5
        case hb13_5 => (intro wS hSw; (try dsimp only at hSw); go_simp; all_goals with_reducible rfl)
        try simp only [Act.put, List.setIfInBounds_toArray, List.set_cons_zero, List.set_cons_succ]
        refine Reg.takeP (i := 6) (v := ?vb13_6) rfl (by kernel_rfl) (by kernel_rfl) (by kernel_rfl) (by kernel_rfl) (fun _ _ _ h => h) (Or.inl ⟨by rfl, ?hb13_6⟩) (fun _ => hHeld) ?rb13_6
        case hb13_6 => (intro wS hSw; (try dsimp only at hSw); go_simp; all_goals with_reducible rfl)
        try simp only [Act.put, List.setIfInBounds_toArray, List.set_cons_zero, List.set_cons_succ]
        refine Reg.takeP (i := 7) (v := ?vb13_7) rfl (by kernel_rfl) (by kernel_rfl) (by kernel_rfl) (by kernel_rfl) (fun _ _ _ h => h) (Or.inl ⟨by rfl, ?hb13_7⟩) (fun _ => hHeld) ?rb13_7
        case hb13_7 => (intro wS hSw; (try dsimp only at hSw); go_simp; all_goals with_reducible rfl)
        try simp only [Act.put, List.setIfInBounds_toArray, List.set_cons_zero, List.set_cons_succ]
        refine Reg.take (i := 8) (v := ?vb13_8) rfl (by kernel_rfl) (by kernel_rfl) (by kernel_rfl) (by kernel_rfl) (fun _ _ _ h => h) (Or.inl ⟨by rfl, ?hb13_8⟩) hHeld ?rb13_8
        case hb13_8 => (intro wS hSw; (try dsimp only at hSw); go_simp; all_goals with_reducible rfl)
        try simp only [Act.put, List.setIfInBounds_toArray, List.set_cons_zero, List.set_cons_succ]
        refine Reg.takeP (i := 9) (v := ?vb13_9) rfl (by kernel_rfl) (by kernel_rfl) (by kernel_rfl) (by kernel_rfl) (fun _ _ _ h => h) (Or.inl ⟨by rfl, ?hb13_9⟩) (fun _ => hHeld) ?rb13_9
        case hb13_9 => (intro wS hSw; (try dsimp only at hSw); go_simp; all_goals with_reducible rfl)
        try simp only [Act.put, List.setIfInBounds_toArray, List.set_cons_zero, List.set_cons_succ]
        refine Reg.one (i := 10) rfl (by kernel_rfl) (fun K hK => ?_)
        (go_simp; refine (Htold.out _).mono ?_; rintro e w' ⟨rfl, rfl⟩; dsimp only)
        refine hK.out _ _ (fun _ => ?_) (fun hHeld => ?_)
        · first | exact True.intro | ((try dsimp only); first | exact q1 | exact (old_cell _ _ _ (World.block_lt_of_cell? _ _ hHeld)).trans hHeld | exact hgrow5.cell hHeld nq)
        replace hHeld := hHeld (by decide)
        clear hK K
        try simp only [Act.put, List.setIfInBounds_toArray, List.set_cons_zero, List.set_cons_succ]
        refine Reg.takeP (i := 11) (v := ?vb13_11) rfl (by kernel_rfl) (by kernel_rfl) (by kernel_rfl) (by kernel_rfl) (fun _ _ _ h => h) (Or.inl ⟨by rfl, ?hb13_11⟩) (fun _ => hHeld) ?rb13_11
        case hb13_11 => (intro wS hSw; (try dsimp only at hSw); go_simp; all_goals with_reducible rfl)
        try simp only [Act.put, List.setIfInBounds_toArray, List.set_cons_zero, List.set_cons_succ]
        refine Reg.one (i := 12) rfl (by kernel_rfl) (fun K hK => ?_)
        go_simp
        refine hK.out _ _ (fun _ => ?_) (fun hHeld => ?_)
        · first | exact True.intro | ((try dsimp only); first | exact q1 | exact (old_cell _ _ _ (World.block_lt_of_cell? _ _ hHeld)).trans hHeld | exact hgrow5.cell hHeld nq)
        replace hHeld := hHeld (by decide)
        clear hK K
        try simp only [Act.put, List.setIfInBounds_toArray, List.set_cons_zero, List.set_cons_succ]
        refine Reg.one (i := 13) rfl (by kernel_rfl) (fun K hK => ?_)
        (refine step_append_lies _ rfl (.tmp 75) (.tmp 87) 57 rfl w1.heap.size 126 ii _ 3 24 Tryz.underlying57 hii zi0 zi1 zi2 rfl (by decide) (.slice p9 t c9) t xs rfl (HrX.out.alloc _) ⟨wr.drew.drew.heap.size, 0, none⟩ 1 1 [.int .i64 ((m : Int) + 1), .int .i64 xv, .int .i64 tv] rfl rfl (World.news_of_block (cs := #[.int .i64 ((m : Int) + 1), .int .i64 xv, .int .i64 tv]) (t := 126) (fr := (0, 0)) (heap_alloc_new wr _)) (by simp [Value.oneCell']) (by decide) (by unfold maxLen; omega) (by omega) (by have h9 := HbX.out; simp at h9 ⊢; omega) _ rfl ?_; intro g5 c5 w5 hown5 hgrow5 hat5 hlt5)
        refine hK.out _ _ (fun _ => ?_) (fun hHeld => ?_)
        · first | exact True.intro | ((try dsimp only); first | exact q1 | exact (old_cell _ _ _ (World.block_lt_of_cell? _ _ hHeld)).trans hHeld | exact hgrow5.cell hHeld nq)
        replace hHeld := hHeld (by decide)
        clear hK K
        try simp only [Act.put, List.setIfInBounds_toArray, List.set_cons_zero, List.set_cons_succ]
        refine Reg.takeP (i := 14) (v := ?vb13_14) rfl (by kernel_rfl) (by kernel_rfl) (by kernel_rfl) (by kernel_rfl) (fun _ _ _ h => h) (Or.inl ⟨by rfl, ?hb13_14⟩) (fun _ => hHeld) ?rb13_14
        case hb13_14 => (intro wS hSw; (try dsimp only at hSw); go_simp; all_goals with_reducible rfl)
        try simp only [Act.put, List.setIfInBounds_toArray, List.set_cons_zero, List.set_cons_succ]
        refine Reg.done (by kernel_rfl) ?_ _
        have s6b : w5.cell? ⟨gs, m * 7 + 6, none⟩ = some (.int .i64 xl) := hgrow5.cell ((old_cell wr _ _ (World.block_lt_of_cell? _ _ s6)).trans s6) nq
        have Hb5 : Hid (Below w1.heap.size w1 w5) := Lib.hid (((HV.out.below.alloc HV.out.below.size _).drew.drew).grown hgrow5 (by have h9 := HbX.out; simp at h9 ⊢; omega) (fun g hg => (HrX.out.lt g hg).1))
        clear s0 s1 s2 s2b s6 q1
        go_wp2_with fail
        go_roundg r.length
        case measure => have := Hrl.out; omega
        case rel => exact ⟨xl, r, t + 1, rfl, Hnew.out w5 _ _ Hb5.out hown5⟩
end Go.Proofs.YtadelkancmbanaaGreat
