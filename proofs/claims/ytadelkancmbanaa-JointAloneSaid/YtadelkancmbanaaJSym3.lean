/-
  The merge of two sorted ranges.
-/
import Derived.Test.YtadelkancmbanaaJSym2
import Derived.Test.YtadelkancmbanaaJRot2
import Derived.Deep.DeepCutAuto
import Derived.Deep.CutBlock
namespace Go.Proofs.Ytadelkancmbanaa
open Go.RowKit
attribute [local go_sem ↓] Go.wp_at_zero Go.wp_at_succ

/-- Merging works on ranges of up to n entries. -/
def MergeOk (n : Nat) : Prop := ∀ (g cap a m b : Nat) (es : List AEnt) (w : World), ERow g es w → a < m → m < b → b ≤ a + n → b ≤ es.length → es.length ≤ 1000 → g < w.heap.size → SortedOn es a m → SortedOn es m b →
  Calls Try.prog 73 #[.slice (some ⟨g, 0, none⟩) es.length cap, .int .i64 a, .int .i64 m, .int .i64 b, .func (.func 32) #[] #[]] w (InsEnd g a b es w)

structure Start (a m b c n s r : Nat) : Prop where
  la : a ≤ s
  sr : s ≤ r
  rm : r ≤ m
  rc : r ≤ c
  nb : n ≤ b + s
  low : s = a ∨ s + b = n
  high : r = m ∨ r = c

structure Look (es : List AEnt) (n s0 r0 s r : Nat) : Prop where
  l0 : s0 ≤ s
  sr : s ≤ r
  rl : r ≤ r0
  low : s = s0 ∨ key es (s - 1) ≤ key es (n - s)
  high : r = r0 ∨ key es (n - 1 - r) ≤ key es r

theorem Look.cut {es : List AEnt} {a m b c n s0 r0 s : Nat} (h : Look es n s0 r0 s s) (k : Start a m b c n s0 r0) (hn : n = c + m) : Cut es a s m (n - s) b := by
  have := h.l0; have := h.rl; have := h.sr; have := k.la; have := k.sr; have := k.rm; have := k.rc; have := k.nb
  refine ⟨by omega, by omega, by omega, by omega, ?_, ?_⟩
  · rcases h.low with e | e
    · rcases k.low with e2 | e2
      · exact .inl (by omega)
      · exact .inr (.inl (by omega))
    · exact .inr (.inr e)
  · rcases h.high with e | e
    · rcases k.high with e2 | e2
      · exact .inl (by omega)
      · exact .inr (.inl (by omega))
    · exact .inr (.inr (by rw [show n - s - 1 = n - 1 - s by omega]; exact e))

theorem merged {g a s m e b c : Nat} {es es1 es2 es3 : List AEnt} {w w1 w2 w3 : World} (ht : Turned g (rotI s m e) es w es1 w1) (hc : Cut es a s m e b) (hse : s + (e - m) = c) (hac : a < c) (hcb : c < b) (hb : b ≤ es.length)
    (h1 : SortedOn es a m) (h2 : SortedOn es m b) (p1 : Part g a c es1 w1 es2 w2) (o1 : SortedOn es2 a c) (p2 : Part g c b es2 w2 es3 w3) (o2 : SortedOn es3 c b) : Part g a b es w es3 w3 ∧ SortedOn es3 a b := by
  have hh := halves ht h1 h2 hc
  rw [hse] at hh
  have k1 := p1.keep.mono ht.keep.size
  have k2 := p2.keep.mono (show w.heap.size ≤ w2.heap.size from Nat.le_trans ht.keep.size p1.keep.size)
  refine ⟨⟨p2.row, (p2.perm.trans p1.perm).trans ht.perm, ?_, (ht.keep.trans (p1.keep.mono ht.keep.size)).trans k2⟩, halves_done hh (Nat.le_of_lt hac) (Nat.le_of_lt hcb) (by rw [ht.length]; exact hb) p1.perm p1.same o1 p2.perm p2.same o2⟩
  exact ((turned_same ht a b hc.ls hc.sm hc.me hc.eb).trans (p1.same.mono (Nat.le_refl _) (Nat.le_of_lt hcb))).trans (p2.same.mono (Nat.le_of_lt hac) (Nat.le_refl _))

set_option maxRecDepth 100000 in
set_option maxHeartbeats 4000000 in
theorem symMerge_both (N g cap a m b : Nat) (es : List AEnt) (w : World) (IH : MergeOk N) (h : ERow g es w) (ham : a < m) (hmb : m < b) (hN : b ≤ a + (N + 1)) (hm : m ≠ a + 1) (hm2 : b ≠ m + 1) (hb : b ≤ es.length) (hl : es.length ≤ 1000) (hg : g < w.heap.size) (h1 : SortedOn es a m) (h2 : SortedOn es m b) :
    Calls Try.prog 73 #[.slice (some ⟨g, 0, none⟩) es.length cap, .int .i64 a, .int .i64 m, .int .i64 b, .func (.func 32) #[] #[]] w (InsEnd g a b es w) := by
  have H := Lib.hid h
  have Ih := Lib.hid IH
  have hcall := callCmp
  clear h IH
  have d0 : ((m : Int) - (a : Int) == 1) = false := by rw [beq_eq_false_iff_ne]; omega
  have d1 : ((b : Int) - (m : Int) == 1) = false := by rw [beq_eq_false_iff_ne]; omega
  clear hm hm2
  obtain ⟨c, hc⟩ : ∃ c : Nat, c = (a + b) / 2 := ⟨_, rfl⟩
  have hci : ((a : Int) + (b : Int)) / 2 = (c : Int) := by omega
  have Hci := Lib.hid hci
  have hac : a < c := by omega
  have hcb : c < b := by omega
  have hc1 : a + b ≤ 2 * c + 1 := by omega
  have hc2 : 2 * c ≤ a + b := by omega
  clear hc hci
  obtain ⟨n, hn⟩ : ∃ n : Nat, n = c + m := ⟨_, rfl⟩
  have Hn := Lib.hid hn
  have hni : (c : Int) + (m : Int) = (n : Int) := by omega
  have Hni := Lib.hid hni
  have hcn : c ≤ n := by omega
  have hnb : n ≤ 2 * b := by omega
  clear hn hni
  go_enter Try.func73, Try.ntmps73
  go_upto_if 140 with fail
  rw [Hci.out, Hni.out]
  go_cut [20, 21] (fun sv rv wx => ∃ s0 r0 : Nat, sv = .int .i64 (s0 : Int) ∧ rv = .int .i64 (r0 : Int) ∧ Start a m b c n s0 r0 ∧ w = wx)
  case first => as_aux_lemma =>
    by_cases hmc : c < m
    · have hd : decide ((c : Int) < (m : Int)) = true := by simpa using hmc
      go_wp2_with fail
      go_meet
      have hn := Hn.out
      exact ⟨n - b, c, by congr 1; omega, rfl, ⟨by omega, by omega, by omega, by omega, by omega, .inr (by omega), .inr rfl⟩, rfl⟩
    · have hd : decide ((c : Int) < (m : Int)) = false := by simp; omega
      go_wp2_with fail
      go_meet
      have hn := Hn.out
      exact ⟨a, m, rfl, rfl, ⟨by omega, by omega, by omega, by omega, by omega, .inl rfl, .inl rfl⟩, rfl⟩
  case rest => as_aux_lemma =>
    obtain ⟨s0, r0, rfl, rfl, hst, rfl⟩ := hcut
    have Hst := Lib.hid hst
    obtain ⟨p, hp⟩ : ∃ p : Nat, p = n - 1 := ⟨_, rfl⟩
    have hn1 : 1 ≤ n := by omega
    have Hp := Lib.hid (show (n : Int) - 1 = (p : Int) by omega)
    have Hp2 := Lib.hid hp
    have hsr0 := hst.sr
    have hrm := hst.rm
    have hrc := hst.rc
    have hsa := hst.la
    have hnbs := hst.nb
    clear hst hp
    go_upto_block 8 with fail
    rw [Hp.out]
    go_cut [20, 21] (fun sv rv wx => ∃ s : Nat, sv = .int .i64 (s : Int) ∧ rv = .int .i64 (s : Int) ∧ Look es n s0 r0 s s ∧ Seek g es w wx)
    case first => as_aux_lemma =>
      go_wp2_with fail
      go_loopw [20, 21] (fun iv jv wr => ∃ i j, iv = .int .i64 ((i : Nat) : Int) ∧ jv = .int .i64 ((j : Nat) : Int) ∧ Look es n s0 r0 i j ∧ Seek g es w wr) (fun i j _ => (intOf j).toNat - (intOf i).toNat)
      case atStart => exact ⟨s0, r0, rfl, rfl, ⟨Nat.le_refl _, hsr0, Nat.le_refl _, .inl rfl, .inl rfl⟩, H.out, Keep.refl _ _ _⟩
      case round =>
        obtain ⟨i, j, rfl, rfl, hlook, hk⟩ := hrel
        have hl0 := hlook.l0
        have hij := hlook.sr
        have hjr := hlook.rl
        by_cases hlt : i < j
        · obtain ⟨t, ht⟩ : ∃ t : Nat, t = (i + j) / 2 := ⟨_, rfl⟩
          have hti : ((i : Int) + (j : Int)) / 2 = (t : Int) := by omega
          have Hti := Lib.hid hti
          have h1t : i ≤ t := by omega
          have h2t : t < j := by omega
          clear ht hti
          have hn := Hn.out
          have hp := Hp2.out
          obtain ⟨u, hu⟩ : ∃ u : Nat, u = p - t := ⟨_, rfl⟩
          have hui : (p : Int) - (t : Int) = (u : Int) := by omega
          have hul : u < es.length := by omega
          have Hu := Lib.hid (show u = n - 1 - t by omega)
          have Hu2 := Lib.hid (show u = n - (t + 1) by omega)
          clear hu hn hp
          obtain ⟨x0, x1, x2⟩ := hk.row.ent u (by omega)
          obtain ⟨y0, y1, y2⟩ := hk.row.ent t (by omega)
          simp only [Nat.zero_add] at x0 x1 x2 y0 y1 y2
          generalize hx : es[u]! = x at *
          generalize hy : es[t]! = y at *
          obtain ⟨xc, xo, xn⟩ := x
          obtain ⟨yc, yo, yn⟩ := y
          dsimp only at x0 x1 x2 y0 y1 y2
          have Hx := Lib.hid hx
          have Hy := Lib.hid hy
          have Hk := Lib.hid hk
          have Hlook := Lib.hid hlook
          clear hx hy hk hlook
          have b0 : (0 : Int) ≤ (t : Int) := by omega
          have b1 : (t : Int) < (es.length : Int) := by omega
          have b2 : (0 : Int) ≤ (u : Int) := by omega
          have b3 : (u : Int) < (es.length : Int) := by omega
          have hwu : IntKind.i64.wrap (u : Int) = (u : Int) := by rw [IntKind.wrap_i64]; omega
          go_wp2_with fail
          rw [Hti.out]
          by_cases hxy : xc < yc
          · have hd : decide (xc < yc) = true := by simpa using hxy
            have hcm := cmp_lt xc yc
            rw [hd] at hcm
            refine Reg.start (fun w' => w'.cell? ⟨g, u * 3, none⟩ = some (.int .i64 xc) ∧ w'.cell? ⟨g, u * 3 + 1, none⟩ = some (.int .i64 xo) ∧ w'.cell? ⟨g, u * 3 + 2, none⟩ = some (.int .i64 xn) ∧ w'.cell? ⟨g, t * 3, none⟩ = some (.int .i64 yc) ∧ w'.cell? ⟨g, t * 3 + 1, none⟩ = some (.int .i64 yo) ∧ w'.cell? ⟨g, t * 3 + 2, none⟩ = some (.int .i64 yn)) [11] (by kernel_rfl) ?_ (fun hHeld => ?_)
            · first | trivial | ((try dsimp only); exact ⟨x0, x1, x2, y0, y1, y2⟩)
            refine Reg.takeP (i := 0) (v := ?v73x35_0) rfl (by kernel_rfl) (by kernel_rfl) (by kernel_rfl) (by kernel_rfl) (fun _ _ _ h => h) (Or.inl ⟨by rfl, ?h73x35_0⟩) (fun _ => hHeld) ?r73x35_0
            case h73x35_0 => (intro wS hSw; (try dsimp only at hSw); go_simp; all_goals with_reducible rfl)
            try simp only [Act.put, List.setIfInBounds_toArray, List.set_cons_zero, List.set_cons_succ]
            refine Reg.takeP (i := 1) (v := ?v73x35_1) rfl (by kernel_rfl) (by kernel_rfl) (by kernel_rfl) (by kernel_rfl) (fun _ _ _ h => h) (Or.inl ⟨by rfl, ?h73x35_1⟩) (fun _ => hHeld) ?r73x35_1
            case h73x35_1 => (intro wS hSw; (try dsimp only at hSw); go_simp; all_goals with_reducible rfl)
            try simp only [Act.put, List.setIfInBounds_toArray, List.set_cons_zero, List.set_cons_succ]
            refine Reg.takeP (i := 2) (v := ?v73x35_2) rfl (by kernel_rfl) (by kernel_rfl) (by kernel_rfl) (by kernel_rfl) (fun _ _ _ h => h) (Or.inl ⟨by rfl, ?h73x35_2⟩) (fun _ => hHeld) ?r73x35_2
            case h73x35_2 => (intro wS hSw; (try dsimp only at hSw); go_simp; all_goals with_reducible rfl)
            try simp only [Act.put, List.setIfInBounds_toArray, List.set_cons_zero, List.set_cons_succ]
            refine Reg.takeP (i := 3) (v := ?v73x35_3) rfl (by kernel_rfl) (by kernel_rfl) (by kernel_rfl) (by kernel_rfl) (fun _ _ _ h => h) (Or.inl ⟨by rfl, ?h73x35_3⟩) (fun _ => hHeld) ?r73x35_3
            case h73x35_3 => (intro wS hSw; (try dsimp only at hSw); go_simp; all_goals with_reducible rfl)
            try simp only [Act.put, List.setIfInBounds_toArray, List.set_cons_zero, List.set_cons_succ]
            refine Reg.takeP (i := 4) (v := ?v73x35_4) rfl (by kernel_rfl) (by kernel_rfl) (by kernel_rfl) (by kernel_rfl) (fun _ _ _ h => h) (Or.inl ⟨by rfl, ?h73x35_4⟩) (fun _ => hHeld) ?r73x35_4
            case h73x35_4 => (intro wS hSw; (try dsimp only at hSw); go_simp; all_goals with_reducible rfl)
            try simp only [Act.put, List.setIfInBounds_toArray, List.set_cons_zero, List.set_cons_succ]
            refine Reg.takeP (i := 5) (v := ?v73x35_5) rfl (by kernel_rfl) (by kernel_rfl) (by kernel_rfl) (by kernel_rfl) (fun _ _ _ h => h) (Or.inl ⟨by rfl, ?h73x35_5⟩) (fun _ => hHeld) ?r73x35_5
            case h73x35_5 => (intro wS hSw; (try dsimp only at hSw); go_simp; all_goals with_reducible rfl)
            try simp only [Act.put, List.setIfInBounds_toArray, List.set_cons_zero, List.set_cons_succ]
            refine Reg.take (i := 6) (v := ?v73x35_6) rfl (by kernel_rfl) (by kernel_rfl) (by kernel_rfl) (by kernel_rfl) (fun _ _ _ h => h) (Or.inl ⟨by rfl, ?h73x35_6⟩) hHeld ?r73x35_6
            case h73x35_6 => (intro wS hSw; (try dsimp only at hSw); go_simp; all_goals with_reducible rfl)
            try simp only [Act.put, List.setIfInBounds_toArray, List.set_cons_zero, List.set_cons_succ]
            refine Reg.takeP (i := 7) (v := ?v73x35_7) rfl (by kernel_rfl) (by kernel_rfl) (by kernel_rfl) (by kernel_rfl) (fun _ _ _ h => h) (Or.inl ⟨by rfl, ?h73x35_7⟩) (fun _ => hHeld) ?r73x35_7
            case h73x35_7 => (intro wS hSw; (try dsimp only at hSw); go_simp; all_goals with_reducible rfl)
            try simp only [Act.put, List.setIfInBounds_toArray, List.set_cons_zero, List.set_cons_succ]
            refine Reg.takeP (i := 8) (v := ?v73x35_8) rfl (by kernel_rfl) (by kernel_rfl) (by kernel_rfl) (by kernel_rfl) (fun _ _ _ h => h) (Or.inl ⟨by rfl, ?h73x35_8⟩) (fun _ => hHeld) ?r73x35_8
            case h73x35_8 => (intro wS hSw; (try dsimp only at hSw); go_simp; all_goals with_reducible rfl)
            try simp only [Act.put, List.setIfInBounds_toArray, List.set_cons_zero, List.set_cons_succ]
            refine Reg.takeP (i := 9) (v := ?v73x35_9) rfl (by kernel_rfl) (by kernel_rfl) (by kernel_rfl) (by kernel_rfl) (fun _ _ _ h => h) (Or.inl ⟨by rfl, ?h73x35_9⟩) (fun _ => hHeld) ?r73x35_9
            case h73x35_9 => (intro wS hSw; (try dsimp only at hSw); go_simp; all_goals with_reducible rfl)
            try simp only [Act.put, List.setIfInBounds_toArray, List.set_cons_zero, List.set_cons_succ]
            refine Reg.take (i := 10) (v := ?v73x35_10) rfl (by kernel_rfl) (by kernel_rfl) (by kernel_rfl) (by kernel_rfl) (fun _ _ _ h => h) (Or.inl ⟨by rfl, ?h73x35_10⟩) hHeld ?r73x35_10
            case h73x35_10 => (intro wS hSw; (try dsimp only at hSw); go_simp; all_goals with_reducible rfl)
            try simp only [Act.put, List.setIfInBounds_toArray, List.set_cons_zero, List.set_cons_succ]
            refine Reg.one (i := 11) rfl (by kernel_rfl) (fun K hK => ?_)
            (go_simp; refine (cmp_ents ⟨xc, xo, xn⟩ ⟨yc, yo, yn⟩ _).mono ?_; rintro e w4 ⟨rfl, hw4⟩; have Hw4 := Lib.hid hw4; clear hw4; dsimp only)
            refine hK.out _ _ (fun hF => absurd hF (by decide)) (fun _ => ?_)
            clear hK K
            try simp only [Act.put, List.setIfInBounds_toArray, List.set_cons_zero, List.set_cons_succ]
            refine Reg.takeP (i := 12) (v := ?v73x35_12) rfl (by kernel_rfl) (by kernel_rfl) (by kernel_rfl) (by kernel_rfl) (fun _ _ _ h => h) (Or.inl ⟨by rfl, ?h73x35_12⟩) (fun hF => absurd hF (by decide)) ?r73x35_12
            case h73x35_12 => (intro wS hSw; (try dsimp only at hSw); go_simp; all_goals with_reducible rfl)
            try simp only [Act.put, List.setIfInBounds_toArray, List.set_cons_zero, List.set_cons_succ]
            refine Reg.takeP (i := 13) (v := ?v73x35_13) rfl (by kernel_rfl) (by kernel_rfl) (by kernel_rfl) (by kernel_rfl) (fun _ _ _ h => h) (Or.inl ⟨by rfl, ?h73x35_13⟩) (fun hF => absurd hF (by decide)) ?r73x35_13
            case h73x35_13 => (intro wS hSw; (try dsimp only at hSw); go_simp; all_goals with_reducible rfl)
            try simp only [Act.put, List.setIfInBounds_toArray, List.set_cons_zero, List.set_cons_succ]
            refine Reg.done (by kernel_rfl) ?_ _
            go_wp2
            go_roundw
            case rel => exact ⟨i, t, rfl, rfl, ⟨hl0, h1t, by omega, Hlook.out.low, .inr (by rw [← Hu.out]; unfold key; rw [Hx.out, Hy.out]; dsimp only; omega)⟩, Hk.out.laid hg Hw4.out⟩
            case measure => simp [intOf]; omega
          · have hd : decide (xc < yc) = false := by simpa using hxy
            have hcm := cmp_lt xc yc
            rw [hd] at hcm
            refine Reg.start (fun w' => w'.cell? ⟨g, u * 3, none⟩ = some (.int .i64 xc) ∧ w'.cell? ⟨g, u * 3 + 1, none⟩ = some (.int .i64 xo) ∧ w'.cell? ⟨g, u * 3 + 2, none⟩ = some (.int .i64 xn) ∧ w'.cell? ⟨g, t * 3, none⟩ = some (.int .i64 yc) ∧ w'.cell? ⟨g, t * 3 + 1, none⟩ = some (.int .i64 yo) ∧ w'.cell? ⟨g, t * 3 + 2, none⟩ = some (.int .i64 yn)) [11] (by kernel_rfl) ?_ (fun hHeld => ?_)
            · first | trivial | ((try dsimp only); exact ⟨x0, x1, x2, y0, y1, y2⟩)
            refine Reg.takeP (i := 0) (v := ?vb_0) rfl (by kernel_rfl) (by kernel_rfl) (by kernel_rfl) (by kernel_rfl) (fun _ _ _ h => h) (Or.inl ⟨by rfl, ?hb_0⟩) (fun _ => hHeld) ?rb_0
            case hb_0 => (intro wS hSw; (try dsimp only at hSw); go_simp; all_goals with_reducible rfl)
            try simp only [Act.put, List.setIfInBounds_toArray, List.set_cons_zero, List.set_cons_succ]
            refine Reg.takeP (i := 1) (v := ?vb_1) rfl (by kernel_rfl) (by kernel_rfl) (by kernel_rfl) (by kernel_rfl) (fun _ _ _ h => h) (Or.inl ⟨by rfl, ?hb_1⟩) (fun _ => hHeld) ?rb_1
            case hb_1 => (intro wS hSw; (try dsimp only at hSw); go_simp; all_goals with_reducible rfl)
            try simp only [Act.put, List.setIfInBounds_toArray, List.set_cons_zero, List.set_cons_succ]
            refine Reg.takeP (i := 2) (v := ?vb_2) rfl (by kernel_rfl) (by kernel_rfl) (by kernel_rfl) (by kernel_rfl) (fun _ _ _ h => h) (Or.inl ⟨by rfl, ?hb_2⟩) (fun _ => hHeld) ?rb_2
            case hb_2 => (intro wS hSw; (try dsimp only at hSw); go_simp; all_goals with_reducible rfl)
            try simp only [Act.put, List.setIfInBounds_toArray, List.set_cons_zero, List.set_cons_succ]
            refine Reg.takeP (i := 3) (v := ?vb_3) rfl (by kernel_rfl) (by kernel_rfl) (by kernel_rfl) (by kernel_rfl) (fun _ _ _ h => h) (Or.inl ⟨by rfl, ?hb_3⟩) (fun _ => hHeld) ?rb_3
            case hb_3 => (intro wS hSw; (try dsimp only at hSw); go_simp; all_goals with_reducible rfl)
            try simp only [Act.put, List.setIfInBounds_toArray, List.set_cons_zero, List.set_cons_succ]
            refine Reg.takeP (i := 4) (v := ?vb_4) rfl (by kernel_rfl) (by kernel_rfl) (by kernel_rfl) (by kernel_rfl) (fun _ _ _ h => h) (Or.inl ⟨by rfl, ?hb_4⟩) (fun _ => hHeld) ?rb_4
            case hb_4 => (intro wS hSw; (try dsimp only at hSw); go_simp; all_goals with_reducible rfl)
            try simp only [Act.put, List.setIfInBounds_toArray, List.set_cons_zero, List.set_cons_succ]
            refine Reg.takeP (i := 5) (v := ?vb_5) rfl (by kernel_rfl) (by kernel_rfl) (by kernel_rfl) (by kernel_rfl) (fun _ _ _ h => h) (Or.inl ⟨by rfl, ?hb_5⟩) (fun _ => hHeld) ?rb_5
            case hb_5 => (intro wS hSw; (try dsimp only at hSw); go_simp; all_goals with_reducible rfl)
            try simp only [Act.put, List.setIfInBounds_toArray, List.set_cons_zero, List.set_cons_succ]
            refine Reg.take (i := 6) (v := ?vb_6) rfl (by kernel_rfl) (by kernel_rfl) (by kernel_rfl) (by kernel_rfl) (fun _ _ _ h => h) (Or.inl ⟨by rfl, ?hb_6⟩) hHeld ?rb_6
            case hb_6 => (intro wS hSw; (try dsimp only at hSw); go_simp; all_goals with_reducible rfl)
            try simp only [Act.put, List.setIfInBounds_toArray, List.set_cons_zero, List.set_cons_succ]
            refine Reg.takeP (i := 7) (v := ?vb_7) rfl (by kernel_rfl) (by kernel_rfl) (by kernel_rfl) (by kernel_rfl) (fun _ _ _ h => h) (Or.inl ⟨by rfl, ?hb_7⟩) (fun _ => hHeld) ?rb_7
            case hb_7 => (intro wS hSw; (try dsimp only at hSw); go_simp; all_goals with_reducible rfl)
            try simp only [Act.put, List.setIfInBounds_toArray, List.set_cons_zero, List.set_cons_succ]
            refine Reg.takeP (i := 8) (v := ?vb_8) rfl (by kernel_rfl) (by kernel_rfl) (by kernel_rfl) (by kernel_rfl) (fun _ _ _ h => h) (Or.inl ⟨by rfl, ?hb_8⟩) (fun _ => hHeld) ?rb_8
            case hb_8 => (intro wS hSw; (try dsimp only at hSw); go_simp; all_goals with_reducible rfl)
            try simp only [Act.put, List.setIfInBounds_toArray, List.set_cons_zero, List.set_cons_succ]
            refine Reg.takeP (i := 9) (v := ?vb_9) rfl (by kernel_rfl) (by kernel_rfl) (by kernel_rfl) (by kernel_rfl) (fun _ _ _ h => h) (Or.inl ⟨by rfl, ?hb_9⟩) (fun _ => hHeld) ?rb_9
            case hb_9 => (intro wS hSw; (try dsimp only at hSw); go_simp; all_goals with_reducible rfl)
            try simp only [Act.put, List.setIfInBounds_toArray, List.set_cons_zero, List.set_cons_succ]
            refine Reg.take (i := 10) (v := ?vb_10) rfl (by kernel_rfl) (by kernel_rfl) (by kernel_rfl) (by kernel_rfl) (fun _ _ _ h => h) (Or.inl ⟨by rfl, ?hb_10⟩) hHeld ?rb_10
            case hb_10 => (intro wS hSw; (try dsimp only at hSw); go_simp; all_goals with_reducible rfl)
            try simp only [Act.put, List.setIfInBounds_toArray, List.set_cons_zero, List.set_cons_succ]
            refine Reg.one (i := 11) rfl (by kernel_rfl) (fun K hK => ?_)
            (go_simp; refine (cmp_ents ⟨xc, xo, xn⟩ ⟨yc, yo, yn⟩ _).mono ?_; rintro e w4 ⟨rfl, hw4⟩; have Hw4 := Lib.hid hw4; clear hw4; dsimp only)
            refine hK.out _ _ (fun hF => absurd hF (by decide)) (fun _ => ?_)
            clear hK K
            try simp only [Act.put, List.setIfInBounds_toArray, List.set_cons_zero, List.set_cons_succ]
            refine Reg.takeP (i := 12) (v := ?vb_12) rfl (by kernel_rfl) (by kernel_rfl) (by kernel_rfl) (by kernel_rfl) (fun _ _ _ h => h) (Or.inl ⟨by rfl, ?hb_12⟩) (fun hF => absurd hF (by decide)) ?rb_12
            case hb_12 => (intro wS hSw; (try dsimp only at hSw); go_simp; all_goals with_reducible rfl)
            try simp only [Act.put, List.setIfInBounds_toArray, List.set_cons_zero, List.set_cons_succ]
            refine Reg.takeP (i := 13) (v := ?vb_13) rfl (by kernel_rfl) (by kernel_rfl) (by kernel_rfl) (by kernel_rfl) (fun _ _ _ h => h) (Or.inl ⟨by rfl, ?hb_13⟩) (fun hF => absurd hF (by decide)) ?rb_13
            case hb_13 => (intro wS hSw; (try dsimp only at hSw); go_simp; all_goals with_reducible rfl)
            try simp only [Act.put, List.setIfInBounds_toArray, List.set_cons_zero, List.set_cons_succ]
            refine Reg.done (by kernel_rfl) ?_ _
            go_wp2
            go_roundw
            case rel => exact ⟨t + 1, j, by go_num, rfl, ⟨by omega, by omega, hjr, .inr (by rw [← Hu2.out, Nat.add_sub_cancel]; unfold key; rw [Hx.out, Hy.out]; dsimp only; omega), Hlook.out.high⟩, Hk.out.laid hg Hw4.out⟩
            case measure => simp [intOf]; omega
        · obtain rfl : i = j := by omega
          go_wp2_with fail
          go_meet
          exact ⟨i, rfl, rfl, hlook, hk⟩
    case rest => as_aux_lemma =>
      obtain ⟨s, rfl, rfl, hlook, hk⟩ := hcut
      have hcut2 := hlook.cut Hst.out Hn.out
      have hls := hcut2.ls
      have hsm := hcut2.sm
      have hn := Hn.out
      obtain ⟨e, he⟩ : ∃ e : Nat, e = n - s := ⟨_, rfl⟩
      rw [← he] at hcut2
      have hme := hcut2.me
      have heb := hcut2.eb
      have hse : s + (e - m) = c := by omega
      have He := Lib.hid (show (n : Int) - (s : Int) = (e : Int) by omega)
      have Hk := Lib.hid hk
      have Hcut := Lib.hid hcut2
      clear hk hcut2 hlook he hn
      go_upto_region 39 with fail
      rw [He.out]
      go_cut [185] (fun v wx => v = .bool (decide (s < m ∧ m < e)) ∧ wc = wx)
      case first => as_aux_lemma =>
        by_cases hs1 : s < m
        · have hd : decide ((s : Int) < (m : Int)) = true := by simpa using hs1
          by_cases hs2 : m < e
          · have hd2 : decide ((m : Int) < (e : Int)) = true := by simpa using hs2
            go_wp2_with fail
            go_meet
            exact ⟨by rw [decide_eq_true (show s < m ∧ m < e from ⟨hs1, hs2⟩)], rfl⟩
          · have hd2 : decide ((m : Int) < (e : Int)) = false := by simp; omega
            go_wp2_with fail
            go_meet
            exact ⟨by rw [decide_eq_false (show ¬ (s < m ∧ m < e) by omega)], rfl⟩
        · have hd : decide ((s : Int) < (m : Int)) = false := by simp; omega
          go_wp2_with fail
          go_meet
          exact ⟨by rw [decide_eq_false (show ¬ (s < m ∧ m < e) by omega)], rfl⟩
      case rest => as_aux_lemma =>
        obtain ⟨rfl, hwc⟩ := hcut
        subst hwc
        go_upto_if 185 with fail
        go_cut [] (fun wx => ∃ es1, Turned g (rotI s m e) es w es1 wx)
        case first => as_aux_lemma =>
          by_cases hc3 : s < m ∧ m < e
          · rw [decide_eq_true hc3]
            have hr := rotate_any g cap s m e es wc Hk.out.row hc3.1 hc3.2 (by omega) hl (by have := Hk.out.keep.size; omega)
            have Hr := Lib.hid hr
            clear hr
            go_wp2_with fail
            refine Hr.out.mono ?_
            rintro e' w2 ⟨rfl, es1, ht⟩
            have Ht := Lib.hid ht
            clear ht
            go_wp2
            go_meet
            exact ⟨es1, Ht.out.row, Ht.out.perm, Ht.out.came, Hk.out.keep.trans (Ht.out.keep.mono Hk.out.keep.size)⟩
          · rw [decide_eq_false hc3]
            go_wp2_with fail
            go_meet
            exact ⟨es, Hk.out.row, List.Perm.refl _, fun q => by rw [rotI_same (by omega)], Hk.out.keep⟩
        case rest => as_aux_lemma =>
          obtain ⟨es1, ht⟩ := hcut
          have hh := halves ht h1 h2 Hcut.out
          rw [hse] at hh
          have Hh := Lib.hid hh
          have Ht := Lib.hid ht
          have Hl1 := Lib.hid ht.length
          clear hh ht Hk
          go_upto_region 41 with fail
          go_cut [199] (fun v wx => v = .bool (decide (a < s ∧ s < c)) ∧ wc = wx)
          case first => as_aux_lemma =>
            by_cases hs1 : a < s
            · have hd : decide ((a : Int) < (s : Int)) = true := by simpa using hs1
              by_cases hs2 : s < c
              · have hd2 : decide ((s : Int) < (c : Int)) = true := by simpa using hs2
                go_wp2_with fail
                go_meet
                exact ⟨by rw [decide_eq_true (show a < s ∧ s < c from ⟨hs1, hs2⟩)], rfl⟩
              · have hd2 : decide ((s : Int) < (c : Int)) = false := by simp; omega
                go_wp2_with fail
                go_meet
                exact ⟨by rw [decide_eq_false (show ¬ (a < s ∧ s < c) by omega)], rfl⟩
            · have hd : decide ((a : Int) < (s : Int)) = false := by simp; omega
              go_wp2_with fail
              go_meet
              exact ⟨by rw [decide_eq_false (show ¬ (a < s ∧ s < c) by omega)], rfl⟩
          case rest => as_aux_lemma =>
            obtain ⟨rfl, hwc⟩ := hcut
            subst hwc
            go_upto_if 199 with fail
            go_cut [] (fun wx => ∃ es2, Part g a c es1 wc es2 wx ∧ SortedOn es2 a c)
            case first => as_aux_lemma =>
              by_cases hc3 : a < s ∧ s < c
              · rw [decide_eq_true hc3]
                have hr := Ih.out g cap a s c es1 wc Ht.out.row hc3.1 hc3.2 (by omega) (by rw [Hl1.out]; omega) (by rw [Hl1.out]; omega) (by have := Ht.out.keep.size; omega) Hh.out.l1 Hh.out.l2
                rw [Hl1.out] at hr
                have Hr := Lib.hid hr
                clear hr
                go_wp2_with fail
                refine Hr.out.mono ?_
                rintro e' w2 ⟨rfl, es2, hp2, ho2⟩
                have Hp2 := Lib.hid hp2
                have Ho2 := Lib.hid ho2
                clear hp2 ho2
                go_wp2
                go_meet
                exact ⟨es2, Hp2.out, Ho2.out⟩
              · rw [decide_eq_false hc3]
                go_wp2_with fail
                go_meet
                refine ⟨es1, ⟨Ht.out.row, List.Perm.refl _, SameOut.refl _ _ _, Keep.refl _ _ _⟩, ?_⟩
                by_cases has : a = s
                · subst has; exact Hh.out.l2
                · have : s = c := by omega
                  subst this; exact Hh.out.l1
            case rest => as_aux_lemma =>
              obtain ⟨es2, hp1, ho1⟩ := hcut
              have r1 := sorted_same Hh.out.r1 hp1.same (.inr (Nat.le_refl _))
              have r2 := sorted_same Hh.out.r2 hp1.same (.inr (by omega))
              have Hl2 := Lib.hid (hp1.same.1.trans Hl1.out)
              have Hp1 := Lib.hid hp1
              have Ho1 := Lib.hid ho1
              have hgc : g < wc.heap.size := by have := Ht.out.keep.size; have := hp1.keep.size; omega
              clear hp1 ho1
              go_upto_region 43 with fail
              go_cut [213] (fun v wx => v = .bool (decide (c < e ∧ e < b)) ∧ wc = wx)
              case first => as_aux_lemma =>
                by_cases hs1 : c < e
                · have hd : decide ((c : Int) < (e : Int)) = true := by simpa using hs1
                  by_cases hs2 : e < b
                  · have hd2 : decide ((e : Int) < (b : Int)) = true := by simpa using hs2
                    go_wp2_with fail
                    go_meet
                    exact ⟨by rw [decide_eq_true (show c < e ∧ e < b from ⟨hs1, hs2⟩)], rfl⟩
                  · have hd2 : decide ((e : Int) < (b : Int)) = false := by simp; omega
                    go_wp2_with fail
                    go_meet
                    exact ⟨by rw [decide_eq_false (show ¬ (c < e ∧ e < b) by omega)], rfl⟩
                · have hd : decide ((c : Int) < (e : Int)) = false := by simp; omega
                  go_wp2_with fail
                  go_meet
                  exact ⟨by rw [decide_eq_false (show ¬ (c < e ∧ e < b) by omega)], rfl⟩
              case rest => as_aux_lemma =>
                obtain ⟨rfl, hwc⟩ := hcut
                subst hwc
                by_cases hc3 : c < e ∧ e < b
                · rw [decide_eq_true hc3]
                  have hr := Ih.out g cap c e b es2 wc Hp1.out.row hc3.1 hc3.2 (by omega) (by rw [Hl2.out]; omega) (by rw [Hl2.out]; omega) hgc r1 r2
                  rw [Hl2.out] at hr
                  have Hr := Lib.hid hr
                  clear hr
                  go_wp2_with fail
                  refine Hr.out.mono ?_
                  rintro e' w3 ⟨rfl, es3, hp3, ho3⟩
                  have Hp3 := Lib.hid hp3
                  have Ho3 := Lib.hid ho3
                  clear hp3 ho3
                  go_wp2
                  refine bodyPost_end (results_none rfl _ _ _) rfl ?_
                  exact ⟨rfl, es3, merged Ht.out Hcut.out hse hac hcb hb h1 h2 Hp1.out Ho1.out Hp3.out Ho3.out⟩
                · rw [decide_eq_false hc3]
                  go_wp2
                  refine bodyPost_end (results_none rfl _ _ _) rfl ?_
                  refine ⟨rfl, es2, merged Ht.out Hcut.out hse hac hcb hb h1 h2 Hp1.out Ho1.out ⟨Hp1.out.row, List.Perm.refl _, SameOut.refl _ _ _, Keep.refl _ _ _⟩ ?_⟩
                  by_cases hce : c = e
                  · subst hce; exact r2
                  · have : e = b := by omega
                    subst this; exact r1

theorem merge_ok : ∀ N, MergeOk N
  | 0 => fun g cap a m b es w _ h1 h2 h3 _ _ _ _ _ => by omega
  | N + 1 => fun g cap a m b es w h h1 h2 h3 h4 h5 h6 h7 h8 => by
    by_cases hm : m = a + 1
    · exact symMerge_first g cap a m b es w h hm h2 h4 h5 h6 h8
    · by_cases hm2 : b = m + 1
      · exact symMerge_last g cap a m b es w h h1 hm hm2 h4 h5 h6 h7
      · exact symMerge_both N g cap a m b es w (merge_ok N) h h1 h2 h3 hm hm2 h4 h5 h6 h7 h8
end Go.Proofs.Ytadelkancmbanaa
