/-
  bond.Cells: a cell's newest version that holds; the one that a stamp shows.
-/
import Derived.Test.YtadelkancmbanaaGreatBGoes
namespace Go.Proofs.YtadelkancmbanaaGreat
open Go.RowKit
attribute [local go_sem ↓] Go.wp_at_zero Go.wp_at_succ

theorem bheld_any (s : Int) (w : World) (h : 2 ≤ s) : Calls Tryz.prog 80 #[.int .i64 s] w fun e w' => e = .returned (.bool true) ∧ Below w.heap.size w w' := by
  have h1 : (s != 1) = true := by rw [bne_iff_ne]; omega
  go_enter Tryz.func80, Tryz.ntmps80
  go_wp2
  go_ret
  exact ⟨rfl, Below.refl _ _⟩
theorem callHeld (cap : Array Value) : ∀ w, (callFunc 80 cap).run Tryz.prog w = .ok (.enter 80 cap) w := fun w => by kernel_rfl

theorem bstamp_any (s : Int) (w : World) (h0 : 0 ≤ s) (h1 : s ≤ 2000000) : Calls Tryz.prog 47 #[.int .i64 s] w fun e w' => e = .returned (.int .i64 (s - 1)) ∧ w = w' := by
  go_enter Tryz.func47, Tryz.ntmps47
  go_wp2
  go_ret
  exact ⟨rfl, rfl⟩
theorem bshown_any (s t : Int) (w : World) (h0 : 2 ≤ s) (h1 : s ≤ 1000001) : Calls Tryz.prog 82 #[.int .i64 s, .int .i64 t] w fun e w' => e = .returned (.bool (decide (s - 1 ≤ t))) ∧ w = w' := by
  have h2 : (s != 1) = true := by rw [bne_iff_ne]; omega
  go_enter Tryz.func82, Tryz.ntmps82
  go_wp2_with (first | (go_at_call 47; ((with_reducible refine (bstamp_any _ _ (by omega) (by omega)).mono ?_); rintro e w' ⟨rfl, rfl⟩)))
  go_ret
  exact ⟨rfl, rfl⟩
theorem bat1_any (s t : Int) (q : Nat) (w : World) (h0 : 2 ≤ s) (h1 : s ≤ 1000001) (hq : w.cell? ⟨q, 0, none⟩ = some (.int .i64 t)) : Calls Tryz.prog 81 #[.int .i64 s, .pointer (some ⟨q, 0, none⟩)] w fun e w' => e = .returned (.bool (decide (s - 1 ≤ t))) ∧ w = w' := by
  go_enter Tryz.func81, Tryz.ntmps81
  go_wp2_with (first | (go_at_call 82; ((with_reducible refine (bshown_any _ _ _ h0 h1).mono ?_); rintro e w' ⟨rfl, rfl⟩)))
  go_ret
  exact ⟨rfl, rfl⟩
theorem callAt1 (cap : Array Value) : ∀ w, (callFunc 81 cap).run Tryz.prog w = .ok (.enter 81 cap) w := fun w => by kernel_rfl

/-- A cell's chain: from its head on. -/
def CellChain (n made : Nat) (tbl : Nat → Slot) (st : Nat → Int) (heads : List Int) (c : Nat) (L : List Ver) : Prop := ChainAt n made tbl st (heads.getD c 0) L

set_option maxRecDepth 100000 in
set_option maxHeartbeats 1600000 in
theorem bat_any (X : XB) (K : PB) (n made c : Nat) (t : Int) (heads : List Int) (db : Nat → Nat) (st : Nat → Int) (tbl : Nat → Slot) (next : Nat → Nat) (head : Int) (x : Ver) (r : List Ver) (w : World) (hb : BondMem X heads made db st w) (hp : PoolMem K n tbl next head w) (hX : X.p = K.p)
    (hc : c < heads.length) (hch : CellChain n made tbl st heads c (x :: r)) :
    Calls Tryz.prog 44 #[.pointer (some ⟨X.x, 0, none⟩), .pointer none, .int .i64 c, .int .i64 t] w fun e w' => e = .returned (.tuple #[verOr ((x :: r).find? fun y => decide (y.s - 1 ≤ t)), .int .i64 0]) ∧ Below w.heap.size w w' := by
  obtain ⟨hh, hv, hr⟩ := hch
  obtain ⟨W, hW⟩ : ∃ W, W = (w.alloc (.cells #[.int .i64 t] 3)).alloc (.cells #[.int .i64 0, .int .i64 0, .int .i64 0] 97) := ⟨_, rfl⟩
  have hbW : Below w.heap.size w W := by rw [hW]; exact ((Below.refl _ _).alloc (Nat.le_refl _) _).alloc (by simp) _
  have gW : W.heap[w.heap.size]? = some (.cells #[.int .i64 t] 3 (0, 0)) := by rw [hW]; exact heap_alloc2_old w _ _
  have gW1 : W.heap[w.heap.size + 1]? = some (.cells #[.int .i64 0, .int .i64 0, .int .i64 0] 97 (0, 0)) := by rw [hW]; exact heap_alloc2_new w _ _
  have sW : w.heap.size + 2 = W.heap.size := by rw [hW]; simp
  have hbm := hb.below hbW
  have hpm := hp.below hbW
  have htp := tops_any X K n made c heads db st tbl next head x W hbm hpm hX hv hc hh
  have hv2 := hv
  have Htp := Lib.hid htp
  have HbW := Lib.hid hbW
  have GW := Lib.hid gW
  have GW1 := Lib.hid gW1
  have SW := Lib.hid sW
  have HW := Lib.hid hW
  have HB := Lib.hid hbm
  have HP := Lib.hid hpm
  have HX := Lib.hid hX
  have Hv := Lib.hid hv
  have Hr := Lib.hid hr
  clear hb hp hX hv hv2 hr htp hbW gW gW1 sW hW hbm hpm hh hc
  unfold verVal at Htp
  obtain ⟨xh, hxh⟩ : ∃ a, a = hnd x.i x.g := ⟨_, rfl⟩
  obtain ⟨xv, hxv⟩ : ∃ a, a = x.v := ⟨_, rfl⟩
  obtain ⟨xs, hxs⟩ : ∃ a, a = x.s := ⟨_, rfl⟩
  rw [← hxh, ← hxv, ← hxs] at Htp
  have Hxh := Lib.hid hxh
  have Hxv := Lib.hid hxv
  have Hxs := Lib.hid hxs
  clear hxh hxv hxs
  generalize hfind : (List.find? (fun y => decide (y.s - 1 ≤ t)) (x :: r)) = res
  obtain ⟨a, b, c', hres⟩ : ∃ a b c, verOr res = .agg #[.int .i64 a, .int .i64 b, .int .i64 c] := by cases res <;> exact ⟨_, _, _, rfl⟩
  rw [hres]
  have Hfind := Lib.hid hfind
  have Hres := Lib.hid hres
  clear hfind hres
  go_enter Tryz.func44, Tryz.ntmps44
  go_wp2_with fail
  rw [← HW.out]
  refine Htp.out.mono ?_
  rintro e w1 ⟨rfl, hb1⟩
  have SW1 := Lib.hid hb1.size
  have g0 := (hb1.block w.heap.size (by have := SW.out; omega)).trans GW.out
  have g1 := (hb1.block (w.heap.size + 1) (by have := SW.out; omega)).trans GW1.out
  have G0 := Lib.hid g0
  have G1 := Lib.hid g1
  have r0 : w1.cell? ⟨w.heap.size + 1, 0, none⟩ = some (.int .i64 0) := by simp [World.cell?, g1]
  have r1 : w1.cell? ⟨w.heap.size + 1, 1, none⟩ = some (.int .i64 0) := by simp [World.cell?, g1]
  have r2 : w1.cell? ⟨w.heap.size + 1, 2, none⟩ = some (.int .i64 0) := by simp [World.cell?, g1]
  have fr : ∀ j, w1.frozen? ⟨w.heap.size + 1, j, none⟩ = false := fun j => by simp [World.frozen?, g1]
  have HbW1 := Lib.hid hb1
  clear hb1 g0 g1
  obtain ⟨W2, hW2⟩ : ∃ W2, W2 = w1.alloc (.cells #[.int .i64 xh, .int .i64 xv, .int .i64 xs] 97) := ⟨_, rfl⟩
  have hb2 : Below W.heap.size W W2 := by rw [hW2]; exact HbW1.out.alloc HbW1.out.size _
  have g2 : W2.heap[w.heap.size]? = some (.cells #[.int .i64 t] 3 (0, 0)) := (hb2.block w.heap.size (by have := SW.out; omega)).trans GW.out
  have hgo : Calls Tryz.prog 79 #[.pointer (some ⟨X.x, 0, none⟩), .pointer none, .agg #[.int .i64 xh, .int .i64 xv, .int .i64 xs], .func (.func 81) #[] #[.pointer (some ⟨w.heap.size, 0, none⟩)]] W2 fun e w' => e = .returned (.tuple #[verOr ((x :: r).find? fun y => decide (y.s - 1 ≤ t)), .int .i64 0]) ∧ Below W2.heap.size W2 w' := by
    have hgo := goes_any X K n made 81 #[.pointer (some ⟨w.heap.size, 0, none⟩)] (fun s => decide (s - 1 ≤ t)) heads db st tbl next head x r W2 (HB.out.below hb2) (HP.out.below hb2) HX.out Hv.out Hr.out callAt1 (fun s w' h0 h1 hb => (bat1_any s t w.heap.size w' h0 h1 (by
      have g : w'.heap[w.heap.size]? = some (.cells #[.int .i64 t] 3 (0, 0)) := (hb.block w.heap.size (Array.getElem?_eq_some_iff.1 g2).1).trans g2
      simp [World.cell?, g])).mono fun e w'' k => ⟨k.1, k.2 ▸ Below.refl _ _⟩)
    unfold verVal at hgo
    rw [← Hxh.out, ← Hxv.out, ← Hxs.out] at hgo
    exact hgo
  rw [Hfind.out, Hres.out] at hgo
  have Hgo := Lib.hid hgo
  have HW2 := Lib.hid hW2
  have Hb2 := Lib.hid hb2
  clear hgo hW2 hb2 g2
  go_wp2_with fail
  rw [← HW2.out]
  refine Hgo.out.mono ?_
  rintro e w2 ⟨rfl, hb2⟩
  have hsz : w.heap.size + 1 < W2.heap.size := by have := SW.out; have := SW1.out; rw [HW2.out]; simp; omega
  have h3 := (hb2.block (w.heap.size + 1) hsz).trans ((Hb2.out.block (w.heap.size + 1) (by have := SW.out; omega)).trans GW1.out)
  have r0 : w2.cell? ⟨w.heap.size + 1, 0, none⟩ = some (.int .i64 0) := by simp [World.cell?, h3]
  have r1 : w2.cell? ⟨w.heap.size + 1, 1, none⟩ = some (.int .i64 0) := by simp [World.cell?, h3]
  have r2 : w2.cell? ⟨w.heap.size + 1, 2, none⟩ = some (.int .i64 0) := by simp [World.cell?, h3]
  have fr : ∀ j, w2.frozen? ⟨w.heap.size + 1, j, none⟩ = false := fun j => by simp [World.frozen?, h3]
  have hgF := heap_setCell_same _ _ 2 _ _ (.int .i64 c') (heap_setCell_same _ _ 1 _ _ (.int .i64 b) (heap_setCell_same _ _ 0 _ _ (.int .i64 a) h3))
  have HgF := Lib.hid hgF
  have Hbe := Lib.hid (HbW.out.trans ((Hb2.out.trans (hb2.mono Hb2.out.size)).mono HbW.out.size))
  clear hgF h3 hsz hb2
  go_wp2
  refine bodyPost_ret (results_row_tmp (P := Tryz.prog) (ty := 97) rfl _ _ (w.heap.size + 1) 97 #[.int .i64 a, .int .i64 b, .int .i64 c'] (0, 0) _ _ rfl rfl HgF.out Tryz.underlying97 rfl (by kernel_rfl)) rfl ?_
  exact ⟨rfl, ((Hbe.out.setCell (by show w.heap.size ≤ w.heap.size + 1; omega) _).setCell (by show w.heap.size ≤ w.heap.size + 1; omega) _).setCell (by show w.heap.size ≤ w.heap.size + 1; omega) _⟩
end Go.Proofs.YtadelkancmbanaaGreat
