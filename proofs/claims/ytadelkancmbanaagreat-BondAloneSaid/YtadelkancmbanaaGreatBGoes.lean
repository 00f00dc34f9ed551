/-
  bond.Cells: from a version to the newest one that is as it must be.
-/
import Derived.Test.YtadelkancmbanaaGreatBBond2
import Derived.Deep.LoopGhost
namespace Go.Proofs.YtadelkancmbanaaGreat
open Go.RowKit
attribute [local go_sem ↓] Go.wp_at_zero Go.wp_at_succ

structure GoesInv (N : Nat) (n made : Nat) (tbl : Nat → Slot) (st : Nat → Int) (P : Int → Bool) (L : List Ver) (w wr : World) (x : Ver) (r : List Ver) : Prop where
  ver : VerAt n made tbl st x
  rest : ChainAt n made tbl st (tbl x.i).link r
  find : L.find? (fun y => P y.s) = (x :: r).find? (fun y => P y.s)
  box : wr.heap[N]? = some (.cells (verCells x) 97 (0, 0))
  res : wr.heap[N + 1]? = some (.cells #[.int .i64 0, .int .i64 0, .int .i64 0] 97 (0, 0))
  below : Below w.heap.size w wr

set_option maxRecDepth 100000 in
set_option maxHeartbeats 4000000 in
theorem goes_any (X : XB) (K : PB) (n made f : Nat) (caps : Array Value) (P : Int → Bool) (heads : List Int) (db : Nat → Nat) (st : Nat → Int) (tbl : Nat → Slot) (next : Nat → Nat) (head : Int) (x : Ver) (r : List Ver) (w : World) (hb : BondMem X heads made db st w) (hp : PoolMem K n tbl next head w) (hX : X.p = K.p)
    (hv : VerAt n made tbl st x) (hr : ChainAt n made tbl st (tbl x.i).link r) (hcall : ∀ (cap : Array Value) (w : World), (callFunc f cap).run Tryz.prog w = .ok (.enter f cap) w)
    (hmust : ∀ s w', 2 ≤ s → s ≤ 1000001 → Below w.heap.size w w' → Calls Tryz.prog f (#[.int .i64 s] ++ caps) w' fun e w'' => e = .returned (.bool (P s)) ∧ Below w'.heap.size w' w'') :
    Calls Tryz.prog 79 #[.pointer (some ⟨X.x, 0, none⟩), .pointer none, verVal x, .func (.func f) #[] caps] w fun e w' => e = .returned (.tuple #[verOr ((x :: r).find? fun y => P y.s), .int .i64 0]) ∧ Below w.heap.size w w' := by
  obtain ⟨W, hW⟩ : ∃ W, W = (w.alloc (.cells (verCells x) 97)).alloc (.cells #[.int .i64 0, .int .i64 0, .int .i64 0] 97) := ⟨_, rfl⟩
  have h0 : GoesInv w.heap.size n made tbl st P (x :: r) w W x r := by
    refine ⟨hv, hr, rfl, ?_, ?_, ?_⟩
    · rw [hW]; exact heap_alloc2_old w _ _
    · rw [hW]; exact heap_alloc2_new w _ _
    · rw [hW]; exact ((Below.refl _ _).alloc (Nat.le_refl _) _).alloc (by simp) _
  have H0 := Lib.hid h0
  have HB := Lib.hid hb
  have HP := Lib.hid hp
  have HX := Lib.hid hX
  have Hmust := Lib.hid hmust
  have HW := Lib.hid hW
  have c0 := hb.c0
  rw [hX] at c0
  have hxl := hb.lt.1
  have HL : Hid ((x :: r).find? (fun y => P y.s) = (x :: r).find? (fun y => P y.s)) := Lib.hid rfl
  generalize hL : x :: r = L at *
  have HLl := Lib.hid hL
  have hlen : r.length + 1 = L.length := by rw [← hL]; rfl
  clear hb hp hX hv hr hmust h0 hW hL
  unfold verCells verVal at *
  go_enter Tryz.func79, Tryz.ntmps79
  go_wp2_with fail
  rw [← HW.out]
  go_loopg [10, 11] L.length (fun k _ _ wr => ∃ y q, GoesInv w.heap.size n made tbl st P L w wr y q ∧ q.length + 1 = k)
  case atStart => exact ⟨x, r, H0.out, hlen⟩
  case round =>
    clear H0 hlen
    obtain ⟨y, q, hI, hk⟩ := hrel
    have g0 := hI.box
    have e2 : wr.cell? ⟨w.heap.size, 2, none⟩ = some (.int .i64 y.s) := by simp [World.cell?, g0, verCells]
    have hsB := hI.ver.sB
    have hm := Hmust.out y.s wr hsB.1 hsB.2 hI.below
    have Hm := Lib.hid hm
    have HI := Lib.hid hI
    clear hm hI g0
    generalize hys : y.s = ys at *
    have Hys := Lib.hid hys
    clear hys
    go_wp2_with fail
    refine Hm.out.mono ?_
    rintro e w2 ⟨rfl, hb2⟩
    have g0 := (hb2.block _ (Array.getElem?_eq_some_iff.1 HI.out.box).1).trans HI.out.box
    have g1 := (hb2.block _ (Array.getElem?_eq_some_iff.1 HI.out.res).1).trans HI.out.res
    have hbel := HI.out.below.trans (hb2.mono HI.out.below.size)
    have G0 := Lib.hid g0
    have G1 := Lib.hid g1
    have Hbel := Lib.hid hbel
    obtain ⟨yh, hyh⟩ : ∃ a, a = hnd y.i y.g := ⟨_, rfl⟩
    obtain ⟨yv, hyv⟩ : ∃ a, a = y.v := ⟨_, rfl⟩
    have b0 : w2.cell? ⟨w.heap.size, 0, none⟩ = some (.int .i64 yh) := by rw [hyh]; simp [World.cell?, g0, verCells]
    have b1 : w2.cell? ⟨w.heap.size, 1, none⟩ = some (.int .i64 yv) := by rw [hyv]; simp [World.cell?, g0, verCells]
    have b2 : w2.cell? ⟨w.heap.size, 2, none⟩ = some (.int .i64 ys) := by rw [← Hys.out]; simp [World.cell?, g0, verCells]
    have fb : ∀ j, w2.frozen? ⟨w.heap.size, j, none⟩ = false := fun j => by simp [World.frozen?, g0]
    have r0 : w2.cell? ⟨w.heap.size + 1, 0, none⟩ = some (.int .i64 0) := by simp [World.cell?, g1]
    have r1 : w2.cell? ⟨w.heap.size + 1, 1, none⟩ = some (.int .i64 0) := by simp [World.cell?, g1]
    have r2 : w2.cell? ⟨w.heap.size + 1, 2, none⟩ = some (.int .i64 0) := by simp [World.cell?, g1]
    have fr : ∀ j, w2.frozen? ⟨w.heap.size + 1, j, none⟩ = false := fun j => by simp [World.frozen?, g1]
    have Hyh := Lib.hid hyh
    have Hyv := Lib.hid hyv
    clear hb2 g0 g1 hbel e2 hyh hyv
    cases hP : P ys
    · have HPf := Lib.hid hP
      have hlk := flipped (plink_any K n y.i y.g tbl next head w2.drew ((HP.out.below Hbel.out).drew) HI.out.ver.held)
      rw [← Hyh.out] at hlk
      have c02 : w2.cell? ⟨X.x, 0, none⟩ = some (.pointer (some ⟨K.p, 0, none⟩)) := (Hbel.out.cell (p := ⟨X.x, 0, none⟩) hxl).trans c0
      obtain ⟨lk, hlkv⟩ : ∃ a, a = (tbl y.i).link := ⟨_, rfl⟩
      rw [← hlkv] at hlk
      have Hlkv := Lib.hid hlkv
      have Hlk := Lib.hid hlk
      clear hlkv hlk hP Hm
      go_wp2_with fail
      refine wp_region_still_tail 12 (by kernel_rfl) (by kernel_rfl) ?_
      simp only [List.take_succ_cons, List.take_zero, List.drop_succ_cons, List.drop_zero]
      change wpStill _ _ (World.drew _) _ _ _
      repeat (first | (refine wpStill_step (fun K hK => ?_); go_simp; refine hK _ ?_; clear hK K) | (refine wpStill_step (fun K hK => ?_); go_simp; refine ⟨_, Hlk.out, hK _ ?_⟩; clear hK K))
      refine wpStill_nil ?_
      change wpList _ _ _ _ _ (World.drew _)
      cases q with
      | nil =>
        have hl0 : lk = 0 := by rw [Hlkv.out]; exact HI.out.rest
        subst hl0
        have hgF := heap_setCell_same _ _ 2 _ _ (.int .i64 0) (heap_setCell_same _ _ 1 _ _ (.int .i64 0) (heap_setCell_same _ _ 0 _ _ (.int .i64 0) G1.out))
        have HgF := Lib.hid hgF
        clear hgF
        go_wp2
        refine bodyPost_ret (results_row_tmp (P := Tryz.prog) (ty := 97) rfl _ _ (w.heap.size + 1) 97 #[.int .i64 0, .int .i64 0, .int .i64 0] (0, 0) _ _ rfl rfl HgF.out Tryz.underlying97 rfl (by kernel_rfl)) rfl ?_
        refine ⟨?_, (((Hbel.out.setCell (by show w.heap.size ≤ w.heap.size + 1; omega) _).setCell (by show w.heap.size ≤ w.heap.size + 1; omega) _).setCell (by show w.heap.size ≤ w.heap.size + 1; omega) _).drew⟩
        rw [HI.out.find, List.find?_cons_of_neg (by rw [Hys.out, HPf.out]; decide)]
        rfl
      | cons y2 q2 =>
        obtain ⟨hl1, hv2, hr2⟩ : lk = hnd y2.i y2.g ∧ VerAt n made tbl st y2 ∧ ChainAt n made tbl st (tbl y2.i).link q2 := by rw [Hlkv.out]; exact HI.out.rest
        have hlo := hv2.held.lo
        have hg0 := hv2.held.g0
        have hlk0 : (lk == 0) = false := by rw [beq_eq_false_iff_ne, hl1]; unfold hnd; omega
        have hbel2 : Below w.heap.size w w2.drew := Hbel.out.drew
        have hk2 := looks_any X K n made heads db st tbl next head y2 w2.drew (HB.out.below hbel2) (HP.out.below hbel2) HX.out hv2
        rw [← hl1] at hk2
        unfold verVal at hk2
        rw [← hl1] at hk2
        have Hk2 := Lib.hid hk2
        have Hv2 := Lib.hid hv2
        have Hr2 := Lib.hid hr2
        have Hl1 := Lib.hid hl1
        obtain ⟨v2, hv2v⟩ : ∃ a, a = y2.v := ⟨_, rfl⟩
        obtain ⟨s2, hs2v⟩ : ∃ a, a = y2.s := ⟨_, rfl⟩
        rw [← hv2v, ← hs2v] at Hk2
        have Hv2v := Lib.hid hv2v
        have Hs2v := Lib.hid hs2v
        clear hk2 hv2 hr2 hl1 hv2v hs2v Hlk hlo hg0 hbel2
        go_wp2_with fail
        refine Hk2.out.mono ?_
        rintro e w3 ⟨rfl, hb3⟩
        have hNl : w.heap.size + 1 < w2.heap.size := (Array.getElem?_eq_some_iff.1 G1.out).1
        have g0 := (hb3.block w.heap.size (by show w.heap.size < w2.heap.size; omega)).trans G0.out
        have g1 := (hb3.block (w.heap.size + 1) hNl).trans G1.out
        have d0 : w3.cell? ⟨w.heap.size, 0, none⟩ = some (.int .i64 (hnd y.i y.g)) := by simp [World.cell?, g0, verCells]
        have d1 : w3.cell? ⟨w.heap.size, 1, none⟩ = some (.int .i64 y.v) := by simp [World.cell?, g0, verCells]
        have d2 : w3.cell? ⟨w.heap.size, 2, none⟩ = some (.int .i64 y.s) := by simp [World.cell?, g0, verCells]
        have df : ∀ j, w3.frozen? ⟨w.heap.size, j, none⟩ = false := fun j => by simp [World.frozen?, g0]
        have hgF := heap_setCell_same _ _ 2 _ _ (.int .i64 s2) (heap_setCell_same _ _ 1 _ _ (.int .i64 v2) (heap_setCell_same _ _ 0 _ _ (.int .i64 lk) g0))
        have HgF := Lib.hid hgF
        have G13 := Lib.hid g1
        have Hb3 := Lib.hid hb3
        clear hb3 g0 g1 hgF b0 b1 b2 fb r0 r1 r2 fr
        go_wp2
        go_roundg (q2.length + 1)
        case measure => rw [← hk]; simp
        case rel =>
          refine ⟨y2, q2, ⟨Hv2.out, Hr2.out, ?_, ?_, ?_, ?_⟩, rfl⟩
          · rw [HI.out.find, List.find?_cons_of_neg (by rw [Hys.out, HPf.out]; decide)]
          · have := HgF.out
            unfold verCells
            rw [← Hl1.out, ← Hv2v.out, ← Hs2v.out]
            exact this
          · rw [Below.heap_setCell _ _ _ _ (by show w.heap.size + 1 ≠ w.heap.size; omega), Below.heap_setCell _ _ _ _ (by show w.heap.size + 1 ≠ w.heap.size; omega), Below.heap_setCell _ _ _ _ (by show w.heap.size + 1 ≠ w.heap.size; omega)]
            exact G13.out
          · have hz : w.heap.size ≤ w2.heap.size := Hbel.out.size
            exact (((Hbel.out.drew.trans (Hb3.out.mono hz)).setCell (Nat.le_refl _) _).setCell (Nat.le_refl _) _).setCell (Nat.le_refl _) _
    · have HPt := Lib.hid hP
      have hgF := heap_setCell_same _ _ 2 _ _ (.int .i64 ys) (heap_setCell_same _ _ 1 _ _ (.int .i64 yv) (heap_setCell_same _ _ 0 _ _ (.int .i64 yh) G1.out))
      have HgF := Lib.hid hgF
      clear hgF hP Hm
      go_wp2
      refine bodyPost_ret (results_row_tmp (P := Tryz.prog) (ty := 97) rfl _ _ (w.heap.size + 1) 97 #[.int .i64 yh, .int .i64 yv, .int .i64 ys] (0, 0) _ _ rfl rfl HgF.out Tryz.underlying97 rfl (by kernel_rfl)) rfl ?_
      refine ⟨?_, ((Hbel.out.setCell (by show w.heap.size ≤ w.heap.size + 1; omega) _).setCell (by show w.heap.size ≤ w.heap.size + 1; omega) _).setCell (by show w.heap.size ≤ w.heap.size + 1; omega) _⟩
      rw [HI.out.find, List.find?_cons_of_pos (by rw [Hys.out, HPt.out])]
      show _ = Ending.returned (.tuple #[verVal y, _])
      unfold verVal
      rw [← Hyh.out, ← Hyv.out, Hys.out]
      rfl
end Go.Proofs.YtadelkancmbanaaGreat
