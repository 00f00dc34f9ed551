/-
  bond.Cells: Peek.
-/
import Derived.Test.YtadelkancmbanaaGreatBGet
namespace Go.Proofs.YtadelkancmbanaaGreat
open Go.RowKit
attribute [local go_sem ↓] Go.wp_at_zero Go.wp_at_succ

set_option maxHeartbeats 800000 in
theorem bPeek_out (Z : Fix) (S : St) (i a b : Int) (w : World) (hm : Mem Z S w) (hi : ¬ (0 ≤ i ∧ i < (S.heads.length : Int))) :
    Calls Tryz.prog 13 #[.pointer (some ⟨Z.X.x, 0, none⟩), .pointer none, snapVal a b, .int .i64 i] w fun e w' => e = .returned (.tuple #[.int .i64 0, .int .i64 302]) ∧ Below w.heap.size w w' := by
  obtain ⟨W, hW⟩ : ∃ W, W = w.alloc (.cells #[.int .i64 a, .int .i64 b] 39) := ⟨_, rfl⟩
  have bW : Below w.heap.size w W := by rw [hW]; exact (Below.refl _ _).alloc (Nat.le_refl _) _
  have his := bis_any Z.X S.heads S.made S.db S.st i W (hm.below bW).bond
  rw [decide_eq_false hi] at his
  rw [hW] at his
  have His := Lib.hid his
  have BW := Lib.hid (hW ▸ bW)
  unfold snapVal
  clear hm hi his bW hW
  go_enter Tryz.func13, Tryz.ntmps13
  go_wp2_with (first | (go_at_call 37; ((with_reducible refine (His.out).mono ?_); rintro e w' ⟨rfl, rfl⟩)) | (go_at_call 32; ((with_reducible refine (refused_any _ _).mono ?_); rintro e w' ⟨rfl, rfl⟩)))
  go_ret2
  exact ⟨rfl, BW.out⟩

set_option maxRecDepth 100000 in
set_option maxHeartbeats 3200000 in
theorem bPeek_in (Z : Fix) (S : St) (c li : Nat) (sst : Int) (x : Ver) (r : List Ver) (y : Ver) (k : Bool) (w : World) (hm : Mem Z S w) (hc : c < S.heads.length) (hch : CellChain Z.n S.made S.tbl S.st S.heads c (x :: r))
    (hli : li < S.ls.length) (hs1 : 1 ≤ sst) (hk : (S.ls.getD li 0 - 1 == sst) = k) (hf : k = true → (x :: r).find? (fun y => decide (y.s - 1 ≤ sst)) = some y) (hy : 0 < hnd y.i y.g) :
    Calls Tryz.prog 13 #[.pointer (some ⟨Z.X.x, 0, none⟩), .pointer none, snapVal li sst, .int .i64 c] w fun e w' => e = .returned (.tuple #[.int .i64 (if k then y.v else 0), .int .i64 (if k then 0 else 305)]) ∧ Below w.heap.size w w' := by
  obtain ⟨W, hW⟩ : ∃ W, W = w.alloc (.cells #[.int .i64 (li : Int), .int .i64 sst] 39) := ⟨_, rfl⟩
  have bW : Below w.heap.size w W := by rw [hW]; exact (Below.refl _ _).alloc (Nat.le_refl _) _
  have gW : W.heap[w.heap.size]? = some (.cells #[.int .i64 (li : Int), .int .i64 sst] 39 (0, 0)) := by rw [hW]; exact heap_alloc_new _ _
  have sW : w.heap.size < W.heap.size := by rw [hW]; simp
  have hmW := hm.below bW
  have his := bis_any Z.X S.heads S.made S.db S.st c W hmW.bond
  rw [decide_eq_true (by omega)] at his
  have hho := choldsq_any Z.X.c Z.cc S.cnow sst S.ls li W.drew ((hmW.below (Below.refl _ _).drew).ck) hli hs1
  rw [hk] at hho
  unfold snapVal at hho ⊢
  have c2 : W.cell? ⟨Z.X.x, 2, none⟩ = some (.pointer (some ⟨Z.X.c, 0, none⟩)) := hmW.bond.c2
  have s0 : W.cell? ⟨w.heap.size, 0, none⟩ = some (.int .i64 li) := by simp [World.cell?, gW]
  have s1 : W.cell? ⟨w.heap.size, 1, none⟩ = some (.int .i64 sst) := by simp [World.cell?, gW]
  have His := Lib.hid his
  have Hho := Lib.hid hho
  have BW := Lib.hid bW
  have GW := Lib.hid gW
  have SW := Lib.hid sW
  have HW := Lib.hid hW
  have HM := Lib.hid hmW
  have Hch := Lib.hid hch
  have Hc := Lib.hid hc
  have Hf := Lib.hid hf
  have Hy := Lib.hid hy
  clear hm hc his hho bW gW sW hW hmW hch hk hf hli hs1 hy
  obtain ⟨yh, hyh⟩ : ∃ a, hnd y.i y.g = a := ⟨_, rfl⟩
  obtain ⟨yv, hyv⟩ : ∃ a, y.v = a := ⟨_, rfl⟩
  obtain ⟨ys, hys⟩ : ∃ a, y.s = a := ⟨_, rfl⟩
  rw [hyh] at Hy
  rw [hyv]
  have Hyh := Lib.hid hyh
  have Hyv := Lib.hid hyv
  have Hys := Lib.hid hys
  clear hyh hyv hys
  go_enter Tryz.func13, Tryz.ntmps13
  go_wp2_with fail
  rw [← HW.out]
  go_wp2_with (first | (go_at_call 37; ((with_reducible refine (His.out).mono ?_); rintro e w' ⟨rfl, rfl⟩)))
  refine Reg.start (fun w' => w'.cell? ⟨Z.X.x, 2, none⟩ = some (.pointer (some ⟨Z.X.c, 0, none⟩)) ∧ w'.cell? ⟨w.heap.size, 0, none⟩ = some (.int .i64 li) ∧ w'.cell? ⟨w.heap.size, 1, none⟩ = some (.int .i64 sst)) [6] (by kernel_rfl) ?_ (fun hHeld => ?_)
  · first | exact True.intro | ((try dsimp only); exact ⟨c2, s0, s1⟩)
  refine Reg.takeP (i := 0) (v := ?v13x3_0) rfl (by kernel_rfl) (by kernel_rfl) (by kernel_rfl) (by kernel_rfl) (fun _ _ _ h => h) (Or.inl ⟨by rfl, ?h13x3_0⟩) (fun _ => hHeld) ?r13x3_0
  case h13x3_0 => (intro wS hSw; (try dsimp only at hSw); go_simp; all_goals with_reducible rfl)
  try simp only [Act.put, List.setIfInBounds_toArray, List.set_cons_zero, List.set_cons_succ]
  refine Reg.takeP (i := 1) (v := ?v13x3_1) rfl (by kernel_rfl) (by kernel_rfl) (by kernel_rfl) (by kernel_rfl) (fun _ _ _ h => h) (Or.inl ⟨by rfl, ?h13x3_1⟩) (fun _ => hHeld) ?r13x3_1
  case h13x3_1 => (intro wS hSw; (try dsimp only at hSw); go_simp; all_goals with_reducible rfl)
  try simp only [Act.put, List.setIfInBounds_toArray, List.set_cons_zero, List.set_cons_succ]
  refine Reg.takeP (i := 2) (v := ?v13x3_2) rfl (by kernel_rfl) (by kernel_rfl) (by kernel_rfl) (by kernel_rfl) (fun _ _ _ h => h) (Or.inl ⟨by rfl, ?h13x3_2⟩) (fun _ => hHeld) ?r13x3_2
  case h13x3_2 => (intro wS hSw; (try dsimp only at hSw); go_simp; all_goals with_reducible rfl)
  try simp only [Act.put, List.setIfInBounds_toArray, List.set_cons_zero, List.set_cons_succ]
  refine Reg.take (i := 3) (v := ?v13x3_3) rfl (by kernel_rfl) (by kernel_rfl) (by kernel_rfl) (by kernel_rfl) (fun _ _ _ h => h) (Or.inl ⟨by rfl, ?h13x3_3⟩) hHeld ?r13x3_3
  case h13x3_3 => (intro wS hSw; (try dsimp only at hSw); go_simp; all_goals with_reducible rfl)
  try simp only [Act.put, List.setIfInBounds_toArray, List.set_cons_zero, List.set_cons_succ]
  refine Reg.takeP (i := 4) (v := ?v13x3_4) rfl (by kernel_rfl) (by kernel_rfl) (by kernel_rfl) (by kernel_rfl) (fun _ _ _ h => h) (Or.inl ⟨by rfl, ?h13x3_4⟩) (fun _ => hHeld) ?r13x3_4
  case h13x3_4 => (intro wS hSw; (try dsimp only at hSw); go_simp; all_goals with_reducible rfl)
  try simp only [Act.put, List.setIfInBounds_toArray, List.set_cons_zero, List.set_cons_succ]
  refine Reg.take (i := 5) (v := ?v13x3_5) rfl (by kernel_rfl) (by kernel_rfl) (by kernel_rfl) (by kernel_rfl) (fun _ _ _ h => h) (Or.inl ⟨by rfl, ?h13x3_5⟩) hHeld ?r13x3_5
  case h13x3_5 => (intro wS hSw; (try dsimp only at hSw); go_simp; all_goals with_reducible rfl)
  try simp only [Act.put, List.setIfInBounds_toArray, List.set_cons_zero, List.set_cons_succ]
  refine Reg.one (i := 6) rfl (by kernel_rfl) (fun K hK => ?_)
  (go_simp; refine Hho.out.mono ?_; rintro e w2 ⟨rfl, hb2⟩; have Hb2 := Lib.hid hb2; clear hb2; dsimp only)
  refine hK.out _ _ (fun hF => absurd hF (by decide)) (fun _ => ?_)
  clear hK K
  try simp only [Act.put, List.setIfInBounds_toArray, List.set_cons_zero, List.set_cons_succ]
  refine Reg.takeP (i := 7) (v := ?v13x3_7) rfl (by kernel_rfl) (by kernel_rfl) (by kernel_rfl) (by kernel_rfl) (fun _ _ _ h => h) (Or.inl ⟨by rfl, ?h13x3_7⟩) (fun hF => absurd hF (by decide)) ?r13x3_7
  case h13x3_7 => (intro wS hSw; (try dsimp only at hSw); go_simp; all_goals with_reducible rfl)
  try simp only [Act.put, List.setIfInBounds_toArray, List.set_cons_zero, List.set_cons_succ]
  refine Reg.takeP (i := 8) (v := ?v13x3_8) rfl (by kernel_rfl) (by kernel_rfl) (by kernel_rfl) (by kernel_rfl) (fun _ _ _ h => h) (Or.inl ⟨by rfl, ?h13x3_8⟩) (fun hF => absurd hF (by decide)) ?r13x3_8
  case h13x3_8 => (intro wS hSw; (try dsimp only at hSw); go_simp; all_goals with_reducible rfl)
  try simp only [Act.put, List.setIfInBounds_toArray, List.set_cons_zero, List.set_cons_succ]
  refine Reg.done (by kernel_rfl) ?_ _
  cases k with
  | false =>
    go_wp2
    go_ret2
    exact ⟨rfl, BW.out.drew.trans (Hb2.out.mono (Nat.le_of_lt SW.out))⟩
  | true =>
    have hbT : Below W.heap.size W w2 := (Below.refl _ _).drew.trans Hb2.out
    have hm2 := HM.out.below hbT
    have g2 := (hbT.block _ SW.out).trans GW.out
    have s1' : w2.cell? ⟨w.heap.size, 1, none⟩ = some (.int .i64 sst) := by simp [World.cell?, g2]
    have hat := bat_any Z.X Z.K Z.n S.made c sst S.heads S.db S.st S.tbl S.next S.head x r w2 hm2.bond hm2.pool hm2.xp Hc.out Hch.out
    rw [Hf.out rfl] at hat
    have hat2 : Calls Tryz.prog 44 #[.pointer (some ⟨Z.X.x, 0, none⟩), .pointer none, .int .i64 c, .int .i64 sst] w2 fun e w' => e = .returned (.tuple #[.agg #[.int .i64 (hnd y.i y.g), .int .i64 y.v, .int .i64 y.s], .int .i64 0]) ∧ Below w2.heap.size w2 w' := hat
    have hy0 : (yh == 0) = false := by rw [beq_eq_false_iff_ne]; have := Hy.out; omega
    have Hat := Lib.hid hat2
    have BT := Lib.hid hbT
    clear hat hat2 hbT g2 hm2 s0 s1 c2
    rw [Hyh.out, Hyv.out, Hys.out] at Hat
    go_wp2_with fail
    refine Hat.out.mono ?_
    rintro e w3 ⟨rfl, hb3⟩
    have Hb3 := Lib.hid hb3
    clear hb3
    obtain ⟨W4, hW4⟩ : ∃ W, W = w3.alloc (.cells #[.int .i64 yh, .int .i64 yv, .int .i64 ys] 97) := ⟨_, rfl⟩
    have g4 : W4.heap[w3.heap.size]? = some (.cells #[.int .i64 yh, .int .i64 yv, .int .i64 ys] 97 (0, 0)) := by rw [hW4]; exact heap_alloc_new _ _
    have b4 : Below w3.heap.size w3 W4 := by rw [hW4]; exact (Below.refl _ _).alloc (Nat.le_refl _) _
    have d0 : W4.cell? ⟨w3.heap.size, 0, none⟩ = some (.int .i64 yh) := by simp [World.cell?, g4]
    have d1 : W4.cell? ⟨w3.heap.size, 1, none⟩ = some (.int .i64 yv) := by simp [World.cell?, g4]
    have HW4 := Lib.hid hW4
    have B4 := Lib.hid b4
    clear hW4 g4 b4
    go_wp2_with fail
    rw [← HW4.out]
    go_wp2
    go_ret2
    exact ⟨rfl, BW.out.trans ((BT.out.trans ((Hb3.out.trans (B4.out.mono Hb3.out.size)).mono BT.out.size)).mono BW.out.size)⟩
end Go.Proofs.YtadelkancmbanaaGreat
