/-
  bond.Cells: Get.
-/
import Derived.Test.YtadelkancmbanaaGreatBHolds2
import Derived.Test.YtadelkancmbanaaGreatBMem
namespace Go.Proofs.YtadelkancmbanaaGreat
open Go.RowKit
attribute [local go_sem ↓] Go.wp_at_zero Go.wp_at_succ

theorem refused_any (x : Int) (w : World) : Calls Tryz.prog 32 #[.pointer none, .int .i64 x] w fun e w' => e = .returned (.int .i64 x) ∧ w = w' := by
  go_enter Tryz.func32, Tryz.ntmps32
  go_wp2_with (first | (go_at_call 22; ((with_reducible refine (step_nil _).mono ?_); rintro e w' ⟨rfl, rfl⟩)))
  go_ret
  exact ⟨rfl, rfl⟩

theorem bGet_out (Z : Fix) (S : St) (i : Int) (w : World) (hm : Mem Z S w) (hi : ¬ (0 ≤ i ∧ i < (S.heads.length : Int))) :
    Calls Tryz.prog 14 #[.pointer (some ⟨Z.X.x, 0, none⟩), .pointer none, .int .i64 i] w fun e w' => e = .returned (.tuple #[.int .i64 0, .int .i64 0, .int .i64 302]) ∧ w = w' := by
  have his := bis_any Z.X S.heads S.made S.db S.st i w hm.bond
  rw [decide_eq_false hi] at his
  have His := Lib.hid his
  clear hm hi his
  go_enter_defers Tryz.func14, Tryz.ntmps14
  go_wp2_with (first | (go_at_call 37; ((with_reducible refine (His.out).mono ?_); rintro e w' ⟨rfl, rfl⟩)) | (go_at_call 32; ((with_reducible refine (refused_any _ _).mono ?_); rintro e w' ⟨rfl, rfl⟩)))
  exact ⟨_, results_tmp3 rfl _ _ _, rfl, rfl⟩

def St.inn (S : St) : St := { S with now := S.now, at0 := S.now, deep := 1 }
theorem St.back (S : St) (h0 : S.at0 = 0) (hd : S.deep = 0) : { S.inn with at0 := 0, deep := 0 } = S := by
  unfold St.inn
  cases S
  dsimp only at *
  subst h0 hd
  rfl

set_option maxRecDepth 100000 in
set_option maxHeartbeats 1600000 in
theorem bGet_in (Z : Fix) (S : St) (c : Nat) (x : Ver) (r : List Ver) (w : World) (hm : Mem Z S w) (hd : S.deep = 0) (h0 : S.at0 = 0) (hc : c < S.heads.length) (hch : CellChain Z.n S.made S.tbl S.st S.heads c (x :: r)) :
    Calls Tryz.prog 14 #[.pointer (some ⟨Z.X.x, 0, none⟩), .pointer none, .int .i64 c] w fun e w' => e = .returned (.tuple #[.int .i64 x.v, .int .i64 (x.s - 1), .int .i64 0]) ∧ Next Z S w S w' := by
  have his := bis_any Z.X S.heads S.made S.db S.st c w hm.bond
  rw [decide_eq_true (by omega)] at his
  have he := hm.ep
  rw [hd, h0] at he
  have hen := enter_any Z.X.e Z.K.p S.now S.v w he
  have hsB := hch.2.1.sB
  have c1 := hm.bond.c1
  have hback := St.back S h0 hd
  have His := Lib.hid his
  have Hen := Lib.hid hen
  have Hm := Lib.hid hm
  have Hch := Lib.hid hch
  have Hc := Lib.hid hc
  have Hback := Lib.hid hback
  clear his he hen hd h0 hch hc hm hback
  obtain ⟨xh, hxh⟩ : ∃ a, hnd x.i x.g = a := ⟨_, rfl⟩
  obtain ⟨xv, hxv⟩ : ∃ a, x.v = a := ⟨_, rfl⟩
  obtain ⟨xs, hxs⟩ : ∃ a, x.s = a := ⟨_, rfl⟩
  rw [hxs] at hsB ⊢
  rw [hxv]
  have Hxh := Lib.hid hxh
  have Hxv := Lib.hid hxv
  have Hxs := Lib.hid hxs
  clear hxh hxv hxs
  go_enter_defers Tryz.func14, Tryz.ntmps14
  go_wp2_with (first | (go_at_call 37; ((with_reducible refine (His.out).mono ?_); rintro e w' ⟨rfl, rfl⟩)))
  refine Hen.out.mono ?_
  rintro e w1 ⟨rfl, he1, hk1⟩
  have hn1 : Next Z S w S.inn w1 := Hm.out.nextEp he1 hk1
  have c11 := hn1.mem.bond.c1
  have hho := bholds_any Z.X Z.K Z.n S.made c S.heads S.db S.st S.tbl S.next S.head x r w1 hn1.mem.bond hn1.mem.pool Hm.out.xp Hc.out Hch.out
  have Hn1 := Lib.hid hn1
  have Hho := Lib.hid hho
  clear he1 hk1 hn1 hho c1
  unfold verVal at Hho
  rw [Hxh.out, Hxv.out, Hxs.out] at Hho
  go_wp2_with fail
  refine Hho.out.mono ?_
  rintro e w2 ⟨rfl, hb2⟩
  have hn2 := Hn1.out.below hb2
  have Hn2 := Lib.hid hn2
  clear hn2 hb2 c11
  obtain ⟨W, hW⟩ : ∃ W, W = (w2.alloc (.cells #[.int .i64 xh, .int .i64 xv, .int .i64 xs] 97)).alloc (.cells #[.int .i64 xh, .int .i64 xv, .int .i64 xs] 97) := ⟨_, rfl⟩
  have gW : W.heap[w2.heap.size + 1]? = some (.cells #[.int .i64 xh, .int .i64 xv, .int .i64 xs] 97 (0, 0)) := by rw [hW]; exact heap_alloc2_new _ _ _
  have bW : Below w2.heap.size w2 W := by rw [hW]; exact ((Below.refl _ _).alloc (Nat.le_refl _) _).alloc (by simp) _
  have HW := Lib.hid hW
  have hn3 := Hn2.out.below (bW.drew)
  have d1 : W.drew.cell? ⟨w2.heap.size + 1, 1, none⟩ = some (.int .i64 xv) := by show W.cell? _ = _; simp [World.cell?, gW]
  have d2 : W.drew.cell? ⟨w2.heap.size + 1, 2, none⟩ = some (.int .i64 xs) := by show W.cell? _ = _; simp [World.cell?, gW]
  have hst := flipped (bstamp_any xs W.drew (by omega) (by omega))
  have Hst := Lib.hid hst
  have Hn3 := Lib.hid hn3
  clear hW gW bW hn3 hst
  go_wp2_with fail
  rw [← HW.out]
  refine wp_region_still_tail 5 (by kernel_rfl) (by kernel_rfl) ?_
  simp only [List.take_succ_cons, List.take_zero, List.drop_succ_cons, List.drop_zero]
  change wpStill _ _ (World.drew _) _ _ _
  repeat (first | (refine wpStill_step (fun K hK => ?_); go_simp; refine hK _ ?_; clear hK K) | (refine wpStill_step (fun K hK => ?_); go_simp; refine ⟨_, Hst.out, hK _ ?_⟩; clear hK K))
  refine wpStill_nil ?_
  change wpList _ _ _ _ _ (World.drew _)
  go_wp2_with fail
  refine leave_door Hn3.out.mem rfl ?_
  intro w' hn
  refine ⟨_, results_tmp3 rfl _ _ _, rfl, ?_⟩
  have := Hn3.out.trans hn
  rw [Hback.out] at this
  exact this
end Go.Proofs.YtadelkancmbanaaGreat
