/-
  bond.Cells: what Many looks up.
-/
import Derived.Test.YtadelkancmbanaaGreatBSort
namespace Go.Proofs.YtadelkancmbanaaGreat
open Go.RowKit
attribute [local go_sem ↓] Go.wp_at_zero Go.wp_at_succ

set_option maxRecDepth 100000 in
set_option maxHeartbeats 3200000 in
theorem bmany_look (Z : Fix) (S : St) (n lb xbx wbx gl lcap : Nat) (key : Nat → Nat) (val : Nat → Int) (ver : Nat → Ver) (w : World) (hm : Mem Z S w) (hn : 1 ≤ n ∧ n ≤ 16) (hkl : ∀ k, k < n → key k < S.heads.length) (hinj : ∀ j k, j < k → k < n → key j ≠ key k)
    (hch : ∀ j, j < n → ∃ r, CellChain Z.n S.made S.tbl S.st S.heads (key j) (ver j :: r)) (hcl : ∀ k, k < n → CellIs w gl (k * 2) (.int .i64 (key k : Nat)) ∧ CellIs w gl (k * 2 + 1) (.int .i64 (val k))) (hgl : S.tag gl = 0)
    (c0 : w.cell? ⟨lb, 0, none⟩ = some (.slice (some ⟨gl, 0, none⟩) n lcap)) (c1 : w.cell? ⟨xbx, 0, none⟩ = some (.pointer (some ⟨Z.X.x, 0, none⟩))) (c2 : w.cell? ⟨wbx, 0, none⟩ = some (.pointer none)) :
    Calls Tryz.prog 39 #[.pointer (some ⟨lb, 0, none⟩), .pointer (some ⟨xbx, 0, none⟩), .pointer (some ⟨wbx, 0, none⟩)] w (LookEnd Z S n key val (fun j => hnd (ver j).i (ver j).g) w) := by
  obtain ⟨old, hold⟩ : ∃ f : Nat → Int, (fun j => hnd (ver j).i (ver j).g) = f := ⟨_, rfl⟩
  rw [hold]
  have L0 := World.block_lt_of_cell? w _ c0
  have L1 := World.block_lt_of_cell? w _ c1
  have L2 := World.block_lt_of_cell? w _ c2
  have C0 := Lib.hid c0
  have C1 := Lib.hid c1
  have C2 := Lib.hid c2
  have HL0 := Lib.hid L0
  have HL1 := Lib.hid L1
  have HL2 := Lib.hid L2
  have Hm := Lib.hid hm
  have Hch := Lib.hid hch
  have Hcl := Lib.hid hcl
  have Hold := Lib.hid hold
  have Hkl := Lib.hid hkl
  have Hinj := Lib.hid hinj
  have Hgl := Lib.hid hgl
  have Hlg : Hid (gl < w.heap.size) := Lib.hid (hcl 0 (by omega)).1.lt
  clear hm hkl hinj hch hcl hgl L0 L1 L2 hold
  go_enter Tryz.func39, Tryz.ntmps39
  go_wp2_with fail
  clear c0 c1 c2
  go_loopw [13, 6] (fun i oo wr => ∃ k : Nat, k ≤ n ∧ i = .int .i64 k ∧ Below w.heap.size w wr ∧ wr.ownsRow w.heap.size 3 1 oo k (ints old k)) (fun i _ _ => n - (intOf i).toNat)
  case atStart => exact ⟨0, by omega, rfl, Below.refl _ _, World.ownsRow_nil _ _ _ _⟩
  case round =>
    obtain ⟨k, hk, rfl, hbT, hO⟩ := hrel
    by_cases hlt : k < n
    · have c1 := (hbT.cell (p := ⟨xbx, 0, none⟩) HL1.out).trans C1.out
      have c2 := (hbT.cell (p := ⟨wbx, 0, none⟩) HL2.out).trans C2.out
      have d0 := (hbT.cell (p := ⟨gl, k * 2, none⟩) Hlg.out).trans (Hcl.out k hlt).1.cell
      have d1 := (hbT.cell (p := ⟨gl, k * 2 + 1, none⟩) Hlg.out).trans (Hcl.out k hlt).2.cell
      obtain ⟨vk, hvk⟩ : ∃ x, val k = x := ⟨_, rfl⟩
      rw [hvk] at d1
      obtain ⟨r, hr⟩ := Hch.out k hlt
      have hm1 := Hm.out.below hbT
      obtain ⟨kk, hkk⟩ : ∃ x : Int, ((key k : Nat) : Int) = x := ⟨_, rfl⟩
      rw [hkk] at d0
      obtain ⟨W, hW⟩ : ∃ W, W = wr.alloc (.cells #[.int .i64 kk, .int .i64 vk] 52) := ⟨_, rfl⟩
      have gW : W.heap[wr.heap.size]? = some (.cells #[.int .i64 kk, .int .i64 vk] 52 (0, 0)) := by rw [hW]; exact heap_alloc_new _ _
      have bW : Below wr.heap.size wr W := by rw [hW]; exact (Below.refl _ _).alloc (Nat.le_refl _) _
      have e1 : ∀ o, (wr.alloc o).cell? ⟨xbx, 0, none⟩ = some (.pointer (some ⟨Z.X.x, 0, none⟩)) := fun o => (old_cell wr o _ (World.block_lt_of_cell? _ _ c1)).trans c1
      have e2 : ∀ o, (wr.alloc o).cell? ⟨wbx, 0, none⟩ = some (.pointer none) := fun o => (old_cell wr o _ (World.block_lt_of_cell? _ _ c2)).trans c2
      have hm2 := hm1.below bW
      have htp := tops_any Z.X Z.K Z.n S.made (key k) S.heads S.db S.st S.tbl S.next S.head (ver k) W hm2.bond hm2.pool Hm.out.xp hr.2.1 (Hkl.out k hlt) hr.1
      unfold verVal at htp
      obtain ⟨xh, hxh⟩ : ∃ x, hnd (ver k).i (ver k).g = x := ⟨_, rfl⟩
      obtain ⟨xv, hxv⟩ : ∃ x, (ver k).v = x := ⟨_, rfl⟩
      obtain ⟨xs, hxs⟩ : ∃ x, (ver k).s = x := ⟨_, rfl⟩
      rw [hxh, hxv, hxs, hkk] at htp
      have Hov : Hid (old k = xh) := Lib.hid ((congrFun Hold.out k).symm.trans hxh)
      have Htp := Lib.hid htp
      have HbT := Lib.hid hbT
      have HO := Lib.hid hO
      have HbW := Lib.hid bW
      clear htp hbT hO hm1 hm2 hr hxh hxv hxs hkk hvk gW bW c1 c2
      subst hW
      go_wp2_with fail
      refine Htp.out.mono ?_
      rintro e w2 ⟨rfl, hb2⟩
      have Hb2 : Hid (Below wr.heap.size wr w2) := Lib.hid (HbW.out.trans (hb2.mono HbW.out.size))
      obtain ⟨ii, hii, zi0, zi1, zi2⟩ := info_parts infoBI
      have HO2 : Hid (w2.ownsRow w.heap.size 3 1 u6 k (ints old k)) := Lib.hid (owns_of_block HO.out fun g hg => Hb2.out.block g (HO.out.lt g hg).2)
      have Hs2 : Hid (w.heap.size ≤ w2.heap.size) := Lib.hid (Nat.le_trans HbT.out.size Hb2.out.size)
      clear hb2 e1 e2 d0 d1
      go_wp2_with (at_builtin; go_loud (refine wpList_append_lies _ rfl (.tmp 28) (.tmp 31) 22 rfl w.heap.size 3 ii _ 1 8 Tryz.underlying22 hii zi0 zi1 zi2 rfl (by decide) u6 k (ints old k) rfl ((HO2.out.alloc _).alloc _) ⟨w2.heap.size + 1, 0, none⟩ 1 1 [.int .i64 xh] rfl rfl (World.news_of_block (cs := #[.int .i64 xh]) (t := 3) (fr := (0, 0)) (heap_alloc2_new _ _ _)) (by simp [Value.oneCell']) (by decide) (by unfold maxLen; omega) (by omega) (by simp; have := Hs2.out; omega) (w2.heap.size + 2) (by simp) ?_; intro gg cap' w5 hown5 hgrow hat hlt5; have Hown5 := Lib.hid hown5; have Hgrow := Lib.hid hgrow; clear hown5 hgrow hat hlt5))
      go_roundw
      case rel =>
        refine ⟨k + 1, by omega, by go_num, ?_, by rw [ints_succ, Hov.out]; exact Hown5.out⟩
        have h1 : Below w.heap.size w w2 := HbT.out.trans (Hb2.out.mono HbT.out.size)
        have h2 := (h1.alloc Hs2.out (.cells #[.int .i64 xh, .int .i64 xv, .int .i64 xs] 97)).alloc (by simp; have := Hs2.out; omega) (.cells #[.int .i64 xh] 3)
        exact h2.grown Hgrow.out (by simp; have := Hs2.out; omega) (fun g hg => (HO2.out.lt g hg).1)
      case measure => simp [intOf]; omega
    · have e : k = n := by omega
      rw [e] at hO
      obtain ⟨gq, cq, e2, hB2, hl2⟩ := hO.form (by omega)
      rw [e2] at hO
      have c0 := (hbT.cell (p := ⟨lb, 0, none⟩) HL0.out).trans C0.out
      have hend : LookEnd Z S n key val old w (.returned (.tuple #[.slice (some ⟨gl, 0, none⟩) n lcap, .slice (some ⟨gq, 0, none⟩) n cq, .int .i64 0])) wr := by
        refine ⟨gl, lcap, gq, cq, rfl, Hm.out.next hbT, ⟨hn, Hkl.out, Hinj.out, fun k hk => ?_, fun k hk => ⟨(hbT.cell (p := ⟨gl, k * 2, none⟩) Hlg.out).trans (Hcl.out k hk).1.cell, (hbT.cell (p := ⟨gl, k * 2 + 1, none⟩) Hlg.out).trans (Hcl.out k hk).2.cell⟩, fun j hj => ?_, Hgl.out, ?_⟩⟩
        · obtain ⟨r, hr⟩ := Hch.out k hk
          rw [← congrFun Hold.out k]
          exact hr.1
        · rw [hO.cellAt _ (by omega)]; simp [ints, hj]
        · exact Hm.out.tags.new _ hB2
      have Hend := Lib.hid hend
      subst e2
      clear hend hO hB2 hl2 hbT e hk
      go_wp2_with fail
      refine bodyPost_ret (results_tmp3 rfl _ _ _) rfl ?_
      exact Hend.out
end Go.Proofs.YtadelkancmbanaaGreat
