/-
  A pool: a place pushed; a slot given back.
-/
import Derived.Test.YtadelkancmbanaaGreatBPool5
namespace Go.Proofs.YtadelkancmbanaaGreat
open Go.RowKit
attribute [local go_sem ↓] Go.wp_at_zero Go.wp_at_succ

theorem flipped {P : Program} {f : FuncId} {args : Array Value} {w : World} {v : Value} (h : Calls P f args w fun e w' => e = .returned v ∧ w = w') : Calls P f args w fun e w' => e = .returned v ∧ w' = w :=
  h.mono fun _ _ ⟨a, b⟩ => ⟨a, b.symm⟩

theorem qis_yes (b c n i : Nat) (w : World) (h : w.cell? ⟨b, 1, none⟩ = some (.slice (some ⟨c, 0, none⟩) (n + 1) (n + 1))) (h1 : 1 ≤ i) (h2 : i ≤ n) (h3 : n ≤ 4096) : Calls Tryz.prog 116 #[.pointer (some ⟨b, 0, none⟩), .int .i64 i] w fun e w' => e = .returned (.bool true) ∧ w = w' := by
  have d1 : decide ((1 : Int) ≤ (i : Int)) = true := by simp; omega
  have d2 : decide ((i : Int) < (n : Int) + 1) = true := by simp; omega
  go_enter Tryz.func116, Tryz.ntmps116
  go_wp2
  go_ret
  exact ⟨rfl, rfl⟩

structure PushEnd (K : PB) (n i m : Nat) (tbl : Nat → Slot) (next : Nat → Nat) (head : Int) (w : World) (e : Ending) (w' : World) : Prop where
  end_ : e = .returned (.int .i64 0)
  mem : PoolMem K n tbl (upd next i m) (nextWord head i) w'
  keep : Keep K.has w.heap.size w w'

set_option maxRecDepth 100000 in
set_option maxHeartbeats 1600000 in
theorem push_any (K : PB) (n i m : Nat) (tbl : Nat → Slot) (next : Nat → Nat) (head : Int) (w : World) (h : PoolMem K n tbl next head w) (hm : head / 1099511627776 = m) (hmn : m ≤ n) (h1 : 1 ≤ i) (h2 : i ≤ n) :
    Calls Tryz.prog 95 #[.pointer (some ⟨K.q, 0, none⟩), .pointer none, .int .i64 i] w (PushEnd K n i m tbl next head w) := by
  obtain ⟨d0, d1⟩ := h.hd
  have few := h.few
  have q0 := h.qh
  have q1 := h.qx.cell
  have q2 := h.nx i h2
  have q2d : CellIs w.drew K.x i (.int .i64 (next i : Nat)) := q2.of_block rfl
  have q2c := q2d.cell
  have q2f := q2d.frz
  have q2e := q2.cell
  have hne := h.ne
  have q3 : CellIs (w.setCell ⟨K.x, i, none⟩ (.int .i64 (m : Nat))).drew K.q 0 (.int .i64 head) := (q0.other (.inl (by omega))).of_block rfl
  have hset := (h.drew.setNext (i := i) (v := m) h2 hmn).setHead (y := nextWord head i) (nextWord_bd _ _ (by omega) (by omega)).1 (nextWord_bd _ _ (by omega) (by omega)).2.1
  have q0c := q0.cell
  have q3c := q3.cell
  have q3f := q3.frz
  have b0 : (0 : Int) ≤ (i : Int) := by omega
  have b2 : (i : Int) < (n : Int) + 1 := by omega
  have Hm := Lib.hid hm
  have Hset := Lib.hid hset
  have hidx : Calls Tryz.prog 49 #[.int .i64 head] w.drew fun e w' => e = .returned (.int .i64 (m : Nat)) ∧ w' = w.drew := flipped (by rw [← hm]; exact index_word head _ d0 d1)
  have Hidx := Lib.hid hidx
  clear h q0 q2 q2d q3 hne hset hm hidx
  generalize next i = y at *
  go_enter Tryz.func95, Tryz.ntmps95
  go_wp2_with (first | (go_at_call 116; ((with_reducible refine (qis_yes _ _ _ _ _ q1 h1 h2 few.2).mono ?_); rintro e w' ⟨rfl, rfl⟩)))
  refine wp_loop_rounds 1 ?_
  rw [rounds_succ]
  go_wp2_with (first | (go_at_call 22; ((with_reducible refine (step_nil _).mono ?_); rintro e w' ⟨rfl, rfl⟩)) | (go_at_call 31; ((with_reducible refine (i64load _ _ _ _ q0c).mono ?_); rintro e w' ⟨rfl, rfl⟩)))
  refine wp_region_still_tail 8 (by kernel_rfl) (by kernel_rfl) ?_
  simp only [List.take_succ_cons, List.take_zero, List.drop_succ_cons, List.drop_zero]
  change wpStill _ _ (World.drew _) _ _ _
  repeat (first | (refine wpStill_step (fun K hK => ?_); go_simp; refine hK _ ?_; clear hK K) | (refine wpStill_step (fun K hK => ?_); go_simp; refine ⟨_, Hidx.out, hK _ ?_⟩; clear hK K))
  refine wpStill_nil ?_
  change wpList _ _ _ _ _ (World.drew _)
  go_wp2_with (first | (go_at_call 22; ((with_reducible refine (step_nil _).mono ?_); rintro e w' ⟨rfl, rfl⟩)) | (go_at_call 23; ((with_reducible refine (i64store _ _ _ _ _ q2c q2f).mono ?_); rintro e w' ⟨rfl, rfl⟩)) | (go_at_call 114; ((with_reducible refine (next_word _ _ _ d0 d1 (by omega) (by omega)).mono ?_); rintro e w' ⟨rfl, rfl⟩)) | (go_at_call 24; ((with_reducible refine (i64cas _ _ _ _ _ q3c q3f).mono ?_); rintro e w' ⟨rfl, rfl⟩)))
  go_ret
  refine ⟨rfl, Hset.out, ?_⟩
  exact (((Keep.refl _ _ _).drew).setCell (.inl (.inr (.inr (.inr rfl)))) _).setCell (.inl (.inr (.inr (.inl rfl)))) _

def poisoned (g : Int) : Slot := ⟨g, -7777777, -7777777, -7777777, -7777777, -7777777, -7777777⟩

structure GiveEnd (K : PB) (n i m : Nat) (g : Int) (tbl : Nat → Slot) (next : Nat → Nat) (head : Int) (w : World) (e : Ending) (w' : World) : Prop where
  end_ : e = .returned (.int .i64 0)
  mem : PoolMem K n (upd tbl i (poisoned (g + 1))) (upd next i m) (nextWord head i) w'
  keep : Keep K.has w.heap.size w w'

set_option maxRecDepth 100000 in
set_option maxHeartbeats 1600000 in
theorem give_any (K : PB) (n i m : Nat) (g : Int) (tbl : Nat → Slot) (next : Nat → Nat) (head : Int) (w : World) (h : PoolMem K n tbl next head w) (hh : Held n tbl i g) (hm : head / 1099511627776 = m) (hmn : m ≤ n) :
    Calls Tryz.prog 71 #[.pointer (some ⟨K.p, 0, none⟩), .pointer none, .int .i64 (hnd i g)] w (GiveEnd K n i m g tbl next head w) := by
  have ha := at_any K n i g tbl next head w h hh
  obtain ⟨x0, x1, x2, _⟩ := hh.word h.few.2
  have hi := hh.hi
  have h1 := hh.lo
  have g0 := hh.g0
  have g1 := hh.g1
  have few := h.few
  have hlt := h.lt
  have c0 := h.slot i hh.hi 0 (by decide)
  rw [Nat.add_zero, show (tbl i).cells 0 = g from hh.gen] at c0
  have hs0 : SlotEnd K n i tbl next head (tbl i) w w := ⟨by rw [upd_self]; exact h, Keep.refl _ _ _⟩
  have hs1 := hs0.step hi (j := 0) (by decide) (g + 1)
  rw [Nat.add_zero] at hs1
  have c0c := c0.cell
  have c0f := c0.frz
  have Hs1 := Lib.hid hs1
  have Ha := Lib.hid ha
  have X2 := Lib.hid x2
  have Hm := Lib.hid hm
  have hwg : IntKind.i64.wrap (g + 1) = g + 1 := by rw [IntKind.wrap_i64]; omega
  clear h hh ha c0 hs0 hs1 x2 hm
  generalize hnd i g = x at *
  go_enter Tryz.func71, Tryz.ntmps71
  go_wp2_with (first | (go_at_call 22; ((with_reducible refine (step_nil _).mono ?_); rintro e w' ⟨rfl, rfl⟩)) | (go_at_call 94; ((with_reducible refine (Ha.out).mono ?_); rintro e w' ⟨rfl, rfl⟩)) | (go_at_call 24; ((with_reducible refine (i64cas _ _ _ _ _ c0c c0f).mono ?_); rintro e w' ⟨rfl, rfl⟩)))
  have hm2 : PoolMem K n (upd tbl i ((tbl i).set 0 (g + 1))) next head ((w.setCell ⟨K.l, i * 7, none⟩ (.int .i64 (g + 1))).alloc (.cells #[.int .i64 (-7777777), .int .i64 (-7777777), .int .i64 (-7777777), .int .i64 (-7777777)] 119)) := Hs1.out.mem.alloc _
  have hh2 := holds_any K n i _ next head _ hm2 hi
  rw [upd_same] at hh2
  refine hh2.mono ?_
  clear hh2
  rintro e w3 ⟨rfl, hb3⟩
  have hsz : (w.setCell ⟨K.l, i * 7, none⟩ (.int .i64 (g + 1))).heap.size = w.heap.size := by simp [World.setCell]
  simp only [World.size_alloc, hsz] at hb3
  have hs3 := hb3.size
  simp only [World.size_alloc, hsz] at hs3
  have hblk : w3.heap[w.heap.size]? = some (.cells #[.int .i64 (-7777777), .int .i64 (-7777777), .int .i64 (-7777777), .int .i64 (-7777777)] 119 (0, 0)) := by
    rw [hb3.block _ (by omega), ← hsz]; exact heap_alloc_new _ _
  have hm3 : PoolMem K n (upd tbl i ((tbl i).set 0 (g + 1))) next head w3 := hm2.of_blocks fun k hk => hb3.block k (by rcases hk with e | e | e | e <;> omega)
  have k3 : Keep K.has w.heap.size w w3 := ((Hs1.out.keep.alloc (by omega) _).trans ((Keep.of_below hb3).mono (by omega)))
  have f9 : ∀ o j, j < 4 → (w3.alloc o).cell? ⟨w.heap.size, j, none⟩ = some (.int .i64 (-7777777)) := fun o j hj => by
    rw [old_cell _ _ _ (by show w.heap.size < _; omega)]
    have : j = 0 ∨ j = 1 ∨ j = 2 ∨ j = 3 := by omega
    rcases this with rfl | rfl | rfl | rfl <;> simp [World.cell?, hblk]
  have f90 := fun o => f9 o 0 (by decide)
  have f91 := fun o => f9 o 1 (by decide)
  have f92 := fun o => f9 o 2 (by decide)
  have f93 := fun o => f9 o 3 (by decide)
  have Hm3 := Lib.hid hm3
  have K3 := Lib.hid k3
  have Hs3 := Lib.hid hs3
  clear hm2 hb3 hs3 hblk hm3 k3 f9 hsz Hs1
  have ea : ((tbl i).set 0 (g + 1)).a = (tbl i).a := rfl
  have eb : ((tbl i).set 0 (g + 1)).b = (tbl i).b := rfl
  have ec : ((tbl i).set 0 (g + 1)).c = (tbl i).c := rfl
  have ed : ((tbl i).set 0 (g + 1)).d = (tbl i).d := rfl
  rw [ea, eb, ec, ed]
  clear ea eb ec ed
  obtain ⟨a, ha⟩ : ∃ a, a = (tbl i).a := ⟨_, rfl⟩
  obtain ⟨b, hb⟩ : ∃ a, a = (tbl i).b := ⟨_, rfl⟩
  obtain ⟨c, hc⟩ : ∃ a, a = (tbl i).c := ⟨_, rfl⟩
  obtain ⟨d, hd⟩ : ∃ a, a = (tbl i).d := ⟨_, rfl⟩
  rw [← ha, ← hb, ← hc, ← hd]
  have HA := Lib.hid ha
  have HB := Lib.hid hb
  have HC := Lib.hid hc
  have HD := Lib.hid hd
  clear ha hb hc hd
  unfold nodeVal
  obtain ⟨w4, hw4⟩ : ∃ w4, w4 = w3.alloc (.cells #[.int .i64 a, .int .i64 b, .int .i64 c, .int .i64 d] 119) := ⟨_, rfl⟩
  have hs4 : SlotEnd K n i tbl next head ((tbl i).set 0 (g + 1)) w w4 := by rw [hw4]; exact ⟨Hm3.out.alloc _, K3.out.alloc (by have := Hs3.out; omega) _⟩
  have Hs4 := Lib.hid hs4
  have Hw4 := Lib.hid hw4
  clear hs4 hw4
  go_upto_region 9 with fail
  go_cut [36] (fun v wx => ∃ bb, v = .bool bb ∧ (bb = false → a = -7777777 ∧ b = -7777777 ∧ c = -7777777 ∧ d = -7777777) ∧ w4 = wx)
  case first =>
    go_wp2_with fail
    all_goals (go_meet; rw [Hw4.out]; refine ⟨_, rfl, ?_, by first | rfl | simp [*]⟩; first | (intro h; cases h; done) | (intro _; refine ⟨?_, ?_, ?_, ?_⟩ <;> first | rfl | assumption | omega))
  case rest =>
    obtain ⟨bb, rfl, hbb, hwc⟩ := hcut
    subst hwc
    have Hbb := Lib.hid hbb
    clear hbb
    have e0 : w4.cell? ⟨w.heap.size, 0, none⟩ = some (.int .i64 (-7777777)) := by rw [Hw4.out]; exact f90 _
    have e1 : w4.cell? ⟨w.heap.size, 1, none⟩ = some (.int .i64 (-7777777)) := by rw [Hw4.out]; exact f91 _
    have e2 : w4.cell? ⟨w.heap.size, 2, none⟩ = some (.int .i64 (-7777777)) := by rw [Hw4.out]; exact f92 _
    have e3 : w4.cell? ⟨w.heap.size, 3, none⟩ = some (.int .i64 (-7777777)) := by rw [Hw4.out]; exact f93 _
    clear f90 f91 f92 f93
    go_upto_if 36 with fail
    go_cut [] (fun wx => ∃ mk lk, SlotEnd K n i tbl next head ⟨g + 1, mk, lk, -7777777, -7777777, -7777777, -7777777⟩ w wx)
    case first =>
      cases bb
      · obtain ⟨rfl, rfl, rfl, rfl⟩ := Hbb.out rfl
        go_wp2_with fail
        go_meet
        refine ⟨(tbl i).mark, (tbl i).link, ?_⟩
        have e : (tbl i).set 0 (g + 1) = ⟨g + 1, (tbl i).mark, (tbl i).link, -7777777, -7777777, -7777777, -7777777⟩ := by
          show (⟨g + 1, (tbl i).mark, (tbl i).link, (tbl i).a, (tbl i).b, (tbl i).c, (tbl i).d⟩ : Slot) = _
          rw [← HA.out, ← HB.out, ← HC.out, ← HD.out]
        rw [← e]; exact Hs4.out
      · have hl := slays_any K n i _ next head (-7777777) (-7777777) (-7777777) (-7777777) (-7777777) (-7777777) w4 Hs4.out.mem hi
        have Hl := Lib.hid hl
        clear hl
        unfold nodeVal at Hl
        go_wp2_with fail
        refine Hl.out.mono ?_
        rintro e w5 ⟨rfl, hs5⟩
        have Hs5 := Lib.hid hs5
        clear hs5
        go_wp2
        go_meet
        have hm5 := Hs5.out.mem
        rw [upd_upd, upd_same] at hm5
        exact ⟨_, _, hm5, Hs4.out.keep.trans (Hs5.out.keep.mono Hs4.out.keep.size)⟩
    case rest =>
      obtain ⟨mk, lk, hs5⟩ := hcut
      have c1 := hs5.cell hi 1 (by decide)
      have hs6 := hs5.step hi (j := 1) (by decide) (-7777777)
      have c2 := hs6.cell hi 2 (by decide)
      have hs7 := (hs6.step hi (j := 2) (by decide) (-7777777)).drew
      have c1c := c1.cell
      have c1f := c1.frz
      have c2c := c2.cell
      have c2f := c2.frz
      have hp := push_any K n i m _ next head _ hs7.mem Hm.out hmn h1 hi
      have hq := (hs7.mem.pq).cell
      have hidx : Calls Tryz.prog 49 #[.int .i64 x] ((wc.setCell ⟨K.l, i * 7 + 1, none⟩ (.int .i64 (-7777777))).setCell ⟨K.l, i * 7 + 2, none⟩ (.int .i64 (-7777777))).drew fun e w' => e = .returned (.int .i64 (i : Nat)) ∧ w' = ((wc.setCell ⟨K.l, i * 7 + 1, none⟩ (.int .i64 (-7777777))).setCell ⟨K.l, i * 7 + 2, none⟩ (.int .i64 (-7777777))).drew := flipped (by rw [← X2.out]; exact index_word x _ x0 x1)
      have Hidx := Lib.hid hidx
      have Hp := Lib.hid hp
      have Hs7 := Lib.hid hs7
      have hq2 : ((wc.setCell ⟨K.l, i * 7 + 1, none⟩ (.int .i64 (-7777777))).setCell ⟨K.l, i * 7 + 2, none⟩ (.int .i64 (-7777777))).cell? ⟨K.p, 1, none⟩ = some (.pointer (some ⟨K.q, 0, none⟩)) := hq
      clear hs5 c1 hs6 c2 hs7 hp hidx e0 e1 e2 e3 HA HB HC HD Hbb Hw4 Hs4 Hm3 K3 Hs3
      go_wp2_with (first | (go_at_call 23; ((with_reducible refine (i64store _ _ _ _ _ c1c c1f).mono ?_); rintro e w' ⟨rfl, rfl⟩)) | (go_at_call 23; ((with_reducible refine (i64store _ _ _ _ _ c2c c2f).mono ?_); rintro e w' ⟨rfl, rfl⟩)))
      refine wp_region_still_tail 7 (by kernel_rfl) (by kernel_rfl) ?_
      simp only [List.take_succ_cons, List.take_zero, List.drop_succ_cons, List.drop_zero]
      change wpStill _ _ (World.drew _) _ _ _
      repeat (first | (refine wpStill_step (fun K hK => ?_); go_simp; refine hK _ ?_; clear hK K) | (refine wpStill_step (fun K hK => ?_); go_simp; refine ⟨_, Hidx.out, hK _ ?_⟩; clear hK K))
      refine wpStill_nil ?_
      change wpList _ _ _ _ _ (World.drew _)
      go_wp2_with fail
      refine Hp.out.mono ?_
      rintro e w6 ⟨rfl, hm6, hk6⟩
      have Hm6 := Lib.hid hm6
      have Hk6 := Lib.hid hk6
      clear hm6 hk6
      go_wp2
      go_ret
      exact ⟨rfl, Hm6.out, Hs7.out.keep.trans (Hk6.out.mono Hs7.out.keep.size)⟩
end Go.Proofs.YtadelkancmbanaaGreat
