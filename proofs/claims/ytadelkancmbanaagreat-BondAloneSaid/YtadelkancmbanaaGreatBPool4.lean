/-
  A pool: a slot popped, taken.
-/
import Derived.Test.YtadelkancmbanaaGreatBPool3
namespace Go.Proofs.YtadelkancmbanaaGreat
open Go.RowKit
attribute [local go_sem ↓] Go.wp_at_zero Go.wp_at_succ

set_option maxRecDepth 100000 in
set_option maxHeartbeats 1600000 in
theorem popWith_any (K : PB) (n i f : Nat) (v1 v2 v3 v4 : Value) (tbl : Nat → Slot) (next : Nat → Nat) (head : Int) (w : World) (Q : World → Prop) (h : PoolMem K n tbl next head w) (hi : head / 1099511627776 = i) (h1 : 1 ≤ i) (h2 : i ≤ n)
    (hcall : ∀ (cap : Array Value) (w : World), (callFunc f cap).run Tryz.prog w = .ok (.enter f cap) w)
    (hc : Calls Tryz.prog f #[.int .i64 i, v1, v2, v3, v4] (w.setCell ⟨K.q, 0, none⟩ (.int .i64 (nextWord head (next i)))) fun e w' => e = .returned (.tuple #[]) ∧ Q w') :
    Calls Tryz.prog 88 #[.pointer (some ⟨K.q, 0, none⟩), .pointer none, .func (.func f) #[] #[v1, v2, v3, v4]] w fun e w' => e = .returned (.tuple #[.int .i64 i, .int .i64 0]) ∧ Q w' := by
  obtain ⟨d0, d1⟩ := h.hd
  have few := h.few
  have q0 := h.qh
  have q1 := h.qx.cell
  have q2 := (h.nx i h2).cell
  have hnx := h.nextLe i h2
  have hix : ¬ (i : Int) = 0 := by omega
  have hi0 : ((i : Int) == 0) = false := by rw [beq_eq_false_iff_ne]; omega
  have b0 : (0 : Int) ≤ (i : Int) := by omega
  have b1 : (i : Int) < ((n + 1 : Nat) : Int) := by omega
  have b2 : (i : Int) < (n : Int) + 1 := by omega
  generalize next i = m at *
  have Hc := Lib.hid hc
  have Hi := Lib.hid hi
  clear hc hi h
  go_enter Tryz.func88, Tryz.ntmps88
  go_wp2
  refine wp_loop_rounds 1 ?_
  rw [rounds_succ]
  go_wp2_with (first | (go_at_call 22; ((with_reducible refine (step_nil _).mono ?_); rintro e w' ⟨rfl, rfl⟩)) | (go_at_call 31; ((with_reducible refine (i64load _ _ _ _ q0.cell).mono ?_); rintro e w' ⟨rfl, rfl⟩)) | ((go_at_call 49; refine (index_word _ _ d0 d1).mono ?_; rintro e w' ⟨rfl, rfl⟩); rw [Hi.out]) | (go_at_call 31; ((with_reducible refine (i64load _ _ _ _ q2).mono ?_); rintro e w' ⟨rfl, rfl⟩)) | (go_at_call 114; ((with_reducible refine (next_word _ _ _ d0 d1 (by omega) (by omega)).mono ?_); rintro e w' ⟨rfl, rfl⟩)) | (go_at_call 24; ((with_reducible refine (i64cas _ _ _ _ _ q0.cell q0.frz).mono ?_); rintro e w' ⟨rfl, rfl⟩)))
  refine Hc.out.mono ?_
  rintro e w' ⟨rfl, hq⟩
  have Hq := Lib.hid hq
  clear hq Hc
  go_wp2
  go_ret2
  exact ⟨rfl, Hq.out⟩

/-- A handle. -/
def hnd (i : Nat) (g : Int) : Int := (i : Int) * 1099511627776 + g

structure Take1End (K : PB) (n i B4 : Nat) (tbl : Nat → Slot) (next : Nat → Nat) (head : Int) (s : Slot) (h : Int) (w w' : World) : Prop where
  mem : PoolMem K n (upd tbl i s) next head w'
  res : CellIs w' B4 0 (.int .i64 h)
  keep : Keep (fun k => K.has k ∨ k = B4) w.heap.size w w'

set_option maxRecDepth 100000 in
set_option maxHeartbeats 1600000 in
theorem take1_any (K : PB) (n i B1 B2 B3 B4 : Nat) (a b c d link r : Int) (tbl : Nat → Slot) (next : Nat → Nat) (head : Int) (w : World) (h : PoolMem K n tbl next head w) (h1 : 1 ≤ i) (h2 : i ≤ n)
    (g0 : 0 ≤ (tbl i).gen) (g1 : (tbl i).gen ≤ 1000000) (c1 : w.cell? ⟨B1, 0, none⟩ = some (.pointer (some ⟨K.p, 0, none⟩))) (c2 : w.heap[B2]? = some (.cells #[.int .i64 a, .int .i64 b, .int .i64 c, .int .i64 d] 119 (0, 0)))
    (c3 : w.cell? ⟨B3, 0, none⟩ = some (.int .i64 link)) (c4 : CellIs w B4 0 (.int .i64 r)) (n4 : ¬ K.has B4) :
    Calls Tryz.prog 89 #[.int .i64 i, .pointer (some ⟨B1, 0, none⟩), .pointer (some ⟨B2, 0, none⟩), .pointer (some ⟨B3, 0, none⟩), .pointer (some ⟨B4, 0, none⟩)] w fun e w' => e = .returned (.tuple #[]) ∧
      Take1End K n i B4 tbl next head ⟨(tbl i).gen + 1, 0, link, a, b, c, d⟩ (hnd i ((tbl i).gen + 1)) w w' := by
  have few := h.few
  have p0 := h.pl.cell
  have hlt := h.lt
  have hb4 := c4.lt
  have e0 : w.cell? ⟨B2, 0, none⟩ = some (.int .i64 a) := by simp [World.cell?, c2]
  have e1 : w.cell? ⟨B2, 1, none⟩ = some (.int .i64 b) := by simp [World.cell?, c2]
  have e2 : w.cell? ⟨B2, 2, none⟩ = some (.int .i64 c) := by simp [World.cell?, c2]
  have e3 : w.cell? ⟨B2, 3, none⟩ = some (.int .i64 d) := by simp [World.cell?, c2]
  have b0 : (0 : Int) ≤ (i : Int) := by omega
  have b2 : (i : Int) < (n : Int) + 1 := by omega
  have hl := slays_any K n i tbl next head a b c d 0 link w h h2
  unfold nodeVal at hl
  have Hl := Lib.hid hl
  have N4 := Lib.hid n4
  have C4 := Lib.hid c4
  clear hl h c4 c2 n4
  generalize hg : (tbl i).gen = g at *
  go_enter Tryz.func89, Tryz.ntmps89
  go_wp2_with fail
  refine Hl.out.mono ?_
  rintro e w1 ⟨rfl, hs⟩
  have q0 := hs.cell h2 0 (by decide)
  have hst := hs.step h2 (j := 0) (by decide) (g + 1)
  have q4 : CellIs w1 B4 0 (.int .i64 r) := C4.out.of_block (hs.keep.block B4 hb4 N4.out)
  have q5 : CellIs (w1.setCell ⟨K.l, i * 7 + 0, none⟩ (.int .i64 (g + 1))) B4 0 (.int .i64 r) := q4.other (.inl (fun e => N4.out (.inr (.inl e))))
  simp only [Nat.add_zero] at q0 hst q5
  have Hst := Lib.hid hst
  have c4 := q5.cell
  have c5 := q5.frz
  have Q5 := Lib.hid q5
  have q0c := q0.cell
  have q0f := q0.frz
  have e0 : Slot.cells ⟨g, 0, link, a, b, c, d⟩ 0 = g := rfl
  rw [e0] at q0c
  clear hs q0 hst q4 q5 Hl C4 e0
  go_wp2_with (first | (go_at_call 91; ((with_reducible refine (i64inc _ _ _ _ q0c q0f g0 (by omega)).mono ?_); rintro e w' ⟨rfl, rfl⟩)) | (go_at_call 87; ((with_reducible refine (pack_word _ _ _ (by omega) (by omega) (by omega) (by omega)).mono ?_); rintro e w' ⟨rfl, rfl⟩)))
  refine bodyPost_end (results_none rfl _ _ _) rfl ?_
  refine ⟨rfl, Hst.out.mem.other N4.out _, Q5.out.set, ?_⟩
  exact (Hst.out.keep.weaken (fun _ _ h => .inl h)).setCell (.inl (.inr rfl)) _

theorem callTake1 (cap : Array Value) : ∀ w, (callFunc 89 cap).run Tryz.prog w = .ok (.enter 89 cap) w := fun w => by kernel_rfl

structure TakeEnd (K : PB) (n i : Nat) (tbl : Nat → Slot) (next : Nat → Nat) (head : Int) (s : Slot) (w : World) (e : Ending) (w' : World) : Prop where
  end_ : e = .returned (.tuple #[.int .i64 (hnd i s.gen), .int .i64 0])
  mem : PoolMem K n (upd tbl i s) next (nextWord head (next i)) w'
  keep : Keep K.has w.heap.size w w'

set_option maxRecDepth 100000 in
set_option maxHeartbeats 1600000 in
theorem take_any (K : PB) (n i : Nat) (a b c d link : Int) (tbl : Nat → Slot) (next : Nat → Nat) (head : Int) (w : World) (h : PoolMem K n tbl next head w) (hi : head / 1099511627776 = i) (h1 : 1 ≤ i) (h2 : i ≤ n)
    (g0 : 0 ≤ (tbl i).gen) (g1 : (tbl i).gen ≤ 1000000) :
    Calls Tryz.prog 54 #[.pointer (some ⟨K.p, 0, none⟩), .pointer none, nodeVal a b c d, .int .i64 link] w (TakeEnd K n i tbl next head ⟨(tbl i).gen + 1, 0, link, a, b, c, d⟩ w) := by
  have few := h.few
  have hlt := h.lt
  have hnx := h.nextLe i h2
  obtain ⟨W, hW⟩ : ∃ W, W = (((w.alloc (.cells #[.pointer (some ⟨K.p, 0, none⟩)] 29)).alloc (.cells #[.int .i64 a, .int .i64 b, .int .i64 c, .int .i64 d] 119)).alloc (.cells #[.int .i64 link] 3)).alloc (.cells #[.int .i64 0] 3) := ⟨_, rfl⟩
  have hm : PoolMem K n tbl next head W := by rw [hW]; exact (((h.alloc _).alloc _).alloc _).alloc _
  have kW : Keep (fun _ => False) w.heap.size w W := by rw [hW]; exact ((((Keep.refl _ _ _).alloc (Nat.le_refl _) _).alloc (by simp) _).alloc (by simp; omega) _).alloc (by simp; omega) _
  have sW : W.heap.size = w.heap.size + 4 := by rw [hW]; simp
  have k1 : W.cell? ⟨w.heap.size, 0, none⟩ = some (.pointer (some ⟨K.p, 0, none⟩)) := by
    rw [hW, old_cell _ _ _ (by simp; try omega), old_cell _ _ _ (by simp; try omega), old_cell _ _ _ (by simp)]; exact new_cell _ _ _ _ rfl
  have k2 : W.heap[w.heap.size + 1]? = some (.cells #[.int .i64 a, .int .i64 b, .int .i64 c, .int .i64 d] 119 (0, 0)) := by
    rw [hW, Below.heap_alloc _ _ _ (by simp; try omega), Below.heap_alloc _ _ _ (by simp)]; exact heap_alloc2_new w _ _
  have k3 : W.cell? ⟨w.heap.size + 1 + 1, 0, none⟩ = some (.int .i64 link) := by rw [hW, old_cell _ _ _ (by simp)]; exact new_cell _ _ _ _ (by simp)
  have k4 : CellIs W (w.heap.size + 1 + 1 + 1) 0 (.int .i64 0) := by rw [hW]; exact ⟨new_cell _ _ _ _ (by simp), new_frozen _ _ _ _ (by simp)⟩
  have p1 := hm.pq.cell
  have hK : ∀ q, w.heap.size ≤ q → ¬ K.has q := fun q hq e => by rcases e with e | e | e | e <;> omega
  have hmH := hm.setHead (y := nextWord head (next i)) (nextWord_bd _ _ (by omega) (by omega)).1 (nextWord_bd _ _ (by omega) (by omega)).2.1
  have ht := take1_any K n i w.heap.size (w.heap.size + 1) (w.heap.size + 1 + 1) (w.heap.size + 1 + 1 + 1) a b c d link 0 tbl next _ _ hmH h1 h2 g0 g1
    ((World.cell?_setCell_other _ _ _ _ (by intro e; injection e with e; omega)).trans k1) ((Below.heap_setCell _ _ _ _ (by show w.heap.size + 1 ≠ K.q; omega)).trans k2)
    ((World.cell?_setCell_other _ _ _ _ (by intro e; injection e with e; omega)).trans k3) (k4.other (.inl (by omega))) (hK _ (by omega))
  have hp := popWith_any K n i 89 _ _ _ _ tbl next head W _ hm hi h1 h2 callTake1 ht
  have Hp := Lib.hid hp
  have HW := Lib.hid hW
  have KW := Lib.hid kW
  have SW := Lib.hid sW
  have HK := Lib.hid hK
  rw [hW] at p1
  clear h hm ht hp hW kW sW k1 k2 k3 k4 hmH hK
  unfold nodeVal
  go_enter Tryz.func54, Tryz.ntmps54
  go_wp2_with fail
  rw [← HW.out]
  refine Hp.out.mono ?_
  rintro e w' ⟨rfl, ht⟩
  have c4 := ht.res.cell
  have Ht := Lib.hid ht
  clear ht Hp
  go_wp2
  go_ret2
  refine ⟨rfl, Ht.out.mem, ?_⟩
  have k := Ht.out.keep
  have sw := SW.out
  refine (KW.out.weaken (fun _ _ h => h.elim)).trans ?_
  refine Keep.trans (b := W.setCell ⟨K.q, 0, none⟩ (.int .i64 (nextWord head (next i)))) ((Keep.refl _ _ _).setCell (.inl (.inr (.inr (.inl rfl)))) _) ?_
  exact (k.mono (by simp [World.setCell]; omega)).weaken fun q hq e => by
    rcases e with e | e
    · exact e
    · omega
end Go.Proofs.YtadelkancmbanaaGreat
