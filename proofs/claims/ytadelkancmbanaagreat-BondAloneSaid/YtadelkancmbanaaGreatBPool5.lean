/-
  A pool: a handle's slot; a node, a link read; a link exchanged.
-/
import Derived.Test.YtadelkancmbanaaGreatBPool4
namespace Go.Proofs.YtadelkancmbanaaGreat
open Go.RowKit
attribute [local go_sem ↓] Go.wp_at_zero Go.wp_at_succ

/-- The handle of slot i is in use. -/
structure Held (n : Nat) (tbl : Nat → Slot) (i : Nat) (g : Int) : Prop where
  lo : 1 ≤ i
  hi : i ≤ n
  gen : (tbl i).gen = g
  odd : g % 2 = 1
  g0 : 0 ≤ g
  g1 : g ≤ 1000001

theorem Held.word {n i : Nat} {tbl : Nat → Slot} {g : Int} (h : Held n tbl i g) (hn : n ≤ 4096) : 0 ≤ hnd i g ∧ hnd i g ≤ 1152921504606846975 ∧ hnd i g / 1099511627776 = i ∧ hnd i g % 1099511627776 = g := by
  have := h.lo; have := h.hi; have := h.g0; have := h.g1
  unfold hnd
  omega

set_option maxHeartbeats 800000 in
theorem at_any (K : PB) (n i : Nat) (g : Int) (tbl : Nat → Slot) (next : Nat → Nat) (head : Int) (w : World) (h : PoolMem K n tbl next head w) (hh : Held n tbl i g) :
    Calls Tryz.prog 94 #[.pointer (some ⟨K.p, 0, none⟩), .int .i64 (hnd i g)] w fun e w' => e = .returned (.tuple #[.pointer (some ⟨K.l, i * 7, none⟩), .int .i64 g]) ∧ w = w' := by
  obtain ⟨x0, x1, x2, x3⟩ := hh.word h.few.2
  have p0 := h.pl.cell
  have hlo := hh.lo
  have hhi := hh.hi
  have ho := hh.odd
  have g0 := hh.g0
  have g1 := hh.g1
  have hd : decide ((i : Int) < 1) = false := by simp; omega
  have hd2 : decide ((n : Int) + 1 ≤ (i : Int)) = false := by simp; omega
  have hd3 : ((g % 2) == 0) = false := by rw [beq_eq_false_iff_ne]; omega
  have b0 : (0 : Int) ≤ (i : Int) := by omega
  have b2 : (i : Int) < (n : Int) + 1 := by omega
  have X2 := Lib.hid x2
  have X3 := Lib.hid x3
  clear h hh x2 x3 ho
  generalize hnd i g = x at *
  go_enter Tryz.func94, Tryz.ntmps94
  go_wp2_with (first | ((go_at_call 49; refine (index_word _ _ x0 x1).mono ?_; rintro e w' ⟨rfl, rfl⟩); rw [X2.out]) | ((go_at_call 50; refine (tag_word _ _ x0 x1).mono ?_; rintro e w' ⟨rfl, rfl⟩); rw [X3.out]))
  go_ret2
  exact ⟨rfl, rfl⟩

set_option maxHeartbeats 800000 in
theorem meets_any (K : PB) (n i : Nat) (g : Int) (tbl : Nat → Slot) (next : Nat → Nat) (head : Int) (w : World) (h : PoolMem K n tbl next head w) (hh : Held n tbl i g) :
    Calls Tryz.prog 93 #[.pointer (some ⟨K.p, 0, none⟩), .pointer none, .int .i64 (hnd i g)] w fun e w' => e = .returned (.tuple #[.pointer (some ⟨K.l, i * 7, none⟩), .int .i64 0]) ∧ w = w' := by
  have ha := at_any K n i g tbl next head w h hh
  have c0 := (h.slot i hh.hi 0 (by decide)).cell
  rw [Nat.add_zero, show (tbl i).cells 0 = g from hh.gen] at c0
  have Ha := Lib.hid ha
  clear h hh ha
  generalize hnd i g = x at *
  go_enter Tryz.func93, Tryz.ntmps93
  go_wp2_with (first | (go_at_call 22; ((with_reducible refine (step_nil _).mono ?_); rintro e w' ⟨rfl, rfl⟩)) | (go_at_call 94; ((with_reducible refine (Ha.out).mono ?_); rintro e w' ⟨rfl, rfl⟩)) | (go_at_call 31; ((with_reducible refine (i64load _ _ _ _ c0).mono ?_); rintro e w' ⟨rfl, rfl⟩)))
  go_ret2
  exact ⟨rfl, rfl⟩

theorem results_row_tmp {P : Program} {fn : Func} {p u : Tmp} {ty : TypeId} (h : fn.results = #[.cell p ty, .tmp u]) (tmps : Array Value) (w : World) (g : Nat) (t : TypeId) (cs : Array Value) (fr : Nat × Nat) (d : TypeDesc) (x : Value)
    (hp : tmps.getD p undef = .pointer (some ⟨g, 0, none⟩)) (hx : tmps.getD u undef = x) (hg : w.heap[g]? = some (.cells cs t fr))
    (hu : P.underlying ty = some d) (hd : (match d with | .struct _ | .array _ _ => true | _ => false) = true) (hi : (P.info? ty).map (·.size) = some cs.size) :
    (results fn tmps).run P w = .ok (.tuple #[.agg cs, x]) w := by
  rw [results_cell_tmp h]
  simp only [hp, hx]
  simp [asAddr, run_loadVar_row w g t ty cs fr d hg hu hd hi, Result.andThen]

set_option maxHeartbeats 800000 in
theorem pread_any (K : PB) (n i : Nat) (g : Int) (tbl : Nat → Slot) (next : Nat → Nat) (head : Int) (w : World) (h : PoolMem K n tbl next head w) (hh : Held n tbl i g) :
    Calls Tryz.prog 108 #[.pointer (some ⟨K.p, 0, none⟩), .pointer none, .int .i64 (hnd i g)] w fun e w' => e = .returned (.tuple #[nodeVal (tbl i).a (tbl i).b (tbl i).c (tbl i).d, .int .i64 0]) ∧ Below w.heap.size w w' := by
  obtain ⟨W, hW⟩ : ∃ W, W = w.alloc (.cells #[.int .i64 0, .int .i64 0, .int .i64 0, .int .i64 0] 119) := ⟨_, rfl⟩
  have hm : PoolMem K n tbl next head W := by rw [hW]; exact h.alloc _
  have bW : Below w.heap.size w W := by rw [hW]; exact (Below.refl _ _).alloc (Nat.le_refl _) _
  have gW : W.heap[w.heap.size]? = some (.cells #[.int .i64 0, .int .i64 0, .int .i64 0, .int .i64 0] 119 (0, 0)) := by rw [hW]; exact heap_alloc_new _ _
  have ha := meets_any K n i g tbl next head W hm hh
  have hb := holds_any K n i tbl next head W hm hh.hi
  have sW : w.heap.size < W.heap.size := by rw [hW]; simp
  have Ha := Lib.hid ha
  have Hb := Lib.hid hb
  have HW := Lib.hid hW
  have BW := Lib.hid bW
  have GW := Lib.hid gW
  clear h hh ha hb hm hW bW gW
  unfold nodeVal at *
  generalize hnd i g = x at *
  generalize (tbl i).a = a at *
  generalize (tbl i).b = b at *
  generalize (tbl i).c = c at *
  generalize (tbl i).d = d at *
  go_enter Tryz.func108, Tryz.ntmps108
  go_wp2_with fail
  rw [← HW.out]
  refine Ha.out.mono ?_
  rintro e w1 ⟨rfl, rfl⟩
  go_wp2_with fail
  refine Hb.out.mono ?_
  rintro e w1 ⟨rfl, hw⟩
  have g1 := (hw.block _ sW).trans GW.out
  have c0 : w1.cell? ⟨w.heap.size, 0, none⟩ = some (.int .i64 0) := by simp [World.cell?, g1]
  have c1 : w1.cell? ⟨w.heap.size, 1, none⟩ = some (.int .i64 0) := by simp [World.cell?, g1]
  have c2 : w1.cell? ⟨w.heap.size, 2, none⟩ = some (.int .i64 0) := by simp [World.cell?, g1]
  have c3 : w1.cell? ⟨w.heap.size, 3, none⟩ = some (.int .i64 0) := by simp [World.cell?, g1]
  have f0 : ∀ j, w1.frozen? ⟨w.heap.size, j, none⟩ = false := fun j => by simp [World.frozen?, g1]
  have hg := heap_setCell_same _ _ 3 _ _ (.int .i64 d) (heap_setCell_same _ _ 2 _ _ (.int .i64 c) (heap_setCell_same _ _ 1 _ _ (.int .i64 b) (heap_setCell_same _ _ 0 _ _ (.int .i64 a) g1)))
  have Hg := Lib.hid hg
  have Hw := Lib.hid hw
  clear hw g1 hg
  go_wp2
  refine bodyPost_ret (results_row_tmp (P := Tryz.prog) (ty := 119) rfl _ _ w.heap.size 119 #[.int .i64 a, .int .i64 b, .int .i64 c, .int .i64 d] (0, 0) _ _ rfl rfl Hg.out Tryz.underlying119 rfl (by kernel_rfl)) rfl ?_
  exact ⟨rfl, ((((BW.out.trans (Hw.out.mono (Nat.le_of_lt sW))).setCell (Nat.le_refl _) _).setCell (Nat.le_refl _) _).setCell (Nat.le_refl _) _).setCell (Nat.le_refl _) _⟩

set_option maxHeartbeats 800000 in
theorem plink_any (K : PB) (n i : Nat) (g : Int) (tbl : Nat → Slot) (next : Nat → Nat) (head : Int) (w : World) (h : PoolMem K n tbl next head w) (hh : Held n tbl i g) :
    Calls Tryz.prog 110 #[.pointer (some ⟨K.p, 0, none⟩), .pointer none, .int .i64 (hnd i g)] w fun e w' => e = .returned (.tuple #[.int .i64 (tbl i).link, .int .i64 0]) ∧ w = w' := by
  have ha := meets_any K n i g tbl next head w h hh
  have c0 := (h.slot i hh.hi 2 (by decide)).cell
  rw [show (tbl i).cells 2 = (tbl i).link from rfl] at c0
  have Ha := Lib.hid ha
  clear h hh ha
  generalize hnd i g = x at *
  generalize (tbl i).link = v at *
  go_enter Tryz.func110, Tryz.ntmps110
  go_wp2_with (first | (go_at_call 93; ((with_reducible refine (Ha.out).mono ?_); rintro e w' ⟨rfl, rfl⟩)) | (go_at_call 31; ((with_reducible refine (i64load _ _ _ _ c0).mono ?_); rintro e w' ⟨rfl, rfl⟩)))
  go_ret2
  exact ⟨rfl, rfl⟩

set_option maxHeartbeats 800000 in
theorem pswap_any (K : PB) (n i : Nat) (g y : Int) (tbl : Nat → Slot) (next : Nat → Nat) (head : Int) (w : World) (h : PoolMem K n tbl next head w) (hh : Held n tbl i g) :
    Calls Tryz.prog 64 #[.pointer (some ⟨K.p, 0, none⟩), .pointer none, .int .i64 (hnd i g), .int .i64 y] w fun e w' => e = .returned (.tuple #[.int .i64 (tbl i).link, .int .i64 0]) ∧ SlotEnd K n i tbl next head { tbl i with link := y } w w' := by
  have ha := meets_any K n i g tbl next head w h hh
  have c0 := h.slot i hh.hi 2 (by decide)
  rw [show (tbl i).cells 2 = (tbl i).link from rfl] at c0
  have hs : SlotEnd K n i tbl next head (tbl i) w w := ⟨by rw [upd_self]; exact h, Keep.refl _ _ _⟩
  have hst := hs.step hh.hi (j := 2) (by decide) y
  have c1 := c0.cell
  have c2 := c0.frz
  have Hst := Lib.hid hst
  have Ha := Lib.hid ha
  clear h hh ha c0 hs hst
  generalize hnd i g = x at *
  generalize (tbl i).link = v at *
  go_enter Tryz.func64, Tryz.ntmps64
  go_wp2_with (first | (go_at_call 93; ((with_reducible refine (Ha.out).mono ?_); rintro e w' ⟨rfl, rfl⟩)) | (go_at_call 26; ((with_reducible refine (i64swap _ _ _ _ _ c1 c2).mono ?_); rintro e w' ⟨rfl, rfl⟩)))
  go_ret2
  exact ⟨rfl, Hst.out⟩

set_option maxHeartbeats 800000 in
theorem faults_any (K : PB) (n : Nat) (tbl : Nat → Slot) (next : Nat → Nat) (head : Int) (w : World) (h : PoolMem K n tbl next head w) :
    Calls Tryz.prog 10 #[.pointer (some ⟨K.p, 0, none⟩)] w fun e w' => e = .returned (.int .i64 0) ∧ w = w' := by
  have c0 := h.pf.cell
  clear h
  go_enter Tryz.func10, Tryz.ntmps10
  go_wp2_with (first | (go_at_call 31; ((with_reducible refine (i64load _ _ _ _ c0).mono ?_); rintro e w' ⟨rfl, rfl⟩)))
  go_ret
  exact ⟨rfl, rfl⟩
end Go.Proofs.YtadelkancmbanaaGreat
