/-
  A pool's memory: slots, the pile of those that are free.
-/
import Derived.Test.YtadelkancmbanaaGreatBKeep
namespace Go.Proofs.YtadelkancmbanaaGreat
open Go.RowKit

structure Slot where
  gen : Int
  mark : Int
  link : Int
  a : Int
  b : Int
  c : Int
  d : Int

def Slot.cells (s : Slot) (j : Nat) : Int := match j with
  | 0 => s.gen
  | 1 => s.mark
  | 2 => s.link
  | 3 => s.a
  | 4 => s.b
  | 5 => s.c
  | _ => s.d

def upd {α : Type} (f : Nat → α) (i : Nat) (x : α) : Nat → α := fun j => if j = i then x else f j
theorem upd_same {α : Type} (f : Nat → α) (i : Nat) (x : α) : upd f i x i = x := by simp [upd]
theorem upd_other {α : Type} (f : Nat → α) (i j : Nat) (x : α) (h : j ≠ i) : upd f i x j = f j := by simp [upd, h]
theorem upd_upd {α : Type} (f : Nat → α) (i : Nat) (x y : α) : upd (upd f i x) i y = upd f i y := by
  funext j; unfold upd; split <;> rfl
theorem upd_self {α : Type} (f : Nat → α) (i : Nat) : upd f i (f i) = f := by
  funext j; unfold upd; split
  · next h => rw [h]
  · rfl

/-- A pool's blocks: its own, its slots', its pile's, the pile's places'. -/
structure PB where
  p : Nat
  l : Nat
  q : Nat
  x : Nat
def PB.has (K : PB) (k : Nat) : Prop := k = K.p ∨ k = K.l ∨ k = K.q ∨ k = K.x

/-- A pool of n slots. -/
structure PoolMem (K : PB) (n : Nat) (tbl : Nat → Slot) (next : Nat → Nat) (head : Int) (w : World) : Prop where
  ne : K.p ≠ K.l ∧ K.p ≠ K.q ∧ K.p ≠ K.x ∧ K.l ≠ K.q ∧ K.l ≠ K.x ∧ K.q ≠ K.x
  few : 1 ≤ n ∧ n ≤ 4096
  pl : CellIs w K.p 0 (.slice (some ⟨K.l, 0, none⟩) (n + 1) (n + 1))
  pq : CellIs w K.p 1 (.pointer (some ⟨K.q, 0, none⟩))
  pf : CellIs w K.p 2 (.int .i64 0)
  slot : ∀ i, i ≤ n → ∀ j, j < 7 → CellIs w K.l (i * 7 + j) (.int .i64 ((tbl i).cells j))
  qh : CellIs w K.q 0 (.int .i64 head)
  qx : CellIs w K.q 1 (.slice (some ⟨K.x, 0, none⟩) (n + 1) (n + 1))
  nx : ∀ i, i ≤ n → CellIs w K.x i (.int .i64 (next i : Nat))
  nextLe : ∀ i, i ≤ n → next i ≤ n
  hd : 0 ≤ head ∧ head ≤ 1152921504606846975

theorem PoolMem.lt {K : PB} {n : Nat} {tbl : Nat → Slot} {next : Nat → Nat} {head : Int} {w : World} (h : PoolMem K n tbl next head w) : K.p < w.heap.size ∧ K.l < w.heap.size ∧ K.q < w.heap.size ∧ K.x < w.heap.size :=
  ⟨h.pl.lt, (h.slot 0 (Nat.zero_le _) 0 (by decide)).lt, h.qh.lt, (h.nx 0 (Nat.zero_le _)).lt⟩

theorem PoolMem.of_blocks {K : PB} {n : Nat} {tbl : Nat → Slot} {next : Nat → Nat} {head : Int} {w w' : World} (h : PoolMem K n tbl next head w) (hb : ∀ k, K.has k → w'.heap[k]? = w.heap[k]?) : PoolMem K n tbl next head w' := by
  have b1 := hb K.p (.inl rfl)
  have b2 := hb K.l (.inr (.inl rfl))
  have b3 := hb K.q (.inr (.inr (.inl rfl)))
  have b4 := hb K.x (.inr (.inr (.inr rfl)))
  exact ⟨h.ne, h.few, h.pl.of_block b1, h.pq.of_block b1, h.pf.of_block b1, fun i hi j hj => (h.slot i hi j hj).of_block b2, h.qh.of_block b3, h.qx.of_block b3, fun i hi => (h.nx i hi).of_block b4, h.nextLe, h.hd⟩

theorem PoolMem.keep {K : PB} {n : Nat} {tbl : Nat → Slot} {next : Nat → Nat} {head : Int} {S : Nat → Prop} {B : Nat} {w w' : World} (h : PoolMem K n tbl next head w) (hk : Keep S B w w') (hB : w.heap.size ≤ B) (hS : ∀ k, K.has k → ¬ S k) : PoolMem K n tbl next head w' :=
  h.of_blocks fun k hk' => hk.block k (by have := h.lt; rcases hk' with e | e | e | e <;> omega) (hS k hk')
theorem PoolMem.alloc {K : PB} {n : Nat} {tbl : Nat → Slot} {next : Nat → Nat} {head : Int} {w : World} (h : PoolMem K n tbl next head w) (o : Obj) : PoolMem K n tbl next head (w.alloc o) :=
  h.of_blocks fun k hk' => Below.heap_alloc _ _ _ (by have := h.lt; rcases hk' with e | e | e | e <;> omega)
theorem PoolMem.drew {K : PB} {n : Nat} {tbl : Nat → Slot} {next : Nat → Nat} {head : Int} {w : World} (h : PoolMem K n tbl next head w) : PoolMem K n tbl next head w.drew := h.of_blocks fun _ _ => rfl
/-- A cell of none of its blocks is set. -/
theorem PoolMem.other {K : PB} {n : Nat} {tbl : Nat → Slot} {next : Nat → Nat} {head : Int} {w : World} (h : PoolMem K n tbl next head w) {p : Addr} (hp : ¬ K.has p.block) (u : Value) : PoolMem K n tbl next head (w.setCell p u) :=
  h.of_blocks fun k hk' => Below.heap_setCell _ _ _ _ (fun e => hp (by rw [← e]; exact hk'))

theorem PoolMem.setHead {K : PB} {n : Nat} {tbl : Nat → Slot} {next : Nat → Nat} {head y : Int} {w : World} (h : PoolMem K n tbl next head w) (h0 : 0 ≤ y) (h1 : y ≤ 1152921504606846975) : PoolMem K n tbl next y (w.setCell ⟨K.q, 0, none⟩ (.int .i64 y)) := by
  obtain ⟨n1, n2, n3, n4, n5, n6⟩ := h.ne
  exact ⟨h.ne, h.few, h.pl.other (.inl n2), h.pq.other (.inl n2), h.pf.other (.inl n2), fun i hi j hj => (h.slot i hi j hj).other (.inl n4), h.qh.set, h.qx.other (.inr (by decide)), fun i hi => (h.nx i hi).other (.inl (Ne.symm n6)), h.nextLe, h0, h1⟩

theorem PoolMem.setNext {K : PB} {n i v : Nat} {tbl : Nat → Slot} {next : Nat → Nat} {head : Int} {w : World} (h : PoolMem K n tbl next head w) (hi : i ≤ n) (hv : v ≤ n) : PoolMem K n tbl (upd next i v) head (w.setCell ⟨K.x, i, none⟩ (.int .i64 (v : Nat))) := by
  obtain ⟨n1, n2, n3, n4, n5, n6⟩ := h.ne
  refine ⟨h.ne, h.few, h.pl.other (.inl n3), h.pq.other (.inl n3), h.pf.other (.inl n3), fun k hk j hj => (h.slot k hk j hj).other (.inl n5), h.qh.other (.inl n6), h.qx.other (.inl n6), fun k hk => ?_, fun k hk => ?_, h.hd⟩
  · by_cases e : k = i
    · subst e; rw [upd_same]; exact (h.nx k hk).set
    · rw [upd_other _ _ _ _ e]; exact (h.nx k hk).other (.inr e)
  · by_cases e : k = i
    · subst e; rw [upd_same]; exact hv
    · rw [upd_other _ _ _ _ e]; exact h.nextLe k hk

def Slot.set (s : Slot) (j : Nat) (x : Int) : Slot := match j with
  | 0 => { s with gen := x }
  | 1 => { s with mark := x }
  | 2 => { s with link := x }
  | 3 => { s with a := x }
  | 4 => { s with b := x }
  | 5 => { s with c := x }
  | _ => { s with d := x }
theorem Slot.cells_set (s : Slot) (j k : Nat) (x : Int) (hj : j < 7) (hk : k < 7) : (s.set j x).cells k = if k = j then x else s.cells k := by
  match j, hj, k, hk with
  | 0, _, 0, _ | 0, _, 1, _ | 0, _, 2, _ | 0, _, 3, _ | 0, _, 4, _ | 0, _, 5, _ | 0, _, 6, _
  | 1, _, 0, _ | 1, _, 1, _ | 1, _, 2, _ | 1, _, 3, _ | 1, _, 4, _ | 1, _, 5, _ | 1, _, 6, _
  | 2, _, 0, _ | 2, _, 1, _ | 2, _, 2, _ | 2, _, 3, _ | 2, _, 4, _ | 2, _, 5, _ | 2, _, 6, _
  | 3, _, 0, _ | 3, _, 1, _ | 3, _, 2, _ | 3, _, 3, _ | 3, _, 4, _ | 3, _, 5, _ | 3, _, 6, _
  | 4, _, 0, _ | 4, _, 1, _ | 4, _, 2, _ | 4, _, 3, _ | 4, _, 4, _ | 4, _, 5, _ | 4, _, 6, _
  | 5, _, 0, _ | 5, _, 1, _ | 5, _, 2, _ | 5, _, 3, _ | 5, _, 4, _ | 5, _, 5, _ | 5, _, 6, _
  | 6, _, 0, _ | 6, _, 1, _ | 6, _, 2, _ | 6, _, 3, _ | 6, _, 4, _ | 6, _, 5, _ | 6, _, 6, _ => rfl

theorem PoolMem.setSlot {K : PB} {n i j : Nat} {tbl : Nat → Slot} {next : Nat → Nat} {head : Int} {w : World} (h : PoolMem K n tbl next head w) (hi : i ≤ n) (hj : j < 7) (x : Int) : PoolMem K n (upd tbl i ((tbl i).set j x)) next head (w.setCell ⟨K.l, i * 7 + j, none⟩ (.int .i64 x)) := by
  obtain ⟨n1, n2, n3, n4, n5, n6⟩ := h.ne
  refine ⟨h.ne, h.few, h.pl.other (.inl n1), h.pq.other (.inl n1), h.pf.other (.inl n1), fun k hk m hm => ?_, h.qh.other (.inl (Ne.symm n4)), h.qx.other (.inl (Ne.symm n4)), fun k hk => (h.nx k hk).other (.inl (Ne.symm n5)), h.nextLe, h.hd⟩
  by_cases e : k = i
  · subst e
    rw [upd_same, Slot.cells_set _ _ _ _ hj hm]
    by_cases e2 : m = j
    · subst e2; rw [if_pos rfl]; exact (h.slot k hk m hm).set
    · rw [if_neg e2]; exact (h.slot k hk m hm).other (.inr (by omega))
  · rw [upd_other _ _ _ _ e]; exact (h.slot k hk m hm).other (.inr (by omega))

/-- The places that are free, from one on. -/
def FreeL (n : Nat) (next : Nat → Nat) : Nat → List Nat → Prop
  | h, [] => h = 0
  | h, i :: r => h = i ∧ 1 ≤ i ∧ i ≤ n ∧ FreeL n next (next i) r

theorem FreeL.upd {n i v : Nat} {next : Nat → Nat} : ∀ {h : Nat} {F : List Nat}, FreeL n next h F → i ∉ F → FreeL n (upd next i v) h F
  | _, [], h, _ => h
  | _, k :: r, ⟨h1, h2, h3, h4⟩, hi => by
    have hk : k ≠ i := fun e => hi (by rw [e]; exact List.mem_cons_self)
    exact ⟨h1, h2, h3, by rw [upd_other _ _ _ _ hk]; exact h4.upd fun e => hi (List.mem_cons_of_mem _ e)⟩
end Go.Proofs.YtadelkancmbanaaGreat

/-
  A pool's slots: laid down, told.
-/
namespace Go.Proofs.YtadelkancmbanaaGreat
open Go.RowKit
attribute [local go_sem ↓] Go.wp_at_zero Go.wp_at_succ

def nodeVal (a b c d : Int) : Value := .agg #[.int .i64 a, .int .i64 b, .int .i64 c, .int .i64 d]

/-- The slot with the first k numbers of a node laid. -/
def layN (s : Slot) (a b c d : Int) : Nat → Slot
  | 0 => s
  | 1 => { s with a := a }
  | 2 => { s with a := a, b := b }
  | 3 => { s with a := a, b := b, c := c }
  | _ => { s with a := a, b := b, c := c, d := d }

/-- What a write to a pool's slot leaves. -/
structure SlotEnd (K : PB) (n i : Nat) (tbl : Nat → Slot) (next : Nat → Nat) (head : Int) (s : Slot) (w w' : World) : Prop where
  mem : PoolMem K n (upd tbl i s) next head w'
  keep : Keep K.has w.heap.size w w'

theorem SlotEnd.step {K : PB} {n i j : Nat} {tbl : Nat → Slot} {next : Nat → Nat} {head : Int} {s : Slot} {w w' : World} (h : SlotEnd K n i tbl next head s w w') (hi : i ≤ n) (hj : j < 7) (x : Int) :
    SlotEnd K n i tbl next head (s.set j x) w (w'.setCell ⟨K.l, i * 7 + j, none⟩ (.int .i64 x)) := by
  have hm := h.mem.setSlot hi hj x
  rw [upd_same, upd_upd] at hm
  exact ⟨hm, h.keep.setCell (.inl (.inr (.inl rfl))) _⟩
theorem SlotEnd.drew {K : PB} {n i : Nat} {tbl : Nat → Slot} {next : Nat → Nat} {head : Int} {s : Slot} {w w' : World} (h : SlotEnd K n i tbl next head s w w') : SlotEnd K n i tbl next head s w w'.drew := ⟨h.mem.drew, h.keep.drew⟩
theorem SlotEnd.cell {K : PB} {n i : Nat} {tbl : Nat → Slot} {next : Nat → Nat} {head : Int} {s : Slot} {w w' : World} (h : SlotEnd K n i tbl next head s w w') (hi : i ≤ n) (j : Nat) (hj : j < 7) : CellIs w' K.l (i * 7 + j) (.int .i64 (s.cells j)) := by
  have := h.mem.slot i hi j hj
  rwa [upd_same] at this

set_option maxRecDepth 100000 in
set_option maxHeartbeats 1600000 in
theorem slays_any (K : PB) (n i : Nat) (tbl : Nat → Slot) (next : Nat → Nat) (head a b c d mark link : Int) (w : World) (h : PoolMem K n tbl next head w) (hi : i ≤ n) :
    Calls Tryz.prog 90 #[.pointer (some ⟨K.l, i * 7, none⟩), nodeVal a b c d, .int .i64 mark, .int .i64 link] w fun e w' => e = .returned (.tuple #[]) ∧ SlotEnd K n i tbl next head ⟨(tbl i).gen, mark, link, a, b, c, d⟩ w w' := by
  have h0 : SlotEnd K n i tbl next head (layN (tbl i) a b c d 0) w (w.alloc (.cells #[.int .i64 a, .int .i64 b, .int .i64 c, .int .i64 d] 119)) :=
    ⟨by rw [layN, upd_self]; exact h.alloc _, (Keep.refl _ _ _).alloc (Nat.le_refl _) _⟩
  have H0 := Lib.hid h0
  unfold nodeVal
  clear h h0
  go_enter Tryz.func90, Tryz.ntmps90
  go_wp2
  go_loopw [19] (fun kv wr => ∃ k : Nat, kv = .int .i64 (k : Int) ∧ k ≤ 4 ∧ SlotEnd K n i tbl next head (layN (tbl i) a b c d k) w wr) (fun k _ => 4 - (intOf k).toNat)
  case atStart => exact ⟨0, rfl, by omega, H0.out⟩
  case round =>
    clear H0
    obtain ⟨k, rfl, hk, hs⟩ := hrel
    have Hs := Lib.hid hs
    clear hs
    by_cases hlt : k < 4
    · have hk4 : k = 0 ∨ k = 1 ∨ k = 2 ∨ k = 3 := by omega
      rcases hk4 with rfl | rfl | rfl | rfl
      · have c0 := Hs.out.cell hi 3 (by decide)
        have hst := Hs.out.step hi (j := 3) (by decide) a
        have Hst := Lib.hid hst
        have hix : ∀ w', (Instr.index 209 (.agg #[.int .i64 a, .int .i64 b, .int .i64 c, .int .i64 d]) (.int .i64 0)).run Tryz.prog w' = .ok (.int .i64 a) w' := fun w' => by kernel_rfl
        clear hst
        go_wp2_with (first | (go_at_call 23; ((with_reducible refine (i64store _ _ _ _ _ c0.cell c0.frz).mono ?_); rintro e w' ⟨rfl, rfl⟩)))
        go_roundw
        case rel => exact ⟨0 + 1, by go_num, by omega, Hst.out⟩
        case measure => simp [intOf]
      · have c0 := Hs.out.cell hi 4 (by decide)
        have hst := Hs.out.step hi (j := 4) (by decide) b
        have Hst := Lib.hid hst
        have hix : ∀ w', (Instr.index 209 (.agg #[.int .i64 a, .int .i64 b, .int .i64 c, .int .i64 d]) (.int .i64 1)).run Tryz.prog w' = .ok (.int .i64 b) w' := fun w' => by kernel_rfl
        clear hst
        go_wp2_with (first | (go_at_call 23; ((with_reducible refine (i64store _ _ _ _ _ c0.cell c0.frz).mono ?_); rintro e w' ⟨rfl, rfl⟩)))
        go_roundw
        case rel => exact ⟨1 + 1, by go_num, by omega, Hst.out⟩
        case measure => simp [intOf]
      · have c0 := Hs.out.cell hi 5 (by decide)
        have hst := Hs.out.step hi (j := 5) (by decide) c
        have Hst := Lib.hid hst
        have hix : ∀ w', (Instr.index 209 (.agg #[.int .i64 a, .int .i64 b, .int .i64 c, .int .i64 d]) (.int .i64 2)).run Tryz.prog w' = .ok (.int .i64 c) w' := fun w' => by kernel_rfl
        clear hst
        go_wp2_with (first | (go_at_call 23; ((with_reducible refine (i64store _ _ _ _ _ c0.cell c0.frz).mono ?_); rintro e w' ⟨rfl, rfl⟩)))
        go_roundw
        case rel => exact ⟨2 + 1, by go_num, by omega, Hst.out⟩
        case measure => simp [intOf]
      · have c0 := Hs.out.cell hi 6 (by decide)
        have hst := Hs.out.step hi (j := 6) (by decide) d
        have Hst := Lib.hid hst
        have hix : ∀ w', (Instr.index 209 (.agg #[.int .i64 a, .int .i64 b, .int .i64 c, .int .i64 d]) (.int .i64 3)).run Tryz.prog w' = .ok (.int .i64 d) w' := fun w' => by kernel_rfl
        clear hst
        go_wp2_with (first | (go_at_call 23; ((with_reducible refine (i64store _ _ _ _ _ c0.cell c0.frz).mono ?_); rintro e w' ⟨rfl, rfl⟩)))
        go_roundw
        case rel => exact ⟨3 + 1, by go_num, by omega, Hst.out⟩
        case measure => simp [intOf]
    · obtain rfl : k = 4 := by omega
      have c1 := Hs.out.cell hi 1 (by decide)
      have hst := Hs.out.step hi (j := 1) (by decide) mark
      have c2 := hst.cell hi 2 (by decide)
      have hst2 := hst.step hi (j := 2) (by decide) link
      have Hst := Lib.hid hst2
      clear hst hst2
      go_wp2_with (first | (go_at_call 23; ((with_reducible refine (i64store _ _ _ _ _ c1.cell c1.frz).mono ?_); rintro e w' ⟨rfl, rfl⟩)) | (go_at_call 23; ((with_reducible refine (i64store _ _ _ _ _ c2.cell c2.frz).mono ?_); rintro e w' ⟨rfl, rfl⟩)))
      refine bodyPost_end (results_none rfl _ _ _) rfl ?_
      exact ⟨rfl, Hst.out⟩
end Go.Proofs.YtadelkancmbanaaGreat

/-
  A pool: a node told; a slot popped, taken.
-/
namespace Go.Proofs.YtadelkancmbanaaGreat
open Go.RowKit
attribute [local go_sem ↓] Go.wp_at_zero Go.wp_at_succ

theorem holds1_any (K : PB) (n i j q : Nat) (tbl : Nat → Slot) (next : Nat → Nat) (head : Int) (w : World) (h : PoolMem K n tbl next head w) (hi : i ≤ n) (hj : j < 4) (hq : w.cell? ⟨q, 0, none⟩ = some (.pointer (some ⟨K.l, i * 7, none⟩))) :
    Calls Tryz.prog 111 #[.int .i64 j, .pointer (some ⟨q, 0, none⟩)] w fun e w' => e = .returned (.int .i64 ((tbl i).cells (3 + j))) ∧ w = w' := by
  have c0 := (h.slot i hi (3 + j) (by omega)).cell
  have b0 : (0 : Int) ≤ (j : Int) := by omega
  have b1 : (j : Int) < 4 := by omega
  have e1 : i * 7 + 3 + j = i * 7 + (3 + j) := by omega
  generalize (tbl i).cells (3 + j) = v at *
  rw [← e1] at c0
  clear h e1
  go_enter Tryz.func111, Tryz.ntmps111
  go_wp2_with (first | (go_at_call 31; ((with_reducible refine (i64load _ _ _ _ c0).mono ?_); rintro e w' ⟨rfl, rfl⟩)))
  go_ret
  exact ⟨rfl, rfl⟩

theorem callHolds (cap : Array Value) : ∀ w, (callFunc 111 cap).run Tryz.prog w = .ok (.enter 111 cap) w := fun w => by kernel_rfl

set_option maxRecDepth 100000 in
set_option maxHeartbeats 1600000 in
theorem holds_any (K : PB) (n i : Nat) (tbl : Nat → Slot) (next : Nat → Nat) (head : Int) (w : World) (h : PoolMem K n tbl next head w) (hi : i ≤ n) :
    Calls Tryz.prog 84 #[.pointer (some ⟨K.l, i * 7, none⟩)] w fun e w' => e = .returned (nodeVal (tbl i).a (tbl i).b (tbl i).c (tbl i).d) ∧ Below w.heap.size w w' := by
  have hB : Below w.heap.size w ((w.alloc (.cells #[.pointer (some ⟨K.l, i * 7, none⟩)] 172)).alloc (.cells #[.int .i64 0, .int .i64 0, .int .i64 0, .int .i64 0] 119)) := ((Below.refl _ _).alloc (Nat.le_refl _) _).alloc (by simp) _
  have hm := ((h.alloc (.cells #[.pointer (some ⟨K.l, i * 7, none⟩)] 172)).alloc (.cells #[.int .i64 0, .int .i64 0, .int .i64 0, .int .i64 0] 119))
  have hq : ((w.alloc (.cells #[.pointer (some ⟨K.l, i * 7, none⟩)] 172)).alloc (.cells #[.int .i64 0, .int .i64 0, .int .i64 0, .int .i64 0] 119)).cell? ⟨w.heap.size, 0, none⟩ = some (.pointer (some ⟨K.l, i * 7, none⟩)) := by
    rw [old_cell _ _ _ (by simp)]; exact new_cell _ _ _ _ rfl
  have hcall := callHolds
  have h0 : Calls Tryz.prog 111 #[.int .i64 0, .pointer (some ⟨w.heap.size, 0, none⟩)] ((w.alloc (.cells #[.pointer (some ⟨K.l, i * 7, none⟩)] 172)).alloc (.cells #[.int .i64 0, .int .i64 0, .int .i64 0, .int .i64 0] 119)) fun e w' => e = .returned (.int .i64 (tbl i).a) ∧ ((w.alloc (.cells #[.pointer (some ⟨K.l, i * 7, none⟩)] 172)).alloc (.cells #[.int .i64 0, .int .i64 0, .int .i64 0, .int .i64 0] 119)) = w' := holds1_any K n i 0 w.heap.size tbl next head _ hm hi (by decide) hq
  have H0 := Lib.hid h0
  have h1 : Calls Tryz.prog 111 #[.int .i64 1, .pointer (some ⟨w.heap.size, 0, none⟩)] ((w.alloc (.cells #[.pointer (some ⟨K.l, i * 7, none⟩)] 172)).alloc (.cells #[.int .i64 0, .int .i64 0, .int .i64 0, .int .i64 0] 119)) fun e w' => e = .returned (.int .i64 (tbl i).b) ∧ ((w.alloc (.cells #[.pointer (some ⟨K.l, i * 7, none⟩)] 172)).alloc (.cells #[.int .i64 0, .int .i64 0, .int .i64 0, .int .i64 0] 119)) = w' := holds1_any K n i 1 w.heap.size tbl next head _ hm hi (by decide) hq
  have H1 := Lib.hid h1
  have h2 : Calls Tryz.prog 111 #[.int .i64 2, .pointer (some ⟨w.heap.size, 0, none⟩)] ((w.alloc (.cells #[.pointer (some ⟨K.l, i * 7, none⟩)] 172)).alloc (.cells #[.int .i64 0, .int .i64 0, .int .i64 0, .int .i64 0] 119)) fun e w' => e = .returned (.int .i64 (tbl i).c) ∧ ((w.alloc (.cells #[.pointer (some ⟨K.l, i * 7, none⟩)] 172)).alloc (.cells #[.int .i64 0, .int .i64 0, .int .i64 0, .int .i64 0] 119)) = w' := holds1_any K n i 2 w.heap.size tbl next head _ hm hi (by decide) hq
  have H2 := Lib.hid h2
  have h3 : Calls Tryz.prog 111 #[.int .i64 3, .pointer (some ⟨w.heap.size, 0, none⟩)] ((w.alloc (.cells #[.pointer (some ⟨K.l, i * 7, none⟩)] 172)).alloc (.cells #[.int .i64 0, .int .i64 0, .int .i64 0, .int .i64 0] 119)) fun e w' => e = .returned (.int .i64 (tbl i).d) ∧ ((w.alloc (.cells #[.pointer (some ⟨K.l, i * 7, none⟩)] 172)).alloc (.cells #[.int .i64 0, .int .i64 0, .int .i64 0, .int .i64 0] 119)) = w' := holds1_any K n i 3 w.heap.size tbl next head _ hm hi (by decide) hq
  have H3 := Lib.hid h3
  have Hm := Lib.hid hm
  have HB := Lib.hid hB
  have Hq := Lib.hid hq
  clear h hm hB hq h0 h1 h2 h3
  generalize (tbl i).a = a at *
  generalize (tbl i).b = b at *
  generalize (tbl i).c = c at *
  generalize (tbl i).d = d at *
  go_enter Tryz.func84, Tryz.ntmps84
  go_wp2_with fail
  refine H0.out.mono ?_
  rintro e w' ⟨rfl, rfl⟩
  go_wp2_with fail
  refine H1.out.mono ?_
  rintro e w' ⟨rfl, rfl⟩
  go_wp2_with fail
  refine H2.out.mono ?_
  rintro e w' ⟨rfl, rfl⟩
  go_wp2_with fail
  refine H3.out.mono ?_
  rintro e w' ⟨rfl, rfl⟩
  go_wp2_with fail
  refine bodyPost_ret (results_cell_row (P := Tryz.prog) (ty := 119) rfl _ _ (w.heap.size + 1) 119 #[.int .i64 a, .int .i64 b, .int .i64 c, .int .i64 d] (0, 0) _ rfl (heap_alloc2_new w _ _) Tryz.underlying119 rfl (by kernel_rfl)) rfl ?_
  exact ⟨rfl, ((Below.refl _ _).alloc (Nat.le_refl _) _).alloc (by simp) _⟩
end Go.Proofs.YtadelkancmbanaaGreat
