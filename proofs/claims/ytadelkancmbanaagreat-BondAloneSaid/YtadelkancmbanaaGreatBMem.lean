/-
  All that lies in the machine of bond.Cells: pool, epoch, clock, cells; each in blocks of its own, which are told apart by tags.
-/
import Derived.Test.YtadelkancmbanaaGreatBHolds
import Derived.Test.YtadelkancmbanaaGreatBOk
import Derived.Test.YtadelkancmbanaaGreatBCollect
import Derived.Defers
namespace Go.Proofs.YtadelkancmbanaaGreat
open Go.RowKit
attribute [local go_sem ↓] Go.wp_at_zero Go.wp_at_succ

structure Fix where
  K : PB
  n : Nat
  X : XB
  cc : Nat
  B : Nat

structure St where
  heads : List Int
  made : Nat
  db : Nat → Nat
  st : Nat → Int
  tbl : Nat → Slot
  next : Nat → Nat
  head : Int
  now : Int
  at0 : Int
  deep : Int
  v : Value
  ws : List (Int × Int)
  cnow : Int
  ls : List Int
  tag : Nat → Nat

structure Tags (Z : Fix) (S : St) (N : Nat) : Prop where
  tK : ∀ k, Z.K.has k → S.tag k = 1
  tX : S.tag Z.X.x = 2 ∧ S.tag Z.X.h = 2
  tD : ∀ j, j < S.made → S.tag (S.db j) = 10 + j
  tE : S.tag Z.X.e = 3
  tC : S.tag Z.X.c = 4 ∧ S.tag Z.cc = 4
  tV : ∀ q, S.v.ownBlock = some q → S.tag q = 5
  new : ∀ k, N ≤ k → S.tag k = 0

structure Mem (Z : Fix) (S : St) (w : World) : Prop where
  bond : BondMem Z.X S.heads S.made S.db S.st w
  pool : PoolMem Z.K Z.n S.tbl S.next S.head w
  ep : EpochMem Z.X.e Z.K.p S.now S.at0 S.deep S.v w
  row : WRow Z.B S.v S.ws w
  ck : ClockMem Z.X.c Z.cc S.cnow S.ls w
  xp : Z.X.p = Z.K.p
  tags : Tags Z S w.heap.size
  bB : Z.B ≤ w.heap.size

theorem Tags.more {Z : Fix} {S : St} {N M : Nat} (h : Tags Z S N) (hn : N ≤ M) : Tags Z S M := ⟨h.tK, h.tX, h.tD, h.tE, h.tC, h.tV, fun k hk => h.new k (by omega)⟩

theorem ClockMem.of_block2 {b c : Nat} {now : Int} {ls : List Int} {w w' : World} (h : ClockMem b c now ls w) (e1 : w'.heap[b]? = w.heap[b]?) (e2 : w'.heap[c]? = w.heap[c]?) : ClockMem b c now ls w' :=
  ⟨h.ne, h.nw.of_block e1, (World.cell?_of_block e1).trans h.hd, fun i hi => (h.lw i hi).of_block e2, h.few, h.now0, h.lsB⟩

section
variable {Z : Fix} {S : St} {w w' : World}

theorem BondHas.tag {N : Nat} (t : Tags Z S N) {k : Nat} (hk : BondHas Z.X S.made S.db k) : S.tag k = 2 ∨ 10 ≤ S.tag k := by
  rcases hk with rfl | rfl | ⟨j, hj, rfl⟩
  · exact .inl t.tX.1
  · exact .inl t.tX.2
  · exact .inr (by have := t.tD j hj; omega)

/-- None of its blocks has changed. -/
theorem Mem.of_blocks (h : Mem Z S w) (hs : w.heap.size ≤ w'.heap.size) (hb : ∀ k, S.tag k ≠ 0 → w'.heap[k]? = w.heap[k]?) : Mem Z S w' := by
  have t := h.tags
  refine ⟨h.bond.of_blocks fun k hk => hb k ?_, h.pool.of_blocks fun k hk => hb k ?_, h.ep.of_block (hb _ ?_), h.row.of_block fun g hg => hb g ?_, h.ck.of_block2 (hb _ ?_) (hb _ ?_), h.xp, t.more hs, Nat.le_trans h.bB hs⟩
  · rcases BondHas.tag t hk with e | e <;> omega
  · rw [t.tK k hk]; decide
  · rw [t.tE]; decide
  · rw [t.tV g hg]; decide
  · rw [t.tC.1]; decide
  · rw [t.tC.2]; decide

theorem Mem.taglt (h : Mem Z S w) {k : Nat} (hk : S.tag k ≠ 0) : k < w.heap.size := by
  rcases Nat.lt_or_ge k w.heap.size with h1 | h1
  · exact h1
  · exact absurd (h.tags.new k h1) hk

theorem Mem.below (h : Mem Z S w) (hb : Below w.heap.size w w') : Mem Z S w' :=
  h.of_blocks hb.size fun k hk => hb.block k (h.taglt hk)

theorem Mem.keep (h : Mem Z S w) {T : Nat → Prop} (hb : Keep T w.heap.size w w') (hT : ∀ k, T k → S.tag k = 0) : Mem Z S w' :=
  h.of_blocks hb.size fun k hk => hb.block k (h.taglt hk) fun e => hk (hT k e)

/-- The pool has changed. -/
theorem Mem.setPool (h : Mem Z S w) {tbl : Nat → Slot} {next : Nat → Nat} {head : Int} (hp : PoolMem Z.K Z.n tbl next head w') (hk : Keep Z.K.has w.heap.size w w') : Mem Z { S with tbl := tbl, next := next, head := head } w' := by
  have t := h.tags
  have hb : ∀ k, S.tag k ≠ 0 → S.tag k ≠ 1 → w'.heap[k]? = w.heap[k]? := fun k h0 h1 => hk.block k (h.taglt h0) fun e => h1 (t.tK k e)
  refine ⟨h.bond.of_blocks fun k hk => hb k ?_ ?_, hp, h.ep.of_block (hb _ ?_ ?_), h.row.of_block fun g hg => hb g ?_ ?_, h.ck.of_block2 (hb _ ?_ ?_) (hb _ ?_ ?_), h.xp, ⟨t.tK, t.tX, t.tD, t.tE, t.tC, t.tV, fun k hk' => t.new k (Nat.le_trans hk.size hk')⟩, Nat.le_trans h.bB hk.size⟩
  · rcases BondHas.tag t hk with e | e <;> omega
  · rcases BondHas.tag t hk with e | e <;> omega
  · rw [t.tE]; decide
  · rw [t.tE]; decide
  · rw [t.tV g hg]; decide
  · rw [t.tV g hg]; decide
  · rw [t.tC.1]; decide
  · rw [t.tC.1]; decide
  · rw [t.tC.2]; decide
  · rw [t.tC.2]; decide

/-- The epoch's numbers have changed. -/
theorem Mem.setEp (h : Mem Z S w) {now at0 deep : Int} (hp : EpochMem Z.X.e Z.K.p now at0 deep S.v w') (hk : Keep (fun k => k = Z.X.e) w.heap.size w w') : Mem Z { S with now := now, at0 := at0, deep := deep } w' := by
  have t := h.tags
  have hb : ∀ k, S.tag k ≠ 0 → S.tag k ≠ 3 → w'.heap[k]? = w.heap[k]? := fun k h0 h1 => hk.block k (h.taglt h0) fun e => h1 (by rw [e]; exact t.tE)
  refine ⟨h.bond.of_blocks fun k hk => hb k ?_ ?_, h.pool.of_blocks fun k hk => hb k ?_ ?_, hp, h.row.of_block fun g hg => hb g ?_ ?_, h.ck.of_block2 (hb _ ?_ ?_) (hb _ ?_ ?_), h.xp, ⟨t.tK, t.tX, t.tD, t.tE, t.tC, t.tV, fun k hk' => t.new k (Nat.le_trans hk.size hk')⟩, Nat.le_trans h.bB hk.size⟩
  · rcases BondHas.tag t hk with e | e <;> omega
  · rcases BondHas.tag t hk with e | e <;> omega
  · rw [t.tK k hk]; decide
  · rw [t.tK k hk]; decide
  · rw [t.tV g hg]; decide
  · rw [t.tV g hg]; decide
  · rw [t.tC.1]; decide
  · rw [t.tC.1]; decide
  · rw [t.tC.2]; decide
  · rw [t.tC.2]; decide

/-- The clock has changed. -/
theorem Mem.setCk (h : Mem Z S w) {cnow : Int} {ls : List Int} (hp : ClockMem Z.X.c Z.cc cnow ls w') (hk : Keep (fun k => k = Z.X.c ∨ k = Z.cc) w.heap.size w w') : Mem Z { S with cnow := cnow, ls := ls } w' := by
  have t := h.tags
  have hb : ∀ k, S.tag k ≠ 0 → S.tag k ≠ 4 → w'.heap[k]? = w.heap[k]? := fun k h0 h1 => hk.block k (h.taglt h0) fun e => h1 (by rcases e with e | e; rw [e]; exact t.tC.1; rw [e]; exact t.tC.2)
  refine ⟨h.bond.of_blocks fun k hk => hb k ?_ ?_, h.pool.of_blocks fun k hk => hb k ?_ ?_, h.ep.of_block (hb _ ?_ ?_), h.row.of_block fun g hg => hb g ?_ ?_, hp, h.xp, ⟨t.tK, t.tX, t.tD, t.tE, t.tC, t.tV, fun k hk' => t.new k (Nat.le_trans hk.size hk')⟩, Nat.le_trans h.bB hk.size⟩
  · rcases BondHas.tag t hk with e | e <;> omega
  · rcases BondHas.tag t hk with e | e <;> omega
  · rw [t.tK k hk]; decide
  · rw [t.tK k hk]; decide
  · rw [t.tE]; decide
  · rw [t.tE]; decide
  · rw [t.tV g hg]; decide
  · rw [t.tV g hg]; decide

/-- What a step leaves: the blocks of others; the tags of what was there. -/
structure Next (Z : Fix) (S : St) (w : World) (S' : St) (w' : World) : Prop where
  mem : Mem Z S' w'
  keep : Keep (fun k => S.tag k ≠ 0) w.heap.size w w'
  tag : ∀ k, k < w.heap.size → S'.tag k = S.tag k

theorem Next.refl (h : Mem Z S w) : Next Z S w S w := ⟨h, Keep.refl _ _ _, fun _ _ => rfl⟩
theorem Next.trans {S1 S2 : St} {w1 w2 : World} (h : Next Z S w S1 w1) (k : Next Z S1 w1 S2 w2) : Next Z S w S2 w2 :=
  ⟨k.mem, h.keep.trans ((k.keep.mono h.keep.size).weaken fun i hi he => by rw [h.tag i hi] at he; exact he), fun i hi => (k.tag i (Nat.lt_of_lt_of_le hi h.keep.size)).trans (h.tag i hi)⟩
theorem Next.below {S1 : St} {w1 w2 : World} (h : Next Z S w S1 w1) (hb : Below w1.heap.size w1 w2) : Next Z S w S1 w2 :=
  h.trans ⟨h.mem.below hb, Keep.of_below hb, fun _ _ => rfl⟩
theorem Mem.next (h : Mem Z S w) (hb : Below w.heap.size w w') : Next Z S w S w' := (Next.refl h).below hb
/-- Old blocks that are none of its own. -/
theorem Next.near {S1 : St} {w1 w2 : World} {B : Nat} (h : Next Z S w S1 w1) (hB : w.heap.size ≤ B) (hb : Keep (fun k => B ≤ k ∧ S1.tag k = 0) w1.heap.size w1 w2) : Next Z S w S1 w2 :=
  ⟨h.mem.keep hb fun k hk => hk.2, h.keep.trans ((hb.mono h.keep.size).weaken fun i hi he => absurd he.1 (by omega)), h.tag⟩

theorem Mem.nextPool (h : Mem Z S w) {tbl : Nat → Slot} {next : Nat → Nat} {head : Int} (hp : PoolMem Z.K Z.n tbl next head w') (hk : Keep Z.K.has w.heap.size w w') : Next Z S w { S with tbl := tbl, next := next, head := head } w' :=
  ⟨h.setPool hp hk, hk.weaken fun k _ e => by show S.tag k ≠ 0; rw [h.tags.tK k e]; decide, fun _ _ => rfl⟩
theorem Mem.nextEp (h : Mem Z S w) {now at0 deep : Int} (hp : EpochMem Z.X.e Z.K.p now at0 deep S.v w') (hk : Keep (fun k => k = Z.X.e) w.heap.size w w') : Next Z S w { S with now := now, at0 := at0, deep := deep } w' :=
  ⟨h.setEp hp hk, hk.weaken fun k _ e => by show S.tag k ≠ 0; rw [e, h.tags.tE]; decide, fun _ _ => rfl⟩
theorem Mem.nextCk (h : Mem Z S w) {cnow : Int} {ls : List Int} (hp : ClockMem Z.X.c Z.cc cnow ls w') (hk : Keep (fun k => k = Z.X.c ∨ k = Z.cc) w.heap.size w w') : Next Z S w { S with cnow := cnow, ls := ls } w' :=
  ⟨h.setCk hp hk, hk.weaken fun k _ e => by show S.tag k ≠ 0; rcases e with e | e; rw [e, h.tags.tC.1]; decide; rw [e, h.tags.tC.2]; decide, fun _ _ => rfl⟩
end

set_option maxRecDepth 100000 in
set_option maxHeartbeats 800000 in
theorem leave_d (b p : Nat) (now at0 : Int) (v : Value) (u : FrameMode) (w : World) (h : EpochMem b p now at0 1 v w) : CallsD Tryz.prog 46 #[.pointer (some ⟨b, 0, none⟩), .pointer none] u w fun e u' w' => u' = u ∧ (e = .returned (.int .i64 0) ∧ EpochMem b p now 0 0 v w' ∧ Keep (fun k => k = b) w.heap.size w w') := by
  have hm := mine_any b p now at0 1 v w h
  have c3 := h.at_
  have c11 := h.dp
  have h2 := ((h.of_block (w' := w.drew) rfl).setAt (y := 0)).setDeep (y := 0)
  have c3d : CellIs w.drew b 3 (.int .i64 at0) := c3.of_block rfl
  have c3c := c3d.cell
  have c3f := c3d.frz
  have c11c := c11.cell
  have c11f := c11.frz
  have hnum := flipped (number_nil w.drew)
  have Hm := Lib.hid hm
  have H2 := Lib.hid h2
  have Hnum := Lib.hid hnum
  clear h hm c3 c3d c11 h2 hnum
  go_enter_d Tryz.func46, Tryz.ntmps46
  go_wp2_with (first | (go_at_call 66; ((with_reducible refine (Hm.out).mono ?_); rintro e w' ⟨rfl, rfl⟩)) | (go_at_call 22; ((with_reducible refine (step_nil _).mono ?_); rintro e w' ⟨rfl, rfl⟩)))
  refine wp_region_still_tail 6 (by kernel_rfl) (by kernel_rfl) ?_
  simp only [List.take_succ_cons, List.take_zero, List.drop_succ_cons, List.drop_zero]
  change wpStill _ _ (World.drew _) _ _ _
  repeat (first | (refine wpStill_step (fun K hK => ?_); go_simp; refine hK _ ?_; clear hK K) | (refine wpStill_step (fun K hK => ?_); go_simp; refine ⟨_, Hnum.out, hK _ ?_⟩; clear hK K))
  refine wpStill_nil ?_
  change wpList _ _ _ _ _ (World.drew _)
  go_wp2_with (first | (go_at_call 23; ((with_reducible refine (i64store _ _ _ _ _ c3c c3f).mono ?_); rintro e w' ⟨rfl, rfl⟩)))
  go_ret
  exact ⟨rfl, H2.out, (((Keep.refl (fun k => k = b) _ _).setCell (p := ⟨b, 3, none⟩) (.inl rfl) _).setCell (p := ⟨b, 11, none⟩) (.inl rfl) _).drew⟩

/-- At the door: Leave is still to be done. -/
theorem leave_door {Z : Fix} {S : St} {w : World} {fn : Func} {tmps : Array Value} {R : Ending → World → Prop} (h : Mem Z S w) (hd : S.deep = 1)
    (hk : ∀ w', Next Z S w { S with at0 := 0, deep := 0 } w' → ∃ x, (results fn tmps).run Tryz.prog w' = .ok x w' ∧ R (.returned x) w') :
    Leaves Tryz.prog fn tmps R [{ target := .fn (.func 46) #[], args := #[.pointer (some ⟨Z.X.e, 0, none⟩), .pointer none] }] .returning w := by
  have he := h.ep
  rw [hd] at he
  refine leaves_cons (f := 46) (args := #[.pointer (some ⟨Z.X.e, 0, none⟩), .pointer none]) (by simp) (by simp [go_sem]) ?_
  refine (leave_d Z.X.e Z.K.p S.now S.at0 S.v .returning w he).mono ?_
  rintro e u' w' ⟨rfl, rfl, hm, hkp⟩
  exact hk w' (h.nextEp (now := S.now) (at0 := 0) (deep := 0) hm hkp)
end Go.Proofs.YtadelkancmbanaaGreat
