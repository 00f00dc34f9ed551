/-
  bond.Cells: what a write leaves.
-/
import Derived.Test.YtadelkancmbanaaGreatBNext
namespace Go.Proofs.YtadelkancmbanaaGreat
open Go.RowKit
attribute [local go_sem ↓] Go.wp_at_zero Go.wp_at_succ

section
variable {Z : Fix} {S : St} {w w' : World}

theorem shape_setCell (w : World) (p : Addr) (u : Value) (b : Nat) : (w.setCell p u).shape? b = w.shape? b := by
  unfold World.shape? World.setCell
  simp only [Array.getElem?_modify]
  by_cases e : p.block = b
  · subst e
    rw [if_pos rfl]
    cases hg : w.heap[p.block]? with
    | none => rfl
    | some o =>
      cases o <;> first | rfl | (simp only [Option.map_some]; split <;> simp)
  · rw [if_neg e]

/-- The pool has changed, and cells of a descriptor other than its status. -/
theorem Mem.nextPoolD (h : Mem Z S w) {tbl : Nat → Slot} {next : Nat → Nat} {head : Int} {d j : Nat} (hj : j < S.made) (hdj : S.db j = d) (hp : PoolMem Z.K Z.n tbl next head w') (hk : Keep (fun k => Z.K.has k ∨ k = d) w.heap.size w w')
    (hsh : w'.shape? d = some (123, 3)) (hst : CellIs w' d 0 (.int .i64 (S.st j))) : Next Z S w { S with tbl := tbl, next := next, head := head } w' := by
  have t := h.tags
  have td := t.tD j hj
  rw [hdj] at td
  have hb : ∀ k, S.tag k ≠ 0 → S.tag k ≠ 1 → S.tag k ≠ 10 + j → w'.heap[k]? = w.heap[k]? := fun k h0 h1 h2 => hk.block k (h.taglt h0) fun e => by
    rcases e with e | e
    · exact h1 (t.tK k e)
    · exact h2 (by rw [e]; exact td)
  have bx : w'.heap[Z.X.x]? = w.heap[Z.X.x]? := hb _ (by rw [t.tX.1]; decide) (by rw [t.tX.1]; decide) (by rw [t.tX.1]; omega)
  have bh : w'.heap[Z.X.h]? = w.heap[Z.X.h]? := hb _ (by rw [t.tX.2]; decide) (by rw [t.tX.2]; decide) (by rw [t.tX.2]; omega)
  have e : ∀ o, w'.cell? ⟨Z.X.x, o, none⟩ = w.cell? ⟨Z.X.x, o, none⟩ := fun o => World.cell?_of_block bx
  have hB : BondMem Z.X S.heads S.made S.db S.st w' := by
    refine ⟨h.bond.ne, (e _).trans h.bond.c0, (e _).trans h.bond.c1, (e _).trans h.bond.c2, (e _).trans h.bond.hd, fun i hi => (h.bond.head i hi).of_block bh, fun d0 hd0 => ?_, h.bond.mkd.of_block bx, fun i hi => ?_, h.bond.sep, h.bond.few, h.bond.madeB⟩
    · obtain ⟨u, hu⟩ := h.bond.all d0 hd0
      exact ⟨u, hu.of_block bx⟩
    · obtain ⟨q1, q2, q3⟩ := h.bond.desc i hi
      by_cases ei : i = j
      · subst ei
        rw [hdj]
        rw [hdj] at q1
        exact ⟨(e _).trans q1, hsh, hst⟩
      · have ti := t.tD i hi
        have b3 := hb (S.db i) (by omega) (by omega) (by omega)
        exact ⟨(e _).trans q1, (shape_of_block b3).trans q2, q3.of_block b3⟩
  refine ⟨⟨hB, hp, h.ep.of_block (hb _ ?_ ?_ ?_), h.row.of_block fun g hg => hb g ?_ ?_ ?_, h.ck.of_block2 (hb _ ?_ ?_ ?_) (hb _ ?_ ?_ ?_), h.xp, ⟨t.tK, t.tX, t.tD, t.tE, t.tC, t.tV, fun k hk' => t.new k (Nat.le_trans hk.size hk')⟩, Nat.le_trans h.bB hk.size⟩,
    hk.weaken fun k _ e => ?_, fun _ _ => rfl⟩
  · rw [t.tE]; decide
  · rw [t.tE]; decide
  · rw [t.tE]; omega
  · rw [t.tV g hg]; decide
  · rw [t.tV g hg]; decide
  · rw [t.tV g hg]; omega
  · rw [t.tC.1]; decide
  · rw [t.tC.1]; decide
  · rw [t.tC.1]; omega
  · rw [t.tC.2]; decide
  · rw [t.tC.2]; decide
  · rw [t.tC.2]; omega
  · show S.tag k ≠ 0
    rcases e with e | e
    · rw [t.tK k e]; decide
    · rw [e, td]; omega

/-- The heads have changed. -/
theorem Mem.nextHeads (h : Mem Z S w) {heads : List Int} (hl : heads.length = S.heads.length) (hh : ∀ i, i < heads.length → CellIs w' Z.X.h i (.int .i64 (heads.getD i 0))) (hk : Keep (fun k => k = Z.X.h) w.heap.size w w') :
    Next Z S w { S with heads := heads } w' := by
  have t := h.tags
  obtain ⟨lx, lh, ld⟩ := h.bond.lt
  have hb : ∀ k, S.tag k ≠ 0 → k ≠ Z.X.h → w'.heap[k]? = w.heap[k]? := fun k h0 h1 => hk.block k (h.taglt h0) h1
  have ht : ∀ k, S.tag k ≠ 2 → k ≠ Z.X.h := fun k h1 e => h1 (by rw [e]; exact t.tX.2)
  have bx : w'.heap[Z.X.x]? = w.heap[Z.X.x]? := hb _ (by rw [t.tX.1]; decide) h.bond.ne
  have e : ∀ o, w'.cell? ⟨Z.X.x, o, none⟩ = w.cell? ⟨Z.X.x, o, none⟩ := fun o => World.cell?_of_block bx
  have hB : BondMem Z.X heads S.made S.db S.st w' := by
    refine ⟨h.bond.ne, (e _).trans h.bond.c0, (e _).trans h.bond.c1, (e _).trans h.bond.c2, by rw [hl]; exact (e _).trans h.bond.hd, hh, fun d0 hd0 => ?_, h.bond.mkd.of_block bx, fun i hi => ?_, h.bond.sep, by rw [hl]; exact h.bond.few, h.bond.madeB⟩
    · obtain ⟨u, hu⟩ := h.bond.all d0 hd0
      exact ⟨u, hu.of_block bx⟩
    · obtain ⟨q1, q2, q3⟩ := h.bond.desc i hi
      have ti := t.tD i hi
      have b3 := hb (S.db i) (by omega) (h.bond.sep i hi).2
      exact ⟨(e _).trans q1, (shape_of_block b3).trans q2, q3.of_block b3⟩
  refine ⟨⟨hB, h.pool.of_blocks fun k hk => hb k ?_ (ht _ ?_), h.ep.of_block (hb _ ?_ (ht _ ?_)), h.row.of_block fun g hg => hb g ?_ (ht _ ?_), h.ck.of_block2 (hb _ ?_ (ht _ ?_)) (hb _ ?_ (ht _ ?_)), h.xp, ⟨t.tK, t.tX, t.tD, t.tE, t.tC, t.tV, fun k hk' => t.new k (Nat.le_trans hk.size hk')⟩, Nat.le_trans h.bB hk.size⟩,
    hk.weaken fun k _ e => ?_, fun _ _ => rfl⟩
  · rw [t.tK k hk]; decide
  · rw [t.tK k hk]; decide
  · rw [t.tE]; decide
  · rw [t.tE]; decide
  · rw [t.tV g hg]; decide
  · rw [t.tV g hg]; decide
  · rw [t.tC.1]; decide
  · rw [t.tC.1]; decide
  · rw [t.tC.2]; decide
  · rw [t.tC.2]; decide
  · show S.tag k ≠ 0
    rw [e, t.tX.2]; decide

/-- A status has changed. -/
theorem Mem.nextSt (h : Mem Z S w) {d j : Nat} (s : Int) (hj : j < S.made) (hdj : S.db j = d) : Next Z S w { S with st := upd S.st j s } (w.setCell ⟨d, 0, none⟩ (.int .i64 s)) := by
  have t := h.tags
  have td := t.tD j hj
  rw [hdj] at td
  have hk : Keep (fun k => k = d) w.heap.size w (w.setCell ⟨d, 0, none⟩ (.int .i64 s)) := (Keep.refl (fun k => k = d) _ _).setCell (p := ⟨d, 0, none⟩) (.inl rfl) _
  have hb : ∀ k, S.tag k ≠ 0 → S.tag k ≠ 10 + j → (w.setCell ⟨d, 0, none⟩ (.int .i64 s)).heap[k]? = w.heap[k]? := fun k h0 h2 => hk.block k (h.taglt h0) fun e => h2 (by rw [e]; exact td)
  have bx : (w.setCell ⟨d, 0, none⟩ (.int .i64 s)).heap[Z.X.x]? = w.heap[Z.X.x]? := hb _ (by rw [t.tX.1]; decide) (by rw [t.tX.1]; omega)
  have bh : (w.setCell ⟨d, 0, none⟩ (.int .i64 s)).heap[Z.X.h]? = w.heap[Z.X.h]? := hb _ (by rw [t.tX.2]; decide) (by rw [t.tX.2]; omega)
  have e : ∀ o, (w.setCell ⟨d, 0, none⟩ (.int .i64 s)).cell? ⟨Z.X.x, o, none⟩ = w.cell? ⟨Z.X.x, o, none⟩ := fun o => World.cell?_of_block bx
  have hB : BondMem Z.X S.heads S.made S.db (upd S.st j s) (w.setCell ⟨d, 0, none⟩ (.int .i64 s)) := by
    refine ⟨h.bond.ne, (e _).trans h.bond.c0, (e _).trans h.bond.c1, (e _).trans h.bond.c2, (e _).trans h.bond.hd, fun i hi => (h.bond.head i hi).of_block bh, fun d0 hd0 => ?_, h.bond.mkd.of_block bx, fun i hi => ?_, h.bond.sep, h.bond.few, h.bond.madeB⟩
    · obtain ⟨u, hu⟩ := h.bond.all d0 hd0
      exact ⟨u, hu.of_block bx⟩
    · obtain ⟨q1, q2, q3⟩ := h.bond.desc i hi
      by_cases ei : i = j
      · subst ei
        rw [hdj] at q1 q2 q3 ⊢
        rw [upd_same]
        refine ⟨(e _).trans q1, ?_, q3.set⟩
        exact (shape_setCell _ _ _ _).trans q2
      · have ti := t.tD i hi
        have b3 := hb (S.db i) (by omega) (by omega)
        rw [upd_other _ _ _ _ ei]
        exact ⟨(e _).trans q1, (shape_of_block b3).trans q2, q3.of_block b3⟩
  refine ⟨⟨hB, h.pool.of_blocks fun k hk => hb k ?_ ?_, h.ep.of_block (hb _ ?_ ?_), h.row.of_block fun g hg => hb g ?_ ?_, h.ck.of_block2 (hb _ ?_ ?_) (hb _ ?_ ?_), h.xp, ⟨t.tK, t.tX, t.tD, t.tE, t.tC, t.tV, fun k hk' => t.new k (Nat.le_trans hk.size hk')⟩, Nat.le_trans h.bB hk.size⟩,
    hk.weaken fun k _ e => ?_, fun _ _ => rfl⟩
  · rw [t.tK k hk]; decide
  · rw [t.tK k hk]; omega
  · rw [t.tE]; decide
  · rw [t.tE]; omega
  · rw [t.tV g hg]; decide
  · rw [t.tV g hg]; omega
  · rw [t.tC.1]; decide
  · rw [t.tC.1]; omega
  · rw [t.tC.2]; decide
  · rw [t.tC.2]; omega
  · show S.tag k ≠ 0
    rw [e, td]; omega
end

/-- The slots that the first k of a write have taken. -/
def laidK (tbl : Nat → Slot) (b : Int) (val old : Nat → Int) (F : List Nat) : Nat → Nat → Slot
  | 0 => tbl
  | k + 1 => upd (laidK tbl b val old F k) (F.getD k 0) ⟨(laidK tbl b val old F k (F.getD k 0)).gen + 1, 0, old k, val k, b, 0, 0⟩
/-- Their handles. -/
def hsK (tbl : Nat → Slot) (b : Int) (val old : Nat → Int) (F : List Nat) (k : Nat) : Int := hnd (F.getD k 0) ((laidK tbl b val old F k (F.getD k 0)).gen + 1)
def headsK (heads : List Int) (key : Nat → Nat) (hs : Nat → Int) : Nat → List Int
  | 0 => heads
  | k + 1 => (headsK heads key hs k).set (key k) (hs k)
theorem headsK_length (heads : List Int) (key : Nat → Nat) (hs : Nat → Int) : ∀ k, (headsK heads key hs k).length = heads.length
  | 0 => rfl
  | k + 1 => by rw [headsK, List.length_set, headsK_length]
theorem headsK_far (heads : List Int) (key : Nat → Nat) (hs : Nat → Int) (c : Nat) : ∀ k, (∀ j, j < k → key j ≠ c) → (headsK heads key hs k).getD c 0 = heads.getD c 0
  | 0, _ => rfl
  | k + 1, h => by
    have ih := headsK_far heads key hs c k fun j hj => h j (by omega)
    have hk := h k (by omega)
    rw [headsK, List.getD_eq_getElem?_getD, List.getElem?_set, if_neg hk, ← List.getD_eq_getElem?_getD, ih]
end Go.Proofs.YtadelkancmbanaaGreat
