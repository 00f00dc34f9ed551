/-
  The law itself: its loop's relation.
-/
import Derived.Test.YtadelkancmbanaaGreatBSnaps2
namespace Go.Proofs.YtadelkancmbanaaGreat
open Go.RowKit
attribute [local go_sem ↓] Go.wp_at_zero Go.wp_at_succ

/-- One call of the script, as it came. -/
structure OpAt (s off : Nat) (w : World) (kind a b c : Int) (p : Option Addr) (m cp : Nat) (d : Array (Int × Int)) : Prop where
  k : w.cell? ⟨s, off, none⟩ = some (.int .i64 kind)
  a : w.cell? ⟨s, off + 1, none⟩ = some (.int .i64 a)
  b : w.cell? ⟨s, off + 2, none⟩ = some (.int .i64 b)
  c : w.cell? ⟨s, off + 3, none⟩ = some (.int .i64 c)
  l : w.cell? ⟨s, off + 4, none⟩ = some (.slice p m cp)
  sz : d.size = m
  pv : PVal p d w
  pl : 0 < m → ∀ x : Addr, p = some x → x.block < w.heap.size
def ScriptB (a : Option Addr) (n : Nat) (w : World) : Prop := n = 0 ∨ ∃ s o, a = some ⟨s, o, none⟩ ∧ ∀ k, k < n → ∃ kind a b c p m cp d, OpAt s (o + k * 5) w kind a b c p m cp d

/-- Between two calls of the script. -/
structure LI (Z : Fix) (B0 BB b6 gl N : Nat) (w : World) (k : Nat) (vv : Value) (S : St) (C : Nat → List Ver) (F : List Nat) (W : List Wait) (G : Int) (l : List Int) (sn : List Sn) (w' : World) : Prop where
  inv : Inv Z S C F W G w'
  len : S.heads.length = N
  row : LRow S gl S.heads.length l w'
  val : ∀ c, c < S.heads.length → (topOf C c).v = l.getD c 0
  snaps : SnAll S C gl sn w'
  away : Away B0 w S w'
  box : S.tag b6 = 0 ∧ w'.heap[b6]? = some (mObj Z)
  vrow : w'.ownsRow BB 41 4 vv sn.length (snCells N sn)
  vtag : ∀ g, vv.ownBlock = some g → S.tag g = 0 ∧ ∀ x, x ∈ sn → x.g ≠ g
  free : 16 * (151 - k) ≤ F.length
  gens : G ≤ 16 + 4200 * k
  made : S.made ≤ k
  now : S.now ≤ 1 + k
  cnow : S.cnow ≤ 1 + k
  few : sn.length ≤ k
  ls : S.ls.length = 3
  base : BB ≤ w'.heap.size

structure LIc (B0 BB b6 gl N : Nat) (w : World) : Prop where
  b0 : B0 ≤ w.heap.size
  bb6 : b6 < BB
  bgl : gl < BB
  b60 : B0 ≤ b6
  gl0 : B0 ≤ gl
  ne : b6 ≠ gl
  N : 1 ≤ N ∧ N ≤ 16

section
variable {Z : Fix} {B0 BB b6 gl N k : Nat} {w w1 w2 : World} {vv : Value} {S : St} {C : Nat → List Ver} {F : List Nat} {W : List Wait} {G : Int} {l : List Int} {sn : List Sn}

theorem LI.room (h : LI Z B0 BB b6 gl N w k vv S C F W G l sn w1) (hk : k < 150) : Room Z S F G :=
  ⟨by have := h.free; omega, by have := h.gens; omega, by have := h.made; omega, by have := h.now; omega, by have := h.cnow; omega⟩

/-- Memory has grown. -/
theorem LI.more (hc : LIc B0 BB b6 gl N w) (h : LI Z B0 BB b6 gl N w k vv S C F W G l sn w1) (hb : Below w1.heap.size w1 w2) : LI Z B0 BB b6 gl N w k vv S C F W G l sn w2 := by
  have hn := h.inv.mem.next hb
  have hN : 1 ≤ S.heads.length := by have := h.len; have := hc.N; omega
  exact ⟨h.inv.next hn, h.len, h.row.next hN hn, h.val, h.snaps.next hN hn, h.away.more hc.b0 hb, stayB hb h.box, owns_of_block h.vrow fun g hg => hb.block g (h.vrow.lt g hg).2, h.vtag, h.free, h.gens, h.made, h.now, h.cnow, h.few, h.ls, Nat.le_trans h.base hb.size⟩

/-- One round is over, and the machine is as it was. -/
theorem LI.idle (h : LI Z B0 BB b6 gl N w k vv S C F W G l sn w1) (hk : k < 150) : LI Z B0 BB b6 gl N w (k + 1) vv S C F W G l sn w1 :=
  ⟨h.inv, h.len, h.row, h.val, h.snaps, h.away, h.box, h.vrow, h.vtag, by have := h.free; omega, by have := h.gens; omega, by have := h.made; omega, by have := h.now; omega, by have := h.cnow; omega, by have := h.few; omega, h.ls, h.base⟩

/-- Behind a does. -/
theorem LI.step (hc : LIc B0 BB b6 gl N w) (h : LI Z B0 BB b6 gl N w k vv S C F W G l sn w1) (hk : k < 150) {S' : St} {C' : Nat → List Ver} {F' : List Nat} {W' : List Wait} {G' : Int} {l' : List Int} (hs : Step Z S C F G gl w1 S' C' F' W' G' l' w2) :
    LI Z B0 BB b6 gl N w (k + 1) vv S' C' F' W' G' l' sn w2 := by
  have hN : 1 ≤ S.heads.length := by have := h.len; have := hc.N; omega
  have hb6 : b6 < w1.heap.size := (Array.getElem?_eq_some_iff.1 h.box.2).1
  have hw := h.away.below.size
  have hk0 : ∀ j, S.tag j = 0 → j ≠ gl → j < w1.heap.size → w2.heap[j]? = w1.heap[j]? := fun j h1 h2 h3 => hs.keep.block j h3 (by rintro (e | e); exact e h1; exact h2 e)
  refine ⟨hs.inv, hs.len.trans h.len, by rw [hs.len]; exact hs.row, fun c hcc => hs.val c (by rw [← hs.len]; exact hcc), h.snaps.step hN hs, ⟨fun j hj => (hs.tag j (by have := hc.b0; omega)).trans (h.away.tag j hj), ?_⟩, ⟨(hs.tag b6 hb6).trans h.box.1, (hk0 b6 h.box.1 hc.ne hb6).trans h.box.2⟩, owns_of_block h.vrow fun g hg => hk0 g (h.vtag g hg).1 (by have := (h.vrow.lt g hg).1; have := hc.bgl; omega) (h.vrow.lt g hg).2, fun g hg => ⟨(hs.tag g (h.vrow.lt g hg).2).trans (h.vtag g hg).1, (h.vtag g hg).2⟩, ?_, ?_, ?_, ?_, ?_, by have := h.few; omega, by rw [hs.ls]; exact h.ls, Nat.le_trans h.base hs.keep.size⟩
  · have hb := h.away.below
    refine ((Keep.of_below (S := fun _ => False) hb).trans ((hs.keep.mono (by have := hc.b0; omega)).weaken fun j hj e => ?_)).below
    rcases e with e | e
    · exact e (h.away.tag j hj)
    · have := hc.gl0; omega
  · have := h.free; have := hs.free; omega
  · have := h.gens; have := hs.gens; omega
  · have := h.made; have := hs.made; omega
  · have := h.now; have := hs.now; omega
  · have := h.cnow; rw [hs.cnow]; omega

/-- A snapshot's mark is cleared. -/
theorem LI.put (hc : LIc B0 BB b6 gl N w) (h : LI Z B0 BB b6 gl N w k vv S C F W G l sn w1) (gv cv A : Nat) (hvv : vv = .slice (some ⟨gv, 0, none⟩) sn.length cv) (hA : A < sn.length) :
    Keep (fun j => j = gv) w1.heap.size w1 (w1.setCell ⟨gv, A * 4 + 3, none⟩ (.bool false)).drew ∧ Inv Z S C F W G (w1.setCell ⟨gv, A * 4 + 3, none⟩ (.bool false)).drew := by
  have hk : Keep (fun j => j = gv) w1.heap.size w1 (w1.setCell ⟨gv, A * 4 + 3, none⟩ (.bool false)).drew := ((Keep.refl (fun j => j = gv) _ _).setCell (p := ⟨gv, A * 4 + 3, none⟩) (.inl rfl) _).drew
  have ht := (h.vtag gv (by rw [hvv]; rfl)).1
  exact ⟨hk, h.inv.at (h.inv.mem.keep hk fun j e => by rw [e]; exact ht)⟩

theorem LI.release (hc : LIc B0 BB b6 gl N w) (h : LI Z B0 BB b6 gl N w k vv S C F W G l sn w1) (hk : k < 150) (gv cv A : Nat) (hvv : vv = .slice (some ⟨gv, 0, none⟩) sn.length cv) (hA : A < sn.length) (hx : (sn[A]!).is = true)
    (hn : Next Z S (w1.setCell ⟨gv, A * 4 + 3, none⟩ (.bool false)).drew { S with ls := S.ls.set (sn[A]!).li 0 } w2) :
    LI Z B0 BB b6 gl N w (k + 1) vv { S with ls := S.ls.set (sn[A]!).li 0 } C F W G l (sn.set A { sn[A]! with is := false }) w2 := by
  obtain ⟨hkp, hi5⟩ := h.put hc gv cv A hvv hA
  have hN : 1 ≤ S.heads.length := by have := h.len; have := hc.N; omega
  have hgv := h.vrow.lt gv (by rw [hvv]; rfl)
  obtain ⟨ht, hsep⟩ := h.vtag gv (by rw [hvv]; rfl)
  have hmem : sn[A]! ∈ sn := by rw [getElem!_pos sn A hA]; exact List.getElem_mem hA
  have hblk : ∀ j, S.tag j = 0 → j ≠ gv → j < w1.heap.size → w2.heap[j]? = w1.heap[j]? := fun j h1 h2 h3 => (hn.keep.block j (Nat.lt_of_lt_of_le h3 hkp.size) (by rw [h1]; exact fun h => h rfl)).trans (hkp.block j h3 h2)
  have hglt : gl < w1.heap.size := (h.row.cells 0 (by omega)).lt
  have hb6 : b6 < w1.heap.size := (Array.getElem?_eq_some_iff.1 h.box.2).1
  have hrow5 : LRow S gl S.heads.length l w2 := ⟨h.row.len, fun j hj => (h.row.cells j hj).of_block (hblk gl h.row.tag (by have := hc.bgl; omega) hglt), h.row.tag⟩
  have haw : Away B0 w S (w1.setCell ⟨gv, A * 4 + 3, none⟩ (.bool false)).drew := ⟨h.away.tag, ((Keep.of_below (S := fun _ => False) h.away.below).trans ((hkp.mono (Nat.le_trans hc.b0 h.away.below.size)).weaken fun j hj e => by have := hc.bgl; have := hc.gl0; omega)).below⟩
  have hvr := h.vrow
  rw [hvv] at hvr
  have hst := hvr.stored (A * 4 + 3) (.bool false)
  refine ⟨hi5.release (sn[A]!).li (h.snaps.at_ _ hmem).li hn, h.len, ⟨hrow5.len, hrow5.cells, hrow5.tag⟩, h.val, h.snaps.release A hA hx fun x hxm => hblk x.g (h.snaps.row x hxm).2.1 (hsep x hxm) ((h.snaps.row x hxm).1.lt hN), haw.next hc.b0 hn, ⟨h.box.1, (hblk b6 h.box.1 (by have := hc.bb6; omega) hb6).trans h.box.2⟩, ?_, fun g hg => ?_, by have := h.free; omega, by have := h.gens; omega, by have := h.made; show S.made ≤ _; omega, by have := h.now; show S.now ≤ _; omega, by have := h.cnow; show S.cnow ≤ _; omega, by rw [List.length_set]; have := h.few; omega, by show (S.ls.set _ _).length = 3; rw [List.length_set]; exact h.ls, by have := h.base; have := hkp.size; have := hn.keep.size; omega⟩
  · rw [List.length_set, hvv, snCells_set N sn A hA]
    refine owns_of_block hst.1 fun g hg => ?_
    have e : gv = g := by injection hg
    subst e
    exact hn.keep.block gv (by show gv < ((w1.setCell _ _).drew).heap.size; have := hkp.size; omega) (by rw [ht]; exact fun h => h rfl)
  · obtain ⟨t1, t2⟩ := h.vtag g hg
    refine ⟨t1, fun x hxm => ?_⟩
    rcases sn_set_mem A _ hA x hxm with rfl | ⟨j, hj, _, rfl⟩
    · exact t2 (sn[A]!) hmem
    · exact t2 _ (by rw [getElem!_pos sn j hj]; exact List.getElem_mem hj)

/-- A snapshot has been taken, and is kept. -/
theorem LI.take (hc : LIc B0 BB b6 gl N w) (h : LI Z B0 BB b6 gl N w k vv S C F W G l sn w1) (hk : k < 150) {w6 w9 : World} (i : Nat) (hi : i < S.ls.length) (hz : S.ls.getD i 0 = 0) (hn : Next Z S w1 { S with cnow := S.cnow + 1, ls := S.ls.set i (S.cnow + 1) } w6) (g7 c7 g9 c9 : Nat)
    (hk9 : Keep (fun j => vv.ownBlock = some j) w6.heap.size w6 w9) (hrow : w9.ownsRow BB 41 4 (.slice (some ⟨g9, 0, none⟩) (sn.length + 1) c9) (sn.length + 1) (snCells N sn ++ snVals N ⟨i, S.cnow, g7, c7, l, true⟩)) (hg9 : vv.ownBlock = some g9 ∨ w6.heap.size ≤ g9) (hg7 : w6.heap.size ≤ g7) (h79 : g7 ≠ g9)
    (hcr : CRow N ⟨i, S.cnow, g7, c7, l, true⟩ w9) :
    LI Z B0 BB b6 gl N w (k + 1) (.slice (some ⟨g9, 0, none⟩) (sn.length + 1) c9) { S with cnow := S.cnow + 1, ls := S.ls.set i (S.cnow + 1) } C F W G l (sn ++ [⟨i, S.cnow, g7, c7, l, true⟩]) w9 := by
  have hN : 1 ≤ S.heads.length := by have := h.len; have := hc.N; omega
  have s1 := hn.keep.size
  have hglt : gl < w1.heap.size := (h.row.cells 0 (by omega)).lt
  have hb6 : b6 < w1.heap.size := (Array.getElem?_eq_some_iff.1 h.box.2).1
  have hrowlt : ∀ j, vv.ownBlock = some j → BB ≤ j ∧ j < w1.heap.size := fun j hj => h.vrow.lt j hj
  have hblk : ∀ j, S.tag j = 0 → vv.ownBlock ≠ some j → j < w1.heap.size → w9.heap[j]? = w1.heap[j]? := fun j h1 h2 h3 => (hk9.block j (by omega) h2).trans (hn.keep.block j h3 (by rw [h1]; exact fun h => h rfl))
  have hinv := (h.inv.take i hi hn hz).at (w' := w9) ((h.inv.take i hi hn hz).mem.keep hk9 fun j e => (h.vtag j e).1)
  have haw := h.away.next hc.b0 hn
  refine ⟨hinv, h.len, ⟨h.row.len, fun j hj => (h.row.cells j hj).of_block (hblk gl h.row.tag (fun e => by have := (hrowlt gl e).1; have := hc.bgl; omega) hglt), h.row.tag⟩, h.val, h.snaps.take h.inv h.val i hi hz g7 c7 (fun x hx => hblk x.g (h.snaps.row x hx).2.1 (fun e => (h.vtag _ e).2 x hx rfl) ((h.snaps.row x hx).1.lt hN)) (by rw [h.len]; exact hcr) (h.inv.mem.tags.new g7 (by omega)) (by omega), ⟨haw.tag, ?_⟩, ⟨h.box.1, (hblk b6 h.box.1 (fun e => by have := (hrowlt b6 e).1; have := hc.bb6; omega) hb6).trans h.box.2⟩, ?_, fun g hg => ?_, by have := h.free; omega, by have := h.gens; omega, by have := h.made; show S.made ≤ _; omega, by have := h.now; show S.now ≤ _; omega, by have := h.cnow; show S.cnow + 1 ≤ _; omega, by rw [List.length_append]; have := h.few; simp; omega, by show (S.ls.set _ _).length = 3; rw [List.length_set]; exact h.ls, by have := h.base; have := hn.keep.size; have := hk9.size; omega⟩
  · refine ((Keep.of_below (S := fun _ => False) haw.below).trans ((hk9.mono (Nat.le_trans hc.b0 haw.below.size)).weaken fun j hj e => by have := (hrowlt j e).1; have := hc.bgl; have := hc.gl0; omega)).below
  · rw [List.length_append, snCells_snoc]
    exact hrow
  · have e : g9 = g := by injection hg
    subst e
    rcases hg9 with e9 | e9
    · refine ⟨(h.vtag g9 e9).1, fun x hx => ?_⟩
      rcases List.mem_append.1 hx with a | a
      · exact (h.vtag g9 e9).2 x a
      · rw [List.mem_singleton.1 a]; exact h79
    · refine ⟨h.inv.mem.tags.new g9 (by omega), fun x hx => ?_⟩
      rcases List.mem_append.1 hx with a | a
      · have := (h.snaps.row x a).1.lt hN; omega
      · rw [List.mem_singleton.1 a]; exact h79
end
end Go.Proofs.YtadelkancmbanaaGreat
