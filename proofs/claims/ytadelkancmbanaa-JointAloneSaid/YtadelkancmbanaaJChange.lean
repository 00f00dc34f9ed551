/-
  Change's function: the entries are laid with what their cells hold, and done.
-/
import Derived.Test.YtadelkancmbanaaJStable
namespace Go.Proofs.Ytadelkancmbanaa
open Go.RowKit
attribute [local go_sem ↓] Go.wp_at_zero Go.wp_at_succ

/-- A cell's place. -/
def kp (es : List AEnt) (k : Nat) : Nat := (key es k).toNat
/-- The cell holds what the entry says. -/
def fit (ws : List Int) (es : List AEnt) (k : Nat) : Prop := num (wd ws (kp es k)) = (es[k]!).o
/-- The first k entries, with what their cells hold. -/
def chE (ws : List Int) (es : List AEnt) : Nat → List Ent
  | 0 => []
  | k + 1 => chE ws es k ++ [⟨kp es k, wd ws (kp es k), (es[k]!).n⟩]

theorem chE_length (ws : List Int) (es : List AEnt) (k : Nat) : (chE ws es k).length = k := by
  induction k with
  | zero => rfl
  | succ k ih => simp [chE, ih]

theorem chE_get (ws : List Int) (es : List AEnt) (k i : Nat) (hi : i < k) : (chE ws es k)[i]! = ⟨kp es i, wd ws (kp es i), (es[i]!).n⟩ := by
  induction k with
  | zero => omega
  | succ k ih =>
    have hl := chE_length ws es k
    by_cases e : i = k
    · subst e
      simp [chE, hl]
    · have := ih (by omega)
      rw [List.getElem!_eq_getElem?_getD] at this ⊢
      rw [chE, List.getElem?_append_left (by omega)]
      exact this

/-- Entries that may be, by their cells. -/
structure Row (es : List AEnt) (n : Nat) : Prop where
  cell : ∀ k, k < es.length → okCell es n k
  lies : ∀ k, k < es.length → (es[k]!).lies
  sorted : SortedOn es 0 es.length

theorem Row.strict {es : List AEnt} {n : Nat} (h : Row es n) (j k : Nat) (hj : j < k) (hk : k < es.length) : key es j < key es k := by
  obtain ⟨m, rfl⟩ : ∃ m, k = m + 1 := ⟨k - 1, by omega⟩
  have h1 := (h.cell (m + 1) hk).2.2 m rfl
  have h2 := h.sorted m (m + 1) (by omega) (by omega) hk
  have h3 : key es j ≤ key es m := by
    rcases Nat.lt_or_ge j m with h' | h'
    · exact h.sorted j m (by omega) h' (by omega)
    · have : j = m := by omega
      subst this; exact Int.le_refl _
  omega

theorem Row.kp_lt {es : List AEnt} {n : Nat} (h : Row es n) (k : Nat) (hk : k < es.length) : kp es k < n ∧ ((kp es k : Nat) : Int) = (es[k]!).c := by
  have := h.cell k hk
  unfold kp
  have e : (es[k]!).c = key es k := rfl
  rw [e]
  have h0 := this.1
  have h1 := this.2.1
  omega

theorem Row.fits {es : List AEnt} {ws : List Int} (h : Row es ws.length) : Fits (chE ws es es.length) ws := by
  have hl := chE_length ws es es.length
  refine ⟨fun k hk => ?_, fun j k hj hk => ?_, fun k hk => ?_⟩
  · rw [hl] at hk; rw [chE_get _ _ _ _ hk]; exact (h.kp_lt k hk).1
  · rw [hl] at hk; rw [chE_get _ _ _ _ hk, chE_get _ _ _ _ (by omega)]
    show kp es j ≠ kp es k
    have := h.strict j k hj hk
    have h0 := (h.cell j (by omega)).1
    unfold kp; omega
  · rw [hl] at hk; rw [chE_get _ _ _ _ hk]; rfl

theorem Row.good {es : List AEnt} {ws : List Int} (h : Row es ws.length) (hw : Words ws) : Good (chE ws es es.length) := by
  have hl := chE_length ws es es.length
  intro k hk
  rw [hl] at hk
  rw [chE_get _ _ _ _ hk]
  obtain ⟨a, b⟩ := hw _ (h.kp_lt k hk).1
  exact ⟨a, b, (h.lies k hk).2.1, (h.lies k hk).2.2⟩

/-- The words behind a change. -/
def changed (ws : List Int) (es : List AEnt) : List Int := fin (chE ws es es.length) ws es.length

theorem new_block (w : World) (o : Obj) (B : Nat) (hB : B = w.heap.size) : (w.alloc o).drew.heap[B]? = some o := by
  subst hB; exact heap_alloc_new w o

/-- The loop's relation. -/
structure ChInv (b c made k : Nat) (ws : List Int) (es : List AEnt) (lv : Value) (w wr : World) : Prop where
  below : Below w.heap.size w wr
  own : wr.ownsRow w.heap.size 73 3 lv k (entCells (chE ws es k))
  fit : ∀ j, j < k → fit ws es j

structure Ch2End (b c made : Nat) (ws : List Int) (es : List AEnt) (w : World) (e : Ending) (w' : World) : Prop where
  yes : (∀ k, k < es.length → fit ws es k) → e = .returned (.tuple #[.bool true, .int .i64 0]) ∧ JRaw b c (changed ws es) (made + 1) w'
  no : ¬ (∀ k, k < es.length → fit ws es k) → e = .returned (.tuple #[.bool false, .int .i64 264]) ∧ JRaw b c ws made w'
  keep : Keep (fun k => k = b ∨ k = c) w.heap.size w w'

set_option maxRecDepth 100000 in
set_option maxHeartbeats 3200000 in
theorem change2_any (b c lb xb wb g cap made : Nat) (ws : List Int) (es : List AEnt) (w : World) (h : JRaw b c ws made w) (hb : Words ws) (hm : made < 1024) (hl : w.cell? ⟨lb, 0, none⟩ = some (.slice (some ⟨g, 0, none⟩) es.length cap))
    (hx : w.cell? ⟨xb, 0, none⟩ = some (.pointer (some ⟨b, 0, none⟩))) (hw : w.cell? ⟨wb, 0, none⟩ = some (.pointer none)) (he : AEntsAt g 0 es w) (hg : g < w.heap.size) (h1 : 1 ≤ es.length) (h2 : es.length ≤ 64) (hrow : Row es ws.length) :
    Calls Try.prog 35 #[.pointer (some ⟨lb, 0, none⟩), .pointer (some ⟨xb, 0, none⟩), .pointer (some ⟨wb, 0, none⟩)] w (Ch2End b c made ws es w) := by
  have hlts : b < w.heap.size ∧ c < w.heap.size ∧ lb < w.heap.size ∧ xb < w.heap.size ∧ wb < w.heap.size := ⟨h.lt.1, h.lt.2, World.block_lt_of_cell? w _ hl, World.block_lt_of_cell? w _ hx, World.block_lt_of_cell? w _ hw⟩
  have few := h.few
  have Hlt := Lib.hid hlts
  have H := Lib.hid h
  have Hb := Lib.hid hb
  have He := Lib.hid he
  have Hrow := Lib.hid hrow
  have Hx := Lib.hid hx
  have Hw := Lib.hid hw
  clear h hb he hrow hx hw hlts
  obtain ⟨ie, hie, ze0, ze1, ze2⟩ := info_parts infoE
  have hlt0 : (0 : Int) ≤ (es.length : Int) := by omega
  go_enter Try.func35, Try.ntmps35
  go_wp2
  go_loopw [11, 5] (fun i lv wr => ∃ k : Nat, k ≤ es.length ∧ i = .int .i64 k ∧ ChInv b c made k ws es lv w wr) (fun i _ _ => es.length - (intOf i).toNat)
  case atStart => exact ⟨0, Nat.zero_le _, rfl, Below.refl _ _, World.ownsRow_nil _ _ _ _, fun j hj => by omega⟩
  case round =>
    clear hl
    obtain ⟨k, hk, rfl, hbel, hown, hfit⟩ := hrel
    have hbs := hbel.size
    have hbx : wr.cell? ⟨xb, 0, none⟩ = some (.pointer (some ⟨b, 0, none⟩)) := (hbel.cell (p := ⟨xb, 0, none⟩) Hlt.out.2.2.2.1).trans Hx.out
    have hbw : wr.cell? ⟨wb, 0, none⟩ = some (.pointer none) := (hbel.cell (p := ⟨wb, 0, none⟩) Hlt.out.2.2.2.2).trans Hw.out
    have hraw : JRaw b c ws made wr := H.out.of_blocks (hbel.block b Hlt.out.1) (hbel.block c Hlt.out.2.1)
    by_cases hlt : k < es.length
    · obtain ⟨c0, c1, c2⟩ := He.out k hlt
      simp only [Nat.zero_add] at c0 c1 c2
      have c0 := (hbel.cell (p := ⟨g, k * 3, none⟩) hg).trans c0
      have c1 := (hbel.cell (p := ⟨g, k * 3 + 1, none⟩) hg).trans c1
      have c2 := (hbel.cell (p := ⟨g, k * 3 + 2, none⟩) hg).trans c2
      obtain ⟨q0, q1⟩ := Hrow.out.kp_lt k hlt
      have Hfitk : Hid (fit ws es k ↔ num (wd ws (kp es k)) = (es[k]!).o) := Lib.hid (by unfold fit; exact Iff.rfl)
      have Hnk : Hid (chE ws es (k + 1) = chE ws es k ++ [⟨kp es k, wd ws (kp es k), (es[k]!).n⟩]) := Lib.hid rfl
      generalize hz : es[k]! = z at c0 c1 c2 q1 Hfitk Hnk
      have Hz := Lib.hid hz
      clear hz
      obtain ⟨zc, zo, zn⟩ := z
      dsimp only at c0 c1 c2 q1 Hfitk Hnk
      obtain ⟨p, hp⟩ : ∃ p, kp es k = p := ⟨_, rfl⟩
      rw [hp] at q0 q1 Hfitk Hnk
      subst q1
      obtain ⟨g0, g1⟩ := Hb.out p q0
      obtain ⟨x, hxw⟩ : ∃ x, ws.getD p 0 = x := ⟨_, rfl⟩
      rw [hxw] at g0 g1
      rw [show wd ws p = x from hxw] at Hfitk Hnk
      have Hxw := Lib.hid hxw
      have Hraw := Lib.hid hraw
      have Hbel := Lib.hid hbel
      have Hown := Lib.hid hown
      have Hfit := Lib.hid hfit
      have hnx : ∀ o, (wr.alloc o).cell? ⟨xb, 0, none⟩ = some (.pointer (some ⟨b, 0, none⟩)) := fun o => (old_cell wr o _ (World.block_lt_of_cell? wr _ hbx)).trans hbx
      have hnw : ∀ o, (wr.alloc o).cell? ⟨wb, 0, none⟩ = some (.pointer none) := fun o => (old_cell wr o _ (World.block_lt_of_cell? wr _ hbw)).trans hbw
      clear hraw hbel hown hfit hxw
      by_cases hq0 : x / 1099511627776 = zo
      · have hq : ((x / 1099511627776) == zo) = true := by rw [beq_iff_eq]; exact hq0
        have Hfk : Hid (fit ws es k) := Lib.hid (Hfitk.out.2 hq0)
        clear hq0
        go_wp2_with (first | (go_at_call 24; refine (load_at b c p made ws x _ (Hraw.out.alloc _) Hb.out q0 Hxw.out).mono ?_; rintro e w' ⟨rfl, rfl⟩))
        refine wp_region_still_tail 4 (by kernel_rfl) (by kernel_rfl) ?_
        simp only [List.take_succ_cons, List.take_zero, List.drop_succ_cons, List.drop_zero]
        change wpStill _ _ (World.drew _) _ _ _
        repeat (first | (refine wpStill_step (fun K hK => ?_); go_simp; refine hK _ ?_; clear hK K) | (refine wpStill_step (fun K hK => ?_); go_simp; refine ⟨_, flipped (hvalue_word _ _ g0 g1), hK _ ?_⟩; clear hK K))
        refine wpStill_nil ?_
        change wpList _ _ _ _ _ (World.drew _)
        go_wp2_with (at_builtin; go_loud (refine wpList_append_lies _ rfl (.tmp 25) (.tmp 32) 68 rfl w.heap.size 73 ie _ 3 24 Try.underlying68 hie ze0 ze1 ze2 rfl (by decide) u5 k (entCells (chE ws es k)) rfl (((Hown.out.alloc _).alloc _).drew) ⟨wr.heap.size + 1, 0, none⟩ 1 1 [.int .i64 p, .int .i64 x, .int .i64 zn] rfl rfl (World.news_of_block (cs := #[.int .i64 p, .int .i64 x, .int .i64 zn]) (t := 73) (fr := (0, 0)) (new_block _ _ _ (by simp))) (by simp [Value.oneCell']) (by decide) (by unfold maxLen; omega) (by omega) (by simp; omega) (wr.heap.size + 2) (by simp) ?_; intro gg cap' w1 hown1 hgrow hat hlt1; have hs1 := hgrow.size; simp only [World.size_drew, World.size_alloc] at hs1))
        go_roundw
        case rel =>
          have hown' := Hown.out
          refine ⟨k + 1, by omega, by go_num, ?_, ?_, fun j hj => ?_⟩
          · exact ((((Keep.of_below (S := fun _ => False) Hbel.out).alloc hbs _).alloc (by simp; omega) _).drew.grown hgrow (by simp; omega) (fun z hz => (hown'.lt z hz).1)).below
          · rw [Hnk.out, entCells_append]; exact hown1
          · by_cases e : j = k
            · subst e; exact Hfk.out
            · exact Hfit.out j (by omega)
        case measure => simp [intOf]; omega
      · have hq : ((x / 1099511627776) == zo) = false := by rw [beq_eq_false_iff_ne]; exact hq0
        have Hfk : Hid (¬ fit ws es k) := Lib.hid (fun h => hq0 (Hfitk.out.1 h))
        clear hq0
        go_wp2_with (first | (go_at_call 24; refine (load_at b c p made ws x _ (Hraw.out.alloc _) Hb.out q0 Hxw.out).mono ?_; rintro e w' ⟨rfl, rfl⟩))
        refine wp_region_still_tail 4 (by kernel_rfl) (by kernel_rfl) ?_
        simp only [List.take_succ_cons, List.take_zero, List.drop_succ_cons, List.drop_zero]
        change wpStill _ _ (World.drew _) _ _ _
        repeat (first | (refine wpStill_step (fun K hK => ?_); go_simp; refine hK _ ?_; clear hK K) | (refine wpStill_step (fun K hK => ?_); go_simp; refine ⟨_, flipped (hvalue_word _ _ g0 g1), hK _ ?_⟩; clear hK K))
        refine wpStill_nil ?_
        change wpList _ _ _ _ _ (World.drew _)
        go_wp2
        go_ret2
        exact ⟨fun hf => absurd (hf k hlt) Hfk.out, fun _ => ⟨rfl, (Hraw.out.alloc _).drew⟩, Keep.of_below ((Hbel.out.alloc hbs _).drew)⟩
    · have : k = es.length := by omega
      subst this
      obtain ⟨gg, cap', hlv, hBg, hgl⟩ := hown.form (by omega)
      have hes : EntsAt gg 0 (chE ws es es.length) wr := ⟨fun k hk => by
        rw [hlv] at hown
        have hl := chE_length ws es es.length
        rw [hl] at hk
        obtain ⟨a, b, c⟩ := entCells_get (chE ws es es.length) k (by rw [hl]; exact hk)
        simp only [Nat.zero_add]
        rw [hown.cellAt _ (by omega), hown.cellAt _ (by omega), hown.cellAt _ (by omega)]
        exact ⟨a, b, c⟩⟩
      subst hlv
      have Hraw := Lib.hid hraw
      have Hbel := Lib.hid hbel
      have Hfit := Lib.hid hfit
      have hdoes := jdoes_any b c gg 0 cap' made (chE ws es es.length) ws wr hraw hm hes (by have := Hlt.out; omega) (by omega) (by rw [chE_length]; omega) Hrow.out.fits (Hrow.out.good Hb.out)
      rw [chE_length] at hdoes
      have Hdoes := Lib.hid hdoes
      clear hdoes hraw hbel hfit hes hown
      go_wp2_with fail
      refine Hdoes.out.mono ?_
      rintro e w' ⟨rfl, hraw', hkeep'⟩
      have Hraw' := Lib.hid hraw'
      have Hk' := Lib.hid hkeep'
      clear hraw' hkeep'
      go_wp2
      go_ret2
      exact ⟨fun _ => ⟨rfl, Hraw'.out⟩, fun hn => absurd Hfit.out hn, (Keep.of_below Hbel.out).trans (Hk'.out.mono hbs)⟩
end Go.Proofs.Ytadelkancmbanaa
