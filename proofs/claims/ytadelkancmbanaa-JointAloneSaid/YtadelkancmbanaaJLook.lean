/-
  Look's function: all cells are loaded, and a descriptor by which each holds what it holds is done.
-/
import Derived.Test.YtadelkancmbanaaJRead
import Derived.OwnWalk
import Derived.Laws.Pointers
import Derived.Test.YtadelkancmbanaaReg
import Derived.Deep.AppendLies
import Derived.Deep.DrawnRows
namespace Go.Proofs.Ytadelkancmbanaa
open Go.RowKit
attribute [local go_sem ↓] Go.wp_at_zero Go.wp_at_succ

theorem infoE : (Try.prog.info? 73).map (fun i => (i.zero, i.size, i.bytes)) = some (some (.agg #[.int .i64 0, .int .i64 0, .int .i64 0]), 3, 24) := by kernel_rfl
theorem infoI : (Try.prog.info? 3).map (fun i => (i.zero, i.size, i.bytes)) = some (some (.int .i64 0), 1, 8) := by kernel_rfl

/-- A word, by its place. -/
def wd (ws : List Int) (i : Nat) : Int := ws.getD i 0
/-- What a word holds. -/
def num (x : Int) : Int := x / 1099511627776

/-- The entries of the first k cells, by which each holds what it holds. -/
def lookE (ws : List Int) : Nat → List Ent
  | 0 => []
  | k + 1 => lookE ws k ++ [⟨k, wd ws k, num (wd ws k)⟩]
/-- What the first k cells hold. -/
def lookV (ws : List Int) : Nat → List Value
  | 0 => []
  | k + 1 => lookV ws k ++ [.int .i64 (num (wd ws k))]

theorem lookE_length (ws : List Int) (k : Nat) : (lookE ws k).length = k := by
  induction k with
  | zero => rfl
  | succ k ih => simp [lookE, ih]

theorem lookE_get (ws : List Int) (k i : Nat) (hi : i < k) : (lookE ws k)[i]! = ⟨i, wd ws i, num (wd ws i)⟩ := by
  induction k with
  | zero => omega
  | succ k ih =>
    have hl := lookE_length ws k
    by_cases e : i = k
    · subst e
      simp [lookE, hl]
    · have := ih (by omega)
      rw [List.getElem!_eq_getElem?_getD] at this ⊢
      rw [lookE, List.getElem?_append_left (by omega)]
      exact this

theorem entCells_append (l m : List Ent) : entCells (l ++ m) = entCells l ++ entCells m := by
  induction l with
  | nil => rfl
  | cons e r ih => simp [entCells, ih]

theorem look_fits (ws : List Int) : Fits (lookE ws ws.length) ws := by
  have hl := lookE_length ws ws.length
  refine ⟨fun k hk => ?_, fun j k hj hk => ?_, fun k hk => ?_⟩
  · rw [hl] at hk; rw [lookE_get _ _ _ hk]; exact hk
  · rw [hl] at hk; rw [lookE_get _ _ _ hk, lookE_get _ _ _ (by omega)]; show j ≠ k; omega
  · rw [hl] at hk; rw [lookE_get _ _ _ hk]; rfl

theorem num_bd (x : Int) (h0 : 0 ≤ x) (h1 : x ≤ 1152921504606846975) : 0 ≤ num x ∧ num x ≤ 1048575 := by unfold num; omega

theorem look_good (ws : List Int) (hw : Words ws) : Good (lookE ws ws.length) := by
  have hl := lookE_length ws ws.length
  intro k hk
  rw [hl] at hk
  obtain ⟨a, b⟩ := hw k hk
  rw [lookE_get _ _ _ hk]
  exact ⟨a, b, (num_bd _ a b).1, (num_bd _ a b).2⟩

/-- The loop's relation: the first k cells were loaded. -/
structure LookInv (b c p q r B made k : Nat) (ws : List Int) (lv : Value) (w wr : World) : Prop where
  raw : JRaw b c ws made wr
  keep : Keep (· = p) B w wr
  own : wr.ownsRow B 73 3 lv k (entCells (lookE ws k))
  out : ∃ ov, wr.cell? ⟨p, 0, none⟩ = some ov ∧ wr.ownsRow B 3 1 ov k (lookV ws k) ∧ ∀ g, lv.ownBlock = some g → ov.ownBlock ≠ some g
  outF : wr.frozen? ⟨p, 0, none⟩ = false
  xb : wr.cell? ⟨q, 0, none⟩ = some (.pointer (some ⟨b, 0, none⟩))
  wb : wr.cell? ⟨r, 0, none⟩ = some (.pointer none)

/-- A block that is no row of the call's own, below B, is as it was behind the two appends of a round. -/
theorem two_rows {B : Nat} {wr w1 w2 : World} {o1 o2 : Obj} {r1 r2 : Option Nat} {v : Value} (hB : B ≤ wr.heap.size) (hg : ((wr.alloc o1).drew).grownBy w1 r1) (hg2 : (w1.alloc o2).grownBy w2 r2) (h1 : ∀ k, r1 = some k → B ≤ k) (h2 : ∀ k, r2 = some k → B ≤ k)
    (p k : Nat) (hk : k < B) (hkp : k ≠ p) : (w2.setCell ⟨p, 0, none⟩ v).heap[k]? = wr.heap[k]? := by
  have hs1 := hg.size
  simp only [World.size_drew, World.size_alloc] at hs1
  rw [Below.heap_setCell _ _ _ _ hkp, hg2.block k (by simp; omega) (fun e => by have := h2 k e.symm; omega), Below.heap_alloc _ _ _ (by omega), hg.block k (by simp; omega) (fun e => by have := h1 k e.symm; omega)]
  exact Below.heap_alloc _ _ _ (by omega)

theorem look_step {b c p q r B made k gg cap gg2 cap2 : Nat} {ws : List Int} {lv ov : Value} {w wr w1 w2 : World} {o1 o2 : Obj} {x : Int} (hx : ws.getD k 0 = x)
    (raw : JRaw b c ws made wr) (keep : Keep (· = p) B w wr) (own : wr.ownsRow B 73 3 lv k (entCells (lookE ws k))) (owno : wr.ownsRow B 3 1 ov k (lookV ws k)) (hap : ∀ g, lv.ownBlock = some g → ov.ownBlock ≠ some g)
    (hxb : wr.cell? ⟨q, 0, none⟩ = some (.pointer (some ⟨b, 0, none⟩))) (hwb : wr.cell? ⟨r, 0, none⟩ = some (.pointer none)) (hB : w.heap.size = B) (hlt : b < B ∧ c < B ∧ p < B ∧ q < B ∧ r < B) (hne : p ≠ b ∧ p ≠ c ∧ p ≠ q ∧ p ≠ r)
    (hown1 : w1.ownsRow B 73 3 (.slice (some ⟨gg, 0, none⟩) (k + 1) cap) (k + 1) (entCells (lookE ws k) ++ [.int .i64 k, .int .i64 x, .int .i64 (x / 1099511627776)]))
    (hg : ((wr.alloc o1).drew).grownBy w1 lv.ownBlock) (hat : lv.ownBlock = some gg ∨ gg = wr.heap.size + 1) (hl1 : gg < w1.heap.size)
    (hown2 : w2.ownsRow B 3 1 (.slice (some ⟨gg2, 0, none⟩) (k + 1) cap2) (k + 1) (lookV ws k ++ [.int .i64 (x / 1099511627776)]))
    (hg2 : (w1.alloc o2).grownBy w2 ov.ownBlock) (hat2 : ov.ownBlock = some gg2 ∨ gg2 = w1.heap.size + 1) (hc2 : w2.cell? ⟨p, 0, none⟩ = some ov) (hf2 : w2.frozen? ⟨p, 0, none⟩ = false) :
    LookInv b c p q r B made (k + 1) ws (.slice (some ⟨gg, 0, none⟩) (k + 1) cap) w (w2.setCell ⟨p, 0, none⟩ (.slice (some ⟨gg2, 0, none⟩) (k + 1) cap2)) := by
  have hBr : B ≤ wr.heap.size := by have := keep.size; omega
  have h1 : ∀ k, lv.ownBlock = some k → B ≤ k := fun k hk => (own.lt k hk).1
  have h2 : ∀ k, ov.ownBlock = some k → B ≤ k := fun k hk => (owno.lt k hk).1
  have hs1 := hg.size
  simp only [World.size_drew, World.size_alloc] at hs1
  have hrow := fun v k (hk : k < B) (hkp : k ≠ p) => two_rows (v := v) hBr hg hg2 h1 h2 p k hk hkp
  have hggB : B ≤ gg := by
    rcases hat with e | e
    · exact h1 gg e
    · omega
  have hggo : (Value.slice (some ⟨gg, 0, none⟩) (k + 1) cap).ownBlock ≠ ov.ownBlock := by
    show some gg ≠ ov.ownBlock
    rcases hat with e | e
    · exact fun h => hap gg e h.symm
    · intro h; have := (owno.lt gg h.symm).2; omega
  have hgg2 : gg ≠ gg2 := by
    rcases hat2 with e | e
    · intro h; subst h
      rcases hat with e' | e'
      · exact hap gg e' e
      · have := (owno.lt gg e).2; omega
    · omega
  refine ⟨raw.of_blocks (hrow _ b hlt.1 (Ne.symm hne.1)) (hrow _ c hlt.2.1 (Ne.symm hne.2.1)), ?_, ?_, ⟨_, World.cell?_setCell_same _ _ _ hc2, ?_, fun g hg h => ?_⟩, by rw [World.frozen?_setCell]; exact hf2, ?_, ?_⟩
  · have k1 := (keep.alloc (by omega) o1).drew.grown hg (by simp; omega) h1
    have k2 := (k1.alloc (by omega) o2).grown hg2 (by simp; omega) h2
    exact Keep.setCell (S := (· = p)) k2 (.inl rfl) _
  · rw [lookE, entCells_append]
    have e : entCells [(⟨k, wd ws k, num (wd ws k)⟩ : Ent)] = [.int .i64 k, .int .i64 x, .int .i64 (x / 1099511627776)] := by
      simp only [entCells, wd, num, hx]
    rw [e]
    exact ownsRow_setCell_below ((hown1.alloc o2).kept hg2 (.inr hggo)) (by show p < B; omega) _
  · rw [lookV]
    have e : num (wd ws k) = x / 1099511627776 := by simp only [wd, num, hx]
    rw [e]
    exact ownsRow_setCell_below hown2 (by show p < B; omega) _
  · cases hg; cases h; exact hgg2 rfl
  · rw [World.cell?_of_block (w := wr) (hrow _ q hlt.2.2.2.1 (Ne.symm hne.2.2.1))]; exact hxb
  · rw [World.cell?_of_block (w := wr) (hrow _ r hlt.2.2.2.2 (Ne.symm hne.2.2.2))]; exact hwb

set_option maxRecDepth 100000 in
set_option maxHeartbeats 3200000 in
theorem look1_any (b c p q r made : Nat) (ws : List Int) (u : Value) (w : World) (h : JRaw b c ws made w) (hb : Words ws) (hm : made < 1024) (hp : w.cell? ⟨p, 0, none⟩ = some u) (hpf : w.frozen? ⟨p, 0, none⟩ = false)
    (hq : w.cell? ⟨q, 0, none⟩ = some (.pointer (some ⟨b, 0, none⟩))) (hr : w.cell? ⟨r, 0, none⟩ = some (.pointer none)) (hne : p ≠ b ∧ p ≠ c ∧ p ≠ q ∧ p ≠ r) :
    Calls Try.prog 23 #[.pointer (some ⟨p, 0, none⟩), .pointer (some ⟨q, 0, none⟩), .pointer (some ⟨r, 0, none⟩)] w fun e w' => e = .returned (.tuple #[.bool true, .int .i64 0]) ∧
      (JRaw b c (fin (lookE ws ws.length) ws ws.length) (made + 1) w' ∧ Keep (fun k => k = b ∨ k = c ∨ k = p) w.heap.size w w' ∧ ∃ ov, w'.cell? ⟨p, 0, none⟩ = some ov ∧ w'.ownsRow w.heap.size 3 1 ov ws.length (lookV ws ws.length)) := by
  have hpl := World.block_lt_of_cell? w _ hp
  have hst := h.other (p := ⟨p, 0, none⟩) hne.1 hne.2.1 (.slice none 0 0)
  have hi0 : LookInv b c p q r w.heap.size made 0 ws (.slice none 0 0) w (w.setCell ⟨p, 0, none⟩ (.slice none 0 0)) := by
    refine ⟨hst, Keep.setCell (S := (· = p)) (Keep.refl _ _ _) (.inl rfl) _, World.ownsRow_nil _ _ _ _, ⟨_, World.cell?_setCell_same _ _ _ hp, World.ownsRow_nil _ _ _ _, fun g hg => by cases hg⟩, by rw [World.frozen?_setCell]; exact hpf, ?_, ?_⟩
    · rw [World.cell?_setCell_other _ _ _ _ (fun e => hne.2.2.1 (by cases e; rfl))]; exact hq
    · rw [World.cell?_setCell_other _ _ _ _ (fun e => hne.2.2.2 (by cases e; rfl))]; exact hr
  have hdr := hst.hdr
  have few := hst.few
  have hq' := hi0.xb
  have hr' := hi0.wb
  have hlts : b < w.heap.size ∧ c < w.heap.size ∧ p < w.heap.size ∧ q < w.heap.size ∧ r < w.heap.size := ⟨h.lt.1, h.lt.2, hpl, World.block_lt_of_cell? w _ hq, World.block_lt_of_cell? w _ hr⟩
  have Hlt := Lib.hid hlts
  have Hne := Lib.hid hne
  clear hlts hne
  have H0 := Lib.hid hi0
  have Hb := Lib.hid hb
  clear hst hi0 h hb
  have hlt0 : (0 : Int) ≤ (ws.length : Int) := by omega
  go_enter Try.func23, Try.ntmps23
  go_wp2
  go_loopw [13, 5] (fun i lv wr => ∃ k : Nat, k ≤ ws.length ∧ i = .int .i64 k ∧ LookInv b c p q r w.heap.size made k ws lv w wr) (fun i _ _ => ws.length - (intOf i).toNat)
  case atStart => exact ⟨0, Nat.zero_le _, rfl, H0.out⟩
  case round =>
    clear hdr hq' hr'
    obtain ⟨k, hk, rfl, hinv⟩ := hrel
    obtain ⟨raw, keep, own, ⟨ov, ho, owno, hap⟩, hof, hx, hwb⟩ := hinv
    by_cases hlt : k < ws.length
    · obtain ⟨g0, g1⟩ := Hb.out k hlt
      obtain ⟨x, hxw⟩ : ∃ x, ws.getD k 0 = x := ⟨_, rfl⟩
      rw [hxw] at g0 g1
      have Hxw := Lib.hid hxw
      have Hraw := Lib.hid raw
      have Hkeep := Lib.hid keep
      have Hown := Lib.hid own
      have Howno := Lib.hid owno
      have Hap := Lib.hid hap
      clear raw keep own owno hap hxw
      go_wp2_with (first | (go_at_call 24; refine (load_at b c k made ws x wr Hraw.out Hb.out hlt Hxw.out).mono ?_; rintro e w' ⟨rfl, rfl⟩))
      have hnum : 0 ≤ num x ∧ num x ≤ 1048575 := num_bd x g0 g1
      have hsep : ov.ownBlock = none ∨ ov.ownBlock ≠ u5.ownBlock := by
        by_cases e : u5.ownBlock = none
        · cases hov : ov.ownBlock with
          | none => exact .inl rfl
          | some z => exact .inr (by rw [e]; exact fun h => by cases h)
        · obtain ⟨z, hz⟩ := Option.ne_none_iff_exists'.1 e
          exact .inr (by rw [hz]; exact Hap.out z hz)
      have Hsep := Lib.hid hsep
      have hbs : w.heap.size ≤ wr.heap.size := Hkeep.out.size
      obtain ⟨ie, hie, ze0, ze1, ze2⟩ := info_parts infoE
      obtain ⟨ii, hii, zi0, zi1, zi2⟩ := info_parts infoI
      have hf64 := Hraw.out.few
      clear hsep
      have hpo : some p ≠ ov.ownBlock := fun e => by have := (Howno.out.lt p e.symm).1; omega
      have hpu : some p ≠ u5.ownBlock := fun e => by have := (Hown.out.lt p e.symm).1; omega
      refine Reg.start (fun w' => w'.cell? ⟨p, 0, none⟩ = some ov) [14] (by kernel_rfl) ?_ (fun hHeld => ?_)
      · first | trivial | ((try dsimp only); first | (simp [*, World.cell?_alloc_some]; done) | (rw [hgrow.cell_far _ (by simp; omega) hpu]; assumption) | (rw [hgrow2.cell_far _ (by simp; omega) hpo]; assumption))
      refine Reg.takeP (i := 0) (v := ?v23x7_0) rfl (by kernel_rfl) (by kernel_rfl) (by kernel_rfl) (by kernel_rfl) (fun _ _ _ h => h) (Or.inl ⟨by rfl, ?h23x7_0⟩) (fun _ => hHeld) ?r23x7_0
      case h23x7_0 => (intro wS hSw; (try dsimp only at hSw); go_simp; all_goals with_reducible rfl)
      try simp only [Act.put, List.setIfInBounds_toArray, List.set_cons_zero, List.set_cons_succ]
      refine Reg.takeP (i := 1) (v := ?v23x7_1) rfl (by kernel_rfl) (by kernel_rfl) (by kernel_rfl) (by kernel_rfl) (fun _ _ _ h => h) (Or.inl ⟨by rfl, ?h23x7_1⟩) (fun _ => hHeld) ?r23x7_1
      case h23x7_1 => (intro wS hSw; (try dsimp only at hSw); go_simp; all_goals with_reducible rfl)
      try simp only [Act.put, List.setIfInBounds_toArray, List.set_cons_zero, List.set_cons_succ]
      refine Reg.takeP (i := 2) (v := ?v23x7_2) rfl (by kernel_rfl) (by kernel_rfl) (by kernel_rfl) (by kernel_rfl) (fun _ _ _ h => h) (Or.inl ⟨by rfl, ?h23x7_2⟩) (fun _ => hHeld) ?r23x7_2
      case h23x7_2 => (intro wS hSw; (try dsimp only at hSw); go_simp; all_goals with_reducible rfl)
      try simp only [Act.put, List.setIfInBounds_toArray, List.set_cons_zero, List.set_cons_succ]
      refine Reg.takeP (i := 3) (v := ?v23x7_3) rfl (by kernel_rfl) (by kernel_rfl) (by kernel_rfl) (by kernel_rfl) (fun _ _ _ h => h) (Or.inl ⟨by rfl, ?h23x7_3⟩) (fun _ => hHeld) ?r23x7_3
      case h23x7_3 => (intro wS hSw; (try dsimp only at hSw); go_simp; all_goals with_reducible rfl)
      try simp only [Act.put, List.setIfInBounds_toArray, List.set_cons_zero, List.set_cons_succ]
      refine Reg.take (i := 8) (v := ?v23x7_8) rfl (by kernel_rfl) (by kernel_rfl) (by kernel_rfl) (by kernel_rfl) (fun _ _ _ h => h) (Or.inl ⟨by rfl, ?h23x7_8⟩) hHeld ?r23x7_8
      case h23x7_8 => (intro wS hSw; (try dsimp only at hSw); go_simp; all_goals with_reducible rfl)
      try simp only [Act.put, List.setIfInBounds_toArray, List.set_cons_zero, List.set_cons_succ]
      refine Reg.takeP (i := 9) (v := ?v23x7_9) rfl (by kernel_rfl) (by kernel_rfl) (by kernel_rfl) (by kernel_rfl) (fun _ _ _ h => h) (Or.inl ⟨by rfl, ?h23x7_9⟩) (fun _ => hHeld) ?r23x7_9
      case h23x7_9 => (intro wS hSw; (try dsimp only at hSw); go_simp; all_goals with_reducible rfl)
      try simp only [Act.put, List.setIfInBounds_toArray, List.set_cons_zero, List.set_cons_succ]
      refine Reg.one (i := 4) rfl (by kernel_rfl) (fun K hK => ?_)
      (go_simp; refine (hvalue_word _ _ g0 g1).mono ?_; rintro e w' ⟨rfl, rfl⟩; dsimp only)
      refine hK.out _ _ (fun _ => ?_) (fun hHeld => ?_)
      · first | trivial | ((try dsimp only); first | (simp [*, World.cell?_alloc_some]; done) | (rw [hgrow.cell_far _ (by simp; omega) hpu]; assumption) | (rw [hgrow2.cell_far _ (by simp; omega) hpo]; assumption))
      replace hHeld := hHeld (by decide)
      clear hK K
      try simp only [Act.put, List.setIfInBounds_toArray, List.set_cons_zero, List.set_cons_succ]
      refine Reg.takeP (i := 5) (v := ?v23x7_5) rfl (by kernel_rfl) (by kernel_rfl) (by kernel_rfl) (by kernel_rfl) (fun _ _ _ h => h) (Or.inl ⟨by rfl, ?h23x7_5⟩) (fun _ => hHeld) ?r23x7_5
      case h23x7_5 => (intro wS hSw; (try dsimp only at hSw); go_simp; all_goals with_reducible rfl)
      try simp only [Act.put, List.setIfInBounds_toArray, List.set_cons_zero, List.set_cons_succ]
      refine Reg.one (i := 6) rfl (by kernel_rfl) (fun K hK => ?_)
      go_simp
      refine hK.out _ _ (fun _ => ?_) (fun hHeld => ?_)
      · first | trivial | ((try dsimp only); first | (simp [*, World.cell?_alloc_some]; done) | (rw [hgrow.cell_far _ (by simp; omega) hpu]; assumption) | (rw [hgrow2.cell_far _ (by simp; omega) hpo]; assumption))
      replace hHeld := hHeld (by decide)
      clear hK K
      try simp only [Act.put, List.setIfInBounds_toArray, List.set_cons_zero, List.set_cons_succ]
      refine Reg.one (i := 7) rfl (by kernel_rfl) (fun K hK => ?_)
      (refine step_append_lies _ (by rfl) (.tmp 20) (.tmp 26) _ (by rfl) w.heap.size 73 ie _ 3 24 Try.underlying68 hie ze0 ze1 ze2 rfl (by omega) u5 k (entCells (lookE ws k)) (by rfl) ((Hown.out.alloc _).drew) ⟨wr.heap.size, 0, none⟩ 1 1 [.int .i64 k, .int .i64 x, .int .i64 (x / 1099511627776)] (by rfl) (by rfl) (World.news_of_block (cs := #[.int .i64 k, .int .i64 x, .int .i64 (x / 1099511627776)]) (t := 73) (fr := (0, 0)) (heap_alloc_new wr _)) (by simp [Value.oneCell']) (by omega) (by unfold maxLen; omega) (by omega) (by simp; omega) (wr.heap.size + 1) (by simp) ?_; intro gg cap w1 hown1 hgrow hat hlt1; have hs1 := hgrow.size; simp only [World.size_drew, World.size_alloc] at hs1)
      refine hK.out _ _ (fun _ => ?_) (fun hHeld => ?_)
      · first | trivial | ((try dsimp only); first | (simp [*, World.cell?_alloc_some]; done) | (rw [hgrow.cell_far _ (by simp; omega) hpu]; assumption) | (rw [hgrow2.cell_far _ (by simp; omega) hpo]; assumption))
      replace hHeld := hHeld (by decide)
      clear hK K
      try simp only [Act.put, List.setIfInBounds_toArray, List.set_cons_zero, List.set_cons_succ]
      refine Reg.one (i := 10) rfl (by kernel_rfl) (fun K hK => ?_)
      (go_simp; refine (hvalue_word _ _ g0 g1).mono ?_; rintro e w' ⟨rfl, rfl⟩; dsimp only)
      refine hK.out _ _ (fun _ => ?_) (fun hHeld => ?_)
      · first | trivial | ((try dsimp only); first | (simp [*, World.cell?_alloc_some]; done) | (rw [hgrow.cell_far _ (by simp; omega) hpu]; assumption) | (rw [hgrow2.cell_far _ (by simp; omega) hpo]; assumption))
      replace hHeld := hHeld (by decide)
      clear hK K
      try simp only [Act.put, List.setIfInBounds_toArray, List.set_cons_zero, List.set_cons_succ]
      refine Reg.one (i := 11) rfl (by kernel_rfl) (fun K hK => ?_)
      go_simp
      refine hK.out _ _ (fun _ => ?_) (fun hHeld => ?_)
      · first | trivial | ((try dsimp only); first | (simp [*, World.cell?_alloc_some]; done) | (rw [hgrow.cell_far _ (by simp; omega) hpu]; assumption) | (rw [hgrow2.cell_far _ (by simp; omega) hpo]; assumption))
      replace hHeld := hHeld (by decide)
      clear hK K
      try simp only [Act.put, List.setIfInBounds_toArray, List.set_cons_zero, List.set_cons_succ]
      refine Reg.one (i := 12) rfl (by kernel_rfl) (fun K hK => ?_)
      (refine step_append_lies _ (by rfl) (.tmp 28) (.tmp 31) _ (by rfl) w.heap.size 3 ii _ 1 8 Try.underlying22 hii zi0 zi1 zi2 rfl (by omega) ov k (lookV ws k) (by rfl) ((((Howno.out.alloc _).drew).kept hgrow Hsep.out).alloc _) ⟨w1.heap.size, 0, none⟩ 1 1 [.int .i64 (x / 1099511627776)] (by rfl) (by rfl) (World.news_of_block (cs := #[.int .i64 (x / 1099511627776)]) (t := 3) (fr := (0, 0)) (heap_alloc_new w1 _)) (by simp [Value.oneCell']) (by omega) (by unfold maxLen; omega) (by omega) (by simp; omega) (w1.heap.size + 1) (by simp) ?_; intro gg2 cap2 w2 hown2 hgrow2 hat2 hlt2; have hs2 := hgrow2.size; simp only [World.size_drew, World.size_alloc] at hs2; have hof2 : w2.frozen? ⟨p, 0, none⟩ = false := (by rw [hgrow2.frozen_far _ (by simp; omega) hpo, World.frozen?_alloc_old _ _ _ (by show p ≠ _; omega), hgrow.frozen_far _ (by simp; omega) hpu, World.frozen?_drew, World.frozen?_alloc_old _ _ _ (by show p ≠ _; omega)]; exact hof))
      refine hK.out _ _ (fun _ => ?_) (fun hHeld => ?_)
      · first | trivial | ((try dsimp only); first | (simp [*, World.cell?_alloc_some]; done) | (rw [hgrow.cell_far _ (by simp; omega) hpu]; assumption) | (rw [hgrow2.cell_far _ (by simp; omega) hpo]; assumption))
      replace hHeld := hHeld (by decide)
      clear hK K
      try simp only [Act.put, List.setIfInBounds_toArray, List.set_cons_zero, List.set_cons_succ]
      refine Reg.takeP (i := 13) (v := ?v23x7_13) rfl (by kernel_rfl) (by kernel_rfl) (by kernel_rfl) (by kernel_rfl) (fun _ _ _ h => h) (Or.inl ⟨by rfl, ?h23x7_13⟩) (fun _ => hHeld) ?r23x7_13
      case h23x7_13 => (intro wS hSw; (try dsimp only at hSw); go_simp; all_goals with_reducible rfl)
      try simp only [Act.put, List.setIfInBounds_toArray, List.set_cons_zero, List.set_cons_succ]
      refine Reg.one (i := 14) rfl (by kernel_rfl) (fun K hK => ?_)
      go_simp
      refine hK.out _ _ (fun hF => absurd hF (by decide)) (fun _ => ?_)
      clear hK K
      try simp only [Act.put, List.setIfInBounds_toArray, List.set_cons_zero, List.set_cons_succ]
      refine Reg.done (by kernel_rfl) ?_ _
      go_wp2
      go_roundw
      case rel => exact ⟨k + 1, by omega, by go_num, look_step Hxw.out Hraw.out Hkeep.out Hown.out Howno.out Hap.out hx hwb rfl Hlt.out Hne.out hown1 hgrow hat hlt1 hown2 hgrow2 hat2 hHeld hof2⟩
      case measure => simp [intOf]; omega
    · have : k = ws.length := by omega
      subst this
      have hB : w.heap.size ≤ wr.heap.size := keep.size
      obtain ⟨g, cap, hlv, hBg, hgl⟩ := own.form (by have := raw.few; omega)
      have hes : EntsAt g 0 (lookE ws ws.length) wr := ⟨fun k hk => by
        rw [hlv] at own
        have hl := lookE_length ws ws.length
        rw [hl] at hk
        obtain ⟨a, b, c⟩ := entCells_get (lookE ws ws.length) k (by rw [hl]; exact hk)
        simp only [Nat.zero_add]
        rw [own.cellAt _ (by omega), own.cellAt _ (by omega), own.cellAt _ (by omega)]
        exact ⟨a, b, c⟩⟩
      subst hlv
      have Hraw := Lib.hid raw
      have Hkeep := Lib.hid keep
      have Hes := Lib.hid hes
      have Howno := Lib.hid owno
      have few' := raw.few
      clear raw keep own owno hes hap
      have hdoes := jdoes_any b c g 0 cap made (lookE ws ws.length) ws wr Hraw.out hm Hes.out (by have := Hlt.out; omega) (by omega) (by rw [lookE_length]; omega) (look_fits ws) (look_good ws Hb.out)
      rw [lookE_length] at hdoes
      have Hdoes := Lib.hid hdoes
      clear hdoes
      go_wp2_with fail
      refine Hdoes.out.mono ?_
      rintro e w' ⟨rfl, hraw', hkeep'⟩
      have hp' : w'.cell? ⟨p, 0, none⟩ = some ov := (hkeep'.cell (p := ⟨p, 0, none⟩) (by show p < _; omega) (by show ¬ (p = b ∨ p = c); exact fun e => by rcases e with e | e; exact Hne.out.1 e; exact Hne.out.2.1 e)).trans ho
      have hown' : w'.ownsRow w.heap.size 3 1 ov ws.length (lookV ws ws.length) := by
        have hx := Howno.out
        obtain ⟨a1, a2⟩ := hx
        refine ⟨a1, ?_⟩
        rcases a2 with a2 | ⟨g', cap', cur, a2, a3, a4, a5⟩
        · exact .inl a2
        · have hlt' := (Howno.out.lt g' (by rw [a2]; rfl)).2
          refine .inr ⟨g', cap', cur, a2, a3, ?_, a5⟩
          have hq := Hlt.out
          rw [hkeep'.block g' hlt' (fun (e : g' = b ∨ g' = c) => by omega)]
          exact a4
      have hk' : Keep (fun k => k = b ∨ k = c ∨ k = p) w.heap.size w w' := (Hkeep.out.weaken (fun _ _ e => .inr (.inr e))).trans ((hkeep'.mono hB).weaken (fun _ _ e => by rcases e with e | e; exact .inl e; exact .inr (.inl e)))
      have Hraw' := Lib.hid hraw'
      have Hk' := Lib.hid hk'
      have Hp' := Lib.hid hp'
      have Hown' := Lib.hid hown'
      clear hraw' hk' hp' hown' hkeep'
      go_wp2
      go_ret2
      exact ⟨rfl, Hraw'.out, Hk'.out, ov, Hp'.out, Hown'.out⟩
end Go.Proofs.Ytadelkancmbanaa
