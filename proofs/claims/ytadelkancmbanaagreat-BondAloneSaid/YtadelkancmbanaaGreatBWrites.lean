/-
  bond.Cells: writes, where nobody is in the way.
-/
import Derived.Test.YtadelkancmbanaaGreatBWr
namespace Go.Proofs.YtadelkancmbanaaGreat
open Go.RowKit
attribute [local go_sem ↓] Go.wp_at_zero Go.wp_at_succ

theorem infoBI : (Tryz.prog.info? 3).map (fun i => (i.zero, i.size, i.bytes)) = some (some (.int .i64 0), 1, 8) := by kernel_rfl

/-- What a write is given. -/
structure WrIn (S : St) (n gl gq : Nat) (key : Nat → Nat) (val old : Nat → Int) (w : World) : Prop where
  few : 1 ≤ n ∧ n ≤ 16
  keyB : ∀ k, k < n → key k < S.heads.length
  inj : ∀ j k, j < k → k < n → key j ≠ key k
  oldB : ∀ k, k < n → S.heads.getD (key k) 0 = old k
  cl : ∀ k, k < n → w.cell? ⟨gl, k * 2, none⟩ = some (.int .i64 (key k : Nat)) ∧ w.cell? ⟨gl, k * 2 + 1, none⟩ = some (.int .i64 (val k))
  co : ∀ k, k < n → w.cell? ⟨gq, k, none⟩ = some (.int .i64 (old k))
  tl : S.tag gl = 0
  tq : S.tag gq = 0

def WrSt (S : St) (n : Nat) (key : Nat → Nat) (val old : Nat → Int) (F : List Nat) (db : Nat → Nat) (next : Nat → Nat) (head : Int) (tag : Nat → Nat) : St :=
  { S with heads := headsK S.heads key (hsK S.tbl ((8 * S.made + 1 : Nat) : Int) val old F) n, made := S.made + 1, db := db, st := upd S.st S.made (S.cnow + 1), tbl := laidK S.tbl ((8 * S.made + 1 : Nat) : Int) val old F n, next := next, head := head, tag := tag }

def WritesEnd (Z : Fix) (S : St) (n : Nat) (key : Nat → Nat) (val old : Nat → Int) (F : List Nat) (G : Int) (w : World) (e : Ending) (w' : World) : Prop :=
  e = .returned (.tuple #[.int .i64 S.cnow, .bool true, .int .i64 0]) ∧ ∃ db next head tag, Next Z S w (WrSt S n key val old F db next head tag) w' ∧ PoolOk Z.n (laidK S.tbl ((8 * S.made + 1 : Nat) : Int) val old F n) next head (F.drop n) (G + n) ∧ (∀ j, j < S.made → db j = S.db j)

theorem owns_of_block {B size : Nat} {e : TypeId} {v : Value} {n : Nat} {xs : List Value} {w w' : World} (h : w.ownsRow B e size v n xs) (hb : ∀ g, v.ownBlock = some g → w'.heap[g]? = w.heap[g]?) : w'.ownsRow B e size v n xs := by
  refine ⟨h.1, ?_⟩
  rcases h.2 with e | ⟨g, cap, cur, rfl, h1, h2, h3⟩
  · exact .inl e
  · exact .inr ⟨g, cap, cur, rfl, h1, (hb g rfl).trans h2, h3⟩

def ints (f : Nat → Int) (k : Nat) : List Value := (List.range k).map fun j => .int .i64 (f j)
theorem ints_succ (f : Nat → Int) (k : Nat) : ints f (k + 1) = ints f k ++ [.int .i64 (f k)] := by simp [ints, List.range_succ]
theorem ints_length (f : Nat → Int) (k : Nat) : (ints f k).length = k := by simp [ints]

/-- Behind k slots taken. -/
structure Tk (Z : Fix) (tbl : Nat → Slot) (hs : Nat → Int) (F : List Nat) (G : Int) (d : Nat) (w2 wr : World) (k : Nat) (next : Nat → Nat) (head : Int) (vv : Value) : Prop where
  pool : PoolMem Z.K Z.n tbl next head wr
  ok : PoolOk Z.n tbl next head (F.drop k) (G + k)
  keep : Keep (fun j => Z.K.has j ∨ j = d) w2.heap.size w2 wr
  st : CellIs wr d 0 (.int .i64 0)
  sh : wr.shape? d = some (123, 3)
  vs : CellIs wr d 2 vv
  row : wr.ownsRow w2.heap.size 3 1 vv k (ints hs k)

theorem Tk.step {Z : Fix} {tbl : Nat → Slot} {hs : Nat → Int} {F : List Nat} {G : Int} {d : Nat} {w2 wr w4 w5 : World} {k : Nat} {next : Nat → Nat} {head head4 : Int} {vv nv : Value} {o o' : Obj} {s : Slot} {i : Nat}
    (h : Tk Z tbl hs F G d w2 wr k next head vv) (hd : d < w2.heap.size) (hdK : ¬ Z.K.has d) (hK : ∀ j, Z.K.has j → j < w2.heap.size)
    (hm4 : PoolMem Z.K Z.n (upd tbl i s) next head4 w4) (ho4 : PoolOk Z.n (upd tbl i s) next head4 (F.drop (k + 1)) (G + k + 1)) (hk4 : Keep Z.K.has (wr.alloc o).drew.heap.size (wr.alloc o).drew w4)
    (hg : (w4.alloc o').grownBy w5 vv.ownBlock) (h5 : w5.ownsRow w2.heap.size 3 1 nv (k + 1) (ints hs (k + 1))) :
    Tk Z (upd tbl i s) hs F G d w2 (w5.setCell ⟨d, 2, none⟩ nv) (k + 1) next head4 nv := by
  have hs2 := h.keep.size
  have hs4 : wr.heap.size + 1 ≤ w4.heap.size := by have := hk4.size; simp only [World.size_drew, World.size_alloc] at this; exact this
  have hrow : ∀ j, vv.ownBlock = some j → w2.heap.size ≤ j := fun j hj => (h.row.lt j hj).1
  have e4 : ∀ j, j < w2.heap.size → ¬ Z.K.has j → w4.heap[j]? = wr.heap[j]? := fun j hj hn => by
    rw [hk4.block j (by simp only [World.size_drew, World.size_alloc]; omega) hn]
    show (wr.alloc o).heap[j]? = _
    exact Below.heap_alloc _ _ _ (by omega)
  have e5 : ∀ j, j < w2.heap.size → w5.heap[j]? = w4.heap[j]? := fun j hj => by
    rw [hg.block j (by simp only [World.size_alloc]; omega) (fun e => by have := hrow j e.symm; omega), Below.heap_alloc _ _ _ (by omega)]
  have e6 : ∀ j, j < w2.heap.size → j ≠ d → (w5.setCell ⟨d, 2, none⟩ nv).heap[j]? = w4.heap[j]? := fun j hj hn => by
    rw [Below.heap_setCell _ _ _ _ hn]; exact e5 j hj
  have ed : w5.heap[d]? = wr.heap[d]? := (e5 d hd).trans (e4 d hd hdK)
  have hks : Keep (fun j => Z.K.has j ∨ j = d) w2.heap.size w2 (w5.setCell ⟨d, 2, none⟩ nv) := by
    have k1 := ((h.keep.alloc hs2 o).drew).trans ((hk4.mono (by simp only [World.size_drew, World.size_alloc]; omega)).weaken (S' := fun j => Z.K.has j ∨ j = d) fun j _ e => .inl e)
    exact (((k1.alloc (by omega) o').grown hg (by simp only [World.size_alloc]; omega) hrow)).setCell (p := ⟨d, 2, none⟩) (.inl (.inr rfl)) nv
  refine ⟨hm4.of_blocks fun j hj => e6 j (hK j hj) (fun e => hdK (by rw [← e]; exact hj)), by rw [show G + ((k + 1 : Nat) : Int) = G + k + 1 by omega]; exact ho4, hks, ?_, ?_, ?_, ?_⟩
  · exact (h.st.of_block ed).setc (.inr (by decide))
  · exact (shape_setCell _ _ _ _).trans ((shape_of_block ed).trans h.sh)
  · exact (h.vs.of_block ed).set
  · refine owns_of_block h5 fun g hg' => Below.heap_setCell _ _ _ _ (fun e => ?_)
    have := (h5.lt g hg').1
    have e' : g = d := e
    omega

/-- Behind k heads swung. -/
structure Sw (h N : Nat) (heads : List Int) (key : Nat → Nat) (hs : Nat → Int) (w0 wr : World) (k : Nat) : Prop where
  head : ∀ i, i < heads.length → CellIs wr h i (.int .i64 ((headsK heads key hs k).getD i 0))
  keep : Keep (fun j => j = h) N w0 wr

theorem Sw.step {h N : Nat} {heads : List Int} {key : Nat → Nat} {hs : Nat → Int} {w0 wr : World} {k : Nat} (H : Sw h N heads key hs w0 wr k) (hk : key k < heads.length) :
    Sw h N heads key hs w0 (wr.drew.setCell ⟨h, key k, none⟩ (.int .i64 (hs k))) (k + 1) := by
  refine ⟨fun i hi => ?_, H.keep.drew.setCell (p := ⟨h, key k, none⟩) (.inl rfl) _⟩
  have hl : key k < (headsK heads key hs k).length := by rw [headsK_length]; exact hk
  have h0 : CellIs wr.drew h i (.int .i64 ((headsK heads key hs k).getD i 0)) := (H.head i hi).of_block rfl
  rw [headsK, getD_set_eq _ _ _ _ hl]
  by_cases e : key k = i
  · rw [if_pos e, ← e]
    rw [← e] at h0
    exact h0.set
  · rw [if_neg e]
    exact h0.setc (.inr (Ne.symm e))

set_option maxRecDepth 100000 in
set_option maxHeartbeats 6400000 in
theorem bwrites_any (Z : Fix) (S : St) (n gl lcap gq ocap : Nat) (key : Nat → Nat) (val old : Nat → Int) (F : List Nat) (G : Int) (w : World) (hm : Mem Z S w) (ok : PoolOk Z.n S.tbl S.next S.head F G) (hG : G + n < 900000) (hmade : S.made ≤ 999) (hF : n ≤ F.length) (hin : WrIn S n gl gq key val old w) :
    Calls Tryz.prog 77 #[.pointer (some ⟨Z.X.x, 0, none⟩), .pointer none, .slice (some ⟨gl, 0, none⟩) n lcap, .slice (some ⟨gq, 0, none⟩) n ocap] w (WritesEnd Z S n key val old F G w) := by
  obtain ⟨ii, hii, zi0, zi1, zi2⟩ := info_parts infoBI
  have hn := hin.few
  obtain ⟨w1, hrun, hown, hgrow⟩ := run_make_full (P := Tryz.prog) w w.heap.size 22 3 ii _ 1 Tryz.underlying22 hii zi0 zi1 .i64 .i64 n (by rw [zi2]; omega) (by unfold maxLen; omega) (Nat.le_refl _)
  have hb1 : Below w.heap.size w w1 := (Below.refl _ _).grown hgrow (Nat.le_refl _) (fun k hk => by cases hk)
  have hsz : w.heap.size < w1.heap.size := (hown.lt w.heap.size rfl).2
  have hls : ∀ i, i < n → CellIs w1 w.heap.size i (.int .i64 0) := fun i hi => by
    refine ⟨?_, hown.frozenAt i⟩
    rw [hown.cellAt i (by omega)]
    have e : (madeCells (Value.int .i64 0).cells (n * 1)).toList = List.replicate (n * 1) (.int .i64 0) := toList_madeCells_one _ _
    rw [e, List.getElem?_replicate, if_pos (by omega)]
  obtain ⟨b, hb⟩ : ∃ b, ((8 * S.made + 1 : Nat) : Int) = b := ⟨_, rfl⟩
  have Hb := Lib.hid hb
  clear hb
  have Hm := Lib.hid hm
  have Hok := Lib.hid ok
  have HG := Lib.hid hG
  have Hmade := Lib.hid hmade
  have HF := Lib.hid hF
  have Hin := Lib.hid hin
  have Hb1 := Lib.hid hb1
  have Hsz := Lib.hid hsz
  have Hls := Lib.hid hls
  have hgl : gl < w.heap.size := World.block_lt_of_cell? w _ (hin.cl 0 (by omega)).1
  have hgq : gq < w.heap.size := World.block_lt_of_cell? w _ (hin.co 0 (by omega))
  have Hgl := Lib.hid hgl
  have Hgq := Lib.hid hgq
  clear hm ok hG hmade hF hin hb1 hsz hls hown hgrow zi0 zi1 hgl hgq
  go_enter Tryz.func77, Tryz.ntmps77
  go_wp2_with fail
  go_loopw [29] (fun i wr => ∃ k : Nat, k ≤ n ∧ i = .int .i64 k ∧ Below w.heap.size w wr ∧ w.heap.size < wr.heap.size ∧ ∀ j, j < n → CellIs wr w.heap.size j (.int .i64 (if j < k then ((key j : Nat) : Int) else 0))) (fun i _ => n - (intOf i).toNat)
  case atStart => exact ⟨0, Nat.zero_le _, rfl, Hb1.out, Hsz.out, fun j hj => by rw [if_neg (by omega)]; exact Hls.out j hj⟩
  case round =>
    clear hrun
    obtain ⟨k, hk, rfl, hbel, hlt0, hcs⟩ := hrel
    by_cases hlt : k < n
    · obtain ⟨x0, x1⟩ := Hin.out.cl k hlt
      have x0 := (hbel.cell (p := ⟨gl, k * 2, none⟩) Hgl.out).trans x0
      have x1 := (hbel.cell (p := ⟨gl, k * 2 + 1, none⟩) Hgl.out).trans x1
      have y0 := (hcs k hlt).cell
      have yf := (hcs k hlt).frz
      rw [if_neg (by omega)] at y0
      have y0 : ∀ o, (wr.alloc o).cell? ⟨w.heap.size, k, none⟩ = some (.int .i64 0) := fun o => (old_cell wr o _ hlt0).trans y0
      have yf : ∀ o, (wr.alloc o).frozen? ⟨w.heap.size, k, none⟩ = false := fun o => (old_frozen wr o _ hlt0).trans yf
      have Hbel := Lib.hid hbel
      have Hlt0 := Lib.hid hlt0
      have Hcs := Lib.hid hcs
      clear hbel hlt0 hcs
      obtain ⟨kk, hkk⟩ : ∃ a, ((key k : Nat) : Int) = a := ⟨_, rfl⟩
      obtain ⟨vk, hvk⟩ : ∃ a, val k = a := ⟨_, rfl⟩
      rw [hkk] at x0
      rw [hvk] at x1
      have Hkk := Lib.hid hkk
      clear hkk hvk
      go_wp2
      go_roundw
      case rel =>
        have hbn : w.heap.size ≤ wr.heap.size := Nat.le_of_lt Hlt0.out
        refine ⟨k + 1, by omega, by go_num, (Hbel.out.alloc hbn _).setCell (p := ⟨w.heap.size, k, none⟩) (Nat.le_refl _) _, by simp [World.setCell]; omega, fun j hj => ?_⟩
        have ha : ∀ j u, CellIs wr w.heap.size j u → CellIs (wr.alloc (.cells #[.int .i64 kk, .int .i64 vk] 52)) w.heap.size j u := fun j u h => h.of_block (Below.heap_alloc _ _ _ Hlt0.out)
        by_cases e : j = k
        · subst e; rw [if_pos (by omega), Hkk.out]; exact (ha _ _ (Hcs.out j hj)).set
        · have := (ha _ _ (Hcs.out j hj)).setc (b' := w.heap.size) (o' := k) (v := .int .i64 kk) (.inr e)
          rw [show (if j < k + 1 then ((key j : Nat) : Int) else 0) = (if j < k then ((key j : Nat) : Int) else 0) from by
            by_cases e2 : j < k
            · rw [if_pos e2, if_pos (by omega)]
            · rw [if_neg e2, if_neg (by omega)]]
          exact this
      case measure => simp [intOf]; omega
    · have : n = k := by omega
      subst this
      have hnx := bnext_any Z S w.heap.size n wr (Hm.out.below hbel) Hmade.out
      rw [Hb.out] at hnx
      have Hnx := Lib.hid hnx
      have Hbel := Lib.hid hbel
      have Hlt0 := Lib.hid hlt0
      have Hcs := Lib.hid hcs
      clear hnx hbel hlt0 hcs
      go_wp2_with fail
      refine Hnx.out.mono ?_
      rintro e w2 ⟨d, rfl, hne⟩
      have Hne := Lib.hid hne
      clear Hnx hne
      go_wp2_with fail
      obtain ⟨ii, hii, zi0, zi1, zi2⟩ := info_parts infoBI
      -- what stays
      have hold : ∀ g, g < w.heap.size → S.tag g = 0 → w2.heap[g]? = w.heap[g]? := fun g h0 h1 => by
        rw [Hne.out.next.keep.block g (Nat.lt_of_lt_of_le h0 (Nat.le_of_lt Hlt0.out)) (by rw [h1]; exact fun h => h rfl)]
        exact Hbel.out.block g h0
      have hnotK : ∀ g, S.tag g ≠ 1 → ¬ Z.K.has g := fun g h1 h2 => h1 (Hm.out.tags.tK g h2)
      have hsz2 : wr.heap.size ≤ w2.heap.size := Hne.out.next.keep.size
      have Hold := Lib.hid hold
      have HnotK := Lib.hid hnotK
      have Hsz2 := Lib.hid hsz2
      have Hdw : Hid (d < w2.heap.size) := Lib.hid Hne.out.c1.lt
      have HdK : Hid (¬ Z.K.has d) := Lib.hid fun h => by
        have t := Hm.out.tags.tK d h
        have := Hm.out.taglt (k := d) (by rw [t]; decide)
        have := Hne.out.new
        have := Hlt0.out
        omega
      have HdX : Hid (Z.X.x ≠ d) := Lib.hid fun h => by
        have := Hm.out.bond.lt.1
        have := Hne.out.new
        have := Hlt0.out
        omega
      have HKlt : Hid (∀ j, Z.K.has j → j < w2.heap.size) := Lib.hid fun j h => by
        have t := Hm.out.tags.tK j h
        have := Hm.out.taglt (k := j) (by rw [t]; decide)
        have := Hlt0.out
        omega
      have Hgd : Hid (∀ g, g < w.heap.size → g ≠ d) := Lib.hid fun g h e => by
        have := Hne.out.new
        have := Hlt0.out
        omega
      clear hold hnotK hsz2
      go_loopw [51] (fun i wr => ∃ k : Nat, k ≤ n ∧ i = .int .i64 k ∧ ∃ next head vv, Tk Z (laidK S.tbl b val old F k) (hsK S.tbl b val old F) F G d w2 wr k next head vv) (fun i _ => n - (intOf i).toNat)
      case atStart =>
        refine ⟨0, Nat.zero_le _, rfl, S.next, S.head, .slice none 0 0, ?_⟩
        have hm2 := Hne.out.next.mem
        have hdd := hm2.bond.desc S.made (Nat.lt_succ_self _)
        have e1 : upd S.db S.made d S.made = d := upd_same _ _ _
        have e2 : upd S.st S.made (0 : Int) S.made = 0 := upd_same _ _ _
        have h1 := hdd.2.1
        have h2 := hdd.2.2
        dsimp only at h1 h2
        rw [e1] at h1
        rw [e1, e2] at h2
        exact ⟨hm2.pool, by rw [show G + ((0 : Nat) : Int) = G by omega]; exact Hok.out, Keep.refl _ _ _, h2, h1, Hne.out.c2, World.ownsRow_nil _ _ _ _⟩
      case round =>
        obtain ⟨k, hk, rfl, next, head, vv, hT⟩ := hrel
        by_cases hlt : k < n
        · obtain ⟨x0, x1⟩ := Hin.out.cl k hlt
          have y0 := Hin.out.co k hlt
          have hkeep : ∀ g, g < w.heap.size → S.tag g ≠ 1 → wr.heap[g]? = w2.heap[g]? := fun g h0 h1 => hT.keep.block g (Nat.lt_of_lt_of_le h0 (Nat.le_trans (Nat.le_of_lt Hlt0.out) Hsz2.out)) fun e => by
            rcases e with e | e
            · exact HnotK.out g h1 e
            · exact Hgd.out g h0 e
          have bl := (hkeep gl Hgl.out (by rw [Hin.out.tl]; decide)).trans (Hold.out gl Hgl.out Hin.out.tl)
          have bq := (hkeep gq Hgq.out (by rw [Hin.out.tq]; decide)).trans (Hold.out gq Hgq.out Hin.out.tq)
          have x0 := (World.cell?_of_block (a := ⟨gl, k * 2, none⟩) bl).trans x0
          have x1 := (World.cell?_of_block (a := ⟨gl, k * 2 + 1, none⟩) bl).trans x1
          have y0 := (World.cell?_of_block (a := ⟨gq, k, none⟩) bq).trans y0
          have z0 : wr.cell? ⟨Z.X.x, 0, none⟩ = some (.pointer (some ⟨Z.K.p, 0, none⟩)) := by
            rw [World.cell?_of_block (a := ⟨Z.X.x, 0, none⟩) (hkeep Z.X.x Hm.out.bond.lt.1 (by rw [Hm.out.tags.tX.1]; decide)), Hne.out.next.mem.bond.c0, Hm.out.xp]
          clear hkeep bl bq
          obtain ⟨kk, hkk⟩ : ∃ a, ((key k : Nat) : Int) = a := ⟨_, rfl⟩
          obtain ⟨vk, hvk⟩ : ∃ a, val k = a := ⟨_, rfl⟩
          obtain ⟨ok, hok⟩ : ∃ a, old k = a := ⟨_, rfl⟩
          rw [hkk] at x0
          rw [hvk] at x1
          rw [hok] at y0
          have hlq : gq < wr.heap.size := World.block_lt_of_cell? wr _ y0
          have hlx : Z.X.x < wr.heap.size := World.block_lt_of_cell? wr _ z0
          have Hvk := Lib.hid hvk
          have Hok2 := Lib.hid hok
          have HT := Lib.hid hT
          clear hkk hvk hok hT
          obtain ⟨W, hW⟩ : ∃ W, W = wr.alloc (.cells #[.int .i64 kk, .int .i64 vk] 52) := ⟨_, rfl⟩
          have gW : W.heap[wr.heap.size]? = some (.cells #[.int .i64 kk, .int .i64 vk] 52 (0, 0)) := by rw [hW]; exact heap_alloc_new _ _
          have s1 : W.cell? ⟨wr.heap.size, 1, none⟩ = some (.int .i64 vk) := by simp [World.cell?, gW]
          have z1 : W.cell? ⟨Z.X.x, 0, none⟩ = some (.pointer (some ⟨Z.K.p, 0, none⟩)) := by rw [hW]; exact (old_cell wr _ _ hlx).trans z0
          have y1 : W.cell? ⟨gq, k, none⟩ = some (.int .i64 ok) := by rw [hW]; exact (old_cell wr _ _ hlq).trans y0
          have HW := Lib.hid hW
          obtain ⟨hh, hhh⟩ : ∃ a, hsK S.tbl b val old F k = a := ⟨_, rfl⟩
          have hTk : Calls Tryz.prog 54 #[.pointer (some ⟨Z.K.p, 0, none⟩), .pointer none, nodeVal vk b 0 0, .int .i64 ok] W.drew fun e w4 => e = .returned (.tuple #[.int .i64 hh, .int .i64 0]) ∧ ∃ head4, PoolMem Z.K Z.n (laidK S.tbl b val old F (k + 1)) next head4 w4 ∧ PoolOk Z.n (laidK S.tbl b val old F (k + 1)) next head4 (F.drop (k + 1)) (G + k + 1) ∧ Keep Z.K.has W.drew.heap.size W.drew w4 := by
            have hFk : k < F.length := Nat.lt_of_lt_of_le hlt HF.out
            have eF : F.drop k = F.getD k 0 :: F.drop (k + 1) := by rw [List.drop_eq_getElem_cons hFk, List.getD_eq_getElem?_getD, List.getElem?_eq_getElem hFk]; rfl
            have hp := HT.out.pool
            have hok := HT.out.ok
            rw [eF] at hok
            have hp2 : PoolMem Z.K Z.n (laidK S.tbl b val old F k) next head W.drew := by rw [HW.out]; exact (hp.alloc _).drew
            refine (take_ok Z.K Z.n (F.getD k 0) vk b 0 0 ok (G + k) (laidK S.tbl b val old F k) next head (F.drop (k + 1)) W.drew hp2 hok (by have := HG.out; omega)).mono ?_
            rintro e w4 ⟨head4, h4⟩
            refine ⟨by rw [← hhh]; exact h4.end_, head4, ?_, ?_, h4.keep⟩
            · rw [laidK, Hvk.out, Hok2.out]; exact h4.mem
            · rw [laidK, Hvk.out, Hok2.out]; exact h4.ok
          have hdW : W.heap[d]? = wr.heap[d]? := by rw [HW.out]; exact Below.heap_alloc _ _ _ (Nat.lt_of_lt_of_le Hdw.out HT.out.keep.size)
          have HdW := Lib.hid hdW
          have HTk := Lib.hid hTk
          have Hhh := Lib.hid hhh
          have HsW : Hid (W.heap.size = wr.heap.size + 1) := Lib.hid (by rw [HW.out]; simp)
          have HxW : Hid (Z.X.x < W.heap.size) := Lib.hid (World.block_lt_of_cell? W _ z1)
          have HqW : Hid (gq < W.heap.size) := Lib.hid (World.block_lt_of_cell? W _ y1)
          clear hW gW z0 y0 hlq hlx hTk hdW hhh
          go_wp2_with fail
          rw [← HW.out]
          refine Reg.start (fun w' => w'.cell? ⟨Z.X.x, 0, none⟩ = some (.pointer (some ⟨Z.K.p, 0, none⟩)) ∧ w'.cell? ⟨wr.heap.size, 1, none⟩ = some (.int .i64 vk) ∧ w'.cell? ⟨gq, k, none⟩ = some (.int .i64 ok)) [] (by kernel_rfl) ?_ (fun hHeld => ?_)
          · first | exact True.intro | ((try dsimp only); first | exact ⟨z1, s1, y1⟩ | exact ⟨z4, s4, y4⟩)
          refine Reg.takeP (i := 0) (v := ?v77x13_0) rfl (by kernel_rfl) (by kernel_rfl) (by kernel_rfl) (by kernel_rfl) (fun _ _ _ h => h) (Or.inl ⟨by rfl, ?h77x13_0⟩) (fun _ => hHeld) ?r77x13_0
          case h77x13_0 => (intro wS hSw; (try dsimp only at hSw); go_simp; all_goals with_reducible rfl)
          try simp only [Act.put, List.setIfInBounds_toArray, List.set_cons_zero, List.set_cons_succ]
          refine Reg.takeP (i := 1) (v := ?v77x13_1) rfl (by kernel_rfl) (by kernel_rfl) (by kernel_rfl) (by kernel_rfl) (fun _ _ _ h => h) (Or.inl ⟨by rfl, ?h77x13_1⟩) (fun _ => hHeld) ?r77x13_1
          case h77x13_1 => (intro wS hSw; (try dsimp only at hSw); go_simp; all_goals with_reducible rfl)
          try simp only [Act.put, List.setIfInBounds_toArray, List.set_cons_zero, List.set_cons_succ]
          refine Reg.takeP (i := 2) (v := ?v77x13_2) rfl (by kernel_rfl) (by kernel_rfl) (by kernel_rfl) (by kernel_rfl) (fun _ _ _ h => h) (Or.inl ⟨by rfl, ?h77x13_2⟩) (fun _ => hHeld) ?r77x13_2
          case h77x13_2 => (intro wS hSw; (try dsimp only at hSw); go_simp; all_goals with_reducible rfl)
          try simp only [Act.put, List.setIfInBounds_toArray, List.set_cons_zero, List.set_cons_succ]
          refine Reg.take (i := 3) (v := ?v77x13_3) rfl (by kernel_rfl) (by kernel_rfl) (by kernel_rfl) (by kernel_rfl) (fun _ _ _ h => h) (Or.inl ⟨by rfl, ?h77x13_3⟩) hHeld ?r77x13_3
          case h77x13_3 => (intro wS hSw; (try dsimp only at hSw); go_simp; all_goals with_reducible rfl)
          try simp only [Act.put, List.setIfInBounds_toArray, List.set_cons_zero, List.set_cons_succ]
          refine Reg.takeP (i := 4) (v := ?v77x13_4) rfl (by kernel_rfl) (by kernel_rfl) (by kernel_rfl) (by kernel_rfl) (fun _ _ _ h => h) (Or.inl ⟨by rfl, ?h77x13_4⟩) (fun _ => hHeld) ?r77x13_4
          case h77x13_4 => (intro wS hSw; (try dsimp only at hSw); go_simp; all_goals with_reducible rfl)
          try simp only [Act.put, List.setIfInBounds_toArray, List.set_cons_zero, List.set_cons_succ]
          refine Reg.takeP (i := 5) (v := ?v77x13_5) rfl (by kernel_rfl) (by kernel_rfl) (by kernel_rfl) (by kernel_rfl) (fun _ _ _ h => h) (Or.inl ⟨by rfl, ?h77x13_5⟩) (fun _ => hHeld) ?r77x13_5
          case h77x13_5 => (intro wS hSw; (try dsimp only at hSw); go_simp; all_goals with_reducible rfl)
          try simp only [Act.put, List.setIfInBounds_toArray, List.set_cons_zero, List.set_cons_succ]
          refine Reg.take (i := 6) (v := ?v77x13_6) rfl (by kernel_rfl) (by kernel_rfl) (by kernel_rfl) (by kernel_rfl) (fun _ _ _ h => h) (Or.inl ⟨by rfl, ?h77x13_6⟩) hHeld ?r77x13_6
          case h77x13_6 => (intro wS hSw; (try dsimp only at hSw); go_simp; all_goals with_reducible rfl)
          try simp only [Act.put, List.setIfInBounds_toArray, List.set_cons_zero, List.set_cons_succ]
          refine Reg.takeP (i := 7) (v := ?v77x13_7) rfl (by kernel_rfl) (by kernel_rfl) (by kernel_rfl) (by kernel_rfl) (fun _ _ _ h => h) (Or.inl ⟨by rfl, ?h77x13_7⟩) (fun _ => hHeld) ?r77x13_7
          case h77x13_7 => (intro wS hSw; (try dsimp only at hSw); go_simp; all_goals with_reducible rfl)
          try simp only [Act.put, List.setIfInBounds_toArray, List.set_cons_zero, List.set_cons_succ]
          refine Reg.takeP (i := 8) (v := ?v77x13_8) rfl (by kernel_rfl) (by kernel_rfl) (by kernel_rfl) (by kernel_rfl) (fun _ _ _ h => h) (Or.inl ⟨by rfl, ?h77x13_8⟩) (fun _ => hHeld) ?r77x13_8
          case h77x13_8 => (intro wS hSw; (try dsimp only at hSw); go_simp; all_goals with_reducible rfl)
          try simp only [Act.put, List.setIfInBounds_toArray, List.set_cons_zero, List.set_cons_succ]
          refine Reg.takeP (i := 9) (v := ?v77x13_9) rfl (by kernel_rfl) (by kernel_rfl) (by kernel_rfl) (by kernel_rfl) (fun _ _ _ h => h) (Or.inl ⟨by rfl, ?h77x13_9⟩) (fun _ => hHeld) ?r77x13_9
          case h77x13_9 => (intro wS hSw; (try dsimp only at hSw); go_simp; all_goals with_reducible rfl)
          try simp only [Act.put, List.setIfInBounds_toArray, List.set_cons_zero, List.set_cons_succ]
          refine Reg.takeP (i := 10) (v := ?v77x13_10) rfl (by kernel_rfl) (by kernel_rfl) (by kernel_rfl) (by kernel_rfl) (fun _ _ _ h => h) (Or.inl ⟨by rfl, ?h77x13_10⟩) (fun _ => hHeld) ?r77x13_10
          case h77x13_10 => (intro wS hSw; (try dsimp only at hSw); go_simp; all_goals with_reducible rfl)
          try simp only [Act.put, List.setIfInBounds_toArray, List.set_cons_zero, List.set_cons_succ]
          refine Reg.takeP (i := 11) (v := ?v77x13_11) rfl (by kernel_rfl) (by kernel_rfl) (by kernel_rfl) (by kernel_rfl) (fun _ _ _ h => h) (Or.inl ⟨by rfl, ?h77x13_11⟩) (fun _ => hHeld) ?r77x13_11
          case h77x13_11 => (intro wS hSw; (try dsimp only at hSw); go_simp; all_goals with_reducible rfl)
          try simp only [Act.put, List.setIfInBounds_toArray, List.set_cons_zero, List.set_cons_succ]
          refine Reg.take (i := 12) (v := ?v77x13_12) rfl (by kernel_rfl) (by kernel_rfl) (by kernel_rfl) (by kernel_rfl) (fun _ _ _ h => h) (Or.inl ⟨by rfl, ?h77x13_12⟩) hHeld ?r77x13_12
          case h77x13_12 => (intro wS hSw; (try dsimp only at hSw); go_simp; all_goals with_reducible rfl)
          try simp only [Act.put, List.setIfInBounds_toArray, List.set_cons_zero, List.set_cons_succ]
          refine Reg.one (i := 13) rfl (by kernel_rfl) (fun K hK => ?_)
          (go_simp; refine HTk.out.mono ?_; rintro e w4 ⟨rfl, head4, hp4, ho4, hk4⟩; have z4 := (hk4.cell (p := ⟨Z.X.x, 0, none⟩) HxW.out (HnotK.out Z.X.x (by rw [Hm.out.tags.tX.1]; decide))).trans z1; have s4 := (hk4.cell (p := ⟨wr.heap.size, 1, none⟩) (by show wr.heap.size < W.heap.size; rw [HsW.out]; omega) (fun h => absurd (HKlt.out _ h) (Nat.not_lt.2 HT.out.keep.size))).trans s1; have y4 := (hk4.cell (p := ⟨gq, k, none⟩) HqW.out (HnotK.out gq (by rw [Hin.out.tq]; decide))).trans y1; have Hp4 := Lib.hid hp4; have Ho4 := Lib.hid ho4; have Hk4 := Lib.hid hk4; clear hp4 ho4 hk4; dsimp only)
          refine hK.out _ _ (fun _ => ?_) (fun hHeld => ?_)
          · first | exact True.intro | ((try dsimp only); first | exact ⟨z1, s1, y1⟩ | exact ⟨z4, s4, y4⟩)
          replace hHeld := hHeld (by decide)
          clear hK K
          try simp only [Act.put, List.setIfInBounds_toArray, List.set_cons_zero, List.set_cons_succ]
          refine Reg.takeP (i := 14) (v := ?v77x13_14) rfl (by kernel_rfl) (by kernel_rfl) (by kernel_rfl) (by kernel_rfl) (fun _ _ _ h => h) (Or.inl ⟨by rfl, ?h77x13_14⟩) (fun _ => hHeld) ?r77x13_14
          case h77x13_14 => (intro wS hSw; (try dsimp only at hSw); go_simp; all_goals with_reducible rfl)
          try simp only [Act.put, List.setIfInBounds_toArray, List.set_cons_zero, List.set_cons_succ]
          refine Reg.takeP (i := 15) (v := ?v77x13_15) rfl (by kernel_rfl) (by kernel_rfl) (by kernel_rfl) (by kernel_rfl) (fun _ _ _ h => h) (Or.inl ⟨by rfl, ?h77x13_15⟩) (fun _ => hHeld) ?r77x13_15
          case h77x13_15 => (intro wS hSw; (try dsimp only at hSw); go_simp; all_goals with_reducible rfl)
          try simp only [Act.put, List.setIfInBounds_toArray, List.set_cons_zero, List.set_cons_succ]
          refine Reg.takeP (i := 16) (v := ?v77x13_16) rfl (by kernel_rfl) (by kernel_rfl) (by kernel_rfl) (by kernel_rfl) (fun _ _ _ h => h) (Or.inl ⟨by rfl, ?h77x13_16⟩) (fun _ => hHeld) ?r77x13_16
          case h77x13_16 => (intro wS hSw; (try dsimp only at hSw); go_simp; all_goals with_reducible rfl)
          try simp only [Act.put, List.setIfInBounds_toArray, List.set_cons_zero, List.set_cons_succ]
          refine Reg.takeP (i := 17) (v := ?v77x13_17) rfl (by kernel_rfl) (by kernel_rfl) (by kernel_rfl) (by kernel_rfl) (fun _ _ _ h => h) (Or.inl ⟨by rfl, ?h77x13_17⟩) (fun _ => hHeld) ?r77x13_17
          case h77x13_17 => (intro wS hSw; (try dsimp only at hSw); go_simp; all_goals with_reducible rfl)
          try simp only [Act.put, List.setIfInBounds_toArray, List.set_cons_zero, List.set_cons_succ]
          refine Reg.takeP (i := 18) (v := ?v77x13_18) rfl (by kernel_rfl) (by kernel_rfl) (by kernel_rfl) (by kernel_rfl) (fun _ _ _ h => h) (Or.inl ⟨by rfl, ?h77x13_18⟩) (fun _ => hHeld) ?r77x13_18
          case h77x13_18 => (intro wS hSw; (try dsimp only at hSw); go_simp; all_goals with_reducible rfl)
          try simp only [Act.put, List.setIfInBounds_toArray, List.set_cons_zero, List.set_cons_succ]
          refine Reg.done (by kernel_rfl) ?_ _
          have Hd4 : Hid (w4.heap[d]? = wr.heap[d]?) := Lib.hid ((Hk4.out.block d (Nat.lt_of_lt_of_le Hdw.out (Nat.le_trans HT.out.keep.size (by show wr.heap.size ≤ W.heap.size; rw [HsW.out]; omega))) HdK.out).trans HdW.out)
          have v4 := (HT.out.vs.of_block Hd4.out).cell
          have Hld4 : Hid (d < w4.heap.size) := Lib.hid (World.block_lt_of_cell? w4 _ v4)
          clear z4 s4 y4 z1 s1 y1
          have Hsk : Hid (wr.heap.size + 1 ≤ w4.heap.size) := Lib.hid (by have := Hk4.out.size; rw [← HsW.out]; exact this)
          have Hrow4 : Hid (w4.ownsRow w2.heap.size 3 1 vv k (ints (hsK S.tbl b val old F) k)) := Lib.hid (owns_of_block HT.out.row fun g hg => by
            have h1 := HT.out.row.lt g hg
            rw [Hk4.out.block g (by show g < W.heap.size; rw [HsW.out]; omega) (fun h => absurd (HKlt.out _ h) (by omega))]
            show W.heap[g]? = _
            rw [HW.out]
            exact Below.heap_alloc _ _ _ h1.2)
          go_wp2_with (at_builtin; go_loud (refine wpList_append_lies _ rfl (.tmp 88) (.tmp 90) 22 rfl w2.heap.size 3 ii _ 1 8 Tryz.underlying22 hii zi0 zi1 zi2 rfl (by decide) vv k (ints (hsK S.tbl b val old F) k) rfl (Hrow4.out.alloc _) ⟨w4.heap.size, 0, none⟩ 1 1 [.int .i64 hh] rfl rfl (World.news_of_block (cs := #[.int .i64 hh]) (t := 3) (fr := (0, 0)) (new_block _ _ _ rfl)) (by simp [Value.oneCell']) (by decide) (by unfold maxLen; omega) (by omega) (by simp; have := HT.out.keep.size; have := Hsk.out; omega) (w4.heap.size + 1) (by simp) ?_; intro gg cap' w5 hown5 hgrow hat hlt5; have h5 := hgrow.block d (by simp only [World.size_alloc]; have := Hld4.out; omega) (fun e => by have h9 := (HT.out.row.lt d e.symm).1; have := Hdw.out; omega); rw [Below.heap_alloc _ _ _ Hld4.out] at h5; have c5 := (HT.out.vs.of_block (h5.trans Hd4.out)).cell; have f5 := (HT.out.vs.of_block (h5.trans Hd4.out)).frz; clear h5; have Hown5 := Lib.hid hown5; have Hgrow := Lib.hid hgrow; clear hown5 hgrow hat hlt5))
          go_roundw
          case rel =>
            refine ⟨k + 1, by omega, by go_num, next, head4, .slice (some ⟨gg, 0, none⟩) (k + 1) cap', ?_⟩
            have hr : w5.ownsRow w2.heap.size 3 1 (.slice (some ⟨gg, 0, none⟩) (k + 1) cap') (k + 1) (ints (hsK S.tbl b val old F) (k + 1)) := by
              rw [ints_succ, Hhh.out]; exact Hown5.out
            have hk4 := Hk4.out
            rw [HW.out] at hk4
            exact HT.out.step Hdw.out HdK.out HKlt.out Hp4.out Ho4.out hk4 Hgrow.out hr
          case measure => simp [intOf]; omega
        · have : n = k := by omega
          subst this
          obtain ⟨gg, cap', hlv, hBg, hgl⟩ := hT.row.form (by omega)
          subst hlv
          have hm2 := Hne.out.next.mem
          have hN3 := hm2.nextPoolD (d := d) (j := S.made) (Nat.lt_succ_self _) (upd_same _ _ _) hT.pool hT.keep hT.sh (by show CellIs wr d 0 (.int .i64 (upd S.st S.made (0 : Int) S.made)); rw [upd_same]; exact hT.st)
          have HN := Lib.hid (Hne.out.next.trans hN3)
          have hrow : ∀ k, k < n → CellIs wr gg k (.int .i64 (hsK S.tbl b val old F k)) := fun k hk => by
            refine ⟨?_, hT.row.frozenAt k⟩
            rw [hT.row.cellAt k (by omega)]
            simp [ints, hk]
          have hcell : ∀ j, j < n → CellIs wr w.heap.size j (.int .i64 (key j : Nat)) := fun j hj => by
            have h0 := Hcs.out j hj
            rw [if_pos hj] at h0
            have t0 : S.tag w.heap.size = 0 := Hm.out.tags.new _ (Nat.le_refl _)
            refine h0.of_block ?_
            rw [hT.keep.block w.heap.size (Nat.lt_of_lt_of_le Hlt0.out Hsz2.out) (fun e => ?_)]
            · exact Hne.out.next.keep.block _ Hlt0.out (by rw [t0]; exact fun h => h rfl)
            · rcases e with e | e
              · have := HKlt.out _ e
                exact HnotK.out _ (by rw [t0]; decide) e
              · have := Hne.out.new; have := Hlt0.out; omega
          have hold : ∀ k, k < n → wr.cell? ⟨gq, k, none⟩ = some (.int .i64 (old k)) := fun k hk => by
            have e := (hT.keep.block gq (Nat.lt_of_lt_of_le Hgq.out (Nat.le_trans (Nat.le_of_lt Hlt0.out) Hsz2.out)) (fun e => by
              rcases e with e | e
              · exact HnotK.out gq (by rw [Hin.out.tq]; decide) e
              · exact Hgd.out gq Hgq.out e)).trans (Hold.out gq Hgq.out Hin.out.tq)
            exact (World.cell?_of_block (a := ⟨gq, k, none⟩) e).trans (Hin.out.co k hk)
          have v0 := hT.vs
          have s0 := hT.st
          have Hrow := Lib.hid hrow
          have Hcell := Lib.hid hcell
          have Hold3 := Lib.hid hold
          have HV := Lib.hid v0
          have HS := Lib.hid s0
          have Hok3 := Lib.hid hT.ok
          have Hbg : Hid (w2.heap.size ≤ gg ∧ gg < wr.heap.size) := Lib.hid (hT.row.lt gg rfl)
          clear hT hm2 hN3 hrow hcell hold v0 s0 hBg hgl
          go_wp2_with fail
          have HX : Hid (∀ i, i < S.heads.length → CellIs wr Z.X.h i (.int .i64 (S.heads.getD i 0))) := Lib.hid HN.out.mem.bond.head
          have HXs : Hid (wr.cell? ⟨Z.X.x, 3, none⟩ = some (.slice (some ⟨Z.X.h, 0, none⟩) S.heads.length S.heads.length)) := Lib.hid HN.out.mem.bond.hd
          have Hlh : Hid (Z.X.h < w.heap.size) := Lib.hid Hm.out.bond.lt.2.1
          have Hnx : Hid (Z.X.x ≠ Z.X.h) := Lib.hid Hm.out.bond.ne
          have Hs2r : Hid (w2.heap.size ≤ wr.heap.size) := Lib.hid (by have := Hbg.out; omega)
          obtain ⟨w3, rfl⟩ : ∃ w3, w3 = wr := ⟨_, rfl⟩
          go_loopw [97] (fun i w4 => ∃ k : Nat, k ≤ n ∧ i = .int .i64 k ∧ Sw Z.X.h w3.heap.size S.heads key (hsK S.tbl b val old F) w3 w4 k) (fun i _ => n - (intOf i).toNat)
          case atStart => exact ⟨0, Nat.zero_le _, rfl, HX.out, Keep.refl _ _ _⟩
          case round =>
            obtain ⟨k, hk, rfl, hT⟩ := hrel
            by_cases hlt : k < n
            · have hlh : Z.X.h < w3.heap.size := Nat.lt_of_lt_of_le Hlh.out (Nat.le_trans (Nat.le_of_lt Hlt0.out) (Nat.le_trans Hsz2.out Hs2r.out))
              have hlx : Z.X.x < w3.heap.size := Nat.lt_of_lt_of_le Hm.out.bond.lt.1 (Nat.le_trans (Nat.le_of_lt Hlt0.out) (Nat.le_trans Hsz2.out Hs2r.out))
              have hbl : ∀ g, g < w3.heap.size → g ≠ Z.X.h → wr.heap[g]? = w3.heap[g]? := fun g h1 h2 => hT.keep.block g h1 h2
              have b1 := hbl w.heap.size (Nat.lt_of_lt_of_le Hlt0.out (Nat.le_trans Hsz2.out Hs2r.out)) (by have := Hlh.out; omega)
              have b2 := hbl gq (Nat.lt_of_lt_of_le Hgq.out (Nat.le_trans (Nat.le_of_lt Hlt0.out) (Nat.le_trans Hsz2.out Hs2r.out))) (fun e => by have h1 := Hin.out.tq; rw [e, Hm.out.tags.tX.2] at h1; exact absurd h1 (by decide))
              have b3 := hbl d (Nat.lt_of_lt_of_le Hdw.out Hs2r.out) (fun e => Hgd.out _ Hlh.out e.symm)
              have b4 := hbl gg Hbg.out.2 (by have h1 := Hbg.out.1; have h2 := Hlh.out; have h3 := Hlt0.out; have h4 := Hsz2.out; omega)
              have b5 := hbl Z.X.x hlx Hnx.out
              have c1 := ((Hcell.out k hlt).of_block b1).cell
              have c2 := (World.cell?_of_block (a := ⟨gq, k, none⟩) b2).trans (Hold3.out k hlt)
              have c3 := (HV.out.of_block b3).cell
              have c4 := ((Hrow.out k hlt).of_block b4).cell
              have c5 := (World.cell?_of_block (a := ⟨Z.X.x, 3, none⟩) b5).trans HXs.out
              have c6 := hT.head (key k) (Hin.out.keyB k hlt)
              rw [headsK_far _ _ _ _ _ (fun j hj => Hin.out.inj j k hj hlt), Hin.out.oldB k hlt] at c6
              have hstep := hT.step (Hin.out.keyB k hlt)
              have kB := Hin.out.keyB k hlt
              obtain ⟨kk, hkk⟩ : ∃ a, key k = a := ⟨_, rfl⟩
              obtain ⟨ok, hok⟩ : ∃ a, old k = a := ⟨_, rfl⟩
              obtain ⟨hh, hhh⟩ : ∃ a, hsK S.tbl b val old F k = a := ⟨_, rfl⟩
              rw [hkk] at c1 c6 hstep kB
              rw [hok] at c2 c6
              rw [hhh] at c4 hstep
              have c6c : wr.drew.cell? ⟨Z.X.h, kk, none⟩ = some (.int .i64 ok) := c6.cell
              have c6f : wr.drew.frozen? ⟨Z.X.h, kk, none⟩ = false := c6.frz
              have few := Hm.out.bond.few
              have HT := Lib.hid hT
              have Hstep := Lib.hid hstep
              clear hT hstep hkk hok hhh b1 b2 b3 b4 b5 hbl hlh hlx c6
              go_wp2_with (first | (go_at_call 22; ((with_reducible refine (step_nil _).mono ?_); rintro e w' ⟨rfl, rfl⟩)))
              refine wp_region_still_tail 17 (by kernel_rfl) (by kernel_rfl) ?_
              simp only [List.take_succ_cons, List.take_zero, List.drop_succ_cons, List.drop_zero]
              change wpStill _ _ (World.drew _) _ _ _
              repeat (first | (refine wpStill_step (fun K hK => ?_); go_simp; refine hK _ ?_; clear hK K))
              refine wpStill_nil ?_
              change wpList _ _ _ _ _ (World.drew _)
              go_wp2_with (first | (go_at_call 24; ((with_reducible refine (i64cas _ _ _ _ _ c6c c6f).mono ?_); rintro e w' ⟨rfl, rfl⟩)) | fail)
              go_roundw
              case rel => exact ⟨k + 1, by omega, by go_num, Hstep.out⟩
              case measure => simp [intOf]; omega
            · have : n = k := by omega
              subst this
              have hmm := HN.out.mem
              have hN4 := hmm.nextHeads (heads := headsK S.heads key (hsK S.tbl b val old F) n) (w' := wr) (headsK_length _ _ _ _) (fun i hi => hT.head i (by rw [headsK_length] at hi; exact hi)) hT.keep
              have hm4 := hN4.mem
              have hck := hm4.ck
              have hdesc := (hm4.bond.desc S.made (Nat.lt_succ_self _)).2.2
              have e1 : upd S.db S.made d S.made = d := upd_same _ _ _
              have e2 : upd S.st S.made (0 : Int) S.made = 0 := upd_same _ _ _
              dsimp only at hdesc hck
              rw [e1, e2] at hdesc
              have c2 : wr.cell? ⟨Z.X.x, 2, none⟩ = some (.pointer (some ⟨Z.X.c, 0, none⟩)) := hm4.bond.c2
              have d0 : wr.drew.cell? ⟨d, 0, none⟩ = some (.int .i64 0) := hdesc.cell
              have f0 : wr.drew.frozen? ⟨d, 0, none⟩ = false := hdesc.frz
              have d00 : wr.cell? ⟨d, 0, none⟩ = some (.int .i64 0) := hdesc.cell
              have f00 : wr.frozen? ⟨d, 0, none⟩ = false := hdesc.frz
              have hck2 : ClockMem Z.X.c Z.cc S.cnow S.ls wr := hck
              have t0 := hck.now0
              have hN5 := hm4.nextSt (d := d) (j := S.made) (S.cnow + 1) (Nat.lt_succ_self _) e1
              have d1 : (wr.setCell ⟨d, 0, none⟩ (.int .i64 (S.cnow + 1))).cell? ⟨d, 0, none⟩ = some (.int .i64 (S.cnow + 1)) := hdesc.set.cell
              have HN5 := Lib.hid ((HN.out.trans hN4).trans hN5)
              have Hck := Lib.hid hck2
              clear hT hmm hN4 hm4 hck hdesc e1 e2 hck2 hN5
              obtain ⟨t, ht⟩ : ∃ t, S.cnow = t := ⟨_, rfl⟩
              rw [ht] at d1 t0
              have Ht := Lib.hid ht
              clear ht
              have hcn := cnow_any _ _ _ _ _ Hck.out
              rw [Ht.out] at hcn
              have Hcn := Lib.hid hcn
              clear hcn
              have hst : ∀ w', Calls Tryz.prog 47 #[.int .i64 (t + 1)] w' fun e w'' => e = .returned (.int .i64 t) ∧ w' = w'' := fun w' => by
                have h := bstamp_any (t + 1) w' (by omega) (by omega)
                rw [show t + 1 - 1 = t by omega] at h
                exact h
              have Hst := Lib.hid hst
              have n1 : (t + 1 == 1) = false := by rw [beq_eq_false_iff_ne]; omega
              have n2 : (t == 0) = false := by rw [beq_eq_false_iff_ne]; omega
              clear hst
              go_wp2_with (first | (go_at_call 22; ((with_reducible refine (step_nil _).mono ?_); rintro e w' ⟨rfl, rfl⟩)) | (go_at_call 21; ((with_reducible refine (Hcn.out).mono ?_); rintro e w' ⟨rfl, rfl⟩)) | (go_at_call 24; ((with_reducible refine (i64cas _ _ _ _ _ d00 f00).mono ?_); rintro e w' ⟨rfl, rfl⟩)) | (go_at_call 31; ((with_reducible refine (i64load _ _ _ _ d1).mono ?_); rintro e w' ⟨rfl, rfl⟩)) | (go_at_call 47; ((with_reducible refine (Hst.out _).mono ?_); rintro e w' ⟨rfl, rfl⟩)) | fail)
              have n3 : (t + 1 != 1) = true := by rw [bne, n1]; rfl
              rw [n3]
              refine bodyPost_ret (results_tmp3 rfl _ _ _) rfl ?_
              unfold WritesEnd WrSt
              rw [Hb.out]
              have hf := (Hm.out.next Hbel.out).trans HN5.out
              rw [Ht.out] at hf ⊢
              have e2 : upd (upd S.st S.made 0) S.made (t + 1) = upd S.st S.made (t + 1) := upd_upd _ _ _ _
              rw [e2] at hf
              exact ⟨rfl, _, next, head, _, hf, Hok3.out, fun j hj => upd_other _ _ _ _ (Nat.ne_of_lt hj)⟩
end Go.Proofs.YtadelkancmbanaaGreat
