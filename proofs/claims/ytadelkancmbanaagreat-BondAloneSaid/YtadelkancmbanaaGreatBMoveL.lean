/-
  bond.Cells: what Move looks up.
-/
import Derived.Test.YtadelkancmbanaaGreatBChanges
namespace Go.Proofs.YtadelkancmbanaaGreat
open Go.RowKit
attribute [local go_sem ↓] Go.wp_at_zero Go.wp_at_succ

theorem infoBPair : (Tryz.prog.info? 52).map (fun i => (i.zero, i.size, i.bytes)) = some (some (.agg #[.int .i64 0, .int .i64 0]), 2, 16) := by kernel_rfl

/-- Cells of a row of pairs. -/
def pairs (key : Nat → Nat) (val : Nat → Int) (k : Nat) : List Value := (List.range k).flatMap fun j => [.int .i64 (key j : Nat), .int .i64 (val j)]
theorem pairs_succ (key : Nat → Nat) (val : Nat → Int) (k : Nat) : pairs key val (k + 1) = pairs key val k ++ [.int .i64 (key k : Nat), .int .i64 (val k)] := by simp [pairs, List.range_succ]
theorem pairs_length (key : Nat → Nat) (val : Nat → Int) : ∀ k, (pairs key val k).length = 2 * k
  | 0 => rfl
  | k + 1 => by rw [pairs_succ, List.length_append, pairs_length key val k]; simp; omega
theorem pairs_get (key : Nat → Nat) (val : Nat → Int) (n : Nat) : ∀ k j, j < k → (pairs key val k)[2 * j]? = some (.int .i64 (key j : Nat)) ∧ (pairs key val k)[2 * j + 1]? = some (.int .i64 (val j))
  | 0, _, h => absurd h (by omega)
  | k + 1, j, h => by
    have hl := pairs_length key val k
    rw [pairs_succ]
    by_cases e : j < k
    · have ih := pairs_get key val n k j e
      rw [List.getElem?_append_left (by omega), List.getElem?_append_left (by omega)]
      exact ih
    · obtain rfl : j = k := by omega
      rw [List.getElem?_append_right (by omega), List.getElem?_append_right (by omega), hl]
      have e1 : 2 * j - 2 * j = 0 := by omega
      have e2 : 2 * j + 1 - 2 * j = 1 := by omega
      rw [e1, e2]
      exact ⟨rfl, rfl⟩

/-- Behind k cells looked up. -/
structure Lk (B : Nat) (key : Nat → Nat) (val hs : Nat → Int) (w wr : World) (k : Nat) (vv oo : Value) : Prop where
  below : Below B w wr
  vs : wr.ownsRow B 52 2 vv k (pairs key val k)
  os : wr.ownsRow B 3 1 oo k (ints hs k)
  sep : ∀ g, vv.ownBlock = some g → oo.ownBlock = some g → False

section
variable {B : Nat} {key : Nat → Nat} {val hs : Nat → Int} {w wr X w5 Y w7 : World} {k : Nat} {vv oo v5 v7 : Value}

theorem Lk.vsAt (h : Lk B key val hs w wr k vv oo) (hX : Below wr.heap.size wr X) : X.ownsRow B 52 2 vv k (pairs key val k) := owns_of_block h.vs fun g hg => hX.block g (h.vs.lt g hg).2
theorem Lk.osAt (h : Lk B key val hs w wr k vv oo) (hX : Below wr.heap.size wr X) : X.ownsRow B 3 1 oo k (ints hs k) := owns_of_block h.os fun g hg => hX.block g (h.os.lt g hg).2
/-- The other row, behind the first append. -/
theorem Lk.osAt5 (h : Lk B key val hs w wr k vv oo) (hX : Below wr.heap.size wr X) (hg5 : X.grownBy w5 vv.ownBlock) : w5.ownsRow B 3 1 oo k (ints hs k) :=
  owns_of_block (h.osAt hX) fun g hg => hg5.block g (Nat.lt_of_lt_of_le (h.os.lt g hg).2 hX.size) fun e => h.sep g e.symm hg

/-- Behind both appends. -/
theorem Lk.step (h : Lk B key val hs w wr k vv oo) (hB : B ≤ wr.heap.size) (hX : Below wr.heap.size wr X) (hg5 : X.grownBy w5 vv.ownBlock) (hY : Below w5.heap.size w5 Y) (hg7 : Y.grownBy w7 oo.ownBlock)
    {g5 c5 g7 c7 : Nat} (h5 : w5.ownsRow B 52 2 (.slice (some ⟨g5, 0, none⟩) (k + 1) c5) (k + 1) (pairs key val (k + 1))) (a5 : vv.ownBlock = some g5 ∨ g5 = X.heap.size)
    (h7 : w7.ownsRow B 3 1 (.slice (some ⟨g7, 0, none⟩) (k + 1) c7) (k + 1) (ints hs (k + 1))) (a7 : oo.ownBlock = some g7 ∨ g7 = Y.heap.size) :
    Lk B key val hs w w7 (k + 1) (.slice (some ⟨g5, 0, none⟩) (k + 1) c5) (.slice (some ⟨g7, 0, none⟩) (k + 1) c7) := by
  have l5 := h5.lt g5 rfl
  have s1 := hX.size
  have s2 := hg5.size
  have s3 := hY.size
  have n5 : oo.ownBlock ≠ some g5 := fun e => by
    rcases a5 with a | a
    · exact h.sep g5 a e
    · have := (h.os.lt g5 e).2; omega
  refine ⟨?_, ?_, h7, ?_⟩
  · have k1 := (Keep.of_below (S := fun _ => False) h.below).trans (Keep.of_below (hX.mono hB))
    have k2 := k1.grown hg5 (by omega) (fun j hj => (h.vs.lt j hj).1)
    have k3 := k2.trans (Keep.of_below (hY.mono (by omega)))
    exact (k3.grown hg7 (by omega) (fun j hj => (h.os.lt j hj).1)).below
  · refine owns_of_block h5 fun g hg => ?_
    have e : g5 = g := by injection hg
    subst e
    rw [hg7.block g5 (by omega) (fun e => n5 e.symm), hY.block g5 l5.2]
  · intro g e1 e2
    have e3 : g5 = g := by injection e1
    have e4 : g7 = g := by injection e2
    subst e3
    subst e4
    rcases a7 with a | a
    · exact n5 a
    · omega
end

/-- What the second of the two cells, and the first one, hold behind a Move. -/
def newOf (b : Nat) (n : Int) (key : Nat → Nat) (val : Nat → Int) (j : Nat) : Int := if key j = b then wrap64 (val j + n) else wrap64 (val j - n)

def MoveLook (Z : Fix) (S : St) (b : Nat) (n : Int) (key : Nat → Nat) (val old : Nat → Int) (w : World) (e : Ending) (w' : World) : Prop :=
  (e = .returned (.tuple #[.slice none 0 0, .slice none 0 0, .int .i64 303]) ∧ Next Z S w S w' ∧ ∃ j, j < 2 ∧ key j ≠ b ∧ val j < n) ∨ (LookEnd Z S 2 key (newOf b n key val) old w e w' ∧ ∀ j, j < 2 → key j ≠ b → n ≤ val j)

/-- Behind k values changed. -/
structure Ad (b : Nat) (n : Int) (key : Nat → Nat) (val : Nat → Int) (g : Nat) (w0 wr : World) (k : Nat) : Prop where
  cl : ∀ j, j < 2 → CellIs wr g (j * 2) (.int .i64 (key j : Nat)) ∧ CellIs wr g (j * 2 + 1) (.int .i64 (if j < k then newOf b n key val j else val j))
  keep : Keep (fun j => j = g) w0.heap.size w0 wr
  few : ∀ j, j < k → key j ≠ b → n ≤ val j

theorem Ad.below {b : Nat} {n : Int} {key : Nat → Nat} {val : Nat → Int} {g N : Nat} {w w0 wr : World} {k : Nat} (h : Ad b n key val g w0 wr k) (hw : Below N w w0) (hN : N ≤ g) (hs : N ≤ w.heap.size) : Below N w wr :=
  ((Keep.of_below (S := fun _ => False) hw).trans ((h.keep.mono (Nat.le_trans hs hw.size)).weaken fun i hi e => absurd hi (by omega))).below
theorem Ad.drew {b : Nat} {n : Int} {key : Nat → Nat} {val : Nat → Int} {g : Nat} {w0 wr : World} {k : Nat} (h : Ad b n key val g w0 wr k) : Ad b n key val g w0 wr.drew k :=
  ⟨fun j hj => ⟨((h.cl j hj).1).of_block rfl, ((h.cl j hj).2).of_block rfl⟩, h.keep.drew, h.few⟩
theorem Ad.step {b : Nat} {n : Int} {key : Nat → Nat} {val : Nat → Int} {g : Nat} {w0 wr : World} {k : Nat} {v : Int} (h : Ad b n key val g w0 wr k) (hk : k < 2) (hv : newOf b n key val k = v) (hf : key k ≠ b → n ≤ val k) :
    Ad b n key val g w0 (wr.setCell ⟨g, k * 2 + 1, none⟩ (.int .i64 v)) (k + 1) := by
  refine ⟨fun j hj => ⟨((h.cl j hj).1).setc (.inr (by omega)), ?_⟩, h.keep.setCell (p := ⟨g, k * 2 + 1, none⟩) (.inl rfl) _, fun j hj hb => ?_⟩
  · by_cases e : j = k
    · subst e
      rw [if_pos (by omega), hv]
      exact (h.cl j hj).2.set
    · have := ((h.cl j hj).2).setc (b' := g) (o' := k * 2 + 1) (v := .int .i64 v) (.inr (by omega))
      rw [show (if j < k + 1 then newOf b n key val j else val j) = (if j < k then newOf b n key val j else val j) from by
        by_cases e2 : j < k
        · rw [if_pos e2, if_pos (by omega)]
        · rw [if_neg e2, if_neg (by omega)]]
      exact this
  · by_cases e : j = k
    · subst e; exact hf hb
    · exact h.few j (by omega) hb

set_option maxRecDepth 100000 in
set_option maxHeartbeats 6400000 in
theorem bmove_look (Z : Fix) (S : St) (a b fb tb xbx wbx nbx : Nat) (n : Int) (key : Nat → Nat) (ver : Nat → Ver) (w : World) (hm : Mem Z S w) (ord : (a < b ∧ key 0 = a ∧ key 1 = b) ∨ (b < a ∧ key 0 = b ∧ key 1 = a)) (ha : a < S.heads.length) (hb : b < S.heads.length) (hn : 0 ≤ n)
    (hch : ∀ j, j < 2 → ∃ r, CellChain Z.n S.made S.tbl S.st S.heads (key j) (ver j :: r))
    (c0 : w.cell? ⟨fb, 0, none⟩ = some (.int .i64 (a : Nat))) (c1 : w.cell? ⟨tb, 0, none⟩ = some (.int .i64 (b : Nat))) (c2 : w.cell? ⟨xbx, 0, none⟩ = some (.pointer (some ⟨Z.X.x, 0, none⟩))) (c3 : w.cell? ⟨wbx, 0, none⟩ = some (.pointer none)) (c4 : w.cell? ⟨nbx, 0, none⟩ = some (.int .i64 n)) :
    Calls Tryz.prog 41 #[.pointer (some ⟨fb, 0, none⟩), .pointer (some ⟨tb, 0, none⟩), .pointer (some ⟨xbx, 0, none⟩), .pointer (some ⟨wbx, 0, none⟩), .pointer (some ⟨nbx, 0, none⟩)] w (MoveLook Z S b n key (fun j => (ver j).v) (fun j => hnd (ver j).i (ver j).g) w) := by
  obtain ⟨val, hval⟩ : ∃ f : Nat → Int, (fun j => (ver j).v) = f := ⟨_, rfl⟩
  obtain ⟨old, hold⟩ : ∃ f : Nat → Int, (fun j => hnd (ver j).i (ver j).g) = f := ⟨_, rfl⟩
  rw [hval, hold]
  have hkl : ∀ j, j < 2 → key j < S.heads.length := fun j hj => by
    have e : j = 0 ∨ j = 1 := by omega
    rcases e with rfl | rfl <;> rcases ord with ⟨_, e0, e1⟩ | ⟨_, e0, e1⟩ <;> omega
  have hkne : key 0 ≠ key 1 := by rcases ord with ⟨_, e0, e1⟩ | ⟨_, e0, e1⟩ <;> omega
  obtain ⟨W, hW⟩ : ∃ W, W = w.alloc (.cells #[.int .i64 (key 0 : Nat), .int .i64 (key 1 : Nat)] 3) := ⟨_, rfl⟩
  have gW : W.heap[w.heap.size]? = some (.cells #[.int .i64 (key 0 : Nat), .int .i64 (key 1 : Nat)] 3 (0, 0)) := by rw [hW]; exact heap_alloc_new _ _
  have kW : ∀ k, k < 2 → W.cell? ⟨w.heap.size, k, none⟩ = some (.int .i64 (key k : Nat)) := fun k hk => by
    have e : k = 0 ∨ k = 1 := by omega
    rcases e with rfl | rfl <;> simp [World.cell?, gW]
  have bW : Below w.heap.size w W := by rw [hW]; exact (Below.refl _ _).alloc (Nat.le_refl _) _
  have sW : W.heap.size = w.heap.size + 1 := by rw [hW]; simp
  have L0 := World.block_lt_of_cell? w _ c0
  have L1 := World.block_lt_of_cell? w _ c1
  have L2 := World.block_lt_of_cell? w _ c2
  have L3 := World.block_lt_of_cell? w _ c3
  have L4 := World.block_lt_of_cell? w _ c4
  have CB := Lib.hid c1
  have C0 := Lib.hid c0
  have C1 := Lib.hid c1
  have C2 := Lib.hid c2
  have C3 := Lib.hid c3
  have C4 := Lib.hid c4
  have HL0 := Lib.hid L0
  have HL1 := Lib.hid L1
  have HL2 := Lib.hid L2
  have HL3 := Lib.hid L3
  have HL4 := Lib.hid L4
  have Hm := Lib.hid hm
  have Hch := Lib.hid hch
  have Hval := Lib.hid hval
  have Hold := Lib.hid hold
  have Hkl := Lib.hid hkl
  have Hkne := Lib.hid hkne
  have HkW := Lib.hid kW
  have HbW := Lib.hid bW
  have HsW := Lib.hid sW
  have Hn := Lib.hid hn
  have Hord := Lib.hid ord
  obtain ⟨k0, hk0⟩ : ∃ x : Int, ((key 0 : Nat) : Int) = x := ⟨_, rfl⟩
  obtain ⟨k1, hk1⟩ : ∃ x : Int, ((key 1 : Nat) : Int) = x := ⟨_, rfl⟩
  obtain ⟨A, hA⟩ : ∃ x : Int, ((a : Nat) : Int) = x := ⟨_, rfl⟩
  obtain ⟨Bb, hBb⟩ : ∃ x : Int, ((b : Nat) : Int) = x := ⟨_, rfl⟩
  rw [hk0, hk1] at hW
  rw [hA] at c0 C0
  rw [hBb] at c1 C1
  have ord2 : (A < Bb ∧ k0 = A ∧ k1 = Bb) ∨ (Bb < A ∧ k0 = Bb ∧ k1 = A) := by
    rcases ord with ⟨o, e0, e1⟩ | ⟨o, e0, e1⟩
    · exact .inl ⟨by omega, by omega, by omega⟩
    · exact .inr ⟨by omega, by omega, by omega⟩
  have HW := Lib.hid hW
  have Hk0 := Lib.hid hk0
  have Hk1 := Lib.hid hk1
  have HA := Lib.hid hA
  have HBb := Lib.hid hBb
  clear hval hold hkl hkne hW gW kW bW sW hm hch ord ha hb hn L0 L1 L2 L3 L4 hk0 hk1 hA hBb c2 c3 c4
  go_enter Tryz.func41, Tryz.ntmps41
  rcases ord2 with ⟨o, rfl, rfl⟩ | ⟨o, rfl, rfl⟩
  · have Ho := Lib.hid o
    go_wp2_with fail
    rw [← HW.out]
    clear o c0 c1
    go_loopw [24, 8, 9] (fun i vv oo wr => ∃ k : Nat, k ≤ 2 ∧ i = .int .i64 k ∧ Lk W.heap.size key val old W wr k vv oo) (fun i _ _ _ => 2 - (intOf i).toNat)
    case atStart => exact ⟨0, by omega, rfl, Below.refl _ _, World.ownsRow_nil _ _ _ _, World.ownsRow_nil _ _ _ _, fun g hg => by cases hg⟩
    case round =>
      obtain ⟨k, hk, rfl, hL⟩ := hrel
      by_cases hlt : k < 2
      · have hbT : Below w.heap.size w wr := HbW.out.trans (hL.below.mono HbW.out.size)
        have d0 := (hL.below.cell (p := ⟨w.heap.size, k, none⟩) (by rw [HsW.out]; exact Nat.lt_succ_self _)).trans (HkW.out k hlt)
        have c2 := (hbT.cell (p := ⟨xbx, 0, none⟩) HL2.out).trans C2.out
        have c3 := (hbT.cell (p := ⟨wbx, 0, none⟩) HL3.out).trans C3.out
        obtain ⟨r, hr⟩ := Hch.out k hlt
        have hm1 := Hm.out.below hbT
        have hho := bholds_any Z.X Z.K Z.n S.made (key k) S.heads S.db S.st S.tbl S.next S.head (ver k) r wr hm1.bond hm1.pool Hm.out.xp (Hkl.out k hlt) hr
        unfold verVal at hho
        obtain ⟨xh, hxh⟩ : ∃ x, hnd (ver k).i (ver k).g = x := ⟨_, rfl⟩
        obtain ⟨xv, hxv⟩ : ∃ x, (ver k).v = x := ⟨_, rfl⟩
        obtain ⟨xs, hxs⟩ : ∃ x, (ver k).s = x := ⟨_, rfl⟩
        obtain ⟨kk, hkk⟩ : ∃ x : Int, ((key k : Nat) : Int) = x := ⟨_, rfl⟩
        rw [hxh, hxv, hxs, hkk] at hho
        rw [hkk] at d0
        have Hov : Hid (old k = xh) := Lib.hid ((congrFun Hold.out k).symm.trans hxh)
        have Hvv : Hid (val k = xv) := Lib.hid ((congrFun Hval.out k).symm.trans hxv)
        have Hkk := Lib.hid hkk
        have Hho := Lib.hid hho
        have HbT := Lib.hid hbT
        have HL := Lib.hid hL
        clear hho hbT hL hm1 hr hxh hxv hxs hkk
        go_wp2_with fail
        refine Hho.out.mono ?_
        rintro e w2 ⟨rfl, hb2⟩
        obtain ⟨W2, hW2⟩ : ∃ W2, W2 = (w2.alloc (.cells #[.int .i64 xh, .int .i64 xv, .int .i64 xs] 97)).alloc (.cells #[.int .i64 xh, .int .i64 xv, .int .i64 xs] 97) := ⟨_, rfl⟩
        have g0 : W2.heap[w2.heap.size]? = some (.cells #[.int .i64 xh, .int .i64 xv, .int .i64 xs] 97 (0, 0)) := by rw [hW2]; exact heap_alloc2_old _ _ _
        have g1 : W2.heap[w2.heap.size + 1]? = some (.cells #[.int .i64 xh, .int .i64 xv, .int .i64 xs] 97 (0, 0)) := by rw [hW2]; exact heap_alloc2_new _ _ _
        have b2 : Below wr.heap.size wr W2 := by rw [hW2]; exact (hb2.alloc hb2.size _).alloc (by simp; have := hb2.size; omega) _
        have s2 : W2.heap.size = w2.heap.size + 2 := by rw [hW2]; simp
        have s0 : W2.drew.cell? ⟨w2.heap.size, 0, none⟩ = some (.int .i64 xh) := by show W2.cell? _ = _; simp [World.cell?, g0]
        have s1 : W2.drew.cell? ⟨w2.heap.size + 1, 1, none⟩ = some (.int .i64 xv) := by show W2.cell? _ = _; simp [World.cell?, g1]
        have nv0 : some (w2.heap.size) ≠ u8.ownBlock := fun e => by have h1 := (HL.out.vs.lt _ e.symm).2; have h2 := hb2.size; omega
        have nv1 : some (w2.heap.size + 1) ≠ u8.ownBlock := fun e => by have h1 := (HL.out.vs.lt _ e.symm).2; have h2 := hb2.size; omega
        have no0 : some (w2.heap.size) ≠ u9.ownBlock := fun e => by have h1 := (HL.out.os.lt _ e.symm).2; have h2 := hb2.size; omega
        have no1 : some (w2.heap.size + 1) ≠ u9.ownBlock := fun e => by have h1 := (HL.out.os.lt _ e.symm).2; have h2 := hb2.size; omega
        have HW2 := Lib.hid hW2
        have Hb2 := Lib.hid b2.drew
        have Hs2 : Hid (W2.drew.heap.size = w2.heap.size + 2) := Lib.hid s2
        clear hW2 g0 g1 b2 s2 hb2 d0 c2 c3
        go_wp2_with fail
        rw [← HW2.out]
        obtain ⟨ip, hip, zp0, zp1, zp2⟩ := info_parts infoBPair
        obtain ⟨ii, hii, zi0, zi1, zi2⟩ := info_parts infoBI
        have HBw : Hid (W.heap.size ≤ wr.heap.size) := Lib.hid HL.out.below.size
        have Hwz : Hid (wr.heap.size ≤ W2.drew.heap.size) := Lib.hid Hb2.out.size
        have HBz : Hid (W.heap.size ≤ W2.drew.heap.size) := Lib.hid (Nat.le_trans HBw.out Hwz.out)
        have q0 : some (W2.drew.heap.size) ≠ u8.ownBlock := fun e => by have h1 := (HL.out.vs.lt _ e.symm).2; have h2 := Hwz.out; omega
        have q1 : some (W2.drew.heap.size + 1) ≠ u8.ownBlock := fun e => by have h1 := (HL.out.vs.lt _ e.symm).2; have h2 := Hwz.out; omega
        refine Reg.start (fun w' => w'.cell? ⟨w2.heap.size, 0, none⟩ = some (.int .i64 xh) ∧ w'.cell? ⟨w2.heap.size + 1, 1, none⟩ = some (.int .i64 xv)) [] (by kernel_rfl) ?_ (fun hHeld => ?_)
        · first | exact True.intro | ((try dsimp only); first | exact ⟨s0, s1⟩ | exact ⟨(old_cell _ _ _ (World.block_lt_of_cell? _ _ hHeld.1)).trans hHeld.1, (old_cell _ _ _ (World.block_lt_of_cell? _ _ hHeld.2)).trans hHeld.2⟩ | exact ⟨hgrow7.cell hHeld.1 no0, hgrow7.cell hHeld.2 no1⟩ | exact ⟨hgrow5.cell hHeld.1 nv0, hgrow5.cell hHeld.2 nv1⟩)
        refine Reg.takeP (i := 0) (v := ?va9_0) rfl (by kernel_rfl) (by kernel_rfl) (by kernel_rfl) (by kernel_rfl) (fun _ _ _ h => h) (Or.inl ⟨by rfl, ?ha9_0⟩) (fun _ => hHeld) ?ra9_0
        case ha9_0 => (intro wS hSw; (try dsimp only at hSw); go_simp; all_goals with_reducible rfl)
        try simp only [Act.put, List.setIfInBounds_toArray, List.set_cons_zero, List.set_cons_succ]
        refine Reg.takeP (i := 1) (v := ?va9_1) rfl (by kernel_rfl) (by kernel_rfl) (by kernel_rfl) (by kernel_rfl) (fun _ _ _ h => h) (Or.inl ⟨by rfl, ?ha9_1⟩) (fun _ => hHeld) ?ra9_1
        case ha9_1 => (intro wS hSw; (try dsimp only at hSw); go_simp; all_goals with_reducible rfl)
        try simp only [Act.put, List.setIfInBounds_toArray, List.set_cons_zero, List.set_cons_succ]
        refine Reg.takeP (i := 2) (v := ?va9_2) rfl (by kernel_rfl) (by kernel_rfl) (by kernel_rfl) (by kernel_rfl) (fun _ _ _ h => h) (Or.inl ⟨by rfl, ?ha9_2⟩) (fun _ => hHeld) ?ra9_2
        case ha9_2 => (intro wS hSw; (try dsimp only at hSw); go_simp; all_goals with_reducible rfl)
        try simp only [Act.put, List.setIfInBounds_toArray, List.set_cons_zero, List.set_cons_succ]
        refine Reg.take (i := 3) (v := ?va9_3) rfl (by kernel_rfl) (by kernel_rfl) (by kernel_rfl) (by kernel_rfl) (fun _ _ _ h => h) (Or.inl ⟨by rfl, ?ha9_3⟩) hHeld ?ra9_3
        case ha9_3 => (intro wS hSw; (try dsimp only at hSw); go_simp; all_goals with_reducible rfl)
        try simp only [Act.put, List.setIfInBounds_toArray, List.set_cons_zero, List.set_cons_succ]
        refine Reg.takeP (i := 4) (v := ?va9_4) rfl (by kernel_rfl) (by kernel_rfl) (by kernel_rfl) (by kernel_rfl) (fun _ _ _ h => h) (Or.inl ⟨by rfl, ?ha9_4⟩) (fun _ => hHeld) ?ra9_4
        case ha9_4 => (intro wS hSw; (try dsimp only at hSw); go_simp; all_goals with_reducible rfl)
        try simp only [Act.put, List.setIfInBounds_toArray, List.set_cons_zero, List.set_cons_succ]
        refine Reg.takeP (i := 7) (v := ?va9_7) rfl (by kernel_rfl) (by kernel_rfl) (by kernel_rfl) (by kernel_rfl) (fun _ _ _ h => h) (Or.inl ⟨by rfl, ?ha9_7⟩) (fun _ => hHeld) ?ra9_7
        case ha9_7 => (intro wS hSw; (try dsimp only at hSw); go_simp; all_goals with_reducible rfl)
        try simp only [Act.put, List.setIfInBounds_toArray, List.set_cons_zero, List.set_cons_succ]
        refine Reg.takeP (i := 8) (v := ?va9_8) rfl (by kernel_rfl) (by kernel_rfl) (by kernel_rfl) (by kernel_rfl) (fun _ _ _ h => h) (Or.inl ⟨by rfl, ?ha9_8⟩) (fun _ => hHeld) ?ra9_8
        case ha9_8 => (intro wS hSw; (try dsimp only at hSw); go_simp; all_goals with_reducible rfl)
        try simp only [Act.put, List.setIfInBounds_toArray, List.set_cons_zero, List.set_cons_succ]
        refine Reg.take (i := 9) (v := ?va9_9) rfl (by kernel_rfl) (by kernel_rfl) (by kernel_rfl) (by kernel_rfl) (fun _ _ _ h => h) (Or.inl ⟨by rfl, ?ha9_9⟩) hHeld ?ra9_9
        case ha9_9 => (intro wS hSw; (try dsimp only at hSw); go_simp; all_goals with_reducible rfl)
        try simp only [Act.put, List.setIfInBounds_toArray, List.set_cons_zero, List.set_cons_succ]
        refine Reg.two (i := 5) (j := 10) rfl rfl (by kernel_rfl) (fun K hK => ?_) (fun K hK => ?_)
        · go_simp
          refine hK.out _ _ (fun _ => ?_) (fun hHeld => ?_)
          · first | exact True.intro | ((try dsimp only); first | exact ⟨s0, s1⟩ | exact ⟨(old_cell _ _ _ (World.block_lt_of_cell? _ _ hHeld.1)).trans hHeld.1, (old_cell _ _ _ (World.block_lt_of_cell? _ _ hHeld.2)).trans hHeld.2⟩ | exact ⟨hgrow7.cell hHeld.1 no0, hgrow7.cell hHeld.2 no1⟩ | exact ⟨hgrow5.cell hHeld.1 nv0, hgrow5.cell hHeld.2 nv1⟩)
          replace hHeld := hHeld (by decide)
          clear hK K
          try simp only [Act.put, List.setIfInBounds_toArray, List.set_cons_zero, List.set_cons_succ]
          refine Reg.two (i := 6) (j := 10) rfl rfl (by kernel_rfl) (fun K hK => ?_) (fun K hK => ?_)
          · (first | refine step_append_lies _ rfl (.tmp 39) (.tmp 44) 25 rfl W.heap.size 52 ip _ 2 16 Tryz.underlying25 hip zp0 zp1 zp2 rfl (by decide) u8 k (pairs key val k) rfl (HL.out.vsAt (Hb2.out.alloc Hwz.out _)) ⟨W2.drew.heap.size, 0, none⟩ 1 1 [.int .i64 kk, .int .i64 xv] rfl rfl (World.news_of_block (cs := #[.int .i64 kk, .int .i64 xv]) (t := 52) (fr := (0, 0)) (new_block _ _ _ rfl)) (by simp [Value.oneCell']) (by decide) (by unfold maxLen; omega) (by omega) (by have := HBz.out; simp at *; omega) _ rfl ?_ | refine step_append_lies _ rfl (.tmp 39) (.tmp 44) 25 rfl W.heap.size 52 ip _ 2 16 Tryz.underlying25 hip zp0 zp1 zp2 rfl (by decide) u8 k (pairs key val k) rfl (HL.out.vsAt ((Hb2.out.alloc Hwz.out _).alloc (by have := Hwz.out; simp at *; omega) _)) ⟨W2.drew.heap.size, 0, none⟩ 1 1 [.int .i64 kk, .int .i64 xv] rfl rfl (World.news_of_block (cs := #[.int .i64 kk, .int .i64 xv]) (t := 52) (fr := (0, 0)) (heap_alloc2_old _ _ _)) (by simp [Value.oneCell']) (by decide) (by unfold maxLen; omega) (by omega) (by have := HBz.out; simp at *; omega) _ rfl ?_ | refine step_append_lies _ rfl (.tmp 39) (.tmp 44) 25 rfl W.heap.size 52 ip _ 2 16 Tryz.underlying25 hip zp0 zp1 zp2 rfl (by decide) u8 k (pairs key val k) rfl (HL.out.vsAt ((Hb2.out.alloc Hwz.out _).alloc (by have := Hwz.out; simp at *; omega) _)) ⟨W2.drew.heap.size + 1, 0, none⟩ 1 1 [.int .i64 kk, .int .i64 xv] rfl rfl (World.news_of_block (cs := #[.int .i64 kk, .int .i64 xv]) (t := 52) (fr := (0, 0)) (heap_alloc2_new _ _ _)) (by simp [Value.oneCell']) (by decide) (by unfold maxLen; omega) (by omega) (by have := HBz.out; simp at *; omega) _ rfl ?_); intro g5 c5 w5 hown5 hgrow5 hat5 hlt5
            refine hK.out _ _ (fun _ => ?_) (fun hHeld => ?_)
            · first | exact True.intro | ((try dsimp only); first | exact ⟨s0, s1⟩ | exact ⟨(old_cell _ _ _ (World.block_lt_of_cell? _ _ hHeld.1)).trans hHeld.1, (old_cell _ _ _ (World.block_lt_of_cell? _ _ hHeld.2)).trans hHeld.2⟩ | exact ⟨hgrow7.cell hHeld.1 no0, hgrow7.cell hHeld.2 no1⟩ | exact ⟨hgrow5.cell hHeld.1 nv0, hgrow5.cell hHeld.2 nv1⟩)
            replace hHeld := hHeld (by decide)
            clear hK K
            try simp only [Act.put, List.setIfInBounds_toArray, List.set_cons_zero, List.set_cons_succ]
            refine Reg.one (i := 10) rfl (by kernel_rfl) (fun K hK => ?_)
            go_simp
            refine hK.out _ _ (fun _ => ?_) (fun hHeld => ?_)
            · first | exact True.intro | ((try dsimp only); first | exact ⟨s0, s1⟩ | exact ⟨(old_cell _ _ _ (World.block_lt_of_cell? _ _ hHeld.1)).trans hHeld.1, (old_cell _ _ _ (World.block_lt_of_cell? _ _ hHeld.2)).trans hHeld.2⟩ | exact ⟨hgrow7.cell hHeld.1 no0, hgrow7.cell hHeld.2 no1⟩ | exact ⟨hgrow5.cell hHeld.1 nv0, hgrow5.cell hHeld.2 nv1⟩)
            replace hHeld := hHeld (by decide)
            clear hK K
            try simp only [Act.put, List.setIfInBounds_toArray, List.set_cons_zero, List.set_cons_succ]
            refine Reg.one (i := 11) rfl (by kernel_rfl) (fun K hK => ?_)
            (first | refine step_append_lies _ rfl (.tmp 46) (.tmp 49) 22 rfl W.heap.size 3 ii _ 1 8 Tryz.underlying22 hii zi0 zi1 zi2 rfl (by decide) u9 k (ints old k) rfl ((HL.out.osAt5 (Hb2.out.alloc Hwz.out _) hgrow5).alloc _) ⟨w5.heap.size, 0, none⟩ 1 1 [.int .i64 xh] rfl rfl (World.news_of_block (cs := #[.int .i64 xh]) (t := 3) (fr := (0, 0)) (new_block _ _ _ rfl)) (by simp [Value.oneCell']) (by decide) (by unfold maxLen; omega) (by omega) (by have := HBz.out; have h9 := hgrow5.size; simp at *; omega) _ rfl ?_ | refine step_append_lies _ rfl (.tmp 46) (.tmp 49) 22 rfl W.heap.size 3 ii _ 1 8 Tryz.underlying22 hii zi0 zi1 zi2 rfl (by decide) u9 k (ints old k) rfl (HL.out.osAt5 ((Hb2.out.alloc Hwz.out _).alloc (by have := Hwz.out; simp at *; omega) _) hgrow5) ⟨W2.drew.heap.size + 1, 0, none⟩ 1 1 [.int .i64 xh] rfl rfl (World.news_of_block (cs := #[.int .i64 xh]) (t := 3) (fr := (0, 0)) ((hgrow5.block _ (by simp) q1).trans (heap_alloc2_new _ _ _))) (by simp [Value.oneCell']) (by decide) (by unfold maxLen; omega) (by omega) (by have := HBz.out; have h9 := hgrow5.size; simp at *; omega) _ rfl ?_ | refine step_append_lies _ rfl (.tmp 46) (.tmp 49) 22 rfl W.heap.size 3 ii _ 1 8 Tryz.underlying22 hii zi0 zi1 zi2 rfl (by decide) u9 k (ints old k) rfl (HL.out.osAt5 ((Hb2.out.alloc Hwz.out _).alloc (by have := Hwz.out; simp at *; omega) _) hgrow5) ⟨W2.drew.heap.size, 0, none⟩ 1 1 [.int .i64 xh] rfl rfl (World.news_of_block (cs := #[.int .i64 xh]) (t := 3) (fr := (0, 0)) ((hgrow5.block _ (by simp; omega) q0).trans (heap_alloc2_old _ _ _))) (by simp [Value.oneCell']) (by decide) (by unfold maxLen; omega) (by omega) (by have := HBz.out; have h9 := hgrow5.size; simp at *; omega) _ rfl ?_); intro g7 c7 w7 hown7 hgrow7 hat7 hlt7
            refine hK.out _ _ (fun _ => ?_) (fun hHeld => ?_)
            · first | exact True.intro | ((try dsimp only); first | exact ⟨s0, s1⟩ | exact ⟨(old_cell _ _ _ (World.block_lt_of_cell? _ _ hHeld.1)).trans hHeld.1, (old_cell _ _ _ (World.block_lt_of_cell? _ _ hHeld.2)).trans hHeld.2⟩ | exact ⟨hgrow7.cell hHeld.1 no0, hgrow7.cell hHeld.2 no1⟩ | exact ⟨hgrow5.cell hHeld.1 nv0, hgrow5.cell hHeld.2 nv1⟩)
            replace hHeld := hHeld (by decide)
            clear hK K
            try simp only [Act.put, List.setIfInBounds_toArray, List.set_cons_zero, List.set_cons_succ]
            refine Reg.takeP (i := 12) (v := ?va9aa_12) rfl (by kernel_rfl) (by kernel_rfl) (by kernel_rfl) (by kernel_rfl) (fun _ _ _ h => h) (Or.inl ⟨by rfl, ?ha9aa_12⟩) (fun _ => hHeld) ?ra9aa_12
            case ha9aa_12 => (intro wS hSw; (try dsimp only at hSw); go_simp; all_goals with_reducible rfl)
            try simp only [Act.put, List.setIfInBounds_toArray, List.set_cons_zero, List.set_cons_succ]
            refine Reg.takeP (i := 13) (v := ?va9aa_13) rfl (by kernel_rfl) (by kernel_rfl) (by kernel_rfl) (by kernel_rfl) (fun _ _ _ h => h) (Or.inl ⟨by rfl, ?ha9aa_13⟩) (fun _ => hHeld) ?ra9aa_13
            case ha9aa_13 => (intro wS hSw; (try dsimp only at hSw); go_simp; all_goals with_reducible rfl)
            try simp only [Act.put, List.setIfInBounds_toArray, List.set_cons_zero, List.set_cons_succ]
            refine Reg.done (by kernel_rfl) ?_ _
            (go_wp2_with fail; go_roundw; (case rel => (refine ⟨k + 1, by omega, by go_num, ?_⟩; have h5 : w5.ownsRow W.heap.size 52 2 (.slice (some ⟨g5, 0, none⟩) (k + 1) c5) (k + 1) (pairs key val (k + 1)) := (by rw [pairs_succ, Hkk.out, Hvv.out]; exact hown5); have h7 : w7.ownsRow W.heap.size 3 1 (.slice (some ⟨g7, 0, none⟩) (k + 1) c7) (k + 1) (ints old (k + 1)) := (by rw [ints_succ, Hov.out]; exact hown7); exact HL.out.step HBw.out (by first | exact Hb2.out.alloc Hwz.out _ | exact (Hb2.out.alloc Hwz.out _).alloc (by have := Hwz.out; simp at *; omega) _) hgrow5 (by first | exact Below.refl _ _ | exact (Below.refl _ _).alloc (Nat.le_refl _) _) hgrow7 h5 hat5 h7 hat7)); (case measure => (simp [intOf]; omega)))
          · go_simp
            refine hK.out _ _ (fun _ => ?_) (fun hHeld => ?_)
            · first | exact True.intro | ((try dsimp only); first | exact ⟨s0, s1⟩ | exact ⟨(old_cell _ _ _ (World.block_lt_of_cell? _ _ hHeld.1)).trans hHeld.1, (old_cell _ _ _ (World.block_lt_of_cell? _ _ hHeld.2)).trans hHeld.2⟩ | exact ⟨hgrow7.cell hHeld.1 no0, hgrow7.cell hHeld.2 no1⟩ | exact ⟨hgrow5.cell hHeld.1 nv0, hgrow5.cell hHeld.2 nv1⟩)
            replace hHeld := hHeld (by decide)
            clear hK K
            try simp only [Act.put, List.setIfInBounds_toArray, List.set_cons_zero, List.set_cons_succ]
            refine Reg.one (i := 6) rfl (by kernel_rfl) (fun K hK => ?_)
            (first | refine step_append_lies _ rfl (.tmp 39) (.tmp 44) 25 rfl W.heap.size 52 ip _ 2 16 Tryz.underlying25 hip zp0 zp1 zp2 rfl (by decide) u8 k (pairs key val k) rfl (HL.out.vsAt (Hb2.out.alloc Hwz.out _)) ⟨W2.drew.heap.size, 0, none⟩ 1 1 [.int .i64 kk, .int .i64 xv] rfl rfl (World.news_of_block (cs := #[.int .i64 kk, .int .i64 xv]) (t := 52) (fr := (0, 0)) (new_block _ _ _ rfl)) (by simp [Value.oneCell']) (by decide) (by unfold maxLen; omega) (by omega) (by have := HBz.out; simp at *; omega) _ rfl ?_ | refine step_append_lies _ rfl (.tmp 39) (.tmp 44) 25 rfl W.heap.size 52 ip _ 2 16 Tryz.underlying25 hip zp0 zp1 zp2 rfl (by decide) u8 k (pairs key val k) rfl (HL.out.vsAt ((Hb2.out.alloc Hwz.out _).alloc (by have := Hwz.out; simp at *; omega) _)) ⟨W2.drew.heap.size, 0, none⟩ 1 1 [.int .i64 kk, .int .i64 xv] rfl rfl (World.news_of_block (cs := #[.int .i64 kk, .int .i64 xv]) (t := 52) (fr := (0, 0)) (heap_alloc2_old _ _ _)) (by simp [Value.oneCell']) (by decide) (by unfold maxLen; omega) (by omega) (by have := HBz.out; simp at *; omega) _ rfl ?_ | refine step_append_lies _ rfl (.tmp 39) (.tmp 44) 25 rfl W.heap.size 52 ip _ 2 16 Tryz.underlying25 hip zp0 zp1 zp2 rfl (by decide) u8 k (pairs key val k) rfl (HL.out.vsAt ((Hb2.out.alloc Hwz.out _).alloc (by have := Hwz.out; simp at *; omega) _)) ⟨W2.drew.heap.size + 1, 0, none⟩ 1 1 [.int .i64 kk, .int .i64 xv] rfl rfl (World.news_of_block (cs := #[.int .i64 kk, .int .i64 xv]) (t := 52) (fr := (0, 0)) (heap_alloc2_new _ _ _)) (by simp [Value.oneCell']) (by decide) (by unfold maxLen; omega) (by omega) (by have := HBz.out; simp at *; omega) _ rfl ?_); intro g5 c5 w5 hown5 hgrow5 hat5 hlt5
            refine hK.out _ _ (fun _ => ?_) (fun hHeld => ?_)
            · first | exact True.intro | ((try dsimp only); first | exact ⟨s0, s1⟩ | exact ⟨(old_cell _ _ _ (World.block_lt_of_cell? _ _ hHeld.1)).trans hHeld.1, (old_cell _ _ _ (World.block_lt_of_cell? _ _ hHeld.2)).trans hHeld.2⟩ | exact ⟨hgrow7.cell hHeld.1 no0, hgrow7.cell hHeld.2 no1⟩ | exact ⟨hgrow5.cell hHeld.1 nv0, hgrow5.cell hHeld.2 nv1⟩)
            replace hHeld := hHeld (by decide)
            clear hK K
            try simp only [Act.put, List.setIfInBounds_toArray, List.set_cons_zero, List.set_cons_succ]
            refine Reg.one (i := 11) rfl (by kernel_rfl) (fun K hK => ?_)
            (first | refine step_append_lies _ rfl (.tmp 46) (.tmp 49) 22 rfl W.heap.size 3 ii _ 1 8 Tryz.underlying22 hii zi0 zi1 zi2 rfl (by decide) u9 k (ints old k) rfl ((HL.out.osAt5 (Hb2.out.alloc Hwz.out _) hgrow5).alloc _) ⟨w5.heap.size, 0, none⟩ 1 1 [.int .i64 xh] rfl rfl (World.news_of_block (cs := #[.int .i64 xh]) (t := 3) (fr := (0, 0)) (new_block _ _ _ rfl)) (by simp [Value.oneCell']) (by decide) (by unfold maxLen; omega) (by omega) (by have := HBz.out; have h9 := hgrow5.size; simp at *; omega) _ rfl ?_ | refine step_append_lies _ rfl (.tmp 46) (.tmp 49) 22 rfl W.heap.size 3 ii _ 1 8 Tryz.underlying22 hii zi0 zi1 zi2 rfl (by decide) u9 k (ints old k) rfl (HL.out.osAt5 ((Hb2.out.alloc Hwz.out _).alloc (by have := Hwz.out; simp at *; omega) _) hgrow5) ⟨W2.drew.heap.size + 1, 0, none⟩ 1 1 [.int .i64 xh] rfl rfl (World.news_of_block (cs := #[.int .i64 xh]) (t := 3) (fr := (0, 0)) ((hgrow5.block _ (by simp) q1).trans (heap_alloc2_new _ _ _))) (by simp [Value.oneCell']) (by decide) (by unfold maxLen; omega) (by omega) (by have := HBz.out; have h9 := hgrow5.size; simp at *; omega) _ rfl ?_ | refine step_append_lies _ rfl (.tmp 46) (.tmp 49) 22 rfl W.heap.size 3 ii _ 1 8 Tryz.underlying22 hii zi0 zi1 zi2 rfl (by decide) u9 k (ints old k) rfl (HL.out.osAt5 ((Hb2.out.alloc Hwz.out _).alloc (by have := Hwz.out; simp at *; omega) _) hgrow5) ⟨W2.drew.heap.size, 0, none⟩ 1 1 [.int .i64 xh] rfl rfl (World.news_of_block (cs := #[.int .i64 xh]) (t := 3) (fr := (0, 0)) ((hgrow5.block _ (by simp; omega) q0).trans (heap_alloc2_old _ _ _))) (by simp [Value.oneCell']) (by decide) (by unfold maxLen; omega) (by omega) (by have := HBz.out; have h9 := hgrow5.size; simp at *; omega) _ rfl ?_); intro g7 c7 w7 hown7 hgrow7 hat7 hlt7
            refine hK.out _ _ (fun _ => ?_) (fun hHeld => ?_)
            · first | exact True.intro | ((try dsimp only); first | exact ⟨s0, s1⟩ | exact ⟨(old_cell _ _ _ (World.block_lt_of_cell? _ _ hHeld.1)).trans hHeld.1, (old_cell _ _ _ (World.block_lt_of_cell? _ _ hHeld.2)).trans hHeld.2⟩ | exact ⟨hgrow7.cell hHeld.1 no0, hgrow7.cell hHeld.2 no1⟩ | exact ⟨hgrow5.cell hHeld.1 nv0, hgrow5.cell hHeld.2 nv1⟩)
            replace hHeld := hHeld (by decide)
            clear hK K
            try simp only [Act.put, List.setIfInBounds_toArray, List.set_cons_zero, List.set_cons_succ]
            refine Reg.takeP (i := 12) (v := ?va9ab_12) rfl (by kernel_rfl) (by kernel_rfl) (by kernel_rfl) (by kernel_rfl) (fun _ _ _ h => h) (Or.inl ⟨by rfl, ?ha9ab_12⟩) (fun _ => hHeld) ?ra9ab_12
            case ha9ab_12 => (intro wS hSw; (try dsimp only at hSw); go_simp; all_goals with_reducible rfl)
            try simp only [Act.put, List.setIfInBounds_toArray, List.set_cons_zero, List.set_cons_succ]
            refine Reg.takeP (i := 13) (v := ?va9ab_13) rfl (by kernel_rfl) (by kernel_rfl) (by kernel_rfl) (by kernel_rfl) (fun _ _ _ h => h) (Or.inl ⟨by rfl, ?ha9ab_13⟩) (fun _ => hHeld) ?ra9ab_13
            case ha9ab_13 => (intro wS hSw; (try dsimp only at hSw); go_simp; all_goals with_reducible rfl)
            try simp only [Act.put, List.setIfInBounds_toArray, List.set_cons_zero, List.set_cons_succ]
            refine Reg.done (by kernel_rfl) ?_ _
            (go_wp2_with fail; go_roundw; (case rel => (refine ⟨k + 1, by omega, by go_num, ?_⟩; have h5 : w5.ownsRow W.heap.size 52 2 (.slice (some ⟨g5, 0, none⟩) (k + 1) c5) (k + 1) (pairs key val (k + 1)) := (by rw [pairs_succ, Hkk.out, Hvv.out]; exact hown5); have h7 : w7.ownsRow W.heap.size 3 1 (.slice (some ⟨g7, 0, none⟩) (k + 1) c7) (k + 1) (ints old (k + 1)) := (by rw [ints_succ, Hov.out]; exact hown7); exact HL.out.step HBw.out (by first | exact Hb2.out.alloc Hwz.out _ | exact (Hb2.out.alloc Hwz.out _).alloc (by have := Hwz.out; simp at *; omega) _) hgrow5 (by first | exact Below.refl _ _ | exact (Below.refl _ _).alloc (Nat.le_refl _) _) hgrow7 h5 hat5 h7 hat7)); (case measure => (simp [intOf]; omega)))
        · go_simp
          refine hK.out _ _ (fun _ => ?_) (fun hHeld => ?_)
          · first | exact True.intro | ((try dsimp only); first | exact ⟨s0, s1⟩ | exact ⟨(old_cell _ _ _ (World.block_lt_of_cell? _ _ hHeld.1)).trans hHeld.1, (old_cell _ _ _ (World.block_lt_of_cell? _ _ hHeld.2)).trans hHeld.2⟩ | exact ⟨hgrow7.cell hHeld.1 no0, hgrow7.cell hHeld.2 no1⟩ | exact ⟨hgrow5.cell hHeld.1 nv0, hgrow5.cell hHeld.2 nv1⟩)
          replace hHeld := hHeld (by decide)
          clear hK K
          try simp only [Act.put, List.setIfInBounds_toArray, List.set_cons_zero, List.set_cons_succ]
          refine Reg.one (i := 5) rfl (by kernel_rfl) (fun K hK => ?_)
          go_simp
          refine hK.out _ _ (fun _ => ?_) (fun hHeld => ?_)
          · first | exact True.intro | ((try dsimp only); first | exact ⟨s0, s1⟩ | exact ⟨(old_cell _ _ _ (World.block_lt_of_cell? _ _ hHeld.1)).trans hHeld.1, (old_cell _ _ _ (World.block_lt_of_cell? _ _ hHeld.2)).trans hHeld.2⟩ | exact ⟨hgrow7.cell hHeld.1 no0, hgrow7.cell hHeld.2 no1⟩ | exact ⟨hgrow5.cell hHeld.1 nv0, hgrow5.cell hHeld.2 nv1⟩)
          replace hHeld := hHeld (by decide)
          clear hK K
          try simp only [Act.put, List.setIfInBounds_toArray, List.set_cons_zero, List.set_cons_succ]
          refine Reg.one (i := 6) rfl (by kernel_rfl) (fun K hK => ?_)
          (first | refine step_append_lies _ rfl (.tmp 39) (.tmp 44) 25 rfl W.heap.size 52 ip _ 2 16 Tryz.underlying25 hip zp0 zp1 zp2 rfl (by decide) u8 k (pairs key val k) rfl (HL.out.vsAt (Hb2.out.alloc Hwz.out _)) ⟨W2.drew.heap.size, 0, none⟩ 1 1 [.int .i64 kk, .int .i64 xv] rfl rfl (World.news_of_block (cs := #[.int .i64 kk, .int .i64 xv]) (t := 52) (fr := (0, 0)) (new_block _ _ _ rfl)) (by simp [Value.oneCell']) (by decide) (by unfold maxLen; omega) (by omega) (by have := HBz.out; simp at *; omega) _ rfl ?_ | refine step_append_lies _ rfl (.tmp 39) (.tmp 44) 25 rfl W.heap.size 52 ip _ 2 16 Tryz.underlying25 hip zp0 zp1 zp2 rfl (by decide) u8 k (pairs key val k) rfl (HL.out.vsAt ((Hb2.out.alloc Hwz.out _).alloc (by have := Hwz.out; simp at *; omega) _)) ⟨W2.drew.heap.size, 0, none⟩ 1 1 [.int .i64 kk, .int .i64 xv] rfl rfl (World.news_of_block (cs := #[.int .i64 kk, .int .i64 xv]) (t := 52) (fr := (0, 0)) (heap_alloc2_old _ _ _)) (by simp [Value.oneCell']) (by decide) (by unfold maxLen; omega) (by omega) (by have := HBz.out; simp at *; omega) _ rfl ?_ | refine step_append_lies _ rfl (.tmp 39) (.tmp 44) 25 rfl W.heap.size 52 ip _ 2 16 Tryz.underlying25 hip zp0 zp1 zp2 rfl (by decide) u8 k (pairs key val k) rfl (HL.out.vsAt ((Hb2.out.alloc Hwz.out _).alloc (by have := Hwz.out; simp at *; omega) _)) ⟨W2.drew.heap.size + 1, 0, none⟩ 1 1 [.int .i64 kk, .int .i64 xv] rfl rfl (World.news_of_block (cs := #[.int .i64 kk, .int .i64 xv]) (t := 52) (fr := (0, 0)) (heap_alloc2_new _ _ _)) (by simp [Value.oneCell']) (by decide) (by unfold maxLen; omega) (by omega) (by have := HBz.out; simp at *; omega) _ rfl ?_); intro g5 c5 w5 hown5 hgrow5 hat5 hlt5
          refine hK.out _ _ (fun _ => ?_) (fun hHeld => ?_)
          · first | exact True.intro | ((try dsimp only); first | exact ⟨s0, s1⟩ | exact ⟨(old_cell _ _ _ (World.block_lt_of_cell? _ _ hHeld.1)).trans hHeld.1, (old_cell _ _ _ (World.block_lt_of_cell? _ _ hHeld.2)).trans hHeld.2⟩ | exact ⟨hgrow7.cell hHeld.1 no0, hgrow7.cell hHeld.2 no1⟩ | exact ⟨hgrow5.cell hHeld.1 nv0, hgrow5.cell hHeld.2 nv1⟩)
          replace hHeld := hHeld (by decide)
          clear hK K
          try simp only [Act.put, List.setIfInBounds_toArray, List.set_cons_zero, List.set_cons_succ]
          refine Reg.one (i := 11) rfl (by kernel_rfl) (fun K hK => ?_)
          (first | refine step_append_lies _ rfl (.tmp 46) (.tmp 49) 22 rfl W.heap.size 3 ii _ 1 8 Tryz.underlying22 hii zi0 zi1 zi2 rfl (by decide) u9 k (ints old k) rfl ((HL.out.osAt5 (Hb2.out.alloc Hwz.out _) hgrow5).alloc _) ⟨w5.heap.size, 0, none⟩ 1 1 [.int .i64 xh] rfl rfl (World.news_of_block (cs := #[.int .i64 xh]) (t := 3) (fr := (0, 0)) (new_block _ _ _ rfl)) (by simp [Value.oneCell']) (by decide) (by unfold maxLen; omega) (by omega) (by have := HBz.out; have h9 := hgrow5.size; simp at *; omega) _ rfl ?_ | refine step_append_lies _ rfl (.tmp 46) (.tmp 49) 22 rfl W.heap.size 3 ii _ 1 8 Tryz.underlying22 hii zi0 zi1 zi2 rfl (by decide) u9 k (ints old k) rfl (HL.out.osAt5 ((Hb2.out.alloc Hwz.out _).alloc (by have := Hwz.out; simp at *; omega) _) hgrow5) ⟨W2.drew.heap.size + 1, 0, none⟩ 1 1 [.int .i64 xh] rfl rfl (World.news_of_block (cs := #[.int .i64 xh]) (t := 3) (fr := (0, 0)) ((hgrow5.block _ (by simp) q1).trans (heap_alloc2_new _ _ _))) (by simp [Value.oneCell']) (by decide) (by unfold maxLen; omega) (by omega) (by have := HBz.out; have h9 := hgrow5.size; simp at *; omega) _ rfl ?_ | refine step_append_lies _ rfl (.tmp 46) (.tmp 49) 22 rfl W.heap.size 3 ii _ 1 8 Tryz.underlying22 hii zi0 zi1 zi2 rfl (by decide) u9 k (ints old k) rfl (HL.out.osAt5 ((Hb2.out.alloc Hwz.out _).alloc (by have := Hwz.out; simp at *; omega) _) hgrow5) ⟨W2.drew.heap.size, 0, none⟩ 1 1 [.int .i64 xh] rfl rfl (World.news_of_block (cs := #[.int .i64 xh]) (t := 3) (fr := (0, 0)) ((hgrow5.block _ (by simp; omega) q0).trans (heap_alloc2_old _ _ _))) (by simp [Value.oneCell']) (by decide) (by unfold maxLen; omega) (by omega) (by have := HBz.out; have h9 := hgrow5.size; simp at *; omega) _ rfl ?_); intro g7 c7 w7 hown7 hgrow7 hat7 hlt7
          refine hK.out _ _ (fun _ => ?_) (fun hHeld => ?_)
          · first | exact True.intro | ((try dsimp only); first | exact ⟨s0, s1⟩ | exact ⟨(old_cell _ _ _ (World.block_lt_of_cell? _ _ hHeld.1)).trans hHeld.1, (old_cell _ _ _ (World.block_lt_of_cell? _ _ hHeld.2)).trans hHeld.2⟩ | exact ⟨hgrow7.cell hHeld.1 no0, hgrow7.cell hHeld.2 no1⟩ | exact ⟨hgrow5.cell hHeld.1 nv0, hgrow5.cell hHeld.2 nv1⟩)
          replace hHeld := hHeld (by decide)
          clear hK K
          try simp only [Act.put, List.setIfInBounds_toArray, List.set_cons_zero, List.set_cons_succ]
          refine Reg.takeP (i := 12) (v := ?va9b_12) rfl (by kernel_rfl) (by kernel_rfl) (by kernel_rfl) (by kernel_rfl) (fun _ _ _ h => h) (Or.inl ⟨by rfl, ?ha9b_12⟩) (fun _ => hHeld) ?ra9b_12
          case ha9b_12 => (intro wS hSw; (try dsimp only at hSw); go_simp; all_goals with_reducible rfl)
          try simp only [Act.put, List.setIfInBounds_toArray, List.set_cons_zero, List.set_cons_succ]
          refine Reg.takeP (i := 13) (v := ?va9b_13) rfl (by kernel_rfl) (by kernel_rfl) (by kernel_rfl) (by kernel_rfl) (fun _ _ _ h => h) (Or.inl ⟨by rfl, ?ha9b_13⟩) (fun _ => hHeld) ?ra9b_13
          case ha9b_13 => (intro wS hSw; (try dsimp only at hSw); go_simp; all_goals with_reducible rfl)
          try simp only [Act.put, List.setIfInBounds_toArray, List.set_cons_zero, List.set_cons_succ]
          refine Reg.done (by kernel_rfl) ?_ _
          (go_wp2_with fail; go_roundw; (case rel => (refine ⟨k + 1, by omega, by go_num, ?_⟩; have h5 : w5.ownsRow W.heap.size 52 2 (.slice (some ⟨g5, 0, none⟩) (k + 1) c5) (k + 1) (pairs key val (k + 1)) := (by rw [pairs_succ, Hkk.out, Hvv.out]; exact hown5); have h7 : w7.ownsRow W.heap.size 3 1 (.slice (some ⟨g7, 0, none⟩) (k + 1) c7) (k + 1) (ints old (k + 1)) := (by rw [ints_succ, Hov.out]; exact hown7); exact HL.out.step HBw.out (by first | exact Hb2.out.alloc Hwz.out _ | exact (Hb2.out.alloc Hwz.out _).alloc (by have := Hwz.out; simp at *; omega) _) hgrow5 (by first | exact Below.refl _ _ | exact (Below.refl _ _).alloc (Nat.le_refl _) _) hgrow7 h5 hat5 h7 hat7)); (case measure => (simp [intOf]; omega)))
      · have : k = 2 := by omega
        rw [this] at hL
        obtain ⟨gv, cv, e1, hB1, hl1⟩ := hL.vs.form (by omega)
        obtain ⟨gq, cq, e2, hB2, hl2⟩ := hL.os.form (by omega)
        rw [e1, e2] at hL
        have hv : ∀ j, j < 2 → CellIs wr gv (j * 2) (.int .i64 (key j : Nat)) ∧ CellIs wr gv (j * 2 + 1) (.int .i64 (val j)) := fun j hj => by
          have hp := pairs_get key val 2 2 j hj
          have hlen := pairs_length key val 2
          refine ⟨⟨?_, hL.vs.frozenAt _⟩, ⟨?_, hL.vs.frozenAt _⟩⟩
          · rw [hL.vs.cellAt _ (by omega), Nat.mul_comm]; exact hp.1
          · rw [hL.vs.cellAt _ (by omega), Nat.mul_comm]; exact hp.2
        have hq : ∀ j, j < 2 → wr.cell? ⟨gq, j, none⟩ = some (.int .i64 (old j)) := fun j hj => by
          rw [hL.os.cellAt _ (by omega)]; simp [ints, hj]
        have hne : gv ≠ gq := fun e => hL.sep gv rfl (by rw [e]; rfl)
        have hbT : Below w.heap.size w wr := HbW.out.trans (hL.below.mono HbW.out.size)
        have Hv := Lib.hid hv
        have Hq := Lib.hid hq
        have Hne := Lib.hid hne
        have HbT := Lib.hid hbT
        have HB1 := Lib.hid hB1
        have HB2 := Lib.hid hB2
        have Hl1 := Lib.hid hl1
        have Hl2 := Lib.hid hl2
        subst e1
        subst e2
        clear hL hB1 hB2 hl1 hl2 hv hq hne hbT
        have hlf : decide ((k : Int) < 2) = false := by rw [decide_eq_false_iff_not]; omega
        clear this hk hlt
        go_wp2_with fail
        clear hlf
        obtain ⟨w1, rfl⟩ : ∃ w1, w1 = wr := ⟨_, rfl⟩
        go_loopw [54] (fun i wr => ∃ k : Nat, k ≤ 2 ∧ i = .int .i64 k ∧ Ad b n key val gv w1 wr k) (fun i _ => 2 - (intOf i).toNat)
        case atStart => exact ⟨0, by omega, rfl, fun j hj => ⟨(Hv.out j hj).1, by rw [if_neg (by omega)]; exact (Hv.out j hj).2⟩, Keep.refl _ _ _, fun j hj => absurd hj (by omega)⟩
        case round =>
          obtain ⟨k, hk, rfl, hA⟩ := hrel
          by_cases hlt : k < 2
          · have hlw : W.heap.size ≤ w1.heap.size := Nat.le_trans HB1.out (Nat.le_of_lt Hl1.out)
            have hlv : w.heap.size < gv := Nat.lt_of_lt_of_le (Nat.lt_of_lt_of_le (Nat.lt_succ_self _) (Nat.le_of_eq HsW.out.symm)) HB1.out
            have hbl : ∀ g, g < w.heap.size → wr.heap[g]? = w.heap[g]? := fun g hg => (hA.keep.block g (Nat.lt_of_lt_of_le hg HbT.out.size) (by omega)).trans (HbT.out.block g hg)
            have c1 := (World.cell?_of_block (a := ⟨tb, 0, none⟩) (hbl tb HL1.out)).trans CB.out
            have c4 := (World.cell?_of_block (a := ⟨nbx, 0, none⟩) (hbl nbx HL4.out)).trans C4.out
            obtain ⟨z, hz⟩ : ∃ x : Int, ((b : Nat) : Int) = x := ⟨_, rfl⟩
            obtain ⟨kk, hkk⟩ : ∃ x : Int, ((key k : Nat) : Int) = x := ⟨_, rfl⟩
            obtain ⟨vk, hvk⟩ : ∃ x : Int, val k = x := ⟨_, rfl⟩
            rw [hz] at c1
            have e1 := (hA.cl k hlt).1
            have e2 := (hA.cl k hlt).2
            rw [hkk] at e1
            rw [if_neg (by omega), hvk] at e2
            have e1c := e1.cell
            have e2c := e2.cell
            have e2f := e2.frz
            have HA2 := Lib.hid hA
            have Hhz := Lib.hid hz
            have Hhk := Lib.hid hkk
            have Hhv := Lib.hid hvk
            clear hbl hA e1 e2 hz hkk hvk hlw hlv
            by_cases hkb : key k = b
            · have hq : (kk == z) = true := by rw [beq_iff_eq, ← Hhk.out, ← Hhz.out, hkb]
              have Hkb := Lib.hid hkb
              clear hkb
              go_wp2_with fail
              refine wp_region_still_tail 7 (by kernel_rfl) (by kernel_rfl) ?_
              simp only [List.take_succ_cons, List.take_zero, List.drop_succ_cons, List.drop_zero]
              change wpStill _ _ (World.drew _) _ _ _
              repeat (first | (refine wpStill_step (fun K hK => ?_); go_simp; refine hK _ ?_; clear hK K))
              refine wpStill_nil ?_
              change wpList _ _ _ _ _ (World.drew _)
              go_wp2_with fail
              refine wp_region_still_tail 9 (by kernel_rfl) (by kernel_rfl) ?_
              simp only [List.take_succ_cons, List.take_zero, List.drop_succ_cons, List.drop_zero]
              change wpStill _ _ (World.drew _) _ _ _
              repeat (first | (refine wpStill_step (fun K hK => ?_); go_simp; refine hK _ ?_; clear hK K))
              refine wpStill_nil ?_
              change wpList _ _ _ _ _ (World.drew _)
              go_wp2_with fail
              go_roundw
              case rel => exact ⟨k + 1, by omega, by go_num, (HA2.out.drew.drew).step hlt (by unfold newOf; rw [if_pos Hkb.out, Hhv.out]) (fun h => absurd Hkb.out h)⟩
              case measure => simp [intOf]; omega
            · have hq : (kk == z) = false := by rw [beq_eq_false_iff_ne, ← Hhk.out, ← Hhz.out]; omega
              have Hkb := Lib.hid hkb
              clear hkb
              by_cases hvn : vk < n
              · have hq2 : decide (vk < n) = true := decide_eq_true hvn
                have Hvn := Lib.hid hvn
                go_wp2_with fail
                refine wp_region_still_tail 7 (by kernel_rfl) (by kernel_rfl) ?_
                simp only [List.take_succ_cons, List.take_zero, List.drop_succ_cons, List.drop_zero]
                change wpStill _ _ (World.drew _) _ _ _
                repeat (first | (refine wpStill_step (fun K hK => ?_); go_simp; refine hK _ ?_; clear hK K))
                refine wpStill_nil ?_
                change wpList _ _ _ _ _ (World.drew _)
                go_wp2_with fail
                refine wp_region_still_tail 7 (by kernel_rfl) (by kernel_rfl) ?_
                simp only [List.take_succ_cons, List.take_zero, List.drop_succ_cons, List.drop_zero]
                change wpStill _ _ (World.drew _) _ _ _
                repeat (first | (refine wpStill_step (fun K hK => ?_); go_simp; refine hK _ ?_; clear hK K))
                refine wpStill_nil ?_
                change wpList _ _ _ _ _ (World.drew _)
                go_wp2_with fail
                refine bodyPost_ret (results_tmp3 rfl _ _ _) rfl (.inl ⟨rfl, ?_, k, hlt, Hkb.out, by rw [Hhv.out]; exact Hvn.out⟩)
                exact Hm.out.next ((HA2.out.below HbT.out (Nat.le_of_lt (Nat.lt_of_lt_of_le (by rw [HsW.out]; exact Nat.lt_succ_self _) HB1.out)) (Nat.le_refl _)).drew.drew)
              · have hq2 : decide (vk < n) = false := decide_eq_false hvn
                have h3 := Hn.out
                go_wp2_with fail
                refine wp_region_still_tail 7 (by kernel_rfl) (by kernel_rfl) ?_
                simp only [List.take_succ_cons, List.take_zero, List.drop_succ_cons, List.drop_zero]
                change wpStill _ _ (World.drew _) _ _ _
                repeat (first | (refine wpStill_step (fun K hK => ?_); go_simp; refine hK _ ?_; clear hK K))
                refine wpStill_nil ?_
                change wpList _ _ _ _ _ (World.drew _)
                go_wp2_with fail
                refine wp_region_still_tail 7 (by kernel_rfl) (by kernel_rfl) ?_
                simp only [List.take_succ_cons, List.take_zero, List.drop_succ_cons, List.drop_zero]
                change wpStill _ _ (World.drew _) _ _ _
                repeat (first | (refine wpStill_step (fun K hK => ?_); go_simp; refine hK _ ?_; clear hK K))
                refine wpStill_nil ?_
                change wpList _ _ _ _ _ (World.drew _)
                go_wp2_with fail
                refine wp_region_still_tail 9 (by kernel_rfl) (by kernel_rfl) ?_
                simp only [List.take_succ_cons, List.take_zero, List.drop_succ_cons, List.drop_zero]
                change wpStill _ _ (World.drew _) _ _ _
                repeat (first | (refine wpStill_step (fun K hK => ?_); go_simp; refine hK _ ?_; clear hK K))
                refine wpStill_nil ?_
                change wpList _ _ _ _ _ (World.drew _)
                go_wp2_with fail
                go_roundw
                case rel => exact ⟨k + 1, by omega, by go_num, (HA2.out.step hlt (by unfold newOf; rw [if_neg Hkb.out, Hhv.out]) (fun _ => by rw [Hhv.out]; omega)).drew.drew.drew⟩
                case measure => simp [intOf]; omega
          · have e2 : k = 2 := by omega
            rw [e2] at hA
            have hbel := hA.below HbT.out (Nat.le_of_lt (Nat.lt_of_lt_of_le (by rw [HsW.out]; exact Nat.lt_succ_self _) HB1.out)) (Nat.le_refl _)
            have hcq : ∀ j, j < 2 → wr.cell? ⟨gq, j, none⟩ = some (.int .i64 (old j)) := fun j hj =>
              (World.cell?_of_block (a := ⟨gq, j, none⟩) (hA.keep.block gq Hl2.out (fun e => Hne.out e.symm))).trans (Hq.out j hj)
            have hend : LookEnd Z S 2 key (newOf b n key val) old w (.returned (.tuple #[.slice (some ⟨gv, 0, none⟩) 2 cv, .slice (some ⟨gq, 0, none⟩) 2 cq, .int .i64 0])) wr := by
              refine ⟨gv, cv, gq, cq, rfl, Hm.out.next hbel, ⟨by omega, fun k hk => Hkl.out k hk, fun j k h1 h2 => ?_, fun k hk => ?_, fun k hk => ⟨(hA.cl k hk).1.cell, ?_⟩, hcq, ?_, ?_⟩⟩
              · have e0 : j = 0 := by omega
                have e1 : k = 1 := by omega
                subst e0
                subst e1
                exact Hkne.out
              · obtain ⟨r, hr⟩ := Hch.out k hk
                rw [← congrFun Hold.out k]
                exact hr.1
              · have := (hA.cl k hk).2.cell
                rw [if_pos hk] at this
                exact this
              · exact Hm.out.tags.new _ (Nat.le_of_lt (Nat.lt_of_lt_of_le (by rw [HsW.out]; exact Nat.lt_succ_self _) HB1.out))
              · exact Hm.out.tags.new _ (Nat.le_of_lt (Nat.lt_of_lt_of_le (by rw [HsW.out]; exact Nat.lt_succ_self _) HB2.out))
            have hfew := hA.few
            have Hend := Lib.hid hend
            have Hfew := Lib.hid hfew
            have hlf : decide ((k : Int) < 2) = false := by rw [decide_eq_false_iff_not]; omega
            clear hA hbel hcq hend hfew e2 hlt hk
            go_wp2_with fail
            refine bodyPost_ret (results_tmp3 rfl _ _ _) rfl ?_
            exact .inr ⟨Hend.out, fun j hj hb => Hfew.out j hj hb⟩
  · have Ho := Lib.hid o
    go_wp2_with fail
    rw [← HW.out]
    clear o c0 c1
    go_loopw [24, 8, 9] (fun i vv oo wr => ∃ k : Nat, k ≤ 2 ∧ i = .int .i64 k ∧ Lk W.heap.size key val old W wr k vv oo) (fun i _ _ _ => 2 - (intOf i).toNat)
    case atStart => exact ⟨0, by omega, rfl, Below.refl _ _, World.ownsRow_nil _ _ _ _, World.ownsRow_nil _ _ _ _, fun g hg => by cases hg⟩
    case round =>
      obtain ⟨k, hk, rfl, hL⟩ := hrel
      by_cases hlt : k < 2
      · have hbT : Below w.heap.size w wr := HbW.out.trans (hL.below.mono HbW.out.size)
        have d0 := (hL.below.cell (p := ⟨w.heap.size, k, none⟩) (by rw [HsW.out]; exact Nat.lt_succ_self _)).trans (HkW.out k hlt)
        have c2 := (hbT.cell (p := ⟨xbx, 0, none⟩) HL2.out).trans C2.out
        have c3 := (hbT.cell (p := ⟨wbx, 0, none⟩) HL3.out).trans C3.out
        obtain ⟨r, hr⟩ := Hch.out k hlt
        have hm1 := Hm.out.below hbT
        have hho := bholds_any Z.X Z.K Z.n S.made (key k) S.heads S.db S.st S.tbl S.next S.head (ver k) r wr hm1.bond hm1.pool Hm.out.xp (Hkl.out k hlt) hr
        unfold verVal at hho
        obtain ⟨xh, hxh⟩ : ∃ x, hnd (ver k).i (ver k).g = x := ⟨_, rfl⟩
        obtain ⟨xv, hxv⟩ : ∃ x, (ver k).v = x := ⟨_, rfl⟩
        obtain ⟨xs, hxs⟩ : ∃ x, (ver k).s = x := ⟨_, rfl⟩
        obtain ⟨kk, hkk⟩ : ∃ x : Int, ((key k : Nat) : Int) = x := ⟨_, rfl⟩
        rw [hxh, hxv, hxs, hkk] at hho
        rw [hkk] at d0
        have Hov : Hid (old k = xh) := Lib.hid ((congrFun Hold.out k).symm.trans hxh)
        have Hvv : Hid (val k = xv) := Lib.hid ((congrFun Hval.out k).symm.trans hxv)
        have Hkk := Lib.hid hkk
        have Hho := Lib.hid hho
        have HbT := Lib.hid hbT
        have HL := Lib.hid hL
        clear hho hbT hL hm1 hr hxh hxv hxs hkk
        go_wp2_with fail
        refine Hho.out.mono ?_
        rintro e w2 ⟨rfl, hb2⟩
        obtain ⟨W2, hW2⟩ : ∃ W2, W2 = (w2.alloc (.cells #[.int .i64 xh, .int .i64 xv, .int .i64 xs] 97)).alloc (.cells #[.int .i64 xh, .int .i64 xv, .int .i64 xs] 97) := ⟨_, rfl⟩
        have g0 : W2.heap[w2.heap.size]? = some (.cells #[.int .i64 xh, .int .i64 xv, .int .i64 xs] 97 (0, 0)) := by rw [hW2]; exact heap_alloc2_old _ _ _
        have g1 : W2.heap[w2.heap.size + 1]? = some (.cells #[.int .i64 xh, .int .i64 xv, .int .i64 xs] 97 (0, 0)) := by rw [hW2]; exact heap_alloc2_new _ _ _
        have b2 : Below wr.heap.size wr W2 := by rw [hW2]; exact (hb2.alloc hb2.size _).alloc (by simp; have := hb2.size; omega) _
        have s2 : W2.heap.size = w2.heap.size + 2 := by rw [hW2]; simp
        have s0 : W2.drew.cell? ⟨w2.heap.size, 0, none⟩ = some (.int .i64 xh) := by show W2.cell? _ = _; simp [World.cell?, g0]
        have s1 : W2.drew.cell? ⟨w2.heap.size + 1, 1, none⟩ = some (.int .i64 xv) := by show W2.cell? _ = _; simp [World.cell?, g1]
        have nv0 : some (w2.heap.size) ≠ u8.ownBlock := fun e => by have h1 := (HL.out.vs.lt _ e.symm).2; have h2 := hb2.size; omega
        have nv1 : some (w2.heap.size + 1) ≠ u8.ownBlock := fun e => by have h1 := (HL.out.vs.lt _ e.symm).2; have h2 := hb2.size; omega
        have no0 : some (w2.heap.size) ≠ u9.ownBlock := fun e => by have h1 := (HL.out.os.lt _ e.symm).2; have h2 := hb2.size; omega
        have no1 : some (w2.heap.size + 1) ≠ u9.ownBlock := fun e => by have h1 := (HL.out.os.lt _ e.symm).2; have h2 := hb2.size; omega
        have HW2 := Lib.hid hW2
        have Hb2 := Lib.hid b2.drew
        have Hs2 : Hid (W2.drew.heap.size = w2.heap.size + 2) := Lib.hid s2
        clear hW2 g0 g1 b2 s2 hb2 d0 c2 c3
        go_wp2_with fail
        rw [← HW2.out]
        obtain ⟨ip, hip, zp0, zp1, zp2⟩ := info_parts infoBPair
        obtain ⟨ii, hii, zi0, zi1, zi2⟩ := info_parts infoBI
        have HBw : Hid (W.heap.size ≤ wr.heap.size) := Lib.hid HL.out.below.size
        have Hwz : Hid (wr.heap.size ≤ W2.drew.heap.size) := Lib.hid Hb2.out.size
        have HBz : Hid (W.heap.size ≤ W2.drew.heap.size) := Lib.hid (Nat.le_trans HBw.out Hwz.out)
        have q0 : some (W2.drew.heap.size) ≠ u8.ownBlock := fun e => by have h1 := (HL.out.vs.lt _ e.symm).2; have h2 := Hwz.out; omega
        have q1 : some (W2.drew.heap.size + 1) ≠ u8.ownBlock := fun e => by have h1 := (HL.out.vs.lt _ e.symm).2; have h2 := Hwz.out; omega
        refine Reg.start (fun w' => w'.cell? ⟨w2.heap.size, 0, none⟩ = some (.int .i64 xh) ∧ w'.cell? ⟨w2.heap.size + 1, 1, none⟩ = some (.int .i64 xv)) [] (by kernel_rfl) ?_ (fun hHeld => ?_)
        · first | exact True.intro | ((try dsimp only); first | exact ⟨s0, s1⟩ | exact ⟨(old_cell _ _ _ (World.block_lt_of_cell? _ _ hHeld.1)).trans hHeld.1, (old_cell _ _ _ (World.block_lt_of_cell? _ _ hHeld.2)).trans hHeld.2⟩ | exact ⟨hgrow7.cell hHeld.1 no0, hgrow7.cell hHeld.2 no1⟩ | exact ⟨hgrow5.cell hHeld.1 nv0, hgrow5.cell hHeld.2 nv1⟩)
        refine Reg.takeP (i := 0) (v := ?vb9_0) rfl (by kernel_rfl) (by kernel_rfl) (by kernel_rfl) (by kernel_rfl) (fun _ _ _ h => h) (Or.inl ⟨by rfl, ?hb9_0⟩) (fun _ => hHeld) ?rb9_0
        case hb9_0 => (intro wS hSw; (try dsimp only at hSw); go_simp; all_goals with_reducible rfl)
        try simp only [Act.put, List.setIfInBounds_toArray, List.set_cons_zero, List.set_cons_succ]
        refine Reg.takeP (i := 1) (v := ?vb9_1) rfl (by kernel_rfl) (by kernel_rfl) (by kernel_rfl) (by kernel_rfl) (fun _ _ _ h => h) (Or.inl ⟨by rfl, ?hb9_1⟩) (fun _ => hHeld) ?rb9_1
        case hb9_1 => (intro wS hSw; (try dsimp only at hSw); go_simp; all_goals with_reducible rfl)
        try simp only [Act.put, List.setIfInBounds_toArray, List.set_cons_zero, List.set_cons_succ]
        refine Reg.takeP (i := 2) (v := ?vb9_2) rfl (by kernel_rfl) (by kernel_rfl) (by kernel_rfl) (by kernel_rfl) (fun _ _ _ h => h) (Or.inl ⟨by rfl, ?hb9_2⟩) (fun _ => hHeld) ?rb9_2
        case hb9_2 => (intro wS hSw; (try dsimp only at hSw); go_simp; all_goals with_reducible rfl)
        try simp only [Act.put, List.setIfInBounds_toArray, List.set_cons_zero, List.set_cons_succ]
        refine Reg.take (i := 3) (v := ?vb9_3) rfl (by kernel_rfl) (by kernel_rfl) (by kernel_rfl) (by kernel_rfl) (fun _ _ _ h => h) (Or.inl ⟨by rfl, ?hb9_3⟩) hHeld ?rb9_3
        case hb9_3 => (intro wS hSw; (try dsimp only at hSw); go_simp; all_goals with_reducible rfl)
        try simp only [Act.put, List.setIfInBounds_toArray, List.set_cons_zero, List.set_cons_succ]
        refine Reg.takeP (i := 4) (v := ?vb9_4) rfl (by kernel_rfl) (by kernel_rfl) (by kernel_rfl) (by kernel_rfl) (fun _ _ _ h => h) (Or.inl ⟨by rfl, ?hb9_4⟩) (fun _ => hHeld) ?rb9_4
        case hb9_4 => (intro wS hSw; (try dsimp only at hSw); go_simp; all_goals with_reducible rfl)
        try simp only [Act.put, List.setIfInBounds_toArray, List.set_cons_zero, List.set_cons_succ]
        refine Reg.takeP (i := 7) (v := ?vb9_7) rfl (by kernel_rfl) (by kernel_rfl) (by kernel_rfl) (by kernel_rfl) (fun _ _ _ h => h) (Or.inl ⟨by rfl, ?hb9_7⟩) (fun _ => hHeld) ?rb9_7
        case hb9_7 => (intro wS hSw; (try dsimp only at hSw); go_simp; all_goals with_reducible rfl)
        try simp only [Act.put, List.setIfInBounds_toArray, List.set_cons_zero, List.set_cons_succ]
        refine Reg.takeP (i := 8) (v := ?vb9_8) rfl (by kernel_rfl) (by kernel_rfl) (by kernel_rfl) (by kernel_rfl) (fun _ _ _ h => h) (Or.inl ⟨by rfl, ?hb9_8⟩) (fun _ => hHeld) ?rb9_8
        case hb9_8 => (intro wS hSw; (try dsimp only at hSw); go_simp; all_goals with_reducible rfl)
        try simp only [Act.put, List.setIfInBounds_toArray, List.set_cons_zero, List.set_cons_succ]
        refine Reg.take (i := 9) (v := ?vb9_9) rfl (by kernel_rfl) (by kernel_rfl) (by kernel_rfl) (by kernel_rfl) (fun _ _ _ h => h) (Or.inl ⟨by rfl, ?hb9_9⟩) hHeld ?rb9_9
        case hb9_9 => (intro wS hSw; (try dsimp only at hSw); go_simp; all_goals with_reducible rfl)
        try simp only [Act.put, List.setIfInBounds_toArray, List.set_cons_zero, List.set_cons_succ]
        refine Reg.two (i := 5) (j := 10) rfl rfl (by kernel_rfl) (fun K hK => ?_) (fun K hK => ?_)
        · go_simp
          refine hK.out _ _ (fun _ => ?_) (fun hHeld => ?_)
          · first | exact True.intro | ((try dsimp only); first | exact ⟨s0, s1⟩ | exact ⟨(old_cell _ _ _ (World.block_lt_of_cell? _ _ hHeld.1)).trans hHeld.1, (old_cell _ _ _ (World.block_lt_of_cell? _ _ hHeld.2)).trans hHeld.2⟩ | exact ⟨hgrow7.cell hHeld.1 no0, hgrow7.cell hHeld.2 no1⟩ | exact ⟨hgrow5.cell hHeld.1 nv0, hgrow5.cell hHeld.2 nv1⟩)
          replace hHeld := hHeld (by decide)
          clear hK K
          try simp only [Act.put, List.setIfInBounds_toArray, List.set_cons_zero, List.set_cons_succ]
          refine Reg.two (i := 6) (j := 10) rfl rfl (by kernel_rfl) (fun K hK => ?_) (fun K hK => ?_)
          · (first | refine step_append_lies _ rfl (.tmp 39) (.tmp 44) 25 rfl W.heap.size 52 ip _ 2 16 Tryz.underlying25 hip zp0 zp1 zp2 rfl (by decide) u8 k (pairs key val k) rfl (HL.out.vsAt (Hb2.out.alloc Hwz.out _)) ⟨W2.drew.heap.size, 0, none⟩ 1 1 [.int .i64 kk, .int .i64 xv] rfl rfl (World.news_of_block (cs := #[.int .i64 kk, .int .i64 xv]) (t := 52) (fr := (0, 0)) (new_block _ _ _ rfl)) (by simp [Value.oneCell']) (by decide) (by unfold maxLen; omega) (by omega) (by have := HBz.out; simp at *; omega) _ rfl ?_ | refine step_append_lies _ rfl (.tmp 39) (.tmp 44) 25 rfl W.heap.size 52 ip _ 2 16 Tryz.underlying25 hip zp0 zp1 zp2 rfl (by decide) u8 k (pairs key val k) rfl (HL.out.vsAt ((Hb2.out.alloc Hwz.out _).alloc (by have := Hwz.out; simp at *; omega) _)) ⟨W2.drew.heap.size, 0, none⟩ 1 1 [.int .i64 kk, .int .i64 xv] rfl rfl (World.news_of_block (cs := #[.int .i64 kk, .int .i64 xv]) (t := 52) (fr := (0, 0)) (heap_alloc2_old _ _ _)) (by simp [Value.oneCell']) (by decide) (by unfold maxLen; omega) (by omega) (by have := HBz.out; simp at *; omega) _ rfl ?_ | refine step_append_lies _ rfl (.tmp 39) (.tmp 44) 25 rfl W.heap.size 52 ip _ 2 16 Tryz.underlying25 hip zp0 zp1 zp2 rfl (by decide) u8 k (pairs key val k) rfl (HL.out.vsAt ((Hb2.out.alloc Hwz.out _).alloc (by have := Hwz.out; simp at *; omega) _)) ⟨W2.drew.heap.size + 1, 0, none⟩ 1 1 [.int .i64 kk, .int .i64 xv] rfl rfl (World.news_of_block (cs := #[.int .i64 kk, .int .i64 xv]) (t := 52) (fr := (0, 0)) (heap_alloc2_new _ _ _)) (by simp [Value.oneCell']) (by decide) (by unfold maxLen; omega) (by omega) (by have := HBz.out; simp at *; omega) _ rfl ?_); intro g5 c5 w5 hown5 hgrow5 hat5 hlt5
            refine hK.out _ _ (fun _ => ?_) (fun hHeld => ?_)
            · first | exact True.intro | ((try dsimp only); first | exact ⟨s0, s1⟩ | exact ⟨(old_cell _ _ _ (World.block_lt_of_cell? _ _ hHeld.1)).trans hHeld.1, (old_cell _ _ _ (World.block_lt_of_cell? _ _ hHeld.2)).trans hHeld.2⟩ | exact ⟨hgrow7.cell hHeld.1 no0, hgrow7.cell hHeld.2 no1⟩ | exact ⟨hgrow5.cell hHeld.1 nv0, hgrow5.cell hHeld.2 nv1⟩)
            replace hHeld := hHeld (by decide)
            clear hK K
            try simp only [Act.put, List.setIfInBounds_toArray, List.set_cons_zero, List.set_cons_succ]
            refine Reg.one (i := 10) rfl (by kernel_rfl) (fun K hK => ?_)
            go_simp
            refine hK.out _ _ (fun _ => ?_) (fun hHeld => ?_)
            · first | exact True.intro | ((try dsimp only); first | exact ⟨s0, s1⟩ | exact ⟨(old_cell _ _ _ (World.block_lt_of_cell? _ _ hHeld.1)).trans hHeld.1, (old_cell _ _ _ (World.block_lt_of_cell? _ _ hHeld.2)).trans hHeld.2⟩ | exact ⟨hgrow7.cell hHeld.1 no0, hgrow7.cell hHeld.2 no1⟩ | exact ⟨hgrow5.cell hHeld.1 nv0, hgrow5.cell hHeld.2 nv1⟩)
            replace hHeld := hHeld (by decide)
            clear hK K
            try simp only [Act.put, List.setIfInBounds_toArray, List.set_cons_zero, List.set_cons_succ]
            refine Reg.one (i := 11) rfl (by kernel_rfl) (fun K hK => ?_)
            (first | refine step_append_lies _ rfl (.tmp 46) (.tmp 49) 22 rfl W.heap.size 3 ii _ 1 8 Tryz.underlying22 hii zi0 zi1 zi2 rfl (by decide) u9 k (ints old k) rfl ((HL.out.osAt5 (Hb2.out.alloc Hwz.out _) hgrow5).alloc _) ⟨w5.heap.size, 0, none⟩ 1 1 [.int .i64 xh] rfl rfl (World.news_of_block (cs := #[.int .i64 xh]) (t := 3) (fr := (0, 0)) (new_block _ _ _ rfl)) (by simp [Value.oneCell']) (by decide) (by unfold maxLen; omega) (by omega) (by have := HBz.out; have h9 := hgrow5.size; simp at *; omega) _ rfl ?_ | refine step_append_lies _ rfl (.tmp 46) (.tmp 49) 22 rfl W.heap.size 3 ii _ 1 8 Tryz.underlying22 hii zi0 zi1 zi2 rfl (by decide) u9 k (ints old k) rfl (HL.out.osAt5 ((Hb2.out.alloc Hwz.out _).alloc (by have := Hwz.out; simp at *; omega) _) hgrow5) ⟨W2.drew.heap.size + 1, 0, none⟩ 1 1 [.int .i64 xh] rfl rfl (World.news_of_block (cs := #[.int .i64 xh]) (t := 3) (fr := (0, 0)) ((hgrow5.block _ (by simp) q1).trans (heap_alloc2_new _ _ _))) (by simp [Value.oneCell']) (by decide) (by unfold maxLen; omega) (by omega) (by have := HBz.out; have h9 := hgrow5.size; simp at *; omega) _ rfl ?_ | refine step_append_lies _ rfl (.tmp 46) (.tmp 49) 22 rfl W.heap.size 3 ii _ 1 8 Tryz.underlying22 hii zi0 zi1 zi2 rfl (by decide) u9 k (ints old k) rfl (HL.out.osAt5 ((Hb2.out.alloc Hwz.out _).alloc (by have := Hwz.out; simp at *; omega) _) hgrow5) ⟨W2.drew.heap.size, 0, none⟩ 1 1 [.int .i64 xh] rfl rfl (World.news_of_block (cs := #[.int .i64 xh]) (t := 3) (fr := (0, 0)) ((hgrow5.block _ (by simp; omega) q0).trans (heap_alloc2_old _ _ _))) (by simp [Value.oneCell']) (by decide) (by unfold maxLen; omega) (by omega) (by have := HBz.out; have h9 := hgrow5.size; simp at *; omega) _ rfl ?_); intro g7 c7 w7 hown7 hgrow7 hat7 hlt7
            refine hK.out _ _ (fun _ => ?_) (fun hHeld => ?_)
            · first | exact True.intro | ((try dsimp only); first | exact ⟨s0, s1⟩ | exact ⟨(old_cell _ _ _ (World.block_lt_of_cell? _ _ hHeld.1)).trans hHeld.1, (old_cell _ _ _ (World.block_lt_of_cell? _ _ hHeld.2)).trans hHeld.2⟩ | exact ⟨hgrow7.cell hHeld.1 no0, hgrow7.cell hHeld.2 no1⟩ | exact ⟨hgrow5.cell hHeld.1 nv0, hgrow5.cell hHeld.2 nv1⟩)
            replace hHeld := hHeld (by decide)
            clear hK K
            try simp only [Act.put, List.setIfInBounds_toArray, List.set_cons_zero, List.set_cons_succ]
            refine Reg.takeP (i := 12) (v := ?vb9aa_12) rfl (by kernel_rfl) (by kernel_rfl) (by kernel_rfl) (by kernel_rfl) (fun _ _ _ h => h) (Or.inl ⟨by rfl, ?hb9aa_12⟩) (fun _ => hHeld) ?rb9aa_12
            case hb9aa_12 => (intro wS hSw; (try dsimp only at hSw); go_simp; all_goals with_reducible rfl)
            try simp only [Act.put, List.setIfInBounds_toArray, List.set_cons_zero, List.set_cons_succ]
            refine Reg.takeP (i := 13) (v := ?vb9aa_13) rfl (by kernel_rfl) (by kernel_rfl) (by kernel_rfl) (by kernel_rfl) (fun _ _ _ h => h) (Or.inl ⟨by rfl, ?hb9aa_13⟩) (fun _ => hHeld) ?rb9aa_13
            case hb9aa_13 => (intro wS hSw; (try dsimp only at hSw); go_simp; all_goals with_reducible rfl)
            try simp only [Act.put, List.setIfInBounds_toArray, List.set_cons_zero, List.set_cons_succ]
            refine Reg.done (by kernel_rfl) ?_ _
            (go_wp2_with fail; go_roundw; (case rel => (refine ⟨k + 1, by omega, by go_num, ?_⟩; have h5 : w5.ownsRow W.heap.size 52 2 (.slice (some ⟨g5, 0, none⟩) (k + 1) c5) (k + 1) (pairs key val (k + 1)) := (by rw [pairs_succ, Hkk.out, Hvv.out]; exact hown5); have h7 : w7.ownsRow W.heap.size 3 1 (.slice (some ⟨g7, 0, none⟩) (k + 1) c7) (k + 1) (ints old (k + 1)) := (by rw [ints_succ, Hov.out]; exact hown7); exact HL.out.step HBw.out (by first | exact Hb2.out.alloc Hwz.out _ | exact (Hb2.out.alloc Hwz.out _).alloc (by have := Hwz.out; simp at *; omega) _) hgrow5 (by first | exact Below.refl _ _ | exact (Below.refl _ _).alloc (Nat.le_refl _) _) hgrow7 h5 hat5 h7 hat7)); (case measure => (simp [intOf]; omega)))
          · go_simp
            refine hK.out _ _ (fun _ => ?_) (fun hHeld => ?_)
            · first | exact True.intro | ((try dsimp only); first | exact ⟨s0, s1⟩ | exact ⟨(old_cell _ _ _ (World.block_lt_of_cell? _ _ hHeld.1)).trans hHeld.1, (old_cell _ _ _ (World.block_lt_of_cell? _ _ hHeld.2)).trans hHeld.2⟩ | exact ⟨hgrow7.cell hHeld.1 no0, hgrow7.cell hHeld.2 no1⟩ | exact ⟨hgrow5.cell hHeld.1 nv0, hgrow5.cell hHeld.2 nv1⟩)
            replace hHeld := hHeld (by decide)
            clear hK K
            try simp only [Act.put, List.setIfInBounds_toArray, List.set_cons_zero, List.set_cons_succ]
            refine Reg.one (i := 6) rfl (by kernel_rfl) (fun K hK => ?_)
            (first | refine step_append_lies _ rfl (.tmp 39) (.tmp 44) 25 rfl W.heap.size 52 ip _ 2 16 Tryz.underlying25 hip zp0 zp1 zp2 rfl (by decide) u8 k (pairs key val k) rfl (HL.out.vsAt (Hb2.out.alloc Hwz.out _)) ⟨W2.drew.heap.size, 0, none⟩ 1 1 [.int .i64 kk, .int .i64 xv] rfl rfl (World.news_of_block (cs := #[.int .i64 kk, .int .i64 xv]) (t := 52) (fr := (0, 0)) (new_block _ _ _ rfl)) (by simp [Value.oneCell']) (by decide) (by unfold maxLen; omega) (by omega) (by have := HBz.out; simp at *; omega) _ rfl ?_ | refine step_append_lies _ rfl (.tmp 39) (.tmp 44) 25 rfl W.heap.size 52 ip _ 2 16 Tryz.underlying25 hip zp0 zp1 zp2 rfl (by decide) u8 k (pairs key val k) rfl (HL.out.vsAt ((Hb2.out.alloc Hwz.out _).alloc (by have := Hwz.out; simp at *; omega) _)) ⟨W2.drew.heap.size, 0, none⟩ 1 1 [.int .i64 kk, .int .i64 xv] rfl rfl (World.news_of_block (cs := #[.int .i64 kk, .int .i64 xv]) (t := 52) (fr := (0, 0)) (heap_alloc2_old _ _ _)) (by simp [Value.oneCell']) (by decide) (by unfold maxLen; omega) (by omega) (by have := HBz.out; simp at *; omega) _ rfl ?_ | refine step_append_lies _ rfl (.tmp 39) (.tmp 44) 25 rfl W.heap.size 52 ip _ 2 16 Tryz.underlying25 hip zp0 zp1 zp2 rfl (by decide) u8 k (pairs key val k) rfl (HL.out.vsAt ((Hb2.out.alloc Hwz.out _).alloc (by have := Hwz.out; simp at *; omega) _)) ⟨W2.drew.heap.size + 1, 0, none⟩ 1 1 [.int .i64 kk, .int .i64 xv] rfl rfl (World.news_of_block (cs := #[.int .i64 kk, .int .i64 xv]) (t := 52) (fr := (0, 0)) (heap_alloc2_new _ _ _)) (by simp [Value.oneCell']) (by decide) (by unfold maxLen; omega) (by omega) (by have := HBz.out; simp at *; omega) _ rfl ?_); intro g5 c5 w5 hown5 hgrow5 hat5 hlt5
            refine hK.out _ _ (fun _ => ?_) (fun hHeld => ?_)
            · first | exact True.intro | ((try dsimp only); first | exact ⟨s0, s1⟩ | exact ⟨(old_cell _ _ _ (World.block_lt_of_cell? _ _ hHeld.1)).trans hHeld.1, (old_cell _ _ _ (World.block_lt_of_cell? _ _ hHeld.2)).trans hHeld.2⟩ | exact ⟨hgrow7.cell hHeld.1 no0, hgrow7.cell hHeld.2 no1⟩ | exact ⟨hgrow5.cell hHeld.1 nv0, hgrow5.cell hHeld.2 nv1⟩)
            replace hHeld := hHeld (by decide)
            clear hK K
            try simp only [Act.put, List.setIfInBounds_toArray, List.set_cons_zero, List.set_cons_succ]
            refine Reg.one (i := 11) rfl (by kernel_rfl) (fun K hK => ?_)
            (first | refine step_append_lies _ rfl (.tmp 46) (.tmp 49) 22 rfl W.heap.size 3 ii _ 1 8 Tryz.underlying22 hii zi0 zi1 zi2 rfl (by decide) u9 k (ints old k) rfl ((HL.out.osAt5 (Hb2.out.alloc Hwz.out _) hgrow5).alloc _) ⟨w5.heap.size, 0, none⟩ 1 1 [.int .i64 xh] rfl rfl (World.news_of_block (cs := #[.int .i64 xh]) (t := 3) (fr := (0, 0)) (new_block _ _ _ rfl)) (by simp [Value.oneCell']) (by decide) (by unfold maxLen; omega) (by omega) (by have := HBz.out; have h9 := hgrow5.size; simp at *; omega) _ rfl ?_ | refine step_append_lies _ rfl (.tmp 46) (.tmp 49) 22 rfl W.heap.size 3 ii _ 1 8 Tryz.underlying22 hii zi0 zi1 zi2 rfl (by decide) u9 k (ints old k) rfl (HL.out.osAt5 ((Hb2.out.alloc Hwz.out _).alloc (by have := Hwz.out; simp at *; omega) _) hgrow5) ⟨W2.drew.heap.size + 1, 0, none⟩ 1 1 [.int .i64 xh] rfl rfl (World.news_of_block (cs := #[.int .i64 xh]) (t := 3) (fr := (0, 0)) ((hgrow5.block _ (by simp) q1).trans (heap_alloc2_new _ _ _))) (by simp [Value.oneCell']) (by decide) (by unfold maxLen; omega) (by omega) (by have := HBz.out; have h9 := hgrow5.size; simp at *; omega) _ rfl ?_ | refine step_append_lies _ rfl (.tmp 46) (.tmp 49) 22 rfl W.heap.size 3 ii _ 1 8 Tryz.underlying22 hii zi0 zi1 zi2 rfl (by decide) u9 k (ints old k) rfl (HL.out.osAt5 ((Hb2.out.alloc Hwz.out _).alloc (by have := Hwz.out; simp at *; omega) _) hgrow5) ⟨W2.drew.heap.size, 0, none⟩ 1 1 [.int .i64 xh] rfl rfl (World.news_of_block (cs := #[.int .i64 xh]) (t := 3) (fr := (0, 0)) ((hgrow5.block _ (by simp; omega) q0).trans (heap_alloc2_old _ _ _))) (by simp [Value.oneCell']) (by decide) (by unfold maxLen; omega) (by omega) (by have := HBz.out; have h9 := hgrow5.size; simp at *; omega) _ rfl ?_); intro g7 c7 w7 hown7 hgrow7 hat7 hlt7
            refine hK.out _ _ (fun _ => ?_) (fun hHeld => ?_)
            · first | exact True.intro | ((try dsimp only); first | exact ⟨s0, s1⟩ | exact ⟨(old_cell _ _ _ (World.block_lt_of_cell? _ _ hHeld.1)).trans hHeld.1, (old_cell _ _ _ (World.block_lt_of_cell? _ _ hHeld.2)).trans hHeld.2⟩ | exact ⟨hgrow7.cell hHeld.1 no0, hgrow7.cell hHeld.2 no1⟩ | exact ⟨hgrow5.cell hHeld.1 nv0, hgrow5.cell hHeld.2 nv1⟩)
            replace hHeld := hHeld (by decide)
            clear hK K
            try simp only [Act.put, List.setIfInBounds_toArray, List.set_cons_zero, List.set_cons_succ]
            refine Reg.takeP (i := 12) (v := ?vb9ab_12) rfl (by kernel_rfl) (by kernel_rfl) (by kernel_rfl) (by kernel_rfl) (fun _ _ _ h => h) (Or.inl ⟨by rfl, ?hb9ab_12⟩) (fun _ => hHeld) ?rb9ab_12
            case hb9ab_12 => (intro wS hSw; (try dsimp only at hSw); go_simp; all_goals with_reducible rfl)
            try simp only [Act.put, List.setIfInBounds_toArray, List.set_cons_zero, List.set_cons_succ]
            refine Reg.takeP (i := 13) (v := ?vb9ab_13) rfl (by kernel_rfl) (by kernel_rfl) (by kernel_rfl) (by kernel_rfl) (fun _ _ _ h => h) (Or.inl ⟨by rfl, ?hb9ab_13⟩) (fun _ => hHeld) ?rb9ab_13
            case hb9ab_13 => (intro wS hSw; (try dsimp only at hSw); go_simp; all_goals with_reducible rfl)
            try simp only [Act.put, List.setIfInBounds_toArray, List.set_cons_zero, List.set_cons_succ]
            refine Reg.done (by kernel_rfl) ?_ _
            (go_wp2_with fail; go_roundw; (case rel => (refine ⟨k + 1, by omega, by go_num, ?_⟩; have h5 : w5.ownsRow W.heap.size 52 2 (.slice (some ⟨g5, 0, none⟩) (k + 1) c5) (k + 1) (pairs key val (k + 1)) := (by rw [pairs_succ, Hkk.out, Hvv.out]; exact hown5); have h7 : w7.ownsRow W.heap.size 3 1 (.slice (some ⟨g7, 0, none⟩) (k + 1) c7) (k + 1) (ints old (k + 1)) := (by rw [ints_succ, Hov.out]; exact hown7); exact HL.out.step HBw.out (by first | exact Hb2.out.alloc Hwz.out _ | exact (Hb2.out.alloc Hwz.out _).alloc (by have := Hwz.out; simp at *; omega) _) hgrow5 (by first | exact Below.refl _ _ | exact (Below.refl _ _).alloc (Nat.le_refl _) _) hgrow7 h5 hat5 h7 hat7)); (case measure => (simp [intOf]; omega)))
        · go_simp
          refine hK.out _ _ (fun _ => ?_) (fun hHeld => ?_)
          · first | exact True.intro | ((try dsimp only); first | exact ⟨s0, s1⟩ | exact ⟨(old_cell _ _ _ (World.block_lt_of_cell? _ _ hHeld.1)).trans hHeld.1, (old_cell _ _ _ (World.block_lt_of_cell? _ _ hHeld.2)).trans hHeld.2⟩ | exact ⟨hgrow7.cell hHeld.1 no0, hgrow7.cell hHeld.2 no1⟩ | exact ⟨hgrow5.cell hHeld.1 nv0, hgrow5.cell hHeld.2 nv1⟩)
          replace hHeld := hHeld (by decide)
          clear hK K
          try simp only [Act.put, List.setIfInBounds_toArray, List.set_cons_zero, List.set_cons_succ]
          refine Reg.one (i := 5) rfl (by kernel_rfl) (fun K hK => ?_)
          go_simp
          refine hK.out _ _ (fun _ => ?_) (fun hHeld => ?_)
          · first | exact True.intro | ((try dsimp only); first | exact ⟨s0, s1⟩ | exact ⟨(old_cell _ _ _ (World.block_lt_of_cell? _ _ hHeld.1)).trans hHeld.1, (old_cell _ _ _ (World.block_lt_of_cell? _ _ hHeld.2)).trans hHeld.2⟩ | exact ⟨hgrow7.cell hHeld.1 no0, hgrow7.cell hHeld.2 no1⟩ | exact ⟨hgrow5.cell hHeld.1 nv0, hgrow5.cell hHeld.2 nv1⟩)
          replace hHeld := hHeld (by decide)
          clear hK K
          try simp only [Act.put, List.setIfInBounds_toArray, List.set_cons_zero, List.set_cons_succ]
          refine Reg.one (i := 6) rfl (by kernel_rfl) (fun K hK => ?_)
          (first | refine step_append_lies _ rfl (.tmp 39) (.tmp 44) 25 rfl W.heap.size 52 ip _ 2 16 Tryz.underlying25 hip zp0 zp1 zp2 rfl (by decide) u8 k (pairs key val k) rfl (HL.out.vsAt (Hb2.out.alloc Hwz.out _)) ⟨W2.drew.heap.size, 0, none⟩ 1 1 [.int .i64 kk, .int .i64 xv] rfl rfl (World.news_of_block (cs := #[.int .i64 kk, .int .i64 xv]) (t := 52) (fr := (0, 0)) (new_block _ _ _ rfl)) (by simp [Value.oneCell']) (by decide) (by unfold maxLen; omega) (by omega) (by have := HBz.out; simp at *; omega) _ rfl ?_ | refine step_append_lies _ rfl (.tmp 39) (.tmp 44) 25 rfl W.heap.size 52 ip _ 2 16 Tryz.underlying25 hip zp0 zp1 zp2 rfl (by decide) u8 k (pairs key val k) rfl (HL.out.vsAt ((Hb2.out.alloc Hwz.out _).alloc (by have := Hwz.out; simp at *; omega) _)) ⟨W2.drew.heap.size, 0, none⟩ 1 1 [.int .i64 kk, .int .i64 xv] rfl rfl (World.news_of_block (cs := #[.int .i64 kk, .int .i64 xv]) (t := 52) (fr := (0, 0)) (heap_alloc2_old _ _ _)) (by simp [Value.oneCell']) (by decide) (by unfold maxLen; omega) (by omega) (by have := HBz.out; simp at *; omega) _ rfl ?_ | refine step_append_lies _ rfl (.tmp 39) (.tmp 44) 25 rfl W.heap.size 52 ip _ 2 16 Tryz.underlying25 hip zp0 zp1 zp2 rfl (by decide) u8 k (pairs key val k) rfl (HL.out.vsAt ((Hb2.out.alloc Hwz.out _).alloc (by have := Hwz.out; simp at *; omega) _)) ⟨W2.drew.heap.size + 1, 0, none⟩ 1 1 [.int .i64 kk, .int .i64 xv] rfl rfl (World.news_of_block (cs := #[.int .i64 kk, .int .i64 xv]) (t := 52) (fr := (0, 0)) (heap_alloc2_new _ _ _)) (by simp [Value.oneCell']) (by decide) (by unfold maxLen; omega) (by omega) (by have := HBz.out; simp at *; omega) _ rfl ?_); intro g5 c5 w5 hown5 hgrow5 hat5 hlt5
          refine hK.out _ _ (fun _ => ?_) (fun hHeld => ?_)
          · first | exact True.intro | ((try dsimp only); first | exact ⟨s0, s1⟩ | exact ⟨(old_cell _ _ _ (World.block_lt_of_cell? _ _ hHeld.1)).trans hHeld.1, (old_cell _ _ _ (World.block_lt_of_cell? _ _ hHeld.2)).trans hHeld.2⟩ | exact ⟨hgrow7.cell hHeld.1 no0, hgrow7.cell hHeld.2 no1⟩ | exact ⟨hgrow5.cell hHeld.1 nv0, hgrow5.cell hHeld.2 nv1⟩)
          replace hHeld := hHeld (by decide)
          clear hK K
          try simp only [Act.put, List.setIfInBounds_toArray, List.set_cons_zero, List.set_cons_succ]
          refine Reg.one (i := 11) rfl (by kernel_rfl) (fun K hK => ?_)
          (first | refine step_append_lies _ rfl (.tmp 46) (.tmp 49) 22 rfl W.heap.size 3 ii _ 1 8 Tryz.underlying22 hii zi0 zi1 zi2 rfl (by decide) u9 k (ints old k) rfl ((HL.out.osAt5 (Hb2.out.alloc Hwz.out _) hgrow5).alloc _) ⟨w5.heap.size, 0, none⟩ 1 1 [.int .i64 xh] rfl rfl (World.news_of_block (cs := #[.int .i64 xh]) (t := 3) (fr := (0, 0)) (new_block _ _ _ rfl)) (by simp [Value.oneCell']) (by decide) (by unfold maxLen; omega) (by omega) (by have := HBz.out; have h9 := hgrow5.size; simp at *; omega) _ rfl ?_ | refine step_append_lies _ rfl (.tmp 46) (.tmp 49) 22 rfl W.heap.size 3 ii _ 1 8 Tryz.underlying22 hii zi0 zi1 zi2 rfl (by decide) u9 k (ints old k) rfl (HL.out.osAt5 ((Hb2.out.alloc Hwz.out _).alloc (by have := Hwz.out; simp at *; omega) _) hgrow5) ⟨W2.drew.heap.size + 1, 0, none⟩ 1 1 [.int .i64 xh] rfl rfl (World.news_of_block (cs := #[.int .i64 xh]) (t := 3) (fr := (0, 0)) ((hgrow5.block _ (by simp) q1).trans (heap_alloc2_new _ _ _))) (by simp [Value.oneCell']) (by decide) (by unfold maxLen; omega) (by omega) (by have := HBz.out; have h9 := hgrow5.size; simp at *; omega) _ rfl ?_ | refine step_append_lies _ rfl (.tmp 46) (.tmp 49) 22 rfl W.heap.size 3 ii _ 1 8 Tryz.underlying22 hii zi0 zi1 zi2 rfl (by decide) u9 k (ints old k) rfl (HL.out.osAt5 ((Hb2.out.alloc Hwz.out _).alloc (by have := Hwz.out; simp at *; omega) _) hgrow5) ⟨W2.drew.heap.size, 0, none⟩ 1 1 [.int .i64 xh] rfl rfl (World.news_of_block (cs := #[.int .i64 xh]) (t := 3) (fr := (0, 0)) ((hgrow5.block _ (by simp; omega) q0).trans (heap_alloc2_old _ _ _))) (by simp [Value.oneCell']) (by decide) (by unfold maxLen; omega) (by omega) (by have := HBz.out; have h9 := hgrow5.size; simp at *; omega) _ rfl ?_); intro g7 c7 w7 hown7 hgrow7 hat7 hlt7
          refine hK.out _ _ (fun _ => ?_) (fun hHeld => ?_)
          · first | exact True.intro | ((try dsimp only); first | exact ⟨s0, s1⟩ | exact ⟨(old_cell _ _ _ (World.block_lt_of_cell? _ _ hHeld.1)).trans hHeld.1, (old_cell _ _ _ (World.block_lt_of_cell? _ _ hHeld.2)).trans hHeld.2⟩ | exact ⟨hgrow7.cell hHeld.1 no0, hgrow7.cell hHeld.2 no1⟩ | exact ⟨hgrow5.cell hHeld.1 nv0, hgrow5.cell hHeld.2 nv1⟩)
          replace hHeld := hHeld (by decide)
          clear hK K
          try simp only [Act.put, List.setIfInBounds_toArray, List.set_cons_zero, List.set_cons_succ]
          refine Reg.takeP (i := 12) (v := ?vb9b_12) rfl (by kernel_rfl) (by kernel_rfl) (by kernel_rfl) (by kernel_rfl) (fun _ _ _ h => h) (Or.inl ⟨by rfl, ?hb9b_12⟩) (fun _ => hHeld) ?rb9b_12
          case hb9b_12 => (intro wS hSw; (try dsimp only at hSw); go_simp; all_goals with_reducible rfl)
          try simp only [Act.put, List.setIfInBounds_toArray, List.set_cons_zero, List.set_cons_succ]
          refine Reg.takeP (i := 13) (v := ?vb9b_13) rfl (by kernel_rfl) (by kernel_rfl) (by kernel_rfl) (by kernel_rfl) (fun _ _ _ h => h) (Or.inl ⟨by rfl, ?hb9b_13⟩) (fun _ => hHeld) ?rb9b_13
          case hb9b_13 => (intro wS hSw; (try dsimp only at hSw); go_simp; all_goals with_reducible rfl)
          try simp only [Act.put, List.setIfInBounds_toArray, List.set_cons_zero, List.set_cons_succ]
          refine Reg.done (by kernel_rfl) ?_ _
          (go_wp2_with fail; go_roundw; (case rel => (refine ⟨k + 1, by omega, by go_num, ?_⟩; have h5 : w5.ownsRow W.heap.size 52 2 (.slice (some ⟨g5, 0, none⟩) (k + 1) c5) (k + 1) (pairs key val (k + 1)) := (by rw [pairs_succ, Hkk.out, Hvv.out]; exact hown5); have h7 : w7.ownsRow W.heap.size 3 1 (.slice (some ⟨g7, 0, none⟩) (k + 1) c7) (k + 1) (ints old (k + 1)) := (by rw [ints_succ, Hov.out]; exact hown7); exact HL.out.step HBw.out (by first | exact Hb2.out.alloc Hwz.out _ | exact (Hb2.out.alloc Hwz.out _).alloc (by have := Hwz.out; simp at *; omega) _) hgrow5 (by first | exact Below.refl _ _ | exact (Below.refl _ _).alloc (Nat.le_refl _) _) hgrow7 h5 hat5 h7 hat7)); (case measure => (simp [intOf]; omega)))
      · have : k = 2 := by omega
        rw [this] at hL
        obtain ⟨gv, cv, e1, hB1, hl1⟩ := hL.vs.form (by omega)
        obtain ⟨gq, cq, e2, hB2, hl2⟩ := hL.os.form (by omega)
        rw [e1, e2] at hL
        have hv : ∀ j, j < 2 → CellIs wr gv (j * 2) (.int .i64 (key j : Nat)) ∧ CellIs wr gv (j * 2 + 1) (.int .i64 (val j)) := fun j hj => by
          have hp := pairs_get key val 2 2 j hj
          have hlen := pairs_length key val 2
          refine ⟨⟨?_, hL.vs.frozenAt _⟩, ⟨?_, hL.vs.frozenAt _⟩⟩
          · rw [hL.vs.cellAt _ (by omega), Nat.mul_comm]; exact hp.1
          · rw [hL.vs.cellAt _ (by omega), Nat.mul_comm]; exact hp.2
        have hq : ∀ j, j < 2 → wr.cell? ⟨gq, j, none⟩ = some (.int .i64 (old j)) := fun j hj => by
          rw [hL.os.cellAt _ (by omega)]; simp [ints, hj]
        have hne : gv ≠ gq := fun e => hL.sep gv rfl (by rw [e]; rfl)
        have hbT : Below w.heap.size w wr := HbW.out.trans (hL.below.mono HbW.out.size)
        have Hv := Lib.hid hv
        have Hq := Lib.hid hq
        have Hne := Lib.hid hne
        have HbT := Lib.hid hbT
        have HB1 := Lib.hid hB1
        have HB2 := Lib.hid hB2
        have Hl1 := Lib.hid hl1
        have Hl2 := Lib.hid hl2
        subst e1
        subst e2
        clear hL hB1 hB2 hl1 hl2 hv hq hne hbT
        have hlf : decide ((k : Int) < 2) = false := by rw [decide_eq_false_iff_not]; omega
        clear this hk hlt
        go_wp2_with fail
        clear hlf
        obtain ⟨w1, rfl⟩ : ∃ w1, w1 = wr := ⟨_, rfl⟩
        go_loopw [54] (fun i wr => ∃ k : Nat, k ≤ 2 ∧ i = .int .i64 k ∧ Ad b n key val gv w1 wr k) (fun i _ => 2 - (intOf i).toNat)
        case atStart => exact ⟨0, by omega, rfl, fun j hj => ⟨(Hv.out j hj).1, by rw [if_neg (by omega)]; exact (Hv.out j hj).2⟩, Keep.refl _ _ _, fun j hj => absurd hj (by omega)⟩
        case round =>
          obtain ⟨k, hk, rfl, hA⟩ := hrel
          by_cases hlt : k < 2
          · have hlw : W.heap.size ≤ w1.heap.size := Nat.le_trans HB1.out (Nat.le_of_lt Hl1.out)
            have hlv : w.heap.size < gv := Nat.lt_of_lt_of_le (Nat.lt_of_lt_of_le (Nat.lt_succ_self _) (Nat.le_of_eq HsW.out.symm)) HB1.out
            have hbl : ∀ g, g < w.heap.size → wr.heap[g]? = w.heap[g]? := fun g hg => (hA.keep.block g (Nat.lt_of_lt_of_le hg HbT.out.size) (by omega)).trans (HbT.out.block g hg)
            have c1 := (World.cell?_of_block (a := ⟨tb, 0, none⟩) (hbl tb HL1.out)).trans CB.out
            have c4 := (World.cell?_of_block (a := ⟨nbx, 0, none⟩) (hbl nbx HL4.out)).trans C4.out
            obtain ⟨z, hz⟩ : ∃ x : Int, ((b : Nat) : Int) = x := ⟨_, rfl⟩
            obtain ⟨kk, hkk⟩ : ∃ x : Int, ((key k : Nat) : Int) = x := ⟨_, rfl⟩
            obtain ⟨vk, hvk⟩ : ∃ x : Int, val k = x := ⟨_, rfl⟩
            rw [hz] at c1
            have e1 := (hA.cl k hlt).1
            have e2 := (hA.cl k hlt).2
            rw [hkk] at e1
            rw [if_neg (by omega), hvk] at e2
            have e1c := e1.cell
            have e2c := e2.cell
            have e2f := e2.frz
            have HA2 := Lib.hid hA
            have Hhz := Lib.hid hz
            have Hhk := Lib.hid hkk
            have Hhv := Lib.hid hvk
            clear hbl hA e1 e2 hz hkk hvk hlw hlv
            by_cases hkb : key k = b
            · have hq : (kk == z) = true := by rw [beq_iff_eq, ← Hhk.out, ← Hhz.out, hkb]
              have Hkb := Lib.hid hkb
              clear hkb
              go_wp2_with fail
              refine wp_region_still_tail 7 (by kernel_rfl) (by kernel_rfl) ?_
              simp only [List.take_succ_cons, List.take_zero, List.drop_succ_cons, List.drop_zero]
              change wpStill _ _ (World.drew _) _ _ _
              repeat (first | (refine wpStill_step (fun K hK => ?_); go_simp; refine hK _ ?_; clear hK K))
              refine wpStill_nil ?_
              change wpList _ _ _ _ _ (World.drew _)
              go_wp2_with fail
              refine wp_region_still_tail 9 (by kernel_rfl) (by kernel_rfl) ?_
              simp only [List.take_succ_cons, List.take_zero, List.drop_succ_cons, List.drop_zero]
              change wpStill _ _ (World.drew _) _ _ _
              repeat (first | (refine wpStill_step (fun K hK => ?_); go_simp; refine hK _ ?_; clear hK K))
              refine wpStill_nil ?_
              change wpList _ _ _ _ _ (World.drew _)
              go_wp2_with fail
              go_roundw
              case rel => exact ⟨k + 1, by omega, by go_num, (HA2.out.drew.drew).step hlt (by unfold newOf; rw [if_pos Hkb.out, Hhv.out]) (fun h => absurd Hkb.out h)⟩
              case measure => simp [intOf]; omega
            · have hq : (kk == z) = false := by rw [beq_eq_false_iff_ne, ← Hhk.out, ← Hhz.out]; omega
              have Hkb := Lib.hid hkb
              clear hkb
              by_cases hvn : vk < n
              · have hq2 : decide (vk < n) = true := decide_eq_true hvn
                have Hvn := Lib.hid hvn
                go_wp2_with fail
                refine wp_region_still_tail 7 (by kernel_rfl) (by kernel_rfl) ?_
                simp only [List.take_succ_cons, List.take_zero, List.drop_succ_cons, List.drop_zero]
                change wpStill _ _ (World.drew _) _ _ _
                repeat (first | (refine wpStill_step (fun K hK => ?_); go_simp; refine hK _ ?_; clear hK K))
                refine wpStill_nil ?_
                change wpList _ _ _ _ _ (World.drew _)
                go_wp2_with fail
                refine wp_region_still_tail 7 (by kernel_rfl) (by kernel_rfl) ?_
                simp only [List.take_succ_cons, List.take_zero, List.drop_succ_cons, List.drop_zero]
                change wpStill _ _ (World.drew _) _ _ _
                repeat (first | (refine wpStill_step (fun K hK => ?_); go_simp; refine hK _ ?_; clear hK K))
                refine wpStill_nil ?_
                change wpList _ _ _ _ _ (World.drew _)
                go_wp2_with fail
                refine bodyPost_ret (results_tmp3 rfl _ _ _) rfl (.inl ⟨rfl, ?_, k, hlt, Hkb.out, by rw [Hhv.out]; exact Hvn.out⟩)
                exact Hm.out.next ((HA2.out.below HbT.out (Nat.le_of_lt (Nat.lt_of_lt_of_le (by rw [HsW.out]; exact Nat.lt_succ_self _) HB1.out)) (Nat.le_refl _)).drew.drew)
              · have hq2 : decide (vk < n) = false := decide_eq_false hvn
                have h3 := Hn.out
                go_wp2_with fail
                refine wp_region_still_tail 7 (by kernel_rfl) (by kernel_rfl) ?_
                simp only [List.take_succ_cons, List.take_zero, List.drop_succ_cons, List.drop_zero]
                change wpStill _ _ (World.drew _) _ _ _
                repeat (first | (refine wpStill_step (fun K hK => ?_); go_simp; refine hK _ ?_; clear hK K))
                refine wpStill_nil ?_
                change wpList _ _ _ _ _ (World.drew _)
                go_wp2_with fail
                refine wp_region_still_tail 7 (by kernel_rfl) (by kernel_rfl) ?_
                simp only [List.take_succ_cons, List.take_zero, List.drop_succ_cons, List.drop_zero]
                change wpStill _ _ (World.drew _) _ _ _
                repeat (first | (refine wpStill_step (fun K hK => ?_); go_simp; refine hK _ ?_; clear hK K))
                refine wpStill_nil ?_
                change wpList _ _ _ _ _ (World.drew _)
                go_wp2_with fail
                refine wp_region_still_tail 9 (by kernel_rfl) (by kernel_rfl) ?_
                simp only [List.take_succ_cons, List.take_zero, List.drop_succ_cons, List.drop_zero]
                change wpStill _ _ (World.drew _) _ _ _
                repeat (first | (refine wpStill_step (fun K hK => ?_); go_simp; refine hK _ ?_; clear hK K))
                refine wpStill_nil ?_
                change wpList _ _ _ _ _ (World.drew _)
                go_wp2_with fail
                go_roundw
                case rel => exact ⟨k + 1, by omega, by go_num, (HA2.out.step hlt (by unfold newOf; rw [if_neg Hkb.out, Hhv.out]) (fun _ => by rw [Hhv.out]; omega)).drew.drew.drew⟩
                case measure => simp [intOf]; omega
          · have e2 : k = 2 := by omega
            rw [e2] at hA
            have hbel := hA.below HbT.out (Nat.le_of_lt (Nat.lt_of_lt_of_le (by rw [HsW.out]; exact Nat.lt_succ_self _) HB1.out)) (Nat.le_refl _)
            have hcq : ∀ j, j < 2 → wr.cell? ⟨gq, j, none⟩ = some (.int .i64 (old j)) := fun j hj =>
              (World.cell?_of_block (a := ⟨gq, j, none⟩) (hA.keep.block gq Hl2.out (fun e => Hne.out e.symm))).trans (Hq.out j hj)
            have hend : LookEnd Z S 2 key (newOf b n key val) old w (.returned (.tuple #[.slice (some ⟨gv, 0, none⟩) 2 cv, .slice (some ⟨gq, 0, none⟩) 2 cq, .int .i64 0])) wr := by
              refine ⟨gv, cv, gq, cq, rfl, Hm.out.next hbel, ⟨by omega, fun k hk => Hkl.out k hk, fun j k h1 h2 => ?_, fun k hk => ?_, fun k hk => ⟨(hA.cl k hk).1.cell, ?_⟩, hcq, ?_, ?_⟩⟩
              · have e0 : j = 0 := by omega
                have e1 : k = 1 := by omega
                subst e0
                subst e1
                exact Hkne.out
              · obtain ⟨r, hr⟩ := Hch.out k hk
                rw [← congrFun Hold.out k]
                exact hr.1
              · have := (hA.cl k hk).2.cell
                rw [if_pos hk] at this
                exact this
              · exact Hm.out.tags.new _ (Nat.le_of_lt (Nat.lt_of_lt_of_le (by rw [HsW.out]; exact Nat.lt_succ_self _) HB1.out))
              · exact Hm.out.tags.new _ (Nat.le_of_lt (Nat.lt_of_lt_of_le (by rw [HsW.out]; exact Nat.lt_succ_self _) HB2.out))
            have hfew := hA.few
            have Hend := Lib.hid hend
            have Hfew := Lib.hid hfew
            have hlf : decide ((k : Int) < 2) = false := by rw [decide_eq_false_iff_not]; omega
            clear hA hbel hcq hend hfew e2 hlt hk
            go_wp2_with fail
            refine bodyPost_ret (results_tmp3 rfl _ _ _) rfl ?_
            exact .inr ⟨Hend.out, fun j hj hb => Hfew.out j hj hb⟩
end Go.Proofs.YtadelkancmbanaaGreat
