/-
  bond.Cells: Many.
-/
import Derived.Test.YtadelkancmbanaaGreatBManyL
import Derived.Test.YtadelkancmbanaaGreatBGet
namespace Go.Proofs.YtadelkancmbanaaGreat
open Go.RowKit
attribute [local go_sem ↓] Go.wp_at_zero Go.wp_at_succ

theorem callManyL (cap : Array Value) : ∀ w, (callFunc 39 cap).run Tryz.prog w = .ok (.enter 39 cap) w := fun w => by kernel_rfl

/-- A row of pairs. -/
def PairsAt (g : Nat) (d : Array (Int × Int)) (w : World) : Prop := ∀ j, j < d.size → w.cell? ⟨g, j * 2, none⟩ = some (.int .i64 d[j]!.1) ∧ w.cell? ⟨g, j * 2 + 1, none⟩ = some (.int .i64 d[j]!.2)

structure CloneEnd (d : Array (Int × Int)) (w : World) (e : Ending) (w' : World) (g c : Nat) : Prop where
  end_ : e = .returned (.slice (some ⟨g, 0, none⟩) d.size c)
  lo : w.heap.size ≤ g
  hi : g < w'.heap.size
  cells : ∀ j, j < d.size → CellIs w' g (j * 2) (.int .i64 d[j]!.1) ∧ CellIs w' g (j * 2 + 1) (.int .i64 d[j]!.2)
  below : Below w.heap.size w w'

theorem flat_get (d : Array (Int × Int)) (l : List (Int × Int)) (hl : d.toList = l) : ∀ j, (l.flatMap encP)[j]? = if j < 2 * l.length then some (if j % 2 = 0 then .int .i64 d[j / 2]!.1 else .int .i64 d[j / 2]!.2) else none := by
  subst hl
  suffices H : ∀ (l : List (Int × Int)) j, (l.flatMap encP)[j]? = if j < 2 * l.length then some (if j % 2 = 0 then .int .i64 (l[j / 2]!).1 else .int .i64 (l[j / 2]!).2) else none by
    intro j
    rw [H]
    simp [getElem!_def]
  intro l
  induction l with
  | nil => intro j; simp
  | cons x r ih =>
    intro j
    rw [List.flatMap_cons]
    match j with
    | 0 => simp [encP]
    | 1 => simp [encP]; omega
    | j + 2 =>
      rw [List.getElem?_append_right (by simp [encP])]
      have e1 : j + 2 - (encP x).length = j := by simp [encP]
      have e2 : (j + 2) / 2 = j / 2 + 1 := by omega
      have e3 : (j + 2) % 2 = j % 2 := by omega
      rw [e1, ih j, e2, e3]
      simp only [List.length_cons]
      by_cases h : j < 2 * r.length
      · have h' : j + 2 < 2 * (r.length + 1) := by omega
        rw [if_pos h, if_pos h']
        simp
      · have h' : ¬ j + 2 < 2 * (r.length + 1) := by omega
        rw [if_neg h, if_neg h']
theorem flat_length : ∀ l : List (Int × Int), (l.flatMap encP).length = l.length * 2
  | [] => rfl
  | x :: r => by rw [List.flatMap_cons, List.length_append, flat_length r]; simp [encP]; omega

set_option maxRecDepth 100000 in
theorem clone_any (gp cap : Nat) (d : Array (Int × Int)) (w : World) (hd : 1 ≤ d.size ∧ d.size ≤ 16) (hp : PairsAt gp d w) :
    Calls Tryz.prog 33 #[.slice (some ⟨gp, 0, none⟩) d.size cap] w fun e w' => ∃ g c, CloneEnd d w e w' g c := by
  obtain ⟨ip, hip, zp0, zp1, zp2⟩ := info_parts infoBPair
  have hflat := flat_get d d.toList rfl
  have hlen : (d.toList.flatMap encP).length = d.size * 2 := by rw [flat_length]; simp
  have hcon := AnyE.slices_Clone clonePairs ip _ 2 16 hip zp0 zp1 zp2 rfl (by decide) Tryz.sizeOf52 gp 0 d.size cap (d.toList.flatMap encP) w hlen (by unfold maxLen; omega) (by omega) (fun j u hj => ?_) (fun u hu => ?_)
  · change Calls Tryz.prog 33 _ _ _ at hcon
    refine hcon.mono ?_
    rintro e w' ⟨v', rfl, hown, _, hb⟩
    have hown : w'.ownsRow w.heap.size 52 2 v' d.size (d.toList.flatMap encP) := hown
    obtain ⟨g, c, e, hB, hl⟩ := hown.form (by omega)
    subst e
    refine ⟨g, c, rfl, hB, hl, fun j hj => ⟨⟨?_, hown.frozenAt _⟩, ⟨?_, hown.frozenAt _⟩⟩, hb⟩
    · rw [hown.cellAt _ (by omega), hflat, if_pos (by simp; omega), if_pos (by omega)]
      have e : j * 2 / 2 = j := by omega
      rw [e]
    · rw [hown.cellAt _ (by omega), hflat, if_pos (by simp; omega), if_neg (by omega)]
      have e : (j * 2 + 1) / 2 = j := by omega
      rw [e]
  · rw [hflat] at hj
    have hjl : j < 2 * d.size := by
      rcases Nat.lt_or_ge j (2 * d.size) with h | h
      · exact h
      · rw [if_neg (by simp; omega)] at hj; cases hj
    rw [if_pos (by simp; omega)] at hj
    injection hj with hj
    rw [Nat.zero_add, ← hj]
    have h := hp (j / 2) (by omega)
    by_cases e : j % 2 = 0
    · rw [if_pos e]
      have ej : j / 2 * 2 = j := by omega
      rw [ej] at h
      exact h.1
    · rw [if_neg e]
      have ej : j / 2 * 2 + 1 = j := by omega
      rw [ej] at h
      exact h.2
  · obtain ⟨x, _, hx⟩ := List.mem_flatMap.1 hu
    exact encP_one x u hx

set_option maxRecDepth 100000 in
set_option maxHeartbeats 1600000 in
theorem bMany_few (x n c : Nat) (p : Option Addr) (w : World) (hn : n = 0 ∨ 16 < n) :
    Calls Tryz.prog 11 #[.pointer (some ⟨x, 0, none⟩), .pointer none, .slice p n c] w fun e w' => e = .returned (.tuple #[.int .i64 0, .int .i64 301]) ∧ Below w.heap.size w w' := by
  have hb : Below w.heap.size w (((w.alloc (.cells #[.pointer (some ⟨x, 0, none⟩)] 28)).alloc (.cells #[.pointer none] 66)).alloc (.cells #[.slice p n c] 25)) := (((Below.refl _ _).alloc (Nat.le_refl _) _).alloc (by simp) _).alloc (by simp; omega) _
  have Hb := Lib.hid hb
  clear hb
  rcases hn with rfl | hn
  · go_enter Tryz.func11, Tryz.ntmps11
    go_wp2_with (first | (go_at_call 32; ((with_reducible refine (refused_any _ _).mono ?_); rintro e w' ⟨rfl, rfl⟩)))
    go_ret2
    exact ⟨rfl, Hb.out⟩
  · have h1 : (n == 0) = false := by rw [beq_eq_false_iff_ne]; omega
    have h2 : ¬ n = 0 := by omega
    go_enter Tryz.func11, Tryz.ntmps11
    go_wp2_with (first | (go_at_call 32; ((with_reducible refine (refused_any _ _).mono ?_); rintro e w' ⟨rfl, rfl⟩)))
    go_ret2
    exact ⟨rfl, Hb.out⟩

theorem ChangedEnd.from {Z : Fix} {S : St} {n : Nat} {key : Nat → Nat} {val old : Nat → Int} {F : List Nat} {G : Int} {w w1 w' : World} {e : Ending} (h : ChangedEnd Z S n key val old F G w1 e w') (hn : Next Z S w S w1) : ChangedEnd Z S n key val old F G w e w' := by
  obtain ⟨he, db, next, head, tag, h1, h2, h3⟩ := h
  exact ⟨he, db, next, head, tag, hn.trans h1, h2, h3⟩

/-- Pair k's cell is one of N, and not the one before. -/
def GoodAt (N : Nat) (d : Array (Int × Int)) (k : Nat) : Prop := (0 ≤ d[k]!.1 ∧ d[k]!.1 < (N : Int)) ∧ (0 < k → d[k - 1]!.1 ≠ d[k]!.1)

theorem strict_of {N : Nat} {d : Array (Int × Int)} (hs : ∀ i j, i < j → j < d.size → ¬ (d[j]!.1 < d[i]!.1)) (hg : ∀ k, k < d.size → GoodAt N d k) (i j : Nat) (hij : i < j) (hj : j < d.size) : d[i]!.1 < d[j]!.1 := by
  have h1 := hs (j - 1) j (by omega) hj
  have h2 := (hg j hj).2 (by omega)
  rcases Nat.eq_or_lt_of_le (show i ≤ j - 1 by omega) with e | e
  · rw [← e] at h1 h2; omega
  · have h3 := hs i (j - 1) e (by omega)
    omega

def ManyEnd (Z : Fix) (S : St) (top : Nat → Ver) (d : Array (Int × Int)) (F : List Nat) (G : Int) (w : World) (e : Ending) (w' : World) : Prop :=
  ∃ d' : Array (Int × Int), d'.toList.Perm d.toList ∧ (∀ i j, i < j → j < d'.size → ¬ (d'[j]!.1 < d'[i]!.1)) ∧
    ((e = .returned (.tuple #[.int .i64 0, .int .i64 302]) ∧ Next Z S w S w' ∧ ∃ k, k < d'.size ∧ ¬ GoodAt S.heads.length d' k) ∨
     (ChangedEnd Z S d'.size (fun j => d'[j]!.1.toNat) (fun j => d'[j]!.2) (fun j => hnd (top d'[j]!.1.toNat).i (top d'[j]!.1.toNat).g) F G w e w' ∧ ∀ k, k < d'.size → GoodAt S.heads.length d' k))

set_option maxRecDepth 100000 in
set_option maxHeartbeats 6400000 in
theorem bMany_in (Z : Fix) (S : St) (top : Nat → Ver) (gp cap : Nat) (d : Array (Int × Int)) (F : List Nat) (G : Int) (w : World) (hm : Mem Z S w) (hd : S.deep = 0) (h0 : S.at0 = 0) (ok : PoolOk Z.n S.tbl S.next S.head F G) (hG : G + d.size < 900000) (hmade : S.made ≤ 999) (hF : d.size ≤ F.length) (hn : 1 ≤ d.size ∧ d.size ≤ 16)
    (hch : ∀ c, c < S.heads.length → ∃ r, CellChain Z.n S.made S.tbl S.st S.heads c (top c :: r)) (hp : PairsAt gp d w) :
    Calls Tryz.prog 11 #[.pointer (some ⟨Z.X.x, 0, none⟩), .pointer none, .slice (some ⟨gp, 0, none⟩) d.size cap] w (ManyEnd Z S top d F G w) := by
  obtain ⟨n, hdn⟩ : ∃ n, d.size = n := ⟨_, rfl⟩
  obtain ⟨W, hW⟩ : ∃ W, W = ((w.alloc (.cells #[.pointer (some ⟨Z.X.x, 0, none⟩)] 28)).alloc (.cells #[.pointer none] 66)).alloc (.cells #[.slice (some ⟨gp, 0, none⟩) n cap] 25) := ⟨_, rfl⟩
  have bW : Below w.heap.size w W := by rw [hW]; exact (((Below.refl _ _).alloc (Nat.le_refl _) _).alloc (by simp) _).alloc (by simp; omega) _
  have sW : W.heap.size = w.heap.size + 3 := by rw [hW]; simp
  have g2 : W.heap[w.heap.size + 1 + 1]? = some (.cells #[.slice (some ⟨gp, 0, none⟩) n cap] 25 (0, 0)) := by
    have h := heap_alloc_new ((w.alloc (.cells #[.pointer (some ⟨Z.X.x, 0, none⟩)] 28)).alloc (.cells #[.pointer none] 66)) (.cells #[.slice (some ⟨gp, 0, none⟩) n cap] 25)
    rw [hW]
    simpa using h
  have g1 : W.heap[w.heap.size + 1]? = some (.cells #[.pointer none] 66 (0, 0)) := by
    rw [hW, Below.heap_alloc _ _ _ (by simp)]; exact heap_alloc2_new _ _ _
  have g0 : W.heap[w.heap.size]? = some (.cells #[.pointer (some ⟨Z.X.x, 0, none⟩)] 28 (0, 0)) := by
    rw [hW, Below.heap_alloc _ _ _ (by simp; omega)]; exact heap_alloc2_old _ _ _
  have hpW : PairsAt gp d W := fun j hj => ⟨(bW.cell (p := ⟨gp, j * 2, none⟩) (World.block_lt_of_cell? w _ (hp j hj).1)).trans (hp j hj).1, (bW.cell (p := ⟨gp, j * 2 + 1, none⟩) (World.block_lt_of_cell? w _ (hp j hj).2)).trans (hp j hj).2⟩
  have hcl := clone_any gp cap d W hn hpW
  have hcl : Calls Tryz.prog 33 #[.slice (some ⟨gp, 0, none⟩) n cap] W fun e w' => ∃ g c, e = .returned (.slice (some ⟨g, 0, none⟩) n c) ∧ CloneEnd d W (.returned (.slice (some ⟨g, 0, none⟩) d.size c)) w' g c := by
    rw [hdn] at hcl
    refine hcl.mono ?_
    rintro e w' ⟨g, c, hE⟩
    exact ⟨g, c, by rw [← hdn]; exact hE.end_, ⟨rfl, hE.lo, hE.hi, hE.cells, hE.below⟩⟩
  rw [hdn] at hn hG hF ⊢
  have h1 : (n == 0) = false := by rw [beq_eq_false_iff_ne]; omega
  have h2 : ¬ n = 0 := by omega
  have h3 : ¬ 16 < n := by omega
  have h1i : ((n : Int) == 0) = false := by rw [beq_eq_false_iff_ne]; omega
  have h3i : decide (16 < (n : Int)) = false := decide_eq_false (by omega)
  have Hcl := Lib.hid hcl
  have Hm := Lib.hid hm
  have Hd := Lib.hid hd
  have H0 := Lib.hid h0
  have Hok := Lib.hid ok
  have HG := Lib.hid hG
  have HF := Lib.hid hF
  have Hmade := Lib.hid hmade
  have Hch := Lib.hid hch
  have HW := Lib.hid hW
  have HbW := Lib.hid bW
  have HsW := Lib.hid sW
  have G0 := Lib.hid g0
  have G1 := Lib.hid g1
  have G2 := Lib.hid g2
  have Hdn := Lib.hid hdn
  clear hcl hm hd h0 ok hG hF hmade hch hp hpW hW bW sW g0 g1 g2 hdn
  go_enter Tryz.func11, Tryz.ntmps11
  go_wp2_with fail
  rw [← HW.out]
  refine Hcl.out.mono ?_
  rintro e w2 ⟨g, c, rfl, hE⟩
  have hlo : w.heap.size + 3 ≤ g := by rw [← HsW.out]; exact hE.lo
  have b2 : w2.heap[w.heap.size + 1 + 1]? = some (.cells #[.slice (some ⟨gp, 0, none⟩) n cap] 25 (0, 0)) := (hE.below.block _ (by rw [HsW.out]; omega)).trans G2.out
  have b1 : w2.heap[w.heap.size + 1]? = some (.cells #[.pointer none] 66 (0, 0)) := (hE.below.block _ (by rw [HsW.out]; omega)).trans G1.out
  have b0 : w2.heap[w.heap.size]? = some (.cells #[.pointer (some ⟨Z.X.x, 0, none⟩)] 28 (0, 0)) := (hE.below.block _ (by rw [HsW.out]; omega)).trans G0.out
  have k2 : CellIs w2 (w.heap.size + 1 + 1) 0 (.slice (some ⟨gp, 0, none⟩) n cap) := ⟨by simp [World.cell?, b2], by simp [World.frozen?, b2]⟩
  have k1 : CellIs w2 (w.heap.size + 1) 0 (.pointer none) := ⟨by simp [World.cell?, b1], by simp [World.frozen?, b1]⟩
  have k0 : CellIs w2 w.heap.size 0 (.pointer (some ⟨Z.X.x, 0, none⟩)) := ⟨by simp [World.cell?, b0], by simp [World.frozen?, b0]⟩
  have k2c := k2.cell
  have k2f := k2.frz
  obtain ⟨w3, hw3⟩ : ∃ w3, w3 = w2.setCell ⟨w.heap.size + 1 + 1, 0, none⟩ (.slice (some ⟨g, 0, none⟩) n c) := ⟨_, rfl⟩
  have hs3 : w3.heap.size = w2.heap.size := by rw [hw3]; simp [World.setCell]
  have hsr := sortpairs_any g c d w3 (fun j hj => by rw [hw3]; exact ⟨(hE.cells j hj).1.setc (.inl (by omega)), (hE.cells j hj).2.setc (.inl (by omega))⟩) (by rw [hs3]; exact hE.hi) (by rw [Hdn.out]; omega)
  rw [Hdn.out] at hsr
  have q2 : CellIs w3 (w.heap.size + 1 + 1) 0 (.slice (some ⟨g, 0, none⟩) n c) := by rw [hw3]; exact k2.set
  have q1 : CellIs w3 (w.heap.size + 1) 0 (.pointer none) := by rw [hw3]; exact k1.setc (.inl (by omega))
  have q0 : CellIs w3 w.heap.size 0 (.pointer (some ⟨Z.X.x, 0, none⟩)) := by rw [hw3]; exact k0.setc (.inl (by omega))
  have hb3 : Below w.heap.size w w3 := by
    rw [hw3]
    exact (((Keep.of_below (S := fun _ => False) HbW.out).trans (Keep.of_below (hE.below.mono HbW.out.size))).setCell (p := ⟨w.heap.size + 1 + 1, 0, none⟩) (.inr (by show w.heap.size ≤ w.heap.size + 1 + 1; omega)) _).below
  have Hsr := Lib.hid hsr
  have Q0 := Lib.hid q0
  have Q1 := Lib.hid q1
  have Q2 := Lib.hid q2
  have Hb3 := Lib.hid hb3
  have Hw3 := Lib.hid hw3
  have Hlo := Lib.hid hlo
  have Hg3 : Hid (g < w3.heap.size) := Lib.hid (by rw [hs3]; exact hE.hi)
  clear hE b0 b1 b2 k0 k1 k2 q0 q1 q2 hsr hb3 hs3 hlo hw3 G0 G1 G2 Hcl HW HbW HsW
  go_wp2_with fail
  rw [← Hw3.out]
  refine Hsr.out.mono ?_
  rintro e w4 ⟨d', hS⟩
  obtain rfl := hS.end_
  have hdn' : d'.size = n := by
    have h := hS.perm.length_eq
    simp only [Array.length_toList] at h
    rw [h, Hdn.out]
  have r2 := Q2.out.of_block (hS.keep.block _ Q2.out.lt (by have := Hlo.out; omega))
  have r1 := Q1.out.of_block (hS.keep.block _ Q1.out.lt (by have := Hlo.out; omega))
  have r0 := Q0.out.of_block (hS.keep.block _ Q0.out.lt (by have := Hlo.out; omega))
  have hb4 : Below w.heap.size w w4 := ((Keep.of_below (S := fun _ => False) Hb3.out).trans ((hS.keep.mono Hb3.out.size).weaken fun i hi e => absurd hi (by have := Hlo.out; omega))).below
  have r2c := r2.cell
  have R0 := Lib.hid r0
  have R1 := Lib.hid r1
  have R2 := Lib.hid r2
  have Hb4 := Lib.hid hb4
  have HS := Lib.hid hS
  have Hdn' := Lib.hid hdn'
  have Hg4 : Hid (g < w4.heap.size) := Lib.hid (Nat.lt_of_lt_of_le Hg3.out hS.keep.size)
  have Hu4 : Hid (w.heap.size + 3 ≤ w4.heap.size) := Lib.hid (by have := Hg3.out; have := Hlo.out; have := hS.keep.size; omega)
  clear hS hdn' r0 r1 r2 hb4 Hsr Hw3 k2c k2f
  go_wp2_with fail
  clear r2c
  go_loopw [26] (fun i wr => ∃ k : Nat, k ≤ n ∧ i = .int .i64 k ∧ Below w4.heap.size w4 wr ∧ ∀ j, j < k → GoodAt S.heads.length d' j) (fun i _ => n - (intOf i).toNat)
  case atStart => exact ⟨0, Nat.zero_le _, rfl, Below.refl _ _, fun j hj => absurd hj (by omega)⟩
  case round =>
    obtain ⟨k, hk, rfl, hbT, hgood⟩ := hrel
    by_cases hlt : k < n
    · have hcell : ∀ j, j < n → wr.cell? ⟨g, j * 2, none⟩ = some (.int .i64 d'[j]!.1) ∧ wr.cell? ⟨g, j * 2 + 1, none⟩ = some (.int .i64 d'[j]!.2) := fun j hj =>
        ⟨(hbT.cell (p := ⟨g, j * 2, none⟩) Hg4.out).trans (HS.out.cells j (by rw [Hdn'.out]; exact hj)).1.cell, (hbT.cell (p := ⟨g, j * 2 + 1, none⟩) Hg4.out).trans (HS.out.cells j (by rw [Hdn'.out]; exact hj)).2.cell⟩
      have b2 := (hbT.cell (p := ⟨w.heap.size + 1 + 1, 0, none⟩) R2.out.lt).trans R2.out.cell
      have b1 := (hbT.cell (p := ⟨w.heap.size + 1, 0, none⟩) R1.out.lt).trans R1.out.cell
      have b0 := (hbT.cell (p := ⟨w.heap.size, 0, none⟩) R0.out.lt).trans R0.out.cell
      have d0 := (hcell k hlt).1
      have d1 := (hcell k hlt).2
      obtain ⟨kk, hkk⟩ : ∃ x, d'[k]!.1 = x := ⟨_, rfl⟩
      obtain ⟨vk, hvk⟩ : ∃ x, d'[k]!.2 = x := ⟨_, rfl⟩
      rw [hkk] at d0
      rw [hvk] at d1
      obtain ⟨W5, hW5⟩ : ∃ W5, W5 = wr.alloc (.cells #[.int .i64 kk, .int .i64 vk] 52) := ⟨_, rfl⟩
      have g5 : W5.heap[wr.heap.size]? = some (.cells #[.int .i64 kk, .int .i64 vk] 52 (0, 0)) := by rw [hW5]; exact heap_alloc_new _ _
      have bW5 : Below wr.heap.size wr W5 := by rw [hW5]; exact (Below.refl _ _).alloc (Nat.le_refl _) _
      have s0 : W5.drew.cell? ⟨w.heap.size, 0, none⟩ = some (.pointer (some ⟨Z.X.x, 0, none⟩)) := (bW5.cell (p := ⟨w.heap.size, 0, none⟩) (World.block_lt_of_cell? _ _ b0)).trans b0
      have s1 : W5.drew.cell? ⟨wr.heap.size, 0, none⟩ = some (.int .i64 kk) := by show W5.cell? _ = _; simp [World.cell?, g5]
      have s2 : W5.drew.cell? ⟨w.heap.size + 1 + 1, 0, none⟩ = some (.slice (some ⟨g, 0, none⟩) n c) := (bW5.cell (p := ⟨w.heap.size + 1 + 1, 0, none⟩) (World.block_lt_of_cell? _ _ b2)).trans b2
      have s3 : W5.drew.cell? ⟨w.heap.size + 1, 0, none⟩ = some (.pointer none) := (bW5.cell (p := ⟨w.heap.size + 1, 0, none⟩) (World.block_lt_of_cell? _ _ b1)).trans b1
      have hcell5 : ∀ j, j < n → W5.drew.cell? ⟨g, j * 2, none⟩ = some (.int .i64 d'[j]!.1) := fun j hj => (bW5.cell (p := ⟨g, j * 2, none⟩) (World.block_lt_of_cell? _ _ (hcell j hj).1)).trans (hcell j hj).1
      have hbT5 : Below w4.heap.size w4 W5 := hbT.trans (bW5.mono hbT.size)
      have hn5 : Next Z S w S W5.drew := Hm.out.next ((Hb4.out.trans (hbT5.mono Hb4.out.size)).drew)
      have his := bis_any Z.X S.heads S.made S.db S.st kk W5.drew hn5.mem.bond
      have HW5 := Lib.hid hW5
      have HbT5 := Lib.hid hbT5
      have Hn5 := Lib.hid hn5
      have Hgood := Lib.hid hgood
      have Hcell5 := Lib.hid hcell5
      have Hkk := Lib.hid hkk
      clear hW5 g5 bW5 hbT5 hn5 hgood hcell5 hcell hbT b0 b1 b2 hkk hvk
      by_cases hin : 0 ≤ kk ∧ kk < (S.heads.length : Int)
      · rw [decide_eq_true hin] at his
        have His := Lib.hid his
        clear his
        go_wp2_with fail
        rw [← HW5.out]
        by_cases hk0 : 0 < k
        · obtain ⟨m, hkm⟩ : ∃ m : Nat, (k : Int) - 1 = (m : Int) := ⟨k - 1, by omega⟩
          have hmn : m < n := by omega
          have hmk : m = k - 1 := by omega
          have hwm : IntKind.i64.wrap (m : Int) = (m : Int) := by rw [IntKind.wrap_i64]; omega
          have hmi : (m : Int) < (n : Int) := by omega
          have s4 := Hcell5.out m hmn
          obtain ⟨km, hkm2⟩ : ∃ x, d'[m]!.1 = x := ⟨_, rfl⟩
          rw [hkm2] at s4
          have Hmk := Lib.hid hmk
          have Hkm2 := Lib.hid hkm2
          clear hmk hkm2
          by_cases heq : km = kk
          · have hq : (km == kk) = true := by rw [beq_iff_eq]; exact heq
            have Heq := Lib.hid heq
            clear heq
            refine Reg.start (fun w' => w'.cell? ⟨w.heap.size, 0, none⟩ = some (.pointer (some ⟨Z.X.x, 0, none⟩)) ∧ w'.cell? ⟨wr.heap.size, 0, none⟩ = some (.int .i64 kk) ∧ w'.cell? ⟨w.heap.size + 1 + 1, 0, none⟩ = some (.slice (some ⟨g, 0, none⟩) n c) ∧ w'.cell? ⟨g, m * 2, none⟩ = some (.int .i64 km)) [] (by kernel_rfl) ?_ (fun hHeld => ?_)
            · first | exact True.intro | ((try dsimp only); exact ⟨s0, s1, s2, s4⟩)
            refine Reg.take (i := 0) (v := ?vc_0) rfl (by kernel_rfl) (by kernel_rfl) (by kernel_rfl) (by kernel_rfl) (fun _ _ _ h => h) (Or.inl ⟨by rfl, ?hc_0⟩) hHeld ?rc_0
            case hc_0 => (intro wS hSw; (try dsimp only at hSw); go_simp; all_goals with_reducible rfl)
            try simp only [Act.put, List.setIfInBounds_toArray, List.set_cons_zero, List.set_cons_succ]
            refine Reg.takeP (i := 1) (v := ?vc_1) rfl (by kernel_rfl) (by kernel_rfl) (by kernel_rfl) (by kernel_rfl) (fun _ _ _ h => h) (Or.inl ⟨by rfl, ?hc_1⟩) (fun _ => hHeld) ?rc_1
            case hc_1 => (intro wS hSw; (try dsimp only at hSw); go_simp; all_goals with_reducible rfl)
            try simp only [Act.put, List.setIfInBounds_toArray, List.set_cons_zero, List.set_cons_succ]
            refine Reg.take (i := 2) (v := ?vc_2) rfl (by kernel_rfl) (by kernel_rfl) (by kernel_rfl) (by kernel_rfl) (fun _ _ _ h => h) (Or.inl ⟨by rfl, ?hc_2⟩) hHeld ?rc_2
            case hc_2 => (intro wS hSw; (try dsimp only at hSw); go_simp; all_goals with_reducible rfl)
            try simp only [Act.put, List.setIfInBounds_toArray, List.set_cons_zero, List.set_cons_succ]
            refine Reg.one (i := 3) rfl (by kernel_rfl) (fun K hK => ?_)
            (go_simp; refine (His.out).mono ?_; rintro e w' ⟨rfl, rfl⟩; dsimp only)
            refine hK.out _ _ (fun _ => ?_) (fun hHeld => ?_)
            · first | exact True.intro | ((try dsimp only); exact ⟨s0, s1, s2, s4⟩)
            replace hHeld := hHeld (by decide)
            clear hK K
            try simp only [Act.put, List.setIfInBounds_toArray, List.set_cons_zero, List.set_cons_succ]
            refine Reg.takeP (i := 4) (v := ?vc_4) rfl (by kernel_rfl) (by kernel_rfl) (by kernel_rfl) (by kernel_rfl) (fun _ _ _ h => h) (Or.inl ⟨by rfl, ?hc_4⟩) (fun _ => hHeld) ?rc_4
            case hc_4 => (intro wS hSw; (try dsimp only at hSw); go_simp; all_goals with_reducible rfl)
            try simp only [Act.put, List.setIfInBounds_toArray, List.set_cons_zero, List.set_cons_succ]
            refine Reg.takeP (i := 5) (v := ?vc_5) rfl (by kernel_rfl) (by kernel_rfl) (by kernel_rfl) (by kernel_rfl) (fun _ _ _ h => h) (Or.inl ⟨by rfl, ?hc_5⟩) (fun _ => hHeld) ?rc_5
            case hc_5 => (intro wS hSw; (try dsimp only at hSw); go_simp; all_goals with_reducible rfl)
            try simp only [Act.put, List.setIfInBounds_toArray, List.set_cons_zero, List.set_cons_succ]
            refine Reg.takeP (i := 6) (v := ?vc_6) rfl (by kernel_rfl) (by kernel_rfl) (by kernel_rfl) (by kernel_rfl) (fun _ _ _ h => h) (Or.inl ⟨by rfl, ?hc_6⟩) (fun _ => hHeld) ?rc_6
            case hc_6 => (intro wS hSw; (try dsimp only at hSw); go_simp; all_goals with_reducible rfl)
            try simp only [Act.put, List.setIfInBounds_toArray, List.set_cons_zero, List.set_cons_succ]
            refine Reg.takeP (i := 7) (v := ?vc_7) rfl (by kernel_rfl) (by kernel_rfl) (by kernel_rfl) (by kernel_rfl) (fun _ _ _ h => h) (Or.inl ⟨by rfl, ?hc_7⟩) (fun _ => hHeld) ?rc_7
            case hc_7 => (intro wS hSw; (try dsimp only at hSw); go_simp; all_goals with_reducible rfl)
            try simp only [Act.put, List.setIfInBounds_toArray, List.set_cons_zero, List.set_cons_succ]
            refine Reg.takeP (i := 8) (v := ?vc_8) rfl (by kernel_rfl) (by kernel_rfl) (by kernel_rfl) (by kernel_rfl) (fun _ _ _ h => h) (Or.inl ⟨by rfl, ?hc_8⟩) (fun _ => hHeld) ?rc_8
            case hc_8 => (intro wS hSw; (try dsimp only at hSw); go_simp; all_goals with_reducible rfl)
            try simp only [Act.put, List.setIfInBounds_toArray, List.set_cons_zero, List.set_cons_succ]
            refine Reg.take (i := 9) (v := ?vc_9) rfl (by kernel_rfl) (by kernel_rfl) (by kernel_rfl) (by kernel_rfl) (fun _ _ _ h => h) (Or.inl ⟨by rfl, ?hc_9⟩) hHeld ?rc_9
            case hc_9 => (intro wS hSw; (try dsimp only at hSw); go_simp; all_goals with_reducible rfl)
            try simp only [Act.put, List.setIfInBounds_toArray, List.set_cons_zero, List.set_cons_succ]
            refine Reg.takeP (i := 10) (v := ?vc_10) rfl (by kernel_rfl) (by kernel_rfl) (by kernel_rfl) (by kernel_rfl) (fun _ _ _ h => h) (Or.inl ⟨by rfl, ?hc_10⟩) (fun _ => hHeld) ?rc_10
            case hc_10 => (intro wS hSw; (try dsimp only at hSw); go_simp; all_goals with_reducible rfl)
            try simp only [Act.put, List.setIfInBounds_toArray, List.set_cons_zero, List.set_cons_succ]
            refine Reg.takeP (i := 11) (v := ?vc_11) rfl (by kernel_rfl) (by kernel_rfl) (by kernel_rfl) (by kernel_rfl) (fun _ _ _ h => h) (Or.inl ⟨by rfl, ?hc_11⟩) (fun _ => hHeld) ?rc_11
            case hc_11 => (intro wS hSw; (try dsimp only at hSw); go_simp; all_goals with_reducible rfl)
            try simp only [Act.put, List.setIfInBounds_toArray, List.set_cons_zero, List.set_cons_succ]
            refine Reg.takeP (i := 12) (v := ?vc_12) rfl (by kernel_rfl) (by kernel_rfl) (by kernel_rfl) (by kernel_rfl) (fun _ _ _ h => h) (Or.inl ⟨by rfl, ?hc_12⟩) (fun _ => hHeld) ?rc_12
            case hc_12 => (intro wS hSw; (try dsimp only at hSw); go_simp; all_goals with_reducible rfl)
            try simp only [Act.put, List.setIfInBounds_toArray, List.set_cons_zero, List.set_cons_succ]
            refine Reg.takeP (i := 13) (v := ?vc_13) rfl (by kernel_rfl) (by kernel_rfl) (by kernel_rfl) (by kernel_rfl) (fun _ _ _ h => h) (Or.inl ⟨by rfl, ?hc_13⟩) (fun _ => hHeld) ?rc_13
            case hc_13 => (intro wS hSw; (try dsimp only at hSw); go_simp; all_goals with_reducible rfl)
            try simp only [Act.put, List.setIfInBounds_toArray, List.set_cons_zero, List.set_cons_succ]
            refine Reg.take (i := 14) (v := ?vc_14) rfl (by kernel_rfl) (by kernel_rfl) (by kernel_rfl) (by kernel_rfl) (fun _ _ _ h => h) (Or.inl ⟨by rfl, ?hc_14⟩) hHeld ?rc_14
            case hc_14 => (intro wS hSw; (try dsimp only at hSw); go_simp; all_goals with_reducible rfl)
            try simp only [Act.put, List.setIfInBounds_toArray, List.set_cons_zero, List.set_cons_succ]
            refine Reg.takeP (i := 15) (v := ?vc_15) rfl (by kernel_rfl) (by kernel_rfl) (by kernel_rfl) (by kernel_rfl) (fun _ _ _ h => h) (Or.inl ⟨by rfl, ?hc_15⟩) (fun _ => hHeld) ?rc_15
            case hc_15 => (intro wS hSw; (try dsimp only at hSw); go_simp; all_goals with_reducible rfl)
            try simp only [Act.put, List.setIfInBounds_toArray, List.set_cons_zero, List.set_cons_succ]
            refine Reg.take (i := 16) (v := ?vc_16) rfl (by kernel_rfl) (by kernel_rfl) (by kernel_rfl) (by kernel_rfl) (fun _ _ _ h => h) (Or.inl ⟨by rfl, ?hc_16⟩) hHeld ?rc_16
            case hc_16 => (intro wS hSw; (try dsimp only at hSw); go_simp; all_goals with_reducible rfl)
            try simp only [Act.put, List.setIfInBounds_toArray, List.set_cons_zero, List.set_cons_succ]
            refine Reg.takeP (i := 17) (v := ?vc_17) rfl (by kernel_rfl) (by kernel_rfl) (by kernel_rfl) (by kernel_rfl) (fun _ _ _ h => h) (Or.inl ⟨by rfl, ?hc_17⟩) (fun _ => hHeld) ?rc_17
            case hc_17 => (intro wS hSw; (try dsimp only at hSw); go_simp; all_goals with_reducible rfl)
            try simp only [Act.put, List.setIfInBounds_toArray, List.set_cons_zero, List.set_cons_succ]
            refine Reg.takeP (i := 18) (v := ?vc_18) rfl (by kernel_rfl) (by kernel_rfl) (by kernel_rfl) (by kernel_rfl) (fun _ _ _ h => h) (Or.inl ⟨by rfl, ?hc_18⟩) (fun _ => hHeld) ?rc_18
            case hc_18 => (intro wS hSw; (try dsimp only at hSw); go_simp; all_goals with_reducible rfl)
            try simp only [Act.put, List.setIfInBounds_toArray, List.set_cons_zero, List.set_cons_succ]
            refine Reg.takeP (i := 19) (v := ?vc_19) rfl (by kernel_rfl) (by kernel_rfl) (by kernel_rfl) (by kernel_rfl) (fun _ _ _ h => h) (Or.inl ⟨by rfl, ?hc_19⟩) (fun _ => hHeld) ?rc_19
            case hc_19 => (intro wS hSw; (try dsimp only at hSw); go_simp; all_goals with_reducible rfl)
            try simp only [Act.put, List.setIfInBounds_toArray, List.set_cons_zero, List.set_cons_succ]
            refine Reg.done (by kernel_rfl) ?_ _
            go_wp2_with (first | (go_at_call 32; ((with_reducible refine (refused_any _ _).mono ?_); rintro e w' ⟨rfl, rfl⟩)))
            go_ret2
            refine ⟨d', HS.out.perm, HS.out.sorted, .inl ⟨rfl, Hn5.out, k, by rw [Hdn'.out]; exact hlt, fun hg => ?_⟩⟩
            have h := hg.2 hk0
            rw [← Hmk.out, Hkm2.out, Hkk.out] at h
            exact h Heq.out
          · have hq : (km == kk) = false := by rw [beq_eq_false_iff_ne]; exact heq
            have Heq := Lib.hid heq
            clear heq
            refine Reg.start (fun w' => w'.cell? ⟨w.heap.size, 0, none⟩ = some (.pointer (some ⟨Z.X.x, 0, none⟩)) ∧ w'.cell? ⟨wr.heap.size, 0, none⟩ = some (.int .i64 kk) ∧ w'.cell? ⟨w.heap.size + 1 + 1, 0, none⟩ = some (.slice (some ⟨g, 0, none⟩) n c) ∧ w'.cell? ⟨g, m * 2, none⟩ = some (.int .i64 km)) [] (by kernel_rfl) ?_ (fun hHeld => ?_)
            · first | exact True.intro | ((try dsimp only); exact ⟨s0, s1, s2, s4⟩)
            refine Reg.take (i := 0) (v := ?vd_0) rfl (by kernel_rfl) (by kernel_rfl) (by kernel_rfl) (by kernel_rfl) (fun _ _ _ h => h) (Or.inl ⟨by rfl, ?hd_0⟩) hHeld ?rd_0
            case hd_0 => (intro wS hSw; (try dsimp only at hSw); go_simp; all_goals with_reducible rfl)
            try simp only [Act.put, List.setIfInBounds_toArray, List.set_cons_zero, List.set_cons_succ]
            refine Reg.takeP (i := 1) (v := ?vd_1) rfl (by kernel_rfl) (by kernel_rfl) (by kernel_rfl) (by kernel_rfl) (fun _ _ _ h => h) (Or.inl ⟨by rfl, ?hd_1⟩) (fun _ => hHeld) ?rd_1
            case hd_1 => (intro wS hSw; (try dsimp only at hSw); go_simp; all_goals with_reducible rfl)
            try simp only [Act.put, List.setIfInBounds_toArray, List.set_cons_zero, List.set_cons_succ]
            refine Reg.take (i := 2) (v := ?vd_2) rfl (by kernel_rfl) (by kernel_rfl) (by kernel_rfl) (by kernel_rfl) (fun _ _ _ h => h) (Or.inl ⟨by rfl, ?hd_2⟩) hHeld ?rd_2
            case hd_2 => (intro wS hSw; (try dsimp only at hSw); go_simp; all_goals with_reducible rfl)
            try simp only [Act.put, List.setIfInBounds_toArray, List.set_cons_zero, List.set_cons_succ]
            refine Reg.one (i := 3) rfl (by kernel_rfl) (fun K hK => ?_)
            (go_simp; refine (His.out).mono ?_; rintro e w' ⟨rfl, rfl⟩; dsimp only)
            refine hK.out _ _ (fun _ => ?_) (fun hHeld => ?_)
            · first | exact True.intro | ((try dsimp only); exact ⟨s0, s1, s2, s4⟩)
            replace hHeld := hHeld (by decide)
            clear hK K
            try simp only [Act.put, List.setIfInBounds_toArray, List.set_cons_zero, List.set_cons_succ]
            refine Reg.takeP (i := 4) (v := ?vd_4) rfl (by kernel_rfl) (by kernel_rfl) (by kernel_rfl) (by kernel_rfl) (fun _ _ _ h => h) (Or.inl ⟨by rfl, ?hd_4⟩) (fun _ => hHeld) ?rd_4
            case hd_4 => (intro wS hSw; (try dsimp only at hSw); go_simp; all_goals with_reducible rfl)
            try simp only [Act.put, List.setIfInBounds_toArray, List.set_cons_zero, List.set_cons_succ]
            refine Reg.takeP (i := 5) (v := ?vd_5) rfl (by kernel_rfl) (by kernel_rfl) (by kernel_rfl) (by kernel_rfl) (fun _ _ _ h => h) (Or.inl ⟨by rfl, ?hd_5⟩) (fun _ => hHeld) ?rd_5
            case hd_5 => (intro wS hSw; (try dsimp only at hSw); go_simp; all_goals with_reducible rfl)
            try simp only [Act.put, List.setIfInBounds_toArray, List.set_cons_zero, List.set_cons_succ]
            refine Reg.takeP (i := 6) (v := ?vd_6) rfl (by kernel_rfl) (by kernel_rfl) (by kernel_rfl) (by kernel_rfl) (fun _ _ _ h => h) (Or.inl ⟨by rfl, ?hd_6⟩) (fun _ => hHeld) ?rd_6
            case hd_6 => (intro wS hSw; (try dsimp only at hSw); go_simp; all_goals with_reducible rfl)
            try simp only [Act.put, List.setIfInBounds_toArray, List.set_cons_zero, List.set_cons_succ]
            refine Reg.takeP (i := 7) (v := ?vd_7) rfl (by kernel_rfl) (by kernel_rfl) (by kernel_rfl) (by kernel_rfl) (fun _ _ _ h => h) (Or.inl ⟨by rfl, ?hd_7⟩) (fun _ => hHeld) ?rd_7
            case hd_7 => (intro wS hSw; (try dsimp only at hSw); go_simp; all_goals with_reducible rfl)
            try simp only [Act.put, List.setIfInBounds_toArray, List.set_cons_zero, List.set_cons_succ]
            refine Reg.takeP (i := 8) (v := ?vd_8) rfl (by kernel_rfl) (by kernel_rfl) (by kernel_rfl) (by kernel_rfl) (fun _ _ _ h => h) (Or.inl ⟨by rfl, ?hd_8⟩) (fun _ => hHeld) ?rd_8
            case hd_8 => (intro wS hSw; (try dsimp only at hSw); go_simp; all_goals with_reducible rfl)
            try simp only [Act.put, List.setIfInBounds_toArray, List.set_cons_zero, List.set_cons_succ]
            refine Reg.take (i := 9) (v := ?vd_9) rfl (by kernel_rfl) (by kernel_rfl) (by kernel_rfl) (by kernel_rfl) (fun _ _ _ h => h) (Or.inl ⟨by rfl, ?hd_9⟩) hHeld ?rd_9
            case hd_9 => (intro wS hSw; (try dsimp only at hSw); go_simp; all_goals with_reducible rfl)
            try simp only [Act.put, List.setIfInBounds_toArray, List.set_cons_zero, List.set_cons_succ]
            refine Reg.takeP (i := 10) (v := ?vd_10) rfl (by kernel_rfl) (by kernel_rfl) (by kernel_rfl) (by kernel_rfl) (fun _ _ _ h => h) (Or.inl ⟨by rfl, ?hd_10⟩) (fun _ => hHeld) ?rd_10
            case hd_10 => (intro wS hSw; (try dsimp only at hSw); go_simp; all_goals with_reducible rfl)
            try simp only [Act.put, List.setIfInBounds_toArray, List.set_cons_zero, List.set_cons_succ]
            refine Reg.takeP (i := 11) (v := ?vd_11) rfl (by kernel_rfl) (by kernel_rfl) (by kernel_rfl) (by kernel_rfl) (fun _ _ _ h => h) (Or.inl ⟨by rfl, ?hd_11⟩) (fun _ => hHeld) ?rd_11
            case hd_11 => (intro wS hSw; (try dsimp only at hSw); go_simp; all_goals with_reducible rfl)
            try simp only [Act.put, List.setIfInBounds_toArray, List.set_cons_zero, List.set_cons_succ]
            refine Reg.takeP (i := 12) (v := ?vd_12) rfl (by kernel_rfl) (by kernel_rfl) (by kernel_rfl) (by kernel_rfl) (fun _ _ _ h => h) (Or.inl ⟨by rfl, ?hd_12⟩) (fun _ => hHeld) ?rd_12
            case hd_12 => (intro wS hSw; (try dsimp only at hSw); go_simp; all_goals with_reducible rfl)
            try simp only [Act.put, List.setIfInBounds_toArray, List.set_cons_zero, List.set_cons_succ]
            refine Reg.takeP (i := 13) (v := ?vd_13) rfl (by kernel_rfl) (by kernel_rfl) (by kernel_rfl) (by kernel_rfl) (fun _ _ _ h => h) (Or.inl ⟨by rfl, ?hd_13⟩) (fun _ => hHeld) ?rd_13
            case hd_13 => (intro wS hSw; (try dsimp only at hSw); go_simp; all_goals with_reducible rfl)
            try simp only [Act.put, List.setIfInBounds_toArray, List.set_cons_zero, List.set_cons_succ]
            refine Reg.take (i := 14) (v := ?vd_14) rfl (by kernel_rfl) (by kernel_rfl) (by kernel_rfl) (by kernel_rfl) (fun _ _ _ h => h) (Or.inl ⟨by rfl, ?hd_14⟩) hHeld ?rd_14
            case hd_14 => (intro wS hSw; (try dsimp only at hSw); go_simp; all_goals with_reducible rfl)
            try simp only [Act.put, List.setIfInBounds_toArray, List.set_cons_zero, List.set_cons_succ]
            refine Reg.takeP (i := 15) (v := ?vd_15) rfl (by kernel_rfl) (by kernel_rfl) (by kernel_rfl) (by kernel_rfl) (fun _ _ _ h => h) (Or.inl ⟨by rfl, ?hd_15⟩) (fun _ => hHeld) ?rd_15
            case hd_15 => (intro wS hSw; (try dsimp only at hSw); go_simp; all_goals with_reducible rfl)
            try simp only [Act.put, List.setIfInBounds_toArray, List.set_cons_zero, List.set_cons_succ]
            refine Reg.take (i := 16) (v := ?vd_16) rfl (by kernel_rfl) (by kernel_rfl) (by kernel_rfl) (by kernel_rfl) (fun _ _ _ h => h) (Or.inl ⟨by rfl, ?hd_16⟩) hHeld ?rd_16
            case hd_16 => (intro wS hSw; (try dsimp only at hSw); go_simp; all_goals with_reducible rfl)
            try simp only [Act.put, List.setIfInBounds_toArray, List.set_cons_zero, List.set_cons_succ]
            refine Reg.takeP (i := 17) (v := ?vd_17) rfl (by kernel_rfl) (by kernel_rfl) (by kernel_rfl) (by kernel_rfl) (fun _ _ _ h => h) (Or.inl ⟨by rfl, ?hd_17⟩) (fun _ => hHeld) ?rd_17
            case hd_17 => (intro wS hSw; (try dsimp only at hSw); go_simp; all_goals with_reducible rfl)
            try simp only [Act.put, List.setIfInBounds_toArray, List.set_cons_zero, List.set_cons_succ]
            refine Reg.takeP (i := 18) (v := ?vd_18) rfl (by kernel_rfl) (by kernel_rfl) (by kernel_rfl) (by kernel_rfl) (fun _ _ _ h => h) (Or.inl ⟨by rfl, ?hd_18⟩) (fun _ => hHeld) ?rd_18
            case hd_18 => (intro wS hSw; (try dsimp only at hSw); go_simp; all_goals with_reducible rfl)
            try simp only [Act.put, List.setIfInBounds_toArray, List.set_cons_zero, List.set_cons_succ]
            refine Reg.takeP (i := 19) (v := ?vd_19) rfl (by kernel_rfl) (by kernel_rfl) (by kernel_rfl) (by kernel_rfl) (fun _ _ _ h => h) (Or.inl ⟨by rfl, ?hd_19⟩) (fun _ => hHeld) ?rd_19
            case hd_19 => (intro wS hSw; (try dsimp only at hSw); go_simp; all_goals with_reducible rfl)
            try simp only [Act.put, List.setIfInBounds_toArray, List.set_cons_zero, List.set_cons_succ]
            refine Reg.done (by kernel_rfl) ?_ _
            go_wp2_with fail
            go_roundw
            case rel =>
              refine ⟨k + 1, by omega, by go_num, HbT5.out.drew, fun j hj => ?_⟩
              by_cases e : j = k
              · subst e
                refine ⟨by rw [Hkk.out]; exact hin, fun _ => ?_⟩
                rw [← Hmk.out, Hkm2.out, Hkk.out]
                exact Heq.out
              · exact Hgood.out j (by omega)
            case measure => simp [intOf]; omega
        · skip
          refine Reg.start (fun w' => w'.cell? ⟨w.heap.size, 0, none⟩ = some (.pointer (some ⟨Z.X.x, 0, none⟩)) ∧ w'.cell? ⟨wr.heap.size, 0, none⟩ = some (.int .i64 kk)) [] (by kernel_rfl) ?_ (fun hHeld => ?_)
          · first | exact True.intro | ((try dsimp only); exact ⟨s0, s1⟩)
          refine Reg.take (i := 0) (v := ?va_0) rfl (by kernel_rfl) (by kernel_rfl) (by kernel_rfl) (by kernel_rfl) (fun _ _ _ h => h) (Or.inl ⟨by rfl, ?ha_0⟩) hHeld ?ra_0
          case ha_0 => (intro wS hSw; (try dsimp only at hSw); go_simp; all_goals with_reducible rfl)
          try simp only [Act.put, List.setIfInBounds_toArray, List.set_cons_zero, List.set_cons_succ]
          refine Reg.takeP (i := 1) (v := ?va_1) rfl (by kernel_rfl) (by kernel_rfl) (by kernel_rfl) (by kernel_rfl) (fun _ _ _ h => h) (Or.inl ⟨by rfl, ?ha_1⟩) (fun _ => hHeld) ?ra_1
          case ha_1 => (intro wS hSw; (try dsimp only at hSw); go_simp; all_goals with_reducible rfl)
          try simp only [Act.put, List.setIfInBounds_toArray, List.set_cons_zero, List.set_cons_succ]
          refine Reg.take (i := 2) (v := ?va_2) rfl (by kernel_rfl) (by kernel_rfl) (by kernel_rfl) (by kernel_rfl) (fun _ _ _ h => h) (Or.inl ⟨by rfl, ?ha_2⟩) hHeld ?ra_2
          case ha_2 => (intro wS hSw; (try dsimp only at hSw); go_simp; all_goals with_reducible rfl)
          try simp only [Act.put, List.setIfInBounds_toArray, List.set_cons_zero, List.set_cons_succ]
          refine Reg.one (i := 3) rfl (by kernel_rfl) (fun K hK => ?_)
          (go_simp; refine (His.out).mono ?_; rintro e w' ⟨rfl, rfl⟩; dsimp only)
          refine hK.out _ _ (fun _ => ?_) (fun hHeld => ?_)
          · first | exact True.intro | ((try dsimp only); exact ⟨s0, s1⟩)
          replace hHeld := hHeld (by decide)
          clear hK K
          try simp only [Act.put, List.setIfInBounds_toArray, List.set_cons_zero, List.set_cons_succ]
          refine Reg.takeP (i := 4) (v := ?va_4) rfl (by kernel_rfl) (by kernel_rfl) (by kernel_rfl) (by kernel_rfl) (fun _ _ _ h => h) (Or.inl ⟨by rfl, ?ha_4⟩) (fun _ => hHeld) ?ra_4
          case ha_4 => (intro wS hSw; (try dsimp only at hSw); go_simp; all_goals with_reducible rfl)
          try simp only [Act.put, List.setIfInBounds_toArray, List.set_cons_zero, List.set_cons_succ]
          refine Reg.takeP (i := 5) (v := ?va_5) rfl (by kernel_rfl) (by kernel_rfl) (by kernel_rfl) (by kernel_rfl) (fun _ _ _ h => h) (Or.inl ⟨by rfl, ?ha_5⟩) (fun _ => hHeld) ?ra_5
          case ha_5 => (intro wS hSw; (try dsimp only at hSw); go_simp; all_goals with_reducible rfl)
          try simp only [Act.put, List.setIfInBounds_toArray, List.set_cons_zero, List.set_cons_succ]
          refine Reg.takeP (i := 6) (v := ?va_6) rfl (by kernel_rfl) (by kernel_rfl) (by kernel_rfl) (by kernel_rfl) (fun _ _ _ h => h) (Or.inl ⟨by rfl, ?ha_6⟩) (fun _ => hHeld) ?ra_6
          case ha_6 => (intro wS hSw; (try dsimp only at hSw); go_simp; all_goals with_reducible rfl)
          try simp only [Act.put, List.setIfInBounds_toArray, List.set_cons_zero, List.set_cons_succ]
          refine Reg.takeP (i := 7) (v := ?va_7) rfl (by kernel_rfl) (by kernel_rfl) (by kernel_rfl) (by kernel_rfl) (fun _ _ _ h => h) (Or.inl ⟨by rfl, ?ha_7⟩) (fun _ => hHeld) ?ra_7
          case ha_7 => (intro wS hSw; (try dsimp only at hSw); go_simp; all_goals with_reducible rfl)
          try simp only [Act.put, List.setIfInBounds_toArray, List.set_cons_zero, List.set_cons_succ]
          refine Reg.takeP (i := 8) (v := ?va_8) rfl (by kernel_rfl) (by kernel_rfl) (by kernel_rfl) (by kernel_rfl) (fun _ _ _ h => h) (Or.inl ⟨by rfl, ?ha_8⟩) (fun _ => hHeld) ?ra_8
          case ha_8 => (intro wS hSw; (try dsimp only at hSw); go_simp; all_goals with_reducible rfl)
          try simp only [Act.put, List.setIfInBounds_toArray, List.set_cons_zero, List.set_cons_succ]
          refine Reg.takeP (i := 9) (v := undef) rfl (by kernel_rfl) (by kernel_rfl) (by kernel_rfl) (by kernel_rfl) (fun _ _ _ h => h) (Or.inr ⟨by rfl, rfl⟩) (fun _ => hHeld) ?ra_9
          try simp only [Act.put, List.setIfInBounds_toArray, List.set_cons_zero, List.set_cons_succ]
          refine Reg.takeP (i := 10) (v := undef) rfl (by kernel_rfl) (by kernel_rfl) (by kernel_rfl) (by kernel_rfl) (fun _ _ _ h => h) (Or.inr ⟨by rfl, rfl⟩) (fun _ => hHeld) ?ra_10
          try simp only [Act.put, List.setIfInBounds_toArray, List.set_cons_zero, List.set_cons_succ]
          refine Reg.takeP (i := 11) (v := undef) rfl (by kernel_rfl) (by kernel_rfl) (by kernel_rfl) (by kernel_rfl) (fun _ _ _ h => h) (Or.inr ⟨by rfl, rfl⟩) (fun _ => hHeld) ?ra_11
          try simp only [Act.put, List.setIfInBounds_toArray, List.set_cons_zero, List.set_cons_succ]
          refine Reg.takeP (i := 12) (v := undef) rfl (by kernel_rfl) (by kernel_rfl) (by kernel_rfl) (by kernel_rfl) (fun _ _ _ h => h) (Or.inr ⟨by rfl, rfl⟩) (fun _ => hHeld) ?ra_12
          try simp only [Act.put, List.setIfInBounds_toArray, List.set_cons_zero, List.set_cons_succ]
          refine Reg.takeP (i := 13) (v := undef) rfl (by kernel_rfl) (by kernel_rfl) (by kernel_rfl) (by kernel_rfl) (fun _ _ _ h => h) (Or.inr ⟨by rfl, rfl⟩) (fun _ => hHeld) ?ra_13
          try simp only [Act.put, List.setIfInBounds_toArray, List.set_cons_zero, List.set_cons_succ]
          refine Reg.takeP (i := 14) (v := undef) rfl (by kernel_rfl) (by kernel_rfl) (by kernel_rfl) (by kernel_rfl) (fun _ _ _ h => h) (Or.inr ⟨by rfl, rfl⟩) (fun _ => hHeld) ?ra_14
          try simp only [Act.put, List.setIfInBounds_toArray, List.set_cons_zero, List.set_cons_succ]
          refine Reg.takeP (i := 15) (v := undef) rfl (by kernel_rfl) (by kernel_rfl) (by kernel_rfl) (by kernel_rfl) (fun _ _ _ h => h) (Or.inr ⟨by rfl, rfl⟩) (fun _ => hHeld) ?ra_15
          try simp only [Act.put, List.setIfInBounds_toArray, List.set_cons_zero, List.set_cons_succ]
          refine Reg.takeP (i := 16) (v := undef) rfl (by kernel_rfl) (by kernel_rfl) (by kernel_rfl) (by kernel_rfl) (fun _ _ _ h => h) (Or.inr ⟨by rfl, rfl⟩) (fun _ => hHeld) ?ra_16
          try simp only [Act.put, List.setIfInBounds_toArray, List.set_cons_zero, List.set_cons_succ]
          refine Reg.takeP (i := 17) (v := undef) rfl (by kernel_rfl) (by kernel_rfl) (by kernel_rfl) (by kernel_rfl) (fun _ _ _ h => h) (Or.inr ⟨by rfl, rfl⟩) (fun _ => hHeld) ?ra_17
          try simp only [Act.put, List.setIfInBounds_toArray, List.set_cons_zero, List.set_cons_succ]
          refine Reg.takeP (i := 18) (v := ?va_18) rfl (by kernel_rfl) (by kernel_rfl) (by kernel_rfl) (by kernel_rfl) (fun _ _ _ h => h) (Or.inl ⟨by rfl, ?ha_18⟩) (fun _ => hHeld) ?ra_18
          case ha_18 => (intro wS hSw; (try dsimp only at hSw); go_simp; all_goals with_reducible rfl)
          try simp only [Act.put, List.setIfInBounds_toArray, List.set_cons_zero, List.set_cons_succ]
          refine Reg.takeP (i := 19) (v := ?va_19) rfl (by kernel_rfl) (by kernel_rfl) (by kernel_rfl) (by kernel_rfl) (fun _ _ _ h => h) (Or.inl ⟨by rfl, ?ha_19⟩) (fun _ => hHeld) ?ra_19
          case ha_19 => (intro wS hSw; (try dsimp only at hSw); go_simp; all_goals with_reducible rfl)
          try simp only [Act.put, List.setIfInBounds_toArray, List.set_cons_zero, List.set_cons_succ]
          refine Reg.done (by kernel_rfl) ?_ _
          go_wp2_with fail
          go_roundw
          case rel =>
            refine ⟨k + 1, by omega, by go_num, HbT5.out.drew, fun j hj => ?_⟩
            by_cases e : j = k
            · subst e
              exact ⟨by rw [Hkk.out]; exact hin, fun h => absurd h hk0⟩
            · exact Hgood.out j (by omega)
          case measure => simp [intOf]; omega
      · rw [decide_eq_false hin] at his
        have His := Lib.hid his
        clear his
        go_wp2_with fail
        rw [← HW5.out]
        refine Reg.start (fun w' => w'.cell? ⟨w.heap.size, 0, none⟩ = some (.pointer (some ⟨Z.X.x, 0, none⟩)) ∧ w'.cell? ⟨wr.heap.size, 0, none⟩ = some (.int .i64 kk)) [] (by kernel_rfl) ?_ (fun hHeld => ?_)
        · first | exact True.intro | ((try dsimp only); exact ⟨s0, s1⟩)
        refine Reg.take (i := 0) (v := ?vb_0) rfl (by kernel_rfl) (by kernel_rfl) (by kernel_rfl) (by kernel_rfl) (fun _ _ _ h => h) (Or.inl ⟨by rfl, ?hb_0⟩) hHeld ?rb_0
        case hb_0 => (intro wS hSw; (try dsimp only at hSw); go_simp; all_goals with_reducible rfl)
        try simp only [Act.put, List.setIfInBounds_toArray, List.set_cons_zero, List.set_cons_succ]
        refine Reg.takeP (i := 1) (v := ?vb_1) rfl (by kernel_rfl) (by kernel_rfl) (by kernel_rfl) (by kernel_rfl) (fun _ _ _ h => h) (Or.inl ⟨by rfl, ?hb_1⟩) (fun _ => hHeld) ?rb_1
        case hb_1 => (intro wS hSw; (try dsimp only at hSw); go_simp; all_goals with_reducible rfl)
        try simp only [Act.put, List.setIfInBounds_toArray, List.set_cons_zero, List.set_cons_succ]
        refine Reg.take (i := 2) (v := ?vb_2) rfl (by kernel_rfl) (by kernel_rfl) (by kernel_rfl) (by kernel_rfl) (fun _ _ _ h => h) (Or.inl ⟨by rfl, ?hb_2⟩) hHeld ?rb_2
        case hb_2 => (intro wS hSw; (try dsimp only at hSw); go_simp; all_goals with_reducible rfl)
        try simp only [Act.put, List.setIfInBounds_toArray, List.set_cons_zero, List.set_cons_succ]
        refine Reg.one (i := 3) rfl (by kernel_rfl) (fun K hK => ?_)
        (go_simp; refine (His.out).mono ?_; rintro e w' ⟨rfl, rfl⟩; dsimp only)
        refine hK.out _ _ (fun _ => ?_) (fun hHeld => ?_)
        · first | exact True.intro | ((try dsimp only); exact ⟨s0, s1⟩)
        replace hHeld := hHeld (by decide)
        clear hK K
        try simp only [Act.put, List.setIfInBounds_toArray, List.set_cons_zero, List.set_cons_succ]
        refine Reg.takeP (i := 4) (v := ?vb_4) rfl (by kernel_rfl) (by kernel_rfl) (by kernel_rfl) (by kernel_rfl) (fun _ _ _ h => h) (Or.inl ⟨by rfl, ?hb_4⟩) (fun _ => hHeld) ?rb_4
        case hb_4 => (intro wS hSw; (try dsimp only at hSw); go_simp; all_goals with_reducible rfl)
        try simp only [Act.put, List.setIfInBounds_toArray, List.set_cons_zero, List.set_cons_succ]
        refine Reg.takeP (i := 5) (v := ?vb_5) rfl (by kernel_rfl) (by kernel_rfl) (by kernel_rfl) (by kernel_rfl) (fun _ _ _ h => h) (Or.inl ⟨by rfl, ?hb_5⟩) (fun _ => hHeld) ?rb_5
        case hb_5 => (intro wS hSw; (try dsimp only at hSw); go_simp; all_goals with_reducible rfl)
        try simp only [Act.put, List.setIfInBounds_toArray, List.set_cons_zero, List.set_cons_succ]
        refine Reg.takeP (i := 6) (v := undef) rfl (by kernel_rfl) (by kernel_rfl) (by kernel_rfl) (by kernel_rfl) (fun _ _ _ h => h) (Or.inr ⟨by rfl, rfl⟩) (fun _ => hHeld) ?rb_6
        try simp only [Act.put, List.setIfInBounds_toArray, List.set_cons_zero, List.set_cons_succ]
        refine Reg.takeP (i := 7) (v := undef) rfl (by kernel_rfl) (by kernel_rfl) (by kernel_rfl) (by kernel_rfl) (fun _ _ _ h => h) (Or.inr ⟨by rfl, rfl⟩) (fun _ => hHeld) ?rb_7
        try simp only [Act.put, List.setIfInBounds_toArray, List.set_cons_zero, List.set_cons_succ]
        refine Reg.takeP (i := 8) (v := undef) rfl (by kernel_rfl) (by kernel_rfl) (by kernel_rfl) (by kernel_rfl) (fun _ _ _ h => h) (Or.inr ⟨by rfl, rfl⟩) (fun _ => hHeld) ?rb_8
        try simp only [Act.put, List.setIfInBounds_toArray, List.set_cons_zero, List.set_cons_succ]
        refine Reg.takeP (i := 9) (v := undef) rfl (by kernel_rfl) (by kernel_rfl) (by kernel_rfl) (by kernel_rfl) (fun _ _ _ h => h) (Or.inr ⟨by rfl, rfl⟩) (fun _ => hHeld) ?rb_9
        try simp only [Act.put, List.setIfInBounds_toArray, List.set_cons_zero, List.set_cons_succ]
        refine Reg.takeP (i := 10) (v := undef) rfl (by kernel_rfl) (by kernel_rfl) (by kernel_rfl) (by kernel_rfl) (fun _ _ _ h => h) (Or.inr ⟨by rfl, rfl⟩) (fun _ => hHeld) ?rb_10
        try simp only [Act.put, List.setIfInBounds_toArray, List.set_cons_zero, List.set_cons_succ]
        refine Reg.takeP (i := 11) (v := undef) rfl (by kernel_rfl) (by kernel_rfl) (by kernel_rfl) (by kernel_rfl) (fun _ _ _ h => h) (Or.inr ⟨by rfl, rfl⟩) (fun _ => hHeld) ?rb_11
        try simp only [Act.put, List.setIfInBounds_toArray, List.set_cons_zero, List.set_cons_succ]
        refine Reg.takeP (i := 12) (v := undef) rfl (by kernel_rfl) (by kernel_rfl) (by kernel_rfl) (by kernel_rfl) (fun _ _ _ h => h) (Or.inr ⟨by rfl, rfl⟩) (fun _ => hHeld) ?rb_12
        try simp only [Act.put, List.setIfInBounds_toArray, List.set_cons_zero, List.set_cons_succ]
        refine Reg.takeP (i := 13) (v := undef) rfl (by kernel_rfl) (by kernel_rfl) (by kernel_rfl) (by kernel_rfl) (fun _ _ _ h => h) (Or.inr ⟨by rfl, rfl⟩) (fun _ => hHeld) ?rb_13
        try simp only [Act.put, List.setIfInBounds_toArray, List.set_cons_zero, List.set_cons_succ]
        refine Reg.takeP (i := 14) (v := undef) rfl (by kernel_rfl) (by kernel_rfl) (by kernel_rfl) (by kernel_rfl) (fun _ _ _ h => h) (Or.inr ⟨by rfl, rfl⟩) (fun _ => hHeld) ?rb_14
        try simp only [Act.put, List.setIfInBounds_toArray, List.set_cons_zero, List.set_cons_succ]
        refine Reg.takeP (i := 15) (v := undef) rfl (by kernel_rfl) (by kernel_rfl) (by kernel_rfl) (by kernel_rfl) (fun _ _ _ h => h) (Or.inr ⟨by rfl, rfl⟩) (fun _ => hHeld) ?rb_15
        try simp only [Act.put, List.setIfInBounds_toArray, List.set_cons_zero, List.set_cons_succ]
        refine Reg.takeP (i := 16) (v := undef) rfl (by kernel_rfl) (by kernel_rfl) (by kernel_rfl) (by kernel_rfl) (fun _ _ _ h => h) (Or.inr ⟨by rfl, rfl⟩) (fun _ => hHeld) ?rb_16
        try simp only [Act.put, List.setIfInBounds_toArray, List.set_cons_zero, List.set_cons_succ]
        refine Reg.takeP (i := 17) (v := undef) rfl (by kernel_rfl) (by kernel_rfl) (by kernel_rfl) (by kernel_rfl) (fun _ _ _ h => h) (Or.inr ⟨by rfl, rfl⟩) (fun _ => hHeld) ?rb_17
        try simp only [Act.put, List.setIfInBounds_toArray, List.set_cons_zero, List.set_cons_succ]
        refine Reg.takeP (i := 18) (v := undef) rfl (by kernel_rfl) (by kernel_rfl) (by kernel_rfl) (by kernel_rfl) (fun _ _ _ h => h) (Or.inr ⟨by rfl, rfl⟩) (fun _ => hHeld) ?rb_18
        try simp only [Act.put, List.setIfInBounds_toArray, List.set_cons_zero, List.set_cons_succ]
        refine Reg.takeP (i := 19) (v := ?vb_19) rfl (by kernel_rfl) (by kernel_rfl) (by kernel_rfl) (by kernel_rfl) (fun _ _ _ h => h) (Or.inl ⟨by rfl, ?hb_19⟩) (fun _ => hHeld) ?rb_19
        case hb_19 => (intro wS hSw; (try dsimp only at hSw); go_simp; all_goals with_reducible rfl)
        try simp only [Act.put, List.setIfInBounds_toArray, List.set_cons_zero, List.set_cons_succ]
        refine Reg.done (by kernel_rfl) ?_ _
        go_wp2_with (first | (go_at_call 32; ((with_reducible refine (refused_any _ _).mono ?_); rintro e w' ⟨rfl, rfl⟩)))
        go_ret2
        exact ⟨d', HS.out.perm, HS.out.sorted, .inl ⟨rfl, Hn5.out, k, by rw [Hdn'.out]; exact hlt, fun hg => hin (by have h := hg.1; rw [Hkk.out] at h; exact h)⟩⟩
    · have e : k = n := by omega
      have hgood : ∀ j, j < d'.size → GoodAt S.heads.length d' j := fun j hj => hgood j (by rw [Hdn'.out] at hj; omega)
      have hn5 : Next Z S w S wr := Hm.out.next (Hb4.out.trans (hbT.mono Hb4.out.size))
      have hpos : ∀ j, j < n → ((d'[j]!.1.toNat : Nat) : Int) = d'[j]!.1 := fun j hj => by have := (hgood j (by rw [Hdn'.out]; exact hj)).1; omega
      have hcell : ∀ j, j < n → CellIs wr g (j * 2) (.int .i64 (d'[j]!.1.toNat : Nat)) ∧ CellIs wr g (j * 2 + 1) (.int .i64 d'[j]!.2) := fun j hj => by
        rw [hpos j hj]
        have h := HS.out.cells j (by rw [Hdn'.out]; exact hj)
        exact ⟨h.1.of_block (hbT.block g Hg4.out), h.2.of_block (hbT.block g Hg4.out)⟩
      have b2 := R2.out.of_block (hbT.block _ R2.out.lt)
      have b1 := R1.out.of_block (hbT.block _ R1.out.lt)
      have b0 := R0.out.of_block (hbT.block _ R0.out.lt)
      have hinj : ∀ j k, j < k → k < n → d'[j]!.1.toNat ≠ d'[k]!.1.toNat := fun j k h1 h2 => by
        have h := strict_of HS.out.sorted hgood j k h1 (by rw [Hdn'.out]; exact h2)
        have p1 := hpos j (by omega)
        have p2 := hpos k h2
        omega
      have hkl : ∀ k, k < n → d'[k]!.1.toNat < S.heads.length := fun k hk => by
        have := (hgood k (by rw [Hdn'.out]; exact hk)).1
        omega
      have tagn : ∀ j, w.heap.size ≤ j → S.tag j = 0 := fun j hj => Hm.out.tags.new j hj
      have hchg := bchanges_ok Z S n 39 #[.pointer (some ⟨w.heap.size + 1 + 1, 0, none⟩), .pointer (some ⟨w.heap.size, 0, none⟩), .pointer (some ⟨w.heap.size + 1, 0, none⟩)] (fun j => d'[j]!.1.toNat) (fun j => d'[j]!.2) (fun j => hnd (top d'[j]!.1.toNat).i (top d'[j]!.1.toNat).g) F G wr hn5.mem Hd.out H0.out Hok.out HG.out Hmade.out HF.out callManyL (fun w1 h1 => by
        have kb : ∀ j o u, CellIs wr j o u → w.heap.size ≤ j → CellIs w1 j o u := fun j o u hc hj => hc.of_block (h1.keep.block j hc.lt (by rw [tagn j hj]; exact fun h => h rfl))
        have hl := Hlo.out
        exact bmany_look Z S.inn n (w.heap.size + 1 + 1) w.heap.size (w.heap.size + 1) g c (fun j => d'[j]!.1.toNat) (fun j => d'[j]!.2) (fun j => top d'[j]!.1.toNat) w1 h1.mem hn hkl hinj (fun j hj => Hch.out _ (hkl j hj))
          (fun k hk => ⟨kb _ _ _ (hcell k hk).1 (by omega), kb _ _ _ (hcell k hk).2 (by omega)⟩) (tagn g (by omega)) (kb _ _ _ b2 (by omega)).cell (kb _ _ _ b0 (Nat.le_refl _)).cell (kb _ _ _ b1 (by omega)).cell)
      have b0c := b0.cell
      have b1c := b1.cell
      have Hchg := Lib.hid hchg
      have Hn5 := Lib.hid hn5
      have Hgood := Lib.hid hgood
      clear hchg hn5 hgood hpos hcell hinj hkl tagn b0 b1 b2 e hk hbT hcl
      go_wp2_with fail
      refine Hchg.out.mono ?_
      rintro e w6 ⟨rfl, hrest⟩
      have Hrest := Lib.hid hrest
      clear hrest
      go_wp2_with fail
      go_ret2
      refine ⟨d', HS.out.perm, HS.out.sorted, .inr ⟨?_, Hgood.out⟩⟩
      rw [Hdn'.out]
      exact ChangedEnd.from ⟨rfl, Hrest.out⟩ Hn5.out
end Go.Proofs.YtadelkancmbanaaGreat
