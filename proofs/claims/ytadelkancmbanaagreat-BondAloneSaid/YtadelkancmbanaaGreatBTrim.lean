/-
  bond.Cells: Trim.
-/
import Derived.Test.YtadelkancmbanaaGreatBPeek
import Derived.Deep.LoopGhost
namespace Go.Proofs.YtadelkancmbanaaGreat
open Go.RowKit
attribute [local go_sem ↓] Go.wp_at_zero Go.wp_at_succ

/-- A list that grew by one. -/
theorem Mem.nextRetire {Z : Fix} {S : St} {w w' : World} {v' : Value} {ws : List (Int × Int)} (h : Mem Z S w) (hr : RetireEnd Z.B Z.X.e Z.K.p S.now S.at0 S.deep S.v ws w w' v') :
    ∃ tag', Next Z S w { S with v := v', ws := ws, tag := tag' } w' := by
  have t := h.tags
  have hb : ∀ k, S.tag k ≠ 0 → S.tag k ≠ 3 → S.tag k ≠ 5 → w'.heap[k]? = w.heap[k]? := fun k h0 h1 h2 => hr.keep.block k (h.taglt h0) fun e => by
    rcases e with e | e
    · exact h1 (by rw [e]; exact t.tE)
    · exact h2 (t.tV k e)
  have hs := hr.keep.size
  have keep : Keep (fun k => S.tag k ≠ 0) w.heap.size w w' := hr.keep.weaken fun k _ e => by
    rcases e with e | e
    · rw [e, t.tE]; decide
    · rw [t.tV k e]; decide
  by_cases hv : v'.ownBlock = S.v.ownBlock
  · refine ⟨S.tag, ⟨⟨h.bond.of_blocks fun k hk => hb k ?_ ?_ ?_, h.pool.of_blocks fun k hk => hb k ?_ ?_ ?_, hr.mem, hr.row, h.ck.of_block2 (hb _ ?_ ?_ ?_) (hb _ ?_ ?_ ?_), h.xp, ⟨t.tK, t.tX, t.tD, t.tE, t.tC, fun q hq => t.tV q (by rw [← hv]; exact hq), fun k hk' => t.new k (Nat.le_trans hs hk')⟩, Nat.le_trans h.bB hs⟩, keep, fun _ _ => rfl⟩⟩
    · rcases BondHas.tag t hk with e | e <;> omega
    · rcases BondHas.tag t hk with e | e <;> omega
    · rcases BondHas.tag t hk with e | e <;> omega
    · rw [t.tK k hk]; decide
    · rw [t.tK k hk]; decide
    · rw [t.tK k hk]; decide
    · rw [t.tC.1]; decide
    · rw [t.tC.1]; decide
    · rw [t.tC.1]; decide
    · rw [t.tC.2]; decide
    · rw [t.tC.2]; decide
    · rw [t.tC.2]; decide
  · have hv2 : v'.ownBlock = some (w.heap.size + 1) := by rcases hr.own with e | e; exact absurd e hv; exact e
    have hlt := hr.row.ownlt _ hv2
    have hl := h.bond.lt
    have hpl := h.pool.lt
    have hel := h.ep.lt
    have hcl := h.ck.lt
    have hu : ∀ k, S.tag k ≠ 0 → upd S.tag (w.heap.size + 1) 5 k = S.tag k := fun k hk => upd_other _ _ _ _ (by have := h.taglt hk; omega)
    refine ⟨upd S.tag (w.heap.size + 1) 5, ⟨⟨h.bond.of_blocks fun k hk => hb k ?_ ?_ ?_, h.pool.of_blocks fun k hk => hb k ?_ ?_ ?_, hr.mem, hr.row, h.ck.of_block2 (hb _ ?_ ?_ ?_) (hb _ ?_ ?_ ?_), h.xp,
      ⟨fun k hk => (hu k (by rw [t.tK k hk]; decide)).trans (t.tK k hk), ⟨(hu _ (by rw [t.tX.1]; decide)).trans t.tX.1, (hu _ (by rw [t.tX.2]; decide)).trans t.tX.2⟩, fun j hj => (hu _ (by rw [t.tD j hj]; omega)).trans (t.tD j hj), (hu _ (by rw [t.tE]; decide)).trans t.tE, ⟨(hu _ (by rw [t.tC.1]; decide)).trans t.tC.1, (hu _ (by rw [t.tC.2]; decide)).trans t.tC.2⟩, fun q hq => ?_, fun k hk' => ?_⟩, Nat.le_trans h.bB hs⟩, keep, fun k hk => upd_other _ _ _ _ (by omega)⟩⟩
    · rcases BondHas.tag t hk with e | e <;> omega
    · rcases BondHas.tag t hk with e | e <;> omega
    · rcases BondHas.tag t hk with e | e <;> omega
    · rw [t.tK k hk]; decide
    · rw [t.tK k hk]; decide
    · rw [t.tK k hk]; decide
    · rw [t.tC.1]; decide
    · rw [t.tC.1]; decide
    · rw [t.tC.1]; decide
    · rw [t.tC.2]; decide
    · rw [t.tC.2]; decide
    · rw [t.tC.2]; decide
    · have e : q = w.heap.size + 1 := by
        have hq' : v'.ownBlock = some q := hq
        rw [hv2] at hq'; injection hq' with e; exact e.symm
      rw [e]; exact upd_same _ _ _
    · have hk2 : w'.heap.size ≤ k := hk'
      show upd S.tag (w.heap.size + 1) 5 k = 0
      rw [upd_other _ _ _ _ (by omega)]; exact t.new k (by omega)

theorem bTrim_out (Z : Fix) (S : St) (i : Int) (w : World) (hm : Mem Z S w) (hi : ¬ (0 ≤ i ∧ i < (S.heads.length : Int))) :
    Calls Tryz.prog 28 #[.pointer (some ⟨Z.X.x, 0, none⟩), .pointer none, .int .i64 i] w fun e w' => e = .returned (.tuple #[.int .i64 0, .int .i64 302]) ∧ w = w' := by
  have his := bis_any Z.X S.heads S.made S.db S.st i w hm.bond
  rw [decide_eq_false hi] at his
  have His := Lib.hid his
  clear hm hi his
  go_enter_defers Tryz.func28, Tryz.ntmps28
  go_wp2_with (first | (go_at_call 37; ((with_reducible refine (His.out).mono ?_); rintro e w' ⟨rfl, rfl⟩)) | (go_at_call 32; ((with_reducible refine (refused_any _ _).mono ?_); rintro e w' ⟨rfl, rfl⟩)))
  exact ⟨_, results_tmp2 rfl _ _ _, rfl, rfl⟩

/-- Slots whose link is cut. -/
def unl (tbl : Nat → Slot) (i : Nat) : Nat → Slot := upd tbl i { tbl i with link := 0 }
def unls (tbl : Nat → Slot) (l : List Nat) : Nat → Slot := l.foldl unl tbl
theorem unl_other (tbl : Nat → Slot) (i j : Nat) (h : j ≠ i) : unl tbl i j = tbl j := upd_other _ _ _ _ h
theorem unls_other : ∀ (l : List Nat) (tbl : Nat → Slot) (j : Nat), j ∉ l → unls tbl l j = tbl j
  | [], _, _, _ => rfl
  | i :: l, tbl, j, h => by
    have h1 : j ≠ i := fun e => h (by rw [e]; exact List.mem_cons_self)
    show unls (unl tbl i) l j = tbl j
    rw [unls_other l _ _ fun e => h (List.mem_cons_of_mem _ e), unl_other _ _ _ h1]
theorem unls_append (tbl : Nat → Slot) (l m : List Nat) : unls tbl (l ++ m) = unls (unls tbl l) m := List.foldl_append ..

def vSlots (L : List Ver) : List Nat := L.map (·.i)
def vWaits (now : Int) (L : List Ver) : List (Int × Int) := L.map fun x => (hnd x.i x.g, now)

theorem VerAt.congr {n made : Nat} {tbl tbl' : Nat → Slot} {st : Nat → Int} {x : Ver} (h : VerAt n made tbl st x) (e : tbl' x.i = tbl x.i) : VerAt n made tbl' st x :=
  ⟨⟨h.held.lo, h.held.hi, by rw [e]; exact h.held.gen, h.held.odd, h.held.g0, h.held.g1⟩, by rw [e]; exact h.val, by rw [e]; exact h.num, h.state, h.sB⟩
theorem ChainAt.congr {n made : Nat} {tbl tbl' : Nat → Slot} {st : Nat → Int} : ∀ {L : List Ver} {h : Int}, ChainAt n made tbl st h L → (∀ x, x ∈ L → tbl' x.i = tbl x.i) → ChainAt n made tbl' st h L
  | [], _, h, _ => h
  | x :: r, _, ⟨h1, h2, h3⟩, he => ⟨h1, h2.congr (he x List.mem_cons_self), by rw [he x List.mem_cons_self]; exact ChainAt.congr h3 fun y hy => he y (List.mem_cons_of_mem _ hy)⟩

structure TrimInv (Z : Fix) (S0 S : St) (L : List Ver) (w wr : World) (D : List Ver) (z : Ver) (q : List Ver) (v : Value) (tag : Nat → Nat) : Prop where
  split : L = D ++ z :: q
  held : Held Z.n (unls S.tbl (vSlots D)) z.i z.g
  chain : ChainAt Z.n S.made (unls S.tbl (vSlots D)) S.st ((unls S.tbl (vSlots D)) z.i).link q
  next : Next Z S0 w { S with tbl := unls S.tbl (vSlots D), v := v, ws := S.ws ++ vWaits S.now (D ++ [z]).tail, tag := tag } wr

set_option maxRecDepth 100000 in
set_option maxHeartbeats 3200000 in
theorem bTrim_in (Z : Fix) (S : St) (c : Nat) (x : Ver) (r : List Ver) (P : List Ver) (y : Ver) (q : List Ver) (w : World) (hm : Mem Z S w) (hd : S.deep = 0) (h0 : S.at0 = 0) (hc : c < S.heads.length) (hch : CellChain Z.n S.made S.tbl S.st S.heads c (x :: r))
    (hf : (x :: r).find? (fun y => decide (y.s - 1 ≤ leastTo S.cnow S.ls S.ls.length)) = some y) (hsp : x :: r = P ++ y :: q) (hy : VerAt Z.n S.made S.tbl S.st y) (hq : ChainAt Z.n S.made S.tbl S.st (S.tbl y.i).link q) (hdup : (vSlots (y :: q)).Nodup) (hl : S.ws.length + q.length ≤ 90000) :
    Calls Tryz.prog 28 #[.pointer (some ⟨Z.X.x, 0, none⟩), .pointer none, .int .i64 c] w fun e w' => e = .returned (.tuple #[.int .i64 q.length, .int .i64 0]) ∧ ∃ v tag, Next Z S w { S with tbl := unls S.tbl (vSlots (y :: q)), v := v, ws := S.ws ++ vWaits S.now q, tag := tag } w' := by
  have his := bis_any Z.X S.heads S.made S.db S.st c w hm.bond
  rw [decide_eq_true (by omega)] at his
  have he := hm.ep
  rw [hd, h0] at he
  have hen := enter_any Z.X.e Z.K.p S.now S.v w he
  have hh0 : hnd y.i y.g ≠ 0 := by have := hy.held.lo; have := hy.held.g0; unfold hnd; omega
  have c1 := hm.bond.c1
  have His := Lib.hid his
  have Hen := Lib.hid hen
  have Hm := Lib.hid hm
  have Hch := Lib.hid hch
  have Hc := Lib.hid hc
  have Hd := Lib.hid hd
  have H0 := Lib.hid h0
  have Hf := Lib.hid hf
  have Hy := Lib.hid hy
  have Hq := Lib.hid hq
  have Hnd := Lib.hid hdup
  have Hl := Lib.hid hl
  clear his he hen hd h0 hch hc hm hf hsp hy hq hdup hl
  obtain ⟨yh, hyh⟩ : ∃ a, hnd y.i y.g = a := ⟨_, rfl⟩
  obtain ⟨yv, hyv⟩ : ∃ a, y.v = a := ⟨_, rfl⟩
  obtain ⟨ys, hys⟩ : ∃ a, y.s = a := ⟨_, rfl⟩
  obtain ⟨le, hle⟩ : ∃ a, leastTo S.cnow S.ls S.ls.length = a := ⟨_, rfl⟩
  have hy0 : (yh == 0) = false := by rw [beq_eq_false_iff_ne, ← hyh]; exact hh0
  have Hyh := Lib.hid hyh
  have Hyv := Lib.hid hyv
  have Hys := Lib.hid hys
  have Hle := Lib.hid hle
  clear hyh hyv hys hh0 hle
  go_enter_defers Tryz.func28, Tryz.ntmps28
  go_wp2_with (first | (go_at_call 37; ((with_reducible refine (His.out).mono ?_); rintro e w' ⟨rfl, rfl⟩)))
  refine Hen.out.mono ?_
  rintro e w1 ⟨rfl, he1, hk1⟩
  have hn1 : Next Z S w S.inn w1 := Hm.out.nextEp he1 hk1
  have c11 := hn1.mem.bond.c1
  have c12 := hn1.mem.bond.c2
  have hle := cleast_any Z.X.c Z.cc S.cnow S.ls w1 hn1.mem.ck
  rw [Hle.out] at hle
  have hat := bat_any Z.X Z.K Z.n S.made c le S.heads S.db S.st S.tbl S.next S.head x r w1 hn1.mem.bond hn1.mem.pool Hm.out.xp Hc.out Hch.out
  rw [← Hle.out, Hf.out] at hat
  have hat2 : Calls Tryz.prog 44 #[.pointer (some ⟨Z.X.x, 0, none⟩), .pointer none, .int .i64 c, .int .i64 (leastTo S.cnow S.ls S.ls.length)] w1 fun e w' => e = .returned (.tuple #[.agg #[.int .i64 (hnd y.i y.g), .int .i64 y.v, .int .i64 y.s], .int .i64 0]) ∧ Below w1.heap.size w1 w' := hat
  rw [Hle.out, Hyh.out, Hyv.out, Hys.out] at hat2
  have Hat := Lib.hid hat2
  have Hle := Lib.hid hle
  have Hn1 := Lib.hid hn1
  clear he1 hk1 hn1 c1 hat hat2 hle
  go_wp2_with (first | (go_at_call 63; ((with_reducible refine (Hle.out).mono ?_); rintro e w' ⟨rfl, rfl⟩)))
  refine Hat.out.mono ?_
  rintro e w2 ⟨rfl, hb2⟩
  obtain ⟨W4, hW4⟩ : ∃ W, W = w2.alloc (.cells #[.int .i64 yh, .int .i64 yv, .int .i64 ys] 97) := ⟨_, rfl⟩
  have g4 : W4.heap[w2.heap.size]? = some (.cells #[.int .i64 yh, .int .i64 yv, .int .i64 ys] 97 (0, 0)) := by rw [hW4]; exact heap_alloc_new _ _
  have b4 : Below w2.heap.size w2 W4 := by rw [hW4]; exact (Below.refl _ _).alloc (Nat.le_refl _) _
  have d0 : W4.cell? ⟨w2.heap.size, 0, none⟩ = some (.int .i64 yh) := by simp [World.cell?, g4]
  have hn4 := Hn1.out.below (hb2.trans (b4.mono hb2.size))
  have HW4 := Lib.hid hW4
  have Hn4 := Lib.hid hn4
  clear hW4 g4 b4 hb2 hn4 c11 c12
  go_wp2_with fail
  rw [← HW4.out]
  go_wp2_with fail
  go_loopg [11, 12] (q.length + 1) (fun k hv nv wr => ∃ D z q' v tag, TrimInv Z S S.inn (y :: q) w wr D z q' v tag ∧ hv = .int .i64 (hnd z.i z.g) ∧ nv = .int .i64 (D.length : Nat) ∧ q'.length + 1 = k)
  case atStart =>
    refine ⟨[], y, q, S.v, S.tag, ⟨rfl, Hy.out.held, Hq.out, ?_⟩, by rw [Hyh.out], rfl, rfl⟩
    have e : ({ S.inn with tbl := unls S.inn.tbl (vSlots []), v := S.v, ws := S.inn.ws ++ vWaits S.inn.now ([] ++ [y]).tail, tag := S.tag } : St) = S.inn := by
      show ({ S.inn with ws := S.ws ++ [] } : St) = S.inn
      rw [List.append_nil]; rfl
    rw [e]
    exact Hn4.out
  case round =>
    obtain ⟨D, z, q', v, tag, hI, rfl, rfl, hk⟩ := hrel
    have hmI := hI.next.mem
    have c0 := hmI.bond.c0
    rw [hmI.xp] at c0
    have hpl := hmI.pool
    have hsw := pswap_any Z.K Z.n z.i z.g 0 (unls S.tbl (vSlots D)) S.next S.head wr hpl hI.held
    obtain ⟨zh, hzh⟩ : ∃ a, hnd z.i z.g = a := ⟨_, rfl⟩
    obtain ⟨lk, hlk⟩ : ∃ a, (unls S.tbl (vSlots D) z.i).link = a := ⟨_, rfl⟩
    rw [hlk, hzh] at hsw
    have Hsw := Lib.hid hsw
    have HI := Lib.hid hI
    have Hk := Lib.hid hk
    have Hlk := Lib.hid hlk
    rw [hzh]
    clear hmI hpl hsw hI hk hlk hzh
    go_wp2_with fail
    refine Hsw.out.mono ?_
    rintro e w5 ⟨rfl, hs5⟩
    have hn5 : Next Z S w { S.inn with tbl := unls S.tbl (vSlots (D ++ [z])), v := v, ws := S.ws ++ vWaits S.now (D ++ [z]).tail, tag := tag } w5 := by
      have h1 := HI.out.next.trans (HI.out.next.mem.nextPool hs5.mem hs5.keep)
      have e : unls S.tbl (vSlots (D ++ [z])) = upd (unls S.tbl (vSlots D)) z.i { unls S.tbl (vSlots D) z.i with link := 0 } := by
        rw [show vSlots (D ++ [z]) = vSlots D ++ [z.i] from by simp [vSlots], unls_append]; rfl
      rw [e]
      exact h1
    have c15 := hn5.mem.bond.c1
    have Hn5 := Lib.hid hn5
    clear hs5 hn5 c0
    cases q' with
    | nil =>
      have hl0 : lk = 0 := by rw [← Hlk.out]; exact HI.out.chain
      subst hl0
      go_wp2
      refine leave_door Hn5.out.mem rfl ?_
      intro w' hn
      refine ⟨_, results_tmp2 rfl _ _ _, ?_, v, tag, ?_⟩
      · have h1 := congrArg List.length HI.out.split
        simp at h1
        show Ending.returned (.tuple #[.int .i64 (D.length : Nat), .int .i64 0]) = _
        rw [h1]
      · have h1 := Hn5.out.trans hn
        have hsp := HI.out.split
        rw [show D ++ [z] = y :: q from hsp.symm] at h1
        have e : ({ S with tbl := unls S.tbl (vSlots (y :: q)), v := v, ws := S.ws ++ vWaits S.now q, tag := tag } : St) = { S with tbl := unls S.tbl (vSlots (y :: q)), v := v, ws := S.ws ++ vWaits S.now (y :: q).tail, tag := tag, at0 := 0, deep := 0 } := by
          have hb := St.back S H0.out Hd.out
          have q1 := H0.out
          have q2 := Hd.out
          clear h1 hsp hb
          cases S
          dsimp only at q1 q2 ⊢
          subst q1 q2
          rfl
        rw [e]
        exact h1
    | cons z2 q2 =>
      obtain ⟨hl1, hv2, hr2⟩ : lk = hnd z2.i z2.g ∧ VerAt Z.n S.made (unls S.tbl (vSlots D)) S.st z2 ∧ ChainAt Z.n S.made (unls S.tbl (vSlots D)) S.st (unls S.tbl (vSlots D) z2.i).link q2 := by rw [← Hlk.out]; exact HI.out.chain
      have hlk0 : (lk == 0) = false := by
        have := hv2.held.lo; have := hv2.held.g0
        rw [beq_eq_false_iff_ne, hl1]; unfold hnd; omega
      have Hv2 := Lib.hid hv2
      have Hr2 := Lib.hid hr2
      have Hl1 := Lib.hid hl1
      have hm5 := Hn5.out.mem
      have hre := retire_any Z.B Z.X.e Z.K.p S.now S.now 1 lk v (S.ws ++ vWaits S.now (D ++ [z]).tail) w5 hm5.ep hm5.row hm5.bB (fun e => by have h1 := hm5.tags.tV _ e; have h2 := hm5.tags.tE; rw [h1] at h2; cases h2) (by
        have h1 := congrArg List.length HI.out.split
        have h2 := Hl.out
        simp [vWaits] at h1 ⊢
        omega)
      have Hre := Lib.hid hre
      clear hv2 hr2 hl1 hm5 hre
      go_wp2_with fail
      refine Hre.out.mono ?_
      rintro e w6 ⟨rfl, v6, hr6⟩
      obtain ⟨tag6, hn6⟩ := Hn5.out.mem.nextRetire hr6
      have hn6' := Hn5.out.trans hn6
      have Hn6 := Lib.hid hn6'
      clear hr6 hn6 hn6' c15
      go_wp2
      go_roundg (q2.length + 1)
      case measure => rw [← Hk.out]; simp
      case rel =>
        have hsp : y :: q = (D ++ [z]) ++ z2 :: q2 := by rw [HI.out.split]; simp
        have hdup := Hnd.out
        rw [hsp] at hdup
        have hne : ∀ x, x ∈ z2 :: q2 → x.i ≠ z.i := by
          intro x hx e
          have h1 : (vSlots (D ++ [z]) ++ vSlots (z2 :: q2)).Nodup := by simpa [vSlots] using hdup
          rw [List.nodup_append] at h1
          exact h1.2.2 z.i (by simp [vSlots]) x.i (List.mem_map.2 ⟨x, hx, rfl⟩) e.symm
        have hT : ∀ x, x ∈ z2 :: q2 → unls S.tbl (vSlots (D ++ [z])) x.i = unls S.tbl (vSlots D) x.i := fun x hx => by
          rw [show vSlots (D ++ [z]) = vSlots D ++ [z.i] from by simp [vSlots], unls_append]
          exact unl_other _ _ _ (hne x hx)
        refine ⟨D ++ [z], z2, q2, v6, tag6, ⟨hsp, (Hv2.out.congr (hT z2 List.mem_cons_self)).held, ?_, ?_⟩, by rw [Hl1.out], ?_, rfl⟩
        · show ChainAt Z.n S.made (unls S.tbl (vSlots (D ++ [z]))) S.st (unls S.tbl (vSlots (D ++ [z])) z2.i).link q2
          rw [hT z2 List.mem_cons_self]
          exact Hr2.out.congr fun x hx => hT x (List.mem_cons_of_mem _ hx)
        · have h1 := Hn6.out
          rw [Hl1.out] at h1
          have e : S.ws ++ vWaits S.now (D ++ [z]).tail ++ [(hnd z2.i z2.g, S.now)] = S.ws ++ vWaits S.now ((D ++ [z]) ++ [z2]).tail := by
            rw [List.append_assoc]
            congr 1
            cases D <;> simp [vWaits]
          rw [e] at h1
          exact h1
        · have h1 : q.length + 1 = D.length + 1 + (q2.length + 1) := by have h0 := congrArg List.length hsp; simp only [List.length_cons, List.length_append, List.length_nil] at h0; omega
          have h2 := Hl.out
          have h3 : (D.length : Int) + 1 ≤ 100000 := by omega
          have h4 : (0 : Int) ≤ (D.length : Int) := by omega
          rw [List.length_append, List.length_singleton]
          rw [show ((D.length + 1 : Nat) : Int) = (D.length : Int) + 1 from rfl]
          congr 1
          unfold wrap64
          omega
end Go.Proofs.YtadelkancmbanaaGreat
