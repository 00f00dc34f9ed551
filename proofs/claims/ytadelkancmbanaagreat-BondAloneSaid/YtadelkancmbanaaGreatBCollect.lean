/-
  An epoch: what has waited long enough is given back.
-/
import Derived.Test.YtadelkancmbanaaGreatBOk
namespace Go.Proofs.YtadelkancmbanaaGreat
open Go.RowKit
attribute [local go_sem ↓] Go.wp_at_zero Go.wp_at_succ

/-- A handle that waits: its slot, its generation, since when. -/
structure Wait where
  i : Nat
  g : Int
  e : Int
instance : Inhabited Wait := ⟨⟨0, 0, 0⟩⟩
def wPairs (W : List Wait) : List (Int × Int) := W.map fun x => (hnd x.i x.g, x.e)
def wSlots (W : List Wait) : List Nat := W.map (·.i)
theorem wPairs_length (W : List Wait) : (wPairs W).length = W.length := by simp [wPairs]
theorem wPairs_erase (W : List Wait) (i : Nat) : (wPairs W).eraseIdx i = wPairs (W.eraseIdx i) := by
  simp [wPairs, List.eraseIdx_eq_take_drop_succ, List.map_take, List.map_drop]
theorem wPairs_get (W : List Wait) (i : Nat) (h : i < W.length) : (wPairs W)[i]! = (hnd (W[i]!).i (W[i]!).g, (W[i]!).e) := by
  simp [wPairs, h]

def listLen (b : Nat) (w : World) : Nat := match w.cell? ⟨b, 12, none⟩ with
  | some (.slice _ n _) => n
  | _ => 0

/-- Between two rounds. -/
structure Coll (K : PB) (n B b : Nat) (now at0 deep : Int) (tbl : Nat → Slot) (F : List Nat) (W : List Wait) (G : Int) (v : Value) (w w' : World) (k : Nat) (tbl' : Nat → Slot) (next' : Nat → Nat) (head' : Int) (F' : List Nat) (W' : List Wait) (v' : Value) : Prop where
  pool : PoolMem K n tbl' next' head' w'
  ok : PoolOk n tbl' next' head' F' (G + k)
  ep : EpochMem b K.p now at0 deep v' w'
  row : WRow B v' (wPairs W') w'
  own : v'.ownBlock = v.ownBlock
  cnt : k + W'.length = W.length
  sub : W'.Sublist W
  perm : (F' ++ wSlots W').Perm (F ++ wSlots W)
  same : ∀ j, j ∉ wSlots W → tbl' j = tbl j
  held : ∀ x, x ∈ W' → Held n tbl' x.i x.g
  keep : Keep (fun q => K.has q ∨ q = b ∨ v.ownBlock = some q) w.heap.size w w'

def CollectEnd (K : PB) (n B b : Nat) (now at0 deep : Int) (tbl : Nat → Slot) (F : List Nat) (W : List Wait) (G : Int) (v : Value) (w : World) (e : Ending) (w' : World) : Prop :=
  ∃ k tbl' next' head' F' W' v', e = .returned (.tuple #[.int .i64 ((k : Nat) : Int), .int .i64 0]) ∧ Coll K n B b now at0 deep tbl F W G v w w' k tbl' next' head' F' W' v'

theorem WRow.of_block {B : Nat} {v : Value} {ws : List (Int × Int)} {w w' : World} (h : WRow B v ws w) (hb : ∀ g, v.ownBlock = some g → w'.heap[g]? = w.heap[g]?) : WRow B v ws w' := by
  refine ⟨h.1, ?_⟩
  rcases h.2 with e | ⟨g, cap, cur, rfl, h1, h2, h3⟩
  · exact .inl e
  · exact .inr ⟨g, cap, cur, rfl, h1, (hb g rfl).trans h2, h3⟩
theorem WRow.ownlt {B : Nat} {v : Value} {ws : List (Int × Int)} {w : World} (h : WRow B v ws w) (g : Nat) (hg : v.ownBlock = some g) : g < w.heap.size := by
  rcases h.2 with ⟨rfl, _⟩ | ⟨g', cap, cur, rfl, h1, h2, h3⟩
  · cases hg
  · cases hg; exact (Array.getElem?_eq_some_iff.1 h2).1

theorem Coll.below {K : PB} {n B b : Nat} {now at0 deep : Int} {tbl : Nat → Slot} {F : List Nat} {W : List Wait} {G : Int} {v : Value} {w w1 w2 : World} {k : Nat} {tbl' : Nat → Slot} {next' : Nat → Nat} {head' : Int} {F' : List Nat} {W' : List Wait} {v' : Value}
    (h : Coll K n B b now at0 deep tbl F W G v w w1 k tbl' next' head' F' W' v') (hb : Below w1.heap.size w1 w2) : Coll K n B b now at0 deep tbl F W G v w w2 k tbl' next' head' F' W' v' := by
  have hl := h.pool.lt
  refine ⟨h.pool.of_blocks fun q hq => hb.block q (by rcases hq with e | e | e | e <;> omega), h.ok, h.ep.of_block (hb.block b h.ep.lt), h.row.of_block fun g hg => hb.block g (h.row.ownlt g hg), h.own, h.cnt, h.sub, h.perm, h.same, h.held, h.keep.trans ((Keep.of_below hb).mono h.keep.size)⟩

set_option maxRecDepth 100000 in
set_option maxHeartbeats 4000000 in
theorem collect_any (K : PB) (n B b : Nat) (now at0 deep G : Int) (tbl : Nat → Slot) (next : Nat → Nat) (head : Int) (F : List Nat) (W : List Wait) (v : Value) (w : World)
    (hp : PoolMem K n tbl next head w) (ok : PoolOk n tbl next head F G) (he : EpochMem b K.p now at0 deep v w) (hr : WRow B v (wPairs W) w) (hh : ∀ x, x ∈ W → Held n tbl x.i x.g) (hE : ∀ x, x ∈ W → 0 ≤ x.e ∧ x.e ≤ 1000000)
    (hnd : (F ++ wSlots W).Nodup) (hb : ¬ K.has b) (hv : ∀ q, v.ownBlock = some q → ¬ K.has q ∧ q ≠ b) (hl : W.length ≤ 10000) (hG : G + W.length < 900000) :
    Calls Tryz.prog 30 #[.pointer (some ⟨b, 0, none⟩), .pointer none] w (CollectEnd K n B b now at0 deep tbl F W G v w) := by
  have hmine := mine_any b K.p now at0 deep v w he
  have c2 := he.nw.cell
  have hlt := he.lt
  have hplt := hp.lt
  obtain ⟨w1, hw1⟩ : ∃ w1, w1 = w.alloc (.cells #[.int .i64 now] 3) := ⟨_, rfl⟩
  have h0 : Coll K n B b now at0 deep tbl F W G v w w1 0 tbl next head F W v := by
    rw [hw1]
    exact ⟨hp.alloc _, by simpa using ok, he.of_block (Below.heap_alloc _ _ _ hlt), hr.alloc _, rfl, by omega, List.Sublist.refl _, List.Perm.refl _, fun _ _ => rfl, hh, (Keep.refl _ _ _).alloc (Nat.le_refl _) _⟩
  have cq : w1.cell? ⟨w.heap.size, 0, none⟩ = some (.int .i64 now) := by rw [hw1]; exact new_cell _ _ _ _ rfl
  have H0 := Lib.hid h0
  have HE := Lib.hid hE
  have Hnd := Lib.hid hnd
  have Hv := Lib.hid hv
  have Hvl := Lib.hid hr.ownlt
  have HKn : Hid (∀ q, w.heap.size ≤ q → ¬ K.has q) := Lib.hid (fun q hq e => by rcases e with e | e | e | e <;> omega)
  have Hmine := Lib.hid hmine
  have Hw1 := Lib.hid hw1
  have hs1 : w1.heap.size = w.heap.size + 1 := by rw [hw1]; simp
  have Hcq := Lib.hid cq
  have Hb := Lib.hid hb
  clear hp ok he hr hh hE hnd hv hmine h0 cq hb hw1
  go_enter Tryz.func30, Tryz.ntmps30
  go_wp2_with (first | (go_at_call 66; ((with_reducible refine (Hmine.out).mono ?_); rintro e w' ⟨rfl, rfl⟩)) | (go_at_call 22; ((with_reducible refine (step_nil _).mono ?_); rintro e w' ⟨rfl, rfl⟩)) | (go_at_call 31; ((with_reducible refine (i64load _ _ _ _ c2).mono ?_); rintro e w' ⟨rfl, rfl⟩)))
  rw [← Hw1.out]
  go_loopw [8] (fun kv wr => ∃ k tbl' next' head' F' W' v', kv = .int .i64 ((k : Nat) : Int) ∧ Coll K n B b now at0 deep tbl F W G v w wr k tbl' next' head' F' W' v' ∧ wr.cell? ⟨w.heap.size, 0, none⟩ = some (.int .i64 now)) (fun _ wr => listLen b wr)
  case atStart => exact ⟨0, tbl, next, head, F, W, v, rfl, H0.out, Hcq.out⟩
  case round =>
    clear H0 Hcq
    obtain ⟨k, tbl', next', head', F', W', v', rfl, hC, cq⟩ := hrel
    have c0 := hC.ep.pp
    have c12 := hC.ep.ls.cell
    have cnt := hC.cnt
    have hwe : ∀ j, j < (wPairs W').length → 0 ≤ ((wPairs W')[j]!).2 ∧ ((wPairs W')[j]!).2 ≤ 1000000 := fun j hj => by
      rw [wPairs_length] at hj
      rw [wPairs_get W' j hj]
      have : W'[j]! ∈ W := hC.sub.subset (by simp [hj])
      exact HE.out _ this
    have hi := windex_any B w.heap.size now v' (wPairs W') wr hC.row cq hwe (by rw [wPairs_length]; omega)
    have Hi := Lib.hid hi
    have HC := Lib.hid hC
    have Hcq := Lib.hid cq
    clear hi hC cq hwe
    go_wp2_with fail
    refine Hi.out.mono ?_
    rintro e w2 ⟨hb2, (⟨i, rfl, hil, hie⟩ | rfl)⟩
    · have hC2 := HC.out.below hb2
      have cq2 := (hb2.cell (p := ⟨w.heap.size, 0, none⟩) (World.block_lt_of_cell? _ _ Hcq.out)).trans Hcq.out
      rw [wPairs_length] at hil
      obtain ⟨x, hx⟩ : ∃ x, x = W'[i]! := ⟨_, rfl⟩
      have hxm : x ∈ W' := by rw [hx]; simp [hil]
      have hxs : x.i ∈ wSlots W' := List.mem_map.2 ⟨x, hxm, rfl⟩
      have hnd2 : (F' ++ wSlots W').Nodup := hC2.perm.symm.nodup Hnd.out
      have hxF : x.i ∉ F' := fun e => (List.nodup_append.1 hnd2).2.2 _ e _ hxs rfl
      have hform : ∃ g cap, v' = .slice (some ⟨g, 0, none⟩) (wPairs W').length cap ∧ B ≤ g ∧ g < w2.heap.size := by
        rcases hC2.row.form with ⟨_, e⟩ | e
        · have h0 := wPairs_length W'
          rw [e] at h0
          have h1 : W'.length = 0 := by simpa using h0.symm
          omega
        · exact e
      obtain ⟨g, cap, rfl, hgB, hg2⟩ := hform
      obtain ⟨z0, z1⟩ := hC2.row.cells i (by rw [wPairs_length]; exact hil)
      rw [wPairs_get W' i hil, ← hx] at z0
      have hgv := Hv.out g hC2.own.symm
      have hgive := give_ok K n x.i x.g (G + k) tbl' next' head' F' w2.drew hC2.pool.drew (hC2.held x hxm) hC2.ok hxF (by omega)
      have c02 := hC2.ep.pp
      have c122 := hC2.ep.ls.cell
      have hbw := hC2.keep.size
      rw [wPairs_length] at c122
      have b0 : (0 : Int) ≤ (i : Int) := by omega
      have b1 : (i : Int) < (W'.length : Int) := by omega
      have hlw : listLen b wr = W'.length := by
        unfold listLen
        rw [c12]
        exact wPairs_length W'
      have Hlw := Lib.hid hlw
      clear hlw
      have Hgive := Lib.hid hgive
      have HC2 := Lib.hid hC2
      have Hcq2 := Lib.hid cq2
      have Hx := Lib.hid hx
      have Hnd2 := Lib.hid hnd2
      have b2 : decide ((i : Int) < 0) = false := by simp
      rw [wPairs_length]
      clear hie z1 hgive hC2 cq2 hx hnd2 hxs HC Hcq hb2 Hi c0 c12
      go_wp2_with fail
      refine wp_region_still_tail 13 (by kernel_rfl) (by kernel_rfl) ?_
      simp only [List.take_succ_cons, List.take_zero, List.drop_succ_cons, List.drop_zero]
      change wpStill _ _ (World.drew _) _ _ _
      repeat (first | (refine wpStill_step (fun K hK => ?_); go_simp; refine hK _ ?_; clear hK K))
      refine wpStill_nil ?_
      change wpList _ _ _ _ _ (World.drew _)
      go_wp2_with fail
      refine Hgive.out.mono ?_
      rintro e w3 ⟨next3, head3, rfl, hp3, hok3, hk3⟩
      have hbK : ∀ q, K.has q → q < w2.heap.size := fun q hq => by have := HC2.out.pool.lt; rcases hq with e | e | e | e <;> omega
      have he3 : EpochMem b K.p now at0 deep (.slice (some ⟨g, 0, none⟩) (wPairs W').length cap) w3 := (HC2.out.ep.of_block (w' := w2.drew) rfl).of_block (hk3.block b HC2.out.ep.lt Hb.out)
      have hr3 : WRow B (.slice (some ⟨g, 0, none⟩) (wPairs W').length cap) (wPairs W') w3 := (HC2.out.row.of_block (w' := w2.drew) (fun _ _ => rfl)).of_block fun q hq => hk3.block q (HC2.out.row.ownlt q hq) (by cases hq; exact hgv.1)
      have hd3 := del_any B g cap i (wPairs W') w3 hr3 (by rw [wPairs_length]; exact hil) (by rw [wPairs_length]; omega)
      have c12' := he3.ls.cell
      rw [wPairs_length] at c12' hd3
      have Hp3 := Lib.hid hp3
      have Hok3 := Lib.hid hok3
      have Hk3 := Lib.hid hk3
      have He3 := Lib.hid he3
      have Hd3 := Lib.hid hd3
      have hi1 : (i : Int) + 1 = ((i + 1 : Nat) : Int) := by omega
      have Hi1 := Lib.hid hi1
      clear hp3 hok3 hk3 he3 hr3 hd3 hi1 Hgive c02 c122
      go_wp2_with fail
      refine Hd3.out.mono ?_
      rintro e w4 ⟨rfl, hr4, hk4⟩
      have hgb : ¬ b = g := fun e => hgv.2 e.symm
      have hKg : ∀ q, K.has q → ¬ q = g := fun q hq e => hgv.1 (by rw [← e]; exact hq)
      have hb3 : b < w3.heap.size := He3.out.lt
      have he4 : EpochMem b K.p now at0 deep (.slice (some ⟨g, 0, none⟩) (wPairs W').length cap) w4 := He3.out.of_block (hk4.block b hb3 hgb)
      have c4 := he4.ls.cell
      have f4 := he4.ls.frz
      rw [wPairs_length] at c4
      have He4 := Lib.hid he4
      have Hr4 := Lib.hid hr4
      have Hk4 := Lib.hid hk4
      clear he4 hr4 hk4 Hd3 c12'
      rw [wPairs_length]
      go_wp2
      go_roundw
      case rel =>
        have hperm : (W'[i]! :: W'.eraseIdx i).Perm W' := by
          rw [getElem!_pos W' i hil]
          rw [List.eraseIdx_eq_take_drop_succ]
          refine List.perm_middle.symm.trans ?_
          rw [← List.drop_eq_getElem_cons hil, List.take_append_drop]
        have hps : (x.i :: wSlots (W'.eraseIdx i)).Perm (wSlots W') := by
          have := hperm.map (·.i)
          rw [← Hx.out] at this
          exact this
        have hxe : x.i ∉ wSlots (W'.eraseIdx i) := (List.nodup_cons.1 (hps.symm.nodup (List.nodup_append.1 Hnd2.out).2.1)).1
        have hxW : x.i ∈ wSlots W := List.mem_map.2 ⟨x, HC2.out.sub.subset hxm, rfl⟩
        have hk3s := Hk3.out.size
        have hw3 : w2.heap.size ≤ w3.heap.size := Hk3.out.size
        refine ⟨k + 1, upd tbl' x.i (poisoned (x.g + 1)), next3, head3, x.i :: F', W'.eraseIdx i, _, by go_num, ⟨?_, ?_, He4.out.setList, ?_, HC2.out.own, ?_, (List.eraseIdx_sublist _ _).trans HC2.out.sub, ?_, fun j hj => ?_, fun y hy => ?_, ?_⟩, ?_⟩
        · exact ((Hp3.out.of_blocks fun q hq => Hk4.out.block q (by have := hbK q hq; omega) (hKg q hq))).other Hb.out _
        · rw [show G + ((k + 1 : Nat) : Int) = G + k + 1 by omega]; exact Hok3.out
        · have h4 := Hr4.out
          rw [wPairs_erase] at h4
          rw [wPairs_length] at h4
          have hle : (W'.eraseIdx i).length = W'.length - 1 := by rw [List.length_eraseIdx, if_pos hil]
          rw [hle] at h4
          exact ownsRow_setCell_other (a := ⟨b, 12, none⟩) h4 (by show some g ≠ some b; intro e; injection e with e; exact hgb e.symm) _
        · rw [List.length_eraseIdx, if_pos hil]; omega
        · refine List.Perm.trans ?_ HC2.out.perm
          refine List.Perm.trans (List.perm_middle (a := x.i) (l₁ := F') (l₂ := wSlots (W'.eraseIdx i))).symm ?_
          exact List.Perm.append_left _ hps
        · rw [upd_other _ _ _ _ (fun e => hj (by rw [e]; exact hxW))]; exact HC2.out.same j hj
        · have hyW : y ∈ W' := (List.eraseIdx_sublist W' i).subset hy
          have hyi : y.i ≠ x.i := fun e => hxe (by rw [← e]; exact List.mem_map.2 ⟨y, hy, rfl⟩)
          have hhy := HC2.out.held y hyW
          exact ⟨hhy.lo, hhy.hi, by rw [upd_other _ _ _ _ hyi]; exact hhy.gen, hhy.odd, hhy.g0, hhy.g1⟩
        · have k1 : Keep (fun q => K.has q ∨ q = b ∨ v.ownBlock = some q) w.heap.size w w3 := HC2.out.keep.drew.trans ((Hk3.out.mono (B' := w.heap.size) hbw).weaken (fun _ _ e => .inl e))
          have k2 : Keep (fun q => K.has q ∨ q = b ∨ v.ownBlock = some q) w.heap.size w w4 := k1.trans ((Hk4.out.mono (B' := w.heap.size) k1.size).weaken (fun q _ e => .inr (.inr (by rw [e]; exact HC2.out.own.symm))))
          exact k2.setCell (.inl (.inr (.inl rfl))) _
        · have hgl : g < w.heap.size := Hvl.out g HC2.out.own.symm
          have e1 : w3.cell? ⟨w.heap.size, 0, none⟩ = some (.int .i64 now) := (Hk3.out.cell (p := ⟨w.heap.size, 0, none⟩) (by have := World.block_lt_of_cell? _ _ Hcq2.out; exact this) (HKn.out w.heap.size (Nat.le_refl _))).trans Hcq2.out
          have e2 : w4.cell? ⟨w.heap.size, 0, none⟩ = some (.int .i64 now) := (Hk4.out.cell (p := ⟨w.heap.size, 0, none⟩) (by have := World.block_lt_of_cell? _ _ e1; exact this) (show ¬ w.heap.size = g by omega)).trans e1
          exact (World.cell?_setCell_other _ _ _ _ (by intro e; injection e with e; omega)).trans e2
      case measure =>
        rw [Hlw.out]
        unfold listLen
        rw [World.cell?_setCell_same _ _ _ c4]
        show W'.length - 1 < W'.length
        omega
    · have hC2 := HC.out.below hb2
      have HC2 := Lib.hid hC2
      clear hC2 HC hb2 Hi
      go_wp2
      go_ret2
      exact ⟨k, tbl', next', head', F', W', v', rfl, HC2.out⟩
end Go.Proofs.YtadelkancmbanaaGreat
