/-
  bond.New.
-/
import Derived.Test.YtadelkancmbanaaGreatBMove
import Derived.Test.YtadelkancmbanaaGreatBNew
import Derived.Test.YtadelkancmbanaaGreatBENew
namespace Go.Proofs.YtadelkancmbanaaGreat
open Go.RowKit
attribute [local go_sem ↓] Go.wp_at_zero Go.wp_at_succ

set_option maxRecDepth 100000 in
theorem zeroX_size : Tryz.zeroCells111.size = 8204 := by kernel_rfl
set_option maxRecDepth 100000 in
theorem zeroX_made : Tryz.zeroCells111[8196]? = some (.int .i64 0) := by kernel_rfl

def valsF (vals : List Int) (j : Nat) : Int := vals.getD j 0

/-- Behind k cells laid. -/
structure BN (K : PB) (n N h B : Nat) (tbl : Nat → Slot) (vals : List Int) (F : List Nat) (G : Int) (w w0 wr : World) (k : Nat) (oo : Value) (next : Nat → Nat) (head : Int) : Prop where
  pool : PoolMem K n (laidK tbl 0 (valsF vals) (fun _ => 0) F k) next head wr
  ok : PoolOk n (laidK tbl 0 (valsF vals) (fun _ => 0) F k) next head (F.drop k) (G + k)
  heads : ∀ j, j < N → CellIs wr h j (.int .i64 (if j < k then hsK tbl 0 (valsF vals) (fun _ => 0) F j else 0))
  x : wr.heap[B]? = w0.heap[B]?
  keep : Keep (fun j => K.has j ∨ j = h) w0.heap.size w0 wr
  row : wr.ownsRow w0.heap.size 3 1 oo k (ints (hsK tbl 0 (valsF vals) (fun _ => 0) F) k)

theorem BN.step {K : PB} {n N h B : Nat} {tbl : Nat → Slot} {vals : List Int} {F : List Nat} {G : Int} {w w0 wr w2 w5 : World} {k : Nat} {oo nv : Value} {next next' : Nat → Nat} {head head' hh : Int} {o : Obj}
    (H : BN K n N h B tbl vals F G w w0 wr k oo next head) (hK : ∀ j, K.has j → j < w0.heap.size) (hB : B < w0.heap.size) (hh0 : h < w0.heap.size) (hnK : ¬ K.has h) (hnB : ¬ K.has B) (hne : B ≠ h) (hv : hsK tbl 0 (valsF vals) (fun _ => 0) F k = hh)
    (hp : PoolMem K n (laidK tbl 0 (valsF vals) (fun _ => 0) F (k + 1)) next' head' w2) (ho : PoolOk n (laidK tbl 0 (valsF vals) (fun _ => 0) F (k + 1)) next' head' (F.drop (k + 1)) (G + k + 1)) (hk2 : Keep K.has wr.heap.size wr w2)
    (hg : (w2.alloc o).grownBy w5 oo.ownBlock) (h5 : w5.ownsRow w0.heap.size 3 1 nv (k + 1) (ints (hsK tbl 0 (valsF vals) (fun _ => 0) F) (k + 1))) :
    BN K n N h B tbl vals F G w w0 (w5.setCell ⟨h, k, none⟩ (.int .i64 hh)) (k + 1) nv next' head' := by
  have s1 := H.keep.size
  have s2 := hk2.size
  have rlo : ∀ j, oo.ownBlock = some j → w0.heap.size ≤ j := fun j hj => (H.row.lt j hj).1
  have e5 : ∀ j, j < w0.heap.size → w5.heap[j]? = w2.heap[j]? := fun j hj => by
    rw [hg.block j (by simp only [World.size_alloc]; omega) (fun e => by have := rlo j e.symm; omega), Below.heap_alloc _ _ _ (by omega)]
  have eB : w5.heap[B]? = wr.heap[B]? := (e5 B hB).trans (hk2.block B (by omega) hnB)
  have eh : w5.heap[h]? = wr.heap[h]? := (e5 h hh0).trans (hk2.block h (by omega) hnK)
  have k5 : Keep (fun j => K.has j ∨ j = h) w0.heap.size w0 w5 :=
    (((H.keep.trans ((hk2.mono s1).weaken fun j _ e => .inl e)).alloc (by omega) o).grown hg (by simp only [World.size_alloc]; omega) rlo)
  refine ⟨(hp.of_blocks fun j hj => ?_), by rw [show G + ((k + 1 : Nat) : Int) = G + k + 1 by omega]; exact ho, fun j hj => ?_, ?_, k5.setCell (p := ⟨h, k, none⟩) (.inl (.inr rfl)) _, ?_⟩
  · rw [Below.heap_setCell _ _ _ _ (fun e => by have e' : j = h := e; subst e'; exact hnK hj)]
    exact e5 j (hK j hj)
  · have h0 := (H.heads j hj).of_block eh
    by_cases e : j = k
    · subst e
      rw [if_pos (by omega), hv]
      exact h0.set
    · have h1 := h0.setc (b' := h) (o' := k) (v := .int .i64 hh) (.inr e)
      rw [show (if j < k + 1 then hsK tbl 0 (valsF vals) (fun _ => 0) F j else 0) = (if j < k then hsK tbl 0 (valsF vals) (fun _ => 0) F j else 0) from by
        by_cases e2 : j < k
        · rw [if_pos e2, if_pos (by omega)]
        · rw [if_neg e2, if_neg (by omega)]]
      exact h1
  · rw [Below.heap_setCell _ _ _ _ hne, eB]
    exact H.x
  · refine owns_of_block h5 fun g hg' => Below.heap_setCell _ _ _ _ (fun e => ?_)
    have := (h5.lt g hg').1
    have e' : g = h := e
    omega

structure BNewEnd (K : PB) (n N eb cb : Nat) (tbl : Nat → Slot) (vals : List Int) (F : List Nat) (G : Int) (w : World) (e : Ending) (w' : World) (x h : Nat) (next : Nat → Nat) (head : Int) : Prop where
  end_ : e = .returned (.tuple #[.pointer (some ⟨x, 0, none⟩), .int .i64 0])
  bond : BondMem ⟨x, h, K.p, eb, cb⟩ ((List.range N).map (hsK tbl 0 (valsF vals) (fun _ => 0) F)) 0 (fun _ => 0) (fun _ => 0) w'
  pool : PoolMem K n (laidK tbl 0 (valsF vals) (fun _ => 0) F N) next head w'
  ok : PoolOk n (laidK tbl 0 (valsF vals) (fun _ => 0) F N) next head (F.drop N) (G + N)
  keep : Keep K.has w.heap.size w w'
  lo : w.heap.size ≤ x ∧ w.heap.size ≤ h

set_option maxRecDepth 100000 in
set_option maxHeartbeats 3200000 in
theorem bnew_any (K : PB) (n N eb cb gf cap : Nat) (F : List Nat) (vals : List Int) (G : Int) (tbl : Nat → Slot) (next : Nat → Nat) (head : Int) (w : World) (hp : PoolMem K n tbl next head w) (ok : PoolOk n tbl next head F G) (hN : 1 ≤ vals.length ∧ vals.length ≤ 16) (hv : N = vals.length) (hF : N ≤ F.length) (hG : G + N < 900000)
    (hgf : ¬ K.has gf) (hc : ∀ j, j < N → w.cell? ⟨gf, j, none⟩ = some (.int .i64 (vals.getD j 0))) :
    Calls Tryz.prog 19 #[.pointer (some ⟨K.p, 0, none⟩), .pointer (some ⟨eb, 0, none⟩), .pointer (some ⟨cb, 0, none⟩), .slice (some ⟨gf, 0, none⟩) N cap] w fun e w' => ∃ x h next head, BNewEnd K n N eb cb tbl vals F G w e w' x h next head := by
  have h1 : (N == 0) = false := by rw [beq_eq_false_iff_ne]; omega
  have h2 : ¬ N = 0 := by omega
  have h3 : ¬ 16 < N := by omega
  have h1i : ((N : Int) == 0) = false := by rw [beq_eq_false_iff_ne]; omega
  have h3i : decide (16 < (N : Int)) = false := decide_eq_false (by omega)
  obtain ⟨ia, hia, za0, za1, za2⟩ := info_parts infoA64
  obtain ⟨w1, hrun, hown, hgrow⟩ := run_make_full (P := Tryz.prog) w w.heap.size 73 72 ia _ 1 Tryz.underlying73 hia za0 za1 .i64 .i64 N (by rw [za2]; omega) (by unfold maxLen; omega) (Nat.le_refl _)
  have hb1 : Below w.heap.size w w1 := (Below.refl _ _).grown hgrow (Nat.le_refl _) (fun k hk => by cases hk)
  have hsz : w.heap.size < w1.heap.size := (hown.lt w.heap.size rfl).2
  have hls : ∀ i, i < N → CellIs w1 w.heap.size i (.int .i64 0) := fun i hi => by
    refine ⟨?_, hown.frozenAt i⟩
    rw [hown.cellAt i (by omega)]
    have e : (madeCells (Value.agg #[.int .i64 0]).cells (N * 1)).toList = List.replicate (N * 1) (.int .i64 0) := toList_madeCells_one _ _
    rw [e, List.getElem?_replicate, if_pos (by omega)]
  have Hp := Lib.hid hp
  have Hok := Lib.hid ok
  have HN := Lib.hid hN
  have Hv := Lib.hid hv
  have HF := Lib.hid hF
  have HG := Lib.hid hG
  have Hc := Lib.hid hc
  have Hb1 := Lib.hid hb1
  have Hsz := Lib.hid hsz
  have Hls := Lib.hid hls
  clear hp ok hN hv hF hG hc hb1 hsz hls hown hgrow hia za0 za1 za2
  go_enter Tryz.func19, Tryz.ntmps19
  go_wp2_with fail
  obtain ⟨C, hC⟩ : ∃ C, C = ((((Tryz.zeroCells111.setIfInBounds 0 (.pointer (some ⟨K.p, 0, none⟩))).setIfInBounds 1 (.pointer (some ⟨eb, 0, none⟩))).setIfInBounds 2 (.pointer (some ⟨cb, 0, none⟩))).setIfInBounds 3 (.slice (some ⟨w.heap.size, 0, none⟩) N N)) := ⟨_, rfl⟩
  rw [← hC]
  have hCs : C.size = 8204 := by rw [hC]; simp [zeroX_size]
  have hC0 : C[0]? = some (.pointer (some ⟨K.p, 0, none⟩)) := by rw [hC]; simp [Array.getElem?_setIfInBounds, zeroX_size]
  have hC1 : C[1]? = some (.pointer (some ⟨eb, 0, none⟩)) := by rw [hC]; simp [Array.getElem?_setIfInBounds, zeroX_size]
  have hC2 : C[2]? = some (.pointer (some ⟨cb, 0, none⟩)) := by rw [hC]; simp [Array.getElem?_setIfInBounds, zeroX_size]
  have hC3 : C[3]? = some (.slice (some ⟨w.heap.size, 0, none⟩) N N) := by rw [hC]; simp [Array.getElem?_setIfInBounds, zeroX_size]
  have hC4 : C[8196]? = some (.int .i64 0) := by rw [hC, Array.getElem?_setIfInBounds_ne (by decide), Array.getElem?_setIfInBounds_ne (by decide), Array.getElem?_setIfInBounds_ne (by decide), Array.getElem?_setIfInBounds_ne (by decide)]; exact zeroX_made
  clear hC
  obtain ⟨W, hW⟩ : ∃ W, W = w1.alloc (.cells C 111) := ⟨_, rfl⟩
  have gW : W.heap[w1.heap.size]? = some (.cells C 111 (0, 0)) := by rw [hW]; exact heap_alloc_new _ _
  have bW : Below w.heap.size w W := by rw [hW]; exact Hb1.out.alloc (Nat.le_of_lt Hsz.out) _
  have sW : W.heap.size = w1.heap.size + 1 := by rw [hW]; simp
  have hlh : w.heap.size < W.heap.size := by have := Hsz.out; omega
  have hKw : ∀ j, K.has j → j < w.heap.size := fun j hj => by have := Hp.out.lt; rcases hj with e | e | e | e <;> omega
  have hn0 : ¬ K.has w.heap.size := fun h => by have := hKw _ h; omega
  have hn1 : ¬ K.has w1.heap.size := fun h => by have := hKw _ h; have := Hsz.out; omega
  have hstart : BN K n N w.heap.size w1.heap.size tbl vals F G w W W 0 (.slice none 0 0) next head :=
    ⟨Hp.out.below bW, by rw [show G + ((0 : Nat) : Int) = G by omega]; exact Hok.out, fun j hj => by
      rw [if_neg (by omega), hW]
      exact (Hls.out j hj).of_block (Below.heap_alloc _ _ _ Hsz.out), rfl, Keep.refl _ _ _, World.ownsRow_nil _ _ _ _⟩
  rw [← hW]
  have Hstart := Lib.hid hstart
  have HC0 := Lib.hid hC0
  have HC1 := Lib.hid hC1
  have HC2 := Lib.hid hC2
  have HC3 := Lib.hid hC3
  have HC4 := Lib.hid hC4
  have HCs := Lib.hid hCs
  have HgW := Lib.hid gW
  have HbW := Lib.hid bW
  have HsW := Lib.hid sW
  have Hlh := Lib.hid hlh
  have HKw := Lib.hid hKw
  have Hn0 := Lib.hid hn0
  have Hn1 := Lib.hid hn1
  clear hstart hC0 hC1 hC2 hC3 hC4 hCs gW bW sW hlh hKw hn0 hn1 hW hrun
  go_loopw [34, 11] (fun i oo wr => ∃ k : Nat, k ≤ N ∧ i = .int .i64 k ∧ ∃ next head, BN K n N w.heap.size w1.heap.size tbl vals F G w W wr k oo next head) (fun i _ _ => N - (intOf i).toNat)
  case atStart => exact ⟨0, Nat.zero_le _, rfl, next, head, Hstart.out⟩
  case round =>
    obtain ⟨k, hk, rfl, next, head, hB⟩ := hrel
    by_cases hlt : k < N
    · have hbl : ∀ g, g < w.heap.size → ¬ K.has g → wr.heap[g]? = w.heap[g]? := fun g h1 h2 =>
        (hB.keep.block g (by have := Hlh.out; omega) (fun e => by rcases e with e | e; exact h2 e; omega)).trans (HbW.out.block g h1)
      have hlg : gf < w.heap.size := World.block_lt_of_cell? w _ (Hc.out k hlt)
      have c1 := (World.cell?_of_block (a := ⟨gf, k, none⟩) (hbl gf hlg hgf)).trans (Hc.out k hlt)
      obtain ⟨vk, hvk⟩ : ∃ x, vals.getD k 0 = x := ⟨_, rfl⟩
      rw [hvk] at c1
      obtain ⟨hh, hhh⟩ : ∃ a, hsK tbl 0 (valsF vals) (fun _ => 0) F k = a := ⟨_, rfl⟩
      have hTk : Calls Tryz.prog 54 #[.pointer (some ⟨K.p, 0, none⟩), .pointer none, nodeVal vk 0 0 0, .int .i64 0] wr fun e w2 => e = .returned (.tuple #[.int .i64 hh, .int .i64 0]) ∧ ∃ head', PoolMem K n (laidK tbl 0 (valsF vals) (fun _ => 0) F (k + 1)) next head' w2 ∧ PoolOk n (laidK tbl 0 (valsF vals) (fun _ => 0) F (k + 1)) next head' (F.drop (k + 1)) (G + k + 1) ∧ Keep K.has wr.heap.size wr w2 := by
        have hFk : k < F.length := Nat.lt_of_lt_of_le hlt HF.out
        have eF : F.drop k = F.getD k 0 :: F.drop (k + 1) := by rw [List.drop_eq_getElem_cons hFk, List.getD_eq_getElem?_getD, List.getElem?_eq_getElem hFk]; rfl
        have hok := hB.ok
        rw [eF] at hok
        have ev : valsF vals k = vk := hvk
        refine (take_ok K n (F.getD k 0) vk 0 0 0 0 (G + k) (laidK tbl 0 (valsF vals) (fun _ => 0) F k) next head (F.drop (k + 1)) wr hB.pool hok (by have := HG.out; omega)).mono ?_
        rintro e w4 ⟨head4, h4⟩
        refine ⟨by rw [← hhh]; exact h4.end_, head4, ?_, ?_, h4.keep⟩
        · rw [laidK, ev]; exact h4.mem
        · rw [laidK, ev]; exact h4.ok
      have HTk := Lib.hid hTk
      have HB := Lib.hid hB
      have Hhh := Lib.hid hhh
      clear hTk hB hhh hbl hlg hvk
      go_wp2_with fail
      refine HTk.out.mono ?_
      rintro e w2 ⟨rfl, head2, hp2, ho2, hk2⟩
      obtain ⟨ii, hii, zi0, zi1, zi2⟩ := info_parts infoBI
      have hrow2 : w2.ownsRow W.heap.size 3 1 u11 k (ints (hsK tbl 0 (valsF vals) (fun _ => 0) F) k) := owns_of_block HB.out.row fun g hg => hk2.block g (HB.out.row.lt g hg).2 (fun h => by have h1 := HKw.out _ h; have h2 := (HB.out.row.lt g hg).1; have h3 := Hlh.out; omega)
      have hrs : W.heap.size ≤ w2.heap.size := Nat.le_trans HB.out.keep.size hk2.size
      have Hp2 := Lib.hid hp2
      have Ho2 := Lib.hid ho2
      have Hk2 := Lib.hid hk2
      have Hrow2 := Lib.hid hrow2
      have Hrs := Lib.hid hrs
      clear hp2 ho2 hk2 hrow2 hrs HTk c1
      go_wp2_with (at_builtin; go_loud (refine wpList_append_lies _ rfl (.tmp 53) (.tmp 55) 22 rfl W.heap.size 3 ii _ 1 8 Tryz.underlying22 hii zi0 zi1 zi2 rfl (by decide) u11 k (ints (hsK tbl 0 (valsF vals) (fun _ => 0) F) k) rfl (Hrow2.out.alloc _) ⟨w2.heap.size, 0, none⟩ 1 1 [.int .i64 hh] rfl rfl (World.news_of_block (cs := #[.int .i64 hh]) (t := 3) (fr := (0, 0)) (heap_alloc_new _ _)) (by simp [Value.oneCell']) (by decide) (by unfold maxLen; omega) (by omega) (by simp; have := Hrs.out; omega) (w2.heap.size + 1) (by simp) ?_; intro gg cap' w5 hown5 hgrow hat hlt5; have Hown5 := Lib.hid hown5; have Hgrow := Lib.hid hgrow; clear hown5 hgrow hat hlt5; have e5 : ∀ j, j < W.heap.size → ¬ K.has j → w5.heap[j]? = wr.heap[j]? := (fun j h1 h2 => by rw [Hgrow.out.block j (by simp only [World.size_alloc]; have := Hrs.out; omega) (fun e => by have := (Hrow2.out.lt j e.symm).1; omega), Below.heap_alloc _ _ _ (by have := Hrs.out; omega), Hk2.out.block j (by have := HB.out.keep.size; omega) h2]); have q3 : w5.cell? ⟨w1.heap.size, 3, none⟩ = some (.slice (some ⟨w.heap.size, 0, none⟩) N N) := (by have e6 := (e5 w1.heap.size (by have := HsW.out; omega) Hn1.out).trans (HB.out.x.trans HgW.out); simp [World.cell?, e6, HC3.out]); have q4 := ((HB.out.heads k hlt).of_block (e5 w.heap.size Hlh.out Hn0.out)).cell; have q5 := ((HB.out.heads k hlt).of_block (e5 w.heap.size Hlh.out Hn0.out)).frz; rw [if_neg (Nat.lt_irrefl k)] at q4; clear e5))
      go_wp2_with (first | (go_at_call 23; ((with_reducible refine (i64store _ _ _ _ _ q4 q5).mono ?_); rintro e w' ⟨rfl, rfl⟩)))
      go_roundw
      case rel =>
        refine ⟨k + 1, by omega, by go_num, next, head2, ?_⟩
        have h5 : w5.ownsRow W.heap.size 3 1 (.slice (some ⟨gg, 0, none⟩) (k + 1) cap') (k + 1) (ints (hsK tbl 0 (valsF vals) (fun _ => 0) F) (k + 1)) := by rw [ints_succ, Hhh.out]; exact Hown5.out
        have l1 := Hlh.out
        have l2 := HsW.out
        have l3 := Hsz.out
        exact HB.out.step (fun j hj => by have := HKw.out j hj; omega) (by omega) Hlh.out Hn0.out Hn1.out (by omega) Hhh.out Hp2.out Ho2.out Hk2.out Hgrow.out h5
      case measure => simp [intOf]; omega
    · have e : k = N := by omega
      rw [e] at hB
      have l2 := HsW.out
      have l3 := Hsz.out
      have gx : wr.heap[w1.heap.size]? = some (.cells C 111 (0, 0)) := hB.x.trans HgW.out
      have cx : ∀ o, wr.cell? ⟨w1.heap.size, o, none⟩ = C[o]? := fun o => by simp [World.cell?, gx]
      have fx : ∀ o, wr.frozen? ⟨w1.heap.size, o, none⟩ = false := fun o => by simp [World.frozen?, gx]
      have hlen : ((List.range N).map (hsK tbl 0 (valsF vals) (fun _ => 0) F)).length = N := by simp
      have hbond : BondMem ⟨w1.heap.size, w.heap.size, K.p, eb, cb⟩ ((List.range N).map (hsK tbl 0 (valsF vals) (fun _ => 0) F)) 0 (fun _ => 0) (fun _ => 0) wr := by
        refine ⟨by show w1.heap.size ≠ w.heap.size; omega, (cx 0).trans HC0.out, (cx 1).trans HC1.out, (cx 2).trans HC2.out, by rw [hlen]; exact (cx 3).trans HC3.out, fun i hi => ?_, fun d hd => ?_, ⟨(cx 8196).trans HC4.out, fx _⟩, fun j hj => absurd hj (Nat.not_lt_zero j), fun j hj => absurd hj (Nat.not_lt_zero j), by rw [hlen, Hv.out]; exact HN.out, Nat.zero_le _⟩
        · rw [hlen] at hi
          have h := hB.heads i hi
          rw [if_pos hi] at h
          have e2 : ((List.range N).map (hsK tbl 0 (valsF vals) (fun _ => 0) F)).getD i 0 = hsK tbl 0 (valsF vals) (fun _ => 0) F i := by
            rw [List.getD_eq_getElem?_getD]
            simp [hi]
          rw [e2]
          exact h
        · exact ⟨C[4 + d]'(by rw [HCs.out]; omega), (cx _).trans (Array.getElem?_eq_getElem _), fx _⟩
      have hkeep : Keep K.has w.heap.size w wr := (Keep.of_below HbW.out).trans ((hB.keep.mono (Nat.le_of_lt Hlh.out)).weaken fun j hj e => by
        rcases e with e | e
        · exact e
        · omega)
      have hend : BNewEnd K n N eb cb tbl vals F G w (.returned (.tuple #[.pointer (some ⟨w1.heap.size, 0, none⟩), .int .i64 0])) wr w1.heap.size w.heap.size next head :=
        ⟨rfl, hbond, hB.pool, hB.ok, hkeep, by omega, Nat.le_refl _⟩
      have Hend := Lib.hid hend
      clear hend hkeep hbond cx fx gx hB e hk l2 l3
      go_wp2_with fail
      go_ret2
      exact ⟨_, _, _, _, Hend.out⟩
end Go.Proofs.YtadelkancmbanaaGreat
