/-
  The law's own makes: a pool, a clock, an epoch, cells.
-/
import Derived.Test.YtadelkancmbanaaGreatBInv3
namespace Go.Proofs.YtadelkancmbanaaGreat
open Go.RowKit
attribute [local go_sem ↓] Go.wp_at_zero Go.wp_at_succ

theorem freeL_range (n : Nat) : ∀ k i, i + k = n + 1 → 1 ≤ i → FreeL n (nextTo n) (if k = 0 then 0 else i) (List.range' i k)
  | 0, _, _, _ => rfl
  | k + 1, i, h, h1 => by
    rw [List.range'_succ, if_neg (Nat.succ_ne_zero k)]
    refine ⟨rfl, h1, by omega, ?_⟩
    have ih := freeL_range n k (i + 1) (by omega) (by omega)
    have e : nextTo n i = if k = 0 then 0 else i + 1 := by
      unfold nextTo
      by_cases hk : k = 0
      · rw [if_pos hk, if_neg (by omega)]
      · rw [if_neg hk, if_pos (by omega)]
    rw [e]
    exact ih

def F0 (n : Nat) : List Nat := List.range' 1 n
theorem F0_length (n : Nat) : (F0 n).length = n := by unfold F0; simp
theorem F0_nodup (n : Nat) : (F0 n).Nodup := by unfold F0; exact List.nodup_range'
theorem F0_get (n j : Nat) (h : j < n) : (F0 n).getD j 0 = j + 1 := by
  unfold F0
  rw [List.getD_eq_getElem?_getD, List.getElem?_range' h]
  simp; omega

theorem pool0_ok (n : Nat) (hn : 1 ≤ n) : PoolOk n (fun _ => slot0) (nextTo n) 1099511627776 (F0 n) 0 := by
  refine ⟨?_, F0_nodup n, fun i _ => rfl, fun i _ => ⟨Int.le_refl _, Int.le_refl _⟩, by decide⟩
  have h := freeL_range n n 1 (by omega) (by omega)
  rw [if_neg (by omega)] at h
  exact h

def mVal (Z : Fix) : Value := .agg #[.pointer (some ⟨Z.X.x, 0, none⟩), .pointer (some ⟨Z.K.p, 0, none⟩), .pointer (some ⟨Z.X.e, 0, none⟩), .pointer (some ⟨Z.X.c, 0, none⟩)]

/-- The tags at first. -/
def tag0 (K : PB) (x h e c cc : Nat) (k : Nat) : Nat := if k = K.p ∨ k = K.l ∨ k = K.q ∨ k = K.x then 1 else if k = x ∨ k = h then 2 else if k = e then 3 else if k = c ∨ k = cc then 4 else 0

/-- Cells as they are at first. -/
structure Fresh (n L N : Nat) (vals : List Int) (w w' : World) (Z : Fix) (S : St) (C : Nat → List Ver) : Prop where
  inv : Inv Z S C ((F0 n).drop N) [] N w'
  keep : Below w.heap.size w w'
  n : Z.n = n
  len : S.heads.length = N
  ls : S.ls = List.replicate L 0
  cnow : S.cnow = 1
  now : S.now = 1
  made : S.made = 0
  one : ∀ c, c < N → ∃ x, C c = [x] ∧ x.v = vals.getD c 0 ∧ x.s = 2
  tag : ∀ k, k < w.heap.size → S.tag k = 0

def st0 (K : PB) (n N x h e c cc L : Nat) (vals : List Int) (next : Nat → Nat) (head : Int) : St :=
  { heads := (List.range N).map (hsK (fun _ => slot0) 0 (valsF vals) (fun _ => 0) (F0 n)), made := 0, db := fun _ => 0, st := fun _ => 0, tbl := laidK (fun _ => slot0) 0 (valsF vals) (fun _ => 0) (F0 n) N, next := next, head := head, now := 1, at0 := 0, deep := 0, v := .slice none 0 0, ws := [], cnow := 1, ls := List.replicate L 0, tag := tag0 K x h e c cc }

theorem fresh_of (K : PB) (n N x h e c cc L : Nat) (vals : List Int) (next : Nat → Nat) (head : Int) (w w' : World) (hv : N = vals.length) (hN : 1 ≤ N ∧ N ≤ 16) (hn : N ≤ n)
    (hK : ∀ k, K.has k → w.heap.size ≤ k) (hb : BondMem ⟨x, h, K.p, e, c⟩ ((List.range N).map (hsK (fun _ => slot0) 0 (valsF vals) (fun _ => 0) (F0 n))) 0 (fun _ => 0) (fun _ => 0) w') (hp : PoolMem K n (laidK (fun _ => slot0) 0 (valsF vals) (fun _ => 0) (F0 n) N) next head w')
    (ok : PoolOk n (laidK (fun _ => slot0) 0 (valsF vals) (fun _ => 0) (F0 n) N) next head ((F0 n).drop N) (0 + N)) (he : EpochMem e K.p 1 0 0 (.slice none 0 0) w') (hc : ClockMem c cc 1 (List.replicate L 0) w') (hbw : Below w.heap.size w w')
    (d1 : ∀ k, K.has k → k ≠ x ∧ k ≠ h ∧ k ≠ e ∧ k ≠ c ∧ k ≠ cc) (d2 : x ≠ e ∧ x ≠ c ∧ x ≠ cc ∧ h ≠ e ∧ h ≠ c ∧ h ≠ cc ∧ e ≠ c ∧ e ≠ cc) (lo : w.heap.size ≤ x ∧ w.heap.size ≤ h ∧ w.heap.size ≤ e ∧ w.heap.size ≤ c ∧ w.heap.size ≤ cc) :
    Fresh n L N vals w w' ⟨K, n, ⟨x, h, K.p, e, c⟩, cc, w'.heap.size⟩ (st0 K n N x h e c cc L vals next head) (fun j => [⟨(F0 n).getD j 0, 1, valsF vals j, 0, 2⟩]) := by
  have hlen : ((List.range N).map (hsK (fun _ => slot0) 0 (valsF vals) (fun _ => 0) (F0 n))).length = N := by simp
  have hplt := hp.lt
  have hblt := hb.lt
  have helt := he.lt
  have hclt := hc.lt
  have tK : ∀ k, K.has k → tag0 K x h e c cc k = 1 := fun k hk => by unfold tag0; rw [if_pos (show k = K.p ∨ k = K.l ∨ k = K.q ∨ k = K.x from hk)]
  have nK : ∀ k, (∀ q, K.has q → q ≠ k) → ¬ (k = K.p ∨ k = K.l ∨ k = K.q ∨ k = K.x) := fun k h2 h3 => h2 k h3 rfl
  have tags : Tags ⟨K, n, ⟨x, h, K.p, e, c⟩, cc, w'.heap.size⟩ (st0 K n N x h e c cc L vals next head) w'.heap.size := by
    refine ⟨tK, ⟨?_, ?_⟩, fun j hj => absurd hj (Nat.not_lt_zero j), ?_, ⟨?_, ?_⟩, fun q hq => (by cases hq), fun k hk => ?_⟩
    · show tag0 K x h e c cc x = 2
      unfold tag0; rw [if_neg (nK x fun q hq => (d1 q hq).1), if_pos (.inl rfl)]
    · show tag0 K x h e c cc h = 2
      unfold tag0; rw [if_neg (nK h fun q hq => (d1 q hq).2.1), if_pos (.inr rfl)]
    · show tag0 K x h e c cc e = 3
      unfold tag0; rw [if_neg (nK e fun q hq => (d1 q hq).2.2.1), if_neg (by omega), if_pos rfl]
    · show tag0 K x h e c cc c = 4
      unfold tag0; rw [if_neg (nK c fun q hq => (d1 q hq).2.2.2.1), if_neg (by omega), if_neg (by omega), if_pos (.inl rfl)]
    · show tag0 K x h e c cc cc = 4
      unfold tag0; rw [if_neg (nK cc fun q hq => (d1 q hq).2.2.2.2), if_neg (by omega), if_neg (by omega), if_pos (.inr rfl)]
    · show tag0 K x h e c cc k = 0
      obtain ⟨b1, b2, _⟩ := hblt
      have b1' : x < w'.heap.size := b1
      have b2' : h < w'.heap.size := b2
      unfold tag0; rw [if_neg (by omega), if_neg (by omega), if_neg (by omega), if_neg (by omega)]
  have hmem : Mem ⟨K, n, ⟨x, h, K.p, e, c⟩, cc, w'.heap.size⟩ (st0 K n N x h e c cc L vals next head) w' :=
    ⟨hb, hp, he, World.ownsRow_nil _ _ _ _, hc, rfl, tags, Nat.le_refl _⟩
  have hver : ∀ j, j < N → VerAt n 0 (laidK (fun _ => slot0) 0 (valsF vals) (fun _ => 0) (F0 n) N) (fun _ => 0) ⟨(F0 n).getD j 0, 1, valsF vals j, 0, 2⟩ := fun j hj => by
    have hl := laidK_hit (fun _ => slot0) 0 (valsF vals) (fun _ => 0) (F0 n) (F0_nodup n) j N hj (by rw [F0_length]; exact hn)
    have hg := F0_get n j (by omega)
    refine ⟨⟨by show 1 ≤ (F0 n).getD j 0; omega, by show (F0 n).getD j 0 ≤ n; omega, ?_, show (1 : Int) % 2 = 1 from by decide, show (0 : Int) ≤ 1 from by decide, show (1 : Int) ≤ 1000001 from by decide⟩, ?_, ?_, .inl ⟨rfl, rfl⟩, show (2 : Int) ≤ 2 ∧ (2 : Int) ≤ 1000001 from by decide⟩
    · show (laidK _ _ _ _ _ N ((F0 n).getD j 0)).gen = 1; rw [hl]; rfl
    · show (laidK _ _ _ _ _ N ((F0 n).getD j 0)).a = _; rw [hl]
    · show (laidK _ _ _ _ _ N ((F0 n).getD j 0)).b = 0; rw [hl]
  refine ⟨⟨hmem, rfl, rfl, by rw [show ((N : Int)) = 0 + N by omega]; exact ok, fun j hj => ?_, fun j _ => List.cons_ne_nil _ _, ?_, fun j _ => by unfold vSlots; simp, fun i j hi hj hne k hk hk' => ?_, fun j hj i hi hi' => ?_, rfl, fun x hx => (by cases hx), fun x hx => (by cases hx), fun j hj y hy => ?_, fun j hj => ?_⟩, hbw, rfl, hlen, rfl, rfl, rfl, rfl, fun j hj => ⟨_, rfl, rfl, rfl⟩, fun k hk => ?_⟩
  · have hj' : j < N := by rw [← hlen]; exact hj
    show ChainAt n 0 (laidK (fun _ => slot0) 0 (valsF vals) (fun _ => 0) (F0 n) N) (fun _ => 0) (((List.range N).map (hsK (fun _ => slot0) 0 (valsF vals) (fun _ => 0) (F0 n))).getD j 0) _
    refine ⟨?_, hver j hj', ?_⟩
    · have e2 : ((List.range N).map (hsK (fun _ => slot0) 0 (valsF vals) (fun _ => 0) (F0 n))).getD j 0 = hsK (fun _ => slot0) 0 (valsF vals) (fun _ => 0) (F0 n) j := by
        rw [List.getD_eq_getElem?_getD]
        simp [hj']
      rw [e2, hsK_eq _ _ _ _ _ (F0_nodup n) j (by rw [F0_length]; omega)]
      rfl
    · show (laidK _ _ _ _ _ N ((F0 n).getD j 0)).link = 0
      rw [laidK_hit _ _ _ _ _ (F0_nodup n) j N hj' (by rw [F0_length]; exact hn)]
  · simp only [wSlots, List.map_nil, List.append_nil]
    exact (F0_nodup n).sublist (List.drop_sublist _ _)
  · have hi' : i < N := by rw [← hlen]; exact hi
    have hj' : j < N := by rw [← hlen]; exact hj
    obtain ⟨y, hy, e1⟩ := mem_vSlots.1 hk
    obtain ⟨z, hz, e2⟩ := mem_vSlots.1 hk'
    rw [List.mem_singleton.1 hy] at e1
    rw [List.mem_singleton.1 hz] at e2
    have e3 : (F0 n).getD i 0 = (F0 n).getD j 0 := e1.trans e2.symm
    rw [F0_get n i (by omega), F0_get n j (by omega)] at e3
    omega
  · have hj' : j < N := by rw [← hlen]; exact hj
    obtain ⟨y, hy, e1⟩ := mem_vSlots.1 hi
    rw [List.mem_singleton.1 hy] at e1
    have e1' : (F0 n).getD j 0 = i := e1
    simp only [wSlots, List.map_nil, List.append_nil] at hi'
    obtain ⟨k, hk, ek⟩ := List.mem_iff_getElem.1 hi'
    rw [List.getElem_drop] at ek
    rw [List.length_drop] at hk
    refine fdist (F0_nodup n) (show j < N + k by omega) (by omega) ?_
    rw [e1', ← ek, List.getD_eq_getElem?_getD, List.getElem?_eq_getElem (show N + k < (F0 n).length by omega)]
    rfl
  · rw [List.mem_singleton.1 hy]; show (2 : Int) - 1 ≤ 1; decide
  · refine ⟨_, List.mem_singleton.2 rfl, ?_⟩
    rw [le_least]
    refine ⟨by show (2 : Int) - 1 ≤ 1; decide, fun k hk hne => absurd ?_ hne⟩
    show (List.replicate L (0 : Int)).getD k 0 = 0
    rw [List.getD_eq_getElem?_getD, List.getElem?_replicate]
    split <;> rfl
  · show tag0 K x h e c cc k = 0
    unfold tag0
    rw [if_neg (by
      rintro (e | e | e | e)
      · have := hK k (.inl e); omega
      · have := hK k (.inr (.inl e)); omega
      · have := hK k (.inr (.inr (.inl e))); omega
      · have := hK k (.inr (.inr (.inr e))); omega), if_neg (by omega), if_neg (by omega), if_neg (by omega)]
end Go.Proofs.YtadelkancmbanaaGreat

/-
  The law's own makes, walked.
-/
namespace Go.Proofs.YtadelkancmbanaaGreat
open Go.RowKit
attribute [local go_sem ↓] Go.wp_at_zero Go.wp_at_succ

def intRow (vals : List Int) : List Value := vals.map (Value.int .i64)
theorem intRow_get (vals : List Int) (j : Nat) (h : j < vals.length) : (intRow vals)[j]? = some (.int .i64 (vals.getD j 0)) := by
  unfold intRow
  rw [List.getElem?_map, List.getElem?_eq_getElem h, List.getD_eq_getElem?_getD, List.getElem?_eq_getElem h]
  rfl

set_option maxRecDepth 100000 in
set_option maxHeartbeats 3200000 in
theorem makes_any (n L N gf of cap : Nat) (vals : List Int) (w : World) (hv : N = vals.length) (hN : 1 ≤ N ∧ N ≤ 16) (hn : N ≤ n ∧ n ≤ 4096) (hL : 1 ≤ L ∧ L ≤ 64) (hc : ∀ j, j < N → w.cell? ⟨gf, of + j, none⟩ = some (.int .i64 (vals.getD j 0))) :
    Calls Tryz.prog 5 #[.int .i64 n, .int .i64 L, .slice (some ⟨gf, of, none⟩) N cap] w fun e w' => ∃ Z S C, e = .returned (.tuple #[mVal Z, .int .i64 0]) ∧ Fresh n L N vals w w' Z S C := by
  obtain ⟨ii, hii, zi0, zi1, zi2⟩ := info_parts infoBI
  obtain ⟨W, hW⟩ : ∃ W, W = w.alloc (.cells #[.pointer none, .pointer none, .pointer none, .pointer none] 33) := ⟨_, rfl⟩
  have gW : W.heap[w.heap.size]? = some (.cells #[.pointer none, .pointer none, .pointer none, .pointer none] 33 (0, 0)) := by rw [hW]; exact heap_alloc_new _ _
  have bW : Below w.heap.size w W := by rw [hW]; exact (Below.refl _ _).alloc (Nat.le_refl _) _
  have sW : W.heap.size = w.heap.size + 1 := by rw [hW]; simp
  have hgf : gf < w.heap.size := World.block_lt_of_cell? w _ (hc 0 (by omega))
  have hpn := pnew_any n W (by omega) (by omega)
  have Hpn := Lib.hid hpn
  have HW := Lib.hid hW
  have GW := Lib.hid gW
  have HbW := Lib.hid bW
  have HsW := Lib.hid sW
  have Hgf := Lib.hid hgf
  have Hc := Lib.hid hc
  have Hv := Lib.hid hv
  have HN := Lib.hid hN
  have Hn := Lib.hid hn
  have HL := Lib.hid hL
  clear hpn hW gW bW sW hgf hc hv hN hn hL
  go_enter Tryz.func5, Tryz.ntmps5
  go_wp2_with fail
  rw [← HW.out]
  refine Hpn.out.mono ?_
  rintro e w1 ⟨K, rfl, hp1, hb1, hK1⟩
  have hcn := cnew_any L w1 HL.out.1 HL.out.2
  have Hcn := Lib.hid hcn
  have Hp1 := Lib.hid hp1
  have Hb1 := Lib.hid hb1
  have HK1 := Lib.hid hK1
  clear hp1 hb1 hK1 hcn Hpn
  go_wp2_with fail
  refine Hcn.out.mono ?_
  rintro e w2 ⟨cb, cc, rfl, hc2, hb2, hl1, hl2⟩
  have hen := enew_any K.p w2
  have Hen := Lib.hid hen
  have Hc2 := Lib.hid hc2
  have Hb2 := Lib.hid hb2
  have Hl1 := Lib.hid hl1
  have Hl2 := Lib.hid hl2
  clear hc2 hb2 hl1 hl2 hen Hcn
  go_wp2_with fail
  refine Hen.out.mono ?_
  rintro e w3 ⟨eb, rfl, he3, hb3, hl3⟩
  have s1 := Hb1.out.size
  have s2 := Hb2.out.size
  have s3 := hb3.size
  have sw := HsW.out
  have hcell3 : ∀ j, j < N → w3.cell? ⟨gf, of + j, none⟩ = some (.int .i64 (vals.getD j 0)) := fun j hj => by
    rw [hb3.cell (p := ⟨gf, of + j, none⟩) (by show gf < w2.heap.size; have := Hgf.out; omega), Hb2.out.cell (p := ⟨gf, of + j, none⟩) (by show gf < w1.heap.size; have := Hgf.out; omega), Hb1.out.cell (p := ⟨gf, of + j, none⟩) (by show gf < W.heap.size; have := Hgf.out; omega), HbW.out.cell (p := ⟨gf, of + j, none⟩) Hgf.out]
    exact Hc.out j hj
  have hnews : ∀ j u, (intRow vals)[j]? = some u → w3.cell? ((⟨gf, of, none⟩ : Addr).add j) = some u := fun j u hj => by
    have hjl : j < vals.length := by
      rcases Nat.lt_or_ge j vals.length with h | h
      · exact h
      · rw [List.getElem?_eq_none (by unfold intRow; simpa using h)] at hj; cases hj
    rw [intRow_get vals j hjl] at hj
    injection hj with hj
    rw [← hj]
    have := hcell3 j (by rw [Hv.out]; exact hjl)
    rw [Addr.add_lit]
    exact this
  have hone : ∀ u ∈ intRow vals, u.oneCell' = true := fun u hu => by
    obtain ⟨x, _, rfl⟩ := List.mem_map.1 hu
    rfl
  have hlenR : (intRow vals).length = N * 1 := by unfold intRow; simp; exact Hv.out.symm
  have Hnews := Lib.hid hnews
  have Hone := Lib.hid hone
  have HlenR := Lib.hid hlenR
  have Hcell3 := Lib.hid hcell3
  have He3 := Lib.hid he3
  have Hb3 := Lib.hid hb3
  have Hl3 := Lib.hid hl3
  have S1 := Lib.hid s1
  have S2 := Lib.hid s2
  have S3 := Lib.hid s3
  clear hcell3 he3 hb3 hl3 Hen s1 s2 s3 sw hnews hone hlenR
  go_wp2_with (at_builtin; go_loud (refine wpList_append_lies _ rfl (.const (.slice none 0 0)) (.tmp 46) 22 rfl w3.heap.size 3 ii _ 1 8 Tryz.underlying22 hii zi0 zi1 zi2 rfl (by decide) (.slice none 0 0) 0 [] rfl (World.ownsRow_nil _ _ _ _) ⟨gf, of, none⟩ N cap (intRow vals) rfl HlenR.out Hnews.out Hone.out (by have := HN.out; omega) (by unfold maxLen; have := HN.out; omega) (by have := HN.out; omega) (Nat.le_refl _) w3.heap.size rfl ?_; intro g4 c4 w4 hown4 hgrow4 hat4 hlt4; rw [Nat.zero_add, List.nil_append] at hown4; rw [Nat.zero_add]; have Hown4 := Lib.hid hown4; have Hgrow4 := Lib.hid hgrow4; clear hown4 hgrow4 hat4 hlt4))
  have s1 := S1.out
  have s2 := S2.out
  have s3 := S3.out
  have sw := HsW.out
  have hb4 : Below w3.heap.size w3 w4 := (Below.refl _ _).grown Hgrow4.out (Nat.le_refl _) (fun g hg => by cases hg)
  have s4 := hb4.size
  have hp4 := ((Hp1.out.below Hb2.out).below Hb3.out).below hb4
  have hKlt : ∀ k, K.has k → k < w1.heap.size := fun k hk => by have := Hp1.out.lt; rcases hk with e | e | e | e <;> omega
  have hg4 : w3.heap.size ≤ g4 := (Hown4.out.lt g4 rfl).1
  have hbn := bnew_any K n N eb cb g4 c4 (F0 n) vals 0 (fun _ => slot0) (nextTo n) 1099511627776 w4 hp4 (pool0_ok n (by have := HN.out; have := Hn.out; omega)) (by rw [← Hv.out]; exact HN.out) Hv.out (by rw [F0_length]; exact Hn.out.1) (by have := HN.out; omega) (fun h => by have := hKlt _ h; omega) (fun j hj => by
    rw [Hown4.out.cellAt _ (by omega), intRow_get vals j (by rw [← Hv.out]; exact hj)])
  have g6 : w4.heap[w.heap.size]? = some (.cells #[.pointer none, .pointer none, .pointer none, .pointer none] 33 (0, 0)) := by
    rw [hb4.block _ (by omega), Hb3.out.block _ (by omega), Hb2.out.block _ (by omega), Hb1.out.block _ (by omega)]; exact GW.out
  have G6 := Lib.hid g6
  have Hbn := Lib.hid hbn
  have Hb4 := Lib.hid hb4
  have HKlt := Lib.hid hKlt
  have S4 := Lib.hid s4
  clear hb4 hp4 hKlt hg4 hbn g6 s1 s2 s3 s4 sw
  refine Hbn.out.mono ?_
  rintro e w5 ⟨x, h, next, head, hE⟩
  obtain rfl := hE.end_
  have g7 : w5.heap[w.heap.size]? = some (.cells #[.pointer none, .pointer none, .pointer none, .pointer none] 33 (0, 0)) := by
    rw [hE.keep.block _ (by have := S1.out; have := S2.out; have := S3.out; have := S4.out; have := HsW.out; omega) (fun hk => by have := HK1.out _ hk; have := HsW.out; omega)]; exact G6.out
  have a0 : w5.cell? ⟨w.heap.size, 0, none⟩ = some (.pointer none) := by simp [World.cell?, g7]
  have a1 : w5.cell? ⟨w.heap.size, 1, none⟩ = some (.pointer none) := by simp [World.cell?, g7]
  have a2 : w5.cell? ⟨w.heap.size, 2, none⟩ = some (.pointer none) := by simp [World.cell?, g7]
  have a3 : w5.cell? ⟨w.heap.size, 3, none⟩ = some (.pointer none) := by simp [World.cell?, g7]
  have af : ∀ j, w5.frozen? ⟨w.heap.size, j, none⟩ = false := fun j => by simp [World.frozen?, g7]
  have gF := heap_setCell_same _ _ 3 _ _ (.pointer (some ⟨cb, 0, none⟩)) (heap_setCell_same _ _ 2 _ _ (.pointer (some ⟨eb, 0, none⟩)) (heap_setCell_same _ _ 1 _ _ (.pointer (some ⟨K.p, 0, none⟩)) (heap_setCell_same _ _ 0 _ _ (.pointer (some ⟨x, 0, none⟩)) g7)))
  have GF := Lib.hid gF
  have HE := Lib.hid hE
  clear g7 gF hE Hbn
  go_wp2_with fail
  refine bodyPost_ret (results_row_tmp (P := Tryz.prog) (ty := 33) rfl _ _ w.heap.size 33 #[.pointer (some ⟨x, 0, none⟩), .pointer (some ⟨K.p, 0, none⟩), .pointer (some ⟨eb, 0, none⟩), .pointer (some ⟨cb, 0, none⟩)] (0, 0) _ _ rfl rfl GF.out Tryz.underlying33 rfl (by kernel_rfl)) rfl ?_
  obtain ⟨w6, hw6⟩ : ∃ w6, w6 = (((w5.setCell ⟨w.heap.size, 0, none⟩ (.pointer (some ⟨x, 0, none⟩))).setCell ⟨w.heap.size, 1, none⟩ (.pointer (some ⟨K.p, 0, none⟩))).setCell ⟨w.heap.size, 2, none⟩ (.pointer (some ⟨eb, 0, none⟩))).setCell ⟨w.heap.size, 3, none⟩ (.pointer (some ⟨cb, 0, none⟩)) := ⟨_, rfl⟩
  rw [← hw6]
  have hblk : ∀ k, k ≠ w.heap.size → w6.heap[k]? = w5.heap[k]? := fun k hk => by
    rw [hw6, Below.heap_setCell _ _ _ _ hk, Below.heap_setCell _ _ _ _ hk, Below.heap_setCell _ _ _ _ hk, Below.heap_setCell _ _ _ _ hk]
  have hsz6 : w6.heap.size = w5.heap.size := by rw [hw6]; simp [World.setCell]
  have s1 := S1.out
  have s2 := S2.out
  have s3 := S3.out
  have s4 := S4.out
  have sw := HsW.out
  have s5 := HE.out.keep.size
  have lo := HE.out.lo
  have kl := HKlt.out
  have k1 := HK1.out
  have cl := Hc2.out.lt
  have el := He3.out.lt
  have c1 := Hl1.out
  have c2 := Hl2.out
  have e3 := Hl3.out
  have hb5 : ∀ k, ¬ K.has k → k < w4.heap.size → k ≠ w.heap.size → w6.heap[k]? = w4.heap[k]? := fun k h1 h2 h3 => (hblk k h3).trans (HE.out.keep.block k h2 h1)
  have nK : ∀ k, w1.heap.size ≤ k → ¬ K.has k := fun k h1 h2 => by have := kl k h2; omega
  have hbel : Below w.heap.size w w6 := by
    have b1 := HbW.out
    have b2 : Below w.heap.size w w4 := b1.trans ((Hb1.out.trans ((Hb2.out.trans ((Hb3.out.trans (Hb4.out.mono (by omega))).mono (by omega))).mono (by omega))).mono (by omega))
    have b3 : Keep (fun _ => False) w.heap.size w w5 := (Keep.of_below b2).trans ((HE.out.keep.mono (by omega)).weaken fun k hk h2 => by have := k1 k h2; omega)
    rw [hw6]
    exact ((((b3.setCell (p := ⟨w.heap.size, 0, none⟩) (.inr (Nat.le_refl _)) _).setCell (p := ⟨w.heap.size, 1, none⟩) (.inr (Nat.le_refl _)) _).setCell (p := ⟨w.heap.size, 2, none⟩) (.inr (Nat.le_refl _)) _).setCell (p := ⟨w.heap.size, 3, none⟩) (.inr (Nat.le_refl _)) _).below
  refine ⟨_, _, _, ?_, fresh_of K n N x h eb cb cc L vals next head w w6 Hv.out HN.out Hn.out.1 (fun k hk => by have := k1 k hk; omega) (HE.out.bond.of_blocks fun k hk => hblk k ?_) (HE.out.pool.of_blocks fun k hk => hblk k (by have := k1 k hk; omega)) HE.out.ok ((He3.out.of_block (Hb4.out.block _ el)).of_block (hb5 eb (nK eb (by omega)) (by omega) (by omega))) ?_ hbel (fun k hk => ?_) ?_ ?_⟩
  · rfl
  · rcases hk with e | e | ⟨j, hj, _⟩
    · have e' : k = x := e; omega
    · have e' : k = h := e; omega
    · exact absurd hj (Nat.not_lt_zero j)
  · refine ((Hc2.out.of_blocks (Hb3.out.block _ cl.1) (Hb3.out.block _ cl.2)).of_blocks (Hb4.out.block _ (by omega)) (Hb4.out.block _ (by omega))).of_blocks (hb5 cb (nK cb (by omega)) (by omega) (by omega)) (hb5 cc (nK cc (by omega)) (by omega) (by omega))
  · have := kl k hk; omega
  · have := Hc2.out.ne; omega
  · omega
end Go.Proofs.YtadelkancmbanaaGreat
