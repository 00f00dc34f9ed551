/-
  An epoch: a handle retired; what has waited long enough found.
-/
import Derived.Test.YtadelkancmbanaaGreatBEpoch
namespace Go.Proofs.YtadelkancmbanaaGreat
open Go.RowKit
attribute [local go_sem ↓] Go.wp_at_zero Go.wp_at_succ

theorem infoW : (Tryz.prog.info? 160).map (fun i => (i.zero, i.size, i.bytes)) = some (some (.agg #[.int .i64 0, .int .i64 0]), 2, 16) := by kernel_rfl

/-- What waits, in a row of its own. -/
def WRow (B : Nat) (v : Value) (ws : List (Int × Int)) (w : World) : Prop := w.ownsRow B 160 2 v ws.length (wCells ws)

structure RetireEnd (B b p : Nat) (now at0 deep : Int) (v : Value) (ws : List (Int × Int)) (w : World) (w' : World) (v' : Value) : Prop where
  mem : EpochMem b p now at0 deep v' w'
  row : WRow B v' ws w'
  own : v'.ownBlock = v.ownBlock ∨ v'.ownBlock = some (w.heap.size + 1)
  ne : v'.ownBlock ≠ some b
  keep : Keep (fun k => k = b ∨ v.ownBlock = some k) w.heap.size w w'

theorem new_block (w : World) (o : Obj) (B : Nat) (hB : B = w.heap.size) : (w.alloc o).drew.heap[B]? = some o := by
  subst hB; exact heap_alloc_new w o

set_option maxRecDepth 100000 in
set_option maxHeartbeats 1600000 in
theorem retire_any (B b p : Nat) (now at0 deep h : Int) (v : Value) (ws : List (Int × Int)) (w : World) (hm : EpochMem b p now at0 deep v w) (hr : WRow B v ws w) (hB : B ≤ w.heap.size) (hne : v.ownBlock ≠ some b) (hl : ws.length ≤ 100000) :
    Calls Tryz.prog 65 #[.pointer (some ⟨b, 0, none⟩), .pointer none, .int .i64 h] w fun e w' => e = .returned (.int .i64 0) ∧ ∃ v', RetireEnd B b p now at0 deep v (ws ++ [(h, now)]) w w' v' := by
  obtain ⟨ie, hie, ze0, ze1, ze2⟩ := info_parts infoW
  have hmine := mine_any b p now at0 deep v w hm
  have c2 := hm.nw.cell
  have hlt := hm.lt
  have hld := flipped (i64load b 2 now w.drew c2)
  have Hmine := Lib.hid hmine
  have Hld := Lib.hid hld
  have Hm := Lib.hid hm
  have Hr := Lib.hid hr
  have Hne := Lib.hid hne
  clear hm hmine hr hld hne
  go_enter Tryz.func65, Tryz.ntmps65
  go_wp2_with (first | (go_at_call 66; ((with_reducible refine (Hmine.out).mono ?_); rintro e w' ⟨rfl, rfl⟩)) | (go_at_call 22; ((with_reducible refine (step_nil _).mono ?_); rintro e w' ⟨rfl, rfl⟩)))
  have c12 := Hm.out.ls.cell
  refine Reg.start (fun w' => w'.cell? ⟨b, 12, none⟩ = some v ∧ w'.cell? ⟨b, 2, none⟩ = some (.int .i64 now)) [12, 15] (by kernel_rfl) ?_ (fun hHeld => ?_)
  · first | exact True.intro | ((try dsimp only); first | exact ⟨c12, c2⟩ | exact ⟨(old_cell _ _ _ hlt).trans c12, (old_cell _ _ _ hlt).trans c2⟩)
  refine Reg.takeP (i := 0) (v := ?v65x5_0) rfl (by kernel_rfl) (by kernel_rfl) (by kernel_rfl) (by kernel_rfl) (fun _ _ _ h => h) (Or.inl ⟨by rfl, ?h65x5_0⟩) (fun _ => hHeld) ?r65x5_0
  case h65x5_0 => (intro wS hSw; (try dsimp only at hSw); go_simp; all_goals with_reducible rfl)
  try simp only [Act.put, List.setIfInBounds_toArray, List.set_cons_zero, List.set_cons_succ]
  refine Reg.takeP (i := 1) (v := ?v65x5_1) rfl (by kernel_rfl) (by kernel_rfl) (by kernel_rfl) (by kernel_rfl) (fun _ _ _ h => h) (Or.inl ⟨by rfl, ?h65x5_1⟩) (fun _ => hHeld) ?r65x5_1
  case h65x5_1 => (intro wS hSw; (try dsimp only at hSw); go_simp; all_goals with_reducible rfl)
  try simp only [Act.put, List.setIfInBounds_toArray, List.set_cons_zero, List.set_cons_succ]
  refine Reg.takeP (i := 2) (v := ?v65x5_2) rfl (by kernel_rfl) (by kernel_rfl) (by kernel_rfl) (by kernel_rfl) (fun _ _ _ h => h) (Or.inl ⟨by rfl, ?h65x5_2⟩) (fun _ => hHeld) ?r65x5_2
  case h65x5_2 => (intro wS hSw; (try dsimp only at hSw); go_simp; all_goals with_reducible rfl)
  try simp only [Act.put, List.setIfInBounds_toArray, List.set_cons_zero, List.set_cons_succ]
  refine Reg.takeP (i := 3) (v := ?v65x5_3) rfl (by kernel_rfl) (by kernel_rfl) (by kernel_rfl) (by kernel_rfl) (fun _ _ _ h => h) (Or.inl ⟨by rfl, ?h65x5_3⟩) (fun _ => hHeld) ?r65x5_3
  case h65x5_3 => (intro wS hSw; (try dsimp only at hSw); go_simp; all_goals with_reducible rfl)
  try simp only [Act.put, List.setIfInBounds_toArray, List.set_cons_zero, List.set_cons_succ]
  refine Reg.take (i := 4) (v := ?v65x5_4) rfl (by kernel_rfl) (by kernel_rfl) (by kernel_rfl) (by kernel_rfl) (fun _ _ _ h => h) (Or.inl ⟨by rfl, ?h65x5_4⟩) hHeld ?r65x5_4
  case h65x5_4 => (intro wS hSw; (try dsimp only at hSw); go_simp; all_goals with_reducible rfl)
  try simp only [Act.put, List.setIfInBounds_toArray, List.set_cons_zero, List.set_cons_succ]
  refine Reg.takeP (i := 5) (v := ?v65x5_5) rfl (by kernel_rfl) (by kernel_rfl) (by kernel_rfl) (by kernel_rfl) (fun _ _ _ h => h) (Or.inl ⟨by rfl, ?h65x5_5⟩) (fun _ => hHeld) ?r65x5_5
  case h65x5_5 => (intro wS hSw; (try dsimp only at hSw); go_simp; all_goals with_reducible rfl)
  try simp only [Act.put, List.setIfInBounds_toArray, List.set_cons_zero, List.set_cons_succ]
  refine Reg.takeP (i := 6) (v := ?v65x5_6) rfl (by kernel_rfl) (by kernel_rfl) (by kernel_rfl) (by kernel_rfl) (fun _ _ _ h => h) (Or.inl ⟨by rfl, ?h65x5_6⟩) (fun _ => hHeld) ?r65x5_6
  case h65x5_6 => (intro wS hSw; (try dsimp only at hSw); go_simp; all_goals with_reducible rfl)
  try simp only [Act.put, List.setIfInBounds_toArray, List.set_cons_zero, List.set_cons_succ]
  refine Reg.takeP (i := 7) (v := ?v65x5_7) rfl (by kernel_rfl) (by kernel_rfl) (by kernel_rfl) (by kernel_rfl) (fun _ _ _ h => h) (Or.inl ⟨by rfl, ?h65x5_7⟩) (fun _ => hHeld) ?r65x5_7
  case h65x5_7 => (intro wS hSw; (try dsimp only at hSw); go_simp; all_goals with_reducible rfl)
  try simp only [Act.put, List.setIfInBounds_toArray, List.set_cons_zero, List.set_cons_succ]
  refine Reg.takeP (i := 8) (v := ?v65x5_8) rfl (by kernel_rfl) (by kernel_rfl) (by kernel_rfl) (by kernel_rfl) (fun _ _ _ h => h) (Or.inl ⟨by rfl, ?h65x5_8⟩) (fun _ => hHeld) ?r65x5_8
  case h65x5_8 => (intro wS hSw; (try dsimp only at hSw); go_simp; all_goals with_reducible rfl)
  try simp only [Act.put, List.setIfInBounds_toArray, List.set_cons_zero, List.set_cons_succ]
  refine Reg.one (i := 9) rfl (by kernel_rfl) (fun K hK => ?_)
  (go_simp; refine (i64load b 2 now w.drew c2).mono ?_; rintro e w' ⟨rfl, rfl⟩; dsimp only)
  refine hK.out _ _ (fun _ => ?_) (fun hHeld => ?_)
  · first | exact True.intro | ((try dsimp only); first | exact ⟨c12, c2⟩ | exact ⟨(old_cell _ _ _ hlt).trans c12, (old_cell _ _ _ hlt).trans c2⟩)
  replace hHeld := hHeld (by decide)
  clear hK K
  try simp only [Act.put, List.setIfInBounds_toArray, List.set_cons_zero, List.set_cons_succ]
  refine Reg.takeP (i := 10) (v := ?v65x5_10) rfl (by kernel_rfl) (by kernel_rfl) (by kernel_rfl) (by kernel_rfl) (fun _ _ _ h => h) (Or.inl ⟨by rfl, ?h65x5_10⟩) (fun _ => hHeld) ?r65x5_10
  case h65x5_10 => (intro wS hSw; (try dsimp only at hSw); go_simp; all_goals with_reducible rfl)
  try simp only [Act.put, List.setIfInBounds_toArray, List.set_cons_zero, List.set_cons_succ]
  refine Reg.one (i := 11) rfl (by kernel_rfl) (fun K hK => ?_)
  go_simp
  refine hK.out _ _ (fun _ => ?_) (fun hHeld => ?_)
  · first | exact True.intro | ((try dsimp only); first | exact ⟨c12, c2⟩ | exact ⟨(old_cell _ _ _ hlt).trans c12, (old_cell _ _ _ hlt).trans c2⟩)
  replace hHeld := hHeld (by decide)
  clear hK K
  try simp only [Act.put, List.setIfInBounds_toArray, List.set_cons_zero, List.set_cons_succ]
  refine Reg.one (i := 12) rfl (by kernel_rfl) (fun K hK => ?_)
  (refine step_append_lies _ rfl (.tmp 19) (.tmp 26) 130 rfl B 160 ie _ 2 16 Tryz.underlying130 hie ze0 ze1 ze2 rfl (by decide) v ws.length (wCells ws) rfl (Hr.out.alloc _).drew ⟨w.heap.size, 0, none⟩ 1 1 [.int .i64 h, .int .i64 now] rfl rfl (World.news_of_block (cs := #[.int .i64 h, .int .i64 now]) (t := 160) (fr := (0, 0)) (new_block w _ _ rfl)) (by simp [Value.oneCell']) (by decide) (by unfold maxLen; omega) (by omega) (by simp; omega) (w.heap.size + 1) (by simp) ?_; intro g cap w1 hown hgrow hat hltg; have hm1 : EpochMem b p now at0 deep v w1 := (Hm.out.of_block (w' := (w.alloc (.cells #[.int .i64 h, .int .i64 now] 160)).drew) (Below.heap_alloc _ _ _ hlt)).of_block (hgrow.block b (by simp; omega) (fun e => Hne.out e.symm)); have hc1 := hm1.ls.cell; have hf1 := hm1.ls.frz; have Hm1 := Lib.hid hm1; clear hm1)
  refine hK.out _ _ (fun hF => absurd hF (by decide)) (fun _ => ?_)
  clear hK K
  try simp only [Act.put, List.setIfInBounds_toArray, List.set_cons_zero, List.set_cons_succ]
  refine Reg.takeP (i := 13) (v := ?v65x5_13) rfl (by kernel_rfl) (by kernel_rfl) (by kernel_rfl) (by kernel_rfl) (fun _ _ _ h => h) (Or.inl ⟨by rfl, ?h65x5_13⟩) (fun hF => absurd hF (by decide)) ?r65x5_13
  case h65x5_13 => (intro wS hSw; (try dsimp only at hSw); go_simp; all_goals with_reducible rfl)
  try simp only [Act.put, List.setIfInBounds_toArray, List.set_cons_zero, List.set_cons_succ]
  refine Reg.takeP (i := 14) (v := ?v65x5_14) rfl (by kernel_rfl) (by kernel_rfl) (by kernel_rfl) (by kernel_rfl) (fun _ _ _ h => h) (Or.inl ⟨by rfl, ?h65x5_14⟩) (fun hF => absurd hF (by decide)) ?r65x5_14
  case h65x5_14 => (intro wS hSw; (try dsimp only at hSw); go_simp; all_goals with_reducible rfl)
  try simp only [Act.put, List.setIfInBounds_toArray, List.set_cons_zero, List.set_cons_succ]
  refine Reg.one (i := 15) rfl (by kernel_rfl) (fun K hK => ?_)
  go_simp
  refine hK.out _ _ (fun hF => absurd hF (by decide)) (fun _ => ?_)
  clear hK K
  try simp only [Act.put, List.setIfInBounds_toArray, List.set_cons_zero, List.set_cons_succ]
  refine Reg.done (by kernel_rfl) ?_ _
  go_wp2
  go_ret
  have hgb : g ≠ b := by
    intro e
    rcases hat with e2 | e2
    · exact Hne.out (by rw [e2, e])
    · omega
  refine ⟨rfl, _, Hm1.out.setList, ?_, ?_, ?_, ?_⟩
  · unfold WRow
    rw [List.length_append, wCells_append]
    exact ownsRow_setCell_other (a := ⟨b, 12, none⟩) hown (by show some g ≠ some b; intro e; injection e with e; exact hgb e) _
  · rcases hat with e | e
    · exact .inl e.symm
    · exact .inr (by show some g = _; rw [e])
  · show some g ≠ some b
    intro e; injection e with e; exact hgb e
  · have k1 : Keep (fun k => k = b ∨ v.ownBlock = some k) w.heap.size w ((w.alloc (.cells #[.int .i64 h, .int .i64 now] 160)).drew) := ((Keep.refl _ _ _).alloc (Nat.le_refl _) _).drew
    refine (k1.trans ⟨hgrow.os, hgrow.tape, hgrow.output, hgrow.size, fun k hk hs => hgrow.block k (by simp; omega) (fun e => hs (.inr e.symm))⟩).setCell (.inl (.inl rfl)) _

theorem wCells_get (ws : List (Int × Int)) : ∀ k, k < ws.length → (wCells ws)[k * 2]? = some (.int .i64 (ws[k]!).1) ∧ (wCells ws)[k * 2 + 1]? = some (.int .i64 (ws[k]!).2) := by
  induction ws with
  | nil => intro k hk; simp at hk
  | cons e r ih =>
    intro k hk
    cases k with
    | zero => simp [wCells]
    | succ k =>
      have := ih k (by simpa using hk)
      rw [show (k + 1) * 2 = k * 2 + 2 by omega]
      simpa [wCells] using this

theorem WRow.form {B : Nat} {v : Value} {ws : List (Int × Int)} {w : World} (h : WRow B v ws w) : (v = .slice none 0 0 ∧ ws = []) ∨ ∃ g cap, v = .slice (some ⟨g, 0, none⟩) ws.length cap ∧ B ≤ g ∧ g < w.heap.size := by
  have h' := h
  rcases h.2 with ⟨e1, e2⟩ | ⟨g, cap, cur, e1, hb, hg, _⟩
  · exact .inl ⟨e1, List.eq_nil_of_length_eq_zero e2⟩
  · exact .inr ⟨g, cap, e1, hb, by have := (Array.getElem?_eq_some_iff.1 hg).1; exact this⟩
theorem WRow.cells {B g cap : Nat} {ws : List (Int × Int)} {w : World} (h : WRow B (.slice (some ⟨g, 0, none⟩) ws.length cap) ws w) (k : Nat) (hk : k < ws.length) :
    w.cell? ⟨g, k * 2, none⟩ = some (.int .i64 (ws[k]!).1) ∧ w.cell? ⟨g, k * 2 + 1, none⟩ = some (.int .i64 (ws[k]!).2) := by
  unfold WRow at h
  obtain ⟨a, b⟩ := wCells_get ws k hk
  rw [h.cellAt _ (by omega), h.cellAt _ (by omega)]
  exact ⟨a, b⟩

theorem callCollect1 (cap : Array Value) : ∀ w, (callFunc 70 cap).run Tryz.prog w = .ok (.enter 70 cap) w := fun w => by kernel_rfl

set_option maxRecDepth 100000 in
theorem collect1_any (q : Nat) (h e now : Int) (w : World) (hq : w.cell? ⟨q, 0, none⟩ = some (.int .i64 now)) (he : 0 ≤ e ∧ e ≤ 1000000) : Calls Tryz.prog 70 #[.agg #[.int .i64 h, .int .i64 e], .pointer (some ⟨q, 0, none⟩)] w fun e' w' => e' = .returned (.bool (decide (e + 2 ≤ now))) ∧ Below w.heap.size w w' := by
  have hq2 : ∀ o, (w.alloc o).cell? ⟨q, 0, none⟩ = some (.int .i64 now) := fun o => (old_cell _ _ _ (World.block_lt_of_cell? w _ hq)).trans hq
  obtain ⟨e0, e1⟩ := he
  go_enter Tryz.func70, Tryz.ntmps70
  go_wp2
  go_ret
  exact ⟨rfl, (Below.refl _ _).alloc (Nat.le_refl _) _⟩

/-- The first that has waited long enough. -/
def IndexEnd (ws : List (Int × Int)) (now : Int) (w : World) (e : Ending) (w' : World) : Prop :=
  Below w.heap.size w w' ∧ ((∃ i : Nat, e = .returned (.int .i64 i) ∧ i < ws.length ∧ (ws[i]!).2 + 2 ≤ now) ∨ e = .returned (.int .i64 (-1)))

set_option maxRecDepth 100000 in
set_option maxHeartbeats 1600000 in
theorem windex_any (B q : Nat) (now : Int) (v : Value) (ws : List (Int × Int)) (w : World) (hr : WRow B v ws w) (hq : w.cell? ⟨q, 0, none⟩ = some (.int .i64 now)) (hws : ∀ k, k < ws.length → 0 ≤ (ws[k]!).2 ∧ (ws[k]!).2 ≤ 1000000) (hl : ws.length ≤ 100000) :
    Calls Tryz.prog 69 #[v, .func (.func 70) #[] #[.pointer (some ⟨q, 0, none⟩)]] w (IndexEnd ws now w) := by
  have hql := World.block_lt_of_cell? w _ hq
  dsimp only at hql
  have hcall := callCollect1
  rcases hr.form with ⟨rfl, rfl⟩ | ⟨g, cap, rfl, hg0, hg⟩
  · clear hr hws
    go_enter Tryz.func69, Tryz.ntmps69
    go_wp2
    refine wp_loop_rounds 1 ?_
    rw [rounds_succ]
    go_wp2
    go_ret
    exact ⟨Below.refl _ _, .inr rfl⟩
  · have Hr := Lib.hid hr
    have Hws := Lib.hid hws
    clear hr hws
    go_enter Tryz.func69, Tryz.ntmps69
    go_wp2
    go_loopw [8] (fun iv wr => ∃ i : Nat, iv = .int .i64 (i : Int) ∧ i ≤ ws.length ∧ Below w.heap.size w wr) (fun i _ => ws.length - (intOf i).toNat)
    case atStart => exact ⟨0, rfl, Nat.zero_le _, Below.refl _ _⟩
    case round =>
      obtain ⟨i, rfl, hi, hb⟩ := hrel
      have Hb := Lib.hid hb
      have hbs := hb.size
      by_cases hil : i < ws.length
      · obtain ⟨c0, c1⟩ := Hr.out.cells i hil
        have c0 := (hb.cell (p := ⟨g, i * 2, none⟩) hg).trans c0
        have c1 := (hb.cell (p := ⟨g, i * 2 + 1, none⟩) hg).trans c1
        have cq := (hb.cell (p := ⟨q, 0, none⟩) hql).trans hq
        have hwi := Hws.out i hil
        have Hi : Hid ((ws[i]!).2 = (ws[i]!).2) := Lib.hid rfl
        obtain ⟨x, hx⟩ : ∃ x, x = (ws[i]!).1 := ⟨_, rfl⟩
        obtain ⟨y, hy⟩ : ∃ y, y = (ws[i]!).2 := ⟨_, rfl⟩
        rw [← hx] at c0
        rw [← hy] at c1 hwi
        have Hy := Lib.hid hy
        have hc := collect1_any q x y now wr cq hwi
        have Hc := Lib.hid hc
        have b0 : (0 : Int) ≤ (i : Int) := by omega
        have b1 : (i : Int) < (ws.length : Int) := by omega
        clear hc hx hy hb hwi Hi
        by_cases hyn : y + 2 ≤ now
        · have hd : decide (y + 2 ≤ now) = true := decide_eq_true hyn
          go_wp2_with fail
          refine Hc.out.mono ?_
          rintro e w2 ⟨rfl, hb2⟩
          have Hb2 := Lib.hid hb2
          clear hb2
          go_wp2
          go_ret
          exact ⟨Hb.out.trans (Hb2.out.mono hbs), .inl ⟨i, rfl, hil, by rw [← Hy.out]; exact hyn⟩⟩
        · have hd : decide (y + 2 ≤ now) = false := decide_eq_false hyn
          go_wp2_with fail
          refine Hc.out.mono ?_
          rintro e w2 ⟨rfl, hb2⟩
          have Hb2 := Lib.hid hb2
          clear hb2
          go_wp2
          go_roundw
          case rel => exact ⟨i + 1, by go_num, by omega, Hb.out.trans (Hb2.out.mono hbs)⟩
          case measure => simp [intOf]; omega
      · obtain rfl : i = ws.length := by omega
        clear hb
        go_wp2
        go_ret
        exact ⟨Hb.out, .inr rfl⟩
end Go.Proofs.YtadelkancmbanaaGreat
