/-
  pool.Pool: all slots told.
-/
import Derived.Test.YtadelkancmbanaaGreatBBNew
namespace Go.Proofs.YtadelkancmbanaaGreat
open Go.RowKit
attribute [local go_sem ↓] Go.wp_at_zero Go.wp_at_succ

theorem infoASlot : (Tryz.prog.info? 121).map (fun i => (i.zero, i.size, i.bytes)) = some (some (.agg #[.int .i64 0, .int .i64 0, .int .i64 0, .int .i64 0, .int .i64 0, .int .i64 0, .int .i64 0]), 7, 56) := by kernel_rfl

def slotVals (s : Slot) : List Value := [.int .i64 s.gen, .int .i64 s.a, .int .i64 s.b, .int .i64 s.c, .int .i64 s.d, .int .i64 s.mark, .int .i64 s.link]
def slotRow (tbl : Nat → Slot) (k : Nat) : List Value := (List.range k).flatMap fun j => slotVals (tbl (j + 1))
theorem slotRow_succ (tbl : Nat → Slot) (k : Nat) : slotRow tbl (k + 1) = slotRow tbl k ++ slotVals (tbl (k + 1)) := by simp [slotRow, List.range_succ]
theorem slotRow_length (tbl : Nat → Slot) : ∀ k, (slotRow tbl k).length = 7 * k
  | 0 => rfl
  | k + 1 => by rw [slotRow_succ, List.length_append, slotRow_length tbl k]; simp [slotVals]; omega
theorem slotRow_get (tbl : Nat → Slot) (j o : Nat) (ho : o < 7) : ∀ k, j < k → (slotRow tbl k)[j * 7 + o]? = (slotVals (tbl (j + 1)))[o]?
  | 0, h => absurd h (by omega)
  | k + 1, h => by
    have hl := slotRow_length tbl k
    rw [slotRow_succ]
    by_cases e : j < k
    · rw [List.getElem?_append_left (by omega)]
      exact slotRow_get tbl j o ho k e
    · obtain rfl : j = k := by omega
      rw [List.getElem?_append_right (by omega), hl]
      have e1 : j * 7 + o - 7 * j = o := by omega
      rw [e1]

def SlotsEnd (n : Nat) (tbl : Nat → Slot) (w : World) (e : Ending) (w' : World) : Prop :=
  ∃ v, e = .returned v ∧ w'.ownsRow w.heap.size 121 7 v n (slotRow tbl n) ∧ Below w.heap.size w w'

set_option maxRecDepth 100000 in
set_option maxHeartbeats 6400000 in
theorem pslots_any (KB : PB) (n : Nat) (tbl : Nat → Slot) (next : Nat → Nat) (head : Int) (w : World) (h : PoolMem KB n tbl next head w) :
    Calls Tryz.prog 48 #[.pointer (some ⟨KB.p, 0, none⟩)] w (SlotsEnd n tbl w) := by
  have few := h.few
  have H := Lib.hid h
  clear h
  go_enter Tryz.func48, Tryz.ntmps48
  go_wp2_with fail
  go_loopw [4, 3] (fun i vv wr => ∃ m : Nat, (1 ≤ m ∧ m ≤ n + 1) ∧ i = .int .i64 m ∧ Below w.heap.size w wr ∧ wr.ownsRow w.heap.size 121 7 vv (m - 1) (slotRow tbl (m - 1))) (fun i _ _ => n + 1 - (intOf i).toNat)
  case atStart => exact ⟨1, by omega, rfl, Below.refl _ _, World.ownsRow_nil _ _ _ _⟩
  case round =>
    obtain ⟨m, hm, rfl, hbT, hO⟩ := hrel
    have hp := H.out.below hbT
    have c0 := hp.pl.cell
    have hs0 := (hp.slot m · )
    by_cases hlt : m < n + 1
    · have hmn : m ≤ n := by omega
      have d0 := (hp.slot m hmn 0 (by omega)).cell
      have d1 := (hp.slot m hmn 1 (by omega)).cell
      have d2 := (hp.slot m hmn 2 (by omega)).cell
      have hho := holds_any KB n m tbl next head wr.drew hp.drew hmn
      rw [Nat.add_zero] at d0
      obtain ⟨s, hs⟩ : ∃ s, tbl m = s := ⟨_, rfl⟩
      have e0 : ((tbl m).cells 0) = s.gen := by rw [hs]; rfl
      have e1 : ((tbl m).cells 1) = s.mark := by rw [hs]; rfl
      have e2 : ((tbl m).cells 2) = s.link := by rw [hs]; rfl
      rw [e0] at d0
      rw [e1] at d1
      rw [e2] at d2
      rw [hs] at hho
      unfold nodeVal at hho
      obtain ⟨sg, hsg⟩ : ∃ x, s.gen = x := ⟨_, rfl⟩
      obtain ⟨sm, hsm⟩ : ∃ x, s.mark = x := ⟨_, rfl⟩
      obtain ⟨sl, hsl⟩ : ∃ x, s.link = x := ⟨_, rfl⟩
      obtain ⟨sa, hsa⟩ : ∃ x, s.a = x := ⟨_, rfl⟩
      obtain ⟨sb, hsb⟩ : ∃ x, s.b = x := ⟨_, rfl⟩
      obtain ⟨sc, hsc⟩ : ∃ x, s.c = x := ⟨_, rfl⟩
      obtain ⟨sd, hsd⟩ : ∃ x, s.d = x := ⟨_, rfl⟩
      have hvals : slotVals (tbl (m - 1 + 1)) = [.int .i64 sg, .int .i64 sa, .int .i64 sb, .int .i64 sc, .int .i64 sd, .int .i64 sm, .int .i64 sl] := by
        rw [show m - 1 + 1 = m by omega, hs, ← hsg, ← hsm, ← hsl, ← hsa, ← hsb, ← hsc, ← hsd]; rfl
      rw [hsg] at d0
      rw [hsm] at d1
      rw [hsl] at d2
      rw [hsa, hsb, hsc, hsd] at hho
      have HP := Lib.hid hp
      have Hho := Lib.hid hho
      have HbT := Lib.hid hbT
      have HO := Lib.hid hO
      have Hvals := Lib.hid hvals
      have Q0 : Hid (wr.drew.cell? ⟨KB.l, m * 7, none⟩ = some (.int .i64 sg)) := Lib.hid d0
      have Q1 : Hid (wr.drew.cell? ⟨KB.l, m * 7 + 1, none⟩ = some (.int .i64 sm)) := Lib.hid d1
      have Q2 : Hid (wr.drew.cell? ⟨KB.l, m * 7 + 2, none⟩ = some (.int .i64 sl)) := Lib.hid d2
      have Hll : Hid (KB.l < wr.drew.heap.size) := Lib.hid (World.block_lt_of_cell? _ _ d0)
      clear hs0 hp hho hbT hO hvals d0 d1 d2 e0 e1 e2 hs hsg hsm hsl hsa hsb hsc hsd
      go_wp2_with fail
      obtain ⟨ii, hii, zi0, zi1, zi2⟩ := info_parts infoASlot
      refine Reg.start (fun _ => True) [] (by kernel_rfl) ?_ (fun hHeld => ?_)
      · first | exact True.intro | ((try dsimp only); trivial)
      refine Reg.takeP (i := 0) (v := ?v48x6_0) rfl (by kernel_rfl) (by kernel_rfl) (by kernel_rfl) (by kernel_rfl) (fun _ _ _ h => h) (Or.inl ⟨by rfl, ?h48x6_0⟩) (fun _ => hHeld) ?r48x6_0
      case h48x6_0 => (intro wS hSw; (try dsimp only at hSw); go_simp; all_goals with_reducible rfl)
      try simp only [Act.put, List.setIfInBounds_toArray, List.set_cons_zero, List.set_cons_succ]
      refine Reg.takeP (i := 1) (v := ?v48x6_1) rfl (by kernel_rfl) (by kernel_rfl) (by kernel_rfl) (by kernel_rfl) (fun _ _ _ h => h) (Or.inl ⟨by rfl, ?h48x6_1⟩) (fun _ => hHeld) ?r48x6_1
      case h48x6_1 => (intro wS hSw; (try dsimp only at hSw); go_simp; all_goals with_reducible rfl)
      try simp only [Act.put, List.setIfInBounds_toArray, List.set_cons_zero, List.set_cons_succ]
      refine Reg.takeP (i := 2) (v := ?v48x6_2) rfl (by kernel_rfl) (by kernel_rfl) (by kernel_rfl) (by kernel_rfl) (fun _ _ _ h => h) (Or.inl ⟨by rfl, ?h48x6_2⟩) (fun _ => hHeld) ?r48x6_2
      case h48x6_2 => (intro wS hSw; (try dsimp only at hSw); go_simp; all_goals with_reducible rfl)
      try simp only [Act.put, List.setIfInBounds_toArray, List.set_cons_zero, List.set_cons_succ]
      refine Reg.takeP (i := 3) (v := ?v48x6_3) rfl (by kernel_rfl) (by kernel_rfl) (by kernel_rfl) (by kernel_rfl) (fun _ _ _ h => h) (Or.inl ⟨by rfl, ?h48x6_3⟩) (fun _ => hHeld) ?r48x6_3
      case h48x6_3 => (intro wS hSw; (try dsimp only at hSw); go_simp; all_goals with_reducible rfl)
      try simp only [Act.put, List.setIfInBounds_toArray, List.set_cons_zero, List.set_cons_succ]
      refine Reg.takeP (i := 5) (v := ?v48x6_5) rfl (by kernel_rfl) (by kernel_rfl) (by kernel_rfl) (by kernel_rfl) (fun _ _ _ h => h) (Or.inl ⟨by rfl, ?h48x6_5⟩) (fun _ => hHeld) ?r48x6_5
      case h48x6_5 => (intro wS hSw; (try dsimp only at hSw); go_simp; all_goals with_reducible rfl)
      try simp only [Act.put, List.setIfInBounds_toArray, List.set_cons_zero, List.set_cons_succ]
      refine Reg.takeP (i := 7) (v := ?v48x6_7) rfl (by kernel_rfl) (by kernel_rfl) (by kernel_rfl) (by kernel_rfl) (fun _ _ _ h => h) (Or.inl ⟨by rfl, ?h48x6_7⟩) (fun _ => hHeld) ?r48x6_7
      case h48x6_7 => (intro wS hSw; (try dsimp only at hSw); go_simp; all_goals with_reducible rfl)
      try simp only [Act.put, List.setIfInBounds_toArray, List.set_cons_zero, List.set_cons_succ]
      refine Reg.takeP (i := 8) (v := ?v48x6_8) rfl (by kernel_rfl) (by kernel_rfl) (by kernel_rfl) (by kernel_rfl) (fun _ _ _ h => h) (Or.inl ⟨by rfl, ?h48x6_8⟩) (fun _ => hHeld) ?r48x6_8
      case h48x6_8 => (intro wS hSw; (try dsimp only at hSw); go_simp; all_goals with_reducible rfl)
      try simp only [Act.put, List.setIfInBounds_toArray, List.set_cons_zero, List.set_cons_succ]
      refine Reg.takeP (i := 9) (v := ?v48x6_9) rfl (by kernel_rfl) (by kernel_rfl) (by kernel_rfl) (by kernel_rfl) (fun _ _ _ h => h) (Or.inl ⟨by rfl, ?h48x6_9⟩) (fun _ => hHeld) ?r48x6_9
      case h48x6_9 => (intro wS hSw; (try dsimp only at hSw); go_simp; all_goals with_reducible rfl)
      try simp only [Act.put, List.setIfInBounds_toArray, List.set_cons_zero, List.set_cons_succ]
      refine Reg.takeP (i := 11) (v := ?v48x6_11) rfl (by kernel_rfl) (by kernel_rfl) (by kernel_rfl) (by kernel_rfl) (fun _ _ _ h => h) (Or.inl ⟨by rfl, ?h48x6_11⟩) (fun _ => hHeld) ?r48x6_11
      case h48x6_11 => (intro wS hSw; (try dsimp only at hSw); go_simp; all_goals with_reducible rfl)
      try simp only [Act.put, List.setIfInBounds_toArray, List.set_cons_zero, List.set_cons_succ]
      refine Reg.takeP (i := 12) (v := ?v48x6_12) rfl (by kernel_rfl) (by kernel_rfl) (by kernel_rfl) (by kernel_rfl) (fun _ _ _ h => h) (Or.inl ⟨by rfl, ?h48x6_12⟩) (fun _ => hHeld) ?r48x6_12
      case h48x6_12 => (intro wS hSw; (try dsimp only at hSw); go_simp; all_goals with_reducible rfl)
      try simp only [Act.put, List.setIfInBounds_toArray, List.set_cons_zero, List.set_cons_succ]
      refine Reg.takeP (i := 13) (v := ?v48x6_13) rfl (by kernel_rfl) (by kernel_rfl) (by kernel_rfl) (by kernel_rfl) (fun _ _ _ h => h) (Or.inl ⟨by rfl, ?h48x6_13⟩) (fun _ => hHeld) ?r48x6_13
      case h48x6_13 => (intro wS hSw; (try dsimp only at hSw); go_simp; all_goals with_reducible rfl)
      try simp only [Act.put, List.setIfInBounds_toArray, List.set_cons_zero, List.set_cons_succ]
      refine Reg.one (i := 4) rfl (by kernel_rfl) (fun K hK => ?_)
      (go_simp; refine (i64load _ _ _ _ Q0.out).mono ?_; rintro e w' ⟨rfl, rfl⟩; dsimp only)
      refine hK.out _ _ (fun _ => ?_) (fun hHeld => ?_)
      · first | exact True.intro | ((try dsimp only); trivial)
      replace hHeld := hHeld (by decide)
      clear hK K
      try simp only [Act.put, List.setIfInBounds_toArray, List.set_cons_zero, List.set_cons_succ]
      refine Reg.one (i := 6) rfl (by kernel_rfl) (fun K hK => ?_)
      (go_simp; refine Hho.out.mono ?_; rintro e w2 ⟨rfl, hb2⟩; have Hb2 : Hid (Below wr.drew.heap.size wr.drew w2) := Lib.hid hb2; have R1 : w2.cell? ⟨KB.l, m * 7 + 1, none⟩ = some (.int .i64 sm) := (hb2.cell (p := ⟨KB.l, m * 7 + 1, none⟩) Hll.out).trans Q1.out; have R2 : w2.cell? ⟨KB.l, m * 7 + 2, none⟩ = some (.int .i64 sl) := (hb2.cell (p := ⟨KB.l, m * 7 + 2, none⟩) Hll.out).trans Q2.out; clear hb2; have HbT2 : Hid (Below w.heap.size w w2) := Lib.hid (HbT.out.drew.trans (Hb2.out.mono HbT.out.drew.size)); have HO2 : Hid (w2.ownsRow w.heap.size 121 7 u3 (m - 1) (slotRow tbl (m - 1))) := Lib.hid (owns_of_block HO.out fun g hg => Hb2.out.block g (HO.out.lt g hg).2); dsimp only)
      refine hK.out _ _ (fun _ => ?_) (fun hHeld => ?_)
      · first | exact True.intro | ((try dsimp only); trivial)
      replace hHeld := hHeld (by decide)
      clear hK K
      try simp only [Act.put, List.setIfInBounds_toArray, List.set_cons_zero, List.set_cons_succ]
      refine Reg.one (i := 10) rfl (by kernel_rfl) (fun K hK => ?_)
      (go_simp; refine (i64load _ _ _ _ R1).mono ?_; rintro e w' ⟨rfl, rfl⟩; dsimp only)
      refine hK.out _ _ (fun _ => ?_) (fun hHeld => ?_)
      · first | exact True.intro | ((try dsimp only); trivial)
      replace hHeld := hHeld (by decide)
      clear hK K
      try simp only [Act.put, List.setIfInBounds_toArray, List.set_cons_zero, List.set_cons_succ]
      refine Reg.one (i := 14) rfl (by kernel_rfl) (fun K hK => ?_)
      (go_simp; refine (i64load _ _ _ _ R2).mono ?_; rintro e w' ⟨rfl, rfl⟩; dsimp only)
      refine hK.out _ _ (fun _ => ?_) (fun hHeld => ?_)
      · first | exact True.intro | ((try dsimp only); trivial)
      replace hHeld := hHeld (by decide)
      clear hK K
      try simp only [Act.put, List.setIfInBounds_toArray, List.set_cons_zero, List.set_cons_succ]
      refine Reg.takeP (i := 15) (v := ?v48x6_15) rfl (by kernel_rfl) (by kernel_rfl) (by kernel_rfl) (by kernel_rfl) (fun _ _ _ h => h) (Or.inl ⟨by rfl, ?h48x6_15⟩) (fun _ => hHeld) ?r48x6_15
      case h48x6_15 => (intro wS hSw; (try dsimp only at hSw); go_simp; all_goals with_reducible rfl)
      try simp only [Act.put, List.setIfInBounds_toArray, List.set_cons_zero, List.set_cons_succ]
      refine Reg.one (i := 16) rfl (by kernel_rfl) (fun K hK => ?_)
      go_simp
      refine hK.out _ _ (fun _ => ?_) (fun hHeld => ?_)
      · first | exact True.intro | ((try dsimp only); trivial)
      replace hHeld := hHeld (by decide)
      clear hK K
      try simp only [Act.put, List.setIfInBounds_toArray, List.set_cons_zero, List.set_cons_succ]
      refine Reg.one (i := 17) rfl (by kernel_rfl) (fun K hK => ?_)
      (refine step_append_lies _ rfl (.tmp 21) (.tmp 37) 115 rfl w.heap.size 121 ii _ 7 56 Tryz.underlying115 hii zi0 zi1 zi2 rfl (by decide) u3 (m - 1) (slotRow tbl (m - 1)) rfl (HO2.out.alloc _) ⟨w2.heap.size, 0, none⟩ 1 1 [.int .i64 sg, .int .i64 sa, .int .i64 sb, .int .i64 sc, .int .i64 sd, .int .i64 sm, .int .i64 sl] rfl rfl (World.news_of_block (cs := #[.int .i64 sg, .int .i64 sa, .int .i64 sb, .int .i64 sc, .int .i64 sd, .int .i64 sm, .int .i64 sl]) (t := 121) (fr := (0, 0)) (heap_alloc_new _ _)) (by simp [Value.oneCell']) (by decide) (by unfold maxLen; omega) (by omega) (by simp; have := HbT2.out.size; omega) _ rfl ?_; intro g5 c5 w5 hown5 hgrow5 hat5 hlt5)
      refine hK.out _ _ (fun _ => ?_) (fun hHeld => ?_)
      · first | exact True.intro | ((try dsimp only); trivial)
      replace hHeld := hHeld (by decide)
      clear hK K
      try simp only [Act.put, List.setIfInBounds_toArray, List.set_cons_zero, List.set_cons_succ]
      refine Reg.takeP (i := 18) (v := ?v48x6_18) rfl (by kernel_rfl) (by kernel_rfl) (by kernel_rfl) (by kernel_rfl) (fun _ _ _ h => h) (Or.inl ⟨by rfl, ?h48x6_18⟩) (fun _ => hHeld) ?r48x6_18
      case h48x6_18 => (intro wS hSw; (try dsimp only at hSw); go_simp; all_goals with_reducible rfl)
      try simp only [Act.put, List.setIfInBounds_toArray, List.set_cons_zero, List.set_cons_succ]
      refine Reg.done (by kernel_rfl) ?_ _
      go_wp2_with fail
      go_roundw
      case rel =>
        refine ⟨m + 1, by omega, by go_num, ?_, ?_⟩
        · exact (HbT2.out.alloc HbT2.out.size _).grown hgrow5 (by simp; have := HbT2.out.size; omega) (fun g hg => (HO2.out.lt g hg).1)
        · have e : m + 1 - 1 = m - 1 + 1 := by omega
          have e2 : m - 1 + 1 = m := by omega
          rw [e, slotRow_succ, Hvals.out]
          rw [e2] at hown5 ⊢
          exact hown5
      case measure => simp [intOf]; omega
    · have e : m - 1 = n := by omega
      rw [e] at hO
      have Hend : Hid (SlotsEnd n tbl w (.returned u3) wr) := Lib.hid ⟨u3, rfl, hO, hbT⟩
      clear hs0 hp hO hbT e
      go_wp2_with fail
      go_ret
      exact Hend.out
end Go.Proofs.YtadelkancmbanaaGreat
