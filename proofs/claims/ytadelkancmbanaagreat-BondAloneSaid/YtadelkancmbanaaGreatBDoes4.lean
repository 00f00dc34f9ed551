/-
  The law's does: one kind more.
-/
import Derived.Test.YtadelkancmbanaaGreatBDoes
namespace Go.Proofs.YtadelkancmbanaaGreat
open Go.RowKit
attribute [local go_sem ↓] Go.wp_at_zero Go.wp_at_succ

set_option maxRecDepth 100000 in
set_option maxHeartbeats 6400000 in
theorem does3_less (Z : Fix) (S : St) (C : Nat → List Ver) (F : List Nat) (W : List Wait) (G : Int) (gl capl m cp : Nat) (l : List Int) (cc : Int) (p : Option Addr) (ia ib : Nat) (w : World) (h : Inv Z S C F W G w) (hr : LRow S gl S.heads.length l w) (hv : ∀ c, c < S.heads.length → (topOf C c).v = l.getD c 0) (rm : Room Z S F G) (ha : ia < S.heads.length) (hb : ib < S.heads.length) (hab : ia ≠ ib) (hneg : cc < 0) :
    Calls Tryz.prog 9 #[mVal Z, .slice (some ⟨gl, 0, none⟩) S.heads.length capl, opVal (3 : Int) (ia : Int) (ib : Int) cc p m cp] w fun e w' => e = .returned (.bool true) ∧ StepE Z S C F G gl w w' := by
  obtain ⟨W0, hW0⟩ : ∃ W0, W0 = boxes2 Z (3 : Int) (ia : Int) (ib : Int) cc p m cp w := ⟨_, rfl⟩
  have hbox : Box2 Z (3 : Int) (ia : Int) (ib : Int) cc p m cp w.heap.size W0 := by rw [hW0]; exact boxes2_at _ _ _ _ _ _ _ _ _
  have hbl : Below w.heap.size w W0 := by rw [hW0]; exact boxes2_below _ _ _ _ _ _ _ _ _
  have hsz : W0.heap.size = w.heap.size + 2 := by rw [hW0]; exact boxes2_size _ _ _ _ _ _ _ _ _
  have hi0 := h.below hbl
  have hgl : gl < w.heap.size := (hr.cells 0 (by have := h.mem.bond.few; omega)).lt
  have few := h.mem.bond.few
  have hr0 : LRow S gl S.heads.length l W0 := hr.next few.1 (h.mem.next hbl)
  have htn : ∀ k, w.heap.size ≤ k → S.tag k = 0 := fun k hk => h.mem.tags.new k hk
  have hsame : ∀ w', Next Z S W0 S w' → StepE Z S C F G gl w w' := fun w' hn => ⟨_, _, _, _, _, _, Step.same h hr hv ((h.mem.next hbl).trans hn)⟩
  have hstay : ∀ S' w', Next Z S W0 S' w' → Box2 Z (3 : Int) (ia : Int) (ib : Int) cc p m cp w.heap.size w' := fun S' w' hn => hbox.keep (hn.keep.block _ (by omega) (by rw [htn _ (by omega)]; exact fun h => h rfl)) (hn.keep.block _ (by omega) (by rw [htn _ (by omega)]; exact fun h => h rfl))
  have cx := hbox.x
  have qa := hbox.a
  have qb := hbox.b
  have qc := hbox.c
  have hgo := bMove_less Z S (ia : Int) (ib : Int) cc W0 hi0.mem ⟨by omega, by omega⟩ ⟨by omega, by omega⟩ (by omega) hneg
  have Hg := Lib.hid hgo
  have m1 : decide (0 ≤ (ia : Int)) = true := decide_eq_true (by omega)
  have m3 : decide ((ib : Int) < 0) = false := decide_eq_false (by omega)
  have m6 : ((ia : Int) == (ib : Int)) = false := by rw [beq_eq_false_iff_ne]; omega
  have m7 : (ia == ib) = false := by rw [beq_eq_false_iff_ne]; exact hab
  have m8 : decide (cc < 0) = true := decide_eq_true hneg
  clear hgo
  have HW := Lib.hid hW0
  have Hbox := Lib.hid hbox
  have Hbl := Lib.hid hbl
  have Hsz := Lib.hid hsz
  have Hi0 := Lib.hid hi0
  have Hr := Lib.hid hr
  have Hr0 := Lib.hid hr0
  have Hgl := Lib.hid hgl
  have Hsame := Lib.hid hsame
  have Hstay := Lib.hid hstay
  have H := Lib.hid h
  have Hv := Lib.hid hv
  have Hrm := Lib.hid rm
  have Htn := Lib.hid htn
  clear hW0 hbox hbl hsz hi0 hr hr0 hgl hsame hstay h hv rm htn
  unfold boxes2 at HW
  rw [HW.out] at cx qa qb qc
  obtain ⟨N, hN⟩ : ∃ N, S.heads.length = N := ⟨_, rfl⟩
  rw [hN] at ha hb ⊢
  clear hN
  have m2 : decide ((ia : Int) < (N : Int)) = true := decide_eq_true (by omega)
  have m4 : decide ((N : Int) ≤ (ib : Int)) = false := decide_eq_false (by omega)
  have m4n : ¬ N ≤ ib := by omega
  unfold mVal opVal
  go_enter Tryz.func9, Tryz.ntmps9
  go_wp2_with fail
  rw [← HW.out]
  refine Hg.out.mono ?_
  rintro e w2 ⟨rfl, hb2⟩
  have hn2 := Hi0.out.mem.next hb2
  have p1 := (Hstay.out _ _ hn2).a
  have p2 := (Hstay.out _ _ hn2).b
  have p3 : w2.drew.cell? ⟨w.heap.size + 1, 3, none⟩ = some (.int .i64 cc) := (Hstay.out _ _ hn2).c
  have Hend := Lib.hid (Hsame.out w2.drew (Hi0.out.mem.next hb2.drew))
  clear hn2 hb2 cx qa qb qc
  go_wp2_with fail
  refine Reg.start (fun w' => w'.cell? ⟨w.heap.size + 1, 3, none⟩ = some (.int .i64 cc)) [] (by kernel_rfl) ?_ (fun hHeld => ?_)
  · first | exact True.intro | ((try dsimp only); exact p3)
  refine Reg.takeP (i := 0) (v := ?v9x14_0) rfl (by kernel_rfl) (by kernel_rfl) (by kernel_rfl) (by kernel_rfl) (fun _ _ _ h => h) (Or.inl ⟨by rfl, ?h9x14_0⟩) (fun _ => hHeld) ?r9x14_0
  case h9x14_0 => (intro wS hSw; (try dsimp only at hSw); go_simp; all_goals with_reducible rfl)
  try simp only [Act.put, List.setIfInBounds_toArray, List.set_cons_zero, List.set_cons_succ]
  refine Reg.take (i := 1) (v := ?v9x14_1) rfl (by kernel_rfl) (by kernel_rfl) (by kernel_rfl) (by kernel_rfl) (fun _ _ _ h => h) (Or.inl ⟨by rfl, ?h9x14_1⟩) hHeld ?r9x14_1
  case h9x14_1 => (intro wS hSw; (try dsimp only at hSw); go_simp; all_goals with_reducible rfl)
  try simp only [Act.put, List.setIfInBounds_toArray, List.set_cons_zero, List.set_cons_succ]
  refine Reg.takeP (i := 2) (v := ?v9x14_2) rfl (by kernel_rfl) (by kernel_rfl) (by kernel_rfl) (by kernel_rfl) (fun _ _ _ h => h) (Or.inl ⟨by rfl, ?h9x14_2⟩) (fun _ => hHeld) ?r9x14_2
  case h9x14_2 => (intro wS hSw; (try dsimp only at hSw); go_simp; all_goals with_reducible rfl)
  try simp only [Act.put, List.setIfInBounds_toArray, List.set_cons_zero, List.set_cons_succ]
  refine Reg.takeP (i := 3) (v := ?v9x14_3) rfl (by kernel_rfl) (by kernel_rfl) (by kernel_rfl) (by kernel_rfl) (fun _ _ _ h => h) (Or.inl ⟨by rfl, ?h9x14_3⟩) (fun _ => hHeld) ?r9x14_3
  case h9x14_3 => (intro wS hSw; (try dsimp only at hSw); go_simp; all_goals with_reducible rfl)
  try simp only [Act.put, List.setIfInBounds_toArray, List.set_cons_zero, List.set_cons_succ]
  refine Reg.takeP (i := 4) (v := undef) rfl (by kernel_rfl) (by kernel_rfl) (by kernel_rfl) (by kernel_rfl) (fun _ _ _ h => h) (Or.inr ⟨by rfl, rfl⟩) (fun _ => hHeld) ?r9x14_4
  try simp only [Act.put, List.setIfInBounds_toArray, List.set_cons_zero, List.set_cons_succ]
  refine Reg.takeP (i := 5) (v := undef) rfl (by kernel_rfl) (by kernel_rfl) (by kernel_rfl) (by kernel_rfl) (fun _ _ _ h => h) (Or.inr ⟨by rfl, rfl⟩) (fun _ => hHeld) ?r9x14_5
  try simp only [Act.put, List.setIfInBounds_toArray, List.set_cons_zero, List.set_cons_succ]
  refine Reg.takeP (i := 6) (v := undef) rfl (by kernel_rfl) (by kernel_rfl) (by kernel_rfl) (by kernel_rfl) (fun _ _ _ h => h) (Or.inr ⟨by rfl, rfl⟩) (fun _ => hHeld) ?r9x14_6
  try simp only [Act.put, List.setIfInBounds_toArray, List.set_cons_zero, List.set_cons_succ]
  refine Reg.takeP (i := 7) (v := undef) rfl (by kernel_rfl) (by kernel_rfl) (by kernel_rfl) (by kernel_rfl) (fun _ _ _ h => h) (Or.inr ⟨by rfl, rfl⟩) (fun _ => hHeld) ?r9x14_7
  try simp only [Act.put, List.setIfInBounds_toArray, List.set_cons_zero, List.set_cons_succ]
  refine Reg.takeP (i := 8) (v := undef) rfl (by kernel_rfl) (by kernel_rfl) (by kernel_rfl) (by kernel_rfl) (fun _ _ _ h => h) (Or.inr ⟨by rfl, rfl⟩) (fun _ => hHeld) ?r9x14_8
  try simp only [Act.put, List.setIfInBounds_toArray, List.set_cons_zero, List.set_cons_succ]
  refine Reg.takeP (i := 9) (v := undef) rfl (by kernel_rfl) (by kernel_rfl) (by kernel_rfl) (by kernel_rfl) (fun _ _ _ h => h) (Or.inr ⟨by rfl, rfl⟩) (fun _ => hHeld) ?r9x14_9
  try simp only [Act.put, List.setIfInBounds_toArray, List.set_cons_zero, List.set_cons_succ]
  refine Reg.takeP (i := 10) (v := undef) rfl (by kernel_rfl) (by kernel_rfl) (by kernel_rfl) (by kernel_rfl) (fun _ _ _ h => h) (Or.inr ⟨by rfl, rfl⟩) (fun _ => hHeld) ?r9x14_10
  try simp only [Act.put, List.setIfInBounds_toArray, List.set_cons_zero, List.set_cons_succ]
  refine Reg.takeP (i := 11) (v := undef) rfl (by kernel_rfl) (by kernel_rfl) (by kernel_rfl) (by kernel_rfl) (fun _ _ _ h => h) (Or.inr ⟨by rfl, rfl⟩) (fun _ => hHeld) ?r9x14_11
  try simp only [Act.put, List.setIfInBounds_toArray, List.set_cons_zero, List.set_cons_succ]
  refine Reg.takeP (i := 12) (v := ?v9x14_12) rfl (by kernel_rfl) (by kernel_rfl) (by kernel_rfl) (by kernel_rfl) (fun _ _ _ h => h) (Or.inl ⟨by rfl, ?h9x14_12⟩) (fun _ => hHeld) ?r9x14_12
  case h9x14_12 => (intro wS hSw; (try dsimp only at hSw); go_simp; all_goals with_reducible rfl)
  try simp only [Act.put, List.setIfInBounds_toArray, List.set_cons_zero, List.set_cons_succ]
  refine Reg.takeP (i := 13) (v := ?v9x14_13) rfl (by kernel_rfl) (by kernel_rfl) (by kernel_rfl) (by kernel_rfl) (fun _ _ _ h => h) (Or.inl ⟨by rfl, ?h9x14_13⟩) (fun _ => hHeld) ?r9x14_13
  case h9x14_13 => (intro wS hSw; (try dsimp only at hSw); go_simp; all_goals with_reducible rfl)
  try simp only [Act.put, List.setIfInBounds_toArray, List.set_cons_zero, List.set_cons_succ]
  refine Reg.done (by kernel_rfl) ?_ _
  go_wp2_with fail
  go_ret
  exact ⟨rfl, Hend.out⟩
end Go.Proofs.YtadelkancmbanaaGreat
