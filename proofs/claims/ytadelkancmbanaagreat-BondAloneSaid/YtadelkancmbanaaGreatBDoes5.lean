/-
  The law's does: one kind more.
-/
import Derived.Test.YtadelkancmbanaaGreatBDoes
namespace Go.Proofs.YtadelkancmbanaaGreat
open Go.RowKit
attribute [local go_sem ↓] Go.wp_at_zero Go.wp_at_succ

set_option maxRecDepth 100000 in
set_option maxHeartbeats 6400000 in
theorem does3_in (Z : Fix) (S : St) (C : Nat → List Ver) (F : List Nat) (W : List Wait) (G : Int) (gl capl m cp : Nat) (l : List Int) (cc : Int) (p : Option Addr) (ia ib : Nat) (w : World) (h : Inv Z S C F W G w) (hr : LRow S gl S.heads.length l w) (hv : ∀ c, c < S.heads.length → (topOf C c).v = l.getD c 0) (rm : Room Z S F G) (ha : ia < S.heads.length) (hb : ib < S.heads.length) (hab : ia ≠ ib) (hpos : 0 ≤ cc) :
    Calls Tryz.prog 9 #[mVal Z, .slice (some ⟨gl, 0, none⟩) S.heads.length capl, opVal (3 : Int) (ia : Int) (ib : Int) cc p m cp] w fun e w' => e = .returned (.bool true) ∧ StepE Z S C F G gl w w' := by
  obtain ⟨W0, hW0⟩ : ∃ W0, W0 = boxes2 Z (3 : Int) (ia : Int) (ib : Int) cc p m cp w := ⟨_, rfl⟩
  have hbox : Box2 Z (3 : Int) (ia : Int) (ib : Int) cc p m cp w.heap.size W0 := by rw [hW0]; exact boxes2_at _ _ _ _ _ _ _ _ _
  have hbl : Below w.heap.size w W0 := by rw [hW0]; exact boxes2_below _ _ _ _ _ _ _ _ _
  have hsz : W0.heap.size = w.heap.size + 2 := by rw [hW0]; exact boxes2_size _ _ _ _ _ _ _ _ _
  have hi0 := h.below hbl
  have hgl : gl < w.heap.size := (hr.cells 0 (by have := h.mem.bond.few; omega)).lt
  have few := h.mem.bond.few
  have hr0 : LRow S gl S.heads.length l W0 := hr.next few.1 (h.mem.next hbl)
  have htn : ∀ k, w.heap.size ≤ k → S.tag k = 0 := fun k hk => h.mem.tags.new k hk
  have hsame : ∀ w', Next Z S W0 S w' → StepE Z S C F G gl w w' := fun w' hn => ⟨_, _, _, _, _, _, Step.same h hr hv ((h.mem.next hbl).trans hn)⟩
  have hstay : ∀ S' w', Next Z S W0 S' w' → Box2 Z (3 : Int) (ia : Int) (ib : Int) cc p m cp w.heap.size w' := fun S' w' hn => hbox.keep (hn.keep.block _ (by omega) (by rw [htn _ (by omega)]; exact fun h => h rfl)) (hn.keep.block _ (by omega) (by rw [htn _ (by omega)]; exact fun h => h rfl))
  have cx := hbox.x
  have qa := hbox.a
  have qb := hbox.b
  have qc := hbox.c
  obtain ⟨la, hla⟩ : ∃ x, l.getD ia 0 = x := ⟨_, rfl⟩
  obtain ⟨lb, hlb⟩ : ∃ x, l.getD ib 0 = x := ⟨_, rfl⟩
  have hgo : Calls Tryz.prog 12 #[.pointer (some ⟨Z.X.x, 0, none⟩), .pointer none, .int .i64 (ia : Nat), .int .i64 (ib : Nat), .int .i64 cc] W0 fun e w' => ∃ (v err : Int) (S' : St), e = .returned (.tuple #[.int .i64 v, .int .i64 err]) ∧ Next Z S W0 S' w' ∧
      ((err = 303 ∧ la < cc ∧ Next Z S W0 S w') ∨ (err = 0 ∧ cc ≤ la ∧ ChangedEnd Z S 2 (key2 ia ib) (newOf ib cc (key2 ia ib) fun j => (topOf C (key2 ia ib j)).v) (fun j => hnd (topOf C (key2 ia ib j)).i (topOf C (key2 ia ib j)).g) F G W0 (.returned (.tuple #[.int .i64 v, .int .i64 0])) w')) := by
    refine (bMove_in Z S (topOf C) ia ib cc F G W0 hi0.mem h.deep h.at0 h.ok (by have := rm.gens; omega) rm.made (by have := rm.free; omega) (fun c hc => by obtain ⟨r, _, hr⟩ := hi0.top c hc; exact ⟨r, hr⟩) ha hb hab hpos).mono fun e w' h2 => ?_
    rcases h2 with ⟨he, hn, hlt⟩ | ⟨hE, hle⟩
    · rw [hv ia ha, hla] at hlt
      exact ⟨0, 303, S, he, hn, .inl ⟨rfl, hlt, hn⟩⟩
    · rw [hv ia ha, hla] at hle
      obtain ⟨he, db, next, head, tag, hn, hrest⟩ := hE
      exact ⟨S.cnow, 0, _, he, hn, .inr ⟨rfl, hle, rfl, db, next, head, tag, hn, hrest⟩⟩
  have Hg := Lib.hid hgo
  have Hla := Lib.hid hla
  have Hlb := Lib.hid hlb
  have m1 : decide (0 ≤ (ia : Int)) = true := decide_eq_true (by omega)
  have m3 : decide ((ib : Int) < 0) = false := decide_eq_false (by omega)
  have m6 : ((ia : Int) == (ib : Int)) = false := by rw [beq_eq_false_iff_ne]; omega
  have m7 : (ia == ib) = false := by rw [beq_eq_false_iff_ne]; exact hab
  have m8 : decide (cc < 0) = false := decide_eq_false (by omega)
  have m9 : ¬ cc < 0 := by omega
  have Hfew := Lib.hid few
  clear hgo hla hlb
  have HW := Lib.hid hW0
  have Hbox := Lib.hid hbox
  have Hbl := Lib.hid hbl
  have Hsz := Lib.hid hsz
  have Hi0 := Lib.hid hi0
  have Hr := Lib.hid hr
  have Hr0 := Lib.hid hr0
  have Hgl := Lib.hid hgl
  have Hsame := Lib.hid hsame
  have Hstay := Lib.hid hstay
  have H := Lib.hid h
  have Hv := Lib.hid hv
  have Hrm := Lib.hid rm
  have Htn := Lib.hid htn
  clear hW0 hbox hbl hsz hi0 hr hr0 hgl hsame hstay h hv rm htn
  unfold boxes2 at HW
  rw [HW.out] at cx qa qb qc
  obtain ⟨N, hN⟩ : ∃ N, S.heads.length = N := ⟨_, rfl⟩
  have HN := Lib.hid hN
  rw [hN] at ha hb ⊢
  clear hN
  have m2 : decide ((ia : Int) < (N : Int)) = true := decide_eq_true (by omega)
  have m4 : decide ((N : Int) ≤ (ib : Int)) = false := decide_eq_false (by omega)
  have m4n : ¬ N ≤ ib := by omega
  have hai : (ia : Int) < (N : Int) := by omega
  have hbi : (ib : Int) < (N : Int) := by omega
  unfold mVal opVal
  go_enter Tryz.func9, Tryz.ntmps9
  go_wp2_with fail
  rw [← HW.out]
  refine Hg.out.mono ?_
  rintro e w2 ⟨v, err, S', rfl, hn2, hcase⟩
  have hB := Hstay.out _ _ hn2
  have hR := Hr0.out.next Hfew.out.1 hn2
  have p1 := hB.a
  have p2 := hB.b
  have p1d : w2.drew.cell? ⟨w.heap.size + 1, 1, none⟩ = some (.int .i64 (ia : Nat)) := hB.a
  have p3 : w2.drew.cell? ⟨w.heap.size + 1, 3, none⟩ = some (.int .i64 cc) := hB.c
  have p4 : w2.drew.cell? ⟨gl, ia, none⟩ = some (.int .i64 la) := by
    have := (hR.cells ia (by rw [HN.out]; exact ha)).cell
    rw [Hla.out] at this
    exact this
  have HB := Lib.hid hB
  have HR := Lib.hid hR
  have Hn2 := Lib.hid hn2
  clear hB hR hn2 cx qa qb qc
  go_wp2_with fail
  rcases hcase with ⟨rfl, hlt, hsm⟩ | ⟨rfl, hle, hCh⟩
  · have l1 : decide (la < cc) = true := decide_eq_true hlt
    have Hend := Lib.hid (Hsame.out w2.drew (hsm.below (Below.refl _ _).drew))
    clear hsm hlt
    refine Reg.start (fun w' => w'.cell? ⟨w.heap.size + 1, 3, none⟩ = some (.int .i64 cc) ∧ w'.cell? ⟨w.heap.size + 1, 1, none⟩ = some (.int .i64 (ia : Nat)) ∧ w'.cell? ⟨gl, ia, none⟩ = some (.int .i64 la)) [] (by kernel_rfl) ?_ (fun hHeld => ?_)
    · first | exact True.intro | ((try dsimp only); exact ⟨p3, p1d, p4⟩)
    refine Reg.takeP (i := 0) (v := ?va_0) rfl (by kernel_rfl) (by kernel_rfl) (by kernel_rfl) (by kernel_rfl) (fun _ _ _ h => h) (Or.inl ⟨by rfl, ?ha_0⟩) (fun _ => hHeld) ?ra_0
    case ha_0 => (intro wS hSw; (try dsimp only at hSw); go_simp; all_goals with_reducible rfl)
    try simp only [Act.put, List.setIfInBounds_toArray, List.set_cons_zero, List.set_cons_succ]
    refine Reg.take (i := 1) (v := ?va_1) rfl (by kernel_rfl) (by kernel_rfl) (by kernel_rfl) (by kernel_rfl) (fun _ _ _ h => h) (Or.inl ⟨by rfl, ?ha_1⟩) hHeld ?ra_1
    case ha_1 => (intro wS hSw; (try dsimp only at hSw); go_simp; all_goals with_reducible rfl)
    try simp only [Act.put, List.setIfInBounds_toArray, List.set_cons_zero, List.set_cons_succ]
    refine Reg.takeP (i := 2) (v := ?va_2) rfl (by kernel_rfl) (by kernel_rfl) (by kernel_rfl) (by kernel_rfl) (fun _ _ _ h => h) (Or.inl ⟨by rfl, ?ha_2⟩) (fun _ => hHeld) ?ra_2
    case ha_2 => (intro wS hSw; (try dsimp only at hSw); go_simp; all_goals with_reducible rfl)
    try simp only [Act.put, List.setIfInBounds_toArray, List.set_cons_zero, List.set_cons_succ]
    refine Reg.takeP (i := 3) (v := ?va_3) rfl (by kernel_rfl) (by kernel_rfl) (by kernel_rfl) (by kernel_rfl) (fun _ _ _ h => h) (Or.inl ⟨by rfl, ?ha_3⟩) (fun _ => hHeld) ?ra_3
    case ha_3 => (intro wS hSw; (try dsimp only at hSw); go_simp; all_goals with_reducible rfl)
    try simp only [Act.put, List.setIfInBounds_toArray, List.set_cons_zero, List.set_cons_succ]
    refine Reg.takeP (i := 4) (v := ?va_4) rfl (by kernel_rfl) (by kernel_rfl) (by kernel_rfl) (by kernel_rfl) (fun _ _ _ h => h) (Or.inl ⟨by rfl, ?ha_4⟩) (fun _ => hHeld) ?ra_4
    case ha_4 => (intro wS hSw; (try dsimp only at hSw); go_simp; all_goals with_reducible rfl)
    try simp only [Act.put, List.setIfInBounds_toArray, List.set_cons_zero, List.set_cons_succ]
    refine Reg.takeP (i := 5) (v := ?va_5) rfl (by kernel_rfl) (by kernel_rfl) (by kernel_rfl) (by kernel_rfl) (fun _ _ _ h => h) (Or.inl ⟨by rfl, ?ha_5⟩) (fun _ => hHeld) ?ra_5
    case ha_5 => (intro wS hSw; (try dsimp only at hSw); go_simp; all_goals with_reducible rfl)
    try simp only [Act.put, List.setIfInBounds_toArray, List.set_cons_zero, List.set_cons_succ]
    refine Reg.take (i := 6) (v := ?va_6) rfl (by kernel_rfl) (by kernel_rfl) (by kernel_rfl) (by kernel_rfl) (fun _ _ _ h => h) (Or.inl ⟨by rfl, ?ha_6⟩) hHeld ?ra_6
    case ha_6 => (intro wS hSw; (try dsimp only at hSw); go_simp; all_goals with_reducible rfl)
    try simp only [Act.put, List.setIfInBounds_toArray, List.set_cons_zero, List.set_cons_succ]
    refine Reg.takeP (i := 7) (v := ?va_7) rfl (by kernel_rfl) (by kernel_rfl) (by kernel_rfl) (by kernel_rfl) (fun _ _ _ h => h) (Or.inl ⟨by rfl, ?ha_7⟩) (fun _ => hHeld) ?ra_7
    case ha_7 => (intro wS hSw; (try dsimp only at hSw); go_simp; all_goals with_reducible rfl)
    try simp only [Act.put, List.setIfInBounds_toArray, List.set_cons_zero, List.set_cons_succ]
    refine Reg.take (i := 8) (v := ?va_8) rfl (by kernel_rfl) (by kernel_rfl) (by kernel_rfl) (by kernel_rfl) (fun _ _ _ h => h) (Or.inl ⟨by rfl, ?ha_8⟩) hHeld ?ra_8
    case ha_8 => (intro wS hSw; (try dsimp only at hSw); go_simp; all_goals with_reducible rfl)
    try simp only [Act.put, List.setIfInBounds_toArray, List.set_cons_zero, List.set_cons_succ]
    refine Reg.takeP (i := 9) (v := ?va_9) rfl (by kernel_rfl) (by kernel_rfl) (by kernel_rfl) (by kernel_rfl) (fun _ _ _ h => h) (Or.inl ⟨by rfl, ?ha_9⟩) (fun _ => hHeld) ?ra_9
    case ha_9 => (intro wS hSw; (try dsimp only at hSw); go_simp; all_goals with_reducible rfl)
    try simp only [Act.put, List.setIfInBounds_toArray, List.set_cons_zero, List.set_cons_succ]
    refine Reg.take (i := 10) (v := ?va_10) rfl (by kernel_rfl) (by kernel_rfl) (by kernel_rfl) (by kernel_rfl) (fun _ _ _ h => h) (Or.inl ⟨by rfl, ?ha_10⟩) hHeld ?ra_10
    case ha_10 => (intro wS hSw; (try dsimp only at hSw); go_simp; all_goals with_reducible rfl)
    try simp only [Act.put, List.setIfInBounds_toArray, List.set_cons_zero, List.set_cons_succ]
    refine Reg.takeP (i := 11) (v := ?va_11) rfl (by kernel_rfl) (by kernel_rfl) (by kernel_rfl) (by kernel_rfl) (fun _ _ _ h => h) (Or.inl ⟨by rfl, ?ha_11⟩) (fun _ => hHeld) ?ra_11
    case ha_11 => (intro wS hSw; (try dsimp only at hSw); go_simp; all_goals with_reducible rfl)
    try simp only [Act.put, List.setIfInBounds_toArray, List.set_cons_zero, List.set_cons_succ]
    refine Reg.takeP (i := 12) (v := ?va_12) rfl (by kernel_rfl) (by kernel_rfl) (by kernel_rfl) (by kernel_rfl) (fun _ _ _ h => h) (Or.inl ⟨by rfl, ?ha_12⟩) (fun _ => hHeld) ?ra_12
    case ha_12 => (intro wS hSw; (try dsimp only at hSw); go_simp; all_goals with_reducible rfl)
    try simp only [Act.put, List.setIfInBounds_toArray, List.set_cons_zero, List.set_cons_succ]
    refine Reg.takeP (i := 13) (v := ?va_13) rfl (by kernel_rfl) (by kernel_rfl) (by kernel_rfl) (by kernel_rfl) (fun _ _ _ h => h) (Or.inl ⟨by rfl, ?ha_13⟩) (fun _ => hHeld) ?ra_13
    case ha_13 => (intro wS hSw; (try dsimp only at hSw); go_simp; all_goals with_reducible rfl)
    try simp only [Act.put, List.setIfInBounds_toArray, List.set_cons_zero, List.set_cons_succ]
    refine Reg.done (by kernel_rfl) ?_ _
    go_wp2_with fail
    go_ret
    exact ⟨rfl, Hend.out⟩
  · have l1 : decide (la < cc) = false := decide_eq_false (by omega)
    have HCh := Lib.hid hCh
    clear hCh hle
    refine Reg.start (fun w' => w'.cell? ⟨w.heap.size + 1, 3, none⟩ = some (.int .i64 cc) ∧ w'.cell? ⟨w.heap.size + 1, 1, none⟩ = some (.int .i64 (ia : Nat)) ∧ w'.cell? ⟨gl, ia, none⟩ = some (.int .i64 la)) [] (by kernel_rfl) ?_ (fun hHeld => ?_)
    · first | exact True.intro | ((try dsimp only); exact ⟨p3, p1d, p4⟩)
    refine Reg.takeP (i := 0) (v := ?vb_0) rfl (by kernel_rfl) (by kernel_rfl) (by kernel_rfl) (by kernel_rfl) (fun _ _ _ h => h) (Or.inl ⟨by rfl, ?hb_0⟩) (fun _ => hHeld) ?rb_0
    case hb_0 => (intro wS hSw; (try dsimp only at hSw); go_simp; all_goals with_reducible rfl)
    try simp only [Act.put, List.setIfInBounds_toArray, List.set_cons_zero, List.set_cons_succ]
    refine Reg.take (i := 1) (v := ?vb_1) rfl (by kernel_rfl) (by kernel_rfl) (by kernel_rfl) (by kernel_rfl) (fun _ _ _ h => h) (Or.inl ⟨by rfl, ?hb_1⟩) hHeld ?rb_1
    case hb_1 => (intro wS hSw; (try dsimp only at hSw); go_simp; all_goals with_reducible rfl)
    try simp only [Act.put, List.setIfInBounds_toArray, List.set_cons_zero, List.set_cons_succ]
    refine Reg.takeP (i := 2) (v := ?vb_2) rfl (by kernel_rfl) (by kernel_rfl) (by kernel_rfl) (by kernel_rfl) (fun _ _ _ h => h) (Or.inl ⟨by rfl, ?hb_2⟩) (fun _ => hHeld) ?rb_2
    case hb_2 => (intro wS hSw; (try dsimp only at hSw); go_simp; all_goals with_reducible rfl)
    try simp only [Act.put, List.setIfInBounds_toArray, List.set_cons_zero, List.set_cons_succ]
    refine Reg.takeP (i := 3) (v := ?vb_3) rfl (by kernel_rfl) (by kernel_rfl) (by kernel_rfl) (by kernel_rfl) (fun _ _ _ h => h) (Or.inl ⟨by rfl, ?hb_3⟩) (fun _ => hHeld) ?rb_3
    case hb_3 => (intro wS hSw; (try dsimp only at hSw); go_simp; all_goals with_reducible rfl)
    try simp only [Act.put, List.setIfInBounds_toArray, List.set_cons_zero, List.set_cons_succ]
    refine Reg.takeP (i := 4) (v := ?vb_4) rfl (by kernel_rfl) (by kernel_rfl) (by kernel_rfl) (by kernel_rfl) (fun _ _ _ h => h) (Or.inl ⟨by rfl, ?hb_4⟩) (fun _ => hHeld) ?rb_4
    case hb_4 => (intro wS hSw; (try dsimp only at hSw); go_simp; all_goals with_reducible rfl)
    try simp only [Act.put, List.setIfInBounds_toArray, List.set_cons_zero, List.set_cons_succ]
    refine Reg.takeP (i := 5) (v := ?vb_5) rfl (by kernel_rfl) (by kernel_rfl) (by kernel_rfl) (by kernel_rfl) (fun _ _ _ h => h) (Or.inl ⟨by rfl, ?hb_5⟩) (fun _ => hHeld) ?rb_5
    case hb_5 => (intro wS hSw; (try dsimp only at hSw); go_simp; all_goals with_reducible rfl)
    try simp only [Act.put, List.setIfInBounds_toArray, List.set_cons_zero, List.set_cons_succ]
    refine Reg.take (i := 6) (v := ?vb_6) rfl (by kernel_rfl) (by kernel_rfl) (by kernel_rfl) (by kernel_rfl) (fun _ _ _ h => h) (Or.inl ⟨by rfl, ?hb_6⟩) hHeld ?rb_6
    case hb_6 => (intro wS hSw; (try dsimp only at hSw); go_simp; all_goals with_reducible rfl)
    try simp only [Act.put, List.setIfInBounds_toArray, List.set_cons_zero, List.set_cons_succ]
    refine Reg.takeP (i := 7) (v := ?vb_7) rfl (by kernel_rfl) (by kernel_rfl) (by kernel_rfl) (by kernel_rfl) (fun _ _ _ h => h) (Or.inl ⟨by rfl, ?hb_7⟩) (fun _ => hHeld) ?rb_7
    case hb_7 => (intro wS hSw; (try dsimp only at hSw); go_simp; all_goals with_reducible rfl)
    try simp only [Act.put, List.setIfInBounds_toArray, List.set_cons_zero, List.set_cons_succ]
    refine Reg.take (i := 8) (v := ?vb_8) rfl (by kernel_rfl) (by kernel_rfl) (by kernel_rfl) (by kernel_rfl) (fun _ _ _ h => h) (Or.inl ⟨by rfl, ?hb_8⟩) hHeld ?rb_8
    case hb_8 => (intro wS hSw; (try dsimp only at hSw); go_simp; all_goals with_reducible rfl)
    try simp only [Act.put, List.setIfInBounds_toArray, List.set_cons_zero, List.set_cons_succ]
    refine Reg.takeP (i := 9) (v := ?vb_9) rfl (by kernel_rfl) (by kernel_rfl) (by kernel_rfl) (by kernel_rfl) (fun _ _ _ h => h) (Or.inl ⟨by rfl, ?hb_9⟩) (fun _ => hHeld) ?rb_9
    case hb_9 => (intro wS hSw; (try dsimp only at hSw); go_simp; all_goals with_reducible rfl)
    try simp only [Act.put, List.setIfInBounds_toArray, List.set_cons_zero, List.set_cons_succ]
    refine Reg.take (i := 10) (v := ?vb_10) rfl (by kernel_rfl) (by kernel_rfl) (by kernel_rfl) (by kernel_rfl) (fun _ _ _ h => h) (Or.inl ⟨by rfl, ?hb_10⟩) hHeld ?rb_10
    case hb_10 => (intro wS hSw; (try dsimp only at hSw); go_simp; all_goals with_reducible rfl)
    try simp only [Act.put, List.setIfInBounds_toArray, List.set_cons_zero, List.set_cons_succ]
    refine Reg.takeP (i := 11) (v := ?vb_11) rfl (by kernel_rfl) (by kernel_rfl) (by kernel_rfl) (by kernel_rfl) (fun _ _ _ h => h) (Or.inl ⟨by rfl, ?hb_11⟩) (fun _ => hHeld) ?rb_11
    case hb_11 => (intro wS hSw; (try dsimp only at hSw); go_simp; all_goals with_reducible rfl)
    try simp only [Act.put, List.setIfInBounds_toArray, List.set_cons_zero, List.set_cons_succ]
    refine Reg.takeP (i := 12) (v := ?vb_12) rfl (by kernel_rfl) (by kernel_rfl) (by kernel_rfl) (by kernel_rfl) (fun _ _ _ h => h) (Or.inl ⟨by rfl, ?hb_12⟩) (fun _ => hHeld) ?rb_12
    case hb_12 => (intro wS hSw; (try dsimp only at hSw); go_simp; all_goals with_reducible rfl)
    try simp only [Act.put, List.setIfInBounds_toArray, List.set_cons_zero, List.set_cons_succ]
    refine Reg.takeP (i := 13) (v := ?vb_13) rfl (by kernel_rfl) (by kernel_rfl) (by kernel_rfl) (by kernel_rfl) (fun _ _ _ h => h) (Or.inl ⟨by rfl, ?hb_13⟩) (fun _ => hHeld) ?rb_13
    case hb_13 => (intro wS hSw; (try dsimp only at hSw); go_simp; all_goals with_reducible rfl)
    try simp only [Act.put, List.setIfInBounds_toArray, List.set_cons_zero, List.set_cons_succ]
    refine Reg.done (by kernel_rfl) ?_ _
    have r1 := HB.out.a
    have r2 := HB.out.b
    have r3 := HB.out.c
    have r4 := (HR.out.cells ia (by rw [HN.out]; exact ha)).cell
    have r4f := (HR.out.cells ia (by rw [HN.out]; exact ha)).frz
    have r5 := (HR.out.cells ib (by rw [HN.out]; exact hb))
    rw [Hla.out] at r4
    rw [Hlb.out] at r5
    have hne : w.heap.size + 1 ≠ gl := by have := Hgl.out; omega
    have t2 : ∀ u, (w2.setCell ⟨gl, ia, none⟩ u).cell? ⟨w.heap.size + 1, 2, none⟩ = some (.int .i64 (ib : Nat)) := fun u => (World.cell?_setCell_other _ _ _ _ (by intro e; injection e with e1 e2; exact hne e1.symm)).trans r2
    have t3 : ∀ u, (w2.setCell ⟨gl, ia, none⟩ u).cell? ⟨w.heap.size + 1, 3, none⟩ = some (.int .i64 cc) := fun u => (World.cell?_setCell_other _ _ _ _ (by intro e; injection e with e1 e2; exact hne e1.symm)).trans r3
    have t5 : ∀ u, (w2.setCell ⟨gl, ia, none⟩ u).cell? ⟨gl, ib, none⟩ = some (.int .i64 lb) := fun u => (r5.setc (.inr (Ne.symm hab))).cell
    have t5f : ∀ u, (w2.setCell ⟨gl, ia, none⟩ u).frozen? ⟨gl, ib, none⟩ = false := fun u => (r5.setc (.inr (Ne.symm hab))).frz
    clear r5 p1 p2 p1d p3 p4 r2
    go_wp2_with fail
    refine wp_region_still_tail 12 (by kernel_rfl) (by kernel_rfl) ?_
    simp only [List.take_succ_cons, List.take_zero, List.drop_succ_cons, List.drop_zero]
    change wpStill _ _ (World.drew _) _ _ _
    repeat (first | (refine wpStill_step (fun K hK => ?_); go_simp; refine hK _ ?_; clear hK K))
    refine wpStill_nil ?_
    change wpList _ _ _ _ _ (World.drew _)
    go_wp2_with fail
    refine wp_region_still_tail 12 (by kernel_rfl) (by kernel_rfl) ?_
    simp only [List.take_succ_cons, List.take_zero, List.drop_succ_cons, List.drop_zero]
    change wpStill _ _ (World.drew _) _ _ _
    repeat (first | (refine wpStill_step (fun K hK => ?_); go_simp; refine hK _ ?_; clear hK K))
    refine wpStill_nil ?_
    change wpList _ _ _ _ _ (World.drew _)
    go_wp2_with fail
    go_ret
    refine ⟨rfl, ?_⟩
    have hlen : l.length = S.heads.length := Hr.out.len
    have hget : ∀ c, ((l.set ia (wrap64 (la - cc))).set ib (wrap64 (lb + cc))).getD c 0 = if ib = c then wrap64 (lb + cc) else if ia = c then wrap64 (la - cc) else l.getD c 0 := fun c => by
      rw [getD_set_eq _ _ _ _ (by rw [List.length_set, hlen, HN.out]; exact hb), getD_set_eq _ _ _ _ (by rw [hlen, HN.out]; exact ha)]
    have hk2 : ∀ j, j < 2 → key2 ia ib j = ia ∨ key2 ia ib j = ib := fun j _ => by unfold key2; split <;> omega
    have hk3 : ∀ c, (∀ j, j < 2 → key2 ia ib j ≠ c) → ia ≠ c ∧ ib ≠ c := fun c hc => by
      have h0 := hc 0 (by omega)
      have h1 := hc 1 (by omega)
      unfold key2 at h0 h1
      rw [if_pos rfl] at h0
      rw [if_neg (by omega)] at h1
      omega
    refine Step.write H.out 2 (key2 ia ib) (newOf ib cc (key2 ia ib) fun j => (topOf C (key2 ia ib j)).v) (by omega) (by have := Hrm.out.free; omega) (fun j hj => ?_) (fun j k h1 h2 => ?_) (ChangedEnd.from HCh.out (H.out.mem.next Hbl.out)) ((l.set ia (wrap64 (la - cc))).set ib (wrap64 (lb + cc))) (by rw [List.length_set, List.length_set]; exact hlen) (fun j hj => ?_) (fun c hc hf => ?_) Hr.out.tag Hgl.out ?_ (fun j hj => ?_)
    · rw [HN.out]; rcases hk2 j hj with e | e <;> rw [e] <;> assumption
    · have e0 : j = 0 := by omega
      have e1 : k = 1 := by omega
      subst e0
      subst e1
      unfold key2
      rw [if_pos rfl, if_neg (by omega)]
      omega
    · rw [hget]
      unfold newOf
      rcases hk2 j hj with e | e
      · rw [e, if_neg (Ne.symm hab), if_pos rfl, if_neg hab]
        show _ = wrap64 ((topOf C (key2 ia ib j)).v - cc)
        rw [e, Hv.out ia (by rw [HN.out]; exact ha), Hla.out]
      · rw [e, if_pos rfl, if_pos rfl]
        show _ = wrap64 ((topOf C (key2 ia ib j)).v + cc)
        rw [e, Hv.out ib (by rw [HN.out]; exact hb), Hlb.out]
    · obtain ⟨n1, n2⟩ := hk3 c hf
      rw [hget, if_neg n2, if_neg n1]
      exact (Hv.out c hc).symm
    · exact ((((Keep.refl (fun k => k = gl) w2.heap.size w2).setCell (p := ⟨gl, ia, none⟩) (.inl rfl) _).setCell (p := ⟨gl, ib, none⟩) (.inl rfl) _).drew).drew.drew
    · have h0 := HR.out.cells j hj
      rw [hget]
      refine CellIs.of_block (w := (w2.setCell ⟨gl, ia, none⟩ (.int .i64 (wrap64 (la - cc)))).setCell ⟨gl, ib, none⟩ (.int .i64 (wrap64 (lb + cc)))) ?_ rfl
      by_cases e1 : ib = j
      · rw [if_pos e1, ← e1]
        rw [← e1] at h0
        exact (h0.setc (.inr (Ne.symm hab))).set
      · rw [if_neg e1]
        by_cases e2 : ia = j
        · rw [if_pos e2, ← e2]
          rw [← e2] at h0
          exact (h0.set).setc (.inr hab)
        · rw [if_neg e2]
          exact (h0.setc (.inr (Ne.symm e2))).setc (.inr (Ne.symm e1))
end Go.Proofs.YtadelkancmbanaaGreat
