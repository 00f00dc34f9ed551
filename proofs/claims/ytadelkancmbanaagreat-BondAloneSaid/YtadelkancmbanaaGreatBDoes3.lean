/-
  The law's does: one kind more.
-/
import Derived.Test.YtadelkancmbanaaGreatBDoes
namespace Go.Proofs.YtadelkancmbanaaGreat
open Go.RowKit
attribute [local go_sem ↓] Go.wp_at_zero Go.wp_at_succ

set_option maxRecDepth 100000 in
set_option maxHeartbeats 6400000 in
theorem does3_out (Z : Fix) (S : St) (C : Nat → List Ver) (F : List Nat) (W : List Wait) (G : Int) (gl capl m cp : Nat) (l : List Int) (a b cc : Int) (p : Option Addr) (w : World) (h : Inv Z S C F W G w) (hr : LRow S gl S.heads.length l w) (hv : ∀ c, c < S.heads.length → (topOf C c).v = l.getD c 0) (rm : Room Z S F G) (hbad : ¬ (inB S.heads.length a ∧ inB S.heads.length b ∧ a ≠ b)) :
    Calls Tryz.prog 9 #[mVal Z, .slice (some ⟨gl, 0, none⟩) S.heads.length capl, opVal (3 : Int) a b cc p m cp] w fun e w' => e = .returned (.bool true) ∧ StepE Z S C F G gl w w' := by
  obtain ⟨W0, hW0⟩ : ∃ W0, W0 = boxes2 Z (3 : Int) a b cc p m cp w := ⟨_, rfl⟩
  have hbox : Box2 Z (3 : Int) a b cc p m cp w.heap.size W0 := by rw [hW0]; exact boxes2_at _ _ _ _ _ _ _ _ _
  have hbl : Below w.heap.size w W0 := by rw [hW0]; exact boxes2_below _ _ _ _ _ _ _ _ _
  have hsz : W0.heap.size = w.heap.size + 2 := by rw [hW0]; exact boxes2_size _ _ _ _ _ _ _ _ _
  have hi0 := h.below hbl
  have hgl : gl < w.heap.size := (hr.cells 0 (by have := h.mem.bond.few; omega)).lt
  have few := h.mem.bond.few
  have hr0 : LRow S gl S.heads.length l W0 := hr.next few.1 (h.mem.next hbl)
  have htn : ∀ k, w.heap.size ≤ k → S.tag k = 0 := fun k hk => h.mem.tags.new k hk
  have hsame : ∀ w', Next Z S W0 S w' → StepE Z S C F G gl w w' := fun w' hn => ⟨_, _, _, _, _, _, Step.same h hr hv ((h.mem.next hbl).trans hn)⟩
  have hstay : ∀ S' w', Next Z S W0 S' w' → Box2 Z (3 : Int) a b cc p m cp w.heap.size w' := fun S' w' hn => hbox.keep (hn.keep.block _ (by omega) (by rw [htn _ (by omega)]; exact fun h => h rfl)) (hn.keep.block _ (by omega) (by rw [htn _ (by omega)]; exact fun h => h rfl))
  have cx := hbox.x
  have qa := hbox.a
  have qb := hbox.b
  have qc := hbox.c
  have hgo : ¬ (inB S.heads.length a ∧ inB S.heads.length b ∧ a ≠ b) → Calls Tryz.prog 12 #[.pointer (some ⟨Z.X.x, 0, none⟩), .pointer none, .int .i64 a, .int .i64 b, .int .i64 cc] W0 fun e w' => e = .returned (.tuple #[.int .i64 0, .int .i64 302]) ∧ Below W0.heap.size W0 w' := fun hb => bMove_out Z S a b cc W0 hi0.mem hb
  have Hgo := Lib.hid hgo
  clear hgo
  have HW := Lib.hid hW0
  have Hbox := Lib.hid hbox
  have Hbl := Lib.hid hbl
  have Hsz := Lib.hid hsz
  have Hi0 := Lib.hid hi0
  have Hr := Lib.hid hr
  have Hr0 := Lib.hid hr0
  have Hgl := Lib.hid hgl
  have Hsame := Lib.hid hsame
  have Hstay := Lib.hid hstay
  have H := Lib.hid h
  have Hv := Lib.hid hv
  have Hrm := Lib.hid rm
  have Htn := Lib.hid htn
  clear hW0 hbox hbl hsz hi0 hr hr0 hgl hsame hstay h hv rm htn
  rcases Int.lt_or_le a 0 with a1 | a1
  · have m1 : decide (0 ≤ a) = false := decide_eq_false (by omega)
    unfold boxes2 at HW
    rw [HW.out] at cx qa qb qc
    have Hg := Lib.hid (Hgo.out hbad)
    obtain ⟨N, hN⟩ : ∃ N, S.heads.length = N := ⟨_, rfl⟩
    (try rw [hN] at m2)
    (try rw [hN] at m4)
    rw [hN]
    clear hN hbad
    unfold mVal opVal
    go_enter Tryz.func9, Tryz.ntmps9
    go_wp2_with fail
    rw [← HW.out]
    refine Hg.out.mono ?_
    rintro e w2 ⟨rfl, hb2⟩
    have hn2 := Hi0.out.mem.next hb2
    have p1 := (Hstay.out _ _ hn2).a
    have p2 := (Hstay.out _ _ hn2).b
    have Hend := Lib.hid (Hsame.out w2 hn2)
    clear hn2 hb2 cx qa qb qc
    go_wp2_with fail
    go_ret
    exact ⟨rfl, Hend.out⟩
  · have m1 : decide (0 ≤ a) = true := decide_eq_true a1
    rcases Int.lt_or_le a (S.heads.length : Int) with a2 | a2
    · have m2 : decide (a < (S.heads.length : Int)) = true := decide_eq_true a2
      rcases Int.lt_or_le b 0 with b1 | b1
      · have m3 : decide (b < 0) = true := decide_eq_true b1
        unfold boxes2 at HW
        rw [HW.out] at cx qa qb qc
        have Hg := Lib.hid (Hgo.out hbad)
        obtain ⟨N, hN⟩ : ∃ N, S.heads.length = N := ⟨_, rfl⟩
        (try rw [hN] at m2)
        (try rw [hN] at m4)
        rw [hN]
        clear hN hbad
        unfold mVal opVal
        go_enter Tryz.func9, Tryz.ntmps9
        go_wp2_with fail
        rw [← HW.out]
        refine Hg.out.mono ?_
        rintro e w2 ⟨rfl, hb2⟩
        have hn2 := Hi0.out.mem.next hb2
        have p1 := (Hstay.out _ _ hn2).a
        have p2 := (Hstay.out _ _ hn2).b
        have Hend := Lib.hid (Hsame.out w2 hn2)
        clear hn2 hb2 cx qa qb qc
        go_wp2_with fail
        go_ret
        exact ⟨rfl, Hend.out⟩
      · have m3 : decide (b < 0) = false := decide_eq_false (by omega)
        rcases Int.lt_or_le b (S.heads.length : Int) with b2 | b2
        · have m4 : decide ((S.heads.length : Int) ≤ b) = false := decide_eq_false (by omega)
          have m5 : a = b := by
            rcases Decidable.em (a = b) with h | h
            · exact h
            · exact absurd ⟨⟨a1, a2⟩, ⟨b1, b2⟩, h⟩ hbad
          have m6 : (a == b) = true := by rw [beq_iff_eq]; exact m5
          clear m5
          unfold boxes2 at HW
          rw [HW.out] at cx qa qb qc
          have Hg := Lib.hid (Hgo.out hbad)
          obtain ⟨N, hN⟩ : ∃ N, S.heads.length = N := ⟨_, rfl⟩
          (try rw [hN] at m2)
          (try rw [hN] at m4)
          rw [hN]
          clear hN hbad
          unfold mVal opVal
          go_enter Tryz.func9, Tryz.ntmps9
          go_wp2_with fail
          rw [← HW.out]
          refine Hg.out.mono ?_
          rintro e w2 ⟨rfl, hb2⟩
          have hn2 := Hi0.out.mem.next hb2
          have p1 := (Hstay.out _ _ hn2).a
          have p2 := (Hstay.out _ _ hn2).b
          have Hend := Lib.hid (Hsame.out w2 hn2)
          clear hn2 hb2 cx qa qb qc
          go_wp2_with fail
          go_ret
          exact ⟨rfl, Hend.out⟩
        · have m4 : decide ((S.heads.length : Int) ≤ b) = true := decide_eq_true b2
          unfold boxes2 at HW
          rw [HW.out] at cx qa qb qc
          have Hg := Lib.hid (Hgo.out hbad)
          obtain ⟨N, hN⟩ : ∃ N, S.heads.length = N := ⟨_, rfl⟩
          (try rw [hN] at m2)
          (try rw [hN] at m4)
          rw [hN]
          clear hN hbad
          unfold mVal opVal
          go_enter Tryz.func9, Tryz.ntmps9
          go_wp2_with fail
          rw [← HW.out]
          refine Hg.out.mono ?_
          rintro e w2 ⟨rfl, hb2⟩
          have hn2 := Hi0.out.mem.next hb2
          have p1 := (Hstay.out _ _ hn2).a
          have p2 := (Hstay.out _ _ hn2).b
          have Hend := Lib.hid (Hsame.out w2 hn2)
          clear hn2 hb2 cx qa qb qc
          go_wp2_with fail
          go_ret
          exact ⟨rfl, Hend.out⟩
    · have m2 : decide (a < (S.heads.length : Int)) = false := decide_eq_false (by omega)
      unfold boxes2 at HW
      rw [HW.out] at cx qa qb qc
      have Hg := Lib.hid (Hgo.out hbad)
      obtain ⟨N, hN⟩ : ∃ N, S.heads.length = N := ⟨_, rfl⟩
      (try rw [hN] at m2)
      (try rw [hN] at m4)
      rw [hN]
      clear hN hbad
      unfold mVal opVal
      go_enter Tryz.func9, Tryz.ntmps9
      go_wp2_with fail
      rw [← HW.out]
      refine Hg.out.mono ?_
      rintro e w2 ⟨rfl, hb2⟩
      have hn2 := Hi0.out.mem.next hb2
      have p1 := (Hstay.out _ _ hn2).a
      have p2 := (Hstay.out _ _ hn2).b
      have Hend := Lib.hid (Hsame.out w2 hn2)
      clear hn2 hb2 cx qa qb qc
      go_wp2_with fail
      go_ret
      exact ⟨rfl, Hend.out⟩
end Go.Proofs.YtadelkancmbanaaGreat
