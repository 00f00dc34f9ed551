/-
  The law's does: one kind more.
-/
import Derived.Test.YtadelkancmbanaaGreatBDoes
namespace Go.Proofs.YtadelkancmbanaaGreat
open Go.RowKit
attribute [local go_sem ↓] Go.wp_at_zero Go.wp_at_succ

set_option maxRecDepth 100000 in
set_option maxHeartbeats 6400000 in
theorem does1 (Z : Fix) (S : St) (C : Nat → List Ver) (F : List Nat) (W : List Wait) (G : Int) (gl capl m cp : Nat) (l : List Int) (a b cc : Int) (p : Option Addr) (w : World) (h : Inv Z S C F W G w) (hr : LRow S gl S.heads.length l w) (hv : ∀ c, c < S.heads.length → (topOf C c).v = l.getD c 0) (rm : Room Z S F G) :
    Calls Tryz.prog 9 #[mVal Z, .slice (some ⟨gl, 0, none⟩) S.heads.length capl, opVal (1 : Int) a b cc p m cp] w fun e w' => e = .returned (.bool true) ∧ StepE Z S C F G gl w w' := by
  obtain ⟨W0, hW0⟩ : ∃ W0, W0 = boxes2 Z (1 : Int) a b cc p m cp w := ⟨_, rfl⟩
  have hbox : Box2 Z (1 : Int) a b cc p m cp w.heap.size W0 := by rw [hW0]; exact boxes2_at _ _ _ _ _ _ _ _ _
  have hbl : Below w.heap.size w W0 := by rw [hW0]; exact boxes2_below _ _ _ _ _ _ _ _ _
  have hsz : W0.heap.size = w.heap.size + 2 := by rw [hW0]; exact boxes2_size _ _ _ _ _ _ _ _ _
  have hi0 := h.below hbl
  have hgl : gl < w.heap.size := (hr.cells 0 (by have := h.mem.bond.few; omega)).lt
  have few := h.mem.bond.few
  have hr0 : LRow S gl S.heads.length l W0 := hr.next few.1 (h.mem.next hbl)
  have htn : ∀ k, w.heap.size ≤ k → S.tag k = 0 := fun k hk => h.mem.tags.new k hk
  have hsame : ∀ w', Next Z S W0 S w' → StepE Z S C F G gl w w' := fun w' hn => ⟨_, _, _, _, _, _, Step.same h hr hv ((h.mem.next hbl).trans hn)⟩
  have hstay : ∀ S' w', Next Z S W0 S' w' → Box2 Z (1 : Int) a b cc p m cp w.heap.size w' := fun S' w' hn => hbox.keep (hn.keep.block _ (by omega) (by rw [htn _ (by omega)]; exact fun h => h rfl)) (hn.keep.block _ (by omega) (by rw [htn _ (by omega)]; exact fun h => h rfl))
  have cx := hbox.x
  have qa := hbox.a
  have hgo : ¬ (0 ≤ a ∧ a < (S.heads.length : Int)) → Calls Tryz.prog 14 #[.pointer (some ⟨Z.X.x, 0, none⟩), .pointer none, .int .i64 a] W0 fun e w' => e = .returned (.tuple #[.int .i64 0, .int .i64 0, .int .i64 302]) ∧ W0 = w' := fun hin => bGet_out Z S a W0 hi0.mem hin
  have hgi : ∀ ca : Nat, a = (ca : Int) → ca < S.heads.length → Calls Tryz.prog 14 #[.pointer (some ⟨Z.X.x, 0, none⟩), .pointer none, .int .i64 a] W0 fun e w' => ∃ st : Int, e = .returned (.tuple #[.int .i64 (l.getD ca 0), .int .i64 st, .int .i64 0]) ∧ 1 ≤ st ∧ Next Z S W0 S w' := fun ca e hcl => by
    subst e
    obtain ⟨r, er, hch⟩ := hi0.top ca hcl
    refine (bGet_in Z S ca (topOf C ca) r W0 hi0.mem h.deep h.at0 hcl hch).mono fun e w' h2 => ?_
    have hs := hch.2.1.sB
    refine ⟨(topOf C ca).s - 1, ?_, by omega, h2.2⟩
    rw [h2.1, hv ca hcl]
  have Hgo := Lib.hid hgo
  have Hgi := Lib.hid hgi
  have Hfew := Lib.hid few
  clear hgo hgi
  have HW := Lib.hid hW0
  have Hbox := Lib.hid hbox
  have Hbl := Lib.hid hbl
  have Hsz := Lib.hid hsz
  have Hi0 := Lib.hid hi0
  have Hr := Lib.hid hr
  have Hr0 := Lib.hid hr0
  have Hgl := Lib.hid hgl
  have Hsame := Lib.hid hsame
  have Hstay := Lib.hid hstay
  have H := Lib.hid h
  have Hv := Lib.hid hv
  have Hrm := Lib.hid rm
  have Htn := Lib.hid htn
  clear hW0 hbox hbl hsz hi0 hr hr0 hgl hsame hstay h hv rm htn
  by_cases hin : 0 ≤ a ∧ a < (S.heads.length : Int)
  · have m1 : decide (0 ≤ a) = true := decide_eq_true hin.1
    have m2 : decide (a < (S.heads.length : Int)) = true := decide_eq_true hin.2
    have m3 : 0 ≤ a := hin.1
    obtain ⟨i, rfl⟩ : ∃ i : Nat, a = (i : Int) := ⟨a.toNat, by omega⟩
    have hil : i < S.heads.length := by omega
    unfold boxes2 at HW
    rw [HW.out] at cx qa
    have hg := Hgi.out i rfl hil
    obtain ⟨lv, hlv⟩ : ∃ x, l.getD i 0 = x := ⟨_, rfl⟩
    rw [hlv] at hg
    have Hlv := Lib.hid hlv
    have Hg := Lib.hid hg
    clear hg hlv
    obtain ⟨N, hN⟩ : ∃ N, S.heads.length = N := ⟨_, rfl⟩
    have HN := Lib.hid hN
    rw [hN] at m2 hil ⊢
    clear hN hin
    have hin1 : decide (i < N) = true := decide_eq_true hil
    unfold mVal opVal
    go_enter Tryz.func9, Tryz.ntmps9
    go_wp2_with fail
    rw [← HW.out]
    refine Hg.out.mono ?_
    rintro e w2 ⟨st, rfl, hst, hn⟩
    have q1 := (Hstay.out _ _ hn).a
    have q2 := ((Hr0.out.next Hfew.out.1 hn).cells i (by rw [HN.out]; exact hil)).cell
    rw [Hlv.out] at q2
    have Hend := Lib.hid (Hsame.out w2 hn)
    have s1 : decide (1 ≤ st) = true := decide_eq_true hst
    clear hn cx qa
    go_wp2_with fail
    go_ret
    exact ⟨rfl, Hend.out⟩
  · rcases Int.lt_or_le a 0 with hneg | hpos
    · have m1 : decide (0 ≤ a) = false := decide_eq_false (by omega)
      unfold boxes2 at HW
      have Hend := Lib.hid (Hsame.out W0 (Next.refl Hi0.out.mem))
      rw [HW.out] at cx qa
      have Hg := Lib.hid (Hgo.out hin)
      obtain ⟨N, hN⟩ : ∃ N, S.heads.length = N := ⟨_, rfl⟩
      (try rw [hN] at m2)
      rw [hN]
      clear hN hin
      unfold mVal opVal
      go_enter Tryz.func9, Tryz.ntmps9
      go_wp2_with fail
      rw [← HW.out]
      refine Hg.out.mono ?_
      rintro e w2 ⟨rfl, rfl⟩
      go_wp2_with fail
      go_ret
      exact ⟨rfl, Hend.out⟩
    · have m1 : decide (0 ≤ a) = true := decide_eq_true hpos
      have m2 : decide (a < (S.heads.length : Int)) = false := decide_eq_false (by omega)
      unfold boxes2 at HW
      have Hend := Lib.hid (Hsame.out W0 (Next.refl Hi0.out.mem))
      rw [HW.out] at cx qa
      have Hg := Lib.hid (Hgo.out hin)
      obtain ⟨N, hN⟩ : ∃ N, S.heads.length = N := ⟨_, rfl⟩
      (try rw [hN] at m2)
      rw [hN]
      clear hN hin
      unfold mVal opVal
      go_enter Tryz.func9, Tryz.ntmps9
      go_wp2_with fail
      rw [← HW.out]
      refine Hg.out.mono ?_
      rintro e w2 ⟨rfl, rfl⟩
      go_wp2_with fail
      go_ret
      exact ⟨rfl, Hend.out⟩
end Go.Proofs.YtadelkancmbanaaGreat
