/-
  The law's does: one kind more.
-/
import Derived.Test.YtadelkancmbanaaGreatBDoes
namespace Go.Proofs.YtadelkancmbanaaGreat
open Go.RowKit
attribute [local go_sem ↓] Go.wp_at_zero Go.wp_at_succ

set_option maxRecDepth 100000 in
set_option maxHeartbeats 6400000 in
theorem does7 (Z : Fix) (S : St) (C : Nat → List Ver) (F : List Nat) (W : List Wait) (G : Int) (gl capl m cp : Nat) (l : List Int) (a b cc : Int) (p : Option Addr) (w : World) (h : Inv Z S C F W G w) (hr : LRow S gl S.heads.length l w) (hv : ∀ c, c < S.heads.length → (topOf C c).v = l.getD c 0) (rm : Room Z S F G) :
    Calls Tryz.prog 9 #[mVal Z, .slice (some ⟨gl, 0, none⟩) S.heads.length capl, opVal (7 : Int) a b cc p m cp] w fun e w' => e = .returned (.bool true) ∧ StepE Z S C F G gl w w' := by
  obtain ⟨W0, hW0⟩ : ∃ W0, W0 = boxes2 Z (7 : Int) a b cc p m cp w := ⟨_, rfl⟩
  have hbox : Box2 Z (7 : Int) a b cc p m cp w.heap.size W0 := by rw [hW0]; exact boxes2_at _ _ _ _ _ _ _ _ _
  have hbl : Below w.heap.size w W0 := by rw [hW0]; exact boxes2_below _ _ _ _ _ _ _ _ _
  have hsz : W0.heap.size = w.heap.size + 2 := by rw [hW0]; exact boxes2_size _ _ _ _ _ _ _ _ _
  have hi0 := h.below hbl
  have hgl : gl < w.heap.size := (hr.cells 0 (by have := h.mem.bond.few; omega)).lt
  have few := h.mem.bond.few
  have hr0 : LRow S gl S.heads.length l W0 := hr.next few.1 (h.mem.next hbl)
  have htn : ∀ k, w.heap.size ≤ k → S.tag k = 0 := fun k hk => h.mem.tags.new k hk
  have hsame : ∀ w', Next Z S W0 S w' → StepE Z S C F G gl w w' := fun w' hn => ⟨_, _, _, _, _, _, Step.same h hr hv ((h.mem.next hbl).trans hn)⟩
  have hstay : ∀ S' w', Next Z S W0 S' w' → Box2 Z (7 : Int) a b cc p m cp w.heap.size w' := fun S' w' hn => hbox.keep (hn.keep.block _ (by omega) (by rw [htn _ (by omega)]; exact fun h => h rfl)) (hn.keep.block _ (by omega) (by rw [htn _ (by omega)]; exact fun h => h rfl))
  have cx := hbox.x
  have qa := hbox.a
  have htr : Calls Tryz.prog 28 #[.pointer (some ⟨Z.X.x, 0, none⟩), .pointer none, .int .i64 a] W0 fun e w' => ∃ k e2 : Int, e = .returned (.tuple #[.int .i64 k, .int .i64 e2]) ∧ StepE Z S C F G gl w w' ∧ e2 = if 0 ≤ a ∧ a < (S.heads.length : Int) then 0 else 302 := by
    by_cases hin : 0 ≤ a ∧ a < (S.heads.length : Int)
    · obtain ⟨ca, rfl⟩ : ∃ ca : Nat, a = (ca : Int) := ⟨a.toNat, by omega⟩
      have hcl : ca < S.heads.length := by omega
      obtain ⟨r, er, hch⟩ := hi0.top ca hcl
      obtain ⟨x, hx, hxl⟩ := hi0.bot ca hcl
      have hsome : ((C ca).find? (fun y => decide (y.s - 1 ≤ leastTo S.cnow S.ls S.ls.length))).isSome = true := by
        rw [List.find?_isSome]; exact ⟨x, hx, by simpa using hxl⟩
      obtain ⟨y, hy⟩ := Option.isSome_iff_exists.1 hsome
      obtain ⟨hyp, P, q, hsp, _⟩ := List.find?_eq_some_iff_append.1 hy
      have hyl : y.s - 1 ≤ leastTo S.cnow S.ls S.ls.length := by simpa using hyp
      have hfull : ChainAt Z.n S.made S.tbl S.st (S.heads.getD ca 0) (P ++ y :: q) := by rw [← hsp]; exact hi0.chain ca hcl
      obtain ⟨hv1, hv2⟩ := ChainAt.part y q hfull
      have hdup : (vSlots (y :: q)).Nodup := by
        have h1 := hi0.nC ca hcl
        rw [hsp] at h1
        unfold vSlots at h1 ⊢
        rw [List.map_append] at h1
        exact (List.nodup_append.1 h1).2.1
      have hlens := hi0.lens ca hcl
      have hpf := hi0.mem.pool.few
      rw [hsp] at hlens
      simp only [List.length_append, List.length_cons] at hlens
      refine (bTrim_in Z S ca (topOf C ca) r P y q W0 hi0.mem h.deep h.at0 hcl hch (by rw [← er]; exact hy) (by rw [← er]; exact hsp) hv1 hv2 hdup (by rw [h.wq, wPairs_length]; omega)).mono fun e w' h2 => ?_
      obtain ⟨he, v, tag, hn⟩ := h2
      refine ⟨_, 0, he, ?_, by rw [if_pos (by omega)]⟩
      obtain ⟨S', C', F', W', G', l', hst⟩ := Step.trim hi0 hr0 hv ca hcl P y q hsp hyl v tag hn
      exact ⟨S', C', F', W', G', l', hst.from (h.mem.next hbl)⟩
    · refine (bTrim_out Z S a W0 hi0.mem hin).mono fun e w' h2 => ?_
      obtain ⟨rfl, rfl⟩ := h2
      exact ⟨0, 302, rfl, hsame _ (Next.refl hi0.mem), by rw [if_neg hin]⟩
  have Htr := Lib.hid htr
  clear htr
  have HW := Lib.hid hW0
  have Hbox := Lib.hid hbox
  have Hbl := Lib.hid hbl
  have Hsz := Lib.hid hsz
  have Hi0 := Lib.hid hi0
  have Hr := Lib.hid hr
  have Hr0 := Lib.hid hr0
  have Hgl := Lib.hid hgl
  have Hsame := Lib.hid hsame
  have Hstay := Lib.hid hstay
  have H := Lib.hid h
  have Hv := Lib.hid hv
  have Hrm := Lib.hid rm
  have Htn := Lib.hid htn
  clear hW0 hbox hbl hsz hi0 hr hr0 hgl hsame hstay h hv rm htn
  by_cases hin : 0 ≤ a ∧ a < (S.heads.length : Int)
  · have m1 : decide (0 ≤ a) = true := decide_eq_true hin.1
    have m2 : decide (a < (S.heads.length : Int)) = true := decide_eq_true hin.2
    have m3 : 0 ≤ a := hin.1
    unfold boxes2 at HW
    rw [HW.out] at cx qa
    have he := Htr.out
    rw [if_pos hin] at he
    have He := Lib.hid he
    clear he Htr
    obtain ⟨N, hN⟩ : ∃ N, S.heads.length = N := ⟨_, rfl⟩
    rw [hN] at m2 ⊢
    clear hN hin
    unfold mVal opVal
    go_enter Tryz.func9, Tryz.ntmps9
    go_wp2_with fail
    rw [← HW.out]
    refine He.out.mono ?_
    rintro e w2 ⟨k, e2, rfl, hst, rfl⟩
    have Hst := Lib.hid hst
    clear hst
    go_wp2_with fail
    go_ret
    exact ⟨rfl, Hst.out⟩
  · rcases Int.lt_or_le a 0 with hneg | hpos
    · have m1 : decide (0 ≤ a) = false := decide_eq_false (by omega)
      unfold boxes2 at HW
      rw [HW.out] at cx qa
      have he := Htr.out
      rw [if_neg hin] at he
      have He := Lib.hid he
      clear he Htr
      obtain ⟨N, hN⟩ : ∃ N, S.heads.length = N := ⟨_, rfl⟩
      (try rw [hN] at m2)
      rw [hN]
      clear hN hin
      unfold mVal opVal
      go_enter Tryz.func9, Tryz.ntmps9
      go_wp2_with fail
      rw [← HW.out]
      refine He.out.mono ?_
      rintro e w2 ⟨k, e2, rfl, hst, rfl⟩
      have Hst := Lib.hid hst
      clear hst
      go_wp2_with fail
      go_ret
      exact ⟨rfl, Hst.out⟩
    · have m1 : decide (0 ≤ a) = true := decide_eq_true hpos
      have m2 : decide (a < (S.heads.length : Int)) = false := decide_eq_false (by omega)
      unfold boxes2 at HW
      rw [HW.out] at cx qa
      have he := Htr.out
      rw [if_neg hin] at he
      have He := Lib.hid he
      clear he Htr
      obtain ⟨N, hN⟩ : ∃ N, S.heads.length = N := ⟨_, rfl⟩
      (try rw [hN] at m2)
      rw [hN]
      clear hN hin
      unfold mVal opVal
      go_enter Tryz.func9, Tryz.ntmps9
      go_wp2_with fail
      rw [← HW.out]
      refine He.out.mono ?_
      rintro e w2 ⟨k, e2, rfl, hst, rfl⟩
      have Hst := Lib.hid hst
      clear hst
      go_wp2_with fail
      go_ret
      exact ⟨rfl, Hst.out⟩
end Go.Proofs.YtadelkancmbanaaGreat
