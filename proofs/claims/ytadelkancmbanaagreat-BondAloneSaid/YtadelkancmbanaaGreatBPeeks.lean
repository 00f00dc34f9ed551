/-
  The law's snapshots; its peeks.
-/
import Derived.Test.YtadelkancmbanaaGreatBDoes5
import Derived.Test.YtadelkancmbanaaGreatBDoes4
import Derived.Test.YtadelkancmbanaaGreatBDoes3
import Derived.Test.YtadelkancmbanaaGreatBDoes1
import Derived.Test.YtadelkancmbanaaGreatBDoes7
namespace Go.Proofs.YtadelkancmbanaaGreat
open Go.RowKit
attribute [local go_sem ↓] Go.wp_at_zero Go.wp_at_succ

/-- A snapshot that the law has taken: its lease, its stamp, the copy's block and numbers, whether it is held. -/
structure Sn where
  li : Nat
  t : Int
  g : Nat
  cap : Nat
  l : List Int
  is : Bool
instance : Inhabited Sn := ⟨⟨0, 0, 0, 0, [], false⟩⟩
def snVal (N : Nat) (x : Sn) : Value := .agg #[.int .i64 x.li, .int .i64 x.t, .slice (some ⟨x.g, 0, none⟩) N x.cap, .bool x.is]

structure SnAt (S : St) (C : Nat → List Ver) (x : Sn) : Prop where
  li : x.li < S.ls.length
  t0 : 1 ≤ x.t ∧ x.t < S.cnow
  yes : x.is = true → S.ls.getD x.li 0 = x.t + 1 ∧ ∀ c, c < S.heads.length → ∃ y, (C c).find? (fun y => decide (y.s - 1 ≤ x.t)) = some y ∧ y.v = x.l.getD c 0
  no : x.is = false → S.ls.getD x.li 0 - 1 ≠ x.t

/-- The copy's numbers. -/
structure CRow (N : Nat) (x : Sn) (w : World) : Prop where
  cells : ∀ j, j < N → w.cell? ⟨x.g, j, none⟩ = some (.int .i64 (x.l.getD j 0))

theorem CRow.block {N : Nat} {x : Sn} {w w' : World} (h : CRow N x w) (hb : w'.heap[x.g]? = w.heap[x.g]?) : CRow N x w' := ⟨fun j hj => (World.cell?_of_block (a := ⟨x.g, j, none⟩) hb).trans (h.cells j hj)⟩
theorem CRow.lt {N : Nat} {x : Sn} {w : World} (h : CRow N x w) (hN : 1 ≤ N) : x.g < w.heap.size := World.block_lt_of_cell? _ _ (h.cells 0 (by omega))

def boxesP (Z : Fix) (N : Nat) (x : Sn) (w : World) : World :=
  (w.alloc (.cells #[.pointer (some ⟨Z.X.x, 0, none⟩), .pointer (some ⟨Z.K.p, 0, none⟩), .pointer (some ⟨Z.X.e, 0, none⟩), .pointer (some ⟨Z.X.c, 0, none⟩)] 33)).alloc (.cells #[.int .i64 x.li, .int .i64 x.t, .slice (some ⟨x.g, 0, none⟩) N x.cap, .bool x.is] 41)

set_option maxRecDepth 100000 in
set_option maxHeartbeats 6400000 in
theorem peeks_law (Z : Fix) (S : St) (C : Nat → List Ver) (F : List Nat) (W : List Wait) (G : Int) (x : Sn) (cell : Int) (w : World) (h : Inv Z S C F W G w) (hx : SnAt S C x) (hr : CRow S.heads.length x w) :
    Calls Tryz.prog 8 #[mVal Z, snVal S.heads.length x, .int .i64 cell] w fun e w' => e = .returned (.bool true) ∧ Below w.heap.size w w' := by
  obtain ⟨W0, hW0⟩ : ∃ W0, W0 = boxesP Z S.heads.length x w := ⟨_, rfl⟩
  have hbl : Below w.heap.size w W0 := by rw [hW0]; unfold boxesP; exact ((Below.refl _ _).alloc (Nat.le_refl _) _).alloc (by simp) _
  have hsz : W0.heap.size = w.heap.size + 2 := by rw [hW0]; unfold boxesP; simp
  have g0 : W0.heap[w.heap.size]? = some (.cells #[.pointer (some ⟨Z.X.x, 0, none⟩), .pointer (some ⟨Z.K.p, 0, none⟩), .pointer (some ⟨Z.X.e, 0, none⟩), .pointer (some ⟨Z.X.c, 0, none⟩)] 33 (0, 0)) := by rw [hW0]; unfold boxesP; exact heap_alloc2_old _ _ _
  have g1 : W0.heap[w.heap.size + 1]? = some (.cells #[.int .i64 x.li, .int .i64 x.t, .slice (some ⟨x.g, 0, none⟩) S.heads.length x.cap, .bool x.is] 41 (0, 0)) := by rw [hW0]; unfold boxesP; exact heap_alloc2_new _ _ _
  have c0 : W0.cell? ⟨w.heap.size, 0, none⟩ = some (.pointer (some ⟨Z.X.x, 0, none⟩)) := by simp [World.cell?, g0]
  have d0 : W0.cell? ⟨w.heap.size + 1, 0, none⟩ = some (.int .i64 x.li) := by simp [World.cell?, g1]
  have d1 : W0.cell? ⟨w.heap.size + 1, 1, none⟩ = some (.int .i64 x.t) := by simp [World.cell?, g1]
  have hi0 := h.below hbl
  have few := h.mem.bond.few
  have hbx : ∀ w', Below W0.heap.size W0 w' → w'.cell? ⟨w.heap.size + 1, 2, none⟩ = some (.slice (some ⟨x.g, 0, none⟩) S.heads.length x.cap) ∧ w'.cell? ⟨w.heap.size + 1, 3, none⟩ = some (.bool x.is) := fun w' hb => by
    have e := (hb.block (w.heap.size + 1) (by omega)).trans g1
    exact ⟨by simp [World.cell?, e], by simp [World.cell?, e]⟩
  have hcr : ∀ w', Below W0.heap.size W0 w' → CRow S.heads.length x w' := fun w' hb => (hr.block (hbl.block _ (hr.lt few.1))).block (hb.block _ (by have := hr.lt few.1; omega))
  have hpo : ¬ (0 ≤ cell ∧ cell < (S.heads.length : Int)) → Calls Tryz.prog 13 #[.pointer (some ⟨Z.X.x, 0, none⟩), .pointer none, snapVal x.li x.t, .int .i64 cell] W0 fun e w' => e = .returned (.tuple #[.int .i64 0, .int .i64 302]) ∧ Below W0.heap.size W0 w' := fun hn => bPeek_out Z S cell x.li x.t W0 hi0.mem hn
  have hpi : ∀ c : Nat, cell = (c : Int) → c < S.heads.length → Calls Tryz.prog 13 #[.pointer (some ⟨Z.X.x, 0, none⟩), .pointer none, snapVal x.li x.t, .int .i64 cell] W0 fun e w' => e = .returned (.tuple #[.int .i64 (if x.is then x.l.getD c 0 else 0), .int .i64 (if x.is then 0 else 305)]) ∧ Below W0.heap.size W0 w' := fun c e hc => by
    subst e
    obtain ⟨r, er, hch⟩ := hi0.top c hc
    have hpos : ∀ y, VerAt Z.n S.made S.tbl S.st y → 0 < hnd y.i y.g := fun y hy => by have := hy.held.lo; have := hy.held.g0; unfold hnd; omega
    cases hxi : x.is with
    | false =>
      have := bPeek_in Z S c x.li x.t (topOf C c) r (topOf C c) false W0 hi0.mem hc hch hx.li hx.t0.1 (by rw [beq_eq_false_iff_ne]; exact hx.no hxi) (fun hf => by cases hf) (hpos _ hch.2.1)
      exact this
    | true =>
      obtain ⟨hl, hall⟩ := hx.yes hxi
      obtain ⟨y, hy, hyv⟩ := hall c hc
      have hym : y ∈ C c := List.mem_of_find?_eq_some hy
      have := bPeek_in Z S c x.li x.t (topOf C c) r y true W0 hi0.mem hc hch hx.li hx.t0.1 (by rw [beq_iff_eq, hl]; omega) (fun _ => by rw [← er]; exact hy) (hpos _ (ChainAt.all (hi0.chain c hc) y hym))
      rw [hyv] at this
      exact this
  have HW := Lib.hid hW0
  have Hbl := Lib.hid hbl
  have Hbx := Lib.hid hbx
  have Hcr := Lib.hid hcr
  have Hpo := Lib.hid hpo
  have Hpi := Lib.hid hpi
  unfold boxesP at HW
  obtain ⟨N, hN⟩ : ∃ N, S.heads.length = N := ⟨_, rfl⟩
  clear hW0 hbl hsz g0 g1 hi0 hbx hcr hpo hpi h hx hr
  rw [HW.out] at c0 d0 d1
  rw [hN] at few HW Hbx Hcr Hpo Hpi c0 d0 d1 ⊢
  clear hN
  unfold mVal snVal
  unfold snapVal at Hpo Hpi
  obtain ⟨xl, hxl⟩ : ∃ a : Int, ((x.li : Nat) : Int) = a := ⟨_, rfl⟩
  obtain ⟨xt, hxt⟩ : ∃ a : Int, x.t = a := ⟨_, rfl⟩
  obtain ⟨xg, hxg⟩ : ∃ a, x.g = a := ⟨_, rfl⟩
  obtain ⟨xc, hxc⟩ : ∃ a, x.cap = a := ⟨_, rfl⟩
  obtain ⟨xi, hxi⟩ : ∃ a, x.is = a := ⟨_, rfl⟩
  have Hxg := Lib.hid hxg
  rw [hxl, hxt, hxg, hxc, hxi] at HW c0 d0 d1 ⊢
  rw [hxl, hxt] at Hpo Hpi
  rw [hxg, hxc, hxi] at Hbx
  rw [hxi] at Hpi
  clear hxl hxt hxg hxc hxi
  by_cases hin : 0 ≤ cell ∧ cell < (N : Int)
  · obtain ⟨c, rfl⟩ : ∃ c : Nat, cell = (c : Int) := ⟨cell.toNat, by omega⟩
    have hc : c < N := by omega
    have Hp := Lib.hid (Hpi.out c rfl hc)
    have m1 : decide ((c : Int) < 0) = false := decide_eq_false (by omega)
    have m2 : decide ((N : Int) ≤ (c : Int)) = false := decide_eq_false (by omega)
    have m3 : ¬ N ≤ c := by omega
    have m4 : (c : Int) < (N : Int) := by omega
    clear hin
    obtain ⟨lv, hlv⟩ : ∃ a, x.l.getD c 0 = a := ⟨_, rfl⟩
    rw [hlv] at Hp
    have Hlv := Lib.hid hlv
    clear hlv
    cases xi with
    | false =>
      go_enter Tryz.func8, Tryz.ntmps8
      go_wp2_with fail
      rw [← HW.out]
      refine Hp.out.mono ?_
      rintro e w2 ⟨rfl, hb2⟩
      obtain ⟨p2, p3⟩ := Hbx.out w2 hb2
      have Hend := Lib.hid (Hbl.out.trans (hb2.mono Hbl.out.size))
      clear hb2 c0 d0 d1
      go_wp2_with fail
      go_ret
      exact ⟨rfl, Hend.out⟩
    | true =>
      go_enter Tryz.func8, Tryz.ntmps8
      go_wp2_with fail
      rw [← HW.out]
      refine Hp.out.mono ?_
      rintro e w2 ⟨rfl, hb2⟩
      obtain ⟨p2, p3⟩ := Hbx.out w2 hb2
      have p4 := (Hcr.out w2 hb2).cells c hc
      rw [Hxg.out, Hlv.out] at p4
      have Hend := Lib.hid (Hbl.out.trans (hb2.mono Hbl.out.size))
      clear hb2 c0 d0 d1
      go_wp2_with fail
      go_ret
      exact ⟨rfl, Hend.out⟩
  · have Hp := Lib.hid (Hpo.out hin)
    rcases Int.lt_or_le cell 0 with hneg | hpos
    · have m1 : decide (cell < 0) = true := decide_eq_true hneg
      clear hin
      go_enter Tryz.func8, Tryz.ntmps8
      go_wp2_with fail
      rw [← HW.out]
      refine Hp.out.mono ?_
      rintro e w2 ⟨rfl, hb2⟩
      obtain ⟨p2, p3⟩ := Hbx.out w2 hb2
      have Hend := Lib.hid (Hbl.out.trans (hb2.mono Hbl.out.size))
      clear hb2 c0 d0 d1
      go_wp2_with fail
      go_ret
      exact ⟨rfl, Hend.out⟩
    · have m1 : decide (cell < 0) = false := decide_eq_false (by omega)
      have m2 : decide ((N : Int) ≤ cell) = true := decide_eq_true (by omega)
      clear hin
      go_enter Tryz.func8, Tryz.ntmps8
      go_wp2_with fail
      rw [← HW.out]
      refine Hp.out.mono ?_
      rintro e w2 ⟨rfl, hb2⟩
      obtain ⟨p2, p3⟩ := Hbx.out w2 hb2
      have Hend := Lib.hid (Hbl.out.trans (hb2.mono Hbl.out.size))
      clear hb2 c0 d0 d1
      go_wp2_with fail
      go_ret
      exact ⟨rfl, Hend.out⟩
end Go.Proofs.YtadelkancmbanaaGreat
