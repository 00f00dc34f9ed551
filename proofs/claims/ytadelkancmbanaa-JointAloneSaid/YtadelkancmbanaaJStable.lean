/-
  slices.SortedStableFunc over slices.Values: of few entries.
-/
import Derived.Test.YtadelkancmbanaaJRight2
namespace Go.Proofs.Ytadelkancmbanaa
open Go.RowKit

theorem collect_any (Bv b off cap : Nat) (es : List AEnt) (hlen : es.length ≤ 1000) (w : World)
    (hc : w.cell? ⟨Bv, 0, none⟩ = some (.slice (some ⟨b, off, none⟩) es.length cap)) (hI : AEntsAt b off es w) (hbl : b < w.heap.size) :
    Calls Try.prog 48 #[.func (.func 50) #[] #[.pointer (some ⟨Bv, 0, none⟩)]] w (SeqEnd w.heap.size es w) := by
  have h := (appendSeq_in { fn := fun _ => True } 4 trivial trivial rfl (Nat.le_refl _) Bv b off cap es hlen w hc hI hbl).calls (fun k d hd => by cases hd)
  have H := Lib.hid h
  clear h hI hc
  go_enter Try.func48, Try.ntmps48
  go_wp2_with (go_at_call 64; refine H.out.mono ?_; rintro e w' ⟨v, rfl, hr, hb⟩; have Hr := Lib.hid hr; have Hb := Lib.hid hb; clear hr hb)
  go_ret
  exact ⟨_, rfl, Hr.out, Hb.out⟩

theorem erow_of_owns {w : World} {base g cap : Nat} {es : List AEnt} (h : w.ownsRow base 43 3 (.slice (some ⟨g, 0, none⟩) es.length cap) es.length (aCells es)) : ERow g es w :=
  ⟨fun k hk => by
    obtain ⟨a, b, c⟩ := aCells_get es k hk
    simp only [Nat.zero_add]
    rw [h.cellAt _ (by omega), h.cellAt _ (by omega), h.cellAt _ (by omega)]
    exact ⟨a, b, c⟩, fun i _ => h.frozenAt i⟩

/-- A sort of so many entries. -/
def SortOk (n : Nat) : Prop := ∀ (g cap : Nat) (es : List AEnt) (w : World), es.length = n → ERow g es w → g < w.heap.size →
  Calls Try.prog 65 #[.slice (some ⟨g, 0, none⟩) es.length cap, .int .i64 es.length, .func (.func 32) #[] #[]] w (InsEnd g 0 es.length es w)

set_option maxHeartbeats 400000 in
theorem sortOk_small (n : Nat) (hn : n < 20) : SortOk n := by
  intro g cap es w hl hr hg
  subst hl
  have H := Lib.hid hr
  clear hr
  have hd : decide ((20 : Int) ≤ (es.length : Int)) = false := by simp; omega
  have hd2 : decide ((20 : Int) < (es.length : Int)) = false := by simp; omega
  have hi := insertion_any g cap 0 es.length es w H.out (Nat.zero_le _) (Nat.le_refl _) (by omega) hg
  have Hi := Lib.hid hi
  clear hi
  go_enter Try.func65, Try.ntmps65
  go_wp2
  refine wp_loop_rounds 1 ?_
  rw [rounds_succ]
  go_wp2_with fail
  refine Hi.out.mono ?_
  rintro e w' ⟨rfl, es', hp, hs⟩
  have Hp := Lib.hid hp
  have Hs := Lib.hid hs
  clear hp hs
  go_wp2
  refine wp_loop_rounds 1 ?_
  rw [rounds_succ]
  go_wp2
  refine bodyPost_end (results_none rfl _ _ _) rfl ?_
  exact ⟨rfl, es', Hp.out, Hs.out⟩

theorem sortStable_any (g cap : Nat) (es : List AEnt) (w : World) (hs : SortOk es.length) (hr : ERow g es w) (hg : g < w.heap.size) :
    Calls Try.prog 49 #[.slice (some ⟨g, 0, none⟩) es.length cap, .func (.func 32) #[] #[]] w (InsEnd g 0 es.length es w) := by
  have H := Lib.hid (hs g cap es w rfl hr hg)
  clear hs hr
  go_enter Try.func49, Try.ntmps49
  go_wp2_with fail
  refine H.out.mono ?_
  rintro e w' ⟨rfl, es', hp, hs⟩
  have Hp := Lib.hid hp
  have Hs := Lib.hid hs
  clear hp hs
  go_wp2
  refine bodyPost_end (results_none rfl _ _ _) rfl ?_
  exact ⟨rfl, es', Hp.out, Hs.out⟩

/-- Sorted entries in memory of the call's own. -/
def SortedEnd (es : List AEnt) (w : World) (e : Ending) (w' : World) : Prop := ∃ g cap es', e = .returned (.slice (some ⟨g, 0, none⟩) es.length cap) ∧ ERow g es' w' ∧ w.heap.size ≤ g ∧ g < w'.heap.size ∧ es'.Perm es ∧ SortedOn es' 0 es.length ∧ Below w.heap.size w w'

theorem sorted_any (Bv b off cap : Nat) (es : List AEnt) (h1 : 1 ≤ es.length) (hlen : es.length ≤ 1000) (hs : SortOk es.length) (w : World)
    (hc : w.cell? ⟨Bv, 0, none⟩ = some (.slice (some ⟨b, off, none⟩) es.length cap)) (hI : AEntsAt b off es w) (hbl : b < w.heap.size) :
    Calls Try.prog 30 #[.func (.func 50) #[] #[.pointer (some ⟨Bv, 0, none⟩)], .func (.func 32) #[] #[]] w (SortedEnd es w) := by
  have H := Lib.hid (collect_any Bv b off cap es hlen w hc hI hbl)
  have Hs := Lib.hid hs
  clear hs hI hc
  go_enter Try.func30, Try.ntmps30
  go_wp2_with fail
  refine H.out.mono ?_
  rintro e w1 ⟨v, rfl, hr, hb⟩
  obtain ⟨g, cap', rfl, hg1, hg2⟩ := hr.form (by omega)
  have hrow := erow_of_owns hr
  have Hst := Lib.hid (sortStable_any g cap' es w1 Hs.out hrow hg2)
  have Hb := Lib.hid hb
  clear hr hb hrow
  go_wp2_with fail
  refine Hst.out.mono ?_
  rintro e w2 ⟨rfl, es', hp, hso⟩
  have Hp := Lib.hid hp
  have Hso := Lib.hid hso
  clear hp hso
  go_wp2
  go_ret
  have hk := Hp.out.keep
  have hbel : Below w.heap.size w w2 := Hb.out.trans ⟨hk.os, hk.tape, hk.output, hk.size, fun k hkl => hk.block k (by omega) (by omega)⟩
  exact ⟨g, cap', es', rfl, Hp.out.row, hg1, by have := hk.size; omega, Hp.out.perm, Hso.out, hbel⟩
end Go.Proofs.Ytadelkancmbanaa
