/-
  A pool that is in order: the free places' list; taken from, given to.
-/
import Derived.Test.YtadelkancmbanaaGreatBDel
namespace Go.Proofs.YtadelkancmbanaaGreat
open Go.RowKit
attribute [local go_sem ↓] Go.wp_at_zero Go.wp_at_succ

structure PoolOk (n : Nat) (tbl : Nat → Slot) (next : Nat → Nat) (head : Int) (F : List Nat) (G : Int) : Prop where
  fl : FreeL n next (head / 1099511627776).toNat F
  nd : F.Nodup
  even : ∀ i, i ∈ F → (tbl i).gen % 2 = 0
  gen : ∀ i, i ≤ n → 0 ≤ (tbl i).gen ∧ (tbl i).gen ≤ G
  top : G ≤ 900000

theorem FreeL.mem {n : Nat} {next : Nat → Nat} : ∀ {h : Nat} {F : List Nat}, FreeL n next h F → ∀ i, i ∈ F → 1 ≤ i ∧ i ≤ n
  | _, [], _, _, hi => by cases hi
  | _, _ :: _, ⟨_, h2, h3, h4⟩, i, hi => by
    rcases List.mem_cons.1 hi with rfl | hi
    · exact ⟨h2, h3⟩
    · exact h4.mem i hi
theorem FreeL.head_le {n : Nat} {next : Nat → Nat} {h : Nat} {F : List Nat} (hf : FreeL n next h F) : h ≤ n := by
  cases F with
  | nil => have e : h = 0 := hf; omega
  | cons i r => obtain ⟨h1, _, h3, _⟩ := hf; omega

structure TookEnd (K : PB) (n i : Nat) (tbl : Nat → Slot) (next : Nat → Nat) (F : List Nat) (G : Int) (s : Slot) (w : World) (e : Ending) (w' : World) (head' : Int) : Prop where
  end_ : e = .returned (.tuple #[.int .i64 (hnd i s.gen), .int .i64 0])
  mem : PoolMem K n (upd tbl i s) next head' w'
  ok : PoolOk n (upd tbl i s) next head' F (G + 1)
  held : Held n (upd tbl i s) i s.gen
  keep : Keep K.has w.heap.size w w'

theorem take_ok (K : PB) (n i : Nat) (a b c d link G : Int) (tbl : Nat → Slot) (next : Nat → Nat) (head : Int) (F : List Nat) (w : World) (h : PoolMem K n tbl next head w) (ok : PoolOk n tbl next head (i :: F) G) (hG : G < 900000) :
    Calls Tryz.prog 54 #[.pointer (some ⟨K.p, 0, none⟩), .pointer none, nodeVal a b c d, .int .i64 link] w fun e w' => ∃ head', TookEnd K n i tbl next F G ⟨(tbl i).gen + 1, 0, link, a, b, c, d⟩ w e w' head' := by
  obtain ⟨f1, f2, f3, f4⟩ := ok.fl
  obtain ⟨d0, d1⟩ := h.hd
  have few := h.few
  have hg := ok.gen i f3
  have hev := ok.even i List.mem_cons_self
  have hnx := h.nextLe i f3
  have hnd := ok.nd
  rw [List.nodup_cons] at hnd
  refine (take_any K n i a b c d link tbl next head w h (by omega) f2 f3 hg.1 (by have := ok.top; omega)).mono fun e w' hE => ?_
  refine ⟨_, hE.end_, hE.mem, ⟨?_, hnd.2, fun j hj => ?_, fun j hj => ?_, by omega⟩, ⟨f2, f3, by rw [upd_same], by show ((tbl i).gen + 1) % 2 = 1; omega, by show 0 ≤ (tbl i).gen + 1; omega, by show (tbl i).gen + 1 ≤ 1000001; have := ok.top; omega⟩, hE.keep⟩
  · have e : (nextWord head (next i) / 1099511627776).toNat = next i := by
      have := (nextWord_bd head (next i) (by omega) (by omega)).2.2
      omega
    rw [e]; exact f4
  · have e : j ≠ i := fun e => hnd.1 (by rw [← e]; exact hj)
    rw [upd_other _ _ _ _ e]; exact ok.even j (List.mem_cons_of_mem _ hj)
  · by_cases e : j = i
    · subst e; rw [upd_same]; show 0 ≤ (tbl j).gen + 1 ∧ (tbl j).gen + 1 ≤ G + 1; omega
    · rw [upd_other _ _ _ _ e]; have := ok.gen j hj; omega

structure GaveEnd (K : PB) (n i : Nat) (g : Int) (tbl : Nat → Slot) (F : List Nat) (G : Int) (w : World) (e : Ending) (w' : World) (next' : Nat → Nat) (head' : Int) : Prop where
  end_ : e = .returned (.int .i64 0)
  mem : PoolMem K n (upd tbl i (poisoned (g + 1))) next' head' w'
  ok : PoolOk n (upd tbl i (poisoned (g + 1))) next' head' (i :: F) (G + 1)
  keep : Keep K.has w.heap.size w w'

theorem give_ok (K : PB) (n i : Nat) (g G : Int) (tbl : Nat → Slot) (next : Nat → Nat) (head : Int) (F : List Nat) (w : World) (h : PoolMem K n tbl next head w) (hh : Held n tbl i g) (ok : PoolOk n tbl next head F G) (hi : i ∉ F) (hG : G < 900000) :
    Calls Tryz.prog 71 #[.pointer (some ⟨K.p, 0, none⟩), .pointer none, .int .i64 (hnd i g)] w fun e w' => ∃ next' head', GaveEnd K n i g tbl F G w e w' next' head' := by
  obtain ⟨d0, d1⟩ := h.hd
  have few := h.few
  have hle := ok.fl.head_le
  have h1 := hh.lo
  have h2 := hh.hi
  have hgi := ok.gen i h2
  rw [hh.gen] at hgi
  have ho := hh.odd
  refine (give_any K n i (head / 1099511627776).toNat g tbl next head w h hh (by omega) hle).mono fun e w' hE => ?_
  have e1 : (nextWord head i / 1099511627776).toNat = i := by
    have := (nextWord_bd head i (by omega) (by omega)).2.2
    omega
  refine ⟨_, _, hE.end_, hE.mem, ⟨?_, List.nodup_cons.2 ⟨hi, ok.nd⟩, fun j hj => ?_, fun j hj => ?_, by omega⟩, hE.keep⟩
  · rw [e1]
    exact ⟨rfl, h1, h2, by rw [upd_same]; exact ok.fl.upd hi⟩
  · rcases List.mem_cons.1 hj with rfl | hj
    · rw [upd_same]; show (g + 1) % 2 = 0; omega
    · have e : j ≠ i := fun e => hi (by rw [← e]; exact hj)
      rw [upd_other _ _ _ _ e]; exact ok.even j hj
  · by_cases e : j = i
    · subst e; rw [upd_same]; show 0 ≤ g + 1 ∧ g + 1 ≤ G + 1; omega
    · rw [upd_other _ _ _ _ e]; have := ok.gen j hj; omega
end Go.Proofs.YtadelkancmbanaaGreat
