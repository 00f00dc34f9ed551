/-
  JointAlone's arguments opened: numbers; a script of calls, each with its entries.
-/
import Derived.Test.YtadelkancmbanaaJAlone2
import Derived.Deep.Slices
import Derived.Deep.Strs
import Derived.ProofKit
import Derived.OpenShut
namespace Go.Proofs.Ytadelkancmbanaa
open Go.RowKit Go.Deep Go.ChangeShapes

section
variable {H : Type} {enc : TypeId × Value → H} {W : World} {base : Nat} {spare : Nat → Bool} {held : Bool}

theorem open_first {fuel n cap : Nat} {a : Option Addr} {x : DataW H × List MemPlace} (h : DataW.trod enc Try.prog W base spare held fuel 22 [.slice a n cap] = some x) :
    n = 0 ∨ ∃ s o zs, a = some ⟨s, o, none⟩ ∧ zs.length = n ∧ IntsAt s o zs W ∧ s < W.heap.size := by
  rcases open_ints Try.underlying22 Try.underlying3 (by kernel_rfl) h with ⟨hcs, _⟩ | ⟨a', len', cap', zs, hcs, _, hl, hm, hz, _, hcell, _⟩
  · cases hcs; exact .inl rfl
  · cases hcs
    by_cases hn : n = 0
    · exact .inl hn
    · have hle : n ≤ zs.length := by rw [hz]; split <;> omega
      obtain ⟨b, off, rfl, hc⟩ := ints_at hcell (by omega)
      refine .inr ⟨b, off, zs.take n, rfl, by simp; omega, fun i hi => ?_, World.block_lt_of_cell? W _ (hc 0 (by omega))⟩
      simp only [List.length_take] at hi
      rw [hc i (by omega)]
      simp [List.getD_eq_getElem?_getD, List.getElem?_take, show i < n by omega]

set_option maxRecDepth 10000 in
theorem open_ent {fuel : Nat} {cs : List Value} {x : DataW H × List MemPlace} (h : DataW.trod enc Try.prog W base spare held fuel 43 cs = some x) : ∃ e : AEnt, cs = [.int .i64 e.c, .int .i64 e.o, .int .i64 e.n] := by
  obtain ⟨y0, y1, y2, n, _, hl, h0, h1, h2⟩ := trod_struct3 Try.underlying43 h
  have hl3 : cs.length = 3 := by rw [hl]; kernel_rfl
  match cs, hl3 with
  | [c0, c1, c2], _ =>
    have e0 : DataW.trod enc Try.prog W base spare held n 3 [c0] = some y0 := h0
    have e1 : DataW.trod enc Try.prog W base spare held n 3 [c1] = some y1 := h1
    have e2 : DataW.trod enc Try.prog W base spare held n 3 [c2] = some y2 := h2
    obtain ⟨a, ha, _⟩ := DataW.trod_int Try.underlying3 e0
    obtain ⟨b, hb, _⟩ := DataW.trod_int Try.underlying3 e1
    obtain ⟨c, hc, _⟩ := DataW.trod_int Try.underlying3 e2
    cases ha; cases hb; cases hc
    exact ⟨⟨a, b, c⟩, rfl⟩

theorem addr_spot {a : Addr} {n : Nat} {cs : List Value} (h : W.cells? base a n = some cs) (hn : 0 < n) : ∃ s o, a = ⟨s, o, none⟩ ∧ s < W.heap.size := by
  obtain ⟨_, hl, hc⟩ := World.cells?_some h
  have h0 := hc 0 hn
  obtain ⟨v, hv⟩ : ∃ v, cs[0]? = some v := ⟨cs[0]'(by omega), by simp⟩
  rw [hv] at h0
  obtain ⟨b, off, spot⟩ := a
  have hs : spot = none := by simpa [Addr.add] using World.cell?_spot h0
  subst hs
  exact ⟨b, off, rfl, World.block_lt_of_cell? W _ h0⟩

theorem open_list {fuel : Nat} {v : Value} {x : DataW H × List MemPlace} (h : DataW.trod enc Try.prog W base spare held fuel 29 [v] = some x) : LVal0 v W := by
  rcases open_slice Try.underlying29 h with ⟨hcs, _⟩ | ⟨a, len, cap, m, n, D, Pl, hcs, _, hlc, _, hm, _, hel⟩
  · cases hcs; exact .inl ⟨_, _, rfl⟩
  · cases hcs
    by_cases hn : len = 0
    · subst hn; exact .inl ⟨_, _, rfl⟩
    · have hle : len ≤ m := by rw [hm]; split <;> omega
      have c3 : Try.prog.cellsOf 43 = 3 := by kernel_rfl
      rw [c3] at hel
      obtain ⟨cs0, hc0, _⟩ := hel 0 (by omega)
      obtain ⟨s, o, ha, hs⟩ := addr_spot hc0 (by omega)
      obtain ⟨s0, o0, sp⟩ := a
      have ha' : sp = none := by simp [Addr.add] at ha; exact ha.2.2
      subst ha'
      have hs0 : s0 = s := by simp [Addr.add] at ha; exact ha.1
      subst hs0
      obtain ⟨f, hf⟩ := choose_lt (α := AEnt) (p := fun i e => W.cells? base ((⟨s0, o0, none⟩ : Addr).add (i * 3)) 3 = some [.int .i64 e.c, .int .i64 e.o, .int .i64 e.n]) (n := m) (fun i hi => by
        obtain ⟨cs', h1, h2⟩ := hel i hi
        obtain ⟨e, rfl⟩ := open_ent h2
        exact ⟨e, h1⟩)
      refine .inr ⟨s0, o0, cap, (List.range len).map f, by simp, by simp; omega, fun k hk => ?_, hs⟩
      simp only [List.length_map, List.length_range] at hk
      have e : ((List.range len).map f)[k]! = f k := by simp [hk]
      rw [e]
      obtain ⟨_, _, hc⟩ := World.cells?_some (hf k (by omega))
      have q : ∀ j, ((⟨s0, o0, none⟩ : Addr).add (k * 3)).add j = ⟨s0, o0 + k * 3 + j, none⟩ := fun j => by rw [addr_add, addr_add]
      have a0 := hc 0 (by omega)
      have a1 := hc 1 (by omega)
      have a2 := hc 2 (by omega)
      rw [q] at a0 a1 a2
      exact ⟨a0, a1, a2⟩

set_option maxRecDepth 10000 in
theorem open_op {fuel : Nat} {cs : List Value} {x : DataW H × List MemPlace} (h : DataW.trod enc Try.prog W base spare held fuel 31 cs = some x) : ∃ k x y z lv, cs = [.int .i64 k, .int .i64 x, .int .i64 y, .int .i64 z, lv] ∧ LVal0 lv W := by
  obtain ⟨xs, n, _, _, hl, hlen, hf⟩ := DataW.trod_struct Try.underlying31 h
  have hl5 : cs.length = 5 := by rw [hl]; kernel_rfl
  have hx5 : xs.length = 5 := hlen
  match cs, hl5, xs, hx5 with
  | [c0, c1, c2, c3, c4], _, [y0, y1, y2, y3, y4], _ =>
    have e0 : DataW.trod enc Try.prog W base spare held n 3 [c0] = some y0 := hf 0 _ rfl
    have e1 : DataW.trod enc Try.prog W base spare held n 3 [c1] = some y1 := hf 1 _ rfl
    have e2 : DataW.trod enc Try.prog W base spare held n 3 [c2] = some y2 := hf 2 _ rfl
    have e3 : DataW.trod enc Try.prog W base spare held n 3 [c3] = some y3 := hf 3 _ rfl
    have e4 : DataW.trod enc Try.prog W base spare held n 29 [c4] = some y4 := hf 4 _ rfl
    obtain ⟨a, ha, _⟩ := DataW.trod_int Try.underlying3 e0
    obtain ⟨b, hb, _⟩ := DataW.trod_int Try.underlying3 e1
    obtain ⟨c, hc, _⟩ := DataW.trod_int Try.underlying3 e2
    obtain ⟨d, hd, _⟩ := DataW.trod_int Try.underlying3 e3
    cases ha; cases hb; cases hc; cases hd
    exact ⟨a, b, c, d, c4, rfl, open_list e4⟩

theorem open_script {fuel n cap : Nat} {a : Option Addr} {x : DataW H × List MemPlace} (h : DataW.trod enc Try.prog W base spare held fuel 23 [.slice a n cap] = some x) : ScriptAt a n W := by
  rcases open_slice Try.underlying23 h with ⟨hcs, _⟩ | ⟨a', len, cap', m, n', D, Pl, hcs, _, hlc, _, hm, _, hel⟩
  · cases hcs; exact .inl rfl
  · cases hcs
    by_cases hn : n = 0
    · exact .inl hn
    · have hle : n ≤ m := by rw [hm]; split <;> omega
      have c5 : Try.prog.cellsOf 31 = 5 := by kernel_rfl
      rw [c5] at hel
      obtain ⟨cs0, hc0, _⟩ := hel 0 (by omega)
      obtain ⟨s, o, ha, hs⟩ := addr_spot hc0 (by omega)
      obtain ⟨s0, o0, sp⟩ := a'
      have ha' : sp = none := by simp [Addr.add] at ha; exact ha.2.2
      subst ha'
      have hs0 : s0 = s := by simp [Addr.add] at ha; exact ha.1
      subst hs0
      refine .inr ⟨s0, o0, rfl, hs, fun i hi => ?_⟩
      obtain ⟨cs', h1, h2⟩ := hel i (by omega)
      obtain ⟨k, x, y, z, lv, rfl, hlv⟩ := open_op h2
      obtain ⟨_, _, hc⟩ := World.cells?_some h1
      have q : ∀ j, ((⟨s0, o0, none⟩ : Addr).add (i * 5)).add j = ⟨s0, o0 + i * 5 + j, none⟩ := fun j => by rw [addr_add, addr_add]
      have a0 := hc 0 (by omega)
      have a1 := hc 1 (by omega)
      have a2 := hc 2 (by omega)
      have a3 := hc 3 (by omega)
      have a4 := hc 4 (by omega)
      rw [q] at a0 a1 a2 a3 a4
      exact ⟨k, x, y, z, lv, a0, a1, a2, a3, a4, hlv⟩
end
end Go.Proofs.Ytadelkancmbanaa
