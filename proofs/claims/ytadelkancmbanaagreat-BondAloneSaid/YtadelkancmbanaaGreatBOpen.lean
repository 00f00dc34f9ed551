/-
  BondAlone's arguments opened: numbers; a script of calls, each with its pairs.
-/
import Derived.Test.YtadelkancmbanaaGreatBAlone2
import Derived.Deep.Slices
import Derived.Deep.Strs
import Derived.ProofKit
import Derived.OpenShut
namespace Go.Proofs.YtadelkancmbanaaGreat
open Go.RowKit Go.Deep Go.ChangeShapes

section
variable {H : Type} {enc : TypeId × Value → H} {W : World} {base : Nat} {spare : Nat → Bool} {held : Bool}

theorem open_first {fuel n cap : Nat} {a : Option Addr} {x : DataW H × List MemPlace} (h : DataW.trod enc Tryz.prog W base spare held fuel 22 [.slice a n cap] = some x) :
    n = 0 ∨ ∃ (s o : Nat) (zs : List Int), a = some ⟨s, o, none⟩ ∧ zs.length = n ∧ ∀ j, j < n → W.cell? ⟨s, o + j, none⟩ = some (.int .i64 (zs.getD j 0)) := by
  rcases open_ints Tryz.underlying22 Tryz.underlying3 (by kernel_rfl) h with ⟨hcs, _⟩ | ⟨a', len', cap', zs, hcs, _, hl, hm, hz, _, hcell, _⟩
  · cases hcs; exact .inl rfl
  · cases hcs
    by_cases hn : n = 0
    · exact .inl hn
    · have hle : n ≤ zs.length := by rw [hz]; split <;> omega
      obtain ⟨b, off, rfl, hc⟩ := ints_at hcell (by omega)
      refine .inr ⟨b, off, zs.take n, rfl, by simp; omega, fun i hi => ?_⟩
      rw [hc i (by omega)]
      simp [List.getD_eq_getElem?_getD, List.getElem?_take, show i < n by omega]

set_option maxRecDepth 10000 in
theorem open_pair {fuel : Nat} {cs : List Value} {x : DataW H × List MemPlace} (h : DataW.trod enc Tryz.prog W base spare held fuel 52 cs = some x) : ∃ e : Int × Int, cs = [.int .i64 e.1, .int .i64 e.2] := by
  obtain ⟨xs, n, _, _, hl, hlen, hf⟩ := DataW.trod_struct Tryz.underlying52 h
  have hl2 : cs.length = 2 := by rw [hl]; kernel_rfl
  have hx2 : xs.length = 2 := hlen
  match cs, hl2, xs, hx2 with
  | [c0, c1], _, [y0, y1], _ =>
    have e0 : DataW.trod enc Tryz.prog W base spare held n 3 [c0] = some y0 := hf 0 _ rfl
    have e1 : DataW.trod enc Tryz.prog W base spare held n 3 [c1] = some y1 := hf 1 _ rfl
    obtain ⟨a, ha, _⟩ := DataW.trod_int Tryz.underlying3 e0
    obtain ⟨b, hb, _⟩ := DataW.trod_int Tryz.underlying3 e1
    cases ha; cases hb
    exact ⟨(a, b), rfl⟩

theorem addr_spot {a : Addr} {n : Nat} {cs : List Value} (h : W.cells? base a n = some cs) (hn : 0 < n) : ∃ s o, a = ⟨s, o, none⟩ ∧ s < W.heap.size := by
  obtain ⟨_, hl, hc⟩ := World.cells?_some h
  have h0 := hc 0 hn
  obtain ⟨v, hv⟩ : ∃ v, cs[0]? = some v := ⟨cs[0]'(by omega), by simp⟩
  rw [hv] at h0
  obtain ⟨b, off, spot⟩ := a
  have hs : spot = none := by simpa [Addr.add] using World.cell?_spot h0
  subst hs
  exact ⟨b, off, rfl, World.block_lt_of_cell? W _ h0⟩

theorem open_pairs {fuel : Nat} {v : Value} {x : DataW H × List MemPlace} (h : DataW.trod enc Tryz.prog W base spare held fuel 25 [v] = some x) :
    ∃ (p : Option Addr) (m cp : Nat) (d : Array (Int × Int)), v = .slice p m cp ∧ d.size = m ∧ PVal p d W ∧ (0 < m → ∀ x : Addr, p = some x → x.block < W.heap.size) := by
  rcases open_slice Tryz.underlying25 h with ⟨hcs, _⟩ | ⟨a, len, cap, m, n, D, Pl, hcs, _, hlc, _, hm, _, hel⟩
  · cases hcs; exact ⟨_, _, _, #[], rfl, rfl, .inl rfl, fun h => absurd h (by decide)⟩
  · cases hcs
    by_cases hn : len = 0
    · subst hn; exact ⟨_, _, _, #[], rfl, rfl, .inl rfl, fun h => absurd h (by decide)⟩
    · have hle : len ≤ m := by rw [hm]; split <;> omega
      have c2 : Tryz.prog.cellsOf 52 = 2 := by kernel_rfl
      rw [c2] at hel
      obtain ⟨cs0, hc0, _⟩ := hel 0 (by omega)
      obtain ⟨s, o, ha, hs⟩ := addr_spot hc0 (by omega)
      obtain ⟨s0, o0, sp⟩ := a
      have ha' : sp = none := by simp [Addr.add] at ha; exact ha.2.2
      subst ha'
      have hs0 : s0 = s := by simp [Addr.add] at ha; exact ha.1
      subst hs0
      obtain ⟨f, hf⟩ := choose_lt (α := Int × Int) (p := fun i e => W.cells? base ((⟨s0, o0, none⟩ : Addr).add (i * 2)) 2 = some [.int .i64 e.1, .int .i64 e.2]) (n := m) (fun i hi => by
        obtain ⟨cs', h1, h2⟩ := hel i hi
        obtain ⟨e, rfl⟩ := open_pair h2
        exact ⟨e, h1⟩)
      refine ⟨_, _, _, ((List.range len).map f).toArray, rfl, by simp, .inr ⟨s0, o0, rfl, fun k hk => ?_⟩, fun _ x hx => by cases hx; exact hs⟩
      simp only [List.size_toArray, List.length_map, List.length_range] at hk
      have e : ((List.range len).map f).toArray[k]! = f k := by simp [hk]
      rw [e]
      obtain ⟨_, _, hc⟩ := World.cells?_some (hf k (by omega))
      have q : ∀ j, ((⟨s0, o0, none⟩ : Addr).add (k * 2)).add j = ⟨s0, o0 + k * 2 + j, none⟩ := fun j => by rw [Addr.add_lit, Addr.add_lit]
      have a0 := hc 0 (by omega)
      have a1 := hc 1 (by omega)
      rw [q] at a0 a1
      exact ⟨a0, a1⟩

set_option maxRecDepth 10000 in
theorem open_op {fuel : Nat} {cs : List Value} {x : DataW H × List MemPlace} (h : DataW.trod enc Tryz.prog W base spare held fuel 27 cs = some x) :
    ∃ (k a b c : Int) (p : Option Addr) (m cp : Nat) (d : Array (Int × Int)), cs = [.int .i64 k, .int .i64 a, .int .i64 b, .int .i64 c, .slice p m cp] ∧ d.size = m ∧ PVal p d W ∧ (0 < m → ∀ x : Addr, p = some x → x.block < W.heap.size) := by
  obtain ⟨xs, n, _, _, hl, hlen, hf⟩ := DataW.trod_struct Tryz.underlying27 h
  have hl5 : cs.length = 5 := by rw [hl]; kernel_rfl
  have hx5 : xs.length = 5 := hlen
  match cs, hl5, xs, hx5 with
  | [c0, c1, c2, c3, c4], _, [y0, y1, y2, y3, y4], _ =>
    have e0 : DataW.trod enc Tryz.prog W base spare held n 3 [c0] = some y0 := hf 0 _ rfl
    have e1 : DataW.trod enc Tryz.prog W base spare held n 3 [c1] = some y1 := hf 1 _ rfl
    have e2 : DataW.trod enc Tryz.prog W base spare held n 3 [c2] = some y2 := hf 2 _ rfl
    have e3 : DataW.trod enc Tryz.prog W base spare held n 3 [c3] = some y3 := hf 3 _ rfl
    have e4 : DataW.trod enc Tryz.prog W base spare held n 25 [c4] = some y4 := hf 4 _ rfl
    obtain ⟨a, ha, _⟩ := DataW.trod_int Tryz.underlying3 e0
    obtain ⟨b, hb, _⟩ := DataW.trod_int Tryz.underlying3 e1
    obtain ⟨c, hc, _⟩ := DataW.trod_int Tryz.underlying3 e2
    obtain ⟨d, hd, _⟩ := DataW.trod_int Tryz.underlying3 e3
    obtain ⟨p, m, cp, dd, hv, h1, h2, h3⟩ := open_pairs e4
    cases ha; cases hb; cases hc; cases hd
    subst hv
    exact ⟨a, b, c, d, p, m, cp, dd, rfl, h1, h2, h3⟩

theorem open_script {fuel n cap : Nat} {a : Option Addr} {x : DataW H × List MemPlace} (h : DataW.trod enc Tryz.prog W base spare held fuel 23 [.slice a n cap] = some x) : ScriptB a n W := by
  rcases open_slice Tryz.underlying23 h with ⟨hcs, _⟩ | ⟨a', len, cap', m, n', D, Pl, hcs, _, hlc, _, hm, _, hel⟩
  · cases hcs; exact .inl rfl
  · cases hcs
    by_cases hn : n = 0
    · exact .inl hn
    · have hle : n ≤ m := by rw [hm]; split <;> omega
      have c5 : Tryz.prog.cellsOf 27 = 5 := by kernel_rfl
      rw [c5] at hel
      obtain ⟨cs0, hc0, _⟩ := hel 0 (by omega)
      obtain ⟨s, o, ha, hs⟩ := addr_spot hc0 (by omega)
      obtain ⟨s0, o0, sp⟩ := a'
      have ha' : sp = none := by simp [Addr.add] at ha; exact ha.2.2
      subst ha'
      have hs0 : s0 = s := by simp [Addr.add] at ha; exact ha.1
      subst hs0
      refine .inr ⟨s0, o0, rfl, fun i hi => ?_⟩
      obtain ⟨cs', h1, h2⟩ := hel i (by omega)
      obtain ⟨k, x, y, z, p, m', cp, d, rfl, g1, g2, g3⟩ := open_op h2
      obtain ⟨_, _, hc⟩ := World.cells?_some h1
      have q : ∀ j, ((⟨s0, o0, none⟩ : Addr).add (i * 5)).add j = ⟨s0, o0 + i * 5 + j, none⟩ := fun j => by rw [Addr.add_lit, Addr.add_lit]
      have a0 := hc 0 (by omega)
      have a1 := hc 1 (by omega)
      have a2 := hc 2 (by omega)
      have a3 := hc 3 (by omega)
      have a4 := hc 4 (by omega)
      rw [q] at a0 a1 a2 a3 a4
      exact ⟨k, x, y, z, p, m', cp, d, ⟨a0, a1, a2, a3, a4, g1, g2, g3⟩⟩
end
end Go.Proofs.YtadelkancmbanaaGreat
