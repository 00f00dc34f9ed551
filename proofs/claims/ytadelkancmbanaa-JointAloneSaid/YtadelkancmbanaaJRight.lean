/-
  right: may a list of entries, by their cells, be?
-/
import Derived.Test.YtadelkancmbanaaJIns
namespace Go.Proofs.Ytadelkancmbanaa
open Go.RowKit
attribute [local go_sem ↓] Go.wp_at_zero Go.wp_at_succ

/-- May the numbers of an entry be? -/
def AEnt.lies (x : AEnt) : Prop := Lies x.o ∧ Lies x.n
def laid1 (x : AEnt) (w : World) : World := w.alloc (.cells #[.int .i64 x.c, .int .i64 x.o, .int .i64 x.n] 43)

theorem right1_good (x : AEnt) (w : World) (h : x.lies) : Calls Try.prog 53 #[aVal x] w fun e w' => e = .returned (.bool false) ∧ laid1 x w = w' := by
  obtain ⟨⟨h0, h1⟩, h2, h3⟩ := h
  unfold aVal laid1
  go_enter Try.func53, Try.ntmps53
  go_wp2_with (first | (go_at_call 16; ((with_reducible refine (lies_yes _ _ h0 h1).mono ?_); rintro e w' ⟨rfl, rfl⟩)) | (go_at_call 16; ((with_reducible refine (lies_yes _ _ h2 h3).mono ?_); rintro e w' ⟨rfl, rfl⟩)))
  go_ret
  exact ⟨rfl, rfl⟩

theorem right1_bad (x : AEnt) (w : World) (h : ¬ x.lies) : Calls Try.prog 53 #[aVal x] w fun e w' => e = .returned (.bool true) ∧ laid1 x w = w' := by
  by_cases ho : Lies x.o
  · have hn : x.n < 0 ∨ 1048575 < x.n := by
      have : ¬ Lies x.n := fun hn => h ⟨ho, hn⟩
      unfold Lies at this; omega
    obtain ⟨h0, h1⟩ := ho
    have Hn := Lib.hid hn
    clear h hn
    unfold aVal laid1
    go_enter Try.func53, Try.ntmps53
    go_wp2_with (first | (go_at_call 16; ((with_reducible refine (lies_yes _ _ h0 h1).mono ?_); rintro e w' ⟨rfl, rfl⟩)) | (go_at_call 16; ((with_reducible refine (lies_no _ _ Hn.out).mono ?_); rintro e w' ⟨rfl, rfl⟩)))
    go_ret
    exact ⟨rfl, rfl⟩
  · have hn : x.o < 0 ∨ 1048575 < x.o := by unfold Lies at ho; omega
    have Hn := Lib.hid hn
    clear h hn ho
    unfold aVal laid1
    go_enter Try.func53, Try.ntmps53
    go_wp2_with (first | (go_at_call 16; ((with_reducible refine (lies_no _ _ Hn.out).mono ?_); rintro e w' ⟨rfl, rfl⟩)))
    go_ret
    exact ⟨rfl, rfl⟩

theorem callRight1 (cap : Array Value) : ∀ w, (callFunc 53 cap).run Try.prog w = .ok (.enter 53 cap) w := fun w => by kernel_rfl

def badAtE (es : List AEnt) (r : Int) : Prop := (r = -1 ∧ ∀ i, i < es.length → (es[i]!).lies) ∨ (∃ k : Nat, r = k ∧ k < es.length ∧ ¬ (es[k]!).lies)
def IndexEndE (es : List AEnt) (w : World) (e : Ending) (w' : World) : Prop := ∃ r : Int, e = .returned (.int .i64 r) ∧ badAtE es r ∧ Below w.heap.size w w'

theorem below_laid1 {B : Nat} {a w : World} (x : AEnt) (h : Below B a w) (hB : B ≤ w.heap.size) : Below B a (laid1 x w) := h.alloc hB _

set_option maxHeartbeats 400000 in
theorem index_ents (s cap : Nat) (es : List AEnt) (w : World) (h : AEntsAt s 0 es w) (hn : es.length ≤ 1000) (hs : s < w.heap.size) : Calls Try.prog 66 #[.slice (some ⟨s, 0, none⟩) es.length cap, .func (.func 53) #[] #[]] w (IndexEndE es w) := by
  have H := Lib.hid h
  clear h
  have hcall := callRight1
  go_enter Try.func66, Try.ntmps66
  go_wp2
  go_loopw [8] (fun i wr => ∃ k : Nat, k ≤ es.length ∧ i = .int .i64 k ∧ (∀ j, j < k → (es[j]!).lies) ∧ Below w.heap.size w wr) (fun i _ => es.length - (intOf i).toNat)
  case atStart => exact ⟨0, Nat.zero_le _, rfl, fun j hj => by omega, Below.refl _ _⟩
  case round =>
    obtain ⟨k, hk, rfl, hgood, hbel⟩ := hrel
    have Hg := Lib.hid hgood
    have Hbel := Lib.hid hbel
    by_cases hlt : k < es.length
    · obtain ⟨c0, c1, c2⟩ := H.out k hlt
      simp only [Nat.zero_add] at c0 c1 c2
      have c0 := (hbel.cell (p := ⟨s, k * 3, none⟩) hs).trans c0
      have c1 := (hbel.cell (p := ⟨s, k * 3 + 1, none⟩) hs).trans c1
      have c2 := (hbel.cell (p := ⟨s, k * 3 + 2, none⟩) hs).trans c2
      generalize hz : es[k]! = z at c0 c1 c2
      have Hz := Lib.hid hz
      clear hz hgood hbel
      by_cases hl : z.lies
      · have hc := right1_good z wr hl
        have Hl := Lib.hid hl
        obtain ⟨zc, zo, zn⟩ := z
        dsimp only at c0 c1 c2
        dsimp only [aVal] at hc
        have Hc := Lib.hid hc
        clear hl hc
        go_wp2_with (go_at_call 53; refine Hc.out.mono ?_; rintro e w' ⟨rfl, hw'⟩; have Hw' := Lib.hid hw'; clear hw')
        go_roundw
        case rel => exact ⟨k + 1, by omega, by go_num, fun j hj => by
          by_cases e : j = k
          · subst e; rw [Hz.out]; exact Hl.out
          · exact Hg.out j (by omega), by rw [← Hw'.out]; exact below_laid1 _ Hbel.out Hbel.out.size⟩
        case measure => simp [intOf]; omega
      · have hc := right1_bad z wr hl
        have Hl := Lib.hid hl
        obtain ⟨zc, zo, zn⟩ := z
        dsimp only at c0 c1 c2
        dsimp only [aVal] at hc
        have Hc := Lib.hid hc
        clear hl hc
        go_wp2_with (go_at_call 53; refine Hc.out.mono ?_; rintro e w' ⟨rfl, hw'⟩; have Hw' := Lib.hid hw'; clear hw')
        go_ret
        exact ⟨k, rfl, .inr ⟨k, rfl, hlt, by rw [Hz.out]; exact Hl.out⟩, by rw [← Hw'.out]; exact below_laid1 _ Hbel.out Hbel.out.size⟩
    · go_wp2
      go_ret
      exact ⟨-1, rfl, .inl ⟨rfl, fun i hi => Hg.out i (by omega)⟩, hbel⟩

theorem contains_good (s cap : Nat) (es : List AEnt) (w : World) (h : AEntsAt s 0 es w) (hn : es.length ≤ 1000) (hs : s < w.heap.size) (hb : ∀ i, i < es.length → (es[i]!).lies) : Calls Try.prog 52 #[.slice (some ⟨s, 0, none⟩) es.length cap, .func (.func 53) #[] #[]] w fun e w' => e = .returned (.bool false) ∧ Below w.heap.size w w' := by
  have H := Lib.hid h
  have Hb := Lib.hid hb
  clear h hb
  go_enter Try.func52, Try.ntmps52
  go_wp2_with fail
  refine (index_ents s cap es w H.out hn hs).mono ?_
  rintro e w' ⟨r, rfl, hbad, hbel⟩
  obtain rfl : r = -1 := by
    rcases hbad with ⟨rfl, _⟩ | ⟨k, _, hk, hg⟩
    · rfl
    · exact absurd (Hb.out k hk) hg
  have Hbel := Lib.hid hbel
  clear hbad hbel
  go_wp2
  go_ret
  exact ⟨rfl, Hbel.out⟩

theorem contains_bad (s cap j : Nat) (es : List AEnt) (w : World) (h : AEntsAt s 0 es w) (hn : es.length ≤ 1000) (hs : s < w.heap.size) (hj : j < es.length) (hb : ¬ (es[j]!).lies) : Calls Try.prog 52 #[.slice (some ⟨s, 0, none⟩) es.length cap, .func (.func 53) #[] #[]] w fun e w' => e = .returned (.bool true) ∧ Below w.heap.size w w' := by
  have H := Lib.hid h
  have Hb := Lib.hid hb
  clear h hb
  go_enter Try.func52, Try.ntmps52
  go_wp2_with fail
  refine (index_ents s cap es w H.out hn hs).mono ?_
  rintro e w' ⟨r, rfl, hbad, hbel⟩
  obtain ⟨k, rfl, hk⟩ : ∃ k : Nat, r = k ∧ True := by
    rcases hbad with ⟨_, hg⟩ | ⟨k, rfl, hk, hg⟩
    · exact absurd (hg j hj) Hb.out
    · exact ⟨k, rfl, trivial⟩
  have Hbel := Lib.hid hbel
  clear hbad hbel hk
  go_wp2
  go_ret
  exact ⟨rfl, Hbel.out⟩
end Go.Proofs.Ytadelkancmbanaa
