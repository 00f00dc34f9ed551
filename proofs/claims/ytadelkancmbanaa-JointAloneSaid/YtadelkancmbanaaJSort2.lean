/-
  The sort of slices.SortStableFunc: blocks of twenty, merged.
-/
import Derived.Test.YtadelkancmbanaaJSym3
namespace Go.Proofs.Ytadelkancmbanaa
open Go.RowKit
attribute [local go_sem ↓] Go.wp_at_zero Go.wp_at_succ

theorem Part.refl {g a b : Nat} {es : List AEnt} {w : World} (h : ERow g es w) : Part g a b es w es w := ⟨h, List.Perm.refl _, SameOut.refl _ _ _, Keep.refl _ _ _⟩
theorem Part.length {g a b : Nat} {es es' : List AEnt} {w w' : World} (h : Part g a b es w es' w') : es'.length = es.length := h.same.1
theorem Part.then {g a b x y : Nat} {es es1 es2 : List AEnt} {w w1 w2 : World} (h : Part g a b es w es1 w1) (k : Part g x y es1 w1 es2 w2) (hx : a ≤ x) (hy : y ≤ b) : Part g a b es w es2 w2 :=
  ⟨k.row, k.perm.trans h.perm, h.same.trans (k.same.mono hx hy), h.keep.trans (k.keep.mono h.keep.size)⟩

/-- Blocks of d entries are sorted. -/
def InB (es : List AEnt) (d n : Nat) : Prop := ∀ k p q, k * d ≤ p → p < q → q < (k + 1) * d → q < n → key es p ≤ key es q
/-- .. of 2 * d below j * (2 * d), of d from there on. -/
structure Mid (es : List AEnt) (d n j : Nat) : Prop where
  low : ∀ k p q, k < j → k * (2 * d) ≤ p → p < q → q < (k + 1) * (2 * d) → key es p ≤ key es q
  high : ∀ k p q, 2 * j ≤ k → k * d ≤ p → p < q → q < (k + 1) * d → q < n → key es p ≤ key es q

theorem Mid.start {es : List AEnt} {d n : Nat} (h : InB es d n) : Mid es d n 0 := ⟨fun k p q hk => by omega, fun k p q _ => h k p q⟩

theorem two_mul_d (j d : Nat) : 2 * j * d = j * (2 * d) := by rw [Nat.mul_comm 2 j, Nat.mul_assoc]
theorem blk1 {a j d : Nat} (ha : a = j * (2 * d)) : (2 * j) * d = a ∧ (2 * j + 1) * d = a + d ∧ (2 * j + 1 + 1) * d = a + 2 * d ∧ (j + 1) * (2 * d) = a + 2 * d := by
  have h1 : (2 * j) * d = a := by rw [ha, two_mul_d]
  have h2 : (2 * j + 1) * d = a + d := by rw [Nat.add_mul, h1, Nat.one_mul]
  refine ⟨h1, h2, ?_, ?_⟩
  · rw [Nat.add_mul, h2, Nat.one_mul]; omega
  · rw [Nat.add_mul, ← ha, Nat.one_mul]

theorem Mid.first {es : List AEnt} {a d n j : Nat} (h : Mid es d n j) (ha : a = j * (2 * d)) (hn : a + d ≤ n) : SortedOn es a (a + d) := fun p q h1 h2 h3 => by
  obtain ⟨e1, e2, _, _⟩ := blk1 ha
  exact h.high (2 * j) p q (Nat.le_refl _) (by omega) h2 (by omega) (by omega)
theorem Mid.second {es : List AEnt} {a b d n j : Nat} (h : Mid es d n j) (ha : a = j * (2 * d)) (hb : b ≤ a + 2 * d) (hn : b ≤ n) : SortedOn es (a + d) b := fun p q h1 h2 h3 => by
  obtain ⟨e1, e2, e3, _⟩ := blk1 ha
  exact h.high (2 * j + 1) p q (by omega) (by omega) h2 (by omega) (by omega)

theorem Mid.step {es es' : List AEnt} {a d n j : Nat} (h : Mid es d n j) (ha : a = j * (2 * d)) (hs : SortedOn es' a (a + 2 * d)) (ho : SameOut es es' a (a + 2 * d)) : Mid es' d n (j + 1) := by
  obtain ⟨e1, e2, e3, e4⟩ := blk1 ha
  refine ⟨fun k p q hk h1 h2 h3 => ?_, fun k p q hk h1 h2 h3 h4 => ?_⟩
  · by_cases hkj : k = j
    · subst hkj
      exact hs p q (by omega) h2 (by omega)
    · have hm : (k + 1) * (2 * d) ≤ j * (2 * d) := Nat.mul_le_mul_right _ (by omega)
      rw [ho.key (by omega), ho.key (by omega)]
      exact h.low k p q (by omega) h1 h2 h3
  · have hm : (2 * j + 1 + 1) * d ≤ k * d := Nat.mul_le_mul_right _ (by omega)
    rw [ho.key (by omega), ho.key (by omega)]
    exact h.high k p q (by omega) h1 h2 h3 h4

theorem Mid.done {es es' : List AEnt} {a d n j : Nat} (h : Mid es d n j) (ha : a = j * (2 * d)) (hn : n < a + 2 * d) (hs : SortedOn es' a n) (ho : SameOut es es' a n) : InB es' (2 * d) n := by
  obtain ⟨e1, e2, e3, e4⟩ := blk1 ha
  intro k p q h1 h2 h3 h4
  by_cases hk : k < j
  · have hm : (k + 1) * (2 * d) ≤ j * (2 * d) := Nat.mul_le_mul_right _ (by omega)
    rw [ho.key (by omega), ho.key (by omega)]
    exact h.low k p q hk h1 h2 h3
  · have hm : j * (2 * d) ≤ k * (2 * d) := Nat.mul_le_mul_right _ (by omega)
    exact hs p q (by omega) h2 h4

theorem Mid.rest {es : List AEnt} {a d n j : Nat} (h : Mid es d n j) (ha : a = j * (2 * d)) (hn : n ≤ a + d) : SortedOn es a n := fun p q h1 h2 h3 => by
  obtain ⟨e1, e2, _, _⟩ := blk1 ha
  exact h.high (2 * j) p q (Nat.le_refl _) (by omega) h2 (by omega) h3

theorem InB.all {es : List AEnt} {d n : Nat} (h : InB es d n) (hd : n ≤ d) : SortedOn es 0 n := fun p q _ h2 h3 => h 0 p q (by omega) h2 (by omega) h3

theorem inB_start {es : List AEnt} {a n j : Nat} (ha : a = j * 20) (hn : n < a + 20) (h1 : ∀ k, k < j → SortedOn es (k * 20) ((k + 1) * 20)) (h2 : SortedOn es a n) : InB es 20 n := fun k p q k1 k2 k3 k4 => by
  by_cases hk : k < j
  · exact h1 k hk p q k1 k2 k3
  · exact h2 p q (by omega) k2 k4

set_option maxRecDepth 100000 in
set_option maxHeartbeats 4000000 in
theorem sort_any (n : Nat) (hn : n ≤ 1000) : SortOk n := by
  intro g cap es w hlen hr hg
  subst hlen
  have H := Lib.hid hr
  clear hr
  go_enter Try.func65, Try.ntmps65
  go_wp2
  go_loopw [7, 8] (fun av bv wr => ∃ j a b es', av = .int .i64 ((a : Nat) : Int) ∧ bv = .int .i64 ((b : Nat) : Int) ∧ a = j * 20 ∧ b = a + 20 ∧ a ≤ es.length ∧ Part g 0 es.length es w es' wr ∧ (∀ k, k < j → SortedOn es' (k * 20) ((k + 1) * 20))) (fun a _ _ => es.length - (intOf a).toNat)
  case atStart => exact ⟨0, 0, 20, es, rfl, rfl, rfl, rfl, Nat.zero_le _, Part.refl H.out, fun k hk => by omega⟩
  case round =>
    obtain ⟨j, a, b, es', rfl, rfl, ha, hb, hal, hp, hs⟩ := hrel
    have Hp := Lib.hid hp
    have Hs := Lib.hid hs
    have Hl := Lib.hid hp.length
    have hgr : g < wr.heap.size := by have := hp.keep.size; omega
    by_cases hlt : b ≤ es.length
    · have hd : decide ((b : Int) ≤ (es.length : Int)) = true := by simp; omega
      have hi := insertion_any g cap a b es' wr hp.row (by omega) (by rw [Hl.out]; omega) (by rw [Hl.out]; omega) hgr
      rw [Hl.out] at hi
      have Hi := Lib.hid hi
      have Ha := Lib.hid ha
      have Hb := Lib.hid hb
      have hab : a < b := by omega
      clear hi hp hs ha hb
      go_wp2_with fail
      refine Hi.out.mono ?_
      rintro e w2 ⟨rfl, es2, hp2, hs2⟩
      have Hp2 := Lib.hid hp2
      have Hs2 := Lib.hid hs2
      clear hp2 hs2
      go_wp2
      go_roundw
      case rel =>
        have ha := Ha.out
        have hb := Hb.out
        refine ⟨j + 1, b, b + 20, es2, rfl, by go_num, by omega, by omega, hlt, Hp.out.then Hp2.out (Nat.zero_le _) hlt, fun k hk => ?_⟩
        by_cases hkj : k = j
        · subst hkj
          rw [show k * 20 = a by omega, show (k + 1) * 20 = b by omega]; exact Hs2.out
        · exact sorted_same (Hs.out k (by omega)) Hp2.out.same (.inl (by omega))
      case measure => simp [intOf]; omega
    · have hd : decide ((b : Int) ≤ (es.length : Int)) = false := by simp; omega
      have hi := insertion_any g cap a es.length es' wr hp.row hal (by rw [Hl.out]; omega) (by rw [Hl.out]; omega) hgr
      rw [Hl.out] at hi
      have Hi := Lib.hid hi
      have Ha := Lib.hid ha
      have hnb : es.length < a + 20 := by omega
      clear hi hp hs ha hb
      go_wp2_with fail
      refine Hi.out.mono ?_
      rintro e w2 ⟨rfl, es2, hp2, hs2⟩
      have hpw := Hp.out.then hp2 (Nat.zero_le _) (Nat.le_refl _)
      have hin := inB_start Ha.out hnb (fun k hk => sorted_same (Hs.out k hk) hp2.same (.inl (by have := Ha.out; omega))) hs2
      have Hpw := Lib.hid hpw
      have Hin := Lib.hid hin
      clear hp2 hs2 Hp Hs Hi Ha hpw hin Hl hd hlt hnb
      go_wp2
      go_loopw [6] (fun dv wr => ∃ d es', dv = .int .i64 ((d : Nat) : Int) ∧ 1 ≤ d ∧ d ≤ 2000 ∧ Part g 0 es.length es w es' wr ∧ InB es' d es.length) (fun d _ => es.length - (intOf d).toNat)
      case atStart => exact ⟨20, es2, rfl, by omega, by omega, Hpw.out, Hin.out⟩
      case round =>
        clear Hpw Hin
        obtain ⟨d, es3, rfl, hd1, hd2, hp3, hin3⟩ := hrel
        by_cases hdl : d < es.length
        · obtain ⟨D, hD⟩ : ∃ D : Nat, D = 2 * d := ⟨_, rfl⟩
          have hDi : 2 * (d : Int) = (D : Int) := by omega
          have hDi2 : (d : Int) * 2 = (D : Int) := by omega
          have hmid := Mid.start hin3
          have Hmid := Lib.hid hmid
          have Hp3 := Lib.hid hp3
          have HD := Lib.hid hD
          have hDb : D ≤ 2000 := by omega
          have hdD : d < D := by omega
          clear hin3 hmid hp3 hD
          go_wp2
          go_loopw [7, 8] (fun av bv wr => ∃ j a b es', av = .int .i64 ((a : Nat) : Int) ∧ bv = .int .i64 ((b : Nat) : Int) ∧ a = j * (2 * d) ∧ b = a + D ∧ a ≤ es.length ∧ Part g 0 es.length es w es' wr ∧ Mid es' d es.length j) (fun a _ _ => es.length - (intOf a).toNat)
          case atStart => exact ⟨0, 0, D, es3, rfl, rfl, by omega, by omega, Nat.zero_le _, Hp3.out, Hmid.out⟩
          case round =>
            clear Hp3 Hmid
            obtain ⟨j, a, b, es4, rfl, rfl, ha, hb, hal, hp4, hm4⟩ := hrel
            have Ha := Lib.hid ha
            have Hb := Lib.hid hb
            have Hp4 := Lib.hid hp4
            have Hm4 := Lib.hid hm4
            have Hl4 := Lib.hid hp4.length
            have hg4 : g < wr.heap.size := by have := hp4.keep.size; omega
            obtain ⟨m, hm⟩ : ∃ m : Nat, m = a + d := ⟨_, rfl⟩
            have hmi : (a : Int) + (d : Int) = (m : Int) := by omega
            have Hm := Lib.hid hm
            have ham : a < m := by omega
            have hmb : m < b := by omega
            have hbl : b ≤ 3000 := by omega
            clear ha hb hp4 hm4 hm
            by_cases hlt : b ≤ es.length
            · have hc := merge_ok es4.length g cap a m b es4 wr Hp4.out.row ham hmb (by rw [Hl4.out]; omega) (by rw [Hl4.out]; omega) (by rw [Hl4.out]; omega) hg4
                (by rw [Hm.out]; exact Hm4.out.first Ha.out (by have := Hm.out; omega)) (by rw [Hm.out]; exact Hm4.out.second Ha.out (by have := Hb.out; have := HD.out; omega) hlt)
              rw [Hl4.out] at hc
              have Hc := Lib.hid hc
              have hd : decide ((b : Int) ≤ (es.length : Int)) = true := by simp; omega
              clear hc
              go_wp2_with fail
              refine Hc.out.mono ?_
              rintro e w5 ⟨rfl, es5, hp5, hs5⟩
              have Hp5 := Lib.hid hp5
              have Hs5 := Lib.hid hs5
              clear hp5 hs5
              go_wp2
              go_roundw
              case rel =>
                have hb := Hb.out
                have hD := HD.out
                have hb2 : b = a + 2 * d := by omega
                refine ⟨j + 1, b, b + D, es5, rfl, by go_num, by rw [(blk1 Ha.out).2.2.2]; omega, rfl, hlt, Hp4.out.then Hp5.out (Nat.zero_le _) hlt, Hm4.out.step Ha.out (by rw [← hb2]; exact Hs5.out) (by rw [← hb2]; exact Hp5.out.same)⟩
              case measure => simp [intOf]; omega
            · have hd : decide ((b : Int) ≤ (es.length : Int)) = false := by simp; omega
              have hnb : es.length < b := by omega
              clear hlt
              by_cases hml : m < es.length
              · have hc := merge_ok es4.length g cap a m es.length es4 wr Hp4.out.row ham hml (by rw [Hl4.out]; omega) (by rw [Hl4.out]; omega) (by rw [Hl4.out]; omega) hg4
                  (by rw [Hm.out]; exact Hm4.out.first Ha.out (by have := Hm.out; omega)) (by rw [Hm.out]; exact Hm4.out.second Ha.out (by have := Hb.out; have := HD.out; omega) (Nat.le_refl _))
                rw [Hl4.out] at hc
                have Hc := Lib.hid hc
                have hd3 : decide ((m : Int) < (es.length : Int)) = true := by simpa using hml
                clear hc
                go_wp2_with fail
                refine Hc.out.mono ?_
                rintro e w5 ⟨rfl, es5, hp5, hs5⟩
                have Hp5 := Lib.hid hp5
                have Hs5 := Lib.hid hs5
                clear hp5 hs5
                go_wp2
                go_roundw
                case rel =>
                  refine ⟨D, es5, by go_num, by omega, by omega, Hp4.out.then Hp5.out (Nat.zero_le _) (Nat.le_refl _), ?_⟩
                  rw [HD.out]
                  exact Hm4.out.done Ha.out (by have := Hb.out; have := HD.out; omega) Hs5.out Hp5.out.same
                case measure => simp [intOf]; omega
              · have hd3 : decide ((m : Int) < (es.length : Int)) = false := by simp; omega
                go_wp2
                go_roundw
                case rel =>
                  refine ⟨D, es4, by go_num, by omega, by omega, Hp4.out, ?_⟩
                  rw [HD.out]
                  exact Hm4.out.done Ha.out (by have := Hb.out; have := HD.out; omega) (Hm4.out.rest Ha.out (by have := Hm.out; omega)) (SameOut.refl _ _ _)
                case measure => simp [intOf]; omega
        · have hd : decide ((d : Int) < (es.length : Int)) = false := by simp; omega
          have Hp3 := Lib.hid hp3
          have Hin3 := Lib.hid hin3
          clear hp3 hin3
          go_wp2
          refine bodyPost_end (results_none rfl _ _ _) rfl ?_
          exact ⟨rfl, es3, Hp3.out, Hin3.out.all (by omega)⟩
end Go.Proofs.Ytadelkancmbanaa
