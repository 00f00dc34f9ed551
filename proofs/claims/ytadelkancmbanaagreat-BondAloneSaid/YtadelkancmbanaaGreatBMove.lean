/-
  bond.Cells: Move.
-/
import Derived.Test.YtadelkancmbanaaGreatBMany
namespace Go.Proofs.YtadelkancmbanaaGreat
open Go.RowKit
attribute [local go_sem ↓] Go.wp_at_zero Go.wp_at_succ

theorem callMoveL (cap : Array Value) : ∀ w, (callFunc 41 cap).run Tryz.prog w = .ok (.enter 41 cap) w := fun w => by kernel_rfl

/-- The boxes of Move's arguments. -/
def boxes5 (w : World) (x : Nat) (a b n : Int) : World := ((((w.alloc (.cells #[.pointer (some ⟨x, 0, none⟩)] 28)).alloc (.cells #[.pointer none] 66)).alloc (.cells #[.int .i64 a] 3)).alloc (.cells #[.int .i64 b] 3)).alloc (.cells #[.int .i64 n] 3)

theorem boxes5_below (w : World) (x : Nat) (a b n : Int) : Below w.heap.size w (boxes5 w x a b n) := by
  unfold boxes5
  exact (((((Below.refl _ _).alloc (Nat.le_refl _) _).alloc (by simp) _).alloc (by simp; omega) _).alloc (by simp; omega) _).alloc (by simp; omega) _

theorem boxes5_cells (w : World) (x : Nat) (a b n : Int) : CellIs (boxes5 w x a b n) w.heap.size 0 (.pointer (some ⟨x, 0, none⟩)) ∧ CellIs (boxes5 w x a b n) (w.heap.size + 1) 0 (.pointer none) ∧ CellIs (boxes5 w x a b n) (w.heap.size + 1 + 1) 0 (.int .i64 a) ∧ CellIs (boxes5 w x a b n) (w.heap.size + 1 + 1 + 1) 0 (.int .i64 b) ∧ CellIs (boxes5 w x a b n) (w.heap.size + 1 + 1 + 1 + 1) 0 (.int .i64 n) := by
  have new : ∀ (w : World) (v : Value) (t : TypeId), CellIs (w.alloc (.cells #[v] t)) w.heap.size 0 v := fun w v t => ⟨new_cell w v t _ rfl, new_frozen w v t _ rfl⟩
  have old : ∀ (w : World) (o : Obj) (b : Nat) (v : Value), CellIs w b 0 v → CellIs (w.alloc o) b 0 v := fun w o b v h => h.of_block (Below.heap_alloc _ _ _ h.lt)
  unfold boxes5
  refine ⟨old _ _ _ _ (old _ _ _ _ (old _ _ _ _ (old _ _ _ _ (new _ _ _)))), old _ _ _ _ (old _ _ _ _ (old _ _ _ _ ?_)), old _ _ _ _ (old _ _ _ _ ?_), old _ _ _ _ ?_, ?_⟩
  · have h := new (w.alloc (.cells #[.pointer (some ⟨x, 0, none⟩)] 28)) (.pointer none) 66
    simpa using h
  · have h := new ((w.alloc (.cells #[.pointer (some ⟨x, 0, none⟩)] 28)).alloc (.cells #[.pointer none] 66)) (.int .i64 a) 3
    simpa using h
  · have h := new (((w.alloc (.cells #[.pointer (some ⟨x, 0, none⟩)] 28)).alloc (.cells #[.pointer none] 66)).alloc (.cells #[.int .i64 a] 3)) (.int .i64 b) 3
    simpa using h
  · have h := new ((((w.alloc (.cells #[.pointer (some ⟨x, 0, none⟩)] 28)).alloc (.cells #[.pointer none] 66)).alloc (.cells #[.int .i64 a] 3)).alloc (.cells #[.int .i64 b] 3)) (.int .i64 n) 3
    simpa using h

def inB (N : Nat) (i : Int) : Prop := 0 ≤ i ∧ i < (N : Int)

set_option maxRecDepth 100000 in
set_option maxHeartbeats 1600000 in
theorem bMove_out (Z : Fix) (S : St) (a b n : Int) (w : World) (hm : Mem Z S w) (hbad : ¬ (inB S.heads.length a ∧ inB S.heads.length b ∧ a ≠ b)) :
    Calls Tryz.prog 12 #[.pointer (some ⟨Z.X.x, 0, none⟩), .pointer none, .int .i64 a, .int .i64 b, .int .i64 n] w fun e w' => e = .returned (.tuple #[.int .i64 0, .int .i64 302]) ∧ Below w.heap.size w w' := by
  have hB := boxes5_below w Z.X.x a b n
  have hisA := bis_any Z.X S.heads S.made S.db S.st a _ (hm.below hB).bond
  have hisB := bis_any Z.X S.heads S.made S.db S.st b _ (hm.below hB).bond
  have HB := Lib.hid hB
  clear hB hm
  by_cases hA : inB S.heads.length a
  · rw [decide_eq_true (p := 0 ≤ a ∧ a < (S.heads.length : Int)) hA] at hisA
    by_cases hb : inB S.heads.length b
    · rw [decide_eq_true (p := 0 ≤ b ∧ b < (S.heads.length : Int)) hb] at hisB
      have hab : a = b := by
        rcases Decidable.em (a = b) with h | h
        · exact h
        · exact absurd ⟨hA, hb, h⟩ hbad
      subst hab
      have HisA := Lib.hid hisA
      clear hbad hisA hisB
      unfold boxes5 at *
      go_enter Tryz.func12, Tryz.ntmps12
      go_wp2_with (first | (go_at_call 37; ((with_reducible refine (HisA.out).mono ?_); rintro e w' ⟨rfl, rfl⟩)) | (go_at_call 32; ((with_reducible refine (refused_any _ _).mono ?_); rintro e w' ⟨rfl, rfl⟩)))
      go_ret2
      exact ⟨rfl, HB.out⟩
    · rw [decide_eq_false (p := 0 ≤ b ∧ b < (S.heads.length : Int)) hb] at hisB
      have HisA := Lib.hid hisA
      have HisB := Lib.hid hisB
      clear hbad hisA hisB
      unfold boxes5 at *
      go_enter Tryz.func12, Tryz.ntmps12
      go_wp2_with (first | (go_at_call 37; ((with_reducible refine (HisA.out).mono ?_); rintro e w' ⟨rfl, rfl⟩)) | (go_at_call 37; ((with_reducible refine (HisB.out).mono ?_); rintro e w' ⟨rfl, rfl⟩)) | (go_at_call 32; ((with_reducible refine (refused_any _ _).mono ?_); rintro e w' ⟨rfl, rfl⟩)))
      go_ret2
      exact ⟨rfl, HB.out⟩
  · rw [decide_eq_false (p := 0 ≤ a ∧ a < (S.heads.length : Int)) hA] at hisA
    have HisA := Lib.hid hisA
    clear hbad hisA hisB
    unfold boxes5 at *
    go_enter Tryz.func12, Tryz.ntmps12
    go_wp2_with (first | (go_at_call 37; ((with_reducible refine (HisA.out).mono ?_); rintro e w' ⟨rfl, rfl⟩)) | (go_at_call 32; ((with_reducible refine (refused_any _ _).mono ?_); rintro e w' ⟨rfl, rfl⟩)))
    go_ret2
    exact ⟨rfl, HB.out⟩
set_option maxRecDepth 100000 in
set_option maxHeartbeats 1600000 in
theorem bMove_less (Z : Fix) (S : St) (a b n : Int) (w : World) (hm : Mem Z S w) (hA : inB S.heads.length a) (hb : inB S.heads.length b) (hab : a ≠ b) (hn : n < 0) :
    Calls Tryz.prog 12 #[.pointer (some ⟨Z.X.x, 0, none⟩), .pointer none, .int .i64 a, .int .i64 b, .int .i64 n] w fun e w' => e = .returned (.tuple #[.int .i64 0, .int .i64 303]) ∧ Below w.heap.size w w' := by
  have hB := boxes5_below w Z.X.x a b n
  have hisA := bis_any Z.X S.heads S.made S.db S.st a _ (hm.below hB).bond
  have hisB := bis_any Z.X S.heads S.made S.db S.st b _ (hm.below hB).bond
  rw [decide_eq_true (p := 0 ≤ a ∧ a < (S.heads.length : Int)) hA] at hisA
  rw [decide_eq_true (p := 0 ≤ b ∧ b < (S.heads.length : Int)) hb] at hisB
  have h1 : (a == b) = false := by rw [beq_eq_false_iff_ne]; exact hab
  have h2 : decide (n < 0) = true := decide_eq_true hn
  have HB := Lib.hid hB
  have HisA := Lib.hid hisA
  have HisB := Lib.hid hisB
  clear hB hm hisA hisB hA hb
  unfold boxes5 at *
  go_enter Tryz.func12, Tryz.ntmps12
  go_wp2_with (first | (go_at_call 37; ((with_reducible refine (HisA.out).mono ?_); rintro e w' ⟨rfl, rfl⟩)) | (go_at_call 37; ((with_reducible refine (HisB.out).mono ?_); rintro e w' ⟨rfl, rfl⟩)) | (go_at_call 32; ((with_reducible refine (refused_any _ _).mono ?_); rintro e w' ⟨rfl, rfl⟩)))
  go_ret2
  exact ⟨rfl, HB.out⟩

/-- The two cells, rising. -/
def key2 (a b : Nat) (j : Nat) : Nat := if j = 0 then min a b else max a b

def MoveEnd2 (Z : Fix) (S : St) (top : Nat → Ver) (a b : Nat) (n : Int) (F : List Nat) (G : Int) (w : World) (e : Ending) (w' : World) : Prop :=
  (e = .returned (.tuple #[.int .i64 0, .int .i64 303]) ∧ Next Z S w S w' ∧ (top a).v < n) ∨
  (ChangedEnd Z S 2 (key2 a b) (newOf b n (key2 a b) fun j => (top (key2 a b j)).v) (fun j => hnd (top (key2 a b j)).i (top (key2 a b j)).g) F G w e w' ∧ n ≤ (top a).v)

set_option maxRecDepth 100000 in
set_option maxHeartbeats 3200000 in
theorem bMove_in (Z : Fix) (S : St) (top : Nat → Ver) (a b : Nat) (n : Int) (F : List Nat) (G : Int) (w : World) (hm : Mem Z S w) (hd : S.deep = 0) (h0 : S.at0 = 0) (ok : PoolOk Z.n S.tbl S.next S.head F G) (hG : G + 2 < 900000) (hmade : S.made ≤ 999) (hF : 2 ≤ F.length)
    (hch : ∀ c, c < S.heads.length → ∃ r, CellChain Z.n S.made S.tbl S.st S.heads c (top c :: r)) (ha : a < S.heads.length) (hb : b < S.heads.length) (hab : a ≠ b) (hn : 0 ≤ n) :
    Calls Tryz.prog 12 #[.pointer (some ⟨Z.X.x, 0, none⟩), .pointer none, .int .i64 a, .int .i64 b, .int .i64 n] w (MoveEnd2 Z S top a b n F G w) := by
  have hB := boxes5_below w Z.X.x a b n
  obtain ⟨q0, q1, q2, q3, q4⟩ := boxes5_cells w Z.X.x a b n
  have hisA := bis_any Z.X S.heads S.made S.db S.st a _ (hm.below hB).bond
  have hisB := bis_any Z.X S.heads S.made S.db S.st b _ (hm.below hB).bond
  rw [decide_eq_true (p := 0 ≤ (a : Int) ∧ (a : Int) < (S.heads.length : Int)) (by omega)] at hisA
  rw [decide_eq_true (p := 0 ≤ (b : Int) ∧ (b : Int) < (S.heads.length : Int)) (by omega)] at hisB
  have hn5 : Next Z S w S (boxes5 w Z.X.x a b n) := hm.next hB
  have tagn : ∀ j, w.heap.size ≤ j → S.tag j = 0 := fun j hj => hm.tags.new j hj
  have hkl : ∀ j, j < 2 → key2 a b j < S.heads.length := fun j hj => by unfold key2; split <;> omega
  have ord : (a < b ∧ key2 a b 0 = a ∧ key2 a b 1 = b) ∨ (b < a ∧ key2 a b 0 = b ∧ key2 a b 1 = a) := by
    rcases Nat.lt_or_ge a b with h | h
    · exact .inl ⟨h, by unfold key2; rw [if_pos rfl]; omega, by unfold key2; rw [if_neg (by omega)]; omega⟩
    · exact .inr ⟨by omega, by unfold key2; rw [if_pos rfl]; omega, by unfold key2; rw [if_neg (by omega)]; omega⟩
  have hlook : ∀ w1, Next Z S (boxes5 w Z.X.x a b n) S.inn w1 → Calls Tryz.prog 41 #[.pointer (some ⟨w.heap.size + 1 + 1, 0, none⟩), .pointer (some ⟨w.heap.size + 1 + 1 + 1, 0, none⟩), .pointer (some ⟨w.heap.size, 0, none⟩), .pointer (some ⟨w.heap.size + 1, 0, none⟩), .pointer (some ⟨w.heap.size + 1 + 1 + 1 + 1, 0, none⟩)] w1 (MoveLook Z S.inn b n (key2 a b) (fun j => (top (key2 a b j)).v) (fun j => hnd (top (key2 a b j)).i (top (key2 a b j)).g) w1) := fun w1 h1 => by
    have kb : ∀ j o u, CellIs (boxes5 w Z.X.x a b n) j o u → w.heap.size ≤ j → CellIs w1 j o u := fun j o u hc hj => hc.of_block (h1.keep.block j hc.lt (by rw [tagn j hj]; exact fun h => h rfl))
    exact bmove_look Z S.inn a b _ _ _ _ _ n (key2 a b) (fun j => top (key2 a b j)) w1 h1.mem ord ha hb hn (fun j hj => hch _ (hkl j hj)) (kb _ _ _ q2 (by omega)).cell (kb _ _ _ q3 (by omega)).cell (kb _ _ _ q0 (by omega)).cell (kb _ _ _ q1 (by omega)).cell (kb _ _ _ q4 (by omega)).cell
  have hchg : Calls Tryz.prog 38 #[.pointer (some ⟨Z.X.x, 0, none⟩), .pointer none, .func (.func 41) #[] #[.pointer (some ⟨w.heap.size + 1 + 1, 0, none⟩), .pointer (some ⟨w.heap.size + 1 + 1 + 1, 0, none⟩), .pointer (some ⟨w.heap.size, 0, none⟩), .pointer (some ⟨w.heap.size + 1, 0, none⟩), .pointer (some ⟨w.heap.size + 1 + 1 + 1 + 1, 0, none⟩)]] (boxes5 w Z.X.x a b n) fun e w' => ∃ v x, e = .returned (.tuple #[.int .i64 v, .int .i64 x]) ∧ MoveEnd2 Z S top a b n F G w (.returned (.tuple #[.int .i64 v, .int .i64 x])) w' := by
    rcases Int.lt_or_le (top a).v n with hv | hv
    · refine (bchanges_err Z S 41 303 _ _ hn5.mem hd h0 (by decide) callMoveL fun w1 h1 => (hlook w1 h1).mono fun e w2 h => ?_).mono fun e w2 h => ?_
      · rcases h with ⟨he, hnx, _⟩ | ⟨_, hall⟩
        · exact ⟨he, hnx⟩
        · exfalso
          rcases ord with ⟨o, e0, e1⟩ | ⟨o, e0, e1⟩
          · have := hall 0 (by omega) (by omega); dsimp only at this; rw [e0] at this; omega
          · have := hall 1 (by omega) (by omega); dsimp only at this; rw [e1] at this; omega
      · obtain ⟨rfl, hnx⟩ := h
        exact ⟨0, 303, rfl, .inl ⟨rfl, hn5.trans hnx, hv⟩⟩
    · refine (bchanges_ok Z S 2 41 _ (key2 a b) (newOf b n (key2 a b) fun j => (top (key2 a b j)).v) (fun j => hnd (top (key2 a b j)).i (top (key2 a b j)).g) F G _ hn5.mem hd h0 ok hG hmade hF callMoveL fun w1 h1 => (hlook w1 h1).mono fun e w2 h => ?_).mono fun e w2 h => ?_
      · rcases h with ⟨_, _, j, hj, hk, hlt⟩ | ⟨hl, _⟩
        · exfalso
          have e : key2 a b j = a := by
            have ej : j = 0 ∨ j = 1 := by omega
            rcases ej with rfl | rfl <;> rcases ord with ⟨o, e0, e1⟩ | ⟨o, e0, e1⟩ <;> omega
          dsimp only at hlt
          rw [e] at hlt
          omega
        · exact hl
      · have h' := ChangedEnd.from h hn5
        obtain ⟨rfl, hrest⟩ := h
        exact ⟨S.cnow, 0, rfl, .inr ⟨h', hv⟩⟩
  have h1 : ((a : Int) == (b : Int)) = false := by rw [beq_eq_false_iff_ne]; omega
  have h2 : decide (n < 0) = false := decide_eq_false (by omega)
  have h3 : ¬ a = b := hab
  have h4 : (a == b) = false := by rw [beq_eq_false_iff_ne]; exact hab
  have HisA := Lib.hid hisA
  have HisB := Lib.hid hisB
  have Hchg := Lib.hid hchg
  clear hB q0 q1 q2 q3 q4 hm hisA hisB ha hb hd h0 ok hG hmade hF hch hn5 tagn hkl ord hlook hchg
  unfold boxes5 at *
  go_enter Tryz.func12, Tryz.ntmps12
  go_wp2_with (first | (go_at_call 37; ((with_reducible refine (HisA.out).mono ?_); rintro e w' ⟨rfl, rfl⟩)) | (go_at_call 37; ((with_reducible refine (HisB.out).mono ?_); rintro e w' ⟨rfl, rfl⟩)) | fail)
  refine Hchg.out.mono ?_
  rintro e w' ⟨v, x, rfl, hE⟩
  have HE := Lib.hid hE
  clear hE
  go_wp2_with fail
  go_ret2
  exact HE.out
end Go.Proofs.YtadelkancmbanaaGreat
