/-
  A descriptor that is nobody's but the worker's own is installed in all its cells (the worker is nil).
-/
import Derived.Test.YtadelkancmbanaaJState
import Derived.StillTailTactics
import Derived.Lib.Hide
namespace Go.Proofs.Ytadelkancmbanaa
open Go.RowKit

theorem flipped {P : Program} {f : FuncId} {args : Array Value} {w : World} {v : Value} (h : Calls P f args w fun e w' => e = .returned v ∧ w = w') : Calls P f args w fun e w' => e = .returned v ∧ w' = w :=
  h.mono fun _ _ ⟨a, b⟩ => ⟨a, b.symm⟩

/-- An entry of a descriptor. -/
structure Ent where
  cell : Nat
  old : Int
  nxt : Int
instance : Inhabited Ent := ⟨⟨0, 0, 0⟩⟩

/-- A descriptor in block t: its entries, its status. -/
structure DAt (t : Nat) (es : List Ent) (st : Int) (w : World) : Prop where
  n : w.cell? ⟨t, 0, none⟩ = some (.int .i64 es.length)
  ent : ∀ k, k < es.length → w.cell? ⟨t, 1 + k * 3, none⟩ = some (.int .i64 (es[k]!).cell) ∧ w.cell? ⟨t, 1 + k * 3 + 1, none⟩ = some (.int .i64 (es[k]!).old) ∧ w.cell? ⟨t, 1 + k * 3 + 2, none⟩ = some (.int .i64 (es[k]!).nxt)
  st : w.cell? ⟨t, 193, none⟩ = some (.int .i32 st)
  stF : w.frozen? ⟨t, 193, none⟩ = false
  shape : w.shape? t = some (97, 194)
  few : es.length ≤ 64

/-- The words behind k installs. -/
def inst (d : Int) (es : List Ent) (ws : List Int) : Nat → List Int
  | 0 => ws
  | k + 1 => (inst d es ws k).set (es[k]!).cell (-d - 1)

theorem inst_length (d : Int) (es : List Ent) (ws : List Int) (k : Nat) : (inst d es ws k).length = ws.length := by
  induction k with
  | zero => rfl
  | succ k ih => simp [inst, ih]

/-- Entries that can be done: cells that are there, all unlike, each holding its old word. -/
structure Fits (es : List Ent) (ws : List Int) : Prop where
  lt : ∀ k, k < es.length → (es[k]!).cell < ws.length
  ne : ∀ j k, j < k → k < es.length → (es[j]!).cell ≠ (es[k]!).cell
  old : ∀ k, k < es.length → (es[k]!).old = ws.getD (es[k]!).cell 0

theorem inst_getD (d : Int) (es : List Ent) (ws : List Int) (h : Fits es ws) (k i : Nat) (hk : k ≤ es.length) (hi : ∀ j, j < k → (es[j]!).cell ≠ i) : (inst d es ws k).getD i 0 = ws.getD i 0 := by
  induction k with
  | zero => rfl
  | succ k ih =>
    rw [inst, getD_set_eq _ _ _ _ (by rw [inst_length]; exact h.lt k (by omega)), if_neg (hi k (by omega))]
    exact ih (by omega) (fun j hj => hi j (by omega))

set_option maxRecDepth 100000 in
set_option maxHeartbeats 400000 in
theorem installs_any (b c t d made : Nat) (es : List Ent) (ws : List Int) (w : World) (h : JRaw b c ws made w) (hd : d < 8192) (ht : DAt t es 0 w) (htc : t ≠ c) (hf : Fits es ws) :
    Calls Try.prog 56 #[.pointer (some ⟨b, 0, none⟩), .pointer none, .int .i64 d, .pointer (some ⟨t, 0, none⟩)] w fun e w' => e = .returned (.bool true) ∧ JRaw b c (inst d es ws es.length) made w' ∧ Keep (· = c) w.heap.size w w' := by
  have hn := ht.few
  go_enter Try.func56, Try.ntmps56
  go_wp2
  go_loopw [9] (fun i wr => ∃ k : Nat, k ≤ es.length ∧ i = .int .i64 k ∧ JRaw b c (inst d es ws k) made wr ∧ Keep (· = c) w.heap.size w wr) (fun i _ => es.length - (intOf i).toNat)
  case atStart => exact ⟨0, Nat.zero_le _, rfl, h, Keep.refl _ _ _⟩
  case round =>
    obtain ⟨k, hk, rfl, hj, hkeep⟩ := hrel
    have htl : t < w.heap.size := World.block_lt_of_cell? w _ ht.n
    have hn' : wr.cell? ⟨t, 0, none⟩ = some (.int .i64 es.length) := (hkeep.cell htl htc).trans ht.n
    by_cases hlt : k < es.length
    · have hst : wr.cell? ⟨t, 193, none⟩ = some (.int .i32 0) := (hkeep.cell htl htc).trans ht.st
      obtain ⟨e1, e2, e3⟩ := ht.ent k hlt
      have c1 := (hkeep.cell (p := ⟨t, 1 + k * 3, none⟩) htl htc).trans e1
      have c2 := (hkeep.cell (p := ⟨t, 1 + k * 3 + 1, none⟩) htl htc).trans e2
      have c3 := (hkeep.cell (p := ⟨t, 1 + k * 3 + 2, none⟩) htl htc).trans e3
      clear e1 e2 e3
      generalize he : es[k]! = e at *
      obtain ⟨ec, eo, en⟩ := e
      have He := Lib.hid he
      clear he
      go_wp2_with (first | (go_at_call 28; refine (step_nil _).mono ?_; rintro e w' ⟨rfl, rfl⟩) | (go_at_call 58; refine (i32load _ _ _ _ hst).mono ?_; rintro e w' ⟨rfl, rfl⟩))
      refine wp_region_still_tail 8 (by kernel_rfl) (by kernel_rfl) ?_
      simp only [List.take_succ_cons, List.take_zero, List.drop_succ_cons, List.drop_zero]
      change wpStill _ _ (World.drew _) _ _ _
      repeat (first | (refine wpStill_step (fun K hK => ?_); go_simp; refine hK _ ?_; clear hK K) | (refine wpStill_step (fun K hK => ?_); go_simp; refine ⟨_, flipped (under_any _ _ (by omega) (by omega)), hK _ ?_⟩; clear hK K))
      refine wpStill_nil ?_
      change wpList _ _ _ _ _ (World.drew _)
      have hj' := (hj.alloc (.cells #[.int .i64 ec, .int .i64 eo, .int .i64 en] 73)).drew
      have hl : ec < (inst d es ws k).length := by rw [inst_length]; have := hf.lt k hlt; rw [He.out] at this; exact this
      have ho : eo = (inst d es ws k).getD ec 0 := by
        rw [inst_getD d es ws hf k ec (by omega) (fun j hj => by have := hf.ne j k hj hlt; rw [He.out] at this; exact this)]
        have := hf.old k hlt; rw [He.out] at this; exact this
      subst ho
      have Hs := Lib.hid (hj'.set (y := -d - 1) hl)
      have Hl := Lib.hid hl
      have Hj := Lib.hid hj'
      clear hl hj'
      go_wp2_with (go_at_call 60; refine (cas_hit b c ec made _ _ _ Hj.out Hl.out).mono ?_; rintro e w' ⟨rfl, rfl⟩)
      go_roundw
      case rel => 
        refine ⟨k + 1, by omega, by go_num, ?_, ?_⟩
        · have := Hs.out
          simp only [inst, He.out]
          exact this
        · exact (((hkeep.alloc hkeep.size _)).drew).setCell (.inl rfl) _
      case measure => simp [intOf]; omega
    · have : k = es.length := by omega
      subst this
      go_wp2
      go_ret
      exact ⟨rfl, hj, hkeep⟩
end Go.Proofs.Ytadelkancmbanaa
