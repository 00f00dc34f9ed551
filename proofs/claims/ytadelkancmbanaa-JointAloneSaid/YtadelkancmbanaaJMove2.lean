/-
  Move, alone: whole.
-/
import Derived.Test.YtadelkancmbanaaJMoveB
namespace Go.Proofs.Ytadelkancmbanaa
open Go.RowKit

/-- A call of Move, Change that is refused. -/
def Refused (b c made : Nat) (er : Int) (ws : List Int) (w : World) (e : Ending) (w' : World) : Prop :=
  e = .returned (.tuple #[.bool false, .int .i64 er]) ∧ JRaw b c ws made w' ∧ Keep (fun k => k = b ∨ k = c) w.heap.size w w'

theorem callMove1 (cap : Array Value) : ∀ w, (callFunc 29 cap).run Try.prog w = .ok (.enter 29 cap) w := fun w => by kernel_rfl

/-- The world in which Move has laid its parameters. -/
def boxed5 (b : Nat) (f t n : Int) (w : World) : World :=
  ((((w.alloc (.cells #[.pointer (some ⟨b, 0, none⟩)] 25)).alloc (.cells #[.pointer none] 66)).alloc (.cells #[.int .i64 f] 3)).alloc (.cells #[.int .i64 t] 3)).alloc (.cells #[.int .i64 n] 3)

theorem boxed5_raw {b c made : Nat} {ws : List Int} {f t n : Int} {w : World} (h : JRaw b c ws made w) : JRaw b c ws made (boxed5 b f t n w) :=
  ((((h.alloc _).alloc _).alloc _).alloc _).alloc _
theorem boxed5_keep (S : Nat → Prop) (b : Nat) (f t n : Int) (w : World) : Keep S w.heap.size w (boxed5 b f t n w) :=
  (((((Keep.refl _ _ _).alloc (Nat.le_refl _) _).alloc (by simp) _).alloc (by simp <;> omega) _).alloc (by simp <;> omega) _).alloc (by simp <;> omega) _
theorem boxed5_size (b : Nat) (f t n : Int) (w : World) : (boxed5 b f t n w).heap.size = w.heap.size + 5 := by simp [boxed5]
theorem boxed5_boxes (b : Nat) (f t n : Int) (w : World) : MoveBoxes b (w.heap.size + 2) (w.heap.size + 3) w.heap.size (w.heap.size + 1) (w.heap.size + 4) f t n (boxed5 b f t n w) := by
  unfold boxed5
  refine ⟨?_, ?_, ?_, ?_, ?_⟩
  · rw [old_cell _ _ _ (by simp <;> omega), old_cell _ _ _ (by simp <;> omega)]; exact new_cell _ _ _ _ (by simp)
  · rw [old_cell _ _ _ (by simp <;> omega)]; exact new_cell _ _ _ _ (by simp)
  · rw [old_cell _ _ _ (by simp <;> omega), old_cell _ _ _ (by simp <;> omega), old_cell _ _ _ (by simp <;> omega), old_cell _ _ _ (by simp <;> omega)]; exact new_cell _ _ _ _ rfl
  · rw [old_cell _ _ _ (by simp <;> omega), old_cell _ _ _ (by simp <;> omega), old_cell _ _ _ (by simp <;> omega)]; exact new_cell _ _ _ _ (by simp)
  · exact new_cell _ _ _ _ (by simp)

set_option maxRecDepth 100000 in
set_option maxHeartbeats 1000000 in
theorem move_cell1 (b c made : Nat) (f t n : Int) (ws : List Int) (w : World) (h : JRaw b c ws made w) (hf : f < 0 ∨ (ws.length : Int) ≤ f) :
    Calls Try.prog 11 #[.pointer (some ⟨b, 0, none⟩), .pointer none, .int .i64 f, .int .i64 t, .int .i64 n] w (Refused b c made 262 ws w) := by
  have hw := boxed5_raw (f := f) (t := t) (n := n) h
  unfold boxed5 at hw
  have Hw := Lib.hid hw
  have Hf := Lib.hid hf
  have Hk := Lib.hid (boxed5_keep (fun k => k = b ∨ k = c) b f t n w)
  clear h hf hw
  go_enter Try.func11, Try.ntmps11
  go_wp2_with (first | (go_at_call 27; ((with_reducible refine (is_no b c made f ws _ Hw.out Hf.out).mono ?_); rintro e w' ⟨rfl, rfl⟩)) | (go_at_call 28; refine (step_nil _).mono ?_; rintro e w' ⟨rfl, rfl⟩))
  go_ret2
  exact ⟨rfl, Hw.out, Hk.out⟩

set_option maxRecDepth 100000 in
set_option maxHeartbeats 1000000 in
theorem move_cell2 (b c made f : Nat) (t n : Int) (ws : List Int) (w : World) (h : JRaw b c ws made w) (hf : f < ws.length) (ht : t < 0 ∨ (ws.length : Int) ≤ t) :
    Calls Try.prog 11 #[.pointer (some ⟨b, 0, none⟩), .pointer none, .int .i64 f, .int .i64 t, .int .i64 n] w (Refused b c made 262 ws w) := by
  have hw := boxed5_raw (f := f) (t := t) (n := n) h
  unfold boxed5 at hw
  have Hw := Lib.hid hw
  have Ht := Lib.hid ht
  have Hk := Lib.hid (boxed5_keep (fun k => k = b ∨ k = c) b f t n w)
  clear h ht hw
  go_enter Try.func11, Try.ntmps11
  go_wp2_with (first | (go_at_call 27; ((with_reducible refine (is_yes b c f made ws _ Hw.out hf).mono ?_); rintro e w' ⟨rfl, rfl⟩)) | (go_at_call 27; ((with_reducible refine (is_no b c made t ws _ Hw.out Ht.out).mono ?_); rintro e w' ⟨rfl, rfl⟩)) | (go_at_call 28; refine (step_nil _).mono ?_; rintro e w' ⟨rfl, rfl⟩))
  go_ret2
  exact ⟨rfl, Hw.out, Hk.out⟩

set_option maxRecDepth 100000 in
set_option maxHeartbeats 1000000 in
theorem move_cell3 (b c made f : Nat) (n : Int) (ws : List Int) (w : World) (h : JRaw b c ws made w) (hf : f < ws.length) :
    Calls Try.prog 11 #[.pointer (some ⟨b, 0, none⟩), .pointer none, .int .i64 f, .int .i64 f, .int .i64 n] w (Refused b c made 262 ws w) := by
  have hw := boxed5_raw (f := f) (t := f) (n := n) h
  unfold boxed5 at hw
  have Hw := Lib.hid hw
  have Hk := Lib.hid (boxed5_keep (fun k => k = b ∨ k = c) b f f n w)
  clear h hw
  go_enter Try.func11, Try.ntmps11
  go_wp2_with (first | (go_at_call 27; ((with_reducible refine (is_yes b c f made ws _ Hw.out hf).mono ?_); rintro e w' ⟨rfl, rfl⟩)) | (go_at_call 28; refine (step_nil _).mono ?_; rintro e w' ⟨rfl, rfl⟩))
  go_ret2
  exact ⟨rfl, Hw.out, Hk.out⟩

set_option maxRecDepth 100000 in
set_option maxHeartbeats 1000000 in
theorem move_value (b c made f t : Nat) (n : Int) (ws : List Int) (w : World) (h : JRaw b c ws made w) (hf : f < ws.length) (ht : t < ws.length) (hft : f ≠ t) (hn : n < 0 ∨ 1048575 < n) :
    Calls Try.prog 11 #[.pointer (some ⟨b, 0, none⟩), .pointer none, .int .i64 f, .int .i64 t, .int .i64 n] w (Refused b c made 263 ws w) := by
  have hw := boxed5_raw (f := f) (t := t) (n := n) h
  unfold boxed5 at hw
  have Hw := Lib.hid hw
  have Hk := Lib.hid (boxed5_keep (fun k => k = b ∨ k = c) b f t n w)
  have hd : ((f : Int) == t) = false := by rw [beq_eq_false_iff_ne]; omega
  have Hn := Lib.hid hn
  clear h hn hft hw
  go_enter Try.func11, Try.ntmps11
  go_wp2_with (first | (go_at_call 27; ((with_reducible refine (is_yes b c f made ws _ Hw.out hf).mono ?_); rintro e w' ⟨rfl, rfl⟩)) | (go_at_call 27; ((with_reducible refine (is_yes b c t made ws _ Hw.out ht).mono ?_); rintro e w' ⟨rfl, rfl⟩)) | (go_at_call 16; refine (lies_no _ _ Hn.out).mono ?_; rintro e w' ⟨rfl, rfl⟩) | (go_at_call 28; refine (step_nil _).mono ?_; rintro e w' ⟨rfl, rfl⟩))
  go_ret2
  exact ⟨rfl, Hw.out, Hk.out⟩

set_option maxRecDepth 100000 in
set_option maxHeartbeats 1000000 in
theorem move_walk (b c made f t : Nat) (n : Int) (ok : Bool) (er : Int) (R : World → Prop) (ws : List Int) (w : World) (h : JRaw b c ws made w) (hf : f < ws.length) (ht : t < ws.length) (hft : f ≠ t) (hn : 0 ≤ n) (hn' : n ≤ 1048575)
    (hc : Calls Try.prog 22 #[.func (.func 29) #[] #[.pointer (some ⟨w.heap.size + 2, 0, none⟩), .pointer (some ⟨w.heap.size + 3, 0, none⟩), .pointer (some ⟨w.heap.size, 0, none⟩), .pointer (some ⟨w.heap.size + 1, 0, none⟩), .pointer (some ⟨w.heap.size + 4, 0, none⟩)]]
      (boxed5 b f t n w) fun e w' => e = .returned (.tuple #[.bool ok, .int .i64 er]) ∧ R w') :
    Calls Try.prog 11 #[.pointer (some ⟨b, 0, none⟩), .pointer none, .int .i64 f, .int .i64 t, .int .i64 n] w fun e w' => e = .returned (.tuple #[.bool ok, .int .i64 er]) ∧ R w' := by
  have hw := boxed5_raw (f := f) (t := t) (n := n) h
  unfold boxed5 at hw hc
  have Hw := Lib.hid hw
  have Hc := Lib.hid hc
  have hd : ((f : Int) == t) = false := by rw [beq_eq_false_iff_ne]; omega
  clear h hft hw hc
  go_enter Try.func11, Try.ntmps11
  go_wp2_with (first | (go_at_call 27; ((with_reducible refine (is_yes b c f made ws _ Hw.out hf).mono ?_); rintro e w' ⟨rfl, rfl⟩)) | (go_at_call 27; ((with_reducible refine (is_yes b c t made ws _ Hw.out ht).mono ?_); rintro e w' ⟨rfl, rfl⟩)) | (go_at_call 16; ((with_reducible refine (lies_yes _ _ hn hn').mono ?_); rintro e w' ⟨rfl, rfl⟩)) | (go_at_call 22; refine Hc.out.mono ?_; rintro e w' ⟨rfl, hR⟩))
  go_ret2
  exact ⟨rfl, by assumption⟩

theorem move_any (b c made f t : Nat) (n : Int) (ws : List Int) (w : World) (h : JRaw b c ws made w) (hb : Words ws) (hm : made < 1024) (hf : f < ws.length) (ht : t < ws.length) (hft : f ≠ t) (hn : 0 ≤ n) (hn' : n ≤ 1048575) :
    Calls Try.prog 11 #[.pointer (some ⟨b, 0, none⟩), .pointer none, .int .i64 f, .int .i64 t, .int .i64 n] w (MoveEnd b c f t made n ws w) := by
  have hW := boxed5_raw (f := f) (t := t) (n := n) h
  have hkW := boxed5_keep (fun k => k = b ∨ k = c) b f t n w
  have hsW := boxed5_size b f t n w
  have key : Calls Try.prog 29 #[.pointer (some ⟨w.heap.size + 2, 0, none⟩), .pointer (some ⟨w.heap.size + 3, 0, none⟩), .pointer (some ⟨w.heap.size, 0, none⟩), .pointer (some ⟨w.heap.size + 1, 0, none⟩), .pointer (some ⟨w.heap.size + 4, 0, none⟩)]
      (boxed5 b f t n w) (MoveEnd b c f t made n ws (boxed5 b f t n w)) := by
    by_cases hlt : f < t
    · exact move1_up b c _ _ _ _ _ f t made n _ _ ws _ hW hb hm (boxed5_boxes b f t n w) hlt hf ht rfl rfl hn hn'
    · exact move1_down b c _ _ _ _ _ f t made n _ _ ws _ hW hb hm (boxed5_boxes b f t n w) (by omega) hf ht rfl rfl hn hn'
  have hk : ∀ w', Keep (fun k => k = b ∨ k = c) (boxed5 b f t n w).heap.size (boxed5 b f t n w) w' → Keep (fun k => k = b ∨ k = c) w.heap.size w w' := fun w' k => hkW.trans (k.mono (by omega))
  by_cases h1 : num (wd ws f) < n
  · refine (move_walk b c made f t n false 265 _ ws w h hf ht hft hn hn' (again_once 29 _ _ false 265 _ (callMove1 _) rfl (key.mono fun e w' he => he.less h1))).mono ?_
    rintro e w' ⟨rfl, hr, hkk⟩
    exact ⟨fun _ => ⟨rfl, hr, hk _ hkk⟩, fun h => by omega, fun h => by omega⟩
  · by_cases h2 : 1048575 < num (wd ws t) + n
    · refine (move_walk b c made f t n false 263 _ ws w h hf ht hft hn hn' (again_once 29 _ _ false 263 _ (callMove1 _) rfl (key.mono fun e w' he => he.over (by omega) h2))).mono ?_
      rintro e w' ⟨rfl, hr, hkk⟩
      exact ⟨fun h => by omega, fun _ _ => ⟨rfl, hr, hk _ hkk⟩, fun _ h => by omega⟩
    · refine (move_walk b c made f t n true 0 _ ws w h hf ht hft hn hn' (again_once 29 _ _ true 0 _ (callMove1 _) rfl (key.mono fun e w' he => he.yes (by omega) (by omega)))).mono ?_
      rintro e w' ⟨rfl, hr, hkk⟩
      exact ⟨fun h => by omega, fun _ h => by omega, fun _ _ => ⟨rfl, hr, hk _ hkk⟩⟩
end Go.Proofs.Ytadelkancmbanaa
