/-
  Read; again, where its function answers at once.
-/
import Derived.Test.YtadelkancmbanaaJDoes
namespace Go.Proofs.Ytadelkancmbanaa
open Go.RowKit

theorem is_yes (b c i made : Nat) (ws : List Int) (w : World) (h : JRaw b c ws made w) (hi : i < ws.length) : Calls Try.prog 27 #[.pointer (some ⟨b, 0, none⟩), .int .i64 i] w fun e w' => e = .returned (.bool true) ∧ w = w' := by
  have hh := h.hdr
  have hd : decide (i < ws.length) = true := by simpa using hi
  clear h
  go_enter Try.func27, Try.ntmps27
  go_wp2
  go_ret
  exact ⟨rfl, rfl⟩

theorem is_no (b c made : Nat) (i : Int) (ws : List Int) (w : World) (h : JRaw b c ws made w) (hi : i < 0 ∨ (ws.length : Int) ≤ i) : Calls Try.prog 27 #[.pointer (some ⟨b, 0, none⟩), .int .i64 i] w fun e w' => e = .returned (.bool false) ∧ w = w' := by
  have hh := h.hdr
  have hf := h.few
  clear h
  by_cases h0 : 0 ≤ i
  · have hd : decide (i < (ws.length : Int)) = false := by simp; omega
    clear hi
    go_enter Try.func27, Try.ntmps27
    go_wp2
    go_ret
    exact ⟨rfl, rfl⟩
  · clear hi
    go_enter Try.func27, Try.ntmps27
    go_wp2
    go_ret
    exact ⟨rfl, rfl⟩

theorem load_at (b c i made : Nat) (ws : List Int) (x : Int) (w : World) (h : JRaw b c ws made w) (hb : Words ws) (hi : i < ws.length) (hx : ws.getD i 0 = x) : Calls Try.prog 24 #[.pointer (some ⟨b, 0, none⟩), .pointer none, .int .i64 i] w fun e w' => e = .returned (.int .i64 x) ∧ w = w' := by
  subst hx
  exact load_any b c i made ws w h hb hi

theorem read_yes (b c i made : Nat) (ws : List Int) (x : Int) (w : World) (h : JRaw b c ws made w) (hb : Words ws) (hi : i < ws.length) (hx : ws.getD i 0 = x) : Calls Try.prog 13 #[.pointer (some ⟨b, 0, none⟩), .pointer none, .int .i64 i] w fun e w' => e = .returned (.tuple #[.int .i64 (x / 1099511627776), .int .i64 0]) ∧ w = w' := by
  obtain ⟨b0, b1⟩ := hb i hi
  rw [hx] at b0 b1
  have H := Lib.hid h
  have Hb := Lib.hid hb
  have Hx := Lib.hid hx
  clear h hb hx
  go_enter Try.func13, Try.ntmps13
  go_wp2_with (first | (go_at_call 27; refine (is_yes b c i made ws w H.out hi).mono ?_; rintro e w' ⟨rfl, rfl⟩) | (go_at_call 24; refine (load_at b c i made ws x w H.out Hb.out hi Hx.out).mono ?_; rintro e w' ⟨rfl, rfl⟩) | (go_at_call 25; refine (hvalue_word _ _ b0 b1).mono ?_; rintro e w' ⟨rfl, rfl⟩))
  go_ret2
  exact ⟨rfl, rfl⟩

theorem read_no (b c made : Nat) (i : Int) (ws : List Int) (w : World) (h : JRaw b c ws made w) (hi : i < 0 ∨ (ws.length : Int) ≤ i) : Calls Try.prog 13 #[.pointer (some ⟨b, 0, none⟩), .pointer none, .int .i64 i] w fun e w' => e = .returned (.tuple #[.int .i64 0, .int .i64 262]) ∧ w = w' := by
  have H := Lib.hid h
  have Hi := Lib.hid hi
  clear h hi
  go_enter Try.func13, Try.ntmps13
  go_wp2_with (first | (go_at_call 27; refine (is_no b c made i ws w H.out Hi.out).mono ?_; rintro e w' ⟨rfl, rfl⟩) | (go_at_call 28; refine (step_nil _).mono ?_; rintro e w' ⟨rfl, rfl⟩))
  go_ret2
  exact ⟨rfl, rfl⟩

/-- The function answers done, or an error. -/
theorem again_once (g : Nat) (cap : Array Value) (w : World) (ok : Bool) (er : Int) (R : World → Prop) (hcall : ∀ w, (callFunc g cap).run Try.prog w = .ok (.enter g cap) w) (hk : (ok || (er != 0)) = true)
    (h : Calls Try.prog g cap w fun e w' => e = .returned (.tuple #[.bool ok, .int .i64 er]) ∧ R w') :
    Calls Try.prog 22 #[.func (.func g) #[] cap] w fun e w' => e = .returned (.tuple #[.bool ok, .int .i64 er]) ∧ R w' := by
  have H := Lib.hid h
  clear h
  cases ok with
  | true =>
    clear hk
    go_enter Try.func22, Try.ntmps22
    go_wp2
    refine wp_loop_rounds 1 ?_
    rw [rounds_succ]
    go_wp2_with (refine H.out.mono ?_; rintro e w' ⟨rfl, hR⟩)
    go_ret2
    exact ⟨rfl, by assumption⟩
  | false =>
    simp only [Bool.false_or] at hk
    go_enter Try.func22, Try.ntmps22
    go_wp2
    refine wp_loop_rounds 1 ?_
    rw [rounds_succ]
    go_wp2_with (refine H.out.mono ?_; rintro e w' ⟨rfl, hR⟩)
    go_ret2
    exact ⟨rfl, by assumption⟩
end Go.Proofs.Ytadelkancmbanaa
