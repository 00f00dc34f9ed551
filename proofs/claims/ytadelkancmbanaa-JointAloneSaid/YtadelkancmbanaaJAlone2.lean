/-
  JointAlone, whatever comes in.
-/
import Derived.Test.YtadelkancmbanaaJAlone
namespace Go.Proofs.Ytadelkancmbanaa
open Go.RowKit
attribute [local go_sem ↓] Go.wp_at_zero Go.wp_at_succ

theorem alone_long (n0 cap0 n cap : Nat) (a0 a : Option Addr) (w : World) (h : 100 < n0) :
    Calls Try.prog 3 #[.slice a0 n0 cap0, .slice a n cap] w (AloneEnd w) := by
  have d1 : decide (100 < (n0 : Int)) = true := by simp; omega
  go_enter Try.func3, Try.ntmps3
  go_wp2_with fail
  refine (known_any w).mono ?_
  rintro e w1 ⟨rfl, hb1⟩
  go_wp2
  go_ret
  exact ⟨rfl, hb1⟩

theorem alone_long2 (n0 cap0 n cap : Nat) (a0 a : Option Addr) (w : World) (h : n0 ≤ 100) (h2 : 300 < n) :
    Calls Try.prog 3 #[.slice a0 n0 cap0, .slice a n cap] w (AloneEnd w) := by
  have d1 : decide (100 < (n0 : Int)) = false := by simp; omega
  have d2 : decide (300 < (n : Int)) = true := by simp; omega
  go_enter Try.func3, Try.ntmps3
  go_wp2_with fail
  refine (known_any w).mono ?_
  rintro e w1 ⟨rfl, hb1⟩
  go_wp2
  go_ret
  exact ⟨rfl, hb1⟩

set_option maxHeartbeats 800000 in
theorem alone_nil (cap0 n cap : Nat) (a : Option Addr) (w : World) (h2 : n ≤ 300) :
    Calls Try.prog 3 #[.slice none 0 cap0, .slice a n cap] w (AloneEnd w) := by
  have d2 : decide (300 < (n : Int)) = false := by simp; omega
  go_enter Try.func3, Try.ntmps3
  go_wp2_with fail
  refine (known_any w).mono ?_
  rintro e w1 ⟨rfl, hb1⟩
  go_wp2_with (first | (go_at_call 6; ((with_reducible refine (new_few _ _ _).mono ?_); rintro e w' ⟨rfl, rfl⟩)))
  refine wp_loop_rounds 1 ?_
  rw [rounds_succ]
  go_wp2
  go_ret
  exact ⟨rfl, hb1⟩

set_option maxHeartbeats 800000 in
theorem alone_zero (cap0 n cap : Nat) (a0 : Addr) (a : Option Addr) (w : World) (h2 : n ≤ 300) :
    Calls Try.prog 3 #[.slice (some a0) 0 cap0, .slice a n cap] w (AloneEnd w) := by
  have d2 : decide (300 < (n : Int)) = false := by simp; omega
  go_enter Try.func3, Try.ntmps3
  go_wp2_with fail
  refine (known_any w).mono ?_
  rintro e w1 ⟨rfl, hb1⟩
  go_wp2_with (first | (go_at_call 6; ((with_reducible refine (new_few _ _ _).mono ?_); rintro e w' ⟨rfl, rfl⟩)))
  refine wp_loop_rounds 1 ?_
  rw [rounds_succ]
  go_wp2
  go_ret
  exact ⟨rfl, hb1⟩

set_option maxRecDepth 100000 in
set_option maxHeartbeats 1600000 in
theorem alone_many (s o cap0 n cap : Nat) (a : Option Addr) (zs : List Int) (w : World) (hz : IntsAt s o zs w) (hs : s < w.heap.size) (hn : n ≤ 300) (h1 : 64 < zs.length) (h2 : zs.length ≤ 100) :
    Calls Try.prog 3 #[.slice (some ⟨s, o, none⟩) zs.length cap0, .slice a n cap] w (AloneEnd w) := by
  have d1 : decide (100 < (zs.length : Int)) = false := by simp; omega
  have d2 : decide (300 < (n : Int)) = false := by simp; omega
  have d3 : ((zs.length : Int) == 0) = false := by rw [beq_eq_false_iff_ne]; omega
  have d4 : decide (64 < (zs.length : Int)) = true := by simp; omega
  obtain ⟨ii, hii, zi0, zi1, zi2⟩ := info_parts infoI
  have Hz := Lib.hid hz
  clear hz
  go_enter Try.func3, Try.ntmps3
  go_wp2_with fail
  refine (known_any w).mono ?_
  rintro e w1 ⟨rfl, hb1⟩
  have hs1 := hb1.size
  have hz1 := Hz.out.of_block (hb1.block s hs)
  have Hn1 := Lib.hid (ints_news hz1)
  have Hb1 := Lib.hid hb1
  have Hz1 := Lib.hid hz1
  clear hb1 hz1
  go_wp2_with (at_builtin; go_loud (refine wpList_append_lies _ rfl (.const (.slice none 0 0)) (.tmp 28) 22 rfl w1.heap.size 3 ii _ 1 8 Try.underlying22 hii zi0 zi1 zi2 rfl (by decide) (.slice none 0 0) 0 [] rfl (World.ownsRow_nil _ _ _ _) ⟨s, o, none⟩ zs.length cap0 (zs.map (Value.int .i64)) rfl (by simp) Hn1.out (ints_one zs) (by omega) (by unfold maxLen; omega) (by omega) (Nat.le_refl _) w1.heap.size rfl ?_; intro gA capA wA hownA hgrowA hatA hltA; have hsA := hgrowA.size))
  simp only [Nat.zero_add, List.nil_append] at hownA ⊢
  have kA : Below w.heap.size w wA := Hb1.out.grown hgrowA hs1 (fun k hk => by cases hk)
  have hiA := (ints_own hownA).1
  have HiA := Lib.hid hiA
  have KA := Lib.hid kA
  have Hn2 := Lib.hid (ints_news (Hz.out.of_block (kA.block s hs)))
  clear hiA kA hownA hgrowA hatA Hn1 Hz1 Hb1
  go_wp2_with fail
  refine (new_many _ _ _ _ h1 (by omega)).mono ?_
  rintro e w' ⟨rfl, rfl⟩
  go_wp2_with (at_builtin; go_loud (refine wpList_append_lies _ rfl (.const (.slice none 0 0)) (.tmp 34) 22 rfl wA.heap.size 3 ii _ 1 8 Try.underlying22 hii zi0 zi1 zi2 rfl (by decide) (.slice none 0 0) 0 [] rfl (World.ownsRow_nil _ _ _ _) ⟨s, o, none⟩ zs.length cap0 (zs.map (Value.int .i64)) rfl (by simp) Hn2.out (ints_one zs) (by omega) (by unfold maxLen; omega) (by omega) (Nat.le_refl _) wA.heap.size rfl ?_; intro gB capB wB hownB hgrowB hatB hltB; have hsB := hgrowB.size))
  simp only [Nat.zero_add, List.nil_append] at hownB ⊢
  have kB : Below w.heap.size w wB := KA.out.grown hgrowB KA.out.size (fun k hk => by cases hk)
  have hiB := (ints_own hownB).1
  have HiB := Lib.hid hiB
  have KB := Lib.hid kB
  clear hiB kB hownB hgrowB hatB Hn2 KA
  go_wp2_with fail
  refine (new_many _ _ _ _ h1 (by omega)).mono ?_
  rintro e w' ⟨rfl, rfl⟩
  go_wp2
  refine wp_loop_rounds 1 ?_
  rw [rounds_succ]
  go_wp2
  go_ret
  exact ⟨rfl, KB.out⟩
set_option maxRecDepth 100000 in
set_option maxHeartbeats 1600000 in
theorem alone_value (s o cap0 n cap : Nat) (a : Option Addr) (zs : List Int) (w : World) (hz : IntsAt s o zs w) (hs : s < w.heap.size) (hn : n ≤ 300) (h1 : 1 ≤ zs.length) (h2 : zs.length ≤ 64) (hall : allLie zs = false) :
    Calls Try.prog 3 #[.slice (some ⟨s, o, none⟩) zs.length cap0, .slice a n cap] w (AloneEnd w) := by
  have d1 : decide (100 < (zs.length : Int)) = false := by simp; omega
  have d2 : decide (300 < (n : Int)) = false := by simp; omega
  have d3 : ((zs.length : Int) == 0) = false := by rw [beq_eq_false_iff_ne]; omega
  have d4 : decide (64 < (zs.length : Int)) = false := by simp; omega
  have Hall := Lib.hid hall
  clear hall
  obtain ⟨ii, hii, zi0, zi1, zi2⟩ := info_parts infoI
  have Hz := Lib.hid hz
  clear hz
  go_enter Try.func3, Try.ntmps3
  go_wp2_with fail
  refine (known_any w).mono ?_
  rintro e w1 ⟨rfl, hb1⟩
  have hs1 := hb1.size
  have hz1 := Hz.out.of_block (hb1.block s hs)
  have Hn1 := Lib.hid (ints_news hz1)
  have Hb1 := Lib.hid hb1
  have Hz1 := Lib.hid hz1
  clear hb1 hz1
  go_wp2_with (at_builtin; go_loud (refine wpList_append_lies _ rfl (.const (.slice none 0 0)) (.tmp 28) 22 rfl w1.heap.size 3 ii _ 1 8 Try.underlying22 hii zi0 zi1 zi2 rfl (by decide) (.slice none 0 0) 0 [] rfl (World.ownsRow_nil _ _ _ _) ⟨s, o, none⟩ zs.length cap0 (zs.map (Value.int .i64)) rfl (by simp) Hn1.out (ints_one zs) (by omega) (by unfold maxLen; omega) (by omega) (Nat.le_refl _) w1.heap.size rfl ?_; intro gA capA wA hownA hgrowA hatA hltA; have hsA := hgrowA.size))
  simp only [Nat.zero_add, List.nil_append] at hownA ⊢
  have kA : Below w.heap.size w wA := Hb1.out.grown hgrowA hs1 (fun k hk => by cases hk)
  have hiA := (ints_own hownA).1
  have HiA := Lib.hid hiA
  have KA := Lib.hid kA
  have Hn2 := Lib.hid (ints_news (Hz.out.of_block (kA.block s hs)))
  clear hiA kA hownA hgrowA hatA Hn1 Hz1 Hb1
  go_wp2_with fail
  refine (new_value gA 0 capA zs wA HiA.out h1 h2 Hall.out).mono ?_
  rintro e w' ⟨rfl, rfl⟩
  go_wp2_with (at_builtin; go_loud (refine wpList_append_lies _ rfl (.const (.slice none 0 0)) (.tmp 34) 22 rfl wA.heap.size 3 ii _ 1 8 Try.underlying22 hii zi0 zi1 zi2 rfl (by decide) (.slice none 0 0) 0 [] rfl (World.ownsRow_nil _ _ _ _) ⟨s, o, none⟩ zs.length cap0 (zs.map (Value.int .i64)) rfl (by simp) Hn2.out (ints_one zs) (by omega) (by unfold maxLen; omega) (by omega) (Nat.le_refl _) wA.heap.size rfl ?_; intro gB capB wB hownB hgrowB hatB hltB; have hsB := hgrowB.size))
  simp only [Nat.zero_add, List.nil_append] at hownB ⊢
  have kB : Below w.heap.size w wB := KA.out.grown hgrowB KA.out.size (fun k hk => by cases hk)
  have hiB := (ints_own hownB).1
  have HiB := Lib.hid hiB
  have KB := Lib.hid kB
  clear hiB kB hownB hgrowB hatB Hn2 KA
  go_wp2_with fail
  refine (new_value gB 0 capB zs wB HiB.out h1 h2 Hall.out).mono ?_
  rintro e w' ⟨rfl, rfl⟩
  go_wp2
  go_loopw [10] (fun iv wr => ∃ i : Nat, iv = .int .i64 (i : Int) ∧ i ≤ zs.length ∧ (∀ j, j < i → Lies (zs.getD j 0)) ∧ wB = wr) (fun i _ => zs.length - (intOf i).toNat)
  case atStart => exact ⟨0, rfl, Nat.zero_le _, fun j hj => by omega, rfl⟩
  case round =>
    obtain ⟨i, rfl, hi, hj, hwr⟩ := hrel
    subst hwr
    have Hj := Lib.hid hj
    clear hj
    by_cases hil : i < zs.length
    · have c0 := (Hz.out.of_block (KB.out.block s hs)) i hil
      obtain ⟨v, hv⟩ : ∃ v, v = zs.getD i 0 := ⟨_, rfl⟩
      rw [← hv] at c0
      have Hv := Lib.hid hv
      clear hv
      have b0 : (0 : Int) ≤ (i : Int) := by omega
      have b1 : (i : Int) < (zs.length : Int) := by omega
      by_cases hv1 : v < 0
      · have e1 : decide (v < 0) = true := by simpa using hv1
        clear hv1
        go_wp2_with fail
        go_ret
        exact ⟨rfl, KB.out⟩
      · have e1 : decide (v < 0) = false := by simpa using hv1
        by_cases hv2 : 1048575 < v
        · have e2 : decide (1048575 < v) = true := by simpa using hv2
          clear hv1 hv2
          go_wp2_with fail
          go_ret
          exact ⟨rfl, KB.out⟩
        · have e2 : decide (1048575 < v) = false := by simpa using hv2
          have Hl := Lib.hid (show Lies v from ⟨by omega, by omega⟩)
          clear hv1 hv2
          go_wp2_with fail
          go_roundw
          case rel =>
            refine ⟨i + 1, by go_num, by omega, fun j hj => ?_, trivial⟩
            by_cases e : j = i
            · subst e; rw [← Hv.out]; exact Hl.out
            · exact Hj.out j (by omega)
          case measure => simp [intOf]; omega
    · obtain rfl : i = zs.length := by omega
      have hno := Hall.out
      rw [(allLie_iff zs).2 Hj.out] at hno
      cases hno
/-- JointAlone. -/
theorem alone_any (n0 cap0 n cap : Nat) (a0 a : Option Addr) (w : World) (h0 : n0 = 0 ∨ ∃ s o zs, a0 = some ⟨s, o, none⟩ ∧ zs.length = n0 ∧ IntsAt s o zs w ∧ s < w.heap.size) (hS : ScriptAt a n w) :
    Calls Try.prog 3 #[.slice a0 n0 cap0, .slice a n cap] w (AloneEnd w) := by
  by_cases h1 : 100 < n0
  · exact alone_long n0 cap0 n cap a0 a w h1
  · by_cases h2 : 300 < n
    · exact alone_long2 n0 cap0 n cap a0 a w (by omega) h2
    · rcases h0 with rfl | ⟨s, o, zs, rfl, rfl, hz, hs⟩
      · rcases a0 with _ | a0
        · exact alone_nil cap0 n cap a w (by omega)
        · exact alone_zero cap0 n cap a0 a w (by omega)
      · by_cases h3 : zs.length = 0
        · rw [h3]; exact alone_zero cap0 n cap _ a w (by omega)
        · by_cases h4 : 64 < zs.length
          · exact alone_many s o cap0 n cap a zs w hz hs (by omega) h4 (by omega)
          · cases hall : allLie zs
            · exact alone_value s o cap0 n cap a zs w hz hs (by omega) (by omega) (by omega) hall
            · exact alone_main s o cap0 n cap a zs w hz hs (by omega) (by omega) hall (by omega) hS
end Go.Proofs.Ytadelkancmbanaa
