/-
  Look, alone: what all cells hold; each tag is the next one.
-/
import Derived.Test.YtadelkancmbanaaJLook
namespace Go.Proofs.Ytadelkancmbanaa
open Go.RowKit

/-- The words behind a Look. -/
def looked (ws : List Int) : List Int := fin (lookE ws ws.length) ws ws.length

theorem looked_length (ws : List Int) : (looked ws).length = ws.length := fin_length _ _ _

theorem looked_get (ws : List Int) (i : Nat) (hi : i < ws.length) : (looked ws).getD i 0 = nextWord (wd ws i) (num (wd ws i)) := by
  have hl := lookE_length ws ws.length
  have h := fin_in (lookE ws ws.length) ws ws.length i (by omega) (look_fits ws).lt (look_fits ws).ne hi
  rw [lookE_get ws ws.length i hi] at h
  exact h

theorem looked_words (ws : List Int) (h : Words ws) : Words (looked ws) := by
  intro i hi
  rw [looked_length] at hi
  obtain ⟨a, b⟩ := h i hi
  have hn := num_bd (wd ws i) a b
  rw [looked_get ws i hi]
  exact ⟨(nextWord_bd _ _ hn.1 hn.2).1, (nextWord_bd _ _ hn.1 hn.2).2.1⟩

/-- What the cells hold. -/
def nums (ws : List Int) : List Int := ws.map num

theorem nums_get (ws : List Int) (i : Nat) (hi : i < ws.length) : (nums ws).getD i 0 = num (ws.getD i 0) := by
  simp [nums, List.getD_eq_getElem?_getD, hi]

theorem looked_nums (ws : List Int) (h : Words ws) : nums (looked ws) = nums ws := by
  refine list_ext_getD (by simp [nums, looked_length]) fun i hi => ?_
  have hi' : i < ws.length := by simpa [nums, looked_length] using hi
  rw [nums_get _ _ (by rw [looked_length]; exact hi'), nums_get _ _ hi', looked_get ws i hi']
  obtain ⟨a, b⟩ := h i hi'
  have hn := num_bd (wd ws i) a b
  exact (nextWord_bd _ _ hn.1 hn.2).2.2

theorem lookV_eq (ws : List Int) : ∀ k, k ≤ ws.length → lookV ws k = ((nums ws).take k).map (Value.int .i64)
  | 0, _ => rfl
  | k + 1, h => by
    have h' : k < (nums ws).length := by simp only [nums, List.length_map]; omega
    rw [lookV, lookV_eq ws k (by omega), List.take_succ_eq_append_getElem h', List.map_append]
    have e : num (wd ws k) = (nums ws)[k] := by
      have := nums_get ws k (by omega)
      rw [List.getD_eq_getElem?_getD, List.getElem?_eq_getElem h'] at this
      exact this.symm
    rw [e]; rfl

def LookEnd (b c made : Nat) (ws : List Int) (w : World) (e : Ending) (w' : World) : Prop :=
  ∃ ov, e = .returned (.tuple #[ov, .int .i64 0]) ∧ w'.ownsRow w.heap.size 3 1 ov ws.length ((nums ws).map (Value.int .i64)) ∧ JRaw b c (looked ws) (made + 1) w' ∧ Keep (fun k => k = b ∨ k = c) w.heap.size w w'

theorem callLook1 (cap : Array Value) : ∀ w, (callFunc 23 cap).run Try.prog w = .ok (.enter 23 cap) w := fun w => by kernel_rfl

set_option maxRecDepth 100000 in
set_option maxHeartbeats 400000 in
theorem look_any (b c made : Nat) (ws : List Int) (w : World) (h : JRaw b c ws made w) (hb : Words ws) (hm : made < 1024) :
    Calls Try.prog 8 #[.pointer (some ⟨b, 0, none⟩), .pointer none] w (LookEnd b c made ws w) := by
  have Hb := Lib.hid hb
  have hlt := h.lt
  have H := Lib.hid h
  clear h hb
  obtain ⟨W, hW⟩ : ∃ W, W = ((w.alloc (.cells #[.pointer (some ⟨b, 0, none⟩)] 25)).alloc (.cells #[.pointer none] 66)).alloc (.cells #[.slice none 0 0] 22) := ⟨_, rfl⟩
  have jW : JRaw b c ws made W := by rw [hW]; exact ((H.out.alloc _).alloc _).alloc _
  have kW : Keep (fun k => k = b ∨ k = c) w.heap.size w W := by rw [hW]; exact (((Keep.refl _ _ _).alloc (Nat.le_refl _) _).alloc (by simp) _).alloc (by simp; omega) _
  have sW : W.heap.size = w.heap.size + 3 := by rw [hW]; simp
  have cp : W.cell? ⟨w.heap.size + 2, 0, none⟩ = some (.slice none 0 0) := by rw [hW]; exact new_cell _ _ _ _ (by simp)
  have fp : W.frozen? ⟨w.heap.size + 2, 0, none⟩ = false := by rw [hW]; exact new_frozen _ _ _ _ (by simp)
  have cq : W.cell? ⟨w.heap.size, 0, none⟩ = some (.pointer (some ⟨b, 0, none⟩)) := by rw [hW, old_cell _ _ _ (by simp; omega), old_cell _ _ _ (by simp)]; exact new_cell _ _ _ _ rfl
  have cr : W.cell? ⟨w.heap.size + 1, 0, none⟩ = some (.pointer none) := by rw [hW, old_cell _ _ _ (by simp)]; exact new_cell _ _ _ _ (by simp)
  have hc := again_once 23 _ W true 0 _ (callLook1 _) rfl (look1_any b c (w.heap.size + 2) w.heap.size (w.heap.size + 1) made ws (.slice none 0 0) W jW Hb.out hm cp fp cq cr (by omega))
  rw [hW] at hc
  have Hc := Lib.hid hc
  have HW := Lib.hid hW
  have HkW := Lib.hid kW
  have HsW := Lib.hid sW
  clear hW jW kW sW cp fp cq cr hc
  go_enter Try.func8, Try.ntmps8
  go_wp2_with fail
  refine Hc.out.mono ?_
  rw [← HW.out]
  rintro e w' ⟨rfl, hr, hk, ov, ho, hown⟩
  have hs := HsW.out
  have hk' : Keep (fun k => k = b ∨ k = c) w.heap.size w w' := HkW.out.trans ((hk.mono (by omega)).weaken (fun k hkl e => by rcases e with e | e | e; exact .inl e; exact .inr e; omega))
  have hown' : w'.ownsRow w.heap.size 3 1 ov ws.length ((nums ws).map (Value.int .i64)) := by
    have e := lookV_eq ws ws.length (Nat.le_refl _)
    rw [List.take_of_length_le (by simp [nums])] at e
    rw [← e]
    exact ⟨hown.1, hown.2.imp id (fun ⟨g, cap, cur, h1, h2, h3⟩ => ⟨g, cap, cur, h1, by omega, h3⟩)⟩
  have Hr := Lib.hid hr
  have Hk := Lib.hid hk'
  have Hown := Lib.hid hown'
  clear hr hk hk' hown hown' hs
  go_wp2
  go_ret2
  exact ⟨ov, rfl, Hown.out, Hr.out, Hk.out⟩
end Go.Proofs.Ytadelkancmbanaa
