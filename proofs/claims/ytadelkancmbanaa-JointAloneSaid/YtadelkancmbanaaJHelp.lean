/-
  A descriptor that is the worker's own is helped to its end: it is done (the worker is nil).
-/
import Derived.Test.YtadelkancmbanaaJInst
import Derived.Deep.QuietTactic
import Derived.BigQuiet
namespace Go.Proofs.Ytadelkancmbanaa
open Go.RowKit

theorem DAt.of_block {t : Nat} {es : List Ent} {st : Int} {w w' : World} (h : DAt t es st w) (ht : w'.heap[t]? = w.heap[t]?) : DAt t es st w' := by
  obtain ⟨h1, h2, h3, h4, h5, h6⟩ := h
  have kb : ∀ o, w'.cell? ⟨t, o, none⟩ = w.cell? ⟨t, o, none⟩ := fun o => World.cell?_of_block ht
  have fb : ∀ o, w'.frozen? ⟨t, o, none⟩ = w.frozen? ⟨t, o, none⟩ := fun o => World.frozen?_of_block ht
  have sb : w'.shape? t = w.shape? t := by simp only [World.shape?, ht]
  exact ⟨by rw [kb]; exact h1, fun k hk => by rw [kb, kb, kb]; exact h2 k hk, by rw [kb]; exact h3, by rw [fb]; exact h4, by rw [sb]; exact h5, h6⟩

theorem DAt.lt {t : Nat} {es : List Ent} {st : Int} {w : World} (h : DAt t es st w) : t < w.heap.size := World.block_lt_of_cell? w _ h.n

theorem DAt.keep {t B : Nat} {es : List Ent} {st : Int} {w w' : World} {S : Nat → Prop} (h : DAt t es st w) (hk : Keep S B w w') (hB : w.heap.size ≤ B) (ht : ¬ S t) : DAt t es st w' :=
  h.of_block (hk.block t (by have := h.lt; omega) ht)

theorem shape_setCell (w : World) (p : Addr) (u : Value) (r : Nat) : (w.setCell p u).shape? r = w.shape? r := by
  simp only [World.shape?, World.setCell, Array.getElem?_modify]
  by_cases e : p.block = r
  · subst e
    rw [if_pos rfl]
    cases w.heap[p.block]? with
    | none => rfl
    | some o => cases o <;> simp only [Option.map_some] <;> (try split) <;> simp
  · rw [if_neg e]

theorem DAt.status {t : Nat} {es : List Ent} {st st' : Int} {w : World} (h : DAt t es st w) : DAt t es st' (w.setCell ⟨t, 193, none⟩ (.int .i32 st')) := by
  obtain ⟨h1, h2, h3, h4, h5, h6⟩ := h
  have ne : ∀ o, o ≠ 193 → (⟨t, 193, none⟩ : Addr) ≠ ⟨t, o, none⟩ := fun o ho e => ho (by cases e; rfl)
  refine ⟨?_, ?_, ?_, ?_, ?_, h6⟩
  · rw [World.cell?_setCell_other _ _ _ _ (ne 0 (by omega))]; exact h1
  · intro k hk
    rw [World.cell?_setCell_other _ _ _ _ (ne _ (by omega)), World.cell?_setCell_other _ _ _ _ (ne _ (by omega)), World.cell?_setCell_other _ _ _ _ (ne _ (by omega))]
    exact h2 k hk
  · exact World.cell?_setCell_same _ _ _ h3
  · rw [World.frozen?_setCell]; exact h4
  · rw [shape_setCell]; exact h5

/-- The words behind the first k entries' ends. -/
def fin (es : List Ent) (ws : List Int) : Nat → List Int
  | 0 => ws
  | k + 1 => (fin es ws k).set (es[k]!).cell (nextWord (es[k]!).old (es[k]!).nxt)

theorem fin_length (es : List Ent) (ws : List Int) (k : Nat) : (fin es ws k).length = ws.length := by
  induction k with
  | zero => rfl
  | succ k ih => simp [fin, ih]

theorem fin_out (es : List Ent) (ws : List Int) (k i : Nat) (hk : k ≤ es.length) (hl : ∀ k, k < es.length → (es[k]!).cell < ws.length) (hi : ∀ j, j < k → (es[j]!).cell ≠ i) : (fin es ws k).getD i 0 = ws.getD i 0 := by
  induction k with
  | zero => rfl
  | succ k ih =>
    rw [fin, getD_set_eq _ _ _ _ (by rw [fin_length]; exact hl k (by omega)), if_neg (hi k (by omega))]
    exact ih (by omega) (fun j hj => hi j (by omega))

theorem fin_in (es : List Ent) (ws : List Int) (k j : Nat) (hk : k ≤ es.length) (hl : ∀ k, k < es.length → (es[k]!).cell < ws.length) (hne : ∀ j k, j < k → k < es.length → (es[j]!).cell ≠ (es[k]!).cell) (hj : j < k) :
    (fin es ws k).getD (es[j]!).cell 0 = nextWord (es[j]!).old (es[j]!).nxt := by
  induction k with
  | zero => omega
  | succ k ih =>
    rw [fin, getD_set_eq _ _ _ _ (by rw [fin_length]; exact hl k (by omega))]
    by_cases e : j = k
    · subst e; rw [if_pos rfl]
    · rw [if_neg (Ne.symm (hne j k (by omega) (by omega)))]; exact ih (by omega) (by omega)

theorem list_ext_getD {l m : List Int} (hl : l.length = m.length) (h : ∀ i, i < l.length → l.getD i 0 = m.getD i 0) : l = m := by
  apply List.ext_getElem hl
  intro i h1 h2
  have := h i h1
  simpa [List.getD_eq_getElem?_getD, h1, h2] using this

/-- What was installed is written over. -/
theorem fin_inst (d : Int) (es : List Ent) (ws : List Int) (h : Fits es ws) : fin es (inst d es ws es.length) es.length = fin es ws es.length := by
  have hl' : ∀ k, k < es.length → (es[k]!).cell < (inst d es ws es.length).length := fun k hk => by rw [inst_length]; exact h.lt k hk
  refine list_ext_getD (by rw [fin_length, fin_length, inst_length]) fun i _ => ?_
  by_cases hx : ∃ j, j < es.length ∧ (es[j]!).cell = i
  · obtain ⟨j, hj, rfl⟩ := hx
    rw [fin_in es _ _ j (Nat.le_refl _) hl' h.ne hj, fin_in es _ _ j (Nat.le_refl _) h.lt h.ne hj]
  · have hx' : ∀ j, j < es.length → (es[j]!).cell ≠ i := fun j hj e => hx ⟨j, hj, e⟩
    rw [fin_out es _ _ i (Nat.le_refl _) hl' hx', fin_out es _ _ i (Nat.le_refl _) h.lt hx', inst_getD d es ws h _ i (Nat.le_refl _) hx']

theorem inst_in (d : Int) (es : List Ent) (ws : List Int) (h : Fits es ws) (k j : Nat) (hk : k ≤ es.length) (hj : j < k) : (inst d es ws k).getD (es[j]!).cell 0 = -d - 1 := by
  induction k with
  | zero => omega
  | succ k ih =>
    rw [inst, getD_set_eq _ _ _ _ (by rw [inst_length]; exact h.lt k (by omega))]
    by_cases e : j = k
    · subst e; rw [if_pos rfl]
    · rw [if_neg (Ne.symm (h.ne j k (by omega) (by omega)))]; exact ih (by omega) (by omega)

/-- Entries whose words are packed words, whose new numbers a cell can hold. -/
def Good (es : List Ent) : Prop := ∀ k, k < es.length → 0 ≤ (es[k]!).old ∧ (es[k]!).old ≤ 1152921504606846975 ∧ 0 ≤ (es[k]!).nxt ∧ (es[k]!).nxt ≤ 1048575

set_option maxRecDepth 100000 in
set_option maxHeartbeats 400000 in
theorem help_any (b c t d made : Nat) (es : List Ent) (ws : List Int) (w : World) (h : JRaw b c ws made w) (hd : d < 8192) (hp : w.cell? ⟨b, 1 + d, none⟩ = some (.pointer (some ⟨t, 0, none⟩))) (ht : DAt t es 0 w) (htc : t ≠ c) (htb : t ≠ b) (hf : Fits es ws) (hg : Good es) :
    Calls Try.prog 42 #[.pointer (some ⟨b, 0, none⟩), .pointer none, .int .i64 d] w fun e w' => e = .returned (.bool true) ∧ JRaw b c (fin es ws es.length) made w' ∧ Keep (fun k => k = c ∨ k = t) w.heap.size w w' := by
  have hn := ht.few
  have Hsh := Lib.hid ht.shape
  go_enter Try.func42, Try.ntmps42
  go_wp2_with (first | (go_at_call 55; refine (pload _ _ _ _ hp Hsh.out).mono ?_; rintro e w' ⟨rfl, rfl⟩) | (go_at_call 56; refine (installs_any b c t d made es ws w h hd ht htc hf).mono ?_; rintro e w1 ⟨rfl, h1, k1⟩) | (go_at_call 28; refine (step_nil _).mono ?_; rintro e w' ⟨rfl, rfl⟩))
  have t1 := ht.keep k1 (Nat.le_refl _) (by exact htc)
  have s1 := t1.st
  have f1 := t1.stF
  refine (i32cas t 193 0 1 w1 s1 f1).mono ?_
  rintro e w2 ⟨rfl, hw2⟩
  have t2 : DAt t es 1 w2 := by rw [← hw2]; exact t1.status
  have h2 : JRaw b c (inst d es ws es.length) made w2 := by rw [← hw2]; exact h1.other htb htc _
  have k2 : Keep (fun k => k = c ∨ k = t) w.heap.size w w2 := by rw [← hw2]; exact (k1.weaken (fun _ _ e => .inl e)).setCell (.inl (.inr rfl)) _
  have s2 := t2.st
  have n2 := t2.n
  clear hw2 s1 f1 h1 k1 t1
  go_wp2_with (first | (go_at_call 58; refine (i32load _ _ _ _ s2).mono ?_; rintro e w' ⟨rfl, rfl⟩) | (go_at_call 28; refine (step_nil _).mono ?_; rintro e w' ⟨rfl, rfl⟩))
  have hl : (es.length : Int) ≤ 64 := by omega
  go_quiet (fail)
  go_wp2
  have hlt' : ∀ k, k < es.length → (es[k]!).cell < (inst d es ws es.length).length := fun k hk => by rw [inst_length]; exact hf.lt k hk
  have Hlt := Lib.hid hlt'
  have Hf := Lib.hid hf
  have Hg := Lib.hid hg
  have Hp := Lib.hid hp
  have hfi := Lib.hid (fin_inst d es ws hf)
  have Hin := Lib.hid (fun j hj => inst_in d es ws hf es.length j (Nat.le_refl _) hj)
  clear hlt' hf hg hp s2 n2 ht h
  have Ht2 := Lib.hid t2
  clear t2
  go_loopw [45] (fun i wr => ∃ k : Nat, k ≤ es.length ∧ i = .int .i64 k ∧ JRaw b c (fin es (inst d es ws es.length) k) made wr ∧ DAt t es 1 wr ∧ Keep (fun k => k = c ∨ k = t) w.heap.size w wr) (fun i _ => es.length - (intOf i).toNat)
  case atStart => exact ⟨0, Nat.zero_le _, rfl, h2.drewN, Ht2.out.of_block rfl, k2.drewN⟩
  case round =>
    obtain ⟨k, hk, rfl, hj, hdt, hkeep⟩ := hrel
    clear h2 k2 Ht2
    by_cases hlt : k < es.length
    · obtain ⟨c1, c2, c3⟩ := hdt.ent k hlt
      have g := Hg.out k hlt
      generalize he : es[k]! = e at *
      obtain ⟨ec, eo, en⟩ := e
      have He := Lib.hid he
      clear he
      obtain ⟨g0, g1, g2, g3⟩ := g
      go_wp2_with (first | (go_at_call 59; refine (hnext_word _ _ _ g0 g1 g2 g3).mono ?_; rintro e w' ⟨rfl, rfl⟩))
      refine wp_region_still_tail 7 (by kernel_rfl) (by kernel_rfl) ?_
      simp only [List.take_succ_cons, List.take_zero, List.drop_succ_cons, List.drop_zero]
      change wpStill _ _ (World.drew _) _ _ _
      repeat (first | (refine wpStill_step (fun K hK => ?_); go_simp; refine hK _ ?_; clear hK K) | (refine wpStill_step (fun K hK => ?_); go_simp; refine ⟨_, flipped (under_any _ _ (by omega) (by omega)), hK _ ?_⟩; clear hK K))
      refine wpStill_nil ?_
      change wpList _ _ _ _ _ (World.drew _)
      have hl : ec < (fin es (inst d es ws es.length) k).length := by have := Hlt.out k hlt; rw [He.out] at this; rw [fin_length]; exact this
      have ho : (-(d : Int) - 1) = (fin es (inst d es ws es.length) k).getD ec 0 := by
        rw [fin_out es _ k ec (by omega) Hlt.out (fun j hj => by have := Hf.out.ne j k hj hlt; rw [He.out] at this; exact this)]
        have := Hin.out k hlt; rw [He.out] at this; exact this.symm
      have Hj' := Lib.hid (hj.alloc (.cells #[.int .i64 ec, .int .i64 eo, .int .i64 en] 73)).drew
      have hdt' : DAt t es 1 ((wr.alloc (.cells #[.int .i64 ec, .int .i64 eo, .int .i64 en] 73)).drew) := (hdt.of_block (Below.heap_alloc _ _ _ hdt.lt))
      have Hd' := Lib.hid hdt'
      have Hk' := Lib.hid ((hkeep.alloc hkeep.size (.cells #[.int .i64 ec, .int .i64 eo, .int .i64 en] 73)).drew)
      have Ho := Lib.hid ho
      have Hl := Lib.hid hl
      clear hl ho hj hdt hkeep hdt' c1 c2 c3
      go_wp2_with (go_at_call 60; rw [Ho.out]; refine (cas_hit b c ec made _ _ _ Hj'.out Hl.out).mono ?_; rintro e w' ⟨rfl, rfl⟩)
      go_roundw
      case rel =>
        refine ⟨k + 1, by omega, by go_num, ?_, ?_, ?_⟩
        · have := Hj'.out.set (y := nextWord eo en) Hl.out
          simp only [fin, He.out]
          exact this
        · exact Hd'.out.of_block (Below.heap_setCell _ _ _ _ htc)
        · exact Hk'.out.setCell (.inl (.inl rfl)) _
      case measure => simp [intOf]; omega
    · have : k = es.length := by omega
      subst this
      go_wp2
      go_ret
      refine ⟨rfl, ?_, hkeep⟩
      rw [← hfi.out]
      exact hj
end Go.Proofs.Ytadelkancmbanaa
