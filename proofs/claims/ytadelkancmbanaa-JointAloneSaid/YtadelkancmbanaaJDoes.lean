/-
  A descriptor is made and helped to its end (the worker is nil).
-/
import Derived.Test.YtadelkancmbanaaJHelp
import Derived.Laws.IdiomCopy
namespace Go.Proofs.Ytadelkancmbanaa
open Go.RowKit

/-- A new descriptor's cells. -/
def descCells (n : Int) : Array Value := (Value.int .i64 n :: (List.replicate 192 (Value.int .i64 0) ++ [Value.int .i32 0])).toArray

theorem run_build_desc (n : Int) (w : World) : (Instr.build 97 #[(0, .int .i64 n)]).run Try.prog w = .ok (.agg (descCells n)) w := by kernel_rfl
theorem descCells_size (n : Int) : (descCells n).size = 194 := by
  show (Value.int .i64 n :: (List.replicate 192 (Value.int .i64 0) ++ [Value.int .i32 0])).length = 194
  rw [List.length_cons, List.length_append, List.length_replicate]
  rfl
theorem run_box_desc (n : Int) (w : World) : (Instr.box 97 (.agg (descCells n))).run Try.prog w = .ok (.pointer (some ⟨w.heap.size, 0, none⟩)) (w.alloc (.cells (descCells n) 97)) := by kernel_rfl

/-- A slice of entries. -/
structure EntsAt (s o : Nat) (es : List Ent) (w : World) : Prop where
  ent : ∀ k, k < es.length → w.cell? ⟨s, o + k * 3, none⟩ = some (.int .i64 (es[k]!).cell) ∧ w.cell? ⟨s, o + k * 3 + 1, none⟩ = some (.int .i64 (es[k]!).old) ∧ w.cell? ⟨s, o + k * 3 + 2, none⟩ = some (.int .i64 (es[k]!).nxt)

/-- The cells of entries. -/
def entCells : List Ent → List Value
  | [] => []
  | e :: r => .int .i64 e.cell :: .int .i64 e.old :: .int .i64 e.nxt :: entCells r

theorem entCells_length (es : List Ent) : (entCells es).length = es.length * 3 := by
  induction es with
  | nil => rfl
  | cons e r ih => simp [entCells, ih]; omega

theorem entCells_get (es : List Ent) : ∀ k, k < es.length → (entCells es)[k * 3]? = some (.int .i64 (es[k]!).cell) ∧ (entCells es)[k * 3 + 1]? = some (.int .i64 (es[k]!).old) ∧ (entCells es)[k * 3 + 2]? = some (.int .i64 (es[k]!).nxt) := by
  induction es with
  | nil => intro k hk; simp at hk
  | cons e r ih =>
    intro k hk
    cases k with
    | zero => simp [entCells]
    | succ k =>
      have := ih k (by simpa using hk)
      rw [show (k + 1) * 3 = k * 3 + 3 by omega]
      simpa [entCells] using this

theorem entCells_one (es : List Ent) : ∀ v ∈ entCells es, v.oneCell' = true := by
  induction es with
  | nil => intro v hv; cases hv
  | cons e r ih =>
    intro v hv
    simp only [entCells, List.mem_cons] at hv
    rcases hv with rfl | rfl | rfl | hv
    · rfl
    · rfl
    · rfl
    · exact ih v hv

theorem EntsAt.get {s o : Nat} {es : List Ent} {w : World} (h : EntsAt s o es w) (j : Nat) (v : Value) (hv : (entCells es)[j]? = some v) : w.cell? ⟨s, o + j, none⟩ = some v := by
  have hj : j < es.length * 3 := by rw [← entCells_length]; exact (List.getElem?_eq_some_iff.1 hv).1
  have hk : j / 3 < es.length := by omega
  obtain ⟨a, b, c⟩ := h.ent (j / 3) hk
  obtain ⟨a', b', c'⟩ := entCells_get es (j / 3) hk
  have hm : j % 3 = 0 ∨ j % 3 = 1 ∨ j % 3 = 2 := by omega
  rcases hm with hm | hm | hm
  · have e : j / 3 * 3 = j := by omega
    rw [e] at a a'; rw [a]; rw [a'] at hv; exact hv
  · have e : j / 3 * 3 + 1 = j := by omega
    rw [e] at b'; rw [Nat.add_assoc, e] at b; rw [b]; rw [b'] at hv; exact hv
  · have e : j / 3 * 3 + 2 = j := by omega
    rw [e] at c'; rw [Nat.add_assoc, e] at c; rw [c]; rw [c'] at hv; exact hv

/-- copy, elements of any size: all is read before anything is written. -/
theorem run_copy_wide {P : Program} (w : World) (dT sT ty elem : TypeId) (b o dLen dCap sz : Nat) (a : Addr) (sLen sCap : Nat) (cs : List Value)
    (hu : P.underlying dT = some (.slice elem)) (hs : (P.info? elem).map (·.size) = some sz) (hn : cs.length = Nat.min sLen dLen * sz)
    (hsrc : ∀ j v, cs[j]? = some v → w.cell? (a.add j) = some v) (hc : ∀ j, j < cs.length → (w.cell? ⟨b, o + j, none⟩).isSome = true) (hf : ∀ j, j < cs.length → w.frozen? ⟨b, o + j, none⟩ = false) (h1 : ∀ v ∈ cs, v.oneCell' = true) :
    (Builtin.copy_ #[dT, sT] ty #[.slice (some ⟨b, o, none⟩) dLen dCap, .slice (some a) sLen sCap]).run P w = .ok (goInt (Nat.min sLen dLen)) (w.setCells b o cs) := by
  have hl := run_loadCells_list (P := P) w a cs hsrc
  have hst := run_storeCells_cells (P := P) b o cs 0 w (by simpa using hc) (by simpa using hf) h1
  cases hq : P.info? elem with
  | none => simp [hq] at hs
  | some i =>
    have hi : i.size = sz := by simpa [hq] using hs
    simp [Builtin.copy_, run_underlying hu, Builtin.lenOf, Builtin.firstCells, sizeOf, typeInfo, hq, hi, ← hn, hl, hst]

theorem slice_size : (Try.prog.info? 73).map (·.size) = some 3 := by kernel_rfl
theorem zero_desc : Try.zeroCells97 = descCells 0 := by kernel_rfl
theorem descCells_set (n : Int) : Try.zeroCells97.setIfInBounds 0 (.int .i64 n) = descCells n := by
  rw [zero_desc]
  unfold descCells
  rw [List.setIfInBounds_toArray, List.set_cons_zero]
theorem descCells_get (n : Int) (i : Nat) (hi : i < 194) : (descCells n)[i]? = some (if i = 0 then .int .i64 n else if i = 193 then .int .i32 0 else .int .i64 0) := by
  unfold descCells
  rw [List.getElem?_toArray]
  cases i with
  | zero => rfl
  | succ i =>
    rw [List.getElem?_cons_succ, if_neg (by omega)]
    by_cases h : i < 192
    · rw [List.getElem?_append_left (by rw [List.length_replicate]; exact h), List.getElem?_replicate, if_pos h, if_neg (by omega)]
    · have e : i = 192 := by omega
      subst e
      rw [List.getElem?_append_right (by rw [List.length_replicate]; omega), List.length_replicate]; rfl

/-- One descriptor more is made. -/
theorem JRaw.more {b c made : Nat} {ws : List Int} {w : World} (h : JRaw b c ws made w) (m : Nat) : JRaw b c ws m (w.setCell ⟨b, 8193, none⟩ (.int .i64 m)) := by
  obtain ⟨hne, h1, h2, h3, h4, h5, h6⟩ := h
  have nb : ∀ o, o ≠ 8193 → (⟨b, 8193, none⟩ : Addr) ≠ ⟨b, o, none⟩ := fun o ho e => ho (by cases e; rfl)
  have nc : ∀ o, (⟨b, 8193, none⟩ : Addr) ≠ ⟨c, o, none⟩ := fun o e => hne (by cases e; rfl)
  refine ⟨hne, ?_, ?_, ?_, ?_, ?_, h6⟩
  · rw [World.cell?_setCell_other _ _ _ _ (nb _ (by omega))]; exact h1
  · intro j hj
    rw [World.frozen?_setCell, World.cell?_setCell_other _ _ _ _ (nc _)]; exact h2 j hj
  · intro d hd
    rw [World.frozen?_setCell, World.cell?_setCell_other _ _ _ _ (nb _ (by omega))]; exact h3 d hd
  · exact World.cell?_setCell_same _ _ _ h4
  · rw [World.frozen?_setCell]; exact h5

/-- A descriptor's place is written. -/
theorem JRaw.put {b c made d : Nat} {ws : List Int} {w : World} (h : JRaw b c ws made w) (hd : d < 8192) (u : Value) : JRaw b c ws made (w.setCell ⟨b, 1 + d, none⟩ u) := by
  obtain ⟨hne, h1, h2, h3, h4, h5, h6⟩ := h
  have nb : ∀ o, o ≠ 1 + d → (⟨b, 1 + d, none⟩ : Addr) ≠ ⟨b, o, none⟩ := fun o ho e => ho (by cases e; rfl)
  have nc : ∀ o, (⟨b, 1 + d, none⟩ : Addr) ≠ ⟨c, o, none⟩ := fun o e => hne (by cases e; rfl)
  refine ⟨hne, ?_, ?_, ?_, ?_, ?_, h6⟩
  · rw [World.cell?_setCell_other _ _ _ _ (nb _ (by omega))]; exact h1
  · intro j hj
    rw [World.frozen?_setCell, World.cell?_setCell_other _ _ _ _ (nc _)]; exact h2 j hj
  · intro d' hd'
    rw [World.frozen?_setCell]
    refine ⟨(h3 d' hd').1, ?_⟩
    by_cases e : d' = d
    · subst e
      obtain ⟨v, hv⟩ := (h3 d' hd').2
      exact ⟨u, World.cell?_setCell_same _ _ _ hv⟩
    · rw [World.cell?_setCell_other _ _ _ _ (nb _ (by omega))]; exact (h3 d' hd').2
  · rw [World.cell?_setCell_other _ _ _ _ (nb _ (by omega))]; exact h4
  · rw [World.frozen?_setCell]; exact h5

theorem addr_add (b o j : Nat) : (⟨b, o, none⟩ : Addr).add j = ⟨b, o + j, none⟩ := by unfold Addr.add; split <;> simp_all
theorem heap_setCells (b : Nat) (k : Nat) (hk : k ≠ b) : ∀ (vs : List Value) (o : Nat) (w : World), (w.setCells b o vs).heap[k]? = w.heap[k]?
  | [], _, _ => rfl
  | v :: r, o, w => by rw [World.setCells, heap_setCells b k hk r]; exact Below.heap_setCell _ _ _ _ hk
theorem shape_setCells (b r : Nat) : ∀ (vs : List Value) (o : Nat) (w : World), (w.setCells b o vs).shape? r = w.shape? r
  | [], _, _ => rfl
  | v :: l, o, w => by rw [World.setCells, shape_setCells b r l, shape_setCell]
theorem Keep.setCells {S : Nat → Prop} {B b : Nat} (hp : S b ∨ B ≤ b) : ∀ (vs : List Value) (o : Nat) (a w : World), Keep S B a w → Keep S B a (w.setCells b o vs)
  | [], _, _, _, h => h
  | v :: r, o, a, w, h => Keep.setCells hp r (o + 1) a _ (h.setCell (p := ⟨b, o, none⟩) hp v)

/-- A descriptor that was just made, its entries copied in. -/
theorem DAt.fresh {t : Nat} {es : List Ent} {w : World} (hn : es.length ≤ 64) (hb : w.heap[t]? = some (.cells (descCells es.length) 97 (0, 0))) : DAt t es 0 (w.setCells t 1 (entCells es)) := by
  have hc : ∀ i, i < 194 → w.cell? ⟨t, i, none⟩ = some (if i = 0 then .int .i64 es.length else if i = 193 then .int .i32 0 else .int .i64 0) := fun i hi => by
    rw [← descCells_get _ i hi]; simp [World.cell?, hb]
  have hl := entCells_length es
  have hin : ∀ j v, (entCells es)[j]? = some v → (w.setCells t 1 (entCells es)).cell? ⟨t, 1 + j, none⟩ = some v := fun j v hv => by
    have hj := (List.getElem?_eq_some_iff.1 hv).1
    rw [World.cell?_setCells_in t (entCells es) 1 w (fun i hi => by rw [hc _ (by omega)]; rfl) j hj]
    exact congrArg some (List.getElem?_eq_some_iff.1 hv).2
  refine ⟨?_, ?_, ?_, ?_, ?_, hn⟩
  · rw [World.cell?_setCells_out t _ _ _ _ (fun _ _ => .inl (by simp))]; exact hc 0 (by omega)
  · intro k hk
    obtain ⟨a, b, c⟩ := entCells_get es k hk
    exact ⟨hin _ _ a, by rw [Nat.add_assoc]; exact hin _ _ b, by rw [Nat.add_assoc]; exact hin _ _ c⟩
  · rw [World.cell?_setCells_out t _ _ _ _ (fun _ _ => .inr (by simp only [hl]; omega))]; exact hc 193 (by omega)
  · rw [World.frozen?_setCells]; simp [World.frozen?, hb]
  · rw [shape_setCells]; simp [World.shape?, hb, descCells_size]

set_option maxRecDepth 100000 in
set_option maxHeartbeats 400000 in
theorem jdoes_any (b c s o cap made : Nat) (es : List Ent) (ws : List Int) (w : World) (h : JRaw b c ws made w) (hm : made < 1024) (hs : EntsAt s o es w) (hsb : s ≠ b) (hsl : s < w.heap.size) (hn : es.length ≤ 64) (hf : Fits es ws) (hg : Good es) :
    Calls Try.prog 26 #[.pointer (some ⟨b, 0, none⟩), .pointer none, .slice (some ⟨s, o, none⟩) es.length cap] w fun e w' => e = .returned (.tuple #[.bool true, .int .i64 0]) ∧ JRaw b c (fin es ws es.length) (made + 1) w' ∧ Keep (fun k => k = b ∨ k = c) w.heap.size w w' := by
  have hmm := h.made
  have hmf := h.madeF
  have hd : decide (1024 ≤ (made : Int)) = false := by simp; omega
  have hlt := h.lt
  obtain ⟨W1, hW1⟩ : ∃ W1, W1 = ((w.setCell ⟨b, 8193, none⟩ (.int .i64 ((made : Int) + 1))).alloc (.cells (Try.zeroCells97.setIfInBounds 0 (.int .i64 es.length)) 97)).drew := ⟨_, rfl⟩
  have j1 : JRaw b c ws (made + 1) W1 := by rw [hW1]; exact ((h.more (made + 1)).alloc _).drew
  have b1 : W1.heap[w.heap.size]? = some (.cells (descCells es.length) 97 (0, 0)) := by
    rw [hW1, descCells_set]
    have e : (w.setCell ⟨b, 8193, none⟩ (.int .i64 ((made : Int) + 1))).heap.size = w.heap.size := by simp [World.setCell]
    show ((w.setCell _ _).heap.push _)[w.heap.size]? = _
    rw [Array.getElem?_push, if_pos e.symm]
  have k1 : Keep (fun k => k = b ∨ k = c) w.heap.size w W1 := by rw [hW1]; exact (((Keep.refl _ _ _).setCell (.inl (.inl rfl)) _).alloc (by simp [World.setCell]) _).drew
  have s1 : EntsAt s o es W1 := ⟨fun k hk => by
    obtain ⟨x, y, z⟩ := hs.ent k hk
    have e : ∀ q, W1.cell? ⟨s, q, none⟩ = w.cell? ⟨s, q, none⟩ := fun q => by
      rw [hW1]
      show (World.alloc _ _).cell? _ = _
      rw [World.cell?_alloc_lt _ _ _ (by simpa [World.setCell] using hsl), World.cell?_setCell_other _ _ _ _ (by intro e; cases e; exact hsb rfl)]
    rw [e, e, e]; exact ⟨x, y, z⟩⟩
  obtain ⟨W2, hW2⟩ : ∃ W2, W2 = W1.setCells w.heap.size 1 (entCells es) := ⟨_, rfl⟩
  have hcopy : (Builtin.copy_ #[68, 68] 3 #[.slice (some ⟨w.heap.size, 1, none⟩) 64 64, .slice (some ⟨s, o, none⟩) es.length cap]).run Try.prog W1 = .ok (goInt es.length) W2 := by
    have hc : ∀ i, i < 194 → W1.cell? ⟨w.heap.size, i, none⟩ = some (if i = 0 then .int .i64 es.length else if i = 193 then .int .i32 0 else .int .i64 0) := fun i hi => by
      rw [← descCells_get _ i hi]; simp [World.cell?, b1]
    have hmin : Nat.min es.length 64 = es.length := Nat.min_eq_left hn
    have hl := entCells_length es
    have := run_copy_wide (P := Try.prog) W1 68 68 3 73 w.heap.size 1 64 64 3 ⟨s, o, none⟩ es.length cap (entCells es) Try.underlying68 slice_size (by rw [hmin, hl])
      (fun j v hv => by rw [addr_add]; exact s1.get j v hv) (fun j hj => by rw [hc _ (by omega)]; rfl) (fun j hj => by simp [World.frozen?, b1]) (entCells_one es)
    rw [hmin] at this
    rw [hW2]; exact this
  have d2 : DAt w.heap.size es 0 W2 := by rw [hW2]; exact DAt.fresh hn b1
  have j2 : JRaw b c ws (made + 1) W2 := by rw [hW2]; exact j1.of_blocks (heap_setCells _ _ (by omega) _ _ _) (heap_setCells _ _ (by omega) _ _ _)
  have k2 : Keep (fun k => k = b ∨ k = c) w.heap.size w W2 := by rw [hW2]; exact Keep.setCells (.inr (Nat.le_refl _)) _ _ _ _ k1
  rw [hW1] at hcopy
  clear hW1 hW2 j1 b1 k1 s1 h hs
  have hh := (j2.all (8 * made) (by omega)).1
  obtain ⟨u, hu⟩ := (j2.all (8 * made) (by omega)).2
  have Hf := Lib.hid hf
  have Hg := Lib.hid hg
  have Hj := Lib.hid j2
  have Hd := Lib.hid d2
  have Hk := Lib.hid k2
  have Hsh := Lib.hid d2.shape
  clear hf hg j2 d2 k2
  go_enter Try.func26, Try.ntmps26
  go_wp2_with (first | (go_at_call 44; refine (number_nil _).mono ?_; rintro e w' ⟨rfl, rfl⟩))
  refine wp_region_still_tail 10 (by kernel_rfl) (by kernel_rfl) ?_
  simp only [List.take_succ_cons, List.take_zero, List.drop_succ_cons, List.drop_zero]
  change wpStill _ _ (World.drew _) _ _ _
  repeat (first | (refine wpStill_step (fun K hK => ?_); go_simp; refine hK _ ?_; clear hK K))
  refine wpStill_nil ?_
  change wpList _ _ _ _ _ (World.drew _)
  go_wp2_with fail
  refine (pstore b (1 + 8 * made) w.heap.size u W2 hu hh Hsh.out).mono ?_
  rintro e W3 ⟨rfl, hW3⟩
  have p3 : W3.cell? ⟨b, 1 + 8 * made, none⟩ = some (.pointer (some ⟨w.heap.size, 0, none⟩)) := by rw [← hW3]; exact World.cell?_setCell_same _ _ _ hu
  have j3 : JRaw b c ws (made + 1) W3 := by rw [← hW3]; exact Hj.out.put (by omega) _
  have d3 : DAt w.heap.size es 0 W3 := by rw [← hW3]; exact Hd.out.of_block (Below.heap_setCell _ _ _ _ (by show w.heap.size ≠ b; omega))
  have k3 : Keep (fun k => k = b ∨ k = c) w.heap.size w W3 := by rw [← hW3]; exact Hk.out.setCell (.inl (.inl rfl)) _
  have Hp := Lib.hid p3
  have Hj3 := Lib.hid j3
  have Hd3 := Lib.hid d3
  have Hk3 := Lib.hid k3
  have hcast : (8 * (made : Int)) = ((8 * made : Nat) : Int) := by omega
  have Hcast := Lib.hid hcast
  clear hW3 Hsh hu hh Hj Hd Hk p3 j3 d3 k3 hcopy hmm hmf hcast
  go_wp2_with fail
  rw [Hcast.out]
  refine (help_any b c w.heap.size (8 * made) (made + 1) es ws W3 Hj3.out (by omega) Hp.out Hd3.out (by omega) (by omega) Hf.out Hg.out).mono ?_
  rintro e W4 ⟨rfl, j4, k4⟩
  have k5 : Keep (fun k => k = b ∨ k = c) w.heap.size w W4 := Hk3.out.trans ((k4.mono Hk3.out.size).weaken (fun k hk e => by rcases e with e | e; exact .inr e; omega))
  go_wp2
  go_ret2
  exact ⟨rfl, j4, k5⟩
end Go.Proofs.Ytadelkancmbanaa
