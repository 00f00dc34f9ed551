/-
  Change, alone: cells changed where each holds what is said.
-/
import Derived.Test.YtadelkancmbanaaJChange
namespace Go.Proofs.Ytadelkancmbanaa
open Go.RowKit

/-! ### A list in another order -/
/-- Cells that are there, all unlike. -/
def goodCells (es : List AEnt) (n : Nat) : Prop := (∀ x ∈ es, 0 ≤ x.c ∧ x.c < n) ∧ es.Pairwise (fun x y => x.c ≠ y.c)
def allLies (es : List AEnt) : Prop := ∀ x ∈ es, x.lies
def allFit (ws : List Int) (es : List AEnt) : Prop := ∀ x ∈ es, num (wd ws x.c.toNat) = x.o

theorem goodCells_perm {es es' : List AEnt} {n : Nat} (h : es'.Perm es) : goodCells es' n ↔ goodCells es n := by
  unfold goodCells
  rw [h.pairwise_iff (fun {a b} hab => Ne.symm hab)]
  exact and_congr_left fun _ => ⟨fun k x hx => k x (h.mem_iff.2 hx), fun k x hx => k x (h.mem_iff.1 hx)⟩
theorem all_get {es : List AEnt} (P : AEnt → Prop) : (∀ k, k < es.length → P (es[k]!)) ↔ ∀ x ∈ es, P x := by
  constructor
  · intro h x hx
    obtain ⟨k, hk, rfl⟩ := List.getElem_of_mem hx
    have := h k hk
    rwa [getElem!_pos es k hk] at this
  · intro h k hk
    rw [getElem!_pos es k hk]
    exact h _ (List.getElem_mem hk)

theorem okCells_iff {es : List AEnt} {n : Nat} (hs : SortedOn es 0 es.length) : (∀ k, k < es.length → okCell es n k) ↔ goodCells es n := by
  constructor
  · intro h
    refine ⟨(all_get (fun x => 0 ≤ x.c ∧ x.c < n)).1 fun k hk => ⟨(h k hk).1, (h k hk).2.1⟩, ?_⟩
    rw [List.pairwise_iff_getElem]
    intro i j hi hj hij
    obtain ⟨m, rfl⟩ : ∃ m, j = m + 1 := ⟨j - 1, by omega⟩
    have h1 := (h (m + 1) hj).2.2 m rfl
    have h2 := hs m (m + 1) (by omega) (by omega) hj
    have h3 : key es i ≤ key es m := by
      rcases Nat.lt_or_ge i m with h' | h'
      · exact hs i m (by omega) h' (by omega)
      · have : i = m := by omega
        subst this; exact Int.le_refl _
    have e1 : key es i = (es[i]).c := by unfold key; rw [getElem!_pos es i hi]
    have e2 : key es (m + 1) = (es[m + 1]).c := by unfold key; rw [getElem!_pos es (m + 1) hj]
    rw [← e1, ← e2]; omega
  · intro ⟨h1, h2⟩ k hk
    have h3 := (all_get (fun x => 0 ≤ x.c ∧ x.c < n)).2 h1 k hk
    refine ⟨h3.1, h3.2, fun m hm => ?_⟩
    subst hm
    rw [List.pairwise_iff_getElem] at h2
    have := h2 m (m + 1) (by omega) hk (by omega)
    unfold key
    rw [getElem!_pos es m (by omega), getElem!_pos es (m + 1) hk]
    exact this
theorem lies_iff {es : List AEnt} : (∀ k, k < es.length → (es[k]!).lies) ↔ allLies es := all_get _
theorem fit_iff {ws : List Int} {es : List AEnt} : (∀ k, k < es.length → fit ws es k) ↔ allFit ws es := all_get (fun x => num (wd ws x.c.toNat) = x.o)
theorem allLies_perm {es es' : List AEnt} (h : es'.Perm es) : allLies es' ↔ allLies es := ⟨fun k x hx => k x (h.mem_iff.2 hx), fun k x hx => k x (h.mem_iff.1 hx)⟩
theorem allFit_perm {es es' : List AEnt} {ws : List Int} (h : es'.Perm es) : allFit ws es' ↔ allFit ws es := ⟨fun k x hx => k x (h.mem_iff.2 hx), fun k x hx => k x (h.mem_iff.1 hx)⟩

/-- The words behind a change of these entries. -/
structure Changed (ws : List Int) (es : List AEnt) (ws' : List Int) : Prop where
  length : ws'.length = ws.length
  words : Words ws'
  at_ : ∀ x ∈ es, num (ws'.getD x.c.toNat 0) = x.n
  out : ∀ i, i < ws.length → (∀ x ∈ es, x.c ≠ (i : Int)) → ws'.getD i 0 = ws.getD i 0

theorem Row.to_changed {es es₀ : List AEnt} {ws : List Int} (h : Row es ws.length) (hw : Words ws) (hp : es.Perm es₀) : Changed ws es₀ (changed ws es) := by
  have hl := chE_length ws es es.length
  have hf := h.fits
  have hg := h.good hw
  have hget : ∀ k, k < es.length → (changed ws es).getD (kp es k) 0 = nextWord (wd ws (kp es k)) (es[k]!).n := fun k hk => by
    have := fin_in (chE ws es es.length) ws es.length k (by omega) hf.lt hf.ne hk
    rw [chE_get _ _ _ _ hk] at this
    exact this
  have hat : ∀ x ∈ es, num ((changed ws es).getD x.c.toNat 0) = x.n := by
    refine (all_get (fun x => num ((changed ws es).getD x.c.toNat 0) = x.n)).1 fun k hk => ?_
    show num ((changed ws es).getD (kp es k) 0) = _
    rw [hget k hk]
    exact (nextWord_bd _ _ (h.lies k hk).2.1 (h.lies k hk).2.2).2.2
  have hout : ∀ i, i < ws.length → (∀ x ∈ es, x.c ≠ (i : Int)) → (changed ws es).getD i 0 = ws.getD i 0 := fun i hi hx => by
    refine fin_out (chE ws es es.length) ws es.length i (by omega) hf.lt fun j hj => ?_
    rw [chE_get _ _ _ _ hj]
    show kp es j ≠ i
    have h1 := (h.kp_lt j hj).2
    have h2 := (all_get (fun x => x.c ≠ (i : Int))).2 hx j hj
    intro e; rw [e] at h1; exact h2 h1.symm
  have hlen : (changed ws es).length = ws.length := fin_length _ _ _
  refine ⟨hlen, fun i hi => ?_, fun x hx => hat x (hp.mem_iff.2 hx), fun i hi hx => hout i hi fun x hx' => hx x (hp.mem_iff.1 hx')⟩
  rw [hlen] at hi
  by_cases e : ∃ k, k < es.length ∧ kp es k = i
  · obtain ⟨k, hk, rfl⟩ := e
    rw [hget k hk]
    have := nextWord_bd (wd ws (kp es k)) (es[k]!).n (h.lies k hk).2.1 (h.lies k hk).2.2
    exact ⟨this.1, this.2.1⟩
  · rw [hout i hi]
    · exact hw i hi
    · refine (all_get (fun x => x.c ≠ (i : Int))).1 fun k hk e' => e ⟨k, hk, ?_⟩
      have := (h.kp_lt k hk).2
      omega

/-- How a Change ends. -/
structure ChangeEnd (b c made : Nat) (ws : List Int) (es : List AEnt) (w : World) (e : Ending) (w' : World) : Prop where
  cell : ¬ goodCells es ws.length → e = .returned (.tuple #[.bool false, .int .i64 262]) ∧ JRaw b c ws made w'
  value : goodCells es ws.length → ¬ allLies es → e = .returned (.tuple #[.bool false, .int .i64 263]) ∧ JRaw b c ws made w'
  other : goodCells es ws.length → allLies es → ¬ allFit ws es → e = .returned (.tuple #[.bool false, .int .i64 264]) ∧ JRaw b c ws made w'
  yes : goodCells es ws.length → allLies es → allFit ws es → e = .returned (.tuple #[.bool true, .int .i64 0]) ∧ ∃ ws', Changed ws es ws' ∧ JRaw b c ws' (made + 1) w'
  keep : Keep (fun k => k = b ∨ k = c) w.heap.size w w'

theorem callChange2 (cap : Array Value) : ∀ w, (callFunc 35 cap).run Try.prog w = .ok (.enter 35 cap) w := fun w => by kernel_rfl

theorem values_any (s : Option Addr) (n cap : Nat) (w : World) : Calls Try.prog 31 #[.slice s n cap] w fun e w' => e = .returned (.func (.func 50) #[] #[.pointer (some ⟨w.heap.size, 0, none⟩)]) ∧ w.alloc (.cells #[.slice s n cap] 29) = w' := by
  go_enter Try.func31, Try.ntmps31
  go_wp2
  go_ret
  exact ⟨rfl, rfl⟩

set_option maxRecDepth 100000 in
set_option maxHeartbeats 3200000 in
theorem change_any (b c made s o cap : Nat) (ws : List Int) (es : List AEnt) (w : World) (h : JRaw b c ws made w) (hb : Words ws) (hm : made < 1024) (he : AEntsAt s o es w) (hs : s < w.heap.size) (h1 : 1 ≤ es.length) (h2 : es.length ≤ 64) (hso : SortOk es.length) :
    Calls Try.prog 12 #[.pointer (some ⟨b, 0, none⟩), .pointer none, .slice (some ⟨s, o, none⟩) es.length cap] w (ChangeEnd b c made ws es w) := by
  have hd : decide ((es.length : Int) ≤ 64) = true := by simp; omega
  obtain ⟨W, hW⟩ : ∃ W, W = ((w.alloc (.cells #[.pointer (some ⟨b, 0, none⟩)] 25)).alloc (.cells #[.pointer none] 66)).alloc (.cells #[.slice (some ⟨s, o, none⟩) es.length cap] 29) := ⟨_, rfl⟩
  have sW : W.heap.size = w.heap.size + 3 := by rw [hW]; simp
  have kW : Keep (fun _ => False) w.heap.size w W := by rw [hW]; exact (((Keep.refl _ _ _).alloc (Nat.le_refl _) _).alloc (by simp) _).alloc (by simp; omega) _
  have cl : W.cell? ⟨w.heap.size + 1 + 1, 0, none⟩ = some (.slice (some ⟨s, o, none⟩) es.length cap) := by rw [hW]; exact new_cell _ _ _ _ (by simp)
  have fl : W.frozen? ⟨w.heap.size + 1 + 1, 0, none⟩ = false := by rw [hW]; exact new_frozen _ _ _ _ (by simp)
  have cx : W.cell? ⟨w.heap.size, 0, none⟩ = some (.pointer (some ⟨b, 0, none⟩)) := by rw [hW, old_cell _ _ _ (by simp; omega), old_cell _ _ _ (by simp)]; exact new_cell _ _ _ _ rfl
  have cw : W.cell? ⟨w.heap.size + 1, 0, none⟩ = some (.pointer none) := by rw [hW, old_cell _ _ _ (by simp)]; exact new_cell _ _ _ _ (by simp)
  have HkW := Lib.hid kW
  have Hcl := Lib.hid cl
  have Hcx := Lib.hid cx
  have Hcw := Lib.hid cw
  have Hfl := Lib.hid fl
  have HsW := Lib.hid sW
  have H := Lib.hid h
  have Hb := Lib.hid hb
  have He := Lib.hid he
  have Hso := Lib.hid hso
  have HW := Lib.hid hW
  clear hW kW cl cx cw fl sW h hb he hso
  go_enter Try.func12, Try.ntmps12
  go_wp2_with fail
  rw [← HW.out]
  refine (values_any _ _ _ _).mono ?_
  rintro e w1 ⟨rfl, rfl⟩
  have hsz := HsW.out
  have hss := Hso.out
  have hsort := sorted_any (w.heap.size + 3) s o cap es h1 (by omega) hss (W.alloc (.cells #[.slice (some ⟨s, o, none⟩) es.length cap] 29)) (new_cell _ _ _ _ (by omega)) ((He.out.of_block (HkW.out.block s hs id)).of_block (Below.heap_alloc _ _ _ (by omega))) (by simp; omega)
  have Hsort := Lib.hid hsort
  clear hsort hss
  go_wp2_with fail
  refine Hsort.out.mono ?_
  rintro e w2 ⟨g, cap2, es', rfl, hr, hg1, hg2, hp, hsd, hbel⟩
  simp only [World.size_alloc] at hbel hg1
  have c2 : w2.cell? ⟨w.heap.size + 1 + 1, 0, none⟩ = some (.slice (some ⟨s, o, none⟩) es.length cap) := (hbel.cell (p := ⟨w.heap.size + 1 + 1, 0, none⟩) (by show w.heap.size + 1 + 1 < _; omega)).trans ((old_cell W _ _ (by show w.heap.size + 1 + 1 < _; omega)).trans Hcl.out)
  have f2 : w2.frozen? ⟨w.heap.size + 1 + 1, 0, none⟩ = false := (hbel.frozen (p := ⟨w.heap.size + 1 + 1, 0, none⟩) (by show w.heap.size + 1 + 1 < _; omega)).trans ((old_frozen W _ _ (by show w.heap.size + 1 + 1 < _; omega)).trans Hfl.out)
  have x2 : w2.cell? ⟨w.heap.size, 0, none⟩ = some (.pointer (some ⟨b, 0, none⟩)) := (hbel.cell (p := ⟨w.heap.size, 0, none⟩) (by show w.heap.size < _; omega)).trans ((old_cell W _ _ (by show w.heap.size < _; omega)).trans Hcx.out)
  have w2w : w2.cell? ⟨w.heap.size + 1, 0, none⟩ = some (.pointer none) := (hbel.cell (p := ⟨w.heap.size + 1, 0, none⟩) (by show w.heap.size + 1 < _; omega)).trans ((old_cell W _ _ (by show w.heap.size + 1 < _; omega)).trans Hcw.out)
  have c3 : (w2.setCell ⟨w.heap.size + 1 + 1, 0, none⟩ (.slice (some ⟨g, 0, none⟩) es.length cap2)).cell? ⟨w.heap.size + 1 + 1, 0, none⟩ = some (.slice (some ⟨g, 0, none⟩) es.length cap2) := World.cell?_setCell_same _ _ _ c2
  have x3 : (w2.setCell ⟨w.heap.size + 1 + 1, 0, none⟩ (.slice (some ⟨g, 0, none⟩) es.length cap2)).cell? ⟨w.heap.size, 0, none⟩ = some (.pointer (some ⟨b, 0, none⟩)) := (World.cell?_setCell_other _ _ _ _ (by intro e; injection e with e; omega)).trans x2
  have w3 : (w2.setCell ⟨w.heap.size + 1 + 1, 0, none⟩ (.slice (some ⟨g, 0, none⟩) es.length cap2)).cell? ⟨w.heap.size + 1, 0, none⟩ = some (.pointer none) := (World.cell?_setCell_other _ _ _ _ (by intro e; injection e with e; omega)).trans w2w
  obtain ⟨W3, hW3⟩ : ∃ W3, W3 = w2.setCell ⟨w.heap.size + 1 + 1, 0, none⟩ (.slice (some ⟨g, 0, none⟩) es.length cap2) := ⟨_, rfl⟩
  have HW3 := Lib.hid hW3
  have k3 : Keep (fun _ => False) w.heap.size w W3 := by
    rw [hW3]
    have hs1 := hbel.size
    exact (HkW.out.trans ((Keep.of_below (B := w.heap.size) ((Below.refl _ W).alloc (by omega) _)).trans ((Keep.of_below hbel).mono (by omega)))).trans ((Keep.refl _ _ _).setCell (.inr (by show w.heap.size ≤ w.heap.size + 1 + 1; omega)) _)
  have r3 : AEntsAt g 0 es' W3 := by rw [hW3]; exact hr.ent.of_block (Below.heap_setCell _ _ _ _ (by show g ≠ w.heap.size + 1 + 1; omega))
  have g3 : g < W3.heap.size := by rw [hW3]; simpa [World.setCell] using hg2
  have j3 : JRaw b c ws made W3 := H.out.keep k3 (Nat.le_refl _) id id
  rw [← hW3] at c3 x3 w3
  have el : es'.length = es.length := hp.length_eq
  have hright := right_any b c made g cap2 es' ws W3 j3 r3 (by omega) (by omega) g3
  rw [el] at hright
  have Hright := Lib.hid hright
  have Hc3 := Lib.hid c3
  have Hx3 := Lib.hid x3
  have Hw3 := Lib.hid w3
  have Hk3 := Lib.hid k3
  have Hr3 := Lib.hid r3
  have Hp := Lib.hid hp
  have Hsd := Lib.hid hsd
  have Hel := Lib.hid el
  have HsW3 : Hid (w.heap.size + 4 ≤ W3.heap.size) := Lib.hid (by rw [hW3]; have := hbel.size; simp only [World.size_alloc] at this; simp [World.setCell]; omega)
  have Hg3 := Lib.hid g3
  rw [hW3] at c3 x3 w3
  clear hW3 hright k3 r3 hp hsd el hr hbel j3 g3
  go_wp2_with fail
  rw [← HW3.out]
  refine Hright.out.mono ?_
  rintro e w4 ⟨hbel, hcell, hvalue, hok⟩
  have hs3 : w.heap.size + 4 ≤ W3.heap.size := by
    have := HsW3.out
    omega
  have c4 := (hbel.cell (p := ⟨w.heap.size + 1 + 1, 0, none⟩) (by show w.heap.size + 1 + 1 < _; omega)).trans Hc3.out
  have x4 := (hbel.cell (p := ⟨w.heap.size, 0, none⟩) (by show w.heap.size < _; omega)).trans Hx3.out
  have w4w := (hbel.cell (p := ⟨w.heap.size + 1, 0, none⟩) (by show w.heap.size + 1 < _; omega)).trans Hw3.out
  have k4 : Keep (fun _ => False) w.heap.size w w4 := Hk3.out.trans ((Keep.of_below hbel).mono (by omega))
  have j4 : JRaw b c ws made w4 := H.out.keep k4 (Nat.le_refl _) id id
  have kk : Keep (fun k => k = b ∨ k = c) w.heap.size w w4 := k4.weaken (fun _ _ h => h.elim)
  have hgc : (∀ k, k < es'.length → okCell es' ws.length k) ↔ goodCells es ws.length := (okCells_iff (by rw [Hel.out]; exact Hsd.out)).trans (goodCells_perm Hp.out)
  have hli : (∀ k, k < es'.length → (es'[k]!).lies) ↔ allLies es := lies_iff.trans (allLies_perm Hp.out)
  have Hkk := Lib.hid kk
  have Hj4 := Lib.hid j4
  by_cases g1 : goodCells es ws.length
  · by_cases g2 : allLies es
    · have hee := hok (hgc.2 g1) (hli.2 g2)
      subst hee
      have r4 : AEntsAt g 0 es' w4 := Hr3.out.of_block (hbel.block g (by have := Hg3.out; omega))
      have hrow : Row es' ws.length := ⟨hgc.2 g1, hli.2 g2, by rw [Hel.out]; exact Hsd.out⟩
      have hel := Hel.out
      have h2c := change2_any b c (w.heap.size + 1 + 1) w.heap.size (w.heap.size + 1) g cap2 made ws es' w4 j4 Hb.out hm (by rw [hel]; exact c4) x4 w4w r4 (by have := hbel.size; have := Hg3.out; omega) (by omega) (by omega) hrow
      by_cases g3 : allFit ws es
      · have ha := again_once 35 _ w4 true 0 (fun w' => JRaw b c (changed ws es') (made + 1) w' ∧ Keep (fun k => k = b ∨ k = c) w4.heap.size w4 w') (callChange2 _) rfl
          (h2c.mono fun e w' hh => ⟨(hh.yes (fit_iff.2 ((allFit_perm Hp.out).2 g3))).1, (hh.yes (fit_iff.2 ((allFit_perm Hp.out).2 g3))).2, hh.keep⟩)
        have Ha := Lib.hid ha
        have hch := hrow.to_changed Hb.out Hp.out
        have Hch := Lib.hid hch
        have Hg := Lib.hid (And.intro g1 (And.intro g2 g3))
        clear ha h2c g1 g2 g3 hrow r4 kk j4 k4 hgc hli hcell hvalue hok hbel hch
        go_wp2_with fail
        refine Ha.out.mono ?_
        rintro e w5 ⟨rfl, hj5, hk5⟩
        have Hj5 := Lib.hid hj5
        have Hk5 := Lib.hid hk5
        clear hj5 hk5
        go_wp2
        go_ret2
        obtain ⟨g1, g2, g3⟩ := Hg.out
        exact ⟨fun h => absurd g1 h, fun _ h => absurd g2 h, fun _ _ h => absurd g3 h, fun _ _ _ => ⟨rfl, _, Hch.out, Hj5.out⟩, Hkk.out.trans (Hk5.out.mono Hkk.out.size)⟩
      · have ha := again_once 35 _ w4 false 264 (fun w' => JRaw b c ws made w' ∧ Keep (fun k => k = b ∨ k = c) w4.heap.size w4 w') (callChange2 _) rfl
          (h2c.mono fun e w' hh => ⟨(hh.no (fun hf => g3 ((allFit_perm Hp.out).1 (fit_iff.1 hf)))).1, (hh.no (fun hf => g3 ((allFit_perm Hp.out).1 (fit_iff.1 hf)))).2, hh.keep⟩)
        have Ha := Lib.hid ha
        have Hg := Lib.hid (And.intro g1 (And.intro g2 g3))
        clear ha h2c g1 g2 g3 hrow r4 kk j4 k4 hgc hli hcell hvalue hok hbel
        go_wp2_with fail
        refine Ha.out.mono ?_
        rintro e w5 ⟨rfl, hj5, hk5⟩
        have Hj5 := Lib.hid hj5
        have Hk5 := Lib.hid hk5
        clear hj5 hk5
        go_wp2
        go_ret2
        obtain ⟨g1, g2, g3⟩ := Hg.out
        exact ⟨fun h => absurd g1 h, fun _ h => absurd g2 h, fun _ _ _ => ⟨rfl, Hj5.out⟩, fun _ _ h => absurd h g3, Hkk.out.trans (Hk5.out.mono Hkk.out.size)⟩
    · have hee : e = .returned (.int .i64 263) := by
        have hn : ¬ ∀ k, k < es'.length → (es'[k]!).lies := fun h => g2 (hli.1 h)
        obtain ⟨k, hk⟩ := Classical.not_forall.1 hn
        obtain ⟨hk1, hk2⟩ := Classical.not_imp.1 hk
        exact hvalue (hgc.2 g1) k hk1 hk2
      subst hee
      have Hg := Lib.hid (And.intro g1 g2)
      clear g1 g2 kk j4 k4 hgc hli hcell hvalue hok hbel
      go_wp2_with (first | (go_at_call 28; ((with_reducible refine (step_nil _).mono ?_); rintro e w' ⟨rfl, rfl⟩)))
      go_ret2
      obtain ⟨g1, g2⟩ := Hg.out
      exact ⟨fun h => absurd g1 h, fun _ _ => ⟨rfl, Hj4.out⟩, fun _ h => absurd h g2, fun _ h => absurd h g2, Hkk.out⟩
  · have hee : e = .returned (.int .i64 262) := by
      have hn : ¬ ∀ k, k < es'.length → okCell es' ws.length k := fun h => g1 (hgc.1 h)
      obtain ⟨k, hk⟩ := Classical.not_forall.1 hn
      obtain ⟨hk1, hk2⟩ := Classical.not_imp.1 hk
      exact hcell k hk1 hk2
    subst hee
    have Hg := Lib.hid g1
    clear g1 kk j4 k4 hgc hli hcell hvalue hok hbel
    go_wp2_with (first | (go_at_call 28; ((with_reducible refine (step_nil _).mono ?_); rintro e w' ⟨rfl, rfl⟩)))
    go_ret2
    exact ⟨fun _ => ⟨rfl, Hj4.out⟩, fun h => absurd h Hg.out, fun h => absurd h Hg.out, fun h => absurd h Hg.out, Hkk.out⟩
end Go.Proofs.Ytadelkancmbanaa
