/-
  bond.Cells: a cell's newest version, and the newest one that holds; Get.
-/
import Derived.Test.YtadelkancmbanaaGreatBHolds
namespace Go.Proofs.YtadelkancmbanaaGreat
open Go.RowKit
attribute [local go_sem ↓] Go.wp_at_zero Go.wp_at_succ

theorem results_row2_tmp {P : Program} {fn : Func} {p q u : Tmp} {ty ty' : TypeId} (h : fn.results = #[.cell p ty, .cell q ty', .tmp u]) (tmps : Array Value) (w : World) (g g' : Nat) (t t' : TypeId) (cs cs' : Array Value) (fr fr' : Nat × Nat) (d d' : TypeDesc) (x : Value)
    (hp : tmps.getD p undef = .pointer (some ⟨g, 0, none⟩)) (hq : tmps.getD q undef = .pointer (some ⟨g', 0, none⟩)) (hx : tmps.getD u undef = x) (hg : w.heap[g]? = some (.cells cs t fr)) (hg' : w.heap[g']? = some (.cells cs' t' fr'))
    (hu : P.underlying ty = some d) (hd : (match d with | .struct _ | .array _ _ => true | _ => false) = true) (hi : (P.info? ty).map (·.size) = some cs.size)
    (hu' : P.underlying ty' = some d') (hd' : (match d' with | .struct _ | .array _ _ => true | _ => false) = true) (hi' : (P.info? ty').map (·.size) = some cs'.size) :
    (results fn tmps).run P w = .ok (.tuple #[.agg cs, .agg cs', x]) w := by
  have hp' : tmps[p]?.getD undef = .pointer (some ⟨g, 0, none⟩) := by simpa using hp
  have hq' : tmps[q]?.getD undef = .pointer (some ⟨g', 0, none⟩) := by simpa using hq
  have hx' : tmps[u]?.getD undef = x := by simpa using hx
  simp [results, h, hp', hq', hx', asAddr, run_loadVar_row w g t ty cs fr d hg hu hd hi, run_loadVar_row w g' t' ty' cs' fr' d' hg' hu' hd' hi']

theorem block_put3 (w : World) (b k : Nat) (u v x : Value) (hne : b ≠ k) : (((w.setCell ⟨b, 0, none⟩ u).setCell ⟨b, 1, none⟩ v).setCell ⟨b, 2, none⟩ x).heap[k]? = w.heap[k]? := by
  have h0 := fun (o : Nat) (w : World) (v : Value) => Below.heap_setCell w ⟨b, o, none⟩ v k hne.symm
  rw [h0, h0, h0]

theorem row_put3 (w : World) (b : Nat) (u v x y0 y1 y2 : Value) (t : TypeId) (h : w.heap[b]? = some (.cells #[y0, y1, y2] t (0, 0))) : (((w.setCell ⟨b, 0, none⟩ u).setCell ⟨b, 1, none⟩ v).setCell ⟨b, 2, none⟩ x).heap[b]? = some (.cells #[u, v, x] t (0, 0)) :=
  heap_setCell_same _ _ 2 _ _ x (heap_setCell_same _ _ 1 _ _ v (heap_setCell_same _ _ 0 _ _ u h))

theorem drew_row {w : World} {b : Nat} {x : Option Obj} (h : w.heap[b]? = x) : w.drew.heap[b]? = x := h

theorem below_put3 {B : Nat} {w0 w : World} (h : Below B w0 w) (b : Nat) (hb : B ≤ b) (u v x : Value) : Below B w0 (((w.setCell ⟨b, 0, none⟩ u).setCell ⟨b, 1, none⟩ v).setCell ⟨b, 2, none⟩ x) :=
  ((h.setCell (p := ⟨b, 0, none⟩) hb _).setCell (p := ⟨b, 1, none⟩) hb _).setCell (p := ⟨b, 2, none⟩) hb _

theorem cell_put3 (w : World) (b k : Nat) (u v x : Value) (hne : k ≠ b) (j : Nat) : (((w.setCell ⟨b, 0, none⟩ u).setCell ⟨b, 1, none⟩ v).setCell ⟨b, 2, none⟩ x).cell? ⟨k, j, none⟩ = w.cell? ⟨k, j, none⟩ := by
  unfold World.cell?
  dsimp only
  rw [block_put3 _ _ _ _ _ _ hne.symm]

set_option maxRecDepth 100000 in
set_option maxHeartbeats 3200000 in
theorem bholds_any (X : XB) (K : PB) (n made c : Nat) (heads : List Int) (db : Nat → Nat) (st : Nat → Int) (tbl : Nat → Slot) (next : Nat → Nat) (head : Int) (x : Ver) (r : List Ver) (w : World) (hb : BondMem X heads made db st w) (hp : PoolMem K n tbl next head w) (hX : X.p = K.p)
    (hc : c < heads.length) (hch : CellChain n made tbl st heads c (x :: r)) :
    Calls Tryz.prog 42 #[.pointer (some ⟨X.x, 0, none⟩), .pointer none, .int .i64 c] w fun e w' => e = .returned (.tuple #[verVal x, verVal x, .int .i64 0]) ∧ Below w.heap.size w w' := by
  obtain ⟨hh, hv, hr⟩ := hch
  obtain ⟨W, hW⟩ : ∃ W, W = (w.alloc (.cells #[.int .i64 0, .int .i64 0, .int .i64 0] 97)).alloc (.cells #[.int .i64 0, .int .i64 0, .int .i64 0] 97) := ⟨_, rfl⟩
  have hbW : Below w.heap.size w W := by rw [hW]; exact ((Below.refl _ _).alloc (Nat.le_refl _) _).alloc (by simp) _
  have gW : W.heap[w.heap.size]? = some (.cells #[.int .i64 0, .int .i64 0, .int .i64 0] 97 (0, 0)) := by rw [hW]; exact heap_alloc2_old w _ _
  have gW1 : W.heap[w.heap.size + 1]? = some (.cells #[.int .i64 0, .int .i64 0, .int .i64 0] 97 (0, 0)) := by rw [hW]; exact heap_alloc2_new w _ _
  have sW : w.heap.size + 2 = W.heap.size := by rw [hW]; simp
  have hbm := hb.below hbW
  have hpm := hp.below hbW
  have htp := tops_any X K n made c heads db st tbl next head x W hbm hpm hX hv hc hh
  have Htp := Lib.hid htp
  have HbW := Lib.hid hbW
  have GW := Lib.hid gW
  have GW1 := Lib.hid gW1
  have SW := Lib.hid sW
  have HW := Lib.hid hW
  have HB := Lib.hid hbm
  have HP := Lib.hid hpm
  have HX := Lib.hid hX
  have Hv := Lib.hid hv
  have Hr := Lib.hid hr
  have hsB := hv.sB
  have hh0 : hnd x.i x.g ≠ 0 := by have := hv.held.lo; have := hv.held.g0; unfold hnd; omega
  clear hb hp hX hv hr htp hbW gW gW1 sW hW hbm hpm hh hc hsB
  obtain ⟨xh, hxh⟩ : ∃ a, a = hnd x.i x.g := ⟨_, rfl⟩
  obtain ⟨xv, hxv⟩ : ∃ a, a = x.v := ⟨_, rfl⟩
  obtain ⟨xs, hxs⟩ : ∃ a, a = x.s := ⟨_, rfl⟩
  have hxvv : verVal x = .agg #[.int .i64 xh, .int .i64 xv, .int .i64 xs] := by rw [hxh, hxv, hxs]; rfl
  have hn0 : (xh != 0) = true := by rw [bne_iff_ne, hxh]; exact hh0
  rw [hxvv] at Htp ⊢
  have Hxvv := Lib.hid hxvv
  clear hxh hxv hxs hxvv hh0
  go_enter Tryz.func42, Tryz.ntmps42
  go_wp2_with fail
  rw [← HW.out]
  go_loopg [9] 1 (fun k _ wr => W = wr)
  case atStart => rfl
  case round =>
    subst hrel
    go_wp2_with fail
    refine Htp.out.mono ?_
    rintro e w1 ⟨rfl, hb1⟩
    have SW1 := Lib.hid hb1.size
    have g0 := (hb1.block w.heap.size (by have := SW.out; omega)).trans GW.out
    have g1 := (hb1.block (w.heap.size + 1) (by have := SW.out; omega)).trans GW1.out
    have G0 := Lib.hid g0
    have G1 := Lib.hid g1
    have HbW1 := Lib.hid hb1
    clear hb1 g0 g1
    obtain ⟨W2, hW2⟩ : ∃ W2, W2 = w1.alloc (.cells #[.int .i64 xh, .int .i64 xv, .int .i64 xs] 97) := ⟨_, rfl⟩
    have hb2 : Below W.heap.size W W2 := by rw [hW2]; exact HbW1.out.alloc HbW1.out.size _
    have hgo : Calls Tryz.prog 79 #[.pointer (some ⟨X.x, 0, none⟩), .pointer none, .agg #[.int .i64 xh, .int .i64 xv, .int .i64 xs], .func (.func 80) #[] #[]] W2 fun e w' => e = .returned (.tuple #[.agg #[.int .i64 xh, .int .i64 xv, .int .i64 xs], .int .i64 0]) ∧ Below W2.heap.size W2 w' := by
      have hgo := goes_any X K n made 80 #[] (fun s => true) heads db st tbl next head x r W2 (HB.out.below hb2) (HP.out.below hb2) HX.out Hv.out Hr.out callHeld (fun s w' h0 h1 hb => bheld_any s w' h0)
      rw [Hxvv.out] at hgo
      have e : verOr ((x :: r).find? fun y => true) = .agg #[.int .i64 xh, .int .i64 xv, .int .i64 xs] := Hxvv.out
      rw [e] at hgo
      exact hgo
    have g9 : W2.heap[w1.heap.size]? = some (.cells #[.int .i64 xh, .int .i64 xv, .int .i64 xs] 97 (0, 0)) := by rw [hW2]; exact heap_alloc_new _ _
    have G9 := Lib.hid g9
    have s9 : W2.heap.size = w1.heap.size + 1 := by rw [hW2]; simp
    have S9 := Lib.hid s9
    have Hgo := Lib.hid hgo
    have HW2 := Lib.hid hW2
    have Hb2 := Lib.hid hb2
    clear hgo hW2 hb2 g9 s9
    go_wp2_with fail
    rw [← HW2.out]
    refine Hgo.out.mono ?_
    rintro e w2 ⟨rfl, hb2⟩
    obtain ⟨W3, hW3⟩ : ∃ W3, W3 = w2.alloc (.cells #[.int .i64 xh, .int .i64 xv, .int .i64 xs] 97) := ⟨_, rfl⟩
    have hb3 : Below W2.heap.size W2 W3 := by rw [hW3]; exact hb2.alloc hb2.size _
    have g0 : W3.heap[w.heap.size]? = some (.cells #[.int .i64 0, .int .i64 0, .int .i64 0] 97 (0, 0)) := (hb3.block _ (by have := SW.out; have := SW1.out; have := S9.out; omega)).trans ((Hb2.out.block _ (by have := SW.out; omega)).trans GW.out)
    have g1 : W3.heap[w.heap.size + 1]? = some (.cells #[.int .i64 0, .int .i64 0, .int .i64 0] 97 (0, 0)) := (hb3.block _ (by have := SW.out; have := SW1.out; have := S9.out; omega)).trans ((Hb2.out.block _ (by have := SW.out; omega)).trans GW1.out)
    have g9 : W3.heap[w1.heap.size]? = some (.cells #[.int .i64 xh, .int .i64 xv, .int .i64 xs] 97 (0, 0)) := (hb3.block _ (by have := S9.out; omega)).trans G9.out
    have g11 : W3.heap[w2.heap.size]? = some (.cells #[.int .i64 xh, .int .i64 xv, .int .i64 xs] 97 (0, 0)) := by rw [hW3]; exact heap_alloc_new _ _
    have d0 : W3.cell? ⟨w2.heap.size, 0, none⟩ = some (.int .i64 xh) := by simp [World.cell?, g11]
    have HbT : Hid (Below w.heap.size w W3) := Lib.hid (HbW.out.trans ((Hb2.out.trans (hb3.mono Hb2.out.size)).mono HbW.out.size))
    have HW3 := Lib.hid hW3
    have G03 := Lib.hid g0
    have G13 := Lib.hid g1
    have G93 := Lib.hid g9
    have G113 := Lib.hid g11
    have SZ3 : Hid (w.heap.size + 2 ≤ w2.heap.size) := Lib.hid (by have := SW.out; have := SW1.out; have := S9.out; have := hb2.size; omega)
    clear hW3 hb3 hb2 g0 g1 g9 g11
    go_wp2_with fail
    rw [← HW3.out]
    go_wp2_with fail
    have n1 : w1.heap.size ≠ w.heap.size := by have := SW.out; have := SW1.out; omega
    have n2 : w2.heap.size ≠ w.heap.size := by have := SZ3.out; omega
    have q0 : W3.cell? ⟨w1.heap.size, 0, none⟩ = some (.int .i64 xh) := by simp [World.cell?, G93.out]
    have q1 : W3.cell? ⟨w1.heap.size, 1, none⟩ = some (.int .i64 xv) := by simp [World.cell?, G93.out]
    have q2 : W3.cell? ⟨w1.heap.size, 2, none⟩ = some (.int .i64 xs) := by simp [World.cell?, G93.out]
    have d1 : W3.cell? ⟨w2.heap.size, 1, none⟩ = some (.int .i64 xv) := by simp [World.cell?, G113.out]
    have d2 : W3.cell? ⟨w2.heap.size, 2, none⟩ = some (.int .i64 xs) := by simp [World.cell?, G113.out]
    have a0 : W3.cell? ⟨w.heap.size, 0, none⟩ = some (.int .i64 0) := by simp [World.cell?, G03.out]
    have a1 : W3.cell? ⟨w.heap.size, 1, none⟩ = some (.int .i64 0) := by simp [World.cell?, G03.out]
    have a2 : W3.cell? ⟨w.heap.size, 2, none⟩ = some (.int .i64 0) := by simp [World.cell?, G03.out]
    have af : ∀ j, W3.frozen? ⟨w.heap.size, j, none⟩ = false := fun j => by simp [World.frozen?, G03.out]
    have b0 : W3.cell? ⟨w.heap.size + 1, 0, none⟩ = some (.int .i64 0) := by simp [World.cell?, G13.out]
    have b1 : W3.cell? ⟨w.heap.size + 1, 1, none⟩ = some (.int .i64 0) := by simp [World.cell?, G13.out]
    have b2 : W3.cell? ⟨w.heap.size + 1, 2, none⟩ = some (.int .i64 0) := by simp [World.cell?, G13.out]
    have bf : ∀ j, W3.frozen? ⟨w.heap.size + 1, j, none⟩ = false := fun j => by simp [World.frozen?, G13.out]
    have HRB := Lib.hid (below_put3 (below_put3 HbT.out w.heap.size (Nat.le_refl _) (.int .i64 xh) (.int .i64 xv) (.int .i64 xs)) (w.heap.size + 1) (by omega) (.int .i64 xh) (.int .i64 xv) (.int .i64 xs)).drew
    have HR0 := Lib.hid (drew_row ((block_put3 _ (w.heap.size + 1) w.heap.size (.int .i64 xh) (.int .i64 xv) (.int .i64 xs) (by omega)).trans (row_put3 W3 w.heap.size (.int .i64 xh) (.int .i64 xv) (.int .i64 xs) _ _ _ _ G03.out)))
    have HR1 := Lib.hid (drew_row (row_put3 (((W3.setCell ⟨w.heap.size, 0, none⟩ (.int .i64 xh)).setCell ⟨w.heap.size, 1, none⟩ (.int .i64 xv)).setCell ⟨w.heap.size, 2, none⟩ (.int .i64 xs)) (w.heap.size + 1) (.int .i64 xh) (.int .i64 xv) (.int .i64 xs) _ _ _ _ ((block_put3 W3 w.heap.size (w.heap.size + 1) (.int .i64 xh) (.int .i64 xv) (.int .i64 xs) (by omega)).trans G13.out)))
    clear G03 G13 G93 G113 HbT Htp HB HP HX Hv Hr HbW GW GW1 HW HbW1 G0 G1 Hgo HW2 Hb2 G9 HW3 Hxvv SW1 S9 SZ3 SW
    refine Reg.start (fun w' => w'.cell? ⟨w1.heap.size, 0, none⟩ = some (.int .i64 xh) ∧ w'.cell? ⟨w1.heap.size, 1, none⟩ = some (.int .i64 xv) ∧ w'.cell? ⟨w1.heap.size, 2, none⟩ = some (.int .i64 xs) ∧ w'.cell? ⟨w2.heap.size, 0, none⟩ = some (.int .i64 xh) ∧ w'.cell? ⟨w2.heap.size, 1, none⟩ = some (.int .i64 xv) ∧ w'.cell? ⟨w2.heap.size, 2, none⟩ = some (.int .i64 xs)) [4, 5] (by kernel_rfl) ?_ (fun hHeld => ?_)
    · first | exact True.intro | ((try dsimp only); first | exact ⟨q0, q1, q2, d0, d1, d2⟩ | exact ⟨(cell_put3 _ _ _ _ _ _ n1 _).trans q0, (cell_put3 _ _ _ _ _ _ n1 _).trans q1, (cell_put3 _ _ _ _ _ _ n1 _).trans q2, (cell_put3 _ _ _ _ _ _ n2 _).trans d0, (cell_put3 _ _ _ _ _ _ n2 _).trans d1, (cell_put3 _ _ _ _ _ _ n2 _).trans d2⟩)
    refine Reg.take (i := 0) (v := ?v42x6_0) rfl (by kernel_rfl) (by kernel_rfl) (by kernel_rfl) (by kernel_rfl) (fun _ _ _ h => h) (Or.inl ⟨by rfl, ?h42x6_0⟩) hHeld ?r42x6_0
    case h42x6_0 => (intro wS hSw; (try dsimp only at hSw); go_simp; all_goals with_reducible rfl)
    try simp only [Act.put, List.setIfInBounds_toArray, List.set_cons_zero, List.set_cons_succ]
    refine Reg.take (i := 1) (v := ?v42x6_1) rfl (by kernel_rfl) (by kernel_rfl) (by kernel_rfl) (by kernel_rfl) (fun _ _ _ h => h) (Or.inl ⟨by rfl, ?h42x6_1⟩) hHeld ?r42x6_1
    case h42x6_1 => (intro wS hSw; (try dsimp only at hSw); go_simp; all_goals with_reducible rfl)
    try simp only [Act.put, List.setIfInBounds_toArray, List.set_cons_zero, List.set_cons_succ]
    refine Reg.takeP (i := 2) (v := ?v42x6_2) rfl (by kernel_rfl) (by kernel_rfl) (by kernel_rfl) (by kernel_rfl) (fun _ _ _ h => h) (Or.inl ⟨by rfl, ?h42x6_2⟩) (fun _ => hHeld) ?r42x6_2
    case h42x6_2 => (intro wS hSw; (try dsimp only at hSw); go_simp; all_goals with_reducible rfl)
    try simp only [Act.put, List.setIfInBounds_toArray, List.set_cons_zero, List.set_cons_succ]
    refine Reg.one (i := 3) rfl (by kernel_rfl) (fun K hK => ?_)
    go_simp
    refine hK.out _ _ (fun _ => ?_) (fun hHeld => ?_)
    · first | exact True.intro | ((try dsimp only); first | exact ⟨q0, q1, q2, d0, d1, d2⟩ | exact ⟨(cell_put3 _ _ _ _ _ _ n1 _).trans q0, (cell_put3 _ _ _ _ _ _ n1 _).trans q1, (cell_put3 _ _ _ _ _ _ n1 _).trans q2, (cell_put3 _ _ _ _ _ _ n2 _).trans d0, (cell_put3 _ _ _ _ _ _ n2 _).trans d1, (cell_put3 _ _ _ _ _ _ n2 _).trans d2⟩)
    replace hHeld := hHeld (by decide)
    clear hK K
    try simp only [Act.put, List.setIfInBounds_toArray, List.set_cons_zero, List.set_cons_succ]
    refine Reg.one (i := 4) rfl (by kernel_rfl) (fun K hK => ?_)
    go_simp
    refine hK.out _ _ (fun hF => absurd hF (by decide)) (fun _ => ?_)
    clear hK K
    try simp only [Act.put, List.setIfInBounds_toArray, List.set_cons_zero, List.set_cons_succ]
    refine Reg.one (i := 5) rfl (by kernel_rfl) (fun K hK => ?_)
    go_simp
    refine hK.out _ _ (fun hF => absurd hF (by decide)) (fun _ => ?_)
    clear hK K
    try simp only [Act.put, List.setIfInBounds_toArray, List.set_cons_zero, List.set_cons_succ]
    refine Reg.done (by kernel_rfl) ?_ _
    go_wp2_with fail
    refine bodyPost_ret (results_row2_tmp (P := Tryz.prog) (ty := 97) (ty' := 97) rfl _ _ w.heap.size (w.heap.size + 1) 97 97 #[.int .i64 xh, .int .i64 xv, .int .i64 xs] #[.int .i64 xh, .int .i64 xv, .int .i64 xs] (0, 0) (0, 0) _ _ _ rfl rfl rfl HR0.out HR1.out Tryz.underlying97 rfl (by kernel_rfl) Tryz.underlying97 rfl (by kernel_rfl)) rfl ?_
    exact ⟨rfl, HRB.out⟩
end Go.Proofs.YtadelkancmbanaaGreat
