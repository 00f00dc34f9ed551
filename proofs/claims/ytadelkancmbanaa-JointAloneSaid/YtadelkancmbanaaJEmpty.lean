/-
  slices.SortedStableFunc over slices.Values: of no entry; Change of none, and of more than 64.
-/
import Derived.Test.YtadelkancmbanaaJChange2
namespace Go.Proofs.Ytadelkancmbanaa
open Go.RowKit Go.Shelf
attribute [local go_sem] Oper.semAt_some
attribute [local go_sem ↓] Go.wp_at_zero Go.wp_at_succ

set_option maxRecDepth 100000 in
set_option maxHeartbeats 2000000 in
theorem values1_none (F : Fence) (n : Nat) (h7 : F.fn 50) (hro : F.round = none) (hn : 1 ≤ n) (l Bs cap : Nat) (a : Option Addr) (J Jx : List AEnt → World → Prop)
    (W : World) (hBs : W.cell? ⟨Bs, 0, none⟩ = some (.slice a 0 cap)) (h0 : J [] W) :
    CallsIn F n Try.prog 50 #[.func (.yield l) #[] #[], .pointer (some ⟨Bs, 0, none⟩)] W fun e W' => (∃ v, e = .returned v) ∧
      ((∃ ys, ys = [] ∧ J ys W') ∨ (∃ pre, pre <+: [] ∧ Jx pre W')) := by
  refine callsIn_of_wp Try.func50 rfl h7 ?_ hro
  simp only [Try.ntmps50, List.size_toArray, List.length_cons, List.length_nil, Nat.reduceAdd, Nat.reduceSub, Array.replicate_succ, Array.replicate_zero, List.push_toArray, List.append_toArray, List.nil_append, List.cons_append]
  gi_wp2
  gi_loopw [7] (fun i wr => i = .int .i64 0 ∧ J [] wr) (fun i _ => 0)
  case atStart => exact ⟨rfl, h0⟩
  case round =>
    obtain ⟨rfl, hJs⟩ := hrel
    gi_wp2
    go_end0
    exact ⟨⟨_, rfl⟩, .inl ⟨_, rfl, hJs⟩⟩

theorem values_stops0 (F : Fence) (n : Nat) (h7 : F.fn 50) (hro : F.round = none) (hn : 1 ≤ n) (Bs n₀ cap : Nat) (a : Option Addr) (w : World) (hBs : Bs < n₀)
    (hc : w.cell? ⟨Bs, 0, none⟩ = some (.slice a 0 cap)) :
    SeqStopsK F n Try.prog 50 #[.pointer (some ⟨Bs, 0, none⟩)] (fun x : AEnt => #[aVal x]) (Below n₀) (fun ys => ys = []) (fun pre => pre <+: []) 0 w := fun l J Jx W hW hJ _ hY h0 => by
  have hc' := (hW.cell (p := ⟨Bs, 0, none⟩) (World.block_lt_of_cell? w _ hc)).trans hc
  exact values1_none F n h7 hro hn l Bs cap a J Jx W hc' h0

set_option maxRecDepth 100000 in
set_option maxHeartbeats 4000000 in
theorem appendSeq_none (F : Fence) (n : Nat) (h50 : F.fn 50) (h64 : F.fn 64) (hro : F.round = none) (hn : 4 ≤ n) (Bv cap : Nat) (a : Option Addr) (w : World)
    (hc : w.cell? ⟨Bv, 0, none⟩ = some (.slice a 0 cap)) :
    CallsIn F n Try.prog 64 #[.slice none 0 0, .func (.func 50) #[] #[.pointer (some ⟨Bv, 0, none⟩)]] w (SeqEnd w.heap.size [] w) := by
  have h1 : 1 ≤ n := by omega
  have hBv := World.block_lt_of_cell? w _ hc
  dsimp only at hBv
  obtain ⟨ie, hie, ze0, ze1, ze2⟩ := info_parts infoAE
  refine callsIn_of_wp_marks Try.func64 rfl h64 ?_ hro
  simp only [Try.ntmps64, List.size_toArray, List.length_cons, List.length_nil, Nat.reduceAdd, Nat.reduceSub, Array.replicate_succ, Array.replicate_zero, List.push_toArray, List.append_toArray, List.nil_append, List.cons_append]
  gi_wp2
  have bB := Boxed.new w 29 (.slice none 0 0)
  have hB0 : Below w.heap.size w (w.alloc (.cells #[.slice none 0 0] 29)) := (Below.refl _ w).alloc (Nat.le_refl _) _
  have hsz : (w.alloc (.cells #[.slice none 0 0] 29)).heap.size = w.heap.size + 1 := by simp
  have hc' : (w.alloc (.cells #[.slice none 0 0] 29)).cell? ⟨Bv, 0, none⟩ = some (.slice a 0 cap) := (old_cell w _ _ hBv).trans hc
  obtain ⟨W0, hW0⟩ : ∃ W0, w.alloc (.cells #[.slice none 0 0] 29) = W0 := ⟨_, rfl⟩
  rw [hW0] at bB hB0 hsz hc' ⊢
  clear hW0 hc
  refine wpIn_rangeFunc_ownH hro h1 (gf := 50) (lb := #[.pointer (some ⟨Bv, 0, none⟩)]) rfl h50 (enters_of Try.func50 (by kernel_rfl) rfl)
    (values_stops0 F (n - 1) h50 hro (by omega) Bv w.heap.size cap a W0 (by omega) hc') belowK_t (belowK_b (by omega)) (Below.refl _ _) (fun _ => rfl)
    (SeqI w.heap.size w.heap.size w)
    (fun _ _ _ => False)
    (seqI_own _ _ _ _ (by omega) (Nat.le_refl _))
    (fun _ _ _ _ _ hs _ _ => hs)
    ⟨⟨_, bB, World.ownsRow_nil _ _ _ _⟩, hB0⟩
    (LoopVar (.func (.func 50) #[] #[.pointer (some ⟨Bv, 0, none⟩)]) w.heap.size)
    (loopVar_own _ _ _)
    ?assign ?body ?done ?stop
  case assign =>
    rintro l pre x W K hi hK
    have hBW := hi.2.size
    have hlt := hi.1.choose_spec.1.lt
    dsimp only [aVal]
    gi_wp2
    exact hK _ _ ((KeepsOthers.alloc _ _).from _) ((Below.refl _ W).alloc hBW _) ((seqI_own _ _ W0.heap.size w (by omega) (Nat.le_refl _)).alloc _ hi) ⟨W.heap.size, hlt, World.alloc_heap_new W _, rfl⟩
  case body =>
    rintro l pre x a' W hl ⟨r, hr⟩ ⟨⟨v, hv, hrow⟩, hbel⟩ ⟨Bx, hBx, bX, rfl⟩ hlt
    exact absurd hlt (Nat.not_lt_zero _)
  case done =>
    rintro D ys W hD rfl ⟨⟨v, hv, hrow⟩, hbel⟩ hK
    have hc1 := hv.cell
    gi_wp2
    refine ⟨by simp, .inl ⟨_, _, rfl, run_takeDeferred hK, ?_⟩⟩
    refine ⟨_, results_tmp rfl _ _ _, _, rfl, ownsRow_putObj hrow _ hK rfl, hbel.trans (belowK_b (w := w) (Nat.le_refl _) W D _ _ (by omega) hK rfl rfl)⟩
  case stop =>
    rintro D c pre W _ _ h _
    exact h.elim

theorem collect_none (Bv cap : Nat) (a : Option Addr) (w : World)
    (hc : w.cell? ⟨Bv, 0, none⟩ = some (.slice a 0 cap)) :
    Calls Try.prog 48 #[.func (.func 50) #[] #[.pointer (some ⟨Bv, 0, none⟩)]] w (SeqEnd w.heap.size [] w) := by
  have h := (appendSeq_none { fn := fun _ => True } 4 trivial trivial rfl (Nat.le_refl _) Bv cap a w hc).calls (fun k d hd => by cases hd)
  have H := Lib.hid h
  clear h hc
  go_enter Try.func48, Try.ntmps48
  go_wp2_with (go_at_call 64; refine H.out.mono ?_; rintro e w' ⟨v, rfl, hr, hb⟩; have Hr := Lib.hid hr; have Hb := Lib.hid hb; clear hr hb)
  go_ret
  exact ⟨_, rfl, Hr.out, Hb.out⟩

theorem insertion_none (cap : Nat) (a : Option Addr) (w : World) :
    Calls Try.prog 72 #[.slice a 0 cap, .int .i64 0, .int .i64 0, .func (.func 32) #[] #[]] w fun e w' => e = .returned (.tuple #[]) ∧ w = w' := by
  go_enter Try.func72, Try.ntmps72
  go_wp2
  refine wp_loop_rounds 1 ?_
  rw [rounds_succ]
  go_wp2
  refine bodyPost_end (results_none rfl _ _ _) rfl ?_
  exact ⟨rfl, rfl⟩

theorem stable_none (cap : Nat) (a : Option Addr) (w : World) :
    Calls Try.prog 65 #[.slice a 0 cap, .int .i64 0, .func (.func 32) #[] #[]] w fun e w' => e = .returned (.tuple #[]) ∧ w = w' := by
  go_enter Try.func65, Try.ntmps65
  go_wp2
  refine wp_loop_rounds 1 ?_
  rw [rounds_succ]
  go_wp2_with (first | (go_at_call 72; ((with_reducible refine (insertion_none _ _ _).mono ?_); rintro e w' ⟨rfl, rfl⟩)))
  refine wp_loop_rounds 1 ?_
  rw [rounds_succ]
  go_wp2
  refine bodyPost_end (results_none rfl _ _ _) rfl ?_
  exact ⟨rfl, rfl⟩

theorem sortStable_none (cap : Nat) (a : Option Addr) (w : World) :
    Calls Try.prog 49 #[.slice a 0 cap, .func (.func 32) #[] #[]] w fun e w' => e = .returned (.tuple #[]) ∧ w = w' := by
  go_enter Try.func49, Try.ntmps49
  go_wp2_with (first | (go_at_call 65; ((with_reducible refine (stable_none _ _ _).mono ?_); rintro e w' ⟨rfl, rfl⟩)))
  refine bodyPost_end (results_none rfl _ _ _) rfl ?_
  exact ⟨rfl, rfl⟩

def NoneEnd (w : World) (e : Ending) (w' : World) : Prop := ∃ a cap, e = .returned (.slice a 0 cap) ∧ Below w.heap.size w w'

theorem sorted_none (Bv cap : Nat) (a : Option Addr) (w : World)
    (hc : w.cell? ⟨Bv, 0, none⟩ = some (.slice a 0 cap)) :
    Calls Try.prog 30 #[.func (.func 50) #[] #[.pointer (some ⟨Bv, 0, none⟩)], .func (.func 32) #[] #[]] w (NoneEnd w) := by
  have H := Lib.hid (collect_none Bv cap a w hc)
  clear hc
  go_enter Try.func30, Try.ntmps30
  go_wp2_with fail
  refine H.out.mono ?_
  rintro e w1 ⟨v, rfl, hr, hb⟩
  have hform : ∃ a' cap', v = .slice a' 0 cap' := by
    rcases hr.2 with ⟨rfl, _⟩ | ⟨g, cap, cur, rfl, _⟩
    · exact ⟨_, _, rfl⟩
    · exact ⟨_, _, rfl⟩
  obtain ⟨a', cap', rfl⟩ := hform
  have Hb := Lib.hid hb
  clear hr hb
  go_wp2_with (first | (go_at_call 49; ((with_reducible refine (sortStable_none _ _ _).mono ?_); rintro e w' ⟨rfl, rfl⟩)))
  go_ret
  exact ⟨a', cap', rfl, Hb.out⟩

/-- A Change that says 261. -/
def ManyEnd (b c made : Nat) (ws : List Int) (w : World) (e : Ending) (w' : World) : Prop := e = .returned (.tuple #[.bool false, .int .i64 261]) ∧ JRaw b c ws made w' ∧ Keep (fun _ => False) w.heap.size w w'

set_option maxHeartbeats 1600000 in
theorem change_many (b c made n cap : Nat) (a : Option Addr) (ws : List Int) (w : World) (h : JRaw b c ws made w) (h1 : 64 < n) (h2 : n ≤ 1000) :
    Calls Try.prog 12 #[.pointer (some ⟨b, 0, none⟩), .pointer none, .slice a n cap] w (ManyEnd b c made ws w) := by
  have H := Lib.hid h
  clear h
  have hd : decide ((n : Int) ≤ 64) = false := by simp; omega
  go_enter Try.func12, Try.ntmps12
  go_wp2_with (first | (go_at_call 34; ((with_reducible refine (right_many b c made n cap a ws _ (((H.out.alloc _).alloc _).alloc _) h1 h2).mono ?_); rintro e w' ⟨rfl, rfl⟩)) | (go_at_call 28; ((with_reducible refine (step_nil _).mono ?_); rintro e w' ⟨rfl, rfl⟩)))
  go_ret2
  exact ⟨rfl, ((H.out.alloc _).alloc _).alloc _, (((Keep.refl _ _ _).alloc (Nat.le_refl _) _).alloc (by simp) _).alloc (by simp; omega) _⟩

set_option maxHeartbeats 1600000 in
theorem change_none (b c made cap : Nat) (a : Option Addr) (ws : List Int) (w : World) (h : JRaw b c ws made w) :
    Calls Try.prog 12 #[.pointer (some ⟨b, 0, none⟩), .pointer none, .slice a 0 cap] w (ManyEnd b c made ws w) := by
  obtain ⟨W, hW⟩ : ∃ W, W = ((w.alloc (.cells #[.pointer (some ⟨b, 0, none⟩)] 25)).alloc (.cells #[.pointer none] 66)).alloc (.cells #[.slice a 0 cap] 29) := ⟨_, rfl⟩
  have sW : W.heap.size = w.heap.size + 3 := by rw [hW]; simp
  have kW : Keep (fun _ => False) w.heap.size w W := by rw [hW]; exact (((Keep.refl _ _ _).alloc (Nat.le_refl _) _).alloc (by simp) _).alloc (by simp; omega) _
  have cl : W.cell? ⟨w.heap.size + 1 + 1, 0, none⟩ = some (.slice a 0 cap) := by rw [hW]; exact new_cell _ _ _ _ (by simp)
  have fl : W.frozen? ⟨w.heap.size + 1 + 1, 0, none⟩ = false := by rw [hW]; exact new_frozen _ _ _ _ (by simp)
  have cx : W.cell? ⟨w.heap.size, 0, none⟩ = some (.pointer (some ⟨b, 0, none⟩)) := by rw [hW, old_cell _ _ _ (by simp; omega), old_cell _ _ _ (by simp)]; exact new_cell _ _ _ _ rfl
  have cw : W.cell? ⟨w.heap.size + 1, 0, none⟩ = some (.pointer none) := by rw [hW, old_cell _ _ _ (by simp)]; exact new_cell _ _ _ _ (by simp)
  have HkW := Lib.hid kW
  have Hcl := Lib.hid cl
  have Hcx := Lib.hid cx
  have Hcw := Lib.hid cw
  have Hfl := Lib.hid fl
  have HsW := Lib.hid sW
  have H := Lib.hid h
  have HW := Lib.hid hW
  clear hW kW cl cx cw fl sW h
  go_enter Try.func12, Try.ntmps12
  go_wp2_with fail
  rw [← HW.out]
  refine (values_any _ _ _ _).mono ?_
  rintro e w1 ⟨rfl, rfl⟩
  have hsz := HsW.out
  have hsort := sorted_none (w.heap.size + 3) cap a (W.alloc (.cells #[.slice a 0 cap] 29)) (new_cell _ _ _ _ (by omega))
  have Hsort := Lib.hid hsort
  clear hsort
  go_wp2_with fail
  refine Hsort.out.mono ?_
  rintro e w2 ⟨a', cap2, rfl, hbel⟩
  simp only [World.size_alloc] at hbel
  have c2 : w2.cell? ⟨w.heap.size + 1 + 1, 0, none⟩ = some (.slice a 0 cap) := (hbel.cell (p := ⟨w.heap.size + 1 + 1, 0, none⟩) (by show w.heap.size + 1 + 1 < _; omega)).trans ((old_cell W _ _ (by show w.heap.size + 1 + 1 < _; omega)).trans Hcl.out)
  have f2 : w2.frozen? ⟨w.heap.size + 1 + 1, 0, none⟩ = false := (hbel.frozen (p := ⟨w.heap.size + 1 + 1, 0, none⟩) (by show w.heap.size + 1 + 1 < _; omega)).trans ((old_frozen W _ _ (by show w.heap.size + 1 + 1 < _; omega)).trans Hfl.out)
  have x2 : w2.cell? ⟨w.heap.size, 0, none⟩ = some (.pointer (some ⟨b, 0, none⟩)) := (hbel.cell (p := ⟨w.heap.size, 0, none⟩) (by show w.heap.size < _; omega)).trans ((old_cell W _ _ (by show w.heap.size < _; omega)).trans Hcx.out)
  have w2w : w2.cell? ⟨w.heap.size + 1, 0, none⟩ = some (.pointer none) := (hbel.cell (p := ⟨w.heap.size + 1, 0, none⟩) (by show w.heap.size + 1 < _; omega)).trans ((old_cell W _ _ (by show w.heap.size + 1 < _; omega)).trans Hcw.out)
  have c3 : (w2.setCell ⟨w.heap.size + 1 + 1, 0, none⟩ (.slice a' 0 cap2)).cell? ⟨w.heap.size + 1 + 1, 0, none⟩ = some (.slice a' 0 cap2) := World.cell?_setCell_same _ _ _ c2
  have x3 : (w2.setCell ⟨w.heap.size + 1 + 1, 0, none⟩ (.slice a' 0 cap2)).cell? ⟨w.heap.size, 0, none⟩ = some (.pointer (some ⟨b, 0, none⟩)) := (World.cell?_setCell_other _ _ _ _ (by intro e; injection e with e; omega)).trans x2
  have w3 : (w2.setCell ⟨w.heap.size + 1 + 1, 0, none⟩ (.slice a' 0 cap2)).cell? ⟨w.heap.size + 1, 0, none⟩ = some (.pointer none) := (World.cell?_setCell_other _ _ _ _ (by intro e; injection e with e; omega)).trans w2w
  have k3 : Keep (fun _ => False) w.heap.size w (w2.setCell ⟨w.heap.size + 1 + 1, 0, none⟩ (.slice a' 0 cap2)) := by
    have hs1 := hbel.size
    exact (HkW.out.trans ((Keep.of_below (B := w.heap.size) ((Below.refl _ W).alloc (by omega) _)).trans ((Keep.of_below hbel).mono (by omega)))).trans ((Keep.refl _ _ _).setCell (.inr (by show w.heap.size ≤ w.heap.size + 1 + 1; omega)) _)
  have j3 : JRaw b c ws made (w2.setCell ⟨w.heap.size + 1 + 1, 0, none⟩ (.slice a' 0 cap2)) := H.out.keep k3 (Nat.le_refl _) id id
  have Hk3 := Lib.hid k3
  have Hj3 := Lib.hid j3
  clear k3 j3 hbel
  go_wp2_with (first | (go_at_call 34; ((with_reducible refine (right_few b c made cap2 a' ws _ Hj3.out).mono ?_); rintro e w' ⟨rfl, rfl⟩)) | (go_at_call 28; ((with_reducible refine (step_nil _).mono ?_); rintro e w' ⟨rfl, rfl⟩)))
  go_ret2
  exact ⟨rfl, Hj3.out, Hk3.out⟩
end Go.Proofs.Ytadelkancmbanaa
