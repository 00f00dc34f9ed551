/-
  A slice of entries is handed out by slices.Values and collected by slices.Collect.
-/
import Derived.Test.YtadelkancmbanaaJNew2
import Derived.RangeFuncNested
import Derived.RangeFuncBound
import Derived.RangeFuncCalls
import Derived.RangeFuncLeaves
import Derived.RangeFuncBox
import Derived.Shelf.Abstract
import Derived.Shelf.RegionOpen
import Derived.OwnWalkIn
import Derived.TacticsInMore
import Derived.LoopNIn
import Derived.LoopIn
namespace Go.Proofs.Ytadelkancmbanaa
open Go.RowKit Go.Shelf
attribute [local go_sem] Oper.semAt_some

/-- An api.Entry. -/
structure AEnt where
  c : Int
  o : Int
  n : Int
instance : Inhabited AEnt := ⟨⟨0, 0, 0⟩⟩

def aCells : List AEnt → List Value
  | [] => []
  | e :: r => .int .i64 e.c :: .int .i64 e.o :: .int .i64 e.n :: aCells r
def aVal (e : AEnt) : Value := .agg #[.int .i64 e.c, .int .i64 e.o, .int .i64 e.n]

theorem aCells_append (l m : List AEnt) : aCells (l ++ m) = aCells l ++ aCells m := by
  induction l with
  | nil => rfl
  | cons e r ih => simp [aCells, ih]
theorem aCells_length (l : List AEnt) : (aCells l).length = l.length * 3 := by
  induction l with
  | nil => rfl
  | cons e r ih => simp [aCells, ih]; omega
theorem aCells_get (es : List AEnt) : ∀ k, k < es.length → (aCells es)[k * 3]? = some (.int .i64 (es[k]!).c) ∧ (aCells es)[k * 3 + 1]? = some (.int .i64 (es[k]!).o) ∧ (aCells es)[k * 3 + 2]? = some (.int .i64 (es[k]!).n) := by
  induction es with
  | nil => intro k hk; simp at hk
  | cons e r ih =>
    intro k hk
    cases k with
    | zero => simp [aCells]
    | succ k =>
      have := ih k (by simpa using hk)
      rw [show (k + 1) * 3 = k * 3 + 3 by omega]
      simpa [aCells] using this

/-- Entries lie in block s, from o on. -/
def AEntsAt (s o : Nat) (es : List AEnt) (w : World) : Prop := ∀ k, k < es.length → w.cell? ⟨s, o + k * 3, none⟩ = some (.int .i64 (es[k]!).c) ∧ w.cell? ⟨s, o + k * 3 + 1, none⟩ = some (.int .i64 (es[k]!).o) ∧ w.cell? ⟨s, o + k * 3 + 2, none⟩ = some (.int .i64 (es[k]!).n)

theorem AEntsAt.of_block {s o : Nat} {es : List AEnt} {w w' : World} (h : AEntsAt s o es w) (hb : w'.heap[s]? = w.heap[s]?) : AEntsAt s o es w' := fun k hk => by
  have e : ∀ q, w'.cell? ⟨s, q, none⟩ = w.cell? ⟨s, q, none⟩ := fun q => World.cell?_of_block hb
  rw [e, e, e]; exact h k hk

set_option maxRecDepth 100000 in
set_option maxHeartbeats 2000000 in
theorem values1_in (F : Fence) (n : Nat) (h7 : F.fn 50) (hro : F.round = none) (hn : 1 ≤ n) (l Bs n₀ b off cap : Nat) (zs : List AEnt) (hlen : zs.length ≤ 1000) (hb : b < n₀) (J Jx : List AEnt → World → Prop)
    (W : World) (hJa : AbidesFrom W.heap.size J) (hn₀ : n₀ ≤ W.heap.size)
    (hY : ∀ pre x W, J pre W → pre.length < zs.length → YieldAt F (n - 1) Try.prog l #[aVal x] W fun e W' =>
      (e = .returned (.bool true) ∧ J (pre ++ [x]) W' ∧ Below n₀ W W') ∨ (e = .returned (.bool false) ∧ Jx (pre ++ [x]) W'))
    (hBs : W.cell? ⟨Bs, 0, none⟩ = some (.slice (some ⟨b, off, none⟩) zs.length cap)) (hc : AEntsAt b off zs W) (h0 : J [] W) :
    CallsIn F n Try.prog 50 #[.func (.yield l) #[] #[], .pointer (some ⟨Bs, 0, none⟩)] W fun e W' => (∃ v, e = .returned v) ∧
      ((∃ ys, ys = zs ∧ J ys W') ∨ (∃ pre, pre <+: zs ∧ Jx pre W')) := by
  have Hc := Lib.hid hc
  have HJa := Lib.hid hJa
  clear hc hJa
  refine callsIn_of_wp Try.func50 rfl h7 ?_ hro
  simp only [Try.ntmps50, List.size_toArray, List.length_cons, List.length_nil, Nat.reduceAdd, Nat.reduceSub, Array.replicate_succ, Array.replicate_zero, List.push_toArray, List.append_toArray, List.nil_append, List.cons_append]
  gi_wp2
  gi_loopw [7] (fun i wr => ∃ k : Nat, k ≤ zs.length ∧ i = .int .i64 k ∧ J (zs.take k) wr ∧ Below n₀ W wr ∧ W.heap.size ≤ wr.heap.size)
    (fun i _ => zs.length - (intOf i).toNat)
  case atStart => exact ⟨0, Nat.zero_le _, rfl, h0, Below.refl _ _, Nat.le_refl _⟩
  case round =>
    obtain ⟨k, hk, rfl, hJs, hnx, hsz⟩ := hrel
    by_cases hlt : k < zs.length
    · obtain ⟨c1, c2, c3⟩ := Hc.out k hlt
      have c1 := (hnx.cell (p := ⟨b, off + k * 3, none⟩) hb).trans c1
      have c2 := (hnx.cell (p := ⟨b, off + k * 3 + 1, none⟩) hb).trans c2
      have c3 := (hnx.cell (p := ⟨b, off + k * 3 + 2, none⟩) hb).trans c3
      have hJ1 := HJa.out (zs.take k) wr _ none hJs (World.grownBy_alloc wr (.cells #[.int .i64 (zs[k]!).c, .int .i64 (zs[k]!).o, .int .i64 (zs[k]!).n] 43) none) (fun r e => by cases e)
      have hY1 := hY _ (zs[k]!) _ hJ1 (by rw [List.length_take]; omega)
      have hsucc : zs.take (k + 1) = zs.take k ++ [zs[k]!] := by
        rw [List.take_succ_eq_append_getElem hlt]; simp [hlt]
      generalize hx : zs[k]! = x at *
      obtain ⟨xc, xo, xn⟩ := x
      have HY := Lib.hid hY1
      have Hs := Lib.hid hsucc
      clear hY1 hJ1 hsucc hx
      dsimp only at c1 c2 c3
      obtain ⟨fn, tmps, assign, body, hy, hR⟩ := HY.out
      dsimp only [aVal] at hy
      gi_wp2
      refine hR.mono ?_
      rintro e W3 (⟨rfl, hJ3, hk3⟩ | ⟨rfl, hJx3⟩)
      · have hs3 := hk3.size
        rw [World.size_alloc] at hs3
        have hb3 : Below n₀ W W3 := (hnx.alloc (by omega) _).trans hk3
        have hJ4 : J (zs.take (k + 1)) W3 := by rw [Hs.out]; exact hJ3
        clear hJ3 hk3 hJs
        gi_wp2
        go_roundw
        case rel => exact ⟨k + 1, by omega, by simp, hJ4, hb3, by omega⟩
        case measure => simp [intOf]; omega
      · gi_wp2
        refine bodyPost_ret (results_none rfl _ _ _) rfl ?_
        exact ⟨⟨_, rfl⟩, .inr ⟨_, by rw [← Hs.out]; exact List.take_prefix _ _, hJx3⟩⟩
    · obtain rfl : k = zs.length := by omega
      gi_wp2
      go_end0
      rw [List.take_length] at hJs
      exact ⟨⟨_, rfl⟩, .inl ⟨_, rfl, hJs⟩⟩

theorem values_stops (F : Fence) (n : Nat) (h7 : F.fn 50) (hro : F.round = none) (hn : 1 ≤ n) (Bs n₀ b off cap : Nat) (zs : List AEnt) (hlen : zs.length ≤ 1000) (w : World) (hBs : Bs < w.heap.size) (hn₀ : n₀ ≤ w.heap.size) (hb : b < n₀)
    (hc : w.cell? ⟨Bs, 0, none⟩ = some (.slice (some ⟨b, off, none⟩) zs.length cap)) (hI : AEntsAt b off zs w) :
    SeqStopsK F n Try.prog 50 #[.pointer (some ⟨Bs, 0, none⟩)] (fun x : AEnt => #[aVal x]) (Below n₀) (fun ys => ys = zs) (fun pre => pre <+: zs) zs.length w := fun l J Jx W hW hJ _ hY h0 => by
  have hc' := (hW.cell (p := ⟨Bs, 0, none⟩) hBs).trans hc
  exact values1_in F n h7 hro hn l Bs n₀ b off cap zs hlen hb J Jx W hJ (by have := hW.size; omega) hY hc' (hI.of_block (hW.block b (by omega))) h0

theorem infoAE : (Try.prog.info? 43).map (fun i => (i.zero, i.size, i.bytes)) = some (some (.agg #[.int .i64 0, .int .i64 0, .int .i64 0]), 3, 24) := by kernel_rfl

/-- What stands in the boxed slice between two rounds. -/
def SeqI (n₀ Bs : Nat) (w : World) (pre : List AEnt) (W : World) : Prop :=
  (∃ v, Boxed W Bs 29 v ∧ W.ownsRow n₀ 43 3 v pre.length (aCells pre)) ∧ Below n₀ w W

theorem seqI_own (n₀ Bs B : Nat) (w : World) (hB : n₀ ≤ B) (hw : n₀ ≤ w.heap.size) : OwnFrom B (SeqI n₀ Bs w) := fun pre W W' row ⟨⟨v, hb, ho⟩, hbel⟩ hg hr => by
  refine ⟨⟨v, hb.kept hg (fun e => ?_), ho.kept hg ?_⟩, hbel.grown hg (by have := hbel.size; omega) (fun k e => by have := (hr k e).1; omega)⟩
  · obtain ⟨_, o, h1, h2⟩ := hr Bs e.symm
    rw [show W.heap[Bs]? = _ from hb] at h1
    cases h1
    cases h2
  · rcases ho.2 with ⟨rfl, _⟩ | ⟨g, cap, cur, rfl, _, hgb, _⟩
    · exact .inl rfl
    · refine .inr (fun e => ?_)
      obtain ⟨_, o, h1, h2⟩ := hr g e.symm
      rw [hgb] at h1
      cases h1
      cases h2

/-- The loop's variable. -/
def LoopVar (sq : Value) (Bs : Nat) (x : AEnt) (a' : Act) (W : World) : Prop :=
  ∃ Bx, Bs < Bx ∧ W.heap[Bx]? = some (.cells #[.int .i64 x.c, .int .i64 x.o, .int .i64 x.n] 43 (0, 0)) ∧
    a' = { tmps := #[.slice none 0 0, sq, .pointer (some ⟨Bs, 0, none⟩), undef, .slice none 0 0, .pointer (some ⟨Bx, 0, none⟩), sq, aVal x, undef, undef, undef, undef, undef], defers := [] }

theorem loopVar_own (sq : Value) (Bs B : Nat) (x : AEnt) (a' : Act) : OwnFrom B (fun (_ : Unit) W => LoopVar sq Bs x a' W) := fun _ W W' row ⟨Bx, h1, h2, h3⟩ hg hr => by
  refine ⟨Bx, h1, ?_, h3⟩
  rw [hg.block Bx (Array.getElem?_eq_some_iff.1 h2).1 (fun e => ?_)]
  · exact h2
  · obtain ⟨_, o, k1, k2⟩ := hr Bx e.symm
    rw [h2] at k1
    cases k1
    cases k2

def SeqEnd (n₀ : Nat) (es : List AEnt) (w : World) (e : Ending) (w' : World) : Prop := ∃ v, e = .returned v ∧ w'.ownsRow n₀ 43 3 v es.length (aCells es) ∧ Below n₀ w w'

set_option maxRecDepth 100000 in
set_option maxHeartbeats 4000000 in
theorem appendSeq_in (F : Fence) (n : Nat) (h50 : F.fn 50) (h64 : F.fn 64) (hro : F.round = none) (hn : 4 ≤ n) (Bv b off cap : Nat) (es : List AEnt) (hlen : es.length ≤ 1000) (w : World)
    (hc : w.cell? ⟨Bv, 0, none⟩ = some (.slice (some ⟨b, off, none⟩) es.length cap)) (hI : AEntsAt b off es w) (hbl : b < w.heap.size) :
    CallsIn F n Try.prog 64 #[.slice none 0 0, .func (.func 50) #[] #[.pointer (some ⟨Bv, 0, none⟩)]] w (SeqEnd w.heap.size es w) := by
  have h1 : 1 ≤ n := by omega
  have hBv := World.block_lt_of_cell? w _ hc
  dsimp only at hBv
  obtain ⟨ie, hie, ze0, ze1, ze2⟩ := info_parts infoAE
  refine callsIn_of_wp_marks Try.func64 rfl h64 ?_ hro
  simp only [Try.ntmps64, List.size_toArray, List.length_cons, List.length_nil, Nat.reduceAdd, Nat.reduceSub, Array.replicate_succ, Array.replicate_zero, List.push_toArray, List.append_toArray, List.nil_append, List.cons_append]
  gi_wp2
  have bB := Boxed.new w 29 (.slice none 0 0)
  have hB0 : Below w.heap.size w (w.alloc (.cells #[.slice none 0 0] 29)) := (Below.refl _ w).alloc (Nat.le_refl _) _
  have hsz : (w.alloc (.cells #[.slice none 0 0] 29)).heap.size = w.heap.size + 1 := by simp
  have hc' : (w.alloc (.cells #[.slice none 0 0] 29)).cell? ⟨Bv, 0, none⟩ = some (.slice (some ⟨b, off, none⟩) es.length cap) := (old_cell w _ _ hBv).trans hc
  have hI' : AEntsAt b off es (w.alloc (.cells #[.slice none 0 0] 29)) := hI.of_block (Below.heap_alloc _ _ _ hbl)
  obtain ⟨W0, hW0⟩ : ∃ W0, w.alloc (.cells #[.slice none 0 0] 29) = W0 := ⟨_, rfl⟩
  rw [hW0] at bB hB0 hsz hc' hI' ⊢
  clear hW0 hc hI
  refine wpIn_rangeFunc_ownH hro h1 (gf := 50) (lb := #[.pointer (some ⟨Bv, 0, none⟩)]) rfl h50 (enters_of Try.func50 (by kernel_rfl) rfl)
    (values_stops F (n - 1) h50 hro (by omega) Bv w.heap.size b off cap es hlen W0 (by omega) (by omega) hbl hc' hI') belowK_t (belowK_b (by omega)) (Below.refl _ _) (fun _ => rfl)
    (SeqI w.heap.size w.heap.size w)
    (fun _ _ _ => False)
    (seqI_own _ _ _ _ (by omega) (Nat.le_refl _))
    (fun _ _ _ _ _ hs _ _ => hs)
    ⟨⟨_, bB, World.ownsRow_nil _ _ _ _⟩, hB0⟩
    (LoopVar (.func (.func 50) #[] #[.pointer (some ⟨Bv, 0, none⟩)]) w.heap.size)
    (loopVar_own _ _ _)
    ?assign ?body ?done ?stop
  case assign =>
    rintro l pre x W K hi hK
    have hBW := hi.2.size
    have hlt := hi.1.choose_spec.1.lt
    dsimp only [aVal]
    gi_wp2
    exact hK _ _ ((KeepsOthers.alloc _ _).from _) ((Below.refl _ W).alloc hBW _) ((seqI_own _ _ W0.heap.size w (by omega) (Nat.le_refl _)).alloc _ hi) ⟨W.heap.size, hlt, World.alloc_heap_new W _, rfl⟩
  case body =>
    rintro l pre x a' W hl ⟨r, hr⟩ ⟨⟨v, hv, hrow⟩, hbel⟩ ⟨Bx, hBx, bX, rfl⟩ hlt
    have hc1 := hv.cell
    have hf1 := hv.frozen
    have hBW := hbel.size
    have x0 : W.cell? ⟨Bx, 0, none⟩ = some (.int .i64 x.c) := by simp [World.cell?, bX]
    have x1 : W.cell? ⟨Bx, 1, none⟩ = some (.int .i64 x.o) := by simp [World.cell?, bX]
    have x2 : W.cell? ⟨Bx, 2, none⟩ = some (.int .i64 x.n) := by simp [World.cell?, bX]
    have hvl := hv.lt
    obtain ⟨xc, xo, xn⟩ := x
    dsimp only at x0 x1 x2
    dsimp only [aVal]
    have hcW : ∀ o, (W.alloc o).cell? ⟨w.heap.size, 0, none⟩ = some v := fun o => (old_cell W o _ hvl).trans hc1
    have Hrow := Lib.hid hrow
    have Hv := Lib.hid hv
    have Hbel := Lib.hid hbel
    clear hr hv hbel hrow bX
    gi_wp2_with (gi_at_builtin; refine wpListIn_append_own _ rfl (.tmp 8) (.tmp 10) 29 rfl w.heap.size 43 ie _ 3 24 Try.underlying29 hie ze0 ze1 ze2 rfl (by decide) v pre.length (aCells pre) rfl (Hrow.out.alloc _) ⟨W.heap.size, 0, none⟩ 1 1 [.int .i64 xc, .int .i64 xo, .int .i64 xn] rfl rfl (World.news_of_block (cs := #[.int .i64 xc, .int .i64 xo, .int .i64 xn]) (t := 43) (fr := (0, 0)) (heap_alloc_new W _)) (by simp [Value.oneCell']) (by unfold maxLen; omega) (by omega) (by simp; omega) ?_; intro v' w1 hown' hgrow _; obtain ⟨g', cap', rfl⟩ := ownsRow_succ hown'; obtain ⟨hv1, hv2, hr2, hk2, hb2⟩ := Hv.out.appended (by decide) Hrow.out hBW (Nat.le_refl _) hown' hgrow; have hd1 := hv1.cell; have he1 := hv1.frozen)
    refine ⟨hk2.from _, hb2, ⟨_, hv2, ?_⟩, Hbel.out.trans hb2⟩
    rw [aCells_append]
    simpa [aCells] using hr2
  case done =>
    rintro D ys W hD rfl ⟨⟨v, hv, hrow⟩, hbel⟩ hK
    have hc1 := hv.cell
    gi_wp2
    refine ⟨by simp, .inl ⟨_, _, rfl, run_takeDeferred hK, ?_⟩⟩
    refine ⟨_, results_tmp rfl _ _ _, _, rfl, ownsRow_putObj hrow _ hK rfl, hbel.trans (belowK_b (w := w) (Nat.le_refl _) W D _ _ (by omega) hK rfl rfl)⟩
  case stop =>
    rintro D c pre W _ _ h _
    exact h.elim
end Go.Proofs.Ytadelkancmbanaa
