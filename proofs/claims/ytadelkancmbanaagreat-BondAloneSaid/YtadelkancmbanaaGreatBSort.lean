/-
  bond.Cells: pairs, sorted by their cells.
-/
import Derived.Test.YtadelkancmbanaaGreatBMoveL
import Derived.Test.YtadelkancmbanaaGreatBShelf
namespace Go.Proofs.YtadelkancmbanaaGreat
open Go.Shelf Go.RowKit Go.Lib Go.Sort
attribute [local go_sem ↓] Go.wp_at_zero Go.wp_at_succ

def encP (x : Int × Int) : List Value := [.int .i64 x.1, .int .i64 x.2]
def cfP (x y : Int × Int) : Int := Lib.compareInt x.1 y.1

theorem ltP (x y : Int × Int) : ltOf cfP x y = decide (x.1 < y.1) := by
  unfold ltOf cfP Lib.compareInt
  by_cases h1 : x.1 < y.1
  · simp [h1]
  · by_cases h2 : y.1 < x.1 <;> simp [h1, h2]
theorem swoP : SWO (ltOf cfP) where
  irrefl x := by rw [ltP]; simp
  trans x y z h1 h2 := by rw [ltP] at *; simp at *; omega
  ntrans x y z h1 h2 := by rw [ltP] at *; simp at *; omega

set_option maxHeartbeats 1000000 in
theorem manycmp_any (x y : Int × Int) (W : World) : Calls Tryz.prog 35 #[.agg #[.int .i64 x.1, .int .i64 x.2], .agg #[.int .i64 y.1, .int .i64 y.2]] W fun e w' => e = .returned (.int .i64 (cfP x y)) ∧ ∃ q os', w' = grow (W.drewN q) os' := by
  have hcon := fun W' => AnyG.cmp_Compare_int cmpInt x.1 y.1 W'
  change ∀ W', Calls Tryz.prog 36 _ _ _ at hcon
  unfold cfP
  generalize Lib.compareInt x.1 y.1 = r at hcon ⊢
  go_enter Tryz.func35, Tryz.ntmps35
  go_wp2_with (go_at_call 36; refine (hcon _).mono ?_; rintro e w' ⟨rfl, rfl⟩)
  go_ret
  exact ⟨rfl, 0, _, by rw [alloc_eq_grow, alloc_eq_grow, grow_grow]; rfl⟩

theorem cmpLaysP (blk off size : Nat) (w : World) : CmpLays Tryz.prog 35 #[] encP 2 cfP blk off size w :=
  fun _ _ _ _ x y => manycmp_any x y _

theorem sortWorld_keep (w : World) (blk n : Nat) (d : Array (Int × Int)) (os : Array Obj) : Keep (fun k => k = blk) w.heap.size w (sortWorldK encP 2 w blk 0 n d os) := by
  unfold sortWorldK putRowK putRow mapBlock grow Sort.ahead
  refine ⟨rfl, rfl, rfl, by simp, fun k hk hne => ?_⟩
  dsimp only
  rw [Array.getElem?_append_left (by simpa using hk), Array.getElem?_modify, if_neg (fun e => hne e.symm)]

theorem encP_len (x : Int × Int) : (encP x).length = 2 := rfl
theorem encP_one (x : Int × Int) : ∀ v ∈ encP x, v.oneCell' = true := fun v hv => by
  simp [encP] at hv; rcases hv with rfl | rfl <;> rfl

structure SortedPs (blk : Nat) (d : Array (Int × Int)) (w : World) (e : Ending) (w' : World) (d' : Array (Int × Int)) : Prop where
  end_ : e = .returned (.tuple #[])
  perm : d'.toList.Perm d.toList
  sorted : ∀ i j, i < j → j < d'.size → ¬ (d'[j]!.1 < d'[i]!.1)
  cells : ∀ j, j < d'.size → CellIs w' blk (j * 2) (.int .i64 d'[j]!.1) ∧ CellIs w' blk (j * 2 + 1) (.int .i64 d'[j]!.2)
  keep : Keep (fun k => k = blk) w.heap.size w w'

theorem sortpairs_any (blk cap : Nat) (d : Array (Int × Int)) (w : World) (hc : ∀ j, j < d.size → CellIs w blk (j * 2) (.int .i64 d[j]!.1) ∧ CellIs w blk (j * 2 + 1) (.int .i64 d[j]!.2)) (hb : blk < w.heap.size) (hsz : d.size ≤ 1000) :
    Calls Tryz.prog 34 #[.slice (some ⟨blk, 0, none⟩) d.size cap, .func (.func 35) #[] #[]] w fun e w' => ∃ d', SortedPs blk d w e w' d' := by
  have eg : ∀ args w, (callFunc 35 args).run Tryz.prog w = .ok (.enter 35 args) w := enters_of Tryz.func35 (by kernel_rfl) rfl
  have hH : HoldsK encP 2 w blk 0 d := by
    intro j hj
    rw [size_flatK] at hj
    rw [get_flatK _ _ _ _ hj, Nat.zero_add]
    have hq : j / 2 < d.size := by omega
    have h := hc (j / 2) hq
    have e : j % 2 = 0 ∨ j % 2 = 1 := by omega
    rcases e with e | e
    · have ej : j / 2 * 2 = j := by omega
      rw [ej] at h
      rw [e]
      exact ⟨h.1.cell, h.1.frz⟩
    · have ej : j / 2 * 2 + 1 = j := by omega
      rw [ej] at h
      rw [e]
      exact ⟨h.2.cell, h.2.frz⟩
  have hcon := AnyQ.slices_SortFunc sortPairs 2 Tryz.isAgg52 Tryz.sizeOf52 encP encP_len encP_one cfP swoP 35 #[] blk 0 cap d w eg (cmpLaysP blk 0 d.size w) hH hb (by omega)
  change Calls Tryz.prog 34 _ _ _ at hcon
  refine hcon.mono ?_
  rintro e w' ⟨rfl, d', n, os, hp, hs, rfl⟩
  have hsd : d'.size = d.size := hp.1
  refine ⟨d', rfl, ?_, ?_, ?_, sortWorld_keep w blk n d' os⟩
  · have h := hp.2.2
    have e1 : d'.extract 0 d.size = d' := by rw [← hsd]; simp
    have e2 : d.extract 0 d.size = d := by simp
    rw [e1, e2] at h
    exact h
  · intro i j hij hj hlt
    have h := hs i j (Nat.zero_le _) hij (by omega)
    rw [ltP] at h
    simp at h
    omega
  · have hH' : HoldsK encP 2 (sortWorldK encP 2 w blk 0 n d' os) blk 0 d' := by
      unfold sortWorldK
      refine holdsK_grow encP 2 _ _ _ _ _ ?_ (holdsK_putRowK encP 2 _ _ _ d d' (holdsK_ahead encP 2 w n blk 0 d hH) hsd)
      have := (sortWorld_keep w blk n d' #[]).size
      unfold sortWorldK at this
      simp [grow] at this
      omega
    intro j hj
    have h0 := hH'.cell (i := j) (c := 0) hj (by omega)
    have h1 := hH'.cell (i := j) (c := 1) hj (by omega)
    rw [Nat.zero_add, Nat.add_zero] at h0
    rw [Nat.zero_add] at h1
    exact ⟨⟨h0.1, h0.2⟩, ⟨h1.1, h1.2⟩⟩
end Go.Proofs.YtadelkancmbanaaGreat
