/-
  The law's comparison of two rows of pairs.
-/
import Derived.Test.YtadelkancmbanaaGreatBMakes2
namespace Go.Proofs.YtadelkancmbanaaGreat
open Go.RowKit
attribute [local go_sem ↓] Go.wp_at_zero Go.wp_at_succ

/-- A row of pairs, from a place on; or none. -/
def PVal (p : Option Addr) (d : Array (Int × Int)) (w : World) : Prop :=
  d.size = 0 ∨ ∃ g o, p = some ⟨g, o, none⟩ ∧ ∀ j, j < d.size → w.cell? ⟨g, o + j * 2, none⟩ = some (.int .i64 d[j]!.1) ∧ w.cell? ⟨g, o + j * 2 + 1, none⟩ = some (.int .i64 d[j]!.2)

theorem PVal.below {p : Option Addr} {d : Array (Int × Int)} {w w' : World} (h : PVal p d w) (hb : Below w.heap.size w w') : PVal p d w' := by
  rcases h with h | ⟨g, o, hp, hc⟩
  · exact .inl h
  · exact .inr ⟨g, o, hp, fun j hj => ⟨(hb.cell (p := ⟨g, o + j * 2, none⟩) (World.block_lt_of_cell? _ _ (hc j hj).1)).trans (hc j hj).1, (hb.cell (p := ⟨g, o + j * 2 + 1, none⟩) (World.block_lt_of_cell? _ _ (hc j hj).2)).trans (hc j hj).2⟩⟩

set_option maxRecDepth 100000 in
set_option maxHeartbeats 1600000 in
theorem pairs_same (p q : Option Addr) (m c c' : Nat) (d : Array (Int × Int)) (w : World) (hm : d.size = m) (hs : m ≤ 1000) (hp : PVal p d w) (hq : PVal q d w) :
    Calls Tryz.prog 62 #[.slice p m c, .slice q m c'] w fun e w' => e = .returned (.bool true) ∧ Below w.heap.size w w' := by
  have Hp := Lib.hid hp
  have Hq := Lib.hid hq
  have Hm := Lib.hid hm
  clear hp hq hm
  go_enter Tryz.func62, Tryz.ntmps62
  go_wp2_with fail
  go_loopw [5] (fun i wr => ∃ k : Nat, k ≤ m ∧ i = .int .i64 k ∧ Below w.heap.size w wr) (fun i _ => m - (intOf i).toNat)
  case atStart => exact ⟨0, Nat.zero_le _, rfl, Below.refl _ _⟩
  case round =>
    obtain ⟨k, hk, rfl, hb⟩ := hrel
    by_cases hlt : k < m
    · rcases Hp.out.below hb with h | ⟨g, o, rfl, hc⟩
      · exact absurd h (by rw [Hm.out]; omega)
      · rcases Hq.out.below hb with h | ⟨g', o', rfl, hc'⟩
        · exact absurd h (by rw [Hm.out]; omega)
        · obtain ⟨a0, a1⟩ := hc k (by rw [Hm.out]; exact hlt)
          obtain ⟨b0, b1⟩ := hc' k (by rw [Hm.out]; exact hlt)
          obtain ⟨x, hx⟩ : ∃ x, d[k]!.1 = x := ⟨_, rfl⟩
          obtain ⟨y, hy⟩ : ∃ x, d[k]!.2 = x := ⟨_, rfl⟩
          rw [hx] at a0 b0
          rw [hy] at a1 b1
          have Hb := Lib.hid hb
          clear hc hc' hx hy hb
          go_wp2_with fail
          refine wp_region_still_tail 8 (by kernel_rfl) (by kernel_rfl) ?_
          simp only [List.take_succ_cons, List.take_zero, List.drop_succ_cons, List.drop_zero]
          change wpStill _ _ (World.drew _) _ _ _
          repeat (first | (refine wpStill_step (fun K hK => ?_); go_simp; refine hK _ ?_; clear hK K))
          refine wpStill_nil ?_
          change wpList _ _ _ _ _ (World.drew _)
          go_wp2_with fail
          go_roundw
          case rel => exact ⟨k + 1, by omega, by go_num, Hb.out.drew⟩
          case measure => simp [intOf]; omega
    · have Hb := Lib.hid hb
      clear hb
      go_wp2_with fail
      go_ret
      exact ⟨rfl, Hb.out⟩
end Go.Proofs.YtadelkancmbanaaGreat

/-
  The law's calls: what lies between them; what one of them may change.
-/
namespace Go.Proofs.YtadelkancmbanaaGreat
open Go.RowKit

/-- A row of numbers, the law's own. -/
structure LRow (S : St) (gl N : Nat) (l : List Int) (w : World) : Prop where
  len : l.length = N
  cells : ∀ j, j < N → CellIs w gl j (.int .i64 (l.getD j 0))
  tag : S.tag gl = 0

/-- How much room is left. -/
structure Room (Z : Fix) (S : St) (F : List Nat) (G : Int) : Prop where
  free : 16 ≤ F.length
  gens : G ≤ 890000
  made : S.made ≤ 999
  now : S.now ≤ 999999
  cnow : S.cnow ≤ 999999

structure Step (Z : Fix) (S : St) (C : Nat → List Ver) (F : List Nat) (G : Int) (gl : Nat) (w : World) (S' : St) (C' : Nat → List Ver) (F' : List Nat) (W' : List Wait) (G' : Int) (l' : List Int) (w' : World) : Prop where
  inv : Inv Z S' C' F' W' G' w'
  keep : Keep (fun k => S.tag k ≠ 0 ∨ k = gl) w.heap.size w w'
  tag : ∀ k, k < w.heap.size → S'.tag k = S.tag k
  len : S'.heads.length = S.heads.length
  cnow : S'.cnow = S.cnow
  ls : S'.ls = S.ls
  row : LRow S' gl S.heads.length l' w'
  val : ∀ c, c < S.heads.length → (topOf C' c).v = l'.getD c 0
  snap : ∀ c, c < S.heads.length → ∀ t y, leastTo S.cnow S.ls S.ls.length ≤ t → t < S.cnow → (C c).find? (fun x => decide (x.s - 1 ≤ t)) = some y → (C' c).find? (fun x => decide (x.s - 1 ≤ t)) = some y
  free : F.length ≤ F'.length + 16
  gens : G' ≤ G + 4200
  made : S'.made ≤ S.made + 1
  now : S'.now ≤ S.now + 1

def StepE (Z : Fix) (S : St) (C : Nat → List Ver) (F : List Nat) (G : Int) (gl : Nat) (w : World) (w' : World) : Prop :=
  ∃ S' C' F' W' G' l', Step Z S C F G gl w S' C' F' W' G' l' w'

section
variable {Z : Fix} {S : St} {C : Nat → List Ver} {F : List Nat} {W : List Wait} {G : Int} {gl : Nat} {l : List Int} {w w' : World}

theorem LRow.next {S' : St} {N : Nat} (h : LRow S gl N l w) (hN : 1 ≤ N) (hn : Next Z S w S' w') : LRow S' gl N l w' :=
  ⟨h.len, fun j hj => (h.cells j hj).of_block (hn.keep.block gl (h.cells 0 (by omega)).lt (by rw [h.tag]; exact fun h => h rfl)), by rw [hn.tag gl (h.cells 0 (by omega)).lt]; exact h.tag⟩

theorem Next.keepL {S' : St} (hn : Next Z S w S' w') (gl : Nat) : Keep (fun k => S.tag k ≠ 0 ∨ k = gl) w.heap.size w w' := hn.keep.weaken fun _ _ h => .inl h

/-- Nothing but what lies in the machine has changed: the chains are as they were. -/
theorem Inv.at (h : Inv Z S C F W G w) (hm : Mem Z S w') : Inv Z S C F W G w' :=
  ⟨hm, h.deep, h.at0, h.ok, h.chain, h.ne, h.nFW, h.nC, h.dC, h.dF, h.wq, h.wH, h.wE, h.late, h.bot⟩

theorem Step.same (h : Inv Z S C F W G w) (hr : LRow S gl S.heads.length l w) (hv : ∀ c, c < S.heads.length → (topOf C c).v = l.getD c 0) (hn : Next Z S w S w') : Step Z S C F G gl w S C F W G l w' :=
  ⟨h.next hn, hn.keepL gl, hn.tag, rfl, rfl, rfl, hr.next h.mem.bond.few.1 hn, hv, fun _ _ _ _ _ _ h => h, by omega, by omega, by omega, by omega⟩

theorem topOf_hit {key : Nat → Nat} {nv : Nat → Ver} {n : Nat} (inj : ∀ j k, j < k → k < n → key j ≠ key k) (j : Nat) (hj : j < n) : topOf (consK C key nv n) (key j) = nv j := by
  unfold topOf
  rw [consK_hit C key nv n inj j n hj (Nat.le_refl _)]
  rfl
theorem topOf_far {key : Nat → Nat} {nv : Nat → Ver} {n c : Nat} (h : ∀ j, j < n → key j ≠ c) : topOf (consK C key nv n) c = topOf C c := by
  unfold topOf
  rw [consK_far C key nv c n h]

theorem Step.from {S' : St} {C' : Nat → List Ver} {F' : List Nat} {W' : List Wait} {G' : Int} {l' : List Int} {w0 : World} (h : Step Z S C F G gl w S' C' F' W' G' l' w') (hn : Next Z S w0 S w) : Step Z S C F G gl w0 S' C' F' W' G' l' w' :=
  ⟨h.inv, (hn.keepL gl).trans (h.keep.mono hn.keep.size), fun k hk => h.tag k (Nat.lt_of_lt_of_le hk hn.keep.size), h.len, h.cnow, h.ls, h.row, h.val, h.snap, h.free, h.gens, h.made, h.now⟩

theorem Step.other {S' : St} {F' : List Nat} {W' : List Wait} {G' : Int} (h : Inv Z S C F W G w) (hr : LRow S gl S.heads.length l w) (hv : ∀ c, c < S.heads.length → (topOf C c).v = l.getD c 0) (hi : Inv Z S' C F' W' G' w') (hn : Next Z S w S' w') (hh : S'.heads = S.heads) (hc : S'.cnow = S.cnow) (hl : S'.ls = S.ls)
    (h1 : F.length ≤ F'.length + 16) (h2 : G' ≤ G + 4200) (h3 : S'.made ≤ S.made + 1) (h4 : S'.now ≤ S.now + 1) : Step Z S C F G gl w S' C F' W' G' l w' :=
  ⟨hi, hn.keepL gl, hn.tag, by rw [hh], hc, hl, hr.next h.mem.bond.few.1 hn, hv, fun _ _ _ _ _ _ h => h, h1, h2, h3, h4⟩

theorem find_cut (P q : List Ver) (y : Ver) (p : Ver → Bool) (hy : p y = true) : (P ++ y :: q).find? p = (P ++ [y]).find? p := by
  rw [List.find?_append, List.find?_append, List.find?_cons_of_pos hy, List.find?_cons_of_pos hy]

theorem Step.trim (h : Inv Z S C F W G w) (hr : LRow S gl S.heads.length l w) (hv : ∀ c, c < S.heads.length → (topOf C c).v = l.getD c 0) (c : Nat) (hc : c < S.heads.length) (P : List Ver) (y : Ver) (q : List Ver) (hsp : C c = P ++ y :: q) (hy : y.s - 1 ≤ leastTo S.cnow S.ls S.ls.length) (v : Value) (tag : Nat → Nat)
    (hn : Next Z S w { S with tbl := unls S.tbl (vSlots (y :: q)), v := v, ws := S.ws ++ vWaits S.now q, tag := tag } w') : StepE Z S C F G gl w w' := by
  have hi := h.trim c hc P y q hsp hy v tag hn
  refine ⟨_, _, _, _, _, l, hi, hn.keepL gl, hn.tag, rfl, rfl, rfl, hr.next h.mem.bond.few.1 hn, fun c' hc' => ?_, fun c' hc' t z h1 h2 hf => ?_, by omega, by omega, by show S.made ≤ S.made + 1; omega, by show S.now ≤ S.now + 1; omega⟩
  · by_cases e : c' = c
    · subst e
      have ht : topOf (upd C c' (P ++ [y])) c' = topOf C c' := by
        unfold topOf
        rw [upd_same, hsp]
        cases P <;> rfl
      rw [ht]; exact hv c' hc'
    · have ht : topOf (upd C c (P ++ [y])) c' = topOf C c' := by
        unfold topOf
        rw [upd_other _ _ _ _ e]
      rw [ht]; exact hv c' hc'
  · by_cases e : c' = c
    · subst e
      rw [upd_same]
      rw [hsp] at hf
      rw [← find_cut P q y _ (by simp; omega)]
      exact hf
    · rw [upd_other _ _ _ _ e]; exact hf

/-- A write that was done. -/
theorem Step.write (h : Inv Z S C F W G w) (n : Nat) (key : Nat → Nat) (val : Nat → Int) (hn16 : n ≤ 16) (hF : n ≤ F.length) (hkl : ∀ j, j < n → key j < S.heads.length) (inj : ∀ j k, j < k → k < n → key j ≠ key k) {e : Ending} {w1 : World}
    (hE : ChangedEnd Z S n key val (fun j => hnd (topOf C (key j)).i (topOf C (key j)).g) F G w e w1) (l' : List Int) (hl' : l'.length = S.heads.length) (hv : ∀ j, j < n → l'.getD (key j) 0 = val j) (hv2 : ∀ c, c < S.heads.length → (∀ j, j < n → key j ≠ c) → l'.getD c 0 = (topOf C c).v)
    (htag : S.tag gl = 0) (hgl : gl < w.heap.size) (hk : Keep (fun k => k = gl) w1.heap.size w1 w') (hrow : ∀ j, j < S.heads.length → CellIs w' gl j (.int .i64 (l'.getD j 0))) :
    StepE Z S C F G gl w w' := by
  obtain ⟨_, db, next, head, tag, hn, hok, _⟩ := hE
  have hold : ∀ j, j < n → S.heads.getD (key j) 0 = hnd (topOf C (key j)).i (topOf C (key j)).g := fun j hj => by
    obtain ⟨r, _, hr⟩ := h.top (key j) (hkl j hj)
    exact hr.1
  have hi := h.write n key val _ db next head tag hF hkl inj hold hn hok
  have htag' : (WrSt S n key val (fun j => hnd (topOf C (key j)).i (topOf C (key j)).g) F db next head tag).tag gl = 0 := by rw [hn.tag gl hgl]; exact htag
  have s1 := hn.keep.size
  have hinv : Inv Z (WrSt S n key val (fun j => hnd (topOf C (key j)).i (topOf C (key j)).g) F db next head tag) (consK C key (newV S val F) n) (F.drop n) W (G + n) w' := hi.at (hi.mem.keep hk fun k e => by rw [e]; exact htag')
  have cases : ∀ c, (∃ j, j < n ∧ key j = c) ∨ (∀ j, j < n → key j ≠ c) := fun c => by
    rcases Classical.em (∃ j, j < n ∧ key j = c) with e | e
    · exact .inl e
    · exact .inr fun j hj he => e ⟨j, hj, he⟩
  refine ⟨_, _, _, _, _, l', hinv, (hn.keepL gl).trans ((hk.mono s1).weaken fun k _ e => .inr e), hn.tag, headsK_length _ _ _ _, rfl, rfl, ⟨hl', hrow, htag'⟩, fun c hc => ?_, fun c hc t y h1 h2 hf => ?_, by rw [List.length_drop]; omega, by omega, Nat.le_refl _, by show S.now ≤ S.now + 1; omega⟩
  · rcases cases c with ⟨j, hj, rfl⟩ | hf
    · rw [topOf_hit inj j hj, hv j hj]; rfl
    · rw [topOf_far hf, hv2 c hc hf]
  · rcases cases c with ⟨j, hj, rfl⟩ | hff
    · rw [consK_hit C key _ n inj j n hj (Nat.le_refl _), List.find?_cons_of_neg]
      · exact hf
      · have e : (newV S val F j).s = S.cnow + 1 := rfl
        rw [e]
        simp
        omega
    · rw [consK_far C key _ c n hff]; exact hf
end
end Go.Proofs.YtadelkancmbanaaGreat
