/-
  The law's does, any kind; what its steps do to the snapshots.
-/
import Derived.Test.YtadelkancmbanaaGreatBKnown3
namespace Go.Proofs.YtadelkancmbanaaGreat
open Go.RowKit
attribute [local go_sem ↓] Go.wp_at_zero Go.wp_at_succ

theorem does_any (Z : Fix) (S : St) (C : Nat → List Ver) (F : List Nat) (W : List Wait) (G : Int) (gl capl m cp : Nat) (l : List Int) (kind a b cc : Int) (p : Option Addr) (d : Array (Int × Int)) (w : World) (h : Inv Z S C F W G w) (hr : LRow S gl S.heads.length l w) (hv : ∀ c, c < S.heads.length → (topOf C c).v = l.getD c 0) (rm : Room Z S F G)
    (hp : PVal p d w) (htp : 0 < m → ∀ x : Addr, p = some x → S.tag x.block = 0 ∧ x.block ≠ gl) (hm : d.size = m) (hs : m ≤ 20) :
    Calls Tryz.prog 9 #[mVal Z, .slice (some ⟨gl, 0, none⟩) S.heads.length capl, opVal kind a b cc p m cp] w fun e w' => e = .returned (.bool true) ∧ StepE Z S C F G gl w w' := by
  rcases Decidable.em (kind = 1) with rfl | k1
  · exact does1 Z S C F W G gl capl m cp l a b cc p w h hr hv rm
  rcases Decidable.em (kind = 2) with rfl | k2
  · exact does2 Z S C F W G gl capl m cp l a b cc p w h hr hv rm d hp htp hm hs
  rcases Decidable.em (kind = 3) with rfl | k3
  · rcases Classical.em (inB S.heads.length a ∧ inB S.heads.length b ∧ a ≠ b) with hok | hbad
    · obtain ⟨⟨a0, a1⟩, ⟨b0, b1⟩, hab⟩ := hok
      obtain ⟨ia, rfl⟩ : ∃ ia : Nat, a = (ia : Int) := ⟨a.toNat, by omega⟩
      obtain ⟨ib, rfl⟩ : ∃ ib : Nat, b = (ib : Int) := ⟨b.toNat, by omega⟩
      rcases Int.lt_or_le cc 0 with hneg | hpos
      · exact does3_less Z S C F W G gl capl m cp l cc p ia ib w h hr hv rm (by omega) (by omega) (by omega) hneg
      · exact does3_in Z S C F W G gl capl m cp l cc p ia ib w h hr hv rm (by omega) (by omega) (by omega) hpos
    · exact does3_out Z S C F W G gl capl m cp l a b cc p w h hr hv rm hbad
  rcases Decidable.em (kind = 7) with rfl | k7
  · exact does7 Z S C F W G gl capl m cp l a b cc p w h hr hv rm
  rcases Decidable.em (kind = 8) with rfl | k8
  · exact does8 Z S C F W G gl capl m cp l a b cc p w h hr hv rm
  rcases Decidable.em (kind = 9) with rfl | k9
  · exact does9 Z S C F W G gl capl m cp l a b cc p w h hr hv rm
  · exact doesX Z S C F W G gl capl m cp l kind a b cc p w h hr hv rm ⟨k1, k2, k3, k7, k8, k9⟩

/-- All snapshots. -/
structure SnAll (S : St) (C : Nat → List Ver) (gl : Nat) (sn : List Sn) (w : World) : Prop where
  at_ : ∀ x, x ∈ sn → SnAt S C x
  row : ∀ x, x ∈ sn → CRow S.heads.length x w ∧ S.tag x.g = 0 ∧ x.g ≠ gl
  apart : sn.Pairwise (fun x y => x.t ≠ y.t)
  count : sn.countP (·.is) = S.ls.countP (· ≠ 0)

section
variable {Z : Fix} {S : St} {C : Nat → List Ver} {F : List Nat} {W : List Wait} {G : Int} {gl : Nat} {l : List Int} {sn : List Sn} {w w' : World}

theorem SnAt.step {S' : St} {C' : Nat → List Ver} {F' : List Nat} {W' : List Wait} {G' : Int} {l' : List Int} {x : Sn} (h : SnAt S C x) (hs : Step Z S C F G gl w S' C' F' W' G' l' w') : SnAt S' C' x := by
  refine ⟨by rw [hs.ls]; exact h.li, by rw [hs.cnow]; exact h.t0, fun hx => ?_, fun hx => by rw [hs.ls]; exact h.no hx⟩
  obtain ⟨h1, h2⟩ := h.yes hx
  refine ⟨by rw [hs.ls]; exact h1, fun c hc => ?_⟩
  rw [hs.len] at hc
  obtain ⟨y, hy, hyv⟩ := h2 c hc
  have hle := (le_least (leastTo S.cnow S.ls S.ls.length) S.cnow S.ls S.ls.length).1 (Int.le_refl _)
  have hl := hle.2 x.li h.li (by rw [h1]; have := h.t0; omega)
  exact ⟨y, hs.snap c hc x.t y (by omega) h.t0.2 hy, hyv⟩

theorem SnAll.step {S' : St} {C' : Nat → List Ver} {F' : List Nat} {W' : List Wait} {G' : Int} {l' : List Int} (h : SnAll S C gl sn w) (hN : 1 ≤ S.heads.length) (hs : Step Z S C F G gl w S' C' F' W' G' l' w') : SnAll S' C' gl sn w' := by
  refine ⟨fun x hx => (h.at_ x hx).step hs, fun x hx => ?_, h.apart, by rw [hs.ls]; exact h.count⟩
  obtain ⟨r1, r2, r3⟩ := h.row x hx
  have hl := r1.lt hN
  rw [hs.len]
  exact ⟨r1.block (hs.keep.block _ hl (by rintro (e | e); exact e r2; exact r3 e)), (hs.tag _ hl).trans r2, r3⟩

/-- Nothing but the machine has moved on. -/
theorem SnAll.next (h : SnAll S C gl sn w) (hN : 1 ≤ S.heads.length) (hn : Next Z S w S w') : SnAll S C gl sn w' :=
  ⟨h.at_, fun x hx => by
    obtain ⟨r1, r2, r3⟩ := h.row x hx
    exact ⟨r1.block (hn.keep.block _ (r1.lt hN) (by rw [r2]; exact fun h => h rfl)), r2, r3⟩, h.apart, h.count⟩
theorem SnAll.keep (h : SnAll S C gl sn w) (hN : 1 ≤ S.heads.length) {T : Nat → Prop} {B : Nat} (hk : Keep T B w w') (hB : ∀ x, x ∈ sn → x.g < B ∧ ¬ T x.g) : SnAll S C gl sn w' :=
  ⟨h.at_, fun x hx => by
    obtain ⟨r1, r2, r3⟩ := h.row x hx
    exact ⟨r1.block (hk.block _ (hB x hx).1 (hB x hx).2), r2, r3⟩, h.apart, h.count⟩

theorem countP_set (ls : List Int) (i : Nat) (y : Int) (hi : i < ls.length) : (ls.set i y).countP (· ≠ 0) + (if ls.getD i 0 ≠ 0 then 1 else 0) = ls.countP (· ≠ 0) + (if y ≠ 0 then 1 else 0) := by
  induction ls generalizing i with
  | nil => exact absurd hi (by simp)
  | cons x r ih =>
    cases i with
    | zero =>
      rw [List.set_cons_zero, List.countP_cons, List.countP_cons]
      simp only [List.getD_cons_zero, decide_not]
      by_cases h1 : x = 0 <;> by_cases h2 : y = 0 <;> simp [h1, h2]
    | succ i =>
      have hi' : i < r.length := by simpa using hi
      have := ih i hi'
      rw [List.set_cons_succ, List.countP_cons, List.countP_cons, List.getD_cons_succ]
      omega

/-- A snapshot is taken. -/
theorem SnAll.take (h : SnAll S C gl sn w) (hI : Inv Z S C F W G w) (hv : ∀ c, c < S.heads.length → (topOf C c).v = l.getD c 0) (i : Nat) (hi : i < S.ls.length) (hz : S.ls.getD i 0 = 0) (g cap : Nat) (hk : ∀ x, x ∈ sn → w'.heap[x.g]? = w.heap[x.g]?) (hg : CRow S.heads.length ⟨i, S.cnow, g, cap, l, true⟩ w') (tg : S.tag g = 0) (hgl : g ≠ gl) :
    SnAll { S with cnow := S.cnow + 1, ls := S.ls.set i (S.cnow + 1) } C gl (sn ++ [⟨i, S.cnow, g, cap, l, true⟩]) w' := by
  have hck := hI.mem.ck.now0
  refine ⟨fun x hx => ?_, fun x hx => ?_, ?_, ?_⟩
  · rcases List.mem_append.1 hx with a | a
    · have hA := h.at_ x a
      refine ⟨by show x.li < (S.ls.set i (S.cnow + 1)).length; rw [List.length_set]; exact hA.li, ⟨hA.t0.1, by show x.t < S.cnow + 1; have := hA.t0; omega⟩, fun hx1 => ?_, fun hx1 => ?_⟩
      · obtain ⟨y1, y2⟩ := hA.yes hx1
        refine ⟨?_, y2⟩
        show (S.ls.set i (S.cnow + 1)).getD x.li 0 = _
        rw [getD_set_eq _ _ _ _ hi, if_neg (fun e => by rw [← e, hz] at y1; have := hA.t0; omega)]
        exact y1
      · show (S.ls.set i (S.cnow + 1)).getD x.li 0 - 1 ≠ x.t
        rw [getD_set_eq _ _ _ _ hi]
        by_cases e : i = x.li
        · rw [if_pos e]; have := hA.t0; omega
        · rw [if_neg e]; exact hA.no hx1
    · rw [List.mem_singleton.1 a]
      refine ⟨by show i < (S.ls.set i (S.cnow + 1)).length; rw [List.length_set]; exact hi, ⟨hck.1, by show S.cnow < S.cnow + 1; omega⟩, fun _ => ⟨?_, fun c hc => ?_⟩, fun e => by cases e⟩
      · show (S.ls.set i (S.cnow + 1)).getD i 0 = _
        rw [getD_set_eq _ _ _ _ hi, if_pos rfl]
      · obtain ⟨r, er, _⟩ := hI.top c hc
        refine ⟨topOf C c, ?_, hv c hc⟩
        rw [er]
        refine List.find?_cons_of_pos ?_
        have := hI.late c hc (topOf C c) (by rw [er]; exact List.mem_cons_self)
        simpa using this
  · rcases List.mem_append.1 hx with a | a
    · obtain ⟨r1, r2, r3⟩ := h.row x a
      exact ⟨r1.block (hk x a), r2, r3⟩
    · rw [List.mem_singleton.1 a]; exact ⟨hg, tg, hgl⟩
  · rw [List.pairwise_append]
    refine ⟨h.apart, List.pairwise_singleton _ _, fun x hx y hy => ?_⟩
    rw [List.mem_singleton.1 hy]
    have := (h.at_ x hx).t0
    show x.t ≠ S.cnow
    omega
  · rw [List.countP_append]
    have := countP_set S.ls i (S.cnow + 1) hi
    rw [if_neg (by rw [hz]; exact fun h => h rfl), if_pos (by omega)] at this
    have h1 := h.count
    have e1 : ([⟨i, S.cnow, g, cap, l, true⟩] : List Sn).countP (·.is) = 1 := rfl
    rw [e1, h1]
    exact this.symm
end
end Go.Proofs.YtadelkancmbanaaGreat

/-
  A snapshot is given back; the snapshots' row.
-/
namespace Go.Proofs.YtadelkancmbanaaGreat
open Go.RowKit

theorem countP_sn (sn : List Sn) (A : Nat) (x : Sn) (hA : A < sn.length) (h1 : (sn[A]!).is = true) (h2 : x.is = false) : (sn.set A x).countP (·.is) + 1 = sn.countP (·.is) := by
  induction sn generalizing A with
  | nil => exact absurd hA (by simp)
  | cons y r ih =>
    cases A with
    | zero =>
      have h1' : y.is = true := h1
      rw [List.set_cons_zero, List.countP_cons, List.countP_cons]
      simp [h1', h2]
    | succ A =>
      have hA' : A < r.length := by simpa using hA
      have h1' : (r[A]!).is = true := by
        rw [getElem!_pos (y :: r) (A + 1) (by simpa using hA)] at h1
        rw [getElem!_pos r A hA']
        simpa using h1
      have := ih A hA' h1'
      rw [List.set_cons_succ, List.countP_cons, List.countP_cons]
      omega

section
variable {Z : Fix} {S : St} {C : Nat → List Ver} {F : List Nat} {W : List Wait} {G : Int} {gl : Nat} {l : List Int} {sn : List Sn} {w w' : World}

theorem sn_set_mem (A : Nat) (x' : Sn) (hA : A < sn.length) (y : Sn) (hy : y ∈ sn.set A x') : y = x' ∨ ∃ j, j < sn.length ∧ j ≠ A ∧ y = sn[j]! := by
  obtain ⟨j, hj, e⟩ := List.mem_iff_getElem.1 hy
  rw [List.length_set] at hj
  rw [List.getElem_set] at e
  by_cases ej : A = j
  · rw [if_pos ej] at e; exact .inl e.symm
  · rw [if_neg ej] at e
    exact .inr ⟨j, hj, Ne.symm ej, by rw [getElem!_pos sn j hj]; exact e.symm⟩

theorem SnAll.t_ne (h : SnAll S C gl sn w) {i j : Nat} (hi : i < sn.length) (hj : j < sn.length) (hne : i ≠ j) : (sn[i]!).t ≠ (sn[j]!).t := by
  rw [getElem!_pos sn i hi, getElem!_pos sn j hj]
  rcases Nat.lt_or_ge i j with e | e
  · exact List.pairwise_iff_getElem.1 h.apart i j hi hj e
  · exact (List.pairwise_iff_getElem.1 h.apart j i hj hi (by omega)).symm

/-- A snapshot is given back. -/
theorem SnAll.release (h : SnAll S C gl sn w) (A : Nat) (hA : A < sn.length) (hx : (sn[A]!).is = true) (hk : ∀ x, x ∈ sn → w'.heap[x.g]? = w.heap[x.g]?) :
    SnAll { S with ls := S.ls.set (sn[A]!).li 0 } C gl (sn.set A { sn[A]! with is := false }) w' := by
  have hm : ∀ j, j < sn.length → sn[j]! ∈ sn := fun j hj => by rw [getElem!_pos sn j hj]; exact List.getElem_mem hj
  have hxA := h.at_ _ (hm A hA)
  have hli := hxA.li
  refine ⟨fun y hy => ?_, fun y hy => ?_, ?_, ?_⟩
  · rcases sn_set_mem A _ hA y hy with rfl | ⟨j, hj, hne, rfl⟩
    · refine ⟨by show (sn[A]!).li < (S.ls.set (sn[A]!).li 0).length; rw [List.length_set]; exact hli, hxA.t0, fun e => (by cases e), fun _ => ?_⟩
      show (S.ls.set (sn[A]!).li 0).getD (sn[A]!).li 0 - 1 ≠ (sn[A]!).t
      rw [getD_set_eq _ _ _ _ hli, if_pos rfl]
      have := hxA.t0
      omega
    · have hyj := h.at_ _ (hm j hj)
      have ht := h.t_ne hj hA hne
      refine ⟨by show (sn[j]!).li < (S.ls.set (sn[A]!).li 0).length; rw [List.length_set]; exact hyj.li, hyj.t0, fun e => ?_, fun e => ?_⟩
      · obtain ⟨y1, y2⟩ := hyj.yes e
        refine ⟨?_, y2⟩
        show (S.ls.set (sn[A]!).li 0).getD (sn[j]!).li 0 = _
        rw [getD_set_eq _ _ _ _ hli, if_neg (fun e2 => ?_)]
        · exact y1
        · have x1 := (hxA.yes hx).1
          rw [e2, y1] at x1
          omega
      · show (S.ls.set (sn[A]!).li 0).getD (sn[j]!).li 0 - 1 ≠ (sn[j]!).t
        rw [getD_set_eq _ _ _ _ hli]
        by_cases e2 : (sn[A]!).li = (sn[j]!).li
        · rw [if_pos e2]; have := hyj.t0; omega
        · rw [if_neg e2]; exact hyj.no e
  · rcases sn_set_mem A _ hA y hy with rfl | ⟨j, hj, hne, rfl⟩
    · obtain ⟨r1, r2, r3⟩ := h.row _ (hm A hA)
      exact ⟨⟨(r1.block (hk _ (hm A hA))).cells⟩, r2, r3⟩
    · obtain ⟨r1, r2, r3⟩ := h.row _ (hm j hj)
      exact ⟨r1.block (hk _ (hm j hj)), r2, r3⟩
  · refine List.pairwise_iff_getElem.2 fun i j hi hj hij => ?_
    rw [List.length_set] at hi hj
    have e : ∀ k (hk : k < sn.length), ((sn.set A { sn[A]! with is := false })[k]'(by rw [List.length_set]; exact hk)).t = (sn[k]!).t := fun k hk => by
      rw [List.getElem_set]
      by_cases e : A = k
      · subst e; rw [if_pos rfl]
      · rw [if_neg e, getElem!_pos sn k hk]
    rw [e i hi, e j hj]
    exact h.t_ne hi hj (by omega)
  · have c1 := countP_sn sn A { sn[A]! with is := false } hA hx rfl
    have c2 := countP_set S.ls (sn[A]!).li 0 hli
    have x1 := (hxA.yes hx).1
    rw [if_pos (by rw [x1]; have := hxA.t0; omega), if_neg (by exact fun h => h rfl)] at c2
    have c3 := h.count
    show (sn.set A { sn[A]! with is := false }).countP (·.is) = (S.ls.set (sn[A]!).li 0).countP (· ≠ 0)
    omega
end

/-! ### The snapshots' row -/
def snVals (N : Nat) (x : Sn) : List Value := [.int .i64 x.li, .int .i64 x.t, .slice (some ⟨x.g, 0, none⟩) N x.cap, .bool x.is]
def snCells (N : Nat) (sn : List Sn) : List Value := sn.flatMap (snVals N)
theorem snCells_length (N : Nat) : ∀ sn : List Sn, (snCells N sn).length = sn.length * 4
  | [] => rfl
  | x :: r => by unfold snCells; rw [List.flatMap_cons, List.length_append]; have := snCells_length N r; unfold snCells at this; rw [this]; simp [snVals]; omega
theorem snCells_get (N : Nat) : ∀ (sn : List Sn) (j o : Nat), j < sn.length → o < 4 → (snCells N sn)[j * 4 + o]? = (snVals N sn[j]!)[o]?
  | [], j, _, h, _ => absurd h (by simp)
  | x :: r, 0, o, _, ho => by
    unfold snCells
    rw [List.flatMap_cons, List.getElem?_append_left (by simp [snVals]; omega), Nat.zero_mul, Nat.zero_add]
    rfl
  | x :: r, j + 1, o, h, ho => by
    have h' : j < r.length := by simpa using h
    have ih := snCells_get N r j o h' ho
    unfold snCells at ih ⊢
    rw [List.flatMap_cons, List.getElem?_append_right (by simp [snVals]; omega)]
    have e : (j + 1) * 4 + o - (snVals N x).length = j * 4 + o := by simp [snVals]; omega
    rw [e, ih]
    simp [h']
theorem snCells_snoc (N : Nat) (sn : List Sn) (x : Sn) : snCells N (sn ++ [x]) = snCells N sn ++ snVals N x := by unfold snCells; rw [List.flatMap_append]; simp
theorem snCells_set (N : Nat) : ∀ (sn : List Sn) (A : Nat), A < sn.length → snCells N (sn.set A { sn[A]! with is := false }) = (snCells N sn).set (A * 4 + 3) (.bool false)
  | [], A, h => absurd h (by simp)
  | x :: r, 0, _ => by
    unfold snCells
    rw [List.set_cons_zero, List.flatMap_cons, List.flatMap_cons]
    simp [snVals]
  | x :: r, A + 1, h => by
    have h' : A < r.length := by simpa using h
    have ih := snCells_set N r A h'
    have e : (x :: r)[A + 1]! = r[A]! := by simp
    unfold snCells at ih ⊢
    rw [List.set_cons_succ, List.flatMap_cons, List.flatMap_cons, e, ih, List.set_append_right _ _ (by simp [snVals]; omega)]
    have e2 : (A + 1) * 4 + 3 - (snVals N x).length = A * 4 + 3 := by simp [snVals]; omega
    rw [e2]
end Go.Proofs.YtadelkancmbanaaGreat
