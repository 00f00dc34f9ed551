/-
  bond.Cells: what is in order between calls; what each call leaves in order.
-/
import Derived.Test.YtadelkancmbanaaGreatBVers
namespace Go.Proofs.YtadelkancmbanaaGreat
open Go.RowKit

structure Inv (Z : Fix) (S : St) (C : Nat → List Ver) (F : List Nat) (W : List Wait) (G : Int) (w : World) : Prop where
  mem : Mem Z S w
  deep : S.deep = 0
  at0 : S.at0 = 0
  ok : PoolOk Z.n S.tbl S.next S.head F G
  chain : ∀ c, c < S.heads.length → CellChain Z.n S.made S.tbl S.st S.heads c (C c)
  ne : ∀ c, c < S.heads.length → C c ≠ []
  nFW : (F ++ wSlots W).Nodup
  nC : ∀ c, c < S.heads.length → (vSlots (C c)).Nodup
  dC : ∀ c c', c < S.heads.length → c' < S.heads.length → c ≠ c' → ∀ i, i ∈ vSlots (C c) → i ∉ vSlots (C c')
  dF : ∀ c, c < S.heads.length → ∀ i, i ∈ vSlots (C c) → i ∉ F ++ wSlots W
  wq : S.ws = wPairs W
  wH : ∀ x, x ∈ W → Held Z.n S.tbl x.i x.g
  wE : ∀ x, x ∈ W → 0 ≤ x.e ∧ x.e ≤ 1000000
  late : ∀ c, c < S.heads.length → ∀ x, x ∈ C c → x.s - 1 ≤ S.cnow
  bot : ∀ c, c < S.heads.length → ∃ x, x ∈ C c ∧ x.s - 1 ≤ leastTo S.cnow S.ls S.ls.length

theorem le_least (x now : Int) (ls : List Int) : ∀ k, x ≤ leastTo now ls k ↔ x ≤ now ∧ ∀ j, j < k → ls.getD j 0 ≠ 0 → x ≤ ls.getD j 0 - 1
  | 0 => ⟨fun h => ⟨h, fun j hj => absurd hj (Nat.not_lt_zero j)⟩, fun h => h.1⟩
  | k + 1 => by
    rw [leastTo]
    have ih := le_least x now ls k
    by_cases e : ls.getD k 0 = 0
    · rw [if_pos e, ih]
      refine ⟨fun h => ⟨h.1, fun j hj hn => ?_⟩, fun h => ⟨h.1, fun j hj hn => h.2 j (by omega) hn⟩⟩
      by_cases ej : j = k
      · subst ej; exact absurd e hn
      · exact h.2 j (by omega) hn
    · rw [if_neg e]
      constructor
      · intro h
        have h1 : x ≤ leastTo now ls k := by omega
        have h2 := ih.1 h1
        refine ⟨h2.1, fun j hj hn => ?_⟩
        by_cases ej : j = k
        · subst ej; omega
        · exact h2.2 j (by omega) hn
      · intro h
        have h1 := ih.2 ⟨h.1, fun j hj hn => h.2 j (by omega) hn⟩
        have h2 := h.2 k (by omega) e
        omega

theorem nodup_le : ∀ (n : Nat) (l : List Nat), l.Nodup → (∀ x, x ∈ l → 1 ≤ x ∧ x ≤ n) → l.length ≤ n
  | 0, l, _, h => by
    cases l with
    | nil => exact Nat.le_refl _
    | cons a r => have := h a List.mem_cons_self; omega
  | n + 1, l, hd, h => by
    by_cases e : (n + 1) ∈ l
    · have h1 := nodup_le n (l.erase (n + 1)) (hd.erase _) fun x hx => by
        have hm := (List.Nodup.mem_erase_iff hd).1 hx
        have := h x hm.2
        have := hm.1
        omega
      rw [List.length_erase_of_mem e] at h1
      omega
    · have h1 := nodup_le n l hd fun x hx => by
        have := h x hx
        have : x ≠ n + 1 := fun e' => e (by rw [← e']; exact hx)
        omega
      omega

section
variable {Z : Fix} {S : St} {C : Nat → List Ver} {F : List Nat} {W : List Wait} {G : Int} {w w' : World}

theorem ChainAt.all {n made : Nat} {tbl : Nat → Slot} {st : Nat → Int} : ∀ {L : List Ver} {h : Int}, ChainAt n made tbl st h L → ∀ x, x ∈ L → VerAt n made tbl st x
  | [], _, _, x, hx => by cases hx
  | y :: r, _, ⟨_, h2, h3⟩, x, hx => by
    rcases List.mem_cons.1 hx with rfl | hx
    · exact h2
    · exact ChainAt.all h3 x hx

/-- The lists grow; the chain's slots stay. -/
theorem ChainAt.grow {n made made' : Nat} {tbl tbl' : Nat → Slot} {st st' : Nat → Int} (hm : made ≤ made') (hs : ∀ j, j < made → st' j = st j) : ∀ {L : List Ver} {h : Int}, ChainAt n made tbl st h L → (∀ x, x ∈ L → tbl' x.i = tbl x.i) → ChainAt n made' tbl' st' h L
  | [], _, h, _ => h
  | x :: r, _, ⟨h1, h2, h3⟩, he => by
    have ex := he x List.mem_cons_self
    refine ⟨h1, ⟨(h2.congr ex).held, (h2.congr ex).val, (h2.congr ex).num, ?_, h2.sB⟩, ?_⟩
    · rcases h2.state with e | ⟨j, hj, e1, e2⟩
      · exact .inl e
      · exact .inr ⟨j, by omega, e1, by rw [hs j hj]; exact e2⟩
    · rw [ex]
      exact ChainAt.grow hm hs h3 fun y hy => he y (List.mem_cons_of_mem _ hy)

theorem mem_vSlots {L : List Ver} {i : Nat} : i ∈ vSlots L ↔ ∃ x, x ∈ L ∧ x.i = i := by unfold vSlots; exact List.mem_map

theorem Inv.next (h : Inv Z S C F W G w) (hn : Next Z S w S w') : Inv Z S C F W G w' :=
  ⟨hn.mem, h.deep, h.at0, h.ok, h.chain, h.ne, h.nFW, h.nC, h.dC, h.dF, h.wq, h.wH, h.wE, h.late, h.bot⟩

theorem Inv.below (h : Inv Z S C F W G w) (hb : Below w.heap.size w w') : Inv Z S C F W G w' := h.next (h.mem.next hb)

/-- The newest version of each cell. -/
def topOf (C : Nat → List Ver) (c : Nat) : Ver := (C c).head!

theorem Inv.top (h : Inv Z S C F W G w) (c : Nat) (hc : c < S.heads.length) : ∃ r, C c = topOf C c :: r ∧ CellChain Z.n S.made S.tbl S.st S.heads c (topOf C c :: r) := by
  have h1 := h.chain c hc
  have h2 := h.ne c hc
  unfold topOf
  cases hC : C c with
  | nil => exact absurd hC h2
  | cons x r => rw [hC] at h1; exact ⟨r, rfl, h1⟩

/-- No cell has more versions than there are slots. -/
theorem Inv.lens (h : Inv Z S C F W G w) (c : Nat) (hc : c < S.heads.length) : (C c).length + W.length ≤ Z.n := by
  have hn : (vSlots (C c) ++ wSlots W).Nodup := by
    rw [List.nodup_append]
    refine ⟨h.nC c hc, (List.nodup_append.1 h.nFW).2.1, fun a ha b hb e => ?_⟩
    subst e
    exact h.dF c hc a ha (List.mem_append_right _ hb)
  have hl := nodup_le Z.n _ hn fun x hx => by
    rcases List.mem_append.1 hx with hx | hx
    · obtain ⟨y, hy, rfl⟩ := mem_vSlots.1 hx
      have := (ChainAt.all (h.chain c hc) y hy).held
      exact ⟨this.lo, this.hi⟩
    · obtain ⟨y, hy, rfl⟩ := List.mem_map.1 hx
      have := h.wH y hy
      exact ⟨this.lo, this.hi⟩
  simpa [vSlots, wSlots] using hl

/-! ### Snapshots taken and given back -/
theorem Inv.take (h : Inv Z S C F W G w) (i : Nat) (hi : i < S.ls.length) (hn : Next Z S w { S with cnow := S.cnow + 1, ls := S.ls.set i (S.cnow + 1) } w') (hz : S.ls.getD i 0 = 0) :
    Inv Z { S with cnow := S.cnow + 1, ls := S.ls.set i (S.cnow + 1) } C F W G w' := by
  refine ⟨hn.mem, h.deep, h.at0, h.ok, h.chain, h.ne, h.nFW, h.nC, h.dC, h.dF, h.wq, h.wH, h.wE, fun c hc x hx => ?_, fun c hc => ?_⟩
  · have := h.late c hc x hx
    show x.s - 1 ≤ S.cnow + 1
    omega
  · obtain ⟨x, hx, hl⟩ := h.bot c hc
    refine ⟨x, hx, ?_⟩
    rw [le_least] at hl ⊢
    refine ⟨by show x.s - 1 ≤ S.cnow + 1; omega, fun j hj hne => ?_⟩
    show x.s - 1 ≤ (S.ls.set i (S.cnow + 1)).getD j 0 - 1
    have hne' : (S.ls.set i (S.cnow + 1)).getD j 0 ≠ 0 := hne
    have hj' : j < (S.ls.set i (S.cnow + 1)).length := hj
    rw [List.length_set] at hj'
    rw [getD_set_eq _ _ _ _ hi] at hne' ⊢
    by_cases e : i = j
    · rw [if_pos e]; omega
    · rw [if_neg e] at hne' ⊢
      exact hl.2 j hj' hne'

theorem Inv.release (h : Inv Z S C F W G w) (i : Nat) (hi : i < S.ls.length) (hn : Next Z S w { S with ls := S.ls.set i 0 } w') : Inv Z { S with ls := S.ls.set i 0 } C F W G w' := by
  refine ⟨hn.mem, h.deep, h.at0, h.ok, h.chain, h.ne, h.nFW, h.nC, h.dC, h.dF, h.wq, h.wH, h.wE, h.late, fun c hc => ?_⟩
  obtain ⟨x, hx, hl⟩ := h.bot c hc
  refine ⟨x, hx, ?_⟩
  rw [le_least] at hl ⊢
  refine ⟨hl.1, fun j hj hne => ?_⟩
  have hne' : (S.ls.set i 0).getD j 0 ≠ 0 := hne
  have hj' : j < (S.ls.set i 0).length := hj
  show x.s - 1 ≤ (S.ls.set i 0).getD j 0 - 1
  rw [List.length_set] at hj'
  rw [getD_set_eq _ _ _ _ hi] at hne' ⊢
  by_cases e : i = j
  · rw [if_pos e] at hne'; exact absurd rfl hne'
  · rw [if_neg e] at hne' ⊢
    exact hl.2 j hj' hne'

theorem Inv.advance (h : Inv Z S C F W G w) (hn : Next Z S w { S with now := S.now + 1, at0 := 0, deep := 0 } w') : Inv Z { S with now := S.now + 1, at0 := 0, deep := 0 } C F W G w' :=
  ⟨hn.mem, rfl, rfl, h.ok, h.chain, h.ne, h.nFW, h.nC, h.dC, h.dF, h.wq, h.wH, h.wE, h.late, h.bot⟩
end
end Go.Proofs.YtadelkancmbanaaGreat

/-
  bond.Cells: what a write leaves in order.
-/
namespace Go.Proofs.YtadelkancmbanaaGreat
open Go.RowKit

/-- New versions on top. -/
def consK (C : Nat → List Ver) (key : Nat → Nat) (nv : Nat → Ver) : Nat → Nat → List Ver
  | 0 => C
  | k + 1 => upd (consK C key nv k) (key k) (nv k :: consK C key nv k (key k))
theorem consK_far (C : Nat → List Ver) (key : Nat → Nat) (nv : Nat → Ver) (c : Nat) : ∀ k, (∀ j, j < k → key j ≠ c) → consK C key nv k c = C c
  | 0, _ => rfl
  | k + 1, h => by
    rw [consK, upd_other _ _ _ _ (fun e => h k (by omega) e.symm)]
    exact consK_far C key nv c k fun j hj => h j (by omega)
theorem consK_hit (C : Nat → List Ver) (key : Nat → Nat) (nv : Nat → Ver) (n : Nat) (inj : ∀ j k, j < k → k < n → key j ≠ key k) (j : Nat) : ∀ k, j < k → k ≤ n → consK C key nv k (key j) = nv j :: C (key j)
  | 0, h, _ => absurd h (Nat.not_lt_zero j)
  | k + 1, h, hk => by
    rw [consK]
    by_cases e : j = k
    · subst e
      rw [upd_same, consK_far _ _ _ _ _ fun i hi => inj i j hi (by omega)]
    · rw [upd_other _ _ _ _ (inj j k (by omega) (by omega))]
      exact consK_hit C key nv n inj j k (by omega) (by omega)

theorem laidK_far (tbl : Nat → Slot) (b : Int) (val old : Nat → Int) (F : List Nat) (i : Nat) : ∀ k, (∀ j, j < k → F.getD j 0 ≠ i) → laidK tbl b val old F k i = tbl i
  | 0, _ => rfl
  | k + 1, h => by
    rw [laidK, upd_other _ _ _ _ (fun e => h k (by omega) e.symm)]
    exact laidK_far tbl b val old F i k fun j hj => h j (by omega)
theorem fdist {F : List Nat} (hd : F.Nodup) {j k : Nat} (h1 : j < k) (h2 : k < F.length) : F.getD j 0 ≠ F.getD k 0 := by
  have h := List.pairwise_iff_getElem.1 hd j k (by omega) h2 h1
  rw [List.getD_eq_getElem?_getD, List.getD_eq_getElem?_getD, List.getElem?_eq_getElem h2, List.getElem?_eq_getElem (show j < F.length by omega)]
  exact h
theorem fmem {F : List Nat} {j : Nat} (h : j < F.length) : F.getD j 0 ∈ F := by
  rw [List.getD_eq_getElem?_getD, List.getElem?_eq_getElem h]
  exact List.getElem_mem h
theorem laidK_hit (tbl : Nat → Slot) (b : Int) (val old : Nat → Int) (F : List Nat) (hd : F.Nodup) (j : Nat) : ∀ k, j < k → k ≤ F.length → laidK tbl b val old F k (F.getD j 0) = ⟨(tbl (F.getD j 0)).gen + 1, 0, old j, val j, b, 0, 0⟩
  | 0, h, _ => absurd h (Nat.not_lt_zero j)
  | k + 1, h, hk => by
    rw [laidK]
    by_cases e : j = k
    · subst e
      rw [upd_same, laidK_far _ _ _ _ _ _ _ fun i hi => fdist hd hi (by omega)]
    · rw [upd_other _ _ _ _ (fdist hd (by omega) (by omega))]
      exact laidK_hit tbl b val old F hd j k (by omega) (by omega)
theorem hsK_eq (tbl : Nat → Slot) (b : Int) (val old : Nat → Int) (F : List Nat) (hd : F.Nodup) (j : Nat) (h : j < F.length) : hsK tbl b val old F j = hnd (F.getD j 0) ((tbl (F.getD j 0)).gen + 1) := by
  unfold hsK
  rw [laidK_far _ _ _ _ _ _ _ fun i hi => fdist hd hi h]
theorem headsK_hit (heads : List Int) (key : Nat → Nat) (hs : Nat → Int) (n : Nat) (inj : ∀ j k, j < k → k < n → key j ≠ key k) (hk : ∀ j, j < n → key j < heads.length) (j : Nat) : ∀ k, j < k → k ≤ n → (headsK heads key hs k).getD (key j) 0 = hs j
  | 0, h, _ => absurd h (Nat.not_lt_zero j)
  | k + 1, h, hkn => by
    rw [headsK, getD_set_eq _ _ _ _ (by rw [headsK_length]; exact hk k (by omega))]
    by_cases e : j = k
    · subst e; rw [if_pos rfl]
    · rw [if_neg (fun e' => inj j k (by omega) (by omega) e'.symm)]
      exact headsK_hit heads key hs n inj hk j k (by omega) (by omega)

/-- The version that a write has laid j-th. -/
def newV (S : St) (val : Nat → Int) (F : List Nat) (j : Nat) : Ver := ⟨F.getD j 0, (S.tbl (F.getD j 0)).gen + 1, val j, ((8 * S.made + 1 : Nat) : Int), S.cnow + 1⟩

section
variable {Z : Fix} {S : St} {C : Nat → List Ver} {F : List Nat} {W : List Wait} {G : Int} {w w' : World}

theorem Inv.fd (h : Inv Z S C F W G w) : F.Nodup := (List.nodup_append.1 h.nFW).1

theorem Inv.write (h : Inv Z S C F W G w) (n : Nat) (key : Nat → Nat) (val old : Nat → Int) (db : Nat → Nat) (next : Nat → Nat) (head : Int) (tag : Nat → Nat) (hF : n ≤ F.length) (hkl : ∀ j, j < n → key j < S.heads.length) (inj : ∀ j k, j < k → k < n → key j ≠ key k) (hold : ∀ j, j < n → S.heads.getD (key j) 0 = old j)
    (hn : Next Z S w (WrSt S n key val old F db next head tag) w') (hok : PoolOk Z.n (laidK S.tbl ((8 * S.made + 1 : Nat) : Int) val old F n) next head (F.drop n) (G + n)) :
    Inv Z (WrSt S n key val old F db next head tag) (consK C key (newV S val F) n) (F.drop n) W (G + n) w' := by
  have hd := h.fd
  have hck := h.mem.ck.now0
  have hlen : (WrSt S n key val old F db next head tag).heads.length = S.heads.length := headsK_length _ _ _ _
  -- a cell that is written, or not
  have cases : ∀ c, (∃ j, j < n ∧ key j = c) ∨ (∀ j, j < n → key j ≠ c) := fun c => by
    rcases Classical.em (∃ j, j < n ∧ key j = c) with e | e
    · exact .inl e
    · exact .inr fun j hj he => e ⟨j, hj, he⟩
  have hit : ∀ j, j < n → consK C key (newV S val F) n (key j) = newV S val F j :: C (key j) := fun j hj => consK_hit _ _ _ n inj j n hj (Nat.le_refl _)
  have far : ∀ c, (∀ j, j < n → key j ≠ c) → consK C key (newV S val F) n c = C c := fun c hc => consK_far _ _ _ _ _ hc
  -- slots of old chains and of what waits are as they were
  have oldC : ∀ c, c < S.heads.length → ∀ i, i ∈ vSlots (C c) → laidK S.tbl ((8 * S.made + 1 : Nat) : Int) val old F n i = S.tbl i := fun c hc i hi =>
    laidK_far _ _ _ _ _ _ _ fun j hj e => h.dF c hc i hi (List.mem_append_left _ (by rw [← e]; exact fmem (by omega)))
  have oldW : ∀ i, i ∈ wSlots W → laidK S.tbl ((8 * S.made + 1 : Nat) : Int) val old F n i = S.tbl i := fun i hi =>
    laidK_far _ _ _ _ _ _ _ fun j hj e => (List.nodup_append.1 h.nFW).2.2 (F.getD j 0) (fmem (by omega)) i hi e
  have hgrow : ∀ c, c < S.heads.length → ChainAt Z.n (S.made + 1) (laidK S.tbl ((8 * S.made + 1 : Nat) : Int) val old F n) (upd S.st S.made (S.cnow + 1)) (S.heads.getD c 0) (C c) := fun c hc =>
    ChainAt.grow (by omega) (fun j hj => upd_other _ _ _ _ (by omega)) (h.chain c hc) fun x hx => oldC c hc x.i (mem_vSlots.2 ⟨x, hx, rfl⟩)
  -- the new versions lie
  have hnew : ∀ j, j < n → VerAt Z.n (S.made + 1) (laidK S.tbl ((8 * S.made + 1 : Nat) : Int) val old F n) (upd S.st S.made (S.cnow + 1)) (newV S val F j) := fun j hj => by
    have hl := laidK_hit S.tbl ((8 * S.made + 1 : Nat) : Int) val old F hd j n hj hF
    have hm := FreeL.mem h.ok.fl (F.getD j 0) (fmem (by omega))
    have he := h.ok.even (F.getD j 0) (fmem (by omega))
    have hg := h.ok.gen (F.getD j 0) hm.2
    have ht := h.ok.top
    refine ⟨⟨hm.1, hm.2, ?_, ?_, ?_, ?_⟩, ?_, ?_, .inr ⟨S.made, Nat.lt_succ_self _, rfl, (upd_same _ _ _).symm⟩, ?_⟩
    · show (laidK _ _ _ _ _ n (F.getD j 0)).gen = _; rw [hl]; rfl
    · show ((S.tbl (F.getD j 0)).gen + 1) % 2 = 1; omega
    · show 0 ≤ (S.tbl (F.getD j 0)).gen + 1; omega
    · show (S.tbl (F.getD j 0)).gen + 1 ≤ 1000001; omega
    · show (laidK _ _ _ _ _ n (F.getD j 0)).a = _; rw [hl]; rfl
    · show (laidK _ _ _ _ _ n (F.getD j 0)).b = _; rw [hl]; rfl
    · show 2 ≤ S.cnow + 1 ∧ S.cnow + 1 ≤ 1000001; omega
  have slot : ∀ j, (newV S val F j).i = F.getD j 0 := fun j => rfl
  have mem : ∀ c i, i ∈ vSlots (consK C key (newV S val F) n c) → i ∈ vSlots (C c) ∨ ∃ j, j < n ∧ key j = c ∧ i = F.getD j 0 := fun c i hi => by
    rcases cases c with ⟨j, hj, rfl⟩ | hc
    · rw [hit j hj] at hi
      rcases List.mem_cons.1 hi with e | e
      · exact .inr ⟨j, hj, rfl, e⟩
      · exact .inl e
    · rw [far c hc] at hi; exact .inl hi
  have memx : ∀ c x, x ∈ C c → x ∈ consK C key (newV S val F) n c := fun c x hx => by
    rcases cases c with ⟨j, hj, rfl⟩ | hc
    · rw [hit j hj]; exact List.mem_cons_of_mem _ hx
    · rw [far c hc]; exact hx
  have notF : ∀ c, c < S.heads.length → ∀ j, j < n → F.getD j 0 ∉ vSlots (C c) := fun c hc j hj hm => h.dF c hc _ hm (List.mem_append_left _ (fmem (by omega)))
  refine ⟨hn.mem, h.deep, h.at0, hok, fun c hc => ?_, fun c hc => ?_, ?_, fun c hc => ?_, fun c c' hc hc' hne i hi hi' => ?_, fun c hc i hi hi' => ?_, h.wq, fun x hx => ?_, h.wE, fun c hc x hx => ?_, fun c hc => ?_⟩
  · rw [hlen] at hc
    show ChainAt Z.n (S.made + 1) (laidK S.tbl ((8 * S.made + 1 : Nat) : Int) val old F n) (upd S.st S.made (S.cnow + 1)) ((headsK S.heads key (hsK S.tbl ((8 * S.made + 1 : Nat) : Int) val old F) n).getD c 0) _
    rcases cases c with ⟨j, hj, rfl⟩ | hcf
    · rw [hit j hj, headsK_hit _ _ _ n inj hkl j n hj (Nat.le_refl _), hsK_eq _ _ _ _ _ hd j (by omega)]
      refine ⟨rfl, hnew j hj, ?_⟩
      rw [slot, laidK_hit _ _ _ _ _ hd j n hj hF]
      have hg := hgrow (key j) (hkl j hj)
      rw [hold j hj] at hg
      exact hg
    · rw [far c hcf, headsK_far _ _ _ _ _ hcf]
      exact hgrow c hc
  · rw [hlen] at hc
    rcases cases c with ⟨j, hj, rfl⟩ | hcf
    · rw [hit j hj]; exact List.cons_ne_nil _ _
    · rw [far c hcf]; exact h.ne c hc
  · exact h.nFW.sublist ((List.drop_sublist n F).append (List.Sublist.refl _))
  · rw [hlen] at hc
    rcases cases c with ⟨j, hj, rfl⟩ | hcf
    · rw [hit j hj]
      exact List.nodup_cons.2 ⟨notF _ hc j hj, h.nC _ hc⟩
    · rw [far c hcf]; exact h.nC c hc
  · rw [hlen] at hc hc'
    rcases mem c i hi with a | ⟨j, hj, hjc, ej⟩
    · rcases mem c' i hi' with b | ⟨k, hk, hkc, ek⟩
      · exact h.dC c c' hc hc' hne i a b
      · exact notF c hc k hk (by rw [← ek]; exact a)
    · rcases mem c' i hi' with b | ⟨k, hk, hkc, ek⟩
      · exact notF c' hc' j hj (by rw [← ej]; exact b)
      · rcases Nat.lt_trichotomy j k with e | e | e
        · exact fdist hd e (by omega) (by rw [← ej, ← ek])
        · subst e; exact hne (by rw [← hjc, ← hkc])
        · exact fdist hd e (by omega) (by rw [← ej, ← ek])
  · rw [hlen] at hc
    have hi2 : i ∈ F ++ wSlots W := by
      rcases List.mem_append.1 hi' with e | e
      · exact List.mem_append_left _ (List.mem_of_mem_drop e)
      · exact List.mem_append_right _ e
    rcases mem c i hi with a | ⟨j, hj, hjc, ej⟩
    · exact h.dF c hc i a hi2
    · rcases List.mem_append.1 hi' with e | e
      · obtain ⟨k, hk, ek⟩ := List.mem_iff_getElem.1 e
        rw [List.getElem_drop] at ek
        rw [List.length_drop] at hk
        refine fdist hd (show j < n + k by omega) (by omega) ?_
        rw [← ej, ← ek, List.getD_eq_getElem?_getD, List.getElem?_eq_getElem (show n + k < F.length by omega)]
        rfl
      · exact (List.nodup_append.1 h.nFW).2.2 (F.getD j 0) (fmem (by omega)) i e ej.symm
  · have e := oldW x.i (List.mem_map.2 ⟨x, hx, rfl⟩)
    have hh := h.wH x hx
    exact ⟨hh.lo, hh.hi, by show (laidK _ _ _ _ _ n x.i).gen = _; rw [e]; exact hh.gen, hh.odd, hh.g0, hh.g1⟩
  · rw [hlen] at hc
    show x.s - 1 ≤ S.cnow
    rcases cases c with ⟨j, hj, rfl⟩ | hcf
    · rw [hit j hj] at hx
      rcases List.mem_cons.1 hx with rfl | hx
      · show S.cnow + 1 - 1 ≤ S.cnow; omega
      · exact h.late _ hc x hx
    · rw [far c hcf] at hx; exact h.late c hc x hx
  · rw [hlen] at hc
    obtain ⟨x, hx, hl⟩ := h.bot c hc
    exact ⟨x, memx c x hx, hl⟩
end
end Go.Proofs.YtadelkancmbanaaGreat

/-
  bond.Cells: what a Trim and a Collect leave in order.
-/
namespace Go.Proofs.YtadelkancmbanaaGreat
open Go.RowKit

section
variable {Z : Fix} {S : St} {C : Nat → List Ver} {F : List Nat} {W : List Wait} {G : Int} {w w' : World}

theorem unls_hit : ∀ (l : List Nat) (tbl : Nat → Slot) (j : Nat), (unls tbl l j).gen = (tbl j).gen ∧ (unls tbl l j).a = (tbl j).a ∧ (unls tbl l j).b = (tbl j).b
  | [], _, _ => ⟨rfl, rfl, rfl⟩
  | i :: l, tbl, j => by
    have ih := unls_hit l (unl tbl i) j
    show (unls (unl tbl i) l j).gen = _ ∧ (unls (unl tbl i) l j).a = _ ∧ (unls (unl tbl i) l j).b = _
    rw [ih.1, ih.2.1, ih.2.2]
    unfold unl upd
    by_cases e : j = i
    · subst e; rw [if_pos rfl]; exact ⟨rfl, rfl, rfl⟩
    · rw [if_neg e]; exact ⟨rfl, rfl, rfl⟩
theorem unls_link0 (l : List Nat) (tbl : Nat → Slot) (y : Nat) (h : y ∉ l) : (unls tbl (y :: l) y).link = 0 := by
  show (unls (unl tbl y) l y).link = 0
  rw [unls_other l _ _ h]
  unfold unl
  rw [upd_same]

theorem VerAt.unls {n made : Nat} {tbl : Nat → Slot} {st : Nat → Int} {x : Ver} (h : VerAt n made tbl st x) (l : List Nat) : VerAt n made (unls tbl l) st x := by
  obtain ⟨e1, e2, e3⟩ := unls_hit l tbl x.i
  exact ⟨⟨h.held.lo, h.held.hi, by rw [e1]; exact h.held.gen, h.held.odd, h.held.g0, h.held.g1⟩, by rw [e2]; exact h.val, by rw [e3]; exact h.num, h.state, h.sB⟩

theorem ChainAt.cut {n made : Nat} {tbl : Nat → Slot} {st : Nat → Int} (y : Ver) (q : List Ver) : ∀ {P : List Ver} {h : Int}, ChainAt n made tbl st h (P ++ y :: q) → (vSlots (P ++ y :: q)).Nodup → ChainAt n made (unls tbl (vSlots (y :: q))) st h (P ++ [y])
  | [], h, ⟨h1, h2, h3⟩, hd => by
    refine ⟨h1, h2.unls _, ?_⟩
    have hd' : y.i ∉ vSlots q := by
      have : (y.i :: vSlots q).Nodup := hd
      exact (List.nodup_cons.1 this).1
    exact unls_link0 (vSlots q) tbl y.i hd'
  | x :: P, h, ⟨h1, h2, h3⟩, hd => by
    have hd2 : (x.i :: vSlots (P ++ y :: q)).Nodup := hd
    obtain ⟨n1, n2⟩ := List.nodup_cons.1 hd2
    refine ⟨h1, h2.unls _, ?_⟩
    have e : unls tbl (vSlots (y :: q)) x.i = tbl x.i := unls_other _ _ _ fun hm => n1 (by
      unfold vSlots at hm ⊢
      rw [List.map_append]
      exact List.mem_append_right _ hm)
    rw [e]
    exact ChainAt.cut y q h3 n2

theorem ChainAt.part {n made : Nat} {tbl : Nat → Slot} {st : Nat → Int} (y : Ver) (q : List Ver) : ∀ {P : List Ver} {h : Int}, ChainAt n made tbl st h (P ++ y :: q) → VerAt n made tbl st y ∧ ChainAt n made tbl st (tbl y.i).link q
  | [], _, ⟨_, h2, h3⟩ => ⟨h2, h3⟩
  | _ :: _, _, ⟨_, _, h3⟩ => ChainAt.part y q h3

/-- The versions behind y wait. -/
def waitsOf (now : Int) (q : List Ver) : List Wait := q.map fun x => ⟨x.i, x.g, now⟩
theorem waitsOf_pairs (now : Int) (q : List Ver) : wPairs (waitsOf now q) = vWaits now q := by
  unfold wPairs waitsOf vWaits
  rw [List.map_map]
  rfl
theorem waitsOf_slots (now : Int) (q : List Ver) : wSlots (waitsOf now q) = vSlots q := by
  unfold wSlots waitsOf vSlots
  rw [List.map_map]
  rfl

theorem Inv.trim (h : Inv Z S C F W G w) (c : Nat) (hc : c < S.heads.length) (P : List Ver) (y : Ver) (q : List Ver) (hsp : C c = P ++ y :: q) (hy : y.s - 1 ≤ leastTo S.cnow S.ls S.ls.length) (v : Value) (tag : Nat → Nat)
    (hn : Next Z S w { S with tbl := unls S.tbl (vSlots (y :: q)), v := v, ws := S.ws ++ vWaits S.now q, tag := tag } w') :
    Inv Z { S with tbl := unls S.tbl (vSlots (y :: q)), v := v, ws := S.ws ++ vWaits S.now q, tag := tag } (upd C c (P ++ [y])) F (W ++ waitsOf S.now q) G w' := by
  have hdup := h.nC c hc
  rw [hsp] at hdup
  have hch := h.chain c hc
  have hnow := h.mem.ep.now0
  have hyq : ∀ i, i ∈ vSlots (y :: q) → i ∈ vSlots (C c) := fun i hi => by
    rw [hsp]
    unfold vSlots at hi ⊢
    rw [List.map_append]
    exact List.mem_append_right _ hi
  have hPy : ∀ i, i ∈ vSlots (P ++ [y]) → i ∈ vSlots (C c) := fun i hi => by
    rw [hsp]
    obtain ⟨x, hx, rfl⟩ := mem_vSlots.1 hi
    refine mem_vSlots.2 ⟨x, ?_, rfl⟩
    rcases List.mem_append.1 hx with e | e
    · exact List.mem_append_left _ e
    · exact List.mem_append_right _ (by rw [List.mem_singleton.1 e]; exact List.mem_cons_self)
  have hPxy : ∀ x, x ∈ P ++ [y] → x ∈ C c := fun x hx => by
    rw [hsp]
    rcases List.mem_append.1 hx with e | e
    · exact List.mem_append_left _ e
    · exact List.mem_append_right _ (by rw [List.mem_singleton.1 e]; exact List.mem_cons_self)
  have hmem : ∀ c' i, i ∈ vSlots (upd C c (P ++ [y]) c') → i ∈ vSlots (C c') := fun c' i hi => by
    by_cases e : c' = c
    · subst e; rw [upd_same] at hi; exact hPy i hi
    · rw [upd_other _ _ _ _ e] at hi; exact hi
  have hmemx : ∀ c' x, x ∈ upd C c (P ++ [y]) c' → x ∈ C c' := fun c' x hx => by
    by_cases e : c' = c
    · subst e; rw [upd_same] at hx; exact hPxy x hx
    · rw [upd_other _ _ _ _ e] at hx; exact hx
  have hws : wSlots (W ++ waitsOf S.now q) = wSlots W ++ vSlots q := by
    unfold wSlots
    rw [List.map_append]
    exact congrArg _ (waitsOf_slots S.now q)
  have hqC : ∀ i, i ∈ vSlots q → i ∈ vSlots (C c) := fun i hi => hyq i (List.mem_cons_of_mem _ hi)
  have hqPy : ∀ i, i ∈ vSlots q → i ∉ vSlots (P ++ [y]) := fun i hi hp => by
    have e : vSlots (P ++ y :: q) = vSlots (P ++ [y]) ++ vSlots q := by unfold vSlots; rw [← List.map_append]; simp
    rw [e] at hdup
    exact (List.nodup_append.1 hdup).2.2 i hp i hi rfl
  refine ⟨hn.mem, h.deep, h.at0, ⟨h.ok.fl, h.ok.nd, fun i hi => ?_, fun i hi => ?_, h.ok.top⟩, fun c' hc' => ?_, fun c' hc' => ?_, ?_, fun c' hc' => ?_, fun c1 c2 h1 h2 hne i hi hi' => h.dC c1 c2 h1 h2 hne i (hmem c1 i hi) (hmem c2 i hi'), fun c' hc' i hi hi' => ?_, ?_, fun x hx => ?_, fun x hx => ?_, fun c' hc' x hx => h.late c' hc' x (hmemx c' x hx), fun c' hc' => ?_⟩
  · show (unls S.tbl _ i).gen % 2 = 0
    rw [(unls_hit _ _ _).1]; exact h.ok.even i hi
  · show 0 ≤ (unls S.tbl _ i).gen ∧ (unls S.tbl _ i).gen ≤ G
    rw [(unls_hit _ _ _).1]; exact h.ok.gen i hi
  · show ChainAt Z.n S.made (unls S.tbl (vSlots (y :: q))) S.st (S.heads.getD c' 0) _
    by_cases e : c' = c
    · subst e
      rw [upd_same]
      have hch' : ChainAt Z.n S.made S.tbl S.st (S.heads.getD c' 0) (P ++ y :: q) := by rw [← hsp]; exact hch
      exact ChainAt.cut y q hch' hdup
    · rw [upd_other _ _ _ _ e]
      exact ChainAt.congr (h.chain c' hc') fun x hx => unls_other _ _ _ fun hm => h.dC c' c hc' hc e x.i (mem_vSlots.2 ⟨x, hx, rfl⟩) (hyq _ hm)
  · by_cases e : c' = c
    · subst e; rw [upd_same]; simp
    · rw [upd_other _ _ _ _ e]; exact h.ne c' hc'
  · rw [hws, ← List.append_assoc]
    rw [List.nodup_append]
    refine ⟨h.nFW, ?_, fun a ha b hb e => ?_⟩
    · have e : vSlots (P ++ y :: q) = vSlots (P ++ [y]) ++ vSlots q := by unfold vSlots; rw [← List.map_append]; simp
      rw [e] at hdup
      exact (List.nodup_append.1 hdup).2.1
    · subst e
      exact h.dF c hc a (hqC a hb) ha
  · by_cases e : c' = c
    · subst e
      rw [upd_same]
      have e : vSlots (P ++ y :: q) = vSlots (P ++ [y]) ++ vSlots q := by unfold vSlots; rw [← List.map_append]; simp
      rw [e] at hdup
      exact (List.nodup_append.1 hdup).1
    · rw [upd_other _ _ _ _ e]; exact h.nC c' hc'
  · rw [hws, ← List.append_assoc] at hi'
    rcases List.mem_append.1 hi' with a | a
    · exact h.dF c' hc' i (hmem c' i hi) a
    · by_cases e : c' = c
      · subst e
        rw [upd_same] at hi
        exact hqPy i a hi
      · exact h.dC c' c hc' hc e i (hmem c' i hi) (hqC i a)
  · show S.ws ++ vWaits S.now q = wPairs (W ++ waitsOf S.now q)
    rw [h.wq, ← waitsOf_pairs]
    unfold wPairs
    rw [List.map_append]
  · rcases List.mem_append.1 hx with a | a
    · have hh := h.wH x a
      exact ⟨hh.lo, hh.hi, by show (unls S.tbl _ x.i).gen = _; rw [(unls_hit _ _ _).1]; exact hh.gen, hh.odd, hh.g0, hh.g1⟩
    · obtain ⟨z, hz, rfl⟩ := List.mem_map.1 a
      have hh := (ChainAt.all hch z (by rw [hsp]; exact List.mem_append_right _ (List.mem_cons_of_mem _ hz))).held
      exact ⟨hh.lo, hh.hi, by show (unls S.tbl _ z.i).gen = _; rw [(unls_hit _ _ _).1]; exact hh.gen, hh.odd, hh.g0, hh.g1⟩
  · rcases List.mem_append.1 hx with a | a
    · exact h.wE x a
    · obtain ⟨z, hz, rfl⟩ := List.mem_map.1 a
      show 0 ≤ S.now ∧ S.now ≤ 1000000
      omega
  · by_cases e : c' = c
    · subst e
      rw [upd_same]
      exact ⟨y, List.mem_append_right _ List.mem_cons_self, hy⟩
    · rw [upd_other _ _ _ _ e]; exact h.bot c' hc'

/-- Behind a Collect. -/
theorem Mem.nextColl (h : Mem Z S w) {tbl : Nat → Slot} {next : Nat → Nat} {head : Int} {v : Value} {ws : List (Int × Int)} (hp : PoolMem Z.K Z.n tbl next head w') (he : EpochMem Z.X.e Z.K.p S.now S.at0 S.deep v w') (hr : WRow Z.B v ws w') (hv : v.ownBlock = S.v.ownBlock)
    (hk : Keep (fun q => Z.K.has q ∨ q = Z.X.e ∨ S.v.ownBlock = some q) w.heap.size w w') : Next Z S w { S with tbl := tbl, next := next, head := head, v := v, ws := ws } w' := by
  have t := h.tags
  have hb : ∀ k, S.tag k ≠ 0 → S.tag k ≠ 1 → S.tag k ≠ 3 → S.tag k ≠ 5 → w'.heap[k]? = w.heap[k]? := fun k h0 h1 h2 h3 => hk.block k (h.taglt h0) fun e => by
    rcases e with e | e | e
    · exact h1 (t.tK k e)
    · exact h2 (by rw [e]; exact t.tE)
    · exact h3 (t.tV k e)
  refine ⟨⟨h.bond.of_blocks fun k hk => hb k ?_ ?_ ?_ ?_, hp, he, hr, h.ck.of_block2 (hb _ ?_ ?_ ?_ ?_) (hb _ ?_ ?_ ?_ ?_), h.xp, ⟨t.tK, t.tX, t.tD, t.tE, t.tC, fun q hq => t.tV q (by rw [← hv]; exact hq), fun k hk' => t.new k (Nat.le_trans hk.size hk')⟩, Nat.le_trans h.bB hk.size⟩, hk.weaken fun k _ e => ?_, fun _ _ => rfl⟩
  · rcases BondHas.tag t hk with e | e <;> omega
  · rcases BondHas.tag t hk with e | e <;> omega
  · rcases BondHas.tag t hk with e | e <;> omega
  · rcases BondHas.tag t hk with e | e <;> omega
  · rw [t.tC.1]; decide
  · rw [t.tC.1]; decide
  · rw [t.tC.1]; decide
  · rw [t.tC.1]; decide
  · rw [t.tC.2]; decide
  · rw [t.tC.2]; decide
  · rw [t.tC.2]; decide
  · rw [t.tC.2]; decide
  · show S.tag k ≠ 0
    rcases e with e | e | e
    · rw [t.tK k e]; decide
    · rw [e, t.tE]; decide
    · rw [t.tV k e]; decide

/-- What a Collect leaves. -/
structure CollInv (Z : Fix) (S : St) (C : Nat → List Ver) (F : List Nat) (W : List Wait) (G : Int) (w w' : World) (S' : St) (F' : List Nat) (W' : List Wait) (G' : Int) : Prop where
  inv : Inv Z S' C F' W' G' w'
  next : Next Z S w S' w'
  heads : S'.heads = S.heads
  ls : S'.ls = S.ls
  cnow : S'.cnow = S.cnow
  now : S'.now = S.now
  made : S'.made = S.made
  more : F.length ≤ F'.length
  top : G' ≤ G + Z.n

theorem Inv.collect (h : Inv Z S C F W G w) (hG : G + Z.n < 900000) {e : Ending} (hE : CollectEnd Z.K Z.n Z.B Z.X.e S.now S.at0 S.deep S.tbl F W G S.v w e w') :
    (∃ k : Int, e = .returned (.tuple #[.int .i64 k, .int .i64 0])) ∧ ∃ S' F' W' G', CollInv Z S C F W G w w' S' F' W' G' := by
  obtain ⟨k, tbl, next, head, F', W', v, rfl, hc⟩ := hE
  refine ⟨⟨_, rfl⟩, ?_⟩
  have hn := h.mem.nextColl hc.pool hc.ep hc.row hc.own hc.keep
  have hsub : ∀ x, x ∈ W' → x ∈ W := fun x hx => hc.sub.subset hx
  have hperm : ∀ i, i ∈ F' ++ wSlots W' → i ∈ F ++ wSlots W := fun i hi => hc.perm.mem_iff.1 hi
  have hsame : ∀ c, c < S.heads.length → ∀ i, i ∈ vSlots (C c) → tbl i = S.tbl i := fun c hcc i hi => hc.same i fun hw => h.dF c hcc i hi (List.mem_append_right _ hw)
  have hlen := hc.perm.length_eq
  simp only [List.length_append, wSlots, List.length_map] at hlen
  have hcnt := hc.cnt
  have hWn : W.length ≤ Z.n := by
    have h1 := nodup_le Z.n (wSlots W) (List.nodup_append.1 h.nFW).2.1 fun x hx => by
      obtain ⟨y, hy, rfl⟩ := List.mem_map.1 hx
      have := h.wH y hy
      exact ⟨this.lo, this.hi⟩
    simpa [wSlots] using h1
  refine ⟨_, F', W', G + k, ⟨⟨hn.mem, h.deep, h.at0, hc.ok, fun c hcc => ChainAt.congr (h.chain c hcc) fun x hx => hsame c hcc x.i (mem_vSlots.2 ⟨x, hx, rfl⟩), h.ne, hc.perm.nodup_iff.2 h.nFW, h.nC, h.dC, fun c hcc i hi hi' => h.dF c hcc i hi (hperm i hi'), rfl, hc.held, fun x hx => h.wE x (hsub x hx), h.late, h.bot⟩, hn, rfl, rfl, rfl, rfl, rfl, by omega, by omega⟩⟩
end
end Go.Proofs.YtadelkancmbanaaGreat
