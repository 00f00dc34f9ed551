/-
  The law's known: its calls, one behind the other.
-/
import Derived.Test.YtadelkancmbanaaGreatBPeeks
namespace Go.Proofs.YtadelkancmbanaaGreat
open Go.RowKit
attribute [local go_sem ↓] Go.wp_at_zero Go.wp_at_succ

theorem stay {Z : Fix} {S S' : St} {w w' : World} {b : Nat} {o : Obj} (hn : Next Z S w S' w') (ht : S.tag b = 0) (hb : w.heap[b]? = some o) : S'.tag b = 0 ∧ w'.heap[b]? = some o := by
  have hl : b < w.heap.size := (Array.getElem?_eq_some_iff.1 hb).1
  exact ⟨(hn.tag b hl).trans ht, (hn.keep.block b hl (by rw [ht]; exact fun h => h rfl)).trans hb⟩

/-- In between. -/
structure KS (Z : Fix) (S : St) (C : Nat → List Ver) (F : List Nat) (G : Int) (w : World) : Prop where
  inv : Inv Z S C F [] G w
  len : S.heads.length = 3
  n : Z.n = 20
  free : 8 ≤ F.length
  gens : G ≤ 100
  made : S.made ≤ 5

theorem KS.next {Z : Fix} {S : St} {C : Nat → List Ver} {F : List Nat} {G : Int} {w w' : World} (h : KS Z S C F G w) (hn : Next Z S w S w') : KS Z S C F G w' := ⟨h.inv.next hn, h.len, h.n, h.free, h.gens, h.made⟩
theorem KS.below {Z : Fix} {S : St} {C : Nat → List Ver} {F : List Nat} {G : Int} {w w' : World} (h : KS Z S C F G w) (hb : Below w.heap.size w w') : KS Z S C F G w' := h.next (h.inv.mem.next hb)
theorem KS.tops {Z : Fix} {S : St} {C : Nat → List Ver} {F : List Nat} {G : Int} {w : World} (h : KS Z S C F G w) : ∀ c, c < S.heads.length → ∃ r, CellChain Z.n S.made S.tbl S.st S.heads c (topOf C c :: r) := fun c hc => by obtain ⟨r, _, hr⟩ := h.inv.top c hc; exact ⟨r, hr⟩

def dK : Array (Int × Int) := #[(2, 3), (0, 1)]
theorem dK_sorted (d' : Array (Int × Int)) (hp : d'.toList.Perm dK.toList) (ho : OKs 3 d') (hs : ∀ i j, i < j → j < d'.size → ¬ (d'[j]!.1 < d'[i]!.1)) : d'.size = 2 ∧ d'[0]! = (0, 1) ∧ d'[1]! = (2, 3) := by
  have hl : d'.size = 2 := by have := hp.length_eq; simpa [dK] using this
  have h0 := perm_find hp 0 (by omega)
  have h1 := perm_find hp 1 (by omega)
  have hne := ho.2 0 1 (by omega) (by omega)
  have hsr := hs 0 1 (by omega) (by omega)
  have val : ∀ i, i < dK.size → dK[i]! = (2, 3) ∨ dK[i]! = (0, 1) := fun i hi => by
    have hi2 : i < 2 := hi
    have e : i = 0 ∨ i = 1 := by omega
    rcases e with rfl | rfl
    · exact .inl rfl
    · exact .inr rfl
  obtain ⟨i, hi, ei⟩ := h0
  obtain ⟨j, hj, ej⟩ := h1
  rw [← ei, ← ej] at hne hsr ⊢
  refine ⟨hl, ?_⟩
  rcases val i hi with a | a <;> rcases val j hj with b | b <;> rw [a, b] at hne hsr ⊢
  · exact absurd rfl hne
  · exact absurd (show (0 : Int) < 2 by decide) hsr
  · exact ⟨rfl, rfl⟩
  · exact absurd rfl hne

structure K1 (Z : Fix) (S : St) (C : Nat → List Ver) (w : World) (S1 : St) (C1 : Nat → List Ver) (F1 : List Nat) (G1 : Int) (w1 : World) : Prop where
  ks : KS Z S1 C1 F1 G1 w1
  next : Next Z S w S1 w1
  cnow : S1.cnow = 1
  ls : S1.ls = [0, 0]
  c1 : C1 1 = C 1
  t0 : (topOf C1 0).v = 1
  t2 : (topOf C1 2).v = 3
  l2 : (C1 2).length = 2
  free : 10 ≤ F1.length
  gens : G1 ≤ 90
  made : S1.made = 1

theorem k_many {Z : Fix} {S : St} {C : Nat → List Ver} {w0 w1 w2 : World} (hf : Fresh 20 2 3 [5, 6, 7] w0 w1 Z S C) (hb : Below w1.heap.size w1 w2) (b : Nat) (hp : PairsAt b dK w2) :
    Calls Tryz.prog 11 #[.pointer (some ⟨Z.X.x, 0, none⟩), .pointer none, .slice (some ⟨b, 0, none⟩) 2 2] w2 fun e w3 => e = .returned (.tuple #[.int .i64 1, .int .i64 0]) ∧ ∃ S1 C1 F1 G1, K1 Z S C w2 S1 C1 F1 G1 w3 := by
  have hi := hf.inv.below hb
  have hFl : ((F0 20).drop 3).length = 17 := by rw [List.length_drop, F0_length]
  have hm := bMany_in Z S (topOf C) b 2 dK ((F0 20).drop 3) (3 : Nat) w2 hi.mem hi.deep hi.at0 hi.ok (by show ((3 : Nat) : Int) + ((2 : Nat) : Int) < 900000; decide) (by rw [hf.made]; decide) (by rw [hFl]; decide) (by decide) (fun c hc => by obtain ⟨r, _, hr⟩ := hi.top c hc; exact ⟨r, hr⟩) hp
  refine hm.mono ?_
  rintro e w3 ⟨d', hperm, hs, hcase⟩
  have hok : OKs S.heads.length dK := by
    rw [hf.len]
    refine ⟨fun i hi => ?_, fun j i hji hi => ?_⟩
    · have hi2 : i < 2 := hi
      have e : i = 0 ∨ i = 1 := by omega
      rcases e with rfl | rfl <;> decide
    · have hi2 : i < 2 := hi
      have e : i = 1 := by omega
      have e0 : j = 0 := by omega
      subst e
      subst e0
      decide
  have hok' := (oks_perm hperm).2 hok
  rcases hcase with ⟨_, _, k, hk, hbad⟩ | ⟨hCh, _⟩
  · exact absurd ((oks_good hs).2 hok' k hk) hbad
  · obtain ⟨hsz, e0, e1⟩ := dK_sorted d' hperm (by rw [hf.len] at hok'; exact hok') hs
    obtain ⟨he, db, next, head, tag, hn, hpo, _⟩ := hCh
    rw [hsz] at hn hpo
    have key0 : keyO d' 0 = 0 := by unfold keyO; rw [e0]; rfl
    have key1 : keyO d' 1 = 2 := by unfold keyO; rw [e1]; rfl
    have inj : ∀ j k, j < k → k < 2 → keyO d' j ≠ keyO d' k := fun j k h1 h2 => by
      have a : j = 0 := by omega
      have b : k = 1 := by omega
      subst a
      subst b
      rw [key0, key1]
      decide
    have hkl : ∀ j, j < 2 → keyO d' j < S.heads.length := fun j hj => by
      rw [hf.len]
      have a : j = 0 ∨ j = 1 := by omega
      rcases a with rfl | rfl
      · rw [key0]; decide
      · rw [key1]; decide
    have hi1 := hi.write 2 (keyO d') (valO d') (fun j => hnd (topOf C (keyO d' j)).i (topOf C (keyO d' j)).g) db next head tag (by rw [hFl]; decide) hkl inj (fun j hj => by obtain ⟨r, _, hr⟩ := hi.top (keyO d' j) (hkl j hj); exact hr.1) hn hpo
    obtain ⟨x2, hx2, _, _⟩ := hf.one 2 (by decide)
    refine ⟨by rw [he, hf.cnow], _, _, _, _, ⟨hi1, (headsK_length _ _ _ _).trans hf.len, hf.n, by rw [List.length_drop, hFl]; decide, by decide, by show S.made + 1 ≤ 5; rw [hf.made]; decide⟩, hn, hf.cnow, by show S.ls = _; rw [hf.ls]; rfl, ?_, ?_, ?_, ?_, by rw [List.length_drop, hFl]; decide, by decide, by show S.made + 1 = 1; rw [hf.made]⟩
    · exact consK_far _ _ _ _ _ fun j hj => by
        have a : j = 0 ∨ j = 1 := by omega
        rcases a with rfl | rfl
        · rw [key0]; decide
        · rw [key1]; decide
    · have h0 := topOf_hit (C := C) (nv := newV S (valO d') ((F0 20).drop 3)) inj 0 (by decide)
      rw [key0] at h0
      rw [h0]
      show valO d' 0 = 1
      unfold valO; rw [e0]
    · have h0 := topOf_hit (C := C) (nv := newV S (valO d') ((F0 20).drop 3)) inj 1 (by decide)
      rw [key1] at h0
      rw [h0]
      show valO d' 1 = 3
      unfold valO; rw [e1]
    · have h0 := consK_hit C (keyO d') (newV S (valO d') ((F0 20).drop 3)) 2 inj 1 2 (by decide) (by decide)
      rw [key1] at h0
      rw [h0, hx2]
      rfl
end Go.Proofs.YtadelkancmbanaaGreat

/-
  The law's known: the other calls.
-/
namespace Go.Proofs.YtadelkancmbanaaGreat
open Go.RowKit
attribute [local go_sem ↓] Go.wp_at_zero Go.wp_at_succ

structure K2 (Z : Fix) (S1 : St) (C : Nat → List Ver) (F : List Nat) (G : Int) (w : World) (i : Nat) (S2 : St) (w2 : World) : Prop where
  ks : KS Z S2 C F G w2
  next : Next Z S1 w S2 w2
  cnow : S2.cnow = 2
  li : i < S2.ls.length
  lease : S2.ls.getD i 0 = 2
  made : S2.made = S1.made

theorem k_take {Z : Fix} {S : St} {C : Nat → List Ver} {F : List Nat} {G : Int} {w : World} (h : KS Z S C F G w) (hc : S.cnow = 1) (hl : S.ls = [0, 0]) :
    Calls Tryz.prog 6 #[.pointer (some ⟨Z.X.c, 0, none⟩), .pointer none] w fun e w2 => ∃ i : Nat, e = .returned (.tuple #[snapVal i 1, .int .i64 0]) ∧ ∃ S2, K2 Z S C F G w i S2 w2 := by
  refine (ctake_any Z.X.c Z.cc S.cnow S.ls w h.inv.mem.ck (by rw [hc]; decide)).mono ?_
  intro e w2 hE
  obtain ⟨i, hi, hz, he, hm⟩ := hE.some (fun hall => hall 0 (by rw [hl]; decide) (by rw [hl]; rfl))
  have hn := h.inv.mem.nextCk hm hE.keep
  have hinv := h.inv.take i hi hn hz
  refine ⟨i, by rw [he, hc], _, ⟨hinv, h.len, h.n, h.free, h.gens, h.made⟩, hn, by show S.cnow + 1 = 2; rw [hc]; rfl, by show i < (S.ls.set i (S.cnow + 1)).length; rw [List.length_set]; exact hi, ?_, rfl⟩
  show (S.ls.set i (S.cnow + 1)).getD i 0 = 2
  rw [getD_set_eq _ _ _ _ hi, if_pos rfl, hc]
  rfl

structure K3 (Z : Fix) (S2 : St) (C1 : Nat → List Ver) (w : World) (S3 : St) (C3 : Nat → List Ver) (F3 : List Nat) (G3 : Int) (w3 : World) : Prop where
  ks : KS Z S3 C3 F3 G3 w3
  next : Next Z S2 w S3 w3
  cnow : S3.cnow = 2
  ls : S3.ls = S2.ls
  c1 : ∃ y, C3 1 = y :: C1 1 ∧ y.v = 4 ∧ y.s = 3
  c2 : (C3 2).length = (C1 2).length + 1
  c0 : C3 0 = C1 0

theorem k_move {Z : Fix} {S : St} {C : Nat → List Ver} {F : List Nat} {G : Int} {w : World} (h : KS Z S C F G w) (hc : S.cnow = 2) (h1 : (topOf C 1).v = 6) (h2 : (topOf C 2).v = 3) (hF : 10 ≤ F.length) (hG : G ≤ 90) (hmade : S.made ≤ 4) :
    Calls Tryz.prog 12 #[.pointer (some ⟨Z.X.x, 0, none⟩), .pointer none, .int .i64 1, .int .i64 2, .int .i64 2] w fun e w3 => e = .returned (.tuple #[.int .i64 2, .int .i64 0]) ∧ ∃ S3 C3 F3 G3, K3 Z S C w S3 C3 F3 G3 w3 := by
  have hlen := h.len
  have hmv := bMove_in Z S (topOf C) 1 2 2 F G w h.inv.mem h.inv.deep h.inv.at0 h.inv.ok (by omega) (by have := h.made; omega) (by omega) h.tops (by omega) (by omega) (by decide) (by decide)
  refine hmv.mono ?_
  rintro e w3 (⟨_, _, hlt⟩ | ⟨hCh, _⟩)
  · rw [h1] at hlt; exact absurd hlt (by decide)
  · obtain ⟨he, db, next, head, tag, hn, hpo, _⟩ := hCh
    have k0 : key2 1 2 0 = 1 := rfl
    have k1 : key2 1 2 1 = 2 := rfl
    have inj : ∀ j k, j < k → k < 2 → key2 1 2 j ≠ key2 1 2 k := fun j k a b => by
      have e0 : j = 0 := by omega
      have e1 : k = 1 := by omega
      subst e0
      subst e1
      decide
    have hkl : ∀ j, j < 2 → key2 1 2 j < S.heads.length := fun j hj => by
      have a : j = 0 ∨ j = 1 := by omega
      rcases a with rfl | rfl
      · rw [k0]; omega
      · rw [k1]; omega
    have hi1 := h.inv.write 2 (key2 1 2) _ (fun j => hnd (topOf C (key2 1 2 j)).i (topOf C (key2 1 2 j)).g) db next head tag (by omega) hkl inj (fun j hj => by obtain ⟨r, _, hr⟩ := h.inv.top (key2 1 2 j) (hkl j hj); exact hr.1) hn hpo
    refine ⟨by rw [he, hc], _, _, _, _, ⟨hi1, (headsK_length _ _ _ _).trans hlen, h.n, by rw [List.length_drop]; omega, by show G + ((2 : Nat) : Int) ≤ 100; omega, by show S.made + 1 ≤ 5; omega⟩, hn, hc, rfl, ?_, ?_, ?_⟩
    · have h0 := consK_hit C (key2 1 2) (newV S (newOf 2 2 (key2 1 2) fun j => (topOf C (key2 1 2 j)).v) F) 2 inj 0 2 (by decide) (by decide)
      rw [k0] at h0
      refine ⟨_, h0, ?_, ?_⟩
      · show newOf 2 2 (key2 1 2) (fun j => (topOf C (key2 1 2 j)).v) 0 = 4
        unfold newOf
        rw [k0, if_neg (by decide)]
        show wrap64 ((topOf C 1).v - 2) = 4
        rw [h1]
        unfold wrap64
        omega
      · show S.cnow + 1 = 3
        rw [hc]; rfl
    · have h0 := consK_hit C (key2 1 2) (newV S (newOf 2 2 (key2 1 2) fun j => (topOf C (key2 1 2 j)).v) F) 2 inj 1 2 (by decide) (by decide)
      rw [k1] at h0
      rw [h0]
      rfl
    · exact consK_far _ _ _ _ _ fun j hj => by
        have a : j = 0 ∨ j = 1 := by omega
        rcases a with rfl | rfl
        · rw [k0]; decide
        · rw [k1]; decide

theorem k_less {Z : Fix} {S : St} {C : Nat → List Ver} {F : List Nat} {G : Int} {w : World} (h : KS Z S C F G w) (h0 : (topOf C 0).v = 1) :
    Calls Tryz.prog 12 #[.pointer (some ⟨Z.X.x, 0, none⟩), .pointer none, .int .i64 0, .int .i64 1, .int .i64 2] w fun e w3 => e = .returned (.tuple #[.int .i64 0, .int .i64 303]) ∧ Next Z S w S w3 := by
  have hlen := h.len
  have hmv := bMove_in Z S (topOf C) 0 1 2 F G w h.inv.mem h.inv.deep h.inv.at0 h.inv.ok (by have := h.gens; omega) (by have := h.made; omega) (by have := h.free; omega) h.tops (by omega) (by omega) (by decide) (by decide)
  refine hmv.mono ?_
  rintro e w3 (⟨he, hn, _⟩ | ⟨_, hle⟩)
  · exact ⟨he, hn⟩
  · rw [h0] at hle; exact absurd hle (by decide)

theorem k_get {Z : Fix} {S : St} {C : Nat → List Ver} {F : List Nat} {G : Int} {w : World} (h : KS Z S C F G w) (y x : Ver) (hC : C 1 = [y, x]) (hv : y.v = 4) (hs : y.s = 3) :
    Calls Tryz.prog 14 #[.pointer (some ⟨Z.X.x, 0, none⟩), .pointer none, .int .i64 1] w fun e w3 => e = .returned (.tuple #[.int .i64 4, .int .i64 2, .int .i64 0]) ∧ Next Z S w S w3 := by
  have hlen := h.len
  have hch := h.inv.chain 1 (by omega)
  rw [hC] at hch
  have := bGet_in Z S 1 y [x] w h.inv.mem h.inv.deep h.inv.at0 (by omega) hch
  rw [hv, hs] at this
  exact this

theorem k_peek {Z : Fix} {S : St} {C : Nat → List Ver} {F : List Nat} {G : Int} {w : World} (h : KS Z S C F G w) (y x : Ver) (i : Nat) (hC : C 1 = [y, x]) (hs : y.s = 3) (xv : x.v = 6) (xs : x.s = 2) (hi : i < S.ls.length) (hl : S.ls.getD i 0 = 2) :
    Calls Tryz.prog 13 #[.pointer (some ⟨Z.X.x, 0, none⟩), .pointer none, snapVal i 1, .int .i64 1] w fun e w3 => e = .returned (.tuple #[.int .i64 6, .int .i64 0]) ∧ Below w.heap.size w w3 := by
  have hlen := h.len
  have hch := h.inv.chain 1 (by omega)
  rw [hC] at hch
  have hx : VerAt Z.n S.made S.tbl S.st x := ChainAt.all hch x (List.mem_cons_of_mem _ List.mem_cons_self)
  have := bPeek_in Z S 1 i 1 y [x] x true w h.inv.mem (by omega) hch hi (by decide) (by rw [hl]; rfl) (fun _ => by
    rw [List.find?_cons_of_neg (by rw [hs]; decide), List.find?_cons_of_pos (by rw [xs]; decide)]) (by have := hx.held.lo; have := hx.held.g0; unfold hnd; omega)
  rw [xv] at this
  exact this

theorem k_vers {Z : Fix} {S : St} {C : Nat → List Ver} {F : List Nat} {G : Int} {w : World} (h : KS Z S C F G w) (hl : (C 2).length = 3) :
    Calls Tryz.prog 15 #[.pointer (some ⟨Z.X.x, 0, none⟩), .int .i64 2] w fun e w3 => ∃ p c, e = .returned (.slice p 3 c) ∧ Below w.heap.size w w3 := by
  have hlen := h.len
  refine (bversions_in Z S 2 (C 2) w h.inv.mem (by omega) (h.inv.chain 2 (by omega)) (by rw [hl, h.n]; decide)).mono ?_
  rintro e w3 ⟨v, xs, B, rfl, hrow, hb⟩
  rw [hl] at hrow
  obtain ⟨g, c, e, _, _⟩ := hrow.form (by decide)
  exact ⟨_, c, by rw [e], hb⟩
theorem k_vers0 {Z : Fix} {S : St} {C : Nat → List Ver} {F : List Nat} {G : Int} {w : World} (h : KS Z S C F G w) :
    Calls Tryz.prog 15 #[.pointer (some ⟨Z.X.x, 0, none⟩), .int .i64 3] w fun e w3 => e = .returned (.slice none 0 0) ∧ w = w3 :=
  bversions_out Z S 3 w h.inv.mem (by rw [h.len]; decide)
end Go.Proofs.YtadelkancmbanaaGreat

/-
  The law's known, walked.
-/
namespace Go.Proofs.YtadelkancmbanaaGreat
open Go.RowKit
attribute [local go_sem ↓] Go.wp_at_zero Go.wp_at_succ

theorem stayB {S : St} {w w' : World} {b : Nat} {o : Obj} (hb : Below w.heap.size w w') (h : S.tag b = 0 ∧ w.heap[b]? = some o) : S.tag b = 0 ∧ w'.heap[b]? = some o :=
  ⟨h.1, (hb.block b (Array.getElem?_eq_some_iff.1 h.2).1).trans h.2⟩

/-- What was there before is as it was; none of it lies in the machine. -/
structure Away (N : Nat) (w : World) (S : St) (w' : World) : Prop where
  tag : ∀ k, k < N → S.tag k = 0
  below : Below N w w'
theorem Away.next {N : Nat} {w w1 w2 : World} {Z : Fix} {S S' : St} (h : Away N w S w1) (hN : N ≤ w.heap.size) (hn : Next Z S w1 S' w2) : Away N w S' w2 :=
  ⟨fun k hk => (hn.tag k (by have := h.below.size; omega)).trans (h.tag k hk), ((Keep.of_below (S := fun _ => False) h.below).trans ((hn.keep.mono (Nat.le_trans hN h.below.size)).weaken fun k hk e => absurd (h.tag k hk) e)).below⟩
theorem Away.more {N : Nat} {w w1 w2 : World} {S : St} (h : Away N w S w1) (hN : N ≤ w.heap.size) (hb : Below w1.heap.size w1 w2) : Away N w S w2 :=
  ⟨h.tag, h.below.trans (hb.mono (Nat.le_trans hN h.below.size))⟩

def mObj (Z : Fix) : Obj := .cells #[.pointer (some ⟨Z.X.x, 0, none⟩), .pointer (some ⟨Z.K.p, 0, none⟩), .pointer (some ⟨Z.X.e, 0, none⟩), .pointer (some ⟨Z.X.c, 0, none⟩)] 33 (0, 0)
theorem mObj_cells {Z : Fix} {b : Nat} {w : World} (h : w.heap[b]? = some (mObj Z)) : w.cell? ⟨b, 0, none⟩ = some (.pointer (some ⟨Z.X.x, 0, none⟩)) ∧ w.cell? ⟨b, 1, none⟩ = some (.pointer (some ⟨Z.K.p, 0, none⟩)) ∧ w.cell? ⟨b, 2, none⟩ = some (.pointer (some ⟨Z.X.e, 0, none⟩)) ∧ w.cell? ⟨b, 3, none⟩ = some (.pointer (some ⟨Z.X.c, 0, none⟩)) := by
  unfold mObj at h
  refine ⟨?_, ?_, ?_, ?_⟩ <;> simp [World.cell?, h]

set_option maxRecDepth 100000 in
set_option maxHeartbeats 6400000 in
theorem known_law (w : World) : Calls Tryz.prog 4 #[] w fun e w' => e = .returned (.bool true) ∧ Below w.heap.size w w' := by
  obtain ⟨W0, hW0⟩ : ∃ W0, W0 = w.alloc (.cells #[.int .i64 5, .int .i64 6, .int .i64 7] 3) := ⟨_, rfl⟩
  have g0 : W0.heap[w.heap.size]? = some (.cells #[.int .i64 5, .int .i64 6, .int .i64 7] 3 (0, 0)) := by rw [hW0]; exact heap_alloc_new _ _
  have b0 : Below w.heap.size w W0 := by rw [hW0]; exact (Below.refl _ _).alloc (Nat.le_refl _) _
  have hmk := makes_any 20 2 3 w.heap.size 0 3 [5, 6, 7] W0 rfl (by decide) (by decide) (by decide) (fun j hj => by
    have e : j = 0 ∨ j = 1 ∨ j = 2 := by omega
    rcases e with rfl | rfl | rfl <;> simp [World.cell?, g0])
  have HW0 := Lib.hid hW0
  have Hb0 := Lib.hid b0
  have Hmk := Lib.hid hmk
  clear hW0 b0 g0 hmk
  go_enter Tryz.func4, Tryz.ntmps4
  go_wp2_with fail
  rw [← HW0.out]
  refine Hmk.out.mono ?_
  rintro e w1 ⟨Z, S, C, rfl, hf⟩
  obtain ⟨W1, hW1⟩ : ∃ W1, W1 = w1.alloc (.cells #[.pointer (some ⟨Z.X.x, 0, none⟩), .pointer (some ⟨Z.K.p, 0, none⟩), .pointer (some ⟨Z.X.e, 0, none⟩), .pointer (some ⟨Z.X.c, 0, none⟩)] 33) := ⟨_, rfl⟩
  obtain ⟨W2, hW2⟩ : ∃ W2, W2 = W1.alloc (.cells #[.int .i64 2, .int .i64 3, .int .i64 0, .int .i64 1] 52) := ⟨_, rfl⟩
  have bW1 : Below w1.heap.size w1 W1 := by rw [hW1]; exact (Below.refl _ _).alloc (Nat.le_refl _) _
  have sW1 : W1.heap.size = w1.heap.size + 1 := by rw [hW1]; simp
  have bW2 : Below w1.heap.size w1 W2 := by rw [hW2]; exact bW1.alloc bW1.size _
  have gM : W2.heap[w1.heap.size]? = some (.cells #[.pointer (some ⟨Z.X.x, 0, none⟩), .pointer (some ⟨Z.K.p, 0, none⟩), .pointer (some ⟨Z.X.e, 0, none⟩), .pointer (some ⟨Z.X.c, 0, none⟩)] 33 (0, 0)) := by
    rw [hW2, hW1]; exact heap_alloc2_old _ _ _
  have gP : W2.heap[W1.heap.size]? = some (.cells #[.int .i64 2, .int .i64 3, .int .i64 0, .int .i64 1] 52 (0, 0)) := by rw [hW2]; exact heap_alloc_new _ _
  have hpa : PairsAt (w1.heap.size + 1) dK W2 := fun j hj => by
    rw [← sW1]
    have hj2 : j < 2 := hj
    have e : j = 0 ∨ j = 1 := by omega
    rcases e with rfl | rfl <;> exact ⟨by simp [World.cell?, gP, dK], by simp [World.cell?, gP, dK]⟩
  have hkm := k_many hf bW2 (w1.heap.size + 1) hpa
  have hbox : S.tag w1.heap.size = 0 ∧ W2.heap[w1.heap.size]? = some (mObj Z) := ⟨hf.inv.mem.tags.new _ (Nat.le_refl _), gM⟩
  have hall : Below w.heap.size w W2 := Hb0.out.trans ((hf.keep.trans (bW2.mono hf.keep.size)).mono Hb0.out.size)
  have HW1 := Lib.hid hW1
  have HW2 := Lib.hid hW2
  have Hkm := Lib.hid hkm
  have Hbox := Lib.hid hbox
  have Hall := Lib.hid hall
  have Hf := Lib.hid hf
  have htS : ∀ k, k < w.heap.size → S.tag k = 0 := fun k hk => hf.tag k (Nat.lt_of_lt_of_le hk Hb0.out.size)
  have HtS := Lib.hid htS
  have hnx : (some (⟨Z.X.x, 0, none⟩ : Addr) == none) = false := rfl
  have x1 : (w1.alloc (.cells #[.pointer (some ⟨Z.X.x, 0, none⟩), .pointer (some ⟨Z.K.p, 0, none⟩), .pointer (some ⟨Z.X.e, 0, none⟩), .pointer (some ⟨Z.X.c, 0, none⟩)] 33)).cell? ⟨w1.heap.size, 0, none⟩ = some (.pointer (some ⟨Z.X.x, 0, none⟩)) := by
    rw [World.cell?_alloc_new]; rfl
  clear hW1 hW2 hkm hbox hall hf bW1 bW2 sW1 gM gP hpa htS Hmk
  unfold mVal
  go_wp2_with fail
  rw [← HW1.out, ← HW2.out]
  refine Hkm.out.mono ?_
  rintro e w3 ⟨rfl, S1, C1, F1, G1, hK1⟩
  have ha1 : Away w.heap.size w S1 w3 := (Away.mk HtS.out Hall.out).next (Nat.le_refl _) hK1.next
  have hb1 := stay hK1.next Hbox.out.1 Hbox.out.2
  have htk := k_take hK1.ks hK1.cnow hK1.ls
  obtain ⟨q0, q1, q2, q3⟩ := mObj_cells hb1.2
  have Ha1 := Lib.hid ha1
  have Hb1 := Lib.hid hb1
  have HK1 := Lib.hid hK1
  have Htk := Lib.hid htk
  clear ha1 hb1 hK1 htk x1 q0 q1 q2
  go_wp2_with fail
  refine Htk.out.mono ?_
  rintro e w4 ⟨i, rfl, S2, hK2⟩
  have ha2 := Ha1.out.next (Nat.le_refl _) hK2.next
  have hb2 := stay hK2.next Hb1.out.1 Hb1.out.2
  obtain ⟨W4, hW4⟩ : ∃ W4, W4 = w4.alloc (.cells #[.int .i64 i, .int .i64 1] 39) := ⟨_, rfl⟩
  have bW4 : Below w4.heap.size w4 W4 := by rw [hW4]; exact (Below.refl _ _).alloc (Nat.le_refl _) _
  have gS : W4.heap[w4.heap.size]? = some (.cells #[.int .i64 i, .int .i64 1] 39 (0, 0)) := by rw [hW4]; exact heap_alloc_new _ _
  have tS : S2.tag w4.heap.size = 0 := hK2.ks.inv.mem.tags.new _ (Nat.le_refl _)
  have hk4 := hK2.ks.below bW4
  obtain ⟨x1v, hx1, hx1v, hx1s⟩ := Hf.out.one 1 (by decide)
  have hC1 : C1 1 = [x1v] := HK1.out.c1.trans hx1
  have ht1 : (topOf C1 1).v = 6 := by unfold topOf; rw [hC1]; exact hx1v
  have hmv := k_move hk4 hK2.cnow ht1 HK1.out.t2 ?hF ?hG ?hM
  case hF => exact HK1.out.free
  case hG => exact HK1.out.gens
  case hM => rw [hK2.made, HK1.out.made]; decide
  have hb4 := stayB bW4 hb2
  have hs4 : S2.tag w4.heap.size = 0 ∧ W4.heap[w4.heap.size]? = some (.cells #[.int .i64 i, .int .i64 1] 39 (0, 0)) := ⟨tS, gS⟩
  have ha4 := ha2.more (Nat.le_refl _) bW4
  obtain ⟨q0, _⟩ := mObj_cells hb4.2
  have q0a : (w4.alloc (.cells #[.int .i64 i, .int .i64 1] 39)).cell? ⟨w1.heap.size, 0, none⟩ = some (.pointer (some ⟨Z.X.x, 0, none⟩)) := by rw [← hW4]; exact q0
  have Hb4 := Lib.hid hb4
  have Hs4 := Lib.hid hs4
  have Ha4 := Lib.hid ha4
  have HW4 := Lib.hid hW4
  have Hmv := Lib.hid hmv
  have HK2 := Lib.hid hK2
  have HC1 := Lib.hid hC1
  have Hx1v := Lib.hid hx1v
  have Hx1s := Lib.hid hx1s
  clear ha2 hb2 hW4 bW4 gS tS hk4 hx1 hx1v hx1s hC1 ht1 hmv hb4 hs4 ha4 q0 hK2 q3
  unfold snapVal
  go_wp2_with fail
  rw [← HW4.out]
  refine Hmv.out.mono ?_
  rintro e w5 ⟨rfl, S3, C3, F3, G3, hK3⟩
  have ha5 := Ha4.out.next (Nat.le_refl _) hK3.next
  have hb5 := stay hK3.next Hb4.out.1 Hb4.out.2
  have hs5 := stay hK3.next Hs4.out.1 Hs4.out.2
  obtain ⟨q0, _⟩ := mObj_cells hb5.2
  have p0 : w5.cell? ⟨w4.heap.size, 0, none⟩ = some (.int .i64 i) := by simp [World.cell?, hs5.2]
  have p1 : w5.cell? ⟨w4.heap.size, 1, none⟩ = some (.int .i64 1) := by simp [World.cell?, hs5.2]
  obtain ⟨y, hC3, hyv, hys⟩ := hK3.c1
  have hC31 : C3 1 = [y, x1v] := by rw [hC3, HC1.out]
  have hpk := k_peek hK3.ks y x1v i hC31 hys Hx1v.out Hx1s.out (by rw [hK3.ls]; exact HK2.out.li) (by rw [hK3.ls]; exact HK2.out.lease)
  have hgt : ∀ w', KS Z S3 C3 F3 G3 w' → Calls Tryz.prog 14 #[.pointer (some ⟨Z.X.x, 0, none⟩), .pointer none, .int .i64 1] w' fun e w3 => e = .returned (.tuple #[.int .i64 4, .int .i64 2, .int .i64 0]) ∧ Next Z S3 w' S3 w3 := fun w' hk => k_get hk y x1v hC31 hyv hys
  have ht0 : (topOf C3 0).v = 1 := by unfold topOf; rw [hK3.c0]; exact HK1.out.t0
  have hl3 : (C3 2).length = 3 := by rw [hK3.c2, HK1.out.l2]
  unfold snapVal at hpk
  have Ha5 := Lib.hid ha5
  have Hb5 := Lib.hid hb5
  have HK3 := Lib.hid hK3
  have Hpk := Lib.hid hpk
  have Hgt := Lib.hid hgt
  have Ht0 := Lib.hid ht0
  have Hl3 := Lib.hid hl3
  clear ha5 hb5 hs5 hC3 hyv hys hC31 hpk hgt ht0 hl3 hK3 q0a
  go_wp2_with fail
  refine Hpk.out.mono ?_
  rintro e w6 ⟨rfl, hb6⟩
  have hk6 := HK3.out.ks.below hb6
  have ha6 := Ha5.out.more (Nat.le_refl _) hb6
  have hbx6 := stayB hb6 Hb5.out
  obtain ⟨r0, _⟩ := mObj_cells hbx6.2
  have Hgt6 := Lib.hid (Hgt.out w6 hk6)
  have Hk6 := Lib.hid hk6
  have Ha6 := Lib.hid ha6
  have Hbx6 := Lib.hid hbx6
  clear hb6 hk6 ha6 hbx6 q0 p0 p1 Hpk
  go_wp2_with fail
  refine Hgt6.out.mono ?_
  rintro e w7 ⟨rfl, hn7⟩
  have hk7 := Hk6.out.next hn7
  have ha7 := Ha6.out.next (Nat.le_refl _) hn7
  have hbx7 := stay hn7 Hbx6.out.1 Hbx6.out.2
  obtain ⟨q0, _⟩ := mObj_cells hbx7.2
  have Hls := Lib.hid (k_less hk7 Ht0.out)
  have Hk7 := Lib.hid hk7
  have Ha7 := Lib.hid ha7
  have Hbx7 := Lib.hid hbx7
  clear hn7 hk7 ha7 hbx7 r0 Hgt6
  go_wp2_with fail
  refine Hls.out.mono ?_
  rintro e w8 ⟨rfl, hn8⟩
  have hk8 := Hk7.out.next hn8
  have ha8 := Ha7.out.next (Nat.le_refl _) hn8
  have hbx8 := stay hn8 Hbx7.out.1 Hbx7.out.2
  obtain ⟨r0, _⟩ := mObj_cells hbx8.2
  have Hvs := Lib.hid (k_vers hk8 Hl3.out)
  have Hk8 := Lib.hid hk8
  have Ha8 := Lib.hid ha8
  have Hbx8 := Lib.hid hbx8
  clear hn8 hk8 ha8 hbx8 q0 Hls
  go_wp2_with fail
  refine Hvs.out.mono ?_
  rintro e w9 ⟨p9, c9, rfl, hb9⟩
  have hk9 := Hk8.out.below hb9
  have ha9 := Ha8.out.more (Nat.le_refl _) hb9
  have hbx9 := stayB hb9 Hbx8.out
  obtain ⟨q0, _⟩ := mObj_cells hbx9.2
  have Hv0 := Lib.hid (k_vers0 hk9)
  have Ha9 := Lib.hid ha9
  clear hb9 hk9 ha9 hbx9 r0 Hvs
  go_wp2_with fail
  refine Hv0.out.mono ?_
  rintro e w10 ⟨rfl, rfl⟩
  go_wp2_with fail
  go_ret
  exact ⟨rfl, Ha9.out.below⟩
end Go.Proofs.YtadelkancmbanaaGreat
