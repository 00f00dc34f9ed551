/-
  The law's many.
-/
import Derived.Test.YtadelkancmbanaaGreatBStep
namespace Go.Proofs.YtadelkancmbanaaGreat
open Go.RowKit
attribute [local go_sem ↓] Go.wp_at_zero Go.wp_at_succ

/-- Each pair's cell is one of N; none twice. -/
def OKs (N : Nat) (d : Array (Int × Int)) : Prop := (∀ i, i < d.size → 0 ≤ d[i]!.1 ∧ d[i]!.1 < (N : Int)) ∧ ∀ j i, j < i → i < d.size → d[j]!.1 ≠ d[i]!.1

theorem oks_list {N : Nat} {d : Array (Int × Int)} : OKs N d ↔ (∀ x, x ∈ d.toList → 0 ≤ x.1 ∧ x.1 < (N : Int)) ∧ (d.toList.map (·.1)).Nodup := by
  have hget : ∀ i (h : i < d.size), d[i]! = d.toList[i]'(by simpa using h) := fun i h => by rw [getElem!_pos d i h]; simp
  constructor
  · rintro ⟨h1, h2⟩
    refine ⟨fun x hx => ?_, ?_⟩
    · obtain ⟨i, hi, rfl⟩ := List.mem_iff_getElem.1 hx
      have h := h1 i (by simpa using hi)
      rw [hget i (by simpa using hi)] at h
      exact h
    · refine List.pairwise_iff_getElem.2 fun i j hi hj hij => ?_
      simp only [List.length_map, Array.length_toList] at hi hj
      have h := h2 i j hij hj
      rw [hget i hi, hget j hj] at h
      simpa using h
  · rintro ⟨h1, h2⟩
    refine ⟨fun i hi => ?_, fun j i hji hi => ?_⟩
    · rw [hget i hi]; exact h1 _ (List.getElem_mem _)
    · have h := List.pairwise_iff_getElem.1 h2 j i (by simp; omega) (by simpa using hi) hji
      rw [hget i hi, hget j (by omega)]
      simpa using h

theorem oks_perm {N : Nat} {d d' : Array (Int × Int)} (hp : d'.toList.Perm d.toList) : OKs N d' ↔ OKs N d := by
  rw [oks_list, oks_list]
  constructor
  · rintro ⟨h1, h2⟩
    exact ⟨fun x hx => h1 x (hp.mem_iff.2 hx), (hp.map _).nodup_iff.1 h2⟩
  · rintro ⟨h1, h2⟩
    exact ⟨fun x hx => h1 x (hp.mem_iff.1 hx), (hp.map _).nodup_iff.2 h2⟩

theorem oks_good {N : Nat} {d : Array (Int × Int)} (hs : ∀ i j, i < j → j < d.size → ¬ (d[j]!.1 < d[i]!.1)) : (∀ k, k < d.size → GoodAt N d k) ↔ OKs N d := by
  constructor
  · intro hg
    exact ⟨fun i hi => (hg i hi).1, fun j i hji hi => by have := strict_of hs hg j i hji hi; omega⟩
  · rintro ⟨h1, h2⟩ k hk
    exact ⟨h1 k hk, fun h0 => h2 (k - 1) k (by omega) hk⟩

theorem perm_find {d d' : Array (Int × Int)} (hp : d'.toList.Perm d.toList) (j : Nat) (hj : j < d'.size) : ∃ i, i < d.size ∧ d[i]! = d'[j]! := by
  have hm : d'[j]! ∈ d.toList := hp.mem_iff.1 (by rw [getElem!_pos d' j hj]; simp)
  obtain ⟨i, hi, e⟩ := List.mem_iff_getElem.1 hm
  refine ⟨i, by simpa using hi, ?_⟩
  rw [getElem!_pos d i (by simpa using hi)]
  simpa using e

def keyO (d : Array (Int × Int)) (i : Nat) : Nat := d[i]!.1.toNat
def valO (d : Array (Int × Int)) (i : Nat) : Int := d[i]!.2

/-- What a Many has answered: an error of two sorts, or none. -/
def M2 (Z : Fix) (S : St) (C : Nat → List Ver) (F : List Nat) (G : Int) (d : Array (Int × Int)) (w1 : World) (v err : Int) (w2 : World) : Prop :=
  (err = 302 ∧ Next Z S w1 S w2 ∧ ¬ OKs S.heads.length d) ∨
  (err = 0 ∧ OKs S.heads.length d ∧ ∃ d' : Array (Int × Int), d'.toList.Perm d.toList ∧ OKs S.heads.length d' ∧ ChangedEnd Z S d'.size (keyO d') (valO d') (fun j => hnd (topOf C (keyO d' j)).i (topOf C (keyO d' j)).g) F G w1 (.returned (.tuple #[.int .i64 v, .int .i64 0])) w2)

theorem m2_of {Z : Fix} {S : St} {C : Nat → List Ver} {F : List Nat} {G : Int} {d : Array (Int × Int)} {w1 w2 : World} {e : Ending} (h : ManyEnd Z S (topOf C) d F G w1 e w2) : ∃ v err, e = .returned (.tuple #[.int .i64 v, .int .i64 err]) ∧ M2 Z S C F G d w1 v err w2 := by
  obtain ⟨d', hp, hs, h1⟩ := h
  rcases h1 with ⟨rfl, hn, k, hk, hb⟩ | ⟨hc, hg⟩
  · refine ⟨0, 302, rfl, .inl ⟨rfl, hn, fun ho => hb ?_⟩⟩
    exact (oks_good hs).2 ((oks_perm hp).2 ho) k hk
  · have ho := (oks_good hs).1 hg
    have he := hc.1
    exact ⟨S.cnow, 0, he, .inr ⟨rfl, (oks_perm hp).1 ho, d', hp, ho, by rw [he] at hc; exact hc⟩⟩

theorem M2.keep {Z : Fix} {S : St} {C : Nat → List Ver} {F : List Nat} {G : Int} {d : Array (Int × Int)} {w1 w2 : World} {v err : Int} (h : M2 Z S C F G d w1 v err w2) : Keep (fun k => S.tag k ≠ 0) w1.heap.size w1 w2 := by
  rcases h with ⟨_, hn, _⟩ | ⟨_, _, d', _, _, _, db, next, head, tag, hn, _⟩
  · exact hn.keep
  · exact hn.keep

set_option maxRecDepth 100000 in
set_option maxHeartbeats 6400000 in
theorem many_law (Z : Fix) (S : St) (C : Nat → List Ver) (F : List Nat) (W : List Wait) (G : Int) (gl capl m c : Nat) (l : List Int) (p : Option Addr) (d : Array (Int × Int)) (w : World) (h : Inv Z S C F W G w) (hr : LRow S gl S.heads.length l w) (hv : ∀ c, c < S.heads.length → (topOf C c).v = l.getD c 0) (rm : Room Z S F G) (hp : PVal p d w) (htp : ∀ a : Addr, p = some a → S.tag a.block = 0 ∧ a.block ≠ gl) (hm : d.size = m) (hs : 1 ≤ m ∧ m ≤ 16) :
    Calls Tryz.prog 27 #[mVal Z, .slice (some ⟨gl, 0, none⟩) S.heads.length capl, .slice p m c] w fun e w' => e = .returned (.bool true) ∧ StepE Z S C F G gl w w' := by
  rcases hp with h0 | ⟨gp, o, rfl, hcl⟩
  · omega
  obtain ⟨W0, hW0⟩ : ∃ W0, W0 = w.alloc (.cells #[.pointer (some ⟨Z.X.x, 0, none⟩), .pointer (some ⟨Z.K.p, 0, none⟩), .pointer (some ⟨Z.X.e, 0, none⟩), .pointer (some ⟨Z.X.c, 0, none⟩)] 33) := ⟨_, rfl⟩
  obtain ⟨ip, hip, zp0, zp1, zp2⟩ := info_parts infoBPair
  have b0 : Below w.heap.size w W0 := by rw [hW0]; exact (Below.refl _ _).alloc (Nat.le_refl _) _
  have hflat := flat_get d d.toList rfl
  have hlen : (d.toList.flatMap encP).length = m * 2 := by rw [flat_length, ← hm]; simp
  have hnews : ∀ j u, (d.toList.flatMap encP)[j]? = some u → W0.cell? ((⟨gp, o, none⟩ : Addr).add j) = some u := fun j u hj => by
    rw [hflat] at hj
    have hjl : j < 2 * d.size := by
      rcases Nat.lt_or_ge j (2 * d.size) with h | h
      · exact h
      · rw [if_neg (by simp; omega)] at hj; cases hj
    rw [if_pos (by simp; omega)] at hj
    injection hj with hj
    rw [Addr.add_lit, ← hj]
    have hc2 := hcl (j / 2) (by omega)
    by_cases e : j % 2 = 0
    · rw [if_pos e]
      have ej : o + j / 2 * 2 = o + j := by omega
      rw [ej] at hc2
      exact (b0.cell (p := ⟨gp, o + j, none⟩) (World.block_lt_of_cell? _ _ hc2.1)).trans hc2.1
    · rw [if_neg e]
      have ej : o + j / 2 * 2 + 1 = o + j := by omega
      rw [ej] at hc2
      exact (b0.cell (p := ⟨gp, o + j, none⟩) (World.block_lt_of_cell? _ _ hc2.2)).trans hc2.2
  have hone : ∀ u ∈ d.toList.flatMap encP, u.oneCell' = true := fun u hu => by
    obtain ⟨x, _, hx⟩ := List.mem_flatMap.1 hu
    exact encP_one x u hx
  have Htp : Hid (S.tag gp = 0) := Lib.hid (htp _ rfl).1
  have Hpl : Hid (gp ≠ gl) := Lib.hid (htp _ rfl).2
  have H := Lib.hid h
  have Hr := Lib.hid hr
  have Hv := Lib.hid hv
  have Hrm := Lib.hid rm
  have Hcl := Lib.hid hcl
  have Hm := Lib.hid hm
  have HW0 := Lib.hid hW0
  have Hb0 := Lib.hid b0
  have Hlen := Lib.hid hlen
  have Hnews := Lib.hid hnews
  have Hone := Lib.hid hone
  have Hflat := Lib.hid hflat
  obtain ⟨N, hN⟩ : ∃ N, S.heads.length = N := ⟨_, rfl⟩
  have HN := Lib.hid hN
  rw [hN]
  clear h hr hv rm hcl hm hW0 b0 hlen hnews hone hflat hN htp
  have hg6 : W0.heap[w.heap.size]? = some (.cells #[.pointer (some ⟨Z.X.x, 0, none⟩), .pointer (some ⟨Z.K.p, 0, none⟩), .pointer (some ⟨Z.X.e, 0, none⟩), .pointer (some ⟨Z.X.c, 0, none⟩)] 33 (0, 0)) := by rw [HW0.out]; exact heap_alloc_new _ _
  have Hg6 := Lib.hid hg6
  have Hsz0 : Hid (W0.heap.size = w.heap.size + 1) := Lib.hid (by rw [HW0.out]; simp)
  clear hg6
  unfold mVal
  go_enter Tryz.func27, Tryz.ntmps27
  go_wp2_with (at_builtin; rw [← HW0.out]; go_loud (refine wpList_append_lies _ rfl (.const (.slice none 0 0)) (.tmp 13) 25 rfl W0.heap.size 52 ip _ 2 16 Tryz.underlying25 hip zp0 zp1 zp2 rfl (by decide) (.slice none 0 0) 0 [] rfl (World.ownsRow_nil _ _ _ _) ⟨gp, o, none⟩ m c (d.toList.flatMap encP) rfl Hlen.out Hnews.out Hone.out (by omega) (by unfold maxLen; omega) (by omega) (Nat.le_refl _) W0.heap.size rfl ?_; intro g1 c1 w1 hown1 hgrow1 hat1 hlt1; rw [Nat.zero_add, List.nil_append] at hown1; rw [Nat.zero_add]; have x1 : w1.cell? ⟨w.heap.size, 0, none⟩ = some (.pointer (some ⟨Z.X.x, 0, none⟩)) := (by have e := (hgrow1.block w.heap.size (by rw [Hsz0.out]; omega) (fun h => by cases h)).trans Hg6.out; simp [World.cell?, e]); have Hown1 := Lib.hid hown1; have Hgrow1 := Lib.hid hgrow1; clear hown1 hgrow1 hat1 hlt1))
  have hb1 : Below w.heap.size w w1 := Hb0.out.grown Hgrow1.out (by rw [Hsz0.out]; omega) (fun g hg => by cases hg)
  have hi1 := H.out.below hb1
  have hcell1 : PairsAt g1 d w1 := fun j hj => by
    have hj' : j < m := by rw [← Hm.out]; exact hj
    refine ⟨?_, ?_⟩
    · rw [Hown1.out.cellAt _ (by omega), Hflat.out, if_pos (by simp; omega), if_pos (by omega)]
      have e : j * 2 / 2 = j := by omega
      rw [e]
    · rw [Hown1.out.cellAt _ (by omega), Hflat.out, if_pos (by simp; omega), if_neg (by omega)]
      have e : (j * 2 + 1) / 2 = j := by omega
      rw [e]
  have hmn := bMany_in Z S (topOf C) g1 c1 d F G w1 hi1.mem H.out.deep H.out.at0 H.out.ok (by have := Hrm.out.gens; rw [Hm.out]; omega) Hrm.out.made (by have := Hrm.out.free; rw [Hm.out]; omega) (by rw [Hm.out]; exact hs) (fun c hc => by obtain ⟨r, _, hr⟩ := hi1.top c hc; exact ⟨r, hr⟩) hcell1
  rw [Hm.out] at hmn
  have Hmn := Lib.hid (hmn.mono fun e w2 h => m2_of h)
  have Hb1 := Lib.hid hb1
  have Hi1 := Lib.hid hi1
  have Hcell1 := Lib.hid hcell1
  clear hmn hb1 hi1 hcell1
  refine Hmn.out.mono ?_
  rintro e w2 ⟨v, err, rfl, hM⟩
  have hk2 := hM.keep
  have hgl : gl < w.heap.size := (Hr.out.cells 0 (by have := H.out.mem.bond.few; omega)).lt
  have hgp : gp < w.heap.size := World.block_lt_of_cell? _ _ (Hcl.out 0 (by rw [Hm.out]; omega)).1
  have HM := Lib.hid hM
  have Hk2 := Lib.hid hk2
  have Hgl := Lib.hid hgl
  have Hgp := Lib.hid hgp
  clear hM hk2 hgl hgp Hmn
  have tg1 : S.tag g1 = 0 := H.out.mem.tags.new g1 (by have := (Hown1.out.lt g1 rfl).1; have := Hsz0.out; omega)
  have hp2 : PVal (some ⟨gp, o, none⟩) d w2 := .inr ⟨gp, o, rfl, fun j hj => by
    have e := (Hk2.out.block gp (Nat.lt_of_lt_of_le Hgp.out Hb1.out.size) (by rw [Htp.out]; exact fun h => h rfl)).trans (Hb1.out.block gp Hgp.out)
    exact ⟨(World.cell?_of_block (a := ⟨gp, o + j * 2, none⟩) e).trans (Hcl.out j hj).1, (World.cell?_of_block (a := ⟨gp, o + j * 2 + 1, none⟩) e).trans (Hcl.out j hj).2⟩⟩
  have hq2 : PVal (some ⟨g1, 0, none⟩) d w2 := .inr ⟨g1, 0, rfl, fun j hj => by
    have e := Hk2.out.block g1 (Hown1.out.lt g1 rfl).2 (by rw [tg1]; exact fun h => h rfl)
    rw [Nat.zero_add]
    exact ⟨(World.cell?_of_block (a := ⟨g1, j * 2, none⟩) e).trans (Hcell1.out j hj).1, (World.cell?_of_block (a := ⟨g1, j * 2 + 1, none⟩) e).trans (Hcell1.out j hj).2⟩⟩
  have hps := pairs_same _ _ m c1 c d w2 Hm.out (by omega) hq2 hp2
  have Hps := Lib.hid hps
  have Hp2 := Lib.hid hp2
  clear hps hp2 hq2 tg1 x1
  go_wp2_with fail
  refine Hps.out.mono ?_
  rintro e w3 ⟨rfl, hb3⟩
  have Hb3 := Lib.hid hb3
  have Hp3 := Lib.hid (Hp2.out.below hb3)
  have n1 : (m == 0) = false := by rw [beq_eq_false_iff_ne]; omega
  have n2 : ((m : Int) == 0) = false := by rw [beq_eq_false_iff_ne]; omega
  have n3 : decide (16 < (m : Int)) = false := decide_eq_false (by omega)
  have n4 : ¬ 16 < m := by omega
  clear hb3 Hps
  have hbad : ∀ wr, Below w3.heap.size w3 wr → ¬ OKs S.heads.length d → err = 302 ∧ StepE Z S C F G gl w wr := fun wr hbr hno => by
    rcases HM.out with ⟨he, hn, _⟩ | ⟨_, ho, _⟩
    · have hnn : Next Z S w S wr := (((H.out.mem.next Hb1.out).trans hn).below Hb3.out).below hbr
      exact ⟨he, _, _, _, _, _, _, Step.same H.out Hr.out Hv.out hnn⟩
    · exact absurd ho hno
  have Hbad := Lib.hid hbad
  clear hbad
  go_wp2_with fail
  go_loopw [10] (fun i wr => ∃ k : Nat, k ≤ m ∧ i = .int .i64 k ∧ Below w3.heap.size w3 wr ∧ (∀ i, i < k → 0 ≤ d[i]!.1 ∧ d[i]!.1 < (N : Int)) ∧ ∀ i, i < k → ∀ j, j < i → d[j]!.1 ≠ d[i]!.1) (fun i _ => m - (intOf i).toNat)
  case atStart => exact ⟨0, Nat.zero_le _, rfl, Below.refl _ _, fun i hi => absurd hi (Nat.not_lt_zero i), fun i hi => absurd hi (Nat.not_lt_zero i)⟩
  case round =>
    obtain ⟨k, hk, rfl, hbr, hin, hdis⟩ := hrel
    by_cases hlt : k < m
    · rcases Hp3.out with h0 | ⟨g', o', e', hcl3⟩
      · exact absurd h0 (by rw [Hm.out]; omega)
      · obtain ⟨rfl, rfl⟩ : gp = g' ∧ o = o' := by
          injection e' with e'
          injection e' with e1 e2
          exact ⟨e1, e2⟩
        have hcl4 : ∀ j, j < m → wr.cell? ⟨gp, o + j * 2, none⟩ = some (.int .i64 d[j]!.1) := fun j hj => (hbr.cell (p := ⟨gp, o + j * 2, none⟩) (World.block_lt_of_cell? _ _ (hcl3 j (by rw [Hm.out]; exact hj)).1)).trans (hcl3 j (by rw [Hm.out]; exact hj)).1
        have a0 := hcl4 k hlt
        obtain ⟨kk, hkk⟩ : ∃ x, d[k]!.1 = x := ⟨_, rfl⟩
        rw [hkk] at a0
        have Hkk := Lib.hid hkk
        have Hbr := Lib.hid hbr
        have Hin := Lib.hid hin
        have Hdis := Lib.hid hdis
        have Hcl4 := Lib.hid hcl4
        clear hkk hbr hin hdis hcl4 hcl3 e'
        by_cases hr0 : 0 ≤ kk ∧ kk < (N : Int)
        · have m1 : decide (kk < 0) = false := decide_eq_false (by omega)
          have m2 : decide ((N : Int) ≤ kk) = false := decide_eq_false (by omega)
          go_wp2_with fail
          clear a0
          obtain ⟨wo, rfl⟩ : ∃ wo, wo = wr := ⟨_, rfl⟩
          go_loopw [11] (fun i wr => ∃ j : Nat, j ≤ k ∧ i = .int .i64 j ∧ Below wo.heap.size wo wr ∧ ∀ j', j' < j → d[j']!.1 ≠ kk) (fun i _ => k - (intOf i).toNat)
          case atStart => exact ⟨0, Nat.zero_le _, rfl, Below.refl _ _, fun i hi => absurd hi (Nat.not_lt_zero i)⟩
          case round =>
            obtain ⟨j, hj, rfl, hbi, hne⟩ := hrel
            by_cases hlt2 : j < k
            · have q0 := (hbi.cell (p := ⟨gp, o + j * 2, none⟩) (World.block_lt_of_cell? _ _ (Hcl4.out j (by omega)))).trans (Hcl4.out j (by omega))
              have q1 := (hbi.cell (p := ⟨gp, o + k * 2, none⟩) (World.block_lt_of_cell? _ _ (Hcl4.out k hlt))).trans (Hcl4.out k hlt)
              rw [Hkk.out] at q1
              obtain ⟨kj, hkj⟩ : ∃ x, d[j]!.1 = x := ⟨_, rfl⟩
              rw [hkj] at q0
              have Hkj := Lib.hid hkj
              have Hbi := Lib.hid hbi
              have Hne := Lib.hid hne
              have hjm : j < m := by omega
              clear hkj hbi hne
              by_cases heq : kj = kk
              · have hq : (kj == kk) = true := by rw [beq_iff_eq]; exact heq
                obtain ⟨he, hst⟩ := Hbad.out wr.drew ((Hbr.out.trans (Hbi.out.mono Hbr.out.size)).drew) (fun ho => by
                  have := ho.2 j k hlt2 (by rw [Hm.out]; exact hlt)
                  rw [Hkj.out, Hkk.out] at this
                  exact this heq)
                have h302 : (err == 302) = true := by rw [he]; rfl
                have Hst := Lib.hid hst
                clear hst he heq
                go_wp2_with fail
                refine wp_region_still_tail 10 (by kernel_rfl) (by kernel_rfl) ?_
                simp only [List.take_succ_cons, List.take_zero, List.drop_succ_cons, List.drop_zero]
                change wpStill _ _ (World.drew _) _ _ _
                repeat (first | (refine wpStill_step (fun K hK => ?_); go_simp; refine hK _ ?_; clear hK K))
                refine wpStill_nil ?_
                change wpList _ _ _ _ _ (World.drew _)
                go_wp2_with fail
                go_ret
                exact ⟨rfl, Hst.out⟩
              · have hq : (kj == kk) = false := by rw [beq_eq_false_iff_ne]; exact heq
                have Heq := Lib.hid heq
                clear heq
                go_wp2_with fail
                refine wp_region_still_tail 10 (by kernel_rfl) (by kernel_rfl) ?_
                simp only [List.take_succ_cons, List.take_zero, List.drop_succ_cons, List.drop_zero]
                change wpStill _ _ (World.drew _) _ _ _
                repeat (first | (refine wpStill_step (fun K hK => ?_); go_simp; refine hK _ ?_; clear hK K))
                refine wpStill_nil ?_
                change wpList _ _ _ _ _ (World.drew _)
                go_wp2_with fail
                go_roundw
                case rel =>
                  refine ⟨j + 1, by omega, by go_num, Hbi.out.drew, fun j' hj' => ?_⟩
                  by_cases e : j' = j
                  · subst e; rw [Hkj.out]; exact Heq.out
                  · exact Hne.out j' (by omega)
                case measure => simp [intOf]; omega
            · have ej : j = k := by omega
              have Hbi := Lib.hid hbi
              have Hne := Lib.hid hne
              clear hbi hne
              go_wp2_with fail
              go_roundw
              case rel =>
                refine ⟨k + 1, by omega, by go_num, Hbr.out.trans (Hbi.out.mono Hbr.out.size), fun i hi => ?_, fun i hi j' hj' => ?_⟩
                · by_cases e : i = k
                  · subst e; rw [Hkk.out]; exact hr0
                  · exact Hin.out i (by omega)
                · by_cases e : i = k
                  · subst e; rw [Hkk.out]; exact Hne.out j' (by omega)
                  · exact Hdis.out i (by omega) j' hj'
              case measure => simp [intOf]; omega
        · obtain ⟨he, hst⟩ := Hbad.out wr Hbr.out (fun ho => hr0 (by have := ho.1 k (by rw [Hm.out]; exact hlt); rw [Hkk.out, HN.out] at this; exact this))
          have h302 : (err == 302) = true := by rw [he]; rfl
          have Hst := Lib.hid hst
          clear hst he
          rcases Int.lt_or_le kk 0 with hneg | hpos
          · have m1 : decide (kk < 0) = true := decide_eq_true hneg
            go_wp2_with fail
            go_ret
            exact ⟨rfl, Hst.out⟩
          · have m1 : decide (kk < 0) = false := decide_eq_false (by omega)
            have m2 : decide ((N : Int) ≤ kk) = true := decide_eq_true (by omega)
            go_wp2_with fail
            go_ret
            exact ⟨rfl, Hst.out⟩
    · have ek : k = m := by omega
      have hoks : OKs S.heads.length d := ⟨fun i hi => by rw [HN.out]; exact hin i (by rw [Hm.out] at hi; omega), fun j i hji hi => hdis i (by rw [Hm.out] at hi; omega) j hji⟩
      rcases HM.out with ⟨_, _, hno⟩ | ⟨he0, _, d', hperm, hok', hCh⟩
      · exact absurd hoks hno
      · obtain ⟨wo, rfl⟩ : ∃ wo, wo = wr := ⟨_, rfl⟩
        have hl0 : l.length = N := Hr.out.len.trans HN.out
        have hrow : ∀ i, i < l.length → CellIs wo gl i (.int .i64 (l.getD i 0)) := fun i hi => by
          have h0 := Hr.out.cells i (by rw [← Hr.out.len]; exact hi)
          have e1 := Hb1.out.block gl Hgl.out
          have e2 := Hk2.out.block gl (Nat.lt_of_lt_of_le Hgl.out Hb1.out.size) (by rw [Hr.out.tag]; exact fun h => h rfl)
          have e3 := Hb3.out.block gl (Nat.lt_of_lt_of_le Hgl.out (Nat.le_trans Hb1.out.size Hk2.out.size))
          have e4 := hbr.block gl (Nat.lt_of_lt_of_le Hgl.out (Nat.le_trans Hb1.out.size (Nat.le_trans Hk2.out.size Hb3.out.size)))
          exact (((h0.of_block e1).of_block e2).of_block e3).of_block e4
        have hinj : ∀ j k, j < k → k < m → keyO d j ≠ keyO d k := fun j k h1 h2 => by
          have p1 := hoks.1 j (by rw [Hm.out]; omega)
          have p2 := hoks.1 k (by rw [Hm.out]; exact h2)
          have p3 := hoks.2 j k h1 (by rw [Hm.out]; exact h2)
          unfold keyO
          omega
        have hkey : ∀ k, k < m → ((keyO d k : Nat) : Int) = d[k]!.1 ∧ keyO d k < N := fun k h2 => by
          have p2 := hoks.1 k (by rw [Hm.out]; exact h2)
          rw [HN.out] at p2
          unfold keyO
          omega
        have hcl5 : ∀ k, k < m → wo.cell? ⟨gp, o + k * 2, none⟩ = some (.int .i64 (keyO d k : Nat)) ∧ wo.cell? ⟨gp, o + k * 2 + 1, none⟩ = some (.int .i64 (valO d k)) := fun k hk => by
          rcases Hp3.out with h0 | ⟨g', o', e', hcl3⟩
          · exact absurd h0 (by rw [Hm.out]; omega)
          · injection e' with e'
            injection e' with e1 e2
            subst e1
            subst e2
            obtain ⟨r0, r1⟩ := hcl3 k (by rw [Hm.out]; exact hk)
            rw [(hkey k hk).1]
            exact ⟨(hbr.cell (p := ⟨gp, o + k * 2, none⟩) (World.block_lt_of_cell? _ _ r0)).trans r0, (hbr.cell (p := ⟨gp, o + k * 2 + 1, none⟩) (World.block_lt_of_cell? _ _ r1)).trans r1⟩
        have hgpo : gp < wo.heap.size := World.block_lt_of_cell? _ _ (hcl5 0 (by omega)).1
        subst he0
        have Hrow := Lib.hid hrow
        have Hinj := Lib.hid hinj
        have Hkey := Lib.hid hkey
        have Hcl5 := Lib.hid hcl5
        have Hoks := Lib.hid hoks
        have Hperm := Lib.hid hperm
        have Hok' := Lib.hid hok'
        have HCh := Lib.hid hCh
        have Hbr := Lib.hid hbr
        have Hl0 := Lib.hid hl0
        have Hgpo := Lib.hid hgpo
        have hlf : ¬ k < m := hlt
        clear hin hdis hbr hoks hperm hok' hCh hrow hinj hkey hcl5 hl0 hgpo ek hk
        go_wp2_with fail
        go_loopw [12] (fun i wr => ∃ q : Nat, q ≤ m ∧ i = .int .i64 q ∧ Sw gl wo.heap.size l (keyO d) (valO d) wo wr q) (fun i _ => m - (intOf i).toNat)
        case atStart => exact ⟨0, Nat.zero_le _, rfl, Hrow.out, Keep.refl _ _ _⟩
        case round =>
          obtain ⟨q, hq, rfl, hT⟩ := hrel
          by_cases hlt3 : q < m
          · have e1 := hT.keep.block gp Hgpo.out Hpl.out
            have c1 := (World.cell?_of_block (a := ⟨gp, o + q * 2, none⟩) e1).trans (Hcl5.out q hlt3).1
            have c2 := (World.cell?_of_block (a := ⟨gp, o + q * 2 + 1, none⟩) e1).trans (Hcl5.out q hlt3).2
            have kN := (Hkey.out q hlt3).2
            have c6 := hT.head (keyO d q) (by rw [Hl0.out]; exact kN)
            have hstep := hT.step (by rw [Hl0.out]; exact kN)
            obtain ⟨kq, hkq⟩ : ∃ x, keyO d q = x := ⟨_, rfl⟩
            obtain ⟨vq, hvq⟩ : ∃ x, valO d q = x := ⟨_, rfl⟩
            rw [hkq] at c1 c6 hstep kN
            rw [hvq] at c2 hstep
            have kNi : (kq : Int) < (N : Int) := by omega
            have c6c : wr.drew.cell? ⟨gl, kq, none⟩ = _ := c6.cell
            have c6f : wr.drew.frozen? ⟨gl, kq, none⟩ = false := c6.frz
            have Hstep := Lib.hid hstep
            clear hT hstep hkq hvq e1 c6
            go_wp2_with fail
            refine wp_region_still_tail 12 (by kernel_rfl) (by kernel_rfl) ?_
            simp only [List.take_succ_cons, List.take_zero, List.drop_succ_cons, List.drop_zero]
            change wpStill _ _ (World.drew _) _ _ _
            repeat (first | (refine wpStill_step (fun K hK => ?_); go_simp; refine hK _ ?_; clear hK K))
            refine wpStill_nil ?_
            change wpList _ _ _ _ _ (World.drew _)
            go_wp2_with fail
            go_roundw
            case rel => exact ⟨q + 1, by omega, by go_num, Hstep.out⟩
            case measure => simp [intOf]; omega
          · have eq : q = m := by omega
            rw [eq] at hT
            have hsize : d'.size = m := by
              have e := Hperm.out.length_eq
              simp only [Array.length_toList] at e
              rw [e, Hm.out]
            have hst : StepE Z S C F G gl w wr := by
              have hr' := Hr.out
              refine Step.write H.out d'.size (keyO d') (valO d') (by omega) (by have := Hrm.out.free; omega) (fun j hj => ?_) (fun j k h1 h2 => ?_) (ChangedEnd.from HCh.out (H.out.mem.next Hb1.out)) (headsK l (keyO d) (valO d) m) (by rw [headsK_length]; exact hr'.len) (fun j hj => ?_) (fun c hc hf => ?_) hr'.tag Hgl.out ?_ (fun j hj => hT.head j (by rw [hr'.len]; exact hj))
              · have p2 := Hok'.out.1 j hj
                unfold keyO
                omega
              · have p1 := Hok'.out.1 j (by omega)
                have p2 := Hok'.out.1 k h2
                have p3 := Hok'.out.2 j k h1 h2
                unfold keyO
                omega
              · obtain ⟨i, hi, ei⟩ := perm_find Hperm.out j hj
                have e1 : keyO d' j = keyO d i := by unfold keyO; rw [ei]
                have e2 : valO d' j = valO d i := by unfold valO; rw [ei]
                rw [e1, e2]
                exact headsK_hit _ _ _ m Hinj.out (fun j hj => by rw [Hl0.out]; exact (Hkey.out j hj).2) i m (by rw [← Hm.out]; exact hi) (Nat.le_refl _)
              · rw [headsK_far _ _ _ _ _ fun j hj e => ?_]
                · exact (Hv.out c hc).symm
                · obtain ⟨i, hi, ei⟩ := perm_find Hperm.out.symm j (by rw [Hm.out]; exact hj)
                  refine hf i hi ?_
                  rw [← e]
                  unfold keyO
                  rw [ei]
              · exact ((Keep.of_below (Hb3.out.trans (Hbr.out.mono Hb3.out.size))).trans (hT.keep.mono (Nat.le_trans Hb3.out.size Hbr.out.size)))
            have Hst := Lib.hid hst
            clear hst hT eq
            go_wp2_with fail
            go_ret
            exact ⟨rfl, Hst.out⟩
end Go.Proofs.YtadelkancmbanaaGreat

/-
  The law's many: none, or too many.
-/
namespace Go.Proofs.YtadelkancmbanaaGreat
open Go.RowKit
attribute [local go_sem ↓] Go.wp_at_zero Go.wp_at_succ

set_option maxRecDepth 100000 in
set_option maxHeartbeats 3200000 in
theorem many_none (Z : Fix) (gl capl N c : Nat) (p : Option Addr) (w : World) :
    Calls Tryz.prog 27 #[mVal Z, .slice (some ⟨gl, 0, none⟩) N capl, .slice p 0 c] w fun e w' => e = .returned (.bool true) ∧ Below w.heap.size w w' := by
  obtain ⟨W0, hW0⟩ : ∃ W0, W0 = w.alloc (.cells #[.pointer (some ⟨Z.X.x, 0, none⟩), .pointer (some ⟨Z.K.p, 0, none⟩), .pointer (some ⟨Z.X.e, 0, none⟩), .pointer (some ⟨Z.X.c, 0, none⟩)] 33) := ⟨_, rfl⟩
  have b0 : Below w.heap.size w W0 := by rw [hW0]; exact (Below.refl _ _).alloc (Nat.le_refl _) _
  have hg6 : W0.heap[w.heap.size]? = some (.cells #[.pointer (some ⟨Z.X.x, 0, none⟩), .pointer (some ⟨Z.K.p, 0, none⟩), .pointer (some ⟨Z.X.e, 0, none⟩), .pointer (some ⟨Z.X.c, 0, none⟩)] 33 (0, 0)) := by rw [hW0]; exact heap_alloc_new _ _
  have x1 : W0.cell? ⟨w.heap.size, 0, none⟩ = some (.pointer (some ⟨Z.X.x, 0, none⟩)) := by simp [World.cell?, hg6]
  have hf : ∀ c' p', Calls Tryz.prog 11 #[.pointer (some ⟨Z.X.x, 0, none⟩), .pointer none, .slice p' 0 c'] W0 fun e w' => e = .returned (.tuple #[.int .i64 0, .int .i64 301]) ∧ Below W0.heap.size W0 w' := fun c' p' => bMany_few Z.X.x 0 c' p' W0 (.inl rfl)
  have hps : ∀ w' p' q' c1 c2, Calls Tryz.prog 62 #[.slice p' 0 c1, .slice q' 0 c2] w' fun e w'' => e = .returned (.bool true) ∧ Below w'.heap.size w' w'' := fun w' p' q' c1 c2 => pairs_same p' q' 0 c1 c2 #[] w' rfl (by omega) (.inl rfl) (.inl rfl)
  have HW0 := Lib.hid hW0
  have Hb0 := Lib.hid b0
  have Hf := Lib.hid hf
  have Hps := Lib.hid hps
  clear hW0 b0 hg6 hf hps
  have hpure : ∀ w' : World, Sem.run Tryz.prog (pure #[] : Sem (Array Value)) w' = .ok #[] w' := fun _ => rfl
  unfold mVal
  cases p with
  | none =>
    go_enter Tryz.func27, Tryz.ntmps27
    go_wp2_with fail
    rw [← HW0.out]
    refine (Hf.out _ _).mono ?_
    rintro e w2 ⟨rfl, hb2⟩
    have Hb2 := Lib.hid hb2
    clear hb2
    go_wp2_with fail
    refine (Hps.out w2 _ _ _ _).mono ?_
    rintro e w3 ⟨rfl, hb3⟩
    have Hb3 := Lib.hid hb3
    clear hb3
    go_wp2_with fail
    go_ret
    exact ⟨rfl, Hb0.out.trans ((Hb2.out.trans (Hb3.out.mono Hb2.out.size)).mono Hb0.out.size)⟩
  | some a =>
    go_enter Tryz.func27, Tryz.ntmps27
    go_wp2_with fail
    rw [← HW0.out]
    refine (Hf.out _ _).mono ?_
    rintro e w2 ⟨rfl, hb2⟩
    have Hb2 := Lib.hid hb2
    clear hb2
    go_wp2_with fail
    refine (Hps.out w2 _ _ _ _).mono ?_
    rintro e w3 ⟨rfl, hb3⟩
    have Hb3 := Lib.hid hb3
    clear hb3
    go_wp2_with fail
    go_ret
    exact ⟨rfl, Hb0.out.trans ((Hb2.out.trans (Hb3.out.mono Hb2.out.size)).mono Hb0.out.size)⟩
set_option maxRecDepth 100000 in
set_option maxHeartbeats 3200000 in
theorem many_much (Z : Fix) (gl capl N m c : Nat) (p : Option Addr) (d : Array (Int × Int)) (w : World) (hp : PVal p d w) (hm : d.size = m) (hs : 17 ≤ m ∧ m ≤ 20) :
    Calls Tryz.prog 27 #[mVal Z, .slice (some ⟨gl, 0, none⟩) N capl, .slice p m c] w fun e w' => e = .returned (.bool true) ∧ Below w.heap.size w w' := by
  rcases hp with h0 | ⟨gp, o, rfl, hcl⟩
  · omega
  obtain ⟨W0, hW0⟩ : ∃ W0, W0 = w.alloc (.cells #[.pointer (some ⟨Z.X.x, 0, none⟩), .pointer (some ⟨Z.K.p, 0, none⟩), .pointer (some ⟨Z.X.e, 0, none⟩), .pointer (some ⟨Z.X.c, 0, none⟩)] 33) := ⟨_, rfl⟩
  obtain ⟨ip, hip, zp0, zp1, zp2⟩ := info_parts infoBPair
  have b0 : Below w.heap.size w W0 := by rw [hW0]; exact (Below.refl _ _).alloc (Nat.le_refl _) _
  have hflat := flat_get d d.toList rfl
  have hlen : (d.toList.flatMap encP).length = m * 2 := by rw [flat_length, ← hm]; simp
  have hnews : ∀ j u, (d.toList.flatMap encP)[j]? = some u → W0.cell? ((⟨gp, o, none⟩ : Addr).add j) = some u := fun j u hj => by
    rw [hflat] at hj
    have hjl : j < 2 * d.size := by
      rcases Nat.lt_or_ge j (2 * d.size) with h | h
      · exact h
      · rw [if_neg (by simp; omega)] at hj; cases hj
    rw [if_pos (by simp; omega)] at hj
    injection hj with hj
    rw [Addr.add_lit, ← hj]
    have hc2 := hcl (j / 2) (by omega)
    by_cases e : j % 2 = 0
    · rw [if_pos e]
      have ej : o + j / 2 * 2 = o + j := by omega
      rw [ej] at hc2
      exact (b0.cell (p := ⟨gp, o + j, none⟩) (World.block_lt_of_cell? _ _ hc2.1)).trans hc2.1
    · rw [if_neg e]
      have ej : o + j / 2 * 2 + 1 = o + j := by omega
      rw [ej] at hc2
      exact (b0.cell (p := ⟨gp, o + j, none⟩) (World.block_lt_of_cell? _ _ hc2.2)).trans hc2.2
  have hone : ∀ u ∈ d.toList.flatMap encP, u.oneCell' = true := fun u hu => by
    obtain ⟨x, _, hx⟩ := List.mem_flatMap.1 hu
    exact encP_one x u hx
  have hg6 : W0.heap[w.heap.size]? = some (.cells #[.pointer (some ⟨Z.X.x, 0, none⟩), .pointer (some ⟨Z.K.p, 0, none⟩), .pointer (some ⟨Z.X.e, 0, none⟩), .pointer (some ⟨Z.X.c, 0, none⟩)] 33 (0, 0)) := by rw [hW0]; exact heap_alloc_new _ _
  have hsz0 : W0.heap.size = w.heap.size + 1 := by rw [hW0]; simp
  have hgp : gp < w.heap.size := World.block_lt_of_cell? _ _ (hcl 0 (by omega)).1
  have Hgp := Lib.hid hgp
  have Hcl := Lib.hid hcl
  have Hm := Lib.hid hm
  have HW0 := Lib.hid hW0
  have Hb0 := Lib.hid b0
  have Hlen := Lib.hid hlen
  have Hnews := Lib.hid hnews
  have Hone := Lib.hid hone
  have Hflat := Lib.hid hflat
  have Hg6 := Lib.hid hg6
  have Hsz0 := Lib.hid hsz0
  have n1 : (m == 0) = false := by rw [beq_eq_false_iff_ne]; omega
  have n2 : ((m : Int) == 0) = false := by rw [beq_eq_false_iff_ne]; omega
  have n3 : decide (16 < (m : Int)) = true := decide_eq_true (by omega)
  have n4 : 16 < m := by omega
  have n5 : ¬ m = 0 := by omega
  clear hcl hm hW0 b0 hlen hnews hone hflat hg6 hsz0 hgp
  unfold mVal
  go_enter Tryz.func27, Tryz.ntmps27
  go_wp2_with (at_builtin; rw [← HW0.out]; go_loud (refine wpList_append_lies _ rfl (.const (.slice none 0 0)) (.tmp 13) 25 rfl W0.heap.size 52 ip _ 2 16 Tryz.underlying25 hip zp0 zp1 zp2 rfl (by decide) (.slice none 0 0) 0 [] rfl (World.ownsRow_nil _ _ _ _) ⟨gp, o, none⟩ m c (d.toList.flatMap encP) rfl Hlen.out Hnews.out Hone.out (by omega) (by unfold maxLen; omega) (by omega) (Nat.le_refl _) W0.heap.size rfl ?_; intro g1 c1 w1 hown1 hgrow1 hat1 hlt1; rw [Nat.zero_add, List.nil_append] at hown1; rw [Nat.zero_add]; have x1 : w1.cell? ⟨w.heap.size, 0, none⟩ = some (.pointer (some ⟨Z.X.x, 0, none⟩)) := (by have e := (hgrow1.block w.heap.size (by rw [Hsz0.out]; omega) (fun h => by cases h)).trans Hg6.out; simp [World.cell?, e]); have Hown1 := Lib.hid hown1; have Hgrow1 := Lib.hid hgrow1; clear hown1 hgrow1 hat1 hlt1))
  have hb1 : Below w.heap.size w w1 := Hb0.out.grown Hgrow1.out (by rw [Hsz0.out]; omega) (fun g hg => by cases hg)
  have hf := bMany_few Z.X.x m c1 (some ⟨g1, 0, none⟩) w1 (.inr n4)
  have Hb1 := Lib.hid hb1
  have Hf := Lib.hid hf
  clear hb1 hf
  refine Hf.out.mono ?_
  rintro e w2 ⟨rfl, hb2⟩
  have hp2 : PVal (some ⟨gp, o, none⟩) d w2 := PVal.below (.inr ⟨gp, o, rfl, Hcl.out⟩) (Hb1.out.trans (hb2.mono Hb1.out.size))
  have hq1 : PVal (some ⟨g1, 0, none⟩) d w1 := .inr ⟨g1, 0, rfl, fun j hj => by
    have hj' : j < m := by rw [← Hm.out]; exact hj
    rw [Nat.zero_add]
    refine ⟨?_, ?_⟩
    · rw [Hown1.out.cellAt _ (by omega), Hflat.out, if_pos (by simp; omega), if_pos (by omega)]
      have e : j * 2 / 2 = j := by omega
      rw [e]
    · rw [Hown1.out.cellAt _ (by omega), Hflat.out, if_pos (by simp; omega), if_neg (by omega)]
      have e : (j * 2 + 1) / 2 = j := by omega
      rw [e]⟩
  have hps := pairs_same _ _ m c1 c d w2 Hm.out (by omega) (hq1.below hb2) hp2
  have Hps := Lib.hid hps
  have Hb2 := Lib.hid hb2
  clear hps hp2 hq1 hb2 x1
  go_wp2_with fail
  refine Hps.out.mono ?_
  rintro e w3 ⟨rfl, hb3⟩
  have Hb3 := Lib.hid hb3
  clear hb3
  go_wp2_with fail
  go_ret
  exact ⟨rfl, Hb1.out.trans ((Hb2.out.trans (Hb3.out.mono Hb2.out.size)).mono Hb1.out.size)⟩
end Go.Proofs.YtadelkancmbanaaGreat
