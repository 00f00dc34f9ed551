/-
  The law itself, walked.
-/
import Derived.Test.YtadelkancmbanaaGreatBAlone
namespace Go.Proofs.YtadelkancmbanaaGreat
open Go.RowKit
attribute [local go_sem ↓] Go.wp_at_zero Go.wp_at_succ

section
variable {Z : Fix} {B0 BB b6 gl N k : Nat} {w w1 w2 : World} {vv : Value} {S : St} {C : Nat → List Ver} {F : List Nat} {W : List Wait} {G : Int} {l : List Int} {sn : List Sn}
theorem LI.next (hc : LIc B0 BB b6 gl N w) (h : LI Z B0 BB b6 gl N w k vv S C F W G l sn w1) (hn : Next Z S w1 S w2) : LI Z B0 BB b6 gl N w k vv S C F W G l sn w2 := by
  have hN : 1 ≤ S.heads.length := by have := h.len; have := hc.N; omega
  have hb6 : b6 < w1.heap.size := (Array.getElem?_eq_some_iff.1 h.box.2).1
  exact ⟨h.inv.next hn, h.len, h.row.next hN hn, h.val, h.snaps.next hN hn, h.away.next hc.b0 hn, ⟨h.box.1, (hn.keep.block b6 hb6 (by rw [h.box.1]; exact fun h => h rfl)).trans h.box.2⟩, owns_of_block h.vrow fun g hg => hn.keep.block g (h.vrow.lt g hg).2 (by rw [(h.vtag g hg).1]; exact fun h => h rfl), h.vtag, h.free, h.gens, h.made, h.now, h.cnow, h.few, h.ls, Nat.le_trans h.base hn.keep.size⟩
end
theorem infoBSh : (Tryz.prog.info? 41).map (fun i => (i.zero, i.size, i.bytes)) = some (some (.agg #[.int .i64 0, .int .i64 0, .slice none 0 0, .bool false]), 4, 48) := by kernel_rfl
theorem leases_full (ls : List Int) (h : ∀ i, i < ls.length → ls.getD i 0 ≠ 0) : ls.countP (· ≠ 0) = ls.length := by
  refine List.countP_eq_length.2 fun a ha => ?_
  obtain ⟨i, hi, e⟩ := List.mem_iff_getElem.1 ha
  have := h i hi
  rw [List.getD_eq_getElem?_getD, List.getElem?_eq_getElem hi, Option.getD_some, e] at this
  simpa using this
theorem leases_some (ls : List Int) (i : Nat) (hi : i < ls.length) (hz : ls.getD i 0 = 0) : ls.countP (· ≠ 0) < ls.length := by
  rcases Nat.lt_or_eq_of_le (List.countP_le_length (p := fun x : Int => decide (x ≠ 0)) (l := ls)) with h | h
  · exact h
  · have := List.countP_eq_length.1 h ls[i] (List.getElem_mem hi)
    rw [List.getD_eq_getElem?_getD, List.getElem?_eq_getElem hi, Option.getD_some] at hz
    simp [hz] at this

set_option maxRecDepth 100000 in
set_option maxHeartbeats 6400000 in
theorem bondAlone_any (fa sa : Option Addr) (N n fcap scap : Nat) (w : World) (hf : N = 0 ∨ ∃ (s o : Nat) (zs : List Int), fa = some ⟨s, o, none⟩ ∧ zs.length = N ∧ ∀ j, j < N → w.cell? ⟨s, o + j, none⟩ = some (.int .i64 (zs.getD j 0))) (hs : ScriptB sa n w) :
    Calls Tryz.prog 3 #[.slice fa N fcap, .slice sa n scap] w fun e w' => e = .returned (.bool true) ∧ Below w.heap.size w w' := by
  have hkn := known_law w
  have Hkn := Lib.hid hkn
  have Hf := Lib.hid hf
  have Hs := Lib.hid hs
  clear hkn hf hs
  rcases Nat.lt_or_ge N 1 with hN0 | hN1
  · have n1 : decide ((N : Int) < 1) = true := decide_eq_true (by omega)
    have n1b : N < 1 := hN0
    go_enter Tryz.func3, Tryz.ntmps3
    go_wp2_with fail
    refine Hkn.out.mono ?_
    rintro e w1 ⟨rfl, hb1⟩
    go_wp2_with fail
    go_ret
    exact ⟨rfl, hb1⟩
  rcases Nat.lt_or_ge 16 N with hN2 | hN2
  · have n1 : decide ((N : Int) < 1) = false := decide_eq_false (by omega)
    have n2 : decide (16 < (N : Int)) = true := decide_eq_true (by omega)
    have n1b : ¬ N = 0 := by omega
    go_enter Tryz.func3, Tryz.ntmps3
    go_wp2_with fail
    refine Hkn.out.mono ?_
    rintro e w1 ⟨rfl, hb1⟩
    go_wp2_with fail
    go_ret
    exact ⟨rfl, hb1⟩
  rcases Nat.lt_or_ge 150 n with hn2 | hn2
  · have n1 : decide ((N : Int) < 1) = false := decide_eq_false (by omega)
    have n2 : decide (16 < (N : Int)) = false := decide_eq_false (by omega)
    have n3 : decide (150 < (n : Int)) = true := decide_eq_true (by omega)
    have n1b : ¬ N = 0 := by omega
    go_enter Tryz.func3, Tryz.ntmps3
    go_wp2_with fail
    refine Hkn.out.mono ?_
    rintro e w1 ⟨rfl, hb1⟩
    go_wp2_with fail
    go_ret
    exact ⟨rfl, hb1⟩
  · have n1 : decide ((N : Int) < 1) = false := decide_eq_false (by omega)
    have n2 : decide (16 < (N : Int)) = false := decide_eq_false (by omega)
    have n3 : decide (150 < (n : Int)) = false := decide_eq_false (by omega)
    have n1b : ¬ N = 0 := by omega
    rcases Hf.out with h0 | ⟨s, o, zs, rfl, hzl, hfc⟩
    · omega
    have Hfc := Lib.hid hfc
    have Hzl := Lib.hid hzl
    clear hfc hzl
    go_enter Tryz.func3, Tryz.ntmps3
    go_wp2_with fail
    refine Hkn.out.mono ?_
    rintro e w1 ⟨rfl, hb1⟩
    have Hb1 := Lib.hid hb1
    clear hb1 Hkn
    go_wp2_with fail
    clear n1 n2 n3 n1b
    go_loopw [5] (fun i wr => ∃ k : Nat, k ≤ n ∧ i = .int .i64 k ∧ w1 = wr ∧ ∀ j, j < k → ∀ so oo kind a b c p m cp d, sa = some ⟨so, oo, none⟩ → OpAt so (oo + j * 5) w kind a b c p m cp d → m ≤ 20) (fun i _ => n - (intOf i).toNat)
    case atStart => exact ⟨0, Nat.zero_le _, rfl, rfl, fun j hj => absurd hj (Nat.not_lt_zero j)⟩
    case round =>
      obtain ⟨k, hk, rfl, hw, hfew⟩ := hrel
      by_cases hlt : k < n
      · rcases Hs.out with h0 | ⟨so, oo, rfl, hops⟩
        · omega
        obtain ⟨kind, a, b, c, p, m, cp, d, hop⟩ := hops k hlt
        have hso : so < w.heap.size := World.block_lt_of_cell? _ _ hop.k
        have e4 := (Hb1.out.cell (p := ⟨so, oo + k * 5 + 4, none⟩) hso).trans hop.l
        rw [hw] at e4
        have Hop := Lib.hid hop
        have Hfew := Lib.hid hfew
        have Hw := Lib.hid hw
        clear hops hop hfew hso
        rcases Nat.lt_or_ge 20 m with hm | hm
        · have m1 : decide (20 < (m : Int)) = true := decide_eq_true (by omega)
          go_wp2_with fail
          go_ret
          exact ⟨rfl, by rw [← Hw.out]; exact Hb1.out⟩
        · have m1 : decide (20 < (m : Int)) = false := decide_eq_false (by omega)
          go_wp2_with fail
          go_roundw
          case rel =>
            refine ⟨k + 1, by omega, by go_num, Hw.out, fun j hj so' oo' kind' a' b' c' p' m' cp' d' e1 h1 => ?_⟩
            by_cases e : j = k
            · subst e
              injection e1 with e1
              injection e1 with e2 e3
              subst e2
              subst e3
              have q := Hop.out.l
              rw [h1.l] at q
              injection q with q
              injection q with q1 q2 q3
              omega
            · exact Hfew.out j (by omega) so' oo' kind' a' b' c' p' m' cp' d' e1 h1
          case measure => simp [intOf]; omega
      · have ek : k = n := by omega
        subst hw
        rw [ek] at hfew
        have Hfew := Lib.hid hfew
        have hmk := makes_any 4096 3 N s o fcap zs w1 Hzl.out.symm ⟨hN1, hN2⟩ ⟨by omega, by decide⟩ (by decide) (fun j hj => (Hb1.out.cell (p := ⟨s, o + j, none⟩) (World.block_lt_of_cell? _ _ (Hfc.out j hj))).trans (Hfc.out j hj))
        have Hmk := Lib.hid hmk
        clear hfew hmk ek hk
        go_wp2_with fail
        refine Hmk.out.mono ?_
        rintro e w3 ⟨Z, S, C, rfl, hfr⟩
        obtain ⟨W4, hW4⟩ : ∃ W4, W4 = w3.alloc (.cells #[.pointer (some ⟨Z.X.x, 0, none⟩), .pointer (some ⟨Z.K.p, 0, none⟩), .pointer (some ⟨Z.X.e, 0, none⟩), .pointer (some ⟨Z.X.c, 0, none⟩)] 33) := ⟨_, rfl⟩
        have gM : W4.heap[w3.heap.size]? = some (mObj Z) := by rw [hW4]; exact heap_alloc_new _ _
        have bW4 : Below w3.heap.size w3 W4 := by rw [hW4]; exact (Below.refl _ _).alloc (Nat.le_refl _) _
        have sW4 : W4.heap.size = w3.heap.size + 1 := by rw [hW4]; simp
        have x1 : (w3.alloc (.cells #[.pointer (some ⟨Z.X.x, 0, none⟩), .pointer (some ⟨Z.K.p, 0, none⟩), .pointer (some ⟨Z.X.e, 0, none⟩), .pointer (some ⟨Z.X.c, 0, none⟩)] 33)).cell? ⟨w3.heap.size, 0, none⟩ = some (.pointer (some ⟨Z.X.x, 0, none⟩)) := by
          rw [World.cell?_alloc_new]; rfl
        have hb4 : Below w.heap.size w W4 := Hb1.out.trans ((hfr.keep.trans (bW4.mono hfr.keep.size)).mono Hb1.out.size)
        obtain ⟨ii, hii, zi0, zi1, zi2⟩ := info_parts infoBI
        have hnews : ∀ j u, (intRow zs)[j]? = some u → W4.cell? ((⟨s, o, none⟩ : Addr).add j) = some u := fun j u hj => by
          have hjl : j < zs.length := by
            rcases Nat.lt_or_ge j zs.length with h | h
            · exact h
            · rw [List.getElem?_eq_none (by unfold intRow; simpa using h)] at hj; cases hj
          rw [intRow_get zs j hjl] at hj
          injection hj with hj
          rw [← hj, Addr.add_lit]
          have h0 := Hfc.out j (by rw [← Hzl.out]; exact hjl)
          exact (hb4.cell (p := ⟨s, o + j, none⟩) (World.block_lt_of_cell? _ _ h0)).trans h0
        have hone : ∀ u ∈ intRow zs, u.oneCell' = true := fun u hu => by
          obtain ⟨x, _, rfl⟩ := List.mem_map.1 hu
          rfl
        have hlenR : (intRow zs).length = N * 1 := by unfold intRow; simp; exact Hzl.out
        have HW4 := Lib.hid hW4
        have GM := Lib.hid gM
        have HbW4 := Lib.hid bW4
        have HsW4 := Lib.hid sW4
        have Hb4 := Lib.hid hb4
        have Hnews := Lib.hid hnews
        have Hone := Lib.hid hone
        have HlenR := Lib.hid hlenR
        have Hfr := Lib.hid hfr
        clear hW4 gM bW4 sW4 hb4 hnews hone hlenR hfr Hmk
        unfold mVal
        go_wp2_with (at_builtin; rw [← HW4.out]; go_loud (refine wpList_append_lies _ rfl (.const (.slice none 0 0)) (.tmp 56) 22 rfl W4.heap.size 3 ii _ 1 8 Tryz.underlying22 hii zi0 zi1 zi2 rfl (by decide) (.slice none 0 0) 0 [] rfl (World.ownsRow_nil _ _ _ _) ⟨s, o, none⟩ N fcap (intRow zs) rfl HlenR.out Hnews.out Hone.out (by omega) (by unfold maxLen; omega) (by omega) (Nat.le_refl _) W4.heap.size rfl ?_; intro g5 c5 w5 hown5 hgrow5 hat5 hlt5; rw [Nat.zero_add, List.nil_append] at hown5; rw [Nat.zero_add]; have Hown5 := Lib.hid hown5; have Hgrow5 := Lib.hid hgrow5; clear hown5 hgrow5 hat5 hlt5))
        have hb5 : Below W4.heap.size W4 w5 := (Below.refl _ _).grown Hgrow5.out (Nat.le_refl _) (fun g hg => by cases hg)
        have hg5 := Hown5.out.lt g5 rfl
        have hi5 := (Hfr.out.inv.below HbW4.out).below hb5
        have hlic : LIc w.heap.size w5.heap.size w3.heap.size g5 N w := ⟨Nat.le_refl _, by have := hb5.size; have := HsW4.out; omega, hg5.2, by have := Hfr.out.keep.size; have := Hb1.out.size; omega, by have := Hb4.out.size; omega, by have := HsW4.out; omega, ⟨hN1, hN2⟩⟩
        have hli0 : LI Z w.heap.size w5.heap.size w3.heap.size g5 N w 0 (.slice none 0 0) S C ((F0 4096).drop N) [] N zs [] w5 := by
          have ht5 : S.tag g5 = 0 := Hfr.out.inv.mem.tags.new g5 (by have := HsW4.out; omega)
          refine ⟨hi5, Hfr.out.len, ⟨by rw [Hfr.out.len]; exact Hzl.out, fun j hj => ?_, ht5⟩, fun c hc => ?_, ⟨fun x hx => (by cases hx), fun x hx => (by cases hx), List.Pairwise.nil, ?_⟩, ⟨fun k hk => Hfr.out.tag k (by have := Hb1.out.size; omega), Hb4.out.trans (hb5.mono Hb4.out.size)⟩, ⟨Hfr.out.inv.mem.tags.new _ (Nat.le_refl _), (hb5.block _ (by have := HsW4.out; omega)).trans GM.out⟩, World.ownsRow_nil _ _ _ _, fun g hg => (by cases hg), ?_, by omega, by rw [Hfr.out.made]; omega, by rw [Hfr.out.now]; decide, by rw [Hfr.out.cnow]; decide, by decide, by rw [Hfr.out.ls]; rfl, Nat.le_refl _⟩
          · rw [Hfr.out.len] at hj
            refine ⟨?_, Hown5.out.frozenAt _⟩
            rw [Hown5.out.cellAt _ (by omega), intRow_get zs j (by rw [Hzl.out]; exact hj)]
          · rw [Hfr.out.len] at hc
            obtain ⟨x, hx, hxv, _⟩ := Hfr.out.one c hc
            unfold topOf
            rw [hx]
            exact hxv
          · rw [Hfr.out.ls]; rfl
          · rw [List.length_drop, F0_length]; omega
        have Hlic := Lib.hid hlic
        have Hli0 := Lib.hid hli0
        clear hb5 hg5 hi5 hlic hli0 x1
        go_wp2_with fail
        go_loopw [10, 9] (fun i vv wr => ∃ k : Nat, k ≤ n ∧ i = .int .i64 k ∧ ∃ S C F W G l sn, LI Z w.heap.size w5.heap.size w3.heap.size g5 N w k vv S C F W G l sn wr) (fun i _ _ => n - (intOf i).toNat)
        case atStart => exact ⟨0, Nat.zero_le _, rfl, _, _, _, _, _, _, _, Hli0.out⟩
        case round =>
          clear Hli0 Hown5 Hgrow5 Hfr HW4 GM HbW4 HsW4 Hnews Hone HlenR Hfc
          obtain ⟨k, hk, rfl, S, C, F, W, G, l, sn, hL⟩ := hrel
          by_cases hlt : k < n
          · rcases Hs.out with h0 | ⟨so, oo, rfl, hops⟩
            · omega
            obtain ⟨kind, a, b, c, p, m, cp, d, hop⟩ := hops k hlt
            have hm20 : m ≤ 20 := Hfew.out k hlt so oo kind a b c p m cp d rfl hop
            have hso : so < w.heap.size := World.block_lt_of_cell? _ _ hop.k
            have hab := hL.away.below
            have o0 := (hab.cell (p := ⟨so, oo + k * 5, none⟩) hso).trans hop.k
            have o1 := (hab.cell (p := ⟨so, oo + k * 5 + 1, none⟩) hso).trans hop.a
            have o2 := (hab.cell (p := ⟨so, oo + k * 5 + 2, none⟩) hso).trans hop.b
            have o3 := (hab.cell (p := ⟨so, oo + k * 5 + 3, none⟩) hso).trans hop.c
            have o4 := (hab.cell (p := ⟨so, oo + k * 5 + 4, none⟩) hso).trans hop.l
            obtain ⟨W1, hW1⟩ : ∃ W1, W1 = wr.alloc (.cells #[.int .i64 kind, .int .i64 a, .int .i64 b, .int .i64 c, .slice p m cp] 27) := ⟨_, rfl⟩
            have bW1 : Below wr.heap.size wr W1 := by rw [hW1]; exact (Below.refl _ _).alloc (Nat.le_refl _) _
            have gO : W1.heap[wr.heap.size]? = some (.cells #[.int .i64 kind, .int .i64 a, .int .i64 b, .int .i64 c, .slice p m cp] 27 (0, 0)) := by rw [hW1]; exact heap_alloc_new _ _
            have hL1 := hL.more Hlic.out bW1
            obtain ⟨y0, y1, y2, y3⟩ := mObj_cells hL1.box.2
            have z0 : W1.cell? ⟨wr.heap.size, 0, none⟩ = some (.int .i64 kind) := by simp [World.cell?, gO]
            have z1 : W1.cell? ⟨wr.heap.size, 1, none⟩ = some (.int .i64 a) := by simp [World.cell?, gO]
            have z2 : W1.cell? ⟨wr.heap.size, 2, none⟩ = some (.int .i64 b) := by simp [World.cell?, gO]
            have z3 : W1.cell? ⟨wr.heap.size, 3, none⟩ = some (.int .i64 c) := by simp [World.cell?, gO]
            have z4 : W1.cell? ⟨wr.heap.size, 4, none⟩ = some (.slice p m cp) := by simp [World.cell?, gO]
            have hvf : ∃ p9 c9, u9 = .slice p9 sn.length c9 := by
              rcases hL.vrow.2 with ⟨e, h0⟩ | ⟨g9, c9, _, e, _⟩
              · exact ⟨none, 0, by rw [e, h0]⟩
              · exact ⟨some ⟨g9, 0, none⟩, c9, e⟩
            obtain ⟨p9, c9, rfl⟩ := hvf
            have Z1 := Lib.hid z1
            have Z2 := Lib.hid z2
            have Y := Lib.hid (And.intro y0 (And.intro y1 (And.intro y2 y3)))
            have HGO := Lib.hid gO
            have HbW1 := Lib.hid bW1
            have HL := Lib.hid hL
            have HL1 := Lib.hid hL1
            have HW1 := Lib.hid hW1
            have Hop := Lib.hid hop
            have hk150 : k < 150 := by omega
            rw [hW1] at y0 y1 y2 y3 z0 z1 z2 z3 z4
            clear hL hL1 hW1 bW1 gO hop hops hso hab
            by_cases hk4 : kind = 4
            · subst hk4
              go_wp2_with fail
              rw [← HW1.out]
              clear y0 y1 y2 y3 z0 z1 z2 z3 z4
              go_loopw [13, 12] (fun j hd wq => ∃ q : Nat, q ≤ sn.length ∧ j = .int .i64 q ∧ hd = .int .i64 ((sn.take q).countP (·.is) : Nat) ∧ W1 = wq) (fun j _ _ => sn.length - (intOf j).toNat)
              case atStart => exact ⟨0, Nat.zero_le _, rfl, rfl, rfl⟩
              case round =>
                obtain ⟨q, hq, rfl, rfl, hwq⟩ := hrel
                subst hwq
                by_cases hql : q < sn.length
                · obtain ⟨gv, cv, ev, hBv, hlv⟩ := HL1.out.vrow.form (by omega)
                  injection ev with ev1 ev2 ev3
                  subst ev1
                  have hvr := HL1.out.vrow
                  rw [ev3] at hvr
                  have c3 : W1.cell? ⟨gv, q * 4 + 3, none⟩ = some (.bool (sn[q]!).is) := by
                    rw [hvr.cellAt _ (by omega), snCells_get N sn q 3 hql (by omega)]
                    rfl
                  have htk : (sn.take (q + 1)).countP (·.is) = (sn.take q).countP (·.is) + (if (sn[q]!).is then 1 else 0) := by
                    rw [getElem!_pos sn q hql, List.take_succ_eq_append_getElem hql, List.countP_append, List.countP_singleton]
                  have hmi : (q : Int) < (sn.length : Int) := by omega
                  have hcle : (sn.take q).countP (·.is) ≤ q := Nat.le_trans List.countP_le_length (by rw [List.length_take]; omega)
                  obtain ⟨cq, hcq⟩ : ∃ v, (sn.take q).countP (·.is) = v := ⟨_, rfl⟩
                  obtain ⟨xi, hxi⟩ : ∃ v, (sn[q]!).is = v := ⟨_, rfl⟩
                  rw [hxi] at c3
                  rw [hcq, hxi] at htk
                  rw [hcq] at hcle ⊢
                  have Htk := Lib.hid htk
                  clear ev2 ev3 hvr hBv hlv htk hxi hcq
                  have hsm : sn.length ≤ 150 := by have := HL1.out.few; omega
                  cases xi with
                  | true =>
                    go_wp2_with fail
                    go_roundw
                    case rel => exact ⟨q + 1, by omega, by go_num, by rw [Htk.out, if_pos rfl]; go_num, trivial⟩
                    case measure => simp [intOf]; omega
                  | false =>
                    go_wp2_with fail
                    go_roundw
                    case rel => exact ⟨q + 1, by omega, by go_num, by rw [Htk.out, if_neg (by decide), Nat.add_zero], trivial⟩
                    case measure => simp [intOf]; omega
                · have eq : q = sn.length := by omega
                  rw [eq, List.take_length]
                  have hcnt := HL1.out.snaps.count
                  have hl3 := HL1.out.ls
                  have htake := ctake_any Z.X.c Z.cc S.cnow S.ls W1 HL1.out.inv.mem.ck (HL1.out.room hk150).cnow
                  obtain ⟨hc, hhc⟩ : ∃ v, sn.countP (·.is) = v := ⟨_, rfl⟩
                  rw [hhc] at hcnt ⊢
                  have Hcnt := Lib.hid hcnt
                  have Hl3 := Lib.hid hl3
                  have Htake := Lib.hid htake
                  obtain ⟨y0, y1, y2, y3⟩ := Y.out
                  clear hcnt hl3 htake hhc eq hq hql y0 y1 y2
                  go_wp2_with fail
                  refine Htake.out.mono ?_
                  rintro e w6 hT
                  have hk6 := hT.keep
                  by_cases hall : ∀ i, i < S.ls.length → S.ls.getD i 0 ≠ 0
                  · obtain ⟨rfl, hck6⟩ := hT.none hall
                    have hn6 : Next Z S W1 S w6 := HL1.out.inv.mem.nextCk (cnow := S.cnow) (ls := S.ls) hck6 hk6
                    have hL6 := HL1.out.next Hlic.out hn6
                    have m1 : decide ((hc : Int) < 3) = false := decide_eq_false (by have := leases_full _ hall; have := Hcnt.out; have := Hl3.out; omega)
                    have HL6 := Lib.hid hL6
                    clear hL6 hn6 hck6 hall hk6 hT
                    unfold snapVal
                    go_wp2_with fail
                    go_roundw
                    case rel => exact ⟨k + 1, by omega, by go_num, _, _, _, _, _, _, _, (HL6.out.more Hlic.out ((Below.refl _ _).alloc (Nat.le_refl _) _)).idle hk150⟩
                    case measure => simp [intOf]; omega
                  · obtain ⟨li, hli, hlz, rfl, hck6⟩ := hT.some hall
                    have hn6 := HL1.out.inv.mem.nextCk (cnow := S.cnow + 1) (ls := S.ls.set li (S.cnow + 1)) hck6 hk6
                    have m1 : decide ((hc : Int) < 3) = true := decide_eq_true (by have := leases_some _ li hli hlz; have := Hcnt.out; have := Hl3.out; omega)
                    have Hn6 := Lib.hid hn6
                    clear hn6 hck6 hk6 hT
                    unfold snapVal
                    go_wp2_with fail
                    obtain ⟨W7, hW7⟩ : ∃ W7, W7 = w6.alloc (.cells #[.int .i64 (li : Nat), .int .i64 S.cnow] 39) := ⟨_, rfl⟩
                    have bW7 : Below w6.heap.size w6 W7 := by rw [hW7]; exact (Below.refl _ _).alloc (Nat.le_refl _) _
                    have sW7 : W7.heap.size = w6.heap.size + 1 := by rw [hW7]; simp
                    have gW7 : W7.heap[w6.heap.size]? = some (.cells #[.int .i64 (li : Nat), .int .i64 S.cnow] 39 (0, 0)) := by rw [hW7]; exact heap_alloc_new _ _
                    have hn7 := Hn6.out.below bW7
                    have hll := HL1.out.row.len
                    rw [HL1.out.len] at hll
                    have hnews7 : ∀ j u, (intRow l)[j]? = some u → W7.cell? ((⟨g5, 0, none⟩ : Addr).add j) = some u := fun j u hj => by
                      have hjl : j < l.length := by
                        rcases Nat.lt_or_ge j l.length with h | h
                        · exact h
                        · rw [List.getElem?_eq_none (by unfold intRow; simpa using h)] at hj; cases hj
                      rw [intRow_get l j hjl] at hj
                      injection hj with hj
                      rw [← hj, Addr.add_lit, Nat.zero_add]
                      have h0 := HL1.out.row.cells j (by rw [HL1.out.len]; omega)
                      exact (h0.of_block (hn7.keep.block g5 h0.lt (by rw [HL1.out.row.tag]; exact fun h => h rfl))).cell
                    have hone7 : ∀ u ∈ intRow l, u.oneCell' = true := fun u hu => by
                      obtain ⟨x, _, rfl⟩ := List.mem_map.1 hu
                      rfl
                    have hlen7 : (intRow l).length = N * 1 := by unfold intRow; simp; exact hll
                    have hvr7 : W7.ownsRow w5.heap.size 41 4 (.slice p9 sn.length c9) sn.length (snCells N sn) :=
                      owns_of_block HL1.out.vrow fun g hg => hn7.keep.block g (HL1.out.vrow.lt g hg).2 (by rw [(HL1.out.vtag g hg).1]; exact fun h => h rfl)
                    have hv7 : ∀ g, (Value.slice p9 sn.length c9).ownBlock = some g → g < w6.heap.size := fun g hg => Nat.lt_of_lt_of_le (HL1.out.vrow.lt g hg).2 Hn6.out.keep.size
                    have q7 : W7.cell? ⟨w6.heap.size, 0, none⟩ = some (.int .i64 (li : Nat)) ∧ W7.cell? ⟨w6.heap.size, 1, none⟩ = some (.int .i64 S.cnow) := by constructor <;> simp [World.cell?, gW7]
                    have hBB7 : w5.heap.size ≤ w6.heap.size := Nat.le_trans HL1.out.base Hn6.out.keep.size
                    obtain ⟨ss, hss, zs0, zs1, zs2⟩ := info_parts infoBSh
                    have hsm : sn.length ≤ 150 := by have := HL1.out.few; omega
                    rw [← hW7]
                    have HsW7 := Lib.hid sW7
                    have Hlz := Lib.hid hlz
                    have Hn7 := Lib.hid hn7
                    have Hnews7 := Lib.hid hnews7
                    have Hone7 := Lib.hid hone7
                    have Hlen7 := Lib.hid hlen7
                    have Hvr7 := Lib.hid hvr7
                    have Hv7 := Lib.hid hv7
                    have Hq7 := Lib.hid q7
                    clear hW7 bW7 sW7 gW7 hn7 hll hnews7 hone7 hlen7 hvr7 hv7 q7 m1 hlz
                    refine Reg.start (fun w' => w'.cell? ⟨w6.heap.size, 0, none⟩ = some (.int .i64 (li : Nat)) ∧ w'.cell? ⟨w6.heap.size, 1, none⟩ = some (.int .i64 S.cnow)) [] (by kernel_rfl) ?_ (fun hHeld => ?_)
                    · first | exact True.intro | ((try dsimp only); first | exact Hq7.out | exact Hq8.out | exact ⟨(old_cell _ _ _ Hl8.out).trans Hq8.out.1, (old_cell _ _ _ Hl8.out).trans Hq8.out.2⟩ | exact Hq9.out)
                    refine Reg.takeP (i := 0) (v := ?v3x33_0) rfl (by kernel_rfl) (by kernel_rfl) (by kernel_rfl) (by kernel_rfl) (fun _ _ _ h => h) (Or.inl ⟨by rfl, ?h3x33_0⟩) (fun _ => hHeld) ?r3x33_0
                    case h3x33_0 => (intro wS hSw; (try dsimp only at hSw); go_simp; all_goals with_reducible rfl)
                    try simp only [Act.put, List.setIfInBounds_toArray, List.set_cons_zero, List.set_cons_succ]
                    refine Reg.take (i := 1) (v := ?v3x33_1) rfl (by kernel_rfl) (by kernel_rfl) (by kernel_rfl) (by kernel_rfl) (fun _ _ _ h => h) (Or.inl ⟨by rfl, ?h3x33_1⟩) hHeld ?r3x33_1
                    case h3x33_1 => (intro wS hSw; (try dsimp only at hSw); go_simp; all_goals with_reducible rfl)
                    try simp only [Act.put, List.setIfInBounds_toArray, List.set_cons_zero, List.set_cons_succ]
                    refine Reg.takeP (i := 2) (v := ?v3x33_2) rfl (by kernel_rfl) (by kernel_rfl) (by kernel_rfl) (by kernel_rfl) (fun _ _ _ h => h) (Or.inl ⟨by rfl, ?h3x33_2⟩) (fun _ => hHeld) ?r3x33_2
                    case h3x33_2 => (intro wS hSw; (try dsimp only at hSw); go_simp; all_goals with_reducible rfl)
                    try simp only [Act.put, List.setIfInBounds_toArray, List.set_cons_zero, List.set_cons_succ]
                    refine Reg.one (i := 3) rfl (by kernel_rfl) (fun K hK => ?_)
                    (refine step_append_lies _ rfl (.const (.slice none 0 0)) (.tmp 105) 22 rfl W7.heap.size 3 ii _ 1 8 Tryz.underlying22 hii zi0 zi1 zi2 rfl (by decide) (.slice none 0 0) 0 [] rfl (World.ownsRow_nil _ _ _ _) ⟨g5, 0, none⟩ N c5 (intRow l) rfl Hlen7.out Hnews7.out Hone7.out (by omega) (by unfold maxLen; omega) (by omega) (Nat.le_refl _) W7.heap.size rfl ?_; intro g7 c7 w8 hown7 hgrow7 hat7 hlt7; rw [Nat.zero_add, List.nil_append] at hown7; rw [Nat.zero_add]; have Hown7 := Lib.hid hown7; have Hgrow7 := Lib.hid hgrow7; have hb8 : ∀ k, k < W7.heap.size → w8.heap[k]? = W7.heap[k]? := (fun k hk => Hgrow7.out.block k hk (fun e => by cases e)); have Hb8 := Lib.hid hb8; have hq8 : w8.cell? ⟨w6.heap.size, 0, none⟩ = some (.int .i64 (li : Nat)) ∧ w8.cell? ⟨w6.heap.size, 1, none⟩ = some (.int .i64 S.cnow) := ⟨(World.cell?_of_block (a := ⟨w6.heap.size, 0, none⟩) (Hb8.out _ (by have := HsW7.out; show w6.heap.size < _; omega))).trans Hq7.out.1, (World.cell?_of_block (a := ⟨w6.heap.size, 1, none⟩) (Hb8.out _ (by have := HsW7.out; show w6.heap.size < _; omega))).trans Hq7.out.2⟩; have Hq8 := Lib.hid hq8; have hs8 : W7.heap.size ≤ w8.heap.size := Hgrow7.out.size; have hl8 : w6.heap.size < w8.heap.size := (by have := HsW7.out; omega); have hvr8 : w8.ownsRow w5.heap.size 41 4 (.slice p9 sn.length c9) sn.length (snCells N sn) := (owns_of_block Hvr7.out fun g hg => Hb8.out g (by have := Hv7.out g hg; have := HsW7.out; omega)); have Hvr8 := Lib.hid hvr8; have Hs8 := Lib.hid hs8; have Hl8 := Lib.hid hl8; clear hown7 hgrow7 hat7 hlt7 hb8 hq8 hvr8 hs8 hl8)
                    refine hK.out _ _ (fun _ => ?_) (fun hHeld => ?_)
                    · first | exact True.intro | ((try dsimp only); first | exact Hq7.out | exact Hq8.out | exact ⟨(old_cell _ _ _ Hl8.out).trans Hq8.out.1, (old_cell _ _ _ Hl8.out).trans Hq8.out.2⟩ | exact Hq9.out)
                    replace hHeld := hHeld (by decide)
                    clear hK K
                    try simp only [Act.put, List.setIfInBounds_toArray, List.set_cons_zero, List.set_cons_succ]
                    refine Reg.takeP (i := 4) (v := ?v3x33_4) rfl (by kernel_rfl) (by kernel_rfl) (by kernel_rfl) (by kernel_rfl) (fun _ _ _ h => h) (Or.inl ⟨by rfl, ?h3x33_4⟩) (fun _ => hHeld) ?r3x33_4
                    case h3x33_4 => (intro wS hSw; (try dsimp only at hSw); go_simp; all_goals with_reducible rfl)
                    try simp only [Act.put, List.setIfInBounds_toArray, List.set_cons_zero, List.set_cons_succ]
                    refine Reg.one (i := 5) rfl (by kernel_rfl) (fun K hK => ?_)
                    go_simp
                    refine hK.out _ _ (fun _ => ?_) (fun hHeld => ?_)
                    · first | exact True.intro | ((try dsimp only); first | exact Hq7.out | exact Hq8.out | exact ⟨(old_cell _ _ _ Hl8.out).trans Hq8.out.1, (old_cell _ _ _ Hl8.out).trans Hq8.out.2⟩ | exact Hq9.out)
                    replace hHeld := hHeld (by decide)
                    clear hK K
                    try simp only [Act.put, List.setIfInBounds_toArray, List.set_cons_zero, List.set_cons_succ]
                    refine Reg.one (i := 6) rfl (by kernel_rfl) (fun K hK => ?_)
                    (refine step_append_lies _ rfl (.tmp 103) (.tmp 108) 37 rfl w5.heap.size 41 ss _ 4 48 Tryz.underlying37 hss zs0 zs1 zs2 rfl (by decide) (.slice p9 sn.length c9) sn.length (snCells N sn) rfl (Hvr8.out.alloc _) ⟨w8.heap.size, 0, none⟩ 1 1 [.int .i64 (li : Nat), .int .i64 S.cnow, .slice (some ⟨g7, 0, none⟩) N c7, .bool true] rfl rfl (World.news_of_block (cs := #[.int .i64 (li : Nat), .int .i64 S.cnow, .slice (some ⟨g7, 0, none⟩) N c7, .bool true]) (t := 41) (fr := (0, 0)) (heap_alloc_new _ _)) (by simp [Value.oneCell']) (by decide) (by unfold maxLen; omega) (by omega) (by have := Hl8.out; simp; omega) (w8.heap.size + 1) (by simp) ?_; intro g9 d9 w9 hown9 hgrow9 hat9 hlt9; have Hown9 := Lib.hid hown9; have Hgrow9 := Lib.hid hgrow9; have Hat9 := Lib.hid hat9; have hb9 : ∀ k, k < w8.heap.size → (Value.slice p9 sn.length c9).ownBlock ≠ some k → w9.heap[k]? = w8.heap[k]? := (fun k hk he => (Hgrow9.out.block k (by simp; omega) (Ne.symm he)).trans (Below.heap_alloc _ _ _ hk)); have hq9 : w9.cell? ⟨w6.heap.size, 0, none⟩ = some (.int .i64 (li : Nat)) ∧ w9.cell? ⟨w6.heap.size, 1, none⟩ = some (.int .i64 S.cnow) := ⟨(World.cell?_of_block (a := ⟨w6.heap.size, 0, none⟩) (hb9 _ Hl8.out (fun e => Nat.lt_irrefl _ (Hv7.out _ e)))).trans Hq8.out.1, (World.cell?_of_block (a := ⟨w6.heap.size, 1, none⟩) (hb9 _ Hl8.out (fun e => Nat.lt_irrefl _ (Hv7.out _ e)))).trans Hq8.out.2⟩; have Hq9 := Lib.hid hq9; have Hb9 := Lib.hid hb9; clear hown9 hgrow9 hat9 hlt9 hb9 hq9)
                    refine hK.out _ _ (fun _ => ?_) (fun hHeld => ?_)
                    · first | exact True.intro | ((try dsimp only); first | exact Hq7.out | exact Hq8.out | exact ⟨(old_cell _ _ _ Hl8.out).trans Hq8.out.1, (old_cell _ _ _ Hl8.out).trans Hq8.out.2⟩ | exact Hq9.out)
                    replace hHeld := hHeld (by decide)
                    clear hK K
                    try simp only [Act.put, List.setIfInBounds_toArray, List.set_cons_zero, List.set_cons_succ]
                    refine Reg.takeP (i := 7) (v := ?v3x33_7) rfl (by kernel_rfl) (by kernel_rfl) (by kernel_rfl) (by kernel_rfl) (fun _ _ _ h => h) (Or.inl ⟨by rfl, ?h3x33_7⟩) (fun _ => hHeld) ?r3x33_7
                    case h3x33_7 => (intro wS hSw; (try dsimp only at hSw); go_simp; all_goals with_reducible rfl)
                    try simp only [Act.put, List.setIfInBounds_toArray, List.set_cons_zero, List.set_cons_succ]
                    refine Reg.done (by kernel_rfl) ?_ _
                    go_wp2_with fail
                    have hg7 := Hown7.out.lt g7 rfl
                    have hown1 : ∀ j, (Value.slice p9 sn.length c9).ownBlock = some j → j < W7.heap.size := fun j hj => by have := Hv7.out j hj; have := HsW7.out; omega
                    have h79 : g7 ≠ g9 := fun e => by
                      rcases Hat9.out with e9 | e9
                      · have := hown1 g9 e9; omega
                      · omega
                    have hk9 : Keep (fun j => (Value.slice p9 sn.length c9).ownBlock = some j) W7.heap.size W7 w9 := by
                      have k8 : Keep (fun j => (Value.slice p9 sn.length c9).ownBlock = some j) W7.heap.size W7 (w8.alloc (.cells #[.int .i64 (li : Nat), .int .i64 S.cnow, .slice (some ⟨g7, 0, none⟩) N c7, .bool true] 41)) := ((Keep.refl _ _ W7).drew.grown Hgrow7.out (Nat.le_refl _) (fun k hk => by cases hk)).alloc Hs8.out _
                      have hg := Hgrow9.out
                      exact k8.trans ⟨hg.os, hg.tape, hg.output, hg.size, fun j hj he => hg.block j (by have := Hs8.out; simp; omega) (Ne.symm he)⟩
                    have hat : (Value.slice p9 sn.length c9).ownBlock = some g9 ∨ W7.heap.size ≤ g9 := by
                      rcases Hat9.out with e9 | e9
                      · exact .inl e9
                      · exact .inr (by have := Hs8.out; omega)
                    have hcr : CRow N ⟨li, S.cnow, g7, c7, l, true⟩ w9 := ⟨fun j hj => by
                      have h9 := Hb9.out g7 hg7.2 (fun e => by have := hown1 g7 e; omega)
                      show w9.cell? ⟨g7, j, none⟩ = _
                      rw [World.cell?_of_block (a := ⟨g7, j, none⟩) h9, Hown7.out.cellAt _ (by omega), intRow_get l j (by have := Hlen7.out; unfold intRow at this; simp at this; omega)]⟩
                    have hfin := HL1.out.take Hlic.out hk150 li hli Hlz.out Hn7.out g7 c7 g9 d9 hk9 Hown9.out hat hg7.1 h79 hcr
                    go_roundw
                    case rel => exact ⟨k + 1, by omega, by go_num, _, _, _, _, _, _, _, hfin⟩
                    case measure => simp [intOf]; omega
            · by_cases hk5 : kind = 5
              · subst hk5
                rcases Int.lt_or_le a 0 with a0 | a0
                · have m1 : decide (0 ≤ a) = false := decide_eq_false (by omega)
                  go_wp2_with fail
                  rw [← HW1.out]
                  go_roundw
                  case rel => exact ⟨k + 1, by omega, by go_num, _, _, _, _, _, _, _, HL1.out.idle hk150⟩
                  case measure => simp [intOf]; omega
                · have m1 : decide (0 ≤ a) = true := decide_eq_true a0
                  rcases Int.lt_or_le a (sn.length : Int) with a1 | a1
                  · obtain ⟨A, rfl⟩ : ∃ A : Nat, a = (A : Int) := ⟨a.toNat, by omega⟩
                    have hA : A < sn.length := by omega
                    have m2 : decide ((A : Int) < (sn.length : Int)) = true := decide_eq_true a1
                    have m3 : decide (A < sn.length) = true := decide_eq_true hA
                    obtain ⟨gv, cv, ev, hBv, hlv⟩ := HL1.out.vrow.form (by omega)
                    injection ev with ev1 ev2 ev3
                    subst ev1
                    have hvr := HL1.out.vrow
                    rw [ev3] at hvr
                    have hmem : sn[A]! ∈ sn := by rw [getElem!_pos sn A hA]; exact List.getElem_mem hA
                    have hcell : ∀ o, o < 4 → CellIs W1 gv (A * 4 + o) ((snVals N sn[A]!)[o]?.getD undef) := fun o ho => by
                      refine ⟨?_, hvr.frozenAt _⟩
                      rw [hvr.cellAt _ (by omega), snCells_get N sn A o hA ho]
                      unfold snVals
                      have e : o = 0 ∨ o = 1 ∨ o = 2 ∨ o = 3 := by omega
                      rcases e with rfl | rfl | rfl | rfl <;> rfl
                    have c0 : CellIs W1 gv (A * 4) (.int .i64 (sn[A]!).li) := hcell 0 (by omega)
                    have c3 : CellIs W1 gv (A * 4 + 3) (.bool (sn[A]!).is) := hcell 3 (by omega)
                    cases hxi : (sn[A]!).is with
                    | false =>
                      rw [hxi] at c3
                      have c3c := c3.cell
                      rw [HW1.out] at c3c
                      clear c0 c3 hcell hvr ev2 ev3 hmem hxi hBv hlv
                      go_wp2_with fail
                      rw [← HW1.out]
                      go_roundw
                      case rel => exact ⟨k + 1, by omega, by go_num, _, _, _, _, _, _, _, HL1.out.idle hk150⟩
                      case measure => simp [intOf]; omega
                    | true =>
                      rw [hxi] at c3
                      have c3c := c3.cell
                      have c3f := c3.frz
                      rw [HW1.out] at c3c c3f
                      have Hxi := Lib.hid hxi
                      have Hev := Lib.hid ev3
                      have c0c := c0.cell
                      rw [HW1.out] at c0c
                      have hvv : (Value.slice (some ⟨gv, 0, none⟩) sn.length c9) = .slice (some ⟨gv, 0, none⟩) sn.length cv := by rw [ev3]
                      obtain ⟨hkp, hi5⟩ := HL1.out.put Hlic.out gv cv A hvv hA
                      have hgw : gv < wr.heap.size := (HL.out.vrow.lt gv rfl).2
                      have htg : S.tag gv = 0 := (HL.out.vtag gv rfl).1
                      obtain ⟨xl, hxl⟩ : ∃ v, (sn[A]!).li = v := ⟨_, rfl⟩
                      have hat := HL1.out.snaps.at_ _ hmem
                      have hcr := crelease_any Z.X.c Z.cc S.cnow S.ls xl (W1.setCell ⟨gv, A * 4 + 3, none⟩ (.bool false)).drew hi5.mem.ck (by rw [← hxl]; exact hat.li) (by rw [← hxl, (hat.yes hxi).1]; have := hat.t0; omega)
                      rw [hxl] at c0
                      have hst : ∀ w', Keep (fun j => S.tag j ≠ 0) (W1.setCell ⟨gv, A * 4 + 3, none⟩ (.bool false)).drew.heap.size (W1.setCell ⟨gv, A * 4 + 3, none⟩ (.bool false)).drew w' → w'.cell? ⟨w3.heap.size, 3, none⟩ = some (.pointer (some ⟨Z.X.c, 0, none⟩)) ∧ w'.cell? ⟨wr.heap.size, 1, none⟩ = some (.int .i64 (A : Nat)) ∧ w'.cell? ⟨gv, A * 4, none⟩ = some (.int .i64 (xl : Nat)) := fun w' hkw => by
                        have hb6 : w3.heap.size < W1.heap.size := (Array.getElem?_eq_some_iff.1 HL1.out.box.2).1
                        have hop6 : wr.heap.size < W1.heap.size := (Array.getElem?_eq_some_iff.1 HGO.out).1
                        have hz5 := hkp.size
                        have hw6 : ∀ j, S.tag j = 0 → j < W1.heap.size → w'.heap[j]? = (W1.setCell ⟨gv, A * 4 + 3, none⟩ (.bool false)).drew.heap[j]? := fun j h1 h2 => hkw.block j (Nat.lt_of_lt_of_le h2 hz5) (by rw [h1]; exact fun h => h rfl)
                        have hne1 : w3.heap.size ≠ gv := by have := (HL.out.vrow.lt gv rfl).1; have := Hlic.out.bb6; omega
                        have tO : S.tag wr.heap.size = 0 := HL.out.inv.mem.tags.new _ (Nat.le_refl _)
                        refine ⟨?_, ?_, ?_⟩
                        · rw [World.cell?_of_block (a := ⟨w3.heap.size, 3, none⟩) ((hw6 _ HL1.out.box.1 hb6).trans (hkp.block _ hb6 hne1))]
                          exact Y.out.2.2.2
                        · rw [World.cell?_of_block (a := ⟨wr.heap.size, 1, none⟩) ((hw6 _ tO hop6).trans (hkp.block _ hop6 (by omega)))]
                          exact Z1.out
                        · rw [World.cell?_of_block (a := ⟨gv, A * 4, none⟩) (hw6 _ htg (Nat.lt_trans hgw hop6))]
                          exact (c0.setc (.inr (by omega))).cell
                      have hfin : ∀ w', Next Z S (W1.setCell ⟨gv, A * 4 + 3, none⟩ (.bool false)).drew { S with ls := S.ls.set xl 0 } w' → LI Z w.heap.size w5.heap.size w3.heap.size g5 N w (k + 1) (.slice (some ⟨gv, 0, none⟩) sn.length c9) { S with ls := S.ls.set xl 0 } C F W G l (sn.set A { sn[A]! with is := false }) w' := fun w' hn => by
                        rw [← hxl] at hn ⊢
                        exact HL1.out.release Hlic.out hk150 gv cv A hvv hA hxi hn
                      have Hst := Lib.hid hst
                      have Hfin := Lib.hid hfin
                      have Hi5 := Lib.hid hi5
                      have Hcr := Lib.hid hcr
                      have hAi : (A : Int) < (sn.length : Int) := a1
                      clear c0 c3 c0c hcell ev2 hmem hxi ev3 hvr hBv hlv hst hfin hi5 hcr hat hkp hvv hgw htg hxl
                      go_wp2_with fail
                      rw [← HW1.out]
                      clear y0 y1 y2 y3 z0 z1 z2 z3 z4 c3c c3f
                      refine Reg.start (fun w' => w'.cell? ⟨w3.heap.size, 3, none⟩ = some (.pointer (some ⟨Z.X.c, 0, none⟩)) ∧ w'.cell? ⟨wr.heap.size, 1, none⟩ = some (.int .i64 (A : Nat)) ∧ w'.cell? ⟨gv, A * 4, none⟩ = some (.int .i64 (xl : Nat))) [] (by kernel_rfl) ?_ (fun hHeld => ?_)
                      · first | exact True.intro | ((try dsimp only); first | exact Hst.out _ (Keep.refl _ _ _) | exact Hst.out _ hn6.keep)
                      refine Reg.takeP (i := 0) (v := ?v3x37_0) rfl (by kernel_rfl) (by kernel_rfl) (by kernel_rfl) (by kernel_rfl) (fun _ _ _ h => h) (Or.inl ⟨by rfl, ?h3x37_0⟩) (fun _ => hHeld) ?r3x37_0
                      case h3x37_0 => (intro wS hSw; (try dsimp only at hSw); go_simp; all_goals with_reducible rfl)
                      try simp only [Act.put, List.setIfInBounds_toArray, List.set_cons_zero, List.set_cons_succ]
                      refine Reg.take (i := 1) (v := ?v3x37_1) rfl (by kernel_rfl) (by kernel_rfl) (by kernel_rfl) (by kernel_rfl) (fun _ _ _ h => h) (Or.inl ⟨by rfl, ?h3x37_1⟩) hHeld ?r3x37_1
                      case h3x37_1 => (intro wS hSw; (try dsimp only at hSw); go_simp; all_goals with_reducible rfl)
                      try simp only [Act.put, List.setIfInBounds_toArray, List.set_cons_zero, List.set_cons_succ]
                      refine Reg.takeP (i := 2) (v := ?v3x37_2) rfl (by kernel_rfl) (by kernel_rfl) (by kernel_rfl) (by kernel_rfl) (fun _ _ _ h => h) (Or.inl ⟨by rfl, ?h3x37_2⟩) (fun _ => hHeld) ?r3x37_2
                      case h3x37_2 => (intro wS hSw; (try dsimp only at hSw); go_simp; all_goals with_reducible rfl)
                      try simp only [Act.put, List.setIfInBounds_toArray, List.set_cons_zero, List.set_cons_succ]
                      refine Reg.takeP (i := 3) (v := ?v3x37_3) rfl (by kernel_rfl) (by kernel_rfl) (by kernel_rfl) (by kernel_rfl) (fun _ _ _ h => h) (Or.inl ⟨by rfl, ?h3x37_3⟩) (fun _ => hHeld) ?r3x37_3
                      case h3x37_3 => (intro wS hSw; (try dsimp only at hSw); go_simp; all_goals with_reducible rfl)
                      try simp only [Act.put, List.setIfInBounds_toArray, List.set_cons_zero, List.set_cons_succ]
                      refine Reg.take (i := 4) (v := ?v3x37_4) rfl (by kernel_rfl) (by kernel_rfl) (by kernel_rfl) (by kernel_rfl) (fun _ _ _ h => h) (Or.inl ⟨by rfl, ?h3x37_4⟩) hHeld ?r3x37_4
                      case h3x37_4 => (intro wS hSw; (try dsimp only at hSw); go_simp; all_goals with_reducible rfl)
                      try simp only [Act.put, List.setIfInBounds_toArray, List.set_cons_zero, List.set_cons_succ]
                      refine Reg.takeP (i := 5) (v := ?v3x37_5) rfl (by kernel_rfl) (by kernel_rfl) (by kernel_rfl) (by kernel_rfl) (fun _ _ _ h => h) (Or.inl ⟨by rfl, ?h3x37_5⟩) (fun _ => hHeld) ?r3x37_5
                      case h3x37_5 => (intro wS hSw; (try dsimp only at hSw); go_simp; all_goals with_reducible rfl)
                      try simp only [Act.put, List.setIfInBounds_toArray, List.set_cons_zero, List.set_cons_succ]
                      refine Reg.takeP (i := 6) (v := ?v3x37_6) rfl (by kernel_rfl) (by kernel_rfl) (by kernel_rfl) (by kernel_rfl) (fun _ _ _ h => h) (Or.inl ⟨by rfl, ?h3x37_6⟩) (fun _ => hHeld) ?r3x37_6
                      case h3x37_6 => (intro wS hSw; (try dsimp only at hSw); go_simp; all_goals with_reducible rfl)
                      try simp only [Act.put, List.setIfInBounds_toArray, List.set_cons_zero, List.set_cons_succ]
                      refine Reg.takeP (i := 7) (v := ?v3x37_7) rfl (by kernel_rfl) (by kernel_rfl) (by kernel_rfl) (by kernel_rfl) (fun _ _ _ h => h) (Or.inl ⟨by rfl, ?h3x37_7⟩) (fun _ => hHeld) ?r3x37_7
                      case h3x37_7 => (intro wS hSw; (try dsimp only at hSw); go_simp; all_goals with_reducible rfl)
                      try simp only [Act.put, List.setIfInBounds_toArray, List.set_cons_zero, List.set_cons_succ]
                      refine Reg.take (i := 8) (v := ?v3x37_8) rfl (by kernel_rfl) (by kernel_rfl) (by kernel_rfl) (by kernel_rfl) (fun _ _ _ h => h) (Or.inl ⟨by rfl, ?h3x37_8⟩) hHeld ?r3x37_8
                      case h3x37_8 => (intro wS hSw; (try dsimp only at hSw); go_simp; all_goals with_reducible rfl)
                      try simp only [Act.put, List.setIfInBounds_toArray, List.set_cons_zero, List.set_cons_succ]
                      refine Reg.one (i := 9) rfl (by kernel_rfl) (fun K hK => ?_)
                      (go_simp; refine Hcr.out.mono ?_; rintro e w6 ⟨rfl, hck6, hk6⟩; have hn6 := Hi5.out.mem.nextCk (cnow := S.cnow) (ls := S.ls.set xl 0) hck6 hk6; dsimp only)
                      refine hK.out _ _ (fun _ => ?_) (fun hHeld => ?_)
                      · first | exact True.intro | ((try dsimp only); first | exact Hst.out _ (Keep.refl _ _ _) | exact Hst.out _ hn6.keep)
                      replace hHeld := hHeld (by decide)
                      clear hK K
                      try simp only [Act.put, List.setIfInBounds_toArray, List.set_cons_zero, List.set_cons_succ]
                      refine Reg.takeP (i := 10) (v := ?v3x37_10) rfl (by kernel_rfl) (by kernel_rfl) (by kernel_rfl) (by kernel_rfl) (fun _ _ _ h => h) (Or.inl ⟨by rfl, ?h3x37_10⟩) (fun _ => hHeld) ?r3x37_10
                      case h3x37_10 => (intro wS hSw; (try dsimp only at hSw); go_simp; all_goals with_reducible rfl)
                      try simp only [Act.put, List.setIfInBounds_toArray, List.set_cons_zero, List.set_cons_succ]
                      refine Reg.done (by kernel_rfl) ?_ _
                      go_wp2_with fail
                      go_roundw
                      case rel => exact ⟨k + 1, by omega, by go_num, _, _, _, _, _, _, _, Hfin.out w6 hn6⟩
                      case measure => simp [intOf]; omega
                  · have m2 : decide (a < (sn.length : Int)) = false := decide_eq_false (by omega)
                    go_wp2_with fail
                    rw [← HW1.out]
                    go_roundw
                    case rel => exact ⟨k + 1, by omega, by go_num, _, _, _, _, _, _, _, HL1.out.idle hk150⟩
                    case measure => simp [intOf]; omega
              · by_cases hk6 : kind = 6
                · subst hk6
                  rcases Int.lt_or_le a 0 with a0 | a0
                  · have m1 : decide (0 ≤ a) = false := decide_eq_false (by omega)
                    go_wp2_with fail
                    rw [← HW1.out]
                    have q1 : W1.drew.cell? ⟨wr.heap.size, 1, none⟩ = some (.int .i64 a) := Z1.out
                    refine Reg.start (fun w' => w'.cell? ⟨wr.heap.size, 1, none⟩ = some (.int .i64 a)) [] (by kernel_rfl) ?_ (fun hHeld => ?_)
                    · first | exact True.intro | ((try dsimp only); exact q1)
                    refine Reg.takeP (i := 0) (v := ?vp_0) rfl (by kernel_rfl) (by kernel_rfl) (by kernel_rfl) (by kernel_rfl) (fun _ _ _ h => h) (Or.inl ⟨by rfl, ?hp_0⟩) (fun _ => hHeld) ?rp_0
                    case hp_0 => (intro wS hSw; (try dsimp only at hSw); go_simp; all_goals with_reducible rfl)
                    try simp only [Act.put, List.setIfInBounds_toArray, List.set_cons_zero, List.set_cons_succ]
                    refine Reg.take (i := 1) (v := ?vp_1) rfl (by kernel_rfl) (by kernel_rfl) (by kernel_rfl) (by kernel_rfl) (fun _ _ _ h => h) (Or.inl ⟨by rfl, ?hp_1⟩) hHeld ?rp_1
                    case hp_1 => (intro wS hSw; (try dsimp only at hSw); go_simp; all_goals with_reducible rfl)
                    try simp only [Act.put, List.setIfInBounds_toArray, List.set_cons_zero, List.set_cons_succ]
                    refine Reg.takeP (i := 2) (v := ?vp_2) rfl (by kernel_rfl) (by kernel_rfl) (by kernel_rfl) (by kernel_rfl) (fun _ _ _ h => h) (Or.inl ⟨by rfl, ?hp_2⟩) (fun _ => hHeld) ?rp_2
                    case hp_2 => (intro wS hSw; (try dsimp only at hSw); go_simp; all_goals with_reducible rfl)
                    try simp only [Act.put, List.setIfInBounds_toArray, List.set_cons_zero, List.set_cons_succ]
                    refine Reg.takeP (i := 3) (v := ?vp_3) rfl (by kernel_rfl) (by kernel_rfl) (by kernel_rfl) (by kernel_rfl) (fun _ _ _ h => h) (Or.inl ⟨by rfl, ?hp_3⟩) (fun _ => hHeld) ?rp_3
                    case hp_3 => (intro wS hSw; (try dsimp only at hSw); go_simp; all_goals with_reducible rfl)
                    try simp only [Act.put, List.setIfInBounds_toArray, List.set_cons_zero, List.set_cons_succ]
                    refine Reg.takeP (i := 4) (v := undef) rfl (by kernel_rfl) (by kernel_rfl) (by kernel_rfl) (by kernel_rfl) (fun _ _ _ h => h) (Or.inr ⟨by rfl, rfl⟩) (fun _ => hHeld) ?rp_4
                    try simp only [Act.put, List.setIfInBounds_toArray, List.set_cons_zero, List.set_cons_succ]
                    refine Reg.takeP (i := 5) (v := undef) rfl (by kernel_rfl) (by kernel_rfl) (by kernel_rfl) (by kernel_rfl) (fun _ _ _ h => h) (Or.inr ⟨by rfl, rfl⟩) (fun _ => hHeld) ?rp_5
                    try simp only [Act.put, List.setIfInBounds_toArray, List.set_cons_zero, List.set_cons_succ]
                    refine Reg.takeP (i := 6) (v := undef) rfl (by kernel_rfl) (by kernel_rfl) (by kernel_rfl) (by kernel_rfl) (fun _ _ _ h => h) (Or.inr ⟨by rfl, rfl⟩) (fun _ => hHeld) ?rp_6
                    try simp only [Act.put, List.setIfInBounds_toArray, List.set_cons_zero, List.set_cons_succ]
                    refine Reg.takeP (i := 7) (v := undef) rfl (by kernel_rfl) (by kernel_rfl) (by kernel_rfl) (by kernel_rfl) (fun _ _ _ h => h) (Or.inr ⟨by rfl, rfl⟩) (fun _ => hHeld) ?rp_7
                    try simp only [Act.put, List.setIfInBounds_toArray, List.set_cons_zero, List.set_cons_succ]
                    refine Reg.takeP (i := 8) (v := undef) rfl (by kernel_rfl) (by kernel_rfl) (by kernel_rfl) (by kernel_rfl) (fun _ _ _ h => h) (Or.inr ⟨by rfl, rfl⟩) (fun _ => hHeld) ?rp_8
                    try simp only [Act.put, List.setIfInBounds_toArray, List.set_cons_zero, List.set_cons_succ]
                    refine Reg.takeP (i := 9) (v := ?vp_9) rfl (by kernel_rfl) (by kernel_rfl) (by kernel_rfl) (by kernel_rfl) (fun _ _ _ h => h) (Or.inl ⟨by rfl, ?hp_9⟩) (fun _ => hHeld) ?rp_9
                    case hp_9 => (intro wS hSw; (try dsimp only at hSw); go_simp; all_goals with_reducible rfl)
                    try simp only [Act.put, List.setIfInBounds_toArray, List.set_cons_zero, List.set_cons_succ]
                    refine Reg.takeP (i := 10) (v := ?vp_10) rfl (by kernel_rfl) (by kernel_rfl) (by kernel_rfl) (by kernel_rfl) (fun _ _ _ h => h) (Or.inl ⟨by rfl, ?hp_10⟩) (fun _ => hHeld) ?rp_10
                    case hp_10 => (intro wS hSw; (try dsimp only at hSw); go_simp; all_goals with_reducible rfl)
                    try simp only [Act.put, List.setIfInBounds_toArray, List.set_cons_zero, List.set_cons_succ]
                    refine Reg.takeP (i := 11) (v := undef) rfl (by kernel_rfl) (by kernel_rfl) (by kernel_rfl) (by kernel_rfl) (fun _ _ _ h => h) (Or.inr ⟨by rfl, rfl⟩) (fun _ => hHeld) ?rp_11
                    try simp only [Act.put, List.setIfInBounds_toArray, List.set_cons_zero, List.set_cons_succ]
                    refine Reg.takeP (i := 12) (v := undef) rfl (by kernel_rfl) (by kernel_rfl) (by kernel_rfl) (by kernel_rfl) (fun _ _ _ h => h) (Or.inr ⟨by rfl, rfl⟩) (fun _ => hHeld) ?rp_12
                    try simp only [Act.put, List.setIfInBounds_toArray, List.set_cons_zero, List.set_cons_succ]
                    refine Reg.takeP (i := 13) (v := undef) rfl (by kernel_rfl) (by kernel_rfl) (by kernel_rfl) (by kernel_rfl) (fun _ _ _ h => h) (Or.inr ⟨by rfl, rfl⟩) (fun _ => hHeld) ?rp_13
                    try simp only [Act.put, List.setIfInBounds_toArray, List.set_cons_zero, List.set_cons_succ]
                    refine Reg.takeP (i := 14) (v := undef) rfl (by kernel_rfl) (by kernel_rfl) (by kernel_rfl) (by kernel_rfl) (fun _ _ _ h => h) (Or.inr ⟨by rfl, rfl⟩) (fun _ => hHeld) ?rp_14
                    try simp only [Act.put, List.setIfInBounds_toArray, List.set_cons_zero, List.set_cons_succ]
                    refine Reg.takeP (i := 15) (v := undef) rfl (by kernel_rfl) (by kernel_rfl) (by kernel_rfl) (by kernel_rfl) (fun _ _ _ h => h) (Or.inr ⟨by rfl, rfl⟩) (fun _ => hHeld) ?rp_15
                    try simp only [Act.put, List.setIfInBounds_toArray, List.set_cons_zero, List.set_cons_succ]
                    refine Reg.takeP (i := 16) (v := undef) rfl (by kernel_rfl) (by kernel_rfl) (by kernel_rfl) (by kernel_rfl) (fun _ _ _ h => h) (Or.inr ⟨by rfl, rfl⟩) (fun _ => hHeld) ?rp_16
                    try simp only [Act.put, List.setIfInBounds_toArray, List.set_cons_zero, List.set_cons_succ]
                    refine Reg.takeP (i := 17) (v := undef) rfl (by kernel_rfl) (by kernel_rfl) (by kernel_rfl) (by kernel_rfl) (fun _ _ _ h => h) (Or.inr ⟨by rfl, rfl⟩) (fun _ => hHeld) ?rp_17
                    try simp only [Act.put, List.setIfInBounds_toArray, List.set_cons_zero, List.set_cons_succ]
                    refine Reg.takeP (i := 18) (v := undef) rfl (by kernel_rfl) (by kernel_rfl) (by kernel_rfl) (by kernel_rfl) (fun _ _ _ h => h) (Or.inr ⟨by rfl, rfl⟩) (fun _ => hHeld) ?rp_18
                    try simp only [Act.put, List.setIfInBounds_toArray, List.set_cons_zero, List.set_cons_succ]
                    refine Reg.takeP (i := 19) (v := undef) rfl (by kernel_rfl) (by kernel_rfl) (by kernel_rfl) (by kernel_rfl) (fun _ _ _ h => h) (Or.inr ⟨by rfl, rfl⟩) (fun _ => hHeld) ?rp_19
                    try simp only [Act.put, List.setIfInBounds_toArray, List.set_cons_zero, List.set_cons_succ]
                    refine Reg.takeP (i := 20) (v := undef) rfl (by kernel_rfl) (by kernel_rfl) (by kernel_rfl) (by kernel_rfl) (fun _ _ _ h => h) (Or.inr ⟨by rfl, rfl⟩) (fun _ => hHeld) ?rp_20
                    try simp only [Act.put, List.setIfInBounds_toArray, List.set_cons_zero, List.set_cons_succ]
                    refine Reg.takeP (i := 21) (v := ?vp_21) rfl (by kernel_rfl) (by kernel_rfl) (by kernel_rfl) (by kernel_rfl) (fun _ _ _ h => h) (Or.inl ⟨by rfl, ?hp_21⟩) (fun _ => hHeld) ?rp_21
                    case hp_21 => (intro wS hSw; (try dsimp only at hSw); go_simp; all_goals with_reducible rfl)
                    try simp only [Act.put, List.setIfInBounds_toArray, List.set_cons_zero, List.set_cons_succ]
                    refine Reg.done (by kernel_rfl) ?_ _
                    clear y0 y1 y2 y3 z0 z1 z2 z3 z4
                    go_wp2_with fail
                    go_roundw
                    case rel => exact ⟨k + 1, by omega, by go_num, _, _, _, _, _, _, _, (HL1.out.more Hlic.out (Below.refl _ _).drew).idle hk150⟩
                    case measure => simp [intOf]; omega
                  · have m1 : decide (0 ≤ a) = true := decide_eq_true a0
                    rcases Int.lt_or_le a (sn.length : Int) with a1 | a1
                    · obtain ⟨A, rfl⟩ : ∃ A : Nat, a = (A : Int) := ⟨a.toNat, by omega⟩
                      have hA : A < sn.length := by omega
                      have m2 : decide ((A : Int) < (sn.length : Int)) = true := decide_eq_true a1
                      have m3 : decide (A < sn.length) = true := decide_eq_true hA
                      obtain ⟨gv, cv, ev, hBv, hlv⟩ := HL1.out.vrow.form (by omega)
                      injection ev with ev1 ev2 ev3
                      subst ev1
                      have hvr := HL1.out.vrow
                      rw [ev3] at hvr
                      have hlen := HL1.out.len
                      have hmem : sn[A]! ∈ sn := by rw [getElem!_pos sn A hA]; exact List.getElem_mem hA
                      have hcell : ∀ o, o < 4 → W1.cell? ⟨gv, A * 4 + o, none⟩ = (snVals N sn[A]!)[o]? := fun o ho => by
                        rw [hvr.cellAt _ (by omega), snCells_get N sn A o hA ho]
                      have hpk := peeks_law Z S C F W G (sn[A]!) b W1.drew (HL1.out.inv.below (Below.refl _ _).drew) (HL1.out.snaps.at_ _ hmem) ((HL1.out.snaps.row _ hmem).1.block rfl)
                      rw [hlen] at hpk
                      unfold snVal mVal at hpk
                      unfold snVals at hcell
                      obtain ⟨xl, hxl⟩ : ∃ v : Int, (((sn[A]!).li : Nat) : Int) = v := ⟨_, rfl⟩
                      obtain ⟨xt, hxt⟩ : ∃ v : Int, (sn[A]!).t = v := ⟨_, rfl⟩
                      obtain ⟨xg, hxg⟩ : ∃ v, (sn[A]!).g = v := ⟨_, rfl⟩
                      obtain ⟨xc, hxc⟩ : ∃ v, (sn[A]!).cap = v := ⟨_, rfl⟩
                      obtain ⟨xi, hxi⟩ : ∃ v, (sn[A]!).is = v := ⟨_, rfl⟩
                      rw [hxl, hxt, hxg, hxc, hxi] at hpk hcell
                      clear hxl hxt hxg hxc hxi
                      have hS : ∀ w', Below W1.drew.heap.size W1.drew w' → (w'.cell? ⟨wr.heap.size, 1, none⟩ = some (.int .i64 (A : Nat)) ∧ w'.cell? ⟨wr.heap.size, 2, none⟩ = some (.int .i64 b)) ∧ (w'.cell? ⟨w3.heap.size, 0, none⟩ = some (.pointer (some ⟨Z.X.x, 0, none⟩)) ∧ w'.cell? ⟨w3.heap.size, 1, none⟩ = some (.pointer (some ⟨Z.K.p, 0, none⟩)) ∧ w'.cell? ⟨w3.heap.size, 2, none⟩ = some (.pointer (some ⟨Z.X.e, 0, none⟩)) ∧ w'.cell? ⟨w3.heap.size, 3, none⟩ = some (.pointer (some ⟨Z.X.c, 0, none⟩))) ∧
                          w'.cell? ⟨gv, A * 4, none⟩ = some (.int .i64 xl) ∧ w'.cell? ⟨gv, A * 4 + 1, none⟩ = some (.int .i64 xt) ∧ w'.cell? ⟨gv, A * 4 + 2, none⟩ = some (.slice (some ⟨xg, 0, none⟩) N xc) ∧ w'.cell? ⟨gv, A * 4 + 3, none⟩ = some (.bool xi) := fun w' hb => by
                        have cc : ∀ (p : Addr) v, W1.cell? p = some v → w'.cell? p = some v := fun p v h => (hb.cell (p := p) (World.block_lt_of_cell? W1 _ h)).trans h
                        obtain ⟨v0, v1, v2, v3⟩ := Y.out
                        exact ⟨⟨cc _ _ Z1.out, cc _ _ Z2.out⟩, ⟨cc _ _ v0, cc _ _ v1, cc _ _ v2, cc _ _ v3⟩, cc _ _ (hcell 0 (by omega)), cc _ _ (hcell 1 (by omega)), cc _ _ (hcell 2 (by omega)), cc _ _ (hcell 3 (by omega))⟩
                      have HSS := Lib.hid hS
                      have Hpk := Lib.hid hpk
                      have hAi : (A : Int) < (sn.length : Int) := a1
                      clear hS hpk hcell hvr ev2 ev3 hlen hmem hBv hlv
                      go_wp2_with fail
                      rw [← HW1.out]
                      clear y0 y1 y2 y3 z0 z1 z2 z3 z4
                      refine Reg.start (fun w' => (w'.cell? ⟨wr.heap.size, 1, none⟩ = some (.int .i64 (A : Nat)) ∧ w'.cell? ⟨wr.heap.size, 2, none⟩ = some (.int .i64 b)) ∧ (w'.cell? ⟨w3.heap.size, 0, none⟩ = some (.pointer (some ⟨Z.X.x, 0, none⟩)) ∧ w'.cell? ⟨w3.heap.size, 1, none⟩ = some (.pointer (some ⟨Z.K.p, 0, none⟩)) ∧ w'.cell? ⟨w3.heap.size, 2, none⟩ = some (.pointer (some ⟨Z.X.e, 0, none⟩)) ∧ w'.cell? ⟨w3.heap.size, 3, none⟩ = some (.pointer (some ⟨Z.X.c, 0, none⟩))) ∧ w'.cell? ⟨gv, A * 4, none⟩ = some (.int .i64 xl) ∧ w'.cell? ⟨gv, A * 4 + 1, none⟩ = some (.int .i64 xt) ∧ w'.cell? ⟨gv, A * 4 + 2, none⟩ = some (.slice (some ⟨xg, 0, none⟩) N xc) ∧ w'.cell? ⟨gv, A * 4 + 3, none⟩ = some (.bool xi)) [] (by kernel_rfl) ?_ (fun hHeld => ?_)
                      · first | exact True.intro | ((try dsimp only); first | exact HSS.out _ (Below.refl _ _) | exact HSS.out _ hb2)
                      refine Reg.takeP (i := 0) (v := ?vr_0) rfl (by kernel_rfl) (by kernel_rfl) (by kernel_rfl) (by kernel_rfl) (fun _ _ _ h => h) (Or.inl ⟨by rfl, ?hr_0⟩) (fun _ => hHeld) ?rr_0
                      case hr_0 => (intro wS hSw; (try dsimp only at hSw); go_simp; all_goals with_reducible rfl)
                      try simp only [Act.put, List.setIfInBounds_toArray, List.set_cons_zero, List.set_cons_succ]
                      refine Reg.take (i := 1) (v := ?vr_1) rfl (by kernel_rfl) (by kernel_rfl) (by kernel_rfl) (by kernel_rfl) (fun _ _ _ h => h) (Or.inl ⟨by rfl, ?hr_1⟩) hHeld ?rr_1
                      case hr_1 => (intro wS hSw; (try dsimp only at hSw); go_simp; all_goals with_reducible rfl)
                      try simp only [Act.put, List.setIfInBounds_toArray, List.set_cons_zero, List.set_cons_succ]
                      refine Reg.takeP (i := 2) (v := ?vr_2) rfl (by kernel_rfl) (by kernel_rfl) (by kernel_rfl) (by kernel_rfl) (fun _ _ _ h => h) (Or.inl ⟨by rfl, ?hr_2⟩) (fun _ => hHeld) ?rr_2
                      case hr_2 => (intro wS hSw; (try dsimp only at hSw); go_simp; all_goals with_reducible rfl)
                      try simp only [Act.put, List.setIfInBounds_toArray, List.set_cons_zero, List.set_cons_succ]
                      refine Reg.takeP (i := 3) (v := ?vr_3) rfl (by kernel_rfl) (by kernel_rfl) (by kernel_rfl) (by kernel_rfl) (fun _ _ _ h => h) (Or.inl ⟨by rfl, ?hr_3⟩) (fun _ => hHeld) ?rr_3
                      case hr_3 => (intro wS hSw; (try dsimp only at hSw); go_simp; all_goals with_reducible rfl)
                      try simp only [Act.put, List.setIfInBounds_toArray, List.set_cons_zero, List.set_cons_succ]
                      refine Reg.takeP (i := 4) (v := ?vr_4) rfl (by kernel_rfl) (by kernel_rfl) (by kernel_rfl) (by kernel_rfl) (fun _ _ _ h => h) (Or.inl ⟨by rfl, ?hr_4⟩) (fun _ => hHeld) ?rr_4
                      case hr_4 => (intro wS hSw; (try dsimp only at hSw); go_simp; all_goals with_reducible rfl)
                      try simp only [Act.put, List.setIfInBounds_toArray, List.set_cons_zero, List.set_cons_succ]
                      refine Reg.take (i := 5) (v := ?vr_5) rfl (by kernel_rfl) (by kernel_rfl) (by kernel_rfl) (by kernel_rfl) (fun _ _ _ h => h) (Or.inl ⟨by rfl, ?hr_5⟩) hHeld ?rr_5
                      case hr_5 => (intro wS hSw; (try dsimp only at hSw); go_simp; all_goals with_reducible rfl)
                      try simp only [Act.put, List.setIfInBounds_toArray, List.set_cons_zero, List.set_cons_succ]
                      refine Reg.takeP (i := 6) (v := ?vr_6) rfl (by kernel_rfl) (by kernel_rfl) (by kernel_rfl) (by kernel_rfl) (fun _ _ _ h => h) (Or.inl ⟨by rfl, ?hr_6⟩) (fun _ => hHeld) ?rr_6
                      case hr_6 => (intro wS hSw; (try dsimp only at hSw); go_simp; all_goals with_reducible rfl)
                      try simp only [Act.put, List.setIfInBounds_toArray, List.set_cons_zero, List.set_cons_succ]
                      refine Reg.takeP (i := 7) (v := ?vr_7) rfl (by kernel_rfl) (by kernel_rfl) (by kernel_rfl) (by kernel_rfl) (fun _ _ _ h => h) (Or.inl ⟨by rfl, ?hr_7⟩) (fun _ => hHeld) ?rr_7
                      case hr_7 => (intro wS hSw; (try dsimp only at hSw); go_simp; all_goals with_reducible rfl)
                      try simp only [Act.put, List.setIfInBounds_toArray, List.set_cons_zero, List.set_cons_succ]
                      refine Reg.takeP (i := 8) (v := ?vr_8) rfl (by kernel_rfl) (by kernel_rfl) (by kernel_rfl) (by kernel_rfl) (fun _ _ _ h => h) (Or.inl ⟨by rfl, ?hr_8⟩) (fun _ => hHeld) ?rr_8
                      case hr_8 => (intro wS hSw; (try dsimp only at hSw); go_simp; all_goals with_reducible rfl)
                      try simp only [Act.put, List.setIfInBounds_toArray, List.set_cons_zero, List.set_cons_succ]
                      refine Reg.takeP (i := 9) (v := ?vr_9) rfl (by kernel_rfl) (by kernel_rfl) (by kernel_rfl) (by kernel_rfl) (fun _ _ _ h => h) (Or.inl ⟨by rfl, ?hr_9⟩) (fun _ => hHeld) ?rr_9
                      case hr_9 => (intro wS hSw; (try dsimp only at hSw); go_simp; all_goals with_reducible rfl)
                      try simp only [Act.put, List.setIfInBounds_toArray, List.set_cons_zero, List.set_cons_succ]
                      refine Reg.takeP (i := 10) (v := ?vr_10) rfl (by kernel_rfl) (by kernel_rfl) (by kernel_rfl) (by kernel_rfl) (fun _ _ _ h => h) (Or.inl ⟨by rfl, ?hr_10⟩) (fun _ => hHeld) ?rr_10
                      case hr_10 => (intro wS hSw; (try dsimp only at hSw); go_simp; all_goals with_reducible rfl)
                      try simp only [Act.put, List.setIfInBounds_toArray, List.set_cons_zero, List.set_cons_succ]
                      refine Reg.take (i := 11) (v := ?vr_11) rfl (by kernel_rfl) (by kernel_rfl) (by kernel_rfl) (by kernel_rfl) (fun _ _ _ h => h) (Or.inl ⟨by rfl, ?hr_11⟩) hHeld ?rr_11
                      case hr_11 => (intro wS hSw; (try dsimp only at hSw); go_simp; all_goals with_reducible rfl)
                      try simp only [Act.put, List.setIfInBounds_toArray, List.set_cons_zero, List.set_cons_succ]
                      refine Reg.takeP (i := 12) (v := ?vr_12) rfl (by kernel_rfl) (by kernel_rfl) (by kernel_rfl) (by kernel_rfl) (fun _ _ _ h => h) (Or.inl ⟨by rfl, ?hr_12⟩) (fun _ => hHeld) ?rr_12
                      case hr_12 => (intro wS hSw; (try dsimp only at hSw); go_simp; all_goals with_reducible rfl)
                      try simp only [Act.put, List.setIfInBounds_toArray, List.set_cons_zero, List.set_cons_succ]
                      refine Reg.takeP (i := 13) (v := ?vr_13) rfl (by kernel_rfl) (by kernel_rfl) (by kernel_rfl) (by kernel_rfl) (fun _ _ _ h => h) (Or.inl ⟨by rfl, ?hr_13⟩) (fun _ => hHeld) ?rr_13
                      case hr_13 => (intro wS hSw; (try dsimp only at hSw); go_simp; all_goals with_reducible rfl)
                      try simp only [Act.put, List.setIfInBounds_toArray, List.set_cons_zero, List.set_cons_succ]
                      refine Reg.take (i := 14) (v := ?vr_14) rfl (by kernel_rfl) (by kernel_rfl) (by kernel_rfl) (by kernel_rfl) (fun _ _ _ h => h) (Or.inl ⟨by rfl, ?hr_14⟩) hHeld ?rr_14
                      case hr_14 => (intro wS hSw; (try dsimp only at hSw); go_simp; all_goals with_reducible rfl)
                      try simp only [Act.put, List.setIfInBounds_toArray, List.set_cons_zero, List.set_cons_succ]
                      refine Reg.takeP (i := 15) (v := ?vr_15) rfl (by kernel_rfl) (by kernel_rfl) (by kernel_rfl) (by kernel_rfl) (fun _ _ _ h => h) (Or.inl ⟨by rfl, ?hr_15⟩) (fun _ => hHeld) ?rr_15
                      case hr_15 => (intro wS hSw; (try dsimp only at hSw); go_simp; all_goals with_reducible rfl)
                      try simp only [Act.put, List.setIfInBounds_toArray, List.set_cons_zero, List.set_cons_succ]
                      refine Reg.take (i := 16) (v := ?vr_16) rfl (by kernel_rfl) (by kernel_rfl) (by kernel_rfl) (by kernel_rfl) (fun _ _ _ h => h) (Or.inl ⟨by rfl, ?hr_16⟩) hHeld ?rr_16
                      case hr_16 => (intro wS hSw; (try dsimp only at hSw); go_simp; all_goals with_reducible rfl)
                      try simp only [Act.put, List.setIfInBounds_toArray, List.set_cons_zero, List.set_cons_succ]
                      refine Reg.takeP (i := 17) (v := ?vr_17) rfl (by kernel_rfl) (by kernel_rfl) (by kernel_rfl) (by kernel_rfl) (fun _ _ _ h => h) (Or.inl ⟨by rfl, ?hr_17⟩) (fun _ => hHeld) ?rr_17
                      case hr_17 => (intro wS hSw; (try dsimp only at hSw); go_simp; all_goals with_reducible rfl)
                      try simp only [Act.put, List.setIfInBounds_toArray, List.set_cons_zero, List.set_cons_succ]
                      refine Reg.take (i := 18) (v := ?vr_18) rfl (by kernel_rfl) (by kernel_rfl) (by kernel_rfl) (by kernel_rfl) (fun _ _ _ h => h) (Or.inl ⟨by rfl, ?hr_18⟩) hHeld ?rr_18
                      case hr_18 => (intro wS hSw; (try dsimp only at hSw); go_simp; all_goals with_reducible rfl)
                      try simp only [Act.put, List.setIfInBounds_toArray, List.set_cons_zero, List.set_cons_succ]
                      refine Reg.one (i := 19) rfl (by kernel_rfl) (fun K hK => ?_)
                      (go_simp; refine Hpk.out.mono ?_; rintro e w2 ⟨rfl, hb2⟩; dsimp only)
                      refine hK.out _ _ (fun _ => ?_) (fun hHeld => ?_)
                      · first | exact True.intro | ((try dsimp only); first | exact HSS.out _ (Below.refl _ _) | exact HSS.out _ hb2)
                      replace hHeld := hHeld (by decide)
                      clear hK K
                      try simp only [Act.put, List.setIfInBounds_toArray, List.set_cons_zero, List.set_cons_succ]
                      refine Reg.takeP (i := 20) (v := ?vr_20) rfl (by kernel_rfl) (by kernel_rfl) (by kernel_rfl) (by kernel_rfl) (fun _ _ _ h => h) (Or.inl ⟨by rfl, ?hr_20⟩) (fun _ => hHeld) ?rr_20
                      case hr_20 => (intro wS hSw; (try dsimp only at hSw); go_simp; all_goals with_reducible rfl)
                      try simp only [Act.put, List.setIfInBounds_toArray, List.set_cons_zero, List.set_cons_succ]
                      refine Reg.takeP (i := 21) (v := ?vr_21) rfl (by kernel_rfl) (by kernel_rfl) (by kernel_rfl) (by kernel_rfl) (fun _ _ _ h => h) (Or.inl ⟨by rfl, ?hr_21⟩) (fun _ => hHeld) ?rr_21
                      case hr_21 => (intro wS hSw; (try dsimp only at hSw); go_simp; all_goals with_reducible rfl)
                      try simp only [Act.put, List.setIfInBounds_toArray, List.set_cons_zero, List.set_cons_succ]
                      refine Reg.done (by kernel_rfl) ?_ _
                      go_wp2_with fail
                      go_roundw
                      case rel => exact ⟨k + 1, by omega, by go_num, _, _, _, _, _, _, _, ((HL1.out.more Hlic.out (Below.refl _ _).drew).more Hlic.out hb2).idle hk150⟩
                      case measure => simp [intOf]; omega
                    · have m2 : decide (a < (sn.length : Int)) = false := decide_eq_false (by omega)
                      go_wp2_with fail
                      rw [← HW1.out]
                      have q1 : W1.drew.cell? ⟨wr.heap.size, 1, none⟩ = some (.int .i64 a) := Z1.out
                      refine Reg.start (fun w' => w'.cell? ⟨wr.heap.size, 1, none⟩ = some (.int .i64 a)) [] (by kernel_rfl) ?_ (fun hHeld => ?_)
                      · first | exact True.intro | ((try dsimp only); exact q1)
                      refine Reg.takeP (i := 0) (v := ?vq_0) rfl (by kernel_rfl) (by kernel_rfl) (by kernel_rfl) (by kernel_rfl) (fun _ _ _ h => h) (Or.inl ⟨by rfl, ?hq_0⟩) (fun _ => hHeld) ?rq_0
                      case hq_0 => (intro wS hSw; (try dsimp only at hSw); go_simp; all_goals with_reducible rfl)
                      try simp only [Act.put, List.setIfInBounds_toArray, List.set_cons_zero, List.set_cons_succ]
                      refine Reg.take (i := 1) (v := ?vq_1) rfl (by kernel_rfl) (by kernel_rfl) (by kernel_rfl) (by kernel_rfl) (fun _ _ _ h => h) (Or.inl ⟨by rfl, ?hq_1⟩) hHeld ?rq_1
                      case hq_1 => (intro wS hSw; (try dsimp only at hSw); go_simp; all_goals with_reducible rfl)
                      try simp only [Act.put, List.setIfInBounds_toArray, List.set_cons_zero, List.set_cons_succ]
                      refine Reg.takeP (i := 2) (v := ?vq_2) rfl (by kernel_rfl) (by kernel_rfl) (by kernel_rfl) (by kernel_rfl) (fun _ _ _ h => h) (Or.inl ⟨by rfl, ?hq_2⟩) (fun _ => hHeld) ?rq_2
                      case hq_2 => (intro wS hSw; (try dsimp only at hSw); go_simp; all_goals with_reducible rfl)
                      try simp only [Act.put, List.setIfInBounds_toArray, List.set_cons_zero, List.set_cons_succ]
                      refine Reg.takeP (i := 3) (v := ?vq_3) rfl (by kernel_rfl) (by kernel_rfl) (by kernel_rfl) (by kernel_rfl) (fun _ _ _ h => h) (Or.inl ⟨by rfl, ?hq_3⟩) (fun _ => hHeld) ?rq_3
                      case hq_3 => (intro wS hSw; (try dsimp only at hSw); go_simp; all_goals with_reducible rfl)
                      try simp only [Act.put, List.setIfInBounds_toArray, List.set_cons_zero, List.set_cons_succ]
                      refine Reg.takeP (i := 4) (v := ?vq_4) rfl (by kernel_rfl) (by kernel_rfl) (by kernel_rfl) (by kernel_rfl) (fun _ _ _ h => h) (Or.inl ⟨by rfl, ?hq_4⟩) (fun _ => hHeld) ?rq_4
                      case hq_4 => (intro wS hSw; (try dsimp only at hSw); go_simp; all_goals with_reducible rfl)
                      try simp only [Act.put, List.setIfInBounds_toArray, List.set_cons_zero, List.set_cons_succ]
                      refine Reg.take (i := 5) (v := ?vq_5) rfl (by kernel_rfl) (by kernel_rfl) (by kernel_rfl) (by kernel_rfl) (fun _ _ _ h => h) (Or.inl ⟨by rfl, ?hq_5⟩) hHeld ?rq_5
                      case hq_5 => (intro wS hSw; (try dsimp only at hSw); go_simp; all_goals with_reducible rfl)
                      try simp only [Act.put, List.setIfInBounds_toArray, List.set_cons_zero, List.set_cons_succ]
                      refine Reg.takeP (i := 6) (v := ?vq_6) rfl (by kernel_rfl) (by kernel_rfl) (by kernel_rfl) (by kernel_rfl) (fun _ _ _ h => h) (Or.inl ⟨by rfl, ?hq_6⟩) (fun _ => hHeld) ?rq_6
                      case hq_6 => (intro wS hSw; (try dsimp only at hSw); go_simp; all_goals with_reducible rfl)
                      try simp only [Act.put, List.setIfInBounds_toArray, List.set_cons_zero, List.set_cons_succ]
                      refine Reg.takeP (i := 7) (v := ?vq_7) rfl (by kernel_rfl) (by kernel_rfl) (by kernel_rfl) (by kernel_rfl) (fun _ _ _ h => h) (Or.inl ⟨by rfl, ?hq_7⟩) (fun _ => hHeld) ?rq_7
                      case hq_7 => (intro wS hSw; (try dsimp only at hSw); go_simp; all_goals with_reducible rfl)
                      try simp only [Act.put, List.setIfInBounds_toArray, List.set_cons_zero, List.set_cons_succ]
                      refine Reg.takeP (i := 8) (v := ?vq_8) rfl (by kernel_rfl) (by kernel_rfl) (by kernel_rfl) (by kernel_rfl) (fun _ _ _ h => h) (Or.inl ⟨by rfl, ?hq_8⟩) (fun _ => hHeld) ?rq_8
                      case hq_8 => (intro wS hSw; (try dsimp only at hSw); go_simp; all_goals with_reducible rfl)
                      try simp only [Act.put, List.setIfInBounds_toArray, List.set_cons_zero, List.set_cons_succ]
                      refine Reg.takeP (i := 9) (v := ?vq_9) rfl (by kernel_rfl) (by kernel_rfl) (by kernel_rfl) (by kernel_rfl) (fun _ _ _ h => h) (Or.inl ⟨by rfl, ?hq_9⟩) (fun _ => hHeld) ?rq_9
                      case hq_9 => (intro wS hSw; (try dsimp only at hSw); go_simp; all_goals with_reducible rfl)
                      try simp only [Act.put, List.setIfInBounds_toArray, List.set_cons_zero, List.set_cons_succ]
                      refine Reg.takeP (i := 10) (v := ?vq_10) rfl (by kernel_rfl) (by kernel_rfl) (by kernel_rfl) (by kernel_rfl) (fun _ _ _ h => h) (Or.inl ⟨by rfl, ?hq_10⟩) (fun _ => hHeld) ?rq_10
                      case hq_10 => (intro wS hSw; (try dsimp only at hSw); go_simp; all_goals with_reducible rfl)
                      try simp only [Act.put, List.setIfInBounds_toArray, List.set_cons_zero, List.set_cons_succ]
                      refine Reg.takeP (i := 11) (v := undef) rfl (by kernel_rfl) (by kernel_rfl) (by kernel_rfl) (by kernel_rfl) (fun _ _ _ h => h) (Or.inr ⟨by rfl, rfl⟩) (fun _ => hHeld) ?rq_11
                      try simp only [Act.put, List.setIfInBounds_toArray, List.set_cons_zero, List.set_cons_succ]
                      refine Reg.takeP (i := 12) (v := undef) rfl (by kernel_rfl) (by kernel_rfl) (by kernel_rfl) (by kernel_rfl) (fun _ _ _ h => h) (Or.inr ⟨by rfl, rfl⟩) (fun _ => hHeld) ?rq_12
                      try simp only [Act.put, List.setIfInBounds_toArray, List.set_cons_zero, List.set_cons_succ]
                      refine Reg.takeP (i := 13) (v := undef) rfl (by kernel_rfl) (by kernel_rfl) (by kernel_rfl) (by kernel_rfl) (fun _ _ _ h => h) (Or.inr ⟨by rfl, rfl⟩) (fun _ => hHeld) ?rq_13
                      try simp only [Act.put, List.setIfInBounds_toArray, List.set_cons_zero, List.set_cons_succ]
                      refine Reg.takeP (i := 14) (v := undef) rfl (by kernel_rfl) (by kernel_rfl) (by kernel_rfl) (by kernel_rfl) (fun _ _ _ h => h) (Or.inr ⟨by rfl, rfl⟩) (fun _ => hHeld) ?rq_14
                      try simp only [Act.put, List.setIfInBounds_toArray, List.set_cons_zero, List.set_cons_succ]
                      refine Reg.takeP (i := 15) (v := undef) rfl (by kernel_rfl) (by kernel_rfl) (by kernel_rfl) (by kernel_rfl) (fun _ _ _ h => h) (Or.inr ⟨by rfl, rfl⟩) (fun _ => hHeld) ?rq_15
                      try simp only [Act.put, List.setIfInBounds_toArray, List.set_cons_zero, List.set_cons_succ]
                      refine Reg.takeP (i := 16) (v := undef) rfl (by kernel_rfl) (by kernel_rfl) (by kernel_rfl) (by kernel_rfl) (fun _ _ _ h => h) (Or.inr ⟨by rfl, rfl⟩) (fun _ => hHeld) ?rq_16
                      try simp only [Act.put, List.setIfInBounds_toArray, List.set_cons_zero, List.set_cons_succ]
                      refine Reg.takeP (i := 17) (v := undef) rfl (by kernel_rfl) (by kernel_rfl) (by kernel_rfl) (by kernel_rfl) (fun _ _ _ h => h) (Or.inr ⟨by rfl, rfl⟩) (fun _ => hHeld) ?rq_17
                      try simp only [Act.put, List.setIfInBounds_toArray, List.set_cons_zero, List.set_cons_succ]
                      refine Reg.takeP (i := 18) (v := undef) rfl (by kernel_rfl) (by kernel_rfl) (by kernel_rfl) (by kernel_rfl) (fun _ _ _ h => h) (Or.inr ⟨by rfl, rfl⟩) (fun _ => hHeld) ?rq_18
                      try simp only [Act.put, List.setIfInBounds_toArray, List.set_cons_zero, List.set_cons_succ]
                      refine Reg.takeP (i := 19) (v := undef) rfl (by kernel_rfl) (by kernel_rfl) (by kernel_rfl) (by kernel_rfl) (fun _ _ _ h => h) (Or.inr ⟨by rfl, rfl⟩) (fun _ => hHeld) ?rq_19
                      try simp only [Act.put, List.setIfInBounds_toArray, List.set_cons_zero, List.set_cons_succ]
                      refine Reg.takeP (i := 20) (v := undef) rfl (by kernel_rfl) (by kernel_rfl) (by kernel_rfl) (by kernel_rfl) (fun _ _ _ h => h) (Or.inr ⟨by rfl, rfl⟩) (fun _ => hHeld) ?rq_20
                      try simp only [Act.put, List.setIfInBounds_toArray, List.set_cons_zero, List.set_cons_succ]
                      refine Reg.takeP (i := 21) (v := ?vq_21) rfl (by kernel_rfl) (by kernel_rfl) (by kernel_rfl) (by kernel_rfl) (fun _ _ _ h => h) (Or.inl ⟨by rfl, ?hq_21⟩) (fun _ => hHeld) ?rq_21
                      case hq_21 => (intro wS hSw; (try dsimp only at hSw); go_simp; all_goals with_reducible rfl)
                      try simp only [Act.put, List.setIfInBounds_toArray, List.set_cons_zero, List.set_cons_succ]
                      refine Reg.done (by kernel_rfl) ?_ _
                      clear y0 y1 y2 y3 z0 z1 z2 z3 z4
                      go_wp2_with fail
                      go_roundw
                      case rel => exact ⟨k + 1, by omega, by go_num, _, _, _, _, _, _, _, (HL1.out.more Hlic.out (Below.refl _ _).drew).idle hk150⟩
                      case measure => simp [intOf]; omega
                · have j4 : (kind == 4) = false := by rw [beq_eq_false_iff_ne]; exact hk4
                  have j5 : (kind == 5) = false := by rw [beq_eq_false_iff_ne]; exact hk5
                  have j6 : (kind == 6) = false := by rw [beq_eq_false_iff_ne]; exact hk6
                  have hlen := HL1.out.len
                  have hdo := does_any Z S C F W G g5 c5 m cp l kind a b c p d W1 HL1.out.inv HL1.out.row HL1.out.val (HL1.out.room hk150) (Hop.out.pv.below HL1.out.away.below) (fun h0 x hx => by
                    have hl := Hop.out.pl h0 x hx
                    exact ⟨HL1.out.away.tag _ hl, by have := Hlic.out.gl0; omega⟩) Hop.out.sz hm20
                  rw [hlen] at hdo
                  unfold mVal opVal at hdo
                  have Hdo := Lib.hid hdo
                  clear hdo hlen hk4 hk5 hk6
                  go_wp2_with fail
                  rw [← HW1.out]
                  refine Hdo.out.mono ?_
                  rintro e w6 ⟨rfl, hst⟩
                  obtain ⟨S', C', F', W', G', l', hst⟩ := hst
                  have Hst := Lib.hid hst
                  clear hst
                  go_wp2_with fail
                  go_roundw
                  case rel => exact ⟨k + 1, by omega, by go_num, _, _, _, _, _, _, _, HL1.out.step Hlic.out hk150 Hst.out⟩
                  case measure => simp [intOf]; omega
          · have hab := hL.away.below
            obtain ⟨y0, y1, y2, y3⟩ := mObj_cells hL.box.2
            have hfl := faults_any Z.K Z.n S.tbl S.next S.head wr hL.inv.mem.pool
            have Hab := Lib.hid hab
            have Hfl := Lib.hid hfl
            clear hL hab hfl y0 y2 y3
            go_wp2_with fail
            refine Hfl.out.mono ?_
            rintro e w6 ⟨rfl, rfl⟩
            go_wp2_with fail
            go_ret
            exact ⟨rfl, Hab.out⟩
end Go.Proofs.YtadelkancmbanaaGreat
