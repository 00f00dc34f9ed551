/-
  The law's changes: a Change of a script's entries, as the plain list says.
-/
import Derived.Test.YtadelkancmbanaaJChg1
import Derived.Deep.DeepCutAuto
import Derived.Deep.CutBlock
namespace Go.Proofs.Ytadelkancmbanaa
open Go.RowKit
attribute [local go_sem ↓] Go.wp_at_zero Go.wp_at_succ

/-- What the later part of the walk sees. -/
structure Sees (b c p made s o g cap2 : Nat) (ws ws' : List Int) (es : List AEnt) (W w' : World) : Prop where
  raw : JRaw b c ws' made w'
  row : LRow p (nums ws) w'
  ents : AEntsAt s o es w'
  lent : AEntsAt g 0 es w'
  box : w'.cell? ⟨W.heap.size, 4, none⟩ = some (.slice (some ⟨s, o, none⟩) es.length cap2)
  keep : Keep (fun k => k = b ∨ k = c) W.heap.size W w'

theorem Sees.drew {b c p made s o g cap2 : Nat} {ws ws' : List Int} {es : List AEnt} {W w' : World} (h : Sees b c p made s o g cap2 ws ws' es W w') : Sees b c p made s o g cap2 ws ws' es W w'.drew :=
  ⟨h.raw.drew, h.row.of_block rfl, h.ents.of_block rfl, h.lent.of_block rfl, h.box, h.keep.drew⟩

/-- .. and the list behind some changes. -/
structure Sees3 (b c p made s o g cap2 : Nat) (ws' L : List Int) (es : List AEnt) (W w' : World) : Prop where
  raw : JRaw b c ws' made w'
  row : LRow p L w'
  ents : AEntsAt s o es w'
  lent : AEntsAt g 0 es w'
  box : w'.cell? ⟨W.heap.size, 4, none⟩ = some (.slice (some ⟨s, o, none⟩) es.length cap2)
  keep : Keep (fun k => k = b ∨ k = c ∨ k = p) W.heap.size W w'

theorem Sees.three {b c p made s o g cap2 : Nat} {ws ws' : List Int} {es : List AEnt} {W w' : World} (h : Sees b c p made s o g cap2 ws ws' es W w') : Sees3 b c p made s o g cap2 ws' (nums ws) es W w' :=
  ⟨h.raw, h.row, h.ents, h.lent, h.box, h.keep.weaken fun _ _ e => by rcases e with e | e; exact .inl e; exact .inr (.inl e)⟩
theorem Sees3.drew {b c p made s o g cap2 : Nat} {ws' L : List Int} {es : List AEnt} {W w' : World} (h : Sees3 b c p made s o g cap2 ws' L es W w') : Sees3 b c p made s o g cap2 ws' L es W w'.drew :=
  ⟨h.raw.drew, h.row.of_block rfl, h.ents.of_block rfl, h.lent.of_block rfl, h.box, h.keep.drew⟩
theorem Sees3.set {b c p made s o g cap2 q : Nat} {x : Int} {ws' L : List Int} {es : List AEnt} {W w' : World} (h : Sees3 b c p made s o g cap2 ws' L es W w') (hq : q < L.length) (hp : p ≠ b ∧ p ≠ c) (hs : s ≠ p) (hg : g ≠ p) (hl : p < W.heap.size) :
    Sees3 b c p made s o g cap2 ws' (L.set q x) es W (w'.setCell ⟨p, q, none⟩ (.int .i64 x)) :=
  ⟨h.raw.other hp.1 hp.2 _, h.row.set hq, h.ents.of_block (Below.heap_setCell _ _ _ _ hs), h.lent.of_block (Below.heap_setCell _ _ _ _ hg), (World.cell?_setCell_other _ _ _ _ (by intro e; injection e with e; omega)).trans h.box, h.keep.setCell (.inl (.inr (.inr rfl))) _⟩

set_option maxRecDepth 100000 in
set_option maxHeartbeats 4000000 in
theorem changes_some (b c p cap made s o cap2 : Nat) (k x y z : Int) (ws : List Int) (es : List AEnt) (w : World) (h : Both b c p made ws w) (hm : made < 1024) (he : AEntsAt s o es w) (hs : s < w.heap.size) (hne : s ≠ b ∧ s ≠ c ∧ s ≠ p) (h1 : 1 ≤ es.length) (h2 : es.length ≤ 100) :
    Calls Try.prog 20 #[.pointer (some ⟨b, 0, none⟩), .slice (some ⟨p, 0, none⟩) ws.length cap, opVal k x y z (.slice (some ⟨s, o, none⟩) es.length cap2)] w (DoesEnd b c p made ws w) := by
  have hbc := (opBox_cell k x y z (.slice (some ⟨s, o, none⟩) es.length cap2) w).2.2.2.2
  have few := h.raw.few
  have hln := nums_length ws
  obtain ⟨ie, hie, ze0, ze1, ze2⟩ := info_parts infoAE
  have hnews := aents_news (he.of_block (w' := opBox k x y z (.slice (some ⟨s, o, none⟩) es.length cap2) w) (Below.heap_alloc _ _ _ hs))
  have hne0 : ((es.length : Int) == 0) = false := by rw [beq_eq_false_iff_ne]; omega
  have H := Lib.hid h
  have He := Lib.hid he
  unfold opVal
  unfold opBox at hbc hnews
  have Hbc := Lib.hid hbc
  have Hnews := Lib.hid hnews
  have Hne := Lib.hid hne
  clear h he hbc hnews hne
  go_enter Try.func20, Try.ntmps20
  go_wp2_with (at_builtin; go_loud (refine wpList_append_lies _ rfl (.const (.slice none 0 0)) (.tmp 17) 29 rfl (w.heap.size + 1) 43 ie _ 3 24 Try.underlying29 hie ze0 ze1 ze2 rfl (by decide) (.slice none 0 0) 0 [] rfl (World.ownsRow_nil _ _ _ _) ⟨s, o, none⟩ es.length cap2 (aCells es) rfl (aCells_length es) Hnews.out aCells_one (by omega) (by unfold maxLen; omega) (by omega) (by simp) (w.heap.size + 1) (by simp) ?_; intro gg cap' wA hownA hgrowA hatA hltA; have hsA := hgrowA.size))
  simp only [Nat.zero_add, List.nil_append] at hownA ⊢
  have hgB := (hownA.lt gg rfl).1
  have hlentA : AEntsAt gg 0 es wA := (erow_of_owns hownA).ent
  have kA : Keep (fun _ => False) w.heap.size w wA := ((Keep.refl _ _ _).alloc (Nat.le_refl _) _).grown hgrowA (by simp) (fun k hk => by cases hk)
  have hboxA : wA.cell? ⟨w.heap.size, 4, none⟩ = some (.slice (some ⟨s, o, none⟩) es.length cap2) := by rw [World.cell?_of_block (hgrowA.block w.heap.size (by simp) (fun e => by cases e))]; exact Hbc.out
  have hch := change_all b c made gg 0 cap' ws es wA (H.out.raw.keep kA (Nat.le_refl _) id id) H.out.words hm hlentA hltA h1 h2
  have Hch := Lib.hid hch
  have KA := Lib.hid kA
  have HlentA := Lib.hid hlentA
  have HboxA := Lib.hid hboxA
  clear hch kA hlentA hownA hgrowA hboxA Hnews Hbc hatA
  go_wp2_with fail
  refine Hch.out.mono ?_
  rintro e w1 ⟨v, ws', made', hwant, rfl, hraw, hmade, hyes, hno, hkeep⟩
  obtain ⟨bv, hbv⟩ : ∃ bv, (v == 0) = bv := ⟨_, rfl⟩
  rw [hbv]
  have Hbv := Lib.hid hbv
  clear hbv
  have hlt := H.out.raw.lt
  have hb : w.heap.size < wA.heap.size := by simp only [World.size_alloc] at hsA; omega
  have hnn : ∀ q, w.heap.size ≤ q → ¬ (q = b ∨ q = c) := fun q hq => by omega
  have hsee : Sees b c p made' s o gg cap2 ws ws' es w w1 := by
    have kw : Keep (fun k => k = b ∨ k = c) w.heap.size w w1 := (KA.out.weaken (fun _ _ h => h.elim)).trans (hkeep.mono (Nat.le_of_lt hb))
    refine ⟨hraw, H.out.row.of_block (kw.block p H.out.lt (fun e => by rcases e with e | e; exact H.out.ne.1 e; exact H.out.ne.2 e)), He.out.of_block (kw.block s hs (fun e => by rcases e with e | e; exact Hne.out.1 e; exact Hne.out.2.1 e)), HlentA.out.of_block (hkeep.block gg hltA (hnn gg (by omega))), ?_, kw⟩
    exact (hkeep.cell (p := ⟨w.heap.size, 4, none⟩) hb (hnn _ (Nat.le_refl _))).trans HboxA.out
  have hggs : gg ≠ p := by have := H.out.lt; omega
  have hbox := hsee.box
  have Hsee := Lib.hid hsee
  have Hwant := Lib.hid hwant
  have Hyes := Lib.hid hyes
  have Hno := Lib.hid hno
  have Hmade := Lib.hid hmade
  clear hsee hwant hyes hno hraw hkeep KA HlentA HboxA Hch hmade
  go_upto_if 34 with fail
  go_cut [10] (fun q wx => ∃ v0 : Int, q = .int .i64 v0 ∧ ((v0 = 261 ∧ ¬ okLen es) ∨ (v0 = 0 ∧ okLen es)) ∧ w1 = wx)
  case first =>
    by_cases h64 : 64 < es.length
    · have hd : decide ((64 : Int) < (es.length : Int)) = true := by simp; omega
      go_wp2_with fail
      go_meet
      exact ⟨261, rfl, .inl ⟨rfl, fun k => by have := k.2; omega⟩, rfl⟩
    · have hd : decide ((64 : Int) < (es.length : Int)) = false := by simp; omega
      go_wp2_with fail
      go_meet
      exact ⟨0, rfl, .inr ⟨rfl, ⟨h1, by omega⟩⟩, rfl⟩
  case rest =>
    obtain ⟨v0, rfl, hv0, hwc⟩ := hcut
    subst hwc
    have Hv0 := Lib.hid hv0
    clear hv0
    go_upto_block 0 with fail
    go_cut [10] (fun q wx => ∃ v1 : Int, q = .int .i64 v1 ∧ Want1 es ws.length v1 ∧ Sees b c p made' s o gg cap2 ws ws' es w wx)
    case first => as_aux_lemma =>
      go_wp2_with fail
      go_loopw [10, 11] (fun vv iv wr => ∃ i v, vv = .int .i64 v ∧ iv = .int .i64 ((i : Nat) : Int) ∧ i ≤ es.length ∧ Sees b c p made' s o gg cap2 ws ws' es w wr ∧ ((v = 261 ∧ ¬ okLen es) ∨ (v = 262 ∧ okLen es ∧ ¬ goodCells es ws.length) ∨ (v = 0 ∧ okLen es ∧ PreG es ws.length i))) (fun _ i _ => es.length - (intOf i).toNat)
      case atStart =>
        refine ⟨0, v0, rfl, rfl, Nat.zero_le _, Hsee.out, ?_⟩
        rcases Hv0.out with e | ⟨e, ho⟩
        · exact .inl e
        · exact .inr (.inr ⟨e, ho, PreG.zero _ _⟩)
      case round =>
        clear Hsee Hv0 hbox
        obtain ⟨i, vi, rfl, rfl, hi, hsee, hst⟩ := hrel
        have hbox := hsee.box
        by_cases hil : i < es.length
        · rcases hst with ⟨rfl, ho⟩ | ⟨rfl, ho, hg⟩ | ⟨rfl, ho, hpre⟩
          · have Hst := Lib.hid (show Want1 es ws.length 261 from .inl ⟨rfl, ho⟩)
            have Hsee := Lib.hid hsee
            clear ho hsee
            go_wp2_with fail
            go_meet
            exact ⟨261, rfl, Hst.out, Hsee.out⟩
          · have Hst := Lib.hid (show Want1 es ws.length 262 from .inr (.inl ⟨rfl, ho, hg⟩))
            have Hsee := Lib.hid hsee
            clear ho hg hsee
            go_wp2_with fail
            go_meet
            exact ⟨262, rfl, Hst.out, Hsee.out⟩
          · have Hok := Lib.hid ho
            have Hpre := Lib.hid hpre
            obtain ⟨c0, _, _⟩ := hsee.ents i hil
            obtain ⟨ci, hci⟩ : ∃ ci, ci = (es[i]!).c := ⟨_, rfl⟩
            rw [← hci] at c0
            have Hci := Lib.hid (show ci = key es i from hci)
            have Hsee := Lib.hid hsee
            clear ho hpre hsee hci
            go_upto_region 9 with fail
            go_cut [63] (fun q wx => q = .bool (decide (¬ (0 ≤ ci ∧ ci < (ws.length : Int)))) ∧ wr = wx)
            case first =>
              by_cases hc1 : ci < 0
              · have hd : decide (ci < 0) = true := by simpa using hc1
                go_wp2_with fail
                go_meet
                exact ⟨by rw [decide_eq_true (show ¬ (0 ≤ ci ∧ ci < (ws.length : Int)) by omega)], rfl⟩
              · have hd : decide (ci < 0) = false := by simpa using hc1
                by_cases hc2 : (ws.length : Int) ≤ ci
                · have hd2 : decide ((ws.length : Int) ≤ ci) = true := by simpa using hc2
                  go_wp2_with fail
                  go_meet
                  exact ⟨by rw [decide_eq_true (show ¬ (0 ≤ ci ∧ ci < (ws.length : Int)) by omega)], rfl⟩
                · have hd2 : decide ((ws.length : Int) ≤ ci) = false := by simpa using hc2
                  go_wp2_with fail
                  go_meet
                  exact ⟨by rw [decide_eq_false (show ¬ ¬ (0 ≤ ci ∧ ci < (ws.length : Int)) by omega)], rfl⟩
            case rest =>
              obtain ⟨rfl, hwc⟩ := hcut
              subst hwc
              go_upto_if 63 with fail
              go_cut [10] (fun q wx => ∃ u : Int, q = .int .i64 u ∧ ((u = 262 ∧ ¬ goodCells es ws.length) ∨ (u = 0 ∧ 0 ≤ ci ∧ ci < (ws.length : Int))) ∧ wr = wx)
              case first =>
                by_cases hr : 0 ≤ ci ∧ ci < (ws.length : Int)
                · rw [decide_eq_false (not_not_intro hr)]
                  go_wp2_with fail
                  go_meet
                  exact ⟨0, rfl, .inr ⟨rfl, hr⟩, rfl⟩
                · rw [decide_eq_true hr]
                  have Hr := Lib.hid hr
                  clear hr
                  go_wp2_with fail
                  go_meet
                  exact ⟨262, rfl, .inl ⟨rfl, not_good_range hil (by rw [← Hci.out]; exact Hr.out)⟩, rfl⟩
              case rest =>
                obtain ⟨u, rfl, hu, hwc⟩ := hcut
                subst hwc
                have Hu := Lib.hid hu
                clear hu
                go_wp2
                go_loopw [10, 12] (fun vv kv wi => ∃ k u, vv = .int .i64 u ∧ kv = .int .i64 ((k : Nat) : Int) ∧ k ≤ i ∧ Sees b c p made' s o gg cap2 ws ws' es w wi ∧ ((u = 262 ∧ ¬ goodCells es ws.length) ∨ (u = 0 ∧ (0 ≤ ci ∧ ci < (ws.length : Int)) ∧ ∀ j, j < k → key es j ≠ ci))) (fun _ k _ => i - (intOf k).toNat)
                case atStart =>
                  refine ⟨0, u, rfl, rfl, Nat.zero_le _, Hsee.out, ?_⟩
                  rcases Hu.out with e | ⟨e, hr⟩
                  · exact .inl e
                  · exact .inr ⟨e, hr, fun j hj => by omega⟩
                case round =>
                  clear Hsee Hu c0 hbox
                  obtain ⟨k, u, rfl, rfl, hk, hsee, hu⟩ := hrel
                  have Hu := Lib.hid hu
                  clear hu
                  by_cases hki : k < i
                  · obtain ⟨c0, _, _⟩ := hsee.ents i hil
                    obtain ⟨d0, _, _⟩ := hsee.ents k (by omega)
                    have hbox := hsee.box
                    obtain ⟨ck, hck⟩ : ∃ ck, ck = (es[k]!).c := ⟨_, rfl⟩
                    rw [← hck] at d0
                    rw [← show ci = (es[i]!).c from Hci.out] at c0
                    have Hck := Lib.hid (show ck = key es k from hck)
                    have Hsee := Lib.hid hsee
                    clear hck hsee
                    have b0 : (0 : Int) ≤ (i : Int) := by omega
                    have b1 : (i : Int) < (es.length : Int) := by omega
                    have b2 : (0 : Int) ≤ (k : Int) := by omega
                    have b3 : (k : Int) < (es.length : Int) := by omega
                    by_cases hcc : ck = ci
                    · have hd : (ck == ci) = true := by rw [beq_iff_eq]; exact hcc
                      have Hcc := Lib.hid hcc
                      clear hcc
                      go_wp2_with fail
                      refine wp_region_still_tail 12 (by kernel_rfl) (by kernel_rfl) ?_
                      simp only [List.take_succ_cons, List.take_zero, List.drop_succ_cons, List.drop_zero]
                      change wpStill _ _ (World.drew _) _ _ _
                      repeat (first | (refine wpStill_step (fun K hK => ?_); go_simp; refine hK _ ?_; clear hK K))
                      refine wpStill_nil ?_
                      change wpList _ _ _ _ _ (World.drew _)
                      go_wp2
                      go_roundw
                      case rel => exact ⟨k + 1, 262, rfl, by go_num, by omega, Hsee.out.drew, .inl ⟨rfl, not_good_same hil hki (by rw [← Hck.out, ← Hci.out]; exact Hcc.out)⟩⟩
                      case measure => simp [intOf]; omega
                    · have hd : (ck == ci) = false := by rw [beq_eq_false_iff_ne]; exact hcc
                      have Hcc := Lib.hid hcc
                      clear hcc
                      go_wp2_with fail
                      refine wp_region_still_tail 12 (by kernel_rfl) (by kernel_rfl) ?_
                      simp only [List.take_succ_cons, List.take_zero, List.drop_succ_cons, List.drop_zero]
                      change wpStill _ _ (World.drew _) _ _ _
                      repeat (first | (refine wpStill_step (fun K hK => ?_); go_simp; refine hK _ ?_; clear hK K))
                      refine wpStill_nil ?_
                      change wpList _ _ _ _ _ (World.drew _)
                      go_wp2
                      go_roundw
                      case rel =>
                        refine ⟨k + 1, u, rfl, by go_num, by omega, Hsee.out.drew, ?_⟩
                        rcases Hu.out with e | ⟨e, hr, hj⟩
                        · exact .inl e
                        · refine .inr ⟨e, hr, fun j hjk => ?_⟩
                          by_cases ejk : j = k
                          · subst ejk; rw [← Hck.out]; exact Hcc.out
                          · exact hj j (by omega)
                      case measure => simp [intOf]; omega
                  · obtain rfl : k = i := by omega
                    have Hsee := Lib.hid hsee
                    clear hsee
                    go_wp2
                    go_roundw
                    case rel =>
                      refine ⟨k + 1, u, rfl, by go_num, by omega, Hsee.out, ?_⟩
                      rcases Hu.out with ⟨e, hg⟩ | ⟨e, hr, hj⟩
                      · exact .inr (.inl ⟨e, Hok.out, hg⟩)
                      · exact .inr (.inr ⟨e, Hok.out, Hpre.out.step (by rw [← Hci.out]; exact hr) (fun j hjk => by rw [← Hci.out]; exact hj j hjk)⟩)
                    case measure => simp [intOf]; omega
        · obtain rfl : i = es.length := by omega
          have Hst : Hid (Want1 es ws.length vi) := Lib.hid (by
            rcases hst with e | e | ⟨e, ho, hpre⟩
            · exact .inl e
            · exact .inr (.inl e)
            · exact .inr (.inr ⟨e, ho, preG_all.2 hpre⟩))
          have Hsee := Lib.hid hsee
          clear hst hsee
          go_wp2_with fail
          go_meet
          exact ⟨vi, rfl, Hst.out, Hsee.out⟩
    case rest =>
      obtain ⟨v1, rfl, hw1, hsee⟩ := hcut
      clear Hsee Hv0 hbox
      have hbox := hsee.box
      have Hsee := Lib.hid hsee
      have Hw1 := Lib.hid hw1
      clear hsee hw1
      go_upto_block 4 with fail
      go_cut [10] (fun q wx => ∃ v2 : Int, q = .int .i64 v2 ∧ Want2 es ws.length v2 ∧ Sees b c p made' s o gg cap2 ws ws' es w wx)
      case first => as_aux_lemma =>
        go_wp2_with fail
        go_loopw [10, 13] (fun vv iv wr => ∃ i v, vv = .int .i64 v ∧ iv = .int .i64 ((i : Nat) : Int) ∧ i ≤ es.length ∧ Sees b c p made' s o gg cap2 ws ws' es w wr ∧ ((v = v1 ∧ v1 ≠ 0) ∨ (v = 263 ∧ v1 = 0 ∧ ¬ allLies es) ∨ (v = 0 ∧ v1 = 0 ∧ ∀ j, j < i → (es[j]!).lies))) (fun _ i _ => es.length - (intOf i).toNat)
        case atStart =>
          refine ⟨0, v1, rfl, rfl, Nat.zero_le _, Hsee.out, ?_⟩
          by_cases e : v1 = 0
          · exact .inr (.inr ⟨e, e, fun j hj => by omega⟩)
          · exact .inl ⟨rfl, e⟩
        case round =>
          clear Hsee hbox
          obtain ⟨i, vi, rfl, rfl, hi, hsee, hst⟩ := hrel
          have hbox := hsee.box
          by_cases hil : i < es.length
          · rcases hst with ⟨rfl, hz⟩ | ⟨rfl, hz, hl⟩ | ⟨rfl, hz, hl⟩
            · have Hst : Hid (Want2 es ws.length vi) := Lib.hid (by
                rcases Hw1.out with e | e | e
                · exact .inl e
                · exact .inr (.inl e)
                · exact absurd e.1 hz)
              have hzb : (vi == 0) = false := by rw [beq_eq_false_iff_ne]; exact hz
              have Hsee := Lib.hid hsee
              clear hsee Hw1 hz
              go_wp2_with fail
              go_meet
              exact ⟨vi, rfl, Hst.out, Hsee.out⟩
            · have Hst : Hid (Want2 es ws.length 263) := Lib.hid (by
                rcases Hw1.out with e | e | e
                · have := e.1; omega
                · have := e.1; omega
                · exact .inr (.inr (.inl ⟨rfl, e.2.1, e.2.2, hl⟩)))
              have Hsee := Lib.hid hsee
              clear hsee Hw1 hz hl
              go_wp2_with fail
              go_meet
              exact ⟨263, rfl, Hst.out, Hsee.out⟩
            · obtain ⟨_, c1, c2⟩ := hsee.ents i hil
              have Hli : Hid ((es[i]!).lies ↔ (Lies (es[i]!).o ∧ Lies (es[i]!).n)) := Lib.hid Iff.rfl
              obtain ⟨oi, hoi⟩ : ∃ x, x = (es[i]!).o := ⟨_, rfl⟩
              obtain ⟨ni, hni⟩ : ∃ x, x = (es[i]!).n := ⟨_, rfl⟩
              rw [← hoi] at c1 Hli
              rw [← hni] at c2 Hli
              have Hsee := Lib.hid hsee
              have Hl := Lib.hid hl
              have Hz := Lib.hid hz
              clear hsee hoi hni hl hz
              have b0 : (0 : Int) ≤ (i : Int) := by omega
              have b1 : (i : Int) < (es.length : Int) := by omega
              by_cases ho : Lies oi
              · obtain ⟨ho1, ho2⟩ : 0 ≤ oi ∧ oi ≤ 1048575 := ho
                by_cases hn : Lies ni
                · obtain ⟨hn1, hn2⟩ : 0 ≤ ni ∧ ni ≤ 1048575 := hn
                  have Hyl := Lib.hid (Hli.out.2 ⟨⟨ho1, ho2⟩, ⟨hn1, hn2⟩⟩)
                  go_wp2_with (first | (go_at_call 21; ((with_reducible refine (lis_yes oi _ ho1 ho2).mono ?_); rintro e w' ⟨rfl, rfl⟩)) | (go_at_call 21; ((with_reducible refine (lis_yes ni _ hn1 hn2).mono ?_); rintro e w' ⟨rfl, rfl⟩)))
                  go_roundw
                  case rel =>
                    refine ⟨i + 1, 0, rfl, by go_num, by omega, Hsee.out, .inr (.inr ⟨rfl, Hz.out, fun j hj => ?_⟩)⟩
                    by_cases eji : j = i
                    · subst eji; exact Hyl.out
                    · exact Hl.out j (by omega)
                  case measure => simp [intOf]; omega
                · have Hyl : Hid (¬ allLies es) := Lib.hid (fun h => hn (Hli.out.1 (lies_iff.2 h i hil)).2)
                  have hn' : ni < 0 ∨ 1048575 < ni := by unfold Lies at hn; omega
                  clear hn
                  go_wp2_with (first | (go_at_call 21; ((with_reducible refine (lis_yes oi _ ho1 ho2).mono ?_); rintro e w' ⟨rfl, rfl⟩)) | (go_at_call 21; ((with_reducible refine (lis_no ni _ hn').mono ?_); rintro e w' ⟨rfl, rfl⟩)))
                  go_roundw
                  case rel => exact ⟨i + 1, 263, rfl, by go_num, by omega, Hsee.out, .inr (.inl ⟨rfl, Hz.out, Hyl.out⟩)⟩
                  case measure => simp [intOf]; omega
              · have Hyl : Hid (¬ allLies es) := Lib.hid (fun h => ho (Hli.out.1 (lies_iff.2 h i hil)).1)
                have ho' : oi < 0 ∨ 1048575 < oi := by unfold Lies at ho; omega
                clear ho
                go_wp2_with (first | (go_at_call 21; ((with_reducible refine (lis_no oi _ ho').mono ?_); rintro e w' ⟨rfl, rfl⟩)))
                go_roundw
                case rel => exact ⟨i + 1, 263, rfl, by go_num, by omega, Hsee.out, .inr (.inl ⟨rfl, Hz.out, Hyl.out⟩)⟩
                case measure => simp [intOf]; omega
          · obtain rfl : i = es.length := by omega
            have Hst : Hid (Want2 es ws.length vi) := Lib.hid (by
              rcases hst with ⟨rfl, hz⟩ | ⟨rfl, hz, hl⟩ | ⟨rfl, hz, hl⟩
              · rcases Hw1.out with e | e | e
                · exact .inl e
                · exact .inr (.inl e)
                · exact absurd e.1 hz
              · rcases Hw1.out with e | e | e
                · have := e.1; omega
                · have := e.1; omega
                · exact .inr (.inr (.inl ⟨rfl, e.2.1, e.2.2, hl⟩))
              · rcases Hw1.out with e | e | e
                · have := e.1; omega
                · have := e.1; omega
                · exact .inr (.inr (.inr ⟨rfl, e.2.1, e.2.2, lies_iff.1 hl⟩)))
            have Hsee := Lib.hid hsee
            clear hst hsee
            go_wp2_with fail
            go_meet
            exact ⟨vi, rfl, Hst.out, Hsee.out⟩
      case rest =>
        obtain ⟨v2, rfl, hw2, hsee⟩ := hcut
        clear Hsee Hw1 hbox
        have hbox := hsee.box
        have Hsee := Lib.hid hsee
        have Hw2 := Lib.hid hw2
        clear hsee hw2
        go_upto_block 6 with fail
        go_cut [10] (fun q wx => ∃ v3 : Int, q = .int .i64 v3 ∧ Want ws es v3 ∧ Sees b c p made' s o gg cap2 ws ws' es w wx)
        case first => as_aux_lemma =>
          go_wp2_with fail
          go_loopw [10, 14] (fun vv iv wr => ∃ i v, vv = .int .i64 v ∧ iv = .int .i64 ((i : Nat) : Int) ∧ i ≤ es.length ∧ Sees b c p made' s o gg cap2 ws ws' es w wr ∧ ((v = v2 ∧ v2 ≠ 0) ∨ (v = 264 ∧ v2 = 0 ∧ ¬ allFit ws es) ∨ (v = 0 ∧ v2 = 0 ∧ ∀ j, j < i → fit ws es j))) (fun _ i _ => es.length - (intOf i).toNat)
          case atStart =>
            refine ⟨0, v2, rfl, rfl, Nat.zero_le _, Hsee.out, ?_⟩
            by_cases e : v2 = 0
            · exact .inr (.inr ⟨e, e, fun j hj => by omega⟩)
            · exact .inl ⟨rfl, e⟩
          case round =>
            clear Hsee hbox
            obtain ⟨i, vi, rfl, rfl, hi, hsee, hst⟩ := hrel
            have hbox := hsee.box
            by_cases hil : i < es.length
            · rcases hst with ⟨rfl, hz⟩ | ⟨rfl, hz, hl⟩ | ⟨rfl, hz, hl⟩
              · have Hst : Hid (Want ws es vi) := Lib.hid (by
                  rcases Hw2.out with e | e | e | e
                  · exact .inl e
                  · exact .inr (.inl e)
                  · exact .inr (.inr (.inl e))
                  · exact absurd e.1 hz)
                have hzb : (vi == 0) = false := by rw [beq_eq_false_iff_ne]; exact hz
                have Hsee := Lib.hid hsee
                clear hsee Hw2 hz
                go_wp2_with fail
                go_meet
                exact ⟨vi, rfl, Hst.out, Hsee.out⟩
              · have Hst : Hid (Want ws es 264) := Lib.hid (by
                  rcases Hw2.out with e | e | e | e
                  · have := e.1; omega
                  · have := e.1; omega
                  · have := e.1; omega
                  · exact .inr (.inr (.inr (.inl ⟨rfl, e.2.1, e.2.2.1, e.2.2.2, hl⟩))))
                have Hsee := Lib.hid hsee
                clear hsee Hw2 hz hl
                go_wp2_with fail
                go_meet
                exact ⟨264, rfl, Hst.out, Hsee.out⟩
              · have hgood : goodCells es ws.length := by
                  rcases Hw2.out with e | e | e | e
                  · have := e.1; omega
                  · have := e.1; omega
                  · have := e.1; omega
                  · exact e.2.2.1
                have hrg := (preG_all.1 hgood).range i hil
                obtain ⟨c0, c1, _⟩ := hsee.ents i hil
                obtain ⟨oi, hoi⟩ : ∃ x, x = (es[i]!).o := ⟨_, rfl⟩
                rw [← hoi] at c1
                obtain ⟨q, hq⟩ := Int.eq_ofNat_of_zero_le hrg.1
                rw [show (es[i]!).c = (q : Int) from hq] at c0
                have hql : q < ws.length := by omega
                obtain ⟨r0, _⟩ := hsee.row q (by omega)
                obtain ⟨lq, hlq⟩ : ∃ x, x = (nums ws).getD q 0 := ⟨_, rfl⟩
                rw [← hlq] at r0
                have Hfi : Hid (fit ws es i ↔ lq = oi) := Lib.hid (by
                  unfold fit kp
                  rw [hq, hlq, nums_get _ _ hql, ← hoi]
                  exact Iff.rfl)
                have Hsee := Lib.hid hsee
                have Hl := Lib.hid hl
                have Hz := Lib.hid hz
                clear hsee hoi hlq hl hz hgood hrg hq
                have b0 : (0 : Int) ≤ (i : Int) := by omega
                have b1 : (i : Int) < (es.length : Int) := by omega
                have b2 : (0 : Int) ≤ (q : Int) := by omega
                have b3 : (q : Int) < (ws.length : Int) := by omega
                by_cases hcc : lq = oi
                · have hd : (lq == oi) = true := by rw [beq_iff_eq]; exact hcc
                  have Hf := Lib.hid (Hfi.out.2 hcc)
                  clear hcc
                  go_wp2_with fail
                  refine wp_region_still_tail 15 (by kernel_rfl) (by kernel_rfl) ?_
                  simp only [List.take_succ_cons, List.take_zero, List.drop_succ_cons, List.drop_zero]
                  change wpStill _ _ (World.drew _) _ _ _
                  repeat (first | (refine wpStill_step (fun K hK => ?_); go_simp; refine hK _ ?_; clear hK K))
                  refine wpStill_nil ?_
                  change wpList _ _ _ _ _ (World.drew _)
                  go_wp2
                  go_roundw
                  case rel =>
                    refine ⟨i + 1, 0, rfl, by go_num, by omega, Hsee.out.drew, .inr (.inr ⟨rfl, Hz.out, fun j hj => ?_⟩)⟩
                    by_cases eji : j = i
                    · subst eji; exact Hf.out
                    · exact Hl.out j (by omega)
                  case measure => simp [intOf]; omega
                · have hd : (lq == oi) = false := by rw [beq_eq_false_iff_ne]; exact hcc
                  have Hf : Hid (¬ allFit ws es) := Lib.hid (fun h => hcc (Hfi.out.1 (fit_iff.2 h i hil)))
                  clear hcc
                  go_wp2_with fail
                  refine wp_region_still_tail 15 (by kernel_rfl) (by kernel_rfl) ?_
                  simp only [List.take_succ_cons, List.take_zero, List.drop_succ_cons, List.drop_zero]
                  change wpStill _ _ (World.drew _) _ _ _
                  repeat (first | (refine wpStill_step (fun K hK => ?_); go_simp; refine hK _ ?_; clear hK K))
                  refine wpStill_nil ?_
                  change wpList _ _ _ _ _ (World.drew _)
                  go_wp2
                  go_roundw
                  case rel => exact ⟨i + 1, 264, rfl, by go_num, by omega, Hsee.out.drew, .inr (.inl ⟨rfl, Hz.out, Hf.out⟩)⟩
                  case measure => simp [intOf]; omega
            · obtain rfl : i = es.length := by omega
              have Hst : Hid (Want ws es vi) := Lib.hid (by
                rcases hst with ⟨rfl, hz⟩ | ⟨rfl, hz, hl⟩ | ⟨rfl, hz, hl⟩
                · rcases Hw2.out with e | e | e | e
                  · exact .inl e
                  · exact .inr (.inl e)
                  · exact .inr (.inr (.inl e))
                  · exact absurd e.1 hz
                · rcases Hw2.out with e | e | e | e
                  · have := e.1; omega
                  · have := e.1; omega
                  · have := e.1; omega
                  · exact .inr (.inr (.inr (.inl ⟨rfl, e.2.1, e.2.2.1, e.2.2.2, hl⟩)))
                · rcases Hw2.out with e | e | e | e
                  · have := e.1; omega
                  · have := e.1; omega
                  · have := e.1; omega
                  · exact .inr (.inr (.inr (.inr ⟨rfl, e.2.1, e.2.2.1, e.2.2.2, fit_iff.1 hl⟩))))
              have Hsee := Lib.hid hsee
              clear hst hsee
              go_wp2_with fail
              go_meet
              exact ⟨vi, rfl, Hst.out, Hsee.out⟩
        case rest =>
          obtain ⟨v3, rfl, hw3, hsee⟩ := hcut
          obtain rfl : v3 = v := hw3.one Hwant.out
          clear Hsee Hw2 hbox
          have Hsee := Lib.hid hsee
          clear hsee hw3
          go_wp2_with fail
          go_loopw [15] (fun iv wr => ∃ i m L, iv = .int .i64 ((i : Nat) : Int) ∧ i ≤ es.length ∧ (v3 = 0 → m = i) ∧ (v3 ≠ 0 → m = 0) ∧ LFill (nums ws) es m L ∧ Sees3 b c p made' s o gg cap2 ws' L es w wr) (fun i _ => es.length - (intOf i).toNat)
          case atStart => exact ⟨0, 0, nums ws, rfl, Nat.zero_le _, fun _ => rfl, fun _ => rfl, LFill.zero _ _, Hsee.out.three⟩
          case round =>
            clear Hsee
            obtain ⟨i, m, L, rfl, hi, hm0, hm1, hfill, hsee⟩ := hrel
            have hbox := hsee.box
            have Hm0 := Lib.hid hm0
            have Hm1 := Lib.hid hm1
            have Hfill := Lib.hid hfill
            have Hsee := Lib.hid hsee
            clear hm0 hm1 hfill
            by_cases hil : i < es.length
            · obtain ⟨c0, c1, c2⟩ := hsee.ents i hil
              obtain ⟨d0, d1, d2⟩ := hsee.lent i hil
              simp only [Nat.zero_add] at d0 d1 d2
              obtain ⟨ci, hci⟩ : ∃ x, x = (es[i]!).c := ⟨_, rfl⟩
              obtain ⟨oi, hoi⟩ : ∃ x, x = (es[i]!).o := ⟨_, rfl⟩
              obtain ⟨ni, hni⟩ : ∃ x, x = (es[i]!).n := ⟨_, rfl⟩
              rw [← hci] at c0 d0
              rw [← hoi] at c1 d1
              rw [← hni] at c2 d2
              have b0 : (0 : Int) ≤ (i : Int) := by omega
              have b1 : (i : Int) < (es.length : Int) := by omega
              by_cases hv : v3 = 0
              · subst hv
                have hgood : goodCells es ws.length := by
                  rcases Hwant.out with e | e | e | e | e
                  · have := e.1; omega
                  · have := e.1; omega
                  · have := e.1; omega
                  · have := e.1; omega
                  · exact e.2.2.1
                have hpg := preG_all.1 hgood
                have hrg := hpg.range i hil
                obtain ⟨q, hq⟩ := Int.eq_ofNat_of_zero_le hrg.1
                obtain rfl : ci = (q : Int) := hci.trans hq
                have hql : q < ws.length := by omega
                have hLl := Hfill.out.length
                obtain ⟨r0, r1⟩ := hsee.row q (by omega)
                generalize L.getD q 0 = lq at r0
                have b2 : (0 : Int) ≤ (q : Int) := by omega
                have b3 : (q : Int) < (ws.length : Int) := by omega
                have Hstep : Hid (LFill (nums ws) es (i + 1) (L.set q ni)) := Lib.hid (by
                  have h := Hfill.out.step (by rw [hln]; exact hpg) (k := m) (by rw [Hm0.out rfl]; exact hil)
                  rw [Hm0.out rfl] at h
                  rw [show (key es i).toNat = q by rw [hq]; omega, ← hni] at h
                  exact h)
                clear hsee hci hoi hni hgood hpg hrg hq
                go_wp2_with fail
                refine wp_region_still_tail 9 (by kernel_rfl) (by kernel_rfl) ?_
                simp only [List.take_succ_cons, List.take_zero, List.drop_succ_cons, List.drop_zero]
                change wpStill _ _ (World.drew _) _ _ _
                repeat (first | (refine wpStill_step (fun K hK => ?_); go_simp; refine hK _ ?_; clear hK K))
                refine wpStill_nil ?_
                change wpList _ _ _ _ _ (World.drew _)
                go_wp2
                refine wp_region_still_tail 14 (by kernel_rfl) (by kernel_rfl) ?_
                simp only [List.take_succ_cons, List.take_zero, List.drop_succ_cons, List.drop_zero]
                change wpStill _ _ (World.drew _) _ _ _
                repeat (first | (refine wpStill_step (fun K hK => ?_); go_simp; refine hK _ ?_; clear hK K))
                refine wpStill_nil ?_
                change wpList _ _ _ _ _ (World.drew _)
                go_wp2
                go_roundw
                case rel =>
                  refine ⟨i + 1, i + 1, L.set q ni, by go_num, by omega, fun _ => rfl, fun h => absurd rfl h, Hstep.out, ?_⟩
                  exact (Hsee.out.drew.drew).set (by omega) H.out.ne Hne.out.2.2 hggs H.out.lt
                case measure => simp [intOf]; omega
              · have hvb : (v3 == 0) = false := by rw [beq_eq_false_iff_ne]; exact hv
                have Hv := Lib.hid hv
                clear hsee hci hoi hni hv
                go_wp2_with fail
                refine wp_region_still_tail 9 (by kernel_rfl) (by kernel_rfl) ?_
                simp only [List.take_succ_cons, List.take_zero, List.drop_succ_cons, List.drop_zero]
                change wpStill _ _ (World.drew _) _ _ _
                repeat (first | (refine wpStill_step (fun K hK => ?_); go_simp; refine hK _ ?_; clear hK K))
                refine wpStill_nil ?_
                change wpList _ _ _ _ _ (World.drew _)
                go_wp2
                go_roundw
                case rel => exact ⟨i + 1, m, L, by go_num, by omega, fun h => absurd h Hv.out, Hm1.out, Hfill.out, Hsee.out.drew⟩
                case measure => simp [intOf]; omega
            · obtain rfl : i = es.length := by omega
              have hvv : (v3 == v3) = true := by simp
              have hbb : (bv == (v3 == 0)) = true := by rw [Hbv.out]; simp
              clear hsee
              go_wp2
              go_ret
              have hL : L = nums ws' ∧ Words ws' ∧ ws'.length = ws.length := by
                by_cases hv : v3 = 0
                · have hc := Hyes.out hv
                  have hgood : goodCells es ws.length := by
                    rcases Hwant.out with e | e | e | e | e
                    · have := e.1; omega
                    · have := e.1; omega
                    · have := e.1; omega
                    · have := e.1; omega
                    · exact e.2.2.1
                  have hf := Hfill.out
                  rw [Hm0.out hv] at hf
                  exact ⟨hf.done hc hgood, hc.words, hc.length⟩
                · have hw := Hno.out hv
                  have hf := Hfill.out
                  rw [Hm1.out hv] at hf
                  subst hw
                  exact ⟨list_ext_getD hf.length fun i hi => hf.out i (by have := hf.length; omega) fun j hj => by omega, H.out.words, rfl⟩
              refine ⟨?_, ⟨ws', made', ⟨Hsee.out.raw, hL.2.1, by rw [← hL.1]; exact Hsee.out.row, H.out.ne, by have := Hsee.out.keep.size; have := H.out.lt; omega⟩, hL.2.2, Hmade.out⟩, Hsee.out.keep⟩
              rfl
end Go.Proofs.Ytadelkancmbanaa
