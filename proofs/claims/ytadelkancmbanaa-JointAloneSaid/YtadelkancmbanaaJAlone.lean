/-
  JointAlone, where all first numbers may lie in cells.
-/
import Derived.Test.YtadelkancmbanaaJChg3
import Derived.Test.YtadelkancmbanaaJLong
namespace Go.Proofs.Ytadelkancmbanaa
open Go.RowKit
attribute [local go_sem ↓] Go.wp_at_zero Go.wp_at_succ

/-- A script's entries as the caller holds them. -/
def LVal0 (lv : Value) (w : World) : Prop := (∃ a cap, lv = .slice a 0 cap) ∨ (∃ s o cap es, lv = .slice (some ⟨s, o, none⟩) es.length cap ∧ 1 ≤ es.length ∧ AEntsAt s o es w ∧ s < w.heap.size)
/-- A script. -/
def OpsAt (t q n : Nat) (w : World) : Prop := ∀ i, i < n → ∃ k x y z lv, w.cell? ⟨t, q + i * 5, none⟩ = some (.int .i64 k) ∧ w.cell? ⟨t, q + i * 5 + 1, none⟩ = some (.int .i64 x) ∧ w.cell? ⟨t, q + i * 5 + 2, none⟩ = some (.int .i64 y) ∧ w.cell? ⟨t, q + i * 5 + 3, none⟩ = some (.int .i64 z) ∧ w.cell? ⟨t, q + i * 5 + 4, none⟩ = some lv ∧ LVal0 lv w

def ScriptAt (a : Option Addr) (n : Nat) (w : World) : Prop := n = 0 ∨ ∃ t q, a = some ⟨t, q, none⟩ ∧ t < w.heap.size ∧ OpsAt t q n w

theorem ints_news {s o : Nat} {zs : List Int} {w : World} (h : IntsAt s o zs w) : ∀ j u, (zs.map (Value.int .i64))[j]? = some u → w.cell? ((⟨s, o, none⟩ : Addr).add j) = some u := fun j u hj => by
  have hj' : j < zs.length := by simpa using (List.getElem?_eq_some_iff.1 hj).1
  rw [addr_add, h j hj', ← hj, List.getElem?_map, List.getD_eq_getElem?_getD, List.getElem?_eq_getElem hj']
  rfl
theorem ints_one (zs : List Int) : ∀ u ∈ zs.map (Value.int .i64), u.oneCell' = true := fun u hu => by
  obtain ⟨x, _, rfl⟩ := List.mem_map.1 hu
  rfl
theorem ints_own {w : World} {base g cap : Nat} {zs : List Int} (h : w.ownsRow base 3 1 (.slice (some ⟨g, 0, none⟩) zs.length cap) zs.length (zs.map (Value.int .i64))) : IntsAt g 0 zs w ∧ LRow g zs w := by
  have e : ∀ i, i < zs.length → w.cell? ⟨g, i, none⟩ = some (.int .i64 (zs.getD i 0)) := fun i hi => by
    rw [h.cellAt i (by omega), List.getElem?_map, List.getD_eq_getElem?_getD, List.getElem?_eq_getElem hi]
    rfl
  exact ⟨fun i hi => by rw [Nat.zero_add]; exact e i hi, fun i hi => ⟨e i hi, h.frozenAt i⟩⟩
theorem IntsAt.of_block {s o : Nat} {zs : List Int} {w w' : World} (h : IntsAt s o zs w) (hb : w'.heap[s]? = w.heap[s]?) : IntsAt s o zs w' := fun i hi => by
  rw [World.cell?_of_block (w := w) (w' := w') hb]; exact h i hi

theorem LVal0.at_ {lv : Value} {w w' : World} {B b c p : Nat} (h : LVal0 lv w) (hk : Keep (fun _ => False) w.heap.size w w') (hB : B = w.heap.size) (hb : B ≤ b) (hc : B ≤ c) (hp : B ≤ p) (hn : ∀ a n cap, lv = .slice a n cap → n ≤ 100) : LVal b c p lv w' := by
  rcases h with h | ⟨s, o, cap, es, rfl, h1, h2, h3⟩
  · exact .inl h
  · exact .inr ⟨s, o, cap, es, rfl, h1, hn _ _ _ rfl, h2.of_block (hk.block s h3 id), by have := hk.size; omega, by omega, by omega, by omega⟩

def AloneEnd (w : World) (e : Ending) (w' : World) : Prop := e = .returned (.bool true) ∧ Below w.heap.size w w'

set_option maxRecDepth 100000 in
set_option maxHeartbeats 4000000 in
theorem alone_main (s o cap n cap1 : Nat) (a : Option Addr) (zs : List Int) (w : World) (hz : IntsAt s o zs w) (hs : s < w.heap.size) (h1 : 1 ≤ zs.length) (h2 : zs.length ≤ 64) (hall : allLie zs = true) (hn : n ≤ 300) (hS : ScriptAt a n w) :
    Calls Try.prog 3 #[.slice (some ⟨s, o, none⟩) zs.length cap, .slice a n cap1] w (AloneEnd w) := by
  have d1 : decide (100 < (zs.length : Int)) = false := by simp; omega
  have d2 : decide (300 < (n : Int)) = false := by simp; omega
  have d3 : ((zs.length : Int) == 0) = false := by rw [beq_eq_false_iff_ne]; omega
  have d4 : decide (64 < (zs.length : Int)) = false := by simp; omega
  obtain ⟨ii, hii, zi0, zi1, zi2⟩ := info_parts infoI
  have hlie := (allLie_iff zs).1 hall
  have Hlie := Lib.hid hlie
  have Hall := Lib.hid hall
  have Hz := Lib.hid hz
  have HS := Lib.hid hS
  clear hlie hall hz hS
  go_enter Try.func3, Try.ntmps3
  go_wp2_with fail
  refine (known_any w).mono ?_
  rintro e w1 ⟨rfl, hb1⟩
  have hs1 := hb1.size
  have hz1 := Hz.out.of_block (hb1.block s hs)
  have Hn1 := Lib.hid (ints_news hz1)
  have Hb1 := Lib.hid hb1
  have Hz1 := Lib.hid hz1
  clear hb1 hz1
  go_wp2_with (at_builtin; go_loud (refine wpList_append_lies _ rfl (.const (.slice none 0 0)) (.tmp 28) 22 rfl w1.heap.size 3 ii _ 1 8 Try.underlying22 hii zi0 zi1 zi2 rfl (by decide) (.slice none 0 0) 0 [] rfl (World.ownsRow_nil _ _ _ _) ⟨s, o, none⟩ zs.length cap (zs.map (Value.int .i64)) rfl (by simp) Hn1.out (ints_one zs) (by omega) (by unfold maxLen; omega) (by omega) (Nat.le_refl _) w1.heap.size rfl ?_; intro gA capA wA hownA hgrowA hatA hltA; have hsA := hgrowA.size))
  simp only [Nat.zero_add, List.nil_append] at hownA ⊢
  have kA : Keep (fun _ => False) w.heap.size w wA := (Keep.of_below Hb1.out).grown hgrowA hs1 (fun k hk => by cases hk)
  have hnewA := new_yes gA 0 capA zs wA (ints_own hownA).1 h1 h2 Hall.out hltA
  have HnewA := Lib.hid hnewA
  have KA := Lib.hid kA
  clear hnewA kA hownA hgrowA hatA Hn1 Hz1 Hb1
  go_wp2_with fail
  refine HnewA.out.mono ?_
  rintro e w2 ⟨b, c, rfl, hj2, hb2, hgb, hgc⟩
  have hsA2 := hb2.size
  have k2 : Keep (fun _ => False) w.heap.size w w2 := KA.out.trans ((Keep.of_below hb2).mono KA.out.size)
  have hz2 := Hz.out.of_block (k2.block s hs id)
  have Hn2 := Lib.hid (ints_news hz2)
  have K2 := Lib.hid k2
  have Hj2 := Lib.hid hj2
  have hlt2 := hj2.lt
  have Hb2 := Lib.hid hb2
  clear k2 hz2 hj2 HnewA KA hb2
  go_wp2_with (at_builtin; go_loud (refine wpList_append_lies _ rfl (.const (.slice none 0 0)) (.tmp 34) 22 rfl w2.heap.size 3 ii _ 1 8 Try.underlying22 hii zi0 zi1 zi2 rfl (by decide) (.slice none 0 0) 0 [] rfl (World.ownsRow_nil _ _ _ _) ⟨s, o, none⟩ zs.length cap (zs.map (Value.int .i64)) rfl (by simp) Hn2.out (ints_one zs) (by omega) (by unfold maxLen; omega) (by omega) (Nat.le_refl _) w2.heap.size rfl ?_; intro gB capB wB hownB hgrowB hatB hltB; have hsB := hgrowB.size))
  simp only [Nat.zero_add, List.nil_append] at hownB ⊢
  have kB : Keep (fun _ => False) w.heap.size w wB := K2.out.grown hgrowB K2.out.size (fun k hk => by cases hk)
  have hjB : JRaw b c (newW zs) 0 wB := Hj2.out.of_blocks (hgrowB.block _ hlt2.1 (fun e => by cases e)) (hgrowB.block _ hlt2.2 (fun e => by cases e))
  have hnewB := new_yes gB 0 capB zs wB (ints_own hownB).1 h1 h2 Hall.out hltB
  have HnewB := Lib.hid hnewB
  have KB := Lib.hid kB
  have HjB := Lib.hid hjB
  clear hnewB kB hownB hgrowB hatB Hn2 K2 Hj2 hjB Hb2
  go_wp2_with fail
  refine HnewB.out.mono ?_
  rintro e w3 ⟨b2, c2, rfl, hj3, hb3, hgb2, hgc2⟩
  have hs3 := hb3.size
  have k3 : Keep (fun _ => False) w.heap.size w w3 := KB.out.trans ((Keep.of_below hb3).mono KB.out.size)
  have hz3 := Hz.out.of_block (k3.block s hs id)
  have hjx3 : JRaw b c (newW zs) 0 w3 := HjB.out.of_blocks (hb3.block _ (by omega)) (hb3.block _ (by omega))
  have hlt3 := hj3.lt
  have hk3s := k3.size
  have hls : s < w3.heap.size := by omega
  have K3 := Lib.hid k3
  have Hj3 := Lib.hid hj3
  have Hjx3 := Lib.hid hjx3
  have Hz3 := Lib.hid hz3
  clear k3 hz3 hj3 hjx3 HnewB KB HjB hb3
  go_wp2
  go_loopw [10] (fun iv wr => ∃ i : Nat, iv = .int .i64 (i : Int) ∧ i ≤ zs.length ∧ w3 = wr) (fun i _ => zs.length - (intOf i).toNat)
  case atStart => exact ⟨0, rfl, Nat.zero_le _, rfl⟩
  case round =>
    obtain ⟨i, rfl, hi, hwr⟩ := hrel
    subst hwr
    by_cases hil : i < zs.length
    · have c0 := Hz3.out i hil
      obtain ⟨l0, l1⟩ := Hlie.out i hil
      generalize zs.getD i 0 = v at c0 l0 l1
      have b0 : (0 : Int) ≤ (i : Int) := by omega
      have b1 : (i : Int) < (zs.length : Int) := by omega
      have e1 : decide (v < 0) = false := by simp; omega
      have e2 : decide (1048575 < v) = false := by simp; omega
      go_wp2_with fail
      go_roundw
      case rel => exact ⟨i + 1, by go_num, by omega, trivial⟩
      case measure => simp [intOf]; omega
    · obtain rfl : i = zs.length := by omega
      have Hn3 := Lib.hid (ints_news Hz3.out)
      go_wp2_with (at_builtin; go_loud (refine wpList_append_lies _ rfl (.const (.slice none 0 0)) (.tmp 92) 22 rfl w3.heap.size 3 ii _ 1 8 Try.underlying22 hii zi0 zi1 zi2 rfl (by decide) (.slice none 0 0) 0 [] rfl (World.ownsRow_nil _ _ _ _) ⟨s, o, none⟩ zs.length cap (zs.map (Value.int .i64)) rfl (by simp) Hn3.out (ints_one zs) (by omega) (by unfold maxLen; omega) (by omega) (Nat.le_refl _) w3.heap.size rfl ?_; intro gC capC wC hownC hgrowC hatC hltC; have hsC := hgrowC.size))
      simp only [Nat.zero_add, List.nil_append] at hownC ⊢
      have kC : Keep (fun _ => False) w.heap.size w wC := K3.out.grown hgrowC K3.out.size (fun k hk => by cases hk)
      have hgC : w3.heap.size ≤ gC := (hownC.lt gC rfl).1
      have hjxC : JRaw b c (newW zs) 0 wC := Hjx3.out.of_blocks (hgrowC.block _ (by omega) (fun e => by cases e)) (hgrowC.block _ (by omega) (fun e => by cases e))
      have hjyC : JRaw b2 c2 (newW zs) 0 wC := Hj3.out.of_blocks (hgrowC.block _ (by omega) (fun e => by cases e)) (hgrowC.block _ (by omega) (fun e => by cases e))
      have hwf : Words (newW zs) := newW_words _ Hlie.out
      have hbothC : Both b c gC 0 (newW zs) wC := ⟨hjxC, hwf, by rw [newW_nums']; exact (ints_own hownC).2, by omega, hltC⟩
      have hlenC : (newW zs).length = zs.length := newW_length _
      have hnumC : nums (newW zs) = zs := newW_nums' _
      generalize newW zs = ws0 at *
      have Hboth := Lib.hid hbothC
      have HjyC := Lib.hid hjyC
      have KC := Lib.hid kC
      have Hwf := Lib.hid hwf
      have HlenC := Lib.hid hlenC
      have HnumC := Lib.hid hnumC
      have hdis : b2 ≠ b ∧ b2 ≠ c ∧ b2 ≠ gC ∧ c2 ≠ b ∧ c2 ≠ c ∧ c2 ≠ gC := by omega
      have hwb : w.heap.size ≤ b ∧ w.heap.size ≤ c ∧ w.heap.size ≤ gC ∧ w.heap.size ≤ b2 ∧ w.heap.size ≤ c2 := by omega
      clear hbothC hjxC hjyC kC hwf hlenC hnumC hownC hgrowC hatC Hn3 Hz3 Hj3 Hjx3 K3
      go_wp2
      go_loopw [12] (fun iv wr => ∃ (k : Nat) (ws : List Int) (made : Nat), iv = .int .i64 (k : Int) ∧ k ≤ n ∧ Both b c gC made ws wr ∧ ws.length = zs.length ∧ made ≤ k ∧ JRaw b2 c2 ws0 0 wr ∧ Keep (fun _ => False) w.heap.size w wr) (fun i _ => n - (intOf i).toNat)
      case atStart => exact ⟨0, ws0, 0, rfl, Nat.zero_le _, Hboth.out, HlenC.out, Nat.le_refl _, HjyC.out, KC.out⟩
      case round =>
        clear Hboth HjyC KC
        obtain ⟨k, ws, made, rfl, hk, hboth, hlw, hmk, hjy, hkk⟩ := hrel
        have Hboth := Lib.hid hboth
        have Hjy := Lib.hid hjy
        have Hkk := Lib.hid hkk
        have Hlw := Lib.hid hlw
        have hks := hkk.size
        clear hboth hjy hlw
        by_cases hkn : k < n
        · rcases HS.out with hn0 | ⟨t, q, hat, htl, hops⟩
          · omega
          · subst hat
            obtain ⟨kk, x, y, z, lv, p0, p1, p2, p3, p4, hlv⟩ := hops k hkn
            have kc : ∀ i, wr.cell? ⟨t, i, none⟩ = w.cell? ⟨t, i, none⟩ := fun i => World.cell?_of_block (hkk.block t htl id)
            rw [← kc] at p0 p1 p2 p3 p4
            have Hlv := Lib.hid hlv
            have b0 : (0 : Int) ≤ (k : Int) := by omega
            have b1 : (k : Int) < (n : Int) := by omega
            have hform : ∃ a' n' cap', lv = .slice a' n' cap' := by
              rcases hlv with ⟨a', cap', rfl⟩ | ⟨s', o', cap', es, rfl, _⟩ <;> exact ⟨_, _, _, rfl⟩
            obtain ⟨a', n', cap', rfl⟩ := hform
            clear hops hlv kc hkk
            by_cases h100 : 100 < n'
            · have e1 : decide (100 < (n' : Int)) = true := by simp; omega
              go_wp2_with fail
              go_ret
              exact ⟨rfl, Hkk.out.below⟩
            · have e1 : decide (100 < (n' : Int)) = false := by simp; omega
              have hLV : LVal b c gC (.slice a' n' cap') wr := Hlv.out.at_ Hkk.out rfl hwb.1 hwb.2.1 hwb.2.2.1 (fun a n cap e => by cases e; omega)
              have hdoes := does_any b c gC capC made kk x y z (.slice a' n' cap') ws wr Hboth.out (by omega) hLV
              rw [Hlw.out] at hdoes
              unfold opVal at hdoes
              have Hdoes := Lib.hid hdoes
              clear hdoes hLV
              go_wp2_with fail
              refine Hdoes.out.mono ?_
              rintro e w' ⟨rfl, ⟨ws', made', hb', hl', hm'⟩, hk'⟩
              have Hb' := Lib.hid hb'
              have Hk' := Lib.hid hk'
              clear hb' hk'
              go_wp2
              go_roundw
              case rel =>
                have hlt := Hjy.out.lt
                refine ⟨k + 1, ws', made', by go_num, by omega, Hb'.out, by rw [hl', Hlw.out], by omega, ?_, ?_⟩
                · exact Hjy.out.of_blocks (Hk'.out.block _ hlt.1 (fun e => by rcases e with e | e | e <;> omega)) (Hk'.out.block _ hlt.2 (fun e => by rcases e with e | e | e <;> omega))
                · exact Hkk.out.trans ((Hk'.out.mono (B' := w.heap.size) hks).weaken (fun q hq e => by rcases e with e | e | e <;> omega))
              case measure => simp [intOf]; omega
        · obtain rfl : n = k := by omega
          have hly := look_any b2 c2 0 ws0 wr Hjy.out Hwf.out (by decide)
          have Hly := Lib.hid hly
          have hltb := Hboth.out.raw.lt
          have hltg := Hboth.out.lt
          clear hly hkk
          go_wp2_with fail
          refine Hly.out.mono ?_
          rintro e w4 ⟨ov, rfl, hownV, hj4, hk4⟩
          obtain ⟨gV, gcV, rfl, hg1, hg2⟩ := hownV.form (by rw [HlenC.out]; omega)
          rw [HnumC.out, HlenC.out] at hownV
          have hs4 := hk4.size
          have hiV := (ints_own hownV).1
          have hjx4 : JRaw b c ws made w4 := Hboth.out.raw.of_blocks (hk4.block _ hltb.1 (fun e => by rcases e with e | e <;> omega)) (hk4.block _ hltb.2 (fun e => by rcases e with e | e <;> omega))
          have hrow4 : LRow gC (nums ws) w4 := Hboth.out.row.of_block (hk4.block _ hltg (fun e => by rcases e with e | e <;> omega))
          have k4 : Keep (fun _ => False) w.heap.size w w4 := Hkk.out.trans ((hk4.mono (B' := w.heap.size) hks).weaken (fun q hq e => by rcases e with e | e <;> omega))
          have hlx := look_any b c made ws w4 hjx4 Hboth.out.words (by omega)
          have Hlx := Lib.hid hlx
          have HiV := Lib.hid hiV
          have Hrow4 := Lib.hid hrow4
          have K4 := Lib.hid k4
          have hwgV : wr.heap.size ≤ gV := hg1
          clear hlx hiV hrow4 k4 hjx4 hj4 hk4 hownV Hly
          rw [HlenC.out]
          go_wp2_with fail
          refine Hlx.out.mono ?_
          rintro e w5 ⟨ov, rfl, hownX, hj5, hk5⟩
          obtain ⟨gX, gcX, rfl, hg3, hg4⟩ := hownX.form (by rw [Hlw.out]; omega)
          have hln := nums_length ws
          rw [← hln] at hownX
          have hs5 := hk5.size
          have hiX := (ints_own hownX).1
          have hiV5 : IntsAt gV 0 zs w5 := HiV.out.of_block (hk5.block _ hg2 (fun e => by rcases e with e | e <;> omega))
          have hrow5 : LRow gC (nums ws) w5 := Hrow4.out.of_block (hk5.block _ (by omega) (fun e => by rcases e with e | e <;> omega))
          have k5 : Keep (fun _ => False) w.heap.size w w5 := K4.out.trans ((hk5.mono (B' := w.heap.size) (by omega)).weaken (fun q hq e => by rcases e with e | e <;> omega))
          have hz5 : IntsAt s o zs w5 := Hz.out.of_block (k5.block s hs id)
          have hin1 := ints_yes gV 0 gcV s o cap zs w5 hiV5 hz5 (by omega) (by omega) (by omega)
          have Hin1 := Lib.hid hin1
          have HiX := Lib.hid hiX
          have Hrow5 := Lib.hid hrow5
          have K5 := Lib.hid k5
          have Hln := Lib.hid (hln.trans Hlw.out)
          clear hin1 hiX hrow5 k5 hz5 hiV5 hj5 hk5 hownX hln
          rw [Hlw.out]
          go_wp2_with (go_at_call 9; (with_reducible refine Hin1.out.mono ?_); rintro e w6 ⟨rfl, hb6⟩; have Hb6 := Lib.hid hb6; have hs6 := hb6.size; have hin2 := ints_yes gX 0 gcX gC 0 capC (nums ws) w6 (HiX.out.of_block (hb6.block _ hg4)) (fun i hi => by rw [Nat.zero_add]; exact ((Hrow5.out.of_block (hb6.block gC (by omega))) i hi).1) (by omega) (by omega) (by rw [Hln.out]; omega); rw [Hln.out] at hin2; have Hin2 := Lib.hid hin2; clear hin2 hb6)
          refine Hin2.out.mono ?_
          rintro e w7 ⟨rfl, hb7⟩
          have Hb7 := Lib.hid hb7
          clear hb7
          go_wp2
          go_ret
          have hs5 := K5.out.size
          exact ⟨rfl, (K5.out.trans ((Keep.of_below (Hb6.out.trans (Hb7.out.mono hs6))).mono hs5)).below⟩
end Go.Proofs.Ytadelkancmbanaa
