/-
  JointLong: whatever the numbers, it returns true; what was there stays.
-/
import Derived.Test.YtadelkancmbanaaJKnown
namespace Go.Proofs.Ytadelkancmbanaa
open Go.RowKit
attribute [local go_sem ↓] Go.wp_at_zero Go.wp_at_succ

/-- The first k of n numbers laid. -/
def fillL (n k : Nat) : List Int := (List.range n).map fun i => if i < k then 100 * (i : Int) else 0

theorem fillL_length (n k : Nat) : (fillL n k).length = n := by simp [fillL]
theorem fillL_get (n k i : Nat) (hi : i < n) : (fillL n k).getD i 0 = if i < k then 100 * (i : Int) else 0 := by
  simp [fillL, List.getD_eq_getElem?_getD, hi]
theorem fillL_set (n k : Nat) (hk : k < n) : fillL n (k + 1) = (fillL n k).set k (100 * (k : Int)) := by
  refine list_ext_getD (by simp [fillL]) fun i hi => ?_
  have hi' : i < n := by simpa [fillL] using hi
  rw [fillL_get _ _ _ hi', getD_set_eq _ _ _ _ (by rw [fillL_length]; exact hk), fillL_get _ _ _ hi']
  by_cases e : k = i
  · subst e; rw [if_pos rfl, if_pos (by omega)]
  · rw [if_neg e]
    by_cases h : i < k
    · rw [if_pos h, if_pos (by omega)]
    · rw [if_neg h, if_neg (by omega)]

def LongEnd (w : World) (e : Ending) (w' : World) : Prop := e = .returned (.bool true) ∧ Below w.heap.size w w'

set_option maxRecDepth 100000 in
set_option maxHeartbeats 3200000 in
theorem long_main (x0 : Int) (m n : Nat) (w : World) (h0 : 0 ≤ x0) (h1 : x0 < 2147483648) (h2 : m ≤ 900) (h3 : 2 ≤ n) (h4 : n ≤ 64) :
    Calls Try.prog 4 #[.int .i64 x0, .int .i64 m, .int .i64 n] w (LongEnd w) := by
  have d1 : decide (x0 < 0) = false := by simp; omega
  have d2 : decide (2147483648 ≤ x0) = false := by simp; omega
  have d3 : decide ((m : Int) < 0) = false := by simp
  have d4 : decide (900 < (m : Int)) = false := by simp; omega
  have d5 : decide ((n : Int) < 2) = false := by simp; omega
  have d6 : decide (64 < (n : Int)) = false := by simp; omega
  obtain ⟨ii, hii, zi0, zi1, zi2⟩ := info_parts infoI
  go_enter Try.func4, Try.ntmps4
  go_wp2_with fail
  refine (known_any w).mono ?_
  rintro e w1 ⟨rfl, hb1⟩
  obtain ⟨w2, hrun, hown, hgrow⟩ := run_make_full (P := Try.prog) w1 w1.heap.size 22 3 ii _ 1 Try.underlying22 hii zi0 zi1 .i64 .i64 n (by rw [zi2]; omega) (by unfold maxLen; omega) (Nat.le_refl _)
  have hsz : w1.heap.size < w2.heap.size := (hown.lt w1.heap.size rfl).2
  have hB := hb1.size
  have k2 : Below w.heap.size w w2 := hb1.grown hgrow hB (fun k hk => by cases hk)
  have hr0 : LRow w1.heap.size (fillL n 0) w2 := fun i hi => by
    rw [fillL_length] at hi
    rw [fillL_get _ _ _ hi, if_neg (by omega)]
    refine ⟨?_, hown.frozenAt i⟩
    rw [hown.cellAt i (by omega)]
    have e : (madeCells (Value.int .i64 0).cells (n * 1)).toList = List.replicate (n * 1) (.int .i64 0) := toList_madeCells_one _ _
    rw [e, List.getElem?_replicate, if_pos (by omega)]
  have K2 := Lib.hid k2
  have Hr0 := Lib.hid hr0
  clear k2 hr0 hown hgrow hb1
  go_wp2
  go_loopw [8] (fun i wr => ∃ k : Nat, k ≤ n ∧ i = .int .i64 k ∧ LRow w1.heap.size (fillL n k) wr ∧ Below w.heap.size w wr ∧ w1.heap.size < wr.heap.size) (fun i _ => n - (intOf i).toNat)
  case atStart => exact ⟨0, Nat.zero_le _, rfl, Hr0.out, K2.out, hsz⟩
  case round =>
    clear hrun
    obtain ⟨k, hk, rfl, hrow, hbel, hsz2⟩ := hrel
    by_cases hlt : k < n
    · obtain ⟨c0, c1⟩ := hrow k (by rw [fillL_length]; exact hlt)
      generalize (fillL n k).getD k 0 = z at c0
      have hset := hrow.set (i := k) (x := 100 * (k : Int)) (by rw [fillL_length]; exact hlt)
      rw [← fillL_set n k hlt] at hset
      have Hset := Lib.hid hset
      have Hbel := Lib.hid hbel
      clear hrow hset hbel
      have hw100 : IntKind.i64.wrap (100 * (k : Int)) = 100 * (k : Int) := by rw [IntKind.wrap_i64]; omega
      go_wp2
      go_roundw
      case rel => exact ⟨k + 1, by omega, by go_num, Hset.out, Hbel.out.setCell hB _, by simpa [World.setCell] using hsz2⟩
      case measure => simp [intOf]; omega
    · have : n = k := by omega
      subst this
      have hln := fillL_length n n
      have hl0 := hrow
      obtain ⟨vs, hvs⟩ : ∃ vs, vs = (fillL n n).map (Value.int .i64) := ⟨_, rfl⟩
      have hvl : vs.length = n := by rw [hvs]; simp [hln]
      have hnews : ∀ j u, vs[j]? = some u → wr.cell? ((⟨w1.heap.size, 0, none⟩ : Addr).add j) = some u := fun j u hj => by
        have hj' := (List.getElem?_eq_some_iff.1 hj).1
        rw [addr_add, Nat.zero_add, (hrow j (by omega)).1]
        rw [hvs, List.getElem?_map] at hj
        rw [← hj, List.getD_eq_getElem?_getD, List.getElem?_eq_getElem (by omega)]
        rfl
      have hone : ∀ u ∈ vs, u.oneCell' = true := fun u hu => by
        rw [hvs] at hu
        obtain ⟨x, _, rfl⟩ := List.mem_map.1 hu
        rfl
      have Hrow := Lib.hid hrow
      have Hbel := Lib.hid hbel
      have Hnews := Lib.hid hnews
      have Hone := Lib.hid hone
      have Hvs := Lib.hid hvs
      clear hrow hbel hl0 hnews hone hvs
      go_wp2_with (at_builtin; go_loud (refine wpList_append_lies _ rfl (.const (.slice none 0 0)) (.tmp 52) 22 rfl wr.heap.size 3 ii _ 1 8 Try.underlying22 hii zi0 zi1 zi2 rfl (by decide) (.slice none 0 0) 0 [] rfl (World.ownsRow_nil _ _ _ _) ⟨w1.heap.size, 0, none⟩ n n vs rfl (by omega) Hnews.out Hone.out (by omega) (by unfold maxLen; omega) (by omega) (Nat.le_refl _) wr.heap.size rfl ?_; intro gg cap' wA hownA hgrowA hatA hltA; have hsA := hgrowA.size))
      simp only [Nat.zero_add, List.nil_append] at hownA
      have hgB := (hownA.lt gg rfl).1
      have hiA : IntsAt gg 0 (fillL n n) wA := fun i hi => by
        rw [hln] at hi
        rw [Nat.zero_add, hownA.cellAt i (by omega), Hvs.out, List.getElem?_map, List.getD_eq_getElem?_getD, List.getElem?_eq_getElem (by omega)]
        rfl
      have hall : allLie (fillL n n) = true := (allLie_iff _).2 fun i hi => by
        rw [hln] at hi
        rw [fillL_get _ _ _ hi, if_pos hi]
        exact ⟨by omega, by omega⟩
      have hnew := new_yes gg 0 cap' (fillL n n) wA hiA (by omega) (by omega) hall hltA
      rw [hln] at hnew
      have hbelA : Below w.heap.size w wA := Hbel.out.grown hgrowA Hbel.out.size (fun k hk => by cases hk)
      have hrowA : LRow w1.heap.size (fillL n n) wA := Hrow.out.of_block (hgrowA.block _ hsz2 (fun e => by cases e))
      have hwf : Words (newW (fillL n n)) := newW_words _ ((allLie_iff _).1 hall)
      have Hnew := Lib.hid hnew
      have HbelA := Lib.hid hbelA
      have HrowA := Lib.hid hrowA
      have Hwf := Lib.hid hwf
      clear hiA hall hnew hbelA hrowA hwf hownA hgrowA Hnews Hone Hvs Hrow Hbel hatA
      go_wp2_with fail
      refine Hnew.out.mono ?_
      rintro e wN ⟨b, c, rfl, hjN, hbN, hgb, hgc⟩
      have hboth : Both b c w1.heap.size 0 (newW (fillL n n)) wN := ⟨hjN, Hwf.out, by rw [newW_nums']; exact HrowA.out.of_block (hbN.block _ (by omega)), by omega, by have := hbN.size; omega⟩
      have hlenN : (newW (fillL n n)).length = n := by rw [newW_length]; exact hln
      have hkN : Keep (fun _ => False) w.heap.size w wN := Keep.of_below (HbelA.out.trans (hbN.mono HbelA.out.size))
      have Hboth := Lib.hid hboth
      have HkN := Lib.hid hkN
      clear hjN hbN hboth hkN
      generalize newW (fillL n n) = ws0 at *
      go_wp2
      go_loopw [11, 12] (fun x i wr => ∃ k : Nat, k ≤ m ∧ i = .int .i64 k ∧ (∃ xv : Int, x = .int .i64 xv ∧ 0 ≤ xv ∧ xv < 2147483648) ∧ ∃ ws made, Both b c w1.heap.size made ws wr ∧ ws.length = n ∧ made ≤ k ∧ Keep (fun _ => False) w.heap.size w wr) (fun _ i _ => m - (intOf i).toNat)
      case atStart => exact ⟨0, Nat.zero_le _, rfl, ⟨x0, rfl, h0, h1⟩, ws0, 0, Hboth.out, hlenN, Nat.le_refl _, HkN.out⟩
      case round =>
        obtain ⟨k, hk, rfl, ⟨xv, rfl, hx0, hx1⟩, ws, made, hb, hlw, hmk, hkk⟩ := hrel
        by_cases hlt2 : k < m
        · have Hb := Lib.hid hb
          have Hkk := Lib.hid hkk
          clear hb hkk
          have hy0 : 0 ≤ (xv * 1103515245 + 12345) % 2147483648 := by omega
          have hy1 : (xv * 1103515245 + 12345) % 2147483648 < 2147483648 := by omega
          go_wp2_with (first | (go_at_call 10; ((with_reducible refine (lnext _ _ hx0 hx1).mono ?_); rintro e w' ⟨rfl, rfl⟩)))
          generalize (xv * 1103515245 + 12345) % 2147483648 = yv at *
          have hn0 : ((n : Int) == 0) = false := by rw [beq_eq_false_iff_ne]; omega
          have hn1 : ¬ n = 0 := by omega
          refine wp_region_still_tail 19 (by kernel_rfl) (by kernel_rfl) ?_
          simp only [List.take_succ_cons, List.take_zero, List.drop_succ_cons, List.drop_zero]
          change wpStill _ _ (World.drew _) _ _ _
          repeat (first | (refine wpStill_step (fun K hK => ?_); go_simp; refine hK _ ?_; clear hK K))
          refine wpStill_nil ?_
          change wpList _ _ _ _ _ (World.drew _)
          have hbd : Both b c w1.heap.size made ws wr.drew := ⟨Hb.out.raw.drew, Hb.out.words, Hb.out.row.of_block rfl, Hb.out.ne, Hb.out.lt⟩
          have hdoes : Calls Try.prog 7 #[.pointer (some ⟨b, 0, none⟩), .slice (some ⟨w1.heap.size, 0, none⟩) n n, .agg #[.int .i64 (1 + 2 * (yv / 64 % 2)), .int .i64 (yv / 256 % (n : Int)), .int .i64 (yv / 8192 % (n : Int)), .int .i64 (yv / 65536 % 300), .slice none 0 0]] wr.drew (DoesEnd b c w1.heap.size made ws wr.drew) := by
            rw [← hlw]
            have hc : yv / 64 % 2 = 0 ∨ yv / 64 % 2 = 1 := by omega
            rcases hc with e | e
            · rw [e]; exact does_read b c w1.heap.size ws.length made _ _ _ (.slice none 0 0) ws wr.drew hbd
            · rw [e]; exact does_move b c w1.heap.size ws.length made _ _ _ (.slice none 0 0) ws wr.drew hbd (by omega) rfl
          have Hdoes := Lib.hid hdoes
          clear hdoes hbd
          go_wp2_with fail
          refine Hdoes.out.mono ?_
          rintro e w' ⟨rfl, ⟨ws', made', hb', hl', hm'⟩, hk'⟩
          have Hb' := Lib.hid hb'
          have Hk' := Lib.hid hk'
          clear hb' hk'
          go_wp2
          go_roundw
          case rel =>
            refine ⟨k + 1, by omega, by go_num, ⟨yv, rfl, hy0, hy1⟩, ws', made', Hb'.out, by omega, by omega, ?_⟩
            have h1 := Hkk.out.size
            have hk1 : Keep (fun _ => False) w.heap.size wr.drew w' := (Hk'.out.mono (B' := w.heap.size) h1).weaken (fun q hq e => by rcases e with e | e | e <;> omega)
            exact (Hkk.out.drew).trans hk1
          case measure => simp [intOf]; omega
        · have : m = k := by omega
          subst this
          have hlk := look_any b c made ws wr hb.raw hb.words (by omega)
          have Hlk := Lib.hid hlk
          have Hb := Lib.hid hb
          have Hkk := Lib.hid hkk
          clear hlk hb hkk
          go_wp2_with fail
          refine Hlk.out.mono ?_
          rintro e w' ⟨ov, rfl, hownL, hjL, hkL⟩
          obtain ⟨g, gc, rfl, hg1, hg2⟩ := hownL.form (by omega)
          have hln2 := nums_length ws
          have hrow : LRow w1.heap.size (nums ws) w' := Hb.out.row.of_block (hkL.block _ Hb.out.lt (fun e => by rcases e with e | e; exact Hb.out.ne.1 e; exact Hb.out.ne.2 e))
          have hi1 : IntsAt g 0 (nums ws) w' := fun i hi => by
            rw [Nat.zero_add, hownL.cellAt i (by omega)]
            simp [List.getD_eq_getElem?_getD, hi]
          have hi2 : IntsAt w1.heap.size 0 (nums ws) w' := fun i hi => by rw [Nat.zero_add]; exact (hrow i hi).1
          have hin := ints_yes g 0 gc w1.heap.size 0 n (nums ws) w' hi1 hi2 hg2 (by have := Hb.out.lt; have := hkL.size; omega) (by omega)
          rw [hln2, hlw] at hin
          rw [hlw]
          have Hin := Lib.hid hin
          have HkL := Lib.hid hkL
          clear hin hkL hjL hownL hrow hi1 hi2
          go_wp2_with (go_at_call 9; refine Hin.out.mono ?_; rintro e w2 ⟨rfl, hb2⟩; have Hb2 := Lib.hid hb2; clear hb2)
          go_ret
          have h1 := Hkk.out.size
          have h2 := HkL.out.size
          exact ⟨rfl, (((Hkk.out.trans ((HkL.out.mono h1).weaken (fun q hq e => by rcases e with e | e <;> omega))).trans ((Keep.of_below Hb2.out).mono (by omega)))).below⟩

set_option maxRecDepth 100000 in
set_option maxHeartbeats 3200000 in
theorem long_out (x0 m n : Int) (w : World) (h : x0 < 0 ∨ 2147483648 ≤ x0 ∨ m < 0 ∨ 900 < m ∨ n < 2 ∨ 64 < n) :
    Calls Try.prog 4 #[.int .i64 x0, .int .i64 m, .int .i64 n] w (LongEnd w) := by
  by_cases c0 : x0 < 0
  · clear h
    have d0 : decide (x0 < 0) = true := decide_eq_true c0
    clear c0
    go_enter Try.func4, Try.ntmps4
    go_wp2_with fail
    refine (known_any w).mono ?_
    rintro e w1 ⟨rfl, hb1⟩
    go_wp2
    go_ret
    exact ⟨rfl, hb1⟩
  · skip
    by_cases c1 : 2147483648 ≤ x0
    · clear h
      have d0 : decide (x0 < 0) = false := decide_eq_false c0
      have d1 : decide (2147483648 ≤ x0) = true := decide_eq_true c1
      clear c0 c1
      go_enter Try.func4, Try.ntmps4
      go_wp2_with fail
      refine (known_any w).mono ?_
      rintro e w1 ⟨rfl, hb1⟩
      go_wp2
      go_ret
      exact ⟨rfl, hb1⟩
    · skip
      by_cases c2 : m < 0
      · clear h
        have d0 : decide (x0 < 0) = false := decide_eq_false c0
        have d1 : decide (2147483648 ≤ x0) = false := decide_eq_false c1
        have d2 : decide (m < 0) = true := decide_eq_true c2
        clear c0 c1 c2
        go_enter Try.func4, Try.ntmps4
        go_wp2_with fail
        refine (known_any w).mono ?_
        rintro e w1 ⟨rfl, hb1⟩
        go_wp2
        go_ret
        exact ⟨rfl, hb1⟩
      · skip
        by_cases c3 : 900 < m
        · clear h
          have d0 : decide (x0 < 0) = false := decide_eq_false c0
          have d1 : decide (2147483648 ≤ x0) = false := decide_eq_false c1
          have d2 : decide (m < 0) = false := decide_eq_false c2
          have d3 : decide (900 < m) = true := decide_eq_true c3
          clear c0 c1 c2 c3
          go_enter Try.func4, Try.ntmps4
          go_wp2_with fail
          refine (known_any w).mono ?_
          rintro e w1 ⟨rfl, hb1⟩
          go_wp2
          go_ret
          exact ⟨rfl, hb1⟩
        · skip
          by_cases c4 : n < 2
          · clear h
            have d0 : decide (x0 < 0) = false := decide_eq_false c0
            have d1 : decide (2147483648 ≤ x0) = false := decide_eq_false c1
            have d2 : decide (m < 0) = false := decide_eq_false c2
            have d3 : decide (900 < m) = false := decide_eq_false c3
            have d4 : decide (n < 2) = true := decide_eq_true c4
            clear c0 c1 c2 c3 c4
            go_enter Try.func4, Try.ntmps4
            go_wp2_with fail
            refine (known_any w).mono ?_
            rintro e w1 ⟨rfl, hb1⟩
            go_wp2
            go_ret
            exact ⟨rfl, hb1⟩
          · skip
            have c5 : 64 < n := by omega
            clear h
            have d0 : decide (x0 < 0) = false := decide_eq_false c0
            have d1 : decide (2147483648 ≤ x0) = false := decide_eq_false c1
            have d2 : decide (m < 0) = false := decide_eq_false c2
            have d3 : decide (900 < m) = false := decide_eq_false c3
            have d4 : decide (n < 2) = false := decide_eq_false c4
            have d5 : decide (64 < n) = true := decide_eq_true c5
            clear c0 c1 c2 c3 c4 c5
            go_enter Try.func4, Try.ntmps4
            go_wp2_with fail
            refine (known_any w).mono ?_
            rintro e w1 ⟨rfl, hb1⟩
            go_wp2
            go_ret
            exact ⟨rfl, hb1⟩

/-- JointLong. -/
theorem long_any (x0 m n : Int) (w : World) : Calls Try.prog 4 #[.int .i64 x0, .int .i64 m, .int .i64 n] w (LongEnd w) := by
  by_cases h : x0 < 0 ∨ 2147483648 ≤ x0 ∨ m < 0 ∨ 900 < m ∨ n < 2 ∨ 64 < n
  · exact long_out x0 m n w h
  · obtain ⟨m', rfl⟩ := Int.eq_ofNat_of_zero_le (show 0 ≤ m by omega)
    obtain ⟨n', rfl⟩ := Int.eq_ofNat_of_zero_le (show 0 ≤ n by omega)
    exact long_main x0 m' n' w (by omega) (by omega) (by omega) (by omega) (by omega)
end Go.Proofs.Ytadelkancmbanaa
