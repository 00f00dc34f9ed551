/-
  Contracts of the leaf functions of package joint, word and crew (the worker is nil).
-/
import Derived.Test.YtadelkancmbanaaJBase
namespace Go.Proofs.Ytadelkancmbanaa
open Go.RowKit

theorem step_nil (w : World) : Calls Try.prog 28 #[.pointer none] w fun e w' => e = .returned (.tuple #[]) ∧ w = w' := by
  go_enter Try.func28, Try.ntmps28
  go_wp2
  exact bodyPost_ret (results_none rfl _ _ _) rfl ⟨rfl, rfl⟩

theorem number_nil (w : World) : Calls Try.prog 44 #[.pointer none] w fun e w' => e = .returned (.int .i64 0) ∧ w = w' := by
  go_enter Try.func44, Try.ntmps44
  go_wp2
  go_ret
  exact ⟨rfl, rfl⟩

theorem under_any (d : Int) (w : World) (h0 : 0 ≤ d) (h1 : d ≤ 100000) : Calls Try.prog 61 #[.int .i64 d] w fun e w' => e = .returned (.int .i64 (-d - 1)) ∧ w = w' := by
  go_enter Try.func61, Try.ntmps61
  go_wp2
  go_ret
  exact ⟨rfl, rfl⟩

theorem lies_yes (v : Int) (w : World) (h0 : 0 ≤ v) (h1 : v ≤ 1048575) : Calls Try.prog 16 #[.int .i64 v] w fun e w' => e = .returned (.bool true) ∧ w = w' := by
  have hb : decide (v ≤ 1048575) = true := by simpa using h1
  go_enter Try.func16, Try.ntmps16
  go_wp2
  go_ret
  exact ⟨rfl, rfl⟩

theorem lies_no (v : Int) (w : World) (h : v < 0 ∨ 1048575 < v) : Calls Try.prog 16 #[.int .i64 v] w fun e w' => e = .returned (.bool false) ∧ w = w' := by
  by_cases h0 : 0 ≤ v
  · have h1 : decide (v ≤ 1048575) = false := by simp; omega
    clear h
    go_enter Try.func16, Try.ntmps16
    go_wp2
    go_ret
    exact ⟨rfl, rfl⟩
  · clear h
    go_enter Try.func16, Try.ntmps16
    go_wp2
    go_ret
    exact ⟨rfl, rfl⟩

theorem isWord_yes (x : Int) (w : World) (h0 : 0 ≤ x) (h1 : x ≤ 1152921504606846975) : Calls Try.prog 62 #[.int .i64 x] w fun e w' => e = .returned (.bool true) ∧ w = w' := by
  have hb : decide (x ≤ 1152921504606846975) = true := by simpa using h1
  go_enter Try.func62, Try.ntmps62
  go_wp2
  go_ret
  exact ⟨rfl, rfl⟩

theorem isIndex_yes (x : Int) (w : World) (h0 : 0 ≤ x) (h1 : x ≤ 1048575) : Calls Try.prog 37 #[.int .i64 x] w fun e w' => e = .returned (.bool true) ∧ w = w' := by
  have hb : decide (x ≤ 1048575) = true := by simpa using h1
  go_enter Try.func37, Try.ntmps37
  go_wp2
  go_ret
  exact ⟨rfl, rfl⟩

theorem isTag_zero (w : World) : Calls Try.prog 38 #[.int .i64 0] w fun e w' => e = .returned (.bool true) ∧ w = w' := by
  go_enter Try.func38, Try.ntmps38
  go_wp2
  go_ret
  exact ⟨rfl, rfl⟩

theorem pack_zero (x : Int) (w : World) (h0 : 0 ≤ x) (h1 : x ≤ 1048575) : Calls Try.prog 17 #[.int .i64 x, .int .i64 0] w fun e w' => e = .returned (.tuple #[.int .i64 (x * 1099511627776), .int .i64 0]) ∧ w = w' := by
  have hj := or_join40 x 0 h0 h1 (by omega) (by omega)
  simp only [Int.add_zero] at hj
  go_enter Try.func17, Try.ntmps17
  go_wp2_with (first | (go_at_call 37; refine (isIndex_yes _ _ h0 h1).mono ?_; rintro e w' ⟨rfl, rfl⟩) | (go_at_call 38; refine (isTag_zero _).mono ?_; rintro e w' ⟨rfl, rfl⟩))
  go_ret2
  exact ⟨rfl, rfl⟩

theorem index_word (x : Int) (w : World) (h0 : 0 ≤ x) (h1 : x ≤ 1152921504606846975) : Calls Try.prog 43 #[.int .i64 x] w fun e w' => e = .returned (.int .i64 (x / 1099511627776)) ∧ w = w' := by
  go_enter Try.func43, Try.ntmps43
  go_wp2_with (go_at_call 62; refine (isWord_yes _ _ h0 h1).mono ?_; rintro e w' ⟨rfl, rfl⟩)
  go_ret
  exact ⟨rfl, rfl⟩

theorem tag_word (x : Int) (w : World) (h0 : 0 ≤ x) (h1 : x ≤ 1152921504606846975) : Calls Try.prog 74 #[.int .i64 x] w fun e w' => e = .returned (.int .i64 (x % 1099511627776)) ∧ w = w' := by
  have hm := and_mask40 x h0 (by omega)
  go_enter Try.func74, Try.ntmps74
  go_wp2_with (go_at_call 62; refine (isWord_yes _ _ h0 h1).mono ?_; rintro e w' ⟨rfl, rfl⟩)
  go_ret
  exact ⟨rfl, rfl⟩

/-- The next word: another value, the next tag. -/
def nextWord (x v : Int) : Int := v * 1099511627776 + (x + 1) % 1099511627776

theorem nextWord_bd (x v : Int) (h0 : 0 ≤ v) (h1 : v ≤ 1048575) : 0 ≤ nextWord x v ∧ nextWord x v ≤ 1152921504606846975 ∧ nextWord x v / 1099511627776 = v := by
  unfold nextWord; omega

theorem next_word (x v : Int) (w : World) (h0 : 0 ≤ x) (h1 : x ≤ 1152921504606846975) (h2 : 0 ≤ v) (h3 : v ≤ 1048575) : Calls Try.prog 70 #[.int .i64 x, .int .i64 v] w fun e w' => e = .returned (.tuple #[.int .i64 (nextWord x v), .int .i64 0]) ∧ w = w' := by
  have hm := and_mask40 (x % 1099511627776 + 1) (by omega) (by omega)
  have hj := or_join40 v ((x + 1) % 1099511627776) h2 h3 (by omega) (by omega)
  go_enter Try.func70, Try.ntmps70
  go_wp2_with (first | (go_at_call 62; refine (isWord_yes _ _ h0 h1).mono ?_; rintro e w' ⟨rfl, rfl⟩) | (go_at_call 37; refine (isIndex_yes _ _ h2 h3).mono ?_; rintro e w' ⟨rfl, rfl⟩) | (go_at_call 74; refine (tag_word _ _ h0 h1).mono ?_; rintro e w' ⟨rfl, rfl⟩))
  go_ret2
  exact ⟨rfl, rfl⟩

theorem hvalue_word (x : Int) (w : World) (h0 : 0 ≤ x) (h1 : x ≤ 1152921504606846975) : Calls Try.prog 25 #[.int .i64 x] w fun e w' => e = .returned (.int .i64 (x / 1099511627776)) ∧ w = w' := by
  go_enter Try.func25, Try.ntmps25
  go_wp2_with (go_at_call 43; refine (index_word _ _ h0 h1).mono ?_; rintro e w' ⟨rfl, rfl⟩)
  go_ret
  exact ⟨rfl, rfl⟩

theorem hnext_word (x v : Int) (w : World) (h0 : 0 ≤ x) (h1 : x ≤ 1152921504606846975) (h2 : 0 ≤ v) (h3 : v ≤ 1048575) : Calls Try.prog 59 #[.int .i64 x, .int .i64 v] w fun e w' => e = .returned (.int .i64 (nextWord x v)) ∧ w = w' := by
  go_enter Try.func59, Try.ntmps59
  go_wp2_with (go_at_call 70; refine (next_word _ _ _ h0 h1 h2 h3).mono ?_; rintro e w' ⟨rfl, rfl⟩)
  go_ret
  exact ⟨rfl, rfl⟩

theorem hdesc_word (x : Int) (w : World) (h0 : 0 ≤ x) (h1 : x ≤ 1152921504606846975) : Calls Try.prog 41 #[.int .i64 x] w fun e w' => e = .returned (.tuple #[.int .i64 (-x - 1), .bool false]) ∧ w = w' := by
  have hb : decide (x < 0) = false := by simp; omega
  go_enter Try.func41, Try.ntmps41
  go_wp2
  go_ret2
  exact ⟨rfl, rfl⟩

/-! ### sync/atomic, alone -/

theorem x_load64 (a : Addr) (x : Int) (w : World) (hc : w.cell? a = some (.int .i64 x)) : (callFunc 54 #[.pointer (some a)]).run Try.prog w = .ok (.value (.int .i64 x)) w :=
  run_call_load (P := Try.prog) Try.func54 (by kernel_rfl) (by kernel_rfl) (by kernel_rfl) .i64 (by kernel_rfl) hc
theorem x_load32 (a : Addr) (x : Int) (w : World) (hc : w.cell? a = some (.int .i32 x)) : (callFunc 69 #[.pointer (some a)]).run Try.prog w = .ok (.value (.int .i32 x)) w :=
  run_call_load (P := Try.prog) Try.func69 (by kernel_rfl) (by kernel_rfl) (by kernel_rfl) .i32 (by kernel_rfl) hc
theorem x_store64 (a : Addr) (x : Int) (u : Value) (w : World) (hc : w.cell? a = some u) (hz : w.frozen? a = false) : (callFunc 39 #[.pointer (some a), .int .i64 x]).run Try.prog w = .ok (.value (.tuple #[])) (w.setCell a (.int .i64 x)) :=
  run_call_store (P := Try.prog) Try.func39 (by kernel_rfl) (by kernel_rfl) (by kernel_rfl) (by kernel_rfl) hc hz
theorem x_hit64 (a : Addr) (x y : Int) (w : World) (hc : w.cell? a = some (.int .i64 x)) (hz : w.frozen? a = false) : (callFunc 75 #[.pointer (some a), .int .i64 x, .int .i64 y]).run Try.prog w = .ok (.value (.bool true)) (w.setCell a (.int .i64 y)) :=
  run_call_cas_hit (P := Try.prog) Try.func75 (by kernel_rfl) (by kernel_rfl) (by kernel_rfl) .i64 (by kernel_rfl) hc hz
theorem x_hit32 (a : Addr) (x y : Int) (w : World) (hc : w.cell? a = some (.int .i32 x)) (hz : w.frozen? a = false) : (callFunc 68 #[.pointer (some a), .int .i32 x, .int .i32 y]).run Try.prog w = .ok (.value (.bool true)) (w.setCell a (.int .i32 y)) :=
  run_call_cas_hit (P := Try.prog) Try.func68 (by kernel_rfl) (by kernel_rfl) (by kernel_rfl) .i32 (by kernel_rfl) hc hz

theorem run_call_loadp {P : Program} {f : FuncId} {fn : Func} (hf : P.funcs[f]? = some fn) (hname : (fn.name == "runtime.NumGoroutine") = false) (hb : fn.body.isNone = true) (hn : Extern.findNext fn = none)
    (he : Extern.find fn = some (Extern.Atomic.loadT .ptr)) {a : Addr} {x : Option Addr} {w : World} (hc : w.cell? a = some (.pointer x)) :
    (callFunc f #[.pointer (some a)]).run P w = .ok (.value (.pointer x)) w := by
  rw [run_callFunc_extern hf hname hb hn he]
  change (Sem.run P (do Extern.Atomic.read .ptr (← asAddr (.pointer (some a)))) w).andThen _ = _
  simp [Extern.Atomic.read, asAddr, hc, Result.andThen]

theorem run_call_storep {P : Program} {f : FuncId} {fn : Func} (hf : P.funcs[f]? = some fn) (hname : (fn.name == "runtime.NumGoroutine") = false) (hb : fn.body.isNone = true) (hn : Extern.findNext fn = none)
    (he : Extern.find fn = some Extern.Atomic.storeT) {a : Addr} {x : Option Addr} {u : Value} {w : World} (hc : w.cell? a = some u) (hz : w.frozen? a = false) :
    (callFunc f #[.pointer (some a), .pointer x]).run P w = .ok (.value (.tuple #[])) (w.setCell a (.pointer x)) := by
  rw [run_callFunc_extern hf hname hb hn he]
  change (Sem.run P (do
    store (← asAddr (.pointer (some a))) (.pointer x) .atomic
    pure Extern.Atomic.none_) w).andThen _ = _
  simp [asAddr, hc, hz, run_store P w a (.pointer x) .atomic rfl, Result.andThen, Extern.Atomic.none_]

theorem x_loadp (a : Addr) (x : Option Addr) (w : World) (hc : w.cell? a = some (.pointer x)) : (callFunc 67 #[.pointer (some a)]).run Try.prog w = .ok (.value (.pointer x)) w :=
  run_call_loadp (P := Try.prog) Try.func67 (by kernel_rfl) (by kernel_rfl) (by kernel_rfl) (by kernel_rfl) hc
theorem x_storep (a : Addr) (x : Option Addr) (u : Value) (w : World) (hc : w.cell? a = some u) (hz : w.frozen? a = false) : (callFunc 63 #[.pointer (some a), .pointer x]).run Try.prog w = .ok (.value (.tuple #[])) (w.setCell a (.pointer x)) :=
  run_call_storep (P := Try.prog) Try.func63 (by kernel_rfl) (by kernel_rfl) (by kernel_rfl) (by kernel_rfl) hc hz

theorem i64load (b o : Nat) (x : Int) (w : World) (hc : w.cell? ⟨b, o, none⟩ = some (.int .i64 x)) : Calls Try.prog 40 #[.pointer (some ⟨b, o, none⟩)] w fun e w' => e = .returned (.int .i64 x) ∧ w = w' := by
  have hx := x_load64 ⟨b, o, none⟩ x w hc
  go_enter Try.func40, Try.ntmps40
  go_wp2
  go_ret
  exact ⟨rfl, rfl⟩
theorem i32load (b o : Nat) (x : Int) (w : World) (hc : w.cell? ⟨b, o, none⟩ = some (.int .i32 x)) : Calls Try.prog 58 #[.pointer (some ⟨b, o, none⟩)] w fun e w' => e = .returned (.int .i32 x) ∧ w = w' := by
  have hx := x_load32 ⟨b, o, none⟩ x w hc
  go_enter Try.func58, Try.ntmps58
  go_wp2
  go_ret
  exact ⟨rfl, rfl⟩
theorem i64store (b o : Nat) (x : Int) (u : Value) (w : World) (hc : w.cell? ⟨b, o, none⟩ = some u) (hz : w.frozen? ⟨b, o, none⟩ = false) : Calls Try.prog 18 #[.pointer (some ⟨b, o, none⟩), .int .i64 x] w fun e w' => e = .returned (.tuple #[]) ∧ w.setCell ⟨b, o, none⟩ (.int .i64 x) = w' := by
  have hx := x_store64 ⟨b, o, none⟩ x u w hc hz
  go_enter Try.func18, Try.ntmps18
  go_wp2
  go_end0
  exact ⟨rfl, rfl⟩
theorem i64cas (b o : Nat) (x y : Int) (w : World) (hc : w.cell? ⟨b, o, none⟩ = some (.int .i64 x)) (hz : w.frozen? ⟨b, o, none⟩ = false) : Calls Try.prog 71 #[.pointer (some ⟨b, o, none⟩), .int .i64 x, .int .i64 y] w fun e w' => e = .returned (.bool true) ∧ w.setCell ⟨b, o, none⟩ (.int .i64 y) = w' := by
  have hx := x_hit64 ⟨b, o, none⟩ x y w hc hz
  go_enter Try.func71, Try.ntmps71
  go_wp2
  go_ret
  exact ⟨rfl, rfl⟩
theorem i32cas (b o : Nat) (x y : Int) (w : World) (hc : w.cell? ⟨b, o, none⟩ = some (.int .i32 x)) (hz : w.frozen? ⟨b, o, none⟩ = false) : Calls Try.prog 57 #[.pointer (some ⟨b, o, none⟩), .int .i32 x, .int .i32 y] w fun e w' => e = .returned (.bool true) ∧ w.setCell ⟨b, o, none⟩ (.int .i32 y) = w' := by
  have hx := x_hit32 ⟨b, o, none⟩ x y w hc hz
  go_enter Try.func57, Try.ntmps57
  go_wp2
  go_ret
  exact ⟨rfl, rfl⟩
theorem desc_size : ∃ i, Try.prog.info? 97 = some i ∧ i.size = 194 := by
  have h : (Try.prog.info? 97).map (fun i => i.size) = some 194 := by kernel_rfl
  obtain ⟨i, h1, h2⟩ := Option.map_eq_some_iff.1 h
  exact ⟨i, h1, h2⟩
theorem desc_lies : liesAt Try.prog Try.prog.depth 97 (194 / Try.prog.cellsOf 97) 0 97 1 = true := by kernel_rfl
theorem x_fromUnsafe (c : Nat) (w : World) (hsh : w.shape? c = some (97, 194)) : (convert 53 49 (.pointer (some ⟨c, 0, none⟩))).run Try.prog w = .ok (.pointer (some ⟨c, 0, none⟩)) w := by
  obtain ⟨i, hi, hz⟩ := desc_size
  exact Lib.run_from_unsafe (P := Try.prog) w ⟨c, 0, none⟩ Try.underlying53 Try.underlying49 hi hsh desc_lies
theorem x_toUnsafe (c : Nat) (w : World) (hsh : w.shape? c = some (97, 194)) : (convert 49 53 (.pointer (some ⟨c, 0, none⟩))).run Try.prog w = .ok (.pointer (some ⟨c, 0, none⟩)) w := by
  obtain ⟨i, hi, hz⟩ := desc_size
  exact Lib.run_to_unsafe (P := Try.prog) w ⟨c, 0, none⟩ Try.underlying49 Try.underlying53 hi (by omega) hsh (by simp)

theorem pload (b o c : Nat) (w : World) (hc : w.cell? ⟨b, o, none⟩ = some (.pointer (some ⟨c, 0, none⟩))) (hsh : w.shape? c = some (97, 194)) : Calls Try.prog 55 #[.pointer (some ⟨b, o, none⟩)] w fun e w' => e = .returned (.pointer (some ⟨c, 0, none⟩)) ∧ w = w' := by
  have hx := x_loadp ⟨b, o, none⟩ _ w hc
  have hu := x_fromUnsafe c w hsh
  clear hsh
  go_enter Try.func55, Try.ntmps55
  go_wp2
  go_ret
  exact ⟨rfl, rfl⟩

theorem pstore (b o c : Nat) (u : Value) (w : World) (hc : w.cell? ⟨b, o, none⟩ = some u) (hz : w.frozen? ⟨b, o, none⟩ = false) (hsh : w.shape? c = some (97, 194)) : Calls Try.prog 45 #[.pointer (some ⟨b, o, none⟩), .pointer (some ⟨c, 0, none⟩)] w fun e w' => e = .returned (.tuple #[]) ∧ w.setCell ⟨b, o, none⟩ (.pointer (some ⟨c, 0, none⟩)) = w' := by
  have hx := x_storep ⟨b, o, none⟩ (some ⟨c, 0, none⟩) u w hc hz
  have hu := x_toUnsafe c w hsh
  clear hsh
  go_enter Try.func45, Try.ntmps45
  go_wp2
  go_end0
  exact ⟨rfl, rfl⟩
end Go.Proofs.Ytadelkancmbanaa
