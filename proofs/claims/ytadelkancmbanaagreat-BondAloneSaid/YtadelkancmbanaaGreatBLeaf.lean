/-
  Contracts of the leaf functions of package word, crew, sync/atomic (the worker is nil).
-/
import Derived.Test.YtadelkancmbanaaGreatJBase
namespace Go.Proofs.YtadelkancmbanaaGreat
open Go.RowKit

theorem step_nil (w : World) : Calls Tryz.prog 22 #[.pointer none] w fun e w' => e = .returned (.tuple #[]) ∧ w = w' := by
  go_enter Tryz.func22, Tryz.ntmps22
  go_wp2
  exact bodyPost_ret (results_none rfl _ _ _) rfl ⟨rfl, rfl⟩

theorem number_nil (w : World) : Calls Tryz.prog 83 #[.pointer none] w fun e w' => e = .returned (.int .i64 0) ∧ w = w' := by
  go_enter Tryz.func83, Tryz.ntmps83
  go_wp2
  go_ret
  exact ⟨rfl, rfl⟩

theorem isWord_yes (x : Int) (w : World) (h0 : 0 ≤ x) (h1 : x ≤ 1152921504606846975) : Calls Tryz.prog 85 #[.int .i64 x] w fun e w' => e = .returned (.bool true) ∧ w = w' := by
  have hb : decide (x ≤ 1152921504606846975) = true := by simpa using h1
  go_enter Tryz.func85, Tryz.ntmps85
  go_wp2
  go_ret
  exact ⟨rfl, rfl⟩

theorem isIndex_yes (x : Int) (w : World) (h0 : 0 ≤ x) (h1 : x ≤ 1048575) : Calls Tryz.prog 112 #[.int .i64 x] w fun e w' => e = .returned (.bool true) ∧ w = w' := by
  have hb : decide (x ≤ 1048575) = true := by simpa using h1
  go_enter Tryz.func112, Tryz.ntmps112
  go_wp2
  go_ret
  exact ⟨rfl, rfl⟩

theorem isTag_yes (x : Int) (w : World) (h0 : 0 ≤ x) (h1 : x ≤ 1099511627775) : Calls Tryz.prog 113 #[.int .i64 x] w fun e w' => e = .returned (.bool true) ∧ w = w' := by
  have hb : decide (x ≤ 1099511627775) = true := by simpa using h1
  go_enter Tryz.func113, Tryz.ntmps113
  go_wp2
  go_ret
  exact ⟨rfl, rfl⟩

theorem pack_word (x t : Int) (w : World) (h0 : 0 ≤ x) (h1 : x ≤ 1048575) (h2 : 0 ≤ t) (h3 : t ≤ 1099511627775) : Calls Tryz.prog 87 #[.int .i64 x, .int .i64 t] w fun e w' => e = .returned (.tuple #[.int .i64 (x * 1099511627776 + t), .int .i64 0]) ∧ w = w' := by
  have hj := or_join40 x t h0 h1 h2 (by omega)
  go_enter Tryz.func87, Tryz.ntmps87
  go_wp2_with (first | (go_at_call 112; ((with_reducible refine (isIndex_yes _ _ h0 h1).mono ?_); rintro e w' ⟨rfl, rfl⟩)) | (go_at_call 113; ((with_reducible refine (isTag_yes _ _ h2 h3).mono ?_); rintro e w' ⟨rfl, rfl⟩)))
  go_ret2
  exact ⟨rfl, rfl⟩

theorem index_word (x : Int) (w : World) (h0 : 0 ≤ x) (h1 : x ≤ 1152921504606846975) : Calls Tryz.prog 49 #[.int .i64 x] w fun e w' => e = .returned (.int .i64 (x / 1099511627776)) ∧ w = w' := by
  go_enter Tryz.func49, Tryz.ntmps49
  go_wp2_with ((go_at_call 85; ((with_reducible refine (isWord_yes _ _ h0 h1).mono ?_); rintro e w' ⟨rfl, rfl⟩)))
  go_ret
  exact ⟨rfl, rfl⟩

theorem tag_word (x : Int) (w : World) (h0 : 0 ≤ x) (h1 : x ≤ 1152921504606846975) : Calls Tryz.prog 50 #[.int .i64 x] w fun e w' => e = .returned (.int .i64 (x % 1099511627776)) ∧ w = w' := by
  have hm := and_mask40 x h0 (by omega)
  go_enter Tryz.func50, Tryz.ntmps50
  go_wp2_with ((go_at_call 85; ((with_reducible refine (isWord_yes _ _ h0 h1).mono ?_); rintro e w' ⟨rfl, rfl⟩)))
  go_ret
  exact ⟨rfl, rfl⟩

/-- The next word: another value, the next tag. -/
def nextWord (x v : Int) : Int := v * 1099511627776 + (x + 1) % 1099511627776

theorem nextWord_bd (x v : Int) (h0 : 0 ≤ v) (h1 : v ≤ 1048575) : 0 ≤ nextWord x v ∧ nextWord x v ≤ 1152921504606846975 ∧ nextWord x v / 1099511627776 = v := by
  unfold nextWord; omega

theorem next_word (x v : Int) (w : World) (h0 : 0 ≤ x) (h1 : x ≤ 1152921504606846975) (h2 : 0 ≤ v) (h3 : v ≤ 1048575) : Calls Tryz.prog 114 #[.int .i64 x, .int .i64 v] w fun e w' => e = .returned (.tuple #[.int .i64 (nextWord x v), .int .i64 0]) ∧ w = w' := by
  have hm := and_mask40 (x % 1099511627776 + 1) (by omega) (by omega)
  have hj := or_join40 v ((x + 1) % 1099511627776) h2 h3 (by omega) (by omega)
  go_enter Tryz.func114, Tryz.ntmps114
  go_wp2_with (first | (go_at_call 85; ((with_reducible refine (isWord_yes _ _ h0 h1).mono ?_); rintro e w' ⟨rfl, rfl⟩)) | (go_at_call 112; ((with_reducible refine (isIndex_yes _ _ h2 h3).mono ?_); rintro e w' ⟨rfl, rfl⟩)) | (go_at_call 50; ((with_reducible refine (tag_word _ _ h0 h1).mono ?_); rintro e w' ⟨rfl, rfl⟩)))
  go_ret2
  exact ⟨rfl, rfl⟩

/-! ### sync/atomic, alone -/

theorem run_call_swap {P : Program} {f : FuncId} {fn : Func} (hf : P.funcs[f]? = some fn) (hname : (fn.name == "runtime.NumGoroutine") = false) (hb : fn.body.isNone = true) (hn : Extern.findNext fn = none) (k : IntKind)
    (he : Extern.find fn = some (Extern.Atomic.swapT (.int k))) {a : Addr} {x y : Int} {w : World} (hc : w.cell? a = some (.int k x)) (hz : w.frozen? a = false) :
    (callFunc f #[.pointer (some a), .int k y]).run P w = .ok (.value (.int k x)) (w.setCell a (.int k y)) := by
  rw [run_callFunc_extern hf hname hb hn he]
  change (Sem.run P (do
    let a' ← asAddr (.pointer (some a))
    let old ← Extern.Atomic.read (.int k) a'
    store a' (.int k y) .atomic
    pure old) w).andThen _ = _
  simp [Extern.Atomic.read, asAddr, hc, hz, run_store P w a (.int k y) .atomic rfl, Result.andThen]

theorem run_call_loadp {P : Program} {f : FuncId} {fn : Func} (hf : P.funcs[f]? = some fn) (hname : (fn.name == "runtime.NumGoroutine") = false) (hb : fn.body.isNone = true) (hn : Extern.findNext fn = none)
    (he : Extern.find fn = some (Extern.Atomic.loadT .ptr)) {a : Addr} {x : Option Addr} {w : World} (hc : w.cell? a = some (.pointer x)) :
    (callFunc f #[.pointer (some a)]).run P w = .ok (.value (.pointer x)) w := by
  rw [run_callFunc_extern hf hname hb hn he]
  change (Sem.run P (do Extern.Atomic.read .ptr (← asAddr (.pointer (some a)))) w).andThen _ = _
  simp [Extern.Atomic.read, asAddr, hc, Result.andThen]

theorem run_call_storep {P : Program} {f : FuncId} {fn : Func} (hf : P.funcs[f]? = some fn) (hname : (fn.name == "runtime.NumGoroutine") = false) (hb : fn.body.isNone = true) (hn : Extern.findNext fn = none)
    (he : Extern.find fn = some Extern.Atomic.storeT) {a : Addr} {x : Option Addr} {u : Value} {w : World} (hc : w.cell? a = some u) (hz : w.frozen? a = false) :
    (callFunc f #[.pointer (some a), .pointer x]).run P w = .ok (.value (.tuple #[])) (w.setCell a (.pointer x)) := by
  rw [run_callFunc_extern hf hname hb hn he]
  change (Sem.run P (do
    store (← asAddr (.pointer (some a))) (.pointer x) .atomic
    pure Extern.Atomic.none_) w).andThen _ = _
  simp [asAddr, hc, hz, run_store P w a (.pointer x) .atomic rfl, Result.andThen, Extern.Atomic.none_]

theorem i64load (b o : Nat) (x : Int) (w : World) (hc : w.cell? ⟨b, o, none⟩ = some (.int .i64 x)) : Calls Tryz.prog 31 #[.pointer (some ⟨b, o, none⟩)] w fun e w' => e = .returned (.int .i64 x) ∧ w = w' := by
  have hx : (callFunc 73 #[.pointer (some ⟨b, o, none⟩)]).run Tryz.prog w = .ok (.value (.int .i64 x)) w :=
    run_call_load (P := Tryz.prog) Tryz.func73 (by kernel_rfl) (by kernel_rfl) (by kernel_rfl) .i64 (by kernel_rfl) hc
  go_enter Tryz.func31, Tryz.ntmps31
  go_wp2
  go_ret
  exact ⟨rfl, rfl⟩
theorem i64store (b o : Nat) (x : Int) (u : Value) (w : World) (hc : w.cell? ⟨b, o, none⟩ = some u) (hz : w.frozen? ⟨b, o, none⟩ = false) : Calls Tryz.prog 23 #[.pointer (some ⟨b, o, none⟩), .int .i64 x] w fun e w' => e = .returned (.tuple #[]) ∧ w.setCell ⟨b, o, none⟩ (.int .i64 x) = w' := by
  have hx : (callFunc 59 #[.pointer (some ⟨b, o, none⟩), .int .i64 x]).run Tryz.prog w = .ok (.value (.tuple #[])) (w.setCell ⟨b, o, none⟩ (.int .i64 x)) :=
    run_call_store (P := Tryz.prog) Tryz.func59 (by kernel_rfl) (by kernel_rfl) (by kernel_rfl) (by kernel_rfl) hc hz
  go_enter Tryz.func23, Tryz.ntmps23
  go_wp2
  go_end0
  exact ⟨rfl, rfl⟩
theorem i64cas (b o : Nat) (x y : Int) (w : World) (hc : w.cell? ⟨b, o, none⟩ = some (.int .i64 x)) (hz : w.frozen? ⟨b, o, none⟩ = false) : Calls Tryz.prog 24 #[.pointer (some ⟨b, o, none⟩), .int .i64 x, .int .i64 y] w fun e w' => e = .returned (.bool true) ∧ w.setCell ⟨b, o, none⟩ (.int .i64 y) = w' := by
  have hx : (callFunc 60 #[.pointer (some ⟨b, o, none⟩), .int .i64 x, .int .i64 y]).run Tryz.prog w = .ok (.value (.bool true)) (w.setCell ⟨b, o, none⟩ (.int .i64 y)) :=
    run_call_cas_hit (P := Tryz.prog) Tryz.func60 (by kernel_rfl) (by kernel_rfl) (by kernel_rfl) .i64 (by kernel_rfl) hc hz
  go_enter Tryz.func24, Tryz.ntmps24
  go_wp2
  go_ret
  exact ⟨rfl, rfl⟩
theorem i64miss (b o : Nat) (x z y : Int) (w : World) (hc : w.cell? ⟨b, o, none⟩ = some (.int .i64 x)) (hz : w.frozen? ⟨b, o, none⟩ = false) (hne : ¬ x = z) : Calls Tryz.prog 24 #[.pointer (some ⟨b, o, none⟩), .int .i64 z, .int .i64 y] w fun e w' => e = .returned (.bool false) ∧ w = w' := by
  have hx : (callFunc 60 #[.pointer (some ⟨b, o, none⟩), .int .i64 z, .int .i64 y]).run Tryz.prog w = .ok (.value (.bool false)) w :=
    run_call_cas_miss (P := Tryz.prog) Tryz.func60 (by kernel_rfl) (by kernel_rfl) (by kernel_rfl) .i64 (by kernel_rfl) hc hz hne
  clear hne
  go_enter Tryz.func24, Tryz.ntmps24
  go_wp2
  go_ret
  exact ⟨rfl, rfl⟩
theorem i64swap (b o : Nat) (x y : Int) (w : World) (hc : w.cell? ⟨b, o, none⟩ = some (.int .i64 x)) (hz : w.frozen? ⟨b, o, none⟩ = false) : Calls Tryz.prog 26 #[.pointer (some ⟨b, o, none⟩), .int .i64 y] w fun e w' => e = .returned (.int .i64 x) ∧ w.setCell ⟨b, o, none⟩ (.int .i64 y) = w' := by
  have hx : (callFunc 61 #[.pointer (some ⟨b, o, none⟩), .int .i64 y]).run Tryz.prog w = .ok (.value (.int .i64 x)) (w.setCell ⟨b, o, none⟩ (.int .i64 y)) :=
    run_call_swap (P := Tryz.prog) Tryz.func61 (by kernel_rfl) (by kernel_rfl) (by kernel_rfl) .i64 (by kernel_rfl) hc hz
  go_enter Tryz.func26, Tryz.ntmps26
  go_wp2
  go_ret
  exact ⟨rfl, rfl⟩
theorem i64inc (b o : Nat) (x : Int) (w : World) (hc : w.cell? ⟨b, o, none⟩ = some (.int .i64 x)) (hz : w.frozen? ⟨b, o, none⟩ = false) (h0 : 0 ≤ x) (h1 : x ≤ 1099511627775) : Calls Tryz.prog 91 #[.pointer (some ⟨b, o, none⟩), .int .i64 1] w fun e w' => e = .returned (.int .i64 (x + 1)) ∧ w.setCell ⟨b, o, none⟩ (.int .i64 (x + 1)) = w' := by
  have hs : (Op.intArith .add .i64 x 1).run Tryz.prog w = .ok (.int .i64 (x + 1)) w := by
    go_simp
    rw [IntKind.wrap_i64]; omega
  have hx : (callFunc 115 #[.pointer (some ⟨b, o, none⟩), .int .i64 1]).run Tryz.prog w = .ok (.value (.int .i64 (x + 1))) (w.setCell ⟨b, o, none⟩ (.int .i64 (x + 1))) :=
    run_call_add (P := Tryz.prog) Tryz.func115 (by kernel_rfl) (by kernel_rfl) (by kernel_rfl) .i64 (by kernel_rfl) hc hz hs
  clear hs
  go_enter Tryz.func91, Tryz.ntmps91
  go_wp2
  go_ret
  exact ⟨rfl, rfl⟩

theorem desc_size : ∃ i, Tryz.prog.info? 123 = some i ∧ i.size = 3 := by
  have h : (Tryz.prog.info? 123).map (fun i => i.size) = some 3 := by kernel_rfl
  obtain ⟨i, h1, h2⟩ := Option.map_eq_some_iff.1 h
  exact ⟨i, h1, h2⟩
theorem desc_lies : liesAt Tryz.prog Tryz.prog.depth 123 (3 / Tryz.prog.cellsOf 123) 0 123 1 = true := by kernel_rfl
theorem x_fromUnsafe (c : Nat) (w : World) (hsh : w.shape? c = some (123, 3)) : (convert 105 103 (.pointer (some ⟨c, 0, none⟩))).run Tryz.prog w = .ok (.pointer (some ⟨c, 0, none⟩)) w := by
  obtain ⟨i, hi, hz⟩ := desc_size
  exact Lib.run_from_unsafe (P := Tryz.prog) w ⟨c, 0, none⟩ Tryz.underlying105 Tryz.underlying103 hi hsh desc_lies
theorem x_toUnsafe (c : Nat) (w : World) (hsh : w.shape? c = some (123, 3)) : (convert 103 105 (.pointer (some ⟨c, 0, none⟩))).run Tryz.prog w = .ok (.pointer (some ⟨c, 0, none⟩)) w := by
  obtain ⟨i, hi, hz⟩ := desc_size
  exact Lib.run_to_unsafe (P := Tryz.prog) w ⟨c, 0, none⟩ Tryz.underlying103 Tryz.underlying105 hi (by omega) hsh (by simp)

theorem pload (b o c : Nat) (w : World) (hc : w.cell? ⟨b, o, none⟩ = some (.pointer (some ⟨c, 0, none⟩))) (hsh : w.shape? c = some (123, 3)) : Calls Tryz.prog 51 #[.pointer (some ⟨b, o, none⟩)] w fun e w' => e = .returned (.pointer (some ⟨c, 0, none⟩)) ∧ w = w' := by
  have hx : (callFunc 86 #[.pointer (some ⟨b, o, none⟩)]).run Tryz.prog w = .ok (.value (.pointer (some ⟨c, 0, none⟩))) w :=
    run_call_loadp (P := Tryz.prog) Tryz.func86 (by kernel_rfl) (by kernel_rfl) (by kernel_rfl) (by kernel_rfl) hc
  have hu := x_fromUnsafe c w hsh
  clear hsh
  go_enter Tryz.func51, Tryz.ntmps51
  go_wp2
  go_ret
  exact ⟨rfl, rfl⟩

theorem pstore (b o c : Nat) (u : Value) (w : World) (hc : w.cell? ⟨b, o, none⟩ = some u) (hz : w.frozen? ⟨b, o, none⟩ = false) (hsh : w.shape? c = some (123, 3)) : Calls Tryz.prog 122 #[.pointer (some ⟨b, o, none⟩), .pointer (some ⟨c, 0, none⟩)] w fun e w' => e = .returned (.tuple #[]) ∧ w.setCell ⟨b, o, none⟩ (.pointer (some ⟨c, 0, none⟩)) = w' := by
  have hx : (callFunc 125 #[.pointer (some ⟨b, o, none⟩), .pointer (some ⟨c, 0, none⟩)]).run Tryz.prog w = .ok (.value (.tuple #[])) (w.setCell ⟨b, o, none⟩ (.pointer (some ⟨c, 0, none⟩))) :=
    run_call_storep (P := Tryz.prog) Tryz.func125 (by kernel_rfl) (by kernel_rfl) (by kernel_rfl) (by kernel_rfl) hc hz
  have hu := x_toUnsafe c w hsh
  clear hsh
  go_enter Tryz.func122, Tryz.ntmps122
  go_wp2
  go_end0
  exact ⟨rfl, rfl⟩
end Go.Proofs.YtadelkancmbanaaGreat
