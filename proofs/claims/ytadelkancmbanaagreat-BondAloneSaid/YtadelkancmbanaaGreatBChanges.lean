/-
  bond.Cells: changes, where nobody is in the way: what a closure looks up is laid down.
-/
import Derived.Test.YtadelkancmbanaaGreatBWrites
namespace Go.Proofs.YtadelkancmbanaaGreat
open Go.RowKit
attribute [local go_sem ↓] Go.wp_at_zero Go.wp_at_succ

theorem WrSt_back (S : St) (h0 : S.at0 = 0) (hd : S.deep = 0) (n : Nat) (key : Nat → Nat) (val old : Nat → Int) (F : List Nat) (db : Nat → Nat) (next : Nat → Nat) (head : Int) (tag : Nat → Nat) :
    { WrSt S.inn n key val old F db next head tag with at0 := 0, deep := 0 } = WrSt S n key val old F db next head tag := by
  unfold WrSt St.inn
  cases S
  dsimp only at *
  subst h0 hd
  rfl

/-- What a closure lays before a write. -/
def LookEnd (Z : Fix) (S : St) (n : Nat) (key : Nat → Nat) (val old : Nat → Int) (w1 : World) (e : Ending) (w2 : World) : Prop :=
  ∃ gl lcap gq ocap : Nat, e = .returned (.tuple #[.slice (some ⟨gl, 0, none⟩) n lcap, .slice (some ⟨gq, 0, none⟩) n ocap, .int .i64 0]) ∧ Next Z S w1 S w2 ∧ WrIn S n gl gq key val old w2

def ChangedEnd (Z : Fix) (S : St) (n : Nat) (key : Nat → Nat) (val old : Nat → Int) (F : List Nat) (G : Int) (w : World) (e : Ending) (w' : World) : Prop :=
  e = .returned (.tuple #[.int .i64 S.cnow, .int .i64 0]) ∧ ∃ db next head tag, Next Z S w (WrSt S n key val old F db next head tag) w' ∧ PoolOk Z.n (laidK S.tbl ((8 * S.made + 1 : Nat) : Int) val old F n) next head (F.drop n) (G + n) ∧ (∀ j, j < S.made → db j = S.db j)

set_option maxRecDepth 100000 in
set_option maxHeartbeats 1600000 in
theorem bchanges_ok (Z : Fix) (S : St) (n f : Nat) (caps : Array Value) (key : Nat → Nat) (val old : Nat → Int) (F : List Nat) (G : Int) (w : World) (hm : Mem Z S w) (hd : S.deep = 0) (h0 : S.at0 = 0) (ok : PoolOk Z.n S.tbl S.next S.head F G) (hG : G + n < 900000) (hmade : S.made ≤ 999) (hF : n ≤ F.length)
    (hcall : ∀ (cap : Array Value) (w : World), (callFunc f cap).run Tryz.prog w = .ok (.enter f cap) w)
    (hlook : ∀ w1, Next Z S w S.inn w1 → Calls Tryz.prog f caps w1 (LookEnd Z S.inn n key val old w1)) :
    Calls Tryz.prog 38 #[.pointer (some ⟨Z.X.x, 0, none⟩), .pointer none, .func (.func f) #[] caps] w (ChangedEnd Z S n key val old F G w) := by
  have he := hm.ep
  rw [hd, h0] at he
  have hen := enter_any Z.X.e Z.K.p S.now S.v w he
  have c1 := hm.bond.c1
  have hback := WrSt_back S h0 hd n key val old F
  have Hen := Lib.hid hen
  have Hm := Lib.hid hm
  have Hok := Lib.hid ok
  have HG := Lib.hid hG
  have Hmade := Lib.hid hmade
  have HF := Lib.hid hF
  have Hlook := Lib.hid hlook
  have Hback := Lib.hid hback
  clear he hen hd h0 hm ok hG hmade hF hlook hback
  go_enter_defers Tryz.func38, Tryz.ntmps38
  go_wp2_with fail
  refine Hen.out.mono ?_
  rintro e w1 ⟨rfl, he1, hk1⟩
  have hn1 : Next Z S w S.inn w1 := Hm.out.nextEp he1 hk1
  have c11 := hn1.mem.bond.c1
  have Hn1 := Lib.hid hn1
  clear he1 hk1 hn1 c1
  go_wp2_with fail
  go_loopg [28] 1 (fun k _ wr => w1 = wr)
  case atStart => rfl
  case round =>
    subst hrel
    have Hl := Lib.hid (Hlook.out w1 Hn1.out)
    go_wp2_with fail
    refine Hl.out.mono ?_
    rintro e w2 ⟨gl, lcap, gq, ocap, rfl, hn2, hin⟩
    have Hw := Lib.hid (bwrites_any Z S.inn n gl lcap gq ocap key val old F G w2 hn2.mem Hok.out HG.out Hmade.out HF.out hin)
    have Hn2 := Lib.hid hn2
    clear hn2 hin Hl
    go_wp2_with fail
    refine Hw.out.mono ?_
    rintro e w3 ⟨rfl, db, next, head, tag, hn3, hok3, hdb⟩
    have Hn3 := Lib.hid hn3
    have Hok3 := Lib.hid hok3
    have Hdb := Lib.hid hdb
    clear hn3 hok3 hdb Hw
    go_wp2_with fail
    refine leave_door Hn3.out.mem rfl ?_
    intro w' hn
    refine ⟨_, results_tmp2 rfl _ _ _, rfl, db, next, head, tag, ?_, Hok3.out, Hdb.out⟩
    have := ((Hn1.out.trans Hn2.out).trans Hn3.out).trans hn
    rw [Hback.out] at this
    exact this

set_option maxRecDepth 100000 in
set_option maxHeartbeats 1600000 in
/-- The closure tells an error. -/
theorem bchanges_err (Z : Fix) (S : St) (f : Nat) (x : Int) (caps : Array Value) (w : World) (hm : Mem Z S w) (hd : S.deep = 0) (h0 : S.at0 = 0) (hx : (x == 0) = false)
    (hcall : ∀ (cap : Array Value) (w : World), (callFunc f cap).run Tryz.prog w = .ok (.enter f cap) w)
    (hlook : ∀ w1, Next Z S w S.inn w1 → Calls Tryz.prog f caps w1 fun e w2 => e = .returned (.tuple #[.slice none 0 0, .slice none 0 0, .int .i64 x]) ∧ Next Z S.inn w1 S.inn w2) :
    Calls Tryz.prog 38 #[.pointer (some ⟨Z.X.x, 0, none⟩), .pointer none, .func (.func f) #[] caps] w fun e w' => e = .returned (.tuple #[.int .i64 0, .int .i64 x]) ∧ Next Z S w S w' := by
  have he := hm.ep
  rw [hd, h0] at he
  have hen := enter_any Z.X.e Z.K.p S.now S.v w he
  have c1 := hm.bond.c1
  have hback := St.back S h0 hd
  have Hen := Lib.hid hen
  have Hm := Lib.hid hm
  have Hlook := Lib.hid hlook
  have Hback := Lib.hid hback
  clear he hen hd h0 hm hlook hback
  go_enter_defers Tryz.func38, Tryz.ntmps38
  go_wp2_with fail
  refine Hen.out.mono ?_
  rintro e w1 ⟨rfl, he1, hk1⟩
  have hn1 : Next Z S w S.inn w1 := Hm.out.nextEp he1 hk1
  have c11 := hn1.mem.bond.c1
  have Hn1 := Lib.hid hn1
  clear he1 hk1 hn1 c1
  go_wp2_with fail
  go_loopg [28] 1 (fun k _ wr => w1 = wr)
  case atStart => rfl
  case round =>
    subst hrel
    have Hl := Lib.hid (Hlook.out w1 Hn1.out)
    go_wp2_with fail
    refine Hl.out.mono ?_
    rintro e w2 ⟨rfl, hn2⟩
    have Hn2 := Lib.hid hn2
    clear hn2 Hl
    go_wp2_with fail
    refine leave_door Hn2.out.mem rfl ?_
    intro w' hn
    refine ⟨_, results_tmp2 rfl _ _ _, rfl, ?_⟩
    have := (Hn1.out.trans Hn2.out).trans hn
    rw [Hback.out] at this
    exact this
end Go.Proofs.YtadelkancmbanaaGreat
