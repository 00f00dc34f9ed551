/-
  The law's does, kind by kind.
-/
import Derived.Test.YtadelkancmbanaaGreatBLMany2
import Derived.Test.YtadelkancmbanaaGreatBPeek
import Derived.Test.YtadelkancmbanaaGreatBTrim
namespace Go.Proofs.YtadelkancmbanaaGreat
open Go.RowKit
attribute [local go_sem ↓] Go.wp_at_zero Go.wp_at_succ

def opVal (kind a b c : Int) (p : Option Addr) (m cp : Nat) : Value := .agg #[.int .i64 kind, .int .i64 a, .int .i64 b, .int .i64 c, .slice p m cp]

def boxes2 (Z : Fix) (kind a b c : Int) (p : Option Addr) (m cp : Nat) (w : World) : World :=
  (w.alloc (.cells #[.pointer (some ⟨Z.X.x, 0, none⟩), .pointer (some ⟨Z.K.p, 0, none⟩), .pointer (some ⟨Z.X.e, 0, none⟩), .pointer (some ⟨Z.X.c, 0, none⟩)] 33)).alloc (.cells #[.int .i64 kind, .int .i64 a, .int .i64 b, .int .i64 c, .slice p m cp] 27)

structure Box2 (Z : Fix) (kind a b c : Int) (p : Option Addr) (m cp B : Nat) (w' : World) : Prop where
  x : w'.cell? ⟨B, 0, none⟩ = some (.pointer (some ⟨Z.X.x, 0, none⟩))
  xp : w'.cell? ⟨B, 1, none⟩ = some (.pointer (some ⟨Z.K.p, 0, none⟩))
  e : w'.cell? ⟨B, 2, none⟩ = some (.pointer (some ⟨Z.X.e, 0, none⟩))
  xc : w'.cell? ⟨B, 3, none⟩ = some (.pointer (some ⟨Z.X.c, 0, none⟩))
  k : w'.cell? ⟨B + 1, 0, none⟩ = some (.int .i64 kind)
  a : w'.cell? ⟨B + 1, 1, none⟩ = some (.int .i64 a)
  b : w'.cell? ⟨B + 1, 2, none⟩ = some (.int .i64 b)
  c : w'.cell? ⟨B + 1, 3, none⟩ = some (.int .i64 c)
  l : w'.cell? ⟨B + 1, 4, none⟩ = some (.slice p m cp)

theorem box2_of {Z : Fix} {kind a b c : Int} {p : Option Addr} {m cp B : Nat} {w' : World} (h0 : w'.heap[B]? = some (.cells #[.pointer (some ⟨Z.X.x, 0, none⟩), .pointer (some ⟨Z.K.p, 0, none⟩), .pointer (some ⟨Z.X.e, 0, none⟩), .pointer (some ⟨Z.X.c, 0, none⟩)] 33 (0, 0))) (h1 : w'.heap[B + 1]? = some (.cells #[.int .i64 kind, .int .i64 a, .int .i64 b, .int .i64 c, .slice p m cp] 27 (0, 0))) : Box2 Z kind a b c p m cp B w' := by
  constructor <;> simp [World.cell?, h0, h1]

theorem boxes2_at (Z : Fix) (kind a b c : Int) (p : Option Addr) (m cp : Nat) (w : World) : Box2 Z kind a b c p m cp w.heap.size (boxes2 Z kind a b c p m cp w) :=
  box2_of (heap_alloc2_old _ _ _) (heap_alloc2_new _ _ _)
theorem boxes2_below (Z : Fix) (kind a b c : Int) (p : Option Addr) (m cp : Nat) (w : World) : Below w.heap.size w (boxes2 Z kind a b c p m cp w) := by
  unfold boxes2
  exact ((Below.refl _ _).alloc (Nat.le_refl _) _).alloc (by simp) _
theorem boxes2_size (Z : Fix) (kind a b c : Int) (p : Option Addr) (m cp : Nat) (w : World) : (boxes2 Z kind a b c p m cp w).heap.size = w.heap.size + 2 := by
  unfold boxes2; simp
theorem Box2.keep {Z : Fix} {kind a b c : Int} {p : Option Addr} {m cp B : Nat} {w w' : World} (h : Box2 Z kind a b c p m cp B w) (h0 : w'.heap[B]? = w.heap[B]?) (h1 : w'.heap[B + 1]? = w.heap[B + 1]?) : Box2 Z kind a b c p m cp B w' :=
  ⟨(World.cell?_of_block (a := ⟨B, 0, none⟩) h0).trans h.x, (World.cell?_of_block (a := ⟨B, 1, none⟩) h0).trans h.xp, (World.cell?_of_block (a := ⟨B, 2, none⟩) h0).trans h.e, (World.cell?_of_block (a := ⟨B, 3, none⟩) h0).trans h.xc,
   (World.cell?_of_block (a := ⟨B + 1, 0, none⟩) h1).trans h.k, (World.cell?_of_block (a := ⟨B + 1, 1, none⟩) h1).trans h.a, (World.cell?_of_block (a := ⟨B + 1, 2, none⟩) h1).trans h.b, (World.cell?_of_block (a := ⟨B + 1, 3, none⟩) h1).trans h.c, (World.cell?_of_block (a := ⟨B + 1, 4, none⟩) h1).trans h.l⟩

set_option maxRecDepth 100000 in
set_option maxHeartbeats 6400000 in
theorem doesX (Z : Fix) (S : St) (C : Nat → List Ver) (F : List Nat) (W : List Wait) (G : Int) (gl capl m cp : Nat) (l : List Int) (kind : Int) (a b cc : Int) (p : Option Addr) (w : World) (h : Inv Z S C F W G w) (hr : LRow S gl S.heads.length l w) (hv : ∀ c, c < S.heads.length → (topOf C c).v = l.getD c 0) (rm : Room Z S F G) (hk : kind ≠ 1 ∧ kind ≠ 2 ∧ kind ≠ 3 ∧ kind ≠ 7 ∧ kind ≠ 8 ∧ kind ≠ 9) :
    Calls Tryz.prog 9 #[mVal Z, .slice (some ⟨gl, 0, none⟩) S.heads.length capl, opVal kind a b cc p m cp] w fun e w' => e = .returned (.bool true) ∧ StepE Z S C F G gl w w' := by
  obtain ⟨W0, hW0⟩ : ∃ W0, W0 = boxes2 Z kind a b cc p m cp w := ⟨_, rfl⟩
  have hbox : Box2 Z kind a b cc p m cp w.heap.size W0 := by rw [hW0]; exact boxes2_at _ _ _ _ _ _ _ _ _
  have hbl : Below w.heap.size w W0 := by rw [hW0]; exact boxes2_below _ _ _ _ _ _ _ _ _
  have hsz : W0.heap.size = w.heap.size + 2 := by rw [hW0]; exact boxes2_size _ _ _ _ _ _ _ _ _
  have hi0 := h.below hbl
  have hgl : gl < w.heap.size := (hr.cells 0 (by have := h.mem.bond.few; omega)).lt
  have few := h.mem.bond.few
  have hr0 : LRow S gl S.heads.length l W0 := hr.next few.1 (h.mem.next hbl)
  have htn : ∀ k, w.heap.size ≤ k → S.tag k = 0 := fun k hk => h.mem.tags.new k hk
  have hsame : ∀ w', Next Z S W0 S w' → StepE Z S C F G gl w w' := fun w' hn => ⟨_, _, _, _, _, _, Step.same h hr hv ((h.mem.next hbl).trans hn)⟩
  have hstay : ∀ S' w', Next Z S W0 S' w' → Box2 Z kind a b cc p m cp w.heap.size w' := fun S' w' hn => hbox.keep (hn.keep.block _ (by omega) (by rw [htn _ (by omega)]; exact fun h => h rfl)) (hn.keep.block _ (by omega) (by rw [htn _ (by omega)]; exact fun h => h rfl))
  have hend := hsame W0 (Next.refl hi0.mem)
  have Hend := Lib.hid hend
  clear hend
  have HW := Lib.hid hW0
  have Hbox := Lib.hid hbox
  have Hbl := Lib.hid hbl
  have Hsz := Lib.hid hsz
  have Hi0 := Lib.hid hi0
  have Hr := Lib.hid hr
  have Hr0 := Lib.hid hr0
  have Hgl := Lib.hid hgl
  have Hsame := Lib.hid hsame
  have Hstay := Lib.hid hstay
  have H := Lib.hid h
  have Hv := Lib.hid hv
  have Hrm := Lib.hid rm
  have Htn := Lib.hid htn
  clear hW0 hbox hbl hsz hi0 hr hr0 hgl hsame hstay h hv rm htn
  obtain ⟨k1, k2, k3, k7, k8, k9⟩ := hk
  have j1 : (kind == 1) = false := by rw [beq_eq_false_iff_ne]; exact k1
  have j2 : (kind == 2) = false := by rw [beq_eq_false_iff_ne]; exact k2
  have j3 : (kind == 3) = false := by rw [beq_eq_false_iff_ne]; exact k3
  have j7 : (kind == 7) = false := by rw [beq_eq_false_iff_ne]; exact k7
  have j8 : (kind == 8) = false := by rw [beq_eq_false_iff_ne]; exact k8
  have j9 : (kind == 9) = false := by rw [beq_eq_false_iff_ne]; exact k9
  unfold boxes2 at HW
  obtain ⟨N, hN⟩ : ∃ N, S.heads.length = N := ⟨_, rfl⟩
  rw [hN]
  clear hN
  unfold mVal opVal
  go_enter Tryz.func9, Tryz.ntmps9
  go_wp2_with fail
  all_goals
    rw [← HW.out]
    go_ret
    exact ⟨rfl, Hend.out⟩

set_option maxRecDepth 100000 in
set_option maxHeartbeats 6400000 in
theorem does2 (Z : Fix) (S : St) (C : Nat → List Ver) (F : List Nat) (W : List Wait) (G : Int) (gl capl m cp : Nat) (l : List Int) (a b cc : Int) (p : Option Addr) (w : World) (h : Inv Z S C F W G w) (hr : LRow S gl S.heads.length l w) (hv : ∀ c, c < S.heads.length → (topOf C c).v = l.getD c 0) (rm : Room Z S F G) (d : Array (Int × Int)) (hp : PVal p d w) (htp : 0 < m → ∀ x : Addr, p = some x → S.tag x.block = 0 ∧ x.block ≠ gl) (hm : d.size = m) (hs : m ≤ 20) :
    Calls Tryz.prog 9 #[mVal Z, .slice (some ⟨gl, 0, none⟩) S.heads.length capl, opVal (2 : Int) a b cc p m cp] w fun e w' => e = .returned (.bool true) ∧ StepE Z S C F G gl w w' := by
  obtain ⟨W0, hW0⟩ : ∃ W0, W0 = boxes2 Z (2 : Int) a b cc p m cp w := ⟨_, rfl⟩
  have hbox : Box2 Z (2 : Int) a b cc p m cp w.heap.size W0 := by rw [hW0]; exact boxes2_at _ _ _ _ _ _ _ _ _
  have hbl : Below w.heap.size w W0 := by rw [hW0]; exact boxes2_below _ _ _ _ _ _ _ _ _
  have hsz : W0.heap.size = w.heap.size + 2 := by rw [hW0]; exact boxes2_size _ _ _ _ _ _ _ _ _
  have hi0 := h.below hbl
  have hgl : gl < w.heap.size := (hr.cells 0 (by have := h.mem.bond.few; omega)).lt
  have few := h.mem.bond.few
  have hr0 : LRow S gl S.heads.length l W0 := hr.next few.1 (h.mem.next hbl)
  have htn : ∀ k, w.heap.size ≤ k → S.tag k = 0 := fun k hk => h.mem.tags.new k hk
  have hsame : ∀ w', Next Z S W0 S w' → StepE Z S C F G gl w w' := fun w' hn => ⟨_, _, _, _, _, _, Step.same h hr hv ((h.mem.next hbl).trans hn)⟩
  have hstay : ∀ S' w', Next Z S W0 S' w' → Box2 Z (2 : Int) a b cc p m cp w.heap.size w' := fun S' w' hn => hbox.keep (hn.keep.block _ (by omega) (by rw [htn _ (by omega)]; exact fun h => h rfl)) (hn.keep.block _ (by omega) (by rw [htn _ (by omega)]; exact fun h => h rfl))
  have hmany : Calls Tryz.prog 27 #[mVal Z, .slice (some ⟨gl, 0, none⟩) S.heads.length capl, .slice p m cp] W0 fun e w' => e = .returned (.bool true) ∧ StepE Z S C F G gl w w' := by
    rcases Nat.eq_zero_or_pos m with h0 | h0
    · subst h0
      refine (many_none Z gl capl S.heads.length cp p W0).mono fun e w' h2 => ⟨h2.1, hsame w' (hi0.mem.next h2.2)⟩
    · rcases Nat.lt_or_ge 16 m with h1 | h1
      · refine (many_much Z gl capl S.heads.length m cp p d W0 (hp.below hbl) hm (by omega)).mono fun e w' h2 => ⟨h2.1, hsame w' (hi0.mem.next h2.2)⟩
      · refine (many_law Z S C F W G gl capl m cp l p d W0 hi0 hr0 hv rm (hp.below hbl) (htp h0) hm (by omega)).mono fun e w' h2 => ⟨h2.1, ?_⟩
        obtain ⟨S', C', F', W', G', l', hst⟩ := h2.2
        exact ⟨S', C', F', W', G', l', hst.from (h.mem.next hbl)⟩
  have Hmany := Lib.hid hmany
  clear hmany
  have HW := Lib.hid hW0
  have Hbox := Lib.hid hbox
  have Hbl := Lib.hid hbl
  have Hsz := Lib.hid hsz
  have Hi0 := Lib.hid hi0
  have Hr := Lib.hid hr
  have Hr0 := Lib.hid hr0
  have Hgl := Lib.hid hgl
  have Hsame := Lib.hid hsame
  have Hstay := Lib.hid hstay
  have H := Lib.hid h
  have Hv := Lib.hid hv
  have Hrm := Lib.hid rm
  have Htn := Lib.hid htn
  clear hW0 hbox hbl hsz hi0 hr hr0 hgl hsame hstay h hv rm htn
  unfold boxes2 at HW
  obtain ⟨N, hN⟩ : ∃ N, S.heads.length = N := ⟨_, rfl⟩
  have HN := Lib.hid hN
  rw [hN]
  clear hN
  unfold mVal opVal
  have hmy := Hmany.out
  rw [HN.out] at hmy
  unfold mVal at hmy
  have Hmy := Lib.hid hmy
  clear hmy
  go_enter Tryz.func9, Tryz.ntmps9
  go_wp2_with fail
  all_goals
    rw [← HW.out]
    refine Hmy.out.mono ?_
    rintro e w2 ⟨rfl, hst⟩
    have Hst := Lib.hid hst
    clear hst
    go_wp2_with fail
    go_ret
    exact ⟨rfl, Hst.out⟩

set_option maxRecDepth 100000 in
set_option maxHeartbeats 6400000 in
theorem does8 (Z : Fix) (S : St) (C : Nat → List Ver) (F : List Nat) (W : List Wait) (G : Int) (gl capl m cp : Nat) (l : List Int) (a b cc : Int) (p : Option Addr) (w : World) (h : Inv Z S C F W G w) (hr : LRow S gl S.heads.length l w) (hv : ∀ c, c < S.heads.length → (topOf C c).v = l.getD c 0) (rm : Room Z S F G) :
    Calls Tryz.prog 9 #[mVal Z, .slice (some ⟨gl, 0, none⟩) S.heads.length capl, opVal (8 : Int) a b cc p m cp] w fun e w' => e = .returned (.bool true) ∧ StepE Z S C F G gl w w' := by
  obtain ⟨W0, hW0⟩ : ∃ W0, W0 = boxes2 Z (8 : Int) a b cc p m cp w := ⟨_, rfl⟩
  have hbox : Box2 Z (8 : Int) a b cc p m cp w.heap.size W0 := by rw [hW0]; exact boxes2_at _ _ _ _ _ _ _ _ _
  have hbl : Below w.heap.size w W0 := by rw [hW0]; exact boxes2_below _ _ _ _ _ _ _ _ _
  have hsz : W0.heap.size = w.heap.size + 2 := by rw [hW0]; exact boxes2_size _ _ _ _ _ _ _ _ _
  have hi0 := h.below hbl
  have hgl : gl < w.heap.size := (hr.cells 0 (by have := h.mem.bond.few; omega)).lt
  have few := h.mem.bond.few
  have hr0 : LRow S gl S.heads.length l W0 := hr.next few.1 (h.mem.next hbl)
  have htn : ∀ k, w.heap.size ≤ k → S.tag k = 0 := fun k hk => h.mem.tags.new k hk
  have hsame : ∀ w', Next Z S W0 S w' → StepE Z S C F G gl w w' := fun w' hn => ⟨_, _, _, _, _, _, Step.same h hr hv ((h.mem.next hbl).trans hn)⟩
  have hstay : ∀ S' w', Next Z S W0 S' w' → Box2 Z (8 : Int) a b cc p m cp w.heap.size w' := fun S' w' hn => hbox.keep (hn.keep.block _ (by omega) (by rw [htn _ (by omega)]; exact fun h => h rfl)) (hn.keep.block _ (by omega) (by rw [htn _ (by omega)]; exact fun h => h rfl))
  have hep := hi0.mem.ep
  rw [h.at0, h.deep] at hep
  have hadv : Calls Tryz.prog 29 #[.pointer (some ⟨Z.X.e, 0, none⟩), .pointer none] W0 fun e w' => e = .returned (.bool true) ∧ StepE Z S C F G gl w w' := by
    refine (advance_any Z.X.e Z.K.p S.now S.v W0 hep rm.now).mono fun e w' h2 => ⟨h2.1, ?_⟩
    have hn := hi0.mem.nextEp (now := S.now + 1) (at0 := 0) (deep := 0) h2.2.1 h2.2.2
    have hn' := (h.mem.next hbl).trans hn
    exact ⟨_, _, _, _, _, _, Step.other h hr hv (h.advance hn') hn' rfl rfl rfl (by omega) (by omega) (by show S.made ≤ S.made + 1; omega) (Int.le_refl _)⟩
  have Hadv := Lib.hid hadv
  have ce := hbox.e
  clear hadv hep
  have HW := Lib.hid hW0
  have Hbox := Lib.hid hbox
  have Hbl := Lib.hid hbl
  have Hsz := Lib.hid hsz
  have Hi0 := Lib.hid hi0
  have Hr := Lib.hid hr
  have Hr0 := Lib.hid hr0
  have Hgl := Lib.hid hgl
  have Hsame := Lib.hid hsame
  have Hstay := Lib.hid hstay
  have H := Lib.hid h
  have Hv := Lib.hid hv
  have Hrm := Lib.hid rm
  have Htn := Lib.hid htn
  clear hW0 hbox hbl hsz hi0 hr hr0 hgl hsame hstay h hv rm htn
  unfold boxes2 at HW
  obtain ⟨N, hN⟩ : ∃ N, S.heads.length = N := ⟨_, rfl⟩
  have HN := Lib.hid hN
  rw [hN]
  clear hN
  unfold mVal opVal
  rw [HW.out] at ce
  go_enter Tryz.func9, Tryz.ntmps9
  go_wp2_with fail
  all_goals
    rw [← HW.out]
    refine Hadv.out.mono ?_
    rintro e w2 ⟨rfl, hst⟩
    have Hst := Lib.hid hst
    clear hst
    go_wp2_with fail
    go_ret
    exact ⟨rfl, Hst.out⟩

set_option maxRecDepth 100000 in
set_option maxHeartbeats 6400000 in
theorem does9 (Z : Fix) (S : St) (C : Nat → List Ver) (F : List Nat) (W : List Wait) (G : Int) (gl capl m cp : Nat) (l : List Int) (a b cc : Int) (p : Option Addr) (w : World) (h : Inv Z S C F W G w) (hr : LRow S gl S.heads.length l w) (hv : ∀ c, c < S.heads.length → (topOf C c).v = l.getD c 0) (rm : Room Z S F G) :
    Calls Tryz.prog 9 #[mVal Z, .slice (some ⟨gl, 0, none⟩) S.heads.length capl, opVal (9 : Int) a b cc p m cp] w fun e w' => e = .returned (.bool true) ∧ StepE Z S C F G gl w w' := by
  obtain ⟨W0, hW0⟩ : ∃ W0, W0 = boxes2 Z (9 : Int) a b cc p m cp w := ⟨_, rfl⟩
  have hbox : Box2 Z (9 : Int) a b cc p m cp w.heap.size W0 := by rw [hW0]; exact boxes2_at _ _ _ _ _ _ _ _ _
  have hbl : Below w.heap.size w W0 := by rw [hW0]; exact boxes2_below _ _ _ _ _ _ _ _ _
  have hsz : W0.heap.size = w.heap.size + 2 := by rw [hW0]; exact boxes2_size _ _ _ _ _ _ _ _ _
  have hi0 := h.below hbl
  have hgl : gl < w.heap.size := (hr.cells 0 (by have := h.mem.bond.few; omega)).lt
  have few := h.mem.bond.few
  have hr0 : LRow S gl S.heads.length l W0 := hr.next few.1 (h.mem.next hbl)
  have htn : ∀ k, w.heap.size ≤ k → S.tag k = 0 := fun k hk => h.mem.tags.new k hk
  have hsame : ∀ w', Next Z S W0 S w' → StepE Z S C F G gl w w' := fun w' hn => ⟨_, _, _, _, _, _, Step.same h hr hv ((h.mem.next hbl).trans hn)⟩
  have hstay : ∀ S' w', Next Z S W0 S' w' → Box2 Z (9 : Int) a b cc p m cp w.heap.size w' := fun S' w' hn => hbox.keep (hn.keep.block _ (by omega) (by rw [htn _ (by omega)]; exact fun h => h rfl)) (hn.keep.block _ (by omega) (by rw [htn _ (by omega)]; exact fun h => h rfl))
  have few2 := h.mem.pool.few
  have t := h.mem.tags
  have hWn : W.length ≤ Z.n := by have := h.lens 0 (by omega); omega
  have hcol : Calls Tryz.prog 30 #[.pointer (some ⟨Z.X.e, 0, none⟩), .pointer none] W0 fun e w' => ∃ k : Int, e = .returned (.tuple #[.int .i64 k, .int .i64 0]) ∧ StepE Z S C F G gl w w' := by
    refine (collect_any Z.K Z.n Z.B Z.X.e S.now S.at0 S.deep G S.tbl S.next S.head F W S.v W0 hi0.mem.pool h.ok hi0.mem.ep (by rw [← h.wq]; exact hi0.mem.row) h.wH h.wE h.nFW (fun hk => by have := t.tK _ hk; rw [t.tE] at this; exact absurd this (by decide)) (fun q hq => ⟨fun hk => by have := t.tK _ hk; rw [t.tV q hq] at this; exact absurd this (by decide), fun hk => by have h5 := t.tV q hq; rw [hk, t.tE] at h5; exact absurd h5 (by decide)⟩) (by omega) (by have := rm.gens; omega)).mono fun e w' h2 => ?_
    obtain ⟨⟨k, he⟩, S', F', W', G', hc⟩ := hi0.collect (by have := rm.gens; omega) h2
    have hn' := (h.mem.next hbl).trans hc.next
    exact ⟨k, he, _, _, _, _, _, _, Step.other h hr hv hc.inv hn' hc.heads hc.cnow hc.ls (by have := hc.more; omega) (by have := hc.top; omega) (by rw [hc.made]; omega) (by rw [hc.now]; omega)⟩
  have Hcol := Lib.hid hcol
  have ce := hbox.e
  clear hcol few2 t hWn
  have HW := Lib.hid hW0
  have Hbox := Lib.hid hbox
  have Hbl := Lib.hid hbl
  have Hsz := Lib.hid hsz
  have Hi0 := Lib.hid hi0
  have Hr := Lib.hid hr
  have Hr0 := Lib.hid hr0
  have Hgl := Lib.hid hgl
  have Hsame := Lib.hid hsame
  have Hstay := Lib.hid hstay
  have H := Lib.hid h
  have Hv := Lib.hid hv
  have Hrm := Lib.hid rm
  have Htn := Lib.hid htn
  clear hW0 hbox hbl hsz hi0 hr hr0 hgl hsame hstay h hv rm htn
  unfold boxes2 at HW
  obtain ⟨N, hN⟩ : ∃ N, S.heads.length = N := ⟨_, rfl⟩
  have HN := Lib.hid hN
  rw [hN]
  clear hN
  unfold mVal opVal
  rw [HW.out] at ce
  go_enter Tryz.func9, Tryz.ntmps9
  go_wp2_with fail
  all_goals
    rw [← HW.out]
    refine Hcol.out.mono ?_
    rintro e w2 ⟨k, rfl, hst⟩
    have Hst := Lib.hid hst
    clear hst
    go_wp2_with fail
    go_ret
    exact ⟨rfl, Hst.out⟩
end Go.Proofs.YtadelkancmbanaaGreat
