/-
  Change of up to a hundred entries, whatever they say; what the law's changes reckons by itself.
-/
import Derived.Test.YtadelkancmbanaaJEmpty
import Derived.Test.YtadelkancmbanaaJSort2
import Derived.Test.YtadelkancmbanaaJDoesL3
namespace Go.Proofs.Ytadelkancmbanaa
open Go.RowKit
attribute [local go_sem ↓] Go.wp_at_zero Go.wp_at_succ

def okLen (es : List AEnt) : Prop := 1 ≤ es.length ∧ es.length ≤ 64

/-- What is wanted behind the lengths, behind the cells, .. -/
def Want1 (es : List AEnt) (n : Nat) (v : Int) : Prop := (v = 261 ∧ ¬ okLen es) ∨ (v = 262 ∧ okLen es ∧ ¬ goodCells es n) ∨ (v = 0 ∧ okLen es ∧ goodCells es n)
def Want2 (es : List AEnt) (n : Nat) (v : Int) : Prop := (v = 261 ∧ ¬ okLen es) ∨ (v = 262 ∧ okLen es ∧ ¬ goodCells es n) ∨ (v = 263 ∧ okLen es ∧ goodCells es n ∧ ¬ allLies es) ∨ (v = 0 ∧ okLen es ∧ goodCells es n ∧ allLies es)
def Want (ws : List Int) (es : List AEnt) (v : Int) : Prop := (v = 261 ∧ ¬ okLen es) ∨ (v = 262 ∧ okLen es ∧ ¬ goodCells es ws.length) ∨ (v = 263 ∧ okLen es ∧ goodCells es ws.length ∧ ¬ allLies es) ∨ (v = 264 ∧ okLen es ∧ goodCells es ws.length ∧ allLies es ∧ ¬ allFit ws es) ∨ (v = 0 ∧ okLen es ∧ goodCells es ws.length ∧ allLies es ∧ allFit ws es)

theorem Want.one {ws : List Int} {es : List AEnt} {v v' : Int} (h : Want ws es v) (h' : Want ws es v') : v = v' := by
  rcases h with ⟨rfl, h⟩ | ⟨rfl, h⟩ | ⟨rfl, h⟩ | ⟨rfl, h⟩ | ⟨rfl, h⟩ <;> rcases h' with ⟨rfl, h'⟩ | ⟨rfl, h'⟩ | ⟨rfl, h'⟩ | ⟨rfl, h'⟩ | ⟨rfl, h'⟩ <;> first | rfl | (exfalso; simp_all)

structure AllEnd (b c made : Nat) (ws : List Int) (es : List AEnt) (w : World) (e : Ending) (w' : World) (v : Int) (ws' : List Int) (made' : Nat) : Prop where
  want : Want ws es v
  end_ : e = .returned (.tuple #[.bool (v == 0), .int .i64 v])
  raw : JRaw b c ws' made' w'
  made : made' ≤ made + 1
  yes : v = 0 → Changed ws es ws'
  no : v ≠ 0 → ws' = ws
  keep : Keep (fun k => k = b ∨ k = c) w.heap.size w w'

def AllEnds (b c made : Nat) (ws : List Int) (es : List AEnt) (w : World) (e : Ending) (w' : World) : Prop := ∃ v ws' made', AllEnd b c made ws es w e w' v ws' made'

theorem change_all (b c made s o cap : Nat) (ws : List Int) (es : List AEnt) (w : World) (h : JRaw b c ws made w) (hb : Words ws) (hm : made < 1024) (he : AEntsAt s o es w) (hs : s < w.heap.size) (h1 : 1 ≤ es.length) (h2 : es.length ≤ 100) :
    Calls Try.prog 12 #[.pointer (some ⟨b, 0, none⟩), .pointer none, .slice (some ⟨s, o, none⟩) es.length cap] w (AllEnds b c made ws es w) := by
  by_cases h3 : es.length ≤ 64
  · refine (change_any b c made s o cap ws es w h hb hm he hs h1 h3 (sort_any _ (by omega))).mono fun e w' hE => ?_
    have ok : okLen es := ⟨h1, h3⟩
    by_cases g1 : goodCells es ws.length
    · by_cases g2 : allLies es
      · by_cases g3 : allFit ws es
        · obtain ⟨he, ws', hc, hj⟩ := hE.yes g1 g2 g3
          exact ⟨0, ws', made + 1, .inr (.inr (.inr (.inr ⟨rfl, ok, g1, g2, g3⟩))), he, hj, Nat.le_refl _, fun _ => hc, fun e => absurd rfl e, hE.keep⟩
        · obtain ⟨he, hj⟩ := hE.other g1 g2 g3
          exact ⟨264, ws, made, .inr (.inr (.inr (.inl ⟨rfl, ok, g1, g2, g3⟩))), he, hj, Nat.le_succ _, fun e => absurd e (by decide), fun _ => rfl, hE.keep⟩
      · obtain ⟨he, hj⟩ := hE.value g1 g2
        exact ⟨263, ws, made, .inr (.inr (.inl ⟨rfl, ok, g1, g2⟩)), he, hj, Nat.le_succ _, fun e => absurd e (by decide), fun _ => rfl, hE.keep⟩
    · obtain ⟨he, hj⟩ := hE.cell g1
      exact ⟨262, ws, made, .inr (.inl ⟨rfl, ok, g1⟩), he, hj, Nat.le_succ _, fun e => absurd e (by decide), fun _ => rfl, hE.keep⟩
  · refine (change_many b c made es.length cap _ ws w h (by omega) (by omega)).mono fun e w' ⟨he, hj, hk⟩ => ?_
    exact ⟨261, ws, made, .inl ⟨rfl, fun k => h3 k.2⟩, he, hj, Nat.le_succ _, fun e => absurd e (by decide), fun _ => rfl, hk.weaken fun _ _ h => h.elim⟩

theorem change_zero (b c made cap : Nat) (a : Option Addr) (ws : List Int) (w : World) (h : JRaw b c ws made w) :
    Calls Try.prog 12 #[.pointer (some ⟨b, 0, none⟩), .pointer none, .slice a 0 cap] w (AllEnds b c made ws [] w) :=
  (change_none b c made cap a ws w h).mono fun e w' ⟨he, hj, hk⟩ =>
    ⟨261, ws, made, .inl ⟨rfl, fun k => by have := k.1; simp at this⟩, he, hj, Nat.le_succ _, fun e => absurd e (by decide), fun _ => rfl, hk.weaken fun _ _ h => h.elim⟩

/-- The first i cells are there, and unlike. -/
structure PreG (es : List AEnt) (n i : Nat) : Prop where
  range : ∀ j, j < i → 0 ≤ key es j ∧ key es j < n
  ne : ∀ j k, j < k → k < i → key es j ≠ key es k

theorem preG_all {es : List AEnt} {n : Nat} : goodCells es n ↔ PreG es n es.length := by
  constructor
  · intro ⟨h1, h2⟩
    refine ⟨fun j hj => (all_get (fun x => 0 ≤ x.c ∧ x.c < n)).2 h1 j hj, fun j k hjk hk => ?_⟩
    rw [List.pairwise_iff_getElem] at h2
    have := h2 j k (by omega) hk hjk
    unfold key
    rw [getElem!_pos es j (by omega), getElem!_pos es k hk]
    exact this
  · intro ⟨h1, h2⟩
    refine ⟨(all_get (fun x => 0 ≤ x.c ∧ x.c < n)).1 fun j hj => h1 j hj, ?_⟩
    rw [List.pairwise_iff_getElem]
    intro i j hi hj hij
    have := h2 i j hij hj
    unfold key at this
    rw [getElem!_pos es i hi, getElem!_pos es j hj] at this
    exact this

theorem PreG.zero (es : List AEnt) (n : Nat) : PreG es n 0 := ⟨fun j h => by omega, fun j k _ h => by omega⟩
theorem PreG.step {es : List AEnt} {n i : Nat} (h : PreG es n i) (h1 : 0 ≤ key es i ∧ key es i < n) (h2 : ∀ j, j < i → key es j ≠ key es i) : PreG es n (i + 1) := by
  refine ⟨fun j hj => ?_, fun j k hjk hk => ?_⟩
  · by_cases e : j = i
    · subst e; exact h1
    · exact h.range j (by omega)
  · by_cases e : k = i
    · subst e; exact h2 j hjk
    · exact h.ne j k hjk (by omega)
theorem not_good_range {es : List AEnt} {n i : Nat} (hi : i < es.length) (h : ¬ (0 ≤ key es i ∧ key es i < n)) : ¬ goodCells es n := fun g => h ((preG_all.1 g).range i hi)
theorem not_good_same {es : List AEnt} {n i j : Nat} (hi : i < es.length) (hj : j < i) (h : key es j = key es i) : ¬ goodCells es n := fun g => (preG_all.1 g).ne j i hj hi h

/-- The list behind the first k changes. -/
structure LFill (l : List Int) (es : List AEnt) (k : Nat) (L : List Int) : Prop where
  length : L.length = l.length
  at_ : ∀ j, j < k → L.getD (key es j).toNat 0 = (es[j]!).n
  out : ∀ i, i < l.length → (∀ j, j < k → key es j ≠ (i : Int)) → L.getD i 0 = l.getD i 0

theorem LFill.zero (l : List Int) (es : List AEnt) : LFill l es 0 l := ⟨rfl, fun j h => by omega, fun _ _ _ => rfl⟩
theorem LFill.step {l L : List Int} {es : List AEnt} {k : Nat} (h : LFill l es k L) (hg : PreG es l.length es.length) (hk : k < es.length) : LFill l es (k + 1) (L.set (key es k).toNat (es[k]!).n) := by
  have hr := hg.range k hk
  have hl := h.length
  refine ⟨by rw [List.length_set]; exact hl, fun j hj => ?_, fun i hi ho => ?_⟩
  · rw [getD_set_eq _ _ _ _ (by omega)]
    by_cases e : j = k
    · subst e; rw [if_pos rfl]
    · have h1 := hg.range j (by omega)
      have h2 := hg.ne j k (by omega) hk
      rw [if_neg (by omega)]; exact h.at_ j (by omega)
  · rw [getD_set_eq _ _ _ _ (by omega)]
    have := ho k (by omega)
    rw [if_neg (by omega)]; exact h.out i hi fun j hj => ho j (by omega)

theorem LFill.done {ws ws' L : List Int} {es : List AEnt} (h : LFill (nums ws) es es.length L) (hc : Changed ws es ws') (hg : goodCells es ws.length) : L = nums ws' := by
  have hl := h.length
  have h1 := nums_length ws
  have h2 := nums_length ws'
  have h3 := hc.length
  refine list_ext_getD (by omega) fun i hi => ?_
  rw [nums_get _ _ (by omega)]
  by_cases e : ∃ j, j < es.length ∧ key es j = (i : Int)
  · obtain ⟨j, hj, hk⟩ := e
    have e1 := h.at_ j hj
    have e2 := (all_get (fun x => num (ws'.getD x.c.toNat 0) = x.n)).2 hc.at_ j hj
    have e3 : (key es j).toNat = i := by omega
    have e4 : (es[j]!).c.toNat = i := e3
    rw [e3] at e1
    rw [e4] at e2
    rw [e1, e2]
  · have ho : ∀ j, j < es.length → key es j ≠ (i : Int) := fun j hj hk => e ⟨j, hj, hk⟩
    rw [h.out i (by omega) ho, hc.out i (by omega) ((all_get (fun x => x.c ≠ (i : Int))).1 ho), nums_get _ _ (by omega)]

theorem lfill_none {l : List Int} {es : List AEnt} : LFill l es 0 l := LFill.zero l es

theorem aents_news {s o : Nat} {es : List AEnt} {w : World} (h : AEntsAt s o es w) : ∀ j u, (aCells es)[j]? = some u → w.cell? ((⟨s, o, none⟩ : Addr).add j) = some u := fun j u hj => by
  have hj' := (List.getElem?_eq_some_iff.1 hj).1
  rw [aCells_length] at hj'
  obtain ⟨a, b, c⟩ := aCells_get es (j / 3) (by omega)
  obtain ⟨x, y, z⟩ := h (j / 3) (by omega)
  rw [addr_add]
  have hm : j % 3 = 0 ∨ j % 3 = 1 ∨ j % 3 = 2 := by omega
  rcases hm with e | e | e
  · rw [show j / 3 * 3 = j by omega] at a x
    rw [hj] at a; cases a; exact x
  · rw [show j / 3 * 3 + 1 = j by omega] at b
    rw [show o + j / 3 * 3 + 1 = o + j by omega] at y
    rw [hj] at b; cases b; exact y
  · rw [show j / 3 * 3 + 2 = j by omega] at c
    rw [show o + j / 3 * 3 + 2 = o + j by omega] at z
    rw [hj] at c; cases c; exact z
theorem aCells_one {es : List AEnt} : ∀ u ∈ aCells es, u.oneCell' = true := by
  induction es with
  | nil => intro u hu; simp [aCells] at hu
  | cons e r ih =>
    intro u hu
    simp only [aCells, List.mem_cons] at hu
    rcases hu with rfl | rfl | rfl | hu
    · rfl
    · rfl
    · rfl
    · exact ih u hu
end Go.Proofs.Ytadelkancmbanaa
