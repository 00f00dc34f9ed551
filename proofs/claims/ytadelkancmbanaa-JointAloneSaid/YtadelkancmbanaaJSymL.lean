/-
  Sorting: what a rotation of two sorted ranges, cut where the search says, leaves in order.
-/
import Derived.Test.YtadelkancmbanaaJRot
namespace Go.Proofs.Ytadelkancmbanaa

theorem rotI_low {s m e q : Nat} (h1 : s ≤ q) (h2 : q < s + (e - m)) : rotI s m e q = q - s + m := by
  unfold rotI; rw [if_pos ⟨h1, h2⟩]
theorem rotI_high {s m e q : Nat} (h1 : s + (e - m) ≤ q) (h2 : q < e) : rotI s m e q = q - (e - m) := by
  unfold rotI; rw [if_neg (by omega), if_pos ⟨h1, h2⟩]
theorem rotI_out {s m e q : Nat} (hme : m ≤ e) (hs : s ≤ m) (h : q < s ∨ e ≤ q) : rotI s m e q = q := by
  unfold rotI; rw [if_neg (by omega), if_neg (by omega)]
theorem rotI_same {s m e : Nat} (h : s = m ∨ e = m) (q : Nat) : rotI s m e q = q := by
  unfold rotI
  repeat' split
  all_goals omega

/-- Where a search ends: whom it has told apart. -/
structure Cut (es : List AEnt) (a s m e b : Nat) : Prop where
  ls : a ≤ s
  sm : s ≤ m
  me : m ≤ e
  eb : e ≤ b
  low : s = a ∨ e = b ∨ key es (s - 1) ≤ key es e
  high : s = m ∨ e = m ∨ key es (e - 1) ≤ key es s

theorem sorted_le {es : List AEnt} {a b p q : Nat} (h : SortedOn es a b) (h1 : a ≤ p) (h2 : p ≤ q) (h3 : q < b) : key es p ≤ key es q := by
  by_cases e : p = q
  · subst e; omega
  · exact h p q h1 (by omega) h3

theorem Cut.outer {es : List AEnt} {a s m e b : Nat} (h : Cut es a s m e b) (h1 : SortedOn es a m) (h2 : SortedOn es m b) (p q : Nat) (hp : a ≤ p) (hp2 : p < s) (hq : e ≤ q) (hq2 : q < b) : key es p ≤ key es q := by
  have := h.ls; have := h.sm; have := h.me; have := h.eb
  rcases h.low with e | e | e
  · omega
  · omega
  · have x := sorted_le h1 hp (show p ≤ s - 1 by omega) (by omega)
    have y := sorted_le h2 h.me hq hq2
    omega

theorem Cut.inner {es : List AEnt} {a s m e b : Nat} (h : Cut es a s m e b) (h1 : SortedOn es a m) (h2 : SortedOn es m b) (p q : Nat) (hp : m ≤ p) (hp2 : p < e) (hq : s ≤ q) (hq2 : q < m) : key es p ≤ key es q := by
  have := h.ls; have := h.sm; have := h.me; have := h.eb
  rcases h.high with u | u | u
  · omega
  · omega
  · have x := sorted_le h2 hp (show p ≤ e - 1 by omega) (by omega)
    have y := sorted_le h1 h.ls hq hq2
    omega

theorem key_came {g : Nat} {f : Nat → Nat} {es es' : List AEnt} {w w' : World} (h : Turned g f es w es' w') (p : Nat) : key es' p = key es (f p) := by
  unfold key; rw [h.came]

theorem turned_same {g s m e : Nat} {es es' : List AEnt} {w w' : World} (h : Turned g (rotI s m e) es w es' w') (a b : Nat) (hs : a ≤ s) (hsm : s ≤ m) (hme : m ≤ e) (he : e ≤ b) : SameOut es es' a b :=
  ⟨h.length, fun p hp => by rw [h.came, rotI_out hme hsm (by omega)]⟩

/-- One entry, moved up to its place. -/
theorem first_sorted {g a i b : Nat} {es es' : List AEnt} {w w' : World} (h : Turned g (rotI a (a + 1) i) es w es' w') (h2 : SortedOn es (a + 1) b) (hi : a + 1 ≤ i) (hib : i ≤ b)
    (lo : i = a + 1 ∨ key es (i - 1) ≤ key es a) (hi2 : i = b ∨ key es a ≤ key es i) : SortedOn es' a b := by
  intro p q h1 hpq hqb
  rw [key_came h, key_came h]
  have A : ∀ x, a + 1 ≤ x → x < i → key es x ≤ key es a := fun x hx hx2 => by
    rcases lo with e | e
    · omega
    · have := sorted_le h2 hx (show x ≤ i - 1 by omega) (by omega); omega
  have B : ∀ x, i ≤ x → x < b → key es a ≤ key es x := fun x hx hx2 => by
    rcases hi2 with e | e
    · omega
    · have := sorted_le h2 hi hx hx2; omega
  by_cases hq : q < i
  · by_cases hq1 : q = i - 1
    · rw [rotI_high (q := q) (by omega) (by omega), rotI_low (q := p) (by omega) (by omega)]
      rw [show q - (i - (a + 1)) = a by omega]
      exact A _ (by omega) (by omega)
    · rw [rotI_low (q := q) (by omega) (by omega), rotI_low (q := p) (by omega) (by omega)]
      exact sorted_le h2 (by omega) (by omega) (by omega)
  · rw [rotI_out (q := q) hi (by omega) (by omega)]
    by_cases hp : p < i
    · by_cases hp1 : p = i - 1
      · rw [rotI_high (q := p) (by omega) (by omega), show p - (i - (a + 1)) = a by omega]
        exact B _ (by omega) hqb
      · rw [rotI_low (q := p) (by omega) (by omega)]
        exact sorted_le h2 (by omega) (by omega) (by omega)
    · rw [rotI_out (q := p) hi (by omega) (by omega)]
      exact sorted_le h2 (by omega) (by omega) (by omega)

/-- One entry, moved down to its place. -/
theorem last_sorted {g a i m : Nat} {es es' : List AEnt} {w w' : World} (h : Turned g (rotI i m (m + 1)) es w es' w') (h1 : SortedOn es a m) (hi : a ≤ i) (him : i ≤ m)
    (lo : i = a ∨ key es (i - 1) ≤ key es m) (hi2 : i = m ∨ key es m ≤ key es i) : SortedOn es' a (m + 1) := by
  intro p q hp hpq hqb
  rw [key_came h, key_came h]
  have A : ∀ x, a ≤ x → x < i → key es x ≤ key es m := fun x hx hx2 => by
    rcases lo with e | e
    · omega
    · have := sorted_le h1 hx (show x ≤ i - 1 by omega) (by omega); omega
  have B : ∀ x, i ≤ x → x < m → key es m ≤ key es x := fun x hx hx2 => by
    rcases hi2 with e | e
    · omega
    · have := sorted_le h1 hi hx hx2; omega
  by_cases hp1 : p < i
  · rw [rotI_out (q := p) (by omega) him (by omega)]
    by_cases hq : q < i
    · rw [rotI_out (q := q) (by omega) him (by omega)]
      exact sorted_le h1 (by omega) (by omega) (by omega)
    · by_cases hq1 : q = i
      · rw [rotI_low (q := q) (by omega) (by omega), show q - i + m = m by omega]
        exact A _ hp hp1
      · rw [rotI_high (q := q) (by omega) (by omega)]
        exact sorted_le h1 (by omega) (by omega) (by omega)
  · rw [rotI_high (q := q) (by omega) (by omega)]
    by_cases hp2 : p = i
    · rw [rotI_low (q := p) (by omega) (by omega), show p - i + m = m by omega]
      exact B _ (by omega) (by omega)
    · rw [rotI_high (q := p) (by omega) (by omega)]
      exact sorted_le h1 (by omega) (by omega) (by omega)

/-- The rotated halves: both are two sorted ranges, and the left one stays below the right one. -/
structure Halves (es : List AEnt) (a s mid e b : Nat) : Prop where
  l1 : SortedOn es a s
  l2 : SortedOn es s mid
  r1 : SortedOn es mid e
  r2 : SortedOn es e b
  cross : ∀ p q, a ≤ p → p < mid → mid ≤ q → q < b → key es p ≤ key es q

theorem halves {g a s m e b : Nat} {es es' : List AEnt} {w w' : World} (h : Turned g (rotI s m e) es w es' w') (h1 : SortedOn es a m) (h2 : SortedOn es m b) (hc : Cut es a s m e b) : Halves es' a s (s + (e - m)) e b := by
  have := hc.ls; have := hc.sm; have := hc.me; have := hc.eb
  have O := hc.outer h1 h2
  have I := hc.inner h1 h2
  refine ⟨fun p q hp hpq hq => ?_, fun p q hp hpq hq => ?_, fun p q hp hpq hq => ?_, fun p q hp hpq hq => ?_, fun p q hp hp2 hq hq2 => ?_⟩
  all_goals rw [key_came h, key_came h]
  · rw [rotI_out (q := p) (by omega) (by omega) (by omega), rotI_out (q := q) (by omega) (by omega) (by omega)]
    exact sorted_le h1 (by omega) (by omega) (by omega)
  · rw [rotI_low (q := p) (by omega) (by omega), rotI_low (q := q) (by omega) (by omega)]
    exact sorted_le h2 (by omega) (by omega) (by omega)
  · rw [rotI_high (q := p) (by omega) (by omega), rotI_high (q := q) (by omega) (by omega)]
    exact sorted_le h1 (by omega) (by omega) (by omega)
  · rw [rotI_out (q := p) (by omega) (by omega) (by omega), rotI_out (q := q) (by omega) (by omega) (by omega)]
    exact sorted_le h2 (by omega) (by omega) (by omega)
  · by_cases hps : p < s
    · rw [rotI_out (q := p) (by omega) (by omega) (by omega)]
      by_cases hqe : q < e
      · rw [rotI_high (q := q) (by omega) (by omega)]
        exact sorted_le h1 (by omega) (by omega) (by omega)
      · rw [rotI_out (q := q) (by omega) (by omega) (by omega)]
        exact O p q (by omega) (by omega) (by omega) (by omega)
    · rw [rotI_low (q := p) (by omega) (by omega)]
      by_cases hqe : q < e
      · rw [rotI_high (q := q) (by omega) (by omega)]
        exact I _ _ (by omega) (by omega) (by omega) (by omega)
      · rw [rotI_out (q := q) (by omega) (by omega) (by omega)]
        exact sorted_le h2 (by omega) (by omega) (by omega)

theorem SameOut.key {es es' : List AEnt} {a b p : Nat} (h : SameOut es es' a b) (hp : p < a ∨ b ≤ p) : key es' p = key es p := by unfold Go.Proofs.Ytadelkancmbanaa.key; rw [h.2 p hp]

theorem sorted_same {es es' : List AEnt} {a b x y : Nat} (hs : SortedOn es x y) (h : SameOut es es' a b) (ho : y ≤ a ∨ b ≤ x) : SortedOn es' x y := fun p q h1 h2 h3 => by
  rw [h.key (by omega), h.key (by omega)]; exact hs p q h1 h2 h3

/-- Both halves sorted: the whole is. -/
theorem halves_done {es1 es2 es3 : List AEnt} {a s mid e b : Nat} (h : Halves es1 a s mid e b) (ham : a ≤ mid) (hmb : mid ≤ b) (hb : b ≤ es1.length)
    (p1 : es2.Perm es1) (s1 : SameOut es1 es2 a mid) (o1 : SortedOn es2 a mid) (p2 : es3.Perm es2) (s2 : SameOut es2 es3 mid b) (o2 : SortedOn es3 mid b) : SortedOn es3 a b := by
  intro p q hp hpq hq
  have hl2 := s1.1
  by_cases hpm : p < mid
  · by_cases hqm : q < mid
    · rw [s2.key (by omega), s2.key (by omega)]; exact o1 p q hp hpq hqm
    · rw [s2.key (by omega)]
      obtain ⟨p', hp1, hp2, he⟩ := part_from p1 s1 ham (by omega) p hp hpm
      obtain ⟨q', hq1, hq2, he2⟩ := part_from p2 s2 hmb (by omega) q (by omega) hq
      have e1 : key es2 p = key es1 p' := by unfold key; rw [he]
      have e2 : key es3 q = key es1 q' := by unfold key; rw [he2, s1.2 q' (by omega)]
      rw [e1, e2]
      exact h.cross _ _ hp1 hp2 hq1 hq2
  · exact o2 p q (by omega) hpq hq

theorem SameOut.mono {es es' : List AEnt} {a b a' b' : Nat} (h : SameOut es es' a b) (ha : a' ≤ a) (hb : b ≤ b') : SameOut es es' a' b' := ⟨h.1, fun p hp => h.2 p (by omega)⟩
theorem SameOut.trans {es es1 es2 : List AEnt} {a b : Nat} (h : SameOut es es1 a b) (k : SameOut es1 es2 a b) : SameOut es es2 a b := ⟨k.1.trans h.1, fun p hp => (k.2 p hp).trans (h.2 p hp)⟩
end Go.Proofs.Ytadelkancmbanaa
