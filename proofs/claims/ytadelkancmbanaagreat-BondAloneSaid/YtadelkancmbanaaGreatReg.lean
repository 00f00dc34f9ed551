/-
  A region that draws its order: operations that yield one value in every world (or, loads, in every world that meets S) are taken first; the others come up one at a time; behind each of them, but for those of the list zs, S is shown anew.
-/
import Derived.Test.YtadelkancmbanaaGreatRows
import Derived.WalkKit
import Derived.StillTail
import Derived.Deep.RegionHeld
namespace Go.Proofs.YtadelkancmbanaaGreat.Reg
open Go

section
variable {P : Program} {ops : Array Oper} {Q : Exit → Act → World → Prop} {md : Region.Mode} {S : World → Prop} {zs : List Nat}

/-- No number of zs is listed. -/
def free (zs : List Nat) (listed : Array Bool) : Bool := zs.all fun z => !listed.getD z false

theorem free_set {listed : Array Bool} {i : Nat} (h : free zs (listed.setIfInBounds i true) = true) : free zs listed = true := by
  unfold free at *
  rw [List.all_eq_true] at *
  intro z hz
  have := h z hz
  by_cases e : i = z
  · subst e
    rcases Nat.lt_or_ge i listed.size with h' | h'
    · simp [h'] at this
    · simp [Array.getElem?_eq_none h']
  · rw [getD_set_ne false e] at this; exact this

theorem free_set_ne {listed : Array Bool} {i : Nat} (hi : i ∉ zs) (h : free zs listed = true) : free zs (listed.setIfInBounds i true) = true := by
  unfold free at *
  rw [List.all_eq_true] at *
  intro z hz
  rw [getD_set_ne false (fun e => hi (by subst e; exact hz))]
  exact h z hz

/-- Whatever order is picked from here on; S holds behind every operation that is carried out, as long as none of zs has been. -/
def wpAnyT (P : Program) (md : Region.Mode) (ops : Array Oper) (Q : Exit → Act → World → Prop) (S : World → Prop) (zs : List Nat) : Nat → Array Bool → Act → World → Prop
  | 0, listed, a, w => Region.ready md ops listed = [] ∧ Q .normal a w
  | fuel + 1, listed, a, w =>
    (Region.ready md ops listed = [] → Q .normal a w) ∧
    ∀ i ∈ Region.ready md ops listed, wpOp P ops Q i (fun a' w' => (free zs (listed.setIfInBounds i true) = true → S w') ∧ wpAnyT P md ops Q S zs fuel (listed.setIfInBounds i true) a' w') a w

theorem wpAny_of_T : ∀ (fuel : Nat) (listed : Array Bool) (a : Act) (w : World), wpAnyT P md ops Q S zs fuel listed a w → wpAny P md ops Q fuel listed a w
  | 0, _, _, _, h => h
  | fuel + 1, _, _, _, h => ⟨h.1, fun i hi => wpOp_mono (fun a' w' h' => wpAny_of_T fuel _ a' w' h'.2) (h.2 i hi)⟩

/-- T: what the operation's value hangs on; E: what is known of the list and the world till it comes up. -/
theorem wpAnyT_first {i : Nat} {oi : Oper} {v : Value} {T : World → Prop} {E : Array Bool → World → Prop} (hi : ops[i]? = some oi) (hsel : ∀ (j : Nat) (o : Oper) cs b, ops[j]? = some o → o.op ≠ .select cs b)
    (hQ : ∀ c a w, Q (.panic c) (a.put oi.dst v) w → Q (.panic c) a w)
    (hT : ∀ listed w, E listed w → T w ∧ (free zs listed = true → S w))
    (hz : ∀ listed j oj w', (∃ w, E listed w) → ops[j]? = some oj → j ≠ i → (∀ e ∈ oj.after, Region.binds md e = true → e.on ≠ i) → (free zs ((listed.setIfInBounds i true).setIfInBounds j true) = true → S w') → E (listed.setIfInBounds j true) w') :
    ∀ (fuel : Nat) (listed : Array Bool) (a : Act) (w : World),
      (∀ j oj, ops[j]? = some oj → j ≠ i → listed.getD j true = false → (∀ e ∈ oj.after, Region.binds md e = true → e.on ≠ i) → oi.apart ops oj = true) →
      i ∈ Region.ready md ops listed → YieldsIf P ops T oi v a → E listed w →
      wpAnyT P md ops Q S zs fuel (listed.setIfInBounds i true) (a.put oi.dst v) w → wpAnyT P md ops Q S zs (fuel + 1) listed a w := by
  intro fuel
  induction fuel with
  | zero =>
    intro listed a w _ hr hy hS H
    refine ⟨fun h => (by rw [h] at hr; cases hr), fun j hj => ?_⟩
    by_cases hji : j = i
    · subst hji; exact hy.wpOp hi (hT _ w hS).1 ⟨fun hf => (hT _ w hS).2 (free_set hf), H⟩
    · have := ready_mono hj hji
      rw [H.1] at this
      cases this
  | succ fuel ih =>
    intro listed a w hfree hr hy hS H
    refine ⟨fun h => (by rw [h] at hr; cases hr), fun j hj => ?_⟩
    by_cases hji : j = i
    · subst hji; exact hy.wpOp hi (hT _ w hS).1 ⟨fun hf => (hT _ w hS).2 (free_set hf), H⟩
    · have h1 := H.2 j (ready_mono hj hji)
      obtain ⟨hjun, oj, hoj, hall⟩ := mem_ready.1 hj
      have hnot : ∀ e ∈ oj.after, Region.binds md e = true → e.on ≠ i := fun e he hb heq => by
        have h1 := hall e he hb
        have h0 := (mem_ready.1 hr).1
        rw [heq] at h1
        rcases Nat.lt_or_ge i listed.size with h' | h'
        · simp [h'] at h0 h1; rw [h0] at h1; cases h1
        · simp [Array.getElem?_eq_none h'] at h1
      have h2 := wpOp_putIf hoj (hfree j oj hoj hji hjun hnot) (fun cs b => hsel i oi cs b hi) (fun cs b => hsel j oj cs b hoj) hQ hy h1
      have hfree' : ∀ k ok, ops[k]? = some ok → k ≠ i → (listed.setIfInBounds j true).getD k true = false →
          (∀ e ∈ ok.after, Region.binds md e = true → e.on ≠ i) → oi.apart ops ok = true := fun k ok hk hki hun hno => by
        refine hfree k ok hk hki ?_ hno
        by_cases hjk : j = k
        · subst hjk; exact hjun
        · rw [getD_set_ne true hjk] at hun; exact hun
      refine wpOp_mono (fun a' w' h3 => ?_) h2
      have hE := hz listed j oj w' ⟨w, hS⟩ hoj hji hnot h3.2.1
      refine ⟨(hT _ w' hE).2, ih (listed.setIfInBounds j true) a' w' hfree' (ready_mono hr (Ne.symm hji)) h3.1 hE ?_⟩
      rw [Array.setIfInBounds_comm _ _ hji]
      exact h3.2.2

/-- Each number of zs waits for number i. -/
def waits (md : Region.Mode) (ops : Array Oper) (zs : List Nat) (i : Nat) : Bool :=
  zs.all fun z => match ops[z]? with
    | some oz => oz.after.any fun e => Region.binds md e && e.on == i
    | none => true

theorem waits_spec {i : Nat} (h : waits md ops zs i = true) (z : Nat) (hz : z ∈ zs) (oz : Oper) (ho : ops[z]? = some oz) : ∃ e ∈ oz.after, Region.binds md e = true ∧ e.on = i := by
  have h1 := List.all_eq_true.1 h z hz
  simp only [ho] at h1
  obtain ⟨e, he, hb⟩ := Array.any_eq_true'.1 h1
  simp only [Bool.and_eq_true, beq_iff_eq] at hb
  exact ⟨e, he, hb.1, hb.2⟩

theorem at_drop {l rest : List Oper} {i : Nat} {oi : Oper} (hi : l.drop i = oi :: rest) : l.toArray[i]? = some oi := by
  rw [List.getElem?_toArray]
  have := congrArg (fun x : List Oper => x[0]?) hi
  simpa [List.getElem?_drop] using this

theorem not_mem {zs : List Nat} {i : Nat} (h : zs.contains i = false) : i ∉ zs := fun hm => by
  have : zs.contains i = true := by simpa using hm
  rw [h] at this; cases this

/-- Take number i first: it yields the value in every world that meets S. -/
theorem take {l rest : List Oper} {i : Nat} {oi : Oper} {v : Value} {fuel : Nat} {listed : Array Bool} {a : Act} {w : World} (hi : l.drop i = oi :: rest)
    (hs : Region.noSelect l.toArray = true) (hf : Region.free md l.toArray listed i = true) (hr : (Region.ready md l.toArray listed).contains i = true) (hz : (waits md l.toArray zs i && free zs listed && !zs.contains i) = true)
    (hQ : ∀ c a w, Q (.panic c) (a.put oi.dst v) w → Q (.panic c) a w) (hy : YieldsIf P l.toArray S oi v a) (hS : S w)
    (h : wpAnyT P md l.toArray Q S zs fuel (listed.setIfInBounds i true) (a.put oi.dst v) w) : wpAnyT P md l.toArray Q S zs (fuel + 1) listed a w := by
  simp only [Bool.and_eq_true, Bool.not_eq_true'] at hz
  obtain ⟨⟨hz1, hz2⟩, hz3⟩ := hz
  refine wpAnyT_first (T := S) (E := fun listed w => free zs listed = true ∧ S w) (at_drop hi) (Region.noSelect_spec hs) hQ (fun _ w h => ⟨h.2, fun _ => h.2⟩) ?_ fuel listed a w (Region.free_spec (at_drop hi) hf) (by simpa using hr) hy ⟨hz2, hS⟩ h
  intro listed j oj w' ⟨_, hfr, _⟩ hoj _ hnot hSw
  have hj : j ∉ zs := fun hj => by
    obtain ⟨e, he, hb, hon⟩ := waits_spec hz1 j hj oj hoj
    exact hnot e he hb hon
  exact ⟨free_set_ne hj hfr, hSw (free_set_ne hj (free_set_ne (not_mem hz3) hfr))⟩

/-- Take number i first: it yields the value in every world. -/
theorem takeP {l rest : List Oper} {i : Nat} {oi : Oper} {v : Value} {fuel : Nat} {listed : Array Bool} {a : Act} {w : World} (hi : l.drop i = oi :: rest)
    (hs : Region.noSelect l.toArray = true) (hf : Region.free md l.toArray listed i = true) (hr : (Region.ready md l.toArray listed).contains i = true) (hz : zs.contains i = false)
    (hQ : ∀ c a w, Q (.panic c) (a.put oi.dst v) w → Q (.panic c) a w) (hy : YieldsIf P l.toArray (fun _ => True) oi v a) (hS : free zs listed = true → S w)
    (h : wpAnyT P md l.toArray Q S zs fuel (listed.setIfInBounds i true) (a.put oi.dst v) w) : wpAnyT P md l.toArray Q S zs (fuel + 1) listed a w := by
  refine wpAnyT_first (T := fun _ => True) (E := fun listed w => free zs listed = true → S w) (at_drop hi) (Region.noSelect_spec hs) hQ (fun _ w h => ⟨trivial, h⟩) ?_ fuel listed a w (Region.free_spec (at_drop hi) hf) (by simpa using hr) hy hS h
  intro listed j oj w' _ hoj hji hnot hSw hfr
  refine hSw ?_
  rw [Array.setIfInBounds_comm _ _ (Ne.symm hji)]
  exact free_set_ne (not_mem hz) hfr

/-- Number i comes up, and no other one. -/
theorem one {l rest : List Oper} {i : Nat} {oi : Oper} {fuel : Nat} {listed : Array Bool} {a : Act} {w : World} (hi : l.drop i = oi :: rest)
    (hr : Region.ready md l.toArray listed = [i])
    (h : ∀ K : Act → World → Prop, Shut (∀ a w, (free zs (listed.setIfInBounds i true) = true → S w) → ((free zs (listed.setIfInBounds i true) = true → S w) → wpAnyT P md l.toArray Q S zs fuel (listed.setIfInBounds i true) a w) → K a w) →
      if Region.wanted oi (yielded l.toArray a.tmps) = true then Oper.wp P oi a w K Q else K (a.put oi.dst undef) w) :
    wpAnyT P md l.toArray Q S zs (fuel + 1) listed a w := by
  refine ⟨fun h0 => (by rw [hr] at h0; cases h0), fun j hj => ?_⟩
  rw [hr] at hj
  obtain rfl : j = i := by simpa using hj
  exact wpOp_step (at_drop hi) (fun K' hK => h K' (fun a w hS hW => hK a w ⟨hS, hW hS⟩))

/-- Numbers i and j may come up, and no other one. -/
theorem two {l resti restj : List Oper} {i j : Nat} {oi oj : Oper} {fuel : Nat} {listed : Array Bool} {a : Act} {w : World} (hi : l.drop i = oi :: resti) (hj : l.drop j = oj :: restj)
    (hr : Region.ready md l.toArray listed = [i, j])
    (h1 : ∀ K : Act → World → Prop, Shut (∀ a w, (free zs (listed.setIfInBounds i true) = true → S w) → ((free zs (listed.setIfInBounds i true) = true → S w) → wpAnyT P md l.toArray Q S zs fuel (listed.setIfInBounds i true) a w) → K a w) →
      if Region.wanted oi (yielded l.toArray a.tmps) = true then Oper.wp P oi a w K Q else K (a.put oi.dst undef) w)
    (h2 : ∀ K : Act → World → Prop, Shut (∀ a w, (free zs (listed.setIfInBounds j true) = true → S w) → ((free zs (listed.setIfInBounds j true) = true → S w) → wpAnyT P md l.toArray Q S zs fuel (listed.setIfInBounds j true) a w) → K a w) →
      if Region.wanted oj (yielded l.toArray a.tmps) = true then Oper.wp P oj a w K Q else K (a.put oj.dst undef) w) :
    wpAnyT P md l.toArray Q S zs (fuel + 1) listed a w := by
  refine ⟨fun h0 => (by rw [hr] at h0; cases h0), fun k hk => ?_⟩
  rw [hr] at hk
  rcases List.mem_cons.1 hk with e | hk
  · rw [e]
    exact wpOp_step (at_drop hi) (fun K' hK => h1 K' (fun a w hS hW => hK a w ⟨hS, hW hS⟩))
  · obtain rfl : k = j := by simpa using hk
    exact wpOp_step (at_drop hj) (fun K' hK => h2 K' (fun a w hS hW => hK a w ⟨hS, hW hS⟩))

theorem three {l resti1 resti2 resti3 : List Oper} {i1 i2 i3 : Nat} {oi1 oi2 oi3 : Oper} {fuel : Nat} {listed : Array Bool} {a : Act} {w : World} (di1 : l.drop i1 = oi1 :: resti1) (di2 : l.drop i2 = oi2 :: resti2) (di3 : l.drop i3 = oi3 :: resti3)
    (hr : Region.ready md l.toArray listed = [i1, i2, i3])
    (hi1 : ∀ K : Act → World → Prop, Shut (∀ a w, (free zs (listed.setIfInBounds i1 true) = true → S w) → ((free zs (listed.setIfInBounds i1 true) = true → S w) → wpAnyT P md l.toArray Q S zs fuel (listed.setIfInBounds i1 true) a w) → K a w) →
      if Region.wanted oi1 (yielded l.toArray a.tmps) = true then Oper.wp P oi1 a w K Q else K (a.put oi1.dst undef) w)
    (hi2 : ∀ K : Act → World → Prop, Shut (∀ a w, (free zs (listed.setIfInBounds i2 true) = true → S w) → ((free zs (listed.setIfInBounds i2 true) = true → S w) → wpAnyT P md l.toArray Q S zs fuel (listed.setIfInBounds i2 true) a w) → K a w) →
      if Region.wanted oi2 (yielded l.toArray a.tmps) = true then Oper.wp P oi2 a w K Q else K (a.put oi2.dst undef) w)
    (hi3 : ∀ K : Act → World → Prop, Shut (∀ a w, (free zs (listed.setIfInBounds i3 true) = true → S w) → ((free zs (listed.setIfInBounds i3 true) = true → S w) → wpAnyT P md l.toArray Q S zs fuel (listed.setIfInBounds i3 true) a w) → K a w) →
      if Region.wanted oi3 (yielded l.toArray a.tmps) = true then Oper.wp P oi3 a w K Q else K (a.put oi3.dst undef) w)
    : wpAnyT P md l.toArray Q S zs (fuel + 1) listed a w := by
  refine ⟨fun h0 => (by rw [hr] at h0; cases h0), fun k hk => ?_⟩
  rw [hr] at hk
  rcases List.mem_cons.1 hk with e | hk
  · rw [e]
    exact wpOp_step (at_drop di1) (fun K' hK => hi1 K' (fun a w hS hW => hK a w ⟨hS, hW hS⟩))
  rcases List.mem_cons.1 hk with e | hk
  · rw [e]
    exact wpOp_step (at_drop di2) (fun K' hK => hi2 K' (fun a w hS hW => hK a w ⟨hS, hW hS⟩))
  obtain rfl : k = i3 := by simpa using hk
  exact wpOp_step (at_drop di3) (fun K' hK => hi3 K' (fun a w hS hW => hK a w ⟨hS, hW hS⟩))

theorem four {l resti1 resti2 resti3 resti4 : List Oper} {i1 i2 i3 i4 : Nat} {oi1 oi2 oi3 oi4 : Oper} {fuel : Nat} {listed : Array Bool} {a : Act} {w : World} (di1 : l.drop i1 = oi1 :: resti1) (di2 : l.drop i2 = oi2 :: resti2) (di3 : l.drop i3 = oi3 :: resti3) (di4 : l.drop i4 = oi4 :: resti4)
    (hr : Region.ready md l.toArray listed = [i1, i2, i3, i4])
    (hi1 : ∀ K : Act → World → Prop, Shut (∀ a w, (free zs (listed.setIfInBounds i1 true) = true → S w) → ((free zs (listed.setIfInBounds i1 true) = true → S w) → wpAnyT P md l.toArray Q S zs fuel (listed.setIfInBounds i1 true) a w) → K a w) →
      if Region.wanted oi1 (yielded l.toArray a.tmps) = true then Oper.wp P oi1 a w K Q else K (a.put oi1.dst undef) w)
    (hi2 : ∀ K : Act → World → Prop, Shut (∀ a w, (free zs (listed.setIfInBounds i2 true) = true → S w) → ((free zs (listed.setIfInBounds i2 true) = true → S w) → wpAnyT P md l.toArray Q S zs fuel (listed.setIfInBounds i2 true) a w) → K a w) →
      if Region.wanted oi2 (yielded l.toArray a.tmps) = true then Oper.wp P oi2 a w K Q else K (a.put oi2.dst undef) w)
    (hi3 : ∀ K : Act → World → Prop, Shut (∀ a w, (free zs (listed.setIfInBounds i3 true) = true → S w) → ((free zs (listed.setIfInBounds i3 true) = true → S w) → wpAnyT P md l.toArray Q S zs fuel (listed.setIfInBounds i3 true) a w) → K a w) →
      if Region.wanted oi3 (yielded l.toArray a.tmps) = true then Oper.wp P oi3 a w K Q else K (a.put oi3.dst undef) w)
    (hi4 : ∀ K : Act → World → Prop, Shut (∀ a w, (free zs (listed.setIfInBounds i4 true) = true → S w) → ((free zs (listed.setIfInBounds i4 true) = true → S w) → wpAnyT P md l.toArray Q S zs fuel (listed.setIfInBounds i4 true) a w) → K a w) →
      if Region.wanted oi4 (yielded l.toArray a.tmps) = true then Oper.wp P oi4 a w K Q else K (a.put oi4.dst undef) w)
    : wpAnyT P md l.toArray Q S zs (fuel + 1) listed a w := by
  refine ⟨fun h0 => (by rw [hr] at h0; cases h0), fun k hk => ?_⟩
  rw [hr] at hk
  rcases List.mem_cons.1 hk with e | hk
  · rw [e]
    exact wpOp_step (at_drop di1) (fun K' hK => hi1 K' (fun a w hS hW => hK a w ⟨hS, hW hS⟩))
  rcases List.mem_cons.1 hk with e | hk
  · rw [e]
    exact wpOp_step (at_drop di2) (fun K' hK => hi2 K' (fun a w hS hW => hK a w ⟨hS, hW hS⟩))
  rcases List.mem_cons.1 hk with e | hk
  · rw [e]
    exact wpOp_step (at_drop di3) (fun K' hK => hi3 K' (fun a w hS hW => hK a w ⟨hS, hW hS⟩))
  obtain rfl : k = i4 := by simpa using hk
  exact wpOp_step (at_drop di4) (fun K' hK => hi4 K' (fun a w hS hW => hK a w ⟨hS, hW hS⟩))

theorem done {l : List Oper} {listed : Array Bool} {a : Act} {w : World} (hr : Region.ready md l.toArray listed = []) (h : Q .normal a w) :
    ∀ fuel, wpAnyT P md l.toArray Q S zs fuel listed a w
  | 0 => ⟨hr, h⟩
  | _ + 1 => ⟨fun _ => h, by rw [hr]; simp⟩

theorem start {l : List Oper} {id : Nat} {a : Act} {w : World} (S : World → Prop) (zs : List Nat) (hm : P.follows .mixedOrders = true) (hS : S w.drew)
    (h : S w.drew → wpAnyT P .any l.toArray Q S zs l.length (Array.replicate l.length false) a w.drew) : (Code.region id l.toArray true).wp P Q a w :=
  wp_region_any hm (wpAny_of_T _ _ _ _ (by simpa using h hS))
end
end Go.Proofs.YtadelkancmbanaaGreat.Reg
