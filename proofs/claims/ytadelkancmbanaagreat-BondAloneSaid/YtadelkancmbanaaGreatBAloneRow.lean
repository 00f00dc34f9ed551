/-
  'skein/skeinlaw30.BondAlone' returns true for all lists of first numbers and all scripts, and the input reads afterwards as it read before. No condition.
  (The row's frame began as JointLong's row, which began as proof-skeleton.mjs's shell; the walk and the last step are this seat's own.)
-/
import Derived.Test.YtadelkancmbanaaGreatRows
import Derived.WalkKit
import Derived.ProofKit
import Derived.OpenShut
import Derived.Test.YtadelkancmbanaaGreatBOpen
namespace Go.Proofs.YtadelkancmbanaaGreat.bondAlone
open Go.ChangeShapes Go.WideShapes Go.ChangeAt Go.RowKit

theorem own : ownKnob Tryz.prog.godebug = none := by kernel_rfl

theorem laid : laidOutB Tryz.prog = true := by kernel_rfl

/-! ### The walk: BAlone2 -/
set_option maxRecDepth 100000 in
theorem lifted (os : Os) (started : os.Started) (H : Type) (enc : TypeId × Value → H) :
    ReturnsInHanded {} Tryz.checked os 3 .any (Rows.bondAloneSpec.pre6 enc Tryz.prog Tryz.f3 Rows.bondAloneRow.domain false) (Rows.bondAloneSpec.post enc Tryz.prog Tryz.f3 false true false false) := by
  refine returnsInHanded_of_change (C := Tryz.checked) own started (by kernel_rfl) Tryz.func3
    (ChangeSpec.witness6 (enc := enc) (C := Tryz.checked) false ⟨#[], #[.slice none 0 0, .slice none 0 0], []⟩ 8 (by kernel_rfl) (by kernel_rfl) (by kernel_rfl) (by kernel_rfl)) ?_
  intro W base args ds gs before hval0 hW hcnd _
  have hval : ∀ (j : Nat) t v, Tryz.f3.params[j]? = some t → args[j]? = some v → Value.okWide Tryz.prog W .any base t v := hval0
  have hW' := hW
  obtain ⟨p, q, hA0, hV, rfl, hfz, hnd⟩ := hW
  have hA : DataW.TrodAll enc Tryz.prog W 0 (fun _ => true) true Tryz.f3.params.toList args.toList ds p := hA0
  rw [Tryz.params3] at hA hval
  obtain ⟨v0, vs0, d0, ds0, p0, q0, hargs, rfl, rfl, h0, r0⟩ := trodAll_cons hA
  obtain ⟨v1, vs1, d1, ds1, p1, q1, rfl, rfl, rfl, h1, r1⟩ := trodAll_cons r0
  obtain ⟨rfl, rfl, rfl⟩ := trodAll_nil r1
  obtain rfl : args = #[v0, v1] := by cases args; simp_all
  obtain ⟨rfl, rfl⟩ := trodVars_none hV
  obtain ⟨a0, n0, cap0, rfl⟩ := okWide_slice Tryz.underlying22 (hval 0 22 v0 rfl rfl)
  obtain ⟨a1, n1, cap1, rfl⟩ := okWide_slice Tryz.underlying23 (hval 1 23 v1 rfl rfl)
  obtain ⟨fuel0, hf0⟩ := h0
  obtain ⟨fuel1, hf1⟩ := h1
  have hF := open_first hf0
  have hS := open_script hf1
  clear hA0 hval0
  simp only [List.append_nil] at hW'
  refine (bondAlone_any a0 a1 n0 n1 cap0 cap1 W hF hS).mono fun e W' ⟨he, hg⟩ => ?_
  subst he
  have t0 : DataW.Trod enc Tryz.prog W' 0 (fun b => decide (b < W.heap.size)) true 22 (.slice a0 n0 cap0) d0 p0 :=
    Below.trod laid (by kernel_rfl) (of_decide_eq_true (by kernel_rfl)) ⟨fuel0, hf0⟩ hg fun x hx => DataW.trod_lt fuel0 22 _ _ hf0 x hx
  have t1 : DataW.Trod enc Tryz.prog W' 0 (fun b => decide (b < W.heap.size)) true 23 (.slice a1 n1 cap1) d1 p1 :=
    Below.trod laid (by kernel_rfl) (of_decide_eq_true (by kernel_rfl)) ⟨fuel1, hf1⟩ hg fun x hx => DataW.trod_lt fuel1 23 _ _ hf1 x hx
  exact ⟨_, rfl, ⟨_, _, _, [], p0 ++ (p1 ++ []), [], hW', trodAll_cons_mk (shut_bool Tryz.underlying4 _) trodAll_mk0, trodAll_cons_mk t0 (trodAll_cons_mk t1 trodAll_mk0), rfl, hg.frame _, fun h => by cases h⟩⟩

theorem over : Rows.bondAloneRow.holds Tryz.pinned (OpenSpec.ofChange Rows.bondAloneSpec) :=
  OpenClaim.holds_of_wide 3 Tryz.f3 rfl rfl rfl rfl rfl rfl rfl ⟨rfl, rfl, rfl, rfl, rfl⟩ rfl rfl rfl rfl rfl (by kernel_rfl) Tryz.func3 (by kernel_rfl)
    (of_decide_eq_true (by kernel_rfl)) (by unfold Func.isWrapper; first | (rw [if_pos (by decide +kernel)]; kernel_rfl) | (rw [if_neg (by decide +kernel)]; exact ⟨rfl, rfl⟩))
    (fun os started H enc _ => lifted os started H enc)

/-- ████ THE STATEMENT ████ -/
theorem proved : Rows.BondAloneSaid :=
  over
#print axioms proved
end Go.Proofs.YtadelkancmbanaaGreat.bondAlone
