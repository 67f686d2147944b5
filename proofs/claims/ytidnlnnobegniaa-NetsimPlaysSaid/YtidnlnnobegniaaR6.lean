/- The law NetsimPlays returns true for every input that can be read, and what it was handed reads as before. Conditions: none. -/
import Derived.Test.YtidnlnnobegniaaP20
import Derived.Test.YtidnlnnobegniaaP19
import Derived.Test.YtidnlnnobegniaaA20
import Derived.Test.YtidnlnnobegniaaRows
import Derived.ProofKit
import Derived.SizedLaws
set_option linter.unusedVariables false
set_option linter.unusedSimpArgs false
namespace Go.Proofs.Ytidnlnnobegniaa
open Go.AM Go.ChangeShapes Go.WideShapes Go.ChangeAt Go.RowKit

set_option maxRecDepth 100000 in
theorem netsimPlays_lifted (os : Os) (started : os.Started) (H : Type) (enc : TypeId × Value → H) :
    ReturnsInHanded {} Try.checked os 6 .any (Rows.netsimPlaysSpec.pre6 enc Try.prog Try.f6 Rows.netsimPlaysRow.domain false) (Rows.netsimPlaysSpec.post enc Try.prog Try.f6 false true false false) := by
  refine returnsInHanded_of_change_sized (C := Try.checked) Try.own started (by kernel_rfl) Try.func6
    (ChangeSpec.witness6 (enc := enc) (C := Try.checked) false ⟨#[], #[.int .i64 0, .int .i64 0, .slice none 0 0], []⟩ 8 (by kernel_rfl) (by kernel_rfl) (by kernel_rfl) (by kernel_rfl)) ?_
  intro W base args ds gs before hval0 hW hcnd hsz0 _
  have hval : ∀ (j : Nat) t v, Try.f6.params[j]? = some t → args[j]? = some v → Value.okWide Try.prog W .any base t v := hval0
  have hW' := hW
  obtain ⟨p, q, hA0, hV, rfl, hfz, hnd⟩ := hW
  have hA : DataW.TrodAll enc Try.prog W 0 (fun _ => true) true Try.f6.params.toList args.toList ds p := hA0
  have hsz : (DataW.weightsEach Try.prog (Try.f6.params.toList ++ Rows.netsimPlaysSpec.plain.varTypes Try.prog) (ds ++ gs)).all (· ≤ reachBytes) = true := hsz0
  rw [Try.params6] at hA hval hsz
  obtain ⟨v0, v1, v2, d0, d1, d2, p0, p1, p2, rfl, rfl, rfl, h0, h1, h2⟩ := trodAll_three hA
  obtain ⟨rfl, rfl⟩ := trodVars_none hV
  obtain ⟨x0, f0, r0⟩ := arg_one Try.underlying3 (.inr (.inl ⟨_, rfl⟩)) sh3 (hval 0 3 v0 rfl rfl) h0 (light_of hsz (j := 0) rfl rfl)
  obtain ⟨x1, f1, r1⟩ := arg_one Try.underlying3 (.inr (.inl ⟨_, rfl⟩)) sh3 (hval 1 3 v1 rfl rfl) h1 (light_of hsz (j := 1) rfl rfl)
  obtain ⟨x2, f2, r2⟩ := arg_one Try.underlying39 (.inr (.inr (.inr ⟨_, rfl⟩))) sh39 (hval 2 39 v2 rfl rfl) h2 (light_of hsz (j := 2) rfl rfl)
  obtain ⟨n, rfl, _⟩ := fit_num (fit_one f0)
  obtain ⟨room, rfl, _⟩ := fit_num (fit_one f1)
  obtain ⟨ops, rfl, hl, ho⟩ := fit_ops (fit_one f2)
  have hr0 : reachBytes = 140737488351232 := rfl
  have hc := c6 n room ops (by omega) ho
  refine (hc (heapOf W) W [v0, v1, v2] (fun b o h => h) (.cons r0 (.cons r1 (.cons r2 .nil)))).mono fun e W' h => ?_
  obtain ⟨v, G', rfl, hres, _, _, _, hg⟩ := h
  have hv : v = .bool true := hres.2.lit_inv
  subst hv
  exact ⟨_, rfl, post_true Try.laidOut (tb := 4) rfl Try.underlying4 rfl rfl rfl rfl (by intro t ht; rw [Try.params6] at ht; simp at ht; rcases ht with rfl | rfl <;> exact ⟨by kernel_rfl, Nat.le_of_ble_eq_true (by kernel_rfl)⟩) hW' hg⟩

theorem netsimPlays_holds : Rows.NetsimPlaysSaid :=
  OpenClaim.holds_of_wide 6 Try.f6 rfl rfl rfl rfl rfl rfl rfl ⟨rfl, rfl, rfl, rfl, rfl⟩ rfl rfl rfl rfl rfl (by kernel_rfl) Try.func6 (by kernel_rfl)
    (of_decide_eq_true (by kernel_rfl)) (by unfold Func.isWrapper; rw [if_neg (by decide +kernel)]; exact ⟨rfl, rfl⟩)
    (fun os started H enc _ => netsimPlays_lifted os started H enc)
end Go.Proofs.Ytidnlnnobegniaa
