/- The law VecBack returns true for every input that can be read, and what it was handed reads as before. Conditions: none. -/
import Derived.Test.YtbohgpdpglfepaaU40
import Derived.Test.YtbohgpdpglfepaaA20
import Derived.Test.YtbohgpdpglfepaaRows
import Derived.ProofKit
import Derived.SizedLaws
set_option linter.unusedVariables false
set_option linter.unusedSimpArgs false
namespace Go.Proofs.Ytbohgpdpglfepaa
open Go.AM Go.ChangeShapes Go.WideShapes Go.ChangeAt Go.RowKit

set_option maxRecDepth 100000 in
theorem vecBack_lifted (os : Os) (started : os.Started) (H : Type) (enc : TypeId × Value → H) :
    ReturnsInHanded {} Try.checked os 8 .any (Rows.vecBackSpec.pre6 enc Try.prog Try.f8 Rows.vecBackRow.domain false) (Rows.vecBackSpec.post enc Try.prog Try.f8 false true false false) := by
  refine returnsInHanded_of_change_sized (C := Try.checked) Try.own started (by kernel_rfl) Try.func8
    (ChangeSpec.witness6 (enc := enc) (C := Try.checked) false ⟨#[], #[.agg #[.int .i64 0, .int .i64 0], .slice none 0 0, .slice none 0 0], []⟩ 8 (by kernel_rfl) (by kernel_rfl) (by kernel_rfl) (by kernel_rfl)) ?_
  intro W base args ds gs before hval0 hW hcnd hsz0 _
  have hval : ∀ (j : Nat) t v, Try.f8.params[j]? = some t → args[j]? = some v → Value.okWide Try.prog W .any base t v := hval0
  have hW' := hW
  obtain ⟨p, q, hA0, hV, rfl, hfz, hnd⟩ := hW
  have hA : DataW.TrodAll enc Try.prog W 0 (fun _ => true) true Try.f8.params.toList args.toList ds p := hA0
  have hsz : (DataW.weightsEach Try.prog (Try.f8.params.toList ++ Rows.vecBackSpec.plain.varTypes Try.prog) (ds ++ gs)).all (· ≤ reachBytes) = true := hsz0
  rw [Try.params8] at hA hval hsz
  obtain ⟨v0, v1, v2, d0, d1, d2, p0, p1, p2, rfl, rfl, rfl, h0, h1, h2⟩ := trodAll_three hA
  obtain ⟨rfl, rfl⟩ := trodVars_none hV
  obtain ⟨t0, f0, r0⟩ := arg_agg Try.underlying23 sh23 (hval 0 23 v0 rfl rfl) h0 (light_of hsz (j := 0) rfl rfl)
  obtain ⟨x1, f1, r1⟩ := arg_one Try.underlying36 (.inr (.inr (.inr ⟨_, rfl⟩))) sh36 (hval 1 36 v1 rfl rfl) h1 (light_of hsz (j := 1) rfl rfl)
  obtain ⟨x2, f2, r2⟩ := arg_one Try.underlying59 (.inr (.inr (.inr ⟨_, rfl⟩))) sh59 (hval 2 59 v2 rfl rfl) h2 (light_of hsz (j := 2) rfl rfl)
  obtain ⟨b1, b2, rfl⟩ := fit_agg2 f0
  obtain ⟨v, rfl, hv, _⟩ := fit_list (fit_one f1)
  obtain ⟨p, rfl, hp, hpb⟩ := fit_list (fit_one f2)
  have hr0 : reachBytes = 140737488351232 := rfl
  have hc := c8 b1 b2 v p (by omega) (fun x hx => hpb x hx) (by omega)
  refine (hc (heapOf W) W [v0, v1, v2] (fun b o h => h) (.cons r0 (.cons r1 (.cons r2 .nil)))).mono fun e W' h => ?_
  obtain ⟨v, G', rfl, hres, _, _, _, hg⟩ := h
  have hv : v = .bool true := hres.2.lit_inv
  subst hv
  exact ⟨_, rfl, post_true Try.laidOut (tb := 4) rfl Try.underlying4 rfl rfl rfl rfl (by intro t ht; rw [Try.params8] at ht; simp at ht; rcases ht with rfl | rfl | rfl <;> exact ⟨by kernel_rfl, Nat.le_of_ble_eq_true (by kernel_rfl)⟩) hW' hg⟩

theorem vecBack_holds : Rows.VecBackSaid :=
  OpenClaim.holds_of_wide 8 Try.f8 rfl rfl rfl rfl rfl rfl rfl ⟨rfl, rfl, rfl, rfl, rfl⟩ rfl rfl rfl rfl rfl (by kernel_rfl) Try.func8 (by kernel_rfl)
    (of_decide_eq_true (by kernel_rfl)) (by unfold Func.isWrapper; rw [if_neg (by decide +kernel)]; exact ⟨rfl, rfl⟩)
    (fun os started H enc _ => vecBack_lifted os started H enc)
end Go.Proofs.Ytbohgpdpglfepaa
