/- The law EpcoreMeets returns true for every input that can be read, and what it was handed reads as before. Conditions: none. -/
import Derived.Test.YtbohgpdpglfepaaU7
import Derived.Test.YtbohgpdpglfepaaA20
import Derived.Test.YtbohgpdpglfepaaRows
import Derived.ProofKit
import Derived.SizedLaws
set_option linter.unusedVariables false
set_option linter.unusedSimpArgs false
namespace Go.Proofs.Ytbohgpdpglfepaa
open Go.AM Go.ChangeShapes Go.WideShapes Go.ChangeAt Go.RowKit

set_option maxRecDepth 100000 in
theorem epcoreMeets_lifted (os : Os) (started : os.Started) (H : Type) (enc : TypeId × Value → H) :
    ReturnsInHanded {} Try.checked os 12 .any (Rows.epcoreMeetsSpec.pre6 enc Try.prog Try.f12 Rows.epcoreMeetsRow.domain false) (Rows.epcoreMeetsSpec.post enc Try.prog Try.f12 false true false false) := by
  refine returnsInHanded_of_change_sized (C := Try.checked) Try.own started (by kernel_rfl) Try.func12
    (ChangeSpec.witness6 (enc := enc) (C := Try.checked) false ⟨#[], #[.int .i64 0, .int .i64 0, .int .i64 0], []⟩ 8 (by kernel_rfl) (by kernel_rfl) (by kernel_rfl) (by kernel_rfl)) ?_
  intro W base args ds gs before hval0 hW hcnd hsz0 _
  have hval : ∀ (j : Nat) t v, Try.f12.params[j]? = some t → args[j]? = some v → Value.okWide Try.prog W .any base t v := hval0
  have hW' := hW
  obtain ⟨p, q, hA0, hV, rfl, hfz, hnd⟩ := hW
  have hA : DataW.TrodAll enc Try.prog W 0 (fun _ => true) true Try.f12.params.toList args.toList ds p := hA0
  have hsz : (DataW.weightsEach Try.prog (Try.f12.params.toList ++ Rows.epcoreMeetsSpec.plain.varTypes Try.prog) (ds ++ gs)).all (· ≤ reachBytes) = true := hsz0
  rw [Try.params12] at hA hval hsz
  obtain ⟨v0, v1, v2, d0, d1, d2, p0, p1, p2, rfl, rfl, rfl, h0, h1, h2⟩ := trodAll_three hA
  obtain ⟨rfl, rfl⟩ := trodVars_none hV
  obtain ⟨x0, f0, r0⟩ := arg_one Try.underlying3 (.inr (.inl ⟨_, rfl⟩)) sh3 (hval 0 3 v0 rfl rfl) h0 (light_of hsz (j := 0) rfl rfl)
  obtain ⟨x1, f1, r1⟩ := arg_one Try.underlying3 (.inr (.inl ⟨_, rfl⟩)) sh3 (hval 1 3 v1 rfl rfl) h1 (light_of hsz (j := 1) rfl rfl)
  obtain ⟨x2, f2, r2⟩ := arg_one Try.underlying3 (.inr (.inl ⟨_, rfl⟩)) sh3 (hval 2 3 v2 rfl rfl) h2 (light_of hsz (j := 2) rfl rfl)
  obtain ⟨n, rfl, _⟩ := fit_int (ts := []) f0
  obtain ⟨a, rfl, _⟩ := fit_int (ts := []) f1
  obtain ⟨b, rfl, _⟩ := fit_int (ts := []) f2
  have hc := c12 n a b
  refine (hc (heapOf W) W [v0, v1, v2] (fun b o h => h) (.cons r0 (.cons r1 (.cons r2 .nil)))).mono fun e W' h => ?_
  obtain ⟨v, G', rfl, hres, _, _, _, hg⟩ := h
  have hv : v = .bool true := hres.2.lit_inv
  subst hv
  exact ⟨_, rfl, post_true Try.laidOut (tb := 4) rfl Try.underlying4 rfl rfl rfl rfl (by intro t ht; rw [Try.params12] at ht; simp at ht; subst ht; exact ⟨by kernel_rfl, Nat.le_of_ble_eq_true (by kernel_rfl)⟩) hW' hg⟩

theorem epcoreMeets_holds : Rows.EpcoreMeetsSaid :=
  OpenClaim.holds_of_wide 12 Try.f12 rfl rfl rfl rfl rfl rfl rfl ⟨rfl, rfl, rfl, rfl, rfl⟩ rfl rfl rfl rfl rfl (by kernel_rfl) Try.func12 (by kernel_rfl)
    (of_decide_eq_true (by kernel_rfl)) (by unfold Func.isWrapper; rw [if_neg (by decide +kernel)]; exact ⟨rfl, rfl⟩)
    (fun os started H enc _ => epcoreMeets_lifted os started H enc)
end Go.Proofs.Ytbohgpdpglfepaa
