/- The law EpcoreCounts returns true for every input that can be read, and what it was handed reads as before. Conditions: none. -/
import Derived.Test.YtbohgpdpglfepaaU6
import Derived.Test.YtbohgpdpglfepaaA20
import Derived.Test.YtbohgpdpglfepaaRows
import Derived.ProofKit
import Derived.SizedLaws
set_option linter.unusedVariables false
set_option linter.unusedSimpArgs false
namespace Go.Proofs.Ytbohgpdpglfepaa
open Go.AM Go.ChangeShapes Go.WideShapes Go.ChangeAt Go.RowKit

set_option maxRecDepth 100000 in
theorem epcoreCounts_lifted (os : Os) (started : os.Started) (H : Type) (enc : TypeId × Value → H) :
    ReturnsInHanded {} Try.checked os 9 .any (Rows.epcoreCountsSpec.pre6 enc Try.prog Try.f9 Rows.epcoreCountsRow.domain false) (Rows.epcoreCountsSpec.post enc Try.prog Try.f9 false true false false) := by
  refine returnsInHanded_of_change_sized (C := Try.checked) Try.own started (by kernel_rfl) Try.func9
    (ChangeSpec.witness6 (enc := enc) (C := Try.checked) false ⟨#[], #[.int .i64 0, .slice none 0 0], []⟩ 8 (by kernel_rfl) (by kernel_rfl) (by kernel_rfl) (by kernel_rfl)) ?_
  intro W base args ds gs before hval0 hW hcnd hsz0 _
  have hval : ∀ (j : Nat) t v, Try.f9.params[j]? = some t → args[j]? = some v → Value.okWide Try.prog W .any base t v := hval0
  have hW' := hW
  obtain ⟨p, q, hA0, hV, rfl, hfz, hnd⟩ := hW
  have hA : DataW.TrodAll enc Try.prog W 0 (fun _ => true) true Try.f9.params.toList args.toList ds p := hA0
  have hsz : (DataW.weightsEach Try.prog (Try.f9.params.toList ++ Rows.epcoreCountsSpec.plain.varTypes Try.prog) (ds ++ gs)).all (· ≤ reachBytes) = true := hsz0
  rw [Try.params9] at hA hval hsz
  obtain ⟨v0, v1, d0, d1, p0, p1, rfl, rfl, rfl, h0, h1⟩ := trodAll_two hA
  obtain ⟨rfl, rfl⟩ := trodVars_none hV
  obtain ⟨x0, f0, r0⟩ := arg_one Try.underlying3 (.inr (.inl ⟨_, rfl⟩)) sh3 (hval 0 3 v0 rfl rfl) h0 (light_of hsz (j := 0) rfl rfl)
  obtain ⟨x1, f1, r1⟩ := arg_one Try.underlying74 (.inr (.inr (.inr ⟨_, rfl⟩))) sh74 (hval 1 74 v1 rfl rfl) h1 (light_of hsz (j := 1) rfl rfl)
  obtain ⟨n, rfl, _⟩ := fit_int (ts := []) f0
  obtain ⟨ats, rfl, hl, hb⟩ := fit_atts (fit_one f1)
  have hc := c9 n ats hl hb
  refine (hc (heapOf W) W [v0, v1] (fun b o h => h) (.cons r0 (.cons r1 .nil))).mono fun e W' h => ?_
  obtain ⟨v, G', rfl, hres, _, _, _, hg⟩ := h
  have hv : v = .bool true := hres.2.lit_inv
  subst hv
  exact ⟨_, rfl, post_true Try.laidOut (tb := 4) rfl Try.underlying4 rfl rfl rfl rfl (by intro t ht; rw [Try.params9] at ht; simp at ht; rcases ht with rfl | rfl <;> exact ⟨by kernel_rfl, Nat.le_of_ble_eq_true (by kernel_rfl)⟩) hW' hg⟩

theorem epcoreCounts_holds : Rows.EpcoreCountsSaid :=
  OpenClaim.holds_of_wide 9 Try.f9 rfl rfl rfl rfl rfl rfl rfl ⟨rfl, rfl, rfl, rfl, rfl⟩ rfl rfl rfl rfl rfl (by kernel_rfl) Try.func9 (by kernel_rfl)
    (of_decide_eq_true (by kernel_rfl)) (by unfold Func.isWrapper; rw [if_neg (by decide +kernel)]; exact ⟨rfl, rfl⟩)
    (fun os started H enc _ => epcoreCounts_lifted os started H enc)
end Go.Proofs.Ytbohgpdpglfepaa
