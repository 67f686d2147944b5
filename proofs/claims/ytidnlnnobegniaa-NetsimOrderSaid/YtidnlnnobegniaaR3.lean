/- The law NetsimOrder returns true for every input that can be read, and what it was handed reads as before. Conditions: none. -/
import Derived.Test.YtidnlnnobegniaaN13
import Derived.Test.YtidnlnnobegniaaA20
import Derived.Test.YtidnlnnobegniaaRows
import Derived.ProofKit
import Derived.SizedLaws
set_option linter.unusedVariables false
set_option linter.unusedSimpArgs false
namespace Go.Proofs.Ytidnlnnobegniaa
open Go.AM Go.ChangeShapes Go.WideShapes Go.ChangeAt Go.RowKit

set_option maxRecDepth 100000 in
theorem netsimOrder_lifted (os : Os) (started : os.Started) (H : Type) (enc : TypeId × Value → H) :
    ReturnsInHanded {} Try.checked os 3 .any (Rows.netsimOrderSpec.pre6 enc Try.prog Try.f3 Rows.netsimOrderRow.domain false) (Rows.netsimOrderSpec.post enc Try.prog Try.f3 false true false false) := by
  refine returnsInHanded_of_change_sized (C := Try.checked) Try.own started (by kernel_rfl) Try.func3
    (ChangeSpec.witness6 (enc := enc) (C := Try.checked) false ⟨#[], #[.slice none 0 0], []⟩ 8 (by kernel_rfl) (by kernel_rfl) (by kernel_rfl) (by kernel_rfl)) ?_
  intro W base args ds gs before hval0 hW hcnd hsz0 _
  have hval : ∀ (j : Nat) t v, Try.f3.params[j]? = some t → args[j]? = some v → Value.okWide Try.prog W .any base t v := hval0
  have hW' := hW
  obtain ⟨p, q, hA0, hV, rfl, hfz, hnd⟩ := hW
  have hA : DataW.TrodAll enc Try.prog W 0 (fun _ => true) true Try.f3.params.toList args.toList ds p := hA0
  have hsz : (DataW.weightsEach Try.prog (Try.f3.params.toList ++ Rows.netsimOrderSpec.plain.varTypes Try.prog) (ds ++ gs)).all (· ≤ reachBytes) = true := hsz0
  rw [Try.params3] at hA hval hsz
  obtain ⟨v0, d0, rfl, rfl, h0⟩ := trodAll_one hA
  obtain ⟨rfl, rfl⟩ := trodVars_none hV
  obtain ⟨x0, f0, r0⟩ := arg_one Try.underlying22 (.inr (.inr (.inr ⟨_, rfl⟩))) sh22 (hval 0 22 v0 rfl rfl) h0 (light_of hsz (j := 0) rfl rfl)
  obtain ⟨ms, rfl, hl, hb⟩ := fit_bytes (fit_one f0)
  have hr0 : reachBytes = 140737488351232 := rfl
  have hc := c3 ms (by omega) (fun m hm => by have := hb m hm; omega)
  refine (hc (heapOf W) W [v0] (fun b o h => h) (.cons r0 .nil)).mono fun e W' h => ?_
  obtain ⟨v, G', rfl, hres, _, _, _, hg⟩ := h
  have hv : v = .bool true := hres.2.lit_inv
  subst hv
  exact ⟨_, rfl, post_true Try.laidOut (tb := 4) rfl Try.underlying4 rfl rfl rfl rfl (by intro t ht; rw [Try.params3] at ht; simp at ht; subst ht; exact ⟨by kernel_rfl, Nat.le_of_ble_eq_true (by kernel_rfl)⟩) hW' hg⟩

theorem netsimOrder_holds : Rows.NetsimOrderSaid :=
  OpenClaim.holds_of_wide 3 Try.f3 rfl rfl rfl rfl rfl rfl rfl ⟨rfl, rfl, rfl, rfl, rfl⟩ rfl rfl rfl rfl rfl (by kernel_rfl) Try.func3 (by kernel_rfl)
    (of_decide_eq_true (by kernel_rfl)) (by unfold Func.isWrapper; rw [if_neg (by decide +kernel)]; exact ⟨rfl, rfl⟩)
    (fun os started H enc _ => netsimOrder_lifted os started H enc)
end Go.Proofs.Ytidnlnnobegniaa
