/- The law NetsimOnly returns true for every input that can be read, and what it was handed reads as before. Condition: what it reads is of bulk at most 1048576. -/
import Derived.Test.YtidnlnnobegniaaN18
import Derived.Test.YtidnlnnobegniaaA20
import Derived.Test.YtidnlnnobegniaaRows
import Derived.ProofKit
import Derived.SizedLaws
import Derived.JoinedCond
import Derived.Deep.CondSized
set_option linter.unusedVariables false
set_option linter.unusedSimpArgs false
namespace Go.Proofs.Ytidnlnnobegniaa
open Go.AM Go.ChangeShapes Go.WideShapes Go.ChangeAt Go.RowKit

set_option maxRecDepth 100000 in
theorem netsimOnly_lifted (os : Os) (started : os.Started) (H : Type) (enc : TypeId × Value → H) (F : Stop.Interp) :
    ReturnsInHanded {} Try.checked os 5 .any ((Rows.OpenSpec.upto Rows.netsimOnlySpec).pre6 enc Try.prog Try.f5 Rows.netsimOnlyUptoRow.domain false) (((Rows.OpenSpec.upto Rows.netsimOnlySpec).at F).post enc Try.prog Try.f5 false true false false) := by
  refine returnsInHanded_of_cond_sized (C := Try.checked) (s := Rows.OpenSpec.upto Rows.netsimOnlySpec) (k := Rows.uptoSmall) rfl Try.own started (by kernel_rfl) Try.func5
    (OpenSpec.witness (enc := enc) (C := Try.checked) (s := Rows.OpenSpec.upto Rows.netsimOnlySpec) (k := Rows.uptoSmall) rfl false ⟨#[], #[.int .i64 0, .slice none 0 0], []⟩ 8 (by kernel_rfl) (by kernel_rfl) (by kernel_rfl) (x := ([.lit (.int .i64 0), .nil], [], [])) (by kernel_rfl) rfl (by kernel_rfl)) ?_
  intro W base args ds gs before hval0 hW hcnd hk hsz0 _
  have hval : ∀ (j : Nat) t v, Try.f5.params[j]? = some t → args[j]? = some v → Value.okWide Try.prog W .any base t v := hval0
  have hW' := hW
  obtain ⟨p, q, hA0, hV, rfl, hfz, hnd⟩ := hW
  have hA : DataW.TrodAll enc Try.prog W 0 (fun _ => true) true Try.f5.params.toList args.toList ds p := hA0
  have hsz : (DataW.weightsEach Try.prog (Try.f5.params.toList ++ (Rows.OpenSpec.upto Rows.netsimOnlySpec).bare.plain.varTypes Try.prog) (ds ++ gs)).all (· ≤ reachBytes) = true := hsz0
  rw [Try.params5] at hA hval hsz
  obtain ⟨v0, v1, d0, d1, p0, p1, rfl, rfl, rfl, h0, h1⟩ := trodAll_two hA
  obtain ⟨rfl, rfl⟩ := trodVars_none hV
  obtain ⟨x0, f0, r0⟩ := arg_one Try.underlying3 (.inr (.inl ⟨_, rfl⟩)) sh3 (hval 0 3 v0 rfl rfl) h0 (light_of hsz (j := 0) rfl rfl)
  obtain ⟨x1, f1, r1⟩ := arg_one Try.underlying39 (.inr (.inr (.inr ⟨_, rfl⟩))) sh39 (hval 1 39 v1 rfl rfl) h1 (light_of hsz (j := 1) rfl rfl)
  have hk1 : Rows.uptoBulkAll ([d0, d1] ++ []) ≤ 1048576 := of_decide_eq_true hk
  simp only [List.cons_append, List.nil_append, Rows.uptoBulkAll] at hk1
  obtain ⟨n, rfl, _⟩ := fit_num (fit_one f0)
  obtain ⟨ops, rfl, hl, ho⟩ := fit_ops (fit_one f1)
  have hs := ops_small h1 r1
  have hr0 : reachBytes = 140737488351232 := rfl
  have hc := c5 n ops (by omega) ho (by omega)
  refine (hc (heapOf W) W [v0, v1] (fun b o h => h) (.cons r0 (.cons r1 .nil))).mono fun e W' h => ?_
  obtain ⟨v, G', rfl, hres, _, _, _, hg⟩ := h
  have hv : v = .bool true := hres.2.lit_inv
  subst hv
  exact ⟨_, rfl, post_true Try.laidOut (tb := 4) rfl Try.underlying4 rfl rfl rfl rfl (by intro t ht; rw [Try.params5] at ht; simp at ht; rcases ht with rfl | rfl <;> exact ⟨by kernel_rfl, Nat.le_of_ble_eq_true (by kernel_rfl)⟩) hW' hg⟩

theorem netsimOnlyUpto_holds : Rows.NetsimOnlyUptoSaid :=
  OpenClaim.holds_of_cond 5 Try.f5 rfl rfl rfl rfl rfl rfl rfl ⟨rfl, rfl, rfl, rfl, rfl⟩ rfl rfl rfl rfl rfl (by kernel_rfl) Try.func5 (by kernel_rfl)
    (of_decide_eq_true (by kernel_rfl)) (by unfold Func.isWrapper; rw [if_neg (by decide +kernel)]; exact ⟨rfl, rfl⟩)
    (fun os started H enc _ F => netsimOnly_lifted os started H enc F)
end Go.Proofs.Ytidnlnnobegniaa
