/- The law EprecovAccepted returns true for every input that can be read, and what it was handed reads as before. Condition: what it reads is of bulk at most 1048576. -/
import Derived.Test.YtbohgpdpglfepaaB4
import Derived.Test.YtbohgpdpglfepaaB2
import Derived.Test.YtbohgpdpglfepaaB1
import Derived.Test.YtbohgpdpglfepaaRows
import Derived.ProofKit
import Derived.SizedLaws
import Derived.JoinedCond
import Derived.Deep.CondSized
set_option linter.unusedVariables false
set_option linter.unusedSimpArgs false
namespace Go.Proofs.Ytbohgpdpglfepaa
open Go.AM Go.ChangeShapes Go.WideShapes Go.ChangeAt Go.RowKit

set_option maxRecDepth 100000 in
theorem eprecovAccepted_lifted (os : Os) (started : os.Started) (H : Type) (enc : TypeId × Value → H) (F : Stop.Interp) :
    ReturnsInHanded {} Try.checked os 19 .any ((Rows.OpenSpec.upto Rows.eprecovAcceptedSpec).pre6 enc Try.prog Try.f19 Rows.eprecovAcceptedUptoRow.domain false) (((Rows.OpenSpec.upto Rows.eprecovAcceptedSpec).at F).post enc Try.prog Try.f19 false true false false) := by
  refine returnsInHanded_of_cond_sized (C := Try.checked) (s := Rows.OpenSpec.upto Rows.eprecovAcceptedSpec) (k := Rows.uptoSmall) rfl Try.own started (by kernel_rfl) Try.func19
    (OpenSpec.witness (enc := enc) (C := Try.checked) (s := Rows.OpenSpec.upto Rows.eprecovAcceptedSpec) (k := Rows.uptoSmall) rfl false ⟨#[], #[.agg #[.int .i64 0, .int .i64 0, .int .i64 0, .string ⟨#[]⟩, .slice none 0 0, .int .i64 0, .slice none 0 0, .slice none 0 0, .slice none 0 0, .slice none 0 0, .bool false], .slice none 0 0, .agg #[.int .i64 0, .int .i64 0]], []⟩ 8 (by kernel_rfl) (by kernel_rfl) (by kernel_rfl) (x := ([.agg [.lit (.int .i64 0), .lit (.int .i64 0), .agg [.lit (.int .i64 0), .lit (.string []), .nil], .agg [.lit (.int .i64 0), .nil], .nil, .nil, .nil, .lit (.bool false)], .nil, .agg [.lit (.int .i64 0), .lit (.int .i64 0)]], [], [])) (by kernel_rfl) rfl (by kernel_rfl)) ?_
  intro W base args ds gs before hval0 hW hcnd hk hsz0 _
  have hval : ∀ (j : Nat) t v, Try.f19.params[j]? = some t → args[j]? = some v → Value.okWide Try.prog W .any base t v := hval0
  have hW' := hW
  obtain ⟨p, q, hA0, hV, rfl, hfz, hnd⟩ := hW
  have hA : DataW.TrodAll enc Try.prog W 0 (fun _ => true) true Try.f19.params.toList args.toList ds p := hA0
  have hsz : (DataW.weightsEach Try.prog (Try.f19.params.toList ++ (Rows.OpenSpec.upto Rows.eprecovAcceptedSpec).bare.plain.varTypes Try.prog) (ds ++ gs)).all (· ≤ reachBytes) = true := hsz0
  rw [Try.params19] at hA hval hsz
  obtain ⟨v0, v1, v2, d0, d1, d2, p0, p1, p2, rfl, rfl, rfl, h0, h1, h2⟩ := trodAll_three hA
  obtain ⟨rfl, rfl⟩ := trodVars_none hV
  obtain ⟨t0, f0, r0⟩ := arg_agg Try.underlying148 sh148 (hval 0 148 v0 rfl rfl) h0 (light_of hsz (j := 0) rfl rfl)
  obtain ⟨x1, f1, r1⟩ := arg_one Try.underlying36 (.inr (.inr (.inr ⟨_, rfl⟩))) sh36 (hval 1 36 v1 rfl rfl) h1 (light_of hsz (j := 1) rfl rfl)
  obtain ⟨t2, f2, r2⟩ := arg_agg Try.underlying23 sh23 (hval 2 23 v2 rfl rfl) h2 (light_of hsz (j := 2) rfl rfl)
  have hk1 : Rows.uptoBulkAll ([d0, d1, d2] ++ []) ≤ 1048576 := of_decide_eq_true hk
  simp only [List.append_nil, Rows.uptoBulkAll] at hk1
  obtain ⟨N, L, k, t, c, s, d, asked, loc, later, lead, rfl, hcl, hd, ha, hlo⟩ := fit_run f0
  obtain ⟨who, rfl, hw, _⟩ := fit_list (fit_one f1)
  obtain ⟨b1, b2, rfl⟩ := fit_agg2 f2
  have hls := later_small h0 r0
  have hr0 : reachBytes = 140737488351232 := rfl
  have hc := c19 N L k t c s d asked loc later lead who b1 b2 (by omega) (by omega) (by omega) (fun q hq => by have := hlo q hq; omega) (by omega) (by omega)
  refine (hc (heapOf W) W [v0, v1, v2] (fun b o h => h) (.cons r0 (.cons r1 (.cons r2 .nil)))).mono fun e W' h => ?_
  obtain ⟨v, G', rfl, hres, _, _, _, hg⟩ := h
  have hv : v = .bool true := hres.2.lit_inv
  subst hv
  exact ⟨_, rfl, post_true Try.laidOut (tb := 4) rfl Try.underlying4 rfl rfl rfl rfl (by intro t ht; rw [Try.params19] at ht; simp at ht; rcases ht with rfl | rfl | rfl <;> exact ⟨by kernel_rfl, Nat.le_of_ble_eq_true (by kernel_rfl)⟩) hW' hg⟩

theorem eprecovAcceptedUpto_holds : Rows.EprecovAcceptedUptoSaid :=
  OpenClaim.holds_of_cond 19 Try.f19 rfl rfl rfl rfl rfl rfl rfl ⟨rfl, rfl, rfl, rfl, rfl⟩ rfl rfl rfl rfl rfl (by kernel_rfl) Try.func19 (by kernel_rfl)
    (of_decide_eq_true (by kernel_rfl)) (by unfold Func.isWrapper; rw [if_neg (by decide +kernel)]; exact ⟨rfl, rfl⟩)
    (fun os started H enc _ F => eprecovAccepted_lifted os started H enc F)
end Go.Proofs.Ytbohgpdpglfepaa
