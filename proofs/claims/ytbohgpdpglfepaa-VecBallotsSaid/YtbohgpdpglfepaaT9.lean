import Derived.Test.YtbohgpdpglfepaaT7
import Derived.Test.YtbohgpdpglfepaaA19
import Derived.Test.YtbohgpdpglfepaaRows
import Derived.ProofKit
set_option linter.unusedVariables false
set_option linter.unusedSimpArgs false
namespace Go.Proofs.Ytbohgpdpglfepaa
open Go.AM Go.ChangeShapes Go.WideShapes Go.ChangeAt Go.RowKit

theorem Try.own : ownKnob Try.prog.godebug = none := by kernel_rfl
theorem Try.laidOut : laidOutB Try.prog = true := by kernel_rfl
theorem sh23 : shOf Try.prog 3 23 = some [.int .i64, .int .i64] := by kernel_rfl
theorem sh3 : shOf Try.prog 3 3 = some [.int .i64] := by kernel_rfl

theorem fit_int {ts : List T} {x : T} (h : FitsAll [.int .i64] [x]) : ∃ n, x = .lit (.int .i64 n) ∧ IntKind.i64.min ≤ n ∧ n ≤ IntKind.i64.max := by
  have := h.2 0 _ _ rfl rfl
  cases this with
  | int k n hn => exact ⟨n, rfl, hn⟩
theorem fit_bal {ts : List T} (h : FitsAll [.int .i64, .int .i64] ts) : ∃ a b, PV.agg ts = bal a b := by
  obtain ⟨hl, hf⟩ := h
  match ts, hl with
  | [x, y], _ =>
    have h1 := hf 0 _ _ rfl rfl
    have h2 := hf 1 _ _ rfl rfl
    cases h1 with
    | int k n hn => cases h2 with
      | int k n' hn' => exact ⟨n, n', rfl⟩

set_option maxRecDepth 100000 in
theorem vecBallots_lifted (os : Os) (started : os.Started) (H : Type) (enc : TypeId × Value → H) :
    ReturnsInHanded {} Try.checked os 3 .any (Rows.vecBallotsSpec.pre6 enc Try.prog Try.f3 Rows.vecBallotsRow.domain false) (Rows.vecBallotsSpec.post enc Try.prog Try.f3 false true false false) := by
  refine returnsInHanded_of_change (C := Try.checked) Try.own started (by kernel_rfl) Try.func3
    (ChangeSpec.witness6 (enc := enc) (C := Try.checked) false ⟨#[], #[.agg #[.int .i64 0, .int .i64 0], .agg #[.int .i64 0, .int .i64 0], .int .i64 0], []⟩ 8 (by kernel_rfl) (by kernel_rfl) (by kernel_rfl) (by kernel_rfl)) ?_
  intro W base args ds gs before hval0 hW hcnd _
  have hval : ∀ (j : Nat) t v, Try.f3.params[j]? = some t → args[j]? = some v → Value.okWide Try.prog W .any base t v := hval0
  have hW' := hW
  obtain ⟨p, q, hA0, hV, rfl, hfz, hnd⟩ := hW
  have hA : DataW.TrodAll enc Try.prog W 0 (fun _ => true) true Try.f3.params.toList args.toList ds p := hA0
  rw [Try.params3] at hA hval
  obtain ⟨v0, v1, v2, d0, d1, d2, p0, p1, p2, rfl, rfl, rfl, h0, h1, h2⟩ := trodAll_three hA
  obtain ⟨rfl, rfl⟩ := trodVars_none hV
  obtain ⟨t0, f0, r0⟩ := arg_agg Try.underlying23 sh23 (hval 0 23 v0 rfl rfl) h0
  obtain ⟨t1, f1, r1⟩ := arg_agg Try.underlying23 sh23 (hval 1 23 v1 rfl rfl) h1
  obtain ⟨x2, f2, r2⟩ := arg_one Try.underlying3 (.inr (.inl ⟨_, rfl⟩)) sh3 (hval 2 3 v2 rfl rfl) h2
  obtain ⟨a0, b0, e0⟩ := fit_bal f0
  obtain ⟨a1, b1, e1⟩ := fit_bal f1
  obtain ⟨n2, rfl, _⟩ := fit_int (ts := []) f2
  rw [e0] at r0
  rw [e1] at r1
  refine (c3 a0 b0 a1 b1 n2 (heapOf W) W [v0, v1, v2] (fun b o h => h) (.cons r0 (.cons r1 (.cons r2 .nil)))).mono fun e W' h => ?_
  obtain ⟨v, G', rfl, h1, _, _, _, hg⟩ := h
  have hv : v = .bool true := h1.2.lit_inv
  subst hv
  exact ⟨_, rfl, post_true Try.laidOut (tb := 4) rfl Try.underlying4 rfl rfl rfl rfl (by intro t ht; rw [Try.params3] at ht; simp at ht; rcases ht with rfl | rfl <;> exact ⟨by kernel_rfl, Nat.le_of_ble_eq_true (by kernel_rfl)⟩) hW' hg⟩

theorem vecBallots_holds : Rows.VecBallotsSaid :=
  OpenClaim.holds_of_wide 3 Try.f3 rfl rfl rfl rfl rfl rfl rfl ⟨rfl, rfl, rfl, rfl, rfl⟩ rfl rfl rfl rfl rfl (by kernel_rfl) Try.func3 (by kernel_rfl)
    (of_decide_eq_true (by kernel_rfl)) (by unfold Func.isWrapper; rw [if_neg (by decide +kernel)]; exact ⟨rfl, rfl⟩)
    (fun os started H enc _ => vecBallots_lifted os started H enc)
end Go.Proofs.Ytbohgpdpglfepaa
