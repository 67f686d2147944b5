import Derived.Test.YtidnlnnobegniaaN16
import Derived.Test.YtidnlnnobegniaaA20
set_option linter.unusedVariables false
set_option linter.unusedSimpArgs false
namespace Go.Proofs.Ytidnlnnobegniaa
open Go.AM Go.ChangeShapes Go.WideShapes Go.ChangeAt Go.RowKit

/-! #### a script's shape -/
theorem fit_op {ts : List T} (h : FitsAll [.int .i64, .int .i64, .int .i64, .int .i64, .sl [.sl [.int .u8] 1] 24, .sl [.int .i64] 8] ts) : ∃ o : OP, ts = opL o ∧ o.ok := by
  match ts, h.1 with
  | [x0, x1, x2, x3, x4, x5], _ =>
    obtain ⟨a0, rfl, _⟩ := fit_num (h.2 0 _ _ rfl rfl)
    obtain ⟨a1, rfl, _⟩ := fit_num (h.2 1 _ _ rfl rfl)
    obtain ⟨a2, rfl, _⟩ := fit_num (h.2 2 _ _ rfl rfl)
    obtain ⟨a3, rfl, _⟩ := fit_num (h.2 3 _ _ rfl rfl)
    obtain ⟨ms, rfl, hl, hb⟩ := fit_bytes (h.2 4 _ _ rfl rfl)
    obtain ⟨ns, rfl, hns, _⟩ := fit_list (h.2 5 _ _ rfl rfl)
    have hr0 : reachBytes = 140737488351232 := rfl
    exact ⟨⟨a0, a1, a2, a3, ms, ns⟩, rfl, by simp only; omega, fun m hm => by have := hb m hm; omega, by simp only; omega⟩
theorem fit_ops {x : T} (h : Fit (.sl [.int .i64, .int .i64, .int .i64, .int .i64, .sl [.sl [.int .u8] 1] 24, .sl [.int .i64] 8] 80) x) : ∃ ops : List OP, x = vOps ops ∧ ops.length * 80 ≤ reachBytes ∧ ∀ o, o ∈ ops → o.ok := by
  obtain ⟨rows, rfl, hl, h1, h2⟩ := fit_rows h
  obtain ⟨xs, rfl, h3⟩ := rows_map (f := opL) (p := OP.ok) (rows := rows) fun row hr => by
    obtain ⟨i, hi, rfl⟩ := List.getElem_of_mem hr
    have hi' := List.getElem?_eq_getElem hi
    exact fit_op (h2 _ hr)
  exact ⟨xs, rfl, by simpa using h1, h3⟩

end Go.Proofs.Ytidnlnnobegniaa
