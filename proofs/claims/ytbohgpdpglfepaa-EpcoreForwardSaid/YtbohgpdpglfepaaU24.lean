import Derived.Test.YtbohgpdpglfepaaU19
import Derived.Test.YtbohgpdpglfepaaA20
set_option linter.unusedVariables false
namespace Go.Proofs.Ytbohgpdpglfepaa
open Go.AM Go.ChangeShapes Go.WideShapes Go.ChangeAt Go.RowKit
theorem sh53 : shOf Try.prog 3 53 = some [.int .i64, .int .i64] := by kernel_rfl
theorem sh137 : shOf Try.prog 6 137 = some [.sl [.int .i64, .int .i64, .int .i64, .int .i64, .str, .sl [.int .u8] 1, .int .i64, .sl [.int .i64] 8, .int .i64, .sl [.int .i64] 8] 136] := by kernel_rfl
theorem fit_str {x : T} (h : Fit .str x) : ∃ b, x = .lit (.string b) := by
  cases h with
  | str b h => exact ⟨b, rfl⟩
theorem fit_asks {b : Nat} {x : T} (h : Fit (.sl [.int .i64, .int .i64, .int .i64, .int .i64, .str, .sl [.int .u8] 1, .int .i64, .sl [.int .i64] 8, .int .i64, .sl [.int .i64] 8] b) x) : ∃ asks : List AK, x = .sl 10 (asks.map av) ∧ asks.length ≤ maxLen ∧ asks.length * b ≤ reachBytes ∧ ∀ a, a ∈ asks → a.ok := by
  obtain ⟨rows, rfl, h0, h1, h2⟩ := fit_rows h
  obtain ⟨xs, rfl, h3⟩ := rows_map (f := av) (p := fun a => a.ok) (rows := rows) fun row hr => by
    have h4 := h2 row hr
    match row, h4.1 with
    | [x0, x1, x2, x3, x4, x5, x6, x7, x8, x9], _ =>
      obtain ⟨w, rfl, _⟩ := fit_num (h4.2 0 _ _ rfl rfl)
      obtain ⟨b1, rfl, _⟩ := fit_num (h4.2 1 _ _ rfl rfl)
      obtain ⟨b2, rfl, _⟩ := fit_num (h4.2 2 _ _ rfl rfl)
      obtain ⟨k, rfl, _⟩ := fit_num (h4.2 3 _ _ rfl rfl)
      obtain ⟨s, rfl⟩ := fit_str (h4.2 4 _ _ rfl rfl)
      obtain ⟨c, rfl, hc, _⟩ := fit_list (h4.2 5 _ _ rfl rfl)
      obtain ⟨s1, rfl, _⟩ := fit_num (h4.2 6 _ _ rfl rfl)
      obtain ⟨d1, rfl, hd1, _⟩ := fit_list (h4.2 7 _ _ rfl rfl)
      obtain ⟨s2, rfl, _⟩ := fit_num (h4.2 8 _ _ rfl rfl)
      obtain ⟨d2, rfl, hd2, _⟩ := fit_list (h4.2 9 _ _ rfl rfl)
      have hr0 : reachBytes = 140737488351232 := rfl
      exact ⟨⟨w, b1, b2, k, s, c, s1, d1, s2, d2⟩, rfl, ⟨by simp only; omega, by simp only; omega, by simp only; omega⟩⟩
  exact ⟨xs, rfl, by simpa using h0, by simpa using h1, h3⟩
end Go.Proofs.Ytbohgpdpglfepaa
