import Derived.Test.YtbohgpdpglfepaaU12
import Derived.Test.YtbohgpdpglfepaaA20
set_option linter.unusedVariables false
namespace Go.Proofs.Ytbohgpdpglfepaa
open Go.AM Go.ChangeShapes Go.WideShapes Go.ChangeAt Go.RowKit
theorem fit_tally {S : Sh} {ts : List T} (h : FitsAll [.int .i64, .int .i64, .int .i64, .sl [.int .i64] 8, .bool, S] ts) : ∃ (n me s : Int) (d : List Int) (b : Bool) (l : T), ts = [.lit (.int .i64 n), .lit (.int .i64 me), .lit (.int .i64 s), vInts d, .lit (.bool b), l] ∧ d.length * 8 ≤ reachBytes := by
  match ts, h.1 with
  | [x0, x1, x2, x3, x4, x5], _ =>
    obtain ⟨n, rfl, _⟩ := fit_num (h.2 0 _ _ rfl rfl)
    obtain ⟨me, rfl, _⟩ := fit_num (h.2 1 _ _ rfl rfl)
    obtain ⟨s, rfl, _⟩ := fit_num (h.2 2 _ _ rfl rfl)
    obtain ⟨d, rfl, hd, _⟩ := fit_list (h.2 3 _ _ rfl rfl)
    obtain ⟨b, rfl⟩ := fit_bool (h.2 4 _ _ rfl rfl)
    exact ⟨n, me, s, d, b, x5, rfl, hd⟩
theorem fit_ans {b : Nat} {x : T} (h : Fit (.sl [.int .i64, .int .i64, .sl [.int .i64] 8, .bool] b) x) : ∃ ans : List AN, x = .sl 4 (ans.map vAn) ∧ ans.length * b ≤ reachBytes ∧ ∀ a, a ∈ ans → a.d.length * 8 ≤ reachBytes := by
  obtain ⟨rows, rfl, _, h1, h2⟩ := fit_rows h
  obtain ⟨xs, rfl, h3⟩ := rows_map (f := vAn) (p := fun a => a.d.length * 8 ≤ reachBytes) (rows := rows) fun row hr => by
    have h4 := h2 row hr
    match row, h4.1 with
    | [x, y, z, w], _ =>
      obtain ⟨f, rfl, _⟩ := fit_num (h4.2 0 _ _ rfl rfl)
      obtain ⟨s, rfl, _⟩ := fit_num (h4.2 1 _ _ rfl rfl)
      obtain ⟨d, rfl, hd, _⟩ := fit_list (h4.2 2 _ _ rfl rfl)
      obtain ⟨m, rfl⟩ := fit_bool (h4.2 3 _ _ rfl rfl)
      exact ⟨⟨f, s, d, m⟩, rfl, hd⟩
  exact ⟨xs, rfl, by simpa using h1, h3⟩
end Go.Proofs.Ytbohgpdpglfepaa
