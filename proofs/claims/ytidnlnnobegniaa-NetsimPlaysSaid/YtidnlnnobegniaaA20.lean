import Derived.Test.YtidnlnnobegniaaTy
import Derived.Test.YtidnlnnobegniaaA19
import Derived.Test.YtidnlnnobegniaaRows
import Derived.ProofKit
import Derived.SizedLaws
set_option linter.unusedVariables false
set_option linter.unusedSimpArgs false
namespace Go.Proofs.Ytidnlnnobegniaa
open Go.AM Go.ChangeShapes Go.WideShapes Go.ChangeAt Go.RowKit

theorem Try.own : ownKnob Try.prog.godebug = none := by kernel_rfl
theorem Try.laidOut : laidOutB Try.prog = true := by kernel_rfl
theorem sh3 : shOf Try.prog 3 3 = some [.int .i64] := by kernel_rfl
theorem sh22 : shOf Try.prog 5 22 = some [.sl [.sl [.int .u8] 1] 24] := by kernel_rfl
theorem sh39 : shOf Try.prog 7 39 = some [.sl [.int .i64, .int .i64, .int .i64, .int .i64, .sl [.sl [.int .u8] 1] 24, .sl [.int .i64] 8] 80] := by kernel_rfl

theorem fit_one {s : Sh} {x : T} (h : FitsAll [s] [x]) : Fit s x := h.2 0 _ _ rfl rfl
theorem fit_num {k : IntKind} {x : T} (h : Fit (.int k) x) : ∃ n, x = .lit (.int k n) ∧ k.min ≤ n ∧ n ≤ k.max := by
  cases h with
  | int k n hn => exact ⟨n, rfl, hn⟩
theorem fit_int {ts : List T} {x : T} (h : FitsAll [.int .i64] [x]) : ∃ n, x = .lit (.int .i64 n) ∧ IntKind.i64.min ≤ n ∧ n ≤ IntKind.i64.max := fit_num (fit_one h)
theorem fit_bool {x : T} (h : Fit .bool x) : ∃ b, x = .lit (.bool b) := by
  cases h with
  | bool b => exact ⟨b, rfl⟩
/-- Rows of one cell each. -/
theorem fit_rows {es : List Sh} {b : Nat} {x : T} (h : Fit (.sl es b) x) : ∃ rows, x = .sl es.length rows ∧ rows.length ≤ maxLen ∧ rows.length * b ≤ reachBytes ∧ ∀ row, row ∈ rows → FitsAll es row := by
  cases h with
  | sl es b rows h1 h2 h3 h4 =>
    refine ⟨rows, rfl, h1, h2, fun row hr => ?_⟩
    obtain ⟨i, hi⟩ := List.mem_iff_getElem?.1 hr
    exact ⟨h3 i row hi, h4 i row hi⟩
/-- Each row is made of one thing: the list of the things. -/
theorem rows_map {α : Type} {f : α → List T} {p : α → Prop} : ∀ {rows : List (List T)}, (∀ row, row ∈ rows → ∃ a, row = f a ∧ p a) → ∃ xs : List α, rows = xs.map f ∧ ∀ a, a ∈ xs → p a
  | [], _ => ⟨[], rfl, by simp⟩
  | r :: rows, h => by
    obtain ⟨a, e, hp⟩ := h r (by simp)
    obtain ⟨xs, e2, h2⟩ := rows_map (f := f) (p := p) (rows := rows) fun row hr => h row (by simp [hr])
    exact ⟨a :: xs, by rw [e, e2]; rfl, by simpa using ⟨hp, h2⟩⟩

theorem fit_list {k : IntKind} {b : Nat} {x : T} (h : Fit (.sl [.int k] b) x) : ∃ xs : List Int, x = .sl 1 (xs.map fun n => [.lit (.int k n)]) ∧ xs.length * b ≤ reachBytes ∧ ∀ n, n ∈ xs → k.min ≤ n ∧ n ≤ k.max := by
  obtain ⟨rows, rfl, _, h1, h2⟩ := fit_rows h
  obtain ⟨xs, rfl, h3⟩ := rows_map (f := fun n => [.lit (.int k n)]) (p := fun n => k.min ≤ n ∧ n ≤ k.max) (rows := rows) fun row hr => by
    have h4 := h2 row hr
    match row, h4.1 with
    | [y], _ =>
      obtain ⟨n, rfl, hn⟩ := fit_num (fit_one h4)
      exact ⟨n, rfl, hn⟩
  exact ⟨xs, rfl, by simpa using h1, h3⟩
theorem fit_lists {b b' : Nat} {x : T} (h : Fit (.sl [.sl [.int .i64] b] b') x) : ∃ vs : List (List Int), x = .sl 1 (vs.map fun v => [.sl 1 (v.map fun n => [.lit (.int .i64 n)])]) ∧ vs.length * b' ≤ reachBytes ∧ ∀ v, v ∈ vs → v.length * b ≤ reachBytes := by
  obtain ⟨rows, rfl, _, h1, h2⟩ := fit_rows h
  obtain ⟨xs, rfl, h3⟩ := rows_map (f := fun v : List Int => [.sl 1 (v.map fun n => [.lit (.int .i64 n)])]) (p := fun v => v.length * b ≤ reachBytes) (rows := rows) fun row hr => by
    have h4 := h2 row hr
    match row, h4.1 with
    | [y], _ =>
      obtain ⟨n, rfl, hn, _⟩ := fit_list (fit_one h4)
      exact ⟨n, rfl, hn⟩
  exact ⟨xs, rfl, by simpa using h1, h3⟩
theorem fit_bytes {b b' : Nat} {x : T} (h : Fit (.sl [.sl [.int .u8] b] b') x) : ∃ vs : List (List Int), x = .sl 1 (vs.map fun v => [.sl 1 (v.map fun n => [.lit (.int .u8 n)])]) ∧ vs.length * b' ≤ reachBytes ∧ ∀ v, v ∈ vs → v.length * b ≤ reachBytes := by
  obtain ⟨rows, rfl, _, h1, h2⟩ := fit_rows h
  obtain ⟨xs, rfl, h3⟩ := rows_map (f := fun v : List Int => [.sl 1 (v.map fun n => [.lit (.int .u8 n)])]) (p := fun v => v.length * b ≤ reachBytes) (rows := rows) fun row hr => by
    have h4 := h2 row hr
    match row, h4.1 with
    | [y], _ =>
      obtain ⟨n, rfl, hn, _⟩ := fit_list (fit_one h4)
      exact ⟨n, rfl, hn⟩
  exact ⟨xs, rfl, by simpa using h1, h3⟩
end Go.Proofs.Ytidnlnnobegniaa
