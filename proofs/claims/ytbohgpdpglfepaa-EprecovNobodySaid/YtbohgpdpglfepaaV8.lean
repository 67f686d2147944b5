import Derived.Test.YtbohgpdpglfepaaV1
import Derived.Test.YtbohgpdpglfepaaA20
set_option linter.unusedVariables false
namespace Go.Proofs.Ytbohgpdpglfepaa
open Go.AM Go.ChangeShapes Go.WideShapes Go.ChangeAt Go.RowKit
theorem sh116 : shOf Try.prog 8 116 = some [.int .i64, .int .i64, .sl [.int .i64, .int .i64, .int .i64, .int .i64, .int .i64, .int .i64, .int .i64, .int .i64, .int .i64, .str, .sl [.int .u8] 1, .int .i64, .sl [.int .i64] 8, .bool] 152, .int .i64, .int .i64] := by kernel_rfl
theorem fit_text {x : T} (h : Fit .str x) : ∃ b, x = .lit (.string b) := by
  cases h with
  | str b h => exact ⟨b, rfl⟩
theorem fit_rps {b : Nat} {x : T} (h : Fit (.sl [.int .i64, .int .i64, .int .i64, .int .i64, .int .i64, .int .i64, .int .i64, .int .i64, .int .i64, .str, .sl [.int .u8] 1, .int .i64, .sl [.int .i64] 8, .bool] b) x) : ∃ l : List RP, x = vRp l ∧ l.length * b ≤ reachBytes ∧ ∀ q, q ∈ l → q.x.ok := by
  obtain ⟨rows, rfl, h0, h1, h2⟩ := fit_rows h
  obtain ⟨xs, rfl, h3⟩ := rows_map (f := rpL) (p := fun q => q.x.ok) (rows := rows) fun row hr => by
    have h4 := h2 row hr
    match row, h4.1 with
    | [x0, x1, x2, x3, x4, x5, x6, x7, x8, x9, x10, x11, x12, x13], _ =>
      obtain ⟨a0, rfl, _⟩ := fit_num (h4.2 0 _ _ rfl rfl)
      obtain ⟨a1, rfl, _⟩ := fit_num (h4.2 1 _ _ rfl rfl)
      obtain ⟨a2, rfl, _⟩ := fit_num (h4.2 2 _ _ rfl rfl)
      obtain ⟨a3, rfl, _⟩ := fit_num (h4.2 3 _ _ rfl rfl)
      obtain ⟨a4, rfl, _⟩ := fit_num (h4.2 4 _ _ rfl rfl)
      obtain ⟨a5, rfl, _⟩ := fit_num (h4.2 5 _ _ rfl rfl)
      obtain ⟨a6, rfl, _⟩ := fit_num (h4.2 6 _ _ rfl rfl)
      obtain ⟨a7, rfl, _⟩ := fit_num (h4.2 7 _ _ rfl rfl)
      obtain ⟨a8, rfl, _⟩ := fit_num (h4.2 8 _ _ rfl rfl)
      obtain ⟨s, rfl⟩ := fit_text (h4.2 9 _ _ rfl rfl)
      obtain ⟨c, rfl, hc, _⟩ := fit_list (h4.2 10 _ _ rfl rfl)
      obtain ⟨a11, rfl, _⟩ := fit_num (h4.2 11 _ _ rfl rfl)
      obtain ⟨d, rfl, hd, _⟩ := fit_list (h4.2 12 _ _ rfl rfl)
      obtain ⟨m, rfl⟩ := fit_bool (h4.2 13 _ _ rfl rfl)
      have hr0 : reachBytes = 140737488351232 := rfl
      exact ⟨⟨a0, ⟨a1, a2, a3, a4, a5, a6, a7, a8, s, c, a11, d, m⟩⟩, rfl, ⟨by simp only; omega, by simp only; omega⟩⟩
  exact ⟨xs, rfl, by simpa using h1, h3⟩
theorem fit_turned {ts : List T} (h : FitsAll [.int .i64, .int .i64, .sl [.int .i64, .int .i64, .int .i64, .int .i64, .int .i64, .int .i64, .int .i64, .int .i64, .int .i64, .str, .sl [.int .u8] 1, .int .i64, .sl [.int .i64] 8, .bool] 152, .int .i64, .int .i64] ts) :
    ∃ (n leader b1 b2 : Int) (l : List RP), ts = [.lit (.int .i64 n), .lit (.int .i64 leader), vRp l, .lit (.int .i64 b1), .lit (.int .i64 b2)] ∧ l.length * 152 ≤ reachBytes ∧ ∀ q, q ∈ l → q.x.ok := by
  match ts, h.1 with
  | [x0, x1, x2, x3, x4], _ =>
    obtain ⟨a0, rfl, _⟩ := fit_num (h.2 0 _ _ rfl rfl)
    obtain ⟨a1, rfl, _⟩ := fit_num (h.2 1 _ _ rfl rfl)
    obtain ⟨l, rfl, hl, hx⟩ := fit_rps (h.2 2 _ _ rfl rfl)
    obtain ⟨a3, rfl, _⟩ := fit_num (h.2 3 _ _ rfl rfl)
    obtain ⟨a4, rfl, _⟩ := fit_num (h.2 4 _ _ rfl rfl)
    exact ⟨a0, a1, a3, a4, l, rfl, hl, hx⟩
theorem sh131 : shOf Try.prog 8 131 = some [.int .i64, .int .i64, .sl [.int .i64] 8, .int .i64, .int .i64, .str, .sl [.int .u8] 1, .int .i64, .sl [.int .i64] 8, .bool] := by kernel_rfl
theorem fit_lone {ts : List T} (h : FitsAll [.int .i64, .int .i64, .sl [.int .i64] 8, .int .i64, .int .i64, .str, .sl [.int .u8] 1, .int .i64, .sl [.int .i64] 8, .bool] ts) :
    ∃ (n leader known k : Int) (t : ByteArray) (c : List Int) (s : Int) (d : List Int) (same : Bool) (who : List Int), ts = [.lit (.int .i64 n), .lit (.int .i64 leader), vInts who, .lit (.int .i64 known), .lit (.int .i64 k), .lit (.string t), vBy c, .lit (.int .i64 s), vInts d, .lit (.bool same)] ∧ who.length * 8 ≤ reachBytes ∧ d.length * 8 ≤ reachBytes ∧ c.length * 1 ≤ reachBytes := by
  match ts, h.1 with
  | [x0, x1, x2, x3, x4, x5, x6, x7, x8, x9], _ =>
    obtain ⟨a0, rfl, _⟩ := fit_num (h.2 0 _ _ rfl rfl)
    obtain ⟨a1, rfl, _⟩ := fit_num (h.2 1 _ _ rfl rfl)
    obtain ⟨who, rfl, hw, _⟩ := fit_list (h.2 2 _ _ rfl rfl)
    obtain ⟨a3, rfl, _⟩ := fit_num (h.2 3 _ _ rfl rfl)
    obtain ⟨a4, rfl, _⟩ := fit_num (h.2 4 _ _ rfl rfl)
    obtain ⟨s, rfl⟩ := fit_text (h.2 5 _ _ rfl rfl)
    obtain ⟨c, rfl, hc, _⟩ := fit_list (h.2 6 _ _ rfl rfl)
    obtain ⟨a7, rfl, _⟩ := fit_num (h.2 7 _ _ rfl rfl)
    obtain ⟨d, rfl, hd, _⟩ := fit_list (h.2 8 _ _ rfl rfl)
    obtain ⟨m, rfl⟩ := fit_bool (h.2 9 _ _ rfl rfl)
    exact ⟨a0, a1, a3, a4, s, c, a7, d, m, who, rfl, hw, hd, hc⟩
end Go.Proofs.Ytbohgpdpglfepaa
