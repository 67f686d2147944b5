import Derived.Test.YtbohgpdpglfepaaV1
import Derived.Test.YtbohgpdpglfepaaB1
import Derived.Test.YtbohgpdpglfepaaB3
set_option linter.unusedVariables false
namespace Go.Proofs.Ytbohgpdpglfepaa
open Go.AM Go.ChangeShapes Go.WideShapes Go.ChangeAt Go.RowKit
theorem sh116 : shOf Try.prog 8 116 = some [.int .i64, .int .i64, .sl [.int .i64, .int .i64, .int .i64, .int .i64, .int .i64, .int .i64, .int .i64, .int .i64, .int .i64, .str, .sl [.int .u8] 1, .int .i64, .sl [.int .i64] 8, .bool] 152, .int .i64, .int .i64] := by kernel_rfl
theorem fit_text {x : T} (h : Fit .str x) : ∃ b, x = .lit (.string b) := by
  cases h with
  | str b h => exact ⟨b, rfl⟩
theorem fit_rps {b : Nat} {x : T} (h : Fit (.sl [.int .i64, .int .i64, .int .i64, .int .i64, .int .i64, .int .i64, .int .i64, .int .i64, .int .i64, .str, .sl [.int .u8] 1, .int .i64, .sl [.int .i64] 8, .bool] b) x) : ∃ l : List RP, x = vRp l ∧ l.length * b ≤ reachBytes ∧ ∀ q, q ∈ l → q.x.ok := by
  obtain ⟨rows, rfl, h0, h1, h2⟩ := fit_rows h
  obtain ⟨xs, rfl, h3⟩ := rows_map (f := rpL) (p := fun q => q.x.ok) (rows := rows) fun row hr => by
    have h4 := h2 row hr
    match row, h4.1 with
    | [x0, x1, x2, x3, x4, x5, x6, x7, x8, x9, x10, x11, x12, x13], _ =>
      obtain ⟨a0, rfl, _⟩ := fit_num (h4.2 0 _ _ rfl rfl)
      obtain ⟨a1, rfl, _⟩ := fit_num (h4.2 1 _ _ rfl rfl)
      obtain ⟨a2, rfl, _⟩ := fit_num (h4.2 2 _ _ rfl rfl)
      obtain ⟨a3, rfl, _⟩ := fit_num (h4.2 3 _ _ rfl rfl)
      obtain ⟨a4, rfl, _⟩ := fit_num (h4.2 4 _ _ rfl rfl)
      obtain ⟨a5, rfl, _⟩ := fit_num (h4.2 5 _ _ rfl rfl)
      obtain ⟨a6, rfl, _⟩ := fit_num (h4.2 6 _ _ rfl rfl)
      obtain ⟨a7, rfl, _⟩ := fit_num (h4.2 7 _ _ rfl rfl)
      obtain ⟨a8, rfl, _⟩ := fit_num (h4.2 8 _ _ rfl rfl)
      obtain ⟨s, rfl⟩ := fit_text (h4.2 9 _ _ rfl rfl)
      obtain ⟨c, rfl, hc, _⟩ := fit_list (h4.2 10 _ _ rfl rfl)
      obtain ⟨a11, rfl, _⟩ := fit_num (h4.2 11 _ _ rfl rfl)
      obtain ⟨d, rfl, hd, _⟩ := fit_list (h4.2 12 _ _ rfl rfl)
      obtain ⟨m, rfl⟩ := fit_bool (h4.2 13 _ _ rfl rfl)
      have hr0 : reachBytes = 140737488351232 := rfl
      exact ⟨⟨a0, ⟨a1, a2, a3, a4, a5, a6, a7, a8, s, c, a11, d, m⟩⟩, rfl, ⟨by simp only; omega, by simp only; omega⟩⟩
  exact ⟨xs, rfl, by simpa using h1, h3⟩
theorem fit_turned {ts : List T} (h : FitsAll [.int .i64, .int .i64, .sl [.int .i64, .int .i64, .int .i64, .int .i64, .int .i64, .int .i64, .int .i64, .int .i64, .int .i64, .str, .sl [.int .u8] 1, .int .i64, .sl [.int .i64] 8, .bool] 152, .int .i64, .int .i64] ts) :
    ∃ (n leader b1 b2 : Int) (l : List RP), ts = [.lit (.int .i64 n), .lit (.int .i64 leader), vRp l, .lit (.int .i64 b1), .lit (.int .i64 b2)] ∧ l.length * 152 ≤ reachBytes ∧ ∀ q, q ∈ l → q.x.ok := by
  match ts, h.1 with
  | [x0, x1, x2, x3, x4], _ =>
    obtain ⟨a0, rfl, _⟩ := fit_num (h.2 0 _ _ rfl rfl)
    obtain ⟨a1, rfl, _⟩ := fit_num (h.2 1 _ _ rfl rfl)
    obtain ⟨l, rfl, hl, hx⟩ := fit_rps (h.2 2 _ _ rfl rfl)
    obtain ⟨a3, rfl, _⟩ := fit_num (h.2 3 _ _ rfl rfl)
    obtain ⟨a4, rfl, _⟩ := fit_num (h.2 4 _ _ rfl rfl)
    exact ⟨a0, a1, a3, a4, l, rfl, hl, hx⟩
theorem sh131 : shOf Try.prog 8 131 = some [.int .i64, .int .i64, .sl [.int .i64] 8, .int .i64, .int .i64, .str, .sl [.int .u8] 1, .int .i64, .sl [.int .i64] 8, .bool] := by kernel_rfl
theorem fit_lone {ts : List T} (h : FitsAll [.int .i64, .int .i64, .sl [.int .i64] 8, .int .i64, .int .i64, .str, .sl [.int .u8] 1, .int .i64, .sl [.int .i64] 8, .bool] ts) :
    ∃ (n leader known k : Int) (t : ByteArray) (c : List Int) (s : Int) (d : List Int) (same : Bool) (who : List Int), ts = [.lit (.int .i64 n), .lit (.int .i64 leader), vInts who, .lit (.int .i64 known), .lit (.int .i64 k), .lit (.string t), vBy c, .lit (.int .i64 s), vInts d, .lit (.bool same)] ∧ who.length * 8 ≤ reachBytes ∧ d.length * 8 ≤ reachBytes ∧ c.length * 1 ≤ reachBytes := by
  match ts, h.1 with
  | [x0, x1, x2, x3, x4, x5, x6, x7, x8, x9], _ =>
    obtain ⟨a0, rfl, _⟩ := fit_num (h.2 0 _ _ rfl rfl)
    obtain ⟨a1, rfl, _⟩ := fit_num (h.2 1 _ _ rfl rfl)
    obtain ⟨who, rfl, hw, _⟩ := fit_list (h.2 2 _ _ rfl rfl)
    obtain ⟨a3, rfl, _⟩ := fit_num (h.2 3 _ _ rfl rfl)
    obtain ⟨a4, rfl, _⟩ := fit_num (h.2 4 _ _ rfl rfl)
    obtain ⟨s, rfl⟩ := fit_text (h.2 5 _ _ rfl rfl)
    obtain ⟨c, rfl, hc, _⟩ := fit_list (h.2 6 _ _ rfl rfl)
    obtain ⟨a7, rfl, _⟩ := fit_num (h.2 7 _ _ rfl rfl)
    obtain ⟨d, rfl, hd, _⟩ := fit_list (h.2 8 _ _ rfl rfl)
    obtain ⟨m, rfl⟩ := fit_bool (h.2 9 _ _ rfl rfl)
    exact ⟨a0, a1, a3, a4, s, c, a7, d, m, who, rfl, hw, hd, hc⟩
end Go.Proofs.Ytbohgpdpglfepaa
set_option linter.unusedVariables false
set_option linter.unusedSimpArgs false
namespace Go.Proofs.Ytbohgpdpglfepaa
open Go.AM Go.ChangeShapes Go.WideShapes Go.ChangeAt Go.RowKit
theorem sh148 : shOf Try.prog 8 148 = some [.int .i64, .int .i64, .int .i64, .str, .sl [.int .u8] 1, .int .i64, .sl [.int .i64] 8, .sl [.int .i64] 8, .sl [.int .i64, .sl [.int .i64] 8] 32, .sl [.int .i64] 8, .bool] := by kernel_rfl
theorem fit_run {ts : List T} (h : FitsAll [.int .i64, .int .i64, .int .i64, .str, .sl [.int .u8] 1, .int .i64, .sl [.int .i64] 8, .sl [.int .i64] 8, .sl [.int .i64, .sl [.int .i64] 8] 32, .sl [.int .i64] 8, .bool] ts) :
    ∃ (N L k : Int) (t : ByteArray) (c : List Int) (s : Int) (d asked : List Int) (loc : List At2) (later : List Int) (lead : Bool), ts = runL N L k t c s d asked loc later lead ∧ c.length * 1 ≤ reachBytes ∧ d.length * 8 ≤ reachBytes ∧ asked.length * 8 ≤ reachBytes ∧ (∀ q, q ∈ loc → q.2.length * 8 ≤ reachBytes) := by
  match ts, h.1 with
  | [x0, x1, x2, x3, x4, x5, x6, x7, x8, x9, x10], _ =>
    obtain ⟨a0, rfl, _⟩ := fit_num (h.2 0 _ _ rfl rfl)
    obtain ⟨a1, rfl, _⟩ := fit_num (h.2 1 _ _ rfl rfl)
    obtain ⟨a2, rfl, _⟩ := fit_num (h.2 2 _ _ rfl rfl)
    obtain ⟨t, rfl⟩ := fit_text (h.2 3 _ _ rfl rfl)
    obtain ⟨c, rfl, hc, _⟩ := fit_list (h.2 4 _ _ rfl rfl)
    obtain ⟨a5, rfl, _⟩ := fit_num (h.2 5 _ _ rfl rfl)
    obtain ⟨d, rfl, hd, _⟩ := fit_list (h.2 6 _ _ rfl rfl)
    obtain ⟨asked, rfl, ha, _⟩ := fit_list (h.2 7 _ _ rfl rfl)
    obtain ⟨loc, rfl, _, hl⟩ := fit_atts (h.2 8 _ _ rfl rfl)
    obtain ⟨later, rfl, hla, _⟩ := fit_list (h.2 9 _ _ rfl rfl)
    obtain ⟨m, rfl⟩ := fit_bool (h.2 10 _ _ rfl rfl)
    exact ⟨a0, a1, a2, t, c, a5, d, asked, loc, later, m, rfl, hc, hd, ha, hl⟩

/-! #### what the bound gives -/
theorem bulk_part {H : Type} {d : DataW H} : ∀ {l : List (DataW H)}, d ∈ l → Rows.uptoBulk d ≤ Rows.uptoBulkAll l
  | [], h => by simp at h
  | x :: r, h => by
    simp only [Rows.uptoBulkAll]
    rcases List.mem_cons.1 h with rfl | h
    · omega
    · have := bulk_part h; omega
theorem bulk_one {H : Type} (d : DataW H) : 1 ≤ Rows.uptoBulk d := by
  cases d with
  | lit l => cases l <;> simp [Rows.uptoBulk]
  | _ => simp [Rows.uptoBulk]
theorem bulk_len {H : Type} : ∀ l : List (DataW H), l.length ≤ Rows.uptoBulkAll l
  | [] => Nat.zero_le _
  | x :: r => by
    have := bulk_one x
    have := bulk_len r
    simp only [Rows.uptoBulkAll, List.length_cons]; omega

/-- A list in a struct's cell is no longer than the struct's bulk. -/
theorem cell_small {H : Type} {enc : TypeId × Value → H} {P : Program} {W : World} {b : Nat} {spare : Nat → Bool} {held : Bool} {t e : TypeId} {fs : Array Field} {v : Value} {d : DataW H} {ps : List MemPlace} {i : Nat} {f : Field} {A : Option Addr} {n c : Nat}
    (hu : P.underlying t = some (.struct fs)) (h : DataW.Trod enc P W b spare held t v d ps) (hf : fs[i]? = some f) (he : P.underlying f.type = some (.slice e)) (hc1 : P.cellsOf f.type = 1) (hv : v.cells.toList[f.offset]? = some (.slice A n c)) : n ≤ Rows.uptoBulk d := by
  obtain ⟨fuel, h⟩ := h
  obtain ⟨xs, m, _, hx, _, hxl, hff⟩ := DataW.trod_struct hu h
  have h1 := hff i f hf
  have hil : i < xs.length := by rw [hxl]; exact (Array.getElem?_eq_some_iff.1 hf).1
  rw [List.getElem?_eq_getElem hil, hc1] at h1
  have h2 : (v.cells.toList.drop f.offset).take 1 = [.slice A n c] := by
    obtain ⟨h3, h4⟩ := List.getElem?_eq_some_iff.1 hv
    rw [List.drop_eq_getElem_cons h3, h4]; rfl
  rw [h2] at h1
  have hd : d = .agg (xs.map (·.1)) := congrArg Prod.fst hx
  have hmem : (xs[i]).1 ∈ xs.map (·.1) := List.mem_map.2 ⟨_, List.getElem_mem _, rfl⟩
  have hp := bulk_part hmem
  rcases DataW.trod_slice he h1 with ⟨g1, _⟩ | ⟨a, len, cap, elems, rest, n', _, g1, g2, _, _, _, g3, _⟩
  · simp at g1
    omega
  · simp at g1
    have g4 : (xs[i]).1 = .slice (elems.map (·.1)) (rest.map (·.1)) := congrArg Prod.fst g2
    have g5 := bulk_len (elems.map (·.1))
    rw [g4] at hp
    simp only [Rows.uptoBulk, List.length_map] at hp g5
    rw [hd]
    simp only [Rows.uptoBulk]
    omega

theorem later_small {H : Type} {enc : TypeId × Value → H} {W : World} {b : Nat} {spare : Nat → Bool} {held : Bool} {v : Value} {d : DataW H} {ps : List MemPlace} {G : Heap} {N L k : Int} {t : ByteArray} {c : List Int} {s : Int} {dd asked : List Int} {loc : List At2} {later : List Int} {lead : Bool}
    (h : DataW.Trod enc Try.prog W b spare held 148 v d ps) (hr : V1Rep G noPlaces v (PV.agg (runL N L k t c s dd asked loc later lead)).up) : later.length ≤ Rows.uptoBulk d := by
  obtain ⟨vs, rfl, h2⟩ := hr
  obtain ⟨u, h3, h4⟩ := h2.get (i := 9) (b := .t (vInts later)) rfl
  have h5 : VRep G u (vInts later) := h4.2
  unfold vInts at h5
  obtain ⟨A, n, cp, rfl, hn⟩ : ∃ A n cp, u = .slice A n cp ∧ later.length = n := by
    cases h5 with
    | sl A n cp sz rows u hn hc hsz hA hcell hrec => exact ⟨A, n, cp, rfl, by simpa using hn⟩
  rw [hn]
  refine cell_small (A := A) (c := cp) (i := 6) Try.underlying148 h rfl Try.underlying36 (by kernel_rfl) ?_
  show vs.toArray.toList[9]? = _
  simpa using h3
end Go.Proofs.Ytbohgpdpglfepaa
