import Derived.Test.YtidnlnnobegniaaN17
import Derived.Test.YtidnlnnobegniaaA20
import Derived.Test.YtidnlnnobegniaaRows
set_option linter.unusedVariables false
set_option linter.unusedSimpArgs false
namespace Go.Proofs.Ytidnlnnobegniaa
open Go.AM Go.ChangeShapes Go.WideShapes Go.ChangeAt Go.RowKit

/-! #### a script's shape -/
theorem fit_op {ts : List T} (h : FitsAll [.int .i64, .int .i64, .int .i64, .int .i64, .sl [.sl [.int .u8] 1] 24, .sl [.int .i64] 8] ts) : ∃ o : OP, ts = opL o ∧ o.ok := by
  match ts, h.1 with
  | [x0, x1, x2, x3, x4, x5], _ =>
    obtain ⟨a0, rfl, _⟩ := fit_num (h.2 0 _ _ rfl rfl)
    obtain ⟨a1, rfl, _⟩ := fit_num (h.2 1 _ _ rfl rfl)
    obtain ⟨a2, rfl, _⟩ := fit_num (h.2 2 _ _ rfl rfl)
    obtain ⟨a3, rfl, _⟩ := fit_num (h.2 3 _ _ rfl rfl)
    obtain ⟨ms, rfl, hl, hb⟩ := fit_bytes (h.2 4 _ _ rfl rfl)
    obtain ⟨ns, rfl, hns, _⟩ := fit_list (h.2 5 _ _ rfl rfl)
    have hr0 : reachBytes = 140737488351232 := rfl
    exact ⟨⟨a0, a1, a2, a3, ms, ns⟩, rfl, by simp only; omega, fun m hm => by have := hb m hm; omega, by simp only; omega⟩
theorem fit_ops {x : T} (h : Fit (.sl [.int .i64, .int .i64, .int .i64, .int .i64, .sl [.sl [.int .u8] 1] 24, .sl [.int .i64] 8] 80) x) : ∃ ops : List OP, x = vOps ops ∧ ops.length * 80 ≤ reachBytes ∧ ∀ o, o ∈ ops → o.ok := by
  obtain ⟨rows, rfl, hl, h1, h2⟩ := fit_rows h
  obtain ⟨xs, rfl, h3⟩ := rows_map (f := opL) (p := OP.ok) (rows := rows) fun row hr => by
    obtain ⟨i, hi, rfl⟩ := List.getElem_of_mem hr
    have hi' := List.getElem?_eq_getElem hi
    exact fit_op (h2 _ hr)
  exact ⟨xs, rfl, by simpa using h1, h3⟩

/-! #### what the bound gives -/
theorem bulk_part {H : Type} {d : DataW H} : ∀ {l : List (DataW H)}, d ∈ l → Rows.uptoBulk d ≤ Rows.uptoBulkAll l
  | [], h => by simp at h
  | x :: r, h => by
    simp only [Rows.uptoBulkAll]
    rcases List.mem_cons.1 h with rfl | h
    · omega
    · have := bulk_part h; omega
theorem bulk_one {H : Type} (d : DataW H) : 1 ≤ Rows.uptoBulk d := by
  cases d with
  | lit l => cases l <;> simp [Rows.uptoBulk]
  | _ => simp [Rows.uptoBulk]
theorem bulk_len {H : Type} : ∀ l : List (DataW H), l.length ≤ Rows.uptoBulkAll l
  | [] => Nat.zero_le _
  | x :: r => by
    have := bulk_one x
    have := bulk_len r
    simp only [Rows.uptoBulkAll, List.length_cons]; omega

/-- A list in a struct's cell is no longer than the struct's bulk. -/
theorem cells_small {H : Type} {enc : TypeId × Value → H} {P : Program} {W : World} {b fuel : Nat} {spare : Nat → Bool} {held : Bool} {t e : TypeId} {fs : Array Field} {cs : List Value} {x : DataW H × List MemPlace} {i : Nat} {f : Field} {A : Option Addr} {n c : Nat}
    (hu : P.underlying t = some (.struct fs)) (h : DataW.trod enc P W b spare held fuel t cs = some x) (hf : fs[i]? = some f) (he : P.underlying f.type = some (.slice e)) (hc1 : P.cellsOf f.type = 1) (hv : cs[f.offset]? = some (.slice A n c)) : n ≤ Rows.uptoBulk x.1 := by
  obtain ⟨xs, m, _, hx, _, hxl, hff⟩ := DataW.trod_struct hu h
  have h1 := hff i f hf
  have hil : i < xs.length := by rw [hxl]; exact (Array.getElem?_eq_some_iff.1 hf).1
  rw [List.getElem?_eq_getElem hil, hc1] at h1
  have h2 : (cs.drop f.offset).take 1 = [.slice A n c] := by
    obtain ⟨h3, h4⟩ := List.getElem?_eq_some_iff.1 hv
    rw [List.drop_eq_getElem_cons h3, h4]; rfl
  rw [h2] at h1
  have hd : x.1 = .agg (xs.map (·.1)) := by rw [hx]
  have hmem : (xs[i]).1 ∈ xs.map (·.1) := List.mem_map.2 ⟨_, List.getElem_mem _, rfl⟩
  have hp := bulk_part hmem
  rcases DataW.trod_slice he h1 with ⟨g1, _⟩ | ⟨a, len, cap, elems, rest, n', _, g1, g2, _, _, _, g3, _⟩
  · simp at g1
    omega
  · simp at g1
    have g4 : (xs[i]).1 = .slice (elems.map (·.1)) (rest.map (·.1)) := congrArg Prod.fst g2
    have g5 := bulk_len (elems.map (·.1))
    rw [g4] at hp
    simp only [Rows.uptoBulk, List.length_map] at hp g5
    rw [hd]
    simp only [Rows.uptoBulk]
    omega

theorem sum_small {H X : Type} : ∀ (ops : List OP) (es : List (DataW H × X)), ops.length = es.length → (∀ (i : Nat) o e, ops[i]? = some o → es[i]? = some e → o.ms.length ≤ Rows.uptoBulk e.1) → nMs ops ≤ Rows.uptoBulkAll (es.map (·.1))
  | [], [], _, _ => Nat.zero_le _
  | o :: ops, e :: es, hl, h => by
    have h0 := h 0 o e rfl rfl
    have ih := sum_small ops es (by simpa using hl) fun i o e h1 h2 => h (i + 1) o e (by simpa using h1) (by simpa using h2)
    simp only [nMs, List.map_cons, List.foldr_cons, Rows.uptoBulkAll] at ih ⊢
    omega
  | [], _ :: _, hl, _ => by simp at hl
  | _ :: _, [], hl, _ => by simp at hl

theorem ops_small {H : Type} {enc : TypeId × Value → H} {W : World} {b : Nat} {spare : Nat → Bool} {held : Bool} {v : Value} {d : DataW H} {ps : List MemPlace} {ops : List OP}
    (h : DataW.Trod enc Try.prog W b spare held 39 v d ps) (hr : V1Rep (heapOf W) noPlaces v (PV.one (vOps ops)).up) : nMs ops ≤ Rows.uptoBulk d := by
  obtain ⟨fuel, h⟩ := h
  have h5 : VRep (heapOf W) v (.sl 6 (ops.map opL)) := hr.2
  cases h5 with
  | sl A n cp sz rows u hn hc hsz hA hcell hrec =>
    rw [cells_one rfl] at h
    have hul : Try.prog.underlying 39 = some (.slice 43) := Try.underlying39
    rcases DataW.trod_slice hul h with ⟨g1, _⟩ | ⟨a, len, cap, elems, rest, n', _, g1, g2, _, _, _, g3, g4, _⟩
    · simp at g1
      rw [g1.2.1] at hn
      simp at hn
      subst hn
      exact Nat.zero_le _
    · simp at g1
      obtain ⟨rfl, rfl, rfl⟩ := g1
      simp only [Prod.mk.injEq] at g2
      rw [g2.1]
      have hs : nMs ops ≤ Rows.uptoBulkAll (elems.map (·.1)) := by
        refine sum_small ops elems (by rw [g3]; simpa using hn) fun i o e ho he => ?_
        have hi : i < elems.length := (List.getElem?_eq_some_iff.1 he).1
        have h6 := g4 i (by omega)
        rw [he] at h6
        simp only [Option.bind_eq_some_iff] at h6
        obtain ⟨cs, h7, h8⟩ := h6
        obtain ⟨_, _, h9⟩ := World.cells?_some h7
        have hrow : (ops.map opL)[i]? = some (opL o) := by rw [List.getElem?_map, ho]; rfl
        have hr4 := hrec i (opL o) 4 (vvBy o.ms) hrow rfl
        have hc4 := (hcell a rfl i 4 (by omega) (by omega)).1
        have h10 := h9 4 (by show 4 < Try.prog.cellsOf 43; rw [show Try.prog.cellsOf 43 = 6 by kernel_rfl]; omega)
        rw [show Try.prog.cellsOf 43 = 6 by kernel_rfl] at h10
        have h11 : cs[4]? = some (u i 4) := h10.symm.trans hc4
        generalize u i 4 = w at hr4 h11
        unfold vvBy at hr4
        obtain ⟨A, n, cp, rfl, hn⟩ : ∃ A n cp, w = .slice A n cp ∧ o.ms.length = n := by
          cases hr4 with
          | sl A n cp sz rows u hn hc hsz hA hcell hrec => exact ⟨A, n, cp, rfl, by simpa using hn⟩
        rw [hn]
        exact cells_small (i := 4) Try.underlying43 h8 rfl Try.underlying22 (by kernel_rfl) h11
      simp only [Rows.uptoBulk]
      omega
end Go.Proofs.Ytidnlnnobegniaa
