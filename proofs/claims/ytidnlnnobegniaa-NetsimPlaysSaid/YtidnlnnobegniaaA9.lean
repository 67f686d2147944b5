import Derived.Test.YtidnlnnobegniaaA8
set_option linter.unusedVariables false
set_option linter.unusedSimpArgs false
namespace Go.AM
open Go.RowKit

variable {C : Ctx} {g : State} {o : Oper}

/-! #### what is put together out of parts -/
theorem fold_set (off : Nat) : ∀ (vs : List Value) (n : Nat) (cells : Array Value), off + n + vs.length ≤ cells.size →
    ((vs.zipIdx n).foldl (fun cs p => cs.setIfInBounds (off + p.2) p.1) cells).size = cells.size ∧
    ∀ k : Nat, ((vs.zipIdx n).foldl (fun cs p => cs.setIfInBounds (off + p.2) p.1) cells)[k]? = if off + n ≤ k ∧ k < off + n + vs.length then vs[k - (off + n)]? else cells[k]?
  | [], n, cells, h => ⟨rfl, fun k => by simp; omega⟩
  | v :: vs, n, cells, h => by
    simp only [List.length_cons] at h
    obtain ⟨h1, h2⟩ := fold_set off vs (n + 1) (cells.setIfInBounds (off + n) v) (by rw [Array.size_setIfInBounds]; omega)
    simp only [List.zipIdx_cons, List.foldl_cons]
    refine ⟨by rw [h1]; simp, fun k => ?_⟩
    rw [h2]
    simp only [List.length_cons]
    by_cases hk : k = off + n
    · subst hk
      rw [if_neg (by omega), if_pos (by omega)]
      simp only [Nat.sub_self, List.getElem?_cons_zero]
      rw [Array.getElem?_setIfInBounds_self_of_lt (by omega)]
    · by_cases hin : off + (n + 1) ≤ k ∧ k < off + (n + 1) + vs.length
      · rw [if_pos hin, if_pos (by omega)]
        rw [show k - (off + n) = (k - (off + (n + 1))) + 1 by omega]
        rfl
      · rw [if_neg hin, if_neg (by omega)]
        simp [Array.getElem?_setIfInBounds_ne (Ne.symm hk)]

theorem fold_set' (off : Nat) (v : Value) (cells : Array Value) (h : off + v.cells.size ≤ cells.size) :
    (v.cells.zipIdx.foldl (fun cs (x : Value × Nat) => cs.setIfInBounds (off + x.2) x.1) cells).size = cells.size ∧
    ∀ k : Nat, (v.cells.zipIdx.foldl (fun cs (x : Value × Nat) => cs.setIfInBounds (off + x.2) x.1) cells)[k]? = if off ≤ k ∧ k < off + v.cells.size then v.cells.toList[k - off]? else cells[k]? := by
  have := fold_set off v.cells.toList 0 cells (by simpa using h)
  rw [← Array.foldl_toList, Array.toList_zipIdx]
  simpa using this

def repl {α : Type} (xs : List α) (off : Nat) (ys : List α) : List α := xs.take off ++ ys ++ xs.drop (off + ys.length)

theorem repl_get {α : Type} (xs : List α) (off : Nat) (ys : List α) (h : off + ys.length ≤ xs.length) (k : Nat) : (repl xs off ys)[k]? = if off ≤ k ∧ k < off + ys.length then ys[k - off]? else xs[k]? := by
  unfold repl
  split
  · rw [List.getElem?_append_left (by simp; omega), List.getElem?_append_right (by simp; omega)]
    congr 1; simp; omega
  · by_cases h1 : k < off
    · rw [List.append_assoc, List.getElem?_append_left (by simp; omega), List.getElem?_take_of_lt h1]
    · rw [List.getElem?_append_right (by simp; omega), List.getElem?_drop]
      congr 1; simp; omega
theorem repl_length {α : Type} (xs : List α) (off : Nat) (ys : List α) (h : off + ys.length ≤ xs.length) : (repl xs off ys).length = xs.length := by simp [repl]; omega

/-- The parts' values, one by one. -/
inductive Parts (g : State) : List (Nat × Operand) → List (Nat × V1) → List (Loc × Cont) → Prop where
  | nil : Parts g [] [] []
  | cons {i x y ps ys rd} (h : ev g x = some (.v y)) (t : Parts g ps ys rd) : Parts g ((i, x) :: ps) ((i, y) :: ys) (evr g x ++ rd)

def parts (g : State) : List (Nat × Operand) → Option (List (Nat × V1) × List (Loc × Cont))
  | [] => some ([], [])
  | (i, x) :: ps => match ev g x with
    | some (.v y) => match parts g ps with
      | some (ys, rd) => some ((i, y) :: ys, evr g x ++ rd)
      | none => none
    | _ => none

theorem parts_of {g : State} : ∀ {ps : List (Nat × Operand)} {ys : List (Nat × V1)} {rd : List (Loc × Cont)}, parts g ps = some (ys, rd) → Parts g ps ys rd
  | [], ys, rd, h => by simp [parts] at h; obtain ⟨rfl, rfl⟩ := h; exact .nil
  | (i, x) :: ps, ys, rd, h => by
    simp only [parts] at h
    split at h
    · rename_i y hy
      split at h
      · rename_i ys' rd' h2
        simp at h
        obtain ⟨rfl, rfl⟩ := h
        exact .cons hy (parts_of h2)
      · simp at h
    · simp at h

/-- A struct out of its parts. -/
def fillAt (places : List (Nat × Nat)) : List At → List (Nat × V1) → Option (List At)
  | cs, [] => some cs
  | cs, (i, y) :: ys => match places[i]? with
    | some (off, size) => if y.cs.length = size ∧ off + size ≤ cs.length then fillAt places (repl cs off y.cs) ys else none
    | none => none

theorem fill_rep {G : Heap} {ρ : Places} {s : State} {a : Act} {w : World} (hrel : RelG C G ρ s a w) {places : List (Nat × Nat)} : ∀ {ps : List (Nat × Operand)} {ys : List (Nat × V1)} {rd : List (Loc × Cont)} {cs cs' : List At} {cells : Array Value},
    Parts g ps ys rd → Reads rd s → All2 (AtRep G ρ) cells.toList cs → fillAt places cs ys = some cs' → ∃ cells', Instr.fill (places[·]?) cells (ps.map fun p => (p.1, a.eval p.2)) = some cells' ∧ All2 (AtRep G ρ) cells'.toList cs'
  | _, _, _, cs, cs', cells, .nil, _, hc, h => by simp [fillAt] at h; subst h; exact ⟨cells, rfl, hc⟩
  | _, _, _, cs, cs', cells, .cons (i := i) (x := x) (y := y) hx ht, hr, hc, h => by
    obtain ⟨r1, r2⟩ := Reads.app.1 hr
    have h1 := V1Rep.cells (ev_rep hx r1 hrel)
    simp only [fillAt] at h
    split at h
    · rename_i off size hp
      split at h
      · rename_i hsz
        have hlen : (a.eval x).cells.size = y.cs.length := by have := h1.length; simpa using this
        have hcl : cells.size = cs.length := by have := hc.length; simpa using this
        obtain ⟨f1, f2⟩ := fold_set' off (a.eval x) cells (by omega)
        have hc' : All2 (AtRep G ρ) ((a.eval x).cells.zipIdx.foldl (fun cs (p : Value × Nat) => cs.setIfInBounds (off + p.2) p.1) cells).toList (repl cs off y.cs) := by
          refine All2.of_get (by rw [repl_length _ _ _ (by omega), Array.length_toList]; exact f1.trans hcl) fun k u c hu hk => ?_
          rw [Array.getElem?_toList, f2] at hu
          rw [repl_get _ _ _ (by omega)] at hk
          rw [hlen] at hu
          by_cases hin : off ≤ k ∧ k < off + y.cs.length
          · rw [if_pos hin] at hu hk
            obtain ⟨u', e1, e2⟩ := h1.get hk
            rw [hu] at e1; injection e1 with e1; rw [e1]; exact e2
          · rw [if_neg hin] at hu hk
            obtain ⟨u', e1, e2⟩ := hc.get hk
            rw [Array.getElem?_toList, hu] at e1; injection e1 with e1; rw [e1]; exact e2
        obtain ⟨cells', g1, g2⟩ := fill_rep hrel ht r2 hc' h
        refine ⟨cells', ?_, g2⟩
        simp only [List.map_cons, Instr.fill, hp]
        rw [if_neg (by simp; omega)]
        exact g1
      · simp at h
    · simp at h

theorem run_places {P : Program} : ∀ (fs : List Field) (w : World), (fs.all fun f => (P.info? f.type).isSome) = true →
    (fs.mapM (m := Sem) fun f => do pure (f.offset, ← sizeOf f.type)).run P w = .ok (fs.map fun f => (f.offset, P.cellsOf f.type)) w
  | [], w, _ => by simp
  | f :: fs, w, h => by
    simp only [List.all_cons, Bool.and_eq_true] at h
    obtain ⟨i, hi⟩ := Option.isSome_iff_exists.1 h.1
    have ih := run_places fs w h.2
    simp only [List.mapM_cons, Sem.run_bind, sizeOf, typeInfo, run_program, Result.andThen_ok, hi, Sem.run_pure] at ih ⊢
    rw [ih]
    simp [Program.cellsOf, hi]

theorem run_build {P : Program} {t : TypeId} {i : TInfo} {fs : List (Nat × TypeId)} (ht : tinfo P t = some i) (hk : i.k = .struct fs) (ps : Array (Nat × Value)) {cells : Array Value} (w : World)
    (h : Instr.fill (i.places[·]?) i.zero.toArray ps.toList = some cells) : (Instr.build t ps).run P w = .ok (.agg cells) w := by
  obtain ⟨inf, d, z, hs⟩ := tinfo_spec ht
  have hd := hs.k
  rw [hk] at hd
  cases d <;> simp [tkOf] at hd
  rename_i fields
  have h1 := run_places (P := P) fields.toList w (by have := hs.told; simpa [fieldsTold] using this)
  have h2 : (fields.mapM (m := Sem) fun f => do pure (f.offset, ← sizeOf f.type)).run P w = .ok (fields.toList.map fun f => (f.offset, P.cellsOf f.type)).toArray w := by
    rw [Array.mapM_eq_mapM_toList]
    simp only [Sem.run_map, h1, Result.andThen_ok]
  have hz : z.cells = i.zero.toArray := by rw [← hs.cells]
  have hp : i.places = fields.toList.map fun f => (f.offset, P.cellsOf f.type) := by rw [← hs.places]; rfl
  simp only [Instr.build, Sem.run_bind, hs.run_zero, hs.run_und, Result.andThen_ok, h2, hz]
  rw [hp] at h
  have : (fun (x : Nat) => (fields.toList.map fun f => (f.offset, P.cellsOf f.type)).toArray[x]?) = fun x => (fields.toList.map fun f => (f.offset, P.cellsOf f.type))[x]? := by
    funext x; simp
  rw [this, h]
  rfl

theorem ok_build {t : TypeId} {i : TInfo} {fs : List (Nat × TypeId)} {ps : Array (Nat × Operand)} {ys : List (Nat × V1)} {rd : List (Loc × Cont)} {cs : List At} (ho : o.op = .build t ps) (hd : dstOK C o.dst) (ht : tinfo C.P t = some i) (hk : i.k = .struct fs)
    (hp : parts g ps.toList = some (ys, rd)) (h1 : i.zero.all (·.oneCell') = true) (h : fillAt i.places (lits i.zero) ys = some cs) : OpOK C o ⟨rd, wrD o.dst (.v (.agg cs)), []⟩ :=
  opok_pure hd fun G ρ s a w hrel hr => by
    obtain ⟨cells, h2, h3⟩ := fill_rep hrel (parts_of hp) hr (cells := i.zero.toArray) (by simpa using lits_rep h1) h
    refine ⟨.agg cells, ?_, ⟨cells.toList, by simp, h3⟩⟩
    have := run_build (P := C.P) ht hk (ps.map fun p => (p.1, a.eval p.2)) (cells := cells) w (by simpa using h2)
    simp only [execOp, ho]
    simp [this]

/-- A slice out of its elements. -/
def fillRows (sz : Nat) : List (List T) → List (Nat × V1) → Option (List (List T))
  | rows, [] => some rows
  | rows, (i, y) :: ys => match y.cs.mapM (fun c => match c with | .t x => some x | _ => none) with
    | some ts => if ts.length = sz ∧ i < rows.length then fillRows sz (rows.set i ts) ys else none
    | none => none

theorem trees_of : ∀ {cs : List At} {ts : List T}, cs.mapM (fun c => match c with | .t x => some x | _ => none) = some ts → cs = trees ts
  | [], ts, h => by simp at h; subst h; rfl
  | c :: cs, ts, h => by
    simp only [List.mapM_cons] at h
    cases c with
    | t x =>
      simp only [Option.bind_eq_bind, Option.bind_some] at h
      cases h2 : cs.mapM (fun c => match c with | .t x => some x | _ => none) with
      | none => rw [h2] at h; simp at h
      | some ts' => rw [h2] at h; simp at h; subst h; rw [trees_of h2]; rfl
    | _ => simp at h

def RowsRep (G : Heap) (cur : Array Value) (sz : Nat) (rows : List (List T)) : Prop :=
  cur.size = rows.length * sz ∧ (∀ (i : Nat) cells, rows[i]? = some cells → cells.length = sz) ∧
  ∀ (i : Nat) cells (k : Nat) t, rows[i]? = some cells → cells[k]? = some t → ∃ u, cur[i * sz + k]? = some u ∧ u.oneCell' = true ∧ VRep G u t

theorem fillRows_rep {G : Heap} {ρ : Places} {s : State} {a : Act} {w : World} (hrel : RelG C G ρ s a w) {sz : Nat} : ∀ {ps : List (Nat × Operand)} {ys : List (Nat × V1)} {rd : List (Loc × Cont)} {rows rows' : List (List T)} {cells : Array Value},
    Parts g ps ys rd → Reads rd s → RowsRep G cells sz rows → fillRows sz rows ys = some rows' → ∃ cells', Instr.fill (fun i => some (i * sz, sz)) cells (ps.map fun p => (p.1, a.eval p.2)) = some cells' ∧ RowsRep G cells' sz rows' ∧ rows'.length = rows.length
  | _, _, _, rows, rows', cells, .nil, _, hc, h => by simp [fillRows] at h; subst h; exact ⟨cells, rfl, hc, rfl⟩
  | _, _, _, rows, rows', cells, .cons (i := i) (x := x) (y := y) hx ht, hr, hc, h => by
    obtain ⟨r1, r2⟩ := Reads.app.1 hr
    have h1 := V1Rep.cells (ev_rep hx r1 hrel)
    simp only [fillRows] at h
    split at h
    · rename_i ts hts
      split at h
      · rename_i hsz
        rw [trees_of hts] at h1
        have hlen : (a.eval x).cells.size = sz := by have := h1.length; simp [trees] at this; omega
        obtain ⟨c1, c2, c3⟩ := hc
        have hfit : i * sz + sz ≤ cells.size := by
          rw [c1]
          calc i * sz + sz = (i + 1) * sz := by rw [Nat.add_mul, Nat.one_mul]
            _ ≤ rows.length * sz := Nat.mul_le_mul_right _ hsz.2
        obtain ⟨f1, f2⟩ := fold_set' (i * sz) (a.eval x) cells (by omega)
        have hc' : RowsRep G ((a.eval x).cells.zipIdx.foldl (fun cs (p : Value × Nat) => cs.setIfInBounds (i * sz + p.2) p.1) cells) sz (rows.set i ts) := by
          refine ⟨by rw [f1, c1]; simp, ?_, ?_⟩
          · intro i2 cells2 h2
            rw [List.getElem?_set] at h2
            split at h2
            · simp at h2; obtain ⟨_, rfl⟩ := h2; exact hsz.1
            · exact c2 i2 cells2 h2
          · intro i2 cells2 k t h2 h3
            rw [f2, hlen]
            rw [List.getElem?_set] at h2
            by_cases he : i = i2
            · subst he
              rw [if_pos rfl, if_pos hsz.2] at h2
              simp at h2
              subst h2
              have hk : k < sz := by rw [← hsz.1]; exact (List.getElem?_eq_some_iff.1 h3).1
              rw [if_pos (by omega), show i * sz + k - i * sz = k by omega]
              obtain ⟨u, e1, e2⟩ := h1.get (i := k) (b := .t t) (by simp [trees, h3])
              exact ⟨u, e1, e2.1, e2.2⟩
            · rw [if_neg he] at h2
              have hk : k < sz := by rw [← c2 i2 cells2 h2]; exact (List.getElem?_eq_some_iff.1 h3).1
              rw [if_neg]
              · exact c3 i2 cells2 k t h2 h3
              · rintro ⟨q1, q2⟩
                rcases Nat.lt_or_gt_of_ne he with hlt | hlt
                · have := Nat.mul_le_mul_right sz (show i + 1 ≤ i2 by omega)
                  rw [Nat.add_mul, Nat.one_mul] at this
                  omega
                · have := Nat.mul_le_mul_right sz (show i2 + 1 ≤ i by omega)
                  rw [Nat.add_mul, Nat.one_mul] at this
                  omega
        obtain ⟨cells', g1, g2, g3⟩ := fillRows_rep hrel ht r2 hc' h
        refine ⟨cells', ?_, g2, by rw [g3]; simp⟩
        simp only [List.map_cons, Instr.fill]
        rw [if_neg (by simp; omega)]
        exact g1
      · simp at h
    · simp at h

theorem zero_rows {G : Heap} {P : Program} {e : TypeId} {j : TInfo} {inf : TypeInfo} {d : TypeDesc} {z : Value} (hs : TSpec P e j inf d z) (h1 : j.zero.all (·.oneCell') = true) (n : Nat) : RowsRep G (madeCells z.cells (n * j.size)) j.size (List.replicate n (j.zero.map .lit)) := by
  have hzl : j.zero.length = j.size := by rw [← hs.cells, Array.length_toList, hs.zsize]
  refine ⟨by rw [size_madeCells]; simp, ?_, ?_⟩
  · intro i' cells hi
    rw [List.getElem?_replicate] at hi
    split at hi
    · injection hi with hi; subst hi; simp [hzl]
    · simp at hi
  · intro i' cells k2 t2 hi hk2
    rw [List.getElem?_replicate] at hi
    split at hi
    · rename_i hlt
      injection hi with hi
      subst hi
      simp only [List.getElem?_map, Option.map_eq_some_iff] at hk2
      obtain ⟨u, hu, rfl⟩ := hk2
      have hkl : k2 < j.size := by rw [← hzl]; exact (List.getElem?_eq_some_iff.1 hu).1
      refine ⟨u, ?_, List.all_eq_true.1 h1 u (List.mem_of_getElem? hu), .lit u⟩
      rw [madeCells_at _ _ _ hs.zsize hlt hkl, ← hu, ← hs.cells]
      simp
    · simp at hi

theorem ok_buildSlice {t e : TypeId} {i j : TInfo} {n κ : Nat} {ps : Array (Nat × Operand)} {ys : List (Nat × V1)} {rd : List (Loc × Cont)} {rows : List (List T)} (ho : o.op = .buildSlice t n ps) (hd : dstOK C o.dst) (ht : tinfo C.P t = some i) (hk : i.k = .slice e) (hj : tinfo C.P e = some j)
    (hpos : 0 < j.size) (hsmall : n * j.size ≤ 16777216) (hp : parts g ps.toList = some (ys, rd)) (h1 : j.zero.all (·.oneCell') = true) (h : fillRows j.size (List.replicate n (j.zero.map .lit)) ys = some rows) :
    OpOK C o ⟨rd, [(.vec κ, some (.r j.size e rows))] ++ wrD o.dst (.v (.one (.row κ))), [κ]⟩ :=
  opok_val hd fun G ρ s a w hrel hr hf => by
    obtain ⟨inf, d, z, hs⟩ := tinfo_spec hj
    obtain ⟨cells, h2, h3, h4⟩ := fillRows_rep hrel (parts_of hp) hr (zero_rows hs h1 n) h
    simp only [List.length_replicate] at h4
    have hrun : (Instr.buildSlice t n (ps.map fun p => (p.1, a.eval p.2))).run C.P w = .ok (.slice (some ⟨w.heap.size, 0, none⟩) n n) { w with heap := w.heap.push (.cells cells e) } := by
      by_cases h0 : n * j.size = 0
      · have hn : n = 0 := by rcases Nat.mul_eq_zero.1 h0 with h | h; exact h; omega
        subst hn
        have e0 : madeCells z.cells (0 * j.size) = #[] := by rw [Nat.zero_mul]; simp [madeCells, Array.range_zero']
        rw [e0] at h2
        simp only [Instr.buildSlice, Sem.run_bind, run_underlying (und_slice ht hk), hs.run_size, Result.andThen_ok]
        simp only [Nat.zero_mul, if_true]
        have e1 : ¬ (0 > 2 ^ 24) := by omega
        simp only [e1, if_false, Sem.run_pure, Sem.run_bind, Result.andThen_ok]
        have e2 : (Array.range 0).map (fun x => (#[] : Array Value)[x % (#[] : Array Value).size]!) = #[] := by simp [Array.range_zero']
        simp only [e2]
        have e3 : (ps.map fun p => (p.1, a.eval p.2)).toList = ps.toList.map fun p => (p.1, a.eval p.2) := by simp
        rw [e3, h2]
        simp [newRow]
      · exact run_buildSlice (P := C.P) w t e n _ cells inf z (und_slice ht hk) hs.info hs.zero (by rw [hs.size]; omega) (by rw [hs.size]; exact h0) (by
          rw [hs.size]
          have e3 : (ps.map fun p => (p.1, a.eval p.2)).toList = ps.toList.map fun p => (p.1, a.eval p.2) := by simp
          rw [e3]; exact h2)
    have hv : VecRep G { w with heap := w.heap.push (.cells cells e) } (.slice (some ⟨w.heap.size, 0, none⟩) n n) j.size e rows := by
      obtain ⟨c1, c2, c3⟩ := h3
      exact new_row h4 (Nat.le_refl _) (by
        have : n ≤ n * j.size := Nat.le_mul_of_pos_right n hpos
        simp only [maxLen]; omega) (by rw [c1, h4]) c2 c3
    have hex : (execOp a.eval o).run C.P w = .ok (.value (.slice (some ⟨w.heap.size, 0, none⟩) n n)) { w with heap := w.heap.push (.cells cells e) } := by
      simp only [execOp, ho]
      simp [hrun]
    exact ⟨_, _, G, setAt ρ κ _, hex, hrel.newVec (hf κ (by simp)) (Grew.push w _) hv (fun b hb => by simp [blk] at hb; omega), ⟨rfl, (setAt_same _ _ _).symm, ⟨_, _, _, setAt_same _ _ _⟩⟩⟩

end Go.AM
