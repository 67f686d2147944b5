import Derived.Test.YtidnlnnobegniaaA4
set_option linter.unusedVariables false
set_option linter.unusedSimpArgs false
namespace Go.AM
open Go.RowKit

/-! ### 12. Operations on memory -/
variable {C : Ctx} {g : State} {o : Oper}

def lits (vs : List Value) : List At := vs.map fun v => .t (.lit v)
theorem lits_rep {G : Heap} {ρ : Places} : ∀ {vs : List Value}, (vs.all (·.oneCell')) = true → All2 (AtRep G ρ) vs (lits vs)
  | [], _ => .nil
  | v :: vs, h => by
    simp only [List.all_cons, Bool.and_eq_true] at h
    exact .cons ⟨h.1, .lit v⟩ (lits_rep h.2)
theorem lits_keys {vs : List Value} {y : At} (h : y ∈ lits vs) (κ : Nat) : κ ∉ y.keys := by
  simp only [lits, List.mem_map] at h
  obtain ⟨v, _, rfl⟩ := h
  simp [At.keys]

/-- A variable of zero cells. -/
theorem ok_alloc {t : TypeId} {i : TInfo} {κ : Nat} (ho : o.op = .alloc t) (hd : dstOK C o.dst) (ht : tinfo C.P t = some i) (h1 : i.zero.all (·.oneCell') = true) :
    OpOK C o ⟨[], mkVar κ 0 (lits i.zero) ++ wrD o.dst (.v (.one (.ptr κ 0))), [κ]⟩ :=
  opok_val hd fun G ρ s a w hrel hr hf => by
    obtain ⟨inf, d, z, hs⟩ := tinfo_spec ht
    have hz : z.cells = i.zero.toArray := by rw [← hs.cells]
    refine ⟨.pointer (some ⟨w.heap.size, 0, none⟩), { w with heap := w.heap.push (.cells z.cells t) }, G, setAt ρ κ (.pointer (some ⟨w.heap.size, 0, none⟩)), ?_, ?_, ⟨rfl, w.heap.size, setAt_same _ _ _, rfl⟩⟩
    · simp [execOp, ho, Instr.alloc, hs.run_zero, newVar, newRow]
    · rw [hz]
      exact hrel.newVar (hf κ (by simp)) (lits_rep h1) (fun y hy => lits_keys hy κ) t

/-- A variable that holds a value. -/
theorem ok_box {t : TypeId} {x : Operand} {y : V1} {κ : Nat} (ho : o.op = .box t x) (hd : dstOK C o.dst) (hx : ev g x = some (.v y)) (hκ : ∀ c, c ∈ y.cs → κ ∉ c.keys) :
    OpOK C o ⟨evr g x, mkVar κ 0 y.cs ++ wrD o.dst (.v (.one (.ptr κ 0))), [κ]⟩ :=
  opok_val hd fun G ρ s a w hrel hr hf => by
    have h1 := ev_rep hx hr hrel
    have h2 := V1Rep.cells h1
    refine ⟨.pointer (some ⟨w.heap.size, 0, none⟩), { w with heap := w.heap.push (.cells (a.eval x).cells t) }, G, setAt ρ κ (.pointer (some ⟨w.heap.size, 0, none⟩)), ?_, ?_, ⟨rfl, w.heap.size, setAt_same _ _ _, rfl⟩⟩
    · simp [execOp, ho, Instr.box, newVar, newRow]
    · have := hrel.newVar (hf κ (by simp)) h2 hκ t
      simpa using this

/-! #### loads -/
def takeC (g : State) (κ : Nat) : Nat → Nat → Option (List At)
  | _, 0 => some []
  | off, n + 1 => match g (.cell κ off) with
    | some (.c y) => (takeC g κ (off + 1) n).map (y :: ·)
    | _ => none

def cellsR (κ : Nat) : Nat → List At → List (Loc × Cont)
  | _, [] => []
  | off, y :: ys => (.cell κ off, .c y) :: cellsR κ (off + 1) ys

theorem takeC_reads {g : State} {κ : Nat} : ∀ {n off : Nat} {ys : List At}, takeC g κ off n = some ys → Reads (cellsR κ off ys) g ∧ ys.length = n
  | 0, off, ys, h => by simp [takeC] at h; subst h; exact ⟨Reads.nil, rfl⟩
  | n + 1, off, ys, h => by
    simp only [takeC] at h
    split at h
    · rename_i y hy
      cases h2 : takeC g κ (off + 1) n with
      | none => rw [h2] at h; simp at h
      | some zs =>
        rw [h2] at h
        simp at h
        subst h
        obtain ⟨h3, h4⟩ := takeC_reads h2
        exact ⟨Reads.cons.2 ⟨hy, h3⟩, by simp [h4]⟩
    · simp at h

theorem cellsR_at {s : State} {κ : Nat} : ∀ {ys : List At} {off : Nat}, Reads (cellsR κ off ys) s → ∀ j, j < ys.length → ∃ c, s (.cell κ (off + j)) = some c
  | [], off, h, j, hj => by simp at hj
  | y :: ys, off, h, j, hj => by
    obtain ⟨h1, h2⟩ := Reads.cons.1 h
    cases j with
    | zero => exact ⟨_, h1⟩
    | succ j =>
      obtain ⟨c, hc⟩ := cellsR_at h2 j (by simpa using hj)
      exact ⟨c, by rwa [show off + (j + 1) = off + 1 + j by omega]⟩

theorem cells_there {G : Heap} {ρ : Places} {s : State} {a : Act} {w : World} (hrel : RelG C G ρ s a w) {κ b : Nat} (hb : ρ κ = .pointer (some ⟨b, 0, none⟩)) :
    ∀ {ys : List At} {off : Nat}, Reads (cellsR κ off ys) s → ys ≠ [] → ∃ cur e vs, w.heap[b]? = some (.cells cur e (0, 0)) ∧ All2 (AtRep G ρ) vs ys ∧ (∀ (j : Nat) v, vs[j]? = some v → cur[off + j]? = some v) ∧ off + ys.length ≤ cur.size
  | [y], off, h, _ => by
    obtain ⟨h1, h2⟩ := Reads.cons.1 h
    obtain ⟨y', b', u, cur, e, e1, e2, e3, e4, e5⟩ := hrel.cell κ off _ h1
    injection e1 with e1
    subst e1
    rw [hb] at e2
    simp at e2
    subst e2
    have : off < cur.size := (Array.getElem?_eq_some_iff.1 e4).1
    refine ⟨cur, e, [u], e3, .cons e5 .nil, ?_, by simp; omega⟩
    intro j v hj
    cases j with
    | zero => simp at hj; subst hj; simpa using e4
    | succ j => simp at hj
  | y :: y2 :: ys, off, h, _ => by
    obtain ⟨h1, h2⟩ := Reads.cons.1 h
    obtain ⟨cur, e, vs, f1, f2, f3, f4⟩ := cells_there hrel hb (ys := y2 :: ys) (off := off + 1) h2 (by simp)
    obtain ⟨y', b', u, cur', e', e1, e2, e3, e4, e5⟩ := hrel.cell κ off _ h1
    injection e1 with e1
    subst e1
    rw [hb] at e2
    simp at e2
    subst e2
    rw [f1] at e3
    injection e3 with e3
    injection e3 with e3 _
    subst e3
    refine ⟨cur, e, u :: vs, f1, .cons e5 f2, ?_, by simp at f4 ⊢; omega⟩
    intro j v hj
    cases j with
    | zero => simp at hj; subst hj; simpa using e4
    | succ j => have := f3 j v (by simpa using hj); rwa [show off + (j + 1) = off + 1 + j by omega]

theorem ok_load_var {t : TypeId} {i : TInfo} {x : Operand} {κ off : Nat} {ys : List At} {y : V1} (ho : o.op = .load t x) (hd : dstOK C o.dst) (ht : tinfo C.P t = some i) (hx : evp g x = some (.v (.one (.ptr κ off))))
    (hlen : ys.length = i.size) (hne : ys ≠ []) (hy : mkV i.agg ys = some y) : OpOK C o ⟨evr g x ++ cellsR κ off ys, wrD o.dst (.v y), []⟩ :=
  opok_pure hd fun G ρ s a w hrel hr => by
    obtain ⟨r1, r2⟩ := Reads.app.1 hr
    obtain ⟨_, b, e1, e2⟩ := evp_rep hx r1 hrel
    obtain ⟨cur, e, vs, f1, f2, f3, f4⟩ := cells_there hrel e1 r2 hne
    obtain ⟨h1, h2⟩ := mkV_rep hy f2
    have := run_loadVar ht w ⟨b, off, none⟩ vs (by rw [f2.length, hlen]) h2 fun j v hj => by
      rw [Addr.add_lit]
      simp [World.cell?, f1, f3 j v hj]
    exact ⟨_, by simp [execOp, ho, e2, Instr.loadAt, Instr.sureAddr, this], h1⟩

def trees (cs : List T) : List At := cs.map .t

theorem ok_load_tree {t : TypeId} {i : TInfo} {x : Operand} {cs : List T} {y : V1} (ho : o.op = .load t x) (hd : dstOK C o.dst) (ht : tinfo C.P t = some i) (hx : evp g x = some (.v (.one (.tptr cs))))
    (hlen : (cs.take i.size).length = i.size) (hy : mkV i.agg (trees (cs.take i.size)) = some y) : OpOK C o ⟨evr g x, wrD o.dst (.v y), []⟩ :=
  opok_pure hd fun G ρ s a w hrel hr => by
    obtain ⟨_, ad, e2, hc⟩ := evp_rep hx hr hrel
    have : ∃ vs, All2 (AtRep G ρ) vs (trees (cs.take i.size)) ∧ ∀ (j : Nat) v, vs[j]? = some v → w.cell? (ad.add j) = some v := by
      have key : ∀ (cs' : List T) (k : Nat), (∀ (j : Nat) t, cs'[j]? = some t → cs[k + j]? = some t) → ∃ vs, All2 (AtRep G ρ) vs (trees cs') ∧ ∀ (j : Nat) v, vs[j]? = some v → w.cell? (ad.add (k + j)) = some v := by
        intro cs'
        induction cs' with
        | nil => intro k _; exact ⟨[], .nil, by simp⟩
        | cons t cs' ih =>
          intro k hk
          obtain ⟨vs, h1, h2⟩ := ih (k + 1) fun j t hj => by have := hk (j + 1) t (by simpa using hj); rwa [show k + 1 + j = k + (j + 1) by omega]
          obtain ⟨u, h3, h4, h5⟩ := hc k t (by simpa using hk 0 t rfl)
          refine ⟨u :: vs, .cons ⟨h4, h5⟩ h1, fun j v hj => ?_⟩
          cases j with
          | zero => simp at hj; subst hj; exact gcell_cell hrel.gle h3
          | succ j => have := h2 j v (by simpa using hj); rwa [show k + (j + 1) = k + 1 + j by omega]
      obtain ⟨vs, h1, h2⟩ := key (cs.take i.size) 0 fun j t hj => by
        rw [List.getElem?_take] at hj
        split at hj
        · simpa using hj
        · simp at hj
      exact ⟨vs, h1, fun j v hj => by simpa using h2 j v hj⟩
    obtain ⟨vs, h1, h2⟩ := this
    obtain ⟨h3, h4⟩ := mkV_rep hy h1
    have := run_loadVar ht w ad vs (by rw [h1.length, ← hlen]; simp [trees]) h4 h2
    exact ⟨_, by simp [execOp, ho, e2, Instr.loadAt, Instr.sureAddr, this], h3⟩

/-- The cells of an element of a row. -/
theorem vec_cells {G : Heap} {w : World} {v : Value} {sz : Nat} {e : TypeId} {rows : List (List T)} (h : VecRep G w v sz e rows) {ρ : Places} {i : Nat} {cells : List T} (hi : rows[i]? = some cells) :
    ∃ b c cur vs, v = .slice (some ⟨b, 0, none⟩) rows.length c ∧ w.heap[b]? = some (.cells cur e (0, 0)) ∧ All2 (AtRep G ρ) vs (trees cells) ∧ (∀ (j : Nat) u, vs[j]? = some u → cur[i * sz + j]? = some u) ∧ i * sz + sz ≤ cur.size ∧ vs.length = sz := by
  obtain ⟨h0, xs, h1, h2⟩ := h
  have hlt : i < rows.length := (List.getElem?_eq_some_iff.1 hi).1
  rcases h1.2 with ⟨_, hn⟩ | ⟨b, c, cur, rfl, _, hb, hnc, _, hsz, htk⟩
  · omega
  · have hlen := h0 i cells hi
    have key : ∀ (cs' : List T) (k : Nat), (∀ (j : Nat) t, cs'[j]? = some t → cells[k + j]? = some t) → ∃ vs, All2 (AtRep G ρ) vs (trees cs') ∧ ∀ (j : Nat) u, vs[j]? = some u → cur[i * sz + (k + j)]? = some u := by
      intro cs'
      induction cs' with
      | nil => intro k _; exact ⟨[], .nil, by simp⟩
      | cons t cs' ih =>
        intro k hk
        obtain ⟨vs, g1, g2⟩ := ih (k + 1) fun j t hj => by have := hk (j + 1) t (by simpa using hj); rwa [show k + 1 + j = k + (j + 1) by omega]
        have hkt : cells[k]? = some t := by simpa using hk 0 t rfl
        obtain ⟨u, g3, g4, g5⟩ := h2 i cells k t hi hkt
        refine ⟨u :: vs, .cons ⟨g4, g5⟩ g1, fun j v hj => ?_⟩
        cases j with
        | zero =>
          simp at hj; subst hj
          rw [← htk, List.getElem?_take] at g3
          split at g3
          · simpa using g3
          · simp at g3
        | succ j => have := g2 j v (by simpa using hj); rwa [show k + (j + 1) = k + 1 + j by omega]
    obtain ⟨vs, g1, g2⟩ := key cells 0 fun j t hj => by simpa using hj
    refine ⟨b, c, cur, vs, rfl, hb, g1, fun j u hj => by simpa using g2 j u hj, ?_, ?_⟩
    · rw [hsz]
      calc i * sz + sz = (i + 1) * sz := by rw [Nat.add_mul, Nat.one_mul]
        _ ≤ c * sz := Nat.mul_le_mul_right _ (by omega)
    · rw [g1.length]; simp [trees, hlen]

theorem ok_load_vec {t e : TypeId} {i : TInfo} {x : Operand} {κ sz ix k : Nat} {rows : List (List T)} {cells : List T} {y : V1} (ho : o.op = .load t x) (hd : dstOK C o.dst) (ht : tinfo C.P t = some i) (hx : evp g x = some (.v (.one (.vptr κ sz ix k))))
    (hi : rows[ix]? = some cells) (hlen : ((cells.drop k).take i.size).length = i.size) (hy : mkV i.agg (trees ((cells.drop k).take i.size)) = some y) :
    OpOK C o ⟨evr g x ++ [(.vec κ, .r sz e rows)], wrD o.dst (.v y), []⟩ :=
  opok_pure hd fun G ρ s a w hrel hr => by
    obtain ⟨r1, r2⟩ := Reads.app.1 hr
    have r2 := (Reads.cons.1 r2).1
    obtain ⟨_, b, n, c, e1, e2⟩ := evp_rep hx r1 hrel
    obtain ⟨sz', e', rows', h1, h2⟩ := hrel.vecr r2
    injection h1 with h1 h1' h1''
    subst h1; subst h1'; subst h1''
    obtain ⟨b', c', cur, vs, f1, f2, f3, f4, f5, f6⟩ := vec_cells h2 (ρ := ρ) hi
    rw [e1] at f1
    simp at f1
    obtain ⟨rfl, _, _⟩ := f1
    have h3 : All2 (AtRep G ρ) ((vs.drop k).take i.size) (trees ((cells.drop k).take i.size)) := by
      have := (f3.drop k).take i.size
      simpa [trees, List.map_drop, List.map_take] using this
    obtain ⟨h4, h5⟩ := mkV_rep hy h3
    have := run_loadVar ht w ⟨b, ix * sz + k, none⟩ ((vs.drop k).take i.size) (by rw [h3.length, ← hlen]; simp [trees]) h5 fun j v hj => by
      rw [Addr.add_lit]
      rw [List.getElem?_take] at hj
      split at hj
      · rw [List.getElem?_drop] at hj
        have := f4 _ v hj
        simp [World.cell?, f2, Nat.add_assoc, this]
      · simp at hj
    exact ⟨_, by simp [execOp, ho, e2, Instr.loadAt, Instr.sureAddr, this], h4⟩

/-! #### stores -/
def cellsW (κ : Nat) : Nat → List At → List (Loc × Option Cont)
  | _, [] => []
  | off, y :: ys => (.cell κ off, some (.c y)) :: cellsW κ (off + 1) ys

theorem cellsW_key {κ : Nat} : ∀ {ys : List At} {off : Nat} {l : Loc}, l ∈ (cellsW κ off ys).map (·.1) → ∃ j, j < ys.length ∧ l = .cell κ (off + j)
  | [], off, l, h => by simp [cellsW] at h
  | y :: ys, off, l, h => by
    simp only [cellsW, List.map_cons, List.mem_cons] at h
    rcases h with rfl | h
    · exact ⟨0, by simp, rfl⟩
    · obtain ⟨j, hj, rfl⟩ := cellsW_key h
      exact ⟨j + 1, by simp; omega, by rw [show off + 1 + j = off + (j + 1) by omega]⟩

theorem cellsW_at {κ : Nat} : ∀ {ys : List At} {off : Nat} (s : State) (j : Nat) (y : At), ys[j]? = some y → applys s (cellsW κ off ys) (.cell κ (off + j)) = some (.c y)
  | [], off, s, j, y, h => by simp at h
  | y0 :: ys, off, s, j, y, h => by
    rw [cellsW, applys_cons]
    cases j with
    | zero =>
      simp at h
      subst h
      rw [applys_other]
      · simp [upd]
      · intro hm
        obtain ⟨j', _, he⟩ := cellsW_key hm
        simp at he
        omega
    | succ j =>
      have := cellsW_at (κ := κ) (off := off + 1) (upd s (.cell κ off) (some (.c y0))) j y (by simpa using h)
      rwa [show off + (j + 1) = off + 1 + j by omega]

theorem ok_store_var {t : TypeId} {i : TInfo} {x z : Operand} {κ off : Nat} {old : List At} {y : V1} (ho : o.op = .store t x z) (hd : o.dst = none) (ht : tinfo C.P t = some i) (hx : ev g x = some (.v (.one (.ptr κ off)))) (hz : ev g z = some (.v y))
    (hlen : old.length = i.size) (hyl : y.cs.length = i.size) (hne : old ≠ []) : OpOK C o ⟨evr g x ++ evr g z ++ cellsR κ off old, cellsW κ off y.cs, []⟩ :=
  opok_skip hd fun G ρ s a w hrel hr hf => by
    obtain ⟨r12, r3⟩ := Reads.app.1 hr
    obtain ⟨r1, r2⟩ := Reads.app.1 r12
    obtain ⟨_, b, e1, e2⟩ := ev_rep hx r1 hrel
    have h1 := V1Rep.cells (ev_rep hz r2 hrel)
    obtain ⟨cur, e, vs, f1, f2, f3, f4⟩ := cells_there hrel e1 r3 hne
    have hcl : (a.eval z).cells.toList.length = i.size := by rw [h1.length, hyl]
    have hcs : (a.eval z).cells.size = i.size := by simpa using hcl
    have hst := run_storeVar ht w b off (a.eval z) e cur f1 hcs (by rw [hcs, ← hlen]; exact f4) (All2.one h1)
    have hrun : (execOp a.eval o).run C.P w = .ok .skip (w.setRow b (cur.toList.take off ++ (a.eval z).cells.toList ++ cur.toList.drop (off + (a.eval z).cells.size)).toArray) := by
      simp only [execOp, ho, e2, Instr.storeAt, Instr.sureAddr, Sem.run_bind, Sem.run_pure, Result.andThen_ok, hst]
    refine ⟨_, G, ρ, hrun, ?_⟩
    obtain ⟨y0, ys0, rfl⟩ : ∃ y0 ys0, old = y0 :: ys0 := by cases old with | nil => exact absurd rfl hne | cons y0 ys0 => exact ⟨y0, ys0, rfl⟩
    have hl0 : s (.cell κ off) = some (.c y0) := (Reads.cons.1 r3).1
    refine hrel.write (κ := κ) (b := b) ⟨_, _, hl0, rfl⟩ (by rw [e1]; rfl) f1 (fun l hl => applys_other s fun hm => by
      obtain ⟨j, _, rfl⟩ := cellsW_key hm
      exact hl rfl) (fun l c hk hl => by
        by_cases hin : l ∈ (cellsW κ off y.cs).map (·.1)
        · obtain ⟨j, hj, rfl⟩ := cellsW_key hin
          exact cellsR_at r3 j (by omega)
        · rw [applys_other s hin] at hl; exact ⟨c, hl⟩)
      (by
        have hsz : (a.eval z).cells.toList.length = i.size := hcl
        have h4 : off + i.size ≤ cur.size := by rw [← hlen]; exact f4
        rw [List.size_toArray, List.length_append, List.length_append, hsz, List.length_take, List.length_drop, hcs]
        simp only [Array.length_toList]
        omega)
      (fun k => by
        by_cases hin : off ≤ k ∧ k < off + i.size
        · obtain ⟨c, hc⟩ := cellsR_at r3 (k - off) (by omega)
          exact .inr ⟨_, c, hc, .inl (by rw [show off + (k - off) = k by omega])⟩
        · left
          have : off ≤ cur.size := by simp at f4; omega
          simp only [List.getElem?_toArray]
          by_cases hk1 : k < off
          · rw [List.append_assoc, List.getElem?_append_left (by simp; omega), List.getElem?_take_of_lt hk1]
            simp
          · have h5 : off + i.size ≤ k := by omega
            rw [List.getElem?_append_right (by simp; omega), List.getElem?_drop]
            have e3 : off + (a.eval z).cells.size + (k - (List.take off cur.toList ++ (a.eval z).cells.toList).length) = k := by simp; omega
            rw [e3]
            simp) ?_ ?_
    · intro k x hk
      by_cases hin : off ≤ k ∧ k < off + i.size
      · obtain ⟨j, rfl⟩ : ∃ j, k = off + j := ⟨k - off, by omega⟩
        have hj : j < y.cs.length := by omega
        have hyj : y.cs[j]? = some y.cs[j] := List.getElem?_eq_getElem hj
        rw [cellsW_at s j _ hyj] at hk
        injection hk with hk
        subst hk
        obtain ⟨u, hu, hrep⟩ := h1.get hyj
        refine ⟨_, u, rfl, e1, ?_, hrep⟩
        have : off ≤ cur.size := by simp at f4; omega
        simp only [List.getElem?_toArray]
        rw [List.getElem?_append_left (by simp; omega), List.getElem?_append_right (by simp; omega)]
        have e3 : off + j - (List.take off cur.toList).length = j := by simp; omega
        rw [e3]; exact hu
      · rw [applys_other] at hk
        · obtain ⟨y', b', u, c, e', g1, g2, g3, g4, g5⟩ := hrel.cell κ k x hk
          rw [e1] at g2
          simp at g2
          subst g2
          rw [f1] at g3
          injection g3 with g3
          injection g3 with g3 _
          subst g3
          refine ⟨y', u, g1, e1, ?_, g5⟩
          simp only [List.getElem?_toArray]
          have hks : k < cur.size := (Array.getElem?_eq_some_iff.1 g4).1
          by_cases hk1 : k < off
          · rw [List.append_assoc, List.getElem?_append_left (by simp; omega), List.getElem?_take_of_lt hk1]
            simpa using g4
          · have h5 : off + i.size ≤ k := by omega
            rw [List.getElem?_append_right (by simp; omega), List.getElem?_drop]
            have e3 : off + (a.eval z).cells.size + (k - (List.take off cur.toList ++ (a.eval z).cells.toList).length) = k := by simp; omega
            rw [e3]
            simpa using g4
        · intro hm
          obtain ⟨j, hj, he⟩ := cellsW_key hm
          simp only [Loc.cell.injEq, true_and] at he
          omega
    · intro x hx
      rw [applys_other] at hx
      · exact absurd e1 ((hrel.vec κ x hx).nptr _)
      · intro hm
        obtain ⟨j, _, he⟩ := cellsW_key hm
        simp at he

end Go.AM
