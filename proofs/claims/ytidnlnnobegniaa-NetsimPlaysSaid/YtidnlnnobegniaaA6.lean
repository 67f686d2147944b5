import Derived.Test.YtidnlnnobegniaaA5
set_option linter.unusedVariables false
set_option linter.unusedSimpArgs false
namespace Go.AM
open Go.RowKit

variable {C : Ctx} {g : State} {o : Oper}

/-! #### elements -/
theorem und_slice {P : Program} {t e : TypeId} {i : TInfo} (ht : tinfo P t = some i) (hk : i.k = .slice e) : P.underlying t = some (.slice e) := by
  obtain ⟨_, d, _, hs⟩ := tinfo_spec ht
  have h1 := hs.k
  have h2 := hs.und
  rw [hk] at h1
  cases d <;> simp [tkOf] at h1
  subst h1
  exact h2

theorem und_array {P : Program} {t e : TypeId} {n : Nat} {i : TInfo} (ht : tinfo P t = some i) (hk : i.k = .array n e) : P.underlying t = some (.array n e) := by
  obtain ⟨_, d, _, hs⟩ := tinfo_spec ht
  have h1 := hs.k
  have h2 := hs.und
  rw [hk] at h1
  cases d <;> simp [tkOf] at h1
  obtain ⟨rfl, rfl⟩ := h1
  exact h2

theorem run_indexAt_slice {P : Program} {t e : TypeId} {i j : TInfo} (ht : tinfo P t = some i) (hk : i.k = .slice e) (hj : tinfo P e = some j) (ad : Addr) (n c : Nat) (k : IntKind) (ix : Int) (h0 : 0 ≤ ix) (h1 : ix < n) (w : World) :
    (Instr.indexAt t (.slice (some ad) n c) (.int k ix)).run P w = .ok (.pointer (some (ad.add (ix.toNat * j.size)))) w := by
  obtain ⟨_, _, _, hs⟩ := tinfo_spec hj
  have hu := und_slice ht hk
  simp [Instr.indexAt, asIntOf, run_underlying hu, h0, h1, hs.run_size]

theorem run_indexAt_array {P : Program} {t e : TypeId} {n : Nat} {i j : TInfo} (ht : tinfo P t = some i) (hk : i.k = .array n e) (hj : tinfo P e = some j) (ad : Addr) (k : IntKind) (ix : Int) (h0 : 0 ≤ ix) (h1 : ix < n) (w : World) :
    (Instr.indexAt t (.pointer (some ad)) (.int k ix)).run P w = .ok (.pointer (some (ad.add (ix.toNat * j.size)))) w := by
  obtain ⟨_, _, _, hs⟩ := tinfo_spec hj
  have hu := und_array ht hk
  simp [Instr.indexAt, asIntOf, run_underlying hu, h0, h1, hs.run_size, Instr.sureAddr]

/-- The place of an element of what nobody writes. -/
theorem ok_index_tree {t e : TypeId} {i j : TInfo} {x z : Operand} {yz : SV} {k : IntKind} {ix : Int} {rows : List (List T)} {cells : List T} (ho : o.op = .indexAddr t x z) (hd : dstOK C o.dst) (ht : tinfo C.P t = some i) (hk : i.k = .slice e) (hj : tinfo C.P e = some j)
    (hx : ev g x = some (.v (.one (.t (.sl j.size rows))))) (hz : ev g z = some yz) (hvz : litV yz = some (.int k ix)) (h0 : 0 ≤ ix) (hc : rows[ix.toNat]? = some cells) :
    OpOK C o ⟨evr g x ++ evr g z, wrD o.dst (.v (.one (.tptr cells))), []⟩ :=
  opok_pure hd fun G ρ s a w hrel hr => by
    obtain ⟨r1, r2⟩ := Reads.app.1 hr
    have h1 := ev_rep hx r1 hrel
    have e2 := (litV_rep hvz (ev_rep hz r2 hrel)).1
    obtain ⟨_, h1⟩ := h1
    have hlt : ix.toNat < rows.length := (List.getElem?_eq_some_iff.1 hc).1
    generalize hv : a.eval x = v at h1
    cases h1 with
    | sl A n c sz rows u hn hcap hsz hA hcell hrec =>
      have hA' : A.isSome = true := hA.resolve_right (by omega)
      obtain ⟨ad, rfl⟩ := Option.isSome_iff_exists.1 hA'
      refine ⟨.pointer (some (ad.add (ix.toNat * j.size))), ?_, ⟨rfl, _, rfl, fun k' t' hk' => ?_⟩⟩
      · simp [execOp, ho, hv, e2, run_indexAt_slice ht hk hj ad n c k ix h0 (by omega)]
      · have hkl : k' < j.size := by rw [← hsz _ _ hc]; exact (List.getElem?_eq_some_iff.1 hk').1
        obtain ⟨h2, h3⟩ := hcell ad rfl ix.toNat k' (by omega) hkl
        exact ⟨_, h2, h3, hrec _ _ _ _ hc hk'⟩

/-- The place of an element of a row. -/
theorem ok_index_row {t e et : TypeId} {i j : TInfo} {x z : Operand} {yz : SV} {k : IntKind} {ix : Int} {κ : Nat} {rows : List (List T)} (ho : o.op = .indexAddr t x z) (hd : dstOK C o.dst) (ht : tinfo C.P t = some i) (hk : i.k = .slice e) (hj : tinfo C.P e = some j)
    (hx : ev g x = some (.v (.one (.row κ)))) (hz : ev g z = some yz) (hvz : litV yz = some (.int k ix)) (h0 : 0 ≤ ix) (hlt : ix.toNat < rows.length) :
    OpOK C o ⟨evr g x ++ evr g z ++ [(.vec κ, .r j.size et rows)], wrD o.dst (.v (.one (.vptr κ j.size ix.toNat 0))), []⟩ :=
  opok_pure hd fun G ρ s a w hrel hr => by
    obtain ⟨r12, r3⟩ := Reads.app.1 hr
    obtain ⟨r1, r2⟩ := Reads.app.1 r12
    have r3 := (Reads.cons.1 r3).1
    obtain ⟨_, e1, _⟩ := ev_rep hx r1 hrel
    have e2 := (litV_rep hvz (ev_rep hz r2 hrel)).1
    obtain ⟨sz', e', rows', h1, h2⟩ := hrel.vecr r3
    injection h1 with h1 h1' h1''
    subst h1; subst h1'; subst h1''
    obtain ⟨cells, hc⟩ : ∃ cells, rows[ix.toNat]? = some cells := ⟨_, List.getElem?_eq_getElem hlt⟩
    obtain ⟨b, c, cur, vs, f1, f2, f3, f4, f5, f6⟩ := vec_cells h2 (ρ := ρ) hc
    refine ⟨.pointer (some ⟨b, ix.toNat * j.size, none⟩), ?_, ⟨rfl, b, rows.length, c, f1, by simp⟩⟩
    have := run_indexAt_slice ht hk hj (P := C.P) ⟨b, 0, none⟩ rows.length c k ix h0 (by omega) w
    rw [Addr.add_lit, Nat.zero_add] at this
    simp [execOp, ho, e1, f1, e2, this]

/-- The place of an element of an array that is a variable. -/
theorem ok_index_arr {t e : TypeId} {i j : TInfo} {n : Nat} {x z : Operand} {yz : SV} {k : IntKind} {ix : Int} {κ : Nat} (ho : o.op = .indexAddr t x z) (hd : dstOK C o.dst) (ht : tinfo C.P t = some i) (hk : i.k = .array n e) (hj : tinfo C.P e = some j)
    (hx : ev g x = some (.v (.one (.vptr κ j.size 0 0)))) (hz : ev g z = some yz) (hvz : litV yz = some (.int k ix)) (h0 : 0 ≤ ix) (hlt : ix < n) :
    OpOK C o ⟨evr g x ++ evr g z, wrD o.dst (.v (.one (.vptr κ j.size ix.toNat 0))), []⟩ :=
  opok_pure hd fun G ρ s a w hrel hr => by
    obtain ⟨r1, r2⟩ := Reads.app.1 hr
    obtain ⟨_, b, n', c', e1, e1'⟩ := ev_rep hx r1 hrel
    have e2 := (litV_rep hvz (ev_rep hz r2 hrel)).1
    refine ⟨.pointer (some ⟨b, ix.toNat * j.size, none⟩), ?_, ⟨rfl, b, n', c', e1, by simp⟩⟩
    have := run_indexAt_array ht hk hj (P := C.P) ⟨b, 0, none⟩ k ix h0 hlt w
    rw [Addr.add_lit, Nat.zero_add] at this
    simp [execOp, ho, e1', e2, this]

/-- A store into a row. -/
theorem ok_store_vec {t e : TypeId} {i : TInfo} {x z : Operand} {κ sz ix k : Nat} {rows : List (List T)} {cells : List T} {y : V1} {ts : List T} (ho : o.op = .store t x z) (hd : o.dst = none) (ht : tinfo C.P t = some i) (hx : ev g x = some (.v (.one (.vptr κ sz ix k)))) (hz : ev g z = some (.v y))
    (hy : y.cs = trees ts) (hts : ts.length = i.size) (hi : rows[ix]? = some cells) (hfit : k + i.size ≤ cells.length) :
    OpOK C o ⟨evr g x ++ evr g z ++ [(.vec κ, .r sz e rows)], [(.vec κ, some (.r sz e (rows.set ix (cells.take k ++ ts ++ cells.drop (k + i.size)))))], []⟩ :=
  opok_skip hd fun G ρ s a w hrel hr hf => by
    obtain ⟨r12, r3⟩ := Reads.app.1 hr
    obtain ⟨r1, r2⟩ := Reads.app.1 r12
    have r3 := (Reads.cons.1 r3).1
    obtain ⟨_, b, n, c, e1, e2⟩ := ev_rep hx r1 hrel
    have h1 := V1Rep.cells (ev_rep hz r2 hrel)
    rw [hy] at h1
    obtain ⟨sz', e', rows', g1, g2⟩ := hrel.vecr r3
    injection g1 with g1 g1' g1''
    subst g1; subst g1'; subst g1''
    obtain ⟨b', c', cur, vs, f1, f2, f3, f4, f5, f6⟩ := vec_cells g2 (ρ := ρ) hi
    rw [e1] at f1
    simp at f1
    obtain ⟨rfl, rfl, rfl⟩ := f1
    have hcl : (a.eval z).cells.toList.length = i.size := by rw [h1.length]; simp [trees, hts]
    have hcs : (a.eval z).cells.size = i.size := by simpa using hcl
    obtain ⟨hrows, xs, hown, hel⟩ := g2
    have hlen := hrows ix cells hi
    have hst := run_storeVar ht w b (ix * sz + k) (a.eval z) e cur f2 hcs (by rw [hcs]; omega) (All2.one h1)
    have hrun : (execOp a.eval o).run C.P w = .ok .skip (w.setRow b (cur.toList.take (ix * sz + k) ++ (a.eval z).cells.toList ++ cur.toList.drop (ix * sz + k + (a.eval z).cells.size)).toArray) := by
      simp only [execOp, ho, e2, Instr.storeAt, Instr.sureAddr, Sem.run_bind, Sem.run_pure, Result.andThen_ok, hst]
    refine ⟨_, G, ρ, hrun, ?_⟩
    have hix : ix < rows.length := (List.getElem?_eq_some_iff.1 hi).1
    have hnew : ∀ (j : Nat), (cur.toList.take (ix * sz + k) ++ (a.eval z).cells.toList ++ cur.toList.drop (ix * sz + k + (a.eval z).cells.size))[j]? = if ix * sz + k ≤ j ∧ j < ix * sz + k + i.size then (a.eval z).cells.toList[j - (ix * sz + k)]? else cur[j]? := by
      intro j
      have hle : ix * sz + k + i.size ≤ cur.size := by omega
      split
      · rename_i hj
        rw [List.getElem?_append_left (by simp; omega), List.getElem?_append_right (by simp; omega)]
        congr 1
        simp; omega
      · rename_i hj
        by_cases hj1 : j < ix * sz + k
        · rw [List.append_assoc, List.getElem?_append_left (by simp; omega), List.getElem?_take_of_lt hj1]; simp
        · rw [List.getElem?_append_right (by simp; omega), List.getElem?_drop]
          have : ix * sz + k + (a.eval z).cells.size + (j - (List.take (ix * sz + k) cur.toList ++ (a.eval z).cells.toList).length) = j := by simp; omega
          rw [this]; simp
    refine hrel.write (κ := κ) (b := b) ⟨_, _, r3, rfl⟩ (by rw [e1]; rfl) f2 (fun l hl => by
      simp only [applys, List.foldl_cons, List.foldl_nil]
      exact upd_ne _ _ (by rintro rfl; exact hl rfl)) (fun l c hk hl => by
        by_cases hlv : l = .vec κ
        · subst hlv; exact ⟨_, r3⟩
        · simp only [applys, List.foldl_cons, List.foldl_nil] at hl
          rw [upd_ne _ _ hlv] at hl; exact ⟨c, hl⟩)
      (by simp; omega) (fun _ => .inr ⟨_, _, r3, .inr rfl⟩) ?_ ?_
    · intro k' x' hx'
      simp only [applys, List.foldl_cons, List.foldl_nil] at hx'
      rw [upd_ne _ _ (by simp)] at hx'
      obtain ⟨_, b2, _, _, _, _, h8, _⟩ := hrel.cell κ k' x' hx'
      rw [e1] at h8; simp at h8
    · intro x' hx'
      simp only [applys, List.foldl_cons, List.foldl_nil, upd_same, Option.some.injEq] at hx'
      subst hx'
      refine (show VecRep _ _ _ _ _ _ from ⟨?_, ?_⟩)
      · intro i2 cells2 h2
        rw [List.getElem?_set] at h2
        split at h2
        · simp at h2; subst h2; simp; omega
        · exact hrows i2 cells2 h2
      · have hrl : (rows.set ix (cells.take k ++ ts ++ cells.drop (k + i.size))).length = rows.length := by simp
        rw [hrl]
        rcases hown.2 with ⟨h8, _⟩ | ⟨b2, cap, cur2, h8, h9, h10, h11, h12, h13, h14⟩
        · rw [e1] at h8; simp at h8
        · rw [e1] at h8
          simp at h8
          obtain ⟨rfl, rfl⟩ := h8
          rw [f2] at h10
          injection h10 with h10
          injection h10 with h10 _
          subst h10
          have hsize : (cur.toList.take (ix * sz + k) ++ (a.eval z).cells.toList ++ cur.toList.drop (ix * sz + k + (a.eval z).cells.size)).length = cur.size := by
            simp; omega
          refine ⟨(cur.toList.take (ix * sz + k) ++ (a.eval z).cells.toList ++ cur.toList.drop (ix * sz + k + (a.eval z).cells.size)).take (rows.length * sz), ⟨?_, .inr ⟨b, _, _, e1, h9, setRow_heap w b cur _ e (0, 0) f2, h11, h12, ?_, rfl⟩⟩, ?_⟩
          · rw [List.length_take, hsize, h13]
            exact Nat.min_eq_left (Nat.mul_le_mul_right _ h11)
          · simpa [h13] using hsize
          · intro i2 cells2 k2 t2 h2 h3
            have hi2 : i2 < rows.length := by have := (List.getElem?_eq_some_iff.1 h2).1; simpa using this
            have hk2 : k2 < sz := by
              have := (List.getElem?_eq_some_iff.1 h3).1
              rw [List.getElem?_set] at h2
              split at h2
              · simp at h2; subst h2; simp at this; omega
              · rw [hrows i2 cells2 h2] at this; exact this
            have hpos : i2 * sz + k2 < rows.length * sz := by
              calc i2 * sz + k2 < i2 * sz + sz := by omega
                _ = (i2 + 1) * sz := by rw [Nat.add_mul, Nat.one_mul]
                _ ≤ rows.length * sz := Nat.mul_le_mul_right _ hi2
            rw [List.getElem?_take_of_lt hpos, hnew]
            rw [List.getElem?_set] at h2
            by_cases he : ix = i2
            · subst he
              rw [if_pos rfl, if_pos hix] at h2
              simp at h2
              subst h2
              by_cases hin : k ≤ k2 ∧ k2 < k + i.size
              · rw [if_pos (by omega)]
                rw [List.getElem?_append_right (by simp; omega)] at h3
                rw [List.getElem?_append_left (by simp; omega)] at h3
                have h4 : (trees ts)[k2 - k]? = some (.t t2) := by
                  simp [trees]
                  have : k2 - (List.take k cells).length = k2 - k := by simp; omega
                  rw [this] at h3; exact h3
                obtain ⟨u, hu, h5⟩ := h1.get h4
                refine ⟨u, ?_, h5.1, h5.2⟩
                rw [show ix * sz + k2 - (ix * sz + k) = k2 - k by omega]
                exact hu
              · rw [if_neg (by omega)]
                have h4 : cells[k2]? = some t2 := by
                  by_cases hlt : k2 < k
                  · rw [List.getElem?_append_left (by simp; omega), List.getElem?_take_of_lt hlt] at h3; exact h3
                  · rw [List.getElem?_append_right (by simp; omega), List.getElem?_append_right (by simp; omega), List.getElem?_drop] at h3
                    rw [← h3]
                    congr 1
                    simp; omega
                obtain ⟨u, hu, h5⟩ := hel ix cells k2 t2 hi h4
                refine ⟨u, ?_, h5⟩
                rw [← h14, List.getElem?_take_of_lt hpos] at hu
                simpa using hu
            · rw [if_neg he] at h2
              have hne : ¬ (ix * sz + k ≤ i2 * sz + k2 ∧ i2 * sz + k2 < ix * sz + k + i.size) := by
                rintro ⟨q1, q2⟩
                rcases Nat.lt_or_gt_of_ne he with hlt | hlt
                · have := Nat.mul_le_mul_right sz (show ix + 1 ≤ i2 by omega)
                  rw [Nat.add_mul, Nat.one_mul] at this
                  omega
                · have := Nat.mul_le_mul_right sz (show i2 + 1 ≤ ix by omega)
                  rw [Nat.add_mul, Nat.one_mul] at this
                  omega
              rw [if_neg hne]
              obtain ⟨u, hu, h5⟩ := hel i2 cells2 k2 t2 h2 h3
              refine ⟨u, ?_, h5⟩
              rw [← h14, List.getElem?_take_of_lt hpos] at hu
              simpa using hu

end Go.AM
