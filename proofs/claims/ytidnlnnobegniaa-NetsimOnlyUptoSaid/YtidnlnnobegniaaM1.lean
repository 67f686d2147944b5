import Derived.Test.YtidnlnnobegniaaM0
set_option linter.unusedVariables false
set_option linter.unusedSimpArgs false
namespace Go.AM
open Go.RowKit

def setMap (w : World) (r : Nat) (o : Obj) : World := { w with heap := w.heap.setIfInBounds r o }
theorem setMap_other (w : World) {r b : Nat} (o : Obj) (h : b ≠ r) : (setMap w r o).heap[b]? = w.heap[b]? := by simp [setMap, Ne.symm h]
theorem setMap_same {w : World} {r : Nat} {o o' : Obj} (h : w.heap[r]? = some o') : (setMap w r o).heap[r]? = some o := by simp [setMap, lt_of_heap h]
theorem setMap_size (w : World) (r : Nat) (o : Obj) : (setMap w r o).heap.size = w.heap.size := by simp [setMap]

variable {P : Program} {w : World} {r : Nat} {M : MapM} {mt kt et : TypeId} {a b : Int} {z v : Value}

theorem run_getMap {es : Array MapEntry} {clock : Nat} (h : w.heap[r]? = some (.map es clock)) : (getObj r).run P w = .ok (.map es clock) w := by simp [getObj, Sem.run, h]
theorem run_setMap {es : Array MapEntry} {clock : Nat} (o : Obj) (h : w.heap[r]? = some (.map es clock)) : (setObj r o).run P w = .ok () (setMap w r o) := MapKept.run_setObj_map o h

theorem run_lookup (ht : P.underlying mt = some (.map kt et)) (hk : PairT P kt) (hz : (zeroValue et).run P w = .ok z w) (hM : MapIs w r M) :
    (Instr.lookup mt (.map (some r)) (pairV a b) false).run P w = .ok (match M a b with | some x => x.1 | none => z) w := by
  obtain ⟨es, clock, hb, hE⟩ := hM
  simp only [Instr.lookup, Sem.run_bind, run_underlying ht, Result.andThen_ok, run_getMap hb, Sem.run_pure, hk.check]
  rcases hE.find hk w a b with ⟨h1, h2, _⟩ | ⟨j, en, h1, h2, _⟩
  · simp [h1, h2, hz]
  · simp [h1, h2]

theorem MapIs.put {es : Array MapEntry} {clock : Nat} {M' : MapM} {es' : Array MapEntry} {clock' : Nat} (h : w.heap[r]? = some (.map es clock)) (hE : MapE es'.toList clock' M') : MapIs (setMap w r (.map es' clock')) r M' :=
  ⟨es', clock', setMap_same h, hE⟩

theorem modify_list (es : Array MapEntry) (j : Nat) {en : MapEntry} (hj : es.toList[j]? = some en) (f : MapEntry → MapEntry) : (es.modify j f).toList = es.toList.set j (f en) := by
  have hjl : j < es.size := by have := (List.getElem?_eq_some_iff.1 hj).1; simpa using this
  apply List.ext_getElem?
  intro i
  rw [List.getElem?_set]
  simp only [Array.getElem?_toList, Array.getElem?_modify]
  have hje : es[j]? = some en := by simpa using hj
  split
  · rename_i e; subst e
    have : es[j] = en := by simpa [hjl] using hje
    simp [hjl, this]
  · rename_i e
    rfl

theorem run_mapUpdate (ht : P.underlying mt = some (.map kt et)) (hk : PairT P kt) (hM : MapIs w r M) (v : Value) :
    ∃ o n, (Instr.mapUpdate mt (.map (some r)) (pairV a b) v).run P w = .ok () (setMap w r o) ∧ MapIs (setMap w r o) r (updM M a b (some (v, n))) := by
  obtain ⟨es, clock, hb, hE⟩ := hM
  rcases hE.find hk w a b with ⟨h1, h2, h3⟩ | ⟨j, en, h1, h2, h3, h4⟩
  · refine ⟨.map (es.push { key := pairV a b, val := v, born := clock }) (clock + 1), clock, ?_, MapIs.put hb ?_⟩
    · simp only [Instr.mapUpdate, Sem.run_bind, run_underlying ht, Result.andThen_ok, run_getMap hb, hk.check, h2, run_setMap _ hb]
    · have := hE.push h3 v
      simpa using this
  · have hje : es[j]? = some en := by simpa using h3
    refine ⟨.map (es.modify j fun e => { e with key := pairV a b, val := v }) clock, en.born, ?_, MapIs.put hb ?_⟩
    · simp only [Instr.mapUpdate, Sem.run_bind, run_underlying ht, Result.andThen_ok, run_getMap hb, hk.check, h2, hje, Option.map_some, Option.getD_some, h4, run_stays, run_setMap _ hb]
    · have := hE.set h3 h4 v
      rw [modify_list es j h3]
      exact this

theorem run_mapEntry (ht : P.underlying mt = some (.map kt et)) (hk : PairT P kt) (hz : (zeroValue et).run P w = .ok z w) (hM : MapIs w r M) :
    ∃ o n, (Instr.mapEntry mt (.map (some r)) (pairV a b)).run P w = .ok (.tuple #[match M a b with | some x => x.1 | none => z, .int .i64 (n : Nat)]) (setMap w r o) ∧ MapIs (setMap w r o) r (updM M a b (some (match M a b with | some x => x.1 | none => z, n))) := by
  obtain ⟨es, clock, hb, hE⟩ := hM
  rcases hE.find hk w a b with ⟨h1, h2, h3⟩ | ⟨j, en, h1, h2, h3, h4⟩
  · refine ⟨.map (es.push { key := pairV a b, val := z, born := clock }) (clock + 1), clock, ?_, MapIs.put hb ?_⟩
    · simp only [Instr.mapEntry, Sem.run_bind, run_underlying ht, Result.andThen_ok, run_getMap hb, hk.check, h2, hz, run_setMap _ hb, h1, Sem.run_pure, goInt]
    · have := hE.push h3 z
      rw [h1]
      simpa using this
  · have hje : es[j]? = some en := by simpa using h3
    refine ⟨.map (es.modify j fun e => { e with key := pairV a b }) clock, en.born, ?_, MapIs.put hb ?_⟩
    · simp only [Instr.mapEntry, Sem.run_bind, run_underlying ht, Result.andThen_ok, run_getMap hb, hk.check, h2, hje, Option.map_some, Option.getD_some, h4, run_stays, run_setMap _ hb, h1, Sem.run_pure, goInt]
    · have := hE.set h3 h4 en.val
      rw [modify_list es j h3, h1]
      exact this

theorem run_entryStore {n : Nat} {u : Value} (hM : MapIs w r M) (hab : M a b = some (u, n)) (v : Value) :
    ∃ o, (Instr.entryStore mt (.map (some r)) (.int .i64 n) v).run P w = .ok () (setMap w r o) ∧ MapIs (setMap w r o) r (updM M a b (some (v, n))) := by
  obtain ⟨es, clock, hb, hE⟩ := hM
  obtain ⟨en, h1, h2⟩ := hE.all a b _ hab
  obtain ⟨c, d, h3, h4⟩ := hE.key en h1
  rw [h2, pairV_inj] at h3
  obtain ⟨rfl, rfl⟩ := h3
  rw [hab] at h4
  simp only [Option.some.injEq, Prod.mk.injEq] at h4
  obtain ⟨h4, h5⟩ := h4
  obtain ⟨j, hj, hje⟩ := List.mem_iff_getElem.1 h1
  have hjs : j < es.size := by simpa using hj
  have hjq : es.toList[j]? = some en := by rw [List.getElem?_eq_getElem hj, hje]
  have hfi : es.findIdx? (fun e => (e.born : Int) == (n : Int)) = some j := by
    rw [Array.findIdx?_eq_some_iff_getElem]
    refine ⟨hjs, ?_, ?_⟩
    · have : es[j] = en := by simpa using hje
      rw [this, h5]; simp
    · intro i hi
      have his : i < es.size := by omega
      have := List.pairwise_iff_getElem.1 hE.bnodup i j (by simpa using his) hj hi
      simp only [Array.getElem_toList] at this hje
      rw [hje] at this
      simp only [beq_iff_eq, Bool.not_eq_true, beq_eq_false_iff_ne, ne_eq]
      intro e
      exact this (by omega)
  refine ⟨.map (es.modify j fun e => { e with val := v }) clock, ?_, MapIs.put hb ?_⟩
  · simp only [Instr.entryStore, Sem.run_bind, run_getMap hb, Result.andThen_ok, asInt, asIntOf, Sem.run_pure, hfi, run_setMap _ hb]
  · have := hE.set hjq h2 v
    rw [modify_list es j hjq, h5]
    have e : ({ en with val := v } : MapEntry) = { key := pairV a b, val := v, born := en.born } := by rw [← h2]
    rw [e]
    exact this

theorem run_delete (ht : P.underlying mt = some (.map kt et)) (hk : PairT P kt) (hM : MapIs w r M) (t2 ty : TypeId) :
    ∃ o, (Builtin.delete_ #[mt, t2] ty #[.map (some r), pairV a b]).run P w = .ok (.tuple #[]) (setMap w r o) ∧ MapIs (setMap w r o) r (updM M a b none) := by
  obtain ⟨es, clock, hb, hE⟩ := hM
  rcases hE.find hk w a b with ⟨h1, h2, h3⟩ | ⟨j, en, h1, h2, h3, h4⟩
  · refine ⟨.map es clock, ?_, MapIs.put hb ?_⟩
    · simp [Builtin.delete_, run_underlying ht, run_getMap hb, hk.check, h2, run_setMap _ hb]
    · have e : updM M a b none = M := by
        funext c d
        by_cases hcd : c = a ∧ d = b
        · obtain ⟨rfl, rfl⟩ := hcd; rw [updM_same, h1]
        · exact updM_ne _ _ hcd
      rw [e]; exact hE
  · have hj : j < es.size := by have := (List.getElem?_eq_some_iff.1 h3).1; simpa using this
    refine ⟨.map (es.eraseIdxIfInBounds j) clock, ?_, MapIs.put hb ?_⟩
    · simp [Builtin.delete_, run_underlying ht, run_getMap hb, hk.check, h2, run_setMap _ hb]
    · have := hE.erase h3 h4
      have e : (es.eraseIdxIfInBounds j).toList = es.toList.eraseIdx j := by
        simp [Array.eraseIdxIfInBounds, hj, Array.toList_eraseIdx]
      rw [e]; exact this

theorem run_clear {M : MapM} (ht : P.underlying mt = some (.map kt et)) (hM : MapIs w r M) (ty : TypeId) :
    ∃ o, (Builtin.clear_ #[mt] ty #[.map (some r)]).run P w = .ok (.tuple #[]) (setMap w r o) ∧ MapIs (setMap w r o) r (fun _ _ => none) := by
  obtain ⟨es, clock, hb, hE⟩ := hM
  refine ⟨.map #[] clock, ?_, MapIs.put hb MapE.none⟩
  simp [Builtin.clear_, run_underlying ht, run_getMap hb, run_setMap _ hb]

theorem run_makeMap' (t : TypeId) : (Instr.makeMap t none).run P w = .ok (.map (some w.heap.size)) { w with heap := w.heap.push (.map #[] 0) } := by
  simp [Instr.makeMap, newObj, Sem.run]
end Go.AM
